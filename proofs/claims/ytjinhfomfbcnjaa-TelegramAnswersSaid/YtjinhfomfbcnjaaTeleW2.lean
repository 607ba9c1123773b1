/-
  Walks of layer 9: Check.
-/
import Derived.Test.YtjinhfomfbcnjaaTeleW1
namespace Go.Proofs.Ytjinhfomfbcnjaa
open Go.RowKit

set_option maxHeartbeats 1000000 in
theorem check_any (st sq : Int) (A : Option Addr) (n c B : Nat) (l : List Item) (w : World) (hr : Sl w B 4 A n c (l.flatMap Item.cells)) (hB : B ≤ w.heap.size) : Calls Try.prog 22 #[.agg #[.int .i64 st, .int .i64 sq, .slice A n c]] w fun e w' => e = .returned (.int .i64 (checkT st sq l)) ∧ Below w.heap.size w w' := by
  have HL := Lib.hid (hr.len (fun _ => rfl) (by decide))
  obtain ⟨hnc, hcm⟩ := hr.le
  have HR := Lib.hid hr; clear hr
  by_cases h1 : octB st = true; rotate_left
  · have h1' : octB st = false := by simpa using h1
    have HE : Hid (checkT st sq l = 5) := by unfold Hid; simp [checkT, h1']
    clear h1
    go_enter Try.func22, Try.ntmps22
    go_wp2_with (go_at_call 32; refine (octet_any _ _).mono ?_; rintro e w' ⟨rfl, rfl⟩)
    go_ret
    exact ⟨ret_int (by rw [HE.out]), (Below.refl _ _).alloc (Nat.le_refl _) _⟩
  by_cases h2 : octB sq = true; rotate_left
  · have h2' : octB sq = false := by simpa using h2
    have HE : Hid (checkT st sq l = 5) := by unfold Hid; simp [checkT, h1, h2']
    clear h2
    go_enter Try.func22, Try.ntmps22
    go_wp2_with (go_at_call 32; refine (octet_any _ _).mono ?_; rintro e w' ⟨rfl, rfl⟩)
    go_ret
    exact ⟨ret_int (by rw [HE.out]), (Below.refl _ _).alloc (Nat.le_refl _) _⟩
  by_cases h3 : n ≤ 32; rotate_left
  · have HE : Hid (checkT st sq l = 1) := by unfold Hid; rw [checkT, if_neg (by simp [h1]), if_neg (by simp [h2]), if_pos (by rw [HL.out]; omega)]
    have h3' : decide (32 < (n : Int)) = true := by simp; omega
    go_enter Try.func22, Try.ntmps22
    go_wp2_with (go_at_call 32; refine (octet_any _ _).mono ?_; rintro e w' ⟨rfl, rfl⟩)
    go_ret
    exact ⟨ret_int (by rw [HE.out]), (Below.refl _ _).alloc (Nat.le_refl _) _⟩
  have HE : Hid (checkT st sq l = firstErr l) := by unfold Hid; rw [checkT, if_neg (by simp [h1]), if_neg (by simp [h2]), if_neg (by rw [HL.out]; omega)]
  have h3' : decide (32 < (n : Int)) = false := by simp; omega
  go_enter Try.func22, Try.ntmps22
  go_wp2_with (go_at_call 32; refine (octet_any _ _).mono ?_; rintro e w' ⟨rfl, rfl⟩)
  go_loopw [4, 24] (fun _ i wr => ∃ k : Nat, k ≤ n ∧ i = .int .i64 k ∧ Below w.heap.size w wr ∧ Hid (∀ x ∈ l.take k, itemErr x = 0)) (fun _ i _ => n - (intOf i).toNat)
  case atStart => exact ⟨0, Nat.zero_le _, rfl, (Below.refl _ _).alloc (Nat.le_refl _) _, by simp [Hid]⟩
  case round =>
    obtain ⟨k, hk, rfl, hbl, hok⟩ := hrel
    have hsz := hbl.size
    by_cases hlt : k < n
    · obtain ⟨b, off, x, rfl, hb, hx, hc⟩ := (HR.out.below hbl hB).at (fun _ => rfl) (by decide) hlt
      have c0 : wr.cell? ⟨b, off + k * 4, none⟩ = some (.int .i64 x.device) := hc 0 _ rfl
      have c1 : wr.cell? ⟨b, off + k * 4 + 1, none⟩ = some (.int .i64 x.point) := hc 1 _ rfl
      have c2 : wr.cell? ⟨b, off + k * 4 + 2, none⟩ = some (.bool x.invalid) := hc 2 _ rfl
      have c3 : wr.cell? ⟨b, off + k * 4 + 3, none⟩ = some (.int .i64 x.time) := hc 3 _ rfl
      have HX := Lib.hid hx; clear hc hx
      have hfin : ∀ e : Int, itemErr x = e → e ≠ 0 → checkT st sq l = e := fun e he hne => by rw [HE.out, firstErr_at hok.out HX.out (by rw [he]; exact hne), he]
      have HF := Lib.hid hfin; clear hfin
      by_cases d1 : x.device < 0
      · have HI : Hid (itemErr x = 8) := by unfold Hid; rw [itemErr, if_pos (.inl d1)]
        go_wp2
        go_ret
        exact ⟨ret_int (HF.out 8 HI.out (by decide)).symm, hbl.alloc hsz _⟩
      by_cases d2 : 64 ≤ x.device
      · have HI : Hid (itemErr x = 8) := by unfold Hid; rw [itemErr, if_pos (.inr d2)]
        go_wp2
        go_ret
        exact ⟨ret_int (HF.out 8 HI.out (by decide)).symm, hbl.alloc hsz _⟩
      by_cases d3 : x.point < 0
      · have HI : Hid (itemErr x = 5) := by unfold Hid; rw [itemErr, if_neg (by omega), if_pos (.inl d3)]
        go_wp2
        go_ret
        exact ⟨ret_int (HF.out 5 HI.out (by decide)).symm, hbl.alloc hsz _⟩
      by_cases d4 : 3 < x.point
      · have HI : Hid (itemErr x = 5) := by unfold Hid; rw [itemErr, if_neg (by omega), if_pos (.inr d4)]
        go_wp2
        go_ret
        exact ⟨ret_int (HF.out 5 HI.out (by decide)).symm, hbl.alloc hsz _⟩
      by_cases d5 : x.time < 0
      · have HI : Hid (itemErr x = 11) := by unfold Hid; rw [itemErr, if_neg (by omega), if_neg (by omega), if_pos (.inl d5)]
        go_wp2
        go_ret
        exact ⟨ret_int (HF.out 11 HI.out (by decide)).symm, hbl.alloc hsz _⟩
      by_cases d6 : 16777216 ≤ x.time
      · have HI : Hid (itemErr x = 11) := by unfold Hid; rw [itemErr, if_neg (by omega), if_neg (by omega), if_pos (.inr d6)]
        go_wp2
        go_ret
        exact ⟨ret_int (HF.out 11 HI.out (by decide)).symm, hbl.alloc hsz _⟩
      have HI : Hid (itemErr x = 0) := by unfold Hid; rw [itemErr, if_neg (by omega), if_neg (by omega), if_neg (by omega)]
      go_wp2
      go_roundw
      case rel =>
        refine ⟨k + 1, by omega, by go_num, hbl.alloc hsz _, ?_⟩
        unfold Hid; rw [take_snoc HX.out]
        intro y hy
        rcases List.mem_append.1 hy with hy | hy
        · exact hok.out y hy
        · rw [List.mem_singleton.1 hy]; exact HI.out
      case measure => simp [intOf]; omega
    · go_wp2
      go_ret
      have : k = n := by omega
      subst this
      refine ⟨ret_int ?_, hbl⟩
      rw [HE.out, firstErr_all]
      have := hok.out
      rwa [List.take_of_length_le (by rw [HL.out]; omega)] at this
end Go.Proofs.Ytjinhfomfbcnjaa
