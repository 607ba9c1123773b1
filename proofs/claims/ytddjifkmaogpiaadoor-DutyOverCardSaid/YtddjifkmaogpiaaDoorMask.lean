/-
  Layer 6: walks of check, State.
-/
import Derived.Test.YtddjifkmaogpiaaDoorNetC
namespace Go.Proofs.YtddjifkmaogpiaaDoor
open Go.RowKit

def stateErr (ns : List Nd) (ds : List Dv) (s : List Int) : Int := if checkN ns ds ≠ 0 then checkN ns ds else if s.length ≠ ds.length then 9 else if ∀ p ∈ s, posB p = true then 0 else 10
set_option maxHeartbeats 2000000 in
theorem mcheck_pos (An Ad As : Option Addr) (nn cn nd cd n c Bn Bd Bs : Nat) (ns : List Nd) (ds : List Dv) (s : List Int) (w : World) (hl : Laid w) (hn : Sl w Bn 3 An nn cn (ns.flatMap Nd.cells)) (hd : Sl w Bd 5 Ad nd cd (ds.flatMap Dv.cells)) (hs : Sl w Bs 1 As n c (intsV s)) (hBn : Bn ≤ w.heap.size) (hBd : Bd ≤ w.heap.size) (hBs : Bs ≤ w.heap.size)
    (hsn : ∀ x ∈ ns, x.name.size ≤ 9223372036854775807) (hsd : ∀ x ∈ ds, x.name.size ≤ 9223372036854775807) :
    Calls Tryd.prog 41 #[.agg #[.slice An nn cn, .slice Ad nd cd], .slice As n c, .func (.func 42) #[] #[]] w fun e w' => e = .returned (.int .i64 (stateErr ns ds s)) ∧ Below w.heap.size w w' := by
  have HLS := Lib.hid (hs.len (fun _ => rfl) (by decide)); have HLD := Lib.hid (hd.len (fun _ => rfl) (by decide))
  obtain ⟨hnc, hcm⟩ := hs.le
  obtain ⟨hdc, hdm⟩ := hd.le
  have HE : Hid (stateErr ns ds s = if checkN ns ds ≠ 0 then checkN ns ds else if n ≠ nd then 9 else if ∀ p ∈ s, posB p = true then 0 else 10) := by unfold Hid; rw [stateErr, HLS.out, HLD.out]
  have HL := Lib.hid hl; have HN := Lib.hid hn; have HD := Lib.hid hd; have HS := Lib.hid hs
  have HCK := Lib.hid (ncheck_any An Ad nn cn nd cd Bn Bd ns ds (w.alloc (.cells #[.slice An nn cn, .slice Ad nd cd] 30)) (hl.alloc _) (hn.alloc hBn _) (hd.alloc hBd _) (by simp; omega) (by simp; omega) hsn hsd)
  clear hl hn hd hs hsn hsd
  generalize checkN ns ds = er at *
  have HBW : Hid (Below w.heap.size w (w.alloc (.cells #[.slice An nn cn, .slice Ad nd cd] 30))) := (Below.refl _ _).alloc (Nat.le_refl _) _
  by_cases h0 : er = 0; rotate_left
  · have h0' : (er != 0) = true := by simpa using h0
    have HR : Hid (stateErr ns ds s = er) := by unfold Hid; rw [HE.out, if_pos h0]
    clear h0
    go_enter Tryd.func41, Tryd.ntmps41
    go_wp2_with fail
    refine HCK.out.mono ?_
    rintro e w1 ⟨rfl, hb1⟩
    go_wp2_with fail
    go_ret
    exact ⟨ret_int (by rw [HR.out]), HBW.out.trans (hb1.mono (by simp))⟩
  subst h0
  go_enter Tryd.func41, Tryd.ntmps41
  go_wp2_with fail
  refine HCK.out.mono ?_
  rintro e w1 ⟨rfl, hb1⟩
  have HK1 := Lib.hid ((Blk.new w 30 #[.slice An nn cn, .slice Ad nd cd]).below hb1 (by simp))
  have HB1 := Lib.hid (HBW.out.trans (hb1.mono (by simp)))
  have k1 : w1.cell? ⟨w.heap.size, 1, none⟩ = some (.slice Ad nd cd) := HK1.out.cell 1
  have hz1 := HB1.out.size
  clear hb1 HCK
  by_cases hnd : n = nd; rotate_left
  · have q : decide (n = nd) = false := by simpa using hnd
    have q' : ((n : Int) != (nd : Int)) = true := by simp; omega
    have HR : Hid (stateErr ns ds s = 9) := by unfold Hid; rw [HE.out, if_neg (by simp), if_pos hnd]
    clear hnd
    go_wp2_with fail
    go_ret
    exact ⟨ret_int (by rw [HR.out]), HB1.out⟩
  subst hnd
  have HL1 := Lib.hid (HL.out.below HB1.out (Nat.le_refl _))
  have HS1 := Lib.hid (HS.out.below HB1.out hBs)
  go_wp2_with fail
  clear k1
  go_loop [9, 23] (fun _ iv => ∃ i : Nat, iv = .int .i64 i ∧ i ≤ n ∧ Hid (∀ p ∈ s.take i, posB p = true)) (fun _ iv => n - (intOf iv).toNat)
  case atStart => exact ⟨0, rfl, Nat.zero_le _, by simp [Hid]⟩
  case round =>
    obtain ⟨i, rfl, hi, hok⟩ := hrel
    by_cases hlt : i < n
    · obtain ⟨b, off, x, rfl, hb, hx, hc⟩ := HS1.out.at1 hlt
      have HX := Lib.hid hx; clear hx
      have HPA := Lib.hid (position_any x w1 HL1.out)
      rcases hp : posB x with _ | _
      · have HR : Hid (stateErr ns ds s = 10) := by
          unfold Hid
          rw [HE.out, if_neg (by simp), if_neg (by simp), if_neg (fun h => by have := h x (List.mem_of_getElem? HX.out); rw [hp] at this; cases this)]
        rw [hp] at HPA
        clear hp
        go_wp2_with fail
        refine HPA.out.mono ?_
        rintro e w2 ⟨rfl, rfl⟩
        go_wp2_with fail
        go_ret
        exact ⟨ret_int (by rw [HR.out]), HB1.out⟩
      · rw [hp] at HPA
        have HP := Lib.hid hp; clear hp
        go_wp2_with fail
        refine HPA.out.mono ?_
        rintro e w2 ⟨rfl, rfl⟩
        go_wp2_with fail
        go_round
        case rel =>
          refine ⟨i + 1, by go_num, by omega, fun p hp => ?_⟩
          rw [take_snoc HX.out] at hp
          rcases List.mem_append.1 hp with h | h
          · exact hok.out p h
          · rw [List.mem_singleton.1 h]; exact HP.out
        case measure => simp [intOf]; omega
    · obtain rfl : i = n := by omega
      have hjj : decide (i < i) = false := by simp
      have HR : Hid (stateErr ns ds s = 0) := by
        unfold Hid
        have := hok.out
        rw [List.take_of_length_le (by rw [HLS.out]; exact Nat.le_refl _)] at this
        rw [HE.out, if_neg (by simp), if_neg (by simp), if_pos this]
      go_wp2_with fail
      go_ret
      exact ⟨ret_int (by rw [HR.out]), HB1.out⟩
theorem mstate_any (An Ad As : Option Addr) (nn cn nd cd n c Bn Bd Bs : Nat) (ns : List Nd) (ds : List Dv) (s : List Int) (w : World) (hl : Laid w) (hn : Sl w Bn 3 An nn cn (ns.flatMap Nd.cells)) (hd : Sl w Bd 5 Ad nd cd (ds.flatMap Dv.cells)) (hs : Sl w Bs 1 As n c (intsV s)) (hBn : Bn ≤ w.heap.size) (hBd : Bd ≤ w.heap.size) (hBs : Bs ≤ w.heap.size)
    (hsn : ∀ x ∈ ns, x.name.size ≤ 9223372036854775807) (hsd : ∀ x ∈ ds, x.name.size ≤ 9223372036854775807) :
    Calls Tryd.prog 28 #[.agg #[.slice An nn cn, .slice Ad nd cd], .slice As n c] w fun e w' => e = .returned (.int .i64 (stateErr ns ds s)) ∧ Below w.heap.size w w' := by
  have HC := Lib.hid (mcheck_pos An Ad As nn cn nd cd n c Bn Bd Bs ns ds s (w.alloc (.cells #[.slice An nn cn, .slice Ad nd cd] 30)) (hl.alloc _) (hn.alloc hBn _) (hd.alloc hBd _) (hs.alloc hBs _) (by simp; omega) (by simp; omega) (by simp; omega) hsn hsd)
  clear hl hn hd hs hsn hsd
  go_enter Tryd.func28, Tryd.ntmps28
  go_wp2_with fail
  refine HC.out.mono ?_
  rintro e w1 ⟨rfl, hb1⟩
  go_wp2_with fail
  go_ret
  exact ⟨rfl, ((Below.refl _ _).alloc (Nat.le_refl _) _).trans (hb1.mono (by simp))⟩
end Go.Proofs.YtddjifkmaogpiaaDoor
