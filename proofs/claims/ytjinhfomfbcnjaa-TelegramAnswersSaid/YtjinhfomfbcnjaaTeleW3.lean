/-
  Walks of layer 9: Encode.
-/
import Derived.Test.YtjinhfomfbcnjaaTeleW2
namespace Go.Proofs.Ytjinhfomfbcnjaa
open Go.RowKit
theorem el_u8 : ElemI Try.prog 42 5 1 1 := ElemI.mk' (z := .int .u8 0) Try.underlying42 (by kernel_rfl) rfl (by decide)

def encT (st sq : Int) (l : List Item) : List UInt8 := if checkT st sq l = 0 then frameT st sq l else []
/-- A slice of bytes of the call's own, and an error, are returned; nothing that was there is changed. -/
def RetBytes (w : World) (l : List UInt8) (er : Int) (e : Ending) (w' : World) : Prop :=
  ∃ A c, e = .returned (.tuple #[.slice A l.length c, .int .i64 er]) ∧ w'.ownsRow w.heap.size 5 1 (.slice A l.length c) l.length (bytesV l) ∧ Below w.heap.size w w'
theorem bytesV_append (a b : List UInt8) : bytesV (a ++ b) = bytesV a ++ bytesV b := by simp [bytesV]
theorem bytesV_one (l : List UInt8) : ∀ u ∈ bytesV l, u.oneCell' = true := by
  intro u hu
  obtain ⟨x, _, hx⟩ := List.mem_flatMap.1 hu
  rw [List.mem_singleton.1 hx]; rfl
theorem items_len : ∀ l : List Item, (l.flatMap Item.bytes).length = 5 * l.length
  | [] => rfl
  | x :: l => by rw [List.flatMap_cons, List.length_append, items_len l, List.length_cons]; simp [Item.bytes]; omega
theorem frame_len (st sq : Int) (l : List Item) : (frameT st sq l).length = 6 + 5 * l.length := by
  have := items_len l; simp only [frameT, bodyT, headT, crcTail, List.length_append, List.length_cons, List.length_nil]; omega
theorem flag_of (x : Item) : ((Item.flag x).toNat : Int) = if x.invalid then bits .or .u8 (x.point % 256) 128 else x.point % 256 := by
  unfold Item.flag
  split
  · rw [u8_or _ _ (by omega) (by omega) (by omega) (by omega), UInt8.toNat_or]
    have := u8_toNat x.point
    rw [show (x.point % 256).toNat = (u8 x.point).toNat from by omega]; rfl
  · exact u8_toNat _

theorem enc_step {l : List Item} {k : Nat} {x : Item} (hd : List UInt8) (hx : l[k]? = some x) : bytesV (hd ++ (l.take (k + 1)).flatMap Item.bytes) = bytesV (hd ++ (l.take k).flatMap Item.bytes) ++
    [.int .u8 (x.device % 256), .int .u8 x.flag.toNat, .int .u8 (x.time / 65536 % 256), .int .u8 (x.time / 256 % 256), .int .u8 (x.time % 256)] := by
  rw [take_snoc hx, List.flatMap_append, ← List.append_assoc, bytesV_append]
  simp [bytesV, Item.bytes, u8_toNat]

set_option maxHeartbeats 1000000 in
theorem encode_any (st sq : Int) (A : Option Addr) (n c B : Nat) (l : List Item) (w : World) (hr : Sl w B 4 A n c (l.flatMap Item.cells)) (hB : B ≤ w.heap.size) : Calls Try.prog 15 #[.agg #[.int .i64 st, .int .i64 sq, .slice A n c]] w (RetBytes w (encT st sq l) (checkT st sq l)) := by
  have HL := Lib.hid (hr.len (fun _ => rfl) (by decide))
  obtain ⟨hnc, hcm⟩ := hr.le
  have HR := Lib.hid hr; clear hr
  by_cases h0 : checkT st sq l = 0; rotate_left
  · have HC := Lib.hid (check_any st sq A n c B l (w.alloc (.cells #[.int .i64 st, .int .i64 sq, .slice A n c] 31)) (HR.out.alloc hB _) (by simp; omega))
    have HE : Hid (encT st sq l = []) := by unfold Hid; rw [encT, if_neg h0]
    generalize checkT st sq l = er at *
    have h0' : (er == 0) = false := by simpa using h0
    have h0'' : (er != 0) = true := by simpa using h0
    clear h0
    go_enter Try.func15, Try.ntmps15
    go_wp2_with fail
    refine HC.out.mono ?_
    rintro e w1 ⟨rfl, hb1⟩
    go_wp2_with fail
    go_ret2
    rw [HE.out]
    exact ⟨none, 0, rfl, World.ownsRow_nil _ _ _ _, ((Below.refl _ _).alloc (Nat.le_refl _) _).trans (hb1.mono (by simp))⟩
  have h3 : n ≤ 32 := by
    unfold checkT at h0
    split at h0
    · contradiction
    split at h0
    · contradiction
    split at h0
    · contradiction
    rw [← HL.out]; omega
  have HE : Hid (encT st sq l = frameT st sq l) := by unfold Hid; rw [encT, if_pos h0]
  have H0 := Lib.hid h0; clear h0
  go_enter Try.func15, Try.ntmps15
  go_wp2_with fail
  refine (check_any st sq A n c B l _ (HR.out.alloc hB _) (by simp; omega)).mono ?_
  rintro e w1 ⟨rfl, hb1⟩
  rw [H0.out]
  have hsz1 : w.heap.size < w1.heap.size := by have := hb1.size; simp at this; omega
  have c0 : w1.cell? ⟨w.heap.size, 0, none⟩ = some (.int .i64 st) := (hb1.cell (p := ⟨w.heap.size, 0, none⟩) (by simp)).trans (by simp [go_sem])
  have c1 : w1.cell? ⟨w.heap.size, 1, none⟩ = some (.int .i64 sq) := (hb1.cell (p := ⟨w.heap.size, 1, none⟩) (by simp)).trans (by simp [go_sem])
  have c2 : w1.cell? ⟨w.heap.size, 2, none⟩ = some (.slice A n c) := (hb1.cell (p := ⟨w.heap.size, 2, none⟩) (by simp)).trans (by simp [go_sem])
  have hbw : Below w.heap.size w w1 := ((Below.refl _ _).alloc (Nat.le_refl _) _).trans (hb1.mono (by simp))
  go_wp2_with fail
  go_loopw [5, 7, 8, 29] (fun v _ _ i wr => ∃ (k cap : Nat) (Av : Option Addr), k ≤ n ∧ i = .int .i64 k ∧ v = .slice Av (4 + 5 * k) cap ∧ Hid (wr.ownsRow w.heap.size 5 1 (.slice Av (4 + 5 * k) cap) (4 + 5 * k) (bytesV (headT st sq n ++ (l.take k).flatMap Item.bytes))) ∧ Below w.heap.size w wr) (fun _ _ _ i _ => n - (intOf i).toNat)
  case atStart =>
    refine ⟨0, 4, some ⟨w1.heap.size, 0, none⟩, Nat.zero_le _, rfl, rfl, ?_, hbw.alloc (by omega) _⟩
    have := World.ownsRow_lit (base := w.heap.size) (e := 5) (size := 1) w1 #[.int .u8 104, .int .u8 (st % 256), .int .u8 (sq % 256), .int .u8 n] 4 (by omega) (by decide) rfl
    simp [bytesV, headT, u8_toNat]
    rw [show ((n : Int) % 256) = n from by omega]
    exact this
  case round =>
    obtain ⟨k, cap, Av, hk, rfl, rfl, hown, hbl⟩ := hrel
    have hsz := hbl.size
    by_cases hlt : k < n
    · obtain ⟨b, off, x, rfl, hb, hx, hc⟩ := (HR.out.below hbl hB).at (fun _ => rfl) (by decide) hlt
      have c0 : wr.cell? ⟨b, off + k * 4, none⟩ = some (.int .i64 x.device) := hc 0 _ rfl
      have c1 : wr.cell? ⟨b, off + k * 4 + 1, none⟩ = some (.int .i64 x.point) := hc 1 _ rfl
      have c2 : wr.cell? ⟨b, off + k * 4 + 2, none⟩ = some (.bool x.invalid) := hc 2 _ rfl
      have c3 : wr.cell? ⟨b, off + k * 4 + 3, none⟩ = some (.int .i64 x.time) := hc 3 _ rfl
      have HX := Lib.hid hx; clear hc hx
      have HFl := Lib.hid (flag_of x)
      by_cases hinv : x.invalid = true
      all_goals
        go_wp2_with (at_builtin; go_must (refine wpList_app rfl (.tmp 40) (.tmp 56) rfl el_u8 (by rfl) ((hown.out.alloc _).alloc _) (by rfl) (Sl.newest (n := 5) (by simp) rfl (by decide)) (by simp [Value.oneCell']) (by omega) (by omega) (by simp; omega) ?_; intro A' cap' w2 hown2 hgr2 hat2))
        clear c0 c1 c2 c3
        go_wp2
        go_roundw
        case rel =>
          refine ⟨k + 1, cap', A', by omega, by go_num, by rw [show 4 + 5 * (k + 1) = 4 + 5 * k + 5 from by omega], ?_, ?_⟩
          · unfold Hid
            rw [show 4 + 5 * (k + 1) = 4 + 5 * k + 5 from by omega, enc_step _ HX.out, HFl.out]
            first | rw [if_pos hinv] | rw [if_neg hinv]
            exact hown2
          · exact ((hbl.alloc hsz _).alloc (by simp; omega) _).grown hgr2 (by simp; omega) fun g hg => (own_lt hown.out g hg).1
        case measure => simp [intOf]; omega
    · have hkn : k = n := by omega
      subst hkn
      go_wp2_with fail
      refine (checksum_any _ _ _ _ _ _ (Sl.of_own hown.out)).mono ?_
      rintro e w3 ⟨rfl, rfl⟩
      have hbd : bodyT st sq l = headT st sq k ++ (l.take k).flatMap Item.bytes := by rw [bodyT, HL.out, List.take_of_length_le (by rw [HL.out]; omega)]
      have HBd := Lib.hid hbd; clear hbd
      rw [← HBd.out] at hown ⊢
      generalize hcr : crcAll (bodyT st sq l) = cr
      have HCr := Lib.hid hcr; clear hcr
      have hcr16 : cr.toNat < 65536 := cr.isLt
      go_wp2_with (at_builtin; go_must (refine wpList_app rfl (.tmp 61) (.tmp 67) rfl el_u8 (by rfl) (hown.out.alloc _) (by rfl) (Sl.newest (n := 2) rfl rfl (by decide)) (by simp [Value.oneCell']) (by omega) (by omega) (by simp; omega) ?_; intro A' cap' w2 hown2 hgr2 hat2))
      go_ret2
      rw [HE.out, H0.out]
      have hfl : (frameT st sq l).length = 4 + 5 * k + 2 := by rw [frame_len, HL.out]; omega
      refine ⟨A', cap', by rw [hfl]; rfl, ?_, (hbl.alloc hsz _).grown hgr2 (by simp; omega) fun g hg => (own_lt hown.out g hg).1⟩
      rw [hfl, frameT, bytesV_append, HCr.out]
      simp only [crcTail, bytesV, List.flatMap_cons, List.flatMap_nil, List.cons_append, List.nil_append, u8_toNat] at hown2 ⊢
      rw [show ((cr.toNat : Int) / 256 % 256) = (cr.toNat : Int) / 256 from by omega]
      exact hown2
end Go.Proofs.Ytjinhfomfbcnjaa
