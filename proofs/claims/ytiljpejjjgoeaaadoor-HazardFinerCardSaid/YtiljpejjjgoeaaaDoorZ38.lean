import Derived.Test.YtiljpejjjgoeaaaDoorZ37
import Derived.Test.YtiljpejjjgoeaaaDoorZ07
import Derived.Test.YtiljpejjjgoeaaaDoorZ04
/-
  Layer 6: walk of Count; the reference's masked, Unknown, Count.
-/
namespace Go.Proofs.YtiljpejjjgoeaaaDoor
open Go.RowKit
/-- The error of masks whose states are counted; their number. -/
def cErr (m : List Int) : Int := if m.all maskB = true then (if 8 < cntN m m.length then 1 else 0) else 10
def cntV (m : List Int) : Int := if cErr m = 0 then (2 ^ cntN m m.length : Nat) else 0
set_option maxRecDepth 100000 in
set_option maxHeartbeats 2000000 in
theorem count_any (A : Option Addr) (n c B : Nat) (m : List Int) (w : World) (hl : Laid w) (hs : Sl w B 1 A n c (intsV m)) (hB : B ≤ w.heap.size) (hn : n ≤ 1000000) : Calls Tryd.prog 48 #[.slice A n c] w fun e w' => e = .returned (.tuple #[.int .i64 (cntV m), .int .i64 (cErr m)]) ∧ Below w.heap.size w w' := by
  have HV := Lib.hid (valid_any A n c B m w hl hs)
  have HU : Hid (∀ w1, Below w.heap.size w w1 → Calls Tryd.prog 49 #[.slice A n c] w1 (UnkPost w1 m)) := fun w1 hb => unknown_any A n c B m w1 (hs.below hb hB) (Nat.le_trans hB hb.size) hn
  clear hl; clear hs
  rcases hv : m.all maskB with _ | _
  · have HE : Hid (cErr m = 10) := by unfold Hid cErr; rw [hv]; rfl
    have HN : Hid (cntV m = 0) := by unfold Hid cntV; rw [HE.out]; rfl
    rw [HE.out, HN.out]
    rw [hv] at HV
    clear hv HE HN
    go_enter Tryd.func48, Tryd.ntmps48
    go_wp2_with fail
    refine HV.out.mono ?_
    rintro e w1 ⟨rfl, hb1⟩
    go_wp2_with fail
    go_ret2
    exact ⟨rfl, hb1⟩
  rw [hv] at HV
  by_cases h8 : 8 < cntN m m.length
  · have HE : Hid (cErr m = 1) := by unfold Hid cErr; rw [hv, if_pos rfl, if_pos h8]
    have HN : Hid (cntV m = 0) := by unfold Hid cntV; rw [HE.out]; rfl
    have H8 := Lib.hid h8
    rw [HE.out, HN.out]
    clear hv HE HN h8
    go_enter Tryd.func48, Tryd.ntmps48
    go_wp2_with fail
    refine HV.out.mono ?_
    rintro e w1 ⟨rfl, hb1⟩
    go_wp2_with fail
    refine (HU.out w1 hb1).mono ?_
    rintro e w2 ⟨Au, k, cu, rfl, hk, hO, hb2⟩
    have hk8 : decide ((8 : Int) < (k : Int)) = true := by have := hk.out; have := H8.out; simp; omega
    go_wp2_with fail
    go_ret2
    exact ⟨rfl, hb1.trans (hb2.out.mono hb1.size)⟩
  · have HE : Hid (cErr m = 0) := by unfold Hid cErr; rw [hv, if_pos rfl, if_neg h8]
    have HN : Hid (cntV m = (2 ^ cntN m m.length : Nat)) := by unfold Hid cntV; rw [HE.out]; rfl
    have H8 := Lib.hid h8
    rw [HE.out]
    clear hv HE h8
    go_enter Tryd.func48, Tryd.ntmps48
    go_wp2_with fail
    refine HV.out.mono ?_
    rintro e w1 ⟨rfl, hb1⟩
    go_wp2_with fail
    refine (HU.out w1 hb1).mono ?_
    rintro e w2 ⟨Au, k, cu, rfl, hk, hO, hb2⟩
    have hk9 : k = 0 ∨ k = 1 ∨ k = 2 ∨ k = 3 ∨ k = 4 ∨ k = 5 ∨ k = 6 ∨ k = 7 ∨ k = 8 := by have := hk.out; have := H8.out; omega
    clear H8 hO
    rcases hk9 with rfl | rfl | rfl | rfl | rfl | rfl | rfl | rfl | rfl
    all_goals
      go_wp2_with fail
      go_ret2
      exact ⟨by rw [HN.out, ← hk.out]; rfl, hb1.trans (hb2.out.mono hb1.size)⟩
end Go.Proofs.YtiljpejjjgoeaaaDoor
/-
  Memory: a slice of slices of integers, read and of the call's own.
-/
namespace Go.Proofs.YtiljpejjjgoeaaaDoor
open Go.RowKit
/-- The slice reads as these rows of integers, all in blocks below B. -/
def RowsAt (w : World) (B : Nat) (A : Option Addr) (n c : Nat) (ls : List (List Int)) : Prop :=
  ∃ vs : List Value, Sl w B 1 A n c vs ∧ ls.length = n ∧ ∀ (i : Nat) (l : List Int), ls[i]? = some l → ∃ (A' : Option Addr) (c' : Nat), vs[i]? = some (Value.slice A' l.length c') ∧ Sl w B 1 A' l.length c' (intsV l)
section
variable {w w' : World} {B B' n c i : Nat} {A : Option Addr} {ls : List (List Int)}
theorem RowsAt.len (h : RowsAt w B A n c ls) : ls.length = n := by obtain ⟨vs, _, hl, _⟩ := h; exact hl
theorem RowsAt.le (h : RowsAt w B A n c ls) : n ≤ c ∧ c ≤ 9223372036854775807 := by obtain ⟨vs, h1, _⟩ := h; exact h1.le
theorem RowsAt.below (h : RowsAt w B A n c ls) (hb : Below B' w w') (hB : B ≤ B') : RowsAt w' B A n c ls := by
  obtain ⟨vs, h1, h2, h3⟩ := h
  refine ⟨vs, h1.below hb hB, h2, fun i l hl => ?_⟩
  obtain ⟨A', c', h4, h5⟩ := h3 i l hl
  exact ⟨A', c', h4, h5.below hb hB⟩
theorem RowsAt.more (h : RowsAt w B A n c ls) (hB : B ≤ B') : RowsAt w B' A n c ls := by
  obtain ⟨vs, h1, h2, h3⟩ := h
  refine ⟨vs, h1.more hB, h2, fun i l hl => ?_⟩
  obtain ⟨A', c', h4, h5⟩ := h3 i l hl
  exact ⟨A', c', h4, h5.more hB⟩
theorem RowsAt.at (h : RowsAt w B A n c ls) (hi : i < n) : ∃ b off l A' c', A = some ⟨b, off, none⟩ ∧ b < B ∧ ls[i]? = some l ∧ w.cell? ⟨b, off + i, none⟩ = some (Value.slice A' l.length c') ∧ Sl w B 1 A' l.length c' (intsV l) := by
  obtain ⟨vs, h1, h2, h3⟩ := h
  obtain ⟨b, off, e, hb, hc⟩ := h1.2.2.2.2 (by omega)
  have hl : ls[i]? = some (ls[i]'(by omega)) := List.getElem?_eq_getElem (by omega)
  obtain ⟨A', c', h4, h5⟩ := h3 i _ hl
  exact ⟨b, off, _, A', c', e, hb, hl, hc i _ h4, h5⟩
end
/-- The slice is the call's own row of such rows. -/
def RowsO (w : World) (base : Nat) (A : Option Addr) (n c : Nat) (ls : List (List Int)) (vs : List Value) : Prop :=
  w.ownsRow base 22 1 (.slice A n c) n vs ∧ ls.length = n ∧ ∀ (i : Nat) (l : List Int), ls[i]? = some l → ∃ (A' : Option Addr) (c' : Nat), vs[i]? = some (Value.slice A' l.length c') ∧ Sl w w.heap.size 1 A' l.length c' (intsV l) ∧ ∀ b off, A' = some ⟨b, off, none⟩ → b < w.heap.size ∧ some b ≠ (Value.slice A n c).ownBlock
section
variable {w w' : World} {base n c i : Nat} {A : Option Addr} {ls : List (List Int)} {vs : List Value}
theorem RowsO.nil (w : World) (base : Nat) : RowsO w base none 0 0 [] [] := ⟨World.ownsRow_nil _ _ _ _, rfl, fun i l h => by simp at h⟩
theorem RowsO.read (h : RowsO w base A n c ls vs) : RowsAt w w.heap.size A n c ls := by
  obtain ⟨h1, h2, h3⟩ := h
  refine ⟨vs, Sl.of_own h1, h2, fun i l hl => ?_⟩
  obtain ⟨A', c', h4, h5, _⟩ := h3 i l hl
  exact ⟨A', c', h4, h5⟩
/-- Memory was made; rows of others than this one were written. -/
theorem RowsO.kept (h : RowsO w base A n c ls vs) {B : Nat} (hb : Below B w w') (hB : w.heap.size ≤ B) : RowsO w' base A n c ls vs := by
  obtain ⟨h1, h2, h3⟩ := h
  have hb' : Below w.heap.size w w' := hb.mono hB
  refine ⟨own_later h1 hb', h2, fun i l hl => ?_⟩
  obtain ⟨A', c', h4, h5, h6⟩ := h3 i l hl
  exact ⟨A', c', h4, (h5.below hb' (Nat.le_refl _)).more hb'.size, fun b off e => ⟨Nat.lt_of_lt_of_le (h6 b off e).1 hb'.size, (h6 b off e).2⟩⟩
theorem RowsO.lt (h : RowsO w base A n c ls vs) : ∀ g, (Value.slice A n c).ownBlock = some g → base ≤ g ∧ g < w.heap.size := h.1.lt
end
end Go.Proofs.YtiljpejjjgoeaaaDoor
