import Derived.Test.YtdpmfdcackoegaaGreatDoorZ37
import Derived.Test.YtdpmfdcackoegaaGreatDoorZ07
import Derived.Test.YtdpmfdcackoegaaGreatDoorZ04
/-
  Layer 6: walk of Count; the reference's masked, Unknown, Count.
-/
namespace Go.Proofs.YtdpmfdcackoegaaGreatDoor
open Go.RowKit
/-- The error of masks whose states are counted; their number. -/
def cErr (m : List Int) : Int := if m.all maskB = true then (if 8 < cntN m m.length then 1 else 0) else 10
def cntV (m : List Int) : Int := if cErr m = 0 then (2 ^ cntN m m.length : Nat) else 0
set_option maxRecDepth 100000 in
set_option maxHeartbeats 2000000 in
theorem count_any (A : Option Addr) (n c B : Nat) (m : List Int) (w : World) (hl : Laid w) (hs : Sl w B 1 A n c (intsV m)) (hB : B ≤ w.heap.size) (hn : n ≤ 1000000) : Calls Tryz.prog 111 #[.slice A n c] w fun e w' => e = .returned (.tuple #[.int .i64 (cntV m), .int .i64 (cErr m)]) ∧ Below w.heap.size w w' := by
  have HV := Lib.hid (valid_any A n c B m w hl hs)
  have HU : Hid (∀ w1, Below w.heap.size w w1 → Calls Tryz.prog 104 #[.slice A n c] w1 (UnkPost w1 m)) := fun w1 hb => unknown_any A n c B m w1 (hs.below hb hB) (Nat.le_trans hB hb.size) hn
  clear hl; clear hs
  rcases hv : m.all maskB with _ | _
  · have HE : Hid (cErr m = 10) := by unfold Hid cErr; rw [hv]; rfl
    have HN : Hid (cntV m = 0) := by unfold Hid cntV; rw [HE.out]; rfl
    rw [HE.out, HN.out]
    rw [hv] at HV
    clear hv HE HN
    go_enter Tryz.func111, Tryz.ntmps111
    go_wp2_with fail
    refine HV.out.mono ?_
    rintro e w1 ⟨rfl, hb1⟩
    go_wp2_with fail
    go_ret2
    exact ⟨rfl, hb1⟩
  rw [hv] at HV
  by_cases h8 : 8 < cntN m m.length
  · have HE : Hid (cErr m = 1) := by unfold Hid cErr; rw [hv, if_pos rfl, if_pos h8]
    have HN : Hid (cntV m = 0) := by unfold Hid cntV; rw [HE.out]; rfl
    have H8 := Lib.hid h8
    rw [HE.out, HN.out]
    clear hv HE HN h8
    go_enter Tryz.func111, Tryz.ntmps111
    go_wp2_with fail
    refine HV.out.mono ?_
    rintro e w1 ⟨rfl, hb1⟩
    go_wp2_with fail
    refine (HU.out w1 hb1).mono ?_
    rintro e w2 ⟨Au, k, cu, rfl, hk, hO, hb2⟩
    have hk8 : decide ((8 : Int) < (k : Int)) = true := by have := hk.out; have := H8.out; simp; omega
    go_wp2_with fail
    go_ret2
    exact ⟨rfl, hb1.trans (hb2.out.mono hb1.size)⟩
  · have HE : Hid (cErr m = 0) := by unfold Hid cErr; rw [hv, if_pos rfl, if_neg h8]
    have HN : Hid (cntV m = (2 ^ cntN m m.length : Nat)) := by unfold Hid cntV; rw [HE.out]; rfl
    have H8 := Lib.hid h8
    rw [HE.out]
    clear hv HE h8
    go_enter Tryz.func111, Tryz.ntmps111
    go_wp2_with fail
    refine HV.out.mono ?_
    rintro e w1 ⟨rfl, hb1⟩
    go_wp2_with fail
    refine (HU.out w1 hb1).mono ?_
    rintro e w2 ⟨Au, k, cu, rfl, hk, hO, hb2⟩
    have hk9 : k = 0 ∨ k = 1 ∨ k = 2 ∨ k = 3 ∨ k = 4 ∨ k = 5 ∨ k = 6 ∨ k = 7 ∨ k = 8 := by have := hk.out; have := H8.out; omega
    clear H8 hO
    rcases hk9 with rfl | rfl | rfl | rfl | rfl | rfl | rfl | rfl | rfl
    all_goals
      go_wp2_with fail
      go_ret2
      exact ⟨by rw [HN.out, ← hk.out]; rfl, hb1.trans (hb2.out.mono hb1.size)⟩
set_option maxRecDepth 100000 in
set_option maxHeartbeats 2000000 in
theorem runknown_any (A : Option Addr) (n c B : Nat) (m : List Int) (w : World) (hs : Sl w B 1 A n c (intsV m)) (hB : B ≤ w.heap.size) (hn : n ≤ 1000000) : Calls Tryz.prog 73 #[.slice A n c] w (UnkPost w m) := by
  have HLM := Lib.hid (hs.len (fun _ => rfl) (by decide)); have HS := Lib.hid hs
  clear hs
  go_enter Tryz.func73, Tryz.ntmps73
  go_wp2_with fail
  go_loopg [3, 4] n (UnR w m n)
  case atStart => exact ⟨0, 0, 0, none, rfl, rfl, Nat.zero_le _, rfl, Nat.le_refl _, rfl, World.ownsRow_nil _ _ _ _, Below.refl _ _⟩
  case round =>
    obtain ⟨i, k, co, Ao, rfl, rfl, hi, rfl, hki, hk, hO, hbl⟩ := hrel
    by_cases hlt : i < n
    · obtain ⟨b, off, x, rfl, hb, hx, hc⟩ := (HS.out.below hbl.out hB).at1 hlt
      have HX := Lib.hid hx
      clear hx
      by_cases h3 : x = 3
      · subst h3
        have HU := Lib.hid (unk_put HX.out); have HK := Lib.hid (cnt_put HX.out hk.out)
        go_wp2_with (at_builtin; go_must (refine wpList_app rfl (.tmp 16) (.tmp 18) rfl el_int (by rfl) (hO.out.alloc _) (by rfl) (Sl.newest (n := 1) (by simp) (by rfl) (by decide)) (by simp [Value.oneCell']) (by omega) (by omega) (by have := hbl.out.size; simp; omega) ?_; intro A' cap' w3 hown3 hgr3 hat3; have HO3 := Lib.hid hown3; have HG3 := Lib.hid hgr3; clear hown3 hgr3 hat3))
        go_roundg (n - (i + 1))
        case rel =>
          refine ⟨i + 1, k + 1, cap', A', by go_num, rfl, by omega, rfl, by omega, HK, ?_, ?_⟩
          · have h := HO3.out
            unfold Hid; rw [HU.out]; unfold IntsO; rw [intsV_append]
            exact h
          · have h1 := hbl.out.alloc hbl.out.size (.cells #[.int .i64 (i : Int)] 3)
            refine h1.trans ⟨HG3.out.os, HG3.out.tape, HG3.out.output, HG3.out.size, fun q hq => HG3.out.block q (by have := h1.size; omega) (fun e => by have := (hO.out.lt q e.symm).1; omega)⟩
        case measure => omega
      · have q : (x == 3) = false := by simpa using h3
        have h3' : m[i]? ≠ some 3 := fun h => h3 (by rw [HX.out] at h; injection h)
        have HU := Lib.hid (unk_pass h3'); have HK := Lib.hid (cnt_pass h3' hk.out)
        clear h3 h3'
        go_wp2_with fail
        go_roundg (n - (i + 1))
        case rel => exact ⟨i + 1, k, co, Ao, by go_num, rfl, by omega, rfl, by omega, HK, (by unfold Hid; rw [HU.out]; exact hO.out), hbl⟩
        case measure => omega
    · obtain rfl : i = n := by omega
      have hii : decide (i < i) = false := by simp
      go_wp2_with fail
      go_ret
      refine ⟨Ao, k, co, rfl, ?_, ?_, hbl⟩
      · unfold Hid; rw [HLM.out]; exact hk.out
      · unfold Hid; rw [HLM.out]; exact hO.out
set_option maxRecDepth 100000 in
set_option maxHeartbeats 2000000 in
theorem rcount_any (A : Option Addr) (n c B : Nat) (m : List Int) (w : World) (hs : Sl w B 1 A n c (intsV m)) (hB : B ≤ w.heap.size) (hn : n ≤ 1000000) : Calls Tryz.prog 44 #[.slice A n c] w fun e w' => e = .returned (.tuple #[.int .i64 (cntV m), .int .i64 (cErr m)]) ∧ Below w.heap.size w w' := by
  have HV := Lib.hid (masked_any A n c B m w hs hB)
  have HU : Hid (∀ w1, Below w.heap.size w w1 → Calls Tryz.prog 73 #[.slice A n c] w1 (UnkPost w1 m)) := fun w1 hb => runknown_any A n c B m w1 (hs.below hb hB) (Nat.le_trans hB hb.size) hn
  clear hs
  rcases hv : m.all maskB with _ | _
  · have HE : Hid (cErr m = 10) := by unfold Hid cErr; rw [hv]; rfl
    have HN : Hid (cntV m = 0) := by unfold Hid cntV; rw [HE.out]; rfl
    rw [HE.out, HN.out]
    rw [hv] at HV
    clear hv HE HN
    go_enter Tryz.func44, Tryz.ntmps44
    go_wp2_with fail
    refine HV.out.mono ?_
    rintro e w1 ⟨rfl, hb1⟩
    go_wp2_with fail
    go_ret2
    exact ⟨rfl, hb1⟩
  rw [hv] at HV
  by_cases h8 : 8 < cntN m m.length
  · have HE : Hid (cErr m = 1) := by unfold Hid cErr; rw [hv, if_pos rfl, if_pos h8]
    have HN : Hid (cntV m = 0) := by unfold Hid cntV; rw [HE.out]; rfl
    have H8 := Lib.hid h8
    rw [HE.out, HN.out]
    clear hv HE HN h8
    go_enter Tryz.func44, Tryz.ntmps44
    go_wp2_with fail
    refine HV.out.mono ?_
    rintro e w1 ⟨rfl, hb1⟩
    go_wp2_with fail
    refine (HU.out w1 hb1).mono ?_
    rintro e w2 ⟨Au, k, cu, rfl, hk, hO, hb2⟩
    have hk8 : decide ((8 : Int) < (k : Int)) = true := by have := hk.out; have := H8.out; simp; omega
    go_wp2_with fail
    go_ret2
    exact ⟨rfl, hb1.trans (hb2.out.mono hb1.size)⟩
  · have HE : Hid (cErr m = 0) := by unfold Hid cErr; rw [hv, if_pos rfl, if_neg h8]
    have HN : Hid (cntV m = (2 ^ cntN m m.length : Nat)) := by unfold Hid cntV; rw [HE.out]; rfl
    have H8 := Lib.hid h8
    rw [HE.out]
    clear hv HE h8
    go_enter Tryz.func44, Tryz.ntmps44
    go_wp2_with fail
    refine HV.out.mono ?_
    rintro e w1 ⟨rfl, hb1⟩
    go_wp2_with fail
    refine (HU.out w1 hb1).mono ?_
    rintro e w2 ⟨Au, k, cu, rfl, hk, hO, hb2⟩
    have hk9 : k = 0 ∨ k = 1 ∨ k = 2 ∨ k = 3 ∨ k = 4 ∨ k = 5 ∨ k = 6 ∨ k = 7 ∨ k = 8 := by have := hk.out; have := H8.out; omega
    clear H8 hO
    rcases hk9 with rfl | rfl | rfl | rfl | rfl | rfl | rfl | rfl | rfl
    all_goals
      go_wp2_with fail
      go_ret2
      exact ⟨by rw [HN.out, ← hk.out]; rfl, hb1.trans (hb2.out.mono hb1.size)⟩
end Go.Proofs.YtdpmfdcackoegaaGreatDoor
/-
  Memory: a slice of slices of integers, read and of the call's own.
-/
namespace Go.Proofs.YtdpmfdcackoegaaGreatDoor
open Go.RowKit
theorem el_rows : ElemI Tryz.prog 37 22 1 24 := ElemI.mk' (z := .slice none 0 0) Tryz.underlying37 (by kernel_rfl) rfl (by decide)
/-- The slice reads as these rows of integers, all in blocks below B. -/
def RowsAt (w : World) (B : Nat) (A : Option Addr) (n c : Nat) (ls : List (List Int)) : Prop :=
  ∃ vs : List Value, Sl w B 1 A n c vs ∧ ls.length = n ∧ ∀ (i : Nat) (l : List Int), ls[i]? = some l → ∃ (A' : Option Addr) (c' : Nat), vs[i]? = some (Value.slice A' l.length c') ∧ Sl w B 1 A' l.length c' (intsV l)
section
variable {w w' : World} {B B' n c i : Nat} {A : Option Addr} {ls : List (List Int)}
theorem RowsAt.len (h : RowsAt w B A n c ls) : ls.length = n := by obtain ⟨vs, _, hl, _⟩ := h; exact hl
theorem RowsAt.le (h : RowsAt w B A n c ls) : n ≤ c ∧ c ≤ 9223372036854775807 := by obtain ⟨vs, h1, _⟩ := h; exact h1.le
theorem RowsAt.below (h : RowsAt w B A n c ls) (hb : Below B' w w') (hB : B ≤ B') : RowsAt w' B A n c ls := by
  obtain ⟨vs, h1, h2, h3⟩ := h
  refine ⟨vs, h1.below hb hB, h2, fun i l hl => ?_⟩
  obtain ⟨A', c', h4, h5⟩ := h3 i l hl
  exact ⟨A', c', h4, h5.below hb hB⟩
theorem RowsAt.more (h : RowsAt w B A n c ls) (hB : B ≤ B') : RowsAt w B' A n c ls := by
  obtain ⟨vs, h1, h2, h3⟩ := h
  refine ⟨vs, h1.more hB, h2, fun i l hl => ?_⟩
  obtain ⟨A', c', h4, h5⟩ := h3 i l hl
  exact ⟨A', c', h4, h5.more hB⟩
theorem RowsAt.at (h : RowsAt w B A n c ls) (hi : i < n) : ∃ b off l A' c', A = some ⟨b, off, none⟩ ∧ b < B ∧ ls[i]? = some l ∧ w.cell? ⟨b, off + i, none⟩ = some (Value.slice A' l.length c') ∧ Sl w B 1 A' l.length c' (intsV l) := by
  obtain ⟨vs, h1, h2, h3⟩ := h
  obtain ⟨b, off, e, hb, hc⟩ := h1.2.2.2.2 (by omega)
  have hl : ls[i]? = some (ls[i]'(by omega)) := List.getElem?_eq_getElem (by omega)
  obtain ⟨A', c', h4, h5⟩ := h3 i _ hl
  exact ⟨b, off, _, A', c', e, hb, hl, hc i _ h4, h5⟩
end
/-- The slice is the call's own row of such rows. -/
def RowsO (w : World) (base : Nat) (A : Option Addr) (n c : Nat) (ls : List (List Int)) (vs : List Value) : Prop :=
  w.ownsRow base 22 1 (.slice A n c) n vs ∧ ls.length = n ∧ ∀ (i : Nat) (l : List Int), ls[i]? = some l → ∃ (A' : Option Addr) (c' : Nat), vs[i]? = some (Value.slice A' l.length c') ∧ Sl w w.heap.size 1 A' l.length c' (intsV l) ∧ ∀ b off, A' = some ⟨b, off, none⟩ → b < w.heap.size ∧ some b ≠ (Value.slice A n c).ownBlock
section
variable {w w' : World} {base n c i : Nat} {A : Option Addr} {ls : List (List Int)} {vs : List Value}
theorem RowsO.nil (w : World) (base : Nat) : RowsO w base none 0 0 [] [] := ⟨World.ownsRow_nil _ _ _ _, rfl, fun i l h => by simp at h⟩
theorem RowsO.read (h : RowsO w base A n c ls vs) : RowsAt w w.heap.size A n c ls := by
  obtain ⟨h1, h2, h3⟩ := h
  refine ⟨vs, Sl.of_own h1, h2, fun i l hl => ?_⟩
  obtain ⟨A', c', h4, h5, _⟩ := h3 i l hl
  exact ⟨A', c', h4, h5⟩
/-- Memory was made; rows of others than this one were written. -/
theorem RowsO.kept (h : RowsO w base A n c ls vs) {B : Nat} (hb : Below B w w') (hB : w.heap.size ≤ B) : RowsO w' base A n c ls vs := by
  obtain ⟨h1, h2, h3⟩ := h
  have hb' : Below w.heap.size w w' := hb.mono hB
  refine ⟨own_later h1 hb', h2, fun i l hl => ?_⟩
  obtain ⟨A', c', h4, h5, h6⟩ := h3 i l hl
  exact ⟨A', c', h4, (h5.below hb' (Nat.le_refl _)).more hb'.size, fun b off e => ⟨Nat.lt_of_lt_of_le (h6 b off e).1 hb'.size, (h6 b off e).2⟩⟩
theorem RowsO.lt (h : RowsO w base A n c ls vs) : ∀ g, (Value.slice A n c).ownBlock = some g → base ≤ g ∧ g < w.heap.size := h.1.lt
/-- One row more. -/
theorem RowsO.app (h : RowsO w base A n c ls vs) {A1 An : Option Addr} {c1 cn : Nat} {l : List Int} (hown : w'.ownsRow base 22 1 (.slice A1 (n + 1) c1) (n + 1) (vs ++ [.slice An l.length cn])) (hg : w.grownBy w' (Value.slice A n c).ownBlock)
    (hat : (Value.slice A1 (n + 1) c1).ownBlock = (Value.slice A n c).ownBlock ∨ (Value.slice A1 (n + 1) c1).ownBlock = some w.heap.size) (hl : Sl w w.heap.size 1 An l.length cn (intsV l)) (hlt : ∀ b off, An = some ⟨b, off, none⟩ → b < w.heap.size ∧ some b ≠ (Value.slice A n c).ownBlock) : RowsO w' base A1 (n + 1) c1 (ls ++ [l]) (vs ++ [.slice An l.length cn]) := by
  obtain ⟨h1, h2, h3⟩ := h
  have hvl : vs.length = n := by have := h1.1; omega
  have keep : ∀ (A' : Option Addr) (c' : Nat) (l' : List Int), Sl w w.heap.size 1 A' l'.length c' (intsV l') → (∀ b off, A' = some ⟨b, off, none⟩ → b < w.heap.size ∧ some b ≠ (Value.slice A n c).ownBlock) → Sl w' w'.heap.size 1 A' l'.length c' (intsV l') ∧ ∀ b off, A' = some ⟨b, off, none⟩ → b < w'.heap.size ∧ some b ≠ (Value.slice A1 (n + 1) c1).ownBlock := by
    intro A' c' l' ⟨s1, s2, s3, s4, s5⟩ hn
    refine ⟨⟨s1, s2, s3, s4, fun hp => ?_⟩, fun b off e => ⟨Nat.lt_of_lt_of_le (hn b off e).1 hg.size, ?_⟩⟩
    · obtain ⟨b, off, e, hb, hc⟩ := s5 hp
      exact ⟨b, off, e, Nat.lt_of_lt_of_le hb hg.size, fun j u hu => (World.cell?_of_block (hg.block b hb (hn b off e).2)).trans (hc j u hu)⟩
    · rcases hat with h | h
      · rw [h]; exact (hn b off e).2
      · rw [h]; intro e2; injection e2 with e2; have := (hn b off e).1; omega
  refine ⟨hown, by simp [h2], fun i l' hi => ?_⟩
  rw [List.getElem?_append] at hi
  split at hi
  · next hlt' =>
    obtain ⟨A', c', h4, h5, h6⟩ := h3 i l' hi
    exact ⟨A', c', by rw [List.getElem?_append_left (by omega)]; exact h4, keep A' c' l' h5 h6⟩
  · next hge =>
    have hz : i - ls.length = 0 := by
      rcases Nat.eq_zero_or_pos (i - ls.length) with h0 | h0
      · exact h0
      · rw [List.getElem?_eq_none (by simp; omega)] at hi; cases hi
    rw [hz] at hi
    simp at hi
    subst hi
    exact ⟨An, cn, by rw [List.getElem?_append_right (by omega), show i - vs.length = 0 by omega]; rfl, keep An cn l hl hlt⟩
end
end Go.Proofs.YtdpmfdcackoegaaGreatDoor
