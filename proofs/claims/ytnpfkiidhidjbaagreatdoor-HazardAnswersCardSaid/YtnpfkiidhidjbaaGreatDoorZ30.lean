import Derived.Test.YtnpfkiidhidjbaaGreatDoorZ03
import Derived.Test.YtnpfkiidhidjbaaGreatDoorZ29
import Derived.Test.YtnpfkiidhidjbaaGreatDoorZ10
import Derived.Test.YtnpfkiidhidjbaaGreatDoorZ24
import Derived.IntWalk
import Derived.Test.YtnpfkiidhidjbaaGreatDoorZ28
/-
 Memory: a slice of slices of integers, read and of the call's own.
-/
namespace Go.Proofs.YtnpfkiidhidjbaaGreatDoor
open Go.RowKit
theorem el_rows : ElemI Tryz.prog 44 22 1 24 := ElemI.mk' (z := .slice none 0 0) Tryz.underlying44 (by kernel_rfl) rfl (by decide)
/-- The slice reads as these rows of integers, all in blocks below B. -/
def RowsAt (w : World) (B : Nat) (A : Option Addr) (n c : Nat) (ls : List (List Int)) : Prop :=
 ∃ vs : List Value, Sl w B 1 A n c vs ∧ ls.length = n ∧ ∀ (i : Nat) (l : List Int), ls[i]? = some l → ∃ (A' : Option Addr) (c' : Nat), vs[i]? = some (Value.slice A' l.length c') ∧ Sl w B 1 A' l.length c' (intsV l)
section
variable {w w' : World} {B B' n c i : Nat} {A : Option Addr} {ls : List (List Int)}
theorem RowsAt.len (h : RowsAt w B A n c ls) : ls.length = n := by obtain ⟨vs, _, hl, _⟩ := h; exact hl
theorem RowsAt.le (h : RowsAt w B A n c ls) : n ≤ c ∧ c ≤ 9223372036854775807 := by obtain ⟨vs, h1, _⟩ := h; exact h1.le
theorem RowsAt.below (h : RowsAt w B A n c ls) (hb : Below B' w w') (hB : B ≤ B') : RowsAt w' B A n c ls := by
 obtain ⟨vs, h1, h2, h3⟩ := h
 refine ⟨vs, h1.below hb hB, h2, fun i l hl => ?_⟩
 obtain ⟨A', c', h4, h5⟩ := h3 i l hl
 exact ⟨A', c', h4, h5.below hb hB⟩
theorem RowsAt.more (h : RowsAt w B A n c ls) (hB : B ≤ B') : RowsAt w B' A n c ls := by
 obtain ⟨vs, h1, h2, h3⟩ := h
 refine ⟨vs, h1.more hB, h2, fun i l hl => ?_⟩
 obtain ⟨A', c', h4, h5⟩ := h3 i l hl
 exact ⟨A', c', h4, h5.more hB⟩
theorem RowsAt.at (h : RowsAt w B A n c ls) (hi : i < n) : ∃ b off l A' c', A = some ⟨b, off, none⟩ ∧ b < B ∧ ls[i]? = some l ∧ w.cell? ⟨b, off + i, none⟩ = some (Value.slice A' l.length c') ∧ Sl w B 1 A' l.length c' (intsV l) := by
 obtain ⟨vs, h1, h2, h3⟩ := h
 obtain ⟨b, off, e, hb, hc⟩ := h1.2.2.2.2 (by omega)
 have hl : ls[i]? = some (ls[i]'(by omega)) := List.getElem?_eq_getElem (by omega)
 obtain ⟨A', c', h4, h5⟩ := h3 i _ hl
 exact ⟨b, off, _, A', c', e, hb, hl, hc i _ h4, h5⟩
end
/-- The slice is the call's own row of such rows. -/
def RowsO (w : World) (base : Nat) (A : Option Addr) (n c : Nat) (ls : List (List Int)) (vs : List Value) : Prop :=
 w.ownsRow base 22 1 (.slice A n c) n vs ∧ ls.length = n ∧ ∀ (i : Nat) (l : List Int), ls[i]? = some l → ∃ (A' : Option Addr) (c' : Nat), vs[i]? = some (Value.slice A' l.length c') ∧ Sl w w.heap.size 1 A' l.length c' (intsV l) ∧ ∀ b off, A' = some ⟨b, off, none⟩ → b < w.heap.size ∧ some b ≠ (Value.slice A n c).ownBlock
section
variable {w w' : World} {base n c i : Nat} {A : Option Addr} {ls : List (List Int)} {vs : List Value}
theorem RowsO.nil (w : World) (base : Nat) : RowsO w base none 0 0 [] [] := ⟨World.ownsRow_nil _ _ _ _, rfl, fun i l h => by simp at h⟩
theorem RowsO.read (h : RowsO w base A n c ls vs) : RowsAt w w.heap.size A n c ls := by
 obtain ⟨h1, h2, h3⟩ := h
 refine ⟨vs, Sl.of_own h1, h2, fun i l hl => ?_⟩
 obtain ⟨A', c', h4, h5, _⟩ := h3 i l hl
 exact ⟨A', c', h4, h5⟩
/-- Memory was made; rows of others than this one were written. -/
theorem RowsO.kept (h : RowsO w base A n c ls vs) {B : Nat} (hb : Below B w w') (hB : w.heap.size ≤ B) : RowsO w' base A n c ls vs := by
 obtain ⟨h1, h2, h3⟩ := h
 have hb' : Below w.heap.size w w' := hb.mono hB
 refine ⟨own_later h1 hb', h2, fun i l hl => ?_⟩
 obtain ⟨A', c', h4, h5, h6⟩ := h3 i l hl
 exact ⟨A', c', h4, (h5.below hb' (Nat.le_refl _)).more hb'.size, fun b off e => ⟨Nat.lt_of_lt_of_le (h6 b off e).1 hb'.size, (h6 b off e).2⟩⟩
theorem RowsO.lt (h : RowsO w base A n c ls vs) : ∀ g, (Value.slice A n c).ownBlock = some g → base ≤ g ∧ g < w.heap.size := h.1.lt
/-- One row more. -/
theorem RowsO.app (h : RowsO w base A n c ls vs) {A1 An : Option Addr} {c1 cn : Nat} {l : List Int} (hown : w'.ownsRow base 22 1 (.slice A1 (n + 1) c1) (n + 1) (vs ++ [.slice An l.length cn])) (hg : w.grownBy w' (Value.slice A n c).ownBlock)
  (hat : (Value.slice A1 (n + 1) c1).ownBlock = (Value.slice A n c).ownBlock ∨ (Value.slice A1 (n + 1) c1).ownBlock = some w.heap.size) (hl : Sl w w.heap.size 1 An l.length cn (intsV l)) (hlt : ∀ b off, An = some ⟨b, off, none⟩ → b < w.heap.size ∧ some b ≠ (Value.slice A n c).ownBlock) : RowsO w' base A1 (n + 1) c1 (ls ++ [l]) (vs ++ [.slice An l.length cn]) := by
 obtain ⟨h1, h2, h3⟩ := h
 have hvl : vs.length = n := by have := h1.1; omega
 have keep : ∀ (A' : Option Addr) (c' : Nat) (l' : List Int), Sl w w.heap.size 1 A' l'.length c' (intsV l') → (∀ b off, A' = some ⟨b, off, none⟩ → b < w.heap.size ∧ some b ≠ (Value.slice A n c).ownBlock) → Sl w' w'.heap.size 1 A' l'.length c' (intsV l') ∧ ∀ b off, A' = some ⟨b, off, none⟩ → b < w'.heap.size ∧ some b ≠ (Value.slice A1 (n + 1) c1).ownBlock := by
  intro A' c' l' ⟨s1, s2, s3, s4, s5⟩ hn
  refine ⟨⟨s1, s2, s3, s4, fun hp => ?_⟩, fun b off e => ⟨Nat.lt_of_lt_of_le (hn b off e).1 hg.size, ?_⟩⟩
  ·obtain ⟨b, off, e, hb, hc⟩ := s5 hp
   exact ⟨b, off, e, Nat.lt_of_lt_of_le hb hg.size, fun j u hu => (World.cell?_of_block (hg.block b hb (hn b off e).2)).trans (hc j u hu)⟩
  ·rcases hat with h | h
   ·rw [h]; exact (hn b off e).2
   ·rw [h]; intro e2; injection e2 with e2; have := (hn b off e).1; omega
 refine ⟨hown, by simp [h2], fun i l' hi => ?_⟩
 rw [List.getElem?_append] at hi
 split at hi
 ·next hlt' =>
  obtain ⟨A', c', h4, h5, h6⟩ := h3 i l' hi
  exact ⟨A', c', by rw [List.getElem?_append_left (by omega)]; exact h4, keep A' c' l' h5 h6⟩
 ·next hge =>
  have hz : i - ls.length = 0 := by
   rcases Nat.eq_zero_or_pos (i - ls.length) with h0 | h0
   ·exact h0
   ·rw [List.getElem?_eq_none (by simp; omega)] at hi; cases hi
  rw [hz] at hi
  simp at hi
  subst hi
  exact ⟨An, cn, by rw [List.getElem?_append_right (by omega), show i - vs.length = 0 by omega]; rfl, keep An cn l hl hlt⟩
end
end Go.Proofs.YtnpfkiidhidjbaaGreatDoor
/-
 Layer 6: walk of All.
-/
namespace Go.Proofs.YtnpfkiidhidjbaaGreatDoor
open Go.RowKit
theorem run_mk_rows (n : Nat) (hn : n ≤ 1000000) (w : World) : (Instr.makeSlice 44 (.int .i64 (n : Int)) (.int .i64 (n : Int))).run Tryz.prog w = .ok (.slice (some ⟨w.heap.size, 0, none⟩) n n) (w.alloc (.cells (Array.replicate n (Value.slice none 0 0)) 22)) := by
 rw [run_make_row' 44 22 (.slice none 0 0) 24 Tryz.underlying44 (by kernel_rfl) rfl .i64 .i64 n (by omega) (by omega) w]
 congr 3
 apply Array.ext'
 rw [toList_madeCells_one]; simp
theorem rows_new (w : World) (n : Nat) (hn : n ≤ 1000000) : (w.alloc (.cells (Array.replicate n (Value.slice none 0 0)) 22)).ownsRow w.heap.size 22 1 (.slice (some ⟨w.heap.size, 0, none⟩) n n) n (List.replicate n (Value.slice none 0 0)) := by
 have := own_new (w := w) (base := w.heap.size) (n := n) (e := 22) (xs := List.replicate n (Value.slice none 0 0)) (Nat.le_refl _) (by omega) (by simp)
 rwa [List.toArray_replicate] at this
theorem i64_and1 (n : Int) : bits .and .i64 n 1 = n % 2 := by
 have h1 : (BitVec.ofInt 64 1).toNat = 2 ^ 1 - 1 := by decide
 have key : (BitVec.ofInt 64 n &&& BitVec.ofInt 64 1).toNat = (n % ((2 ^ 64 : Nat) : Int)).toNat % 2 ^ 1 := by
  rw [BitVec.toNat_and, BitVec.toNat_ofInt, h1, Nat.and_two_pow_sub_one_eq_mod]
 show IntKind.i64.wrap ((BitVec.ofInt 64 n &&& BitVec.ofInt 64 1).toNat : Nat) = n % 2
 rw [key, IntKind.wrap_i64]
 omega
theorem bit_of (k sh : Nat) : bits .and .i64 ((k : Int) / 2 ^ sh) 1 = ((k >>> sh % 2 : Nat) : Int) := by
 rw [i64_and1, Nat.shiftRight_eq_div_pow]
 have : ((k : Int) / 2 ^ sh) = ((k / 2 ^ sh : Nat) : Int) := by simp
 rw [this]; omega
/-- All agreeing states, or an error. -/
def MAllPost (w : World) (m : List Int) (e : Ending) (w' : World) : Prop :=
 (cErr m ≠ 0 ∧ e = .returned (.tuple #[.slice none 0 0, .int .i64 (cErr m)]) ∨ cErr m = 0 ∧ ∃ (A : Option Addr) (k c : Nat), e = .returned (.tuple #[.slice A k c, .int .i64 0]) ∧ Hid (RowsAt w' w'.heap.size A k c (allOf m))) ∧ Hid (Below w.heap.size w w')
/-- The rows that are laid. -/
def MaIn (wr : World) (B g : Nat) (m : List Int) (k : Nat) (vs : List Value) : Prop := ∀ j, j < k → ∃ (Aj : Option Addr) (cj : Nat), vs[j]? = some (Value.slice Aj m.length cj) ∧ Sl wr B 1 Aj m.length cj (intsV (stN m m.length j)) ∧ ∀ b off, Aj = some ⟨b, off, none⟩ → g < b
theorem MaIn.below {w w' : World} {B g B' k : Nat} {m : List Int} {vs : List Value} (h : MaIn w B g m k vs) (hb : Below B' w w') (hB : B ≤ B') : MaIn w' B g m k vs := fun j hj => by
 obtain ⟨Aj, cj, h1, h2, h3⟩ := h j hj
 exact ⟨Aj, cj, h1, h2.below hb hB, h3⟩
theorem MaIn.far {w : World} {B g k : Nat} {m : List Int} {vs : List Value} (h : MaIn w B g m k vs) {p : Addr} (hp : B ≤ p.block) (u : Value) : MaIn (w.setCell p u) B g m k vs := fun j hj => by
 obtain ⟨Aj, cj, h1, h2, h3⟩ := h j hj
 exact ⟨Aj, cj, h1, h2.setCell hp u, h3⟩
theorem MaIn.row {w : World} {B g k i : Nat} {m : List Int} {vs : List Value} (h : MaIn w B g m k vs) (hi : k ≤ i) (u : Value) : MaIn (w.setCell ⟨g, i, none⟩ u) B g m k (vs.set i u) := fun j hj => by
 obtain ⟨Aj, cj, h1, h2, h3⟩ := h j hj
 refine ⟨Aj, cj, by rw [List.getElem?_set_ne (by omega)]; exact h1, ?_, h3⟩
 obtain ⟨s1, s2, s3, s4, s5⟩ := h2
 refine ⟨s1, s2, s3, s4, fun hn => ?_⟩
 obtain ⟨b, off, e, hb, hc⟩ := s5 hn
 have := h3 b off e
 exact ⟨b, off, e, hb, fun t v hv => (World.cell?_setCell_other _ _ _ _ (fun e => by injection e with e1; omega)).trans (hc t v hv)⟩
theorem MaIn.put {w : World} {B g k c : Nat} {A : Option Addr} {m l : List Int} {vs : List Value} (h : MaIn w B g m k vs) (hl : l = stN m m.length k) (hv : vs[k]? = some (Value.slice A m.length c)) (hs : Sl w w.heap.size 1 A m.length c (intsV l)) (hB : B ≤ w.heap.size) (hA : ∀ b off, A = some ⟨b, off, none⟩ → g < b) : MaIn w w.heap.size g m (k + 1) vs := fun j hj => by
 rcases Nat.lt_succ_iff_lt_or_eq.1 hj with hj | rfl
 ·obtain ⟨Aj, cj, h1, h2, h3⟩ := h j hj
  exact ⟨Aj, cj, h1, h2.more hB, h3⟩
 ·exact ⟨A, c, hv, by rw [← hl]; exact hs, hA⟩
theorem own_at {w : World} {base g n c i : Nat} {e : TypeId} {xs : List Value} (h : w.ownsRow base e 1 (.slice (some ⟨g, 0, none⟩) n c) n xs) (hi : i < n) : ∃ x, xs[i]? = some x ∧ w.cell? ⟨g, i, none⟩ = some x ∧ w.frozen? ⟨g, i, none⟩ = false ∧ ∀ y, (w.setCell ⟨g, i, none⟩ y).ownsRow base e 1 (.slice (some ⟨g, 0, none⟩) n c) n (xs.set i y) := by
 have hl : xs.length = n := by have := h.1; omega
 refine ⟨xs[i]'(by omega), List.getElem?_eq_getElem (by omega), ?_, h.frozenAt i, fun y => (h.stored i y).1⟩
 rw [h.cellAt i (by omega)]; exact List.getElem?_eq_getElem (by omega)
def MaR (W : World) (g : Nat) (m : List Int) (P gk : Nat) (iv : Value) (wr : World) : Prop := ∃ (k : Nat) (vs : List Value), iv = .int .i64 k ∧ k ≤ P ∧ gk = P - k ∧ Hid (wr.ownsRow g 22 1 (.slice (some ⟨g, 0, none⟩) P P) P vs) ∧ Hid (MaIn wr wr.heap.size g m k vs) ∧ Hid (Below g W wr)
def MaR2 (W : World) (g B : Nat) (A : Option Addr) (c : Nat) (m : List Int) (P k u : Nat) (vs : List Value) (gk : Nat) (iv : Value) (wr : World) : Prop := ∃ (j : Nat) (l : List Int), iv = .int .i64 j ∧ j ≤ u ∧ gk = u - j ∧ Hid (wr.ownsRow g 22 1 (.slice (some ⟨g, 0, none⟩) P P) P vs) ∧ Hid (MaIn wr B g m k vs) ∧ Hid (Below g W wr) ∧ Hid (IntsO wr B A m.length c l) ∧ Hid (Filled m k j l) ∧ Hid (B ≤ wr.heap.size)
set_option maxRecDepth 100000 in
set_option maxHeartbeats 8000000 in
theorem all_any (A : Option Addr) (c B : Nat) (m : List Int) (w : World) (hl : Laid w) (hs : Sl w B 1 A m.length c (intsV m)) (hB : B ≤ w.heap.size) (hn : m.length ≤ 1000) : Calls Tryz.prog 73 #[.slice A m.length c] w (MAllPost w m) := by
 have HC := Lib.hid (count_any A m.length c B m w hl hs hB (by omega))
 have HS := Lib.hid hs
 clear hl hs
 by_cases he : cErr m = 0; rotate_left
 ·have q : (cErr m != 0) = true := by simpa using he
  have HE := Lib.hid he
  clear he
  go_enter Tryz.func73, Tryz.ntmps73
  go_wp2_with fail
  refine HC.out.mono ?_
  rintro e w1 ⟨rfl, hb1⟩
  go_wp2_with fail
  go_ret2
  exact ⟨.inl ⟨HE.out, rfl⟩, hb1⟩
 have HCV : Hid (cntV m = (2 ^ cntN m m.length : Nat)) := by unfold Hid cntV; rw [if_pos he]
 have HU8 : Hid (cntN m m.length ≤ 8) := by
  unfold cErr at he
  split at he
  ·split at he
   ·omega
   ·unfold Hid; omega
  ·omega
 have HE := Lib.hid he
 rw [he, HCV.out] at HC
 obtain ⟨P, hP⟩ : ∃ P, P = 2 ^ cntN m m.length := ⟨_, rfl⟩
 rw [← hP] at HC
 have hP8 : P ≤ 256 := by
  have := Nat.pow_le_pow_right (n := 2) (by decide) HU8.out
  omega
 have HP := Lib.hid hP
 clear he HCV hP
 go_enter Tryz.func73, Tryz.ntmps73
 go_wp2_with fail
 refine HC.out.mono ?_
 rintro e w1 ⟨rfl, hb1⟩
 go_wp2_with fail
 refine (unknown_any A m.length c B m w1 (HS.out.below hb1 hB) (Nat.le_trans hB hb1.size) (by omega)).mono ?_
 rintro e W ⟨Au, u, cu, rfl, hu, hOu, hb2⟩
 have hmk := run_mk_rows P (by omega) W
 go_wp2_with fail
 clear hmk
 have HB1 := Lib.hid (hb1.trans (hb2.out.mono hb1.size))
 have HSU := Lib.hid hOu.out.sl
 have HS2 := Lib.hid (HS.out.below HB1.out hB)
 have HOW := Lib.hid (rows_new W P (by omega))
 have HBG : Hid (Below W.heap.size W (W.alloc (.cells (Array.replicate P (Value.slice none 0 0)) 22))) := (Below.refl _ _).alloc (Nat.le_refl _) _
 have hgw : w.heap.size ≤ W.heap.size := HB1.out.size
 have hu8 : u ≤ 8 := by have := hu.out; have := HU8.out; omega
 clear hb1 hb2 HC hOu HU8
 obtain ⟨g, hg⟩ : ∃ g, g = W.heap.size := ⟨_, rfl⟩
 rw [← hg] at HOW HBG HSU hgw ⊢
 clear hg
 generalize World.alloc _ _ = W1 at *
 go_loopg [24] P (MaR W g m P)
 case atStart => exact ⟨0, _, rfl, Nat.zero_le _, rfl, HOW, (fun j hj => absurd hj (by omega)), HBG⟩
 case round =>
  clear HOW HBG
  obtain ⟨k, vs, rfl, hk, rfl, how, hin, hbl⟩ := hrel
  by_cases hlt : k < P
  ·have HZ := Lib.hid (own_lt how.out g rfl).2
   have hgz : g < wr.heap.size := HZ.out
   go_wp2_with fail
   refine (clone_any A m.length c B m wr (HS2.out.below hbl.out (by omega)) (by omega) (by omega)).mono ?_
   rintro e w3 ⟨Ak, ck, rfl, hO3, hb3⟩
   obtain ⟨y, _, hcy, hfy, hset⟩ := own_at (own_later how.out hb3.out) hlt
   have HST := Lib.hid (hset (.slice Ak m.length ck))
   have HIN3 := Lib.hid (((hin.out.below hb3.out (Nat.le_refl _)).row (i := k) (Nat.le_refl _) (.slice Ak m.length ck)))
   have HVK : Hid ((vs.set k (.slice Ak m.length ck))[k]? = some (Value.slice Ak m.length ck)) := by
    unfold Hid
    have := own_lt how.out
    rw [List.getElem?_set_self (by have := how.out.1; omega)]
   have HO4 := Lib.hid (hO3.out.kept (grown_cell w3 ⟨g, k, none⟩ (.slice Ak m.length ck)) (ne_row fun b e => by have := (hO3.out.lt b e).1; simp; omega))
   have HB4 := Lib.hid ((hbl.out.trans (hb3.out.mono (Nat.le_of_lt hgz))).setCell (p := ⟨g, k, none⟩) (by simp) (.slice Ak m.length ck))
   have HAK : Hid (∀ b off, Ak = some ⟨b, off, none⟩ → g < b) := fun b off e => by have := (hO3.out.lt b (by rw [e]; rfl)).1; omega
   have HZ4 : Hid (wr.heap.size ≤ (w3.setCell ⟨g, k, none⟩ (.slice Ak m.length ck)).heap.size) := by have := hb3.out.size; unfold Hid; simp [World.setCell]; exact this
   clear hset hO3 hb3 hin how
   have HFI := Lib.hid (Filled.start m k)
   go_wp2_with fail
   clear hcy hfy
   generalize World.setCell _ _ _ = W3 at *
   obtain ⟨Bk, hBk⟩ : ∃ Bk, Bk = wr.heap.size := ⟨_, rfl⟩
   rw [← hBk] at HIN3 HO4 HZ4 hgz
   clear hBk HZ hbl
   go_loopg [34] u (MaR2 W g Bk Ak ck m P k u (vs.set k (.slice Ak m.length ck)))
   case atStart => exact ⟨0, m, rfl, Nat.zero_le _, rfl, HST, HIN3, HB4, HO4, HFI, HZ4⟩
   case round =>
    clear HST HIN3 HB4 HO4 HFI HZ4
    obtain ⟨j, l, rfl, hj, rfl, how, hin, hbl, hO, hfi, hz⟩ := hrel
    by_cases hjt : j < u
    ·obtain ⟨ub, uo, x, rfl, hub, hx, hcu⟩ := (HSU.out.below hbl.out (Nat.le_refl _)).at1 hjt
     rw [List.getElem?_map] at hx
     obtain ⟨d, hd, rfl⟩ : ∃ d, (unkN m m.length)[j]? = some d ∧ (d : Int) = x := by
      rcases hq : (unkN m m.length)[j]? with _ | d
      ·rw [hq] at hx; cases hx
      ·rw [hq] at hx; exact ⟨d, rfl, by injection hx⟩
     have HD := Lib.hid hd
     have hdm : d < m.length := (unkN_at m _ _ _ hd).2.1
     have HF2 := hfi.out.step hd
     rw [← hu.out] at HF2
     replace HF2 := Lib.hid HF2
     obtain ⟨gk, y, rfl, hgb, hgl, hy, hcy, hfy, hst⟩ := hO.out.at hdm
     obtain ⟨z, hz1, hz2, hz3, hz4⟩ := own_at how.out hlt
     rw [HVK.out] at hz1
     injection hz1 with hz1
     subst hz1
     have HKC := Lib.hid hz2
     have HST := Lib.hid hst
     clear hx hd hy hz2 hz3 hz4 hst
     obtain ⟨sh, hsh⟩ : ∃ sh, sh = u - 1 - j := ⟨_, rfl⟩
     rw [← hsh] at HF2
     have hsh8 : sh ≤ 8 := by omega
     obtain ⟨u1, hu1⟩ : ∃ u1, u1 = u - 1 := ⟨_, rfl⟩
     have e1 : IntKind.i64.wrap ((u : Int) - 1) = (u1 : Int) := by rw [IntWalk.i64_in _ (by omega)]; omega
     have e2 : IntKind.i64.wrap ((u1 : Int) - (j : Int)) = (sh : Int) := by rw [IntWalk.i64_in _ (by omega)]; omega
     have e3 := bit_of k sh
     have hq2 : k >>> sh % 2 < 2 := Nat.mod_lt _ (by decide)
     generalize k >>> sh % 2 = q at *
     have e4 : IntKind.i64.wrap (1 + (q : Int)) = 1 + (q : Int) := IntWalk.i64_in _ (by omega)
     clear hsh hu1
     have HSW := Lib.hid (HST.out (1 + (q : Int)))
     have HOW2 := Lib.hid (how.out.kept (grown_cell wr ⟨gk, d, none⟩ (.int .i64 (1 + (q : Int)))) (ne_row fun b e => by have := (how.out.lt b e); simp [Value.ownBlock] at e; simp; omega))
     have HIN2 := Lib.hid (hin.out.far (p := ⟨gk, d, none⟩) hgb (.int .i64 (1 + (q : Int))))
     have HB2 := Lib.hid (hbl.out.setCell (p := ⟨gk, d, none⟩) (by simp; omega) (.int .i64 (1 + (q : Int))))
     have HZ2 : Hid (Bk ≤ (wr.setCell ⟨gk, d, none⟩ (.int .i64 (1 + (q : Int)))).heap.size) := by have := hz.out; unfold Hid; simpa [World.setCell] using this
     have HKC2 : Hid ((wr.setCell ⟨gk, d, none⟩ (.int .i64 (1 + (q : Int)))).cell? ⟨g, k, none⟩ = some (.slice (some ⟨gk, 0, none⟩) m.length ck)) := (World.cell?_setCell_other _ _ _ _ (fun e => by injection e with e1; omega)).trans HKC.out
     go_upto_region 13 with (fail)
     refine wp_region_J (S := fun W' => W'.cell? ⟨g, k, none⟩ = some (.slice (some ⟨gk, 0, none⟩) m.length ck)) (J := []) (by kernel_rfl) ?_ (fun hHeld => ?_)
     ·exact HKC.out
     try dsimp only at hHeld
     refine wpAnyJ_tL (i := 0) (d := some 39) (v := ?_) #[tt, ff, ff, ff, ff, ff, ff, ff, ff, ff, ff, ff, ff, ff, ff, ff] rfl rfl ?_ hHeld ?_
     rotate_left
     ·(intro w hSw; (try dsimp only at hSw);  go_simp; try with_reducible rfl)
     try simp only [Act.put, sA, s0, s1]
     refine wpAnyJ_tL (i := 1) (d := some 40) (v := ?_) #[tt, tt, ff, ff, ff, ff, ff, ff, ff, ff, ff, ff, ff, ff, ff, ff] rfl rfl ?_ hHeld ?_
     rotate_left
     ·(intro w hSw; (try dsimp only at hSw);  go_simp; try with_reducible rfl)
     try simp only [Act.put, sA, s0, s1]
     refine wpAnyJ_tL (i := 2) (d := some 41) (v := ?_) #[tt, tt, tt, ff, ff, ff, ff, ff, ff, ff, ff, ff, ff, ff, ff, ff] rfl rfl ?_ hHeld ?_
     rotate_left
     ·(intro w hSw; (try dsimp only at hSw);  go_simp; try with_reducible rfl)
     try simp only [Act.put, sA, s0, s1]
     refine wpAnyJ_tL (i := 3) (d := some 42) (v := ?_) #[tt, tt, tt, tt, ff, ff, ff, ff, ff, ff, ff, ff, ff, ff, ff, ff] rfl rfl ?_ hHeld ?_
     rotate_left
     ·(intro w hSw; (try dsimp only at hSw);  go_simp; try with_reducible rfl)
     try simp only [Act.put, sA, s0, s1]
     refine wpAnyJ_tL (i := 4) (d := some 43) (v := ?_) #[tt, tt, tt, tt, tt, ff, ff, ff, ff, ff, ff, ff, ff, ff, ff, ff] rfl rfl ?_ hHeld ?_
     rotate_left
     ·(intro w hSw; (try dsimp only at hSw);  go_simp; try with_reducible rfl)
     try simp only [Act.put, sA, s0, s1]
     refine wpAnyJ_tL (i := 5) (d := some 44) (v := ?_) #[tt, tt, tt, tt, tt, tt, ff, ff, ff, ff, ff, ff, ff, ff, ff, ff] rfl rfl ?_ hHeld ?_
     rotate_left
     ·(intro w hSw; (try dsimp only at hSw);  go_simp; try with_reducible rfl)
     try simp only [Act.put, sA, s0, s1]
     refine wpAnyJ_tL (i := 6) (d := some 45) (v := ?_) #[tt, tt, tt, tt, tt, tt, tt, ff, ff, ff, ff, ff, ff, ff, ff, ff] rfl rfl ?_ hHeld ?_
     rotate_left
     ·(intro w hSw; (try dsimp only at hSw);  go_simp; try with_reducible rfl)
     try simp only [Act.put, sA, s0, s1]
     refine wpAnyJ_tL (i := 7) (d := some 46) (v := ?_) #[tt, tt, tt, tt, tt, tt, tt, tt, ff, ff, ff, ff, ff, ff, ff, ff] rfl rfl ?_ hHeld ?_
     rotate_left
     ·(intro w hSw; (try dsimp only at hSw);  go_simp; try with_reducible rfl)
     try simp only [Act.put, sA, s0, s1]
     refine wpAnyJ_tL (i := 8) (d := some 47) (v := ?_) #[tt, tt, tt, tt, tt, tt, tt, tt, tt, ff, ff, ff, ff, ff, ff, ff] rfl rfl ?_ hHeld ?_
     rotate_left
     ·(intro w hSw; (try dsimp only at hSw);  go_simp; try with_reducible rfl)
     try simp only [Act.put, sA, s0, s1]
     refine wpAnyJ_tL (i := 9) (d := some 48) (v := ?_) #[tt, tt, tt, tt, tt, tt, tt, tt, tt, tt, ff, ff, ff, ff, ff, ff] rfl rfl ?_ hHeld ?_
     rotate_left
     ·(intro w hSw; (try dsimp only at hSw);  go_simp; try with_reducible rfl)
     try simp only [Act.put, sA, s0, s1]
     refine wpAnyJ_tL (i := 10) (d := some 49) (v := ?_) #[tt, tt, tt, tt, tt, tt, tt, tt, tt, tt, tt, ff, ff, ff, ff, ff] rfl rfl ?_ hHeld ?_
     rotate_left
     ·(intro w hSw; (try dsimp only at hSw);  go_simp; try with_reducible rfl)
     try simp only [Act.put, sA, s0, s1]
     refine wpAnyJ_tL (i := 11) (d := some 50) (v := ?_) #[tt, tt, tt, tt, tt, tt, tt, tt, tt, tt, tt, tt, ff, ff, ff, ff] rfl rfl ?_ hHeld ?_
     rotate_left
     ·(intro w hSw; (try dsimp only at hSw);  go_simp; try with_reducible rfl)
     try simp only [Act.put, sA, s0, s1]
     refine wpAnyJ_tL (i := 12) (d := some 51) (v := ?_) #[tt, tt, tt, tt, tt, tt, tt, tt, tt, tt, tt, tt, tt, ff, ff, ff] rfl rfl ?_ hHeld ?_
     rotate_left
     ·(intro w hSw; (try dsimp only at hSw);  go_simp; try with_reducible rfl)
     try simp only [Act.put, sA, s0, s1]
     refine wpAnyJ_tL (i := 13) (d := some 52) (v := ?_) #[tt, tt, tt, tt, tt, tt, tt, tt, tt, tt, tt, tt, tt, tt, ff, ff] rfl rfl ?_ hHeld ?_
     rotate_left
     ·(intro w hSw; (try dsimp only at hSw);  go_simp; try with_reducible rfl)
     try simp only [Act.put, sA, s0, s1]
     refine wpAnyJ_tL (i := 14) (d := some 53) (v := ?_) #[tt, tt, tt, tt, tt, tt, tt, tt, tt, tt, tt, tt, tt, tt, tt, ff] rfl rfl ?_ hHeld ?_
     rotate_left
     ·(intro w hSw; (try dsimp only at hSw);  go_simp; try with_reducible rfl)
     try simp only [Act.put, sA, s0, s1]
     refine wpAnyJ_oneL (k := 15) #[tt, tt, tt, tt, tt, tt, tt, tt, tt, tt, tt, tt, tt, tt, tt, tt] (by kernel_rfl) (by kernel_rfl) rfl (fun K hK => ?_)
     go_simp
     refine hK.out _ _ (fun _ => ?_) (fun hHeld' => ?_)
     ·exact HKC2.out
     replace hHeld := hHeld' rfl
     clear hHeld' hK K
     try dsimp only at hHeld
     refine wpAnyJ_done (by kernel_rfl) ?_ _
     clear hHeld e1 e2 e3 e4 hcy hfy
     go_wp2_with fail
     go_roundg (u - (j + 1))
     case rel => exact ⟨j + 1, _, by go_num, by omega, rfl, HOW2, HIN2, HB2.out.drew, HSW, HF2, HZ2⟩
     case measure => omega
    ·obtain rfl : j = u := by omega
     have hjj : decide (j < j) = false := by simp
     have HLQ : Hid (l = stN m m.length k) := by
      have := hfi.out
      rw [hu.out] at this
      exact this.done
     have HIN5 := Lib.hid (hin.out.put HLQ.out HVK.out hO.out.sl hz.out HAK.out)
     go_wp2_with fail
     go_roundg (P - (k + 1))
     case rel => exact ⟨k + 1, _, by go_num, by omega, rfl, how, HIN5, hbl⟩
     case measure => omega
  ·obtain rfl : k = P := by omega
   have hkk : decide (k < k) = false := by simp
   go_wp2_with fail
   go_ret2
   refine ⟨.inr ⟨HE.out, _, k, k, rfl, vs, Sl.of_own how.out, ?_, fun j l hl => ?_⟩, HB1.out.trans (hbl.out.mono hgw)⟩
   ·unfold allOf; rw [allN_len, ← HP.out]
   ·have hjk : j < k := by
     have := (List.getElem?_eq_some_iff.1 hl).1
     unfold allOf at this; rw [allN_len, ← HP.out] at this; exact this
    obtain ⟨Aj, cj, h1, h2, _⟩ := hin.out j hjk
    have : l = stN m m.length j := by
     unfold allOf at hl
     rw [allN_get m (by rw [← HP.out]; exact hjk)] at hl
     injection hl with hl; exact hl.symm
    subst this
    have hsl : (stN m m.length j).length = m.length := by unfold stN; simp
    rw [hsl]
    exact ⟨Aj, cj, h1, h2⟩
end Go.Proofs.YtnpfkiidhidjbaaGreatDoor
/-
 The program's layer 13: walks of check, In, states.
-/
namespace Go.Proofs.YtnpfkiidhidjbaaGreatDoor
open Go.RowKit
/-- What a network that was checked is. -/
structure NetOk (ns : List Nd) (ds : List Dv) : Prop where
 e : EndsOk ns.length ds
 a : AOk ns.length ds
 k : ∀ x ∈ ds, 1 ≤ x.kind ∧ x.kind ≤ 6
 ne : ∀ x ∈ ds, joinsB x.kind = true → x.b ≠ x.a
 nl : ns.length ≤ 32
 dl : ds.length ≤ 64
theorem chkD_ok {k : Int} : ∀ (ds : List Dv) (used : List (List UInt8)), chkD k used ds = 0 → ∀ x ∈ ds, (1 ≤ x.kind ∧ x.kind ≤ 6) ∧ endsB x.kind x.a x.b k = true
 | [], _, _, x, hx => by cases hx
 | y :: r, used, h, x, hx => by
  rw [chkD] at h
  by_cases h0 : dvErr k used y = 0
  ·rw [if_pos h0] at h
   rcases List.mem_cons.1 hx with rfl | hx
   ·unfold dvErr at h0
    by_cases h1 : nameB (toL x.name) = false
    ·rw [if_pos h1] at h0; cases h0
    by_cases h2 : toL x.name ∈ used
    ·rw [if_neg h1, if_pos h2] at h0; cases h0
    by_cases h3 : x.kind < 1 ∨ 6 < x.kind
    ·rw [if_neg h1, if_neg h2, if_pos h3] at h0; cases h0
    by_cases h4 : endsB x.kind x.a x.b k = false
    ·rw [if_neg h1, if_neg h2, if_neg h3, if_pos h4] at h0; cases h0
    exact ⟨by omega, by simpa using h4⟩
   ·exact chkD_ok r _ h x hx
  ·rw [if_neg h0] at h; exact absurd h h0
theorem NetOk.of {ns : List Nd} {ds : List Dv} (h : checkN ns ds = 0) : NetOk ns ds := by
 unfold checkN at h
 by_cases h1 : 32 < ns.length
 ·rw [if_pos h1] at h; cases h
 by_cases h2 : 64 < ds.length
 ·rw [if_neg h1, if_pos h2] at h; cases h
 by_cases h3 : chkN [] ns = 0
 ·rw [if_neg h1, if_neg h2, if_pos h3] at h
  have H := chkD_ok ds _ h
  have E : ∀ x ∈ ds, 0 ≤ x.a ∧ x.a < ns.length ∧ (joinsB x.kind = true → 0 ≤ x.b ∧ x.b < ns.length ∧ x.b ≠ x.a) := fun x hx => by
   have := (H x hx).2
   unfold endsB at this
   split at this
   ·cases this
   ·next e1 =>
    split at this
    ·cases this
    ·next e2 =>
     refine ⟨by omega, by omega, fun hj => ?_⟩
     rw [if_neg (by rw [hj]; simp)] at this
     simp at this
     omega
  exact ⟨fun x hx hj => ⟨⟨(E x hx).1, (E x hx).2.1⟩, ((E x hx).2.2 hj).1, ((E x hx).2.2 hj).2.1⟩, fun x hx => ⟨(E x hx).1, (E x hx).2.1⟩, fun x hx => (H x hx).1, fun x hx hj => ((E x hx).2.2 hj).2.2, by omega, by omega⟩
 ·rw [if_neg h1, if_neg h2, if_neg h3] at h; exact absurd h h3
theorem stateErr_net {ns : List Nd} {ds : List Dv} {s : List Int} (h : stateErr ns ds s = 0) : checkN ns ds = 0 ∧ s.length = ds.length := by
 unfold stateErr at h
 split at h
 ·next h1 => exact absurd h h1
 next h1 =>
 split at h
 ·cases h
 next h2 => exact ⟨by simpa using h1, by omega⟩
theorem maskErr_net {ns : List Nd} {ds : List Dv} {s : List Int} (h : maskErr ns ds s = 0) : checkN ns ds = 0 ∧ s.length = ds.length ∧ ∀ p ∈ s, maskB p = true := by
 unfold maskErr at h
 split at h
 ·next h1 => exact absurd h h1
 next h1 =>
 split at h
 ·cases h
 next h2 =>
 split at h
 ·next h3 => exact ⟨by simpa using h1, by omega, h3⟩
 ·cases h
/-- What the arguments of a hazard's call are, in memory. -/
structure HzMem (w : World) (An Ad As Al Ap : Option Addr) (nn cn nd cd n c nl cl np cp : Nat) (ns : List Nd) (ds : List Dv) (s : List Int) (ls : List Lk) (pr : List Int) : Prop where
 hn : Sl w w.heap.size 3 An nn cn (ns.flatMap Nd.cells)
 hd : Sl w w.heap.size 5 Ad nd cd (ds.flatMap Dv.cells)
 hs : Sl w w.heap.size 1 As n c (intsV s)
 hl : Sl w w.heap.size 3 Al nl cl (ls.flatMap Lk.cells)
 hp : Sl w w.heap.size 1 Ap np cp (intsV pr)
 la : Laid w
 sn : ∀ x ∈ ns, x.name.size ≤ 9223372036854775807
 sd : ∀ x ∈ ds, x.name.size ≤ 9223372036854775807
section
variable {w W : World} {An Ad As Al Ap : Option Addr} {nn cn nd cd n c nl cl np cp : Nat} {ns : List Nd} {ds : List Dv} {s : List Int} {ls : List Lk} {pr : List Int}
theorem HzMem.below (h : HzMem w An Ad As Al Ap nn cn nd cd n c nl cl np cp ns ds s ls pr) (hb : Below w.heap.size w W) : HzMem W An Ad As Al Ap nn cn nd cd n c nl cl np cp ns ds s ls pr :=
 ⟨(h.hn.below hb (Nat.le_refl _)).more hb.size, (h.hd.below hb (Nat.le_refl _)).more hb.size, (h.hs.below hb (Nat.le_refl _)).more hb.size, (h.hl.below hb (Nat.le_refl _)).more hb.size, (h.hp.below hb (Nat.le_refl _)).more hb.size, h.la.below hb (Nat.le_refl _), h.sn, h.sd⟩
theorem HzMem.ln (h : HzMem w An Ad As Al Ap nn cn nd cd n c nl cl np cp ns ds s ls pr) : ns.length = nn ∧ ds.length = nd ∧ s.length = n := ⟨h.hn.len (fun _ => rfl) (by decide), h.hd.len (fun _ => rfl) (by decide), h.hs.len (fun _ => rfl) (by decide)⟩
end
/-- The three boxes of a call's arguments. -/
structure Bx3 (w : World) (nt op gr : Array Value) (W : World) : Prop where
 bl : Below w.heap.size w W
 bn : Blk W w.heap.size 26 nt
 bo : Blk W (w.heap.size + 1) 28 op
 bg : Blk W (w.heap.size + 2) 31 gr
theorem Bx3.new (w : World) (nt op gr : Array Value) : Bx3 w nt op gr (((w.alloc (.cells nt 26)).alloc (.cells op 28)).alloc (.cells gr 31)) := by
 refine ⟨(((Below.refl _ _).alloc (Nat.le_refl _) _).alloc (by simp) _).alloc (by simp; omega) _, ((Blk.new _ _ _).alloc _).alloc _, ?_, ?_⟩
 ·have := (Blk.new (w.alloc (.cells nt 26)) 28 op).alloc (.cells gr 31)
  simpa using this
 ·have := Blk.new ((w.alloc (.cells nt 26)).alloc (.cells op 28)) 31 gr
  simpa using this
theorem Bx3.later {w W W' : World} {nt op gr : Array Value} (h : Bx3 w nt op gr W) (hb : Below W.heap.size W W') : Bx3 w nt op gr W' :=
 ⟨h.bl.trans (hb.mono h.bl.size), h.bn.below hb h.bn.lt, h.bo.below hb h.bo.lt, h.bg.below hb h.bg.lt⟩
theorem Bx3.cells {w W : World} {nn cn nd cd nl cl np cp : Nat} {An Ad Al Ap : Option Addr} {d p co : Int} (h : Bx3 w #[.slice An nn cn, .slice Ad nd cd] #[.int .i64 d, .int .i64 p] #[.int .i64 co, .slice Al nl cl, .slice Ap np cp] W) :
  (W.cell? ⟨w.heap.size, 0, none⟩ = some (.slice An nn cn) ∧ W.cell? ⟨w.heap.size, 1, none⟩ = some (.slice Ad nd cd)) ∧ (W.cell? ⟨w.heap.size + 1, 0, none⟩ = some (.int .i64 d) ∧ W.cell? ⟨w.heap.size + 1, 1, none⟩ = some (.int .i64 p)) ∧ W.cell? ⟨w.heap.size + 2, 0, none⟩ = some (.int .i64 co) ∧ W.cell? ⟨w.heap.size + 2, 1, none⟩ = some (.slice Al nl cl) ∧ W.cell? ⟨w.heap.size + 2, 2, none⟩ = some (.slice Ap np cp) :=
 ⟨⟨h.bn.cell 0, h.bn.cell 1⟩, ⟨h.bo.cell 0, h.bo.cell 1⟩, h.bg.cell 0, h.bg.cell 1, h.bg.cell 2⟩
def hzErr (nd : Nat) (d p co : Int) : Int := if d < 0 then 8 else if (nd : Int) ≤ d then 8 else if p ≠ 1 ∧ p ≠ 2 then 10 else if co < 0 then 5 else if 7 < co then 5 else 0
set_option maxHeartbeats 4000000 in
theorem hzcheck_any (An Ad Al Ap : Option Addr) (nn cn nd cd nl cl np cp : Nat) (d p co : Int) (w : World) (_hndm : nd ≤ 9223372036854775807) :
  Calls Tryz.prog 36 #[.agg #[.slice An nn cn, .slice Ad nd cd], .agg #[.int .i64 d, .int .i64 p], .agg #[.int .i64 co, .slice Al nl cl, .slice Ap np cp]] w fun e w' => e = .returned (.int .i64 (hzErr nd d p co)) ∧ Below w.heap.size w w' := by
 have HE : Hid (hzErr nd d p co = if d < 0 then 8 else if (nd : Int) ≤ d then 8 else if p ≠ 1 ∧ p ≠ 2 then 10 else if co < 0 then 5 else if 7 < co then 5 else 0) := rfl
 have HB := Lib.hid (Bx3.new w #[.slice An nn cn, .slice Ad nd cd] #[.int .i64 d, .int .i64 p] #[.int .i64 co, .slice Al nl cl, .slice Ap np cp]).bl
 by_cases h1 : d < 0
 ·go_enter Tryz.func36, Tryz.ntmps36
  go_wp2_with fail
  go_ret
  exact ⟨ret_int (by rw [HE.out, if_pos (by omega)]), HB.out⟩
 have q1 : decide (d < 0) = false := by simpa using h1
 by_cases h2 : (nd : Int) ≤ d
 ·go_enter Tryz.func36, Tryz.ntmps36
  go_wp2_with fail
  go_ret
  exact ⟨ret_int (by rw [HE.out, if_neg (by omega), if_pos (by omega)]), HB.out⟩
 have q2 : decide ((nd : Int) ≤ d) = false := by simpa using h2
 by_cases h3 : p ≠ 1 ∧ p ≠ 2
 ·have q3 : (p != 1) = true := by simpa using h3.1
  have q4 : (p != 2) = true := by simpa using h3.2
  go_enter Tryz.func36, Tryz.ntmps36
  go_wp2_with fail
  go_ret
  exact ⟨ret_int (by rw [HE.out, if_neg (by omega), if_neg (by omega), if_pos (by omega)]), HB.out⟩
 have HN3 : Hid (hzErr nd d p co = if co < 0 then 5 else if 7 < co then 5 else 0) := by unfold Hid; rw [HE.out, if_neg (by omega), if_neg (by omega), if_neg (by omega)]
 clear HE
 by_cases h4 : co < 0
 ·rcases (show p = 1 ∨ p = 2 by omega) with rfl | rfl
  ·go_enter Tryz.func36, Tryz.ntmps36
   go_wp2_with fail
   go_ret
   exact ⟨ret_int (by rw [HN3.out, if_pos (by omega)]), HB.out⟩
  ·go_enter Tryz.func36, Tryz.ntmps36
   go_wp2_with fail
   go_ret
   exact ⟨ret_int (by rw [HN3.out, if_pos (by omega)]), HB.out⟩
 have q5 : decide (co < 0) = false := by simpa using h4
 have HN4 : Hid (hzErr nd d p co = if 7 < co then 5 else 0) := by unfold Hid; rw [HN3.out, if_neg (by omega)]
 clear HN3
 by_cases h5 : 7 < co
 ·rcases (show p = 1 ∨ p = 2 by omega) with rfl | rfl
  ·go_enter Tryz.func36, Tryz.ntmps36
   go_wp2_with fail
   go_ret
   exact ⟨ret_int (by rw [HN4.out, if_pos (by omega)]), HB.out⟩
  ·go_enter Tryz.func36, Tryz.ntmps36
   go_wp2_with fail
   go_ret
   exact ⟨ret_int (by rw [HN4.out, if_pos (by omega)]), HB.out⟩
 have q6 : decide (7 < co) = false := by simpa using h5
 rcases (show p = 1 ∨ p = 2 by omega) with rfl | rfl
 ·go_enter Tryz.func36, Tryz.ntmps36
  go_wp2_with fail
  go_ret
  exact ⟨ret_int (by rw [HN4.out, if_neg (by omega)]), HB.out⟩
 ·go_enter Tryz.func36, Tryz.ntmps36
  go_wp2_with fail
  go_ret
  exact ⟨ret_int (by rw [HN4.out, if_neg (by omega)]), HB.out⟩
theorem hzErr_ok {nd : Nat} {d p co : Int} (h : hzErr nd d p co = 0) : (0 ≤ d ∧ d < nd) ∧ (p = 1 ∨ p = 2) ∧ 0 ≤ co ∧ co ≤ 7 := by
 unfold hzErr at h
 split at h
 ·cases h
 split at h
 ·cases h
 split at h
 ·cases h
 split at h
 ·cases h
 split at h
 ·cases h
 omega
/-- in, at any valid state. -/
theorem in_ok {An Ad As Al Ap : Option Addr} {nn cn nd cd n c nl cl np cp : Nat} {ns : List Nd} {ds : List Dv} {s : List Int} {ls : List Lk} {pr : List Int} {w : World} (h : HzMem w An Ad As Al Ap nn cn nd cd n c nl cl np cp ns ds s ls pr) (h0 : stateErr ns ds s = 0) {d p co : Int} (he : hzErr nd d p co = 0) :
  ∃ x : Dv, ds[d.toNat]? = some x ∧ Calls Tryz.prog 37 #[.agg #[.slice An nn cn, .slice Ad nd cd], .slice As n c, .agg #[.int .i64 d, .int .i64 p], .agg #[.int .i64 co, .slice Al nl cl, .slice Ap np cp]] w (IntsPost w (hzAt nn ns ds s d.toNat p co ls pr x)) := by
 obtain ⟨h1, h2, h3⟩ := h.ln
 obtain ⟨hd, hp, _⟩ := hzErr_ok he
 obtain ⟨k, rfl⟩ := Int.eq_ofNat_of_zero_le hd.1
 obtain ⟨hc, hsl⟩ := stateErr_net h0
 have H := NetOk.of hc
 have hk : k < ds.length := by omega
 have hx : ds[k]? = some (ds[k]'hk) := List.getElem?_eq_getElem hk
 have E := H.e; have A := H.a; have nl := H.nl; have dl := H.dl
 rw [h1] at E A
 refine ⟨_, hx, ?_⟩
 exact in_any An Ad As Al Ap nn cn nd cd n c _ cl np cp _ _ _ _ _ k p co ns ds s ls pr _ w h.la h.hn (Nat.le_refl _) h.hd (Nat.le_refl _) h.hs (Nat.le_refl _) h.hl (Nat.le_refl _) h.hp (Nat.le_refl _) h.sn h.sd h0 (by omega) (by omega) (by omega) (by omega) hx E A hp (H.k _ (List.getElem_mem hk))
def inErr (ns : List Nd) (ds : List Dv) (s : List Int) (d p co : Int) : Int := if stateErr ns ds s = 0 then hzErr ds.length d p co else stateErr ns ds s
def InPost (w : World) (ns : List Nd) (ds : List Dv) (s : List Int) (d p co : Int) (ls : List Lk) (pr : List Int) (e : Ending) (w' : World) : Prop :=
 (inErr ns ds s d p co ≠ 0 ∧ e = .returned (.tuple #[.slice none 0 0, .int .i64 (inErr ns ds s d p co)]) ∨ inErr ns ds s d p co = 0 ∧ ∃ (A : Option Addr) (k c : Nat) (x : Dv), ds[d.toNat]? = some x ∧ e = .returned (.tuple #[.slice A k c, .int .i64 0]) ∧ Hid (IntsO w' w.heap.size A k c (hzAt ns.length ns ds s d.toNat p co ls pr x))) ∧ Hid (Below w.heap.size w w')
set_option maxRecDepth 100000 in
set_option maxHeartbeats 4000000 in
theorem In_any (An Ad As Al Ap : Option Addr) (nn cn nd cd n c nl cl np cp : Nat) (ns : List Nd) (ds : List Dv) (s : List Int) (ls : List Lk) (pr : List Int) (d p co : Int) (w : World) (h : HzMem w An Ad As Al Ap nn cn nd cd n c nl cl np cp ns ds s ls pr) :
  Calls Tryz.prog 15 #[.agg #[.slice An nn cn, .slice Ad nd cd], .slice As n c, .agg #[.int .i64 d, .int .i64 p], .agg #[.int .i64 co, .slice Al nl cl, .slice Ap np cp]] w (InPost w ns ds s d p co ls pr) := by
 obtain ⟨hln, hld, hls⟩ := h.ln
 have hndm := h.hd.le
 have HB := Lib.hid (Bx3.new w #[.slice An nn cn, .slice Ad nd cd] #[.int .i64 d, .int .i64 p] #[.int .i64 co, .slice Al nl cl, .slice Ap np cp])
 have HH := Lib.hid h
 clear h
 have HIE : Hid (inErr ns ds s d p co = if stateErr ns ds s = 0 then hzErr nd d p co else stateErr ns ds s) := by unfold Hid inErr; rw [hld]
 go_enter Tryz.func15, Tryz.ntmps15
 go_wp2_with fail
 generalize World.alloc (World.alloc (World.alloc w _) _) _ = W at *
 have HM := Lib.hid (HH.out.below HB.out.bl)
 have HC := Lib.hid (mstate_any An Ad As nn cn nd cd n c W.heap.size W.heap.size W.heap.size ns ds s W HM.out.la HM.out.hn HM.out.hd HM.out.hs (Nat.le_refl _) (Nat.le_refl _) (Nat.le_refl _) HM.out.sn HM.out.sd)
 refine HC.out.mono ?_
 rintro e w1 ⟨rfl, hb1⟩
 have HB1 := Lib.hid (HB.out.later hb1)
 clear hb1 HC HM HB
 by_cases h0 : stateErr ns ds s = 0; rotate_left
 ·have q : (stateErr ns ds s == 0) = false := by simpa using h0
  have q2 : (stateErr ns ds s != 0) = true := by simpa using h0
  have HR : Hid (inErr ns ds s d p co = stateErr ns ds s) := by unfold Hid; rw [HIE.out, if_neg h0]
  have H0 := Lib.hid h0
  clear h0 HIE
  go_wp2_with fail
  go_ret2
  exact ⟨.inl ⟨by rw [HR.out]; exact H0.out, by rw [HR.out]; rfl⟩, HB1.out.bl⟩
 have HR : Hid (inErr ns ds s d p co = hzErr nd d p co) := by unfold Hid; rw [HIE.out, if_pos h0]
 have H0 := Lib.hid h0
 clear HIE
 rw [h0]
 clear h0
 obtain ⟨⟨k0, k1⟩, ⟨o0, o1⟩, g0, g1, g2⟩ := HB1.out.cells
 go_wp2_with fail
 clear k0 k1 o0 o1 g0 g1 g2
 refine (hzcheck_any An Ad Al Ap nn cn nd cd nl cl np cp d p co w1 (by omega)).mono ?_
 rintro e w2 ⟨rfl, hb2⟩
 have HB2 := Lib.hid (HB1.out.later hb2)
 clear hb2 HB1
 by_cases he : hzErr nd d p co = 0; rotate_left
 ·have q : (hzErr nd d p co != 0) = true := by simpa using he
  have HE := Lib.hid he
  clear he
  go_wp2_with fail
  go_ret2
  exact ⟨.inl ⟨by rw [HR.out]; exact HE.out, by rw [HR.out]; rfl⟩, HB2.out.bl⟩
 have HE := Lib.hid he
 rw [he] at HR ⊢
 clear he
 obtain ⟨x, hx, hin⟩ := in_ok (HH.out.below HB2.out.bl) H0.out HE.out
 have HIN := Lib.hid hin; have HX := Lib.hid hx
 clear hin hx
 obtain ⟨⟨k0, k1⟩, ⟨o0, o1⟩, g0, g1, g2⟩ := HB2.out.cells
 go_wp2_with fail
 clear k0 k1 o0 o1 g0 g1 g2
 refine HIN.out.mono ?_
 rintro e w3 ⟨A, ca, rfl, hO, hb3⟩
 go_wp2_with fail
 go_ret2
 exact ⟨.inr ⟨HR.out, A, _, ca, x, HX.out, rfl, by subst hln; exact hO.out.mono HB2.out.bl.size⟩, HB2.out.bl.trans (hb3.out.mono HB2.out.bl.size)⟩
def stsErr (ns : List Nd) (ds : List Dv) (m : List Int) (d p co : Int) : Int := if maskErr ns ds m = 0 then (if hzErr ds.length d p co = 0 then cErr m else hzErr ds.length d p co) else maskErr ns ds m
def StsPost (w : World) (ns : List Nd) (ds : List Dv) (m : List Int) (d p co : Int) (e : Ending) (w' : World) : Prop :=
 (stsErr ns ds m d p co ≠ 0 ∧ e = .returned (.tuple #[.slice none 0 0, .int .i64 (stsErr ns ds m d p co)]) ∨ stsErr ns ds m d p co = 0 ∧ ∃ (A : Option Addr) (k c : Nat), e = .returned (.tuple #[.slice A k c, .int .i64 0]) ∧ Hid (RowsAt w' w'.heap.size A k c (allOf m))) ∧ Hid (Below w.heap.size w w')
set_option maxRecDepth 100000 in
set_option maxHeartbeats 4000000 in
theorem states_any (An Ad As Al Ap : Option Addr) (nn cn nd cd n c nl cl np cp : Nat) (ns : List Nd) (ds : List Dv) (m : List Int) (ls : List Lk) (pr : List Int) (d p co : Int) (w : World) (h : HzMem w An Ad As Al Ap nn cn nd cd n c nl cl np cp ns ds m ls pr) :
  Calls Tryz.prog 42 #[.agg #[.slice An nn cn, .slice Ad nd cd], .slice As n c, .agg #[.int .i64 d, .int .i64 p], .agg #[.int .i64 co, .slice Al nl cl, .slice Ap np cp]] w (StsPost w ns ds m d p co) := by
 obtain ⟨hln, hld, hls⟩ := h.ln
 have hndm := h.hd.le
 have HB := Lib.hid (Bx3.new w #[.slice An nn cn, .slice Ad nd cd] #[.int .i64 d, .int .i64 p] #[.int .i64 co, .slice Al nl cl, .slice Ap np cp])
 have HH := Lib.hid h
 clear h
 have HIE : Hid (stsErr ns ds m d p co = if maskErr ns ds m = 0 then (if hzErr nd d p co = 0 then cErr m else hzErr nd d p co) else maskErr ns ds m) := by unfold Hid stsErr; rw [hld]
 go_enter Tryz.func42, Tryz.ntmps42
 go_wp2_with fail
 generalize World.alloc (World.alloc (World.alloc w _) _) _ = W at *
 have HM := Lib.hid (HH.out.below HB.out.bl)
 have HC := Lib.hid (mcheckm_any An Ad As nn cn nd cd n c W.heap.size W.heap.size W.heap.size ns ds m W HM.out.la HM.out.hn HM.out.hd HM.out.hs (Nat.le_refl _) (Nat.le_refl _) (Nat.le_refl _) HM.out.sn HM.out.sd)
 refine HC.out.mono ?_
 rintro e w1 ⟨rfl, hb1⟩
 have HB1 := Lib.hid (HB.out.later hb1)
 clear hb1 HC HM HB
 by_cases h0 : maskErr ns ds m = 0; rotate_left
 ·have q : (maskErr ns ds m == 0) = false := by simpa using h0
  have q2 : (maskErr ns ds m != 0) = true := by simpa using h0
  have HR : Hid (stsErr ns ds m d p co = maskErr ns ds m) := by unfold Hid; rw [HIE.out, if_neg h0]
  have H0 := Lib.hid h0
  clear h0 HIE
  go_wp2_with fail
  go_ret2
  exact ⟨.inl ⟨by rw [HR.out]; exact H0.out, by rw [HR.out]; rfl⟩, HB1.out.bl⟩
 have HR : Hid (stsErr ns ds m d p co = if hzErr nd d p co = 0 then cErr m else hzErr nd d p co) := by unfold Hid; rw [HIE.out, if_pos h0]
 have H0 := Lib.hid h0
 clear HIE
 rw [h0]
 clear h0
 obtain ⟨⟨k0, k1⟩, ⟨o0, o1⟩, g0, g1, g2⟩ := HB1.out.cells
 go_wp2_with fail
 clear k0 k1 o0 o1 g0 g1 g2
 refine (hzcheck_any An Ad Al Ap nn cn nd cd nl cl np cp d p co w1 (by omega)).mono ?_
 rintro e w2 ⟨rfl, hb2⟩
 have HB2 := Lib.hid (HB1.out.later hb2)
 clear hb2 HB1
 by_cases he : hzErr nd d p co = 0; rotate_left
 ·have q : (hzErr nd d p co != 0) = true := by simpa using he
  have HE := Lib.hid he
  have HR2 : Hid (stsErr ns ds m d p co = hzErr nd d p co) := by unfold Hid; rw [HR.out, if_neg he]
  clear he HR
  go_wp2_with fail
  go_ret2
  exact ⟨.inl ⟨by rw [HR2.out]; exact HE.out, by rw [HR2.out]; rfl⟩, HB2.out.bl⟩
 have HR2 : Hid (stsErr ns ds m d p co = cErr m) := by unfold Hid; rw [HR.out, if_pos he]
 rw [he]
 clear he HR
 have hm64 : m.length ≤ 1000 := by
  obtain ⟨h1, h2, _⟩ := maskErr_net H0.out
  have := (NetOk.of h1).dl
  omega
 subst hls
 go_wp2_with fail
 refine (all_any As c w2.heap.size m w2 (HH.out.below HB2.out.bl).la (HH.out.below HB2.out.bl).hs (Nat.le_refl _) hm64).mono ?_
 rintro e w3 ⟨⟨h1, rfl⟩ | ⟨h1, A, k, ca, rfl, hR⟩, hb3⟩
 ·have H1 := Lib.hid h1
  clear h1
  go_wp2_with fail
  go_ret2
  exact ⟨.inl ⟨by rw [HR2.out]; exact H1.out, by rw [HR2.out]; rfl⟩, HB2.out.bl.trans (hb3.out.mono HB2.out.bl.size)⟩
 ·have H1 := Lib.hid h1
  clear h1
  go_wp2_with fail
  go_ret2
  exact ⟨.inr ⟨by rw [HR2.out]; exact H1.out, A, k, ca, rfl, hR⟩, HB2.out.bl.trans (hb3.out.mono HB2.out.bl.size)⟩
end Go.Proofs.YtnpfkiidhidjbaaGreatDoor
