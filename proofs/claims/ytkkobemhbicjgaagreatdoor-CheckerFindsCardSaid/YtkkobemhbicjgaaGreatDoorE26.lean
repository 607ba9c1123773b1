import Derived.Test.YtkkobemhbicjgaaGreatDoorE24
import Derived.Test.YtkkobemhbicjgaaGreatDoorE25
import Derived.Test.YtkkobemhbicjgaaGreatDoorE17
import Derived.Test.YtkkobemhbicjgaaGreatDoorShelf
import Derived.Sort.OwnSortedInts
import Derived.Shelf.SlicesE.DeleteFunc
import Derived.Lib.SliceRun
set_option maxRecDepth 100000
set_option maxHeartbeats 4000000
namespace Go.Proofs.YtkkobemhbicjgaaGreatDoor
section
open Go.RowKit
structure LwN (w : World) (nb : Nat) (An : Option Addr) (nn cn : Nat) (ns : List Nd) (Ad : Option Addr) (nd cd : Nat) (ds : List Dv) (wr : World) : Prop where
 dk : zP wr w.heap.size
 bx : Blk wr nb 30 #[.slice An nn cn, .slice Ad nd cd]
 hn : SlX wr w.heap.size 3 An nn cn (ns.flatMap Nd.cells)
 hd : SlX wr w.heap.size 5 Ad nd cd (ds.flatMap Dv.cells)
 bl : Below w.heap.size w wr
 ge : w.heap.size < nb
 la : Laid wr
section
variable {w wr wr' : World} {nb nn cn nd cd : Nat} {An Ad : Option Addr} {ns : List Nd} {ds : List Dv}
theorem LwN.grown (h : LwN w nb An nn cn ns Ad nd cd ds wr) (hl : Laid w) (hg : wr.grownBy wr' (some w.heap.size)) (hd : zP wr' w.heap.size) : LwN w nb An nn cn ns Ad nd cd ds wr' :=
 ⟨hd, h.bx.grown hg (fun e => by have := h.ge; injection e; omega), h.hn.grown hg, h.hd.grown hg, h.bl.trans (zz hg lR h.bl.size), h.ge, h.la.grown hl hg lR⟩
theorem LwN.later (h : LwN w nb An nn cn ns Ad nd cd ds wr) (hb : Below wr.heap.size wr wr') : LwN w nb An nn cn ns Ad nd cd ds wr' :=
 ⟨h.dk.grown (zL hb none) (fun k e => by cases e), h.bx.below hb h.bx.lt, h.hn.below hb, h.hd.below hb, h.bl.trans (hb.mono h.bl.size), h.ge, h.la.below hb lR⟩
theorem LwN.mk0 {w1 w2 : World} {nodes dmax : Int} (hl : Laid w) (hb1 : Below w.heap.size w w1) (hs1 : w1.heap.size = w.heap.size + 1) (hd2 : zP w2 w.heap.size) (hg2 : w1.grownBy w2 (some w.heap.size))
 (hrn : w2.ownsRow (w1.heap.size + 4) 85 3 (.slice An nn cn) nn (ns.flatMap Nd.cells)) (hrd : w2.ownsRow (w1.heap.size + 4) 57 5 (.slice Ad nd cd) nd (ds.flatMap Dv.cells)) (_hm : vr nodes dmax ns ds) :
 LwN w w2.heap.size An nn cn ns Ad nd cd ds (w2.alloc (.cells #[.slice An nn cn, .slice Ad nd cd] 30)) ∧ ns.length = nn ∧ ds.length = nd := by
 have hb2 : Below w.heap.size w w2 := hb1.trans (zz hg2 lR (by omega))
 refine ⟨⟨hd2.alloc _, Blk.new _ _ _, (SlX.of_own hrn (by omega)).alloc _, (SlX.of_own hrd (by omega)).alloc _, hb2.alloc hb2.size _, ?_, (hl.below hb2 lR).alloc _⟩, (Sl.of_own hrn).len (fun _ => rfl) (by decide), (Sl.of_own hrd).len (fun _ => rfl) (by decide)⟩
 have := hg2.size; omega
end
end
section
open Go.RowKit
structure oL (g : Nat) (P : World → Prop) : Prop where
 later : ∀ {wr wr' : World}, P wr → Below wr.heap.size wr wr' → P wr'
 grown : ∀ {wr wr' : World}, P wr → wr.grownBy wr' (some g) → zP wr' g → P wr'
theorem oL.and {g : Nat} {P Q : World → Prop} (hp : oL g P) (hq : oL g Q) : oL g fun w => P w ∧ Q w := ⟨fun h hb => ⟨hp.later h.1 hb, hq.later h.2 hb⟩, fun h hg hd => ⟨hp.grown h.1 hg hd, hq.grown h.2 hg hd⟩⟩
theorem oL.blk {g b : Nat} {t : TypeId} {cs : Array Value} (hne : b ≠ g) : oL g fun w => Blk w b t cs := ⟨fun h hb => h.below hb h.lt, fun h hg _ => h.grown hg (fun e => hne (by injection e))⟩
theorem SlX.nil (w : World) (g size : Nat) : SlX w g size none 0 0 [] := ⟨Sl.nil _ _ _, fun b off e => by cases e⟩
theorem oL.drew {g : Nat} {P : World → Prop} (hk : oL g P) {w : World} (h : P w) : P w.drew := hk.later h (Below.refl _ _).drew
end
section
open Go.RowKit
section
variable {P : Program} {ops : Array Oper} {Q : Exit → Act → World → Prop} {md : Region.Mode} {S : World → Prop} {J : List Nat}
section
variable {A : Act} {L : List (Nat × Value)} {w : World} {n i d : Nat} {oi : Oper} {v : Value} {R : Act → World → Prop}
theorem qN {w' : World} (hi : ops[i]? = some oi) (hd : oi.dst = some d) (hg : oi.guard = none)
 (hv : ∀ ρ : Operand → Value, Rd A L ρ → (execOp ρ oi).run P w = .ok (.value v) w') (h : R (yF A ((d, v) :: L)) w') : wpOp P ops Q i R (yF A L) w := by
 simp only [wpOp, hi, zH hg, if_true]
 refine .inl ?_
 rw [Oper.wp, hv _ rfl, Oper.upon_value, hd]
 exact h
def km (b : Bool) (k : Nat) (v : Value) : List (Nat × Value) := if b = true then [(k, v)] else []
theorem kY (a : Act) {k1 k2 : Nat} (h : k1 ≠ k2) (v1 v2 : Value) : (a.put (some k1) v1).put (some k2) v2 = (a.put (some k2) v2).put (some k1) v1 := by
 simp only [Act.put]
 rw [Array.setIfInBounds_comm _ _ h]
theorem mz (A : Act) (L : List (Nat × Value)) {k1 k2 : Nat} (h : k1 ≠ k2) (v1 v2 : Value) : yF A ((k1, v1) :: (k2, v2) :: L) = yF A ((k2, v2) :: (k1, v1) :: L) := by
 simp only [yF]
 exact kY _ (Ne.symm h) _ _
theorem kX (A : Act) (L : List (Nat × Value)) {k1 k2 : Nat} (h : k1 ≠ k2) (b : Bool) (v1 v2 : Value) : yF A ((k1, v1) :: (km b k2 v2 ++ L)) = yF A (km b k2 v2 ++ ((k1, v1) :: L)) := by
 cases b
 ·rfl
 ·exact mz A L h v1 v2
end
def ptr (x : Nat) : Value := .pointer (some ⟨x, 0, none⟩)
structure xA (H : Nat) (T7 T8 : TypeId) (z7 z8 : Array Value) (b7 b8 : Bool) (x7 x8 : Nat) (w : World) : Prop where
 le : H ≤ w.heap.size
 m7 : b7 = true → Blk w x7 T7 z7 ∧ H ≤ x7
 m8 : b8 = true → Blk w x8 T8 z8 ∧ H ≤ x8
 ne : b7 = true → b8 = true → x7 ≠ x8
section
variable {H x7 x8 g : Nat} {T7 T8 : TypeId} {z7 z8 : Array Value} {b7 b8 : Bool} {w w' : World}
theorem xA.later (h : xA H T7 T8 z7 z8 b7 b8 x7 x8 w) (hb : Below w.heap.size w w') : xA H T7 T8 z7 z8 b7 b8 x7 x8 w' :=
 ⟨Nat.le_trans h.le hb.size, fun e => ⟨(h.m7 e).1.below hb (h.m7 e).1.lt, (h.m7 e).2⟩, fun e => ⟨(h.m8 e).1.below hb (h.m8 e).1.lt, (h.m8 e).2⟩, h.ne⟩
theorem xA.grown (h : xA H T7 T8 z7 z8 b7 b8 x7 x8 w) (hg : w.grownBy w' (some g)) (hl : g < H) : xA H T7 T8 z7 z8 b7 b8 x7 x8 w' :=
 ⟨Nat.le_trans h.le hg.size, fun e => ⟨(h.m7 e).1.grown hg (fun e2 => by have := (h.m7 e).2; injection e2 with e2; omega), (h.m7 e).2⟩, fun e => ⟨(h.m8 e).1.grown hg (fun e2 => by have := (h.m8 e).2; injection e2 with e2; omega), (h.m8 e).2⟩, h.ne⟩
theorem xA.start (w : World) (x7 x8 : Nat) : xA w.heap.size T7 T8 z7 z8 false false x7 x8 w := ⟨Nat.le_refl _, fun e => (by cases e), fun e => (by cases e), fun e => (by cases e)⟩
theorem xA.one7 (h : xA H T7 T8 z7 z8 b7 b8 x7 x8 w) : xA H T7 T8 z7 z8 true b8 w.heap.size x8 (w.alloc (.cells z7 T7)) :=
 ⟨by have := h.le; simp; omega, fun _ => ⟨Blk.new _ _ _, h.le⟩, fun e => ⟨(h.m8 e).1.alloc _, (h.m8 e).2⟩, fun _ e => by have := (h.m8 e).1.lt; omega⟩
theorem xA.one8 (h : xA H T7 T8 z7 z8 b7 b8 x7 x8 w) : xA H T7 T8 z7 z8 b7 true x7 w.heap.size (w.alloc (.cells z8 T8)) :=
 ⟨by have := h.le; simp; omega, fun e => ⟨(h.m7 e).1.alloc _, (h.m7 e).2⟩, fun _ => ⟨Blk.new _ _ _, h.le⟩, fun e _ => by have := (h.m7 e).1.lt; omega⟩
end
def gc : List (Nat × Nat) → List Value → List (Nat × Value)
 | c :: cs, v :: vs => gc cs vs ++ [(c.2, v)]
 | _, _ => []
def gu (A : Act) (L0 : List (Nat × Value)) (i7 i8 d7 d8 H : Nat) (T7 T8 : TypeId) (z7 z8 : Array Value) (Cs : List (Nat × Nat)) (F : List Value → World → Prop) (C D : List Nat) (a : Act) (w : World) : Prop :=
 ∃ (vs : List Value) (x7 x8 : Nat), C = (Cs.drop vs.length).map (·.1) ∧ D.Nodup ∧ (∀ i ∈ D, i = i7 ∨ i = i8) ∧ a = yF A (km (!D.contains i8) d8 (ptr x8) ++ (km (!D.contains i7) d7 (ptr x7) ++ (gc Cs vs ++ L0))) ∧ F vs w ∧ xA H T7 T8 z7 z8 (!D.contains i7) (!D.contains i8) x7 x8 w
section
variable {A : Act} {L0 : List (Nat × Value)} {i7 i8 d7 d8 H n : Nat} {T7 T8 : TypeId} {z7 z8 : Array Value} {Cs : List (Nat × Nat)} {F : List Value → World → Prop} {C D : List Nat} {a : Act} {w : World} {o7 o8 : Oper}
theorem xT {D : List Nat} (h : D.Nodup) (i : Nat) : (D.erase i).contains i = false := by
 rw [← Bool.not_eq_true, List.contains_iff_mem]; exact h.not_mem_erase
theorem wH {D : List Nat} {i j : Nat} (h : j ≠ i) : (D.erase i).contains j = D.contains j := by
 rw [Bool.eq_iff_iff, List.contains_iff_mem, List.contains_iff_mem, List.mem_erase_of_ne h]
theorem gu.alloc (hF : ∀ vs w o, F vs w → F vs (w.alloc o)) (h78 : i7 ≠ i8) (hd : d7 ≠ d8) (h7 : ops[i7]? = some o7) (h8 : ops[i8]? = some o8) (hd7 : o7.dst = some d7) (hd8 : o8.dst = some d8) (hg7 : o7.guard = none) (hg8 : o8.guard = none)
 (hr7 : ∀ ρ : Operand → Value, ∀ w, (execOp ρ o7).run P w = .ok (.value (ptr w.heap.size)) (w.alloc (.cells z7 T7))) (hr8 : ∀ ρ : Operand → Value, ∀ w, (execOp ρ o8).run P w = .ok (.value (ptr w.heap.size)) (w.alloc (.cells z8 T8)))
 (i : Nat) (hi : i ∈ D) (h : gu A L0 i7 i8 d7 d8 H T7 T8 z7 z8 Cs F C D a w) : wpOp P ops Q i (fun a' w' => gu A L0 i7 i8 d7 d8 H T7 T8 z7 z8 Cs F C (D.erase i) a' w') a w := by
 obtain ⟨vs, x7, x8, hC, hn, hD, rfl, hf, hm⟩ := h
 have hc : D.contains i = true := by rw [List.contains_iff_mem]; exact hi
 rcases hD i hi with rfl | rfl
 ·refine qN h7 hd7 hg7 (fun ρ _ => hr7 ρ w) ?_
  refine ⟨vs, w.heap.size, x8, hC, hn.erase _, fun j hj => hD j (List.mem_of_mem_erase hj), ?_, hF _ _ _ hf, ?_⟩
  ·rw [xT hn, wH (Ne.symm h78), hc]
   exact kX A _ hd _ _ _
  ·rw [xT hn, wH (Ne.symm h78)]
   exact hm.one7
 ·refine qN h8 hd8 hg8 (fun ρ _ => hr8 ρ w) ?_
  refine ⟨vs, x7, w.heap.size, hC, hn.erase _, fun j hj => hD j (List.mem_of_mem_erase hj), ?_, hF _ _ _ hf, ?_⟩
  ·rw [xT hn, wH h78, hc]
   rfl
  ·rw [xT hn, wH h78]
   exact hm.one8
end
end
end
section
open Go.RowKit
structure yy (H : Nat) (T7 : TypeId) (z7 : Array Value) (b7 : Bool) (x7 : Nat) (w : World) : Prop where
 le : H ≤ w.heap.size
 m7 : b7 = true → Blk w x7 T7 z7 ∧ H ≤ x7
section
variable {H x7 g : Nat} {T7 : TypeId} {z7 : Array Value} {b7 : Bool} {w w' : World}
theorem yy.later (h : yy H T7 z7 b7 x7 w) (hb : Below w.heap.size w w') : yy H T7 z7 b7 x7 w' :=
 ⟨Nat.le_trans h.le hb.size, fun e => ⟨(h.m7 e).1.below hb (h.m7 e).1.lt, (h.m7 e).2⟩⟩
theorem yy.grown (h : yy H T7 z7 b7 x7 w) (hg : w.grownBy w' (some g)) (hl : g < H) : yy H T7 z7 b7 x7 w' :=
 ⟨Nat.le_trans h.le hg.size, fun e => ⟨(h.m7 e).1.grown hg (fun e2 => by have := (h.m7 e).2; injection e2 with e2; omega), (h.m7 e).2⟩⟩
theorem yy.start (w : World) (x7 : Nat) : yy w.heap.size T7 z7 false x7 w := ⟨Nat.le_refl _, fun e => (by cases e)⟩
theorem yy.one (h : yy H T7 z7 b7 x7 w) : yy H T7 z7 true w.heap.size (w.alloc (.cells z7 T7)) :=
 ⟨by have := h.le; simp; omega, fun _ => ⟨Blk.new _ _ _, h.le⟩⟩
end
section
variable {P : Program} {ops : Array Oper} {Q : Exit → Act → World → Prop}
def js (A : Act) (L0 : List (Nat × Value)) (i7 d7 H : Nat) (T7 : TypeId) (z7 : Array Value) (Cs : List (Nat × Nat)) (F : List Value → World → Prop) (C D : List Nat) (a : Act) (w : World) : Prop :=
 ∃ (vs : List Value) (x7 : Nat), C = (Cs.drop vs.length).map (·.1) ∧ D.Nodup ∧ (∀ i ∈ D, i = i7) ∧ a = yF A (km (!D.contains i7) d7 (ptr x7) ++ (gc Cs vs ++ L0)) ∧ F vs w ∧ yy H T7 z7 (!D.contains i7) x7 w
theorem js.alloc {A : Act} {L0 : List (Nat × Value)} {i7 d7 H : Nat} {T7 : TypeId} {z7 : Array Value} {Cs : List (Nat × Nat)} {F : List Value → World → Prop} {C D : List Nat} {a : Act} {w : World} {o7 : Oper}
 (hF : ∀ vs w o, F vs w → F vs (w.alloc o)) (h7 : ops[i7]? = some o7) (hd7 : o7.dst = some d7) (hg7 : o7.guard = none) (hr7 : ∀ ρ : Operand → Value, ∀ w, (execOp ρ o7).run P w = .ok (.value (ptr w.heap.size)) (w.alloc (.cells z7 T7)))
 (i : Nat) (hi : i ∈ D) (h : js A L0 i7 d7 H T7 z7 Cs F C D a w) : wpOp P ops Q i (fun a' w' => js A L0 i7 d7 H T7 z7 Cs F C (D.erase i) a' w') a w := by
 obtain ⟨vs, x7, hC, hn, hD, rfl, hf, hm⟩ := h
 have hc : D.contains i = true := by rw [List.contains_iff_mem]; exact hi
 obtain rfl := hD i hi
 refine qN h7 hd7 hg7 (fun ρ _ => hr7 ρ w) ?_
 refine ⟨vs, w.heap.size, hC, hn.erase _, fun j hj => hD j (List.mem_of_mem_erase hj), ?_, hF _ _ _ hf, ?_⟩
 ·rw [xT hn, hc]; rfl
 ·rw [xT hn]; exact hm.one
end
end
section
open Go.RowKit
def xi (l : List Int) : List Int := l.mergeSort fun x y => decide (x ≤ y)
def xv (l : List Int) (x : Int) : Bool := l.contains x
theorem pi (l : List Int) (x : Int) : xv l x = true ↔ x ∈ l := by unfold xv; simp
theorem uh (l : List Int) (x : Int) : xv l x = false ↔ x ∉ l := by rw [← pi]; simp
theorem we (l : List Int) : (xi l).Perm l := List.mergeSort_perm _ _
theorem mq (l : List Int) (x : Int) : x ∈ xi l ↔ x ∈ l := (we l).mem_iff
theorem rN (l : List Int) : (xi l).length = l.length := (we l).length_eq
theorem uT (l : List Int) : (xi l).Pairwise (· ≤ ·) := by
 have h := List.pairwise_mergeSort (le := fun x y : Int => decide (x ≤ y)) (fun a b c h1 h2 => by simp at *; omega) (fun a b => by simp; omega) l
 exact h.imp (fun h => by simpa using h)
theorem pA {l : List Int} (h : l.Nodup) : (xi l).Nodup := (we l).nodup_iff.2 h
theorem qz (A : Option Addr) (n c base : Nat) (l : List Int) (w : World) (h : zO w base A n c l) (hn : n ≤ 1000000) :
 Calls Tryz.prog 170 #[.slice A n c] w fun e w' => e = .returned (.tuple #[]) ∧ Hid (zO w' base A n c (xi l)) ∧ Hid (w.grownBy w' (Value.slice A n c).ownBlock) := by
 have hl := h.len
 rcases h.2 with ⟨hv, h0⟩ | ⟨g, cap, cur, hv, hb, hh, hnc, hm, hs, ht⟩
 ·injection hv with h1 h2 h3
  subst h1 h3 h0
  have : l = [] := List.eq_nil_of_length_eq_zero hl
  subst this
  refine (Tryz.slices_Sort_int_none none 0 w).mono ?_
  rintro e w1 ⟨rfl, rfl⟩
  exact ⟨rfl, by unfold Hid xi; simpa using h, yz _ _⟩
 ·injection hv with h1 h2 h3
  subst h1 h3
  subst hl
  rw [Nat.mul_one, yI] at ht
  refine (Tryz.slices_Sort_int g 0 c l w (holds_of_blockI hh ht) (h.lt g rfl).2 (by omega)).mono ?_
  rintro e w1 ⟨rfl, k, os, rfl⟩
  refine ⟨rfl, ?_, grownBy_sortedI _⟩
  have := ownsRow_sortedI (n := k) (os := os) (ss := l) (ts := xi l) (rN l) hb hh hnc hm hs
  unfold Hid zO
  rw [yI]
  exact this
theorem xG (A : Option Addr) (n c B : Nat) (l : List Int) (x : Int) (w : World) (h : Sl w B 1 A n c (zD l)) :
 Calls Tryz.prog 63 #[.slice A n c, .int .i64 x] w fun e w' => e = .returned (.bool (xv l x)) ∧ w = w' := by
 have hl : l.length = n := h.len (fun _ => rfl) (by decide)
 have hle := h.le
 rcases Nat.eq_zero_or_pos n with rfl | h0
 ·have : l = [] := List.eq_nil_of_length_eq_zero hl
  subst this
  refine (Tryz.slices_Contains_int_empty A c x w).mono ?_
  rintro e w1 ⟨rfl, rfl⟩
  exact ⟨rfl, rfl⟩
 ·obtain ⟨b, off, e, hb, hc⟩ := h.2.2.2.2 h0
  subst e
  refine (Tryz.slices_Contains_int b off n c l x w (by omega) (by omega) (fun j hj => hc j _ ?_)).mono ?_
  ·have := vl (f := fun z => [Value.int .i64 z]) (size := 1) (fun _ => rfl) l j 0 _ (List.getElem?_eq_getElem hj) (by decide)
   rw [Nat.mul_one] at this
   rw [List.getD_eq_getElem?_getD, List.getElem?_eq_getElem hj]
   exact this
  ·rintro e w1 ⟨rfl, rfl⟩
   rw [List.take_of_length_le (by omega)]
   exact ⟨rfl, rfl⟩
end
section
open Go.RowKit
theorem uU {a l : List Int} (h : l.Perm a) (hs : l.Pairwise (· ≤ ·)) : xi a = l :=
 List.Perm.eq_of_pairwise (le := fun x y : Int => x ≤ y) (fun _ _ _ _ h1 h2 => Int.le_antisymm h1 h2) (uT a) hs ((we a).trans h.symm)
def mE (ls : List Lk) (d : Int) : Bool := ls.any fun k => decide (k.dev = d)
def lvE (c : List Int) (x : Dv) : Bool := xZ (bits .or .i64 (c.getD x.a.toNat 0) (c.getD x.b.toNat 0))
def vF (kd p du : Int) (lv : Bool) : Bool := if kd = 3 then decide (du = 2) || decide (du = 3) || decide (du = 4) else if kd = 1 then lv else if kd = 4 then decide (p = 1) && decide (du = 4) else if kd = 6 then decide (p = 2) && decide (du = 3) else decide (kd = 5)
def fc (ns : List Nd) (ds : List Dv) (s s2 : List Int) : Prop := ∃ (k : Nat) (y : Nd), ns[k]? = some y ∧ 0 < y.cust ∧ Sup ds s k ∧ ¬ Sup ds s2 k
open Classical in
noncomputable def pX (ns : List Nd) (ds : List Dv) (s s2 : List Int) : Bool := decide (fc ns ds s s2)
def wD (b : Bool) (h : Int) : List Int := if b = true then [h] else []
def hzL (f1 f2 f3 f4 f5 f6 f7 : Bool) : List Int := wD f1 1 ++ wD f2 2 ++ wD f3 3 ++ wD f4 4 ++ wD f5 5 ++ wD f6 6 ++ wD f7 7
theorem lD (b : Bool) (h x : Int) : x ∈ wD b h ↔ x = h ∧ b = true := by cases b <;> simp [wD]
theorem tg (f1 f2 f3 f4 f5 f6 f7 : Bool) (x : Int) : x ∈ hzL f1 f2 f3 f4 f5 f6 f7 ↔ x = 1 ∧ f1 = true ∨ x = 2 ∧ f2 = true ∨ x = 3 ∧ f3 = true ∨ x = 4 ∧ f4 = true ∨ x = 5 ∧ f5 = true ∨ x = 6 ∧ f6 = true ∨ x = 7 ∧ f7 = true := by
 simp only [hzL, List.mem_append, lD, or_assoc]
theorem lT {f1 f2 f3 f4 f5 f6 f7 : Bool} {x : Int} (h : x ∈ hzL f1 f2 f3 f4 f5 f6 f7) : 1 ≤ x ∧ x ≤ 7 := by
 rw [tg] at h; omega
theorem yB (b : Bool) (h : Int) : (wD b h).length ≤ 1 := by cases b <;> simp [wD]
theorem iT (f1 f2 f3 f4 f5 f6 f7 : Bool) : (hzL f1 f2 f3 f4 f5 f6 f7).length ≤ 7 := by
 have h1 := yB f1 1; have h2 := yB f2 2; have h3 := yB f3 3; have h4 := yB f4 4; have h5 := yB f5 5; have h6 := yB f6 6; have h7 := yB f7 7
 simp only [hzL, List.length_append]; omega
def uK (fs : List (Int × Bool)) : List Int := (fs.filter (·.2)).map (·.1)
theorem fw (a b c : Bool) : xi (uK [(4, a), (6, b), (7, c)]) = hzL false false false a false b c := by
 cases a <;> cases b <;> cases c <;> exact uU (by decide) (by decide)
theorem ft (a b c d e f : Bool) : xi (uK [(4, a), (6, b), (1, c), (2, d), (3, e), (5, f)]) = hzL c d e a f b false := by
 cases a <;> cases b <;> cases c <;> cases d <;> cases e <;> cases f <;> exact uU (by decide) (by decide)
noncomputable def xu (nn : Nat) (ns : List Nd) (ds : List Dv) (s : List Int) (d : Nat) (p co : Int) (ls : List Lk) (pr : List Int) (x : Dv) : List Int :=
 if s.getD d 0 = p then hzL false false false (mE ls d) false ((x.comp != co)) true
 else hzL (decide (p = 2) && decide (wo nn ns ds s d x = 4)) (vF x.kind p (wo nn ns ds s d x) (lvE (zh nn ds s) x)) (pX ns ds s (ye s d p)) (mE ls d) (decide (p = 2) && decide (x.kind = 4) && !xv pr x.a) ((x.comp != co)) false
theorem nH {nn : Nat} {ns : List Nd} {ds : List Dv} {s : List Int} {d : Nat} {p co : Int} {ls : List Lk} {pr : List Int} {x : Dv} {h : Int} (hh : h ∈ xu nn ns ds s d p co ls pr x) : 1 ≤ h ∧ h ≤ 7 := by
 unfold xu at hh; split at hh <;> exact lT hh
theorem jT (nn : Nat) (ns : List Nd) (ds : List Dv) (s : List Int) (d : Nat) (p co : Int) (ls : List Lk) (pr : List Int) (x : Dv) : (xu nn ns ds s d p co ls pr x).length ≤ 7 := by
 unfold xu; split <;> exact iT _ _ _ _ _ _ _
def hX (nn : Nat) (ns : List Nd) (ds : List Dv) (l : List (List Int)) (md : Int) (d : Nat) (p co : Int) (ls : List Lk) (pr : List Int) (x : Dv) (h : Int) : Prop := ∃ s ∈ l, h ∈ xu nn ns ds s d p co ls pr x ∧ (h ≠ 7 ∨ md = p)
def jo (F : Int → Prop) (out : List Int) : Prop := out.Nodup ∧ out.Pairwise (· ≤ ·) ∧ ∀ h : Int, h ∈ out ↔ F h
theorem jo.unique {F : Int → Prop} {a b : List Int} (h : jo F a) (k : jo F b) : a = b := by
 rw [← uU (List.Perm.refl a) h.2.1]
 exact uU ((List.perm_ext_iff_of_nodup k.1 h.1).2 fun x => (k.2.2 x).trans (h.2.2 x).symm) k.2.1
end
section
open Go.RowKit
def fnC (f : Int × Bool) : List Value := [.int .i64 f.1, .bool f.2]
theorem ja {fs : List (Int × Bool)} {i : Nat} {h : Int} {b : Bool} (hx : fs[i]? = some (h, b)) : uK (fs.take (i + 1)) = uK (fs.take i) ++ wD b h := by
 unfold uK
 rw [zQ hx, List.filter_append, List.map_append]
 cases b <;> rfl
theorem mN : ∀ fs : List (Int × Bool), (uK fs).length ≤ fs.length := fun fs => by
 unfold uK; rw [List.length_map]; exact List.length_filter_le _ _
def LsR (w : World) (fs : List (Int × Bool)) (n gk : Nat) (ov iv : Value) (wr : World) : Prop := ∃ (i m co : Nat) (Ao : Option Addr), iv = .int .i64 i ∧ ov = .slice Ao m co ∧ i ≤ n ∧ gk = n - i ∧ Hid (zO wr w.heap.size Ao m co (uK (fs.take i))) ∧ Hid (Below w.heap.size w wr)
theorem ug (A : Option Addr) (n c B : Nat) (fs : List (Int × Bool)) (w : World) (hs : Sl w B 2 A n c (fs.flatMap fnC)) (hB : B ≤ w.heap.size) (hn : n ≤ 1000) :
 Calls Tryz.prog 147 #[.slice A n c] w (yx w (xi (uK fs))) := by
 have HLN := iD (hs.len (fun _ => rfl) (by decide)); have HS := iD hs
 have hle := hs.le
 clear hs
 go_enter Tryz.func147, Tryz.ntmps147
 go_wp2_with fail
 go_loopg [3, 8] n (LsR w fs n)
 case atStart => exact ⟨0, 0, 0, none, rfl, rfl, Nat.zero_le _, rfl, World.ownsRow_nil _ _ _ _, Below.refl _ _⟩
 case round =>
  obtain ⟨i, m, co, Ao, rfl, rfl, hi, rfl, hO, hbl⟩ := hrel
  by_cases hlt : i < n
  ·obtain ⟨b, off, f, rfl, hb, hf, hc⟩ := (HS.out.below hbl.out hB).at (fun _ => rfl) (by decide) hlt
   obtain ⟨h, t⟩ := f
   have c0 : wr.cell? ⟨b, off + i * 2, none⟩ = some (.int .i64 h) := hc 0 _ rfl
   have c1 : wr.cell? ⟨b, off + i * 2 + 1, none⟩ = some (.bool t) := hc 1 _ rfl
   have HF := iD (ja hf)
   have HBA : Hid (Below w.heap.size w (wr.alloc (.cells #[.int .i64 h, .bool t] 185))) := hbl.out.alloc hbl.out.size _
   have HOA : Hid (zO (wr.alloc (.cells #[.int .i64 h, .bool t] 185)) w.heap.size Ao m co (uK (fs.take i))) := hO.out.alloc _
   have hml : m ≤ i := by have h1 := mN (fs.take i); have h2 := hO.out.len; rw [List.length_take] at h1; omega
   clear hc hf
   rcases t with _ | _
   ·have HO1 : Hid (zO (wr.alloc (.cells #[.int .i64 h, .bool false] 185)) w.heap.size Ao m co (uK (fs.take (i + 1)))) := by
     unfold Hid; rw [HF.out, show wD false h = [] from rfl, List.append_nil]; exact HOA.out
    go_wp2_with fail
    go_roundg (n - (i + 1))
    case rel => exact ⟨i + 1, m, co, Ao, by go_num, rfl, by omega, rfl, HO1, HBA⟩
    case measure => omega
   ·have hzz := HBA.out.size
    have HCX : Hid ((wr.alloc (.cells #[.int .i64 h, .bool true] 185)).cell? ⟨wr.heap.size, 0, none⟩ = some (.int .i64 h)) := (Blk.new wr 185 #[.int .i64 h, .bool true]).cell 0
    go_upto_region 6 with (fail)
    generalize World.alloc wr _ = wq at *
    clear c0 c1
    have k0 := HCX.out
    go_wp2_with (at_builtin; go_must (refine zR rfl (.tmp 14) (.tmp 17) rfl xF (by rfl) (HOA.out.alloc _) (by rfl) (Sl.newest (n := 1) (by simp) (by rfl) (by decide)) (by simp [Value.oneCell']) (by omega) (by omega) (by simp; omega) ?_; intro A' cap' w3 hown3 hgr3 hat3; have HO3 := iD hown3; have HG3 := iD hgr3; clear hown3 hgr3 hat3))
    go_roundg (n - (i + 1))
    case rel =>
     refine ⟨i + 1, m + 1, cap', A', by go_num, rfl, by omega, rfl, ?_, ?_⟩
     ·have := HO3.out
      unfold Hid zO
      rw [HF.out, show wD true h = [h] from rfl, zq]
      exact this
     ·refine (HBA.out.alloc HBA.out.size _).trans ⟨HG3.out.os, HG3.out.tape, HG3.out.output, HG3.out.size, fun i hi => HG3.out.block i (by simp; omega) (fun e => ?_)⟩
      have := (HOA.out.lt i e.symm).1
      omega
    case measure => omega
  ·obtain rfl : i = n := by omega
   have hii : decide (i < i) = false := by simp
   have hml : m ≤ i := by have h1 := mN (fs.take i); have h2 := hO.out.len; rw [List.length_take] at h1; omega
   have HT : Hid (fs.take i = fs) := List.take_of_length_le (by rw [HLN.out]; exact Nat.le_refl _)
   rw [HT.out] at hO
   have HLS : Hid ((xi (uK fs)).length = m) := by unfold Hid; rw [rN]; exact hO.out.len
   clear HS
   go_wp2_with fail
   refine (qz Ao m co w.heap.size (uK fs) wr hO.out (by omega)).mono ?_
   rintro e w5 ⟨rfl, hO5, hg5⟩
   go_wp2_with fail
   go_ret
   refine ⟨Ao, co, by rw [HLS.out]; rfl, by unfold Hid; rw [HLS.out]; exact hO5.out, hbl.out.trans ⟨hg5.out.os, hg5.out.tape, hg5.out.output, hg5.out.size, fun q hq => hg5.out.block q (by have := hbl.out.size; omega) (fun e => by have := (hO.out.lt q e.symm).1; omega)⟩⟩
theorem pe (An Ad As : Option Addr) (nn cn nd cd n c Bd Bs i : Nat) (ds : List Dv) (s : List Int) (x : Dv) (w : World) (hd : Sl w Bd 5 Ad nd cd (ds.flatMap Dv.cells)) (hBd : Bd ≤ w.heap.size) (hs : Sl w Bs 1 As n c (zD s)) (hBs : Bs ≤ w.heap.size)
 (hnn : nn ≤ 10000) (hnd : nd ≤ 10000) (hl : nd ≤ n) (hends : yo nn ds) (hA : AOk nn ds) (hi : i < nd) (hx : ds[i]? = some x) (hk : zc x.kind = true) :
 Calls Tryz.prog 180 #[.agg #[.slice An nn cn, .slice Ad nd cd], .slice As n c, .int .i64 i] w fun e w' => e = .returned (.bool (lvE (zh nn ds s) x)) ∧ Below w.heap.size w w' := by
 have HCK := iD (xy An Ad As nn cn nd cd n c Bd Bs ds s (w.alloc (.cells #[.slice An nn cn, .slice Ad nd cd] 30)) (hd.alloc hBd _) (by simp; omega) (hs.alloc hBs _) (by simp; omega) hnn hnd hl hends hA)
 have HD := iD hd; have HX := iD hx
 have hdl := hd.le
 have HEX := iD (hends x (List.mem_of_getElem? hx) hk)
 have HB := iD (Blk.new w 30 #[.slice An nn cn, .slice Ad nd cd])
 have HW : Hid (Below w.heap.size w (w.alloc (.cells #[.slice An nn cn, .slice Ad nd cd] 30))) := (Below.refl _ _).alloc lR _
 clear hd hs hends hA hx hk
 go_enter Tryz.func180, Tryz.ntmps180
 go_wp2_with fail
 generalize World.alloc _ _ = w1 at *
 obtain ⟨nb, hnb⟩ : ∃ nb, nb = w.heap.size := ⟨_, rfl⟩
 rw [← hnb] at HB ⊢
 clear hnb
 refine HCK.out.mono ?_
 rintro e w2 ⟨A1, A2, P, C, rfl, _, hOc, _, hIC, hb2⟩
 have HBX := iD (HB.out.below hb2.out HB.out.lt)
 have HBW := iD (HW.out.trans (hb2.out.mono HW.out.size))
 have HCE : Hid (zh nn ds s = C) := xn hIC.out
 have HSC := iD hOc.out.sl
 clear HCK HB HW hb2 hOc
 obtain ⟨b0, off, x', rfl, hb, hx', hc⟩ := (HD.out.below HBW.out hBd).at (fun _ => rfl) (by decide) hi
 obtain rfl : x = x' := by have := HX.out; rw [this] at hx'; exact Option.some.inj hx'
 obtain ⟨nm, kd, a, b, co⟩ := x
 obtain ⟨⟨ha0, ha1⟩, hb0, hb1⟩ := HEX.out
 simp only at ha0 ha1 hb0 hb1
 obtain ⟨ka, rfl⟩ := Int.eq_ofNat_of_zero_le ha0
 obtain ⟨kb, rfl⟩ := Int.eq_ofNat_of_zero_le hb0
 obtain ⟨b2, of2, va, e2, hb2, hva, hca⟩ := HSC.out.at1 (k := ka) (by omega)
 subst e2
 obtain ⟨b3, of3, vb, e3, hb3, hvb, hcb⟩ := HSC.out.at1 (k := kb) (by omega)
 injection e3 with e3; injection e3 with e3 e4; subst e3 e4
 have hscl := HSC.out.le
 have HLV : Hid (lvE C ⟨nm, kd, ka, kb, co⟩ = xZ (bits .or .i64 va vb)) := by
  unfold Hid lvE; simp only [Int.toNat_natCast]; rw [yS hva, yS hvb]
 have c0 : w2.cell? ⟨b0, off + i * 5, none⟩ = some (.string nm) := hc 0 _ rfl
 have c1 : w2.cell? ⟨b0, off + i * 5 + 1, none⟩ = some (.int .i64 kd) := hc 1 _ rfl
 have c2 : w2.cell? ⟨b0, off + i * 5 + 2, none⟩ = some (.int .i64 ka) := hc 2 _ rfl
 have c3 : w2.cell? ⟨b0, off + i * 5 + 3, none⟩ = some (.int .i64 kb) := hc 3 _ rfl
 have c4 : w2.cell? ⟨b0, off + i * 5 + 4, none⟩ = some (.int .i64 co) := hc 4 _ rfl
 have k1 := HBX.out.c1
 have HBV : Hid (Below w.heap.size w (w2.alloc (.cells #[.string nm, .int .i64 kd, .int .i64 ka, .int .i64 kb, .int .i64 co] 57))) := HBW.out.alloc HBW.out.size _
 have HDV := iD (Blk.new w2 57 #[.string nm, .int .i64 kd, .int .i64 ka, .int .i64 kb, .int .i64 co])
 have HCA : Hid ((w2.alloc (.cells #[.string nm, .int .i64 kd, .int .i64 ka, .int .i64 kb, .int .i64 co] 57)).cell? ⟨b2, of2 + ka, none⟩ = some (.int .i64 va) ∧ (w2.alloc (.cells #[.string nm, .int .i64 kd, .int .i64 ka, .int .i64 kb, .int .i64 co] 57)).cell? ⟨b2, of2 + kb, none⟩ = some (.int .i64 vb)) := ⟨xl _ hca, xl _ hcb⟩
 clear hc hx' hca hcb hva hvb HSC HBX
 go_upto_region 3 with (fail)
 generalize World.alloc w2 _ = W at *
 obtain ⟨vb0, hvb0⟩ : ∃ x, x = w2.heap.size := ⟨_, rfl⟩
 rw [← hvb0] at HDV ⊢
 clear c0 c1 c2 c3 c4 k1 hvb0
 have HCS : Hid ((W.cell? ⟨vb0, 2, none⟩ = some (.int .i64 ka) ∧ W.cell? ⟨vb0, 3, none⟩ = some (.int .i64 kb)) ∧ W.cell? ⟨b2, of2 + ka, none⟩ = some (.int .i64 va) ∧ W.cell? ⟨b2, of2 + kb, none⟩ = some (.int .i64 vb)) := ⟨⟨HDV.out.cell 2, HDV.out.cell 3⟩, HCA.out⟩
 have hka : ka < nn := by omega
 have hkb : kb < nn := by omega
 refine zC (S := fun W' => (W'.cell? ⟨vb0, 2, none⟩ = some (.int .i64 ka) ∧ W'.cell? ⟨vb0, 3, none⟩ = some (.int .i64 kb)) ∧ W'.cell? ⟨b2, of2 + ka, none⟩ = some (.int .i64 va) ∧ W'.cell? ⟨b2, of2 + kb, none⟩ = some (.int .i64 vb)) (J := []) (by kernel_rfl) ?_ (fun AA => ?_)
 ·exact HCS.out
 try dsimp only at AA
 refine tk 0 21 (mf 14 1) AA ?_
 refine tk 1 22 (mf 14 2) AA ?_
 refine tk 2 23 (mf 14 3) AA ?_
 refine tk 3 24 (mf 14 4) AA ?_
 refine tk 4 25 (mf 14 5) AA ?_
 refine tk 5 26 (mf 14 6) AA ?_
 refine tk 6 27 (mf 14 7) AA ?_
 refine tk 7 28 (mf 14 8) AA ?_
 refine tk 8 29 (mf 14 9) AA ?_
 refine tk 9 30 (mf 14 10) AA ?_
 refine tk 10 31 (mf 14 11) AA ?_
 refine tk 11 32 (mf 14 12) AA ?_
 refine tk 12 33 (mf 14 13) AA ?_
 refine tk 13 6 (mf 14 14) AA ?_
 refine zA (by kernel_rfl) ?_ _
 go_wp2_with fail
 go_ret
 exact ⟨zG (by rw [HCE.out, HLV.out]; rfl), HBV.out.drew⟩
theorem qZ (An Ad As : Option Addr) (nn cn nd cd n c Bd Bs i : Nat) (p du kd : Int) (ds : List Dv) (s : List Int) (x : Dv) (w : World) (hd : Sl w Bd 5 Ad nd cd (ds.flatMap Dv.cells)) (hBd : Bd ≤ w.heap.size) (hs : Sl w Bs 1 As n c (zD s)) (hBs : Bs ≤ w.heap.size)
 (hnn : nn ≤ 10000) (hnd : nd ≤ 10000) (hl : nd ≤ n) (hends : yo nn ds) (hA : AOk nn ds) (hi : i < nd) (hx : ds[i]? = some x) (hk : x.kind = kd) (hk6 : 1 ≤ kd ∧ kd ≤ 6) :
 Calls Tryz.prog 151 #[.agg #[.slice An nn cn, .slice Ad nd cd], .slice As n c, .agg #[.int .i64 i, .int .i64 p], .int .i64 kd, .int .i64 du] w fun e w' => e = .returned (.bool (vF kd p du (lvE (zh nn ds s) x))) ∧ Below w.heap.size w w' := by
 have HB : Hid (Below w.heap.size w ((w.alloc (.cells #[.slice An nn cn, .slice Ad nd cd] 30)).alloc (.cells #[.int .i64 i, .int .i64 p] 77))) := ((Below.refl _ _).alloc lR _).alloc (by simp) _
 rcases (show kd = 1 ∨ kd = 2 ∨ kd = 3 ∨ kd = 4 ∨ kd = 5 ∨ kd = 6 by omega) with rfl | rfl | rfl | rfl | rfl | rfl
 ·have HC := iD (pe An Ad As nn cn nd cd n c Bd Bs i ds s x _ (hd.below HB.out hBd) (by have := HB.out.size; omega) (hs.below HB.out hBs) (by have := HB.out.size; omega) hnn hnd hl hends hA hi hx (by rw [hk]; decide))
  have HR : Hid (vF 1 p du (lvE (zh nn ds s) x) = lvE (zh nn ds s) x) := rfl
  clear hd hs hends hA
  go_enter Tryz.func151, Tryz.ntmps151
  go_wp2_with fail
  refine HC.out.mono ?_
  rintro e w1 ⟨rfl, hb⟩
  go_wp2_with fail
  go_ret
  exact ⟨zG HR.out.symm, HB.out.trans (hb.mono HB.out.size)⟩
 ·clear hd hs hends hA
  go_enter Tryz.func151, Tryz.ntmps151
  go_wp2_with fail
  go_ret
  exact ⟨rfl, HB.out⟩
 ·clear hd hs hends hA
  by_cases h2 : du = 2
  ·subst h2
   go_enter Tryz.func151, Tryz.ntmps151
   go_wp2_with fail
   go_ret
   exact ⟨rfl, HB.out⟩
  by_cases h3 : du = 3
  ·subst h3
   go_enter Tryz.func151, Tryz.ntmps151
   go_wp2_with fail
   go_ret
   exact ⟨rfl, HB.out⟩
  have q2 : (du == 2) = false := by simpa using h2
  have q3 : (du == 3) = false := by simpa using h3
  have HR : Hid (vF 3 p du (lvE (zh nn ds s) x) = (du == 4)) := by
   unfold Hid vF; rw [if_pos rfl]; simp [h2, h3]; rfl
  go_enter Tryz.func151, Tryz.ntmps151
  go_wp2_with fail
  go_ret
  exact ⟨zG HR.out.symm, HB.out⟩
 ·clear hd hs hends hA
  by_cases h1 : p = 1
  ·subst h1
   have HR : Hid (vF 4 1 du (lvE (zh nn ds s) x) = (du == 4)) := by unfold Hid vF; simp; rfl
   go_enter Tryz.func151, Tryz.ntmps151
   go_wp2_with fail
   go_ret
   exact ⟨zG HR.out.symm, HB.out⟩
  ·have q1 : (p == 1) = false := by simpa using h1
   have HR : Hid (vF 4 p du (lvE (zh nn ds s) x) = false) := by unfold Hid vF; simp [h1]
   go_enter Tryz.func151, Tryz.ntmps151
   go_wp2_with fail
   go_ret
   exact ⟨zG HR.out.symm, HB.out⟩
 ·clear hd hs hends hA
  go_enter Tryz.func151, Tryz.ntmps151
  go_wp2_with fail
  go_ret
  exact ⟨rfl, HB.out⟩
 ·clear hd hs hends hA
  by_cases h1 : p = 2
  ·subst h1
   have HR : Hid (vF 6 2 du (lvE (zh nn ds s) x) = (du == 3)) := by unfold Hid vF; simp; rfl
   go_enter Tryz.func151, Tryz.ntmps151
   go_wp2_with fail
   go_ret
   exact ⟨zG HR.out.symm, HB.out⟩
  ·have q1 : (p == 2) = false := by simpa using h1
   have HR : Hid (vF 6 p du (lvE (zh nn ds s) x) = false) := by unfold Hid vF; simp [h1]
   go_enter Tryz.func151, Tryz.ntmps151
   go_wp2_with fail
   go_ret
   exact ⟨zG HR.out.symm, HB.out⟩
end
section
open Go.RowKit
theorem Sl.over {w : World} {B n c blk m size : Nat} {A : Option Addr} {xs : List Value} {os : Array Obj} {dk : Array Int} (h : Sl w B size A n c xs) (hne : ∀ b off, A = some ⟨b, off, none⟩ → b ≠ blk ∧ b < w.heap.size) : Sl (sortWorld (Value.int .i64) w blk 0 m dk os) B size A n c xs := by
 obtain ⟨h1, h2, h3, h4, h5⟩ := h
 refine ⟨h1, h2, h3, h4, fun hn => ?_⟩
 obtain ⟨b, off, e, hb, hc⟩ := h5 hn
 obtain ⟨h6, h7⟩ := hne b off e
 refine ⟨b, off, e, hb, fun j u hu => ?_⟩
 unfold sortWorld
 rw [Go.Sort.cell?_grow _ _ _ (by show b < (Go.Sort.putRow _ _ _ _ _).heap.size; rw [Go.Sort.size_putRow]; exact h7), Go.Sort.cell?_putRow_other _ _ blk 0 _ _ (Or.inl h6)]
 exact hc j u hu
theorem je (g : Nat) (lb : Array Value) (p : Int → Bool) (eg : ∀ args w, (callFunc g args).run Tryz.prog w = .ok (.enter g args) w) (A : Option Addr) (n c base : Nat) (l : List Int) (w : World) (h : zO w base A n c l) (hn : n ≤ 1000000)
 (hp : PredAt Tryz.prog g lb (Value.int .i64) p w) (hpo : ∀ blk, A = some ⟨blk, 0, none⟩ → PredOver Tryz.prog g lb (Value.int .i64) p blk 0 n w) :
 Calls Tryz.prog 177 #[.slice A n c, .func (.func g) #[] lb] w fun e w' => ∃ m, e = .returned (.slice A m c) ∧ Hid (zO w' base A m c (l.filter fun x => !p x)) ∧ Hid (w.grownBy w' (Value.slice A n c).ownBlock) := by
 have hl := h.len
 rcases h.2 with ⟨hv, h0⟩ | ⟨gb, cap, cur, hv, hb, hh, hnc, hm, hs, ht⟩
 ·injection hv with h1 h2 h3
  subst h1 h3 h0
  have : l = [] := List.eq_nil_of_length_eq_zero hl
  subst this
  have HH := iD h
  clear h hp hpo hl hn
  go_enter Tryz.func177, Tryz.ntmps177
  go_wp2_with fail
  refine (Tryz.slices_IndexFunc_empty (α := Int) none 0 (.func (.func g) #[] lb) w).mono ?_
  rintro e w1 ⟨rfl, rfl⟩
  go_wp2_with fail
  go_ret
  exact ⟨0, rfl, HH.out, yz _ _⟩
 ·injection hv with h1 h2 h3
  subst h1 h3
  subst hl
  rw [Nat.mul_one, yI] at ht
  have hH := holds_of_blockI hh ht
  refine (Tryz.slices_DeleteFunc (Value.int .i64) (fun _ => rfl) p g lb eg 0 Tryz.zeroValue3 gb 0 c l.toArray w hp (by simpa using hpo gb rfl) hH (by simp; omega) (by simpa using hnc)).mono ?_
  rintro e w1 ⟨rfl, q, rfl⟩
  simp only [List.size_toArray]
  obtain ⟨ts, hts⟩ : ∃ ts, ts = (l.filter fun x => !p x) ++ List.replicate (l.length - (l.filter fun x => !p x).length) 0 := ⟨_, rfl⟩
  have hfl : (l.filter fun x => !p x).length ≤ l.length := List.length_filter_le _ _
  have htl : ts.length = l.length := by rw [hts, List.length_append, List.length_replicate]; omega
  rw [← hts]
  refine ⟨_, rfl, ?_, ?_⟩
  ·have h2 := heap_sortedI (n := q) (os := #[]) ts.toArray hh
   rw [Go.Sort.grow_empty] at h2
   unfold Hid zO
   rw [yI]
   refine ⟨by simp, .inr ⟨gb, c, _, rfl, hb, h2, by omega, hm, by simp [Go.Sort.putCells, hs], ?_⟩⟩
   have h3 := take_putCellsI cur ts (by omega)
   rw [Nat.mul_one]
   have h4 := congrArg (List.take (l.filter fun x => !p x).length) h3
   rw [List.take_take, Nat.min_eq_left (by omega)] at h4
   rw [h4, ← List.map_take, hts, List.take_left]
  ·have := grownBy_sortedI (w := w) (g := gb) (n := q) (os := #[]) ts.toArray
   rw [Go.Sort.grow_empty] at this
   exact this
theorem tS (Ab : Option Addr) (mb cb bb B : Nat) (l : List Int) (x : Int) (W : World) (hc : W.cell? ⟨bb, 0, none⟩ = some (.slice Ab mb cb)) (hs : Sl W B 1 Ab mb cb (zD l)) :
 FnGives Tryz.prog 178 #[.pointer (some ⟨bb, 0, none⟩)] #[.int .i64 x] (.bool (xv l x)) W := by
 have HC := iD (xG Ab mb cb B l x W hs)
 show Calls Tryz.prog 178 #[.int .i64 x, .pointer (some ⟨bb, 0, none⟩)] W _
 clear hs
 go_enter Tryz.func178, Tryz.ntmps178
 go_wp2_with fail
 refine HC.out.mono ?_
 rintro e w1 ⟨rfl, rfl⟩
 go_wp2_with fail
 go_ret
 exact ⟨rfl, 0, rfl⟩
theorem mi (An Ad As At : Option Addr) (nn cn nd cd n c n2 c2 Bn Bd Bs B2 : Nat) (ns : List Nd) (ds : List Dv) (s s2 : List Int) (w : World) (hL : Laid w) (hn : Sl w Bn 3 An nn cn (ns.flatMap Nd.cells)) (hBn : Bn ≤ w.heap.size) (hd : Sl w Bd 5 Ad nd cd (ds.flatMap Dv.cells)) (hBd : Bd ≤ w.heap.size) (hs : Sl w Bs 1 As n c (zD s)) (hBs : Bs ≤ w.heap.size) (hs2 : Sl w B2 1 At n2 c2 (zD s2)) (hB2 : B2 ≤ w.heap.size)
 (hsn : ∀ x ∈ ns, x.name.size ≤ 9223372036854775807) (hsd : ∀ x ∈ ds, x.name.size ≤ 9223372036854775807) (h0 : zN ns ds s = 0) (h02 : zN ns ds s2 = 0) (hnn : nn ≤ 10000) (hnd : nd ≤ 10000) (hl : nd ≤ n) (hl2 : nd ≤ n2) (hends : yo nn ds) (hA : AOk nn ds) :
 Calls Tryz.prog 149 #[.agg #[.slice An nn cn, .slice Ad nd cd], .slice As n c, .slice At n2 c2] w fun e w' => ∃ Ao m co out k, e = .returned (.tuple #[.slice Ao m co, .int .i64 k, .int .i64 0]) ∧ Hid (out.length = m) ∧ Hid (gL ns ds s s2 out) ∧ Hid (zO w' w.heap.size Ao m co out) ∧ Hid (Below w.heap.size w w') := by
 have HLN := iD (hn.len (fun _ => rfl) (by decide))
 have HB : Hid (Below w.heap.size w (w.alloc (.cells #[.slice An nn cn, .slice Ad nd cd] 30))) := (Below.refl _ _).alloc lR _
 have HK := iD (Blk.new w 30 #[.slice An nn cn, .slice Ad nd cd])
 have HL := iD hL; have HN := iD hn; have HD := iD hd; have HS := iD hs; have HS2 := iD hs2; have HSN := iD hsn; have HSD := iD hsd; have H0 := iD h0; have H02 := iD h02; have HE := iD hends; have HA := iD hA
 clear hL hn hd hs hs2 hsn hsd h0 h02 hends hA
 go_enter Tryz.func149, Tryz.ntmps149
 go_wp2_with fail
 generalize World.alloc _ _ = W at *
 have hz := HB.out.size
 obtain ⟨nb, hnb⟩ : ∃ nb, nb = w.heap.size := ⟨_, rfl⟩
 rw [← hnb] at HK ⊢
 clear hnb
 have HNB := iD HK.out.lt
 refine (tX An Ad As nn cn nd cd n c Bn Bd Bs ns ds s W (HL.out.below HB.out lR) (HN.out.below HB.out hBn) (by omega) (HD.out.below HB.out hBd) (by omega) (HS.out.below HB.out hBs) (by omega) HSN.out HSD.out H0.out hnn hnd hl HE.out HA.out).mono ?_
 rintro e w1 ⟨Aa, ma, ca, la, rfl, hOa, hLa, hb1⟩
 have HB1 := iD (HB.out.trans (hb1.out.mono hz))
 have HK1 := iD (HK.out.below hb1.out HK.out.lt)
 have hz1 := HB1.out.size
 have HZa : Hid (W.heap.size ≤ w1.heap.size) := hb1.out.size
 clear hb1 HB HK
 have k0 := HK1.out.c0
 have k1 := HK1.out.c1
 go_wp2_with fail
 clear k0 k1
 refine (tX An Ad At nn cn nd cd n2 c2 Bn Bd B2 ns ds s2 w1 (HL.out.below HB1.out lR) (HN.out.below HB1.out hBn) (by omega) (HD.out.below HB1.out hBd) (by omega) (HS2.out.below HB1.out hB2) (by omega) HSN.out HSD.out H02.out hnn hnd hl2 HE.out HA.out).mono ?_
 rintro e w2 ⟨Ab, mb, cb, lb, rfl, hOb, hLb, hb2⟩
 have HB2 := iD ((HB1.out.trans (hb2.out.mono hz1)).alloc (by have := hb2.out.size; omega) (.cells #[.slice Ab mb cb] 22))
 have HK2 := iD ((HK1.out.below hb2.out HK1.out.lt).alloc (.cells #[.slice Ab mb cb] 22))
 have HXB := iD (Blk.new w2 22 #[.slice Ab mb cb])
 have HOA : Hid (zO (w2.alloc (.cells #[.slice Ab mb cb] 22)) W.heap.size Aa ma ca la) := (hOa.out.later hb2.out).alloc _
 have HOB : Hid (zO (w2.alloc (.cells #[.slice Ab mb cb] 22)) w1.heap.size Ab mb cb lb) := hOb.out.alloc _
 have hz2 : w1.heap.size ≤ w2.heap.size := hb2.out.size
 have hma : ma ≤ nn := by have := hLa.out.1; rw [hOa.out.len, HLN.out] at this; exact this
 have HAL : Hid (∀ gb, (Value.slice Aa ma ca).ownBlock = some gb → gb < w1.heap.size) := fun gb h => (hOa.out.lt gb h).2
 have HZ2 : Hid (w2.heap.size < (w2.alloc (.cells #[.slice Ab mb cb] 22)).heap.size) := by unfold Hid; simp
 clear hb2 HK1 hOa hOb HB1
 go_upto_region 7 with (fail)
 generalize World.alloc w2 _ = W3 at *
 obtain ⟨bb, hbb⟩ : ∃ x, x = w2.heap.size := ⟨_, rfl⟩
 rw [← hbb] at HXB HZ2 hz2 ⊢
 clear hbb
 have HPA : Hid (PredAt Tryz.prog 178 #[.pointer (some ⟨bb, 0, none⟩)] (Value.int .i64) (xv lb) W3) := fun W' x hb =>
  tS Ab mb cb bb W3.heap.size lb x W' ((hb.cell (p := ⟨bb, 0, none⟩) HZ2.out).trans (HXB.out.cell 0)) (HOB.out.sl.below hb lR)
 have HPO : Hid (∀ blk, Aa = some ⟨blk, 0, none⟩ → PredOver Tryz.prog 178 #[.pointer (some ⟨bb, 0, none⟩)] (Value.int .i64) (xv lb) blk 0 ma W3) := fun blk e q os dk x _ =>
  tS Ab mb cb bb W3.heap.size lb x _ (by
   have h1 := HAL.out blk (by rw [e]; rfl)
   unfold sortWorld
   rw [Go.Sort.cell?_grow _ _ _ (by show bb < (Go.Sort.putRow _ _ _ _ _).heap.size; rw [Go.Sort.size_putRow]; exact HZ2.out), Go.Sort.cell?_putRow_other _ _ blk 0 _ _ (Or.inl (by show bb ≠ blk; omega))]
   exact HXB.out.cell 0) (HOB.out.sl.over fun b off e2 => by
    have h1 := HAL.out blk (by rw [e]; rfl)
    have h2 := HOB.out.lt b
    rcases HOB.out.2 with ⟨hv, _⟩ | ⟨gb, cap, cur, hv, hb, hh, _⟩
    ·rw [e2] at hv; cases hv
    ·rw [e2] at hv
     injection hv with hv
     injection hv with hv
     injection hv with hv
     subst hv
     exact ⟨by omega, (Array.getElem?_eq_some_iff.1 hh).1⟩)
 have HDF := iD (je 178 #[.pointer (some ⟨bb, 0, none⟩)] (xv lb) (enters_of Tryz.func178 (by kernel_rfl) rfl) Aa ma ca W.heap.size la W3 HOA.out (by omega) HPA.out HPO.out)
 clear HPA HPO
 go_wp2_with fail
 refine HDF.out.mono ?_
 rintro e w4 ⟨m, rfl, hO4, hg4⟩
 have HBG : Hid (Below W.heap.size W3 w4) := ⟨hg4.out.os, hg4.out.tape, hg4.out.output, hg4.out.size, fun q hq => hg4.out.block q (by have := HZa.out; have := HZ2.out; omega) (fun e => by have := (HOA.out.lt q e.symm).1; omega)⟩
 have HB4 := iD (HB2.out.trans (HBG.out.mono hz))
 have HK4 : Hid (Blk w4 nb 30 #[.slice An nn cn, .slice Ad nd cd]) := HK2.out.below HBG.out HNB.out
 have HIN : Hid (∀ v ∈ la.filter fun x => !xv lb x, 0 ≤ v ∧ v < nn) := fun v hv => by
  obtain ⟨k, y, rfl, hy, _⟩ := (hLa.out.2 v).1 (List.mem_filter.1 hv).1
  have := (List.getElem?_eq_some_iff.1 hy).1
  rw [HLN.out] at this
  omega
 clear HDF hg4 HBG HK2 HB2 HOA HOB HXB HAL
 have k0 := HK4.out.c0
 have k1 := HK4.out.c1
 go_wp2_with fail
 clear k0 k1
 refine (ld An Ad Aa nn cn nd cd m ca Bn w4.heap.size ns _ w4 (HN.out.below HB4.out hBn) (by have := HB4.out.size; omega) hO4.out.sl lR HIN.out).mono ?_
 rintro e w5 ⟨k, rfl, hb5⟩
 go_wp2_with fail
 go_ret3
 refine ⟨Aa, m, ca, _, k, rfl, hO4.out.len, fun x => ?_, (hO4.out.later hb5.out).mono hz, HB4.out.trans (hb5.out.mono HB4.out.size)⟩
 rw [List.mem_filter]
 constructor
 ·rintro ⟨h1, h2⟩
  obtain ⟨k, y, rfl, hy, hc, hs⟩ := (hLa.out.2 x).1 h1
  refine ⟨k, y, rfl, hy, hc, hs, fun h3 => ?_⟩
  have h4 : (k : Int) ∉ lb := (uh _ _).1 (by simpa using h2)
  exact h4 ((hLb.out.2 _).2 ⟨k, y, rfl, hy, hc, h3⟩)
 ·rintro ⟨k, y, rfl, hy, hc, hs, hn2⟩
  refine ⟨(hLa.out.2 _).2 ⟨k, y, rfl, hy, hc, hs⟩, ?_⟩
  have : xv lb (k : Int) = false := (uh _ _).2 fun h => by
   obtain ⟨k2, y2, e, hy2, _, hs2⟩ := (hLb.out.2 _).1 h
   have : k = k2 := by omega
   subst this
   exact hn2 hs2
  rw [this]; rfl
end
end Go.Proofs.YtkkobemhbicjgaaGreatDoor
