import Derived.Test.YtnpfkiidhidjbaaGreatDoorZ44
import Derived.Test.YtnpfkiidhidjbaaGreatDoorZ45
import Derived.Test.YtnpfkiidhidjbaaGreatDoorZ24
import Derived.Test.YtnpfkiidhidjbaaGreatDoorZ25
import Derived.Test.YtnpfkiidhidjbaaGreatDoorZ00
import Derived.Deep.LoopGhost
import Derived.Deep.DeepCutAuto
/-
 The memory of a law that has made a network: the deck, the network's box and rows.
-/
namespace Go.Proofs.YtnpfkiidhidjbaaGreatDoor
open Go.RowKit
/-- w: the world at the law's start, in which the deck is the next block; nb: the network's box. -/
structure LwN (w : World) (nb : Nat) (An : Option Addr) (nn cn : Nat) (ns : List Nd) (Ad : Option Addr) (nd cd : Nat) (ds : List Dv) (wr : World) : Prop where
 dk : DeckAt wr w.heap.size
 bx : Blk wr nb 26 #[.slice An nn cn, .slice Ad nd cd]
 hn : SlX wr w.heap.size 3 An nn cn (ns.flatMap Nd.cells)
 hd : SlX wr w.heap.size 5 Ad nd cd (ds.flatMap Dv.cells)
 bl : Below w.heap.size w wr
 ge : w.heap.size < nb
 la : Laid wr
section
variable {w wr wr' : World} {nb nn cn nd cd : Nat} {An Ad : Option Addr} {ns : List Nd} {ds : List Dv}
theorem LwN.grown (h : LwN w nb An nn cn ns Ad nd cd ds wr) (hl : Laid w) (hg : wr.grownBy wr' (some w.heap.size)) (hd : DeckAt wr' w.heap.size) : LwN w nb An nn cn ns Ad nd cd ds wr' :=
 ⟨hd, h.bx.grown hg (fun e => by have := h.ge; injection e; omega), h.hn.grown hg, h.hd.grown hg, h.bl.trans (below_of_grown hg (Nat.le_refl _) h.bl.size), h.ge, h.la.grown hl hg (Nat.le_refl _)⟩
theorem LwN.later (h : LwN w nb An nn cn ns Ad nd cd ds wr) (hb : Below wr.heap.size wr wr') : LwN w nb An nn cn ns Ad nd cd ds wr' :=
 ⟨h.dk.grown (grown_of_below hb none) (fun k e => by cases e), h.bx.below hb h.bx.lt, h.hn.below hb, h.hd.below hb, h.bl.trans (hb.mono h.bl.size), h.ge, h.la.below hb (Nat.le_refl _)⟩
theorem LwN.mk0 {w1 w2 : World} {nodes dmax : Int} (hl : Laid w) (hb1 : Below w.heap.size w w1) (hs1 : w1.heap.size = w.heap.size + 1) (hd2 : DeckAt w2 w.heap.size) (hg2 : w1.grownBy w2 (some w.heap.size))
  (hrn : w2.ownsRow (w1.heap.size + 4) 61 3 (.slice An nn cn) nn (ns.flatMap Nd.cells)) (hrd : w2.ownsRow (w1.heap.size + 4) 63 5 (.slice Ad nd cd) nd (ds.flatMap Dv.cells)) (_hm : MadeNet nodes dmax ns ds) :
  LwN w w2.heap.size An nn cn ns Ad nd cd ds (w2.alloc (.cells #[.slice An nn cn, .slice Ad nd cd] 26)) ∧ ns.length = nn ∧ ds.length = nd := by
 have hb2 : Below w.heap.size w w2 := hb1.trans (below_of_grown hg2 (Nat.le_refl _) (by omega))
 refine ⟨⟨hd2.alloc _, Blk.new _ _ _, (SlX.of_own hrn (by omega)).alloc _, (SlX.of_own hrd (by omega)).alloc _, hb2.alloc hb2.size _, ?_, (hl.below hb2 (Nat.le_refl _)).alloc _⟩, (Sl.of_own hrn).len (fun _ => rfl) (by decide), (Sl.of_own hrd).len (fun _ => rfl) (by decide)⟩
 have := hg2.size; omega
end
end Go.Proofs.YtnpfkiidhidjbaaGreatDoor
/-
 What stays true behind calls, and behind the deck's calls.
-/
namespace Go.Proofs.YtnpfkiidhidjbaaGreatDoor
open Go.RowKit
structure Keep (g : Nat) (P : World → Prop) : Prop where
 later : ∀ {wr wr' : World}, P wr → Below wr.heap.size wr wr' → P wr'
 grown : ∀ {wr wr' : World}, P wr → wr.grownBy wr' (some g) → DeckAt wr' g → P wr'
theorem Keep.and {g : Nat} {P Q : World → Prop} (hp : Keep g P) (hq : Keep g Q) : Keep g fun w => P w ∧ Q w := ⟨fun h hb => ⟨hp.later h.1 hb, hq.later h.2 hb⟩, fun h hg hd => ⟨hp.grown h.1 hg hd, hq.grown h.2 hg hd⟩⟩
theorem Keep.blk {g b : Nat} {t : TypeId} {cs : Array Value} (hne : b ≠ g) : Keep g fun w => Blk w b t cs := ⟨fun h hb => h.below hb h.lt, fun h hg _ => h.grown hg (fun e => hne (by injection e))⟩
theorem Keep.slx {g size n c : Nat} {A : Option Addr} {xs : List Value} : Keep g fun w => SlX w g size A n c xs := ⟨fun h hb => h.below hb, fun h hg _ => h.grown hg⟩
theorem Keep.lwn {w : World} {nb nn cn nd cd : Nat} {An Ad : Option Addr} {ns : List Nd} {ds : List Dv} (hl : Laid w) : Keep w.heap.size (LwN w nb An nn cn ns Ad nd cd ds) :=
 ⟨fun h hb => h.later hb, fun h hg hd => h.grown hl hg hd⟩
theorem SlX.nil (w : World) (g size : Nat) : SlX w g size none 0 0 [] := ⟨Sl.nil _ _ _, fun b off e => by cases e⟩
theorem Keep.drew {g : Nat} {P : World → Prop} (hk : Keep g P) {w : World} (h : P w) : P w.drew := hk.later h (Below.refl _ _).drew
end Go.Proofs.YtnpfkiidhidjbaaGreatDoor
/-
 Loops and cuts in a great frame: the slots that are written are the values of one function, so that one 'obtain' opens the frame.
-/
namespace Go.Proofs.YtnpfkiidhidjbaaGreatDoor
open Go.RowKit
/-- The frame: runs (n, t) of n + 1 slots: t = 0: they stay; 1: they hold anything; j + 2: one slot, the j-th of the named values. -/
def relaxR (u v : Nat → Value) : List (Nat × Nat) → Nat → List Value → List Value
 | [], _, fr => fr
 | _ :: _, _, [] => []
 | (0, 0) :: rs, i, x :: fr => x :: relaxR u v rs (i + 1) fr
 | (n + 1, 0) :: rs, i, x :: fr => x :: relaxR u v ((n, 0) :: rs) (i + 1) fr
 | (0, 1) :: rs, i, _ :: fr => u i :: relaxR u v rs (i + 1) fr
 | (n + 1, 1) :: rs, i, _ :: fr => u i :: relaxR u v ((n, 1) :: rs) (i + 1) fr
 | (_, j + 2) :: rs, i, _ :: fr => v j :: relaxR u v rs (i + 1) fr
/-- The n-th slot. -/
def gt : List Value → Nat → Value
 | [], _ => undef
 | x :: _, 0 => x
 | _ :: xs, n + 1 => gt xs n
section
variable {P : Program} {Q : Exit → Act → World → Prop} {w : World} {c : Code} {fr fr' : List Value} {k n₀ : Nat}
def v1 (p : Value) : Nat → Value := fun _ => p
def LpI1 (rel : Nat → Value → World → Prop) (rs : List (Nat × Nat)) (fr : List Value) (k : Nat) (a : Act) (w : World) : Prop := ∃ u p, rel k p w ∧ a = ⟨(relaxR u (v1 p) rs 0 fr).toArray, []⟩
theorem wp_loop_u1 (rs : List (Nat × Nat)) (s1 : Nat) (n₀ : Nat) (rel : Nat → Value → World → Prop) (h₀ : rel n₀ (gt fr s1) w) (hv : relaxR (gt fr) (v1 (gt fr s1)) rs 0 fr = fr)
  (round : ∀ u p n w a, rel n p w → a = ⟨(relaxR u (v1 p) rs 0 fr).toArray, []⟩ → ∀ (J : Nat → Act → World → Prop) (K : Act → World → Prop), (∀ k a' w', LpI1 rel rs fr k a' w' → J k a' w') → (∀ a' w', Handed J n a' w' → K a' w') → c.wp P (Exit.then K Q) a w) : (Code.loop c).wp P Q ⟨fr.toArray, []⟩ w :=
 wp_loop_ghost_k (LpI1 rel rs fr) n₀ ⟨_, _, h₀, by rw [hv]⟩ fun n a w ⟨u, p, h, ha⟩ J K hJ hK => round u p n w a h ha J K hJ hK
theorem LpI1.back {rel : Nat → Value → World → Prop} {rs : List (Nat × Nat)} (s1 : Nat) (h : rel k (gt fr' s1) w) (hv : relaxR (gt fr') (v1 (gt fr' s1)) rs 0 fr = fr') : LpI1 rel rs fr k ⟨fr'.toArray, []⟩ w := ⟨_, _, h, by rw [hv]⟩
def v2 (p q : Value) : Nat → Value
 | 0 => p
 | _ => q
def LpI2 (rel : Nat → Value → Value → World → Prop) (rs : List (Nat × Nat)) (fr : List Value) (k : Nat) (a : Act) (w : World) : Prop := ∃ u p q, rel k p q w ∧ a = ⟨(relaxR u (v2 p q) rs 0 fr).toArray, []⟩
theorem LpI2.back {rel : Nat → Value → Value → World → Prop} {rs : List (Nat × Nat)} (s1 s2 : Nat) (h : rel k (gt fr' s1) (gt fr' s2) w) (hv : relaxR (gt fr') (v2 (gt fr' s1) (gt fr' s2)) rs 0 fr = fr') : LpI2 rel rs fr k ⟨fr'.toArray, []⟩ w := ⟨_, _, _, h, by rw [hv]⟩
def v3 (p q r : Value) : Nat → Value
 | 0 => p
 | 1 => q
 | _ => r
def LpI3 (rel : Nat → Value → Value → Value → World → Prop) (rs : List (Nat × Nat)) (fr : List Value) (k : Nat) (a : Act) (w : World) : Prop := ∃ u p q r, rel k p q r w ∧ a = ⟨(relaxR u (v3 p q r) rs 0 fr).toArray, []⟩
theorem LpI3.back {rel : Nat → Value → Value → Value → World → Prop} {rs : List (Nat × Nat)} (s1 s2 s3 : Nat) (h : rel k (gt fr' s1) (gt fr' s2) (gt fr' s3) w) (hv : relaxR (gt fr') (v3 (gt fr' s1) (gt fr' s2) (gt fr' s3)) rs 0 fr = fr') : LpI3 rel rs fr k ⟨fr'.toArray, []⟩ w := ⟨_, _, _, _, h, by rw [hv]⟩
def v4 (p q r t : Value) : Nat → Value
 | 0 => p
 | 1 => q
 | 2 => r
 | _ => t
def LpI4 (rel : Nat → Value → Value → Value → Value → World → Prop) (rs : List (Nat × Nat)) (fr : List Value) (k : Nat) (a : Act) (w : World) : Prop := ∃ u p q r t, rel k p q r t w ∧ a = ⟨(relaxR u (v4 p q r t) rs 0 fr).toArray, []⟩
theorem LpI4.back {rel : Nat → Value → Value → Value → Value → World → Prop} {rs : List (Nat × Nat)} (s1 s2 s3 s4 : Nat) (h : rel k (gt fr' s1) (gt fr' s2) (gt fr' s3) (gt fr' s4) w) (hv : relaxR (gt fr') (v4 (gt fr' s1) (gt fr' s2) (gt fr' s3) (gt fr' s4)) rs 0 fr = fr') : LpI4 rel rs fr k ⟨fr'.toArray, []⟩ w := ⟨_, _, _, _, _, h, by rw [hv]⟩
def CtI1 (R : Value → World → Prop) (rs : List (Nat × Nat)) (fr : List Value) (a : Act) (w : World) : Prop := ∃ u p, R p w ∧ a = ⟨(relaxR u (v1 p) rs 0 fr).toArray, []⟩
theorem CtI1.back {R : Value → World → Prop} {rs : List (Nat × Nat)} (s1 : Nat) (h : R (gt fr' s1) w) (hv : relaxR (gt fr') (v1 (gt fr' s1)) rs 0 fr = fr') : CtI1 R rs fr ⟨fr'.toArray, []⟩ w := ⟨_, _, h, by rw [hv]⟩
def CtI2 (R : Value → Value → World → Prop) (rs : List (Nat × Nat)) (fr : List Value) (a : Act) (w : World) : Prop := ∃ u p q, R p q w ∧ a = ⟨(relaxR u (v2 p q) rs 0 fr).toArray, []⟩
theorem CtI2.back {R : Value → Value → World → Prop} {rs : List (Nat × Nat)} (s1 s2 : Nat) (h : R (gt fr' s1) (gt fr' s2) w) (hv : relaxR (gt fr') (v2 (gt fr' s1) (gt fr' s2)) rs 0 fr = fr') : CtI2 R rs fr ⟨fr'.toArray, []⟩ w := ⟨_, _, _, h, by rw [hv]⟩
def CtI3 (R : Value → Value → Value → World → Prop) (rs : List (Nat × Nat)) (fr : List Value) (a : Act) (w : World) : Prop := ∃ u p q r, R p q r w ∧ a = ⟨(relaxR u (v3 p q r) rs 0 fr).toArray, []⟩
theorem CtI3.back {R : Value → Value → Value → World → Prop} {rs : List (Nat × Nat)} (s1 s2 s3 : Nat) (h : R (gt fr' s1) (gt fr' s2) (gt fr' s3) w) (hv : relaxR (gt fr') (v3 (gt fr' s1) (gt fr' s2) (gt fr' s3)) rs 0 fr = fr') : CtI3 R rs fr ⟨fr'.toArray, []⟩ w := ⟨_, _, _, _, h, by rw [hv]⟩
def CtI4 (R : Value → Value → Value → Value → World → Prop) (rs : List (Nat × Nat)) (fr : List Value) (a : Act) (w : World) : Prop := ∃ u p q r t, R p q r t w ∧ a = ⟨(relaxR u (v4 p q r t) rs 0 fr).toArray, []⟩
theorem CtI4.back {R : Value → Value → Value → Value → World → Prop} {rs : List (Nat × Nat)} (s1 s2 s3 s4 : Nat) (h : R (gt fr' s1) (gt fr' s2) (gt fr' s3) (gt fr' s4) w) (hv : relaxR (gt fr') (v4 (gt fr' s1) (gt fr' s2) (gt fr' s3) (gt fr' s4)) rs 0 fr = fr') : CtI4 R rs fr ⟨fr'.toArray, []⟩ w := ⟨_, _, _, _, _, h, by rw [hv]⟩
end
end Go.Proofs.YtnpfkiidhidjbaaGreatDoor
