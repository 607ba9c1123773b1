import Derived.Test.YtbjndpjligpjaaaDoorZ28
import Derived.Test.YtbjndpjligpjaaaDoorZ13
import Derived.Test.YtbjndpjligpjaaaDoorZ29
import Derived.Test.YtbjndpjligpjaaaDoorZ00
import Derived.Deep.LoopGhost
import Derived.Deep.DeepCutAuto
/-
  LocksetAnswers: what calls keep; answers in one form.
-/
namespace Go.Proofs.YtbjndpjligpjaaaDoor
open Go.RowKit
/-- What stays true behind calls, and behind the deck's calls. -/
structure Keep (g : Nat) (P : World → Prop) : Prop where
  later : ∀ {wr wr' : World}, P wr → Below wr.heap.size wr wr' → P wr'
  grown : ∀ {wr wr' : World}, P wr → wr.grownBy wr' (some g) → DeckAt wr' g → P wr'
theorem Keep.and {g : Nat} {P Q : World → Prop} (hp : Keep g P) (hq : Keep g Q) : Keep g fun w => P w ∧ Q w := ⟨fun h hb => ⟨hp.later h.1 hb, hq.later h.2 hb⟩, fun h hg hd => ⟨hp.grown h.1 hg hd, hq.grown h.2 hg hd⟩⟩
theorem Keep.blk {g b : Nat} {t : TypeId} {cs : Array Value} (hne : b ≠ g) : Keep g fun w => Blk w b t cs := ⟨fun h hb => h.below hb h.lt, fun h hg _ => h.grown hg (fun e => hne (by injection e))⟩
theorem Keep.slx {g size n c : Nat} {A : Option Addr} {xs : List Value} : Keep g fun w => SlX w g size A n c xs := ⟨fun h hb => h.below hb, fun h hg _ => h.grown hg⟩
theorem Keep.anm {w : World} {nb nn cn nd cd ob kb mg cg : Nat} {An Ad Ag : Option Addr} {ns : List Nd} {ds : List Dv} {od : SlV Nd × SlV Dv} {kk : Lk} {rw : SlV Lk} {ls : List Lk} (hl : Laid w) : Keep w.heap.size (AnM w nb An nn cn ns Ad nd cd ds ob kb od kk rw Ag mg cg ls) :=
  ⟨fun h hb => h.later hb, fun h hg hd => h.grown hl hg hd⟩
def resI (er : Int) (l : List Int) : List Int := if er = 0 then l else []
theorem IntsEPost.any {w w' : World} {er : Int} {l : List Int} {e : Ending} (h : IntsEPost w er l e w') : ∃ (A : Option Addr) (m c : Nat), e = .returned (.tuple #[.slice A m c, .int .i64 er]) ∧ Hid (IntsO w' w.heap.size A m c (resI er l)) ∧ Hid (Below w.heap.size w w') := by
  obtain ⟨⟨h1, h2⟩ | ⟨h1, A, c, h2, h3⟩, h4⟩ := h
  · exact ⟨none, 0, 0, h2, by unfold resI; rw [if_neg h1]; exact World.ownsRow_nil _ _ _ _, h4⟩
  · subst h1; exact ⟨A, _, c, h2, h3, h4⟩
def resL (er : Int) (l : List Lk) : List Lk := if er = 0 then l else []
theorem LkAddPost.any {w w' : World} {ns : List Nd} {ds : List Dv} {ls : List Lk} {k : Lk} {e : Ending} (h : LkAddPost w ns ds ls k e w') : ∃ (A : Option Addr) (m c : Nat), e = .returned (.tuple #[.slice A m c, .int .i64 (addErr ns ds ls k)]) ∧ Hid (LocksO w' w.heap.size A m c (resL (addErr ns ds ls k) (insL k ls))) ∧ Hid (Below w.heap.size w w') := by
  obtain ⟨⟨h1, h2⟩ | ⟨h1, A, c, h2, h3⟩, h4⟩ := h
  · exact ⟨none, 0, 0, h2, by unfold resL; rw [if_neg h1]; exact World.ownsRow_nil _ _ _ _, h4⟩
  · rw [h1]; exact ⟨A, _, c, h2, h3, h4⟩
def remErr (ns : List Nd) (ds : List Dv) (ls : List Lk) (d q : Int) : Int := if locksErr ns ds ls ≠ 0 then locksErr ns ds ls else if idxL d q ls = none then 15 else 0
def remL (ns : List Nd) (ds : List Dv) (ls : List Lk) (d q : Int) : List Lk := if locksErr ns ds ls ≠ 0 then [] else match idxL d q ls with | none => [] | some i => ls.eraseIdx i
theorem LkRmPost.any {w w' : World} {ns : List Nd} {ds : List Dv} {ls : List Lk} {d q : Int} {e : Ending} (h : LkRmPost w ns ds ls d q e w') : ∃ (A : Option Addr) (m c : Nat), e = .returned (.tuple #[.slice A m c, .int .i64 (remErr ns ds ls d q)]) ∧ Hid (LocksO w' w.heap.size A m c (remL ns ds ls d q)) ∧ Hid (Below w.heap.size w w') := by
  obtain ⟨⟨h2, h3⟩ | ⟨h1, h2, h3⟩ | ⟨h1, i, A, c, h2, h3, h4⟩, h5⟩ := h
  · refine ⟨none, 0, 0, ?_, ?_, h5⟩
    · rw [h3]; unfold remErr; rw [if_pos h2]
    · unfold Hid remL; rw [if_pos h2]; exact World.ownsRow_nil _ _ _ _
  · refine ⟨none, 0, 0, ?_, ?_, h5⟩
    · rw [h3]; unfold remErr; rw [if_neg (by simp [h1]), if_pos h2]
    · unfold Hid remL; rw [if_neg (by simp [h1]), h2]; exact World.ownsRow_nil _ _ _ _
  · refine ⟨A, ls.length - 1, c, ?_, ?_, h5⟩
    · rw [h3]; unfold remErr; rw [if_neg (by simp [h1]), if_neg (by rw [h2]; simp)]
    · unfold Hid remL; rw [if_neg (by simp [h1]), h2]; exact h4
theorem ints_true (A B : Option Addr) (n c n2 c2 Ba Bb : Nat) (l : List Int) (w : World) (ha : Sl w Ba 1 A n c (intsV l)) (hb : Sl w Bb 1 B n2 c2 (intsV l)) (hBa : Ba ≤ w.heap.size) (hBb : Bb ≤ w.heap.size) :
    Calls Tryd.prog 20 #[.slice A n c, .slice B n2 c2] w fun e w' => e = .returned (.bool true) ∧ Below w.heap.size w w' :=
  (ints_any A B n c n2 c2 Ba Bb l l w ha hb hBa hBb).mono fun _ _ ⟨h1, h2⟩ => ⟨by rw [h1]; simp, h2⟩
theorem same_true2 (A A2 : Option Addr) (n c n2 c2 B B2 : Nat) (a : List Lk) (w : World) (ha : Sl w B 3 A n c (a.flatMap Lk.cells)) (hb : Sl w B2 3 A2 n2 c2 (a.flatMap Lk.cells)) (hB : B ≤ w.heap.size) (hB2 : B2 ≤ w.heap.size) :
    Calls Tryd.prog 25 #[.slice A n c, .slice A2 n2 c2] w fun e w' => e = .returned (.bool true) ∧ Below w.heap.size w w' :=
  (same_any A A2 n c n2 c2 B B2 a a w ha hb hB hB2).mono fun _ _ ⟨h1, h2⟩ => ⟨by rw [h1]; simp, h2⟩
end Go.Proofs.YtbjndpjligpjaaaDoor
/-
  Loops and cuts in a great frame: the slots that are written are the values of one function, so that one 'obtain' opens the frame.
-/
namespace Go.Proofs.YtbjndpjligpjaaaDoor
open Go.RowKit
/-- The frame: runs (n, t) of n + 1 slots: t = 0: they stay; 1: they hold anything; j + 2: one slot, the j-th of the named values. -/
def relaxR (u v : Nat → Value) : List (Nat × Nat) → Nat → List Value → List Value
  | [], _, fr => fr
  | _ :: _, _, [] => []
  | (0, 0) :: rs, i, x :: fr => x :: relaxR u v rs (i + 1) fr
  | (n + 1, 0) :: rs, i, x :: fr => x :: relaxR u v ((n, 0) :: rs) (i + 1) fr
  | (0, 1) :: rs, i, _ :: fr => u i :: relaxR u v rs (i + 1) fr
  | (n + 1, 1) :: rs, i, _ :: fr => u i :: relaxR u v ((n, 1) :: rs) (i + 1) fr
  | (_, j + 2) :: rs, i, _ :: fr => v j :: relaxR u v rs (i + 1) fr
/-- The n-th slot. -/
def gt : List Value → Nat → Value
  | [], _ => undef
  | x :: _, 0 => x
  | _ :: xs, n + 1 => gt xs n
section
variable {P : Program} {Q : Exit → Act → World → Prop} {w : World} {c : Code} {fr fr' : List Value} {k n₀ : Nat}
def v1 (p : Value) : Nat → Value := fun _ => p
def LpI1 (rel : Nat → Value → World → Prop) (rs : List (Nat × Nat)) (fr : List Value) (k : Nat) (a : Act) (w : World) : Prop := ∃ u p, rel k p w ∧ a = ⟨(relaxR u (v1 p) rs 0 fr).toArray, []⟩
theorem wp_loop_u1 (rs : List (Nat × Nat)) (s1 : Nat) (n₀ : Nat) (rel : Nat → Value → World → Prop) (h₀ : rel n₀ (gt fr s1) w) (hv : relaxR (gt fr) (v1 (gt fr s1)) rs 0 fr = fr)
    (round : ∀ u p n w a, rel n p w → a = ⟨(relaxR u (v1 p) rs 0 fr).toArray, []⟩ → ∀ (J : Nat → Act → World → Prop) (K : Act → World → Prop), (∀ k a' w', LpI1 rel rs fr k a' w' → J k a' w') → (∀ a' w', Handed J n a' w' → K a' w') → c.wp P (Exit.then K Q) a w) : (Code.loop c).wp P Q ⟨fr.toArray, []⟩ w :=
  wp_loop_ghost_k (LpI1 rel rs fr) n₀ ⟨_, _, h₀, by rw [hv]⟩ fun n a w ⟨u, p, h, ha⟩ J K hJ hK => round u p n w a h ha J K hJ hK
theorem LpI1.back {rel : Nat → Value → World → Prop} {rs : List (Nat × Nat)} (s1 : Nat) (h : rel k (gt fr' s1) w) (hv : relaxR (gt fr') (v1 (gt fr' s1)) rs 0 fr = fr') : LpI1 rel rs fr k ⟨fr'.toArray, []⟩ w := ⟨_, _, h, by rw [hv]⟩
def v2 (p q : Value) : Nat → Value
  | 0 => p
  | _ => q
def LpI2 (rel : Nat → Value → Value → World → Prop) (rs : List (Nat × Nat)) (fr : List Value) (k : Nat) (a : Act) (w : World) : Prop := ∃ u p q, rel k p q w ∧ a = ⟨(relaxR u (v2 p q) rs 0 fr).toArray, []⟩
theorem wp_loop_u2 (rs : List (Nat × Nat)) (s1 s2 : Nat) (n₀ : Nat) (rel : Nat → Value → Value → World → Prop) (h₀ : rel n₀ (gt fr s1) (gt fr s2) w) (hv : relaxR (gt fr) (v2 (gt fr s1) (gt fr s2)) rs 0 fr = fr)
    (round : ∀ u p q n w a, rel n p q w → a = ⟨(relaxR u (v2 p q) rs 0 fr).toArray, []⟩ → ∀ (J : Nat → Act → World → Prop) (K : Act → World → Prop), (∀ k a' w', LpI2 rel rs fr k a' w' → J k a' w') → (∀ a' w', Handed J n a' w' → K a' w') → c.wp P (Exit.then K Q) a w) : (Code.loop c).wp P Q ⟨fr.toArray, []⟩ w :=
  wp_loop_ghost_k (LpI2 rel rs fr) n₀ ⟨_, _, _, h₀, by rw [hv]⟩ fun n a w ⟨u, p, q, h, ha⟩ J K hJ hK => round u p q n w a h ha J K hJ hK
theorem LpI2.back {rel : Nat → Value → Value → World → Prop} {rs : List (Nat × Nat)} (s1 s2 : Nat) (h : rel k (gt fr' s1) (gt fr' s2) w) (hv : relaxR (gt fr') (v2 (gt fr' s1) (gt fr' s2)) rs 0 fr = fr') : LpI2 rel rs fr k ⟨fr'.toArray, []⟩ w := ⟨_, _, _, h, by rw [hv]⟩
def v3 (p q r : Value) : Nat → Value
  | 0 => p
  | 1 => q
  | _ => r
def LpI3 (rel : Nat → Value → Value → Value → World → Prop) (rs : List (Nat × Nat)) (fr : List Value) (k : Nat) (a : Act) (w : World) : Prop := ∃ u p q r, rel k p q r w ∧ a = ⟨(relaxR u (v3 p q r) rs 0 fr).toArray, []⟩
theorem wp_loop_u3 (rs : List (Nat × Nat)) (s1 s2 s3 : Nat) (n₀ : Nat) (rel : Nat → Value → Value → Value → World → Prop) (h₀ : rel n₀ (gt fr s1) (gt fr s2) (gt fr s3) w) (hv : relaxR (gt fr) (v3 (gt fr s1) (gt fr s2) (gt fr s3)) rs 0 fr = fr)
    (round : ∀ u p q r n w a, rel n p q r w → a = ⟨(relaxR u (v3 p q r) rs 0 fr).toArray, []⟩ → ∀ (J : Nat → Act → World → Prop) (K : Act → World → Prop), (∀ k a' w', LpI3 rel rs fr k a' w' → J k a' w') → (∀ a' w', Handed J n a' w' → K a' w') → c.wp P (Exit.then K Q) a w) : (Code.loop c).wp P Q ⟨fr.toArray, []⟩ w :=
  wp_loop_ghost_k (LpI3 rel rs fr) n₀ ⟨_, _, _, _, h₀, by rw [hv]⟩ fun n a w ⟨u, p, q, r, h, ha⟩ J K hJ hK => round u p q r n w a h ha J K hJ hK
theorem LpI3.back {rel : Nat → Value → Value → Value → World → Prop} {rs : List (Nat × Nat)} (s1 s2 s3 : Nat) (h : rel k (gt fr' s1) (gt fr' s2) (gt fr' s3) w) (hv : relaxR (gt fr') (v3 (gt fr' s1) (gt fr' s2) (gt fr' s3)) rs 0 fr = fr') : LpI3 rel rs fr k ⟨fr'.toArray, []⟩ w := ⟨_, _, _, _, h, by rw [hv]⟩
def v4 (p q r t : Value) : Nat → Value
  | 0 => p
  | 1 => q
  | 2 => r
  | _ => t
def LpI4 (rel : Nat → Value → Value → Value → Value → World → Prop) (rs : List (Nat × Nat)) (fr : List Value) (k : Nat) (a : Act) (w : World) : Prop := ∃ u p q r t, rel k p q r t w ∧ a = ⟨(relaxR u (v4 p q r t) rs 0 fr).toArray, []⟩
theorem wp_loop_u4 (rs : List (Nat × Nat)) (s1 s2 s3 s4 : Nat) (n₀ : Nat) (rel : Nat → Value → Value → Value → Value → World → Prop) (h₀ : rel n₀ (gt fr s1) (gt fr s2) (gt fr s3) (gt fr s4) w) (hv : relaxR (gt fr) (v4 (gt fr s1) (gt fr s2) (gt fr s3) (gt fr s4)) rs 0 fr = fr)
    (round : ∀ u p q r t n w a, rel n p q r t w → a = ⟨(relaxR u (v4 p q r t) rs 0 fr).toArray, []⟩ → ∀ (J : Nat → Act → World → Prop) (K : Act → World → Prop), (∀ k a' w', LpI4 rel rs fr k a' w' → J k a' w') → (∀ a' w', Handed J n a' w' → K a' w') → c.wp P (Exit.then K Q) a w) : (Code.loop c).wp P Q ⟨fr.toArray, []⟩ w :=
  wp_loop_ghost_k (LpI4 rel rs fr) n₀ ⟨_, _, _, _, _, h₀, by rw [hv]⟩ fun n a w ⟨u, p, q, r, t, h, ha⟩ J K hJ hK => round u p q r t n w a h ha J K hJ hK
theorem LpI4.back {rel : Nat → Value → Value → Value → Value → World → Prop} {rs : List (Nat × Nat)} (s1 s2 s3 s4 : Nat) (h : rel k (gt fr' s1) (gt fr' s2) (gt fr' s3) (gt fr' s4) w) (hv : relaxR (gt fr') (v4 (gt fr' s1) (gt fr' s2) (gt fr' s3) (gt fr' s4)) rs 0 fr = fr') : LpI4 rel rs fr k ⟨fr'.toArray, []⟩ w := ⟨_, _, _, _, _, h, by rw [hv]⟩
def CtI1 (R : Value → World → Prop) (rs : List (Nat × Nat)) (fr : List Value) (a : Act) (w : World) : Prop := ∃ u p, R p w ∧ a = ⟨(relaxR u (v1 p) rs 0 fr).toArray, []⟩
theorem wp_cut_u1 {s : Code} {K : Act → World → Prop} {Q' : Exit → Act → World → Prop} (rs : List (Nat × Nat)) (R : Value → World → Prop)
    (rest : ∀ u p w a, R p w → a = ⟨(relaxR u (v1 p) rs 0 fr).toArray, []⟩ → K a w)
    (first : ∀ (J K' : Act → World → Prop), (∀ a' w', CtI1 R rs fr a' w' → J a' w') → (∀ a' w', Met J a' w' → K' a' w') → s.wp P (Exit.then K' Q') ⟨fr.toArray, []⟩ w) : s.wp P (Exit.then K Q') ⟨fr.toArray, []⟩ w :=
  wp_cut (CtI1 R rs fr) (fun a w ⟨u, p, h, ha⟩ => rest u p w a h ha) first
theorem CtI1.back {R : Value → World → Prop} {rs : List (Nat × Nat)} (s1 : Nat) (h : R (gt fr' s1) w) (hv : relaxR (gt fr') (v1 (gt fr' s1)) rs 0 fr = fr') : CtI1 R rs fr ⟨fr'.toArray, []⟩ w := ⟨_, _, h, by rw [hv]⟩
def CtI2 (R : Value → Value → World → Prop) (rs : List (Nat × Nat)) (fr : List Value) (a : Act) (w : World) : Prop := ∃ u p q, R p q w ∧ a = ⟨(relaxR u (v2 p q) rs 0 fr).toArray, []⟩
theorem wp_cut_u2 {s : Code} {K : Act → World → Prop} {Q' : Exit → Act → World → Prop} (rs : List (Nat × Nat)) (R : Value → Value → World → Prop)
    (rest : ∀ u p q w a, R p q w → a = ⟨(relaxR u (v2 p q) rs 0 fr).toArray, []⟩ → K a w)
    (first : ∀ (J K' : Act → World → Prop), (∀ a' w', CtI2 R rs fr a' w' → J a' w') → (∀ a' w', Met J a' w' → K' a' w') → s.wp P (Exit.then K' Q') ⟨fr.toArray, []⟩ w) : s.wp P (Exit.then K Q') ⟨fr.toArray, []⟩ w :=
  wp_cut (CtI2 R rs fr) (fun a w ⟨u, p, q, h, ha⟩ => rest u p q w a h ha) first
theorem CtI2.back {R : Value → Value → World → Prop} {rs : List (Nat × Nat)} (s1 s2 : Nat) (h : R (gt fr' s1) (gt fr' s2) w) (hv : relaxR (gt fr') (v2 (gt fr' s1) (gt fr' s2)) rs 0 fr = fr') : CtI2 R rs fr ⟨fr'.toArray, []⟩ w := ⟨_, _, _, h, by rw [hv]⟩
def CtI3 (R : Value → Value → Value → World → Prop) (rs : List (Nat × Nat)) (fr : List Value) (a : Act) (w : World) : Prop := ∃ u p q r, R p q r w ∧ a = ⟨(relaxR u (v3 p q r) rs 0 fr).toArray, []⟩
theorem wp_cut_u3 {s : Code} {K : Act → World → Prop} {Q' : Exit → Act → World → Prop} (rs : List (Nat × Nat)) (R : Value → Value → Value → World → Prop)
    (rest : ∀ u p q r w a, R p q r w → a = ⟨(relaxR u (v3 p q r) rs 0 fr).toArray, []⟩ → K a w)
    (first : ∀ (J K' : Act → World → Prop), (∀ a' w', CtI3 R rs fr a' w' → J a' w') → (∀ a' w', Met J a' w' → K' a' w') → s.wp P (Exit.then K' Q') ⟨fr.toArray, []⟩ w) : s.wp P (Exit.then K Q') ⟨fr.toArray, []⟩ w :=
  wp_cut (CtI3 R rs fr) (fun a w ⟨u, p, q, r, h, ha⟩ => rest u p q r w a h ha) first
theorem CtI3.back {R : Value → Value → Value → World → Prop} {rs : List (Nat × Nat)} (s1 s2 s3 : Nat) (h : R (gt fr' s1) (gt fr' s2) (gt fr' s3) w) (hv : relaxR (gt fr') (v3 (gt fr' s1) (gt fr' s2) (gt fr' s3)) rs 0 fr = fr') : CtI3 R rs fr ⟨fr'.toArray, []⟩ w := ⟨_, _, _, _, h, by rw [hv]⟩
def CtI4 (R : Value → Value → Value → Value → World → Prop) (rs : List (Nat × Nat)) (fr : List Value) (a : Act) (w : World) : Prop := ∃ u p q r t, R p q r t w ∧ a = ⟨(relaxR u (v4 p q r t) rs 0 fr).toArray, []⟩
theorem wp_cut_u4 {s : Code} {K : Act → World → Prop} {Q' : Exit → Act → World → Prop} (rs : List (Nat × Nat)) (R : Value → Value → Value → Value → World → Prop)
    (rest : ∀ u p q r t w a, R p q r t w → a = ⟨(relaxR u (v4 p q r t) rs 0 fr).toArray, []⟩ → K a w)
    (first : ∀ (J K' : Act → World → Prop), (∀ a' w', CtI4 R rs fr a' w' → J a' w') → (∀ a' w', Met J a' w' → K' a' w') → s.wp P (Exit.then K' Q') ⟨fr.toArray, []⟩ w) : s.wp P (Exit.then K Q') ⟨fr.toArray, []⟩ w :=
  wp_cut (CtI4 R rs fr) (fun a w ⟨u, p, q, r, t, h, ha⟩ => rest u p q r t w a h ha) first
theorem CtI4.back {R : Value → Value → Value → Value → World → Prop} {rs : List (Nat × Nat)} (s1 s2 s3 s4 : Nat) (h : R (gt fr' s1) (gt fr' s2) (gt fr' s3) (gt fr' s4) w) (hv : relaxR (gt fr') (v4 (gt fr' s1) (gt fr' s2) (gt fr' s3) (gt fr' s4)) rs 0 fr = fr') : CtI4 R rs fr ⟨fr'.toArray, []⟩ w := ⟨_, _, _, _, _, h, by rw [hv]⟩
end
end Go.Proofs.YtbjndpjligpjaaaDoor
