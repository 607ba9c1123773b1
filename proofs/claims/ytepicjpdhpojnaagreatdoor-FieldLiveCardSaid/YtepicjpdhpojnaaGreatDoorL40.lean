import Derived.Test.YtepicjpdhpojnaaGreatDoorL08
namespace Go.Proofs.YtepicjpdhpojnaaGreatDoor
open Go.RowKit
open Go.Maps (Keyed)
def FlagsAt (w : World) (b n : Nat) (f : Int → Bool) : Prop :=
 ∃ (D : DataW Unit), w.ownsMap Tryz.prog 3 (plainElem Tryz.prog 4) b n D ∧ Go.Maps.IsMap D ∧ ∀ k, D.atKey (.int .i64 k) (.lit (.bool false)) = .lit (.bool (f k))
section
variable {w w' : World} {b n : Nat} {f g : Int → Bool}
theorem flags_made (w : World) : FlagsAt (w.alloc (.map #[] 0)) w.heap.size 0 (fun _ => false) := ⟨.map [], World.ownsMap_made _ _ _ _, ⟨[], rfl⟩, fun k => by simp [DataW.atKey]⟩
theorem FlagsAt.lt (h : FlagsAt w b n f) : b < w.heap.size := by
 obtain ⟨D, h1, _⟩ := h
 exact h1.lt
theorem FlagsAt.congr (h : FlagsAt w b n f) (e : ∀ k, f k = g k) : FlagsAt w b n g := by
 obtain ⟨D, h1, h2, h3⟩ := h
 exact ⟨D, h1, h2, fun k => by rw [h3, e]⟩
theorem FlagsAt.kept {row : Option Nat} (h : FlagsAt w b n f) (hg : w.grownBy w' row) (hne : some b ≠ row) : FlagsAt w' b n f := by
 obtain ⟨D, h1, h2, h3⟩ := h
 exact ⟨D, h1.kept hg hne, h2, h3⟩
theorem FlagsAt.below (h : FlagsAt w b n f) (hb : Below w.heap.size w w') : FlagsAt w' b n f := h.kept (grown_of_below hb none) (by simp)
theorem FlagsAt.alloc (h : FlagsAt w b n f) (o : Obj) : FlagsAt (w.alloc o) b n f := h.below ((Below.refl _ _).alloc (Nat.le_refl _) _)
theorem FlagsAt.more {m : Nat} (h : FlagsAt w b n f) (hm : n ≤ m) : FlagsAt w b m f := by
 obtain ⟨D, ⟨es, cl, a1, a2, a3, a4⟩, h2, h3⟩ := h
 exact ⟨D, ⟨es, cl, a1, a2, by omega, a4⟩, h2, h3⟩
theorem FlagsAt.look (h : FlagsAt w b n f) (k : Int) (h0 : -1000000 ≤ k) (h1 : k ≤ 1000000) :
 (Instr.lookup 57 (.map (some b)) (.int .i64 k) false).run Tryz.prog w = .ok (.bool (f k)) w := by
 obtain ⟨D, hD, _, h3⟩ := h
 obtain ⟨v, ps, hr, hv⟩ := hD.lookup law_int Tryz.underlying57 (z := .bool false) (by kernel_rfl) (plainElem_bool Tryz.underlying4 false) (Go.Maps.keyOf_int_mk Tryz.underlying3 (wf_small h0 h1))
 obtain ⟨x, rfl, hx⟩ := plainElem_bool_inv Tryz.underlying4 hv
 rw [h3] at hx
 simp only [Prod.mk.injEq, DataW.lit.injEq, Lit.bool.injEq] at hx
 rw [hr, hx.1]
theorem FlagsAt.put (h : FlagsAt w b n f) (hn : n ≤ 1000000) (k : Int) (x : Bool) (h0 : -1000000 ≤ k) (h1 : k ≤ 1000000) :
 ∃ w', (Instr.mapUpdate 57 (.map (some b)) (.int .i64 k) (.bool x)).run Tryz.prog w = .ok () w' ∧ FlagsAt w' b (n + 1) (fun j => if j = k then x else f j) ∧ w.grownBy w' (some b) := by
 obtain ⟨D, hD, h2, h3⟩ := h
 obtain ⟨w', hr, ho, hg⟩ := hD.update law_int Tryz.underlying57 (by unfold maxLen; omega) (Go.Maps.keyOf_int_mk Tryz.underlying3 (wf_small h0 h1)) (plainElem_bool Tryz.underlying4 x)
 refine ⟨w', hr, ⟨_, ho, ?_, fun j => ?_⟩, hg⟩
 ·obtain ⟨es, rfl⟩ := h2
  exact ⟨_, rfl⟩
 ·by_cases e : j = k
  ·rw [e, Go.Maps.atKey_put_same h2 (by simp [WideAt.IsKeyLit])]; simp only [if_true]
  ·rw [Go.Maps.atKey_put_other (fun e' => e (by injection e')), h3]; simp only [if_neg e]
end
end Go.Proofs.YtepicjpdhpojnaaGreatDoor
