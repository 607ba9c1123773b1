/-
  A map[string]bool of the call's own, as a set of names.
-/
import Derived.Test.YtfabeihlfgemdaaDoorName
import Derived.Maps.OwnOps
import Derived.Maps.Views
import Derived.Maps.Keyed
namespace Go.Proofs.YtfabeihlfgemdaaDoor
open Go.RowKit
open Go.Maps (Keyed)

theorem law_str : Keyed Tryd.prog 9 := Go.Maps.string_keyed Tryd.underlying9
theorem plainElem_bool_inv {H : Type} {P : Program} {e : TypeId} (he : P.underlying e = some .bool) {v : Value} {z : DataW H × List MemPlace} (h : plainElem P e v = some z) : ∃ x, v = .bool x ∧ z = (.lit (.bool x), []) := by
  unfold plainElem at h
  rw [he] at h
  cases v <;> simp at h
  exact ⟨_, rfl, h.symm⟩
/-- Block b is a map that says true of just these names. -/
def UsedAt (w : World) (b : Nat) (names : List (List UInt8)) : Prop :=
  ∃ (D : DataW Unit), w.ownsMap Tryd.prog 9 (plainElem Tryd.prog 4) b names.length D ∧ Go.Maps.IsMap D ∧ ∀ k, D.atKey (.string k) (.lit (.bool false)) = .lit (.bool (decide (k ∈ names)))
theorem key_str (s : ByteArray) (hs : s.size ≤ 9223372036854775807) : keyOf Tryd.prog 9 (.string s) = some (.string (toL s)) := by
  have hu : Tryd.prog.underlying 9 = some .string := Tryd.underlying9
  simp [keyOf, mapKey, hu, maxLen, hs, toL]
theorem used_made (w : World) : UsedAt (w.alloc (.map #[] 0)) w.heap.size [] := ⟨.map [], World.ownsMap_made _ _ _ _, ⟨[], rfl⟩, fun k => by simp [DataW.atKey]⟩
theorem UsedAt.lt {w : World} {b : Nat} {names : List (List UInt8)} (h : UsedAt w b names) : b < w.heap.size := by
  obtain ⟨D, h1, _⟩ := h
  exact h1.lt
theorem UsedAt.kept {w w' : World} {b : Nat} {names : List (List UInt8)} {row : Option Nat} (h : UsedAt w b names) (hg : w.grownBy w' row) (hne : some b ≠ row) : UsedAt w' b names := by
  obtain ⟨D, h1, h2, h3⟩ := h
  exact ⟨D, h1.kept hg hne, h2, h3⟩
theorem UsedAt.below {w w' : World} {b : Nat} {names : List (List UInt8)} (h : UsedAt w b names) (hb : Below w.heap.size w w') : UsedAt w' b names := h.kept (grown_of_below hb none) (by simp)
theorem UsedAt.alloc {w : World} {b : Nat} {names : List (List UInt8)} (h : UsedAt w b names) (o : Obj) : UsedAt (w.alloc o) b names := h.below ((Below.refl _ _).alloc (Nat.le_refl _) _)
theorem UsedAt.look {w : World} {b : Nat} {names : List (List UInt8)} (h : UsedAt w b names) (s : ByteArray) (hs : s.size ≤ 9223372036854775807) :
    (Instr.lookup 86 (.map (some b)) (.string s) false).run Tryd.prog w = .ok (.bool (decide (toL s ∈ names))) w := by
  obtain ⟨D, h1, h2, h3⟩ := h
  obtain ⟨v, ps, hr, hv⟩ := h1.lookup law_str Tryd.underlying86 (z := .bool false) (by kernel_rfl) (plainElem_bool Tryd.underlying4 false) (key_str s hs)
  obtain ⟨x, rfl, hx⟩ := plainElem_bool_inv Tryd.underlying4 hv
  rw [h3] at hx
  simp only [Prod.mk.injEq, DataW.lit.injEq, Lit.bool.injEq] at hx
  rw [hr, hx.1]
theorem UsedAt.put {w : World} {b : Nat} {names : List (List UInt8)} (h : UsedAt w b names) (hn : names.length ≤ 1000000) (s : ByteArray) (hs : s.size ≤ 9223372036854775807) :
    ∃ w', (Instr.mapUpdate 86 (.map (some b)) (.string s) (.bool true)).run Tryd.prog w = .ok () w' ∧ UsedAt w' b (toL s :: names) ∧ w.grownBy w' (some b) := by
  obtain ⟨D, h1, h2, h3⟩ := h
  obtain ⟨w', hr, ho, hg⟩ := h1.update law_str Tryd.underlying86 (by unfold maxLen; omega) (key_str s hs) (plainElem_bool Tryd.underlying4 true)
  refine ⟨w', hr, ⟨_, ho, ?_, fun k => ?_⟩, hg⟩
  · obtain ⟨es, rfl⟩ := h2
    exact ⟨_, rfl⟩
  · by_cases e : k = toL s
    · rw [e, Go.Maps.atKey_put_same h2 (by simp [WideAt.IsKeyLit])]; simp
    · rw [Go.Maps.atKey_put_other (fun e' => e (by injection e')), h3]; simp [e]
end Go.Proofs.YtfabeihlfgemdaaDoor
