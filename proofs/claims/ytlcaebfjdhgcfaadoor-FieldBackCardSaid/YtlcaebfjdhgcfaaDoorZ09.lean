import Derived.Test.YtlcaebfjdhgcfaaDoorZ04
/-
  Memory: parts of a slice of structs.
-/
namespace Go.Proofs.YtlcaebfjdhgcfaaDoor
open Go.RowKit
section
variable {w : World} {B size n c k : Nat} {A : Option Addr} {α : Type} {f : α → List Value} {l : List α}
theorem Sl.takeK (h : Sl w B size A n c (l.flatMap f)) (hf : ∀ x, (f x).length = size) (hs : 0 < size) (hk : k ≤ n) : Sl w B size A k c ((l.take k).flatMap f) := by
  have hl := h.len hf hs
  obtain ⟨h1, h2, h3, h4, h5⟩ := h
  refine ⟨by rw [flat_len hf, List.length_take, Nat.min_eq_left (by omega)], by omega, h3, h4, fun hp => ?_⟩
  obtain ⟨b, off, e, hb, hc⟩ := h5 (by omega)
  refine ⟨b, off, e, hb, fun j u hu => hc j u ?_⟩
  rw [← List.take_append_drop k l, List.flatMap_append, List.getElem?_append_left (List.getElem?_eq_some_iff.1 hu).1]
  exact hu
/-- The address of what is left of a slice. -/
def cutK (A : Option Addr) (c k size : Nat) : Option Addr := if c = k then A else A.map (·.add (k * size))
theorem Sl.dropK (h : Sl w B size A n c (l.flatMap f)) (hf : ∀ x, (f x).length = size) (hs : 0 < size) (hk : k ≤ n) : Sl w B size (cutK A c k size) (n - k) (c - k) ((l.drop k).flatMap f) := by
  have hl := h.len hf hs
  obtain ⟨h1, h2, h3, h4, h5⟩ := h
  refine ⟨by rw [flat_len hf, List.length_drop, hl], by omega, by omega, fun e => ?_, fun hp => ?_⟩
  · unfold cutK at e
    split at e
    · omega
    · cases A with
      | none => have := h4 rfl; omega
      | some a => cases e
  · obtain ⟨b, off, e, hb, hc⟩ := h5 (by omega)
    subst e
    refine ⟨b, off + k * size, by unfold cutK; rw [if_neg (by omega), Option.map_some, add_plain], hb, fun j u hu => ?_⟩
    have := hc (k * size + j) u (by
      rw [← List.take_append_drop k l, List.flatMap_append, List.getElem?_append_right (by rw [flat_len hf, List.length_take, Nat.min_eq_left (by omega)]; omega), flat_len hf, List.length_take, Nat.min_eq_left (by omega), show k * size + j - k * size = j by omega]
      exact hu)
    rw [Nat.add_assoc]; exact this
end
theorem run_from_lk (w : World) (A : Option Addr) (n c k : Nat) (hk : k ≤ n) : (Instr.sliceAt 31 (.slice A n c) (some (.int .i64 (k : Int))) none none).run Tryd.prog w = .ok (.slice (cutK A c k 3) (n - k) (c - k)) w := by
  rw [run_sliceAt_slice _ _ _ _ _ _ (by kernel_rfl), run_slice_l _ _ _ _ _ (by kernel_rfl) _ _ (by omega) (by omega)]
  have : (sizeOf (Tryd.prog.elem 31)).run Tryd.prog w = .ok 3 w := by kernel_rfl
  rw [this]
  simp [sliced, cutK, Result.andThen]
end Go.Proofs.YtlcaebfjdhgcfaaDoor
