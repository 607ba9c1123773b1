import Derived.Test.YtlcaebfjdhgcfaaDoorZ36
/-
  Phi where what holds may depend on which operations have come; and operations without a slot.
-/
namespace Go.Proofs.YtlcaebfjdhgcfaaDoor
open Go.RowKit
def Phi1 {α : Type} (A : Act) (D : List (Nat × Nat)) (L0 : List (Nat × Value)) (N : Nat) (B : Array Bool → α → World → Prop) (G : Nat → α → Value → World → Prop) (l : Array Bool) (a : Act) (w : World) : Prop :=
  ∃ (vs : Nat → Value) (γ : α), l.size = N ∧ a = puts A (slots D l vs ++ L0) ∧ B l γ w ∧ ∀ j, flag l j = true → j ∈ D.map (·.1) → G j γ (vs j) w
section
variable {α : Type} {A : Act} {D : List (Nat × Nat)} {L0 : List (Nat × Value)} {N : Nat} {B : Array Bool → α → World → Prop} {G : Nat → α → Value → World → Prop} {l : Array Bool} {i d : Nat} {v : Value} {vs : Nat → Value} {γ γ' : α} {w w' : World}
theorem phi1_step (hn : (D.map (·.1)).Nodup ∧ (D.map (·.2)).Nodup) (hm : (i, d) ∈ D) (hl : l.size = N) (hi : i < N) (hf : flag l i = false) (hB : B (l.setIfInBounds i true) γ' w')
    (ho : ∀ j, flag l j = true → j ∈ D.map (·.1) → G j γ (vs j) w) (hk : ∀ j u, flag l j = true → j ∈ D.map (·.1) → G j γ u w → G j γ' u w') (hv : G i γ' v w') : Phi1 A D L0 N B G (l.setIfInBounds i true) (puts A ((d, v) :: (slots D l vs ++ L0))) w' := by
  refine ⟨updV vs i v, γ', by simpa using hl, slots_put A L0 (by omega) hf D hm hn.1 hn.2, hB, fun j hj hjm => ?_⟩
  by_cases hji : j = i
  · subst hji
    rw [updV_same]
    exact hv
  · rw [flag_ne hji] at hj
    rw [updV_ne hji]
    exact hk j _ hj hjm (ho j hj hjm)
theorem slots_skip {i : Nat} {l : Array Bool} {vs : Nat → Value} : ∀ D : List (Nat × Nat), i ∉ D.map (·.1) → slots D (l.setIfInBounds i true) vs = slots D l vs
  | [], _ => rfl
  | (j, d) :: r, h => by
    have hj : j ≠ i := fun e => h (by simp [e])
    simp only [slots]
    rw [flag_ne hj, slots_skip r (fun h2 => h (by simp only [List.map_cons, List.mem_cons]; exact .inr h2))]
/-- An operation that has no slot (a store). -/
theorem phi1_step0 (hm : i ∉ D.map (·.1)) (hl : l.size = N) (hB : B (l.setIfInBounds i true) γ' w')
    (ho : ∀ j, flag l j = true → j ∈ D.map (·.1) → G j γ (vs j) w) (hk : ∀ j, flag l j = true → j ∈ D.map (·.1) → G j γ (vs j) w → G j γ' (vs j) w') : Phi1 A D L0 N B G (l.setIfInBounds i true) (puts A (slots D l vs ++ L0)) w' := by
  refine ⟨vs, γ', by simpa using hl, by rw [slots_skip D hm], hB, fun j hj hjm => ?_⟩
  have hji : j ≠ i := fun e => hm (e ▸ hjm)
  rw [flag_ne hji] at hj
  exact hk j hj hjm (ho j hj hjm)
theorem phi1_start (γ : α) (h0 : D.all (fun p => !flag l p.1) = true) (hl : l.size = N) (hB : B l γ w) : Phi1 A D L0 N B G l (puts A L0) w :=
  ⟨fun _ => undef, γ, hl, by rw [slots_none D h0]; rfl, hB, fun j hj hm => by
    obtain ⟨⟨j', d⟩, h1, rfl⟩ := List.mem_map.1 hm
    have := List.all_eq_true.1 h0 _ h1
    simp only [hj] at this
    cases this⟩
end
section
variable {P : Program} {ops : Array Oper} {Q : Exit → Act → World → Prop} {A : Act} {L : List (Nat × Value)} {w w' : World} {i : Nat} {oi : Oper} {R : Act → World → Prop}
theorem lat_store (hi : ops[i]? = some oi) (hd : oi.dst = none) (hg : oi.guard = none) (hv : ∀ ρ : Operand → Value, Rd A L ρ → (execOp ρ oi).run P w = .ok .skip w') (h : R (puts A L) w') : wpOp P ops Q i R (puts A L) w := by
  simp only [wpOp, hi, wanted_none hg, if_true]
  refine .inl ?_
  rw [Oper.wp, hv _ rfl, Oper.upon_skip, hd]
  exact h
end
end Go.Proofs.YtlcaebfjdhgcfaaDoor
