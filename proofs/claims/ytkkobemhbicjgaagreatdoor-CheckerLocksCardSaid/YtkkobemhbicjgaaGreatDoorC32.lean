import Derived.Test.YtkkobemhbicjgaaGreatDoorC29
import Derived.Test.YtkkobemhbicjgaaGreatDoorC13
import Derived.Test.YtkkobemhbicjgaaGreatDoorC28
import Derived.Deep.LoopGhost
namespace Go.Proofs.YtkkobemhbicjgaaGreatDoor
open Go.RowKit
def MfIn (F : List Int → List Bool) (rows : List (List Int)) (k : Nat) (S : List Bool) (nb : Bool) : Prop := S.length = 9 ∧ (∀ i, i < 9 → (S[i]? = some true ↔ ∃ s ∈ rows.take k, (F s)[i]? = some true)) ∧ (nb = true ↔ ∀ s ∈ rows.take k, (F s)[7]? = some true)
def MfTo (F : List Int → List Bool) (rows : List (List Int)) (k : Nat) (s : List Int) (j : Nat) (S : List Bool) : Prop := S.length = 9 ∧ (∀ i, i < 9 → (S[i]? = some true ↔ (∃ s ∈ rows.take k, (F s)[i]? = some true) ∨ i < j ∧ (F s)[i]? = some true))
section
variable {F : List Int → List Bool} {rows : List (List Int)} {k j : Nat} {s : List Int} {S : List Bool} {nb a b : Bool}
theorem MfIn.start : MfIn F rows 0 (List.replicate 9 false) true := ⟨rfl, fun i hi => by rw [List.getElem?_replicate, if_pos hi]; simp, by simp⟩
theorem MfIn.two (h : MfIn F rows k S nb) : MfTo F rows k s 0 S := ⟨h.1, fun i hi => by rw [h.2.1 i hi]; simp⟩
theorem MfIn.nothing (h : MfIn F rows k S nb) (hs : rows[k]? = some s) (hb : (F s)[7]? = some b) : (nb && b) = true ↔ ∀ s ∈ rows.take (k + 1), (F s)[7]? = some true := by
 rw [Bool.and_eq_true, h.2.2, take_snoc hs]
 constructor
 ·rintro ⟨h1, rfl⟩ t ht
  rcases List.mem_append.1 ht with h2 | h2
  ·exact h1 t h2
  ·rw [List.mem_singleton.1 h2]; exact hb
 ·intro h1
  refine ⟨fun t ht => h1 t (List.mem_append_left _ ht), ?_⟩
  have := h1 s (by simp)
  rw [hb] at this
  exact Option.some.inj this
theorem MfTo.step (h : MfTo F rows k s j S) (hj : j < 9) (ha : S[j]? = some a) (hb : (F s)[j]? = some b) : MfTo F rows k s (j + 1) (S.set j (a || b)) := by
 refine ⟨by rw [List.length_set]; exact h.1, fun i hi => ?_⟩
 by_cases hij : j = i
 ·subst hij
  rw [List.getElem?_set_self (by rw [h.1]; exact hj)]
  have h1 := h.2 j hj
  rw [ha] at h1
  rw [hb]
  constructor
  ·intro h2
   have h2 := Option.some.inj h2
   rw [Bool.or_eq_true] at h2
   rcases h2 with rfl | rfl
   ·rcases h1.1 rfl with h3 | h3
    ·exact .inl h3
    ·omega
   ·exact .inr ⟨by omega, rfl⟩
  ·rintro (h2 | ⟨_, h2⟩)
   ·have := Option.some.inj (h1.2 (.inl h2))
    rw [this]; rfl
   ·have := Option.some.inj h2
    rw [this, Bool.or_true]
 ·rw [List.getElem?_set_ne hij, h.2 i hi]
  constructor
  ·rintro (h1 | ⟨h1, h2⟩)
   ·exact .inl h1
   ·exact .inr ⟨by omega, h2⟩
  ·rintro (h1 | ⟨h1, h2⟩)
   ·exact .inl h1
   ·exact .inr ⟨by omega, h2⟩
theorem MfTo.done (h : MfTo F rows k s 9 S) (hs : rows[k]? = some s) (hn : nb = true ↔ ∀ s ∈ rows.take (k + 1), (F s)[7]? = some true) : MfIn F rows (k + 1) S nb := by
 refine ⟨h.1, fun i hi => ?_, hn⟩
 rw [h.2 i hi, take_snoc hs]
 constructor
 ·rintro (⟨t, ht, h1⟩ | ⟨_, h1⟩)
  ·exact ⟨t, List.mem_append_left _ ht, h1⟩
  ·exact ⟨s, by simp, h1⟩
 ·rintro ⟨t, ht, h1⟩
  rcases List.mem_append.1 ht with h2 | h2
  ·exact .inl ⟨t, h2, h1⟩
  ·rw [List.mem_singleton.1 h2] at h1; exact .inr ⟨hi, h1⟩
end
end Go.Proofs.YtkkobemhbicjgaaGreatDoor
namespace Go.Proofs.YtkkobemhbicjgaaGreatDoor
open Go.RowKit
end Go.Proofs.YtkkobemhbicjgaaGreatDoor
