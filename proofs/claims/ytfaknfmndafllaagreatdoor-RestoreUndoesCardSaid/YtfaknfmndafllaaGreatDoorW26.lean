import Derived.Test.YtfaknfmndafllaaGreatDoorW21
import Derived.Test.YtfaknfmndafllaaGreatDoorW18
namespace Go.Proofs.YtfaknfmndafllaaGreatDoor
open Go.RowKit
def LkMade (ds : List Dv) (s : List Int) (most : Nat) (ls : List Lk) : Prop := GoodL ds ls ∧ ls.length ≤ most ∧ ∀ k ∈ ls, 10 ≤ k.key ∧ k.key < 10 + 3 * (most : Int) ∧ ∀ x, s[k.dev.toNat]? = some x → 0 < x → x ≤ 2 → k.pos = x
theorem LkMade.nil (ds : List Dv) (s : List Int) (most : Nat) : LkMade ds s most [] := ⟨⟨by simp, by simp, List.Pairwise.nil⟩, by simp, by simp⟩
theorem LkMade.more {ds : List Dv} {s : List Int} {most : Nat} {ls : List Lk} (h : LkMade ds s most ls) : LkMade ds s (most + 1) ls := ⟨h.1, by have := h.2.1; omega, fun k hk => by obtain ⟨h1, h2, h3⟩ := h.2.2 k hk; exact ⟨h1, by omega, h3⟩⟩
theorem addm_zero {ns : List Nd} {ds : List Dv} {ls : List Lk} {k : Lk} (h : addErr ns ds ls k = 0) : GoodL ds (insL k ls) := by
 unfold addErr at h
 split at h
 ·next h1 => exact absurd h h1
 ·next h1 =>
  split at h
  ·next h2 => exact absurd h h2
  ·next h2 =>
   split at h
   ·omega
   ·next h3 =>
    split at h
    ·omega
    ·next h4 =>
     split at h
     ·omega
     ·next h5 =>
      have hg := locks_good (by simpa using h1 : locksErr ns ds ls = 0)
      exact ins_good hg (by simpa using h2) (by simpa using h3) (by simpa using h4) (by have := hg.1; omega)
theorem LkMade.put {ns : List Nd} {ds : List Dv} {s : List Int} {j : Nat} {ls : List Lk} {k : Lk} (h : LkMade ds s j ls) (ha : addErr ns ds ls k = 0) (h1 : 10 ≤ k.key) (h2 : k.key < 10 + 3 * ((j : Int) + 1)) (h3 : ∀ x, s[k.dev.toNat]? = some x → 0 < x → x ≤ 2 → k.pos = x) : LkMade ds s (j + 1) (insL k ls) := by
 refine ⟨addm_zero ha, by rw [ins_len]; have := h.2.1; omega, fun y hy => ?_⟩
 rcases (ins_mem k y ls).1 hy with rfl | hy
 ·exact ⟨h1, by omega, h3⟩
 ·obtain ⟨a, b, c⟩ := h.2.2 y hy
  exact ⟨a, by omega, c⟩
end Go.Proofs.YtfaknfmndafllaaGreatDoor
