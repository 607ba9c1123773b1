import Derived.Test.YtkkobemhbicjgaaGreatDoorE20
namespace Go.Proofs.YtkkobemhbicjgaaGreatDoor
open Go.RowKit
def wS (ds : List Dv) (s : List Int) (most : Nat) (ls : List Lk) : Prop := xK ds ls ∧ ls.length ≤ most ∧ ∀ k ∈ ls, 10 ≤ k.key ∧ k.key < 10 + 3 * (most : Int) ∧ ∀ x, s[k.dev.toNat]? = some x → 0 < x → x ≤ 2 → k.pos = x
theorem wS.nil (ds : List Dv) (s : List Int) (most : Nat) : wS ds s most [] := ⟨⟨by simp, by simp, List.Pairwise.nil⟩, by simp, by simp⟩
theorem wS.more {ds : List Dv} {s : List Int} {most : Nat} {ls : List Lk} (h : wS ds s most ls) : wS ds s (most + 1) ls := ⟨h.1, by have := h.2.1; omega, fun k hk => by obtain ⟨h1, h2, h3⟩ := h.2.2 k hk; exact ⟨h1, by omega, h3⟩⟩
theorem lx {ns : List Nd} {ds : List Dv} {ls : List Lk} {k : Lk} (h : zw ns ds ls k = 0) : xK ds (wP k ls) := by
 unfold zw at h
 split at h
 ·next h1 => exact absurd h h1
 ·next h1 =>
  split at h
  ·next h2 => exact absurd h h2
  ·next h2 =>
   split at h
   ·omega
   ·next h3 =>
    split at h
    ·omega
    ·next h4 =>
     split at h
     ·omega
     ·next h5 =>
      have hg := ym (by simpa using h1 : zK ns ds ls = 0)
      exact sS hg (by simpa using h2) (by simpa using h3) (by simpa using h4) (by have := hg.1; omega)
theorem wS.put {ns : List Nd} {ds : List Dv} {s : List Int} {j : Nat} {ls : List Lk} {k : Lk} (h : wS ds s j ls) (ha : zw ns ds ls k = 0) (h1 : 10 ≤ k.key) (h2 : k.key < 10 + 3 * ((j : Int) + 1)) (h3 : ∀ x, s[k.dev.toNat]? = some x → 0 < x → x ≤ 2 → k.pos = x) : wS ds s (j + 1) (wP k ls) := by
 refine ⟨lx ha, by rw [mJ]; have := h.2.1; omega, fun y hy => ?_⟩
 rcases (mI k y ls).1 hy with rfl | hy
 ·exact ⟨h1, by omega, h3⟩
 ·obtain ⟨a, b, c⟩ := h.2.2 y hy
  exact ⟨a, by omega, c⟩
end Go.Proofs.YtkkobemhbicjgaaGreatDoor
