import Derived.Test.YtfaknfmndafllaaGreatDoorW11
import Derived.Test.YtfaknfmndafllaaGreatDoorW07
namespace Go.Proofs.YtfaknfmndafllaaGreatDoor
open Go.RowKit
structure NetOk (ns : List Nd) (ds : List Dv) : Prop where
 e : EndsOk ns.length ds
 a : AOk ns.length ds
 k : ∀ x ∈ ds, 1 ≤ x.kind ∧ x.kind ≤ 6
 ne : ∀ x ∈ ds, joinsB x.kind = true → x.b ≠ x.a
 nl : ns.length ≤ 32
 dl : ds.length ≤ 64
theorem chkD_ok {k : Int} : ∀ (ds : List Dv) (used : List (List UInt8)), chkD k used ds = 0 → ∀ x ∈ ds, (1 ≤ x.kind ∧ x.kind ≤ 6) ∧ endsB x.kind x.a x.b k = true
 | [], _, _, x, hx => by cases hx
 | y :: r, used, h, x, hx => by
  rw [chkD] at h
  by_cases h0 : dvErr k used y = 0
  ·rw [if_pos h0] at h
   rcases List.mem_cons.1 hx with rfl | hx
   ·unfold dvErr at h0
    by_cases h1 : nameB (toL x.name) = false
    ·rw [if_pos h1] at h0; cases h0
    by_cases h2 : toL x.name ∈ used
    ·rw [if_neg h1, if_pos h2] at h0; cases h0
    by_cases h3 : x.kind < 1 ∨ 6 < x.kind
    ·rw [if_neg h1, if_neg h2, if_pos h3] at h0; cases h0
    by_cases h4 : endsB x.kind x.a x.b k = false
    ·rw [if_neg h1, if_neg h2, if_neg h3, if_pos h4] at h0; cases h0
    exact ⟨by omega, by simpa using h4⟩
   ·exact chkD_ok r _ h x hx
  ·rw [if_neg h0] at h; exact absurd h h0
theorem NetOk.of {ns : List Nd} {ds : List Dv} (h : checkN ns ds = 0) : NetOk ns ds := by
 unfold checkN at h
 by_cases h1 : 32 < ns.length
 ·rw [if_pos h1] at h; cases h
 by_cases h2 : 64 < ds.length
 ·rw [if_neg h1, if_pos h2] at h; cases h
 by_cases h3 : chkN [] ns = 0
 ·rw [if_neg h1, if_neg h2, if_pos h3] at h
  have H := chkD_ok ds _ h
  have E : ∀ x ∈ ds, 0 ≤ x.a ∧ x.a < ns.length ∧ (joinsB x.kind = true → 0 ≤ x.b ∧ x.b < ns.length ∧ x.b ≠ x.a) := fun x hx => by
   have := (H x hx).2
   unfold endsB at this
   split at this
   ·cases this
   ·next e1 =>
    split at this
    ·cases this
    ·next e2 =>
     refine ⟨by omega, by omega, fun hj => ?_⟩
     rw [if_neg (by rw [hj]; simp)] at this
     simp at this
     omega
  exact ⟨fun x hx hj => ⟨⟨(E x hx).1, (E x hx).2.1⟩, ((E x hx).2.2 hj).1, ((E x hx).2.2 hj).2.1⟩, fun x hx => ⟨(E x hx).1, (E x hx).2.1⟩, fun x hx => (H x hx).1, fun x hx hj => ((E x hx).2.2 hj).2.2, by omega, by omega⟩
 ·rw [if_neg h1, if_neg h2, if_neg h3] at h; exact absurd h h3
end Go.Proofs.YtfaknfmndafllaaGreatDoor
