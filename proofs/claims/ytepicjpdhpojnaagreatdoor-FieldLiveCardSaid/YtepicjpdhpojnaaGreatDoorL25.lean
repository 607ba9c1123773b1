import Derived.Test.YtepicjpdhpojnaaGreatDoorL22
import Derived.BigQuiet
import Derived.Test.YtepicjpdhpojnaaGreatDoorL19
namespace Go.Proofs.YtepicjpdhpojnaaGreatDoor
open Go.RowKit
structure PrI (nn : Nat) (ds : List Dv) (es : List Int) (v : Int) (out : List Bool) (met : Bool) : Prop where
 len : out.length = nn
 sound : ∀ u, marked out u → Rea ds es v u ∧ hasB es u = false
 base : marked out v
 met1 : met = true → ∃ u ∈ es, Rea ds es v u
def half (es : List Int) (out : List Bool) (met : Bool) (a b : Int) : Prop := marked out a → marked out b ∨ hasB es b = true ∧ met = true
def okP (ds : List Dv) (es : List Int) (out : List Bool) (met : Bool) (j : Nat) : Prop := ∀ x, ds[j]? = some x → joinsB x.kind = true → half es out met x.a x.b ∧ half es out met x.b x.a
theorem half.met {es : List Int} {out : List Bool} {met : Bool} {a b : Int} (h : half es out met a b) : half es out true a b := fun ha => (h ha).imp id fun h => ⟨h.1, rfl⟩
theorem okP.met {ds : List Dv} {es : List Int} {out : List Bool} {met : Bool} {j : Nat} (h : okP ds es out met j) : okP ds es out true j := fun x hx hj => ⟨(h x hx hj).1.met, (h x hx hj).2.met⟩
section
variable {nn : Nat} {ds : List Dv} {es : List Int} {v : Int} {out : List Bool} {met : Bool}
theorem PrI.reach (h : PrI nn ds es v out met) (hok : ∀ j, okP ds es out met j) {u : Int} (hr : Rea ds es v u) : marked out u ∨ hasB es u = true ∧ met = true := by
 unfold Rea at hr
 induction hr with
 | base hv => rw [List.mem_singleton.1 hv]; exact .inl h.base
 | step _ hS hx _ h0 ih =>
  rename_i u i x _ _
  have hm : marked out u := ih.resolve_right fun e => by rw [hS] at e; cases e.1
  obtain ⟨hj, ⟨e, e2⟩ | ⟨e, e2⟩⟩ := acr_two h0
  ·rw [e2]; rw [e] at hm; exact (hok i x hx hj).1 hm
  ·rw [e2]; rw [e] at hm; exact (hok i x hx hj).2 hm
theorem PrI.final (h : PrI nn ds es v out met) (hok : ∀ j, okP ds es out met j) (u : Int) : marked out u ↔ Rea ds es v u ∧ hasB es u = false :=
 ⟨h.sound u, fun hu => (h.reach hok hu.1).resolve_right fun e => by rw [hu.2] at e; cases e.1⟩
theorem Rea.step {j : Nat} {x : Dv} {a b : Int} (hr : Rea ds es v a) (hs : hasB es a = false) (hx : ds[j]? = some x) (hj : joinsB x.kind = true) (hab : x.a = a ∧ x.b = b ∨ x.b = a ∧ x.a = b) (hne : x.b ≠ x.a) (h0 : 0 ≤ b) : Rea ds es v b := by
 have h1 : acrB x a = b := by
  rcases hab with ⟨rfl, rfl⟩ | ⟨rfl, rfl⟩
  ·exact acr_a hj
  ·exact acr_b hj hne
 have := Rch.step (x := x) (i := j) (U := fun _ => true) (S := fun u => hasB es u) hr hs hx rfl (by rw [h1]; exact h0)
 rw [h1] at this
 exact this
theorem PrI.mark (h : PrI nn ds es v out met) {b : Nat} (hb : b < nn) (hr : Rea ds es v b) (hs : hasB es b = false) : PrI nn ds es v (out.set b true) met := by
 have hm := fun u => marked_set (out := out) (k := b) (by rw [h.len]; exact hb) u
 refine ⟨by rw [List.length_set]; exact h.len, fun u hu => ?_, (hm v).2 (.inr h.base), h.met1⟩
 rcases (hm u).1 hu with rfl | hu
 ·exact ⟨hr, hs⟩
 ·exact h.sound u hu
end
end Go.Proofs.YtepicjpdhpojnaaGreatDoor
namespace Go.Proofs.YtepicjpdhpojnaaGreatDoor
open Go.RowKit
end Go.Proofs.YtepicjpdhpojnaaGreatDoor
namespace Go.Proofs.YtepicjpdhpojnaaGreatDoor
open Go.RowKit
end Go.Proofs.YtepicjpdhpojnaaGreatDoor
namespace Go.Proofs.YtepicjpdhpojnaaGreatDoor
open Go.RowKit
theorem rgap_any (k : Int) (w : World) : Calls Tryz.prog 97 #[.int .i64 k] w fun e w' => e = .returned (.bool (gapB k)) ∧ w = w' := by
 by_cases h1 : k = 1
 ·subst h1
  go_enter Tryz.func97, Tryz.ntmps97
  go_wp2_with fail
  go_ret
  exact ⟨rfl, rfl⟩
 ·have q1 : (k == 1) = false := by simpa using h1
  by_cases h2 : k = 3
  ·subst h2
   go_enter Tryz.func97, Tryz.ntmps97
   go_wp2_with fail
   go_ret
   exact ⟨rfl, rfl⟩
  ·have q2 : (k == 3) = false := by simpa using h2
   have HR : Hid (gapB k = (k == 6)) := by unfold Hid gapB; rw [q1, q2]; simp
   go_enter Tryz.func97, Tryz.ntmps97
   go_wp2_with fail
   go_ret
   exact ⟨ret_bool HR.out.symm, rfl⟩
section
variable {ds : List Dv} {ls : List Lk}
end
end Go.Proofs.YtepicjpdhpojnaaGreatDoor
