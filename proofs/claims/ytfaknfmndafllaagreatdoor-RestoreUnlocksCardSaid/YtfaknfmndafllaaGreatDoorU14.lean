import Derived.Test.YtfaknfmndafllaaGreatDoorU13
import Derived.Test.YtfaknfmndafllaaGreatDoorU11
import Derived.Test.YtfaknfmndafllaaGreatDoorU07
namespace Go.Proofs.YtfaknfmndafllaaGreatDoor
open Go.RowKit
end Go.Proofs.YtfaknfmndafllaaGreatDoor
namespace Go.Proofs.YtfaknfmndafllaaGreatDoor
def sumN (l : List Int) : Nat := (l.map Int.toNat).sum
theorem sumN_set : ∀ {l : List Int} {k : Nat} {x : Int} (y : Int), l[k]? = some x → sumN (l.set k y) + x.toNat = sumN l + y.toNat
 | [], k, x, y, h => by simp at h
 | a :: l, 0, x, y, h => by simp at h; subst h; simp [sumN]; omega
 | a :: l, k + 1, x, y, h => by
  simp at h
  have := sumN_set y h
  simp [sumN] at *
  omega
def LInv (nn : Nat) (ds : List Dv) (s out : List Int) : Prop := out.length = nn ∧ ∀ v : Nat, v < nn → ∃ p : Nat, out[v]? = some (p : Int) ∧ p ≤ v ∧ Conn ds s p v
def LOne (ds : List Dv) (s out : List Int) (i : Nat) : Prop := ∀ x, ds[i]? = some x → shutB s i = true → joinsB x.kind = true → out[x.a.toNat]? = out[x.b.toNat]?
section
variable {nn : Nat} {ds : List Dv} {s out : List Int}
theorem LInv.put (h : LInv nn ds s out) {i : Nat} {x : Dv} {a b p q : Nat} (hx : ds[i]? = some x) (hc : shutB s i = true) (hj : joinsB x.kind = true) (ha : x.a = a) (hb : x.b = b) (han : a < nn) (hbn : b < nn) (hab : a ≠ b) (hp : out[a]? = some (p : Int)) (hq : out[b]? = some (q : Int)) (hpq : p ≠ q) :
 LInv nn ds s ((out.set a (min p q : Nat)).set b (min p q : Nat)) ∧ sumN ((out.set a (min p q : Nat)).set b (min p q : Nat)) < sumN out := by
 have hA : acrB x a = b := by unfold acrB; rw [if_neg (by rw [hj]; simp), if_pos ha, hb]
 have hB : acrB x b = a := by unfold acrB; rw [if_neg (by rw [hj]; simp), if_neg (by omega), if_pos hb, ha]
 have cab : Conn ds s a b := by have := Conn.edge (s := s) (u := (a : Int)) hx hc (by rw [hA]; omega); rwa [hA] at this
 have cba : Conn ds s b a := by have := Conn.edge (s := s) (u := (b : Int)) hx hc (by rw [hB]; omega); rwa [hB] at this
 obtain ⟨p', hp1, hp2, hp3⟩ := h.2 a han
 obtain ⟨q', hq1, hq2, hq3⟩ := h.2 b hbn
 have e1 : p' = p := by rw [hp] at hp1; injection hp1 with e; omega
 have e2 : q' = q := by rw [hq] at hq1; injection hq1 with e; omega
 subst e1 e2
 have hm : (min p' q' = p' ∧ p' < q') ∨ (min p' q' = q' ∧ q' < p') := by omega
 have ca : Conn ds s (min p' q' : Nat) a := by
  rcases hm with ⟨e, _⟩ | ⟨e, _⟩ <;> rw [e]
  ·exact hp3
  ·exact hq3.trans cba
 have cb : Conn ds s (min p' q' : Nat) b := ca.trans cab
 have hla : out.length = nn := h.1
 refine ⟨⟨by simp [h.1], fun v hv => ?_⟩, ?_⟩
 ·rw [List.getElem?_set, List.getElem?_set]
  by_cases hvb : b = v
  ·subst hvb
   rw [if_pos rfl, if_pos (by simp; omega)]
   exact ⟨min p' q', rfl, by omega, cb⟩
  ·rw [if_neg hvb]
   by_cases hva : a = v
   ·subst hva
    rw [if_pos rfl, if_pos (by omega)]
    exact ⟨min p' q', rfl, by omega, ca⟩
   ·rw [if_neg hva]
    exact h.2 v hv
 ·have s1 := sumN_set (min p' q' : Nat) hp
  have s2 := sumN_set (l := out.set a (min p' q' : Nat)) (k := b) (x := (q' : Int)) (min p' q' : Nat) (by rw [List.getElem?_set, if_neg hab]; exact hq)
  simp only [Int.toNat_natCast] at s1 s2
  omega
theorem LInv.start (nn : Nat) (ds : List Dv) (s out : List Int) (hl : out.length = nn) (h : ∀ v : Nat, v < nn → out[v]? = some (v : Int)) : LInv nn ds s out := ⟨hl, fun v hv => ⟨v, h v hv, Nat.le_refl _, Conn.refl _ _ _⟩⟩
theorem LInv.final (h : LInv nn ds s out) (h1 : ∀ i, i < ds.length → LOne ds s out i) : IsParts nn ds s out := by
 have same : ∀ (u v : Int), 0 ≤ u → u < nn → Conn ds s u v → out[u.toNat]? = out[v.toNat]? := by
  intro u v h0 hu hc
  unfold Conn at hc
  induction hc with
  | base hv => rw [List.mem_singleton.1 hv]
  | step hr _ hx hU h00 ih =>
   rename_i a i x _
   rw [ih]
   have hL := h1 i (List.getElem?_eq_some_iff.1 hx).1 x hx hU
   unfold acrB at h00 ⊢
   by_cases hj : joinsB x.kind = false
   ·rw [if_pos hj] at h00; omega
   ·simp only [if_neg hj] at h00 ⊢
    have hL := hL (by simpa using hj)
    by_cases ha : x.a = a
    ·rw [if_pos ha, ← ha]; exact hL
    ·simp only [if_neg ha] at h00 ⊢
     by_cases hb : x.b = a
     ·rw [if_pos hb, ← hb]; exact hL.symm
     ·rw [if_neg hb] at h00; omega
 refine ⟨h.1, fun v hv => ?_⟩
 obtain ⟨p, h2, h3, h4⟩ := h.2 v hv
 refine ⟨p, h2, h3, h4, fun u hu hc => ?_⟩
 obtain ⟨q, k2, k3, k4⟩ := h.2 u hu
 have := same u v (by omega) (by omega) hc
 simp only [Int.toNat_natCast] at this
 rw [h2, k2] at this
 injection this with e
 omega
end
end Go.Proofs.YtfaknfmndafllaaGreatDoor
