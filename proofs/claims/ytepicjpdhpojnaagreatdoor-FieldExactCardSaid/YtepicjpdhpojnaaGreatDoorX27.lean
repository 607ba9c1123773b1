import Derived.Test.YtepicjpdhpojnaaGreatDoorX26
namespace Go.Proofs.YtepicjpdhpojnaaGreatDoor
open Go.RowKit
def j8 (i : Nat) (x : Nd) : Prop := x.name = mkS (nm2 [78] i) ∧ 0 ≤ x.cust ∧ x.cust ≤ 50 ∧ 0 ≤ x.comp ∧ x.comp ≤ 2
def iH (k i : Nat) (x : Dv) : Prop := x.name = mkS (nm2 (mX x.kind.toNat) i) ∧ 1 ≤ x.kind ∧ x.kind ≤ 6 ∧ wP x.kind x.a x.b k = true ∧ 0 ≤ x.comp ∧ x.comp ≤ 2
def mx (ns : List Nd) : Prop := ∀ i x, ns[i]? = some x → j8 i x
def nO (k : Nat) (ds : List Dv) : Prop := ∀ i x, ds[i]? = some x → iH k i x
theorem mx.snoc {ns : List Nd} (h : mx ns) {x : Nd} (hx : j8 ns.length x) : mx (ns ++ [x]) := by
 intro i y hy
 rcases Nat.lt_trichotomy i ns.length with h1 | h1 | h1
 ·rw [List.getElem?_append_left h1] at hy; exact h i y hy
 ·subst h1; simp at hy; subst hy; exact hx
 ·rw [List.getElem?_eq_none (by simp; omega)] at hy; cases hy
theorem nO.snoc {k : Nat} {ds : List Dv} (h : nO k ds) {x : Dv} (hx : iH k ds.length x) : nO k (ds ++ [x]) := by
 intro i y hy
 rcases Nat.lt_trichotomy i ds.length with h1 | h1 | h1
 ·rw [List.getElem?_append_left h1] at hy; exact h i y hy
 ·subst h1; simp at hy; subst hy; exact hx
 ·rw [List.getElem?_eq_none (by simp; omega)] at hy; cases hy
def mQ (lo : Nat) (w0 : World) (g : Nat) (dmax : Int) (An : Option Addr) (k cn : Nat) (ns : List Nd) (w : World) : Prop :=
 ∃ (Ad : Option Addr) (nd cd : Nat) (ds : List Dv), yp w0 g dmax An k cn ns Ad nd cd ds w ∧ (nd : Int) ≤ dmax ∧ lo ≤ nd ∧ ds.length = nd ∧ nO k ds
section
variable {w0 w w' : World} {g lo k cn : Nat} {dmax : Int} {An : Option Addr} {ns : List Nd}
theorem mQ.next (h : mQ lo w0 g dmax An k cn ns w) (hd : zU w' g) (hg : w.grownBy w' (some g)) : mQ lo w0 g dmax An k cn ns w' := by
 obtain ⟨Ad, nd, cd, ds, h1, h2⟩ := h
 exact ⟨Ad, nd, cd, ds, h1.next hd hg, h2⟩
theorem mQ.deck (h : mQ lo w0 g dmax An k cn ns w) : zU w g := by
 obtain ⟨Ad, nd, cd, ds, h1, h2⟩ := h
 exact h1.deck
theorem mQ.pc (h : mQ lo w0 g dmax An k cn ns w) : w.cell? ⟨w0.heap.size, 0, none⟩ = some (.pointer (some ⟨g, 0, none⟩)) := by
 obtain ⟨Ad, nd, cd, ds, h1, h2⟩ := h
 exact h1.pb.cell 0
end
structure sD (nodes dmax : Int) (ns : List Nd) (ds : List Dv) : Prop where
 n2 : 2 ≤ ns.length
 nm : (ns.length : Int) ≤ nodes
 d1 : 1 ≤ ds.length
 dm : (ds.length : Int) ≤ dmax
 nok : mx ns
 dok : nO ns.length ds
end Go.Proofs.YtepicjpdhpojnaaGreatDoor
