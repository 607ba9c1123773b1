import Derived.Test.YtfaknfmndafllaaGreatDoorU15
import Derived.Test.YtfaknfmndafllaaGreatDoorU08
import Derived.Test.YtfaknfmndafllaaGreatDoorU11
import Derived.Test.YtfaknfmndafllaaGreatDoorU05
import Derived.Test.YtfaknfmndafllaaGreatDoorU04
import Derived.Deep.RegionLaw
import Derived.Deep.RegionWith
import Derived.Deep.DrawnRows
import Derived.Deep.DeepCutAuto
namespace Go.Proofs.YtfaknfmndafllaaGreatDoor
open Go.RowKit
end Go.Proofs.YtfaknfmndafllaaGreatDoor
namespace Go.Proofs.YtfaknfmndafllaaGreatDoor
open Go.RowKit
end Go.Proofs.YtfaknfmndafllaaGreatDoor
namespace Go.Proofs.YtfaknfmndafllaaGreatDoor
open Go.RowKit
attribute [local go_sem ↓] Go.wp_at_zero Go.wp_at_succ
def letterT (k : Nat) : List UInt8 := [[], [76], [81], [68], [69], [83], [71]].getD k []
section
variable {w0 w W W' : World} {g : Nat} {dmax : Int} {An Ad : Option Addr} {nn cn nd cd kind t : Nat} {ns : List Nd} {ds : List Dv} {LT : ByteArray}
end
end Go.Proofs.YtfaknfmndafllaaGreatDoor
namespace Go.Proofs.YtfaknfmndafllaaGreatDoor
open Go.RowKit
def NdOk (i : Nat) (x : Nd) : Prop := x.name = mkS (nm2 [78] i) ∧ 0 ≤ x.cust ∧ x.cust ≤ 50 ∧ 0 ≤ x.comp ∧ x.comp ≤ 2
def DvOk (k i : Nat) (x : Dv) : Prop := x.name = mkS (nm2 (letterT x.kind.toNat) i) ∧ 1 ≤ x.kind ∧ x.kind ≤ 6 ∧ endsB x.kind x.a x.b k = true ∧ 0 ≤ x.comp ∧ x.comp ≤ 2
def MadeN (ns : List Nd) : Prop := ∀ i x, ns[i]? = some x → NdOk i x
def MadeD (k : Nat) (ds : List Dv) : Prop := ∀ i x, ds[i]? = some x → DvOk k i x
theorem MadeN.snoc {ns : List Nd} (h : MadeN ns) {x : Nd} (hx : NdOk ns.length x) : MadeN (ns ++ [x]) := by
 intro i y hy
 rcases Nat.lt_trichotomy i ns.length with h1 | h1 | h1
 ·rw [List.getElem?_append_left h1] at hy; exact h i y hy
 ·subst h1; simp at hy; subst hy; exact hx
 ·rw [List.getElem?_eq_none (by simp; omega)] at hy; cases hy
theorem MadeD.snoc {k : Nat} {ds : List Dv} (h : MadeD k ds) {x : Dv} (hx : DvOk k ds.length x) : MadeD k (ds ++ [x]) := by
 intro i y hy
 rcases Nat.lt_trichotomy i ds.length with h1 | h1 | h1
 ·rw [List.getElem?_append_left h1] at hy; exact h i y hy
 ·subst h1; simp at hy; subst hy; exact hx
 ·rw [List.getElem?_eq_none (by simp; omega)] at hy; cases hy
def NetD (lo : Nat) (w0 : World) (g : Nat) (dmax : Int) (An : Option Addr) (k cn : Nat) (ns : List Nd) (w : World) : Prop :=
 ∃ (Ad : Option Addr) (nd cd : Nat) (ds : List Dv), NetSt w0 g dmax An k cn ns Ad nd cd ds w ∧ (nd : Int) ≤ dmax ∧ lo ≤ nd ∧ ds.length = nd ∧ MadeD k ds
section
variable {w0 w w' : World} {g lo k cn : Nat} {dmax : Int} {An : Option Addr} {ns : List Nd}
theorem NetD.next (h : NetD lo w0 g dmax An k cn ns w) (hd : DeckAt w' g) (hg : w.grownBy w' (some g)) : NetD lo w0 g dmax An k cn ns w' := by
 obtain ⟨Ad, nd, cd, ds, h1, h2⟩ := h
 exact ⟨Ad, nd, cd, ds, h1.next hd hg, h2⟩
theorem NetD.deck (h : NetD lo w0 g dmax An k cn ns w) : DeckAt w g := by
 obtain ⟨Ad, nd, cd, ds, h1, h2⟩ := h
 exact h1.deck
theorem NetD.pc (h : NetD lo w0 g dmax An k cn ns w) : w.cell? ⟨w0.heap.size, 0, none⟩ = some (.pointer (some ⟨g, 0, none⟩)) := by
 obtain ⟨Ad, nd, cd, ds, h1, h2⟩ := h
 exact h1.pb.cell 0
end
structure MadeNet (nodes dmax : Int) (ns : List Nd) (ds : List Dv) : Prop where
 n2 : 2 ≤ ns.length
 nm : (ns.length : Int) ≤ nodes
 d1 : 1 ≤ ds.length
 dm : (ds.length : Int) ≤ dmax
 nok : MadeN ns
 dok : MadeD ns.length ds
end Go.Proofs.YtfaknfmndafllaaGreatDoor
