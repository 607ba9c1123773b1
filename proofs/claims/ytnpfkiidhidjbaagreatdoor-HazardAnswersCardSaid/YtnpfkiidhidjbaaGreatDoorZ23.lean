import Derived.Test.YtnpfkiidhidjbaaGreatDoorZ22
/-
 The statements' maker of networks: what it makes, and its state.
-/
namespace Go.Proofs.YtnpfkiidhidjbaaGreatDoor
open Go.RowKit
def NdOk (i : Nat) (x : Nd) : Prop := x.name = mkS (nm2 [78] i) ∧ 0 ≤ x.cust ∧ x.cust ≤ 50 ∧ 0 ≤ x.comp ∧ x.comp ≤ 2
def DvOk (k i : Nat) (x : Dv) : Prop := x.name = mkS (nm2 (letterT x.kind.toNat) i) ∧ 1 ≤ x.kind ∧ x.kind ≤ 6 ∧ endsB x.kind x.a x.b k = true ∧ 0 ≤ x.comp ∧ x.comp ≤ 2
def MadeN (ns : List Nd) : Prop := ∀ i x, ns[i]? = some x → NdOk i x
def MadeD (k : Nat) (ds : List Dv) : Prop := ∀ i x, ds[i]? = some x → DvOk k i x
theorem MadeN.snoc {ns : List Nd} (h : MadeN ns) {x : Nd} (hx : NdOk ns.length x) : MadeN (ns ++ [x]) := by
 intro i y hy
 rcases Nat.lt_trichotomy i ns.length with h1 | h1 | h1
 ·rw [List.getElem?_append_left h1] at hy; exact h i y hy
 ·subst h1; simp at hy; subst hy; exact hx
 ·rw [List.getElem?_eq_none (by simp; omega)] at hy; cases hy
theorem MadeD.snoc {k : Nat} {ds : List Dv} (h : MadeD k ds) {x : Dv} (hx : DvOk k ds.length x) : MadeD k (ds ++ [x]) := by
 intro i y hy
 rcases Nat.lt_trichotomy i ds.length with h1 | h1 | h1
 ·rw [List.getElem?_append_left h1] at hy; exact h i y hy
 ·subst h1; simp at hy; subst hy; exact hx
 ·rw [List.getElem?_eq_none (by simp; omega)] at hy; cases hy
/-- The devices that were made so far, at least lo. -/
def NetD (lo : Nat) (w0 : World) (g : Nat) (dmax : Int) (An : Option Addr) (k cn : Nat) (ns : List Nd) (w : World) : Prop :=
 ∃ (Ad : Option Addr) (nd cd : Nat) (ds : List Dv), NetSt w0 g dmax An k cn ns Ad nd cd ds w ∧ (nd : Int) ≤ dmax ∧ lo ≤ nd ∧ ds.length = nd ∧ MadeD k ds
section
variable {w0 w w' : World} {g lo k cn : Nat} {dmax : Int} {An : Option Addr} {ns : List Nd}
theorem NetD.next (h : NetD lo w0 g dmax An k cn ns w) (hd : DeckAt w' g) (hg : w.grownBy w' (some g)) : NetD lo w0 g dmax An k cn ns w' := by
 obtain ⟨Ad, nd, cd, ds, h1, h2⟩ := h
 exact ⟨Ad, nd, cd, ds, h1.next hd hg, h2⟩
theorem NetD.deck (h : NetD lo w0 g dmax An k cn ns w) : DeckAt w g := by
 obtain ⟨Ad, nd, cd, ds, h1, h2⟩ := h
 exact h1.deck
theorem NetD.pc (h : NetD lo w0 g dmax An k cn ns w) : w.cell? ⟨w0.heap.size, 0, none⟩ = some (.pointer (some ⟨g, 0, none⟩)) := by
 obtain ⟨Ad, nd, cd, ds, h1, h2⟩ := h
 exact h1.pb.cell 0
def AddNet (w0 : World) (g : Nat) (dmax : Int) (An : Option Addr) (k cn : Nat) (ns : List Nd) (e : Ending) (w' : World) : Prop := e = .returned (.tuple #[]) ∧ Hid (NetD 1 w0 g dmax An k cn ns w')
theorem add_net (kind a b : Int) (h : NetD lo w0 g dmax An k cn ns w) (hk : 1 ≤ kind ∧ kind ≤ 6) (hm : 1 ≤ dmax ∧ dmax ≤ 90) (he : endsB kind a b k = true) :
  Calls Tryz.prog 32 #[.int .i64 kind, .int .i64 a, .int .i64 b, .pointer (some ⟨w0.heap.size + 3, 0, none⟩), .pointer (some ⟨w0.heap.size + 1, 0, none⟩), .pointer (some ⟨w0.heap.size, 0, none⟩)] w (AddNet w0 g dmax An k cn ns) := by
 obtain ⟨Ad, nd, cd, ds, h1, h2, h3, h4, h5⟩ := h
 obtain ⟨q, rfl⟩ := Int.eq_ofNat_of_zero_le (show 0 ≤ kind by omega)
 refine (add_any w0 g dmax An k cn ns Ad nd cd ds q a b w h1 (by omega) (by omega)).mono ?_
 rintro e w1 ⟨rfl, Ad', nd', cd', ds', hs, hA, hB⟩
 refine ⟨rfl, Ad', nd', cd', ds', hs, ?_⟩
 by_cases hc : dmax ≤ nd
 ·obtain ⟨rfl, rfl⟩ := hA hc
  exact ⟨h2, by omega, h4, h5⟩
 ·obtain ⟨rfl, comp, hc0, hc1, rfl⟩ := hB (by omega)
  refine ⟨by omega, by omega, by simp [h4], h5.snoc ?_⟩
  rw [h4]
  exact ⟨rfl, hk.1, hk.2, he, hc0, hc1⟩
end
/-- What a made network is. -/
structure MadeNet (nodes dmax : Int) (ns : List Nd) (ds : List Dv) : Prop where
 n2 : 2 ≤ ns.length
 nm : (ns.length : Int) ≤ nodes
 d1 : 1 ≤ ds.length
 dm : (ds.length : Int) ≤ dmax
 nok : MadeN ns
 dok : MadeD ns.length ds
def NetPost (w : World) (g : Nat) (nodes dmax : Int) (e : Ending) (w' : World) : Prop :=
 ∃ (An : Option Addr) (nn cn : Nat) (ns : List Nd) (Ad : Option Addr) (nd cd : Nat) (ds : List Dv), e = .returned (.agg #[.slice An nn cn, .slice Ad nd cd]) ∧ Hid (DeckAt w' g) ∧ Hid (w.grownBy w' (some g)) ∧
  Hid (w'.ownsRow (w.heap.size + 4) 61 3 (.slice An nn cn) nn (ns.flatMap Nd.cells)) ∧ Hid (w'.ownsRow (w.heap.size + 4) 63 5 (.slice Ad nd cd) nd (ds.flatMap Dv.cells)) ∧ Hid (MadeNet nodes dmax ns ds)
theorem netPost_of {w wr : World} {g nn cn : Nat} {nodes dmax : Int} {An : Option Addr} {ns : List Nd} (Ad : Option Addr) (nd cd : Nat) (ds : List Dv) (h : NetSt w g dmax An nn cn ns Ad nd cd ds wr) (h1 : (nd : Int) ≤ dmax ∧ 1 ≤ nd ∧ ds.length = nd ∧ MadeD nn ds) (h2 : ns.length = nn ∧ MadeN ns) (h3 : 2 ≤ nn ∧ (nn : Int) ≤ nodes) (u v : Value) :
  NetPost w g nodes dmax (.returned (.agg #[.slice An nn cn, .slice Ad nd cd])) ((wr.setCell ⟨w.heap.size + 2, 0, none⟩ u).setCell ⟨w.heap.size + 2, 1, none⟩ v) := by
 have hl := h.lt
 have hg1 : wr.grownBy ((wr.setCell ⟨w.heap.size + 2, 0, none⟩ u).setCell ⟨w.heap.size + 2, 1, none⟩ v) (some (w.heap.size + 2)) := ⟨rfl, rfl, rfl, by simp [World.setCell], fun i _ hi => (Below.heap_setCell _ _ _ i (fun e => hi (by rw [e]))).trans (Below.heap_setCell wr _ _ i (fun e => hi (by rw [e])))⟩
 refine ⟨An, nn, cn, ns, Ad, nd, cd, ds, rfl, ?_, ?_, ?_, ?_, ?_⟩
 ·exact (h.deck.setCell (by simp; omega) _).setCell (by simp; omega) _
 ·exact grown_set (grown_set h.gr (by simp) _) (by simp) _
 ·exact h.rn.kept hg1 (ne_row fun b e => by have := (h.rn.lt b e).1; omega)
 ·exact h.rd.kept hg1 (ne_row fun b e => by have := (h.rd.lt b e).1; omega)
 ·exact ⟨by rw [h2.1]; exact h3.1, by rw [h2.1]; exact h3.2, by omega, by omega, h2.2, by rw [h2.1]; exact h1.2.2.2⟩
end Go.Proofs.YtnpfkiidhidjbaaGreatDoor
