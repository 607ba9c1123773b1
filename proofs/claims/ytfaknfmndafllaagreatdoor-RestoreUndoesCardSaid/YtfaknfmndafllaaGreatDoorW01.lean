import Derived.Test.YtfaknfmndafllaaGreatDoorW00
import Derived.ProofKit
import Derived.OpenShut
namespace Go.Proofs.YtfaknfmndafllaaGreatDoor
open Go.ChangeShapes Go.WideShapes Go.ChangeAt Go.RowKit
section
variable {H : Type} {enc : TypeId × Value → H} {P : Program} {W : World} {base b : Nat} {sp : Nat → Bool} {hd : Bool} {r : Reach}
theorem cell_lt {w : World} {a : Addr} {v : Value} (h : w.cell? a = some v) : a.block < w.heap.size := by
 rcases Nat.lt_or_ge a.block w.heap.size with h' | h'
 ·exact h'
 ·simp [World.cell?, Array.getElem?_eq_none h'] at h
theorem open_row {k : IntKind} {t e : TypeId} {v : Value} {d : DataW H} {p : List MemPlace} (ht : P.underlying t = some (.slice e)) (he : P.underlying e = some (.int k)) (hc : P.cellsOf e = 1) (hv : Value.okWide P W r b t v) (h : DataW.Trod enc P W base sp hd t v d p) :
 ∃ (A : Option Addr) (n c : Nat) (zs : List Int), v = .slice A n c ∧ Sl W W.heap.size 1 A n c (zs.flatMap fun z => [Value.int k z]) ∧ ∀ z ∈ zs, (Lit.int k z).wf = true := by
 obtain ⟨A, n, c, rfl⟩ := okWide_slice ht hv
 obtain ⟨fuel, hf⟩ := h
 rcases open_ints ht he hc hf with ⟨hcs, _⟩ | ⟨x, l, c', zs, hcs, _, hl, hm, hz, _, hcell, hwz⟩
 ·simp [Value.cells] at hcs
  obtain ⟨rfl, rfl, rfl⟩ := hcs
  exact ⟨none, 0, 0, [], rfl, Sl.nil _ _ _, fun z hz => by cases hz⟩
 ·simp [Value.cells] at hcs
  obtain ⟨rfl, rfl, rfl⟩ := hcs
  have hn : n ≤ zs.length := by rw [hz]; split <;> omega
  refine ⟨some x, n, c, zs.take n, rfl, ⟨?_, hl, by simpa [maxLen] using hm, (fun e => by cases e), fun h0 => ?_⟩, fun z hz => hwz z (List.mem_of_mem_take hz)⟩
  ·rw [flat_len (size := 1) (fun _ => rfl), List.length_take]; omega
  ·obtain ⟨g, off, spot⟩ := x
   have h00 := hcell 0 (by omega)
   have hspot : spot = none := by simpa [Addr.add] using World.cell?_spot h00
   subst hspot
   have hlt : g < W.heap.size := by have := cell_lt h00; simpa [Addr.add] using this
   refine ⟨g, off, rfl, hlt, fun j u hu => ?_⟩
   have hj : j < (zs.take n).length := by
    have := (List.getElem?_eq_some_iff.1 hu).1
    rwa [flat_len (size := 1) (fun _ => rfl), Nat.mul_one] at this
   have hat := flat_at (f := fun z : Int => [Value.int k z]) (size := 1) (fun _ => rfl) (zs.take n) j 0 _ (List.getElem?_eq_getElem hj) (by decide)
   rw [Nat.mul_one, Nat.add_zero] at hat
   rw [hat] at hu
   simp only [List.length_take] at hj
   have hc := hcell j (by omega)
   rw [add_plain] at hc
   rw [hc, ← hu]
   simp only [List.getElem?_cons_zero, List.getElem_take, List.getD_eq_getElem?_getD]
   rw [List.getElem?_eq_getElem (by omega)]; rfl
theorem open_ints_Sl {t e : TypeId} {v : Value} {d : DataW H} {p : List MemPlace} (ht : P.underlying t = some (.slice e)) (he : P.underlying e = some (.int .i64)) (hc : P.cellsOf e = 1) (hv : Value.okWide P W r b t v) (h : DataW.Trod enc P W base sp hd t v d p) :
 ∃ (A : Option Addr) (n c : Nat) (zs : List Int), v = .slice A n c ∧ Sl W W.heap.size 1 A n c (intsV zs) ∧ ∀ z ∈ zs, (Lit.int .i64 z).wf = true := open_row ht he hc hv h
end
end Go.Proofs.YtfaknfmndafllaaGreatDoor
