import Derived.Test.YtfaknfmndafllaaGreatDoorV00
import Derived.Lib.AppendStr
import Derived.Lib.Strings
import Derived.Laws.BytesArg
import Derived.ProofKit
import Derived.OpenShut
namespace Go.Proofs.YtfaknfmndafllaaGreatDoor
open Go.RowKit
def toL (s : ByteArray) : List UInt8 := s.data.toList
def mkS (l : List UInt8) : ByteArray := ⟨l.toArray⟩
theorem toL_mk (l : List UInt8) : toL (mkS l) = l := rfl
theorem mk_toL (s : ByteArray) : mkS (toL s) = s := by obtain ⟨⟨l⟩⟩ := s; rfl
theorem toL_len (s : ByteArray) : (toL s).length = s.size := by obtain ⟨⟨l⟩⟩ := s; rfl
theorem toL_append (a b : ByteArray) : toL (a ++ b) = toL a ++ toL b := by
 obtain ⟨⟨l⟩⟩ := a; obtain ⟨⟨m⟩⟩ := b
 simp [toL]
theorem toL_inj {a b : ByteArray} (h : toL a = toL b) : a = b := by rw [← mk_toL a, h, mk_toL]
theorem size_mk (l : List UInt8) : (mkS l).size = l.length := rfl
theorem run_string_of {P : Program} {w : World} {B n c : Nat} {A : Option Addr} {l : List UInt8} {src e dst : TypeId} (hs : P.underlying src = some (.slice e)) (he : P.underlying e = some (.int .u8)) (hd : P.underlying dst = some .string)
 (h : Sl w B 1 A n c (bytesV l)) : (convert src dst (.slice A n c)).run P w = .ok (.string (mkS l)) w := by
 have hl : l.length = n := h.len (fun _ => rfl) (by decide)
 rcases Nat.eq_zero_or_pos n with h0 | h0
 ·subst h0
  have hnil : l = [] := List.eq_nil_of_length_eq_zero hl
  subst hnil
  cases A with
  | none => exact run_convert_bytes_nil w src e hs he 0 c dst hd
  | some a =>
   rw [run_convert_bytes_string w src dst e _ 0 c hs he hd]
   simp [Conv.bytesToString, mkS]
   rfl
 ·obtain ⟨b, off, x, rfl, hb, _, _⟩ := h.at1 h0
  have hc : ∀ i, i < n → w.cell? ⟨b, off + i, none⟩ = some (.int .u8 ((l.map fun x => (x.toNat : Int)).getD i 0)) := by
   intro i hi
   obtain ⟨b', off', x', e', _, hx', hc'⟩ := h.at1 hi
   injection e' with e'
   injection e' with e1 e2 _
   subst e1 e2
   rw [hc', List.getD_eq_getElem?_getD, List.getElem?_map, hx']; rfl
  rw [run_convert_bytes_arg w src e hs he b off n c (l.map fun x => (x.toNat : Int)) (by simpa using hl) hc dst hd]
  have : strOfNums (l.map fun x => (x.toNat : Int)) = mkS l := by
   simp [strOfNums, mkS]
   rw [List.map_congr_left (g := id) (fun x _ => by simp), List.map_id]
  rw [this]
end Go.Proofs.YtfaknfmndafllaaGreatDoor
namespace Go.Proofs.YtfaknfmndafllaaGreatDoor
open Go.ChangeShapes Go.WideShapes Go.ChangeAt Go.RowKit
section
variable {H : Type} {enc : TypeId × Value → H} {P : Program} {W : World} {base b : Nat} {sp : Nat → Bool} {hd : Bool} {r : Reach}
theorem cell_lt {w : World} {a : Addr} {v : Value} (h : w.cell? a = some v) : a.block < w.heap.size := by
 rcases Nat.lt_or_ge a.block w.heap.size with h' | h'
 ·exact h'
 ·simp [World.cell?, Array.getElem?_eq_none h'] at h
theorem open_row {k : IntKind} {t e : TypeId} {v : Value} {d : DataW H} {p : List MemPlace} (ht : P.underlying t = some (.slice e)) (he : P.underlying e = some (.int k)) (hc : P.cellsOf e = 1) (hv : Value.okWide P W r b t v) (h : DataW.Trod enc P W base sp hd t v d p) :
 ∃ (A : Option Addr) (n c : Nat) (zs : List Int), v = .slice A n c ∧ Sl W W.heap.size 1 A n c (zs.flatMap fun z => [Value.int k z]) ∧ ∀ z ∈ zs, (Lit.int k z).wf = true := by
 obtain ⟨A, n, c, rfl⟩ := okWide_slice ht hv
 obtain ⟨fuel, hf⟩ := h
 rcases open_ints ht he hc hf with ⟨hcs, _⟩ | ⟨x, l, c', zs, hcs, _, hl, hm, hz, _, hcell, hwz⟩
 ·simp [Value.cells] at hcs
  obtain ⟨rfl, rfl, rfl⟩ := hcs
  exact ⟨none, 0, 0, [], rfl, Sl.nil _ _ _, fun z hz => by cases hz⟩
 ·simp [Value.cells] at hcs
  obtain ⟨rfl, rfl, rfl⟩ := hcs
  have hn : n ≤ zs.length := by rw [hz]; split <;> omega
  refine ⟨some x, n, c, zs.take n, rfl, ⟨?_, hl, by simpa [maxLen] using hm, (fun e => by cases e), fun h0 => ?_⟩, fun z hz => hwz z (List.mem_of_mem_take hz)⟩
  ·rw [flat_len (size := 1) (fun _ => rfl), List.length_take]; omega
  ·obtain ⟨g, off, spot⟩ := x
   have h00 := hcell 0 (by omega)
   have hspot : spot = none := by simpa [Addr.add] using World.cell?_spot h00
   subst hspot
   have hlt : g < W.heap.size := by have := cell_lt h00; simpa [Addr.add] using this
   refine ⟨g, off, rfl, hlt, fun j u hu => ?_⟩
   have hj : j < (zs.take n).length := by
    have := (List.getElem?_eq_some_iff.1 hu).1
    rwa [flat_len (size := 1) (fun _ => rfl), Nat.mul_one] at this
   have hat := flat_at (f := fun z : Int => [Value.int k z]) (size := 1) (fun _ => rfl) (zs.take n) j 0 _ (List.getElem?_eq_getElem hj) (by decide)
   rw [Nat.mul_one, Nat.add_zero] at hat
   rw [hat] at hu
   simp only [List.length_take] at hj
   have hc := hcell j (by omega)
   rw [add_plain] at hc
   rw [hc, ← hu]
   simp only [List.getElem?_cons_zero, List.getElem_take, List.getD_eq_getElem?_getD]
   rw [List.getElem?_eq_getElem (by omega)]; rfl
theorem open_ints_Sl {t e : TypeId} {v : Value} {d : DataW H} {p : List MemPlace} (ht : P.underlying t = some (.slice e)) (he : P.underlying e = some (.int .i64)) (hc : P.cellsOf e = 1) (hv : Value.okWide P W r b t v) (h : DataW.Trod enc P W base sp hd t v d p) :
 ∃ (A : Option Addr) (n c : Nat) (zs : List Int), v = .slice A n c ∧ Sl W W.heap.size 1 A n c (intsV zs) ∧ ∀ z ∈ zs, (Lit.int .i64 z).wf = true := open_row ht he hc hv h
end
end Go.Proofs.YtfaknfmndafllaaGreatDoor
