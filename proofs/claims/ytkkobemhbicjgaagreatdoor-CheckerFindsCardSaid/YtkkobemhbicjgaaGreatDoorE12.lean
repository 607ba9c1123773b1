import Derived.Test.YtkkobemhbicjgaaGreatDoorE11
import Derived.Deep.DeepCutAuto
namespace Go.Proofs.YtkkobemhbicjgaaGreatDoor
open Go.RowKit
def Un (ns : List Nd) (i : Nat) : List (List UInt8) := ((ns.take i).map (fun x => toL x.name)).reverse
def Ud (ns : List Nd) (ds : List Dv) (j : Nat) : List (List UInt8) := ((ds.take j).map (fun x => toL x.name)).reverse ++ Un ns ns.length
theorem ip {ns : List Nd} {i : Nat} {x : Nd} (hx : ns[i]? = some x) : Un ns (i + 1) = toL x.name :: Un ns i := by unfold Un; rw [zQ hx]; simp
theorem iq {ns : List Nd} {ds : List Dv} {j : Nat} {x : Dv} (hx : ds[j]? = some x) : Ud ns ds (j + 1) = toL x.name :: Ud ns ds j := by unfold Ud; rw [zQ hx]; simp
theorem jA {ns : List Nd} {i : Nat} {l : List UInt8} : l ∈ Un ns i ↔ ∃ (k : Nat) (y : Nd), k < i ∧ ns[k]? = some y ∧ toL y.name = l := by
 unfold Un
 rw [List.mem_reverse, List.mem_map]
 constructor
 ·rintro ⟨y, hy, rfl⟩
  obtain ⟨k, hk⟩ := List.mem_iff_getElem?.1 hy
  rw [List.getElem?_take] at hk
  split at hk
  ·exact ⟨k, y, by assumption, hk, rfl⟩
  ·cases hk
 ·rintro ⟨k, y, hk, hy, rfl⟩
  exact ⟨y, List.mem_iff_getElem?.2 ⟨k, by rw [List.getElem?_take, if_pos hk]; exact hy⟩, rfl⟩
theorem gW {ns : List Nd} {ds : List Dv} {j : Nat} {l : List UInt8} : l ∈ Ud ns ds j ↔ (∃ (k : Nat) (y : Dv), k < j ∧ ds[k]? = some y ∧ toL y.name = l) ∨ (∃ (k : Nat) (y : Nd), k < ns.length ∧ ns[k]? = some y ∧ toL y.name = l) := by
 unfold Ud
 rw [List.mem_append, jA]
 refine or_congr ?_ Iff.rfl
 rw [List.mem_reverse, List.mem_map]
 constructor
 ·rintro ⟨y, hy, rfl⟩
  obtain ⟨k, hk⟩ := List.mem_iff_getElem?.1 hy
  rw [List.getElem?_take] at hk
  split at hk
  ·exact ⟨k, y, by assumption, hk, rfl⟩
  ·cases hk
 ·rintro ⟨k, y, hk, hy, rfl⟩
  exact ⟨y, List.mem_iff_getElem?.2 ⟨k, by rw [List.getElem?_take, if_pos hk]; exact hy⟩, rfl⟩
theorem qs : ∀ (ns : List Nd) (U : List (List UInt8)), vK U ns = ((ns.map (fun x => toL x.name)).reverse ++ U)
 | [], U => rfl
 | x :: ns, U => by rw [vK, qs ns]; simp
structure qg (w : World) (N : Array Value) (wr : World) : Prop where
 bx : Blk wr w.heap.size 30 N
 bl : Below w.heap.size w wr
theorem qg.later {w wr wr' : World} {N : Array Value} (h : qg w N wr) (hb : Below wr.heap.size wr wr') : qg w N wr' := ⟨h.bx.below hb h.bx.lt, h.bl.trans (hb.mono h.bl.size)⟩
theorem qg.drew {w wr : World} {N : Array Value} (h : qg w N wr) : qg w N wr.drew := h.later (Below.refl _ _).drew
theorem qg.alloc {w wr : World} {N : Array Value} (h : qg w N wr) (o : Obj) : qg w N (wr.alloc o) := h.later ((Below.refl _ _).alloc lR _)
end Go.Proofs.YtkkobemhbicjgaaGreatDoor
