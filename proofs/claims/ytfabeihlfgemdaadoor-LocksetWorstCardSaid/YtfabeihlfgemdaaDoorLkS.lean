/-
  Memory: a slice of locks of the call's own, copied and sorted by the library.
-/
import Derived.Test.YtfabeihlfgemdaaDoorLkC
import Derived.Test.YtfabeihlfgemdaaDoorLkSort
namespace Go.Proofs.YtfabeihlfgemdaaDoor
open Go.RowKit
open Go.Sort (grow)
instance : Inhabited Lk := ⟨⟨0, 0, 0⟩⟩
theorem flatK_lk (ls : List Lk) : Go.Sort.flatK Lk.cells 3 ls.toArray = (ls.flatMap Lk.cells).toArray := by
  apply Array.ext'
  simp only [Go.Sort.flatK, Array.toList_map, Array.toList_range, List.size_toArray]
  apply List.ext_getElem?
  intro t
  rw [List.getElem?_map]
  by_cases ht : t < ls.length * 3
  · rw [List.getElem?_range ht]
    have h3 : t = t / 3 * 3 + t % 3 := by omega
    have hq : t / 3 < ls.length := by omega
    have := flat_at (f := Lk.cells) (size := 3) (fun _ => rfl) ls (t / 3) (t % 3) _ (List.getElem?_eq_getElem hq) (by omega)
    rw [← h3] at this
    rw [this]
    simp only [Option.map_some]
    have hr : t % 3 < (Lk.cells ls[t / 3]).length := by show t % 3 < 3; omega
    rw [List.getElem?_eq_getElem hr]
    congr 1
    have e1 : ls.toArray[t / 3]! = ls[t / 3] := by simp [hq]
    rw [e1, List.getElem!_eq_getElem?_getD, List.getElem?_eq_getElem hr]; rfl
  · rw [List.getElem?_eq_none (by simp; omega), List.getElem?_eq_none (by rw [flat_len (size := 3) (fun _ => rfl)]; omega)]; rfl
theorem holds_lk {w : World} {g : Nat} {cur : Array Value} {e : TypeId} {ls : List Lk} (hb : w.heap[g]? = some (.cells cur e (0, 0))) (ht : cur.toList.take (ls.length * 3) = ls.flatMap Lk.cells) : Go.Sort.HoldsK Lk.cells 3 w g 0 ls.toArray := by
  unfold Go.Sort.HoldsK
  rw [flatK_lk]
  intro j hj
  have hj' : j < ls.length * 3 := by rw [List.size_toArray, flat_len (size := 3) (fun _ => rfl)] at hj; exact hj
  refine ⟨?_, by simp [World.frozen?, hb]⟩
  have h1 : (cur.toList.take (ls.length * 3))[j]? = (ls.flatMap Lk.cells)[j]? := by rw [ht]
  rw [List.getElem?_take_of_lt hj', Array.getElem?_toList] at h1
  have h2 := cell_of_row w g (0 + j) _ _ _ hb
  rw [h2, Nat.zero_add, h1]
  have hl : j < (ls.flatMap Lk.cells).length := by rw [flat_len (size := 3) (fun _ => rfl)]; exact hj'
  rw [List.getElem?_eq_getElem hl]
  simp only [id, List.getElem!_toArray, List.getElem!_eq_getElem?_getD]
  rw [List.getElem?_eq_getElem hl]; rfl
theorem own_sortedV {w : World} {base g cap m n size : Nat} {e : TypeId} {os : Array Obj} {cur : Array Value} {xs : List Value} (hx : xs.length = m * size) (hbase : base ≤ g) (hb : w.heap[g]? = some (.cells cur e (0, 0))) (h1 : m ≤ cap) (h2 : cap ≤ maxLen) (h3 : cur.size = cap * size) :
    (grow (Go.Sort.putRow id (Go.Sort.ahead w n) g 0 xs.toArray) os).ownsRow base e size (.slice (some ⟨g, 0, none⟩) m cap) m xs := by
  have hg : g < w.heap.size := (Array.getElem?_eq_some_iff.1 hb).1
  refine ⟨hx, .inr ⟨g, cap, Go.Sort.putCells id 0 xs.toArray cur, rfl, hbase, ?_, h1, h2, by simp [Go.Sort.putCells, h3], ?_⟩⟩
  · rw [Go.Sort.heap_grow_old _ _ (by simpa using hg)]
    simp [Go.Sort.putRow, Go.Sort.mapBlock, Go.Sort.ahead, Array.getElem?_modify, hb, Go.Sort.onCells]
  · rw [← hx]
    have hle : xs.length ≤ cur.size := by rw [hx, h3]; exact Nat.mul_le_mul_right _ h1
    apply List.ext_getElem?
    intro j
    by_cases hj : j < xs.length
    · rw [List.getElem?_take_of_lt hj, Array.getElem?_toList]
      simp [Go.Sort.putCells, hj, show j < cur.size by omega]
    · rw [List.getElem?_take_eq_none (by omega), List.getElem?_eq_none (by omega)]
theorem grown_sortedV {w : World} {g n : Nat} {os : Array Obj} (d : Array Value) : w.grownBy (grow (Go.Sort.putRow id (Go.Sort.ahead w n) g 0 d) os) (some g) := by
  refine ⟨rfl, rfl, rfl, by simp, fun k hk hne => ?_⟩
  rw [Go.Sort.heap_grow_old _ _ (by simpa using hk)]
  have : g ≠ k := fun e => hne (by rw [e])
  simp [Go.Sort.putRow, Go.Sort.mapBlock, Go.Sort.ahead, Array.getElem?_modify, this]
theorem swo_ord : Go.Sort.SWO (ltOf ordI) := by
  have key : ∀ x y, ltOf ordI x y = befB x y := fun x y => by
    unfold ltOf
    rcases h : befB x y with _ | _
    · have := ord_lt x y; rw [h] at this; simp at this ⊢; omega
    · have := ord_lt x y; rw [h] at this; simp at this ⊢; omega
  refine ⟨fun x => ?_, fun x y z => ?_, fun x y z => ?_⟩
  · rw [key]; unfold befB; simp
  · rw [key, key, key]; exact bef_trans
  · rw [key, key, key]
    intro h1 h2
    rcases h : befB x z with _ | _
    · rfl
    · have a1 : ¬ befB x y = true := by rw [h1]; simp
      have a2 : ¬ befB y z = true := by rw [h2]; simp
      rw [bef_iff] at a1 a2 h; omega
theorem lt_bef (x y : Lk) : ltOf ordI x y = befB x y := by
  unfold ltOf
  rcases h : befB x y with _ | _
  · have := ord_lt x y; rw [h] at this; simp at this ⊢; omega
  · have := ord_lt x y; rw [h] at this; simp at this ⊢; omega
theorem sortlk_any (A : Option Addr) (n c base : Nat) (ls : List Lk) (w : World) (h : LocksO w base A n c ls) (h0 : 0 < n) (hn : n ≤ 1000000) :
    Calls Tryd.prog 41 #[.slice A n c, .func (.func 42) #[] #[]] w fun e w' => e = .returned (.tuple #[]) ∧ ∃ ms : List Lk, Hid (ms.Perm ls) ∧ Hid (ms.Pairwise fun x y => befB y x = false) ∧ Hid (LocksO w' base A n c ms) ∧ Hid (w.grownBy w' (Value.slice A n c).ownBlock) := by
  have hl := h.len
  rcases h.2 with ⟨_, h1⟩ | ⟨g, cap, cur, hv, hb, hh, hnc, hm, hs, ht⟩
  · omega
  · injection hv with h1 h2 h3
    subst h1 h3
    subst hl
    have hcon := AnyQ.slices_SortFunc Tryd.sortLkSort 3 Tryd.isAgg37 Tryd.sizeOf37 Lk.cells (fun _ => rfl) (fun x v hv => by simp [Lk.cells] at hv; rcases hv with rfl | rfl | rfl <;> rfl) ordI swo_ord 42 #[] g 0 c ls.toArray w
      (enters_of Tryd.func42 (by kernel_rfl) rfl) (fun _ _ _ _ x y => order_any x y _) (holds_lk hh ht) (h.lt g rfl).2 (by simp; omega)
    refine hcon.mono ?_
    rintro e w1 ⟨rfl, d', k, os, ⟨hz, _, hp⟩, hso, rfl⟩
    have hz' : d'.toList.length = ls.length := by simpa using hz
    refine ⟨rfl, d'.toList, ?_, ?_, ?_, grown_sortedV _⟩
    · have e2 : (ls.toArray.extract 0 ls.toArray.size).toList = ls := by simp
      have e3 : (d'.extract 0 ls.toArray.size).toList = d'.toList := by rw [← hz]; simp
      rw [e2, e3] at hp
      exact hp
    · show List.Pairwise _ _
      rw [List.pairwise_iff_getElem]
      intro i j hi hj hij
      have hz2 : d'.size = ls.length := by simpa using hz
      have := hso i j (Nat.zero_le _) hij (by simp at hj ⊢; omega)
      rw [lt_bef] at this
      have hi' : i < d'.size := by simpa using hi
      have hj' : j < d'.size := by simpa using hj
      rw [getElem!_pos d' i hi', getElem!_pos d' j hj'] at this
      simpa using this
    · have := own_sortedV (n := k) (os := os) (xs := d'.toList.flatMap Lk.cells) (m := ls.length) (size := 3) (by rw [flat_len (size := 3) (fun _ => rfl), hz']) hb hh hnc hm hs
      rw [← flatK_lk] at this
      exact this
end Go.Proofs.YtfabeihlfgemdaaDoor
