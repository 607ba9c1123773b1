import Derived.Shelf.SlSortCmp.NoneTotal
import Derived.Test.YtbjndpjligpjaaaDoorProg
import Derived.Test.YtbjndpjligpjaaaDoorZ12
/-
  DERIVED: THE SHELF's CONTRACTS AT THIS DUMP, IN PLAIN WORDS (tools/lay-plain.mjs out of 'TrydLkSort.lean', which tools/lay-shelf.mjs wrote): THE SAME DECLARATIONS UNDER THE SAME NAMES: 'import', 'namespace', 'open', 'def', 'theorem' AND NOTHING ELSE: no command of the shelf's: FOR A HAND-IN. Each laying: the table of numbers ('.._ren') and one theorem, a field a fact of the dump's own or the kernel's comparison; each contract: ONE APPLICATION.
-/
namespace Go.Proofs
open Go.Shelf
def Tryd.sortLkSort_ren : Go.Shelf.Ren := ⟨fun | 6 => 44 | 15 => 59 | 14 => 58 | 28 => 74 | 29 => 75 | 20 => 66 | 21 => 67 | 22 => 68 | 23 => 69 | 24 => 70 | 25 => 71 | 26 => 72 | 27 => 73 | 46 => 76 | 47 => 77 | 48 => 78 | 49 => 79 | 50 => 80 | 57 => 81 | n => n, fun | 22 => 23 | 24 => 29 | 25 => 69 | 3 => 3 | 39 => 65 | 0 => 0 | 53 => 98 | 55 => 58 | 4 => 4 | 46 => 92 | 45 => 91 | 50 => 48 | 5 => 5 | 9 => 9 | 66 => 102 | 70 => 106 | 76 => 108 | 77 => 109 | n => n, fun | n => n⟩
theorem Tryd.sortLkSort : Go.Proofs.SlLaysF0.n6 Tryd.prog Tryd.sortLkSort_ren := {
  mixed := by kernel_rfl
  f6 := ⟨Tryd.f44.name, by decide, Tryd.func44.trans (congrArg some (by kernel_rfl))⟩
  f14 := ⟨Tryd.f58.name, by decide, Tryd.func58.trans (congrArg some (by kernel_rfl))⟩
  f15 := Tryd.func59.trans (congrArg some (by kernel_rfl))
  f20 := ⟨Tryd.f66.name, by decide, Tryd.func66.trans (congrArg some (by kernel_rfl))⟩
  f21 := ⟨Tryd.f67.name, by decide, Tryd.func67.trans (congrArg some (by kernel_rfl))⟩
  f22 := ⟨Tryd.f68.name, by decide, Tryd.func68.trans (congrArg some (by kernel_rfl))⟩
  f23 := ⟨Tryd.f69.name, by decide, Tryd.func69.trans (congrArg some (by kernel_rfl))⟩
  f24 := ⟨Tryd.f70.name, by decide, Tryd.func70.trans (congrArg some (by kernel_rfl))⟩
  f25 := ⟨Tryd.f71.name, by decide, Tryd.func71.trans (congrArg some (by kernel_rfl))⟩
  f26 := ⟨Tryd.f72.name, by decide, Tryd.func72.trans (congrArg some (by kernel_rfl))⟩
  f27 := ⟨Tryd.f73.name, by decide, Tryd.func73.trans (congrArg some (by kernel_rfl))⟩
  f28 := Tryd.func74.trans (congrArg some (by kernel_rfl))
  f29 := Tryd.func75.trans (congrArg some (by kernel_rfl))
  f46 := ⟨Tryd.f76.name, by decide, Tryd.func76.trans (congrArg some (by kernel_rfl))⟩
  f47 := Tryd.func77.trans (congrArg some (by kernel_rfl))
  f48 := Tryd.func78.trans (congrArg some (by kernel_rfl))
  f49 := ⟨Tryd.f79.name, by decide, Tryd.func79.trans (congrArg some (by kernel_rfl))⟩
  f50 := ⟨Tryd.f80.name, by decide, Tryd.func80.trans (congrArg some (by kernel_rfl))⟩
  f57 := ⟨Tryd.f81.name, by decide, Tryd.func81.trans (congrArg some (by kernel_rfl))⟩
  t0 := Tryd.underlying0
  a0 := Tryd.isAgg0
  z0 := Tryd.sizeOf0
  v0 := Tryd.zeroValue0
  t3 := Tryd.underlying3
  a3 := Tryd.isAgg3
  z3 := Tryd.sizeOf3
  v3 := Tryd.zeroValue3
  t4 := Tryd.underlying4
  a4 := Tryd.isAgg4
  z4 := Tryd.sizeOf4
  v4 := Tryd.zeroValue4
  t5 := Tryd.underlying5
  a5 := Tryd.isAgg5
  z5 := Tryd.sizeOf5
  v5 := Tryd.zeroValue5
  t9 := Tryd.underlying9
  a9 := Tryd.isAgg9
  z9 := Tryd.sizeOf9
  v9 := Tryd.zeroValue9
  t22 := Tryd.underlying23
  a22 := Tryd.isAgg23
  z22 := Tryd.sizeOf23
  v22 := Tryd.zeroValue23
  t25 := Tryd.underlying69
  a25 := Tryd.isAgg69
  z25 := Tryd.sizeOf69
  v25 := Tryd.zeroValue69
  t39 := Tryd.underlying65
  a39 := Tryd.isAgg65
  z39 := Tryd.sizeOf65
  v39 := Tryd.zeroValue65
  t45 := Tryd.underlying91
  a45 := Tryd.isAgg91
  z45 := Tryd.sizeOf91
  v45 := Tryd.zeroValue91
  t46 := Tryd.underlying92
  a46 := Tryd.isAgg92
  z46 := Tryd.sizeOf92
  v46 := Tryd.zeroValue92
  t50 := Tryd.underlying48
  a50 := Tryd.isAgg48
  z50 := Tryd.sizeOf48
  v50 := Tryd.zeroValue48
  t53 := Tryd.underlying98
  a53 := Tryd.isAgg98
  z53 := Tryd.sizeOf98
  v53 := Tryd.zeroValue98
  t55 := Tryd.underlying58
  a55 := Tryd.isAgg58
  z55 := Tryd.sizeOf58
  v55 := Tryd.zeroValue58
  t66 := Tryd.underlying102
  a66 := Tryd.isAgg102
  z66 := Tryd.sizeOf102
  v66 := Tryd.zeroValue102
  t70 := Tryd.underlying106
  a70 := Tryd.isAgg106
  z70 := Tryd.sizeOf106
  v70 := Tryd.zeroValue106
  t76 := Tryd.underlying108
  a76 := Tryd.isAgg108
  z76 := Tryd.sizeOf108
  v76 := Tryd.zeroValue108
  t77 := Tryd.underlying109
  a77 := Tryd.isAgg109
  z77 := Tryd.sizeOf109
  v77 := Tryd.zeroValue109 }
end Go.Proofs
/-
  Memory: a slice of locks of the call's own, copied and sorted by the library.
-/
namespace Go.Proofs.YtbjndpjligpjaaaDoor
open Go.RowKit
open Go.Sort (grow)
instance : Inhabited Lk := ⟨⟨0, 0, 0⟩⟩
theorem flatK_lk (ls : List Lk) : Go.Sort.flatK Lk.cells 3 ls.toArray = (ls.flatMap Lk.cells).toArray := by
  apply Array.ext'
  simp only [Go.Sort.flatK, Array.toList_map, Array.toList_range, List.size_toArray]
  apply List.ext_getElem?
  intro t
  rw [List.getElem?_map]
  by_cases ht : t < ls.length * 3
  · rw [List.getElem?_range ht]
    have h3 : t = t / 3 * 3 + t % 3 := by omega
    have hq : t / 3 < ls.length := by omega
    have := flat_at (f := Lk.cells) (size := 3) (fun _ => rfl) ls (t / 3) (t % 3) _ (List.getElem?_eq_getElem hq) (by omega)
    rw [← h3] at this
    rw [this]
    simp only [Option.map_some]
    have hr : t % 3 < (Lk.cells ls[t / 3]).length := by show t % 3 < 3; omega
    rw [List.getElem?_eq_getElem hr]
    congr 1
    have e1 : ls.toArray[t / 3]! = ls[t / 3] := by simp [hq]
    rw [e1, List.getElem!_eq_getElem?_getD, List.getElem?_eq_getElem hr]; rfl
  · rw [List.getElem?_eq_none (by simp; omega), List.getElem?_eq_none (by rw [flat_len (size := 3) (fun _ => rfl)]; omega)]; rfl
theorem holds_lk {w : World} {g : Nat} {cur : Array Value} {e : TypeId} {ls : List Lk} (hb : w.heap[g]? = some (.cells cur e (0, 0))) (ht : cur.toList.take (ls.length * 3) = ls.flatMap Lk.cells) : Go.Sort.HoldsK Lk.cells 3 w g 0 ls.toArray := by
  unfold Go.Sort.HoldsK
  rw [flatK_lk]
  intro j hj
  have hj' : j < ls.length * 3 := by rw [List.size_toArray, flat_len (size := 3) (fun _ => rfl)] at hj; exact hj
  refine ⟨?_, by simp [World.frozen?, hb]⟩
  have h1 : (cur.toList.take (ls.length * 3))[j]? = (ls.flatMap Lk.cells)[j]? := by rw [ht]
  rw [List.getElem?_take_of_lt hj', Array.getElem?_toList] at h1
  have h2 := cell_of_row w g (0 + j) _ _ _ hb
  rw [h2, Nat.zero_add, h1]
  have hl : j < (ls.flatMap Lk.cells).length := by rw [flat_len (size := 3) (fun _ => rfl)]; exact hj'
  rw [List.getElem?_eq_getElem hl]
  simp only [id, List.getElem!_toArray, List.getElem!_eq_getElem?_getD]
  rw [List.getElem?_eq_getElem hl]; rfl
theorem own_sortedV {w : World} {base g cap m n size : Nat} {e : TypeId} {os : Array Obj} {cur : Array Value} {xs : List Value} (hx : xs.length = m * size) (hbase : base ≤ g) (hb : w.heap[g]? = some (.cells cur e (0, 0))) (h1 : m ≤ cap) (h2 : cap ≤ maxLen) (h3 : cur.size = cap * size) :
    (grow (Go.Sort.putRow id (Go.Sort.ahead w n) g 0 xs.toArray) os).ownsRow base e size (.slice (some ⟨g, 0, none⟩) m cap) m xs := by
  have hg : g < w.heap.size := (Array.getElem?_eq_some_iff.1 hb).1
  refine ⟨hx, .inr ⟨g, cap, Go.Sort.putCells id 0 xs.toArray cur, rfl, hbase, ?_, h1, h2, by simp [Go.Sort.putCells, h3], ?_⟩⟩
  · rw [Go.Sort.heap_grow_old _ _ (by simpa using hg)]
    simp [Go.Sort.putRow, Go.Sort.mapBlock, Go.Sort.ahead, Array.getElem?_modify, hb, Go.Sort.onCells]
  · rw [← hx]
    have hle : xs.length ≤ cur.size := by rw [hx, h3]; exact Nat.mul_le_mul_right _ h1
    apply List.ext_getElem?
    intro j
    by_cases hj : j < xs.length
    · rw [List.getElem?_take_of_lt hj, Array.getElem?_toList]
      simp [Go.Sort.putCells, hj, show j < cur.size by omega]
    · rw [List.getElem?_take_eq_none (by omega), List.getElem?_eq_none (by omega)]
theorem grown_sortedV {w : World} {g n : Nat} {os : Array Obj} (d : Array Value) : w.grownBy (grow (Go.Sort.putRow id (Go.Sort.ahead w n) g 0 d) os) (some g) := by
  refine ⟨rfl, rfl, rfl, by simp, fun k hk hne => ?_⟩
  rw [Go.Sort.heap_grow_old _ _ (by simpa using hk)]
  have : g ≠ k := fun e => hne (by rw [e])
  simp [Go.Sort.putRow, Go.Sort.mapBlock, Go.Sort.ahead, Array.getElem?_modify, this]
theorem swo_ord : Go.Sort.SWO (ltOf ordI) := by
  have key : ∀ x y, ltOf ordI x y = befB x y := fun x y => by
    unfold ltOf
    rcases h : befB x y with _ | _
    · have := ord_lt x y; rw [h] at this; simp at this ⊢; omega
    · have := ord_lt x y; rw [h] at this; simp at this ⊢; omega
  refine ⟨fun x => ?_, fun x y z => ?_, fun x y z => ?_⟩
  · rw [key]; unfold befB; simp
  · rw [key, key, key]; exact bef_trans
  · rw [key, key, key]
    intro h1 h2
    rcases h : befB x z with _ | _
    · rfl
    · have a1 : ¬ befB x y = true := by rw [h1]; simp
      have a2 : ¬ befB y z = true := by rw [h2]; simp
      rw [bef_iff] at a1 a2 h; omega
theorem lt_bef (x y : Lk) : ltOf ordI x y = befB x y := by
  unfold ltOf
  rcases h : befB x y with _ | _
  · have := ord_lt x y; rw [h] at this; simp at this ⊢; omega
  · have := ord_lt x y; rw [h] at this; simp at this ⊢; omega
theorem sortlk_any (A : Option Addr) (n c base : Nat) (ls : List Lk) (w : World) (h : LocksO w base A n c ls) (h0 : 0 < n) (hn : n ≤ 1000000) :
    Calls Tryd.prog 44 #[.slice A n c, .func (.func 38) #[] #[]] w fun e w' => e = .returned (.tuple #[]) ∧ ∃ ms : List Lk, Hid (ms.Perm ls) ∧ Hid (ms.Pairwise fun x y => befB y x = false) ∧ Hid (LocksO w' base A n c ms) ∧ Hid (w.grownBy w' (Value.slice A n c).ownBlock) := by
  have hl := h.len
  rcases h.2 with ⟨_, h1⟩ | ⟨g, cap, cur, hv, hb, hh, hnc, hm, hs, ht⟩
  · omega
  · injection hv with h1 h2 h3
    subst h1 h3
    subst hl
    have hcon := AnyQ.slices_SortFunc Tryd.sortLkSort 3 Tryd.isAgg29 Tryd.sizeOf29 Lk.cells (fun _ => rfl) (fun x v hv => by simp [Lk.cells] at hv; rcases hv with rfl | rfl | rfl <;> rfl) ordI swo_ord 38 #[] g 0 c ls.toArray w
      (enters_of Tryd.func38 (by kernel_rfl) rfl) (fun _ _ _ _ x y => order_any x y _) (holds_lk hh ht) (h.lt g rfl).2 (by simp; omega)
    refine hcon.mono ?_
    rintro e w1 ⟨rfl, d', k, os, ⟨hz, _, hp⟩, hso, rfl⟩
    have hz' : d'.toList.length = ls.length := by simpa using hz
    refine ⟨rfl, d'.toList, ?_, ?_, ?_, grown_sortedV _⟩
    · have e2 : (ls.toArray.extract 0 ls.toArray.size).toList = ls := by simp
      have e3 : (d'.extract 0 ls.toArray.size).toList = d'.toList := by rw [← hz]; simp
      rw [e2, e3] at hp
      exact hp
    · show List.Pairwise _ _
      rw [List.pairwise_iff_getElem]
      intro i j hi hj hij
      have hz2 : d'.size = ls.length := by simpa using hz
      have := hso i j (Nat.zero_le _) hij (by simp at hj ⊢; omega)
      rw [lt_bef] at this
      have hi' : i < d'.size := by simpa using hi
      have hj' : j < d'.size := by simpa using hj
      rw [getElem!_pos d' i hi', getElem!_pos d' j hj'] at this
      simpa using this
    · have := own_sortedV (n := k) (os := os) (xs := d'.toList.flatMap Lk.cells) (m := ls.length) (size := 3) (by rw [flat_len (size := 3) (fun _ => rfl), hz']) hb hh hnc hm hs
      rw [← flatK_lk] at this
      exact this
end Go.Proofs.YtbjndpjligpjaaaDoor
