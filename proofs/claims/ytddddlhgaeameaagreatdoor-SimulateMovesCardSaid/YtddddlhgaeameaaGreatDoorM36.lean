import Derived.Test.YtddddlhgaeameaaGreatDoorLkSort
import Derived.Test.YtddddlhgaeameaaGreatDoorM25
import Derived.Deep.RegionLaw
import Derived.Lib.SliceRun
set_option maxRecDepth 100000
set_option maxHeartbeats 8000000
namespace Go.Proofs.YtddddlhgaeameaaGreatDoor
section
open Go.RowKit
open Go.Sort (grow)
instance : Inhabited Lk := ⟨⟨0, 0, 0⟩⟩
theorem oD (ls : List Lk) : Go.Sort.flatK Lk.cells 3 ls.toArray = (ls.flatMap Lk.cells).toArray := by
 apply Array.ext'
 simp only [Go.Sort.flatK, Array.toList_map, Array.toList_range, List.size_toArray]
 apply List.ext_getElem?
 intro t
 rw [List.getElem?_map]
 by_cases ht : t < ls.length * 3
 ·rw [List.getElem?_range ht]
  have h3 : t = t / 3 * 3 + t % 3 := by omega
  have hq : t / 3 < ls.length := by omega
  have := tG (f := Lk.cells) (size := 3) (fun _ => rfl) ls (t / 3) (t % 3) _ (List.getElem?_eq_getElem hq) (by omega)
  rw [← h3] at this
  rw [this]
  simp only [Option.map_some]
  have hr : t % 3 < (Lk.cells ls[t / 3]).length := by show t % 3 < 3; omega
  rw [List.getElem?_eq_getElem hr]
  congr 1
  have e1 : ls.toArray[t / 3]! = ls[t / 3] := by simp [hq]
  rw [e1, List.getElem!_eq_getElem?_getD, List.getElem?_eq_getElem hr]; rfl
 ·rw [List.getElem?_eq_none (by simp; omega), List.getElem?_eq_none (by rw [yP (size := 3) (fun _ => rfl)]; omega)]; rfl
theorem kC {w : World} {g : Nat} {cur : Array Value} {e : TypeId} {ls : List Lk} (hb : w.heap[g]? = some (.cells cur e (0, 0))) (ht : cur.toList.take (ls.length * 3) = ls.flatMap Lk.cells) : Go.Sort.HoldsK Lk.cells 3 w g 0 ls.toArray := by
 unfold Go.Sort.HoldsK
 rw [oD]
 intro j hj
 have hj' : j < ls.length * 3 := by rw [List.size_toArray, yP (size := 3) (fun _ => rfl)] at hj; exact hj
 refine ⟨?_, by simp [World.frozen?, hb]⟩
 have h1 : (cur.toList.take (ls.length * 3))[j]? = (ls.flatMap Lk.cells)[j]? := by rw [ht]
 rw [List.getElem?_take_of_lt hj', Array.getElem?_toList] at h1
 have h2 := cell_of_row w g (0 + j) _ _ _ hb
 rw [h2, Nat.zero_add, h1]
 have hl : j < (ls.flatMap Lk.cells).length := by rw [yP (size := 3) (fun _ => rfl)]; exact hj'
 rw [List.getElem?_eq_getElem hl]
 simp only [id, List.getElem!_toArray, List.getElem!_eq_getElem?_getD]
 rw [List.getElem?_eq_getElem hl]; rfl
theorem pd {w : World} {base g cap m n size : Nat} {e : TypeId} {os : Array Obj} {cur : Array Value} {xs : List Value} (hx : xs.length = m * size) (hbase : base ≤ g) (hb : w.heap[g]? = some (.cells cur e (0, 0))) (h1 : m ≤ cap) (h2 : cap ≤ maxLen) (h3 : cur.size = cap * size) :
 (grow (Go.Sort.putRow id (Go.Sort.ahead w n) g 0 xs.toArray) os).ownsRow base e size (.slice (some ⟨g, 0, none⟩) m cap) m xs := by
 have hg : g < w.heap.size := (Array.getElem?_eq_some_iff.1 hb).1
 refine ⟨hx, .inr ⟨g, cap, Go.Sort.putCells id 0 xs.toArray cur, rfl, hbase, ?_, h1, h2, by simp [Go.Sort.putCells, h3], ?_⟩⟩
 ·rw [Go.Sort.heap_grow_old _ _ (by simpa using hg)]
  simp [Go.Sort.putRow, Go.Sort.mapBlock, Go.Sort.ahead, Array.getElem?_modify, hb, Go.Sort.onCells]
 ·rw [← hx]
  have hle : xs.length ≤ cur.size := by rw [hx, h3]; exact Nat.mul_le_mul_right _ h1
  apply List.ext_getElem?
  intro j
  by_cases hj : j < xs.length
  ·rw [List.getElem?_take_of_lt hj, Array.getElem?_toList]
   simp [Go.Sort.putCells, hj, show j < cur.size by omega]
  ·rw [List.getElem?_take_eq_none (by omega), List.getElem?_eq_none (by omega)]
theorem rZ {w : World} {g n : Nat} {os : Array Obj} (d : Array Value) : w.grownBy (grow (Go.Sort.putRow id (Go.Sort.ahead w n) g 0 d) os) (some g) := by
 refine ⟨rfl, rfl, rfl, by simp, fun k hk hne => ?_⟩
 rw [Go.Sort.heap_grow_old _ _ (by simpa using hk)]
 have : g ≠ k := fun e => hne (by rw [e])
 simp [Go.Sort.putRow, Go.Sort.mapBlock, Go.Sort.ahead, Array.getElem?_modify, this]
theorem kh : Go.Sort.SWO (ltOf qm) := by
 have key : ∀ x y, ltOf qm x y = zo x y := fun x y => by
  unfold ltOf
  rcases h : zo x y with _ | _
  ·have := si x y; rw [h] at this; simp at this ⊢; omega
  ·have := si x y; rw [h] at this; simp at this ⊢; omega
 refine ⟨fun x => ?_, fun x y z => ?_, fun x y z => ?_⟩
 ·rw [key]; unfold zo; simp
 ·rw [key, key, key]; exact tZ
 ·rw [key, key, key]
  intro h1 h2
  rcases h : zo x z with _ | _
  ·rfl
  ·have a1 : ¬ zo x y = true := by rw [h1]; simp
   have a2 : ¬ zo y z = true := by rw [h2]; simp
   rw [uG] at a1 a2 h; omega
theorem jh (x y : Lk) : ltOf qm x y = zo x y := by
 unfold ltOf
 rcases h : zo x y with _ | _
 ·have := si x y; rw [h] at this; simp at this ⊢; omega
 ·have := si x y; rw [h] at this; simp at this ⊢; omega
theorem sV (A : Option Addr) (n c base : Nat) (ls : List Lk) (w : World) (h : zt w base A n c ls) (h0 : 0 < n) (hn : n ≤ 1000000) :
 Calls Tryz.prog 125 #[.slice A n c, .func (.func 99) #[] #[]] w fun e w' => e = .returned (.tuple #[]) ∧ ∃ ms : List Lk, Hid (ms.Perm ls) ∧ Hid (ms.Pairwise fun x y => zo y x = false) ∧ Hid (zt w' base A n c ms) ∧ Hid (w.grownBy w' (Value.slice A n c).ownBlock) := by
 have hl := h.len
 rcases h.2 with ⟨_, h1⟩ | ⟨g, cap, cur, hv, hb, hh, hnc, hm, hs, ht⟩
 ·omega
 ·injection hv with h1 h2 h3
  subst h1 h3
  subst hl
  have hcon := AnyQ.slices_SortFunc Tryz.sortLkSort 3 Tryz.isAgg87 Tryz.sizeOf87 Lk.cells (fun _ => rfl) (fun x v hv => by simp [Lk.cells] at hv; rcases hv with rfl | rfl | rfl <;> rfl) qm kh 99 #[] g 0 c ls.toArray w
   (enters_of Tryz.func99 (by kernel_rfl) rfl) (fun _ _ _ _ x y => rt x y _) (kC hh ht) (h.lt g rfl).2 (by simp; omega)
  refine hcon.mono ?_
  rintro e w1 ⟨rfl, d', k, os, ⟨hz, _, hp⟩, hso, rfl⟩
  have hz' : d'.toList.length = ls.length := by simpa using hz
  refine ⟨rfl, d'.toList, ?_, ?_, ?_, rZ _⟩
  ·have e2 : (ls.toArray.extract 0 ls.toArray.size).toList = ls := by simp
   have e3 : (d'.extract 0 ls.toArray.size).toList = d'.toList := by rw [← hz]; simp
   rw [e2, e3] at hp
   exact hp
  ·show List.Pairwise _ _
   rw [List.pairwise_iff_getElem]
   intro i j hi hj hij
   have hz2 : d'.size = ls.length := by simpa using hz
   have := hso i j (Nat.zero_le _) hij (by simp at hj ⊢; omega)
   rw [jh] at this
   have hi' : i < d'.size := by simpa using hi
   have hj' : j < d'.size := by simpa using hj
   rw [getElem!_pos d' i hi', getElem!_pos d' j hj'] at this
   simpa using this
  ·have := pd (n := k) (os := os) (xs := d'.toList.flatMap Lk.cells) (m := ls.length) (size := 3) (by rw [yP (size := 3) (fun _ => rfl), hz']) hb hh hnc hm hs
   rw [← oD] at this
   exact this
end
section
open Go.RowKit
theorem pN {ds : List Dv} {ls ms : List Lk} {k : Lk} (hg : xq ds (xw k ls)) (hp : ms.Perm (ls ++ [k])) (hs : ms.Pairwise fun x y => zo y x = false) : ms = xw k ls := by
 have hpi : ms.Perm (xw k ls) := hp.trans (lz k ls).symm
 have hk : (xw k ls).Pairwise fun a b : Lk => a.key ≠ b.key := hg.2.2.imp fun h => h.2.2
 have hkm : ms.Pairwise fun a b : Lk => a.key ≠ b.key := hpi.symm.pairwise hk (fun h e => h e.symm)
 refine lr ?_ hg.sorted (fun x => hpi.mem_iff)
 exact (hs.and hkm).imp fun ⟨h1, h2⟩ => qK (fun e => h2 e.symm) h1
theorem lc {w : World} {base : Nat} {e : TypeId} (hb : base ≤ w.heap.size) : (w.alloc (.cells #[] e)).ownsRow base e 3 (.slice (some ⟨w.heap.size, 0, none⟩) 0 0) 0 [] :=
 ⟨rfl, .inr ⟨w.heap.size, 0, #[], rfl, hb, heap_alloc_new w _, Nat.le_refl _, by simp [maxLen], rfl, rfl⟩⟩
theorem ut (A : Option Addr) (n c : Nat) (w : World) : (binOp BinOp.eql 27 (.slice A n c) (.slice none 0 0)).run Tryz.prog w = .ok (.bool A.isNone) w := by
 cases A <;> kernel_rfl
theorem wo (A : Option Addr) (n c B : Nat) (l : List Lk) (w : World) (hs : Sl w B 3 A n c (l.flatMap Lk.cells)) (hB : B ≤ w.heap.size) (hn : n ≤ 1000000) : Calls Tryz.prog 67 #[.slice A n c] w fun e w' => ∃ (A' : Option Addr) (c' : Nat), e = .returned (.slice A' l.length c') ∧ Hid (zt w' w.heap.size A' l.length c' l) ∧ Hid (Below w.heap.size w w') := by
 have hl := hs.len (fun _ => rfl) (by decide)
 have HL := iD hl; clear hl
 cases A with
 | none =>
  have h0 : n = 0 := by have := hs.2.2.2.1 rfl; have := hs.le; omega
  subst h0
  have hl0 : l = [] := List.eq_nil_of_length_eq_zero HL.out
  subst hl0
  clear hs HL
  have hnil := ut none 0 c w
  simp only [Option.isNone_none] at hnil
  go_enter Tryz.func67, Tryz.ntmps67
  go_wp2_with fail
  go_ret
  exact ⟨none, 0, rfl, World.ownsRow_nil _ _ _ _, Below.refl _ _⟩
 | some a =>
  have HS := iD hs
  have hH := hs.le
  clear hs
  have hnil := ut (some a) n c w
  simp only [Option.isNone_some] at hnil
  go_enter Tryz.func67, Tryz.ntmps67
  have h1 : ∀ u ∈ l.flatMap Lk.cells, u.oneCell' = true := yt l
  have HS1 := iD (HS.out.alloc hB (.cells #[] 87))
  go_wp2_with (at_builtin; go_must (refine zT rfl (.tmp 5) (.tmp 6) rfl yc (base := w.heap.size) (n := 0) (xs := []) (by rfl) (lc lR) (by rfl) HS1.out h1 (by omega) (by omega) (by simp) ?_; intro A' cap' w2 hown2 hgr2 hat2; simp only [Nat.zero_add, List.nil_append] at hown2 hgr2; have HO := iD hown2; have HG := iD hgr2; clear hown2 hgr2 hat2))
  go_ret
  obtain rfl : l.length = n := HL.out
  exact ⟨A', cap', rfl, HO.out, ((Below.refl _ _).alloc lR _).trans (yQ HG.out lR (by simp))⟩
theorem wg {w4 w5 w6 : World} {A : Option Addr} {n c : Nat} {xs : List Value} {o : Obj} {e : TypeId} {size : Nat} (h5 : Below w4.drew.heap.size w4.drew w5) (ho : w5.ownsRow w4.drew.heap.size e size (.slice A n c) n xs) (h6 : (w5.alloc o).grownBy w6 (Value.slice A n c).ownBlock) : Below w4.heap.size w4 w6 := by
 have h1 : Below w4.heap.size w4 w5 := (Below.refl _ _).drew.trans h5
 have h2 := h1.alloc h1.size o
 exact h2.trans ⟨h6.os, h6.tape, h6.output, h6.size, fun t ht => h6.block t (by have := h2.size; omega) (fun e => by have := (ho.lt t e.symm).1; simp only [World.drew] at this; omega)⟩
theorem wb {w4 w5 w6 : World} {A : Option Addr} {n c : Nat} {xs : List Value} {o : Obj} {e : TypeId} {size : Nat} (h5 : Below (w4.drew.alloc o).heap.size (w4.drew.alloc o) w5) (ho : w5.ownsRow (w4.drew.alloc o).heap.size e size (.slice A n c) n xs) (h6 : w5.grownBy w6 (Value.slice A n c).ownBlock) : Below w4.heap.size w4 w6 := by
 have hsz : (w4.drew.alloc o).heap.size = w4.heap.size + 1 := by simp
 have h1 : Below w4.heap.size w4 w5 := ((Below.refl _ _).drew.alloc (by simp) o).trans (h5.mono (by omega))
 exact h1.trans ⟨h6.os, h6.tape, h6.output, h6.size, fun t ht => h6.block t (by have := h1.size; omega) (fun e => by have := (ho.lt t e.symm).1; omega)⟩
theorem ly (An Ad Al : Option Addr) (nn cn nd cd c Bn Bd Bl : Nat) (ns : List Nd) (ds : List Dv) (ls : List Lk) (d p q : Int) (w : World) (hla : Laid w) (hn : Sl w Bn 3 An nn cn (ns.flatMap Nd.cells)) (hd : Sl w Bd 5 Ad nd cd (ds.flatMap Dv.cells)) (hs : Sl w Bl 3 Al ls.length c (ls.flatMap Lk.cells)) (hBn : Bn ≤ w.heap.size) (hBd : Bd ≤ w.heap.size) (hBl : Bl ≤ w.heap.size)
 (hsn : ∀ x ∈ ns, x.name.size ≤ 9223372036854775807) (hsd : ∀ x ∈ ds, x.name.size ≤ 9223372036854775807) :
 Calls Tryz.prog 94 #[.agg #[.slice An nn cn, .slice Ad nd cd], .slice Al ls.length c, .agg #[.int .i64 d, .int .i64 p, .int .i64 q]] w (qQ w ns ds ls ⟨d, p, q⟩) := by
 obtain ⟨n, hnl⟩ : ∃ n, n = ls.length := ⟨_, rfl⟩
 rw [← hnl] at hs ⊢
 have HNL := iD hnl
 have HE : Hid (zg ns ds ls ⟨d, p, q⟩ = if zO ns ds ls ≠ 0 then zO ns ds ls else if zv ds ⟨d, p, q⟩ ≠ 0 then zv ds ⟨d, p, q⟩ else if yh ls q = true then 4 else if yY ls ⟨d, p, q⟩ = true then 18 else if n = 128 then 1 else 0) := by unfold Hid zg; rw [hnl]
 have hle := hs.le
 have HD := iD hd; have HS := iD hs
 have HST : Hid (rc w #[.slice An nn cn, .slice Ad nd cd] #[.int .i64 d, .int .i64 p, .int .i64 q] ((w.alloc (.cells #[.slice An nn cn, .slice Ad nd cd] 26)).alloc (.cells #[.int .i64 d, .int .i64 p, .int .i64 q] 87))) :=
  ⟨(Blk.new _ _ _).alloc _, by have := Blk.new (w.alloc (.cells #[.slice An nn cn, .slice Ad nd cd] 26)) 87 #[.int .i64 d, .int .i64 p, .int .i64 q]; simpa using this, ((Below.refl _ _).alloc lR _).alloc (by simp) _⟩
 have HLA2 := iD ((hla.alloc (.cells #[.slice An nn cn, .slice Ad nd cd] 26)).alloc (.cells #[.int .i64 d, .int .i64 p, .int .i64 q] 87))
 have hN2 := hn.below HST.out.bl hBn
 clear hd hs hnl hla
 go_enter Tryz.func94, Tryz.ntmps94
 go_upto_region 1 with (fail)
 generalize World.alloc (World.alloc _ _) _ = W at *
 have hz := HST.out.bl.size
 have HCK := iD (ua An Ad Al nn cn nd cd n c Bn Bd Bl ns ds ls W HLA2.out hN2 (HD.out.below HST.out.bl hBd) (HS.out.below HST.out.bl hBl) (by omega) (by omega) (by omega) hsn hsd)
 have k0 := HST.out.bn.c0
 have k1 := HST.out.bn.c1
 clear hN2 hn hsn hsd HLA2
 go_wp2_with fail
 clear k0 k1
 refine HCK.out.mono ?_
 rintro e w1 ⟨rfl, hb1⟩
 have HS1 := iD (HST.out.later hb1)
 clear hb1 HST hz HCK
 by_cases h0 : zO ns ds ls = 0; rotate_left
 ·have q0 : (zO ns ds ls != 0) = true := by simpa using h0
  have q1 : (zO ns ds ls == 0) = false := by simpa using h0
  have HR : Hid (zg ns ds ls ⟨d, p, q⟩ = zO ns ds ls) := by unfold Hid; rw [HE.out, if_pos h0]
  have HNZ := iD h0
  clear h0
  go_wp2_with fail
  go_ret2
  exact ⟨.inl (by rw [HR.out]; exact ⟨HNZ.out, rfl⟩), HS1.out.bl⟩
 have HG := iD (xA h0)
 rw [h0]
 replace HE : Hid (zg ns ds ls ⟨d, p, q⟩ = if zv ds ⟨d, p, q⟩ ≠ 0 then zv ds ⟨d, p, q⟩ else if yh ls q = true then 4 else if yY ls ⟨d, p, q⟩ = true then 18 else if n = 128 then 1 else 0) := by unfold Hid; rw [HE.out, if_neg (by simp [h0])]
 clear h0
 have k0 := HS1.out.bn.c0
 have k1 := HS1.out.bn.c1
 have m0 := HS1.out.bk.c0
 have m1 := HS1.out.bk.c1
 have m2 := HS1.out.bk.c2
 have hz1 := HS1.out.bl.size
 go_wp2_with fail
 clear k0 k1 m0 m1 m2
 refine (ri An Ad nn cn nd cd Bd ds d p q w1 (HD.out.below HS1.out.bl hBd) (by omega)).mono ?_
 rintro e w2 ⟨rfl, hb2⟩
 have HS2 := iD (HS1.out.later hb2)
 clear hb2 HS1 hz1
 by_cases h1 : zv ds ⟨d, p, q⟩ = 0; rotate_left
 ·have q0 : (zv ds ⟨d, p, q⟩ != 0) = true := by simpa using h1
  have HR : Hid (zg ns ds ls ⟨d, p, q⟩ = zv ds ⟨d, p, q⟩) := by unfold Hid; rw [HE.out, if_pos h1]
  have HNZ := iD h1
  clear h1
  go_wp2_with fail
  go_ret2
  exact ⟨.inl (by rw [HR.out]; exact ⟨HNZ.out, rfl⟩), HS2.out.bl⟩
 have HLE := iD h1
 rw [h1]
 replace HE : Hid (zg ns ds ls ⟨d, p, q⟩ = if yh ls q = true then 4 else if yY ls ⟨d, p, q⟩ = true then 18 else if n = 128 then 1 else 0) := by unfold Hid; rw [HE.out, if_neg (by simp [h1])]
 clear h1
 have m2 := HS2.out.bk.c2
 have hz2 := HS2.out.bl.size
 go_wp2_with fail
 clear m2
 refine (sQ Al n c Bl ls q w2 (HS.out.below HS2.out.bl hBl) (by omega)).mono ?_
 rintro e w3 ⟨rfl, hb3⟩
 have HS3 := iD (HS2.out.later hb3)
 clear hb3 HS2 hz2
 rcases hu : yh ls q with _ | _
 rotate_left
 ·have HR : Hid (zg ns ds ls ⟨d, p, q⟩ = 4) := by unfold Hid; rw [HE.out, if_pos hu]
  clear hu
  go_wp2_with fail
  go_ret2
  exact ⟨.inl (by rw [HR.out]; exact ⟨by decide, rfl⟩), HS3.out.bl⟩
 replace HE : Hid (zg ns ds ls ⟨d, p, q⟩ = if yY ls ⟨d, p, q⟩ = true then 18 else if n = 128 then 1 else 0) := by unfold Hid; rw [HE.out, if_neg (by rw [hu]; simp)]
 have HU := iD hu
 clear hu
 have m0 := HS3.out.bk.c0
 have m1 := HS3.out.bk.c1
 have m2 := HS3.out.bk.c2
 have hz3 := HS3.out.bl.size
 go_wp2_with fail
 clear m0 m1 m2
 refine (tP Al n c Bl ls d p q w3 (HS.out.below HS3.out.bl hBl) (by omega)).mono ?_
 rintro e w4 ⟨rfl, hb4⟩
 have HS4 := iD (HS3.out.later hb4)
 clear hb4 HS3 hz3
 rcases ho : yY ls ⟨d, p, q⟩ with _ | _
 rotate_left
 ·have HR : Hid (zg ns ds ls ⟨d, p, q⟩ = 18) := by unfold Hid; rw [HE.out, if_pos ho]
  clear ho
  go_wp2_with fail
  go_ret2
  exact ⟨.inl (by rw [HR.out]; exact ⟨by decide, rfl⟩), HS4.out.bl⟩
 replace HE : Hid (zg ns ds ls ⟨d, p, q⟩ = if n = 128 then 1 else 0) := by unfold Hid; rw [HE.out, if_neg (by rw [ho]; simp)]
 have HO := iD ho
 clear ho
 have hn128 : n ≤ 128 := by have := HG.out.1; have := HNL.out; omega
 by_cases h128 : n = 128
 ·have HR : Hid (zg ns ds ls ⟨d, p, q⟩ = 1) := by unfold Hid; rw [HE.out, if_pos h128]
  have q1 : ((n : Int) == (128 : Int)) = true := by simp; omega
  have q2 : decide (n = 128) = true := by simpa using h128
  clear h128
  go_wp2_with fail
  go_ret2
  exact ⟨.inl (by rw [HR.out]; exact ⟨by decide, rfl⟩), HS4.out.bl⟩
 have HR : Hid (zg ns ds ls ⟨d, p, q⟩ = 0) := by unfold Hid; rw [HE.out, if_neg h128]
 have HINS := iD (sy HG.out HLE.out HU.out HO.out (by have := HNL.out; omega))
 have q1 : ((n : Int) == (128 : Int)) = false := by simp; omega
 have q2 : decide (n = 128) = false := by simpa using h128
 clear h128 HE HLE HU HO
 have HBX : Hid (w4.cell? ⟨w.heap.size + 1, 0, none⟩ = some (.int .i64 d) ∧ w4.cell? ⟨w.heap.size + 1, 1, none⟩ = some (.int .i64 p) ∧ w4.cell? ⟨w.heap.size + 1, 2, none⟩ = some (.int .i64 q)) := ⟨HS4.out.bk.cell 0, HS4.out.bk.cell 1, HS4.out.bk.cell 2⟩
 have HSL4 := iD (HS.out.below HS4.out.bl hBl)
 have hz4 := HS4.out.bl.size
 have hnl := HNL.out
 subst hnl
 go_upto_region 12 with (fail)
 refine zF (S := fun W' => W'.cell? ⟨w.heap.size + 1, 0, none⟩ = some (.int .i64 d) ∧ W'.cell? ⟨w.heap.size + 1, 1, none⟩ = some (.int .i64 p) ∧ W'.cell? ⟨w.heap.size + 1, 2, none⟩ = some (.int .i64 q)) (J := []) (by kernel_rfl) ?_ (fun AA => ?_)
 ·exact HBX.out
 try dsimp only at AA
 refine tk 0 35 (mf 6 1) AA ?_
 refine tk 2 37 (ma 6 5) AA ?_
 refine xZ (i := 1) (k := 3) (mf 6 3) (ma 6 13) (by kernel_rfl) (by kernel_rfl) (by kernel_rfl) rfl rfl (fun K hK => ?_) (fun K hK => ?_)
 ·(go_simp; refine (wo Al ls.length c Bl ls w4.drew HSL4.out.drew (by simp only [World.drew]; omega) (by omega)).mono ?_; rintro e w5 ⟨A5, c5, rfl, hO5, hb5⟩; go_simp)
  refine hK.out _ _ (fun _ => ?_) (fun AA' => ?_)
  ·exact ⟨zG hb5.out HBX.out.1, zG hb5.out HBX.out.2.1, zG hb5.out HBX.out.2.2⟩
  replace AA := AA' rfl
  clear AA' hK K
  try dsimp only at AA
  refine tb 3 (mf 6 4) fun K hK => ?_
  go_simp
  refine hK.out _ _ (fun _ => ?_) (fun AA' => ?_)
  ·exact ⟨zn _ (zG hb5.out HBX.out.1), zn _ (zG hb5.out HBX.out.2.1), zn _ (zG hb5.out HBX.out.2.2)⟩
  replace AA := AA' rfl
  clear AA' hK K
  try dsimp only at AA
  refine tb 4 (mf 6 5) fun K hK => ?_
  (refine yX (d := some 39) (by rfl) (by rfl) (.tmp 36) (.tmp 38) (by rfl) yc (by rfl) (World.ownsRow.alloc hO5.out _) (by rfl) (Sl.newest (n := 1) (by simp) (by rfl) (by decide)) (by simp [Value.oneCell']) (by omega) (by omega) (by have := hb5.out.size; simp at this ⊢; omega) ?_; intro A6 c6 w6 hown6 hgr6 hat6)
  refine hK.out _ _ (fun _ => ?_) (fun AA' => ?_)
  ·exact ⟨zG (wg hb5.out hO5.out hgr6) HBX.out.1, zG (wg hb5.out hO5.out hgr6) HBX.out.2.1, zG (wg hb5.out hO5.out hgr6) HBX.out.2.2⟩
  replace AA := AA' rfl
  clear AA' hK K
  try dsimp only at AA
  refine tk 5 9 (mf 6 6) AA ?_
  refine zC (by kernel_rfl) ?_ _
  clear AA
  have HB46 : Hid (Below w4.heap.size w4 w6) := by first | exact wg hb5.out hO5.out hgr6 | exact wb hb5.out hO5.out hgr6
  have HO6 : Hid (zt w6 w.heap.size A6 (ls.length + 1) c6 (ls ++ [⟨d, p, q⟩])) := by unfold Hid zt; rw [List.flatMap_append]; exact World.ownsRow.mono hown6 (by simp; omega)
  clear hown6 hgr6 hat6 hO5 hb5
  go_wp2_with fail
  refine (sV A6 (ls.length + 1) c6 w.heap.size _ w6 HO6.out (by omega) (by omega)).mono ?_
  rintro e w7 ⟨rfl, ms, hpm, hsm, hO7, hg7⟩
  go_wp2_with fail
  go_ret2
  refine ⟨.inr ⟨HR.out, A6, c6, rfl, ?_⟩, ?_⟩
  ·rw [← pN HINS.out hpm.out hsm.out]; exact hO7
  ·have h1 := HS4.out.bl.trans (HB46.out.mono HS4.out.bl.size); exact h1.trans ⟨hg7.out.os, hg7.out.tape, hg7.out.output, hg7.out.size, fun t ht => hg7.out.block t (by have := h1.size; omega) (fun e => by have := (HO6.out.lt t e.symm).1; omega)⟩
 ·go_simp
  refine hK.out _ _ (fun _ => ?_) (fun AA' => ?_)
  ·exact ⟨zn _ HBX.out.1, zn _ HBX.out.2.1, zn _ HBX.out.2.2⟩
  replace AA := AA' rfl
  clear AA' hK K
  try dsimp only at AA
  refine tb 1 (mf 6 4) fun K hK => ?_
  (go_simp; refine (wo Al ls.length c Bl ls _ (HSL4.out.drew.alloc (by simp only [World.drew]; omega) _) (by simp; omega) (by omega)).mono ?_; rintro e w5 ⟨A5, c5, rfl, hO5, hb5⟩; go_simp)
  refine hK.out _ _ (fun _ => ?_) (fun AA' => ?_)
  ·exact ⟨zG hb5.out (zn _ HBX.out.1), zG hb5.out (zn _ HBX.out.2.1), zG hb5.out (zn _ HBX.out.2.2)⟩
  replace AA := AA' rfl
  clear AA' hK K
  try dsimp only at AA
  refine tb 4 (mf 6 5) fun K hK => ?_
  (refine yX (d := some 39) (by rfl) (by rfl) (.tmp 36) (.tmp 38) (by rfl) yc (by rfl) hO5.out (by rfl) ((Sl.newest (w := w4.drew) (cs := #[.int .i64 d, .int .i64 p, .int .i64 q]) (T := 87) (n := 1) (size := 3) rfl (by rfl) (by decide)).below hb5.out (by simp)) (by simp [Value.oneCell']) (by omega) (by omega) (by have := hb5.out.size; simp at this ⊢; omega) ?_; intro A6 c6 w6 hown6 hgr6 hat6)
  refine hK.out _ _ (fun _ => ?_) (fun AA' => ?_)
  ·exact ⟨zG (wb hb5.out hO5.out hgr6) HBX.out.1, zG (wb hb5.out hO5.out hgr6) HBX.out.2.1, zG (wb hb5.out hO5.out hgr6) HBX.out.2.2⟩
  replace AA := AA' rfl
  clear AA' hK K
  try dsimp only at AA
  refine tk 5 9 (mf 6 6) AA ?_
  refine zC (by kernel_rfl) ?_ _
  clear AA
  have HB46 : Hid (Below w4.heap.size w4 w6) := by first | exact wg hb5.out hO5.out hgr6 | exact wb hb5.out hO5.out hgr6
  have HO6 : Hid (zt w6 w.heap.size A6 (ls.length + 1) c6 (ls ++ [⟨d, p, q⟩])) := by unfold Hid zt; rw [List.flatMap_append]; exact World.ownsRow.mono hown6 (by simp; omega)
  clear hown6 hgr6 hat6 hO5 hb5
  go_wp2_with fail
  refine (sV A6 (ls.length + 1) c6 w.heap.size _ w6 HO6.out (by omega) (by omega)).mono ?_
  rintro e w7 ⟨rfl, ms, hpm, hsm, hO7, hg7⟩
  go_wp2_with fail
  go_ret2
  refine ⟨.inr ⟨HR.out, A6, c6, rfl, ?_⟩, ?_⟩
  ·rw [← pN HINS.out hpm.out hsm.out]; exact hO7
  ·have h1 := HS4.out.bl.trans (HB46.out.mono HS4.out.bl.size); exact h1.trans ⟨hg7.out.os, hg7.out.tape, hg7.out.output, hg7.out.size, fun t ht => hg7.out.block t (by have := h1.size; omega) (fun e => by have := (HO6.out.lt t e.symm).1; omega)⟩
end
section
open Go.RowKit
theorem vN : ∀ (vs : List Value) (s : Nat) (F : Array Value), s + vs.length ≤ F.size → (Go.Sort.setMany F s vs).toList = F.toList.take s ++ vs ++ F.toList.drop (s + vs.length)
 | [], s, F, _ => by simp [Go.Sort.setMany]
 | v :: r, s, F, h => by
  have h' : s + r.length + 1 ≤ F.size := by simp at h; omega
  rw [Go.Sort.setMany, vN r (s + 1) _ (by simp; omega)]
  have e1 : (F.setIfInBounds s v).toList = F.toList.set s v := by simp
  have hs : s < F.toList.length := by simp; omega
  rw [e1, show s + (v :: r).length = s + 1 + r.length by simp; omega, List.drop_set_of_lt (by omega)]
  congr 1
  rw [List.take_add_one, List.take_set_of_le lR, List.getElem?_set_self hs]
  simp
theorem Blk.setCells {t : TypeId} {g : Nat} : ∀ (vs : List Value) (o : Nat) {w : World} {cs : Array Value}, Blk w g t cs → Blk (w.setCells g o vs) g t (Go.Sort.setMany cs o vs)
 | [], _, _, _, h => h
 | v :: r, o, w, cs, h => by
  rw [World.setCells, Go.Sort.setMany]
  exact Blk.setCells r (o + 1) (h.set o v)
theorem wW {g : Nat} : ∀ (vs : List Value) (o : Nat) (w : World), w.grownBy (w.setCells g o vs) (some g)
 | [], _, w => xC w _
 | v :: r, o, w => by
  rw [World.setCells]
  exact zP (show w.grownBy (w.setCell ⟨g, o, none⟩ v) (some g) from ⟨rfl, rfl, rfl, by simp [World.setCell], fun i _ hi => Below.heap_setCell w ⟨g, o, none⟩ v i (fun e => hi (by rw [e]))⟩) (wW r (o + 1) _)
theorem qa (w : World) (ty : TypeId) (b o c : Nat) (hc : ∀ j, j < 3 → (w.cell? ⟨b, o + j, none⟩).isSome = true) (hf : ∀ j, j < 3 → w.frozen? ⟨b, o + j, none⟩ = false) :
 (Builtin.clear_ #[27] ty #[.slice (some ⟨b, o, none⟩) 1 c]).run Tryz.prog w = .ok (.tuple #[]) (w.setCells b o [.int .i64 0, .int .i64 0, .int .i64 0]) := by
 have ht : Tryz.prog.underlying 27 = some (.slice 87) := Tryz.underlying27
 have hv : ∀ w, (zeroValue 87).run Tryz.prog w = .ok (.agg #[.int .i64 0, .int .i64 0, .int .i64 0]) w := Tryz.zeroValue87
 have hzc : (Builtin.zeroCells (Value.agg #[.int .i64 0, .int .i64 0, .int .i64 0]).cells 1).toList = [.int .i64 0, .int .i64 0, .int .i64 0] := by kernel_rfl
 have hst := run_storeCells_cells (P := Tryz.prog) b o [.int .i64 0, .int .i64 0, .int .i64 0] 0 w (by simpa using hc) (by simpa using hf) (by intro v hv'; simp at hv'; subst hv'; rfl)
 simp only [Nat.add_zero] at hst
 simp [Builtin.clear_, run_underlying ht, hv, hzc, hst]
theorem ou (d p q d2 p2 q2 : Int) (w : World) : (binOp .eql 87 (.agg #[.int .i64 d, .int .i64 p, .int .i64 q]) (.agg #[.int .i64 d2, .int .i64 p2, .int .i64 q2])).run Tryz.prog w = .ok (.bool (pA ⟨d, p, q⟩ ⟨d2, p2, q2⟩)) w := by
 have u3 := Tryz.underlying3
 have a3 := Tryz.isAgg3
 have z3 := Tryz.sizeOf3
 have hS : Tryz.prog.underlying 87 = some (.struct (Tryz.prog.fieldsOf 87)) := by kernel_rfl
 have hp : Tryz.prog.stoodInHeld 87 = false := by kernel_rfl
 rw [run_eql_struct, show (10000 : Nat) = 9999 + 1 from rfl, run_equalIn_agg w 9999 87 _ _ hS hp]
 simp only [Program.fieldsOf, Tryz.underlying87]
 go_simp
 by_cases h1 : d = d2 <;> by_cases h2 : p = p2 <;> by_cases h3 : q = q2 <;> simp [h1, h2, h3, pA]
def sE (k : Lk) : List Lk → Option Nat
 | [] => none
 | x :: l => if pA k x = true then some 0 else (sE k l).map (· + 1)
def kz : Option Nat → Int
 | some i => i
 | none => -1
theorem pu {k : Lk} : ∀ {ls : List Lk} {i : Nat}, (∀ x ∈ ls.take i, k ≠ x) → ls[i]? = some k → sE k ls = some i
 | [], _, _, h => by simp at h
 | x :: l, 0, _, h => by simp at h; rw [sE, if_pos ((xh _ _).2 h.symm)]
 | x :: l, i + 1, h1, h => by
  rw [sE, if_neg (fun e => h1 x (by simp) ((xh _ _).1 e)), pu (ls := l) (i := i) (fun y hy => h1 y (by simp [hy])) (by simpa using h)]; rfl
theorem rz {k : Lk} : ∀ {ls : List Lk}, (∀ x ∈ ls, k ≠ x) → sE k ls = none
 | [], _ => rfl
 | x :: l, h => by rw [sE, if_neg (fun e => h x (by simp) ((xh _ _).1 e)), rz (fun y hy => h y (by simp [hy]))]; rfl
theorem qA {ds : List Dv} {d p q : Int} : ∀ {ls : List Lk}, (∀ x ∈ ls, x.dev = d → x.pos = p) → sE ⟨d, p, q⟩ ls = vT d q ls
 | [], _ => rfl
 | x :: l, h => by
  rw [sE, vT, qA (ds := ds) (ls := l) (fun y hy => h y (by simp [hy]))]
  by_cases hx : x.dev = d ∧ x.key = q
  ·rw [if_pos hx, if_pos ((xh _ _).2 (by have := h x (by simp) hx.1; obtain ⟨a, b, c⟩ := x; simp at hx this ⊢; omega))]
  ·rw [if_neg hx, if_neg (fun e => hx (by rw [← (xh _ _).1 e]; exact ⟨rfl, rfl⟩))]
theorem qz {d q : Int} : ∀ {ls : List Lk} {i : Nat}, vT d q ls = some i → i < ls.length
 | [], _, h => by cases h
 | x :: l, i, h => by
  rw [vT] at h
  split at h
  ·injection h with h; subst h; simp
  ·rcases hi : vT d q l with _ | j
   ·rw [hi] at h; cases h
   ·rw [hi] at h
    injection h with h
    have := qz hi
    subst h; simp; omega
theorem mm {d q : Int} {ls : List Lk} (h : ∀ x ∈ ls, x.dev ≠ d) : vT d q ls = none := by
 induction ls with
 | nil => rfl
 | cons x l ih => rw [vT, if_neg (fun e => h x (by simp) e.1), ih (fun y hy => h y (by simp [hy]))]; rfl
def IxR (w : World) (ls : List Lk) (k : Lk) (n gk : Nat) (_kv iv : Value) (wr : World) : Prop := ∃ i : Nat, iv = .int .i64 i ∧ i ≤ n ∧ gk = n - i ∧ Hid (∀ x ∈ ls.take i, k ≠ x) ∧ Hid (Blk wr w.heap.size 87 #[.int .i64 k.dev, .int .i64 k.pos, .int .i64 k.key]) ∧ Hid (Below w.heap.size w wr)
theorem mB (A : Option Addr) (n c B : Nat) (ls : List Lk) (d p q : Int) (w : World) (hs : Sl w B 3 A n c (ls.flatMap Lk.cells)) (hB : B ≤ w.heap.size) :
 Calls Tryz.prog 123 #[.slice A n c, .agg #[.int .i64 d, .int .i64 p, .int .i64 q]] w fun e w' => e = .returned (.int .i64 (kz (sE ⟨d, p, q⟩ ls))) ∧ Below w.heap.size w w' := by
 have HLN := iD (hs.len (fun _ => rfl) (by decide)); have HS := iD hs
 have hle := hs.le
 have HB0 : Hid (Below w.heap.size w (w.alloc (.cells #[.int .i64 d, .int .i64 p, .int .i64 q] 87))) := (Below.refl _ _).alloc lR _
 have HK0 : Hid (Blk (w.alloc (.cells #[.int .i64 d, .int .i64 p, .int .i64 q] 87)) w.heap.size 87 #[.int .i64 d, .int .i64 p, .int .i64 q]) := Blk.new _ _ _
 clear hs
 go_enter Tryz.func123, Tryz.ntmps123
 go_wp2_with fail
 generalize World.alloc _ _ = W at *
 go_loopg [5, 8] n (IxR w ls ⟨d, p, q⟩ n)
 case atStart => exact ⟨0, rfl, Nat.zero_le _, rfl, (fun x hx => by simp at hx), HK0, HB0⟩
 case round =>
  clear HB0 HK0
  obtain ⟨i, rfl, hi, rfl, hno, hbk, hbl⟩ := hrel
  by_cases hlt : i < n
  ·obtain ⟨b, off, d1, p1, q1, rfl, hb, hx, c0, c1, c2⟩ := (HS.out.below hbl.out hB).lock hlt
   have HX := iD hx
   have HCS : Hid (wr.cell? ⟨w.heap.size, 0, none⟩ = some (.int .i64 d) ∧ wr.cell? ⟨w.heap.size, 1, none⟩ = some (.int .i64 p) ∧ wr.cell? ⟨w.heap.size, 2, none⟩ = some (.int .i64 q) ∧ wr.cell? ⟨b, off + i * 3, none⟩ = some (.int .i64 d1) ∧ wr.cell? ⟨b, off + i * 3 + 1, none⟩ = some (.int .i64 p1) ∧ wr.cell? ⟨b, off + i * 3 + 2, none⟩ = some (.int .i64 q1)) := ⟨hbk.out.cell 0, hbk.out.cell 1, hbk.out.cell 2, c0, c1, c2⟩
   have heql := fun W => ou d p q d1 p1 q1 W
   clear hx c0 c1 c2
   rcases hee : pA ⟨d, p, q⟩ ⟨d1, p1, q1⟩ with _ | _
   ·rw [hee] at heql
    have HN : Hid (∀ x ∈ ls.take (i + 1), (⟨d, p, q⟩ : Lk) ≠ x) := fun x hx e => by
     rw [zV HX.out] at hx
     rcases List.mem_append.1 hx with h | h
     ·exact hno.out x h e
     ·rw [List.mem_singleton.1 h] at e
      rw [(xh _ _).2 e] at hee; cases hee
    clear hee
    go_upto_region 4 with (fail)
    refine zF (S := fun W' => W'.cell? ⟨w.heap.size, 0, none⟩ = some (.int .i64 d) ∧ W'.cell? ⟨w.heap.size, 1, none⟩ = some (.int .i64 p) ∧ W'.cell? ⟨w.heap.size, 2, none⟩ = some (.int .i64 q) ∧ W'.cell? ⟨b, off + i * 3, none⟩ = some (.int .i64 d1) ∧ W'.cell? ⟨b, off + i * 3 + 1, none⟩ = some (.int .i64 p1) ∧ W'.cell? ⟨b, off + i * 3 + 2, none⟩ = some (.int .i64 q1)) (J := []) (by kernel_rfl) ?_ (fun AA => ?_)
    ·exact HCS.out
    try dsimp only at AA
    refine tk 0 11 (mf 6 1) AA ?_
    refine tk 1 12 (mf 6 2) AA ?_
    refine tk 2 13 (mf 6 3) AA ?_
    refine tk 3 14 (mf 6 4) AA ?_
    refine tk 4 15 (mf 6 5) AA ?_
    refine tk 5 16 (mf 6 6) AA ?_
    refine zC (by kernel_rfl) ?_ _
    clear AA
    go_wp2_with fail
    go_roundg (n - (i + 1))
    case rel => exact ⟨i + 1, by go_num, by omega, rfl, HN, hbk.out, hbl.out.drew⟩
    case measure => omega
   ·rw [hee] at heql
    have HR : Hid (sE ⟨d, p, q⟩ ls = some i) := pu hno.out (by rw [(xh _ _).1 hee]; exact HX.out)
    clear hee
    go_upto_region 4 with (fail)
    refine zF (S := fun W' => W'.cell? ⟨w.heap.size, 0, none⟩ = some (.int .i64 d) ∧ W'.cell? ⟨w.heap.size, 1, none⟩ = some (.int .i64 p) ∧ W'.cell? ⟨w.heap.size, 2, none⟩ = some (.int .i64 q) ∧ W'.cell? ⟨b, off + i * 3, none⟩ = some (.int .i64 d1) ∧ W'.cell? ⟨b, off + i * 3 + 1, none⟩ = some (.int .i64 p1) ∧ W'.cell? ⟨b, off + i * 3 + 2, none⟩ = some (.int .i64 q1)) (J := []) (by kernel_rfl) ?_ (fun AA => ?_)
    ·exact HCS.out
    try dsimp only at AA
    refine tk 0 11 (mf 6 1) AA ?_
    refine tk 1 12 (mf 6 2) AA ?_
    refine tk 2 13 (mf 6 3) AA ?_
    refine tk 3 14 (mf 6 4) AA ?_
    refine tk 4 15 (mf 6 5) AA ?_
    refine tk 5 16 (mf 6 6) AA ?_
    refine zC (by kernel_rfl) ?_ _
    clear AA
    go_wp2_with fail
    go_ret
    exact ⟨zE (by rw [HR.out]; rfl), hbl.out.drew⟩
  ·obtain rfl : i = n := by omega
   have hii : decide (i < i) = false := by simp
   have HR : Hid (sE ⟨d, p, q⟩ ls = none) := by
    have := hno.out
    rw [List.take_of_length_le (by rw [HLN.out]; exact Nat.le_refl _)] at this
    exact rz this
   go_wp2_with fail
   go_ret
   exact ⟨zE (by rw [HR.out]; rfl), hbl.out⟩
theorem pI {P : Program} {ops : Array Oper} {o : Oper} {a : Act} {w : World} {K : Act → World → Prop} {Q : Exit → Act → World → Prop} {E : Prop} {d : Option Tmp} (hd : o.dst = d)
 (hg : o.guard = none) (s x : Operand) (t : TypeId) (hop : o.op = Op.call { callee := Callee.builtin Builtin.append, args := #[s, x], argTypes := #[t, t] })
 (e : TypeId) (i : TypeInfo) (size : Nat) (h1 : P.underlying t = some (.slice e)) (h2 : P.info? e = some i) (h4 : i.size = size)
 (b off n cap : Nat) (hs : a.eval s = .slice (some ⟨b, off, none⟩) n cap)
 (ad : Addr) (m c : Nat) (news : List Value) (hx : a.eval x = .slice (some ad) m c) (hn : news.length = m * size) (hc : ∀ j u, news[j]? = some u → w.cell? (ad.add j) = some u) (h1c : ∀ u ∈ news, u.oneCell' = true)
 (hroom : n + m ≤ cap) (hspare : ∀ j, j < news.length → (w.cell? ⟨b, off + n * size + j, none⟩).isSome = true ∧ w.frozen? ⟨b, off + n * size + j, none⟩ = false)
 (hK : K (a.put d (.slice (some ⟨b, off, none⟩) (n + m) cap)) (w.setCells b (off + n * size) news)) :
 if Region.wanted o (yielded ops a.tmps) = true then Oper.wp P o a w K Q else E := by
 subst hd
 exact step_append_room hg s x t hop e i size h1 h2 h4 b off n cap hs ad m c news hx hn hc h1c hroom hspare hK
theorem mR {l : List Lk} {L : List Value} {n i : Nat} (h : L.take (n * 3) = l.flatMap Lk.cells) (hl : l.length = n) (hi : i ≤ n) : L.take (i * 3) = (l.take i).flatMap Lk.cells := by
 have h1 : L.take (i * 3) = (L.take (n * 3)).take (i * 3) := by rw [List.take_take, Nat.min_eq_left (Nat.mul_le_mul_right _ hi)]
 rw [h1, h]
 have e := congrArg (List.flatMap Lk.cells) (List.take_append_drop i l)
 rw [List.flatMap_append] at e
 rw [← e]
 have hlen : ((l.take i).flatMap Lk.cells).length = i * 3 := by rw [yP (size := 3) (fun _ => rfl), List.length_take, Nat.min_eq_left (by omega)]
 rw [← hlen, List.take_left]
theorem mv (A : Option Addr) (n c base i : Nat) (ls : List Lk) (w : World) (h : zt w base A n c ls) (hi : i < n) (hn : n ≤ 1000000) :
 Calls Tryz.prog 124 #[.slice A n c, .int .i64 (i : Int), .int .i64 ((i : Int) + 1)] w fun e w' => e = .returned (.slice A (n - 1) c) ∧ Hid (zt w' base A (n - 1) c (ls.eraseIdx i)) ∧ Hid (w.grownBy w' (Value.slice A n c).ownBlock) := by
 obtain ⟨m, rfl⟩ : ∃ m, n = m + 1 := ⟨n - 1, by omega⟩
 have hsum : i + (m - i) = m := by omega
 have hl := h.len
 have hle := h.sl.le
 have HDR := iD (h.sl.dropK (k := i + 1) (fun _ => rfl) (by decide) (by omega))
 obtain ⟨i0, z, hi0, hz0, hs0, hb0, hzc⟩ := (yc).ex
 rcases h.2 with ⟨_, h1⟩ | ⟨g, cap, cur, hv, hb, hh, hnc, hm, hs, ht⟩
 ·omega
 injection hv with h1 h2 h3
 subst h1 h3
 obtain ⟨news, hnews⟩ : ∃ news, news = (ls.drop (i + 1)).flatMap Lk.cells := ⟨_, rfl⟩
 have hlen : news.length = (m - i) * 3 := by rw [hnews, yP (size := 3) (fun _ => rfl), List.length_drop, hl, show m + 1 - (i + 1) = m - i by omega]
 obtain ⟨ad, had⟩ : ∃ ad, pC (some (⟨g, 0, none⟩ : Addr)) c (i + 1) 3 = some ad := by unfold pC; split <;> exact ⟨_, rfl⟩
 have HCUT : Hid (∀ W, (Instr.sliceAt 27 (.slice (some ⟨g, 0, none⟩) (m + 1) c) (some (.int .i64 ((i : Int) + 1))) none none).run Tryz.prog W = .ok (.slice (some ad) (m - i) (c - (i + 1))) W) := fun W => by
  have := vk W (some ⟨g, 0, none⟩) (m + 1) c (i + 1) (by omega)
  rw [had, show m + 1 - (i + 1) = m - i by omega] at this
  rw [← this]; rfl
 have HBK : Hid (Blk w g 87 cur) := hh
 have HSRC : Hid (∀ j u, news[j]? = some u → w.drew.cell? (ad.add j) = some u) := by
  intro j u hu
  have hj := (List.getElem?_eq_some_iff.1 hu).1
  obtain ⟨b, off, e, _, hc⟩ := HDR.out.2.2.2.2 (by rw [hlen] at hj; omega)
  rw [had] at e; injection e with e; subst e
  rw [xd]; exact hc j u (by rw [← hnews]; exact hu)
 have HONE : Hid (∀ u ∈ news, u.oneCell' = true) := by rw [hnews]; exact yt _
 have HSP : Hid (∀ j, j < news.length → (w.drew.cell? ⟨g, 0 + i * 3 + j, none⟩).isSome = true ∧ w.drew.frozen? ⟨g, 0 + i * 3 + j, none⟩ = false) := by
  intro j hj
  refine ⟨?_, HBK.out.frozen _⟩
  have := HBK.out.cell (0 + i * 3 + j)
  show (w.cell? _).isSome = true
  rw [this]
  have : 0 + i * 3 + j < cur.size := by rw [hs]; omega
  rw [Array.getElem?_eq_getElem this]; rfl
 obtain ⟨W1, hW1⟩ : ∃ W1, W1 = w.drew.setCells g (0 + i * 3) news := ⟨_, rfl⟩
 have HW1 := iD hW1
 have HBK1 : Hid (Blk W1 g 87 (Go.Sort.setMany cur (0 + i * 3) news)) := by unfold Hid; rw [hW1]; exact Blk.setCells news _ (show Blk w.drew g _ _ from HBK.out)
 have HG1 : Hid (w.grownBy W1 (some g)) := by unfold Hid; rw [hW1]; exact zP (rA (xC w _)) (wW news _ w.drew)
 have hcl : ∀ ty, (Builtin.clear_ #[27] ty #[.slice (some ⟨g, m * 3, none⟩) 1 (c - m)]).run Tryz.prog W1 = .ok (.tuple #[]) (W1.setCells g (m * 3) [.int .i64 0, .int .i64 0, .int .i64 0]) := fun ty => qa W1 ty g _ _ (fun j hj => by
  have := HBK1.out.cell (m * 3 + j)
  rw [this]
  have : m * 3 + j < (Go.Sort.setMany cur (0 + i * 3) news).size := by rw [Go.Sort.size_setMany, hs]; omega
  rw [Array.getElem?_eq_getElem this]; rfl) (fun j _ => HBK1.out.frozen _)
 have HEND : Hid (zt (W1.setCells g (m * 3) [.int .i64 0, .int .i64 0, .int .i64 0]) base (some ⟨g, 0, none⟩) m c (ls.eraseIdx i)) := by
  have hb2 := Blk.setCells [.int .i64 0, .int .i64 0, .int .i64 0] (m * 3) HBK1.out
  refine ⟨by rw [yP (size := 3) (fun _ => rfl), List.length_eraseIdx, if_pos (by omega), hl, Nat.add_sub_cancel], .inr ⟨g, c, _, rfl, hb, hb2, by omega, hm, by rw [Go.Sort.size_setMany, Go.Sort.size_setMany, hs], ?_⟩⟩
  rw [vN _ _ _ (by rw [Go.Sort.size_setMany, hs]; simp; omega), vN _ _ _ (by rw [hs, hlen]; omega), Nat.zero_add]
  have e1 : (cur.toList.take (i * 3)).length = i * 3 := by rw [List.length_take, Nat.min_eq_left]; simp [hs]; omega
  have e2 : (cur.toList.take (i * 3) ++ news).length = m * 3 := by rw [List.length_append, e1, hlen]; omega
  have e3 : ((cur.toList.take (i * 3) ++ news ++ cur.toList.drop (i * 3 + news.length)).take (m * 3)) = cur.toList.take (i * 3) ++ news := by rw [← e2, List.take_left]
  rw [e3, List.append_assoc, ← e2, List.take_left, mR ht hl (by omega), hnews, ← List.flatMap_append, List.eraseIdx_eq_take_drop_succ]
 have HGE : Hid (w.grownBy (W1.setCells g (m * 3) [.int .i64 0, .int .i64 0, .int .i64 0]) (some g)) := zP HG1.out (wW _ _ _)
 have hi0' : Tryz.prog.info? 87 = some i0 := hi0
 have q1 : ((i : Int) == (i : Int) + 1) = false := by simp; omega
 have hw1 : IntKind.i64.wrap ((i : Int) + 1) = (i : Int) + 1 := IntWalk.i64_in _ (by omega)
 have hnsz : (m + 1 : Nat) ≤ c := hnc
 have hic : i ≤ c := by omega
 clear h hh ht hs hz0 hb0 hzc HDR had hnews hW1 HBK HBK1 HG1 hl hb hm
 go_enter Tryz.func124, Tryz.ntmps124
 go_upto_region 5 with (fail)
 refine zF (S := fun _ => True) (J := []) (by kernel_rfl) ?_ (fun AA => ?_)
 ·exact trivial
 try dsimp only at AA
 refine tk 0 20 (mf 8 1) AA ?_
 refine tk 1 21 (mf 8 2) AA ?_
 refine tk 2 22 (mf 8 3) AA ?_
 refine tk 3 23 (mf 8 4) AA ?_
 refine tk 4 24 (mf 8 5) AA ?_
 refine tx 5 25 ?_ (mf 8 6) ?_ AA ?_
 rotate_left
 ·(intro w hSw; (try dsimp only at hSw); have hcut := HCUT.out; go_simp; try with_reducible rfl)
 try simp only [Act.put, sA, sB, sC]
 refine tb 6 (mf 8 7) fun K hK => ?_
 (refine pI (d := some 26) (by rfl) (by rfl) (.tmp 22) (.tmp 25) 27 (by rfl) 87 i0 3 Tryz.underlying27 hi0' hs0 g 0 i c (by rfl) ad (m - i) (c - (i + 1)) news (by rfl) hlen HSRC.out HONE.out (by omega) HSP.out ?_; rw [← HW1.out, hsum])
 refine hK.out _ _ (fun _ => ?_) (fun AA' => ?_)
 ·exact trivial
 replace AA := AA' rfl
 clear AA' hK K
 try dsimp only at AA
 refine tk 7 0 (mf 8 8) AA ?_
 refine zC (by kernel_rfl) ?_ _
 clear AA
 go_wp2_with fail
 go_ret
 exact ⟨rfl, HEND.out, HGE.out⟩
end
section
open Go.RowKit
def rQ (w : World) (ns : List Nd) (ds : List Dv) (ls : List Lk) (d q : Int) (e : Ending) (w' : World) : Prop :=
 (zO ns ds ls ≠ 0 ∧ e = .returned (.tuple #[.slice none 0 0, .int .i64 (zO ns ds ls)]) ∨ zO ns ds ls = 0 ∧ vT d q ls = none ∧ e = .returned (.tuple #[.slice none 0 0, .int .i64 15]) ∨
  zO ns ds ls = 0 ∧ ∃ (i : Nat) (A : Option Addr) (c : Nat), vT d q ls = some i ∧ e = .returned (.tuple #[.slice A (ls.length - 1) c, .int .i64 0]) ∧ Hid (zt w' w.heap.size A (ls.length - 1) c (ls.eraseIdx i))) ∧ Hid (Below w.heap.size w w')
theorem pp (An Ad Al : Option Addr) (nn cn nd cd c Bn Bd Bl : Nat) (ns : List Nd) (ds : List Dv) (ls : List Lk) (d q : Int) (w : World) (hla : Laid w) (hn : Sl w Bn 3 An nn cn (ns.flatMap Nd.cells)) (hd : Sl w Bd 5 Ad nd cd (ds.flatMap Dv.cells)) (hs : Sl w Bl 3 Al ls.length c (ls.flatMap Lk.cells)) (hBn : Bn ≤ w.heap.size) (hBd : Bd ≤ w.heap.size) (hBl : Bl ≤ w.heap.size)
 (hsn : ∀ x ∈ ns, x.name.size ≤ 9223372036854775807) (hsd : ∀ x ∈ ds, x.name.size ≤ 9223372036854775807) :
 Calls Tryz.prog 93 #[.agg #[.slice An nn cn, .slice Ad nd cd], .slice Al ls.length c, .int .i64 d, .int .i64 q] w (rQ w ns ds ls d q) := by
 have HS := iD hs
 have HST : Hid (re w #[.slice An nn cn, .slice Ad nd cd] (w.alloc (.cells #[.slice An nn cn, .slice Ad nd cd] 26))) := ⟨Blk.new _ _ _, (Below.refl _ _).alloc lR _⟩
 have HCK := iD (ua An Ad Al nn cn nd cd ls.length c Bn Bd Bl ns ds ls (w.alloc (.cells #[.slice An nn cn, .slice Ad nd cd] 26)) (hla.alloc _) (hn.below HST.out.bl hBn) (hd.below HST.out.bl hBd) (hs.below HST.out.bl hBl) (by simp; omega) (by simp; omega) (by simp; omega) hsn hsd)
 clear hn hd hs hsn hsd hla
 go_enter Tryz.func93, Tryz.ntmps93
 go_wp2_with fail
 generalize World.alloc _ _ = W at *
 refine HCK.out.mono ?_
 rintro e w1 ⟨rfl, hb1⟩
 have HS1 := iD (HST.out.later hb1)
 clear hb1 HST HCK
 by_cases h0 : zO ns ds ls = 0; rotate_left
 ·have q0 : (zO ns ds ls != 0) = true := by simpa using h0
  have HNZ := iD h0
  clear h0
  go_wp2_with fail
  go_ret2
  exact ⟨.inl ⟨HNZ.out, rfl⟩, HS1.out.bl⟩
 have HG := iD (xA h0)
 have HZ := iD h0
 rw [h0]
 clear h0
 have hz1 := HS1.out.bl.size
 go_wp2_with fail
 refine (nF Al ls.length c Bl ls d w1 (HS.out.below HS1.out.bl hBl) (by omega)).mono ?_
 rintro e w2 ⟨rfl, hb2⟩
 have HS2 := iD (HS1.out.later hb2)
 clear hb2 HS1 hz1
 have hz2 := HS2.out.bl.size
 unfold pq
 rcases hl : wH ls d with _ | p
 ·have HN : Hid (vT d q ls = none) := mm (vo.1 hl)
  clear hl
  simp only [Option.getD_none, Option.isSome_none]
  go_wp2_with fail
  refine (mB Al ls.length c Bl ls d 0 q w2 (HS.out.below HS2.out.bl hBl) (by omega)).mono ?_
  rintro e w3 ⟨rfl, hb3⟩
  have HS3 := iD (HS2.out.later hb3)
  clear hb3 HS2
  generalize kz _ = r
  go_wp2_with fail
  go_ret2
  exact ⟨.inr (.inl ⟨HZ.out, HN.out, rfl⟩), HS3.out.bl⟩
 ·have HI : Hid (sE ⟨d, p, q⟩ ls = vT d q ls) := qA (ds := ds) fun x hx hxd => by
   have := jk HG.out hx
   rw [hxd, hl] at this
   injection this with this
   exact this.symm
  clear hl
  simp only [Option.getD_some, Option.isSome_some]
  go_wp2_with fail
  refine (mB Al ls.length c Bl ls d p q w2 (HS.out.below HS2.out.bl hBl) (by omega)).mono ?_
  rintro e w3 ⟨rfl, hb3⟩
  have HS3 := iD (HS2.out.later hb3)
  clear hb3 HS2 hz2
  rw [HI.out]
  rcases hi : vT d q ls with _ | i
  ·have HN := iD hi
   clear hi
   simp only [kz]
   go_wp2_with fail
   go_ret2
   exact ⟨.inr (.inl ⟨HZ.out, HN.out, rfl⟩), HS3.out.bl⟩
  ·have hil := qz hi
   have HN := iD hi
   have hz3 := HS3.out.bl.size
   have h128 := HG.out.1
   clear hi
   simp only [kz]
   have qi : decide ((i : Int) < 0) = false := by simp
   go_wp2_with fail
   refine (wo Al ls.length c Bl ls w3 (HS.out.below HS3.out.bl hBl) (by omega) (by omega)).mono ?_
   rintro e w4 ⟨A4, c4, rfl, hO4, hb4⟩
   have HO4 : Hid (zt w4 w.heap.size A4 ls.length c4 ls) := World.ownsRow.mono hO4.out (by omega)
   have HS4 := iD (HS3.out.later hb4.out)
   clear hO4 hb4 HS3
   go_wp2_with fail
   refine (mv A4 ls.length c4 w.heap.size i ls w4 HO4.out hil (by omega)).mono ?_
   rintro e w5 ⟨rfl, hO5, hg5⟩
   go_wp2_with fail
   go_ret2
   refine ⟨.inr (.inr ⟨HZ.out, i, A4, c4, HN.out, rfl, hO5⟩), ?_⟩
   have h1 := HS4.out.bl
   exact h1.trans ⟨hg5.out.os, hg5.out.tape, hg5.out.output, hg5.out.size, fun t ht => hg5.out.block t (by have := h1.size; omega) (fun e => by have := (HO4.out.lt t e.symm).1; omega)⟩
end
end Go.Proofs.YtddddlhgaeameaaGreatDoor
