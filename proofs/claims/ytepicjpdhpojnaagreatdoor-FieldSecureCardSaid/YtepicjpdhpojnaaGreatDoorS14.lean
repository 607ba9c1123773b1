import Derived.Test.YtepicjpdhpojnaaGreatDoorS03
import Derived.Test.YtepicjpdhpojnaaGreatDoorS08
import Derived.Test.YtepicjpdhpojnaaGreatDoorShelf
import Derived.Test.YtepicjpdhpojnaaGreatDoorIns
import Derived.Lib.EndianMore
import Derived.Test.YtepicjpdhpojnaaGreatDoorS13
set_option maxRecDepth 100000
set_option maxHeartbeats 16000000
namespace Go.Proofs.YtepicjpdhpojnaaGreatDoor
open Go.RowKit
open Go.Lib (below_setCells_w)
theorem et3 : Tryz.laysNm221_ren.t 3 = 3 := rfl
theorem intsV_get (l : List Int) (j : Nat) : (intsV l)[j]? = l[j]?.map (Value.int .i64) := by rw [intsV_map, List.getElem?_map]
theorem bsearch_any (A : Option Addr) (n c B : Nat) (st : List Int) (d : Int) (w : World) (hs : Sl w B 1 A n c (intsV st)) (hn : n ≤ 1000000) (ho : st.Pairwise (· < ·)) :
 Calls Tryz.prog 46 #[.slice A n c, .int .i64 d] w fun e w' => e = .returned (.tuple #[.int .i64 ((st.countP (· < d) : Nat) : Int), .bool (decide (d ∈ st))]) ∧ ∃ q, w' = w.drewN q := by
 have hl : st.length = n := hs.len (fun _ => rfl) (by decide)
 obtain ⟨-, hnc, -, hnone, hc⟩ := hs
 by_cases h0 : n = 0
 ·subst h0
  obtain rfl : st = [] := List.eq_nil_of_length_eq_zero hl
  refine (Tryz.slices_BinarySearch_int_empty A c d w).mono ?_
  rintro e w' ⟨rfl, rfl⟩
  exact ⟨by simp, 0, rfl⟩
 ·obtain ⟨b, off, rfl, -, hcell⟩ := hc (by omega)
  have ht : st.take n = st := List.take_of_length_le (by omega)
  refine (Tryz.slices_BinarySearch_int b off n c st d w (by omega) (by omega) (fun j hj => ?_) ?_).mono ?_
  ·refine hcell j _ ?_
   rw [intsV_get, List.getElem?_eq_getElem hj, List.getD_eq_getElem?_getD, List.getElem?_eq_getElem hj]
   rfl
  ·rw [ht]; exact ho.imp fun h => Int.le_of_lt h
  ·rw [ht]
   rintro e w' ⟨rfl, q, rfl⟩
   exact ⟨by simp, q, rfl⟩
section
variable {w : World} {base n c i : Nat} {A : Option Addr} {st : List Int}
theorem own_row (h : IntsO w base A n c st) : A = none ∧ n = 0 ∧ c = 0 ∨ ∃ (b : Nat) (cur : Array Value), A = some ⟨b, 0, none⟩ ∧ base ≤ b ∧ b < w.heap.size ∧ w.heap[b]? = some (.cells cur 3 (0, 0)) ∧ n ≤ c ∧ c ≤ 9223372036854775807 ∧ cur.size = c ∧ ∀ (j : Nat) (u : Value), (intsV st)[j]? = some u → cur[j]? = some u := by
 have hl := h.lt
 rcases h.2 with ⟨h0, hn⟩ | ⟨g, cap, cur, h0, hg, hh, h1, h2, h3, h4⟩
 ·injection h0 with e1 e2 e3
  exact .inl ⟨e1, hn, e3⟩
 ·injection h0 with e1 e2 e3
  subst e1 e3
  refine .inr ⟨g, cur, rfl, hg, (hl g rfl).2, hh, h1, by simp [maxLen] at h2; exact h2, by omega, fun j u hu => ?_⟩
  rw [← h4, List.getElem?_take] at hu
  split at hu
  ·simpa using hu
  ·cases hu
end
theorem ins_get {st : List Int} {i : Nat} (d : Int) (hi : i ≤ st.length) (j : Nat) : (st.take i ++ d :: st.drop i)[j]? = if j < i then st[j]? else if j = i then some d else st[j - 1]? := by
 have hl : (st.take i).length = i := by rw [List.length_take]; omega
 rcases Nat.lt_trichotomy j i with h | h | h
 ·rw [if_pos h, List.getElem?_append_left (by omega), List.getElem?_take, if_pos h]
 ·subst h; rw [if_neg (by omega), if_pos rfl, List.getElem?_append_right (by omega), hl, Nat.sub_self]; rfl
 ·rw [if_neg (by omega), if_neg (by omega), List.getElem?_append_right (by omega), hl, List.getElem?_cons, if_neg (by omega), List.getElem?_drop]
  congr 1; omega
def InsPost (w : World) (base n : Nat) (L : List Int) (e : Ending) (w' : World) : Prop := ∃ (A' : Option Addr) (c' : Nat), e = .returned (.slice A' (n + 1) c') ∧ Hid (Sl w' w'.heap.size 1 A' (n + 1) c' (intsV L)) ∧ Hid (∀ b off, A' = some ⟨b, off, none⟩ → base ≤ b) ∧ Hid (Below base w w')
theorem ins_sl {w' : World} {n c i b : Nat} {st : List Int} {d : Int} (hl : st.length = n) (hi : i ≤ n) (hc : n + 1 ≤ c) (hm : c ≤ 9223372036854775807) (hb : b < w'.heap.size)
 (h1 : ∀ j u, j < i → (intsV st)[j]? = some u → w'.cell? ⟨b, j, none⟩ = some u) (h2 : w'.cell? ⟨b, i, none⟩ = some (.int .i64 d)) (h3 : ∀ j u, i < j → (intsV st)[j - 1]? = some u → w'.cell? ⟨b, j, none⟩ = some u) :
 Sl w' w'.heap.size 1 (some ⟨b, 0, none⟩) (n + 1) c (intsV (st.take i ++ d :: st.drop i)) := by
 refine ⟨by rw [intsV_len]; simp; omega, hc, hm, (fun e => by cases e), fun _ => ⟨b, 0, rfl, hb, fun j u hu => ?_⟩⟩
 rw [Nat.zero_add]
 rw [intsV_get, ins_get d (by omega)] at hu
 rcases Nat.lt_trichotomy j i with h | h | h
 ·rw [if_pos h] at hu; exact h1 j u h (by rw [intsV_get]; exact hu)
 ·subst h; rw [if_neg (by omega), if_pos rfl] at hu; cases hu; exact h2
 ·rw [if_neg (by omega), if_neg (by omega)] at hu; exact h3 j u h (by rw [intsV_get]; exact hu)
theorem ins_any (A : Option Addr) (n c i base vb : Nat) (st : List Int) (d : Int) (w : World) (h : IntsO w base A n c st) (hv : Blk w vb 3 #[.int .i64 d]) (hvb : base ≤ w.heap.size) (hne : ∀ b, A = some ⟨b, 0, none⟩ → b ≠ vb) (hi : i ≤ n) (hn : n ≤ 1000000) :
 Calls Tryz.prog 105 #[.slice A n c, .int .i64 (i : Int), .slice (some ⟨vb, 0, none⟩) 1 1] w (InsPost w base n (st.take i ++ d :: st.drop i)) := by
 have hln := h.len
 have hvs : ∀ j v, [Value.int .i64 d][j]? = some v → w.cell? ⟨vb, 0 + j, none⟩ = some v := fun j v e => by
  rcases j with _ | j
  ·exact (hv.cell 0).trans e
  ·cases e
 have h1v : ∀ v ∈ [Value.int .i64 d], v.oneCell' = true := fun v hv => by rw [List.mem_singleton.1 hv]; rfl
 have hcl : (intsV st).length = n := by rw [intsV_len, hln]
 rcases own_row h with ⟨rfl, rfl, rfl⟩ | ⟨b, cur, rfl, hbb, hbl, hh, hnc, hcm, hcs, hcur⟩
 ·obtain rfl : i = 0 := by omega
  obtain rfl : st = [] := List.eq_nil_of_length_eq_zero hln
  refine (Any2.slices_Insert_int_end_grow Tryz.laysNm221 none 0 0 vb 0 1 1 [] [.int .i64 d] w (by decide) (Nat.le_refl _) (by decide) (by decide) rfl rfl (fun _ => rfl) (fun a e => by cases e) hvs h1v).mono ?_
  rintro e w' hw
  simp only [et3] at hw
  obtain ⟨rfl, rfl⟩ := hw
  refine ⟨_, _, rfl, ?_, (fun b off e => by cases e; exact hvb), ((Below.refl _ _).drew).alloc (by simp; omega) _⟩
  refine ins_sl rfl (Nat.le_refl _) (grownCap_ge ..) ?_ (by simp) (fun j u hj => by omega) ?_ (fun j u _ hu => by cases hu)
  ·have := grownCap_le_maxLen w (0 + 1) 0 3 (by decide); simpa [maxLen] using this
  ·have := (Blk.new w.drew 3 ((([] ++ [Value.int .i64 d] : List Value)).toArray ++ Builtin.zeroCells (Value.int .i64 0).cells (grownCap w (0 + 1) 0 3 - (0 + 1)))).cell 0
   refine this.trans ?_
   rw [Array.getElem?_append_left (by simp)]
   rfl
 ·have hcell : ∀ j u, (intsV st)[j]? = some u → w.cell? ⟨b, j, none⟩ = some u := fun j u hu => (cell_of_row w b j cur _ _ hh).trans (hcur j u hu)
  have hsome : ∀ j, j < c → (w.cell? ⟨b, j, none⟩).isSome = true := fun j hj => by
   rw [cell_of_row w b j cur _ _ hh, Array.getElem?_eq_getElem (by omega)]; rfl
  have hfz : ∀ j, w.frozen? ⟨b, j, none⟩ = false := fun j => by simp [World.frozen?, hh]
  have hbv : vb ≠ b := fun e => hne b rfl e.symm
  rcases Nat.lt_or_ge c (n + 1) with hr | hr
  ·obtain rfl : c = n := by omega
   rcases Nat.lt_or_ge i c with hic | hic
   ·refine (Any2.slices_Insert_int_grow Tryz.laysNm221 b 0 c c i vb 0 1 1 (intsV st) [.int .i64 d] w hic (by decide) (Nat.le_refl _) hr (by omega) hcl rfl (fun j v e => by rw [Nat.zero_add]; exact hcell j v e) hvs (ints_one _) h1v).mono ?_
    rintro e w' hw
    simp only [et3] at hw
    obtain ⟨rfl, rfl⟩ := hw
    refine ⟨_, _, rfl, ?_, (fun b off e => by cases e; exact hvb), ?_⟩
    ·obtain ⟨Z, hZ⟩ : ∃ Z : Array Value, Z = ((intsV st).take i).toArray ++ Builtin.zeroCells (Value.int .i64 0).cells (c + 1 - i) ++ Builtin.zeroCells (Value.int .i64 0).cells (grownCap w (c + 1) c 3 - (c + 1)) := ⟨_, rfl⟩
     have hB0 : Blk (w.alloc (.cells Z 3)).drew w.heap.size 3 Z := Blk.new w 3 Z
     have hlz : ((intsV st).take i).length = i := by rw [List.length_take, hcl]; omega
     have hZs : c + 1 ≤ Z.size := by rw [hZ]; simp [Builtin.zeroCells, Value.cells]; omega
     have hS : ∀ j, j < c + 1 → ((w.alloc (.cells Z 3)).drew.cell? ⟨w.heap.size, j, none⟩).isSome = true := fun j hj => by rw [hB0.cell j, Array.getElem?_eq_getElem (by omega)]; rfl
     have hd : ((intsV st).drop i).length = c - i := by rw [List.length_drop, hcl]
     rw [← hZ]
     refine ins_sl hln hi (grownCap_ge ..) ?_ ?_ (fun j u hj hu => ?_) ?_ (fun j u hj hu => ?_)
     ·have := grownCap_le_maxLen w (c + 1) c 3 (by simp [maxLen]; omega); simpa [maxLen] using this
     ·have := (below_setCells_w (B := 0) (g := w.heap.size) (Nat.zero_le _) ((intsV st).drop i) (i + 1) ((w.alloc (.cells Z 3)).drew.setCells w.heap.size i [.int .i64 d]).drew).size
      have h2 := (below_setCells_w (B := 0) (g := w.heap.size) (Nat.zero_le _) [.int .i64 d] i (w.alloc (.cells Z 3)).drew).size
      have h3 : (w.alloc (.cells Z 3)).drew.heap.size = w.heap.size + 1 := by simp
      have h4 : ((w.alloc (.cells Z 3)).drew.setCells w.heap.size i [.int .i64 d]).drew.heap.size = ((w.alloc (.cells Z 3)).drew.setCells w.heap.size i [.int .i64 d]).heap.size := rfl
      omega
     ·rw [World.cell?_setCells_out _ _ _ _ _ (fun _ _ => .inl (by simp; omega))]
      show (World.setCells _ _ _ _).cell? _ = _
      rw [World.cell?_setCells_out _ _ _ _ _ (fun _ _ => .inl (by simp; omega)), hB0.cell j, hZ, Array.getElem?_append_left (by simp [Builtin.zeroCells]; omega), Array.getElem?_append_left (by simp; omega)]
      simp only [List.getElem?_toArray]
      rw [List.getElem?_take, if_pos hj]; exact hu
     ·rw [World.cell?_setCells_out _ _ _ _ _ (fun _ _ => .inl (by simp))]
      exact World.cell?_setCells_in w.heap.size [.int .i64 d] i (w.alloc (.cells Z 3)).drew (fun j hj => hS _ (by simp at hj; omega)) 0 (by simp)
     ·have hj1 : j - 1 < c := by rw [← hcl]; exact (List.getElem?_eq_some_iff.1 hu).1
      have := World.cell?_setCells_in w.heap.size ((intsV st).drop i) (i + 1) ((w.alloc (.cells Z 3)).drew.setCells w.heap.size i [.int .i64 d]).drew (fun k hk => by
       show ((World.setCells _ _ _ _).cell? _).isSome = true
       rw [World.cell?_setCells_out _ _ _ _ _ (fun _ _ => .inr (by simp))]
       exact hS _ (by rw [hd] at hk; omega)) (j - (i + 1)) (by rw [hd]; omega)
      rw [show i + 1 + (j - (i + 1)) = j by omega] at this
      rw [this, List.getElem_drop, ← hu, List.getElem?_eq_getElem (by rw [hcl]; omega)]
      simp only [Option.some.injEq]
      congr 1; omega
    ·exact (((Below.refl _ _).alloc hvb _).drew.trans (below_setCells_w hvb _ _ _)).drew.trans (below_setCells_w hvb _ _ _)
   ·obtain rfl : i = c := by omega
    refine (Any2.slices_Insert_int_end_grow Tryz.laysNm221 (some ⟨b, 0, none⟩) i i vb 0 1 1 (intsV st) [.int .i64 d] w (by decide) (Nat.le_refl _) hr (by omega) hcl rfl (fun e => by cases e) (fun a e j v hj => by cases e; rw [add_plain]; rw [Nat.zero_add]; exact hcell j v hj) hvs h1v).mono ?_
    rintro e w' hw
    simp only [et3] at hw
    obtain ⟨rfl, rfl⟩ := hw
    refine ⟨_, _, rfl, ?_, (fun b off e => by cases e; exact hvb), ((Below.refl _ _).drew).alloc (by simp; omega) _⟩
    have hB0 := Blk.new w.drew 3 ((intsV st ++ [Value.int .i64 d]).toArray ++ Builtin.zeroCells (Value.int .i64 0).cells (grownCap w (i + 1) i 3 - (i + 1)))
    refine ins_sl hln hi (grownCap_ge ..) ?_ (by simp) (fun j u hj hu => ?_) ?_ (fun j u hj hu => ?_)
    ·have := grownCap_le_maxLen w (i + 1) i 3 (by simp [maxLen]; omega); simpa [maxLen] using this
    ·refine (hB0.cell j).trans ?_
     rw [Array.getElem?_append_left (by simp [hcl]; omega), List.getElem?_toArray, List.getElem?_append_left (by omega)]
     exact hu
    ·refine (hB0.cell i).trans ?_
     rw [Array.getElem?_append_left (by simp [hcl]), List.getElem?_toArray, List.getElem?_append_right (by omega), hcl, Nat.sub_self]
     rfl
    ·have := (List.getElem?_eq_some_iff.1 hu).1
     omega
  ·rcases Nat.lt_or_ge i n with hic | hic
   ·refine (Any2.slices_Insert_int_shift Tryz.laysNm221 b 0 n c i vb 0 1 1 (intsV st) [.int .i64 d] w hic (by decide) hr hcm hbv hcl rfl (fun j v e => by rw [Nat.zero_add]; exact hcell j v e) (fun j hj => by rw [Nat.zero_add]; exact hsome j (by omega)) (fun j _ => by rw [Nat.zero_add]; exact hfz j) hvs (ints_one _) h1v 3 3 1 c (by unfold World.shape?; rw [show w.heap[vb]? = _ from hv]; rfl) (by unfold World.shape?; rw [hh]; simp [hcs]) (by omega) (hv.frozen 0) (hv.frozen 1)).mono ?_
    rintro e w' ⟨rfl, rfl⟩
    have hd : ((intsV st).drop i).length = n - i := by rw [List.length_drop, hcl]
    refine ⟨_, _, rfl, ?_, (fun b off e => by cases e; exact hbb), ((Below.refl _ _).drew.trans (below_setCells_w hbb _ _ _)).trans (below_setCells_w hbb _ _ _)⟩
    refine ins_sl hln hi hr hcm ?_ (fun j u hj hu => ?_) ?_ (fun j u hj hu => ?_)
    ·have h1 := (below_setCells_w (B := 0) (g := b) (Nat.zero_le _) ((intsV st).drop i) (0 + (i + 1)) w.drew).size
     have h2 := (below_setCells_w (B := 0) (g := b) (Nat.zero_le _) [.int .i64 d] (0 + i) (w.drew.setCells b (0 + (i + 1)) ((intsV st).drop i))).size
     have h3 : w.drew.heap.size = w.heap.size := rfl
     omega
    ·rw [World.cell?_setCells_out _ _ _ _ _ (fun _ _ => .inl (by simp; omega)), World.cell?_setCells_out _ _ _ _ _ (fun _ _ => .inl (by simp; omega))]
     exact hcell j u hu
    ·have := World.cell?_setCells_in b [.int .i64 d] (0 + i) (w.drew.setCells b (0 + (i + 1)) ((intsV st).drop i)) (fun j hj => by
      rw [World.cell?_setCells_out _ _ _ _ _ (fun _ _ => .inl (by simp at hj ⊢; omega))]
      rw [Nat.zero_add]
      exact hsome (i + j) (by simp at hj; omega)) 0 (by simp)
     simp only [Nat.zero_add, Nat.add_zero] at this ⊢
     exact this
    ·have hj1 : j - 1 < n := by rw [← hcl]; exact (List.getElem?_eq_some_iff.1 hu).1
     rw [World.cell?_setCells_out _ _ _ _ _ (fun _ _ => .inr (by simp; omega))]
     have := World.cell?_setCells_in b ((intsV st).drop i) (0 + (i + 1)) w.drew (fun k hk => by rw [hd] at hk; rw [Nat.zero_add]; exact hsome (i + 1 + k) (by omega)) (j - (i + 1)) (by rw [hd]; omega)
     rw [show 0 + (i + 1) + (j - (i + 1)) = j by omega] at this
     rw [this, List.getElem_drop, ← hu, List.getElem?_eq_getElem (by rw [hcl]; omega)]
     simp only [Option.some.injEq]
     congr 1; omega
   ·obtain rfl : i = n := by omega
    refine (Any2.slices_Insert_int_end_room Tryz.laysNm221 b 0 i c vb 0 1 1 [.int .i64 d] w (by decide) hr hcm rfl (fun j hj => by rw [Nat.zero_add]; exact hsome (i + j) (by omega)) (fun j _ => by rw [Nat.zero_add]; exact hfz (i + j)) hvs h1v).mono ?_
    rintro e w' ⟨rfl, rfl⟩
    refine ⟨_, _, rfl, ?_, (fun b off e => by cases e; exact hbb), below_setCells_w hbb _ _ _⟩
    refine ins_sl hln hi hr hcm ?_ (fun j u hj hu => ?_) ?_ (fun j u hj hu => ?_)
    ·have h1 := (below_setCells_w (B := 0) (g := b) (Nat.zero_le _) [.int .i64 d] (0 + i) w).size
     omega
    ·rw [World.cell?_setCells_out _ _ _ _ _ (fun _ _ => .inl (by simp; omega))]
     exact hcell j u hu
    ·have := World.cell?_setCells_in b [.int .i64 d] (0 + i) w (fun j hj => by rw [Nat.zero_add]; exact hsome (i + j) (by simp at hj; omega)) 0 (by simp)
     simp only [Nat.zero_add, Nat.add_zero] at this ⊢
     exact this
    ·have := (List.getElem?_eq_some_iff.1 hu).1
     omega
def DelPost (w : World) (base : Nat) (A : Option Addr) (n c : Nat) (L : List Int) (e : Ending) (w' : World) : Prop := e = .returned (.slice A (n - 1) c) ∧ Hid (Sl w' w'.heap.size 1 A (n - 1) c (intsV L)) ∧ Hid (Below base w w')
theorem del_any (A : Option Addr) (n c i base : Nat) (st : List Int) (w : World) (h : IntsO w base A n c st) (hi : i < n) :
 Calls Tryz.prog 106 #[.slice A n c, .int .i64 (i : Int), .int .i64 ((i : Int) + 1)] w (DelPost w base A n c (st.take i ++ st.drop (i + 1))) := by
 rw [show (i : Int) + 1 = ((i + 1 : Nat) : Int) from rfl]
 have hln := h.len
 rcases own_row h with ⟨rfl, rfl, rfl⟩ | ⟨b, cur, rfl, hbb, hbl, hh, hnc, hcm, hcs, hcur⟩
 ·omega
 ·have hcell : ∀ j u, (intsV st)[j]? = some u → w.cell? ⟨b, j, none⟩ = some u := fun j u hu => (cell_of_row w b j cur _ _ hh).trans (hcur j u hu)
  refine (Tryz.slices_Delete_int_cells b 0 n c i (i + 1) st w (by omega) hnc hcm (by omega) (by omega) (fun j hj => ?_) (fun j _ => by simp [World.frozen?, hh])).mono ?_
  ·rw [Nat.zero_add]
   refine hcell j _ ?_
   rw [intsV_get, List.getElem?_eq_getElem hj, List.getD_eq_getElem?_getD, List.getElem?_eq_getElem hj]
   rfl
  ·rintro e w' ⟨rfl, q, rfl⟩
   rw [List.take_of_length_le (show st.length ≤ n by omega), show i + 1 - i = 1 by omega]
   obtain ⟨L, hL⟩ : ∃ L, L = st.take i ++ st.drop (i + 1) := ⟨_, rfl⟩
   have hLl : L.length = n - 1 := by rw [hL]; simp; omega
   rw [← hL]
   refine ⟨rfl, ⟨by rw [intsV_len, hLl, Nat.mul_one], by omega, hcm, (fun e => by cases e), fun _ => ⟨b, 0, rfl, ?_, fun j u hu => ?_⟩⟩, (below_drewN (Below.refl _ _) q).trans (below_setCells_w hbb _ _ _)⟩
   ·have := (below_setCells_w (B := 0) (g := b) (Nat.zero_le _) ((L ++ List.replicate 1 0).map (Value.int .i64)) 0 (w.drewN q)).size
    have h3 : (w.drewN q).heap.size = w.heap.size := rfl
    omega
   ·have hj : j < L.length := by have := (List.getElem?_eq_some_iff.1 hu).1; rwa [intsV_len] at this
    have := World.cell?_setCells_in b ((L ++ List.replicate 1 0).map (Value.int .i64)) 0 (w.drewN q) (fun k hk => by
     show (w.cell? _).isSome = true
     rw [Nat.zero_add, cell_of_row w b k cur _ _ hh, Array.getElem?_eq_getElem (by simp at hk; omega)]
     rfl) j (by simp; omega)
    rw [this]
    rw [intsV_map, List.getElem?_eq_getElem (by simpa using hj)] at hu
    rw [← hu]
    simp [hj]
end Go.Proofs.YtepicjpdhpojnaaGreatDoor
namespace Go.Proofs.YtepicjpdhpojnaaGreatDoor
open Go.RowKit
theorem cnt_split {d : Int} : ∀ {st : List Int}, st.Pairwise (· < ·) → (∀ x ∈ st.take (st.countP (· < d)), x < d) ∧ ∀ x ∈ st.drop (st.countP (· < d)), d ≤ x
 | [], _ => ⟨fun x h => by simp at h, fun x h => by simp at h⟩
 | y :: st, h => by
  rw [List.pairwise_cons] at h
  by_cases hy : y < d
  ·rw [List.countP_cons_of_pos (by simpa using hy)]
   obtain ⟨h1, h2⟩ := cnt_split (d := d) h.2
   refine ⟨fun x hx => ?_, fun x hx => h2 x (by simpa using hx)⟩
   rw [List.take_succ_cons] at hx
   rcases List.mem_cons.1 hx with rfl | hx
   ·exact hy
   ·exact h1 x hx
  ·have h0 : (y :: st).countP (· < d) = 0 := by
    rw [List.countP_eq_zero]
    intro x hx
    rcases List.mem_cons.1 hx with rfl | hx
    ·simpa using hy
    ·have := h.1 x hx; simp; omega
   rw [h0]
   refine ⟨fun x hx => by simp at hx, fun x hx => ?_⟩
   rw [List.drop_zero] at hx
   rcases List.mem_cons.1 hx with rfl | hx
   ·omega
   ·have := h.1 x hx; omega
section
variable {nd : Nat} {st : List Int} {d : Int}
theorem stk_in (h : StkOk nd st) (hd : d ∈ st) : stkTo nd st d true = st := by
 refine srt_ext (stkTo_srt ..) h.srt fun x => ?_
 rw [stkTo_mem]
 constructor
 ·rintro ⟨_, h2⟩
  split at h2
  ·next e => rw [e]; exact hd
  ·exact h2
 ·intro hx
  refine ⟨h.mem hx, ?_⟩
  split
  ·rfl
  ·exact hx
theorem stk_out (h : StkOk nd st) (hd : d ∉ st) : stkTo nd st d false = st := by
 refine srt_ext (stkTo_srt ..) h.srt fun x => ?_
 rw [stkTo_mem]
 constructor
 ·rintro ⟨_, h2⟩
  split at h2
  ·cases h2
  ·exact h2
 ·intro hx
  refine ⟨h.mem hx, ?_⟩
  rw [if_neg (fun e : x = d => hd (e ▸ hx))]
  exact hx
theorem stk_ins (h : StkOk nd st) (hd : d ∉ st) (h0 : 0 ≤ d ∧ d < nd) : st.take (st.countP (· < d)) ++ d :: st.drop (st.countP (· < d)) = stkTo nd st d true := by
 obtain ⟨h1, h2⟩ := cnt_split (d := d) h.srt
 generalize st.countP (· < d) = i at *
 have hs := h.srt
 rw [← List.take_append_drop i st, List.pairwise_append] at hs
 have hm : ∀ x, x ∈ st ↔ x ∈ st.take i ∨ x ∈ st.drop i := fun x => by rw [← List.mem_append, List.take_append_drop]
 refine srt_ext ?_ (stkTo_srt ..) fun x => ?_
 ·rw [List.pairwise_append, List.pairwise_cons]
  refine ⟨hs.1, ⟨fun x hx => ?_, hs.2.1⟩, fun x hx y hy => ?_⟩
  ·have := h2 x hx
   have hne : x ≠ d := fun e => hd ((hm d).2 (.inr (e ▸ hx)))
   omega
  ·rcases List.mem_cons.1 hy with rfl | hy
   ·exact h1 x hx
   ·exact hs.2.2 x hx y hy
 ·rw [stkTo_mem, List.mem_append, List.mem_cons]
  by_cases e : x = d
  ·subst e; simp [h0]
  ·rw [if_neg e, hm]
   constructor
   ·rintro (hx | hx | hx)
    ·exact ⟨h.mem ((hm x).2 (.inl hx)), .inl hx⟩
    ·exact absurd hx e
    ·exact ⟨h.mem ((hm x).2 (.inr hx)), .inr hx⟩
   ·rintro ⟨_, hx | hx⟩
    ·exact .inl hx
    ·exact .inr (.inr hx)
theorem stk_del (h : StkOk nd st) (hd : d ∈ st) : st.countP (· < d) < st.length ∧ st.take (st.countP (· < d)) ++ st.drop (st.countP (· < d) + 1) = stkTo nd st d false := by
 obtain ⟨h1, h2⟩ := cnt_split (d := d) h.srt
 generalize st.countP (· < d) = i at *
 have hs := h.srt
 have hm : ∀ x, x ∈ st ↔ x ∈ st.take i ∨ x ∈ st.drop i := fun x => by rw [← List.mem_append, List.take_append_drop]
 have hdd : d ∈ st.drop i := by
  rcases (hm d).1 hd with h3 | h3
  ·have := h1 d h3; omega
  ·exact h3
 have hi : i < st.length := by
  rcases Nat.lt_or_ge i st.length with h3 | h3
  ·exact h3
  ·rw [List.drop_eq_nil_of_le h3] at hdd; cases hdd
 refine ⟨hi, ?_⟩
 have e0 : st.drop i = st[i] :: st.drop (i + 1) := List.drop_eq_getElem_cons hi
 rw [← List.take_append_drop i st, List.pairwise_append] at hs
 rw [e0] at hs hdd h2
 have hsd := List.pairwise_cons.1 hs.2.1
 have ed : st[i] = d := by
  rcases List.mem_cons.1 hdd with h3 | h3
  ·exact h3.symm
  ·have := hsd.1 d h3
   have := h2 st[i] (List.mem_cons_self ..)
   omega
 refine srt_ext ?_ (stkTo_srt ..) fun x => ?_
 ·rw [List.pairwise_append]
  exact ⟨hs.1, hsd.2, fun x hx y hy => hs.2.2 x hx y (List.mem_cons_of_mem _ hy)⟩
 ·rw [stkTo_mem, List.mem_append]
  have hmx : x ∈ st ↔ x ∈ st.take i ∨ x = d ∨ x ∈ st.drop (i + 1) := by rw [hm, e0, List.mem_cons, ed]
  constructor
  ·rintro (hx | hx)
   ·refine ⟨h.mem (hmx.2 (.inl hx)), ?_⟩
    rw [if_neg (fun e => by have := h1 x hx; omega)]
    exact hmx.2 (.inl hx)
   ·refine ⟨h.mem (hmx.2 (.inr (.inr hx))), ?_⟩
    rw [if_neg (fun e => by have := hsd.1 x hx; omega)]
    exact hmx.2 (.inr (.inr hx))
  ·rintro ⟨_, hx⟩
   split at hx
   ·cases hx
   ·next e =>
    rcases hmx.1 hx with h3 | h3 | h3
    ·exact .inl h3
    ·exact absurd h3 e
    ·exact .inr h3
end
theorem ScAt.stuck {w w1 : World} {B sb nn cn nd cd n c nl cl nt ct n' c' : Nat} {An Ad As Al At A' : Option Addr} {ns : List Nd} {ds : List Dv} {F : Fd} {k d p q : Int} {lk sk : Bool} {l' : List Int} (h : ScAt w B sb An nn cn ns Ad nd cd ds As n c Al nl cl At nt ct F k d p q lk sk) (hb : Below w.heap.size w w1) (hs : Sl w1 w1.heap.size 1 A' n' c' (intsV l')) (hA : ∀ b off, A' = some ⟨b, off, none⟩ → sb < b) (hn' : n' ≤ nt + 1) :
 ScTo w B sb An nn cn Ad nd cd k d p q lk sk ⟨F.s, F.ls, l'⟩ (w1.setCell ⟨sb, 4, none⟩ (.slice A' n' c')) := by
 have hl := h.b.lt
 have h1 := h.later hb
 refine ⟨grown_trans (grown_of_below hb _) (grown_cell _ _ _), As, n, c, Al, nl, cl, A', n', c', ?_, ?_, ?_, ?_, by have := h.bn; exact ⟨by omega, by omega, by omega⟩⟩
 ·have := h1.b.set 4 (.slice A' n' c')
  unfold scV at this ⊢
  exact this
 ·exact .of_sl (h1.hs.setCell (p := ⟨sb, 4, none⟩) h.bB _) (by have := h.bB; have := hb.size; simp; omega)
 ·exact .of_sl (h1.hl.setCell (p := ⟨sb, 4, none⟩) h.bB _) (by have := h.bB; have := hb.size; simp; omega)
 ·refine .of_new ?_ (fun b off e => Nat.le_of_lt (hA b off e))
  obtain ⟨g1, g2, g3, g4, g5⟩ := hs
  refine ⟨g1, g2, g3, g4, fun hn => ?_⟩
  obtain ⟨b, off, e, hbb, hc⟩ := g5 hn
  refine ⟨b, off, e, by simpa [World.setCell] using hbb, fun j u hu => ?_⟩
  exact (World.cell?_of_block (Below.heap_setCell w1 ⟨sb, 4, none⟩ _ b (by have := hA b off e; simp; omega))).trans (hc j u hu)
theorem sc_cells2 {w : World} {sb nn cn nd cd n c nl cl nt ct : Nat} {An Ad As Al At : Option Addr} {k d p q : Int} {lk sk : Bool} (h : Blk w sb 90 (scV An nn cn Ad nd cd As n c Al nl cl At nt ct k d p q lk sk)) :
 w.cell? ⟨sb, 4, none⟩ = some (.slice At nt ct) ∧ w.cell? ⟨sb, 6, none⟩ = some (.int .i64 d) := by
 unfold scV at h
 exact ⟨h.cell 4, h.cell 6⟩
theorem jam_any (B sb : Nat) (An Ad As Al At : Option Addr) (nn cn nd cd n c nl cl nt ct : Nat) (ns : List Nd) (ds : List Dv) (F : Fd) (k p q : Int) (d : Nat) (lk sk b : Bool) (w : World) (h : ScAt w B sb An nn cn ns Ad nd cd ds As n c Al nl cl At nt ct F k d p q lk sk) (hok : StkOk ds.length F.st) (hdn : d < ds.length) (hn : nt ≤ 1000000) :
 Calls Tryz.prog 77 #[.pointer (some ⟨sb, 0, none⟩), .bool b] w fun e w' => e = .returned (.tuple #[]) ∧ ScTo w B sb An nn cn Ad nd cd k d p q lk sk ⟨F.s, F.ls, stkTo ds.length F.st d b⟩ w' := by
 have HH := Lib.hid h
 have HLT : Hid (F.st.length = nt) := h.ht.len (fun _ => rfl) (by decide)
 obtain ⟨a4, a6⟩ := sc_cells2 h.b
 have HBS : Hid (∀ m, Calls Tryz.prog 46 #[.slice At nt ct, .int .i64 (d : Int)] (w.drewN m) fun e w' => e = .returned (.tuple #[.int .i64 ((F.st.countP (· < (d : Int)) : Nat) : Int), .bool (decide ((d : Int) ∈ F.st))]) ∧ ∃ q, w' = (w.drewN m).drewN q) := fun m => bsearch_any At nt ct B F.st d (w.drewN m) (h.ht.drewN m) hn hok.srt
 have HOK := Lib.hid hok
 clear h hok
 obtain ⟨i, hi⟩ : ∃ i, i = F.st.countP (· < (d : Int)) := ⟨_, rfl⟩
 rw [← hi] at HBS
 have HI := Lib.hid hi
 clear hi
 by_cases hm : (d : Int) ∈ F.st
 ·have HM := Lib.hid hm
  rw [decide_eq_true hm] at HBS
  clear hm
  rcases b with _ | _
  ·obtain ⟨hi, he⟩ := stk_del HOK.out HM.out
   rw [← HI.out] at hi he
   rw [HLT.out] at hi
   have HEQ := Lib.hid he
   clear he
   have e1 : IntKind.i64.wrap ((i : Int) + 1) = (i : Int) + 1 := IntWalk.i64_in _ (by omega)
   go_enter Tryz.func77, Tryz.ntmps77
   go_wp2_with fail
   go_quiet ((go_at_call 46; exact Calls.quiet_of (HBS.out _)))
   have HQ := Lib.hid (HH.out.later (below_drewN (Below.refl _ _) nq))
   have HG0 : Hid (Below w.heap.size w (w.drewN nq)) := below_drewN (Below.refl _ _) nq
   generalize World.drewN w nq = wq at *
   obtain ⟨b4, b6⟩ := sc_cells2 HQ.out.b
   clear a4 a6 HBS
   go_wp2_with fail
   refine (clone_any At nt ct B F.st wq HQ.out.ht HQ.out.le hn).mono ?_
   rintro e w1 ⟨A1, c1, rfl, hO, hb1⟩
   rw [HLT.out] at hO ⊢
   have HO := Lib.hid hO.out
   have HB1 : Hid (Below w.heap.size w w1) := HG0.out.trans (hb1.out.mono HG0.out.size)
   clear hO hb1 b4 b6
   go_wp2_with fail
   refine (del_any A1 nt c1 i wq.heap.size F.st w1 HO.out hi).mono ?_
   rintro e w2 ⟨rfl, hS2, hb2⟩
   have HB2 : Hid (Below w.heap.size w w2) := HB1.out.trans (hb2.out.mono HG0.out.size)
   have HS2 := Lib.hid hS2.out
   obtain ⟨b4, -⟩ := sc_cells2 (HH.out.later HB2.out).b
   have z4 := (HH.out.later HB2.out).b.frozen 4
   clear hS2 hb2
   go_wp2_with fail
   go_end0
   refine ⟨rfl, ?_⟩
   rw [← HEQ.out]
   exact HH.out.stuck HB2.out HS2.out (fun b off e => by have := (HO.out.lt b (by rw [e]; rfl)).1; have := HH.out.b.lt; have := HG0.out.size; omega) (by omega)
  ·go_enter Tryz.func77, Tryz.ntmps77
   go_wp2_with fail
   go_quiet ((go_at_call 46; exact Calls.quiet_of (HBS.out _)))
   go_wp2_with fail
   go_end0
   refine ⟨rfl, ?_⟩
   rw [stk_in HOK.out HM.out]
   exact HH.out.same.drewN _
 ·have HM := Lib.hid hm
  rw [decide_eq_false hm] at HBS
  clear hm
  rcases b with _ | _
  ·go_enter Tryz.func77, Tryz.ntmps77
   go_wp2_with fail
   go_quiet ((go_at_call 46; exact Calls.quiet_of (HBS.out _)))
   go_wp2_with fail
   go_end0
   refine ⟨rfl, ?_⟩
   rw [stk_out HOK.out HM.out]
   exact HH.out.same.drewN _
  ·have he := stk_ins HOK.out HM.out ⟨by omega, by omega⟩
   rw [← HI.out] at he
   have HEQ := Lib.hid he
   have HIL : Hid (i ≤ nt) := by unfold Hid; rw [HI.out, ← HLT.out]; exact List.countP_le_length
   clear he
   go_enter Tryz.func77, Tryz.ntmps77
   go_wp2_with fail
   go_quiet ((go_at_call 46; exact Calls.quiet_of (HBS.out _)))
   have HQ := Lib.hid (HH.out.later (below_drewN (Below.refl _ _) nq))
   have HG0 : Hid (Below w.heap.size w (w.drewN nq)) := below_drewN (Below.refl _ _) nq
   generalize World.drewN w nq = wq at *
   have HQD := Lib.hid (HQ.out.later (Below.refl _ _).drew)
   obtain ⟨b4, b6⟩ := sc_cells2 HQ.out.b
   clear a4 a6 HBS
   go_wp2_with fail
   refine wp_region_J (S := fun W' => W'.cell? ⟨sb, 4, none⟩ = some (.slice At nt ct) ∧ W'.cell? ⟨sb, 6, none⟩ = some (.int .i64 (d : Int))) (J := [18]) (by kernel_rfl) ?_ (fun hHeld => ?_)
   ·exact ⟨b4, b6⟩
   try dsimp only at hHeld
   refine tk 0 26 (mf 19 1) hHeld ?_
   refine tk 1 27 (mf 19 2) hHeld ?_
   refine tk 2 28 (mf 19 3) hHeld ?_
   refine tk 3 29 (mf 19 4) hHeld ?_
   refine tk 4 30 (mf 19 5) hHeld ?_
   refine tk 5 31 (mf 19 6) hHeld ?_
   refine tk 7 33 #[tt, tt, tt, tt, tt, tt, ff, tt, ff, ff, ff, ff, ff, ff, ff, ff, ff, ff, ff] hHeld ?_
   refine tk 8 34 #[tt, tt, tt, tt, tt, tt, ff, tt, tt, ff, ff, ff, ff, ff, ff, ff, ff, ff, ff] hHeld ?_
   refine tk 9 35 #[tt, tt, tt, tt, tt, tt, ff, tt, tt, tt, ff, ff, ff, ff, ff, ff, ff, ff, ff] hHeld ?_
   refine tk 10 36 #[tt, tt, tt, tt, tt, tt, ff, tt, tt, tt, tt, ff, ff, ff, ff, ff, ff, ff, ff] hHeld ?_
   refine tk 11 37 #[tt, tt, tt, tt, tt, tt, ff, tt, tt, tt, tt, tt, ff, ff, ff, ff, ff, ff, ff] hHeld ?_
   refine tk 12 38 #[tt, tt, tt, tt, tt, tt, ff, tt, tt, tt, tt, tt, tt, ff, ff, ff, ff, ff, ff] hHeld ?_
   refine wpAnyJ_twoL (i := 6) (k := 13) (mf 19 13) #[tt, tt, tt, tt, tt, tt, ff, tt, tt, tt, tt, tt, tt, tt, ff, ff, ff, ff, ff] (by kernel_rfl) (by kernel_rfl) (by kernel_rfl) rfl rfl (fun K hK => ?_) (fun K hK => ?_)
   ·(go_simp; refine (clone_any At nt ct B F.st wq.drew (HQD.out).ht HQD.out.le hn).mono ?_; rintro e wx ⟨A1, c1, rfl, hO, hb'⟩; rw [HLT.out] at hO ⊢; go_simp)
    refine hK.out _ _ (fun _ => ?_) (fun hHeld' => ?_)
    ·exact sc_cells2 (HQD.out.later hb'.out).b
    replace hHeld := hHeld' rfl
    clear hHeld' hK K
    try dsimp only at hHeld
    have HB1 : Hid (Below w.heap.size w wx) := HG0.out.drew.trans (hb'.out.mono HG0.out.drew.size)
    have HX1 := Lib.hid (HQD.out.later hb'.out)
    have hsx : wq.drew.heap.size ≤ wx.heap.size := hb'.out.size
    have HO : Hid (IntsO (wx.alloc (.cells #[.int .i64 (d : Int)] 3)) wq.drew.heap.size A1 nt c1 F.st) := World.ownsRow.alloc hO.out _
    have HV : Hid (Blk (wx.alloc (.cells #[.int .i64 (d : Int)] 3)) wx.heap.size 3 #[.int .i64 (d : Int)]) := Blk.new _ _ _
    have HNE : Hid (∀ b, A1 = some ⟨b, 0, none⟩ → b ≠ wx.heap.size) := fun b e => by have := (hO.out.lt b (by rw [e]; rfl)).2; omega
    clear hO hb'
    refine wpAnyJ_oneL (k := 13) (mf 19 14) (by kernel_rfl) (by kernel_rfl) rfl (fun K hK => ?_)
    go_simp
    refine hK.out _ _ (fun _ => ?_) (fun hHeld' => ?_)
    ·exact sc_cells2 (HX1.out.later ((Below.refl _ _).alloc (Nat.le_refl _) _)).b
    replace hHeld := hHeld' rfl
    clear hHeld' hK K
    try dsimp only at hHeld
    have HBASE : Hid (wq.drew.heap.size ≤ (wx.alloc (.cells #[.int .i64 (d : Int)] 3)).heap.size) := by unfold Hid; rw [World.size_alloc]; omega
    have HBW : Hid (Below w.heap.size w (wx.alloc (.cells #[.int .i64 (d : Int)] 3))) := HB1.out.alloc HB1.out.size _
    have HBB : Hid (w.heap.size ≤ wq.drew.heap.size) := HG0.out.drew.size
    refine wpAnyJ_oneL (k := 14) (mf 19 15) (by kernel_rfl) (by kernel_rfl) rfl (fun K hK => ?_)
    (go_simp; refine (ins_any A1 nt c1 i wq.drew.heap.size wx.heap.size F.st d _ HO.out HV.out HBASE.out HNE.out HIL.out hn).mono ?_; rintro e wy ⟨A', c', rfl, hS', hA', hby⟩; go_simp)
    refine hK.out _ _ (fun _ => ?_) (fun hHeld' => ?_)
    ·exact sc_cells2 (HH.out.later (HBW.out.trans (hby.out.mono HBB.out))).b
    replace hHeld := hHeld' rfl
    clear hHeld' hK K
    try dsimp only at hHeld
    have HSY := Lib.hid hS'.out; have HAY := Lib.hid hA'.out
    have HBY : Hid (Below w.heap.size w wy) := HBW.out.trans (hby.out.mono HBB.out)
    have z4 := (HH.out.later HBY.out).b.frozen 4; have y4 := (sc_cells2 (HH.out.later HBY.out).b).1
    clear hS' hA' hby
    refine tk 15 41 (mf 19 16) hHeld ?_
    refine tk 16 42 (mf 19 17) hHeld ?_
    refine tk 17 43 (mf 19 18) hHeld ?_
    refine wpAnyJ_oneL (k := 18) (mf 19 19) (by kernel_rfl) (by kernel_rfl) rfl (fun K hK => ?_)
    go_simp
    refine hK.out _ _ (fun h => by cases h) (fun _ => ?_)
    try clear hHeld
    clear hK K
    refine wpAnyJ_done (by kernel_rfl) ?_ _
    go_wp2_with fail
    go_end0
    refine ⟨rfl, ?_⟩
    rw [← HEQ.out]
    exact HH.out.stuck HBY.out HSY.out (fun b off e => by have := HAY.out b off e; have := HH.out.b.lt; have := HBB.out; omega) (Nat.le_refl _)
   ·go_simp
    refine hK.out _ _ (fun _ => ?_) (fun hHeld' => ?_)
    ·exact sc_cells2 (HQD.out.later ((Below.refl _ _).alloc (Nat.le_refl _) _)).b
    replace hHeld := hHeld' rfl
    clear hHeld' hK K
    try dsimp only at hHeld
    have HQE := Lib.hid (HQD.out.later ((Below.refl _ _).alloc (Nat.le_refl _) (.cells #[.int .i64 (d : Int)] 3)))
    have HB1 : Hid (Below w.heap.size w (wq.drew.alloc (.cells #[.int .i64 (d : Int)] 3))) := HG0.out.drew.alloc HG0.out.drew.size _
    refine wpAnyJ_oneL (k := 6) (mf 19 14) (by kernel_rfl) (by kernel_rfl) rfl (fun K hK => ?_)
    (go_simp; refine (clone_any At nt ct B F.st (wq.drew.alloc (.cells #[.int .i64 (d : Int)] 3)) (HQE.out).ht HQE.out.le hn).mono ?_; rintro e wx ⟨A1, c1, rfl, hO, hb'⟩; rw [HLT.out] at hO ⊢; go_simp)
    refine hK.out _ _ (fun _ => ?_) (fun hHeld' => ?_)
    ·exact sc_cells2 (HQE.out.later hb'.out).b
    replace hHeld := hHeld' rfl
    clear hHeld' hK K
    try dsimp only at hHeld
    have HV : Hid (Blk wx wq.drew.heap.size 3 #[.int .i64 (d : Int)]) := (Blk.new wq.drew 3 _).below hb'.out (by rw [World.size_alloc]; omega)
    have HO := Lib.hid hO.out
    have HNE : Hid (∀ b, A1 = some ⟨b, 0, none⟩ → b ≠ wq.drew.heap.size) := fun b e => by have := (hO.out.lt b (by rw [e]; rfl)).1; rw [World.size_alloc] at this; omega
    have HBASE : Hid ((wq.drew.alloc (.cells #[.int .i64 (d : Int)] 3)).heap.size ≤ wx.heap.size) := hb'.out.size
    have HBW : Hid (Below w.heap.size w wx) := HB1.out.trans (hb'.out.mono HB1.out.size)
    have HBB : Hid (w.heap.size ≤ (wq.drew.alloc (.cells #[.int .i64 (d : Int)] 3)).heap.size) := HB1.out.size
    clear hO hb'
    refine wpAnyJ_oneL (k := 14) (mf 19 15) (by kernel_rfl) (by kernel_rfl) rfl (fun K hK => ?_)
    (go_simp; refine (ins_any A1 nt c1 i (wq.drew.alloc (.cells #[.int .i64 (d : Int)] 3)).heap.size wq.drew.heap.size F.st d _ HO.out HV.out HBASE.out HNE.out HIL.out hn).mono ?_; rintro e wy ⟨A', c', rfl, hS', hA', hby⟩; go_simp)
    refine hK.out _ _ (fun _ => ?_) (fun hHeld' => ?_)
    ·exact sc_cells2 (HH.out.later (HBW.out.trans (hby.out.mono HBB.out))).b
    replace hHeld := hHeld' rfl
    clear hHeld' hK K
    try dsimp only at hHeld
    have HSY := Lib.hid hS'.out; have HAY := Lib.hid hA'.out
    have HBY : Hid (Below w.heap.size w wy) := HBW.out.trans (hby.out.mono HBB.out)
    have z4 := (HH.out.later HBY.out).b.frozen 4; have y4 := (sc_cells2 (HH.out.later HBY.out).b).1
    clear hS' hA' hby
    refine tk 15 41 (mf 19 16) hHeld ?_
    refine tk 16 42 (mf 19 17) hHeld ?_
    refine tk 17 43 (mf 19 18) hHeld ?_
    refine wpAnyJ_oneL (k := 18) (mf 19 19) (by kernel_rfl) (by kernel_rfl) rfl (fun K hK => ?_)
    go_simp
    refine hK.out _ _ (fun h => by cases h) (fun _ => ?_)
    try clear hHeld
    clear hK K
    refine wpAnyJ_done (by kernel_rfl) ?_ _
    go_wp2_with fail
    go_end0
    refine ⟨rfl, ?_⟩
    rw [← HEQ.out]
    exact HH.out.stuck HBY.out HSY.out (fun b off e => by have := HAY.out b off e; have := HH.out.b.lt; have := HBB.out; omega) (Nat.le_refl _)
end Go.Proofs.YtepicjpdhpojnaaGreatDoor
namespace Go.Proofs.YtepicjpdhpojnaaGreatDoor
open Go.RowKit
section
variable {ns : List Nd} {ds : List Dv} {F : Fd} {d p q : Int} {x : Dv}
theorem ev1 : evErr ns ds F 1 d p q = opErr (kindOf ds d) p (lckL F.ls d).isSome := rfl
theorem ev3 : evErr ns ds F 3 d p q = rnErr (kindOf ds d) p := rfl
theorem to1 {d : Nat} : evTo ds F 1 d p q = mvF F d p ((lckL F.ls d).isSome || decide ((d : Int) ∈ F.st)) := rfl
theorem to2 {d : Nat} : evTo ds F 2 d p q = mvF F d 1 ((lckL F.ls d).isSome || decide ((d : Int) ∈ F.st)) := rfl
theorem to3 {d : Nat} : evTo ds F 3 d p q = mvF F d p ((lckL F.ls d).isSome || decide ((d : Int) ∈ F.st)) := rfl
end
theorem sc_from {w wq w' : World} {B sb nn cn nd cd : Nat} {An Ad : Option Addr} {k d p q : Int} {lk sk : Bool} {F' : Fd} (hb : Below w.heap.size w wq) (h : ScTo wq B sb An nn cn Ad nd cd k d p q lk sk F' w') : ScTo w B sb An nn cn Ad nd cd k d p q lk sk F' w' := by
 obtain ⟨hg, r⟩ := h
 exact ⟨grown_trans (grown_of_below hb _) hg.out, r⟩
theorem happen_any (B sb : Nat) (An Ad As Al At : Option Addr) (nn cn nd cd n c nl cl nt ct : Nat) (ns : List Nd) (ds : List Dv) (F : Fd) (k p q : Int) (d : Nat) (lk sk : Bool) (w : World) (h : ScAt w B sb An nn cn ns Ad nd cd ds As n c Al nl cl At nt ct F k d p q lk sk)
 (hlk : lk = (lckL F.ls d).isSome) (hsk : sk = decide ((d : Int) ∈ F.st)) (h0 : fdErr ns ds F = 0) (hdn : d < ds.length) (hn : n ≤ 1000000) (ht : nt ≤ 1000000) :
 Calls Tryz.prog 47 #[.pointer (some ⟨sb, 0, none⟩)] w (ScPost w B sb An nn cn Ad nd cd k d p q lk sk (evErr ns ds F k d p q) (evTo ds F k d p q)) := by
 have hnl : F.ls.length = nl := h.hl.len (fun _ => rfl) (by decide)
 subst hnl
 obtain ⟨hse, hle, -, hst⟩ := fdErr_zero h0
 have hdl : ds.length = nd := h.hd.len (fun _ => rfl) (by decide)
 have hsl : F.s.length = n := h.hs.len (fun _ => rfl) (by decide)
 have hdd : d < n := by have := (stateErr_len hse).2.1; omega
 have hnd : d < nd := by omega
 obtain ⟨bd, off, x, hAd, hbd, hx, hc⟩ := h.hd.at (k := d) (fun _ => rfl) (by decide) hnd
 subst hAd
 have hkd : kindOf ds (d : Int) = x.kind := kindOf_at hx
 obtain ⟨nm, kd, xa, xb, xc⟩ := x
 have c1 : w.cell? ⟨bd, off + d * 5 + 1, none⟩ = some (.int .i64 kd) := hc 1 _ rfl
 have hndm := h.hd.le
 have HKD : Hid (kindOf ds (d : Int) = kd) := hkd
 have HLK := Lib.hid hlk; have HSK := Lib.hid hsk; have HLE := Lib.hid hle; have HST := Lib.hid hst; have HDL := Lib.hid hdl
 have HH := Lib.hid h
 have hb := h.b
 unfold scV at hb
 have a1 : w.cell? ⟨sb, 1, none⟩ = some (.slice (some ⟨bd, off, none⟩) nd cd) := hb.cell 1
 have a5 : w.cell? ⟨sb, 5, none⟩ = some (.int .i64 k) := hb.cell 5
 have a6 : w.cell? ⟨sb, 6, none⟩ = some (.int .i64 (d : Int)) := hb.cell 6
 have HGO : Hid (ScAt w B sb An nn cn ns (some ⟨bd, off, none⟩) nd cd ds As n c Al F.ls.length cl At nt ct F k d p q lk sk) := h
 clear hb h hc hx hkd hlk hsk h0 hse hle hst hdl hsl
 by_cases h1 : k = 1
 ·subst h1
  go_enter Tryz.func47, Tryz.ntmps47
  go_wp2_with fail
  go_quiet (fail)
  have HQ := Lib.hid (HH.out.later (below_drewN (Below.refl _ _) nq))
  have HG0 : Hid (Below w.heap.size w (w.drewN nq)) := below_drewN (Below.refl _ _) nq
  generalize World.drewN w nq = wq at *
  have r5 : wq.cell? ⟨sb, 5, none⟩ = some (.int .i64 1) := by have := HQ.out.b; unfold scV at this; exact this.cell 5
  clear a1 a5 a6 c1
  go_wp2_with fail
  refine (operate_any B sb An (some ⟨bd, off, none⟩) As Al At nn cn nd cd n c F.ls.length cl nt ct ns ds F 1 p q kd d lk sk wq HQ.out hdd hn).mono ?_
  rintro e w1 ⟨rfl, hT⟩
  have HT := Lib.hid hT
  clear hT HQ
  go_wp2_with fail
  go_ret
  refine ⟨?_, _, sc_from HG0.out HT.out, fun hE => ?_⟩
  ·rw [ev1, HKD.out, ← HLK.out]; rfl
  ·rw [ev1, HKD.out, ← HLK.out] at hE
   rw [to1, hE, ← HLK.out, ← HSK.out]; rfl
 have q1 : (k == 1) = false := by simpa using h1
 by_cases h2 : k = 2
 ·subst h2
  by_cases hk2 : kd = 2
  ·subst hk2
   go_enter Tryz.func47, Tryz.ntmps47
   go_wp2_with fail
   go_quiet (fail)
   have HQ := Lib.hid (HH.out.later (below_drewN (Below.refl _ _) nq))
   have HG0 : Hid (Below w.heap.size w (w.drewN nq)) := below_drewN (Below.refl _ _) nq
   generalize World.drewN w nq = wq at *
   have r5 : wq.cell? ⟨sb, 5, none⟩ = some (.int .i64 2) := by have := HQ.out.b; unfold scV at this; exact this.cell 5
   clear a1 a5 a6 c1
   go_wp2_with fail
   refine (move_any B sb An (some ⟨bd, off, none⟩) As Al At nn cn nd cd n c F.ls.length cl nt ct ns ds F 2 p q 1 d lk sk wq HQ.out hdd hn).mono ?_
   rintro e w1 ⟨rfl, hT⟩
   have HT := Lib.hid hT
   clear hT HQ
   go_wp2_with fail
   go_ret
   refine ⟨?_, _, sc_from HG0.out HT.out, fun _ => ?_⟩
   ·unfold evErr; rw [if_neg (by decide), if_pos rfl, if_pos HKD.out]; rfl
   ·rw [to2, ← HLK.out, ← HSK.out]
  ·have qk : (kd != 2) = true := by simpa using hk2
   have HE : Hid (evErr ns ds F 2 d p q = 6) := by unfold Hid evErr; rw [if_neg (by decide), if_pos rfl, if_neg (by rw [HKD.out]; exact hk2)]
   clear hk2
   go_enter Tryz.func47, Tryz.ntmps47
   go_wp2_with fail
   go_quiet (fail)
   have HQ := Lib.hid (HH.out.later (below_drewN (Below.refl _ _) nq))
   have HG0 : Hid (Below w.heap.size w (w.drewN nq)) := below_drewN (Below.refl _ _) nq
   generalize World.drewN w nq = wq at *
   have r5 : wq.cell? ⟨sb, 5, none⟩ = some (.int .i64 2) := by have := HQ.out.b; unfold scV at this; exact this.cell 5
   clear a1 a5 a6 c1
   go_wp2_with fail
   go_ret
   exact ⟨by rw [HE.out]; rfl, F, sc_from HG0.out HQ.out.same, fun hE => by rw [HE.out] at hE; cases hE⟩
 have q2 : (k == 2) = false := by simpa using h2
 by_cases h3 : k = 3
 ·subst h3
  go_enter Tryz.func47, Tryz.ntmps47
  go_wp2_with fail
  go_quiet (fail)
  have HQ := Lib.hid (HH.out.later (below_drewN (Below.refl _ _) nq))
  have HG0 : Hid (Below w.heap.size w (w.drewN nq)) := below_drewN (Below.refl _ _) nq
  generalize World.drewN w nq = wq at *
  have r5 : wq.cell? ⟨sb, 5, none⟩ = some (.int .i64 3) := by have := HQ.out.b; unfold scV at this; exact this.cell 5
  clear a1 a5 a6 c1
  go_wp2_with fail
  refine (run_any B sb An (some ⟨bd, off, none⟩) As Al At nn cn nd cd n c F.ls.length cl nt ct ns ds F 3 p q kd d lk sk wq HQ.out hdd hn).mono ?_
  rintro e w1 ⟨rfl, hT⟩
  have HT := Lib.hid hT
  clear hT HQ
  go_wp2_with fail
  go_ret
  refine ⟨?_, _, sc_from HG0.out HT.out, fun hE => ?_⟩
  ·rw [ev3, HKD.out]; rfl
  ·rw [ev3, HKD.out] at hE
   rw [to3, hE, ← HLK.out, ← HSK.out]; rfl
 have q3 : (k == 3) = false := by simpa using h3
 by_cases h4 : k = 4
 ·subst h4
  go_enter Tryz.func47, Tryz.ntmps47
  go_wp2_with fail
  go_quiet (fail)
  have HQ := Lib.hid (HH.out.later (below_drewN (Below.refl _ _) nq))
  have HG0 : Hid (Below w.heap.size w (w.drewN nq)) := below_drewN (Below.refl _ _) nq
  generalize World.drewN w nq = wq at *
  have r5 : wq.cell? ⟨sb, 5, none⟩ = some (.int .i64 4) := by have := HQ.out.b; unfold scV at this; exact this.cell 5
  clear a1 a5 a6 c1
  go_wp2_with fail
  refine (jam_any B sb An (some ⟨bd, off, none⟩) As Al At nn cn nd cd n c F.ls.length cl nt ct ns ds F 4 p q d lk sk true wq HQ.out HST.out hdn ht).mono ?_
  rintro e w1 ⟨rfl, hT⟩
  have HT := Lib.hid hT
  clear hT HQ
  go_wp2_with fail
  go_ret
  exact ⟨rfl, _, sc_from HG0.out HT.out, fun _ => rfl⟩
 have q4 : (k == 4) = false := by simpa using h4
 by_cases h5 : k = 5
 ·subst h5
  go_enter Tryz.func47, Tryz.ntmps47
  go_wp2_with fail
  go_quiet (fail)
  have HQ := Lib.hid (HH.out.later (below_drewN (Below.refl _ _) nq))
  have HG0 : Hid (Below w.heap.size w (w.drewN nq)) := below_drewN (Below.refl _ _) nq
  generalize World.drewN w nq = wq at *
  have r5 : wq.cell? ⟨sb, 5, none⟩ = some (.int .i64 5) := by have := HQ.out.b; unfold scV at this; exact this.cell 5
  clear a1 a5 a6 c1
  go_wp2_with fail
  refine (jam_any B sb An (some ⟨bd, off, none⟩) As Al At nn cn nd cd n c F.ls.length cl nt ct ns ds F 5 p q d lk sk false wq HQ.out HST.out hdn ht).mono ?_
  rintro e w1 ⟨rfl, hT⟩
  have HT := Lib.hid hT
  clear hT HQ
  go_wp2_with fail
  go_ret
  exact ⟨rfl, _, sc_from HG0.out HT.out, fun _ => rfl⟩
 have q5 : (k == 5) = false := by simpa using h5
 by_cases h6 : k = 6
 ·subst h6
  go_enter Tryz.func47, Tryz.ntmps47
  go_wp2_with fail
  go_quiet (fail)
  have HQ := Lib.hid (HH.out.later (below_drewN (Below.refl _ _) nq))
  have HG0 : Hid (Below w.heap.size w (w.drewN nq)) := below_drewN (Below.refl _ _) nq
  generalize World.drewN w nq = wq at *
  have r5 : wq.cell? ⟨sb, 5, none⟩ = some (.int .i64 6) := by have := HQ.out.b; unfold scV at this; exact this.cell 5
  clear a1 a5 a6 c1
  go_wp2_with fail
  refine (lock_any B sb An (some ⟨bd, off, none⟩) As Al At nn cn nd cd n c F.ls.length cl nt ct ns ds F 6 p q d lk sk wq HQ.out hdd).mono ?_
  rintro e w1 ⟨rfl, F', hT, hF⟩
  obtain ⟨E, hE⟩ : ∃ E, E = (if posB p = true ∧ F.s.getD d 0 = p then addErr ns ds F.ls ⟨(d : Int), p, q⟩ else 10) := ⟨_, rfl⟩
  rw [← hE] at hF ⊢
  have HT := Lib.hid hT; have HF := Lib.hid hF; have HE := Lib.hid hE
  clear hT hF hE HQ
  go_wp2_with fail
  go_ret
  exact ⟨by rw [HE.out]; rfl, F', sc_from HG0.out HT.out, fun h0 => HF.out (by rw [HE.out]; exact h0)⟩
 have q6 : (k == 6) = false := by simpa using h6
 by_cases h7 : k = 7
 ·subst h7
  obtain ⟨E, hE⟩ : ∃ E, E = (if idxL (d : Int) q F.ls = none then (15 : Int) else 0) := ⟨_, rfl⟩
  have HE := Lib.hid hE
  clear hE
  go_enter Tryz.func47, Tryz.ntmps47
  go_wp2_with fail
  go_quiet (fail)
  have HQ := Lib.hid (HH.out.later (below_drewN (Below.refl _ _) nq))
  have HG0 : Hid (Below w.heap.size w (w.drewN nq)) := below_drewN (Below.refl _ _) nq
  generalize World.drewN w nq = wq at *
  have r5 : wq.cell? ⟨sb, 5, none⟩ = some (.int .i64 7) := by have := HQ.out.b; unfold scV at this; exact this.cell 5
  clear a1 a5 a6 c1
  go_wp2_with fail
  have HQD := Lib.hid (HQ.out.later (Below.refl _ _).drew)
  refine wp_region_K (S := fun W' => W'.cell? ⟨sb, 0, none⟩ = some (.slice An nn cn) ∧ W'.cell? ⟨sb, 1, none⟩ = some (.slice (some ⟨bd, off, none⟩) nd cd) ∧ W'.cell? ⟨sb, 3, none⟩ = some (.slice Al F.ls.length cl) ∧ W'.cell? ⟨sb, 6, none⟩ = some (.int .i64 (d : Int)) ∧ W'.cell? ⟨sb, 7, none⟩ = some (.int .i64 p) ∧ W'.cell? ⟨sb, 8, none⟩ = some (.int .i64 q)) (J := [27]) (by kernel_rfl) ?_ (fun hHeld => ?_)
  ·exact sc_cells HQ.out.b
  try dsimp only at hHeld
  refine wpAnyK_takeTL (i := 0) (d := some 56) (v := ?_) #[true, false, false, false, false, false, false, false, false, false, false, false, false, false, false, false, false, false, false, false, false, false, false, false, false, false, false, false, false] (by kernel_rfl) rfl rfl (by kernel_rfl) (by kernel_rfl) (by kernel_rfl) (by kernel_rfl) (by kernel_rfl) (fun _ _ _ h => h) (Or.inl ⟨by rfl, ?_⟩) hHeld ?_
  rotate_left
  ·(intro w hSw; (try dsimp only at hSw);  go_simp; try with_reducible rfl)
  try simp only [Act.put, sA, s0, s1]
  refine wpAnyK_takeTL (i := 1) (d := some 57) (v := ?_) #[true, true, false, false, false, false, false, false, false, false, false, false, false, false, false, false, false, false, false, false, false, false, false, false, false, false, false, false, false] (by kernel_rfl) rfl rfl (by kernel_rfl) (by kernel_rfl) (by kernel_rfl) (by kernel_rfl) (by kernel_rfl) (fun _ _ _ h => h) (Or.inl ⟨by rfl, ?_⟩) hHeld ?_
  rotate_left
  ·(intro w hSw; (try dsimp only at hSw);  go_simp; try with_reducible rfl)
  try simp only [Act.put, sA, s0, s1]
  refine wpAnyK_takeTL (i := 2) (d := some 58) (v := ?_) #[true, true, true, false, false, false, false, false, false, false, false, false, false, false, false, false, false, false, false, false, false, false, false, false, false, false, false, false, false] (by kernel_rfl) rfl rfl (by kernel_rfl) (by kernel_rfl) (by kernel_rfl) (by kernel_rfl) (by kernel_rfl) (fun _ _ _ h => h) (Or.inl ⟨by rfl, ?_⟩) hHeld ?_
  rotate_left
  ·(intro w hSw; (try dsimp only at hSw);  go_simp; try with_reducible rfl)
  try simp only [Act.put, sA, s0, s1]
  refine wpAnyK_takeTL (i := 3) (d := some 59) (v := ?_) #[true, true, true, true, false, false, false, false, false, false, false, false, false, false, false, false, false, false, false, false, false, false, false, false, false, false, false, false, false] (by kernel_rfl) rfl rfl (by kernel_rfl) (by kernel_rfl) (by kernel_rfl) (by kernel_rfl) (by kernel_rfl) (fun _ _ _ h => h) (Or.inl ⟨by rfl, ?_⟩) hHeld ?_
  rotate_left
  ·(intro w hSw; (try dsimp only at hSw);  go_simp; try with_reducible rfl)
  try simp only [Act.put, sA, s0, s1]
  refine wpAnyK_takeL (i := 4) (d := some 60) (v := ?_) #[true, true, true, true, true, false, false, false, false, false, false, false, false, false, false, false, false, false, false, false, false, false, false, false, false, false, false, false, false] (by kernel_rfl) rfl rfl (by kernel_rfl) (by kernel_rfl) (by kernel_rfl) (by kernel_rfl) (by kernel_rfl) (by kernel_rfl) (fun _ _ _ h => h) (Or.inl ⟨by rfl, ?_⟩) hHeld ?_
  rotate_left
  ·(intro w hSw; (try dsimp only at hSw);  go_simp; try with_reducible rfl)
  try simp only [Act.put, sA, s0, s1]
  refine wpAnyK_takeTL (i := 5) (d := some 61) (v := ?_) #[true, true, true, true, true, true, false, false, false, false, false, false, false, false, false, false, false, false, false, false, false, false, false, false, false, false, false, false, false] (by kernel_rfl) rfl rfl (by kernel_rfl) (by kernel_rfl) (by kernel_rfl) (by kernel_rfl) (by kernel_rfl) (fun _ _ _ h => h) (Or.inl ⟨by rfl, ?_⟩) hHeld ?_
  rotate_left
  ·(intro w hSw; (try dsimp only at hSw);  go_simp; try with_reducible rfl)
  try simp only [Act.put, sA, s0, s1]
  refine wpAnyK_takeTL (i := 6) (d := some 62) (v := ?_) #[true, true, true, true, true, true, true, false, false, false, false, false, false, false, false, false, false, false, false, false, false, false, false, false, false, false, false, false, false] (by kernel_rfl) rfl rfl (by kernel_rfl) (by kernel_rfl) (by kernel_rfl) (by kernel_rfl) (by kernel_rfl) (fun _ _ _ h => h) (Or.inl ⟨by rfl, ?_⟩) hHeld ?_
  rotate_left
  ·(intro w hSw; (try dsimp only at hSw);  go_simp; try with_reducible rfl)
  try simp only [Act.put, sA, s0, s1]
  refine wpAnyK_takeTL (i := 7) (d := some 63) (v := ?_) #[true, true, true, true, true, true, true, true, false, false, false, false, false, false, false, false, false, false, false, false, false, false, false, false, false, false, false, false, false] (by kernel_rfl) rfl rfl (by kernel_rfl) (by kernel_rfl) (by kernel_rfl) (by kernel_rfl) (by kernel_rfl) (fun _ _ _ h => h) (Or.inl ⟨by rfl, ?_⟩) hHeld ?_
  rotate_left
  ·(intro w hSw; (try dsimp only at hSw);  go_simp; try with_reducible rfl)
  try simp only [Act.put, sA, s0, s1]
  refine wpAnyK_takeTL (i := 8) (d := some 64) (v := ?_) #[true, true, true, true, true, true, true, true, true, false, false, false, false, false, false, false, false, false, false, false, false, false, false, false, false, false, false, false, false] (by kernel_rfl) rfl rfl (by kernel_rfl) (by kernel_rfl) (by kernel_rfl) (by kernel_rfl) (by kernel_rfl) (fun _ _ _ h => h) (Or.inl ⟨by rfl, ?_⟩) hHeld ?_
  rotate_left
  ·(intro w hSw; (try dsimp only at hSw);  go_simp; try with_reducible rfl)
  try simp only [Act.put, sA, s0, s1]
  refine wpAnyK_takeL (i := 9) (d := some 65) (v := ?_) #[true, true, true, true, true, true, true, true, true, true, false, false, false, false, false, false, false, false, false, false, false, false, false, false, false, false, false, false, false] (by kernel_rfl) rfl rfl (by kernel_rfl) (by kernel_rfl) (by kernel_rfl) (by kernel_rfl) (by kernel_rfl) (by kernel_rfl) (fun _ _ _ h => h) (Or.inl ⟨by rfl, ?_⟩) hHeld ?_
  rotate_left
  ·(intro w hSw; (try dsimp only at hSw);  go_simp; try with_reducible rfl)
  try simp only [Act.put, sA, s0, s1]
  refine wpAnyK_takeTL (i := 10) (d := some 66) (v := ?_) #[true, true, true, true, true, true, true, true, true, true, true, false, false, false, false, false, false, false, false, false, false, false, false, false, false, false, false, false, false] (by kernel_rfl) rfl rfl (by kernel_rfl) (by kernel_rfl) (by kernel_rfl) (by kernel_rfl) (by kernel_rfl) (fun _ _ _ h => h) (Or.inl ⟨by rfl, ?_⟩) hHeld ?_
  rotate_left
  ·(intro w hSw; (try dsimp only at hSw);  go_simp; try with_reducible rfl)
  try simp only [Act.put, sA, s0, s1]
  refine wpAnyK_takeTL (i := 11) (d := some 67) (v := ?_) #[true, true, true, true, true, true, true, true, true, true, true, true, false, false, false, false, false, false, false, false, false, false, false, false, false, false, false, false, false] (by kernel_rfl) rfl rfl (by kernel_rfl) (by kernel_rfl) (by kernel_rfl) (by kernel_rfl) (by kernel_rfl) (fun _ _ _ h => h) (Or.inl ⟨by rfl, ?_⟩) hHeld ?_
  rotate_left
  ·(intro w hSw; (try dsimp only at hSw);  go_simp; try with_reducible rfl)
  try simp only [Act.put, sA, s0, s1]
  refine wpAnyK_takeTL (i := 12) (d := some 68) (v := ?_) #[true, true, true, true, true, true, true, true, true, true, true, true, true, false, false, false, false, false, false, false, false, false, false, false, false, false, false, false, false] (by kernel_rfl) rfl rfl (by kernel_rfl) (by kernel_rfl) (by kernel_rfl) (by kernel_rfl) (by kernel_rfl) (fun _ _ _ h => h) (Or.inl ⟨by rfl, ?_⟩) hHeld ?_
  rotate_left
  ·(intro w hSw; (try dsimp only at hSw);  go_simp; try with_reducible rfl)
  try simp only [Act.put, sA, s0, s1]
  refine wpAnyK_takeTL (i := 13) (d := some 69) (v := ?_) #[true, true, true, true, true, true, true, true, true, true, true, true, true, true, false, false, false, false, false, false, false, false, false, false, false, false, false, false, false] (by kernel_rfl) rfl rfl (by kernel_rfl) (by kernel_rfl) (by kernel_rfl) (by kernel_rfl) (by kernel_rfl) (fun _ _ _ h => h) (Or.inl ⟨by rfl, ?_⟩) hHeld ?_
  rotate_left
  ·(intro w hSw; (try dsimp only at hSw);  go_simp; try with_reducible rfl)
  try simp only [Act.put, sA, s0, s1]
  refine wpAnyK_takeL (i := 14) (d := some 70) (v := ?_) #[true, true, true, true, true, true, true, true, true, true, true, true, true, true, true, false, false, false, false, false, false, false, false, false, false, false, false, false, false] (by kernel_rfl) rfl rfl (by kernel_rfl) (by kernel_rfl) (by kernel_rfl) (by kernel_rfl) (by kernel_rfl) (by kernel_rfl) (fun _ _ _ h => h) (Or.inl ⟨by rfl, ?_⟩) hHeld ?_
  rotate_left
  ·(intro w hSw; (try dsimp only at hSw);  go_simp; try with_reducible rfl)
  try simp only [Act.put, sA, s0, s1]
  refine wpAnyK_takeTL (i := 15) (d := some 71) (v := ?_) #[true, true, true, true, true, true, true, true, true, true, true, true, true, true, true, true, false, false, false, false, false, false, false, false, false, false, false, false, false] (by kernel_rfl) rfl rfl (by kernel_rfl) (by kernel_rfl) (by kernel_rfl) (by kernel_rfl) (by kernel_rfl) (fun _ _ _ h => h) (Or.inl ⟨by rfl, ?_⟩) hHeld ?_
  rotate_left
  ·(intro w hSw; (try dsimp only at hSw);  go_simp; try with_reducible rfl)
  try simp only [Act.put, sA, s0, s1]
  refine wpAnyK_takeTL (i := 16) (d := some 72) (v := ?_) #[true, true, true, true, true, true, true, true, true, true, true, true, true, true, true, true, true, false, false, false, false, false, false, false, false, false, false, false, false] (by kernel_rfl) rfl rfl (by kernel_rfl) (by kernel_rfl) (by kernel_rfl) (by kernel_rfl) (by kernel_rfl) (fun _ _ _ h => h) (Or.inl ⟨by rfl, ?_⟩) hHeld ?_
  rotate_left
  ·(intro w hSw; (try dsimp only at hSw);  go_simp; try with_reducible rfl)
  try simp only [Act.put, sA, s0, s1]
  refine wpAnyK_takeTL (i := 17) (d := some 73) (v := ?_) #[true, true, true, true, true, true, true, true, true, true, true, true, true, true, true, true, true, true, false, false, false, false, false, false, false, false, false, false, false] (by kernel_rfl) rfl rfl (by kernel_rfl) (by kernel_rfl) (by kernel_rfl) (by kernel_rfl) (by kernel_rfl) (fun _ _ _ h => h) (Or.inl ⟨by rfl, ?_⟩) hHeld ?_
  rotate_left
  ·(intro w hSw; (try dsimp only at hSw);  go_simp; try with_reducible rfl)
  try simp only [Act.put, sA, s0, s1]
  refine wpAnyK_takeTL (i := 18) (d := some 74) (v := ?_) #[true, true, true, true, true, true, true, true, true, true, true, true, true, true, true, true, true, true, true, false, false, false, false, false, false, false, false, false, false] (by kernel_rfl) rfl rfl (by kernel_rfl) (by kernel_rfl) (by kernel_rfl) (by kernel_rfl) (by kernel_rfl) (fun _ _ _ h => h) (Or.inl ⟨by rfl, ?_⟩) hHeld ?_
  rotate_left
  ·(intro w hSw; (try dsimp only at hSw);  go_simp; try with_reducible rfl)
  try simp only [Act.put, sA, s0, s1]
  refine wpAnyK_takeL (i := 19) (d := some 75) (v := ?_) #[true, true, true, true, true, true, true, true, true, true, true, true, true, true, true, true, true, true, true, true, false, false, false, false, false, false, false, false, false] (by kernel_rfl) rfl rfl (by kernel_rfl) (by kernel_rfl) (by kernel_rfl) (by kernel_rfl) (by kernel_rfl) (by kernel_rfl) (fun _ _ _ h => h) (Or.inl ⟨by rfl, ?_⟩) hHeld ?_
  rotate_left
  ·(intro w hSw; (try dsimp only at hSw);  go_simp; try with_reducible rfl)
  try simp only [Act.put, sA, s0, s1]
  refine wpAnyK_oneL (k := 20) #[true, true, true, true, true, true, true, true, true, true, true, true, true, true, true, true, true, true, true, true, true, false, false, false, false, false, false, false, false] true (by kernel_rfl) (by kernel_rfl) (by kernel_rfl) rfl (fun K hK => ?_)
  (go_simp; refine (lremove_uni An (some ⟨bd, off, none⟩) Al nn cn nd cd cl _ _ _ ns ds F.ls d q wq.drew HLE.out HQD.out.la HQD.out.hn HQD.out.hd HQD.out.hl HQD.out.le HQD.out.le HQD.out.le HQD.out.sn HQD.out.sd).mono ?_; rintro e wx ⟨A', n', c', l', rfl, hS', hA', hn', hl', hb'⟩; rw [← HE.out]; go_simp)
  refine hK.out _ _ (fun _ => ?_) (fun hHeld' => ?_)
  ·exact sc_cells (HQD.out.later hb'.out).b
  replace hHeld := hHeld' rfl
  clear hHeld' hK K
  try dsimp only at hHeld
  have HSX := Lib.hid hS'.out; have HAX := Lib.hid hA'.out; have HLX := Lib.hid hl'.out; have HNX := Lib.hid hn'.out; have HBX : Hid (Below w.heap.size w wx) := HG0.out.drew.trans (hb'.out.mono HG0.out.drew.size)
  have z3 := (HQD.out.later hb'.out).b.frozen 3
  clear hS' hA' hn' hl' hb'
  refine wpAnyK_takeTL (i := 21) (d := some 55) (v := ?_) #[true, true, true, true, true, true, true, true, true, true, true, true, true, true, true, true, true, true, true, true, true, true, false, false, false, false, false, false, false] (by kernel_rfl) rfl rfl (by kernel_rfl) (by kernel_rfl) (by kernel_rfl) (by kernel_rfl) (by kernel_rfl) (fun _ _ _ h => h) (Or.inl ⟨by rfl, ?_⟩) hHeld ?_
  rotate_left
  ·(intro w hSw; (try dsimp only at hSw);  go_simp; try with_reducible rfl)
  try simp only [Act.put, sA, s0, s1]
  refine wpAnyK_takeTL (i := 22) (d := some 77) (v := ?_) #[true, true, true, true, true, true, true, true, true, true, true, true, true, true, true, true, true, true, true, true, true, true, true, false, false, false, false, false, false] (by kernel_rfl) rfl rfl (by kernel_rfl) (by kernel_rfl) (by kernel_rfl) (by kernel_rfl) (by kernel_rfl) (fun _ _ _ h => h) (Or.inl ⟨by rfl, ?_⟩) hHeld ?_
  rotate_left
  ·(intro w hSw; (try dsimp only at hSw);  go_simp; try with_reducible rfl)
  try simp only [Act.put, sA, s0, s1]
  refine wpAnyK_takeTL (i := 23) (d := some 78) (v := ?_) #[true, true, true, true, true, true, true, true, true, true, true, true, true, true, true, true, true, true, true, true, true, true, true, true, false, false, false, false, false] (by kernel_rfl) rfl rfl (by kernel_rfl) (by kernel_rfl) (by kernel_rfl) (by kernel_rfl) (by kernel_rfl) (fun _ _ _ h => h) (Or.inl ⟨by rfl, ?_⟩) hHeld ?_
  rotate_left
  ·(intro w hSw; (try dsimp only at hSw);  go_simp; try with_reducible rfl)
  try simp only [Act.put, sA, s0, s1]
  refine wpAnyK_takeTL (i := 24) (d := some 79) (v := ?_) #[true, true, true, true, true, true, true, true, true, true, true, true, true, true, true, true, true, true, true, true, true, true, true, true, true, false, false, false, false] (by kernel_rfl) rfl rfl (by kernel_rfl) (by kernel_rfl) (by kernel_rfl) (by kernel_rfl) (by kernel_rfl) (fun _ _ _ h => h) (Or.inl ⟨by rfl, ?_⟩) hHeld ?_
  rotate_left
  ·(intro w hSw; (try dsimp only at hSw);  go_simp; try with_reducible rfl)
  try simp only [Act.put, sA, s0, s1]
  refine wpAnyK_takeTL (i := 25) (d := some 80) (v := ?_) #[true, true, true, true, true, true, true, true, true, true, true, true, true, true, true, true, true, true, true, true, true, true, true, true, true, true, false, false, false] (by kernel_rfl) rfl rfl (by kernel_rfl) (by kernel_rfl) (by kernel_rfl) (by kernel_rfl) (by kernel_rfl) (fun _ _ _ h => h) (Or.inl ⟨by rfl, ?_⟩) hHeld ?_
  rotate_left
  ·(intro w hSw; (try dsimp only at hSw);  go_simp; try with_reducible rfl)
  try simp only [Act.put, sA, s0, s1]
  refine wpAnyK_takeTL (i := 26) (d := some 81) (v := ?_) #[true, true, true, true, true, true, true, true, true, true, true, true, true, true, true, true, true, true, true, true, true, true, true, true, true, true, true, false, false] (by kernel_rfl) rfl rfl (by kernel_rfl) (by kernel_rfl) (by kernel_rfl) (by kernel_rfl) (by kernel_rfl) (fun _ _ _ h => h) (Or.inl ⟨by rfl, ?_⟩) hHeld ?_
  rotate_left
  ·(intro w hSw; (try dsimp only at hSw);  go_simp; try with_reducible rfl)
  try simp only [Act.put, sA, s0, s1]
  refine wpAnyK_oneL (k := 27) #[true, true, true, true, true, true, true, true, true, true, true, true, true, true, true, true, true, true, true, true, true, true, true, true, true, true, true, true, false] false (by kernel_rfl) (by kernel_rfl) (by kernel_rfl) rfl (fun K hK => ?_)
  go_simp
  refine hK.out _ _ (fun h => by cases h) (fun _ => ?_)
  try clear hHeld
  clear hK K
  refine wpAnyK_oneL (k := 28) #[true, true, true, true, true, true, true, true, true, true, true, true, true, true, true, true, true, true, true, true, true, true, true, true, true, true, true, true, true] false (by kernel_rfl) (by kernel_rfl) (by kernel_rfl) rfl (fun K hK => ?_)
  go_simp
  refine hK.out _ _ (fun h => by cases h) (fun _ => ?_)
  try clear hHeld
  clear hK K
  refine wpAnyK_done (by kernel_rfl) ?_ _
  go_wp2_with fail
  go_ret
  refine ⟨?_, _, HH.out.locks HBX.out HSX.out (fun b off e => by have := HAX.out b off e; have := HQD.out.b.lt; omega) HNX.out, fun h0 => ?_⟩
  ·rw [HE.out]; rfl
  ·rw [HLX.out (fun e => by have e2 : evErr ns ds F 7 d p q = (if idxL (d : Int) q F.ls = none then 15 else 0) := rfl
                            rw [e2, if_pos e] at h0; cases h0)]
   rfl
 have q7 : (k == 7) = false := by simpa using h7
 have HE : Hid (evErr ns ds F k d p q = 6) := by unfold Hid evErr; rw [if_neg h1, if_neg h2, if_neg h3, if_neg (by omega), if_neg h6, if_neg h7]
 clear h1 h2 h3 h4 h5 h6 h7
 go_enter Tryz.func47, Tryz.ntmps47
 go_wp2_with fail
 go_quiet (fail)
 have HQ := Lib.hid (HH.out.later (below_drewN (Below.refl _ _) nq))
 have HG0 : Hid (Below w.heap.size w (w.drewN nq)) := below_drewN (Below.refl _ _) nq
 generalize World.drewN w nq = wq at *
 have r5 : wq.cell? ⟨sb, 5, none⟩ = some (.int .i64 k) := by have := HQ.out.b; unfold scV at this; exact this.cell 5
 clear a1 a5 a6 c1
 go_wp2_with fail
 go_ret
 exact ⟨by rw [HE.out]; rfl, F, sc_from HG0.out HQ.out.same, fun hE => by rw [HE.out] at hE; cases hE⟩
end Go.Proofs.YtepicjpdhpojnaaGreatDoor
namespace Go.Proofs.YtepicjpdhpojnaaGreatDoor
open Go.RowKit
theorem unused_any (k d p q : Int) (w : World) : Calls Tryz.prog 44 #[.agg #[.int .i64 k, .int .i64 d, .int .i64 p, .int .i64 q]] w fun e w' => e = .returned (.bool (unuB k p q)) ∧ Below w.heap.size w w' := by
 obtain ⟨u, hu⟩ : ∃ u, u = unuB k p q := ⟨_, rfl⟩
 rw [← hu]
 have HBL : Hid (Below w.heap.size w (w.alloc (.cells #[.int .i64 k, .int .i64 d, .int .i64 p, .int .i64 q] 44))) := (Below.refl _ _).alloc (Nat.le_refl _) _
 unfold unuB at hu
 by_cases h6 : k = 6
 ·subst h6
  rw [if_pos rfl] at hu
  subst hu
  go_enter Tryz.func44, Tryz.ntmps44
  go_wp2_with fail
  go_ret
  exact ⟨rfl, HBL.out⟩
 rw [if_neg h6] at hu
 have q6 : (k == 6) = false := by simpa using h6
 by_cases h7 : k = 7
 ·subst h7
  rw [if_pos rfl] at hu
  have HU := Lib.hid hu
  clear hu h6
  go_enter Tryz.func44, Tryz.ntmps44
  go_wp2_with fail
  go_ret
  exact ⟨by rw [HU.out]; exact ret_bool (by rw [Bool.eq_iff_iff]; simp), HBL.out⟩
 rw [if_neg h7] at hu
 have q7 : (k == 7) = false := by simpa using h7
 have two : ∀ (P0 Q0 : Bool), P0 = decide (p ≠ 0) → Q0 = decide (q ≠ 0) → True := fun _ _ _ _ => trivial
 clear two
 by_cases h2 : k = 2 ∨ k = 4 ∨ k = 5
 ·rw [if_pos h2] at hu
  have HU := Lib.hid hu
  clear hu h6 h7
  by_cases hp : p = 0
  ·have qp : (p != 0) = false := by simpa using hp
   have HR : Hid (u = (q != 0)) := by unfold Hid; rw [HU.out, Bool.eq_iff_iff]; simp [hp]
   clear hp
   rcases h2 with rfl | rfl | rfl
   all_goals
    go_enter Tryz.func44, Tryz.ntmps44
    go_wp2_with fail
    go_ret
    exact ⟨by rw [HR.out]; rfl, HBL.out⟩
  ·have qp : (p != 0) = true := by simpa using hp
   have HR : Hid (u = true) := by unfold Hid; rw [HU.out]; simp [hp]
   clear hp
   rcases h2 with rfl | rfl | rfl
   all_goals
    go_enter Tryz.func44, Tryz.ntmps44
    go_wp2_with fail
    go_ret
    exact ⟨by rw [HR.out]; rfl, HBL.out⟩
 ·rw [if_neg h2] at hu
  have q2 : (k == 2) = false := by simp; omega
  have q4 : (k == 4) = false := by simp; omega
  have q5 : (k == 5) = false := by simp; omega
  have HR : Hid (u = (q != 0)) := by unfold Hid; rw [hu, Bool.eq_iff_iff]; simp
  clear hu h6 h7 h2
  go_enter Tryz.func44, Tryz.ntmps44
  go_wp2_with fail
  go_ret
  exact ⟨by rw [HR.out]; rfl, HBL.out⟩
def CopPost (w : World) (n nl nt : Nat) (F : Fd) (e : Ending) (w' : World) : Prop := ∃ (A1 A2 A3 : Option Addr) (c1 c2 c3 : Nat), e = .returned (.agg #[.slice A1 n c1, .slice A2 nl c2, .slice A3 nt c3]) ∧ Hid (IntsO w' w.heap.size A1 n c1 F.s) ∧ Hid (LocksO w' w.heap.size A2 nl c2 F.ls) ∧ Hid (IntsO w' w.heap.size A3 nt c3 F.st) ∧ Hid (Below w.heap.size w w')
structure Bc (w : World) (cf : Array Value) (wr : World) : Prop where
 b0 : Blk wr w.heap.size 35 cf
 b1 : Blk wr (w.heap.size + 1) 35 #[.slice none 0 0, .slice none 0 0, .slice none 0 0]
 bl : Below w.heap.size w wr
theorem Bc.new (w : World) (cf : Array Value) : Bc w cf ((w.alloc (.cells cf 35)).alloc (.cells #[.slice none 0 0, .slice none 0 0, .slice none 0 0] 35)) := by
 have e : (w.alloc (.cells cf 35)).heap.size = w.heap.size + 1 := by simp
 refine ⟨(Blk.new w _ _).alloc _, ?_, ((Below.refl _ _).alloc (Nat.le_refl _) _).alloc (by simp) _⟩
 have := Blk.new (w.alloc (.cells cf 35)) 35 #[.slice none 0 0, .slice none 0 0, .slice none 0 0]
 rwa [e] at this
theorem Bc.later {w wr wr' : World} {cf : Array Value} (h : Bc w cf wr) (hb : Below wr.heap.size wr wr') : Bc w cf wr' := ⟨h.b0.below hb h.b0.lt, h.b1.below hb h.b1.lt, h.bl.trans (hb.mono h.bl.size)⟩
theorem Bc.cells {w wr : World} {x y z : Value} (h : Bc w #[x, y, z] wr) : wr.cell? ⟨w.heap.size, 0, none⟩ = some x ∧ wr.cell? ⟨w.heap.size, 1, none⟩ = some y ∧ wr.cell? ⟨w.heap.size, 2, none⟩ = some z := ⟨h.b0.cell 0, h.b0.cell 1, h.b0.cell 2⟩
def Fd3 (w : World) (As : Option Addr) (n c : Nat) (Al : Option Addr) (nl cl : Nat) (At : Option Addr) (nt ct : Nat) (F : Fd) : Prop := Sl w w.heap.size 1 As n c (intsV F.s) ∧ Sl w w.heap.size 3 Al nl cl (F.ls.flatMap Lk.cells) ∧ Sl w w.heap.size 1 At nt ct (intsV F.st)
theorem fd3_later {w w' : World} {As Al At : Option Addr} {n c nl cl nt ct : Nat} {F : Fd} (h : Fd3 w As n c Al nl cl At nt ct F) (hb : Below w.heap.size w w') : Fd3 w' As n c Al nl cl At nt ct F :=
 ⟨(h.1.below hb (Nat.le_refl _)).more hb.size, (h.2.1.below hb (Nat.le_refl _)).more hb.size, (h.2.2.below hb (Nat.le_refl _)).more hb.size⟩
theorem own_far {w : World} {base size n c x i : Nat} {e : TypeId} {A : Option Addr} {xs : List Value} {u : Value} (h : w.ownsRow base e size (.slice A n c) n xs) (hx : x < base) : (w.setCell ⟨x, i, none⟩ u).ownsRow base e size (.slice A n c) n xs :=
 h.kept (grown_cell _ _ _) (ne_row fun b e => by have := (h.lt b e).1; simp; omega)
theorem copies_any (As Al At : Option Addr) (n c nl cl nt ct : Nat) (F : Fd) (w : World) (h : Fd3 w As n c Al nl cl At nt ct F) (hn : n ≤ 1000000) (hnl : nl ≤ 1000000) (hnt : nt ≤ 1000000) :
 Calls Tryz.prog 48 #[.agg #[.slice As n c, .slice Al nl cl, .slice At nt ct]] w (CopPost w n nl nt F) := by
 have HLS : Hid (F.s.length = n) := h.1.len (fun _ => rfl) (by decide)
 have HLL : Hid (F.ls.length = nl) := h.2.1.len (fun _ => rfl) (by decide)
 have HLT : Hid (F.st.length = nt) := h.2.2.len (fun _ => rfl) (by decide)
 have HB := Lib.hid (Bc.new w #[.slice As n c, .slice Al nl cl, .slice At nt ct])
 have HH := Lib.hid h
 clear h
 go_enter Tryz.func48, Tryz.ntmps48
 go_upto_region 1 with (fail)
 generalize World.alloc (World.alloc w _) _ = W at *
 have HB0 := Lib.hid (HB.out.later (Below.refl _ _).drew)
 have HM0 := Lib.hid (fd3_later HH.out HB0.out.bl)
 refine wp_region_J (S := fun W' => W'.cell? ⟨w.heap.size, 0, none⟩ = some (.slice As n c) ∧ W'.cell? ⟨w.heap.size, 1, none⟩ = some (.slice Al nl cl) ∧ W'.cell? ⟨w.heap.size, 2, none⟩ = some (.slice At nt ct)) (J := [10, 11, 12, 13, 14]) (by kernel_rfl) ?_ (fun hHeld => ?_)
 ·exact HB.out.cells
 try dsimp only at hHeld
 refine tk 0 3 (mf 15 1) hHeld ?_
 refine tk 1 4 (mf 15 2) hHeld ?_
 refine tk 3 6 #[tt, tt, ff, tt, ff, ff, ff, ff, ff, ff, ff, ff, ff, ff, ff] hHeld ?_
 refine tk 4 7 #[tt, tt, ff, tt, tt, ff, ff, ff, ff, ff, ff, ff, ff, ff, ff] hHeld ?_
 refine tk 6 9 #[tt, tt, ff, tt, tt, ff, tt, ff, ff, ff, ff, ff, ff, ff, ff] hHeld ?_
 refine tk 7 10 #[tt, tt, ff, tt, tt, ff, tt, tt, ff, ff, ff, ff, ff, ff, ff] hHeld ?_
 refine wpAnyJ_oneL (k := 2) #[tt, tt, tt, tt, tt, ff, tt, tt, ff, ff, ff, ff, ff, ff, ff] (by kernel_rfl) (by kernel_rfl) rfl (fun K hK => ?_)
 (go_simp; refine (clone_any As n c _ F.s W.drew HM0.out.1 (Nat.le_refl _) hn).mono ?_; rintro e w1 ⟨A1, c1, rfl, hO1, hb1⟩; rw [HLS.out] at hO1 ⊢; go_simp)
 refine hK.out _ _ (fun _ => ?_) (fun hHeld' => ?_)
 ·exact (HB0.out.later hb1.out).cells
 replace hHeld := hHeld' rfl
 clear hHeld' hK K
 try dsimp only at hHeld
 have HB1 := Lib.hid (HB0.out.later hb1.out); have HM1 := Lib.hid (fd3_later HM0.out hb1.out); have HO1 := Lib.hid (hO1.out.mono HB0.out.b1.lt)
 clear hO1 hb1
 refine tk 9 12 #[tt, tt, tt, tt, tt, ff, tt, tt, ff, tt, ff, ff, ff, ff, ff] hHeld ?_
 refine wpAnyJ_oneL (k := 5) #[tt, tt, tt, tt, tt, tt, tt, tt, ff, tt, ff, ff, ff, ff, ff] (by kernel_rfl) (by kernel_rfl) rfl (fun K hK => ?_)
 (go_simp; refine (clonelk_any Al nl cl _ F.ls w1 HM1.out.2.1 (Nat.le_refl _) hnl).mono ?_; rintro e w2 ⟨A2, c2, rfl, hO2, hb2⟩; rw [HLL.out] at hO2 ⊢; go_simp)
 refine hK.out _ _ (fun _ => ?_) (fun hHeld' => ?_)
 ·exact (HB1.out.later hb2.out).cells
 replace hHeld := hHeld' rfl
 clear hHeld' hK K
 try dsimp only at hHeld
 have HB2 := Lib.hid (HB1.out.later hb2.out); have HM2 := Lib.hid (fd3_later HM1.out hb2.out); have HP1 := Lib.hid (own_later HO1.out hb2.out); have HO2 := Lib.hid (World.ownsRow.mono hO2.out HB1.out.b1.lt)
 clear hO2 hb2
 refine wpAnyJ_oneL (k := 8) (mf 15 10) (by kernel_rfl) (by kernel_rfl) rfl (fun K hK => ?_)
 (go_simp; refine (clone_any At nt ct _ F.st w2 HM2.out.2.2 (Nat.le_refl _) hnt).mono ?_; rintro e w3 ⟨A3, c3, rfl, hO3, hb3⟩; rw [HLT.out] at hO3 ⊢; go_simp)
 refine hK.out _ _ (fun _ => ?_) (fun hHeld' => ?_)
 ·exact (HB2.out.later hb3.out).cells
 replace hHeld := hHeld' rfl
 clear hHeld' hK K
 try dsimp only at hHeld
 have HB3 := Lib.hid (HB2.out.later hb3.out); have HQ1 := Lib.hid (own_later HP1.out hb3.out); have HQ2 := Lib.hid (own_later HO2.out hb3.out); have HQ3 := Lib.hid (hO3.out.mono HB2.out.b1.lt)
 obtain ⟨b0, b1, b2⟩ := HB3.out.cells; have z0 := HB3.out.b0.frozen 0; have z1 := HB3.out.b0.frozen 1; have z2 := HB3.out.b0.frozen 2
 clear hO3 hb3
 refine wpAnyJ_oneL (k := 10) (mf 15 11) (by kernel_rfl) (by kernel_rfl) rfl (fun K hK => ?_)
 go_simp
 refine hK.out _ _ (fun h => by cases h) (fun _ => ?_)
 try clear hHeld
 clear hK K
 refine wpAnyJ_oneL (k := 11) (mf 15 12) (by kernel_rfl) (by kernel_rfl) rfl (fun K hK => ?_)
 go_simp
 refine hK.out _ _ (fun h => by cases h) (fun _ => ?_)
 try clear hHeld
 clear hK K
 refine wpAnyJ_oneL (k := 12) (mf 15 13) (by kernel_rfl) (by kernel_rfl) rfl (fun K hK => ?_)
 go_simp
 refine hK.out _ _ (fun h => by cases h) (fun _ => ?_)
 try clear hHeld
 clear hK K
 refine wpAnyJ_oneL (k := 13) (mf 15 14) (by kernel_rfl) (by kernel_rfl) rfl (fun K hK => ?_)
 go_simp
 refine hK.out _ _ (fun h => by cases h) (fun _ => ?_)
 try clear hHeld
 clear hK K
 refine wpAnyJ_oneL (k := 14) (mf 15 15) (by kernel_rfl) (by kernel_rfl) rfl (fun K hK => ?_)
 go_simp
 refine hK.out _ _ (fun h => by cases h) (fun _ => ?_)
 try clear hHeld
 clear hK K
 refine wpAnyJ_done (by kernel_rfl) ?_ _
 clear b0 b1 b2 z0 z1 z2
 have HBF : Hid (Bc w #[.slice A1 n c1, .slice A2 nl c2, .slice A3 nt c3] (((w3.setCell ⟨w.heap.size, 0, none⟩ (.slice A1 n c1)).setCell ⟨w.heap.size, 1, none⟩ (.slice A2 nl c2)).setCell ⟨w.heap.size, 2, none⟩ (.slice A3 nt c3))) :=
  ⟨((HB3.out.b0.set 0 _).set 1 _).set 2 _, ((HB3.out.b1.far (by simp) _).far (by simp) _).far (by simp) _, ((HB3.out.bl.setCell (by simp) _).setCell (by simp) _).setCell (by simp) _⟩
 have HR1 := Lib.hid (own_far (x := w.heap.size) (i := 2) (u := .slice A3 nt c3) (own_far (x := w.heap.size) (i := 1) (u := .slice A2 nl c2) (own_far (x := w.heap.size) (i := 0) (u := .slice A1 n c1) HQ1.out (by omega)) (by omega)) (by omega))
 have HR2 := Lib.hid (own_far (x := w.heap.size) (i := 2) (u := .slice A3 nt c3) (own_far (x := w.heap.size) (i := 1) (u := .slice A2 nl c2) (own_far (x := w.heap.size) (i := 0) (u := .slice A1 n c1) HQ2.out (by omega)) (by omega)) (by omega))
 have HR3 := Lib.hid (own_far (x := w.heap.size) (i := 2) (u := .slice A3 nt c3) (own_far (x := w.heap.size) (i := 1) (u := .slice A2 nl c2) (own_far (x := w.heap.size) (i := 0) (u := .slice A1 n c1) HQ3.out (by omega)) (by omega)) (by omega))
 generalize World.setCell (World.setCell (World.setCell w3 _ _) _ _) _ _ = ws at *
 clear HQ1 HQ2 HQ3 HB3 HP1 HO1 HO2
 obtain ⟨b0, b1, b2⟩ := HBF.out.cells
 have z0 := HBF.out.b1.frozen 0; have z1 := HBF.out.b1.frozen 1; have z2 := HBF.out.b1.frozen 2
 have d0 : ws.cell? ⟨w.heap.size + 1, 0, none⟩ = some (.slice none 0 0) := HBF.out.b1.cell 0
 have d1 : ws.cell? ⟨w.heap.size + 1, 1, none⟩ = some (.slice none 0 0) := HBF.out.b1.cell 1
 have d2 : ws.cell? ⟨w.heap.size + 1, 2, none⟩ = some (.slice none 0 0) := HBF.out.b1.cell 2
 go_wp2_with fail
 clear b0 b1 b2 z0 z1 z2
 obtain ⟨x, hx⟩ : ∃ x, x = (((ws.setCell ⟨w.heap.size + 1, 0, none⟩ (.slice A1 n c1)).setCell ⟨w.heap.size + 1, 1, none⟩ (.slice A2 nl c2)).setCell ⟨w.heap.size + 1, 2, none⟩ (.slice A3 nt c3)) := ⟨_, rfl⟩
 have HX : Hid (CopPost w n nl nt F (.returned (.agg #[.slice A1 n c1, .slice A2 nl c2, .slice A3 nt c3])) x) := by
  rw [hx]
  have f := fun {e : TypeId} {size m b : Nat} {A : Option Addr} {xs : List Value} (h : ws.ownsRow (w.heap.size + 1 + 1) e size (.slice A m b) m xs) => own_far (x := w.heap.size + 1) (i := 2) (u := .slice A3 nt c3) (own_far (x := w.heap.size + 1) (i := 1) (u := .slice A2 nl c2) (own_far (x := w.heap.size + 1) (i := 0) (u := .slice A1 n c1) h (Nat.lt_succ_self _)) (Nat.lt_succ_self _)) (Nat.lt_succ_self _)
  exact ⟨A1, A2, A3, c1, c2, c3, rfl, (f HR1.out).mono (Nat.le_add_right _ 2), (f HR2.out).mono (Nat.le_add_right _ 2), (f HR3.out).mono (Nat.le_add_right _ 2), ((HBF.out.bl.setCell (by simp) _).setCell (by simp) _).setCell (by simp) _⟩
 have HD : Hid (Blk x (w.heap.size + 1) 35 #[.slice A1 n c1, .slice A2 nl c2, .slice A3 nt c3]) := by
  unfold Hid; rw [hx]; exact ((HBF.out.b1.set 0 _).set 1 _).set 2 _
 rw [← hx]
 clear hx d0 d1 d2 HR1 HR2 HR3 HBF
 have d0 : x.cell? ⟨w.heap.size + 1, 0, none⟩ = some (.slice A1 n c1) := HD.out.cell 0
 have d1 : x.cell? ⟨w.heap.size + 1, 1, none⟩ = some (.slice A2 nl c2) := HD.out.cell 1
 have d2 : x.cell? ⟨w.heap.size + 1, 2, none⟩ = some (.slice A3 nt c3) := HD.out.cell 2
 exact bodyPost_ret (v := .agg #[.slice A1 n c1, .slice A2 nl c2, .slice A3 nt c3]) (by simp [results, Tryz.results48, go_sem, d0, d1, d2]) rfl HX.out
end Go.Proofs.YtepicjpdhpojnaaGreatDoor
