import Derived.Test.YtddddlhgaeameaaGreatDoorM27
import Derived.Test.YtddddlhgaeameaaGreatDoorIns
import Derived.Lib.EndianMore
import Derived.Test.YtddddlhgaeameaaGreatDoorM37
set_option maxRecDepth 100000
set_option maxHeartbeats 16000000
namespace Go.Proofs.YtddddlhgaeameaaGreatDoor
section
open Go.RowKit
open Go.Lib (below_setCells_w)
theorem et3 : Tryz.laysNm221_ren.t 3 = 3 := rfl
theorem uA (l : List Int) (j : Nat) : (zK l)[j]? = l[j]?.map (Value.int .i64) := by rw [yK, List.getElem?_map]
theorem oP (A : Option Addr) (n c B : Nat) (st : List Int) (d : Int) (w : World) (hs : Sl w B 1 A n c (zK st)) (hn : n ≤ 1000000) (ho : st.Pairwise (· < ·)) :
 Calls Tryz.prog 91 #[.slice A n c, .int .i64 d] w fun e w' => e = .returned (.tuple #[.int .i64 ((st.countP (· < d) : Nat) : Int), .bool (decide (d ∈ st))]) ∧ ∃ q, w' = w.drewN q := by
 have hl : st.length = n := hs.len (fun _ => rfl) (by decide)
 obtain ⟨-, hnc, -, hnone, hc⟩ := hs
 by_cases h0 : n = 0
 ·subst h0
  obtain rfl : st = [] := List.eq_nil_of_length_eq_zero hl
  refine (Tryz.slices_BinarySearch_int_empty A c d w).mono ?_
  rintro e w' ⟨rfl, rfl⟩
  exact ⟨by simp, 0, rfl⟩
 ·obtain ⟨b, off, rfl, -, hcell⟩ := hc (by omega)
  have ht : st.take n = st := List.take_of_length_le (by omega)
  refine (Tryz.slices_BinarySearch_int b off n c st d w (by omega) (by omega) (fun j hj => ?_) ?_).mono ?_
  ·refine hcell j _ ?_
   rw [uA, List.getElem?_eq_getElem hj, List.getD_eq_getElem?_getD, List.getElem?_eq_getElem hj]
   rfl
  ·rw [ht]; exact ho.imp fun h => Int.le_of_lt h
  ·rw [ht]
   rintro e w' ⟨rfl, q, rfl⟩
   exact ⟨by simp, q, rfl⟩
section
variable {w : World} {base n c i : Nat} {A : Option Addr} {st : List Int}
theorem kw (h : zU w base A n c st) : A = none ∧ n = 0 ∧ c = 0 ∨ ∃ (b : Nat) (cur : Array Value), A = some ⟨b, 0, none⟩ ∧ base ≤ b ∧ b < w.heap.size ∧ w.heap[b]? = some (.cells cur 3 (0, 0)) ∧ n ≤ c ∧ c ≤ 9223372036854775807 ∧ cur.size = c ∧ ∀ (j : Nat) (u : Value), (zK st)[j]? = some u → cur[j]? = some u := by
 have hl := h.lt
 rcases h.2 with ⟨h0, hn⟩ | ⟨g, cap, cur, h0, hg, hh, h1, h2, h3, h4⟩
 ·injection h0 with e1 e2 e3
  exact .inl ⟨e1, hn, e3⟩
 ·injection h0 with e1 e2 e3
  subst e1 e3
  refine .inr ⟨g, cur, rfl, hg, (hl g rfl).2, hh, h1, by simp [maxLen] at h2; exact h2, by omega, fun j u hu => ?_⟩
  rw [← h4, List.getElem?_take] at hu
  split at hu
  ·simpa using hu
  ·cases hu
end
theorem jD {st : List Int} {i : Nat} (d : Int) (hi : i ≤ st.length) (j : Nat) : (st.take i ++ d :: st.drop i)[j]? = if j < i then st[j]? else if j = i then some d else st[j - 1]? := by
 have hl : (st.take i).length = i := by rw [List.length_take]; omega
 rcases Nat.lt_trichotomy j i with h | h | h
 ·rw [if_pos h, List.getElem?_append_left (by omega), List.getElem?_take, if_pos h]
 ·subst h; rw [if_neg (by omega), if_pos rfl, List.getElem?_append_right (by omega), hl, Nat.sub_self]; rfl
 ·rw [if_neg (by omega), if_neg (by omega), List.getElem?_append_right (by omega), hl, List.getElem?_cons, if_neg (by omega), List.getElem?_drop]
  congr 1; omega
def jT (w : World) (base n : Nat) (L : List Int) (e : Ending) (w' : World) : Prop := ∃ (A' : Option Addr) (c' : Nat), e = .returned (.slice A' (n + 1) c') ∧ Hid (Sl w' w'.heap.size 1 A' (n + 1) c' (zK L)) ∧ Hid (∀ b off, A' = some ⟨b, off, none⟩ → base ≤ b) ∧ Hid (Below base w w')
theorem sw {w' : World} {n c i b : Nat} {st : List Int} {d : Int} (hl : st.length = n) (hi : i ≤ n) (hc : n + 1 ≤ c) (hm : c ≤ 9223372036854775807) (hb : b < w'.heap.size)
 (h1 : ∀ j u, j < i → (zK st)[j]? = some u → w'.cell? ⟨b, j, none⟩ = some u) (h2 : w'.cell? ⟨b, i, none⟩ = some (.int .i64 d)) (h3 : ∀ j u, i < j → (zK st)[j - 1]? = some u → w'.cell? ⟨b, j, none⟩ = some u) :
 Sl w' w'.heap.size 1 (some ⟨b, 0, none⟩) (n + 1) c (zK (st.take i ++ d :: st.drop i)) := by
 refine ⟨by rw [vL]; simp; omega, hc, hm, (fun e => by cases e), fun _ => ⟨b, 0, rfl, hb, fun j u hu => ?_⟩⟩
 rw [Nat.zero_add]
 rw [uA, jD d (by omega)] at hu
 rcases Nat.lt_trichotomy j i with h | h | h
 ·rw [if_pos h] at hu; exact h1 j u h (by rw [uA]; exact hu)
 ·subst h; rw [if_neg (by omega), if_pos rfl] at hu; cases hu; exact h2
 ·rw [if_neg (by omega), if_neg (by omega)] at hu; exact h3 j u h (by rw [uA]; exact hu)
theorem jE (A : Option Addr) (n c i base vb : Nat) (st : List Int) (d : Int) (w : World) (h : zU w base A n c st) (hv : Blk w vb 3 #[.int .i64 d]) (hvb : base ≤ w.heap.size) (hne : ∀ b, A = some ⟨b, 0, none⟩ → b ≠ vb) (hi : i ≤ n) (hn : n ≤ 1000000) :
 Calls Tryz.prog 92 #[.slice A n c, .int .i64 (i : Int), .slice (some ⟨vb, 0, none⟩) 1 1] w (jT w base n (st.take i ++ d :: st.drop i)) := by
 have hln := h.len
 have hvs : ∀ j v, [Value.int .i64 d][j]? = some v → w.cell? ⟨vb, 0 + j, none⟩ = some v := fun j v e => by
  rcases j with _ | j
  ·exact (hv.cell 0).trans e
  ·cases e
 have h1v : ∀ v ∈ [Value.int .i64 d], v.oneCell' = true := fun v hv => by rw [List.mem_singleton.1 hv]; rfl
 have hcl : (zK st).length = n := by rw [vL, hln]
 rcases kw h with ⟨rfl, rfl, rfl⟩ | ⟨b, cur, rfl, hbb, hbl, hh, hnc, hcm, hcs, hcur⟩
 ·obtain rfl : i = 0 := by omega
  obtain rfl : st = [] := List.eq_nil_of_length_eq_zero hln
  refine (Any2.slices_Insert_int_end_grow Tryz.laysNm221 none 0 0 vb 0 1 1 [] [.int .i64 d] w (by decide) lR (by decide) (by decide) rfl rfl (fun _ => rfl) (fun a e => by cases e) hvs h1v).mono ?_
  rintro e w' hw
  simp only [et3] at hw
  obtain ⟨rfl, rfl⟩ := hw
  refine ⟨_, _, rfl, ?_, (fun b off e => by cases e; exact hvb), ((Below.refl _ _).drew).alloc (by simp; omega) _⟩
  refine sw rfl lR (grownCap_ge ..) ?_ (by simp) (fun j u hj => by omega) ?_ (fun j u _ hu => by cases hu)
  ·have := grownCap_le_maxLen w (0 + 1) 0 3 (by decide); simpa [maxLen] using this
  ·have := (Blk.new w.drew 3 ((([] ++ [Value.int .i64 d] : List Value)).toArray ++ Builtin.zeroCells (Value.int .i64 0).cells (grownCap w (0 + 1) 0 3 - (0 + 1)))).cell 0
   refine this.trans ?_
   rw [Array.getElem?_append_left (by simp)]
   rfl
 ·have hcell : ∀ j u, (zK st)[j]? = some u → w.cell? ⟨b, j, none⟩ = some u := fun j u hu => (cell_of_row w b j cur _ _ hh).trans (hcur j u hu)
  have hsome : ∀ j, j < c → (w.cell? ⟨b, j, none⟩).isSome = true := fun j hj => by
   rw [cell_of_row w b j cur _ _ hh, Array.getElem?_eq_getElem (by omega)]; rfl
  have hfz : ∀ j, w.frozen? ⟨b, j, none⟩ = false := fun j => by simp [World.frozen?, hh]
  have hbv : vb ≠ b := fun e => hne b rfl e.symm
  rcases Nat.lt_or_ge c (n + 1) with hr | hr
  ·obtain rfl : c = n := by omega
   rcases Nat.lt_or_ge i c with hic | hic
   ·refine (Any2.slices_Insert_int_grow Tryz.laysNm221 b 0 c c i vb 0 1 1 (zK st) [.int .i64 d] w hic (by decide) lR hr (by omega) hcl rfl (fun j v e => by rw [Nat.zero_add]; exact hcell j v e) hvs (vK _) h1v).mono ?_
    rintro e w' hw
    simp only [et3] at hw
    obtain ⟨rfl, rfl⟩ := hw
    refine ⟨_, _, rfl, ?_, (fun b off e => by cases e; exact hvb), ?_⟩
    ·obtain ⟨Z, hZ⟩ : ∃ Z : Array Value, Z = ((zK st).take i).toArray ++ Builtin.zeroCells (Value.int .i64 0).cells (c + 1 - i) ++ Builtin.zeroCells (Value.int .i64 0).cells (grownCap w (c + 1) c 3 - (c + 1)) := ⟨_, rfl⟩
     have hB0 : Blk (w.alloc (.cells Z 3)).drew w.heap.size 3 Z := Blk.new w 3 Z
     have hlz : ((zK st).take i).length = i := by rw [List.length_take, hcl]; omega
     have hZs : c + 1 ≤ Z.size := by rw [hZ]; simp [Builtin.zeroCells, Value.cells]; omega
     have hS : ∀ j, j < c + 1 → ((w.alloc (.cells Z 3)).drew.cell? ⟨w.heap.size, j, none⟩).isSome = true := fun j hj => by rw [hB0.cell j, Array.getElem?_eq_getElem (by omega)]; rfl
     have hd : ((zK st).drop i).length = c - i := by rw [List.length_drop, hcl]
     rw [← hZ]
     refine sw hln hi (grownCap_ge ..) ?_ ?_ (fun j u hj hu => ?_) ?_ (fun j u hj hu => ?_)
     ·have := grownCap_le_maxLen w (c + 1) c 3 (by simp [maxLen]; omega); simpa [maxLen] using this
     ·have := (below_setCells_w (B := 0) (g := w.heap.size) (Nat.zero_le _) ((zK st).drop i) (i + 1) ((w.alloc (.cells Z 3)).drew.setCells w.heap.size i [.int .i64 d]).drew).size
      have h2 := (below_setCells_w (B := 0) (g := w.heap.size) (Nat.zero_le _) [.int .i64 d] i (w.alloc (.cells Z 3)).drew).size
      have h3 : (w.alloc (.cells Z 3)).drew.heap.size = w.heap.size + 1 := by simp
      have h4 : ((w.alloc (.cells Z 3)).drew.setCells w.heap.size i [.int .i64 d]).drew.heap.size = ((w.alloc (.cells Z 3)).drew.setCells w.heap.size i [.int .i64 d]).heap.size := rfl
      omega
     ·rw [World.cell?_setCells_out _ _ _ _ _ (fun _ _ => .inl (by simp; omega))]
      show (World.setCells _ _ _ _).cell? _ = _
      rw [World.cell?_setCells_out _ _ _ _ _ (fun _ _ => .inl (by simp; omega)), hB0.cell j, hZ, Array.getElem?_append_left (by simp [Builtin.zeroCells]; omega), Array.getElem?_append_left (by simp; omega)]
      simp only [List.getElem?_toArray]
      rw [List.getElem?_take, if_pos hj]; exact hu
     ·rw [World.cell?_setCells_out _ _ _ _ _ (fun _ _ => .inl (by simp))]
      exact World.cell?_setCells_in w.heap.size [.int .i64 d] i (w.alloc (.cells Z 3)).drew (fun j hj => hS _ (by simp at hj; omega)) 0 (by simp)
     ·have hj1 : j - 1 < c := by rw [← hcl]; exact (List.getElem?_eq_some_iff.1 hu).1
      have := World.cell?_setCells_in w.heap.size ((zK st).drop i) (i + 1) ((w.alloc (.cells Z 3)).drew.setCells w.heap.size i [.int .i64 d]).drew (fun k hk => by
       show ((World.setCells _ _ _ _).cell? _).isSome = true
       rw [World.cell?_setCells_out _ _ _ _ _ (fun _ _ => .inr (by simp))]
       exact hS _ (by rw [hd] at hk; omega)) (j - (i + 1)) (by rw [hd]; omega)
      rw [show i + 1 + (j - (i + 1)) = j by omega] at this
      rw [this, List.getElem_drop, ← hu, List.getElem?_eq_getElem (by rw [hcl]; omega)]
      simp only [Option.some.injEq]
      congr 1; omega
    ·exact (((Below.refl _ _).alloc hvb _).drew.trans (below_setCells_w hvb _ _ _)).drew.trans (below_setCells_w hvb _ _ _)
   ·obtain rfl : i = c := by omega
    refine (Any2.slices_Insert_int_end_grow Tryz.laysNm221 (some ⟨b, 0, none⟩) i i vb 0 1 1 (zK st) [.int .i64 d] w (by decide) lR hr (by omega) hcl rfl (fun e => by cases e) (fun a e j v hj => by cases e; rw [xd]; rw [Nat.zero_add]; exact hcell j v hj) hvs h1v).mono ?_
    rintro e w' hw
    simp only [et3] at hw
    obtain ⟨rfl, rfl⟩ := hw
    refine ⟨_, _, rfl, ?_, (fun b off e => by cases e; exact hvb), ((Below.refl _ _).drew).alloc (by simp; omega) _⟩
    have hB0 := Blk.new w.drew 3 ((zK st ++ [Value.int .i64 d]).toArray ++ Builtin.zeroCells (Value.int .i64 0).cells (grownCap w (i + 1) i 3 - (i + 1)))
    refine sw hln hi (grownCap_ge ..) ?_ (by simp) (fun j u hj hu => ?_) ?_ (fun j u hj hu => ?_)
    ·have := grownCap_le_maxLen w (i + 1) i 3 (by simp [maxLen]; omega); simpa [maxLen] using this
    ·refine (hB0.cell j).trans ?_
     rw [Array.getElem?_append_left (by simp [hcl]; omega), List.getElem?_toArray, List.getElem?_append_left (by omega)]
     exact hu
    ·refine (hB0.cell i).trans ?_
     rw [Array.getElem?_append_left (by simp [hcl]), List.getElem?_toArray, List.getElem?_append_right (by omega), hcl, Nat.sub_self]
     rfl
    ·have := (List.getElem?_eq_some_iff.1 hu).1
     omega
  ·rcases Nat.lt_or_ge i n with hic | hic
   ·refine (Any2.slices_Insert_int_shift Tryz.laysNm221 b 0 n c i vb 0 1 1 (zK st) [.int .i64 d] w hic (by decide) hr hcm hbv hcl rfl (fun j v e => by rw [Nat.zero_add]; exact hcell j v e) (fun j hj => by rw [Nat.zero_add]; exact hsome j (by omega)) (fun j _ => by rw [Nat.zero_add]; exact hfz j) hvs (vK _) h1v 3 3 1 c (by unfold World.shape?; rw [show w.heap[vb]? = _ from hv]; rfl) (by unfold World.shape?; rw [hh]; simp [hcs]) (by omega) (hv.frozen 0) (hv.frozen 1)).mono ?_
    rintro e w' ⟨rfl, rfl⟩
    have hd : ((zK st).drop i).length = n - i := by rw [List.length_drop, hcl]
    refine ⟨_, _, rfl, ?_, (fun b off e => by cases e; exact hbb), ((Below.refl _ _).drew.trans (below_setCells_w hbb _ _ _)).trans (below_setCells_w hbb _ _ _)⟩
    refine sw hln hi hr hcm ?_ (fun j u hj hu => ?_) ?_ (fun j u hj hu => ?_)
    ·have h1 := (below_setCells_w (B := 0) (g := b) (Nat.zero_le _) ((zK st).drop i) (0 + (i + 1)) w.drew).size
     have h2 := (below_setCells_w (B := 0) (g := b) (Nat.zero_le _) [.int .i64 d] (0 + i) (w.drew.setCells b (0 + (i + 1)) ((zK st).drop i))).size
     have h3 : w.drew.heap.size = w.heap.size := rfl
     omega
    ·rw [World.cell?_setCells_out _ _ _ _ _ (fun _ _ => .inl (by simp; omega)), World.cell?_setCells_out _ _ _ _ _ (fun _ _ => .inl (by simp; omega))]
     exact hcell j u hu
    ·have := World.cell?_setCells_in b [.int .i64 d] (0 + i) (w.drew.setCells b (0 + (i + 1)) ((zK st).drop i)) (fun j hj => by
      rw [World.cell?_setCells_out _ _ _ _ _ (fun _ _ => .inl (by simp at hj ⊢; omega))]
      rw [Nat.zero_add]
      exact hsome (i + j) (by simp at hj; omega)) 0 (by simp)
     simp only [Nat.zero_add, Nat.add_zero] at this ⊢
     exact this
    ·have hj1 : j - 1 < n := by rw [← hcl]; exact (List.getElem?_eq_some_iff.1 hu).1
     rw [World.cell?_setCells_out _ _ _ _ _ (fun _ _ => .inr (by simp; omega))]
     have := World.cell?_setCells_in b ((zK st).drop i) (0 + (i + 1)) w.drew (fun k hk => by rw [hd] at hk; rw [Nat.zero_add]; exact hsome (i + 1 + k) (by omega)) (j - (i + 1)) (by rw [hd]; omega)
     rw [show 0 + (i + 1) + (j - (i + 1)) = j by omega] at this
     rw [this, List.getElem_drop, ← hu, List.getElem?_eq_getElem (by rw [hcl]; omega)]
     simp only [Option.some.injEq]
     congr 1; omega
   ·obtain rfl : i = n := by omega
    refine (Any2.slices_Insert_int_end_room Tryz.laysNm221 b 0 i c vb 0 1 1 [.int .i64 d] w (by decide) hr hcm rfl (fun j hj => by rw [Nat.zero_add]; exact hsome (i + j) (by omega)) (fun j _ => by rw [Nat.zero_add]; exact hfz (i + j)) hvs h1v).mono ?_
    rintro e w' ⟨rfl, rfl⟩
    refine ⟨_, _, rfl, ?_, (fun b off e => by cases e; exact hbb), below_setCells_w hbb _ _ _⟩
    refine sw hln hi hr hcm ?_ (fun j u hj hu => ?_) ?_ (fun j u hj hu => ?_)
    ·have h1 := (below_setCells_w (B := 0) (g := b) (Nat.zero_le _) [.int .i64 d] (0 + i) w).size
     omega
    ·rw [World.cell?_setCells_out _ _ _ _ _ (fun _ _ => .inl (by simp; omega))]
     exact hcell j u hu
    ·have := World.cell?_setCells_in b [.int .i64 d] (0 + i) w (fun j hj => by rw [Nat.zero_add]; exact hsome (i + j) (by simp at hj; omega)) 0 (by simp)
     simp only [Nat.zero_add, Nat.add_zero] at this ⊢
     exact this
    ·have := (List.getElem?_eq_some_iff.1 hu).1
     omega
end
section
open Go.RowKit
theorem mE (v : Int) : ∀ {l : List Int}, l.Pairwise (· < ·) → l.take (l.countP (fun x => decide (x < v))) = l.takeWhile (fun x => decide (x < v)) ∧ l.drop (l.countP (fun x => decide (x < v))) = l.dropWhile (fun x => decide (x < v))
 | [], _ => by simp
 | x :: l, h => by
  obtain ⟨h1, h2⟩ := List.pairwise_cons.mp h
  by_cases hx : x < v
  ·obtain ⟨e1, e2⟩ := mE v h2
   rw [List.countP_cons_of_pos (by simpa using hx), List.takeWhile_cons_of_pos (by simpa using hx), List.dropWhile_cons_of_pos (by simpa using hx), List.take_succ_cons, List.drop_succ_cons, e1, e2]
   exact ⟨rfl, rfl⟩
  ·have h0 : (x :: l).countP (fun x => decide (x < v)) = 0 := by
    rw [List.countP_eq_zero]
    intro y hy
    rcases List.mem_cons.mp hy with rfl | hy
    ·simpa using hx
    ·have := h1 y hy; simp; omega
   rw [h0, List.takeWhile_cons_of_neg (by simpa using hx), List.dropWhile_cons_of_neg (by simpa using hx)]
   simp
structure Bpv (w : World) (gr : Array Value) (wr : World) : Prop where
 b0 : Blk wr w.heap.size 29 gr
 b1 : Blk wr (w.heap.size + 1) 29 #[.int .i64 0, .slice none 0 0, .slice none 0 0]
 bl : Below w.heap.size w wr
theorem Bpv.new (w : World) (gr : Array Value) : Bpv w gr ((w.alloc (.cells gr 29)).alloc (.cells #[.int .i64 0, .slice none 0 0, .slice none 0 0] 29)) :=
 ⟨(Blk.new w _ _).alloc _, by have := Blk.new (w.alloc (.cells gr 29)) 29 #[.int .i64 0, .slice none 0 0, .slice none 0 0]; simpa using this, ((Below.refl _ _).alloc lR _).alloc (by simp) _⟩
theorem Bpv.later {w wr wr' : World} {gr : Array Value} (h : Bpv w gr wr) (hb : Below wr.heap.size wr wr') : Bpv w gr wr' := ⟨h.b0.below hb h.b0.lt, h.b1.below hb h.b1.lt, h.bl.trans (hb.mono h.bl.size)⟩
theorem Bpv.cut {w wr : World} {x y z u : Value} (h : Bpv w #[x, y, z] wr) : Bpv w #[x, y, u] (wr.setCell ⟨w.heap.size, 2, none⟩ u) := ⟨h.b0.set 2 _, h.b1.far (by simp) _, h.bl.setCell (by simp) _⟩
theorem Bpv.fin {w wr : World} {x y z : Value} (h : Bpv w #[x, y, z] wr) : Blk (((wr.setCell ⟨w.heap.size + 1, 0, none⟩ x).setCell ⟨w.heap.size + 1, 1, none⟩ y).setCell ⟨w.heap.size + 1, 2, none⟩ z) (w.heap.size + 1) 29 #[x, y, z] ∧ Below w.heap.size w (((wr.setCell ⟨w.heap.size + 1, 0, none⟩ x).setCell ⟨w.heap.size + 1, 1, none⟩ y).setCell ⟨w.heap.size + 1, 2, none⟩ z) :=
 ⟨((h.b1.set 0 _).set 1 _).set 2 _, ((h.bl.setCell (by simp) _).setCell (by simp) _).setCell (by simp) _⟩
theorem Sl.ne {w : World} {B size n c x i : Nat} {A : Option Addr} {xs : List Value} {u : Value} (h : Sl w B size A n c xs) (hx : ∀ b off, A = some ⟨b, off, none⟩ → b ≠ x) : Sl (w.setCell ⟨x, i, none⟩ u) B size A n c xs :=
 ⟨h.1, h.2.1, h.2.2.1, h.2.2.2.1, fun hn => by
  obtain ⟨b, off, rfl, hb, hc⟩ := h.2.2.2.2 hn
  refine ⟨b, off, rfl, hb, fun j v hv => ?_⟩
  exact (World.cell?_setCell_far w ⟨x, i, none⟩ ⟨b, off + j, none⟩ u (fun e => hx b off rfl e.symm)).trans (hc j v hv)⟩
theorem oy (Al Ap : Option Addr) (nl cl np cp : Nat) (co v : Int) (pr : List Int) (w : World) (hp : Sl w w.heap.size 1 Ap np cp (zK pr)) (hnp : np ≤ 1000) (ho : pr.Pairwise (· < ·)) :
 Calls Tryz.prog 65 #[.agg #[.int .i64 co, .slice Al nl cl, .slice Ap np cp], .int .i64 v] w fun e w' => ∃ (A : Option Addr) (n c : Nat), e = .returned (.agg #[.int .i64 co, .slice Al nl cl, .slice A n c]) ∧ Hid (Sl w' w'.heap.size 1 A n c (zK (xn pr v))) ∧ Hid (A = Ap ∧ n = np ∧ c = cp ∧ xn pr v = pr ∨ ∀ b off, A = some ⟨b, off, none⟩ → w.heap.size ≤ b) ∧ Hid (Below w.heap.size w w') := by
 have HB := iD (Bpv.new w #[.int .i64 co, .slice Al nl cl, .slice Ap np cp])
 have HP := iD hp
 have HLP : Hid (pr.length = np) := hp.len (fun _ => rfl) (by decide)
 have HO := iD ho
 have HCT := iD (mE v ho)
 clear hp ho
 go_enter Tryz.func65, Tryz.ntmps65
 go_upto_region 1 with (fail)
 generalize World.alloc (World.alloc w _) _ = W at *
 have HBS := iD (oP Ap np cp w.heap.size pr v W (HP.out.below HB.out.bl lR) (by omega) HO.out)
 have g2 := HB.out.b0.c2
 go_wp2_with fail
 clear g2
 refine HBS.out.mono ?_
 rintro e w1 ⟨rfl, q, hw⟩
 have HB1 : Hid (Bpv w #[.int .i64 co, .slice Al nl cl, .slice Ap np cp] w1) := by unfold Hid; rw [hw]; exact HB.out.later (oR bR q)
 clear hw HB HBS
 by_cases hm : v ∈ pr
 ·have HV : Hid (xn pr v = pr) := by unfold Hid xn; rw [if_pos hm]
  have q1 : decide (v ∈ pr) = true := by simpa using hm
  clear hm
  have g0 := HB1.out.b0.c0
  have g1 := HB1.out.b0.c1
  have g2 := HB1.out.b0.c2
  have d0 := HB1.out.b1.cell 0
  have d1 := HB1.out.b1.cell 1
  have d2 := HB1.out.b1.cell 2
  have y0 := HB1.out.b1.frozen 0
  have y1 := HB1.out.b1.frozen 1
  have y2 := HB1.out.b1.frozen 2
  have HE := iD (HB1.out.fin)
  have HSE : Hid (Sl (((w1.setCell ⟨w.heap.size + 1, 0, none⟩ (.int .i64 co)).setCell ⟨w.heap.size + 1, 1, none⟩ (.slice Al nl cl)).setCell ⟨w.heap.size + 1, 2, none⟩ (.slice Ap np cp)) (w.heap.size) 1 Ap np cp (zK (xn pr v))) := by unfold Hid; rw [HV.out]; exact (((HP.out.below HB1.out.bl lR).setCell (by simp) _).setCell (by simp) _).setCell (by simp) _
  go_wp2_with fail
  have hz : w.heap.size ≤ (((w1.setCell ⟨w.heap.size + 1, 0, none⟩ (.int .i64 co)).setCell ⟨w.heap.size + 1, 1, none⟩ (.slice Al nl cl)).setCell ⟨w.heap.size + 1, 2, none⟩ (.slice Ap np cp)).heap.size := by simp [World.setCell]; have := HB1.out.bl.size; omega
  generalize World.setCell (World.setCell (World.setCell w1 _ _) _ _) _ _ = z at *
  have q0 := HE.out.1.c0
  have q1 := HE.out.1.c1
  have q2 := HE.out.1.c2
  exact bodyPost_ret (v := .agg #[.int .i64 co, .slice Al nl cl, .slice Ap np cp]) (by simp [results, Tryz.results65, go_sem, q0, q1, q2]) rfl ⟨_, _, _, rfl, HSE.out.more hz, .inl ⟨rfl, rfl, rfl, HV.out⟩, HE.out.2⟩
 have HV : Hid (xn pr v = pr.take (pr.countP (fun x => decide (x < v))) ++ v :: pr.drop (pr.countP (fun x => decide (x < v)))) := by unfold Hid xn; rw [if_neg hm, HCT.out.1, HCT.out.2]
 have q1 : decide (v ∈ pr) = false := by simpa using hm
 have hi : pr.countP (fun x => decide (x < v)) ≤ np := by have := List.countP_le_length (p := fun x => decide (x < v)) (l := pr); have := HLP.out; omega
 clear hm HCT
 obtain ⟨i, hie⟩ : ∃ i, i = pr.countP (fun x => decide (x < v)) := ⟨_, rfl⟩
 rw [← hie] at HV hi ⊢
 clear hie
 have g2 := HB1.out.b0.c2
 go_wp2_with fail
 clear g2 q1
 refine (xM Ap np cp w1.heap.size pr w1 ((HP.out.below HB1.out.bl lR).more HB1.out.bl.size) lR (by omega)).mono ?_
 rintro e w2 ⟨A2, c2, rfl, hO2, hb2⟩
 rw [HLP.out] at hO2 ⊢
 have HB2 := iD (HB1.out.later hb2.out)
 have HO2 := iD hO2.out
 have hlt1 : w.heap.size + 1 < w1.heap.size := HB1.out.b1.lt
 have HZ2 : Hid (w1.heap.size ≤ w2.heap.size) := hb2.out.size
 clear hO2 hb2 HB1
 have HVB := iD (Blk.new w2 3 #[.int .i64 v])
 have HO3 := iD (HO2.out.later ((Below.refl _ w2).alloc lR (.cells #[.int .i64 v] 3)))
 have HB3 := iD (HB2.out.later ((Below.refl _ w2).alloc lR (.cells #[.int .i64 v] 3)))
 have HNE : Hid (∀ b, A2 = some ⟨b, 0, none⟩ → b ≠ w2.heap.size) := fun b e => by have := (HO2.out.lt b (by rw [e]; rfl)).2; omega
 have HIN := iD (jE A2 np c2 i w1.heap.size w2.heap.size pr v (w2.alloc (.cells #[.int .i64 v] 3)) HO3.out HVB.out (by have := HZ2.out; simp; omega) HNE.out hi (by omega))
 go_wp2_with fail
 refine HIN.out.mono ?_
 rintro e w4 ⟨A4, c4, rfl, hS4, hA4, hb4⟩
 have HB4 : Hid (Bpv w #[.int .i64 co, .slice Al nl cl, .slice Ap np cp] w4) := ⟨HB3.out.b0.below hb4.out (by omega), HB3.out.b1.below hb4.out (by omega), HB3.out.bl.trans (hb4.out.mono (by omega))⟩
 have HS4 := iD hS4.out
 have HA4 := iD hA4.out
 clear hS4 hA4 hb4 HIN HNE HB3 HO3 HVB HO2 HB2 HZ2
 have y2 := HB4.out.b0.frozen 2
 have g2 := HB4.out.b0.cell 2
 have HBX := iD (HB4.out.cut (u := .slice A4 (np + 1) c4))
 have HSX := iD (HS4.out.ne (x := w.heap.size) (i := 2) (u := .slice A4 (np + 1) c4) (fun b off e => by have := HA4.out b off e; omega))
 go_upto_region 4 with (fail)
 clear y2 g2
 have HWH : Hid (∀ b off, A4 = some ⟨b, off, none⟩ → w.heap.size ≤ b) := fun b off e => by have := HA4.out b off e; omega
 have HA4' : Hid (∀ b off, A4 = some ⟨b, off, none⟩ → b ≠ w.heap.size + 1) := fun b off e => by have := HA4.out b off e; omega
 have hzx : (w4.setCell ⟨w.heap.size, 2, none⟩ (.slice A4 (np + 1) c4)).heap.size = w4.heap.size := by simp [World.setCell]
 rw [← hzx] at HSX
 generalize World.setCell w4 _ _ = X at *
 have g0 := HBX.out.b0.c0
 have g1 := HBX.out.b0.c1
 have g2 := HBX.out.b0.c2
 have d0 := HBX.out.b1.cell 0
 have d1 := HBX.out.b1.cell 1
 have d2 := HBX.out.b1.cell 2
 have y0 := HBX.out.b1.frozen 0
 have y1 := HBX.out.b1.frozen 1
 have y2 := HBX.out.b1.frozen 2
 have HE := iD (HBX.out.fin)
 have HSE : Hid (Sl (((X.setCell ⟨w.heap.size + 1, 0, none⟩ (.int .i64 co)).setCell ⟨w.heap.size + 1, 1, none⟩ (.slice Al nl cl)).setCell ⟨w.heap.size + 1, 2, none⟩ (.slice A4 (np + 1) c4)) (X.heap.size) 1 A4 (np + 1) c4 (zK (xn pr v))) := by unfold Hid; rw [HV.out]; exact ((HSX.out.ne HA4'.out).ne HA4'.out).ne HA4'.out
 go_wp2_with fail
 have hz : X.heap.size ≤ (((X.setCell ⟨w.heap.size + 1, 0, none⟩ (.int .i64 co)).setCell ⟨w.heap.size + 1, 1, none⟩ (.slice Al nl cl)).setCell ⟨w.heap.size + 1, 2, none⟩ (.slice A4 (np + 1) c4)).heap.size := by simp [World.setCell]
 generalize World.setCell (World.setCell (World.setCell X _ _) _ _) _ _ = z at *
 have q0 := HE.out.1.c0
 have q1 := HE.out.1.c1
 have q2 := HE.out.1.c2
 exact bodyPost_ret (v := .agg #[.int .i64 co, .slice Al nl cl, .slice A4 (np + 1) c4]) (by simp [results, Tryz.results65, go_sem, q0, q1, q2]) rfl ⟨_, _, _, rfl, HSE.out.more hz, .inr HWH.out, HE.out.2⟩
structure Bst (w : World) (nt gr st : Array Value) (wr : World) : Prop where
 b0 : Blk wr w.heap.size 26 nt
 b1 : Blk wr (w.heap.size + 1) 29 gr
 b2 : Blk wr (w.heap.size + 2) 31 st
 b3 : Blk wr (w.heap.size + 3) 29 #[.int .i64 0, .slice none 0 0, .slice none 0 0]
 bl : Below w.heap.size w wr
theorem Bst.new (w : World) (nt gr st : Array Value) : Bst w nt gr st ((((w.alloc (.cells nt 26)).alloc (.cells gr 29)).alloc (.cells st 31)).alloc (.cells #[.int .i64 0, .slice none 0 0, .slice none 0 0] 29)) := by
 obtain ⟨h0, h1, h2, h3, h4⟩ := jM w 26 29 31 29 nt gr st #[.int .i64 0, .slice none 0 0, .slice none 0 0]
 exact ⟨h0, h1, h2, h3, h4⟩
theorem Bst.later {w wr wr' : World} {nt gr st : Array Value} (h : Bst w nt gr st wr) (hb : Below wr.heap.size wr wr') : Bst w nt gr st wr' := ⟨h.b0.below hb h.b0.lt, h.b1.below hb h.b1.lt, h.b2.below hb h.b2.lt, h.b3.below hb h.b3.lt, h.bl.trans (hb.mono h.bl.size)⟩
theorem Bst.fin {w wr : World} {nt gr st : Array Value} {x y z : Value} (h : Bst w nt gr st wr) : Blk (((wr.setCell ⟨w.heap.size + 3, 0, none⟩ x).setCell ⟨w.heap.size + 3, 1, none⟩ y).setCell ⟨w.heap.size + 3, 2, none⟩ z) (w.heap.size + 3) 29 #[x, y, z] ∧ Below w.heap.size w (((wr.setCell ⟨w.heap.size + 3, 0, none⟩ x).setCell ⟨w.heap.size + 3, 1, none⟩ y).setCell ⟨w.heap.size + 3, 2, none⟩ z) :=
 ⟨((h.b3.set 0 _).set 1 _).set 2 _, ((h.bl.setCell (by simp) _).setCell (by simp) _).setCell (by simp) _⟩
theorem Bst.cut {w wr : World} {nt st : Array Value} {x y z u : Value} (h : Bst w nt #[x, y, z] st wr) : Bst w nt #[x, u, z] st (wr.setCell ⟨w.heap.size + 1, 1, none⟩ u) :=
 ⟨h.b0.far (by simp) _, h.b1.set 1 _, h.b2.far (by simp) _, h.b3.far (by simp) _, h.bl.setCell (by simp) _⟩
theorem sl3 {w : World} {size n c x : Nat} {A : Option Addr} {xs : List Value} {a b d : Value} (h : Sl w w.heap.size size A n c xs) (hx : ∀ b off, A = some ⟨b, off, none⟩ → b ≠ x) : Sl (((w.setCell ⟨x, 0, none⟩ a).setCell ⟨x, 1, none⟩ b).setCell ⟨x, 2, none⟩ d) (((w.setCell ⟨x, 0, none⟩ a).setCell ⟨x, 1, none⟩ b).setCell ⟨x, 2, none⟩ d).heap.size size A n c xs :=
 (((h.ne hx).ne hx).ne hx).more (by simp [World.setCell])
def ya (ns : List Nd) (ds : List Dv) (ls : List Lk) (x : Sp) : List Lk × Bool :=
 if x.kind = 3 then (if zg ns ds ls ⟨x.dev, x.pos, x.key⟩ ≠ 0 then (ls, false) else (xw ⟨x.dev, x.pos, x.key⟩ ls, true))
 else match vT x.dev x.key ls with
  | none => (ls, false)
  | some i => (ls.eraseIdx i, true)
def jS (w : World) (co : Int) (Al Ap : Option Addr) (nl cl np cp : Nat) (ns : List Nd) (ds : List Dv) (ls : List Lk) (x : Sp) (e : Ending) (w' : World) : Prop :=
 ∃ (A : Option Addr) (n c : Nat), e = .returned (.tuple #[.agg #[.int .i64 co, .slice A n c, .slice Ap np cp], .bool (ya ns ds ls x).2]) ∧ Hid (Sl w' w'.heap.size 3 A n c ((ya ns ds ls x).1.flatMap Lk.cells)) ∧ Hid (A = Al ∧ n = nl ∧ c = cl ∧ (ya ns ds ls x).1 = ls ∨ ∀ b off, A = some ⟨b, off, none⟩ → w.heap.size ≤ b) ∧ Hid (Below w.heap.size w w')
theorem rQ.any {w : World} {ns : List Nd} {ds : List Dv} {ls : List Lk} {d q : Int} {e : Ending} {w' : World} (h : rQ w ns ds ls d q e w') : ∃ (A : Option Addr) (n c : Nat) (er : Int), e = .returned (.tuple #[.slice A n c, .int .i64 er]) ∧ Hid (Below w.heap.size w w') := by
 obtain ⟨⟨-, rfl⟩ | ⟨-, -, rfl⟩ | ⟨-, i, A, c, -, rfl, -⟩, hb⟩ := h
 ·exact ⟨_, _, _, _, rfl, hb⟩
 ·exact ⟨_, _, _, _, rfl, hb⟩
 ·exact ⟨_, _, _, _, rfl, hb⟩
theorem tn (An Ad Al Ap : Option Addr) (nn cn nd cd nl cl np cp : Nat) (ns : List Nd) (ds : List Dv) (ls : List Lk) (co k d no p q : Int) (w : World) (hla : Laid w) (hn : Sl w w.heap.size 3 An nn cn (ns.flatMap Nd.cells)) (hd : Sl w w.heap.size 5 Ad nd cd (ds.flatMap Dv.cells)) (hl : Sl w w.heap.size 3 Al nl cl (ls.flatMap Lk.cells)) (hsn : ∀ x ∈ ns, x.name.size ≤ 9223372036854775807) (hsd : ∀ x ∈ ds, x.name.size ≤ 9223372036854775807) (hk : k = 3 ∨ k = 4) (h0 : zO ns ds ls = 0) :
 Calls Tryz.prog 66 #[.agg #[.slice An nn cn, .slice Ad nd cd], .agg #[.int .i64 co, .slice Al nl cl, .slice Ap np cp], .agg #[.int .i64 k, .int .i64 d, .int .i64 no, .int .i64 p, .int .i64 q]] w (jS w co Al Ap nl cl np cp ns ds ls ⟨k, d, no, p, q⟩) := by
 have HB := iD (Bst.new w #[.slice An nn cn, .slice Ad nd cd] #[.int .i64 co, .slice Al nl cl, .slice Ap np cp] #[.int .i64 k, .int .i64 d, .int .i64 no, .int .i64 p, .int .i64 q])
 have HNl := iD hn; have HDl := iD hd; have HLl := iD hl; have HLa := iD hla; have HSN := iD hsn; have HSD := iD hsd; have HZ := iD h0
 obtain rfl : ls.length = nl := hl.len (fun _ => rfl) (by decide)
 clear hn hd hl hla hsn hsd h0
 go_enter Tryz.func66, Tryz.ntmps66
 go_upto_region 1 with (fail)
 generalize World.alloc (World.alloc (World.alloc (World.alloc w _) _) _) _ = W at *
 rw [show w.heap.size + 1 + 1 = w.heap.size + 2 from rfl, show w.heap.size + 2 + 1 = w.heap.size + 3 from rfl]
 have HRM := iD (pp An Ad Al nn cn nd cd cl w.heap.size w.heap.size w.heap.size ns ds ls d q W (HLa.out.below HB.out.bl lR) (HNl.out.below HB.out.bl lR) (HDl.out.below HB.out.bl lR) (HLl.out.below HB.out.bl lR) HB.out.bl.size HB.out.bl.size HB.out.bl.size HSN.out HSD.out)
 have k0 := HB.out.b0.c0
 have k1 := HB.out.b0.c1
 have g0 := HB.out.b1.c0
 have g1 := HB.out.b1.c1
 have g2 := HB.out.b1.c2
 have s0 := HB.out.b2.c0
 have s1 := HB.out.b2.c1
 have s3 := HB.out.b2.c3
 have s4 := HB.out.b2.c4
 go_wp2_with fail
 clear k0 k1 g0 g1 g2 s0 s1 s3 s4
 refine HRM.out.mono ?_
 have HWL : Hid (w.heap.size + 3 < W.heap.size) := HB.out.b3.lt
 rcases hk with rfl | rfl; rotate_left
 ·rintro e w1 ⟨⟨h1, -⟩ | ⟨-, hi, rfl⟩ | ⟨-, i, A, c, hi, rfl, hO⟩, hb⟩
  ·exact absurd HZ.out h1
  ·have HT : Hid (ya ns ds ls ⟨4, d, no, p, q⟩ = (ls, false)) := by unfold Hid ya; rw [if_neg (show ¬ (4 : Int) = 3 by decide)]; simp only [hi]
   have HB1 := iD (HB.out.later hb.out)
   clear hi hb HRM
   have g0 := HB1.out.b1.c0
   have g1 := HB1.out.b1.c1
   have g2 := HB1.out.b1.c2
   have s0 := HB1.out.b2.c0
   have d0 := HB1.out.b3.cell 0
   have d1 := HB1.out.b3.cell 1
   have d2 := HB1.out.b3.cell 2
   have y0 := HB1.out.b3.frozen 0
   have y1 := HB1.out.b3.frozen 1
   have y2 := HB1.out.b3.frozen 2
   have HE := iD (HB1.out.fin (x := .int .i64 co) (y := .slice Al ls.length cl) (z := .slice Ap np cp))
   have HSE : Hid (Sl (((w1.setCell ⟨w.heap.size + 3, 0, none⟩ (.int .i64 co)).setCell ⟨w.heap.size + 3, 1, none⟩ (.slice Al ls.length cl)).setCell ⟨w.heap.size + 3, 2, none⟩ (.slice Ap np cp)) w.heap.size 3 Al ls.length cl (ls.flatMap Lk.cells)) := (((HLl.out.below HB1.out.bl lR).setCell (by simp) _).setCell (by simp) _).setCell (by simp) _
   go_wp2_with fail
   generalize World.setCell (World.setCell (World.setCell w1 _ _) _ _) _ _ = z at *
   have q0 := HE.out.1.c0
   have q1 := HE.out.1.c1
   have q2 := HE.out.1.c2
   exact bodyPost_ret (v := .tuple #[.agg #[.int .i64 co, .slice Al ls.length cl, .slice Ap np cp], .bool false]) (by simp [results, Tryz.results66, go_sem, q0, q1, q2]) rfl ⟨_, _, _, by rw [HT.out], by rw [HT.out]; exact HSE.out.more HE.out.2.size, .inl ⟨rfl, rfl, rfl, by rw [HT.out]⟩, HE.out.2⟩
  ·have HT : Hid (ya ns ds ls ⟨4, d, no, p, q⟩ = (ls.eraseIdx i, true)) := by unfold Hid ya; rw [if_neg (show ¬ (4 : Int) = 3 by decide)]; simp only [hi]
   have HB1 := iD (HB.out.later hb.out)
   have HOS := iD (Sl.of_own hO.out)
   have HON : Hid (∀ b off, A = some ⟨b, off, none⟩ → w.heap.size + 3 < b) := fun b off e => by
    have h := hO.out.lt b (by rw [e]; rfl)
    have := HWL.out; omega
   clear hi hb hO HRM
   have g1 := HB1.out.b1.c1
   have s0 := HB1.out.b2.c0
   have z1 := HB1.out.b1.frozen 1
   have HBX := iD (HB1.out.cut (u := .slice A (ls.length - 1) c))
   have HSX := iD ((HOS.out.ne (x := w.heap.size + 1) (i := 1) (u := .slice A (ls.length - 1) c) (fun b off e => by have := HON.out b off e; omega)).more (show _ ≤ (World.setCell w1 ⟨w.heap.size + 1, 1, none⟩ (.slice A (ls.length - 1) c)).heap.size by simp [World.setCell]))
   have HWH : Hid (∀ b off, A = some ⟨b, off, none⟩ → w.heap.size ≤ b) := fun b off e => by have := HON.out b off e; omega
   have HNX : Hid (∀ b off, A = some ⟨b, off, none⟩ → b ≠ w.heap.size + 3) := fun b off e => by have := HON.out b off e; omega
   go_upto_region 7 with (fail)
   clear g1 z1 s0 HOS HON
   generalize World.setCell w1 _ _ = X at *
   have g0 := HBX.out.b1.c0
   have g1 := HBX.out.b1.c1
   have g2 := HBX.out.b1.c2
   have d0 := HBX.out.b3.cell 0
   have d1 := HBX.out.b3.cell 1
   have d2 := HBX.out.b3.cell 2
   have y0 := HBX.out.b3.frozen 0
   have y1 := HBX.out.b3.frozen 1
   have y2 := HBX.out.b3.frozen 2
   have HE := iD (HBX.out.fin (x := .int .i64 co) (y := .slice A (ls.length - 1) c) (z := .slice Ap np cp))
   have HSE := iD (sl3 (x := w.heap.size + 3) (a := .int .i64 co) (b := .slice A (ls.length - 1) c) (d := .slice Ap np cp) HSX.out HNX.out)
   go_wp2_with fail
   generalize World.setCell (World.setCell (World.setCell X _ _) _ _) _ _ = z at *
   have q0 := HE.out.1.c0
   have q1 := HE.out.1.c1
   have q2 := HE.out.1.c2
   exact bodyPost_ret (v := .tuple #[.agg #[.int .i64 co, .slice A (ls.length - 1) c, .slice Ap np cp], .bool true]) (by simp [results, Tryz.results66, go_sem, q0, q1, q2]) rfl ⟨_, _, _, by rw [HT.out], by rw [HT.out]; exact HSE.out, .inr HWH.out, HE.out.2⟩
 ·intro e w1 hp
  obtain ⟨A, n, c, er, rfl, hb⟩ := hp.any
  have HB1 := iD (HB.out.later hb.out)
  clear hp hb HRM
  have HAD := iD (ly An Ad Al nn cn nd cd cl w.heap.size w.heap.size w.heap.size ns ds ls d p q w1 (HLa.out.below HB1.out.bl lR) (HNl.out.below HB1.out.bl lR) (HDl.out.below HB1.out.bl lR) (HLl.out.below HB1.out.bl lR) HB1.out.bl.size HB1.out.bl.size HB1.out.bl.size HSN.out HSD.out)
  have k0 := HB1.out.b0.c0
  have k1 := HB1.out.b0.c1
  have g0 := HB1.out.b1.c0
  have g1 := HB1.out.b1.c1
  have g2 := HB1.out.b1.c2
  have s0 := HB1.out.b2.c0
  have s1 := HB1.out.b2.c1
  have s3 := HB1.out.b2.c3
  have s4 := HB1.out.b2.c4
  go_wp2_with fail
  clear k0 k1 g0 g1 g2 s0 s1 s3 s4
  refine HAD.out.mono ?_
  have HWL1 : Hid (w.heap.size + 3 < w1.heap.size) := HB1.out.b3.lt
  rintro e w2 ⟨⟨h1, rfl⟩ | ⟨h1, A3, c3, rfl, hO⟩, hb⟩
  ·have HT : Hid (ya ns ds ls ⟨3, d, no, p, q⟩ = (ls, false)) := by unfold Hid ya; rw [if_pos rfl, if_pos h1]
   have HB2 := iD (HB1.out.later hb.out)
   have q1 : (zg ns ds ls ⟨d, p, q⟩ != 0) = true := by simpa using h1
   clear h1 hb HAD HB1
   have g0 := HB2.out.b1.c0
   have g1 := HB2.out.b1.c1
   have g2 := HB2.out.b1.c2
   have s0 := HB2.out.b2.c0
   have d0 := HB2.out.b3.cell 0
   have d1 := HB2.out.b3.cell 1
   have d2 := HB2.out.b3.cell 2
   have y0 := HB2.out.b3.frozen 0
   have y1 := HB2.out.b3.frozen 1
   have y2 := HB2.out.b3.frozen 2
   have HE := iD (HB2.out.fin (x := .int .i64 co) (y := .slice Al ls.length cl) (z := .slice Ap np cp))
   have HSE : Hid (Sl (((w2.setCell ⟨w.heap.size + 3, 0, none⟩ (.int .i64 co)).setCell ⟨w.heap.size + 3, 1, none⟩ (.slice Al ls.length cl)).setCell ⟨w.heap.size + 3, 2, none⟩ (.slice Ap np cp)) w.heap.size 3 Al ls.length cl (ls.flatMap Lk.cells)) := (((HLl.out.below HB2.out.bl lR).setCell (by simp) _).setCell (by simp) _).setCell (by simp) _
   go_wp2_with fail
   generalize World.setCell (World.setCell (World.setCell w2 _ _) _ _) _ _ = z at *
   have q0 := HE.out.1.c0
   have q1 := HE.out.1.c1
   have q2 := HE.out.1.c2
   exact bodyPost_ret (v := .tuple #[.agg #[.int .i64 co, .slice Al ls.length cl, .slice Ap np cp], .bool false]) (by simp [results, Tryz.results66, go_sem, q0, q1, q2]) rfl ⟨_, _, _, by rw [HT.out], by rw [HT.out]; exact HSE.out.more HE.out.2.size, .inl ⟨rfl, rfl, rfl, by rw [HT.out]⟩, HE.out.2⟩
  ·have HT : Hid (ya ns ds ls ⟨3, d, no, p, q⟩ = (xw ⟨d, p, q⟩ ls, true)) := by unfold Hid ya; rw [if_pos rfl, if_neg (by simp [h1])]
   have HB2 := iD (HB1.out.later hb.out)
   have HOS := iD (Sl.of_own hO.out)
   have HON : Hid (∀ b off, A3 = some ⟨b, off, none⟩ → w.heap.size + 3 < b) := fun b off e => by
    have h := hO.out.lt b (by rw [e]; rfl)
    have := HWL1.out; omega
   clear h1 hb hO HAD HB1
   have g1 := HB2.out.b1.c1
   have s0 := HB2.out.b2.c0
   have z1 := HB2.out.b1.frozen 1
   have HBX := iD (HB2.out.cut (u := .slice A3 (ls.length + 1) c3))
   have HSX := iD ((HOS.out.ne (x := w.heap.size + 1) (i := 1) (u := .slice A3 (ls.length + 1) c3) (fun b off e => by have := HON.out b off e; omega)).more (show _ ≤ (World.setCell w2 ⟨w.heap.size + 1, 1, none⟩ (.slice A3 (ls.length + 1) c3)).heap.size by simp [World.setCell]))
   have HWH : Hid (∀ b off, A3 = some ⟨b, off, none⟩ → w.heap.size ≤ b) := fun b off e => by have := HON.out b off e; omega
   have HNX : Hid (∀ b off, A3 = some ⟨b, off, none⟩ → b ≠ w.heap.size + 3) := fun b off e => by have := HON.out b off e; omega
   go_upto_region 7 with (fail)
   clear g1 z1 s0 HOS HON
   generalize World.setCell w2 _ _ = X at *
   have g0 := HBX.out.b1.c0
   have g1 := HBX.out.b1.c1
   have g2 := HBX.out.b1.c2
   have d0 := HBX.out.b3.cell 0
   have d1 := HBX.out.b3.cell 1
   have d2 := HBX.out.b3.cell 2
   have y0 := HBX.out.b3.frozen 0
   have y1 := HBX.out.b3.frozen 1
   have y2 := HBX.out.b3.frozen 2
   have HE := iD (HBX.out.fin (x := .int .i64 co) (y := .slice A3 (ls.length + 1) c3) (z := .slice Ap np cp))
   have HSE := iD (sl3 (x := w.heap.size + 3) (a := .int .i64 co) (b := .slice A3 (ls.length + 1) c3) (d := .slice Ap np cp) HSX.out HNX.out)
   go_wp2_with fail
   generalize World.setCell (World.setCell (World.setCell X _ _) _ _) _ _ = z at *
   have q0 := HE.out.1.c0
   have q1 := HE.out.1.c1
   have q2 := HE.out.1.c2
   exact bodyPost_ret (v := .tuple #[.agg #[.int .i64 co, .slice A3 (ls.length + 1) c3, .slice Ap np cp], .bool true]) (by simp [results, Tryz.results66, go_sem, q0, q1, q2]) rfl ⟨_, _, _, by rw [HT.out], by rw [HT.out]; exact HSE.out, .inr HWH.out, HE.out.2⟩
end
section
open Go.RowKit
section
variable (ns : List Nd) (ds : List Dv) (co : Int) (t : Sm) (d v p q : Int)
theorem uo {k : Int} (hk : k = 1 ∨ k = 2) : zf ns ds co t ⟨k, d, v, p, q⟩ = ⟨hzD ns ds t.s d k co t.ls t.pr, ⟨t.s.set d.toNat k, t.ls, if rF ds k d then [] else t.pr⟩, true⟩ := by unfold zf; rw [if_pos hk]
theorem pO : zf ns ds co t ⟨5, d, v, p, q⟩ = if lvB (zY ns.length ds t.s) v then ⟨[8], t, true⟩ else ⟨[], ⟨t.s, t.ls, xn t.pr v⟩, true⟩ := by unfold zf; rw [if_neg (by simp), if_pos rfl]
theorem ng : zf ns ds co t ⟨6, d, v, p, q⟩ = if t.s.getD d.toNat 0 ≠ p then ⟨[8], t, false⟩ else ⟨[], t, true⟩ := by
 unfold zf; rw [if_neg (by simp), if_neg (by simp), if_neg (by simp)]; rfl
theorem ji (ls : List Lk) : ya ns ds ls ⟨4, d, v, p, q⟩ = match vT d q ls with
 | none => (ls, false)
 | some i => (ls.eraseIdx i, true) := by unfold ya; rw [if_neg (by simp)] <;> rfl
theorem jj (ls : List Lk) : ya ns ds ls ⟨3, d, v, p, q⟩ = if zg ns ds ls ⟨d, p, q⟩ ≠ 0 then (ls, false) else (xw ⟨d, p, q⟩ ls, true) := by unfold ya; rw [if_pos rfl]
theorem nh : zf ns ds co t ⟨4, d, v, p, q⟩ = if (ya ns ds t.ls ⟨4, d, v, p, q⟩).2 then ⟨[], ⟨t.s, (ya ns ds t.ls ⟨4, d, v, p, q⟩).1, t.pr⟩, true⟩ else ⟨[4], t, true⟩ := by
 have e : zf ns ds co t ⟨4, d, v, p, q⟩ = match vT d q t.ls with
  | none => ⟨[4], t, true⟩
  | some i => ⟨[], ⟨t.s, t.ls.eraseIdx i, t.pr⟩, true⟩ := by
  unfold zf; rw [if_neg (by simp), if_neg (by simp), if_pos rfl]; rfl
 rw [e, ji]
 rcases vT d q t.ls with _ | i <;> rfl
theorem rk : zf ns ds co t ⟨3, d, v, p, q⟩ = if t.s.getD d.toNat 0 ≠ p then ⟨[8], t, false⟩ else if (ya ns ds t.ls ⟨3, d, v, p, q⟩).2 then ⟨[], ⟨t.s, (ya ns ds t.ls ⟨3, d, v, p, q⟩).1, t.pr⟩, true⟩ else ⟨[4], t, true⟩ := by
 rw [jj]
 unfold zf; rw [if_neg (by simp), if_neg (by simp), if_neg (by simp)]
 dsimp only
 by_cases h : t.s.getD d.toNat 0 ≠ p
 ·rw [if_pos h, if_pos h]
 ·rw [if_neg h, if_neg h, if_neg (by simp)]
  by_cases h2 : zg ns ds t.ls ⟨d, p, q⟩ ≠ 0
  ·rw [if_pos h2, if_pos h2]; rfl
  ·rw [if_neg h2, if_neg h2]; rfl
theorem lq {ls : List Lk} {x : Sp} (h : (ya ns ds ls x).2 = false) : (ya ns ds ls x).1 = ls := by
 unfold ya at h ⊢
 split at h
 ·next h1 =>
  rw [if_pos h1]
  split at h
  ·next h2 => rw [if_pos h2]
  ·cases h
 ·next h1 =>
  rw [if_neg h1]
  split at h
  ·rfl
  ·cases h
end
structure xH (w : World) (A1 A2 Al Ap : Option Addr) (n1 c1 n2 c2 nl cl np cp : Nat) (o : So) : Prop where
 h : Sl w w.heap.size 1 A1 n1 c1 (zK o.h)
 s : Sl w w.heap.size 1 A2 n2 c2 (zK o.t.s)
 l : Sl w w.heap.size 3 Al nl cl (o.t.ls.flatMap Lk.cells)
 p : Sl w w.heap.size 1 Ap np cp (zK o.t.pr)
def Fre (B : Nat) (A A' : Option Addr) (n n' : Nat) : Prop := A' = A ∧ n' = n ∨ ∀ b off, A' = some ⟨b, off, none⟩ → B ≤ b
def ui (w : World) (As Al0 Ap0 : Option Addr) (n nl0 np0 : Nat) (co : Int) (o : So) (e : Ending) (w' : World) : Prop :=
 ∃ (A1 A2 Al Ap : Option Addr) (n1 c1 n2 c2 nl cl np cp : Nat), e = .returned (.tuple #[.slice A1 n1 c1, .slice A2 n2 c2, .agg #[.int .i64 co, .slice Al nl cl, .slice Ap np cp], .bool o.ok]) ∧ Hid (xH w' A1 A2 Al Ap n1 c1 n2 c2 nl cl np cp o) ∧ Hid (Fre w.heap.size none A1 0 n1 ∧ Fre w.heap.size As A2 n n2 ∧ Fre w.heap.size Al0 Al nl0 nl ∧ Fre w.heap.size Ap0 Ap np0 np) ∧ Hid (Below w.heap.size w w')
theorem jA {w w2 wa : World} {size n c x : Nat} {A : Option Addr} {xs : List Value} {a b d : Value} (h : Sl w2 w2.heap.size size A n c xs) (ho : Sl w w.heap.size size A n c xs ∨ ∀ b off, A = some ⟨b, off, none⟩ → b ≠ x) (hb : Below w2.heap.size w2 wa) (hz : Below w.heap.size w (((wa.setCell ⟨x, 0, none⟩ a).setCell ⟨x, 1, none⟩ b).setCell ⟨x, 2, none⟩ d)) : Sl (((wa.setCell ⟨x, 0, none⟩ a).setCell ⟨x, 1, none⟩ b).setCell ⟨x, 2, none⟩ d) (((wa.setCell ⟨x, 0, none⟩ a).setCell ⟨x, 1, none⟩ b).setCell ⟨x, 2, none⟩ d).heap.size size A n c xs := by
 rcases ho with ho | ho
 ·exact (ho.below hz lR).more hz.size
 ·exact sl3 ((h.below hb lR).more hb.size) ho
theorem uq {z : World} {bq : Nat} {v : Int} (hv : Blk z bq 3 #[.int .i64 v]) : Sl z z.heap.size 1 (some ⟨bq, 0, none⟩) 1 1 (zK [v]) :=
 ⟨rfl, Nat.le_refl _, by decide, (fun e => by cases e), fun _ => ⟨bq, 0, rfl, hv.lt, fun j u hu => by rw [Nat.zero_add, hv.cell]; simpa [zK] using hu⟩⟩
theorem zh {w : World} {g x : Nat} {t : TypeId} {cs : Array Value} {a b d : Value} (h : Blk w g t cs) (hg : g ≠ x) : Blk (((w.setCell ⟨x, 0, none⟩ a).setCell ⟨x, 1, none⟩ b).setCell ⟨x, 2, none⟩ d) g t cs := ((h.far (p := ⟨x, 0, none⟩) hg a).far (p := ⟨x, 1, none⟩) hg b).far (p := ⟨x, 2, none⟩) hg d
theorem Bst.cells {w wr : World} {An Ad Al Ap : Option Addr} {nn cn nd cd nl cl np cp : Nat} {co k d no p q : Int} (h : Bst w #[.slice An nn cn, .slice Ad nd cd] #[.int .i64 co, .slice Al nl cl, .slice Ap np cp] #[.int .i64 k, .int .i64 d, .int .i64 no, .int .i64 p, .int .i64 q] wr) :
 (wr.cell? ⟨w.heap.size, 0, none⟩ = some (.slice An nn cn) ∧ wr.cell? ⟨w.heap.size, 1, none⟩ = some (.slice Ad nd cd)) ∧ (wr.cell? ⟨w.heap.size + 1, 0, none⟩ = some (.int .i64 co) ∧ wr.cell? ⟨w.heap.size + 1, 1, none⟩ = some (.slice Al nl cl) ∧ wr.cell? ⟨w.heap.size + 1, 2, none⟩ = some (.slice Ap np cp)) ∧ wr.cell? ⟨w.heap.size + 2, 0, none⟩ = some (.int .i64 k) ∧ wr.cell? ⟨w.heap.size + 2, 1, none⟩ = some (.int .i64 d) ∧ wr.cell? ⟨w.heap.size + 2, 2, none⟩ = some (.int .i64 no) ∧ wr.cell? ⟨w.heap.size + 2, 3, none⟩ = some (.int .i64 p) ∧ wr.cell? ⟨w.heap.size + 2, 4, none⟩ = some (.int .i64 q) :=
 ⟨⟨h.b0.cell 0, h.b0.cell 1⟩, ⟨h.b1.cell 0, h.b1.cell 1, h.b1.cell 2⟩, h.b2.cell 0, h.b2.cell 1, h.b2.cell 2, h.b2.cell 3, h.b2.cell 4⟩
theorem rU (An Ad As Al Ap : Option Addr) (nn cn nd cd n c nl cl np cp : Nat) (ns : List Nd) (ds : List Dv) (s : List Int) (ls : List Lk) (pr : List Int) (co k d no p q : Int) (w : World) (h : yp w An Ad As Al Ap nn cn nd cd n c nl cl np cp ns ds s ls pr) (hok : tc ns ds ⟨s, ls, pr⟩) (_hco : 0 ≤ co ∧ co ≤ 7) (hx : zc ns.length ds.length ⟨k, d, no, p, q⟩ = 0) (hk : k = 5) :
 Calls Tryz.prog 39 #[.agg #[.slice An nn cn, .slice Ad nd cd], .slice As n c, .agg #[.int .i64 co, .slice Al nl cl, .slice Ap np cp], .agg #[.int .i64 k, .int .i64 d, .int .i64 no, .int .i64 p, .int .i64 q]] w (ui w As Al Ap n nl np co (zf ns ds co ⟨s, ls, pr⟩ ⟨k, d, no, p, q⟩)) := by
 have HK := iD hk
 clear hk
 obtain ⟨hln, hld, hls⟩ := h.ln
 have hlp : pr.length = np := h.hp.len (fun _ => rfl) (by decide)
 have HH := iD h
 have HB := iD (Bst.new w #[.slice An nn cn, .slice Ad nd cd] #[.int .i64 co, .slice Al nl cl, .slice Ap np cp] #[.int .i64 k, .int .i64 d, .int .i64 no, .int .i64 p, .int .i64 q])
 obtain ⟨hx1, hx2, hx3, hx4, hx5⟩ := xR hx
 dsimp only at hx1 hx2 hx3 hx4 hx5
 obtain ⟨hcn, hsl⟩ := za hok.s
 have HNK := iD (wL.of hcn)
 have HOK := iD hok
 have hnn : nn ≤ 32 := by have := HNK.out.nl; omega
 have hnd : nd ≤ 64 := by have := HNK.out.dl; omega
 dsimp only at hsl
 clear h hok hx hcn
 go_enter Tryz.func39, Tryz.ntmps39
 go_upto_region 1 with (fail)
 generalize World.alloc (World.alloc (World.alloc (World.alloc w _) _) _) _ = W at *
 rw [show w.heap.size + 1 + 1 = w.heap.size + 2 from rfl, show w.heap.size + 2 + 1 = w.heap.size + 3 from rfl]
 have HM := iD (HH.out.below HB.out.bl)
 obtain ⟨⟨k0, k1⟩, ⟨g0, g1, g2⟩, s0, s1, s2, s3, s4⟩ := HB.out.cells
 have hk := HK.out
 clear HK
 subst hk
 have hlt := hx3 rfl
 obtain ⟨v, rfl⟩ := Int.eq_ofNat_of_zero_le hlt.1
 have hv : v < nn := by omega
 go_wp2_with fail
 clear k0 k1 g0 g1 g2 s0 s1 s2 s3 s4
 refine (vr An Ad As nn cn nd cd n c W.heap.size W.heap.size ds s W HM.out.hd lR HM.out.hs lR (by omega) (by omega) (by omega) (by have := HNK.out.e; rwa [hln] at this) (by have := HNK.out.a; rwa [hln] at this)).mono ?_
 rintro e w1 ⟨A, B, P, C, rfl, hO1, hO2, hP, hC, hb⟩
 have HB1 := iD (HB.out.later hb.out)
 obtain ⟨g, x, rfl, -, -, hx, hcx, -, -⟩ := hO2.out.at hv
 have HCV : Hid (lvB (zY ns.length ds s) v = yn x) := by unfold Hid lvB; rw [hln, xL hC.out, List.getD_eq_getElem?_getD]; simp [hx]
 clear hO1 hO2 hP hC hb HB HM hx
 obtain ⟨⟨k0, k1⟩, ⟨g0, g1, g2⟩, s0, s1, s2, s3, s4⟩ := HB1.out.cells
 rcases hlv : yn x with _ | _
 ·have q1 : (bits .and .i64 x 1 != 0) = false := hlv
  have HT : Hid (zf ns ds co ⟨s, ls, pr⟩ ⟨5, d, v, p, q⟩ = ⟨[], ⟨s, ls, xn pr v⟩, true⟩) := by unfold Hid; rw [pO, HCV.out, hlv]; rfl
  go_upto_region 13 with (fail)
  clear q1 hcx
  go_wp2_with fail
  clear k0 k1 g0 g1 g2 s0 s1 s2 s3 s4
  refine (oy Al Ap nl cl np cp co v pr w1 (HH.out.below HB1.out.bl).hp (by have := se HOK.out.p; dsimp only at this; omega) (ux _ _ _ |>.mp HOK.out.p).2).mono ?_
  rintro e w2 ⟨A4, n4, c4, rfl, hS, hW, hb⟩
  have HB2 := iD (HB1.out.later hb.out)
  have HS4 := iD hS.out
  have HWH := iD hW.out
  have HLT1 : Hid (w.heap.size + 3 < w1.heap.size) := HB1.out.b3.lt
  have HFA : Hid (Fre w.heap.size Ap A4 np n4) := by
   rcases hW.out with ⟨h, h2, -⟩ | h
   ·exact .inl ⟨h, h2⟩
   ·exact .inr fun b off e => by have := h b off e; have := HB1.out.bl.size; omega
  clear hS hW hb HB1
  have d0 := HB2.out.b3.cell 0
  have d1 := HB2.out.b3.cell 1
  have d2 := HB2.out.b3.cell 2
  have y0 := HB2.out.b3.frozen 0
  have y1 := HB2.out.b3.frozen 1
  have y2 := HB2.out.b3.frozen 2
  have HE := iD (HB2.out.fin (x := .int .i64 co) (y := .slice Al nl cl) (z := .slice A4 n4 c4))
  have HSO : Hid (xH (((w2.setCell ⟨w.heap.size + 3, 0, none⟩ (.int .i64 co)).setCell ⟨w.heap.size + 3, 1, none⟩ (.slice Al nl cl)).setCell ⟨w.heap.size + 3, 2, none⟩ (.slice A4 n4 c4)) none As Al A4 0 0 n c nl cl n4 c4 ⟨[], ⟨s, ls, xn pr v⟩, true⟩) := by
   refine ⟨Sl.nil _ _ _, (HH.out.below HE.out.2).hs, (HH.out.below HE.out.2).hl, ?_⟩
   rcases HWH.out with ⟨rfl, rfl, rfl, e⟩ | hf
   ·dsimp only; rw [e]; exact (HH.out.below HE.out.2).hp
   ·exact sl3 HS4.out (fun b off e => by have := hf b off e; have := HLT1.out; omega)
  go_wp2_with fail
  clear d0 d1 d2 y0 y1 y2
  generalize World.setCell (World.setCell (World.setCell w2 _ _) _ _) _ _ = z at *
  have q0 := HE.out.1.c0
  have q1 := HE.out.1.c1
  have q2 := HE.out.1.c2
  exact bodyPost_ret (v := .tuple #[.slice none 0 0, .slice As n c, .agg #[.int .i64 co, .slice Al nl cl, .slice A4 n4 c4], .bool true]) (by simp [results, Tryz.results39, go_sem, q0, q1, q2]) rfl ⟨_, _, _, _, _, _, _, _, _, _, _, _, by rw [HT.out], by rw [HT.out]; exact HSO, ⟨.inl ⟨rfl, rfl⟩, .inl ⟨rfl, rfl⟩, .inl ⟨rfl, rfl⟩, HFA.out⟩, HE.out.2⟩
 ·have q1 : (bits .and .i64 x 1 != 0) = true := hlv
  have HT : Hid (zf ns ds co ⟨s, ls, pr⟩ ⟨5, d, v, p, q⟩ = ⟨[8], ⟨s, ls, pr⟩, true⟩) := by unfold Hid; rw [pO, HCV.out, hlv]; rfl
  go_upto_region 12 with (fail)
  clear q1 hcx k0 k1 g0 g1 g2 s0 s1 s2 s3 s4
  have HG1 := iD HB1.out.b1
  have HBLA : Hid (Below w1.heap.size w1 (w1.alloc (.cells #[.int .i64 8] 3)).drew) := ((Below.refl w1.heap.size w1).alloc lR (.cells #[.int .i64 8] 3)).drew
  have HBA := iD (HB1.out.later HBLA.out)
  have HVA : Hid (Blk (w1.alloc (.cells #[.int .i64 8] 3)).drew w1.heap.size 3 #[.int .i64 8]) := Blk.new w1 3 #[.int .i64 8]
  have HGA := iD (HG1.out.below HBLA.out HG1.out.lt)
  have hqq : w1.heap.size ≠ w.heap.size + 3 := by have := HB1.out.b3.lt; omega
  refine zF (S := fun W' => W'.cell? ⟨w.heap.size + 1, 0, none⟩ = some (.int .i64 co) ∧ W'.cell? ⟨w.heap.size + 1, 1, none⟩ = some (.slice Al nl cl) ∧ W'.cell? ⟨w.heap.size + 1, 2, none⟩ = some (.slice Ap np cp)) (J := [5, 6]) (by kernel_rfl) ?_ (fun AA => ?_)
  ·exact ⟨HG1.out.cell 0, HG1.out.cell 1, HG1.out.cell 2⟩
  try dsimp only at AA
  refine tk 1 65 (ma 7 2) AA ?_
  refine tk 2 66 (ma 7 6) AA ?_
  refine tb 0 (mf 7 3) fun K hK => ?_
  go_simp
  refine hK.out _ _ (fun _ => ?_) (fun AA' => ?_)
  ·exact ⟨HGA.out.cell 0, HGA.out.cell 1, HGA.out.cell 2⟩
  replace AA := AA' rfl
  clear AA' hK K
  try dsimp only at AA
  generalize World.drew (World.alloc w1 _) = wa at *
  have d0 := HBA.out.b3.cell 0; have d1 := HBA.out.b3.cell 1; have d2 := HBA.out.b3.cell 2; have y0 := HBA.out.b3.frozen 0; have y1 := HBA.out.b3.frozen 1; have y2 := HBA.out.b3.frozen 2
  refine tk 3 8 (mf 7 4) AA ?_
  refine tk 4 9 (mf 7 5) AA ?_
  refine tb 5 (mf 7 6) fun K hK => ?_
  go_simp
  refine hK.out _ _ (fun h => by cases h) (fun _ => ?_)
  try clear AA
  clear hK K
  refine tb 6 (mf 7 7) fun K hK => ?_
  go_simp
  refine hK.out _ _ (fun h => by cases h) (fun _ => ?_)
  try clear AA
  clear hK K
  refine zC (by kernel_rfl) ?_ _
  have HE := iD (HBA.out.fin (x := .int .i64 co) (y := .slice Al nl cl) (z := .slice Ap np cp))
  have HSO : Hid (xH (((wa.setCell ⟨w.heap.size + 3, 0, none⟩ (.int .i64 co)).setCell ⟨w.heap.size + 3, 1, none⟩ (.slice Al nl cl)).setCell ⟨w.heap.size + 3, 2, none⟩ (.slice Ap np cp)) (some ⟨w1.heap.size, 0, none⟩) As Al Ap 1 1 n c nl cl np cp ⟨[8], ⟨s, ls, pr⟩, true⟩) := ⟨uq (zh HVA.out hqq), (HH.out.below HE.out.2).hs, (HH.out.below HE.out.2).hl, (HH.out.below HE.out.2).hp⟩
  clear d0 d1 d2 y0 y1 y2
  go_wp2_with fail
  generalize World.setCell (World.setCell (World.setCell wa _ _) _ _) _ _ = z at *
  have q0 := HE.out.1.c0
  have q1 := HE.out.1.c1
  have q2 := HE.out.1.c2
  exact bodyPost_ret (v := .tuple #[.slice (some ⟨w1.heap.size, 0, none⟩) 1 1, .slice As n c, .agg #[.int .i64 co, .slice Al nl cl, .slice Ap np cp], .bool true]) (by simp [results, Tryz.results39, go_sem, q0, q1, q2]) rfl ⟨_, _, _, _, _, _, _, _, _, _, _, _, by rw [HT.out], by rw [HT.out]; exact HSO, ⟨.inr (fun b off e => by injection e with e; injection e with e1 e2; rw [← e1]; exact HB1.out.bl.size), .inl ⟨rfl, rfl⟩, .inl ⟨rfl, rfl⟩, .inl ⟨rfl, rfl⟩⟩, HE.out.2⟩
theorem sc (An Ad As Al Ap : Option Addr) (nn cn nd cd n c nl cl np cp : Nat) (ns : List Nd) (ds : List Dv) (s : List Int) (ls : List Lk) (pr : List Int) (co k d no p q : Int) (w : World) (h : yp w An Ad As Al Ap nn cn nd cd n c nl cl np cp ns ds s ls pr) (hok : tc ns ds ⟨s, ls, pr⟩) (_hco : 0 ≤ co ∧ co ≤ 7) (hx : zc ns.length ds.length ⟨k, d, no, p, q⟩ = 0) (hk : k = 4) :
 Calls Tryz.prog 39 #[.agg #[.slice An nn cn, .slice Ad nd cd], .slice As n c, .agg #[.int .i64 co, .slice Al nl cl, .slice Ap np cp], .agg #[.int .i64 k, .int .i64 d, .int .i64 no, .int .i64 p, .int .i64 q]] w (ui w As Al Ap n nl np co (zf ns ds co ⟨s, ls, pr⟩ ⟨k, d, no, p, q⟩)) := by
 have HK := iD hk
 clear hk
 obtain ⟨hln, hld, hls⟩ := h.ln
 have hlp : pr.length = np := h.hp.len (fun _ => rfl) (by decide)
 have HH := iD h
 have HB := iD (Bst.new w #[.slice An nn cn, .slice Ad nd cd] #[.int .i64 co, .slice Al nl cl, .slice Ap np cp] #[.int .i64 k, .int .i64 d, .int .i64 no, .int .i64 p, .int .i64 q])
 obtain ⟨hx1, hx2, hx3, hx4, hx5⟩ := xR hx
 dsimp only at hx1 hx2 hx3 hx4 hx5
 obtain ⟨hcn, hsl⟩ := za hok.s
 have HNK := iD (wL.of hcn)
 have HOK := iD hok
 have hnn : nn ≤ 32 := by have := HNK.out.nl; omega
 have hnd : nd ≤ 64 := by have := HNK.out.dl; omega
 dsimp only at hsl
 clear h hok hx hcn
 go_enter Tryz.func39, Tryz.ntmps39
 go_upto_region 1 with (fail)
 generalize World.alloc (World.alloc (World.alloc (World.alloc w _) _) _) _ = W at *
 rw [show w.heap.size + 1 + 1 = w.heap.size + 2 from rfl, show w.heap.size + 2 + 1 = w.heap.size + 3 from rfl]
 have HM := iD (HH.out.below HB.out.bl)
 obtain ⟨⟨k0, k1⟩, ⟨g0, g1, g2⟩, s0, s1, s2, s3, s4⟩ := HB.out.cells
 have hk := HK.out
 clear HK
 subst hk
 have HLK := iD (tn An Ad Al Ap nn cn nd cd nl cl np cp ns ds ls co 4 d no p q W (HH.out.below HB.out.bl).la (HH.out.below HB.out.bl).hn (HH.out.below HB.out.bl).hd (HH.out.below HB.out.bl).hl (HH.out.below HB.out.bl).sn (HH.out.below HB.out.bl).sd (by decide) HOK.out.l)
 go_wp2_with fail
 clear k0 k1 g0 g1 g2 s0 s1 s2 s3 s4
 refine HLK.out.mono ?_
 rintro e w2 ⟨A, m, cA, rfl, hS, hW, hb⟩
 have HB2 := iD (HB.out.later hb.out)
 have HS2 := iD hS.out
 have HW2 : Hid (Sl w w.heap.size 3 A m cA ((ya ns ds ls ⟨4, d, no, p, q⟩).1.flatMap Lk.cells) ∨ ∀ b off, A = some ⟨b, off, none⟩ → b ≠ w.heap.size + 3) := by
  rcases hW.out with ⟨rfl, rfl, rfl, e⟩ | h
  ·left; rw [e]; exact HH.out.hl
  ·right; intro b off e; have := h b off e; have := HB.out.b3.lt; omega
 have HWF : Hid (Fre w.heap.size Al A nl m) := by
  rcases hW.out with ⟨h, h2, -⟩ | h
  ·exact .inl ⟨h, h2⟩
  ·exact .inr fun b off e => by have := h b off e; have := HB.out.bl.size; omega
 clear hS hW hb HLK HB
 obtain ⟨L, hL⟩ : ∃ L, L = (ya ns ds ls ⟨4, d, no, p, q⟩).1 := ⟨_, rfl⟩
 rw [← hL] at HS2 HW2
 have HLL := iD hL
 clear hL
 rcases hb2 : (ya ns ds ls ⟨4, d, no, p, q⟩).2 with _ | _
 ·have HLS : Hid (L = ls) := HLL.out.trans (lq ns ds hb2)
  have HT : Hid (zf ns ds co ⟨s, ls, pr⟩ ⟨4, d, no, p, q⟩ = ⟨[4], ⟨s, ls, pr⟩, true⟩) := by unfold Hid; rw [nh, hb2]; rfl
  clear hb2
  go_upto_region 21 with (fail)
  have HBV := iD (HB2.out.later ((Below.refl _ w2).alloc lR (.cells #[.int .i64 co, .slice A m cA, .slice Ap np cp] 29)))
  have HG2 := iD (Blk.new w2 29 #[.int .i64 co, .slice A m cA, .slice Ap np cp])
  have HBL2 : Hid (Below w2.heap.size w2 (w2.alloc (.cells #[.int .i64 co, .slice A m cA, .slice Ap np cp] 29))) := (Below.refl _ w2).alloc lR _
  generalize World.alloc w2 _ = V at *
  obtain ⟨gb, hgb⟩ : ∃ x, x = w2.heap.size := ⟨_, rfl⟩
  rw [← hgb] at HG2 ⊢
  clear hgb
  go_upto_region 22 with (fail)
  rw [HLS.out] at HS2 HW2
  have HBLA : Hid (Below V.heap.size V (V.alloc (.cells #[.int .i64 4] 3)).drew) := ((Below.refl V.heap.size V).alloc lR (.cells #[.int .i64 4] 3)).drew
  have HBA := iD (HBV.out.later HBLA.out)
  have HVA : Hid (Blk (V.alloc (.cells #[.int .i64 4] 3)).drew V.heap.size 3 #[.int .i64 4]) := Blk.new V 3 #[.int .i64 4]
  have HGA := iD (HG2.out.below HBLA.out HG2.out.lt)
  have hqq : V.heap.size ≠ w.heap.size + 3 := by have := HBV.out.b3.lt; omega
  refine zF (S := fun W' => W'.cell? ⟨gb, 0, none⟩ = some (.int .i64 co) ∧ W'.cell? ⟨gb, 1, none⟩ = some (.slice A m cA) ∧ W'.cell? ⟨gb, 2, none⟩ = some (.slice Ap np cp)) (J := [5, 6]) (by kernel_rfl) ?_ (fun AA => ?_)
  ·exact ⟨HG2.out.cell 0, HG2.out.cell 1, HG2.out.cell 2⟩
  try dsimp only at AA
  refine tk 1 101 (ma 7 2) AA ?_
  refine tk 2 102 (ma 7 6) AA ?_
  refine tb 0 (mf 7 3) fun K hK => ?_
  go_simp
  refine hK.out _ _ (fun _ => ?_) (fun AA' => ?_)
  ·exact ⟨HGA.out.cell 0, HGA.out.cell 1, HGA.out.cell 2⟩
  replace AA := AA' rfl
  clear AA' hK K
  try dsimp only at AA
  generalize World.drew (World.alloc V _) = wa at *
  have d0 := HBA.out.b3.cell 0; have d1 := HBA.out.b3.cell 1; have d2 := HBA.out.b3.cell 2; have y0 := HBA.out.b3.frozen 0; have y1 := HBA.out.b3.frozen 1; have y2 := HBA.out.b3.frozen 2
  refine tk 3 8 (mf 7 4) AA ?_
  refine tk 4 9 (mf 7 5) AA ?_
  refine tb 5 (mf 7 6) fun K hK => ?_
  go_simp
  refine hK.out _ _ (fun h => by cases h) (fun _ => ?_)
  try clear AA
  clear hK K
  refine tb 6 (mf 7 7) fun K hK => ?_
  go_simp
  refine hK.out _ _ (fun h => by cases h) (fun _ => ?_)
  try clear AA
  clear hK K
  refine zC (by kernel_rfl) ?_ _
  have HE := iD (HBA.out.fin (x := .int .i64 co) (y := .slice A m cA) (z := .slice Ap np cp))
  have HSO : Hid (xH (((wa.setCell ⟨w.heap.size + 3, 0, none⟩ (.int .i64 co)).setCell ⟨w.heap.size + 3, 1, none⟩ (.slice A m cA)).setCell ⟨w.heap.size + 3, 2, none⟩ (.slice Ap np cp)) (some ⟨V.heap.size, 0, none⟩) As A Ap 1 1 n c m cA np cp ⟨[4], ⟨s, ls, pr⟩, true⟩) := ⟨uq (zh HVA.out hqq), (HH.out.below HE.out.2).hs, jA HS2.out HW2.out (HBL2.out.trans (HBLA.out.mono HBL2.out.size)) HE.out.2, (HH.out.below HE.out.2).hp⟩
  clear d0 d1 d2 y0 y1 y2
  go_wp2_with fail
  generalize World.setCell (World.setCell (World.setCell wa _ _) _ _) _ _ = z at *
  have q0 := HE.out.1.c0
  have q1 := HE.out.1.c1
  have q2 := HE.out.1.c2
  exact bodyPost_ret (v := .tuple #[.slice (some ⟨V.heap.size, 0, none⟩) 1 1, .slice As n c, .agg #[.int .i64 co, .slice A m cA, .slice Ap np cp], .bool true]) (by simp [results, Tryz.results39, go_sem, q0, q1, q2]) rfl ⟨_, _, _, _, _, _, _, _, _, _, _, _, by rw [HT.out], by rw [HT.out]; exact HSO, ⟨.inr (fun b off e => by injection e with e; injection e with e1 e2; rw [← e1]; exact HBV.out.bl.size), .inl ⟨rfl, rfl⟩, HWF.out, .inl ⟨rfl, rfl⟩⟩, HE.out.2⟩
 ·have HT : Hid (zf ns ds co ⟨s, ls, pr⟩ ⟨4, d, no, p, q⟩ = ⟨[], ⟨s, L, pr⟩, true⟩) := by unfold Hid; rw [nh, hb2, HLL.out]; rfl
  clear hb2
  go_upto_region 21 with (fail)
  have HBV := iD (HB2.out.later ((Below.refl _ w2).alloc lR (.cells #[.int .i64 co, .slice A m cA, .slice Ap np cp] 29)))
  have HG2 := iD (Blk.new w2 29 #[.int .i64 co, .slice A m cA, .slice Ap np cp])
  have HBL2 : Hid (Below w2.heap.size w2 (w2.alloc (.cells #[.int .i64 co, .slice A m cA, .slice Ap np cp] 29))) := (Below.refl _ w2).alloc lR _
  generalize World.alloc w2 _ = V at *
  obtain ⟨gb, hgb⟩ : ∃ x, x = w2.heap.size := ⟨_, rfl⟩
  rw [← hgb] at HG2 ⊢
  clear hgb
  go_upto_region 23 with (fail)
  have d0 := HBV.out.b3.cell 0; have d1 := HBV.out.b3.cell 1; have d2 := HBV.out.b3.cell 2; have y0 := HBV.out.b3.frozen 0; have y1 := HBV.out.b3.frozen 1; have y2 := HBV.out.b3.frozen 2
  refine zF (S := fun W' => W'.cell? ⟨gb, 0, none⟩ = some (.int .i64 co) ∧ W'.cell? ⟨gb, 1, none⟩ = some (.slice A m cA) ∧ W'.cell? ⟨gb, 2, none⟩ = some (.slice Ap np cp)) (J := [4, 5]) (by kernel_rfl) ?_ (fun AA => ?_)
  ·exact ⟨HG2.out.cell 0, HG2.out.cell 1, HG2.out.cell 2⟩
  try dsimp only at AA
  refine tk 0 103 (mf 6 1) AA ?_
  refine tk 1 104 (mf 6 2) AA ?_
  refine tk 2 8 (mf 6 3) AA ?_
  refine tk 3 9 (mf 6 4) AA ?_
  refine tb 4 (mf 6 5) fun K hK => ?_
  go_simp
  refine hK.out _ _ (fun h => by cases h) (fun _ => ?_)
  try clear AA
  clear hK K
  refine tb 5 (mf 6 6) fun K hK => ?_
  go_simp
  refine hK.out _ _ (fun h => by cases h) (fun _ => ?_)
  try clear AA
  clear hK K
  refine zC (by kernel_rfl) ?_ _
  have HE0 := iD (HBV.out.fin (x := .int .i64 co) (y := .slice A m cA) (z := .slice Ap np cp))
  have HE : Hid (Blk (((V.setCell ⟨w.heap.size + 3, 0, none⟩ (.int .i64 co)).setCell ⟨w.heap.size + 3, 1, none⟩ (.slice A m cA)).setCell ⟨w.heap.size + 3, 2, none⟩ (.slice Ap np cp)).drew (w.heap.size + 3) 29 #[.int .i64 co, .slice A m cA, .slice Ap np cp] ∧ Below w.heap.size w (((V.setCell ⟨w.heap.size + 3, 0, none⟩ (.int .i64 co)).setCell ⟨w.heap.size + 3, 1, none⟩ (.slice A m cA)).setCell ⟨w.heap.size + 3, 2, none⟩ (.slice Ap np cp)).drew) := ⟨HE0.out.1, HE0.out.2.drew⟩
  have HSO : Hid (xH (((V.setCell ⟨w.heap.size + 3, 0, none⟩ (.int .i64 co)).setCell ⟨w.heap.size + 3, 1, none⟩ (.slice A m cA)).setCell ⟨w.heap.size + 3, 2, none⟩ (.slice Ap np cp)).drew none As A Ap 0 0 n c m cA np cp ⟨[], ⟨s, L, pr⟩, true⟩) := ⟨Sl.nil _ _ _, (HH.out.below HE.out.2).hs, jA HS2.out HW2.out HBL2.out HE0.out.2, (HH.out.below HE.out.2).hp⟩
  clear d0 d1 d2 y0 y1 y2 HE0
  go_wp2_with fail
  generalize World.drew (World.setCell (World.setCell (World.setCell V _ _) _ _) _ _) = z at *
  have q0 := HE.out.1.c0
  have q1 := HE.out.1.c1
  have q2 := HE.out.1.c2
  exact bodyPost_ret (v := .tuple #[.slice none 0 0, .slice As n c, .agg #[.int .i64 co, .slice A m cA, .slice Ap np cp], .bool true]) (by simp [results, Tryz.results39, go_sem, q0, q1, q2]) rfl ⟨_, _, _, _, _, _, _, _, _, _, _, _, by rw [HT.out], by rw [HT.out]; exact HSO, ⟨.inl ⟨rfl, rfl⟩, .inl ⟨rfl, rfl⟩, HWF.out, .inl ⟨rfl, rfl⟩⟩, HE.out.2⟩
theorem rW (An Ad As Al Ap : Option Addr) (nn cn nd cd n c nl cl np cp : Nat) (ns : List Nd) (ds : List Dv) (s : List Int) (ls : List Lk) (pr : List Int) (co k d no p q : Int) (w : World) (h : yp w An Ad As Al Ap nn cn nd cd n c nl cl np cp ns ds s ls pr) (hok : tc ns ds ⟨s, ls, pr⟩) (_hco : 0 ≤ co ∧ co ≤ 7) (hx : zc ns.length ds.length ⟨k, d, no, p, q⟩ = 0) (hk : k = 6) :
 Calls Tryz.prog 39 #[.agg #[.slice An nn cn, .slice Ad nd cd], .slice As n c, .agg #[.int .i64 co, .slice Al nl cl, .slice Ap np cp], .agg #[.int .i64 k, .int .i64 d, .int .i64 no, .int .i64 p, .int .i64 q]] w (ui w As Al Ap n nl np co (zf ns ds co ⟨s, ls, pr⟩ ⟨k, d, no, p, q⟩)) := by
 have HK := iD hk
 clear hk
 obtain ⟨hln, hld, hls⟩ := h.ln
 have hlp : pr.length = np := h.hp.len (fun _ => rfl) (by decide)
 have HH := iD h
 have HB := iD (Bst.new w #[.slice An nn cn, .slice Ad nd cd] #[.int .i64 co, .slice Al nl cl, .slice Ap np cp] #[.int .i64 k, .int .i64 d, .int .i64 no, .int .i64 p, .int .i64 q])
 obtain ⟨hx1, hx2, hx3, hx4, hx5⟩ := xR hx
 dsimp only at hx1 hx2 hx3 hx4 hx5
 obtain ⟨hcn, hsl⟩ := za hok.s
 have HNK := iD (wL.of hcn)
 have HOK := iD hok
 have hnn : nn ≤ 32 := by have := HNK.out.nl; omega
 have hnd : nd ≤ 64 := by have := HNK.out.dl; omega
 dsimp only at hsl
 clear h hok hx hcn
 go_enter Tryz.func39, Tryz.ntmps39
 go_upto_region 1 with (fail)
 generalize World.alloc (World.alloc (World.alloc (World.alloc w _) _) _) _ = W at *
 rw [show w.heap.size + 1 + 1 = w.heap.size + 2 from rfl, show w.heap.size + 2 + 1 = w.heap.size + 3 from rfl]
 have HM := iD (HH.out.below HB.out.bl)
 obtain ⟨⟨k0, k1⟩, ⟨g0, g1, g2⟩, s0, s1, s2, s3, s4⟩ := HB.out.cells
 have hk := HK.out
 clear HK
 subst hk
 have hd2 := hx2 (by decide)
 obtain ⟨i, rfl⟩ := Int.eq_ofNat_of_zero_le hd2.1
 obtain ⟨bs, os, sv, hAs, hbs, hsv, hcs⟩ := HM.out.hs.at1 (show i < n by omega)
 subst hAs
 have HSV : Hid (s.getD (i : Int).toNat 0 = sv) := by unfold Hid; rw [Int.toNat_natCast, List.getD_eq_getElem?_getD, hsv]; rfl
 clear hsv hbs
 have hin : i < n := by omega
 go_upto_region 16 with (fail)
 refine zF (S := fun W' => (W'.cell? ⟨w.heap.size + 2, 1, none⟩ = some (.int .i64 i) ∧ W'.cell? ⟨w.heap.size + 2, 3, none⟩ = some (.int .i64 p)) ∧ W'.cell? ⟨bs, os + i, none⟩ = some (.int .i64 sv)) (J := []) (by kernel_rfl) ?_ (fun AA => ?_)
 ·exact ⟨⟨s1, s3⟩, hcs⟩
 try dsimp only at AA
 refine tk 0 75 (mf 8 1) AA ?_
 refine tk 1 76 (mf 8 2) AA ?_
 refine tx 2 77 ?_ (mf 8 3) ?_ AA ?_
 rotate_left
 ·(intro w hSw; (try dsimp only at hSw); have u1 := hSw.1.1; go_simp; try with_reducible rfl)
 try simp only [Act.put, sA, sB, sC]
 refine tk 3 78 (mf 8 4) AA ?_
 refine tx 4 79 ?_ (mf 8 5) ?_ AA ?_
 rotate_left
 ·(intro w hSw; (try dsimp only at hSw); have u2 := hSw.2; go_simp; try with_reducible rfl)
 try simp only [Act.put, sA, sB, sC]
 refine tk 5 80 (mf 8 6) AA ?_
 refine tx 6 81 ?_ (mf 8 7) ?_ AA ?_
 rotate_left
 ·(intro w hSw; (try dsimp only at hSw); have u3 := hSw.1.2; go_simp; try with_reducible rfl)
 try simp only [Act.put, sA, sB, sC]
 refine tk 7 82 (mf 8 8) AA ?_
 refine zC (by kernel_rfl) ?_ _
 have HBD := iD (HB.out.later (Below.refl _ W).drew)
 clear HM k0 k1 g0 g1 g2 s0 s1 s2 s3 s4 hcs
 generalize World.drew W = WD at *
 obtain ⟨⟨k0, k1⟩, ⟨g0, g1, g2⟩, s0, s1, s2, s3, s4⟩ := HBD.out.cells
 by_cases hpq : sv = p; rotate_left
 ·have q1 : (sv != p) = true := by simpa using hpq
  have HT : Hid (zf ns ds co ⟨s, ls, pr⟩ ⟨6, i, no, p, q⟩ = ⟨[8], ⟨s, ls, pr⟩, false⟩) := by unfold Hid; rw [ng]; dsimp only; rw [HSV.out, if_pos hpq]
  clear hpq
  go_upto_region 17 with (fail)
  clear q1 k0 k1 g0 g1 g2 s0 s1 s2 s3 s4
  have HG1 := iD HBD.out.b1
  have HBLA : Hid (Below WD.heap.size WD (WD.alloc (.cells #[.int .i64 8] 3)).drew) := ((Below.refl WD.heap.size WD).alloc lR (.cells #[.int .i64 8] 3)).drew
  have HBA := iD (HBD.out.later HBLA.out)
  have HVA : Hid (Blk (WD.alloc (.cells #[.int .i64 8] 3)).drew WD.heap.size 3 #[.int .i64 8]) := Blk.new WD 3 #[.int .i64 8]
  have HGA := iD (HG1.out.below HBLA.out HG1.out.lt)
  have hqq : WD.heap.size ≠ w.heap.size + 3 := by have := HBD.out.b3.lt; omega
  refine zF (S := fun W' => W'.cell? ⟨w.heap.size + 1, 0, none⟩ = some (.int .i64 co) ∧ W'.cell? ⟨w.heap.size + 1, 1, none⟩ = some (.slice Al nl cl) ∧ W'.cell? ⟨w.heap.size + 1, 2, none⟩ = some (.slice Ap np cp)) (J := [5, 6]) (by kernel_rfl) ?_ (fun AA => ?_)
  ·exact ⟨HG1.out.cell 0, HG1.out.cell 1, HG1.out.cell 2⟩
  try dsimp only at AA
  refine tk 1 84 (ma 7 2) AA ?_
  refine tk 2 85 (ma 7 6) AA ?_
  refine tb 0 (mf 7 3) fun K hK => ?_
  go_simp
  refine hK.out _ _ (fun _ => ?_) (fun AA' => ?_)
  ·exact ⟨HGA.out.cell 0, HGA.out.cell 1, HGA.out.cell 2⟩
  replace AA := AA' rfl
  clear AA' hK K
  try dsimp only at AA
  generalize World.drew (World.alloc WD _) = wa at *
  have d0 := HBA.out.b3.cell 0; have d1 := HBA.out.b3.cell 1; have d2 := HBA.out.b3.cell 2; have y0 := HBA.out.b3.frozen 0; have y1 := HBA.out.b3.frozen 1; have y2 := HBA.out.b3.frozen 2
  refine tk 3 8 (mf 7 4) AA ?_
  refine tk 4 9 (mf 7 5) AA ?_
  refine tb 5 (mf 7 6) fun K hK => ?_
  go_simp
  refine hK.out _ _ (fun h => by cases h) (fun _ => ?_)
  try clear AA
  clear hK K
  refine tb 6 (mf 7 7) fun K hK => ?_
  go_simp
  refine hK.out _ _ (fun h => by cases h) (fun _ => ?_)
  try clear AA
  clear hK K
  refine zC (by kernel_rfl) ?_ _
  have HE := iD (HBA.out.fin (x := .int .i64 co) (y := .slice Al nl cl) (z := .slice Ap np cp))
  have HSO : Hid (xH (((wa.setCell ⟨w.heap.size + 3, 0, none⟩ (.int .i64 co)).setCell ⟨w.heap.size + 3, 1, none⟩ (.slice Al nl cl)).setCell ⟨w.heap.size + 3, 2, none⟩ (.slice Ap np cp)) (some ⟨WD.heap.size, 0, none⟩) (some ⟨bs, os, none⟩) Al Ap 1 1 n c nl cl np cp ⟨[8], ⟨s, ls, pr⟩, false⟩) := ⟨uq (zh HVA.out hqq), (HH.out.below HE.out.2).hs, (HH.out.below HE.out.2).hl, (HH.out.below HE.out.2).hp⟩
  clear d0 d1 d2 y0 y1 y2
  go_wp2_with fail
  generalize World.setCell (World.setCell (World.setCell wa _ _) _ _) _ _ = z at *
  have q0 := HE.out.1.c0
  have q1 := HE.out.1.c1
  have q2 := HE.out.1.c2
  exact bodyPost_ret (v := .tuple #[.slice (some ⟨WD.heap.size, 0, none⟩) 1 1, .slice (some ⟨bs, os, none⟩) n c, .agg #[.int .i64 co, .slice Al nl cl, .slice Ap np cp], .bool false]) (by simp [results, Tryz.results39, go_sem, q0, q1, q2]) rfl ⟨_, _, _, _, _, _, _, _, _, _, _, _, by rw [HT.out], by rw [HT.out]; exact HSO, ⟨.inr (fun b off e => by injection e with e; injection e with e1 e2; rw [← e1]; exact HBD.out.bl.size), .inl ⟨rfl, rfl⟩, .inl ⟨rfl, rfl⟩, .inl ⟨rfl, rfl⟩⟩, HE.out.2⟩
 have q1 : (sv != p) = false := by simpa using hpq
 have HPQ : Hid (¬ s.getD (i : Int).toNat 0 ≠ p) := by unfold Hid; rw [HSV.out]; simp [hpq]
 clear hpq
 have HT : Hid (zf ns ds co ⟨s, ls, pr⟩ ⟨6, i, no, p, q⟩ = ⟨[], ⟨s, ls, pr⟩, true⟩) := by unfold Hid; rw [ng, if_neg HPQ.out]
 go_upto_region 19 with (fail)
 clear q1 k0 k1 g0 g1 g2 s0 s1 s2 s3 s4
 have HG1 := iD HBD.out.b1
 have d0 := HBD.out.b3.cell 0; have d1 := HBD.out.b3.cell 1; have d2 := HBD.out.b3.cell 2; have y0 := HBD.out.b3.frozen 0; have y1 := HBD.out.b3.frozen 1; have y2 := HBD.out.b3.frozen 2
 refine zF (S := fun W' => W'.cell? ⟨w.heap.size + 1, 0, none⟩ = some (.int .i64 co) ∧ W'.cell? ⟨w.heap.size + 1, 1, none⟩ = some (.slice Al nl cl) ∧ W'.cell? ⟨w.heap.size + 1, 2, none⟩ = some (.slice Ap np cp)) (J := [4, 5]) (by kernel_rfl) ?_ (fun AA => ?_)
 ·exact ⟨HG1.out.cell 0, HG1.out.cell 1, HG1.out.cell 2⟩
 try dsimp only at AA
 refine tk 0 89 (mf 6 1) AA ?_
 refine tk 1 90 (mf 6 2) AA ?_
 refine tk 2 8 (mf 6 3) AA ?_
 refine tk 3 9 (mf 6 4) AA ?_
 refine tb 4 (mf 6 5) fun K hK => ?_
 go_simp
 refine hK.out _ _ (fun h => by cases h) (fun _ => ?_)
 try clear AA
 clear hK K
 refine tb 5 (mf 6 6) fun K hK => ?_
 go_simp
 refine hK.out _ _ (fun h => by cases h) (fun _ => ?_)
 try clear AA
 clear hK K
 refine zC (by kernel_rfl) ?_ _
 have HE0 := iD (HBD.out.fin (x := .int .i64 co) (y := .slice Al nl cl) (z := .slice Ap np cp))
 have HE : Hid (Blk (((WD.setCell ⟨w.heap.size + 3, 0, none⟩ (.int .i64 co)).setCell ⟨w.heap.size + 3, 1, none⟩ (.slice Al nl cl)).setCell ⟨w.heap.size + 3, 2, none⟩ (.slice Ap np cp)).drew (w.heap.size + 3) 29 #[.int .i64 co, .slice Al nl cl, .slice Ap np cp] ∧ Below w.heap.size w (((WD.setCell ⟨w.heap.size + 3, 0, none⟩ (.int .i64 co)).setCell ⟨w.heap.size + 3, 1, none⟩ (.slice Al nl cl)).setCell ⟨w.heap.size + 3, 2, none⟩ (.slice Ap np cp)).drew) := ⟨HE0.out.1, HE0.out.2.drew⟩
 have HSO : Hid (xH (((WD.setCell ⟨w.heap.size + 3, 0, none⟩ (.int .i64 co)).setCell ⟨w.heap.size + 3, 1, none⟩ (.slice Al nl cl)).setCell ⟨w.heap.size + 3, 2, none⟩ (.slice Ap np cp)).drew none (some ⟨bs, os, none⟩) Al Ap 0 0 n c nl cl np cp ⟨[], ⟨s, ls, pr⟩, true⟩) := ⟨Sl.nil _ _ _, (HH.out.below HE.out.2).hs, (HH.out.below HE.out.2).hl, (HH.out.below HE.out.2).hp⟩
 clear d0 d1 d2 y0 y1 y2 HE0
 go_wp2_with fail
 generalize World.drew (World.setCell (World.setCell (World.setCell WD _ _) _ _) _ _) = z at *
 have q0 := HE.out.1.c0
 have q1 := HE.out.1.c1
 have q2 := HE.out.1.c2
 exact bodyPost_ret (v := .tuple #[.slice none 0 0, .slice (some ⟨bs, os, none⟩) n c, .agg #[.int .i64 co, .slice Al nl cl, .slice Ap np cp], .bool true]) (by simp [results, Tryz.results39, go_sem, q0, q1, q2]) rfl ⟨_, _, _, _, _, _, _, _, _, _, _, _, by rw [HT.out], by rw [HT.out]; exact HSO, ⟨.inl ⟨rfl, rfl⟩, .inl ⟨rfl, rfl⟩, .inl ⟨rfl, rfl⟩, .inl ⟨rfl, rfl⟩⟩, HE.out.2⟩
theorem qY (An Ad As Al Ap : Option Addr) (nn cn nd cd n c nl cl np cp : Nat) (ns : List Nd) (ds : List Dv) (s : List Int) (ls : List Lk) (pr : List Int) (co k d no p q : Int) (w : World) (h : yp w An Ad As Al Ap nn cn nd cd n c nl cl np cp ns ds s ls pr) (hok : tc ns ds ⟨s, ls, pr⟩) (_hco : 0 ≤ co ∧ co ≤ 7) (hx : zc ns.length ds.length ⟨k, d, no, p, q⟩ = 0) (hk : k = 3) :
 Calls Tryz.prog 39 #[.agg #[.slice An nn cn, .slice Ad nd cd], .slice As n c, .agg #[.int .i64 co, .slice Al nl cl, .slice Ap np cp], .agg #[.int .i64 k, .int .i64 d, .int .i64 no, .int .i64 p, .int .i64 q]] w (ui w As Al Ap n nl np co (zf ns ds co ⟨s, ls, pr⟩ ⟨k, d, no, p, q⟩)) := by
 have HK := iD hk
 clear hk
 obtain ⟨hln, hld, hls⟩ := h.ln
 have hlp : pr.length = np := h.hp.len (fun _ => rfl) (by decide)
 have HH := iD h
 have HB := iD (Bst.new w #[.slice An nn cn, .slice Ad nd cd] #[.int .i64 co, .slice Al nl cl, .slice Ap np cp] #[.int .i64 k, .int .i64 d, .int .i64 no, .int .i64 p, .int .i64 q])
 obtain ⟨hx1, hx2, hx3, hx4, hx5⟩ := xR hx
 dsimp only at hx1 hx2 hx3 hx4 hx5
 obtain ⟨hcn, hsl⟩ := za hok.s
 have HNK := iD (wL.of hcn)
 have HOK := iD hok
 have hnn : nn ≤ 32 := by have := HNK.out.nl; omega
 have hnd : nd ≤ 64 := by have := HNK.out.dl; omega
 dsimp only at hsl
 clear h hok hx hcn
 go_enter Tryz.func39, Tryz.ntmps39
 go_upto_region 1 with (fail)
 generalize World.alloc (World.alloc (World.alloc (World.alloc w _) _) _) _ = W at *
 rw [show w.heap.size + 1 + 1 = w.heap.size + 2 from rfl, show w.heap.size + 2 + 1 = w.heap.size + 3 from rfl]
 have HM := iD (HH.out.below HB.out.bl)
 obtain ⟨⟨k0, k1⟩, ⟨g0, g1, g2⟩, s0, s1, s2, s3, s4⟩ := HB.out.cells
 have hk := HK.out
 clear HK
 subst hk
 have hd2 := hx2 (by decide)
 obtain ⟨i, rfl⟩ := Int.eq_ofNat_of_zero_le hd2.1
 obtain ⟨bs, os, sv, hAs, hbs, hsv, hcs⟩ := HM.out.hs.at1 (show i < n by omega)
 subst hAs
 have HSV : Hid (s.getD (i : Int).toNat 0 = sv) := by unfold Hid; rw [Int.toNat_natCast, List.getD_eq_getElem?_getD, hsv]; rfl
 clear hsv hbs
 have hin : i < n := by omega
 go_upto_region 16 with (fail)
 refine zF (S := fun W' => (W'.cell? ⟨w.heap.size + 2, 1, none⟩ = some (.int .i64 i) ∧ W'.cell? ⟨w.heap.size + 2, 3, none⟩ = some (.int .i64 p)) ∧ W'.cell? ⟨bs, os + i, none⟩ = some (.int .i64 sv)) (J := []) (by kernel_rfl) ?_ (fun AA => ?_)
 ·exact ⟨⟨s1, s3⟩, hcs⟩
 try dsimp only at AA
 refine tk 0 75 (mf 8 1) AA ?_
 refine tk 1 76 (mf 8 2) AA ?_
 refine tx 2 77 ?_ (mf 8 3) ?_ AA ?_
 rotate_left
 ·(intro w hSw; (try dsimp only at hSw); have u1 := hSw.1.1; go_simp; try with_reducible rfl)
 try simp only [Act.put, sA, sB, sC]
 refine tk 3 78 (mf 8 4) AA ?_
 refine tx 4 79 ?_ (mf 8 5) ?_ AA ?_
 rotate_left
 ·(intro w hSw; (try dsimp only at hSw); have u2 := hSw.2; go_simp; try with_reducible rfl)
 try simp only [Act.put, sA, sB, sC]
 refine tk 5 80 (mf 8 6) AA ?_
 refine tx 6 81 ?_ (mf 8 7) ?_ AA ?_
 rotate_left
 ·(intro w hSw; (try dsimp only at hSw); have u3 := hSw.1.2; go_simp; try with_reducible rfl)
 try simp only [Act.put, sA, sB, sC]
 refine tk 7 82 (mf 8 8) AA ?_
 refine zC (by kernel_rfl) ?_ _
 have HBD := iD (HB.out.later (Below.refl _ W).drew)
 clear HM k0 k1 g0 g1 g2 s0 s1 s2 s3 s4 hcs
 generalize World.drew W = WD at *
 obtain ⟨⟨k0, k1⟩, ⟨g0, g1, g2⟩, s0, s1, s2, s3, s4⟩ := HBD.out.cells
 by_cases hpq : sv = p; rotate_left
 ·have q1 : (sv != p) = true := by simpa using hpq
  have HT : Hid (zf ns ds co ⟨s, ls, pr⟩ ⟨3, i, no, p, q⟩ = ⟨[8], ⟨s, ls, pr⟩, false⟩) := by unfold Hid; rw [rk]; dsimp only; rw [HSV.out, if_pos hpq]
  clear hpq
  go_upto_region 17 with (fail)
  clear q1 k0 k1 g0 g1 g2 s0 s1 s2 s3 s4
  have HG1 := iD HBD.out.b1
  have HBLA : Hid (Below WD.heap.size WD (WD.alloc (.cells #[.int .i64 8] 3)).drew) := ((Below.refl WD.heap.size WD).alloc lR (.cells #[.int .i64 8] 3)).drew
  have HBA := iD (HBD.out.later HBLA.out)
  have HVA : Hid (Blk (WD.alloc (.cells #[.int .i64 8] 3)).drew WD.heap.size 3 #[.int .i64 8]) := Blk.new WD 3 #[.int .i64 8]
  have HGA := iD (HG1.out.below HBLA.out HG1.out.lt)
  have hqq : WD.heap.size ≠ w.heap.size + 3 := by have := HBD.out.b3.lt; omega
  refine zF (S := fun W' => W'.cell? ⟨w.heap.size + 1, 0, none⟩ = some (.int .i64 co) ∧ W'.cell? ⟨w.heap.size + 1, 1, none⟩ = some (.slice Al nl cl) ∧ W'.cell? ⟨w.heap.size + 1, 2, none⟩ = some (.slice Ap np cp)) (J := [5, 6]) (by kernel_rfl) ?_ (fun AA => ?_)
  ·exact ⟨HG1.out.cell 0, HG1.out.cell 1, HG1.out.cell 2⟩
  try dsimp only at AA
  refine tk 1 84 (ma 7 2) AA ?_
  refine tk 2 85 (ma 7 6) AA ?_
  refine tb 0 (mf 7 3) fun K hK => ?_
  go_simp
  refine hK.out _ _ (fun _ => ?_) (fun AA' => ?_)
  ·exact ⟨HGA.out.cell 0, HGA.out.cell 1, HGA.out.cell 2⟩
  replace AA := AA' rfl
  clear AA' hK K
  try dsimp only at AA
  generalize World.drew (World.alloc WD _) = wa at *
  have d0 := HBA.out.b3.cell 0; have d1 := HBA.out.b3.cell 1; have d2 := HBA.out.b3.cell 2; have y0 := HBA.out.b3.frozen 0; have y1 := HBA.out.b3.frozen 1; have y2 := HBA.out.b3.frozen 2
  refine tk 3 8 (mf 7 4) AA ?_
  refine tk 4 9 (mf 7 5) AA ?_
  refine tb 5 (mf 7 6) fun K hK => ?_
  go_simp
  refine hK.out _ _ (fun h => by cases h) (fun _ => ?_)
  try clear AA
  clear hK K
  refine tb 6 (mf 7 7) fun K hK => ?_
  go_simp
  refine hK.out _ _ (fun h => by cases h) (fun _ => ?_)
  try clear AA
  clear hK K
  refine zC (by kernel_rfl) ?_ _
  have HE := iD (HBA.out.fin (x := .int .i64 co) (y := .slice Al nl cl) (z := .slice Ap np cp))
  have HSO : Hid (xH (((wa.setCell ⟨w.heap.size + 3, 0, none⟩ (.int .i64 co)).setCell ⟨w.heap.size + 3, 1, none⟩ (.slice Al nl cl)).setCell ⟨w.heap.size + 3, 2, none⟩ (.slice Ap np cp)) (some ⟨WD.heap.size, 0, none⟩) (some ⟨bs, os, none⟩) Al Ap 1 1 n c nl cl np cp ⟨[8], ⟨s, ls, pr⟩, false⟩) := ⟨uq (zh HVA.out hqq), (HH.out.below HE.out.2).hs, (HH.out.below HE.out.2).hl, (HH.out.below HE.out.2).hp⟩
  clear d0 d1 d2 y0 y1 y2
  go_wp2_with fail
  generalize World.setCell (World.setCell (World.setCell wa _ _) _ _) _ _ = z at *
  have q0 := HE.out.1.c0
  have q1 := HE.out.1.c1
  have q2 := HE.out.1.c2
  exact bodyPost_ret (v := .tuple #[.slice (some ⟨WD.heap.size, 0, none⟩) 1 1, .slice (some ⟨bs, os, none⟩) n c, .agg #[.int .i64 co, .slice Al nl cl, .slice Ap np cp], .bool false]) (by simp [results, Tryz.results39, go_sem, q0, q1, q2]) rfl ⟨_, _, _, _, _, _, _, _, _, _, _, _, by rw [HT.out], by rw [HT.out]; exact HSO, ⟨.inr (fun b off e => by injection e with e; injection e with e1 e2; rw [← e1]; exact HBD.out.bl.size), .inl ⟨rfl, rfl⟩, .inl ⟨rfl, rfl⟩, .inl ⟨rfl, rfl⟩⟩, HE.out.2⟩
 have q1 : (sv != p) = false := by simpa using hpq
 have HPQ : Hid (¬ s.getD (i : Int).toNat 0 ≠ p) := by unfold Hid; rw [HSV.out]; simp [hpq]
 clear hpq
 go_upto_region 20 with (fail)
 clear q1
 have HLK := iD (tn An Ad Al Ap nn cn nd cd nl cl np cp ns ds ls co 3 i no p q WD (HH.out.below HBD.out.bl).la (HH.out.below HBD.out.bl).hn (HH.out.below HBD.out.bl).hd (HH.out.below HBD.out.bl).hl (HH.out.below HBD.out.bl).sn (HH.out.below HBD.out.bl).sd (by decide) HOK.out.l)
 go_wp2_with fail
 clear k0 k1 g0 g1 g2 s0 s1 s2 s3 s4
 refine HLK.out.mono ?_
 rintro e w2 ⟨A, m, cA, rfl, hS, hW, hb⟩
 have HB2 := iD (HBD.out.later hb.out)
 have HS2 := iD hS.out
 have HW2 : Hid (Sl w w.heap.size 3 A m cA ((ya ns ds ls ⟨3, i, no, p, q⟩).1.flatMap Lk.cells) ∨ ∀ b off, A = some ⟨b, off, none⟩ → b ≠ w.heap.size + 3) := by
  rcases hW.out with ⟨rfl, rfl, rfl, e⟩ | h
  ·left; rw [e]; exact HH.out.hl
  ·right; intro b off e; have := h b off e; have := HBD.out.b3.lt; omega
 have HWF : Hid (Fre w.heap.size Al A nl m) := by
  rcases hW.out with ⟨h, h2, -⟩ | h
  ·exact .inl ⟨h, h2⟩
  ·exact .inr fun b off e => by have := h b off e; have := HBD.out.bl.size; omega
 clear hS hW hb HLK HBD
 obtain ⟨L, hL⟩ : ∃ L, L = (ya ns ds ls ⟨3, i, no, p, q⟩).1 := ⟨_, rfl⟩
 rw [← hL] at HS2 HW2
 have HLL := iD hL
 clear hL
 rcases hb2 : (ya ns ds ls ⟨3, i, no, p, q⟩).2 with _ | _
 ·have HLS : Hid (L = ls) := HLL.out.trans (lq ns ds hb2)
  have HT : Hid (zf ns ds co ⟨s, ls, pr⟩ ⟨3, i, no, p, q⟩ = ⟨[4], ⟨s, ls, pr⟩, true⟩) := by unfold Hid; rw [rk, if_neg HPQ.out, hb2]; rfl
  clear hb2
  go_upto_region 21 with (fail)
  have HBV := iD (HB2.out.later ((Below.refl _ w2).alloc lR (.cells #[.int .i64 co, .slice A m cA, .slice Ap np cp] 29)))
  have HG2 := iD (Blk.new w2 29 #[.int .i64 co, .slice A m cA, .slice Ap np cp])
  have HBL2 : Hid (Below w2.heap.size w2 (w2.alloc (.cells #[.int .i64 co, .slice A m cA, .slice Ap np cp] 29))) := (Below.refl _ w2).alloc lR _
  generalize World.alloc w2 _ = V at *
  obtain ⟨gb, hgb⟩ : ∃ x, x = w2.heap.size := ⟨_, rfl⟩
  rw [← hgb] at HG2 ⊢
  clear hgb
  go_upto_region 22 with (fail)
  rw [HLS.out] at HS2 HW2
  have HBLA : Hid (Below V.heap.size V (V.alloc (.cells #[.int .i64 4] 3)).drew) := ((Below.refl V.heap.size V).alloc lR (.cells #[.int .i64 4] 3)).drew
  have HBA := iD (HBV.out.later HBLA.out)
  have HVA : Hid (Blk (V.alloc (.cells #[.int .i64 4] 3)).drew V.heap.size 3 #[.int .i64 4]) := Blk.new V 3 #[.int .i64 4]
  have HGA := iD (HG2.out.below HBLA.out HG2.out.lt)
  have hqq : V.heap.size ≠ w.heap.size + 3 := by have := HBV.out.b3.lt; omega
  refine zF (S := fun W' => W'.cell? ⟨gb, 0, none⟩ = some (.int .i64 co) ∧ W'.cell? ⟨gb, 1, none⟩ = some (.slice A m cA) ∧ W'.cell? ⟨gb, 2, none⟩ = some (.slice Ap np cp)) (J := [5, 6]) (by kernel_rfl) ?_ (fun AA => ?_)
  ·exact ⟨HG2.out.cell 0, HG2.out.cell 1, HG2.out.cell 2⟩
  try dsimp only at AA
  refine tk 1 101 (ma 7 2) AA ?_
  refine tk 2 102 (ma 7 6) AA ?_
  refine tb 0 (mf 7 3) fun K hK => ?_
  go_simp
  refine hK.out _ _ (fun _ => ?_) (fun AA' => ?_)
  ·exact ⟨HGA.out.cell 0, HGA.out.cell 1, HGA.out.cell 2⟩
  replace AA := AA' rfl
  clear AA' hK K
  try dsimp only at AA
  generalize World.drew (World.alloc V _) = wa at *
  have d0 := HBA.out.b3.cell 0; have d1 := HBA.out.b3.cell 1; have d2 := HBA.out.b3.cell 2; have y0 := HBA.out.b3.frozen 0; have y1 := HBA.out.b3.frozen 1; have y2 := HBA.out.b3.frozen 2
  refine tk 3 8 (mf 7 4) AA ?_
  refine tk 4 9 (mf 7 5) AA ?_
  refine tb 5 (mf 7 6) fun K hK => ?_
  go_simp
  refine hK.out _ _ (fun h => by cases h) (fun _ => ?_)
  try clear AA
  clear hK K
  refine tb 6 (mf 7 7) fun K hK => ?_
  go_simp
  refine hK.out _ _ (fun h => by cases h) (fun _ => ?_)
  try clear AA
  clear hK K
  refine zC (by kernel_rfl) ?_ _
  have HE := iD (HBA.out.fin (x := .int .i64 co) (y := .slice A m cA) (z := .slice Ap np cp))
  have HSO : Hid (xH (((wa.setCell ⟨w.heap.size + 3, 0, none⟩ (.int .i64 co)).setCell ⟨w.heap.size + 3, 1, none⟩ (.slice A m cA)).setCell ⟨w.heap.size + 3, 2, none⟩ (.slice Ap np cp)) (some ⟨V.heap.size, 0, none⟩) (some ⟨bs, os, none⟩) A Ap 1 1 n c m cA np cp ⟨[4], ⟨s, ls, pr⟩, true⟩) := ⟨uq (zh HVA.out hqq), (HH.out.below HE.out.2).hs, jA HS2.out HW2.out (HBL2.out.trans (HBLA.out.mono HBL2.out.size)) HE.out.2, (HH.out.below HE.out.2).hp⟩
  clear d0 d1 d2 y0 y1 y2
  go_wp2_with fail
  generalize World.setCell (World.setCell (World.setCell wa _ _) _ _) _ _ = z at *
  have q0 := HE.out.1.c0
  have q1 := HE.out.1.c1
  have q2 := HE.out.1.c2
  exact bodyPost_ret (v := .tuple #[.slice (some ⟨V.heap.size, 0, none⟩) 1 1, .slice (some ⟨bs, os, none⟩) n c, .agg #[.int .i64 co, .slice A m cA, .slice Ap np cp], .bool true]) (by simp [results, Tryz.results39, go_sem, q0, q1, q2]) rfl ⟨_, _, _, _, _, _, _, _, _, _, _, _, by rw [HT.out], by rw [HT.out]; exact HSO, ⟨.inr (fun b off e => by injection e with e; injection e with e1 e2; rw [← e1]; exact HBV.out.bl.size), .inl ⟨rfl, rfl⟩, HWF.out, .inl ⟨rfl, rfl⟩⟩, HE.out.2⟩
 ·have HT : Hid (zf ns ds co ⟨s, ls, pr⟩ ⟨3, i, no, p, q⟩ = ⟨[], ⟨s, L, pr⟩, true⟩) := by unfold Hid; rw [rk, if_neg HPQ.out, hb2, HLL.out]; rfl
  clear hb2
  go_upto_region 21 with (fail)
  have HBV := iD (HB2.out.later ((Below.refl _ w2).alloc lR (.cells #[.int .i64 co, .slice A m cA, .slice Ap np cp] 29)))
  have HG2 := iD (Blk.new w2 29 #[.int .i64 co, .slice A m cA, .slice Ap np cp])
  have HBL2 : Hid (Below w2.heap.size w2 (w2.alloc (.cells #[.int .i64 co, .slice A m cA, .slice Ap np cp] 29))) := (Below.refl _ w2).alloc lR _
  generalize World.alloc w2 _ = V at *
  obtain ⟨gb, hgb⟩ : ∃ x, x = w2.heap.size := ⟨_, rfl⟩
  rw [← hgb] at HG2 ⊢
  clear hgb
  go_upto_region 23 with (fail)
  have d0 := HBV.out.b3.cell 0; have d1 := HBV.out.b3.cell 1; have d2 := HBV.out.b3.cell 2; have y0 := HBV.out.b3.frozen 0; have y1 := HBV.out.b3.frozen 1; have y2 := HBV.out.b3.frozen 2
  refine zF (S := fun W' => W'.cell? ⟨gb, 0, none⟩ = some (.int .i64 co) ∧ W'.cell? ⟨gb, 1, none⟩ = some (.slice A m cA) ∧ W'.cell? ⟨gb, 2, none⟩ = some (.slice Ap np cp)) (J := [4, 5]) (by kernel_rfl) ?_ (fun AA => ?_)
  ·exact ⟨HG2.out.cell 0, HG2.out.cell 1, HG2.out.cell 2⟩
  try dsimp only at AA
  refine tk 0 103 (mf 6 1) AA ?_
  refine tk 1 104 (mf 6 2) AA ?_
  refine tk 2 8 (mf 6 3) AA ?_
  refine tk 3 9 (mf 6 4) AA ?_
  refine tb 4 (mf 6 5) fun K hK => ?_
  go_simp
  refine hK.out _ _ (fun h => by cases h) (fun _ => ?_)
  try clear AA
  clear hK K
  refine tb 5 (mf 6 6) fun K hK => ?_
  go_simp
  refine hK.out _ _ (fun h => by cases h) (fun _ => ?_)
  try clear AA
  clear hK K
  refine zC (by kernel_rfl) ?_ _
  have HE0 := iD (HBV.out.fin (x := .int .i64 co) (y := .slice A m cA) (z := .slice Ap np cp))
  have HE : Hid (Blk (((V.setCell ⟨w.heap.size + 3, 0, none⟩ (.int .i64 co)).setCell ⟨w.heap.size + 3, 1, none⟩ (.slice A m cA)).setCell ⟨w.heap.size + 3, 2, none⟩ (.slice Ap np cp)).drew (w.heap.size + 3) 29 #[.int .i64 co, .slice A m cA, .slice Ap np cp] ∧ Below w.heap.size w (((V.setCell ⟨w.heap.size + 3, 0, none⟩ (.int .i64 co)).setCell ⟨w.heap.size + 3, 1, none⟩ (.slice A m cA)).setCell ⟨w.heap.size + 3, 2, none⟩ (.slice Ap np cp)).drew) := ⟨HE0.out.1, HE0.out.2.drew⟩
  have HSO : Hid (xH (((V.setCell ⟨w.heap.size + 3, 0, none⟩ (.int .i64 co)).setCell ⟨w.heap.size + 3, 1, none⟩ (.slice A m cA)).setCell ⟨w.heap.size + 3, 2, none⟩ (.slice Ap np cp)).drew none (some ⟨bs, os, none⟩) A Ap 0 0 n c m cA np cp ⟨[], ⟨s, L, pr⟩, true⟩) := ⟨Sl.nil _ _ _, (HH.out.below HE.out.2).hs, jA HS2.out HW2.out HBL2.out HE0.out.2, (HH.out.below HE.out.2).hp⟩
  clear d0 d1 d2 y0 y1 y2 HE0
  go_wp2_with fail
  generalize World.drew (World.setCell (World.setCell (World.setCell V _ _) _ _) _ _) = z at *
  have q0 := HE.out.1.c0
  have q1 := HE.out.1.c1
  have q2 := HE.out.1.c2
  exact bodyPost_ret (v := .tuple #[.slice none 0 0, .slice (some ⟨bs, os, none⟩) n c, .agg #[.int .i64 co, .slice A m cA, .slice Ap np cp], .bool true]) (by simp [results, Tryz.results39, go_sem, q0, q1, q2]) rfl ⟨_, _, _, _, _, _, _, _, _, _, _, _, by rw [HT.out], by rw [HT.out]; exact HSO, ⟨.inl ⟨rfl, rfl⟩, .inl ⟨rfl, rfl⟩, HWF.out, .inl ⟨rfl, rfl⟩⟩, HE.out.2⟩
end
end Go.Proofs.YtddddlhgaeameaaGreatDoor
