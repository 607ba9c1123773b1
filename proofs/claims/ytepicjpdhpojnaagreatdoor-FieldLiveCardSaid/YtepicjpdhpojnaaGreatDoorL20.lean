import Derived.Test.YtepicjpdhpojnaaGreatDoorL02
import Derived.Test.YtepicjpdhpojnaaGreatDoorShelf
import Derived.Sort.OwnSortedInts
import Derived.Test.YtepicjpdhpojnaaGreatDoorL18
import Derived.Test.YtepicjpdhpojnaaGreatDoorL06
import Derived.Test.YtepicjpdhpojnaaGreatDoorL19
import Derived.Test.YtepicjpdhpojnaaGreatDoorL14
import Derived.Deep.LoopGhost
set_option maxRecDepth 100000
set_option maxHeartbeats 8000000
namespace Go.Proofs.YtepicjpdhpojnaaGreatDoor
open Go.RowKit
def hasB (l : List Int) (x : Int) : Bool := l.contains x
theorem contains_any (A : Option Addr) (n c B : Nat) (l : List Int) (x : Int) (w : World) (h : Sl w B 1 A n c (intsV l)) :
 Calls Tryz.prog 151 #[.slice A n c, .int .i64 x] w fun e w' => e = .returned (.bool (hasB l x)) ∧ w = w' := by
 have hl : l.length = n := h.len (fun _ => rfl) (by decide)
 have hle := h.le
 rcases Nat.eq_zero_or_pos n with rfl | h0
 ·have : l = [] := List.eq_nil_of_length_eq_zero hl
  subst this
  refine (Tryz.slices_Contains_int_empty A c x w).mono ?_
  rintro e w1 ⟨rfl, rfl⟩
  exact ⟨rfl, rfl⟩
 ·obtain ⟨b, off, e, hb, hc⟩ := h.2.2.2.2 h0
  subst e
  refine (Tryz.slices_Contains_int b off n c l x w (by omega) (by omega) (fun j hj => hc j _ ?_)).mono ?_
  ·have := flat_at (f := fun z => [Value.int .i64 z]) (size := 1) (fun _ => rfl) l j 0 _ (List.getElem?_eq_getElem hj) (by decide)
   rw [Nat.mul_one] at this
   rw [List.getD_eq_getElem?_getD, List.getElem?_eq_getElem hj]
   exact this
  ·rintro e w1 ⟨rfl, rfl⟩
   rw [List.take_of_length_le (by omega)]
   exact ⟨rfl, rfl⟩
end Go.Proofs.YtepicjpdhpojnaaGreatDoor
namespace Go.Proofs.YtepicjpdhpojnaaGreatDoor
open Go.RowKit
theorem gapz_any (k : Int) (w : World) : Calls Tryz.prog 147 #[.int .i64 k] w fun e w' => e = .returned (.bool (gapB k)) ∧ w = w' := by
 have HE : Hid (gapB k = (k == 1 || (k == 3 || k == 6))) := by unfold Hid gapB; rw [Bool.or_assoc]
 rcases h1 : (k == 1) with _ | _
 ·rw [h1] at HE
  rcases h3 : (k == 3) with _ | _
  ·rw [h3] at HE
   go_enter Tryz.func147, Tryz.ntmps147
   go_wp2_with fail
   go_ret
   exact ⟨ret_bool (by rw [HE.out]; rfl), rfl⟩
  ·rw [h3] at HE
   go_enter Tryz.func147, Tryz.ntmps147
   go_wp2_with fail
   go_ret
   exact ⟨ret_bool (by rw [HE.out]; rfl), rfl⟩
 ·rw [h1] at HE
  go_enter Tryz.func147, Tryz.ntmps147
  go_wp2_with fail
  go_ret
  exact ⟨ret_bool (by rw [HE.out]; rfl), rfl⟩
def GapsOk (ds : List Dv) (gs : List Int) : Prop := risL ds.length (-1) gs = true ∧ ∀ g ∈ gs, ∀ x, ds[g.toNat]? = some x → gapB x.kind = true
def Rgn (ds : List Dv) (gs z : List Int) (v : Int) : Prop := Rch ds (fun i => !hasB gs i) (fun _ => false) z v
open Classical in
noncomputable def nodesL (nn : Nat) (R : Int → Prop) : List Int := ((List.range nn).filter fun v : Nat => decide (R (v : Int))).map fun v : Nat => (v : Int)
open Classical in
theorem nodesL_succ (nn : Nat) (R : Int → Prop) : nodesL (nn + 1) R = nodesL nn R ++ if R nn then [(nn : Int)] else [] := by
 unfold nodesL
 rw [List.range_succ, List.filter_append, List.map_append]
 by_cases h : R (nn : Int)
 ·simp [h]
 ·simp [h]
theorem nodesL_len (nn : Nat) (R : Int → Prop) : (nodesL nn R).length ≤ nn := by
 unfold nodesL
 rw [List.length_map]
 exact Nat.le_trans (List.length_filter_le _ _) (by simp)
theorem nodesL_mem {nn : Nat} {R : Int → Prop} {v : Int} : v ∈ nodesL nn R ↔ 0 ≤ v ∧ v < nn ∧ R v := by
 unfold nodesL
 simp only [List.mem_map, List.mem_filter, List.mem_range, decide_eq_true_eq]
 constructor
 ·rintro ⟨k, ⟨h1, h2⟩, rfl⟩; exact ⟨by omega, by omega, h2⟩
 ·rintro ⟨h1, h2, h3⟩
  obtain ⟨k, rfl⟩ := Int.eq_ofNat_of_zero_le h1
  exact ⟨k, ⟨by omega, h3⟩, rfl⟩
theorem reg1_any (Ag : Option Addr) (n c B bb : Nat) (gs : List Int) (i : Nat) (W : World) (hc : W.cell? ⟨bb, 0, none⟩ = some (.slice Ag n c)) (hs : Sl W B 1 Ag n c (intsV gs)) :
 Calls Tryz.prog 165 #[.int .i64 i, .pointer (some ⟨bb, 0, none⟩)] W fun e W' => e = .returned (.bool (!hasB gs i)) ∧ W = W' := by
 have HC := Lib.hid (contains_any Ag n c B gs i W hs)
 clear hs
 go_enter Tryz.func165, Tryz.ntmps165
 go_wp2_with fail
 refine HC.out.mono ?_
 rintro e w1 ⟨rfl, rfl⟩
 go_wp2_with fail
 go_ret
 exact ⟨rfl, rfl⟩
theorem reg2_any (v : Int) (w : World) : Calls Tryz.prog 166 #[.int .i64 v] w fun e w' => e = .returned (.bool false) ∧ w = w' := by
 go_enter Tryz.func166, Tryz.ntmps166
 go_wp2_with fail
 go_ret
 exact ⟨rfl, rfl⟩
theorem region_any (An Ad Az Ag : Option Addr) (nn cn nd cd n c ng cg : Nat) (ds : List Dv) (z gs : List Int) (w : World) (hd : Sl w w.heap.size 5 Ad nd cd (ds.flatMap Dv.cells)) (hz : Sl w w.heap.size 1 Az n c (intsV z)) (hg : Sl w w.heap.size 1 Ag ng cg (intsV gs))
 (hnn : nn ≤ 10000) (hn : n ≤ 10000) (hends : EndsOk nn ds) (hsrc : ∀ v ∈ z, 0 ≤ v ∧ v < nn) :
 Calls Tryz.prog 149 #[.agg #[.slice An nn cn, .slice Ad nd cd], .slice Az n c, .slice Ag ng cg] w (FloodPost w nn (Rgn ds gs z)) := by
 have HB : Hid (Below w.heap.size w ((w.alloc (.cells #[.slice An nn cn, .slice Ad nd cd] 30)).alloc (.cells #[.slice Ag ng cg] 22))) := ((Below.refl _ _).alloc (Nat.le_refl _) _).alloc (by simp) _
 have HK := Lib.hid ((Blk.new w 30 #[.slice An nn cn, .slice Ad nd cd]).alloc (.cells #[.slice Ag ng cg] 22))
 have HG := Lib.hid (Blk.new (w.alloc (.cells #[.slice An nn cn, .slice Ad nd cd] 30)) 22 #[.slice Ag ng cg])
 have hsz : (w.alloc (.cells #[.slice An nn cn, .slice Ad nd cd] 30)).heap.size = w.heap.size + 1 := by simp
 rw [hsz] at HG
 have HD := Lib.hid hd; have HZ := Lib.hid hz; have HGS := Lib.hid hg; have HE := Lib.hid hends; have HSR := Lib.hid hsrc
 clear hd hz hg hends hsrc
 have hmf : ∀ (fn : Fn) (first cap : Array Value) (w : World), (Instr.makeFunc fn first cap).run Tryz.prog w = .ok (.func fn first cap) w := fun _ _ _ _ => rfl
 go_enter Tryz.func149, Tryz.ntmps149
 go_upto_region 1 with (fail)
 clear hsz
 generalize World.alloc (World.alloc w _) _ = W at *
 have k0 : W.cell? ⟨w.heap.size, 0, none⟩ = some (.slice An nn cn) := HK.out.cell 0
 have k1 : W.cell? ⟨w.heap.size, 1, none⟩ = some (.slice Ad nd cd) := HK.out.cell 1
 go_wp2_with fail
 clear k0 k1
 have hzW := HB.out.size
 refine (flood_any An Ad Az nn cn nd cd n c W.heap.size W.heap.size 165 166 #[.pointer (some ⟨w.heap.size + 1, 0, none⟩)] #[] ds z (fun i => !hasB gs i) (fun _ => false) W ((HD.out.below HB.out (Nat.le_refl _)).more hzW) (Nat.le_refl _) ((HZ.out.below HB.out (Nat.le_refl _)).more hzW) (Nat.le_refl _) hnn hn HE.out HSR.out (enters_of Tryz.func165 (by kernel_rfl) rfl) (enters_of Tryz.func166 (by kernel_rfl) rfl) ?_ ?_).mono ?_
 ·intro W' i hb _
  refine (reg1_any Ag ng cg w.heap.size (w.heap.size + 1) gs i W' ((hb.cell (p := ⟨w.heap.size + 1, 0, none⟩) HG.out.lt).trans (HG.out.cell 0)) ((HGS.out.below HB.out (Nat.le_refl _)).below hb hzW)).mono ?_
  rintro e w' ⟨rfl, rfl⟩
  exact ⟨rfl, Below.refl _ _⟩
 ·intro W' v _ _ _
  refine (reg2_any v W').mono ?_
  rintro e w' ⟨rfl, rfl⟩
  exact ⟨rfl, Below.refl _ _⟩
 ·rintro e w1 ⟨A, l, rfl, hl, hO, hR, hb⟩
  go_wp2_with fail
  go_ret
  exact ⟨A, l, rfl, hl, World.ownsRow.mono hO.out (by omega), hR, HB.out.trans (hb.out.mono hzW)⟩
theorem sl_take {w : World} {B n c k : Nat} {A : Option Addr} {l : List Int} (h : Sl w B 1 A n c (intsV l)) (hk : k ≤ n) : Sl w B 1 A k c (intsV (l.take k)) := by
 have hl : l.length = n := h.len (fun _ => rfl) (by decide)
 obtain ⟨h1, h2, h3, h4, h5⟩ := h
 refine ⟨?_, by omega, h3, h4, fun h0 => ?_⟩
 ·unfold intsV; rw [flat1_map, List.length_map, List.length_take]; omega
 ·obtain ⟨b, off, e, hb, hc⟩ := h5 (by omega)
  refine ⟨b, off, e, hb, fun j u hu => hc j u ?_⟩
  unfold intsV at hu ⊢
  rw [flat1_map, List.getElem?_map] at hu ⊢
  rw [List.getElem?_take] at hu
  split at hu
  ·exact hu
  ·simp at hu
def ZgR (w : World) (N : Array Value) (n gk : Nat) (iv : Value) (wr : World) : Prop := ∃ i : Nat, iv = .int .i64 i ∧ i ≤ n ∧ gk = n - i ∧ Hid (Blk wr w.heap.size 30 N) ∧ Hid (Below w.heap.size w wr)
theorem zgcheck_any (An Ad Az Ag : Option Addr) (nn cn nd cd n c ng cg : Nat) (ns : List Nd) (ds : List Dv) (z gs : List Int) (w : World) (hl : Laid w) (hn : Sl w w.heap.size 3 An nn cn (ns.flatMap Nd.cells)) (hd : Sl w w.heap.size 5 Ad nd cd (ds.flatMap Dv.cells)) (hz : Sl w w.heap.size 1 Az n c (intsV z)) (hg : Sl w w.heap.size 1 Ag ng cg (intsV gs))
 (hsn : ∀ x ∈ ns, x.name.size ≤ 9223372036854775807) (hsd : ∀ x ∈ ds, x.name.size ≤ 9223372036854775807) (hgo : GapsOk ds gs) :
 Calls Tryz.prog 148 #[.agg #[.slice An nn cn, .slice Ad nd cd], .slice Az n c, .slice Ag ng cg] w fun e w' => e = .returned (.int .i64 (zoneErr ns ds z)) ∧ Below w.heap.size w w' := by
 have HLD := Lib.hid (hd.len (fun _ => rfl) (by decide)); have HLG := Lib.hid (hg.len (fun _ => rfl) (by decide))
 have hgl := hg.le
 have hdl := hd.le
 have HB : Hid (Below w.heap.size w (w.alloc (.cells #[.slice An nn cn, .slice Ad nd cd] 30))) := (Below.refl _ _).alloc (Nat.le_refl _) _
 have HK := Lib.hid (Blk.new w 30 #[.slice An nn cn, .slice Ad nd cd])
 have hz1 := HB.out.size
 have HC := Lib.hid (zcheck_any An Ad Az nn cn nd cd n c ns ds z (w.alloc (.cells #[.slice An nn cn, .slice Ad nd cd] 30)) (hl.alloc _) ((hn.below HB.out (Nat.le_refl _)).more hz1) ((hd.below HB.out (Nat.le_refl _)).more hz1) ((hz.below HB.out (Nat.le_refl _)).more hz1) hsn hsd)
 have HG := Lib.hid hg; have HD := Lib.hid hd; have HGO := Lib.hid hgo
 clear hl hn hd hz hg hsn hsd hgo hz1
 go_enter Tryz.func148, Tryz.ntmps148
 go_wp2_with fail
 generalize World.alloc w _ = W at *
 refine HC.out.mono ?_
 rintro e w1 ⟨rfl, hb1⟩
 have HB1 := Lib.hid (HB.out.trans (hb1.mono HB.out.size))
 have HK1 := Lib.hid (HK.out.below hb1 HK.out.lt)
 clear hb1 HC HB HK
 obtain ⟨er, her⟩ : ∃ x, x = zoneErr ns ds z := ⟨_, rfl⟩
 rw [← her]
 have HER := Lib.hid her
 clear her
 by_cases he : er = 0; rotate_left
 ·have q : (er != 0) = true := by simpa using he
  clear he
  go_wp2_with fail
  go_ret
  exact ⟨ret_int HER.out, HB1.out⟩
 subst he
 go_wp2_with fail
 go_loopg [18] ng (ZgR w #[.slice An nn cn, .slice Ad nd cd] ng)
 case atStart => exact ⟨0, rfl, Nat.zero_le _, rfl, HK1, HB1⟩
 case round =>
  clear HK1 HB1
  obtain ⟨i, rfl, hi, rfl, hk, hb⟩ := hrel
  by_cases hlt : i < ng
  ·obtain ⟨bg, og, g, rfl, hbg, hx, hc⟩ := (HG.out.below hb.out (Nat.le_refl _)).at1 hlt
   have hmem := List.mem_of_getElem? hx
   have hgr := ris_mem HGO.out.1 g hmem
   obtain ⟨g, rfl⟩ := Int.eq_ofNat_of_zero_le (show 0 ≤ g by omega)
   have hgn : g < nd := by have := HLD.out; omega
   obtain ⟨b0, off, x, rfl, hb0, hx0, hc0⟩ := (HD.out.below hb.out (Nat.le_refl _)).at (k := g) (fun _ => rfl) (by decide) hgn
   have HGB : Hid (gapB x.kind = true) := HGO.out.2 _ hmem x (by rw [Int.toNat_natCast]; exact hx0)
   have c1 : wr.cell? ⟨b0, off + g * 5 + 1, none⟩ = some (.int .i64 x.kind) := hc0 1 _ rfl
   have HC1 := Lib.hid c1
   have HR : Hid (risL nd (-1) (gs.take (i + 1)) = true) := by have := risL_take (i + 1) HGO.out.1; rw [HLD.out] at this; exact this
   have HST : Hid (Sl wr w.heap.size 1 (some ⟨bg, og, none⟩) (i + 1) cg (intsV (gs.take (i + 1)))) := sl_take (HG.out.below hb.out (Nat.le_refl _)) (by omega)
   have hic : i + 1 ≤ cg := by omega
   have hiI : ((i : Int) + 1) ≤ (cg : Int) := by omega
   have hwr : IntKind.wrap .i64 ((i : Int) + 1) = ((i + 1 : Nat) : Int) := by rw [IntKind.wrap_i64]; omega
   have hiN : ((i + 1 : Nat) : Int) ≤ (cg : Int) := by omega
   have hi0 : 0 ≤ ((i + 1 : Nat) : Int) := by omega
   have hi01 : 0 ≤ ((i : Int) + 1) := by omega
   clear hx hx0 hc0 hmem hgr
   go_upto_region 7 with (fail)
   clear c1
   have HK0 : Hid (wr.cell? ⟨w.heap.size, 0, none⟩ = some (.slice An nn cn) ∧ wr.cell? ⟨w.heap.size, 1, none⟩ = some (.slice (some ⟨b0, off, none⟩) nd cd)) := ⟨hk.out.cell 0, hk.out.cell 1⟩
   refine wp_region_ord (S := fun W' => W'.cell? ⟨w.heap.size, 0, none⟩ = some (.slice An nn cn) ∧ W'.cell? ⟨w.heap.size, 1, none⟩ = some (.slice (some ⟨b0, off, none⟩) nd cd)) (J := []) (n := _) ((0, true) :: (1, true) :: (4, true) :: (5, true) :: (2, true) :: (6, true) :: (3, true) :: (7, false) :: (8, true) :: (9, true) :: []) (by as_aux_lemma => kernel_rfl) (by rfl) (base_cons (k := 2) (by go_simp; rfl) (base_cons (k := 8) (by go_simp; rfl) (base_cons (k := 3) (by go_simp; rfl) base_nil))) ?_ (fun _ _ _ _ _ h => h) (fun Q2 A hsz hbase hn2 hHeld => ?_)
   ·exact HK0.out
   try dsimp only at hHeld
   obtain ⟨b2, b8, b3, -⟩ := hbase
   refine ord_move (i := 0) (d := 24) (v := ?_) rfl rfl rfl (wanted_none rfl) hHeld (fun ρ hρ => ?_) ?_
   rotate_left
   ·(have e2 := Eq.trans (hρ.tmp hsz 2 rfl) (lkp_base b2); exact e2)
   show wpOrd _ _ _ _ _ _ _ _
   refine ord_move (i := 1) (d := 25) (v := ?_) rfl rfl rfl (wanted_none rfl) hHeld (fun ρ hρ => ?_) ?_
   rotate_left
   ·(have e8 := Eq.trans (hρ.tmp hsz 8 rfl) (miss1 rfl (lkp_base b8)); exact e8)
   show wpOrd _ _ _ _ _ _ _ _
   refine ord_take (i := 4) (d := 28) (v := ?_) rfl rfl (wanted_none rfl) hHeld (fun ρ hρ w hSw => ?_) ?_
   rotate_left
   ·(have e3 := Eq.trans (hρ.tmp hsz 3 rfl) (miss1 rfl (miss1 rfl (lkp_base b3))); clear hρ; (try dsimp only at hSw); go_simp; try with_reducible rfl)
   show wpOrd _ _ _ _ _ _ _ _
   refine ord_take (i := 5) (d := 29) (v := ?_) rfl rfl (wanted_none rfl) hHeld (fun ρ hρ w hSw => ?_) ?_
   rotate_left
   ·(have e28 := Eq.trans (hρ.tmp hsz 28 rfl) lkp_hit; clear hρ; (try dsimp only at hSw); have k1 := hSw.2; clear hSw; go_simp; try with_reducible rfl)
   show wpOrd _ _ _ _ _ _ _ _
   refine ord_take (i := 2) (d := 26) (v := ?_) rfl rfl (wanted_none rfl) hHeld (fun ρ hρ w hSw => ?_) ?_
   rotate_left
   ·(have hc := hρ.const; have e25 := Eq.trans (hρ.tmp hsz 25 rfl) (miss1 rfl (miss1 rfl lkp_hit)); clear hρ; (try dsimp only at hSw); go_simp; try with_reducible rfl)
   show wpOrd _ _ _ _ _ _ _ _
   refine ord_take (i := 6) (d := 30) (v := ?_) rfl rfl (wanted_none rfl) hHeld (fun ρ hρ w hSw => ?_) ?_
   rotate_left
   ·(have e29 := Eq.trans (hρ.tmp hsz 29 rfl) (miss1 rfl lkp_hit); clear hρ; (try dsimp only at hSw); go_simp; try with_reducible rfl)
   show wpOrd _ _ _ _ _ _ _ _
   refine ord_take (i := 3) (d := 27) (v := ?_) rfl rfl (wanted_none rfl) hHeld (fun ρ hρ w hSw => ?_) ?_
   rotate_left
   ·(have e24 := Eq.trans (hρ.tmp hsz 24 rfl) (miss4 rfl rfl rfl rfl (miss1 rfl lkp_hit)); have e26 := Eq.trans (hρ.tmp hsz 26 rfl) (miss1 rfl lkp_hit); clear hρ; (try dsimp only at hSw); go_simp; try with_reducible rfl)
   show wpOrd _ _ _ _ _ _ _ _
   refine ord_call (i := 7) (d := 31) (vs := ?_) rfl rfl rfl (wanted_none rfl) (fun ρ hρ => ?_) ?_ ?_
   rotate_left
   ·(have e27 := Eq.trans (hρ.tmp hsz 27 rfl) lkp_hit; have e30 := Eq.trans (hρ.tmp hsz 30 rfl) (miss1 rfl lkp_hit); simp only [List.map_toArray, List.map_cons, List.map_nil, e27, e30]; try with_reducible rfl)
   ·(intro w; go_simp)
   refine (rising_any (some ⟨bg, og, none⟩) (i + 1) cg w.heap.size (gs.take (i + 1)) nd wr.drew (HST.out.below (Below.refl w.heap.size wr).drew (Nat.le_refl _))).mono ?_
   rintro e w3 ⟨rfl, rfl⟩
   rw [HR.out]
   refine ⟨_, rfl, fun _ => ?_, fun hHeld' => ?_⟩
   ·exact HK0.out
   replace hHeld := hHeld' rfl
   clear hHeld'
   try dsimp only at hHeld
   show wpOrd _ _ _ _ _ _ _ _
   refine ord_take (i := 8) (d := 32) (v := ?_) rfl rfl (wanted_none rfl) hHeld (fun ρ hρ w hSw => ?_) ?_
   rotate_left
   ·(have e31 := Eq.trans (hρ.tmp hsz 31 rfl) lkp_hit; clear hρ; (try dsimp only at hSw); go_simp; try with_reducible rfl)
   show wpOrd _ _ _ _ _ _ _ _
   refine ord_take (i := 9) (d := 23) (v := ?_) rfl rfl (wanted_none rfl) hHeld (fun ρ hρ w hSw => ?_) ?_
   rotate_left
   ·(have e32 := Eq.trans (hρ.tmp hsz 32 rfl) lkp_hit; clear hρ; (try dsimp only at hSw); go_simp; try with_reducible rfl)
   show wpOrd _ _ _ _ _ _ _ _
   refine ord_done hn2 ?_
   clear hHeld hn2 b2 b8 b3 hsz A Q2
   simp only [puts_nil, puts_cons, put_lit, set_1, set_0]
   have k1 : wr.cell? ⟨w.heap.size, 1, none⟩ = some (.slice (some ⟨b0, off, none⟩) nd cd) := HK0.out.2
   have c1 := HC1.out
   have HK2 := Lib.hid (hk.out.below (Below.refl wr.heap.size wr).drew hk.out.lt)
   have HB2 := Lib.hid hb.out.drew
   clear hk hb HK0 HST HC1
   go_wp2_with fail
   clear k1 c1
   refine (gapz_any x.kind wr.drew).mono ?_
   rintro e w4 ⟨rfl, rfl⟩
   rw [HGB.out]
   go_wp2_with fail
   go_roundg (ng - (i + 1))
   case rel => exact ⟨i + 1, by go_num, by omega, rfl, HK2, HB2⟩
   case measure => omega
  ·obtain rfl : i = ng := by omega
   have hii : decide (i < i) = false := by simp
   go_wp2_with fail
   go_ret
   exact ⟨ret_int HER.out, hb.out⟩
end Go.Proofs.YtepicjpdhpojnaaGreatDoor
namespace Go.Proofs.YtepicjpdhpojnaaGreatDoor
open Go.RowKit
def HaR (w : World) (l : List Int) (x : Int) (n gk : Nat) (iv : Value) (wr : World) : Prop := ∃ i : Nat, iv = .int .i64 i ∧ i ≤ n ∧ gk = n - i ∧ wr = w ∧ Hid (∀ k, k < i → l[k]? ≠ some x)
theorem rhas_any (A : Option Addr) (n c : Nat) (l : List Int) (x : Int) (w : World) (hs : Sl w w.heap.size 1 A n c (intsV l)) :
 Calls Tryz.prog 24 #[.slice A n c, .int .i64 x] w fun e w' => e = .returned (.bool (decide (x ∈ l))) ∧ w = w' := by
 have hnm := hs.le
 have HS := Lib.hid hs
 have HLN := Lib.hid (hs.len (fun _ => rfl) (by decide))
 clear hs
 go_enter Tryz.func24, Tryz.ntmps24
 go_wp2_with fail
 go_loopg [5] n (HaR w l x n)
 case atStart => exact ⟨0, rfl, Nat.zero_le _, rfl, rfl, fun k hk => absurd hk (by omega)⟩
 case round =>
  obtain ⟨i, rfl, hi, rfl, rfl, hno⟩ := hrel
  by_cases hlt : i < n
  ·obtain ⟨b, off, y, rfl, hb, hy, hc⟩ := HS.out.at1 hlt
   have HY := Lib.hid hy
   clear hy
   by_cases hxy : y = x
   ·have q : (y == x) = true := by simpa using hxy
    have HR : Hid (decide (x ∈ l) = true) := by
     unfold Hid
     rw [decide_eq_true_eq, ← hxy]
     exact List.mem_of_getElem? HY.out
    clear hxy
    go_wp2_with fail
    go_ret
    exact ⟨ret_bool HR.out.symm, rfl⟩
   ·have q : (y == x) = false := by simpa using hxy
    have HN : Hid (∀ k, k < i + 1 → l[k]? ≠ some x) := fun k hk e => by
     rcases Nat.lt_succ_iff_lt_or_eq.1 hk with h | rfl
     ·exact hno.out k h e
     ·rw [HY.out] at e; injection e with e; exact hxy e
    clear hxy
    go_wp2_with fail
    go_roundg (n - (i + 1))
    case rel => exact ⟨i + 1, by go_num, by omega, rfl, rfl, HN⟩
    case measure => omega
  ·obtain rfl : i = n := by omega
   have hii : decide (i < i) = false := by simp
   have HR : Hid (decide (x ∈ l) = false) := by
    unfold Hid
    rw [decide_eq_false_iff_not]
    intro hm
    obtain ⟨k, hk⟩ := List.mem_iff_getElem?.1 hm
    exact hno.out k (by have := (List.getElem?_eq_some_iff.1 hk).1; rw [HLN.out] at this; exact this) hk
   go_wp2_with fail
   go_ret
   exact ⟨ret_bool HR.out.symm, rfl⟩
end Go.Proofs.YtepicjpdhpojnaaGreatDoor
namespace Go.Proofs.YtepicjpdhpojnaaGreatDoor
open Go.RowKit
def RegPost (w : World) (ns : List Nd) (ds : List Dv) (z gs : List Int) (e : Ending) (w' : World) : Prop :=
 (zoneErr ns ds z ≠ 0 ∧ e = .returned (.tuple #[.slice none 0 0, .int .i64 (zoneErr ns ds z)]) ∨ zoneErr ns ds z = 0 ∧ ∃ (A : Option Addr) (k c : Nat), e = .returned (.tuple #[.slice A k c, .int .i64 0]) ∧ Hid (IntsO w' w.heap.size A k c (nodesL ns.length (Rgn ds gs z)))) ∧ Hid (Below w.heap.size w w')
def ZrR (w2 : World) (R : Int → Prop) (n gk : Nat) (ov iv : Value) (wr : World) : Prop := ∃ (i m co : Nat) (Ao : Option Addr), ov = .slice Ao m co ∧ iv = .int .i64 i ∧ i ≤ n ∧ gk = n - i ∧ m ≤ i ∧ Hid (IntsO wr w2.heap.size Ao m co (nodesL i R)) ∧ Hid (Below w2.heap.size w2 wr)
theorem nodesL_yes {n : Nat} {R : Int → Prop} (h : R n) : nodesL (n + 1) R = nodesL n R ++ [(n : Int)] := by rw [nodesL_succ, if_pos h]
theorem nodesL_no {n : Nat} {R : Int → Prop} (h : ¬ R n) : nodesL (n + 1) R = nodesL n R := by rw [nodesL_succ, if_neg h, List.append_nil]
theorem Region_any (An Ad Az Ag : Option Addr) (nn cn nd cd n c ng cg : Nat) (ns : List Nd) (ds : List Dv) (z gs : List Int) (w : World) (hl : Laid w) (hn : Sl w w.heap.size 3 An nn cn (ns.flatMap Nd.cells)) (hd : Sl w w.heap.size 5 Ad nd cd (ds.flatMap Dv.cells)) (hz : Sl w w.heap.size 1 Az n c (intsV z)) (hg : Sl w w.heap.size 1 Ag ng cg (intsV gs))
 (hsn : ∀ x ∈ ns, x.name.size ≤ 9223372036854775807) (hsd : ∀ x ∈ ds, x.name.size ≤ 9223372036854775807) (hgo : GapsOk ds gs) (hnz : n ≤ 10000) :
 Calls Tryz.prog 134 #[.agg #[.slice An nn cn, .slice Ad nd cd], .slice Az n c, .slice Ag ng cg] w (RegPost w ns ds z gs) := by
 have HLN := Lib.hid (hn.len (fun _ => rfl) (by decide))
 have HB : Hid (Below w.heap.size w (w.alloc (.cells #[.slice An nn cn, .slice Ad nd cd] 30))) := (Below.refl _ _).alloc (Nat.le_refl _) _
 have HK := Lib.hid (Blk.new w 30 #[.slice An nn cn, .slice Ad nd cd])
 have hz1 := HB.out.size
 have HC := Lib.hid (zgcheck_any An Ad Az Ag nn cn nd cd n c ng cg ns ds z gs (w.alloc (.cells #[.slice An nn cn, .slice Ad nd cd] 30)) (hl.alloc _) ((hn.below HB.out (Nat.le_refl _)).more hz1) ((hd.below HB.out (Nat.le_refl _)).more hz1) ((hz.below HB.out (Nat.le_refl _)).more hz1) ((hg.below HB.out (Nat.le_refl _)).more hz1) hsn hsd hgo)
 have HD := Lib.hid hd; have HZ := Lib.hid hz; have HG := Lib.hid hg
 clear hl hn hd hz hg hsn hsd hgo hz1
 go_enter Tryz.func134, Tryz.ntmps134
 go_wp2_with fail
 generalize World.alloc w _ = W at *
 refine HC.out.mono ?_
 rintro e w1 ⟨rfl, hb1⟩
 have HB1 := Lib.hid (HB.out.trans (hb1.mono HB.out.size))
 have HK1 := Lib.hid (HK.out.below hb1 HK.out.lt)
 clear hb1 HC HB HK
 by_cases he : zoneErr ns ds z = 0; rotate_left
 ·have q : (zoneErr ns ds z != 0) = true := by simpa using he
  have HE := Lib.hid he
  clear he
  go_wp2_with fail
  go_ret2
  exact ⟨.inl ⟨HE.out, rfl⟩, HB1.out⟩
 have HE := Lib.hid he
 obtain ⟨hck, hzp, hzr⟩ := zoneErr_zero he
 have HOK := Lib.hid (NetOk.of hck)
 have hnl := HOK.out.nl
 have HZI : Hid (∀ v ∈ z, 0 ≤ v ∧ v < nn) := fun v hv => by have := ris_mem hzr v hv; rw [HLN.out] at this; omega
 have HEN : Hid (EndsOk nn ds) := by have := HOK.out.e; rw [HLN.out] at this; exact this
 have hnn : nn ≤ 32 := by have := HLN.out; omega
 rw [he]
 clear he hck hzp hzr hnl
 have hzw := HB1.out.size
 have k0 : w1.cell? ⟨w.heap.size, 0, none⟩ = some (.slice An nn cn) := HK1.out.cell 0
 have k1 : w1.cell? ⟨w.heap.size, 1, none⟩ = some (.slice Ad nd cd) := HK1.out.cell 1
 go_wp2_with fail
 clear k0 k1
 refine (region_any An Ad Az Ag nn cn nd cd n c ng cg ds z gs w1 ((HD.out.below HB1.out (Nat.le_refl _)).more hzw) ((HZ.out.below HB1.out (Nat.le_refl _)).more hzw) ((HG.out.below HB1.out (Nat.le_refl _)).more hzw) (by omega) (by omega) HEN.out HZI.out).mono ?_
 rintro e w2 ⟨AR, l, rfl, hll, hO, hR, hb2⟩
 have HB2 := Lib.hid (HB1.out.trans (hb2.out.mono hzw))
 have HLL := Lib.hid hll
 clear hb2 HB1 HK1 hll
 have hz2 := HB2.out.size
 obtain ⟨R, hRR⟩ : ∃ R, R = Rgn ds gs z := ⟨_, rfl⟩
 rw [← hRR] at hR
 have HRR := Lib.hid hRR
 clear hRR
 go_wp2_with fail
 go_loopg [9, 24] nn (ZrR w2 R nn)
 case atStart => exact ⟨0, 0, 0, none, rfl, rfl, Nat.zero_le _, rfl, Nat.le_refl _, World.ownsRow_nil _ _ _ _, Below.refl _ _⟩
 case round =>
  obtain ⟨i, m, co, Ao, rfl, rfl, hi, rfl, hmi, hI, hb⟩ := hrel
  by_cases hlt : i < nn
  ·obtain ⟨g, x, rfl, hg1, hg2, hx, hc, -, -⟩ := (hO.out.later hb.out).at hlt
   have HX := Lib.hid hx
   clear hx
   rcases x with _ | _
   ·have HI2 : Hid (IntsO wr w2.heap.size Ao m co (nodesL (i + 1) R)) := by
     unfold Hid
     rw [nodesL_no (fun h => by have := (hR.out i hlt).2 h; rw [HX.out] at this; cases this)]
     exact hI.out
    go_wp2_with fail
    go_roundg (nn - (i + 1))
    case rel => exact ⟨i + 1, m, co, Ao, rfl, by go_num, by omega, rfl, by omega, HI2, hb⟩
    case measure => omega
   ·have HT : Hid (nodesL (i + 1) R = nodesL i R ++ [(i : Int)]) := nodesL_yes ((hR.out i hlt).1 HX.out)
    have HI3 := Lib.hid hI.out
    clear hI
    go_wp2_with (at_builtin; go_must (refine wpList_app rfl (.tmp 30) (.tmp 32) rfl el_int (by rfl) (HI3.out.alloc _) (by rfl) (Sl.newest (n := 1) (by simp) (by rfl) (by decide)) (by simp [Value.oneCell']) (by omega) (by omega) (by have := hb.out.size; simp; omega) ?_; intro A2 co2 w5 hown5 hgr5 hat5; have HO5 := Lib.hid hown5; have HB5 : Hid (Below w2.heap.size w2 w5) := (hb.out.alloc hb.out.size _).trans ⟨hgr5.os, hgr5.tape, hgr5.output, hgr5.size, fun t ht => hgr5.block t (by have := hb.out.size; simp; omega) (fun e => by have := (HI3.out.lt t e.symm).1; omega)⟩; clear hown5 hgr5 hat5))
    have HO6 : Hid (IntsO w5 w2.heap.size A2 (m + 1) co2 (nodesL (i + 1) R)) := by
     unfold Hid
     rw [HT.out]
     unfold IntsO
     rw [intsV_append]
     exact HO5.out
    go_roundg (nn - (i + 1))
    case rel => exact ⟨i + 1, m + 1, co2, A2, rfl, by go_num, by omega, rfl, by omega, HO6, HB5⟩
    case measure => omega
  ·obtain rfl : i = nn := by omega
   have hii : decide (i < i) = false := by simp
   go_wp2_with fail
   go_ret2
   exact ⟨.inr ⟨HE.out, Ao, m, co, rfl, by rw [HLN.out, ← HRR.out]; exact hI.out.mono hz2⟩, HB2.out.trans (hb.out.mono hz2)⟩
end Go.Proofs.YtepicjpdhpojnaaGreatDoor
