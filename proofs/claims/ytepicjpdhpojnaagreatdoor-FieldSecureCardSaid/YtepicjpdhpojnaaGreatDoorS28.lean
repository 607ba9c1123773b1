import Derived.Test.YtepicjpdhpojnaaGreatDoorS24
import Derived.Test.YtepicjpdhpojnaaGreatDoorS26
import Derived.Test.YtepicjpdhpojnaaGreatDoorS27
import Derived.Test.YtepicjpdhpojnaaGreatDoorS15
import Derived.Test.YtepicjpdhpojnaaGreatDoorShelf
set_option maxRecDepth 100000
set_option maxHeartbeats 8000000
namespace Go.Proofs.YtepicjpdhpojnaaGreatDoor
open Go.RowKit
theorem gapz_any (k : Int) (w : World) : Calls Tryz.prog 147 #[.int .i64 k] w fun e w' => e = .returned (.bool (gapB k)) ∧ w = w' := by
 have HE : Hid (gapB k = (k == 1 || (k == 3 || k == 6))) := by unfold Hid gapB; rw [Bool.or_assoc]
 rcases h1 : (k == 1) with _ | _
 ·rw [h1] at HE
  rcases h3 : (k == 3) with _ | _
  ·rw [h3] at HE
   go_enter Tryz.func147, Tryz.ntmps147
   go_wp2_with fail
   go_ret
   exact ⟨ret_bool (by rw [HE.out]; rfl), rfl⟩
  ·rw [h3] at HE
   go_enter Tryz.func147, Tryz.ntmps147
   go_wp2_with fail
   go_ret
   exact ⟨ret_bool (by rw [HE.out]; rfl), rfl⟩
 ·rw [h1] at HE
  go_enter Tryz.func147, Tryz.ntmps147
  go_wp2_with fail
  go_ret
  exact ⟨ret_bool (by rw [HE.out]; rfl), rfl⟩
theorem rgapk_any (k : Int) (w : World) : Calls Tryz.prog 97 #[.int .i64 k] w fun e w' => e = .returned (.bool (gapB k)) ∧ w = w' := by
 have HE : Hid (gapB k = (k == 1 || (k == 3 || k == 6))) := by unfold Hid gapB; rw [Bool.or_assoc]
 rcases h1 : (k == 1) with _ | _
 ·rw [h1] at HE
  rcases h3 : (k == 3) with _ | _
  ·rw [h3] at HE
   go_enter Tryz.func97, Tryz.ntmps97
   go_wp2_with fail
   go_ret
   exact ⟨ret_bool (by rw [HE.out]; rfl), rfl⟩
  ·rw [h3] at HE
   go_enter Tryz.func97, Tryz.ntmps97
   go_wp2_with fail
   go_ret
   exact ⟨ret_bool (by rw [HE.out]; rfl), rfl⟩
 ·rw [h1] at HE
  go_enter Tryz.func97, Tryz.ntmps97
  go_wp2_with fail
  go_ret
  exact ⟨ret_bool (by rw [HE.out]; rfl), rfl⟩
def GapsOk (ds : List Dv) (gs : List Int) : Prop := risL ds.length (-1) gs = true ∧ ∀ g ∈ gs, ∀ x, ds[g.toNat]? = some x → gapB x.kind = true
def Rgn (ds : List Dv) (gs z : List Int) (v : Int) : Prop := Rch ds (fun i => !hasB gs i) (fun _ => false) z v
open Classical in
noncomputable def nodesL (nn : Nat) (R : Int → Prop) : List Int := ((List.range nn).filter fun v : Nat => decide (R (v : Int))).map fun v : Nat => (v : Int)
open Classical in
theorem nodesL_succ (nn : Nat) (R : Int → Prop) : nodesL (nn + 1) R = nodesL nn R ++ if R nn then [(nn : Int)] else [] := by
 unfold nodesL
 rw [List.range_succ, List.filter_append, List.map_append]
 by_cases h : R (nn : Int)
 ·simp [h]
 ·simp [h]
theorem nodesL_len (nn : Nat) (R : Int → Prop) : (nodesL nn R).length ≤ nn := by
 unfold nodesL
 rw [List.length_map]
 exact Nat.le_trans (List.length_filter_le _ _) (by simp)
theorem nodesL_mem {nn : Nat} {R : Int → Prop} {v : Int} : v ∈ nodesL nn R ↔ 0 ≤ v ∧ v < nn ∧ R v := by
 unfold nodesL
 simp only [List.mem_map, List.mem_filter, List.mem_range, decide_eq_true_eq]
 constructor
 ·rintro ⟨k, ⟨h1, h2⟩, rfl⟩; exact ⟨by omega, by omega, h2⟩
 ·rintro ⟨h1, h2, h3⟩
  obtain ⟨k, rfl⟩ := Int.eq_ofNat_of_zero_le h1
  exact ⟨k, ⟨by omega, h3⟩, rfl⟩
theorem reg1_any (Ag : Option Addr) (n c B bb : Nat) (gs : List Int) (i : Nat) (W : World) (hc : W.cell? ⟨bb, 0, none⟩ = some (.slice Ag n c)) (hs : Sl W B 1 Ag n c (intsV gs)) :
 Calls Tryz.prog 165 #[.int .i64 i, .pointer (some ⟨bb, 0, none⟩)] W fun e W' => e = .returned (.bool (!hasB gs i)) ∧ W = W' := by
 have HC := Lib.hid (contains_any Ag n c B gs i W hs)
 clear hs
 go_enter Tryz.func165, Tryz.ntmps165
 go_wp2_with fail
 refine HC.out.mono ?_
 rintro e w1 ⟨rfl, rfl⟩
 go_wp2_with fail
 go_ret
 exact ⟨rfl, rfl⟩
theorem reg2_any (v : Int) (w : World) : Calls Tryz.prog 166 #[.int .i64 v] w fun e w' => e = .returned (.bool false) ∧ w = w' := by
 go_enter Tryz.func166, Tryz.ntmps166
 go_wp2_with fail
 go_ret
 exact ⟨rfl, rfl⟩
theorem region_any (An Ad Az Ag : Option Addr) (nn cn nd cd n c ng cg : Nat) (ds : List Dv) (z gs : List Int) (w : World) (hd : Sl w w.heap.size 5 Ad nd cd (ds.flatMap Dv.cells)) (hz : Sl w w.heap.size 1 Az n c (intsV z)) (hg : Sl w w.heap.size 1 Ag ng cg (intsV gs))
 (hnn : nn ≤ 10000) (hn : n ≤ 10000) (hends : EndsOk nn ds) (hsrc : ∀ v ∈ z, 0 ≤ v ∧ v < nn) :
 Calls Tryz.prog 149 #[.agg #[.slice An nn cn, .slice Ad nd cd], .slice Az n c, .slice Ag ng cg] w (FloodPost w nn (Rgn ds gs z)) := by
 have HB : Hid (Below w.heap.size w ((w.alloc (.cells #[.slice An nn cn, .slice Ad nd cd] 30)).alloc (.cells #[.slice Ag ng cg] 22))) := ((Below.refl _ _).alloc (Nat.le_refl _) _).alloc (by simp) _
 have HK := Lib.hid ((Blk.new w 30 #[.slice An nn cn, .slice Ad nd cd]).alloc (.cells #[.slice Ag ng cg] 22))
 have HG := Lib.hid (Blk.new (w.alloc (.cells #[.slice An nn cn, .slice Ad nd cd] 30)) 22 #[.slice Ag ng cg])
 have hsz : (w.alloc (.cells #[.slice An nn cn, .slice Ad nd cd] 30)).heap.size = w.heap.size + 1 := by simp
 rw [hsz] at HG
 have HD := Lib.hid hd; have HZ := Lib.hid hz; have HGS := Lib.hid hg; have HE := Lib.hid hends; have HSR := Lib.hid hsrc
 clear hd hz hg hends hsrc
 have hmf : ∀ (fn : Fn) (first cap : Array Value) (w : World), (Instr.makeFunc fn first cap).run Tryz.prog w = .ok (.func fn first cap) w := fun _ _ _ _ => rfl
 go_enter Tryz.func149, Tryz.ntmps149
 go_upto_region 1 with (fail)
 clear hsz
 generalize World.alloc (World.alloc w _) _ = W at *
 have k0 : W.cell? ⟨w.heap.size, 0, none⟩ = some (.slice An nn cn) := HK.out.cell 0
 have k1 : W.cell? ⟨w.heap.size, 1, none⟩ = some (.slice Ad nd cd) := HK.out.cell 1
 go_wp2_with fail
 clear k0 k1
 have hzW := HB.out.size
 refine (flood_any An Ad Az nn cn nd cd n c W.heap.size W.heap.size 165 166 #[.pointer (some ⟨w.heap.size + 1, 0, none⟩)] #[] ds z (fun i => !hasB gs i) (fun _ => false) W ((HD.out.below HB.out (Nat.le_refl _)).more hzW) (Nat.le_refl _) ((HZ.out.below HB.out (Nat.le_refl _)).more hzW) (Nat.le_refl _) hnn hn HE.out HSR.out (enters_of Tryz.func165 (by kernel_rfl) rfl) (enters_of Tryz.func166 (by kernel_rfl) rfl) ?_ ?_).mono ?_
 ·intro W' i hb _
  refine (reg1_any Ag ng cg w.heap.size (w.heap.size + 1) gs i W' ((hb.cell (p := ⟨w.heap.size + 1, 0, none⟩) HG.out.lt).trans (HG.out.cell 0)) ((HGS.out.below HB.out (Nat.le_refl _)).below hb hzW)).mono ?_
  rintro e w' ⟨rfl, rfl⟩
  exact ⟨rfl, Below.refl _ _⟩
 ·intro W' v _ _ _
  refine (reg2_any v W').mono ?_
  rintro e w' ⟨rfl, rfl⟩
  exact ⟨rfl, Below.refl _ _⟩
 ·rintro e w1 ⟨A, l, rfl, hl, hO, hR, hb⟩
  go_wp2_with fail
  go_ret
  exact ⟨A, l, rfl, hl, World.ownsRow.mono hO.out (by omega), hR, HB.out.trans (hb.out.mono hzW)⟩
theorem sl_take {w : World} {B n c k : Nat} {A : Option Addr} {l : List Int} (h : Sl w B 1 A n c (intsV l)) (hk : k ≤ n) : Sl w B 1 A k c (intsV (l.take k)) := by
 have hl : l.length = n := h.len (fun _ => rfl) (by decide)
 obtain ⟨h1, h2, h3, h4, h5⟩ := h
 refine ⟨?_, by omega, h3, h4, fun h0 => ?_⟩
 ·unfold intsV; rw [flat1_map, List.length_map, List.length_take]; omega
 ·obtain ⟨b, off, e, hb, hc⟩ := h5 (by omega)
  refine ⟨b, off, e, hb, fun j u hu => hc j u ?_⟩
  unfold intsV at hu ⊢
  rw [flat1_map, List.getElem?_map] at hu ⊢
  rw [List.getElem?_take] at hu
  split at hu
  ·exact hu
  ·simp at hu
def ZgR (w : World) (N : Array Value) (n gk : Nat) (iv : Value) (wr : World) : Prop := ∃ i : Nat, iv = .int .i64 i ∧ i ≤ n ∧ gk = n - i ∧ Hid (Blk wr w.heap.size 30 N) ∧ Hid (Below w.heap.size w wr)
theorem zgcheck_any (An Ad Az Ag : Option Addr) (nn cn nd cd n c ng cg : Nat) (ns : List Nd) (ds : List Dv) (z gs : List Int) (w : World) (hl : Laid w) (hn : Sl w w.heap.size 3 An nn cn (ns.flatMap Nd.cells)) (hd : Sl w w.heap.size 5 Ad nd cd (ds.flatMap Dv.cells)) (hz : Sl w w.heap.size 1 Az n c (intsV z)) (hg : Sl w w.heap.size 1 Ag ng cg (intsV gs))
 (hsn : ∀ x ∈ ns, x.name.size ≤ 9223372036854775807) (hsd : ∀ x ∈ ds, x.name.size ≤ 9223372036854775807) (hgo : GapsOk ds gs) :
 Calls Tryz.prog 148 #[.agg #[.slice An nn cn, .slice Ad nd cd], .slice Az n c, .slice Ag ng cg] w fun e w' => e = .returned (.int .i64 (zoneErr ns ds z)) ∧ Below w.heap.size w w' := by
 have HLD := Lib.hid (hd.len (fun _ => rfl) (by decide)); have HLG := Lib.hid (hg.len (fun _ => rfl) (by decide))
 have hgl := hg.le
 have hdl := hd.le
 have HB : Hid (Below w.heap.size w (w.alloc (.cells #[.slice An nn cn, .slice Ad nd cd] 30))) := (Below.refl _ _).alloc (Nat.le_refl _) _
 have HK := Lib.hid (Blk.new w 30 #[.slice An nn cn, .slice Ad nd cd])
 have hz1 := HB.out.size
 have HC := Lib.hid (zcheck_any An Ad Az nn cn nd cd n c ns ds z (w.alloc (.cells #[.slice An nn cn, .slice Ad nd cd] 30)) (hl.alloc _) ((hn.below HB.out (Nat.le_refl _)).more hz1) ((hd.below HB.out (Nat.le_refl _)).more hz1) ((hz.below HB.out (Nat.le_refl _)).more hz1) hsn hsd)
 have HG := Lib.hid hg; have HD := Lib.hid hd; have HGO := Lib.hid hgo
 clear hl hn hd hz hg hsn hsd hgo hz1
 go_enter Tryz.func148, Tryz.ntmps148
 go_wp2_with fail
 generalize World.alloc w _ = W at *
 refine HC.out.mono ?_
 rintro e w1 ⟨rfl, hb1⟩
 have HB1 := Lib.hid (HB.out.trans (hb1.mono HB.out.size))
 have HK1 := Lib.hid (HK.out.below hb1 HK.out.lt)
 clear hb1 HC HB HK
 obtain ⟨er, her⟩ : ∃ x, x = zoneErr ns ds z := ⟨_, rfl⟩
 rw [← her]
 have HER := Lib.hid her
 clear her
 by_cases he : er = 0; rotate_left
 ·have q : (er != 0) = true := by simpa using he
  clear he
  go_wp2_with fail
  go_ret
  exact ⟨ret_int HER.out, HB1.out⟩
 subst he
 go_wp2_with fail
 go_loopg [18] ng (ZgR w #[.slice An nn cn, .slice Ad nd cd] ng)
 case atStart => exact ⟨0, rfl, Nat.zero_le _, rfl, HK1, HB1⟩
 case round =>
  clear HK1 HB1
  obtain ⟨i, rfl, hi, rfl, hk, hb⟩ := hrel
  by_cases hlt : i < ng
  ·obtain ⟨bg, og, g, rfl, hbg, hx, hc⟩ := (HG.out.below hb.out (Nat.le_refl _)).at1 hlt
   have hmem := List.mem_of_getElem? hx
   have hgr := ris_mem HGO.out.1 g hmem
   obtain ⟨g, rfl⟩ := Int.eq_ofNat_of_zero_le (show 0 ≤ g by omega)
   have hgn : g < nd := by have := HLD.out; omega
   obtain ⟨b0, off, x, rfl, hb0, hx0, hc0⟩ := (HD.out.below hb.out (Nat.le_refl _)).at (k := g) (fun _ => rfl) (by decide) hgn
   have HGB : Hid (gapB x.kind = true) := HGO.out.2 _ hmem x (by rw [Int.toNat_natCast]; exact hx0)
   have c1 : wr.cell? ⟨b0, off + g * 5 + 1, none⟩ = some (.int .i64 x.kind) := hc0 1 _ rfl
   have HC1 := Lib.hid c1
   have HR : Hid (risL nd (-1) (gs.take (i + 1)) = true) := by have := risL_take (i + 1) HGO.out.1; rw [HLD.out] at this; exact this
   have HST : Hid (Sl wr w.heap.size 1 (some ⟨bg, og, none⟩) (i + 1) cg (intsV (gs.take (i + 1)))) := sl_take (HG.out.below hb.out (Nat.le_refl _)) (by omega)
   have hic : i + 1 ≤ cg := by omega
   have hiI : ((i : Int) + 1) ≤ (cg : Int) := by omega
   have hwr : IntKind.wrap .i64 ((i : Int) + 1) = ((i + 1 : Nat) : Int) := by rw [IntKind.wrap_i64]; omega
   have hiN : ((i + 1 : Nat) : Int) ≤ (cg : Int) := by omega
   have hi0 : 0 ≤ ((i + 1 : Nat) : Int) := by omega
   have hi01 : 0 ≤ ((i : Int) + 1) := by omega
   clear hx hx0 hc0 hmem hgr
   go_upto_region 7 with (fail)
   clear c1
   have HK0 : Hid (wr.cell? ⟨w.heap.size, 0, none⟩ = some (.slice An nn cn) ∧ wr.cell? ⟨w.heap.size, 1, none⟩ = some (.slice (some ⟨b0, off, none⟩) nd cd)) := ⟨hk.out.cell 0, hk.out.cell 1⟩
   refine wp_region_ord (S := fun W' => W'.cell? ⟨w.heap.size, 0, none⟩ = some (.slice An nn cn) ∧ W'.cell? ⟨w.heap.size, 1, none⟩ = some (.slice (some ⟨b0, off, none⟩) nd cd)) (J := []) (n := _) ((0, true) :: (1, true) :: (4, true) :: (5, true) :: (2, true) :: (6, true) :: (3, true) :: (7, false) :: (8, true) :: (9, true) :: []) (by as_aux_lemma => kernel_rfl) (by rfl) (base_cons (k := 2) (by go_simp; rfl) (base_cons (k := 8) (by go_simp; rfl) (base_cons (k := 3) (by go_simp; rfl) base_nil))) ?_ (fun _ _ _ _ _ h => h) (fun Q2 A hsz hbase hn2 hHeld => ?_)
   ·exact HK0.out
   try dsimp only at hHeld
   obtain ⟨b2, b8, b3, -⟩ := hbase
   refine ord_move (i := 0) (d := 24) (v := ?_) rfl rfl rfl (wanted_none rfl) hHeld (fun ρ hρ => ?_) ?_
   rotate_left
   ·(have e2 := Eq.trans (hρ.tmp hsz 2 rfl) (lkp_base b2); exact e2)
   show wpOrd _ _ _ _ _ _ _ _
   refine ord_move (i := 1) (d := 25) (v := ?_) rfl rfl rfl (wanted_none rfl) hHeld (fun ρ hρ => ?_) ?_
   rotate_left
   ·(have e8 := Eq.trans (hρ.tmp hsz 8 rfl) (miss1 rfl (lkp_base b8)); exact e8)
   show wpOrd _ _ _ _ _ _ _ _
   refine ord_take (i := 4) (d := 28) (v := ?_) rfl rfl (wanted_none rfl) hHeld (fun ρ hρ w hSw => ?_) ?_
   rotate_left
   ·(have e3 := Eq.trans (hρ.tmp hsz 3 rfl) (miss1 rfl (miss1 rfl (lkp_base b3))); clear hρ; (try dsimp only at hSw); go_simp; try with_reducible rfl)
   show wpOrd _ _ _ _ _ _ _ _
   refine ord_take (i := 5) (d := 29) (v := ?_) rfl rfl (wanted_none rfl) hHeld (fun ρ hρ w hSw => ?_) ?_
   rotate_left
   ·(have e28 := Eq.trans (hρ.tmp hsz 28 rfl) lkp_hit; clear hρ; (try dsimp only at hSw); have k1 := hSw.2; clear hSw; go_simp; try with_reducible rfl)
   show wpOrd _ _ _ _ _ _ _ _
   refine ord_take (i := 2) (d := 26) (v := ?_) rfl rfl (wanted_none rfl) hHeld (fun ρ hρ w hSw => ?_) ?_
   rotate_left
   ·(have hc := hρ.const; have e25 := Eq.trans (hρ.tmp hsz 25 rfl) (miss1 rfl (miss1 rfl lkp_hit)); clear hρ; (try dsimp only at hSw); go_simp; try with_reducible rfl)
   show wpOrd _ _ _ _ _ _ _ _
   refine ord_take (i := 6) (d := 30) (v := ?_) rfl rfl (wanted_none rfl) hHeld (fun ρ hρ w hSw => ?_) ?_
   rotate_left
   ·(have e29 := Eq.trans (hρ.tmp hsz 29 rfl) (miss1 rfl lkp_hit); clear hρ; (try dsimp only at hSw); go_simp; try with_reducible rfl)
   show wpOrd _ _ _ _ _ _ _ _
   refine ord_take (i := 3) (d := 27) (v := ?_) rfl rfl (wanted_none rfl) hHeld (fun ρ hρ w hSw => ?_) ?_
   rotate_left
   ·(have e24 := Eq.trans (hρ.tmp hsz 24 rfl) (miss4 rfl rfl rfl rfl (miss1 rfl lkp_hit)); have e26 := Eq.trans (hρ.tmp hsz 26 rfl) (miss1 rfl lkp_hit); clear hρ; (try dsimp only at hSw); go_simp; try with_reducible rfl)
   show wpOrd _ _ _ _ _ _ _ _
   refine ord_call (i := 7) (d := 31) (vs := ?_) rfl rfl rfl (wanted_none rfl) (fun ρ hρ => ?_) ?_ ?_
   rotate_left
   ·(have e27 := Eq.trans (hρ.tmp hsz 27 rfl) lkp_hit; have e30 := Eq.trans (hρ.tmp hsz 30 rfl) (miss1 rfl lkp_hit); simp only [List.map_toArray, List.map_cons, List.map_nil, e27, e30]; try with_reducible rfl)
   ·(intro w; go_simp)
   refine (rising_any (some ⟨bg, og, none⟩) (i + 1) cg w.heap.size (gs.take (i + 1)) nd wr.drew (HST.out.below (Below.refl w.heap.size wr).drew (Nat.le_refl _))).mono ?_
   rintro e w3 ⟨rfl, rfl⟩
   rw [HR.out]
   refine ⟨_, rfl, fun _ => ?_, fun hHeld' => ?_⟩
   ·exact HK0.out
   replace hHeld := hHeld' rfl
   clear hHeld'
   try dsimp only at hHeld
   show wpOrd _ _ _ _ _ _ _ _
   refine ord_take (i := 8) (d := 32) (v := ?_) rfl rfl (wanted_none rfl) hHeld (fun ρ hρ w hSw => ?_) ?_
   rotate_left
   ·(have e31 := Eq.trans (hρ.tmp hsz 31 rfl) lkp_hit; clear hρ; (try dsimp only at hSw); go_simp; try with_reducible rfl)
   show wpOrd _ _ _ _ _ _ _ _
   refine ord_take (i := 9) (d := 23) (v := ?_) rfl rfl (wanted_none rfl) hHeld (fun ρ hρ w hSw => ?_) ?_
   rotate_left
   ·(have e32 := Eq.trans (hρ.tmp hsz 32 rfl) lkp_hit; clear hρ; (try dsimp only at hSw); go_simp; try with_reducible rfl)
   show wpOrd _ _ _ _ _ _ _ _
   refine ord_done hn2 ?_
   clear hHeld hn2 b2 b8 b3 hsz A Q2
   simp only [puts_nil, puts_cons, put_lit, set_1, set_0]
   have k1 : wr.cell? ⟨w.heap.size, 1, none⟩ = some (.slice (some ⟨b0, off, none⟩) nd cd) := HK0.out.2
   have c1 := HC1.out
   have HK2 := Lib.hid (hk.out.below (Below.refl wr.heap.size wr).drew hk.out.lt)
   have HB2 := Lib.hid hb.out.drew
   clear hk hb HK0 HST HC1
   go_wp2_with fail
   clear k1 c1
   refine (gapz_any x.kind wr.drew).mono ?_
   rintro e w4 ⟨rfl, rfl⟩
   rw [HGB.out]
   go_wp2_with fail
   go_roundg (ng - (i + 1))
   case rel => exact ⟨i + 1, by go_num, by omega, rfl, HK2, HB2⟩
   case measure => omega
  ·obtain rfl : i = ng := by omega
   have hii : decide (i < i) = false := by simp
   go_wp2_with fail
   go_ret
   exact ⟨ret_int HER.out, hb.out⟩
end Go.Proofs.YtepicjpdhpojnaaGreatDoor
namespace Go.Proofs.YtepicjpdhpojnaaGreatDoor
open Go.RowKit
def RegPost (w : World) (ns : List Nd) (ds : List Dv) (z gs : List Int) (e : Ending) (w' : World) : Prop :=
 (zoneErr ns ds z ≠ 0 ∧ e = .returned (.tuple #[.slice none 0 0, .int .i64 (zoneErr ns ds z)]) ∨ zoneErr ns ds z = 0 ∧ ∃ (A : Option Addr) (k c : Nat), e = .returned (.tuple #[.slice A k c, .int .i64 0]) ∧ Hid (IntsO w' w.heap.size A k c (nodesL ns.length (Rgn ds gs z)))) ∧ Hid (Below w.heap.size w w')
def ZrR (w2 : World) (R : Int → Prop) (n gk : Nat) (ov iv : Value) (wr : World) : Prop := ∃ (i m co : Nat) (Ao : Option Addr), ov = .slice Ao m co ∧ iv = .int .i64 i ∧ i ≤ n ∧ gk = n - i ∧ m ≤ i ∧ Hid (IntsO wr w2.heap.size Ao m co (nodesL i R)) ∧ Hid (Below w2.heap.size w2 wr)
theorem nodesL_yes {n : Nat} {R : Int → Prop} (h : R n) : nodesL (n + 1) R = nodesL n R ++ [(n : Int)] := by rw [nodesL_succ, if_pos h]
theorem nodesL_no {n : Nat} {R : Int → Prop} (h : ¬ R n) : nodesL (n + 1) R = nodesL n R := by rw [nodesL_succ, if_neg h, List.append_nil]
theorem Region_any (An Ad Az Ag : Option Addr) (nn cn nd cd n c ng cg : Nat) (ns : List Nd) (ds : List Dv) (z gs : List Int) (w : World) (hl : Laid w) (hn : Sl w w.heap.size 3 An nn cn (ns.flatMap Nd.cells)) (hd : Sl w w.heap.size 5 Ad nd cd (ds.flatMap Dv.cells)) (hz : Sl w w.heap.size 1 Az n c (intsV z)) (hg : Sl w w.heap.size 1 Ag ng cg (intsV gs))
 (hsn : ∀ x ∈ ns, x.name.size ≤ 9223372036854775807) (hsd : ∀ x ∈ ds, x.name.size ≤ 9223372036854775807) (hgo : GapsOk ds gs) (hnz : n ≤ 10000) :
 Calls Tryz.prog 134 #[.agg #[.slice An nn cn, .slice Ad nd cd], .slice Az n c, .slice Ag ng cg] w (RegPost w ns ds z gs) := by
 have HLN := Lib.hid (hn.len (fun _ => rfl) (by decide))
 have HB : Hid (Below w.heap.size w (w.alloc (.cells #[.slice An nn cn, .slice Ad nd cd] 30))) := (Below.refl _ _).alloc (Nat.le_refl _) _
 have HK := Lib.hid (Blk.new w 30 #[.slice An nn cn, .slice Ad nd cd])
 have hz1 := HB.out.size
 have HC := Lib.hid (zgcheck_any An Ad Az Ag nn cn nd cd n c ng cg ns ds z gs (w.alloc (.cells #[.slice An nn cn, .slice Ad nd cd] 30)) (hl.alloc _) ((hn.below HB.out (Nat.le_refl _)).more hz1) ((hd.below HB.out (Nat.le_refl _)).more hz1) ((hz.below HB.out (Nat.le_refl _)).more hz1) ((hg.below HB.out (Nat.le_refl _)).more hz1) hsn hsd hgo)
 have HD := Lib.hid hd; have HZ := Lib.hid hz; have HG := Lib.hid hg
 clear hl hn hd hz hg hsn hsd hgo hz1
 go_enter Tryz.func134, Tryz.ntmps134
 go_wp2_with fail
 generalize World.alloc w _ = W at *
 refine HC.out.mono ?_
 rintro e w1 ⟨rfl, hb1⟩
 have HB1 := Lib.hid (HB.out.trans (hb1.mono HB.out.size))
 have HK1 := Lib.hid (HK.out.below hb1 HK.out.lt)
 clear hb1 HC HB HK
 by_cases he : zoneErr ns ds z = 0; rotate_left
 ·have q : (zoneErr ns ds z != 0) = true := by simpa using he
  have HE := Lib.hid he
  clear he
  go_wp2_with fail
  go_ret2
  exact ⟨.inl ⟨HE.out, rfl⟩, HB1.out⟩
 have HE := Lib.hid he
 obtain ⟨hck, hzp, hzr⟩ := zoneErr_zero he
 have HOK := Lib.hid (NetOk.of hck)
 have hnl := HOK.out.nl
 have HZI : Hid (∀ v ∈ z, 0 ≤ v ∧ v < nn) := fun v hv => by have := ris_mem hzr v hv; rw [HLN.out] at this; omega
 have HEN : Hid (EndsOk nn ds) := by have := HOK.out.e; rw [HLN.out] at this; exact this
 have hnn : nn ≤ 32 := by have := HLN.out; omega
 rw [he]
 clear he hck hzp hzr hnl
 have hzw := HB1.out.size
 have k0 : w1.cell? ⟨w.heap.size, 0, none⟩ = some (.slice An nn cn) := HK1.out.cell 0
 have k1 : w1.cell? ⟨w.heap.size, 1, none⟩ = some (.slice Ad nd cd) := HK1.out.cell 1
 go_wp2_with fail
 clear k0 k1
 refine (region_any An Ad Az Ag nn cn nd cd n c ng cg ds z gs w1 ((HD.out.below HB1.out (Nat.le_refl _)).more hzw) ((HZ.out.below HB1.out (Nat.le_refl _)).more hzw) ((HG.out.below HB1.out (Nat.le_refl _)).more hzw) (by omega) (by omega) HEN.out HZI.out).mono ?_
 rintro e w2 ⟨AR, l, rfl, hll, hO, hR, hb2⟩
 have HB2 := Lib.hid (HB1.out.trans (hb2.out.mono hzw))
 have HLL := Lib.hid hll
 clear hb2 HB1 HK1 hll
 have hz2 := HB2.out.size
 obtain ⟨R, hRR⟩ : ∃ R, R = Rgn ds gs z := ⟨_, rfl⟩
 rw [← hRR] at hR
 have HRR := Lib.hid hRR
 clear hRR
 go_wp2_with fail
 go_loopg [9, 24] nn (ZrR w2 R nn)
 case atStart => exact ⟨0, 0, 0, none, rfl, rfl, Nat.zero_le _, rfl, Nat.le_refl _, World.ownsRow_nil _ _ _ _, Below.refl _ _⟩
 case round =>
  obtain ⟨i, m, co, Ao, rfl, rfl, hi, rfl, hmi, hI, hb⟩ := hrel
  by_cases hlt : i < nn
  ·obtain ⟨g, x, rfl, hg1, hg2, hx, hc, -, -⟩ := (hO.out.later hb.out).at hlt
   have HX := Lib.hid hx
   clear hx
   rcases x with _ | _
   ·have HI2 : Hid (IntsO wr w2.heap.size Ao m co (nodesL (i + 1) R)) := by
     unfold Hid
     rw [nodesL_no (fun h => by have := (hR.out i hlt).2 h; rw [HX.out] at this; cases this)]
     exact hI.out
    go_wp2_with fail
    go_roundg (nn - (i + 1))
    case rel => exact ⟨i + 1, m, co, Ao, rfl, by go_num, by omega, rfl, by omega, HI2, hb⟩
    case measure => omega
   ·have HT : Hid (nodesL (i + 1) R = nodesL i R ++ [(i : Int)]) := nodesL_yes ((hR.out i hlt).1 HX.out)
    have HI3 := Lib.hid hI.out
    clear hI
    go_wp2_with (at_builtin; go_must (refine wpList_app rfl (.tmp 30) (.tmp 32) rfl el_int (by rfl) (HI3.out.alloc _) (by rfl) (Sl.newest (n := 1) (by simp) (by rfl) (by decide)) (by simp [Value.oneCell']) (by omega) (by omega) (by have := hb.out.size; simp; omega) ?_; intro A2 co2 w5 hown5 hgr5 hat5; have HO5 := Lib.hid hown5; have HB5 : Hid (Below w2.heap.size w2 w5) := (hb.out.alloc hb.out.size _).trans ⟨hgr5.os, hgr5.tape, hgr5.output, hgr5.size, fun t ht => hgr5.block t (by have := hb.out.size; simp; omega) (fun e => by have := (HI3.out.lt t e.symm).1; omega)⟩; clear hown5 hgr5 hat5))
    have HO6 : Hid (IntsO w5 w2.heap.size A2 (m + 1) co2 (nodesL (i + 1) R)) := by
     unfold Hid
     rw [HT.out]
     unfold IntsO
     rw [intsV_append]
     exact HO5.out
    go_roundg (nn - (i + 1))
    case rel => exact ⟨i + 1, m + 1, co2, A2, rfl, by go_num, by omega, rfl, by omega, HO6, HB5⟩
    case measure => omega
  ·obtain rfl : i = nn := by omega
   have hii : decide (i < i) = false := by simp
   go_wp2_with fail
   go_ret2
   exact ⟨.inr ⟨HE.out, Ao, m, co, rfl, by rw [HLN.out, ← HRR.out]; exact hI.out.mono hz2⟩, HB2.out.trans (hb.out.mono hz2)⟩
end Go.Proofs.YtepicjpdhpojnaaGreatDoor
namespace Go.Proofs.YtepicjpdhpojnaaGreatDoor
open Go.RowKit
theorem intsPost_is {w w' : World} {l : List Int} {A : Option Addr} {n c : Nat} (hl : l.length = n) (h : IntsO w' w.heap.size A n c l) (hb : Below w.heap.size w w') : IntsPost w l (.returned (.slice A n c)) w' := by subst hl; exact ⟨A, c, rfl, h, hb⟩
structure ZhI (nn : Nat) (ds : List Dv) (gs z : List Int) (out : List Bool) : Prop where
 len : out.length = nn
 sound : ∀ v, marked out v → Rgn ds gs z v
 base : ∀ v ∈ z, marked out v
def okD (ds : List Dv) (gs : List Int) (out : List Bool) (j : Nat) : Prop := ∀ x, ds[j]? = some x → joinsB x.kind = true → hasB gs j = false → (marked out x.a ↔ marked out x.b)
theorem acr_a {x : Dv} (hj : joinsB x.kind = true) : acrB x x.a = x.b := by unfold acrB; rw [if_neg (by rw [hj]; simp), if_pos rfl]
theorem acr_b {x : Dv} (hj : joinsB x.kind = true) (hne : x.b ≠ x.a) : acrB x x.b = x.a := by unfold acrB; rw [if_neg (by rw [hj]; simp), if_neg (fun e => hne e.symm), if_pos rfl]
theorem acr_two {x : Dv} {u : Int} (h : 0 ≤ acrB x u) : joinsB x.kind = true ∧ (u = x.a ∧ acrB x u = x.b ∨ u = x.b ∧ acrB x u = x.a) := by
 unfold acrB at h ⊢
 split at h
 ·omega
 next hj =>
 have hj : joinsB x.kind = true := by simpa using hj
 rw [if_neg (by rw [hj]; simp)]
 split at h
 ·next e => exact ⟨hj, .inl ⟨e.symm, by rw [if_pos e]⟩⟩
 next e =>
 split at h
 ·next e2 => exact ⟨hj, .inr ⟨e2.symm, by rw [if_neg e, if_pos e2]⟩⟩
 ·omega
theorem ZhI.final {nn : Nat} {ds : List Dv} {gs z : List Int} {out : List Bool} (h : ZhI nn ds gs z out) (hok : ∀ j, okD ds gs out j) (v : Int) : marked out v ↔ Rgn ds gs z v := by
 refine ⟨h.sound v, fun hr => ?_⟩
 induction hr with
 | base hv => exact h.base _ hv
 | step _ _ hx hU h0 ih =>
  rename_i u i x _ _
  obtain ⟨hj, ⟨e, e2⟩ | ⟨e, e2⟩⟩ := acr_two h0
  ·rw [e2]; rw [e] at ih
   exact (hok i x hx hj (by simpa using hU)).1 ih
  ·rw [e2]; rw [e] at ih
   exact (hok i x hx hj (by simpa using hU)).2 ih
theorem ZhI.mark {nn : Nat} {ds : List Dv} {gs z : List Int} {out out2 : List Bool} {j a b : Nat} {x : Dv} (h : ZhI nn ds gs z out) (hx : ds[j]? = some x) (hj : joinsB x.kind = true) (hg : hasB gs j = false) (ha : x.a = a) (hb : x.b = b) (hne : b ≠ a) (hd : marked out a ∨ marked out b) (hl : out2.length = nn) (h2 : ∀ v, marked out2 v ↔ v = a ∨ v = b ∨ marked out v) : ZhI nn ds gs z out2 := by
 have h1 : acrB x a = b := by rw [← ha, acr_a hj, hb]
 have h3 : acrB x b = a := by rw [← hb, acr_b hj (by rw [ha, hb]; omega), ha]
 have hab : Rgn ds gs z a ∧ Rgn ds gs z b := by
  rcases hd with hm | hm
  ·have := h.sound _ hm
   refine ⟨this, ?_⟩
   have := Rch.step (x := x) (i := j) this rfl hx (by simpa using hg) (by rw [h1]; omega)
   rwa [h1] at this
  ·have := h.sound _ hm
   refine ⟨?_, this⟩
   have := Rch.step (x := x) (i := j) this rfl hx (by simpa using hg) (by rw [h3]; omega)
   rwa [h3] at this
 refine ⟨hl, fun v hv => ?_, fun v hv => (h2 v).2 (.inr (.inr (h.base v hv)))⟩
 rcases (h2 v).1 hv with rfl | rfl | hv
 ·exact hab.1
 ·exact hab.2
 ·exact h.sound v hv
structure ZhM (w : World) (N : Array Value) (go nn : Nat) (out : List Bool) (wr : World) : Prop where
 bn : Blk wr w.heap.size 30 N
 ob : BoolsO wr (w.heap.size + 1) (some ⟨go, 0, none⟩) nn nn out
 bl : Below w.heap.size w wr
section
variable {w wr wr' : World} {N : Array Value} {go nn : Nat} {out : List Bool}
theorem ZhM.later (h : ZhM w N go nn out wr) (hb : Below wr.heap.size wr wr') : ZhM w N go nn out wr' := ⟨h.bn.below hb h.bn.lt, h.ob.later hb, h.bl.trans (hb.mono h.bl.size)⟩
theorem ZhM.put (h : ZhM w N go nn out wr) {k : Nat} (hk : k < nn) (y : Bool) : ZhM w N go nn (out.set k y) (wr.setCell ⟨go, k, none⟩ (.bool y)) := by
 obtain ⟨g, x, e, h1, h2, hx, hc, hf, hst⟩ := h.ob.at hk
 injection e with e; injection e with e; subst e
 exact ⟨h.bn.far (by simp; omega) _, hst y, h.bl.setCell (by simp; omega) _⟩
theorem ZhM.cell (h : ZhM w N go nn out wr) {k : Nat} (hk : k < nn) : ∃ x, out[k]? = some x ∧ wr.cell? ⟨go, k, none⟩ = some (.bool x) ∧ wr.frozen? ⟨go, k, none⟩ = false := by
 obtain ⟨g, x, e, h1, h2, hx, hc, hf, hst⟩ := h.ob.at hk
 injection e with e; injection e with e; subst e
 exact ⟨x, hx, hc, hf⟩
theorem ZhM.ge (h : ZhM w N go nn out wr) (hn : 0 < nn) : w.heap.size < go := by
 obtain ⟨g, x, e, h1, h2, hx, hc, hf, hst⟩ := h.ob.at hn
 injection e with e; injection e with e; subst e
 omega
end
def Zh1 (w : World) (N : Array Value) (go nn : Nat) (z : List Int) (n gk : Nat) (iv : Value) (wr : World) : Prop := ∃ (i : Nat) (out : List Bool), iv = .int .i64 i ∧ i ≤ n ∧ gk = n - i ∧ Hid (ZhM w N go nn out wr) ∧ Hid (∀ v, marked out v ↔ v ∈ z.take i)
def Zh2 (w : World) (N : Array Value) (go nn : Nat) (ds : List Dv) (gs z : List Int) (gk : Nat) (cv : Value) (wr : World) : Prop := ∃ (ch : Bool) (out : List Bool), cv = .bool ch ∧ gk = (if ch = true then countF out + 1 else 0) ∧ Hid (ZhM w N go nn out wr) ∧ Hid (ZhI nn ds gs z out) ∧ Hid (ch = false → ∀ j, okD ds gs out j)
def Zh3 (w : World) (N : Array Value) (go nn : Nat) (ds : List Dv) (gs z : List Int) (out0 : List Bool) (n gk : Nat) (cv iv : Value) (wr : World) : Prop := ∃ (i : Nat) (ch : Bool) (out : List Bool), cv = .bool ch ∧ iv = .int .i64 i ∧ i ≤ n ∧ gk = n - i ∧ Hid (ZhM w N go nn out wr) ∧ Hid (ZhI nn ds gs z out) ∧ Hid (ch = false → out = out0 ∧ ∀ j, j < i → okD ds gs out j) ∧ Hid (ch = true → countF out < countF out0)
theorem marked_nat {out : List Bool} {k : Nat} : marked out (k : Int) ↔ out[k]? = some true := ⟨fun h => by simpa using h.2, fun h => ⟨by omega, by simpa using h⟩⟩
theorem two_marks {out : List Bool} {a b : Nat} (ha : a < out.length) (hb : b < out.length) : (∀ v, marked ((out.set a true).set b true) v ↔ v = a ∨ v = b ∨ marked out v) ∧ (∀ v, marked ((out.set b true).set a true) v ↔ v = a ∨ v = b ∨ marked out v) := by
 constructor
 ·intro v; rw [marked_set (by rw [List.length_set]; exact hb), marked_set ha]; exact ⟨fun h => by rcases h with h | h | h <;> simp [h], fun h => by rcases h with h | h | h <;> simp [h]⟩
 ·intro v; rw [marked_set (by rw [List.length_set]; exact ha), marked_set hb]
theorem two_count {out : List Bool} {a b : Nat} {va vb : Bool} (hva : out[a]? = some va) (hvb : out[b]? = some vb) (hne : va ≠ vb) (hab : a ≠ b) : countF ((out.set a true).set b true) < countF out ∧ countF ((out.set b true).set a true) < countF out := by
 have same : ∀ {o : List Bool} {k : Nat}, o[k]? = some true → o.set k true = o := fun {o k} h => by
  refine List.ext_getElem? fun i => ?_
  by_cases e : k = i
  ·subst e; rw [List.getElem?_set_self (List.getElem?_eq_some_iff.1 h).1, h]
  ·rw [List.getElem?_set_ne e]
 have main : ∀ {o : List Bool} {p q : Nat}, p ≠ q → o[p]? = some true → o[q]? = some false → countF ((o.set p true).set q true) < countF o ∧ countF ((o.set q true).set p true) < countF o := fun {o p q} hpq h1 h2 => by
  have hc := countF_set h2
  refine ⟨by rw [same h1]; omega, ?_⟩
  rw [same (k := p) (by rw [List.getElem?_set_ne (Ne.symm hpq)]; exact h1)]
  omega
 cases va <;> cases vb
 ·exact absurd rfl hne
 ·exact (main (Ne.symm hab) hvb hva).symm
 ·exact main hab hva hvb
 ·exact absurd rfl hne
theorem rreach_any (An Ad Az Ag : Option Addr) (nn cn nd cd n c ng cg : Nat) (ds : List Dv) (z gs : List Int) (w : World) (hd : Sl w w.heap.size 5 Ad nd cd (ds.flatMap Dv.cells)) (hz : Sl w w.heap.size 1 Az n c (intsV z)) (hg : Sl w w.heap.size 1 Ag ng cg (intsV gs))
 (hnn : nn ≤ 10000) (hends : EndsOk nn ds) (hneq : ∀ x ∈ ds, joinsB x.kind = true → x.b ≠ x.a) (hsrc : ∀ v ∈ z, 0 ≤ v ∧ v < nn) :
 Calls Tryz.prog 120 #[.agg #[.slice An nn cn, .slice Ad nd cd], .slice Az n c, .slice Ag ng cg] w (IntsPost w (nodesL nn (Rgn ds gs z))) := by
 have HLD := Lib.hid (hd.len (fun _ => rfl) (by decide)); have HLZ := Lib.hid (hz.len (fun _ => rfl) (by decide))
 have hdl := hd.le; have hzl := hz.le
 have HD := Lib.hid hd; have HZ := Lib.hid hz; have HG := Lib.hid hg; have HE := Lib.hid hends; have HNE := Lib.hid hneq; have HSR := Lib.hid hsrc
 clear hd hz hg hends hneq hsrc
 have hmk := run_mk_bool nn (by omega) (w.alloc (.cells #[.slice An nn cn, .slice Ad nd cd] 30))
 have hsz1 : (w.alloc (.cells #[.slice An nn cn, .slice Ad nd cd] 30)).heap.size = w.heap.size + 1 := by simp
 have HST : Hid (ZhM w #[.slice An nn cn, .slice Ad nd cd] (w.heap.size + 1) nn (List.replicate nn false) ((w.alloc (.cells #[.slice An nn cn, .slice Ad nd cd] 30)).alloc (.cells (boolsV (List.replicate nn false)).toArray 4))) := by
  refine ⟨(Blk.new w _ _).alloc _, ?_, ((Below.refl _ _).alloc (Nat.le_refl _) _).alloc (by simp) _⟩
  have := bools_new (w := w.alloc (.cells #[.slice An nn cn, .slice Ad nd cd] 30)) (base := w.heap.size + 1) (n := nn) (by simp) (by omega)
  rw [hsz1] at this
  exact this
 rw [hsz1] at hmk
 clear hsz1
 have k0 : (w.alloc (.cells #[.slice An nn cn, .slice Ad nd cd] 30)).cell? ⟨w.heap.size, 0, none⟩ = some (.slice An nn cn) := (Blk.new w _ _).cell 0
 go_enter Tryz.func120, Tryz.ntmps120
 go_upto_region 2 with (fail)
 clear hmk k0
 obtain ⟨go, hgo⟩ : ∃ go, go = w.heap.size + 1 := ⟨_, rfl⟩
 rw [← hgo] at HST ⊢
 clear hgo
 generalize World.alloc (World.alloc _ _) _ = W at *
 go_wp2_with fail
 go_loopg [8] n (Zh1 w #[.slice An nn cn, .slice Ad nd cd] go nn z n)
 case atStart => exact ⟨0, _, rfl, Nat.zero_le _, rfl, HST, fun v => ⟨fun h => absurd h (marked_rep nn v), fun h => by simp at h⟩⟩
 case round =>
  clear HST
  obtain ⟨i, out, rfl, hi, rfl, hM, hI⟩ := hrel
  have HOL := Lib.hid hM.out.ob.len
  by_cases hlt : i < n
  ·obtain ⟨bz, oz, v, rfl, hbz, hx, hc⟩ := (HZ.out.below hM.out.bl (Nat.le_refl _)).at1 hlt
   have hvr := HSR.out v (List.mem_of_getElem? hx)
   obtain ⟨v, rfl⟩ := Int.eq_ofNat_of_zero_le hvr.1
   have hvn : v < nn := by omega
   obtain ⟨x, -, hcell, hfz⟩ := hM.out.cell hvn
   have HM2 := Lib.hid (hM.out.put hvn true)
   have HI2 : Hid (∀ u, marked (out.set v true) u ↔ u ∈ z.take (i + 1)) := fun u => by
    rw [marked_set (by rw [HOL.out]; exact hvn), hI.out u, take_snoc hx, List.mem_append, List.mem_singleton]
    exact ⟨fun h => h.symm, fun h => h.symm⟩
   clear hx hvr hM hI
   go_wp2_with fail
   go_roundg (n - (i + 1))
   case rel => exact ⟨i + 1, _, by go_num, by omega, rfl, HM2, HI2⟩
   case measure => omega
  ·obtain rfl : i = n := by omega
   have hii : decide (i < i) = false := by simp
   have HZI : Hid (ZhI nn ds gs z out) := ⟨HOL.out, fun v hv => Rch.base (by have := (hI.out v).1 hv; exact List.mem_of_mem_take this), fun v hv => (hI.out v).2 (by rw [List.take_of_length_le (by rw [HLZ.out]; exact Nat.le_refl _)]; exact hv)⟩
   clear hI
   go_wp2_with fail
   go_loopg [9] (countF out + 1) (Zh2 w #[.slice An nn cn, .slice Ad nd cd] go nn ds gs z)
   case atStart => exact ⟨true, out, rfl, rfl, hM, HZI, fun e => by cases e⟩
   case round =>
    clear hM HZI hii HOL
    obtain ⟨ch, oz, rfl, rfl, hM, hI, hok⟩ := hrel
    rcases ch with _ | _
    ·have HFIN : Hid (∀ v : Nat, v < nn → (oz[v]? = some true ↔ Rgn ds gs z v)) := fun v _ => marked_nat.symm.trans (hI.out.final (hok.out rfl) v)
     obtain ⟨R, hRR⟩ : ∃ R, R = Rgn ds gs z := ⟨_, rfl⟩
     rw [← hRR] at HFIN
     have HRR := Lib.hid hRR
     clear hRR hok hI
     obtain ⟨w2, hw2⟩ : ∃ x, x = wr := ⟨_, rfl⟩
     rw [← hw2] at hM ⊢
     have hz2 := hM.out.bl.size
     have HMW := Lib.hid hM.out
     clear hw2 hM
     go_wp2_with fail
     go_loopg [12, 13] nn (ZrR w2 R nn)
     case atStart => exact ⟨0, 0, 0, none, rfl, rfl, Nat.zero_le _, rfl, Nat.le_refl _, World.ownsRow_nil _ _ _ _, Below.refl _ _⟩
     case round =>
      obtain ⟨i, m, co, Ao, rfl, rfl, hi, rfl, hmi, hI, hb⟩ := hrel
      have hM := Lib.hid (HMW.out.later hb.out)
      by_cases hlt : i < nn
      ·obtain ⟨x, hx, hc, -⟩ := hM.out.cell hlt
       have HX := Lib.hid hx
       clear hx
       rcases x with _ | _
       ·have HI2 : Hid (IntsO wr w2.heap.size Ao m co (nodesL (i + 1) R)) := by
         unfold Hid
         rw [nodesL_no (fun h => by have := (HFIN.out i hlt).2 h; rw [HX.out] at this; cases this)]
         exact hI.out
        go_wp2_with fail
        go_roundg (nn - (i + 1))
        case rel => exact ⟨i + 1, m, co, Ao, rfl, by go_num, by omega, rfl, by omega, HI2, hb⟩
        case measure => omega
       ·have HT : Hid (nodesL (i + 1) R = nodesL i R ++ [(i : Int)]) := nodesL_yes ((HFIN.out i hlt).1 HX.out)
        have HI3 := Lib.hid hI.out
        have hbz := hb.out.size
        clear hI
        go_wp2_with (at_builtin; go_must (refine wpList_app rfl (.tmp 83) (.tmp 85) rfl el_int (by rfl) (HI3.out.alloc _) (by rfl) (Sl.newest (n := 1) (by simp) (by rfl) (by decide)) (by simp [Value.oneCell']) (by omega) (by omega) (by have := hb.out.size; simp; omega) ?_; intro A2 co2 w5 hown5 hgr5 hat5; have HO5 := Lib.hid hown5; have HB5 : Hid (Below w2.heap.size w2 w5) := (hb.out.alloc hb.out.size _).trans ⟨hgr5.os, hgr5.tape, hgr5.output, hgr5.size, fun t ht => hgr5.block t (by have := hb.out.size; simp; omega) (fun e => by have := (HI3.out.lt t e.symm).1; omega)⟩; clear hown5 hgr5 hat5))
        have HO6 : Hid (IntsO w5 w2.heap.size A2 (m + 1) co2 (nodesL (i + 1) R)) := by
         unfold Hid
         rw [HT.out]
         unfold IntsO
         rw [intsV_append]
         exact HO5.out
        go_roundg (nn - (i + 1))
        case rel => exact ⟨i + 1, m + 1, co2, A2, rfl, by go_num, by omega, rfl, by omega, HO6, HB5⟩
        case measure => omega
      ·obtain rfl : i = nn := by omega
       have hii : decide (i < i) = false := by simp
       go_wp2_with fail
       go_ret
       rw [HRR.out] at hI
       exact intsPost_is hI.out.len (hI.out.mono hz2) (HMW.out.bl.trans (hb.out.mono hz2))
    clear hok
    go_wp2_with fail
    go_loopg [9, 10] nd (Zh3 w #[.slice An nn cn, .slice Ad nd cd] go nn ds gs z oz nd)
    case atStart => exact ⟨0, false, oz, rfl, rfl, Nat.zero_le _, rfl, hM, hI, fun _ => ⟨rfl, fun j hj => by omega⟩, fun e => by cases e⟩
    case round =>
     clear hM hI
     obtain ⟨j, ch, out, rfl, rfl, hj, rfl, hM, hI, hno, hyes⟩ := hrel
     have k1 : wr.cell? ⟨w.heap.size, 1, none⟩ = some (.slice Ad nd cd) := hM.out.bn.cell 1
     by_cases hlt : j < nd; rotate_left
     ·obtain rfl : j = nd := by omega
      have hii : decide (j < j) = false := by simp
      have HOKA : Hid (ch = false → ∀ q, okD ds gs out q) := fun e q => by
       by_cases hq : q < j
       ·exact (hno.out e).2 q hq
       ·intro x hx; rw [List.getElem?_eq_none (by rw [HLD.out]; omega)] at hx; cases hx
      go_wp2_with fail
      go_roundg (if ch = true then countF out + 1 else 0)
      case rel => exact ⟨ch, out, rfl, rfl, hM, hI, HOKA⟩
      case measure =>
       rcases ch with _ | _
       ·simp
       ·have := hyes.out rfl; simp; omega
     obtain ⟨b0, off, x, rfl, hb0, hx, hcx⟩ := (HD.out.below hM.out.bl (Nat.le_refl _)).at (k := j) (fun _ => rfl) (by decide) hlt
     have HX := Lib.hid hx
     have hxm := List.mem_of_getElem? hx
     have HEX := Lib.hid (HE.out x hxm)
     have HNX := Lib.hid (HNE.out x hxm)
     obtain ⟨nm, kd, xa, xb, co⟩ := x
     have c0 : wr.cell? ⟨b0, off + j * 5, none⟩ = some (.string nm) := hcx 0 _ rfl
     have c1 : wr.cell? ⟨b0, off + j * 5 + 1, none⟩ = some (.int .i64 kd) := hcx 1 _ rfl
     have c2 : wr.cell? ⟨b0, off + j * 5 + 2, none⟩ = some (.int .i64 xa) := hcx 2 _ rfl
     have c3 : wr.cell? ⟨b0, off + j * 5 + 3, none⟩ = some (.int .i64 xb) := hcx 3 _ rfl
     have c4 : wr.cell? ⟨b0, off + j * 5 + 4, none⟩ = some (.int .i64 co) := hcx 4 _ rfl
     clear hx hxm hcx hb0
     go_upto_region 13 with (fail)
     clear c0 c1 c2 c3 c4 k1
     have HV := Lib.hid (Blk.new wr 38 #[.string nm, .int .i64 kd, .int .i64 xa, .int .i64 xb, .int .i64 co])
     have HM2 := Lib.hid (hM.out.later ((Below.refl _ _).alloc (Nat.le_refl _) (.cells #[.string nm, .int .i64 kd, .int .i64 xa, .int .i64 xb, .int .i64 co] 38)))
     have hM0 := Lib.hid hM.out
     clear hM
     obtain ⟨vb, hvb⟩ : ∃ x, x = wr.heap.size := ⟨_, rfl⟩
     have hgov : Hid (go < vb ∨ nn = 0) := by
      rcases Nat.eq_zero_or_pos nn with h | h
      ·exact .inr h
      ·left
       obtain ⟨g, x, e, h1, h2, -⟩ := hM0.out.ob.at h
       injection e with e; injection e with e; subst e
       omega
     rw [← hvb] at HV ⊢
     clear hvb hM0
     generalize World.alloc wr _ = W2 at *
     have hkd : W2.cell? ⟨vb, 1, none⟩ = some (.int .i64 kd) := HV.out.cell 1
     have hxa : W2.cell? ⟨vb, 2, none⟩ = some (.int .i64 xa) := HV.out.cell 2
     have hxb : W2.cell? ⟨vb, 3, none⟩ = some (.int .i64 xb) := HV.out.cell 3
     have HGS : Hid (Sl W2.drew W2.drew.heap.size 1 Ag ng cg (intsV gs)) := (HG.out.below HM2.out.bl.drew (Nat.le_refl _)).more HM2.out.bl.drew.size
     have HRJ := Lib.hid (rjoins_any kd W2.drew)
     have HRH := Lib.hid (rhas_any Ag ng cg gs (j : Int) W2.drew HGS.out)
     have HMD := Lib.hid (HM2.out.later (Below.refl _ _).drew)
     rcases hj0 : joinsB kd with _ | _
     ·have HOKJ : Hid (okD ds gs out j) := fun x hx hjx hgx => by
       rw [HX.out] at hx; injection hx with hx; subst hx
       exact absurd hjx (by rw [hj0]; simp)
      refine wp_region_ord (S := fun W' => W' = W2.drew) (J := []) (n := _) ((0, true) :: (1, true) :: (2, false) :: (3, true) :: (4, true) :: (5, true) :: (6, true) :: (7, true) :: (8, true) :: (9, true) :: (10, true) :: (11, true) :: (12, true) :: (13, true) :: (14, true) :: (15, true) :: (16, true) :: (17, true) :: (18, true) :: (19, true) :: (20, true) :: (21, true) :: []) (by as_aux_lemma => kernel_rfl) (by rfl) (base_cons (k := 11) (by go_simp; rfl) base_nil) ?_ (fun _ _ _ _ _ h => h) (fun Q2 A hsz hbase hn2 hHeld => ?_)
      ·exact rfl
      try dsimp only at hHeld
      obtain ⟨b11, -⟩ := hbase
      refine ord_take (i := 0) (d := 43) (v := ?_) rfl rfl (wanted_none rfl) hHeld (fun ρ hρ w hSw => ?_) ?_
      rotate_left
      ·(have e11 := Eq.trans (hρ.tmp hsz 11 rfl) (lkp_base b11); clear hρ; (try dsimp only at hSw); go_simp; try with_reducible rfl)
      show wpOrd _ _ _ _ _ _ _ _
      refine ord_take (i := 1) (d := 44) (v := ?_) rfl rfl (wanted_none rfl) hHeld (fun ρ hρ w hSw => ?_) ?_
      rotate_left
      ·(have e43 := Eq.trans (hρ.tmp hsz 43 rfl) lkp_hit; clear hρ; (try dsimp only at hSw); subst hSw; go_simp; try with_reducible rfl)
      show wpOrd _ _ _ _ _ _ _ _
      refine ord_call (i := 2) (d := 45) (vs := ?_) rfl rfl rfl (wanted_none rfl) (fun ρ hρ => ?_) ?_ ?_
      rotate_left
      ·(have e44 := Eq.trans (hρ.tmp hsz 44 rfl) lkp_hit; simp only [List.map_toArray, List.map_cons, List.map_nil, e44]; try with_reducible rfl)
      ·(intro w; go_simp)
      refine HRJ.out.mono ?_
      rintro e w3 ⟨rfl, rfl⟩
      rw [hj0]
      refine ⟨_, rfl, fun _ => ?_, fun hHeld' => ?_⟩
      ·exact rfl
      replace hHeld := hHeld' rfl
      clear hHeld'
      try dsimp only at hHeld
      show wpOrd _ _ _ _ _ _ _ _
      refine ord_move (i := 3) (d := 46) (v := ?_) rfl rfl rfl (wanted_none rfl) hHeld (fun ρ hρ => ?_) ?_
      rotate_left
      ·(have e45 := Eq.trans (hρ.tmp hsz 45 rfl) lkp_hit; exact e45)
      show wpOrd _ _ _ _ _ _ _ _
      refine ord_skip (i := 4) (d := 47) rfl rfl (wanted_no (j := 3) (dj := 46) (b := true) (b' := false) rfl hsz rfl rfl rfl lkp_hit rfl) hHeld ?_
      show wpOrd _ _ _ _ _ _ _ _
      refine ord_skip (i := 5) (d := 48) rfl rfl (wanted_no (j := 3) (dj := 46) (b := true) (b' := false) rfl hsz rfl rfl rfl (miss1 rfl lkp_hit) rfl) hHeld ?_
      show wpOrd _ _ _ _ _ _ _ _
      refine ord_skip (i := 6) (d := 49) rfl rfl (wanted_no (j := 3) (dj := 46) (b := true) (b' := false) rfl hsz rfl rfl rfl (miss1 rfl (miss1 rfl lkp_hit)) rfl) hHeld ?_
      show wpOrd _ _ _ _ _ _ _ _
      refine ord_skip (i := 7) (d := 50) rfl rfl (wanted_no (j := 3) (dj := 46) (b := true) (b' := false) rfl hsz rfl rfl rfl (miss1 rfl (miss1 rfl (miss1 rfl lkp_hit))) rfl) hHeld ?_
      show wpOrd _ _ _ _ _ _ _ _
      refine ord_take (i := 8) (d := 51) (v := ?_) rfl rfl (wanted_none rfl) hHeld (fun ρ hρ w hSw => ?_) ?_
      rotate_left
      ·(have hc := hρ.const; have e46 := Eq.trans (hρ.tmp hsz 46 rfl) (miss4 rfl rfl rfl rfl lkp_hit); have e50 := Eq.trans (hρ.tmp hsz 50 rfl) lkp_hit; clear hρ; (try dsimp only at hSw); go_simp; try with_reducible rfl)
      show wpOrd _ _ _ _ _ _ _ _
      refine ord_move (i := 9) (d := 52) (v := ?_) rfl rfl rfl (wanted_none rfl) hHeld (fun ρ hρ => ?_) ?_
      rotate_left
      ·(have e51 := Eq.trans (hρ.tmp hsz 51 rfl) lkp_hit; exact e51)
      show wpOrd _ _ _ _ _ _ _ _
      refine ord_skip (i := 10) (d := 53) rfl rfl (wanted_no (j := 9) (dj := 52) (b := true) (b' := false) rfl hsz rfl rfl rfl lkp_hit rfl) hHeld ?_
      show wpOrd _ _ _ _ _ _ _ _
      refine ord_skip (i := 11) (d := 54) rfl rfl (wanted_no (j := 9) (dj := 52) (b := true) (b' := false) rfl hsz rfl rfl rfl (miss1 rfl lkp_hit) rfl) hHeld ?_
      show wpOrd _ _ _ _ _ _ _ _
      refine ord_skip (i := 12) (d := 55) rfl rfl (wanted_no (j := 9) (dj := 52) (b := true) (b' := false) rfl hsz rfl rfl rfl (miss1 rfl (miss1 rfl lkp_hit)) rfl) hHeld ?_
      show wpOrd _ _ _ _ _ _ _ _
      refine ord_skip (i := 13) (d := 56) rfl rfl (wanted_no (j := 9) (dj := 52) (b := true) (b' := false) rfl hsz rfl rfl rfl (miss1 rfl (miss1 rfl (miss1 rfl lkp_hit))) rfl) hHeld ?_
      show wpOrd _ _ _ _ _ _ _ _
      refine ord_skip (i := 14) (d := 57) rfl rfl (wanted_no (j := 9) (dj := 52) (b := true) (b' := false) rfl hsz rfl rfl rfl (miss4 rfl rfl rfl rfl lkp_hit) rfl) hHeld ?_
      show wpOrd _ _ _ _ _ _ _ _
      refine ord_skip (i := 15) (d := 58) rfl rfl (wanted_no (j := 9) (dj := 52) (b := true) (b' := false) rfl hsz rfl rfl rfl (miss4 rfl rfl rfl rfl (miss1 rfl lkp_hit)) rfl) hHeld ?_
      show wpOrd _ _ _ _ _ _ _ _
      refine ord_skip (i := 16) (d := 59) rfl rfl (wanted_no (j := 9) (dj := 52) (b := true) (b' := false) rfl hsz rfl rfl rfl (miss4 rfl rfl rfl rfl (miss1 rfl (miss1 rfl lkp_hit))) rfl) hHeld ?_
      show wpOrd _ _ _ _ _ _ _ _
      refine ord_skip (i := 17) (d := 60) rfl rfl (wanted_no (j := 9) (dj := 52) (b := true) (b' := false) rfl hsz rfl rfl rfl (miss4 rfl rfl rfl rfl (miss1 rfl (miss1 rfl (miss1 rfl lkp_hit)))) rfl) hHeld ?_
      show wpOrd _ _ _ _ _ _ _ _
      refine ord_skip (i := 18) (d := 61) rfl rfl (wanted_no (j := 9) (dj := 52) (b := true) (b' := false) rfl hsz rfl rfl rfl (miss4 rfl rfl rfl rfl (miss4 rfl rfl rfl rfl lkp_hit)) rfl) hHeld ?_
      show wpOrd _ _ _ _ _ _ _ _
      refine ord_skip (i := 19) (d := 62) rfl rfl (wanted_no (j := 9) (dj := 52) (b := true) (b' := false) rfl hsz rfl rfl rfl (miss4 rfl rfl rfl rfl (miss4 rfl rfl rfl rfl (miss1 rfl lkp_hit))) rfl) hHeld ?_
      show wpOrd _ _ _ _ _ _ _ _
      refine ord_skip (i := 20) (d := 63) rfl rfl (wanted_no (j := 9) (dj := 52) (b := true) (b' := false) rfl hsz rfl rfl rfl (miss4 rfl rfl rfl rfl (miss4 rfl rfl rfl rfl (miss1 rfl (miss1 rfl lkp_hit)))) rfl) hHeld ?_
      show wpOrd _ _ _ _ _ _ _ _
      refine ord_take (i := 21) (d := 64) (v := ?_) rfl rfl (wanted_none rfl) hHeld (fun ρ hρ w hSw => ?_) ?_
      rotate_left
      ·(have hc := hρ.const; have e52 := Eq.trans (hρ.tmp hsz 52 rfl) (miss4 rfl rfl rfl rfl (miss4 rfl rfl rfl rfl (miss1 rfl (miss1 rfl (miss1 rfl lkp_hit))))); have e63 := Eq.trans (hρ.tmp hsz 63 rfl) lkp_hit; clear hρ; (try dsimp only at hSw); go_simp; try with_reducible rfl)
      show wpOrd _ _ _ _ _ _ _ _
      refine ord_done hn2 ?_
      clear hHeld hn2 b11 hsz A Q2
      simp only [puts_nil, puts_cons, put_lit, set_1, set_0]
      go_wp2_with fail
      go_roundg (nd - (j + 1))
      case rel => exact ⟨j + 1, ch, out, rfl, by go_num, by omega, rfl, HMD, hI, fun e => ⟨(hno.out e).1, fun q hq => (Nat.lt_succ_iff_lt_or_eq.1 hq).elim (fun h => (hno.out e).2 q h) (fun h => by rw [h]; exact HOKJ.out)⟩, hyes⟩
      case measure => omega
     rcases hg0 : decide ((j : Int) ∈ gs) with _ | _; rotate_left
     ·have HOKJ : Hid (okD ds gs out j) := fun x hx hjx hgx => by
       rw [HX.out] at hx; injection hx with hx; subst hx
       exact absurd hgx (by rw [(hasB_iff _ _).2 (by simpa using hg0)]; simp)
      refine wp_region_ord (S := fun W' => W' = W2.drew) (J := []) (n := _) ((0, true) :: (1, true) :: (2, false) :: (3, true) :: (4, true) :: (5, true) :: (6, false) :: (7, true) :: (8, true) :: (9, true) :: (10, true) :: (11, true) :: (12, true) :: (13, true) :: (14, true) :: (15, true) :: (16, true) :: (17, true) :: (18, true) :: (19, true) :: (20, true) :: (21, true) :: []) (by as_aux_lemma => kernel_rfl) (by rfl) (base_cons (k := 11) (by go_simp; rfl) (base_cons (k := 2) (by go_simp; rfl) (base_cons (k := 10) (by go_simp; rfl) base_nil))) ?_ (fun _ _ _ _ _ h => h) (fun Q2 A hsz hbase hn2 hHeld => ?_)
      ·exact rfl
      try dsimp only at hHeld
      obtain ⟨b11, b2, b10, -⟩ := hbase
      refine ord_take (i := 0) (d := 43) (v := ?_) rfl rfl (wanted_none rfl) hHeld (fun ρ hρ w hSw => ?_) ?_
      rotate_left
      ·(have e11 := Eq.trans (hρ.tmp hsz 11 rfl) (lkp_base b11); clear hρ; (try dsimp only at hSw); go_simp; try with_reducible rfl)
      show wpOrd _ _ _ _ _ _ _ _
      refine ord_take (i := 1) (d := 44) (v := ?_) rfl rfl (wanted_none rfl) hHeld (fun ρ hρ w hSw => ?_) ?_
      rotate_left
      ·(have e43 := Eq.trans (hρ.tmp hsz 43 rfl) lkp_hit; clear hρ; (try dsimp only at hSw); subst hSw; go_simp; try with_reducible rfl)
      show wpOrd _ _ _ _ _ _ _ _
      refine ord_call (i := 2) (d := 45) (vs := ?_) rfl rfl rfl (wanted_none rfl) (fun ρ hρ => ?_) ?_ ?_
      rotate_left
      ·(have e44 := Eq.trans (hρ.tmp hsz 44 rfl) lkp_hit; simp only [List.map_toArray, List.map_cons, List.map_nil, e44]; try with_reducible rfl)
      ·(intro w; go_simp)
      refine HRJ.out.mono ?_
      rintro e w3 ⟨rfl, rfl⟩
      rw [hj0]
      refine ⟨_, rfl, fun _ => ?_, fun hHeld' => ?_⟩
      ·exact rfl
      replace hHeld := hHeld' rfl
      clear hHeld'
      try dsimp only at hHeld
      show wpOrd _ _ _ _ _ _ _ _
      refine ord_move (i := 3) (d := 46) (v := ?_) rfl rfl rfl (wanted_none rfl) hHeld (fun ρ hρ => ?_) ?_
      rotate_left
      ·(have e45 := Eq.trans (hρ.tmp hsz 45 rfl) lkp_hit; exact e45)
      show wpOrd _ _ _ _ _ _ _ _
      refine ord_move (i := 4) (d := 47) (v := ?_) rfl rfl rfl (wanted_yes (j := 3) (dj := 46) (b := true) rfl hsz rfl rfl rfl lkp_hit) hHeld (fun ρ hρ => ?_) ?_
      rotate_left
      ·(have e2 := Eq.trans (hρ.tmp hsz 2 rfl) (miss4 rfl rfl rfl rfl (lkp_base b2)); exact e2)
      show wpOrd _ _ _ _ _ _ _ _
      refine ord_move (i := 5) (d := 48) (v := ?_) rfl rfl rfl (wanted_yes (j := 3) (dj := 46) (b := true) rfl hsz rfl rfl rfl (miss1 rfl lkp_hit)) hHeld (fun ρ hρ => ?_) ?_
      rotate_left
      ·(have e10 := Eq.trans (hρ.tmp hsz 10 rfl) (miss4 rfl rfl rfl rfl (miss1 rfl (lkp_base b10))); exact e10)
      show wpOrd _ _ _ _ _ _ _ _
      refine ord_call (i := 6) (d := 49) (vs := ?_) rfl rfl rfl (wanted_yes (j := 3) (dj := 46) (b := true) rfl hsz rfl rfl rfl (miss1 rfl (miss1 rfl lkp_hit))) (fun ρ hρ => ?_) ?_ ?_
      rotate_left
      ·(have e47 := Eq.trans (hρ.tmp hsz 47 rfl) (miss1 rfl lkp_hit); have e48 := Eq.trans (hρ.tmp hsz 48 rfl) lkp_hit; simp only [List.map_toArray, List.map_cons, List.map_nil, e47, e48]; try with_reducible rfl)
      ·(intro w; go_simp)
      refine HRH.out.mono ?_
      rintro e w3 ⟨rfl, rfl⟩
      rw [hg0]
      refine ⟨_, rfl, fun _ => ?_, fun hHeld' => ?_⟩
      ·exact rfl
      replace hHeld := hHeld' rfl
      clear hHeld'
      try dsimp only at hHeld
      show wpOrd _ _ _ _ _ _ _ _
      refine ord_take (i := 7) (d := 50) (v := ?_) rfl rfl (wanted_yes (j := 3) (dj := 46) (b := true) rfl hsz rfl rfl rfl (miss1 rfl (miss1 rfl (miss1 rfl lkp_hit)))) hHeld (fun ρ hρ w hSw => ?_) ?_
      rotate_left
      ·(have e49 := Eq.trans (hρ.tmp hsz 49 rfl) lkp_hit; clear hρ; (try dsimp only at hSw); go_simp; try with_reducible rfl)
      show wpOrd _ _ _ _ _ _ _ _
      refine ord_take (i := 8) (d := 51) (v := ?_) rfl rfl (wanted_none rfl) hHeld (fun ρ hρ w hSw => ?_) ?_
      rotate_left
      ·(have hc := hρ.const; have e46 := Eq.trans (hρ.tmp hsz 46 rfl) (miss4 rfl rfl rfl rfl lkp_hit); have e50 := Eq.trans (hρ.tmp hsz 50 rfl) lkp_hit; clear hρ; (try dsimp only at hSw); go_simp; try with_reducible rfl)
      show wpOrd _ _ _ _ _ _ _ _
      refine ord_move (i := 9) (d := 52) (v := ?_) rfl rfl rfl (wanted_none rfl) hHeld (fun ρ hρ => ?_) ?_
      rotate_left
      ·(have e51 := Eq.trans (hρ.tmp hsz 51 rfl) lkp_hit; exact e51)
      show wpOrd _ _ _ _ _ _ _ _
      refine ord_skip (i := 10) (d := 53) rfl rfl (wanted_no (j := 9) (dj := 52) (b := true) (b' := false) rfl hsz rfl rfl rfl lkp_hit rfl) hHeld ?_
      show wpOrd _ _ _ _ _ _ _ _
      refine ord_skip (i := 11) (d := 54) rfl rfl (wanted_no (j := 9) (dj := 52) (b := true) (b' := false) rfl hsz rfl rfl rfl (miss1 rfl lkp_hit) rfl) hHeld ?_
      show wpOrd _ _ _ _ _ _ _ _
      refine ord_skip (i := 12) (d := 55) rfl rfl (wanted_no (j := 9) (dj := 52) (b := true) (b' := false) rfl hsz rfl rfl rfl (miss1 rfl (miss1 rfl lkp_hit)) rfl) hHeld ?_
      show wpOrd _ _ _ _ _ _ _ _
      refine ord_skip (i := 13) (d := 56) rfl rfl (wanted_no (j := 9) (dj := 52) (b := true) (b' := false) rfl hsz rfl rfl rfl (miss1 rfl (miss1 rfl (miss1 rfl lkp_hit))) rfl) hHeld ?_
      show wpOrd _ _ _ _ _ _ _ _
      refine ord_skip (i := 14) (d := 57) rfl rfl (wanted_no (j := 9) (dj := 52) (b := true) (b' := false) rfl hsz rfl rfl rfl (miss4 rfl rfl rfl rfl lkp_hit) rfl) hHeld ?_
      show wpOrd _ _ _ _ _ _ _ _
      refine ord_skip (i := 15) (d := 58) rfl rfl (wanted_no (j := 9) (dj := 52) (b := true) (b' := false) rfl hsz rfl rfl rfl (miss4 rfl rfl rfl rfl (miss1 rfl lkp_hit)) rfl) hHeld ?_
      show wpOrd _ _ _ _ _ _ _ _
      refine ord_skip (i := 16) (d := 59) rfl rfl (wanted_no (j := 9) (dj := 52) (b := true) (b' := false) rfl hsz rfl rfl rfl (miss4 rfl rfl rfl rfl (miss1 rfl (miss1 rfl lkp_hit))) rfl) hHeld ?_
      show wpOrd _ _ _ _ _ _ _ _
      refine ord_skip (i := 17) (d := 60) rfl rfl (wanted_no (j := 9) (dj := 52) (b := true) (b' := false) rfl hsz rfl rfl rfl (miss4 rfl rfl rfl rfl (miss1 rfl (miss1 rfl (miss1 rfl lkp_hit)))) rfl) hHeld ?_
      show wpOrd _ _ _ _ _ _ _ _
      refine ord_skip (i := 18) (d := 61) rfl rfl (wanted_no (j := 9) (dj := 52) (b := true) (b' := false) rfl hsz rfl rfl rfl (miss4 rfl rfl rfl rfl (miss4 rfl rfl rfl rfl lkp_hit)) rfl) hHeld ?_
      show wpOrd _ _ _ _ _ _ _ _
      refine ord_skip (i := 19) (d := 62) rfl rfl (wanted_no (j := 9) (dj := 52) (b := true) (b' := false) rfl hsz rfl rfl rfl (miss4 rfl rfl rfl rfl (miss4 rfl rfl rfl rfl (miss1 rfl lkp_hit))) rfl) hHeld ?_
      show wpOrd _ _ _ _ _ _ _ _
      refine ord_skip (i := 20) (d := 63) rfl rfl (wanted_no (j := 9) (dj := 52) (b := true) (b' := false) rfl hsz rfl rfl rfl (miss4 rfl rfl rfl rfl (miss4 rfl rfl rfl rfl (miss1 rfl (miss1 rfl lkp_hit)))) rfl) hHeld ?_
      show wpOrd _ _ _ _ _ _ _ _
      refine ord_take (i := 21) (d := 64) (v := ?_) rfl rfl (wanted_none rfl) hHeld (fun ρ hρ w hSw => ?_) ?_
      rotate_left
      ·(have hc := hρ.const; have e52 := Eq.trans (hρ.tmp hsz 52 rfl) (miss4 rfl rfl rfl rfl (miss4 rfl rfl rfl rfl (miss1 rfl (miss1 rfl (miss1 rfl lkp_hit))))); have e63 := Eq.trans (hρ.tmp hsz 63 rfl) lkp_hit; clear hρ; (try dsimp only at hSw); go_simp; try with_reducible rfl)
      show wpOrd _ _ _ _ _ _ _ _
      refine ord_done hn2 ?_
      clear hHeld hn2 b11 b2 b10 hsz A Q2
      simp only [puts_nil, puts_cons, put_lit, set_1, set_0]
      go_wp2_with fail
      go_roundg (nd - (j + 1))
      case rel => exact ⟨j + 1, ch, out, rfl, by go_num, by omega, rfl, HMD, hI, fun e => ⟨(hno.out e).1, fun q hq => (Nat.lt_succ_iff_lt_or_eq.1 hq).elim (fun h => (hno.out e).2 q h) (fun h => by rw [h]; exact HOKJ.out)⟩, hyes⟩
      case measure => omega
     have hgf : hasB gs j = false := (hasB_not _ _).2 (by simpa using hg0)
     have hend := HEX.out hj0
     simp only at hend
     obtain ⟨a, rfl⟩ := Int.eq_ofNat_of_zero_le hend.1.1
     obtain ⟨b, rfl⟩ := Int.eq_ofNat_of_zero_le hend.2.1
     have han : a < nn := by omega
     have hbn : b < nn := by omega
     have hba : b ≠ a := by have := HNX.out hj0; simp only at this; omega
     obtain ⟨va, hva, hca, hfa⟩ := HM2.out.cell han
     obtain ⟨vb2, hvb2, hcb, hfb⟩ := HM2.out.cell hbn
     have HVA := Lib.hid hva; have HVB := Lib.hid hvb2
     have HGF := Lib.hid hgf
     clear hend hva hvb2 hgf
     by_cases hne : va = vb2
     ·subst hne
      have qn : (va != va) = false := by simp
      have HOKJ : Hid (okD ds gs out j) := fun x hx hjx hgx => by
       rw [HX.out] at hx; injection hx with hx; subst hx
       rw [show marked out ((⟨nm, kd, a, b, co⟩ : Dv).a) ↔ marked out ((⟨nm, kd, a, b, co⟩ : Dv).b) from (marked_nat.trans (by rw [HVA.out, HVB.out])).trans marked_nat.symm]
      refine wp_region_ord (S := fun W' => W' = W2.drew) (J := []) (n := _) ((0, true) :: (1, true) :: (2, false) :: (3, true) :: (4, true) :: (5, true) :: (6, false) :: (7, true) :: (8, true) :: (9, true) :: (10, true) :: (11, true) :: (12, true) :: (13, true) :: (14, true) :: (15, true) :: (16, true) :: (17, true) :: (18, true) :: (19, true) :: (20, true) :: (21, true) :: []) (by as_aux_lemma => kernel_rfl) (by rfl) (base_cons (k := 11) (by go_simp; rfl) (base_cons (k := 2) (by go_simp; rfl) (base_cons (k := 10) (by go_simp; rfl) (base_cons (k := 7) (by go_simp; rfl) base_nil)))) ?_ (fun _ _ _ _ _ h => h) (fun Q2 A hsz hbase hn2 hHeld => ?_)
      ·exact rfl
      try dsimp only at hHeld
      obtain ⟨b11, b2, b10, b7, -⟩ := hbase
      refine ord_take (i := 0) (d := 43) (v := ?_) rfl rfl (wanted_none rfl) hHeld (fun ρ hρ w hSw => ?_) ?_
      rotate_left
      ·(have e11 := Eq.trans (hρ.tmp hsz 11 rfl) (lkp_base b11); clear hρ; (try dsimp only at hSw); go_simp; try with_reducible rfl)
      show wpOrd _ _ _ _ _ _ _ _
      refine ord_take (i := 1) (d := 44) (v := ?_) rfl rfl (wanted_none rfl) hHeld (fun ρ hρ w hSw => ?_) ?_
      rotate_left
      ·(have e43 := Eq.trans (hρ.tmp hsz 43 rfl) lkp_hit; clear hρ; (try dsimp only at hSw); subst hSw; go_simp; try with_reducible rfl)
      show wpOrd _ _ _ _ _ _ _ _
      refine ord_call (i := 2) (d := 45) (vs := ?_) rfl rfl rfl (wanted_none rfl) (fun ρ hρ => ?_) ?_ ?_
      rotate_left
      ·(have e44 := Eq.trans (hρ.tmp hsz 44 rfl) lkp_hit; simp only [List.map_toArray, List.map_cons, List.map_nil, e44]; try with_reducible rfl)
      ·(intro w; go_simp)
      refine HRJ.out.mono ?_
      rintro e w3 ⟨rfl, rfl⟩
      rw [hj0]
      refine ⟨_, rfl, fun _ => ?_, fun hHeld' => ?_⟩
      ·exact rfl
      replace hHeld := hHeld' rfl
      clear hHeld'
      try dsimp only at hHeld
      show wpOrd _ _ _ _ _ _ _ _
      refine ord_move (i := 3) (d := 46) (v := ?_) rfl rfl rfl (wanted_none rfl) hHeld (fun ρ hρ => ?_) ?_
      rotate_left
      ·(have e45 := Eq.trans (hρ.tmp hsz 45 rfl) lkp_hit; exact e45)
      show wpOrd _ _ _ _ _ _ _ _
      refine ord_move (i := 4) (d := 47) (v := ?_) rfl rfl rfl (wanted_yes (j := 3) (dj := 46) (b := true) rfl hsz rfl rfl rfl lkp_hit) hHeld (fun ρ hρ => ?_) ?_
      rotate_left
      ·(have e2 := Eq.trans (hρ.tmp hsz 2 rfl) (miss4 rfl rfl rfl rfl (lkp_base b2)); exact e2)
      show wpOrd _ _ _ _ _ _ _ _
      refine ord_move (i := 5) (d := 48) (v := ?_) rfl rfl rfl (wanted_yes (j := 3) (dj := 46) (b := true) rfl hsz rfl rfl rfl (miss1 rfl lkp_hit)) hHeld (fun ρ hρ => ?_) ?_
      rotate_left
      ·(have e10 := Eq.trans (hρ.tmp hsz 10 rfl) (miss4 rfl rfl rfl rfl (miss1 rfl (lkp_base b10))); exact e10)
      show wpOrd _ _ _ _ _ _ _ _
      refine ord_call (i := 6) (d := 49) (vs := ?_) rfl rfl rfl (wanted_yes (j := 3) (dj := 46) (b := true) rfl hsz rfl rfl rfl (miss1 rfl (miss1 rfl lkp_hit))) (fun ρ hρ => ?_) ?_ ?_
      rotate_left
      ·(have e47 := Eq.trans (hρ.tmp hsz 47 rfl) (miss1 rfl lkp_hit); have e48 := Eq.trans (hρ.tmp hsz 48 rfl) lkp_hit; simp only [List.map_toArray, List.map_cons, List.map_nil, e47, e48]; try with_reducible rfl)
      ·(intro w; go_simp)
      refine HRH.out.mono ?_
      rintro e w3 ⟨rfl, rfl⟩
      rw [hg0]
      refine ⟨_, rfl, fun _ => ?_, fun hHeld' => ?_⟩
      ·exact rfl
      replace hHeld := hHeld' rfl
      clear hHeld'
      try dsimp only at hHeld
      show wpOrd _ _ _ _ _ _ _ _
      refine ord_take (i := 7) (d := 50) (v := ?_) rfl rfl (wanted_yes (j := 3) (dj := 46) (b := true) rfl hsz rfl rfl rfl (miss1 rfl (miss1 rfl (miss1 rfl lkp_hit)))) hHeld (fun ρ hρ w hSw => ?_) ?_
      rotate_left
      ·(have e49 := Eq.trans (hρ.tmp hsz 49 rfl) lkp_hit; clear hρ; (try dsimp only at hSw); go_simp; try with_reducible rfl)
      show wpOrd _ _ _ _ _ _ _ _
      refine ord_take (i := 8) (d := 51) (v := ?_) rfl rfl (wanted_none rfl) hHeld (fun ρ hρ w hSw => ?_) ?_
      rotate_left
      ·(have hc := hρ.const; have e46 := Eq.trans (hρ.tmp hsz 46 rfl) (miss4 rfl rfl rfl rfl lkp_hit); have e50 := Eq.trans (hρ.tmp hsz 50 rfl) lkp_hit; clear hρ; (try dsimp only at hSw); go_simp; try with_reducible rfl)
      show wpOrd _ _ _ _ _ _ _ _
      refine ord_move (i := 9) (d := 52) (v := ?_) rfl rfl rfl (wanted_none rfl) hHeld (fun ρ hρ => ?_) ?_
      rotate_left
      ·(have e51 := Eq.trans (hρ.tmp hsz 51 rfl) lkp_hit; exact e51)
      show wpOrd _ _ _ _ _ _ _ _
      refine ord_move (i := 10) (d := 53) (v := ?_) rfl rfl rfl (wanted_yes (j := 9) (dj := 52) (b := true) rfl hsz rfl rfl rfl lkp_hit) hHeld (fun ρ hρ => ?_) ?_
      rotate_left
      ·(have e7 := Eq.trans (hρ.tmp hsz 7 rfl) (miss4 rfl rfl rfl rfl (miss4 rfl rfl rfl rfl (miss1 rfl (miss1 rfl (lkp_base b7))))); exact e7)
      show wpOrd _ _ _ _ _ _ _ _
      refine ord_take (i := 11) (d := 54) (v := ?_) rfl rfl (wanted_yes (j := 9) (dj := 52) (b := true) rfl hsz rfl rfl rfl (miss1 rfl lkp_hit)) hHeld (fun ρ hρ w hSw => ?_) ?_
      rotate_left
      ·(have e11 := Eq.trans (hρ.tmp hsz 11 rfl) (miss4 rfl rfl rfl rfl (miss4 rfl rfl rfl rfl (miss1 rfl (miss1 rfl (miss1 rfl (lkp_base b11)))))); clear hρ; (try dsimp only at hSw); go_simp; try with_reducible rfl)
      show wpOrd _ _ _ _ _ _ _ _
      refine ord_take (i := 12) (d := 55) (v := ?_) rfl rfl (wanted_yes (j := 9) (dj := 52) (b := true) rfl hsz rfl rfl rfl (miss1 rfl (miss1 rfl lkp_hit))) hHeld (fun ρ hρ w hSw => ?_) ?_
      rotate_left
      ·(have e54 := Eq.trans (hρ.tmp hsz 54 rfl) lkp_hit; clear hρ; (try dsimp only at hSw); subst hSw; go_simp; try with_reducible rfl)
      show wpOrd _ _ _ _ _ _ _ _
      refine ord_take (i := 13) (d := 56) (v := ?_) rfl rfl (wanted_yes (j := 9) (dj := 52) (b := true) rfl hsz rfl rfl rfl (miss1 rfl (miss1 rfl (miss1 rfl lkp_hit)))) hHeld (fun ρ hρ w hSw => ?_) ?_
      rotate_left
      ·(have e53 := Eq.trans (hρ.tmp hsz 53 rfl) (miss1 rfl (miss1 rfl lkp_hit)); have e55 := Eq.trans (hρ.tmp hsz 55 rfl) lkp_hit; clear hρ; (try dsimp only at hSw); go_simp; try with_reducible rfl)
      show wpOrd _ _ _ _ _ _ _ _
      refine ord_take (i := 14) (d := 57) (v := ?_) rfl rfl (wanted_yes (j := 9) (dj := 52) (b := true) rfl hsz rfl rfl rfl (miss4 rfl rfl rfl rfl lkp_hit)) hHeld (fun ρ hρ w hSw => ?_) ?_
      rotate_left
      ·(have e56 := Eq.trans (hρ.tmp hsz 56 rfl) lkp_hit; clear hρ; (try dsimp only at hSw); subst hSw; go_simp; try with_reducible rfl)
      show wpOrd _ _ _ _ _ _ _ _
      refine ord_move (i := 15) (d := 58) (v := ?_) rfl rfl rfl (wanted_yes (j := 9) (dj := 52) (b := true) rfl hsz rfl rfl rfl (miss4 rfl rfl rfl rfl (miss1 rfl lkp_hit))) hHeld (fun ρ hρ => ?_) ?_
      rotate_left
      ·(have e7 := Eq.trans (hρ.tmp hsz 7 rfl) (miss4 rfl rfl rfl rfl (miss4 rfl rfl rfl rfl (miss4 rfl rfl rfl rfl (miss1 rfl (miss1 rfl (miss1 rfl (lkp_base b7))))))); exact e7)
      show wpOrd _ _ _ _ _ _ _ _
      refine ord_take (i := 16) (d := 59) (v := ?_) rfl rfl (wanted_yes (j := 9) (dj := 52) (b := true) rfl hsz rfl rfl rfl (miss4 rfl rfl rfl rfl (miss1 rfl (miss1 rfl lkp_hit)))) hHeld (fun ρ hρ w hSw => ?_) ?_
      rotate_left
      ·(have e11 := Eq.trans (hρ.tmp hsz 11 rfl) (miss4 rfl rfl rfl rfl (miss4 rfl rfl rfl rfl (miss4 rfl rfl rfl rfl (miss4 rfl rfl rfl rfl (lkp_base b11))))); clear hρ; (try dsimp only at hSw); go_simp; try with_reducible rfl)
      show wpOrd _ _ _ _ _ _ _ _
      refine ord_take (i := 17) (d := 60) (v := ?_) rfl rfl (wanted_yes (j := 9) (dj := 52) (b := true) rfl hsz rfl rfl rfl (miss4 rfl rfl rfl rfl (miss1 rfl (miss1 rfl (miss1 rfl lkp_hit))))) hHeld (fun ρ hρ w hSw => ?_) ?_
      rotate_left
      ·(have e59 := Eq.trans (hρ.tmp hsz 59 rfl) lkp_hit; clear hρ; (try dsimp only at hSw); subst hSw; go_simp; try with_reducible rfl)
      show wpOrd _ _ _ _ _ _ _ _
      refine ord_take (i := 18) (d := 61) (v := ?_) rfl rfl (wanted_yes (j := 9) (dj := 52) (b := true) rfl hsz rfl rfl rfl (miss4 rfl rfl rfl rfl (miss4 rfl rfl rfl rfl lkp_hit))) hHeld (fun ρ hρ w hSw => ?_) ?_
      rotate_left
      ·(have e58 := Eq.trans (hρ.tmp hsz 58 rfl) (miss1 rfl (miss1 rfl lkp_hit)); have e60 := Eq.trans (hρ.tmp hsz 60 rfl) lkp_hit; clear hρ; (try dsimp only at hSw); go_simp; try with_reducible rfl)
      show wpOrd _ _ _ _ _ _ _ _
      refine ord_take (i := 19) (d := 62) (v := ?_) rfl rfl (wanted_yes (j := 9) (dj := 52) (b := true) rfl hsz rfl rfl rfl (miss4 rfl rfl rfl rfl (miss4 rfl rfl rfl rfl (miss1 rfl lkp_hit)))) hHeld (fun ρ hρ w hSw => ?_) ?_
      rotate_left
      ·(have e61 := Eq.trans (hρ.tmp hsz 61 rfl) lkp_hit; clear hρ; (try dsimp only at hSw); subst hSw; go_simp; try with_reducible rfl)
      show wpOrd _ _ _ _ _ _ _ _
      refine ord_take (i := 20) (d := 63) (v := ?_) rfl rfl (wanted_yes (j := 9) (dj := 52) (b := true) rfl hsz rfl rfl rfl (miss4 rfl rfl rfl rfl (miss4 rfl rfl rfl rfl (miss1 rfl (miss1 rfl lkp_hit))))) hHeld (fun ρ hρ w hSw => ?_) ?_
      rotate_left
      ·(have e57 := Eq.trans (hρ.tmp hsz 57 rfl) (miss4 rfl rfl rfl rfl (miss1 rfl lkp_hit)); have e62 := Eq.trans (hρ.tmp hsz 62 rfl) lkp_hit; clear hρ; (try dsimp only at hSw); go_simp; try with_reducible rfl)
      show wpOrd _ _ _ _ _ _ _ _
      refine ord_take (i := 21) (d := 64) (v := ?_) rfl rfl (wanted_none rfl) hHeld (fun ρ hρ w hSw => ?_) ?_
      rotate_left
      ·(have hc := hρ.const; have e52 := Eq.trans (hρ.tmp hsz 52 rfl) (miss4 rfl rfl rfl rfl (miss4 rfl rfl rfl rfl (miss1 rfl (miss1 rfl (miss1 rfl lkp_hit))))); have e63 := Eq.trans (hρ.tmp hsz 63 rfl) lkp_hit; clear hρ; (try dsimp only at hSw); go_simp; try with_reducible rfl)
      show wpOrd _ _ _ _ _ _ _ _
      refine ord_done hn2 ?_
      clear hHeld hn2 b11 b2 b10 b7 hsz A Q2
      simp only [puts_nil, puts_cons, put_lit, set_1, set_0]
      go_wp2_with fail
      go_roundg (nd - (j + 1))
      case rel => exact ⟨j + 1, ch, out, rfl, by go_num, by omega, rfl, HMD, hI, fun e => ⟨(hno.out e).1, fun q hq => (Nat.lt_succ_iff_lt_or_eq.1 hq).elim (fun h => (hno.out e).2 q h) (fun h => by rw [h]; exact HOKJ.out)⟩, hyes⟩
      case measure => omega
     have qn : (va != vb2) = true := by simpa using hne
     have qn2 : (!va == vb2) = true := by cases va <;> cases vb2 <;> first | rfl | exact absurd rfl hne
     have HNE2 := Lib.hid hne
     clear hne
     refine wp_region_ord (S := fun W' => W' = W2.drew) (J := []) (n := _) ((0, true) :: (1, true) :: (2, false) :: (3, true) :: (4, true) :: (5, true) :: (6, false) :: (7, true) :: (8, true) :: (9, true) :: (10, true) :: (11, true) :: (12, true) :: (13, true) :: (14, true) :: (15, true) :: (16, true) :: (17, true) :: (18, true) :: (19, true) :: (20, true) :: (21, true) :: []) (by as_aux_lemma => kernel_rfl) (by rfl) (base_cons (k := 11) (by go_simp; rfl) (base_cons (k := 2) (by go_simp; rfl) (base_cons (k := 10) (by go_simp; rfl) (base_cons (k := 7) (by go_simp; rfl) base_nil)))) ?_ (fun _ _ _ _ _ h => h) (fun Q2 A hsz hbase hn2 hHeld => ?_)
     ·exact rfl
     try dsimp only at hHeld
     obtain ⟨b11, b2, b10, b7, -⟩ := hbase
     refine ord_take (i := 0) (d := 43) (v := ?_) rfl rfl (wanted_none rfl) hHeld (fun ρ hρ w hSw => ?_) ?_
     rotate_left
     ·(have e11 := Eq.trans (hρ.tmp hsz 11 rfl) (lkp_base b11); clear hρ; (try dsimp only at hSw); go_simp; try with_reducible rfl)
     show wpOrd _ _ _ _ _ _ _ _
     refine ord_take (i := 1) (d := 44) (v := ?_) rfl rfl (wanted_none rfl) hHeld (fun ρ hρ w hSw => ?_) ?_
     rotate_left
     ·(have e43 := Eq.trans (hρ.tmp hsz 43 rfl) lkp_hit; clear hρ; (try dsimp only at hSw); subst hSw; go_simp; try with_reducible rfl)
     show wpOrd _ _ _ _ _ _ _ _
     refine ord_call (i := 2) (d := 45) (vs := ?_) rfl rfl rfl (wanted_none rfl) (fun ρ hρ => ?_) ?_ ?_
     rotate_left
     ·(have e44 := Eq.trans (hρ.tmp hsz 44 rfl) lkp_hit; simp only [List.map_toArray, List.map_cons, List.map_nil, e44]; try with_reducible rfl)
     ·(intro w; go_simp)
     refine HRJ.out.mono ?_
     rintro e w3 ⟨rfl, rfl⟩
     rw [hj0]
     refine ⟨_, rfl, fun _ => ?_, fun hHeld' => ?_⟩
     ·exact rfl
     replace hHeld := hHeld' rfl
     clear hHeld'
     try dsimp only at hHeld
     show wpOrd _ _ _ _ _ _ _ _
     refine ord_move (i := 3) (d := 46) (v := ?_) rfl rfl rfl (wanted_none rfl) hHeld (fun ρ hρ => ?_) ?_
     rotate_left
     ·(have e45 := Eq.trans (hρ.tmp hsz 45 rfl) lkp_hit; exact e45)
     show wpOrd _ _ _ _ _ _ _ _
     refine ord_move (i := 4) (d := 47) (v := ?_) rfl rfl rfl (wanted_yes (j := 3) (dj := 46) (b := true) rfl hsz rfl rfl rfl lkp_hit) hHeld (fun ρ hρ => ?_) ?_
     rotate_left
     ·(have e2 := Eq.trans (hρ.tmp hsz 2 rfl) (miss4 rfl rfl rfl rfl (lkp_base b2)); exact e2)
     show wpOrd _ _ _ _ _ _ _ _
     refine ord_move (i := 5) (d := 48) (v := ?_) rfl rfl rfl (wanted_yes (j := 3) (dj := 46) (b := true) rfl hsz rfl rfl rfl (miss1 rfl lkp_hit)) hHeld (fun ρ hρ => ?_) ?_
     rotate_left
     ·(have e10 := Eq.trans (hρ.tmp hsz 10 rfl) (miss4 rfl rfl rfl rfl (miss1 rfl (lkp_base b10))); exact e10)
     show wpOrd _ _ _ _ _ _ _ _
     refine ord_call (i := 6) (d := 49) (vs := ?_) rfl rfl rfl (wanted_yes (j := 3) (dj := 46) (b := true) rfl hsz rfl rfl rfl (miss1 rfl (miss1 rfl lkp_hit))) (fun ρ hρ => ?_) ?_ ?_
     rotate_left
     ·(have e47 := Eq.trans (hρ.tmp hsz 47 rfl) (miss1 rfl lkp_hit); have e48 := Eq.trans (hρ.tmp hsz 48 rfl) lkp_hit; simp only [List.map_toArray, List.map_cons, List.map_nil, e47, e48]; try with_reducible rfl)
     ·(intro w; go_simp)
     refine HRH.out.mono ?_
     rintro e w3 ⟨rfl, rfl⟩
     rw [hg0]
     refine ⟨_, rfl, fun _ => ?_, fun hHeld' => ?_⟩
     ·exact rfl
     replace hHeld := hHeld' rfl
     clear hHeld'
     try dsimp only at hHeld
     show wpOrd _ _ _ _ _ _ _ _
     refine ord_take (i := 7) (d := 50) (v := ?_) rfl rfl (wanted_yes (j := 3) (dj := 46) (b := true) rfl hsz rfl rfl rfl (miss1 rfl (miss1 rfl (miss1 rfl lkp_hit)))) hHeld (fun ρ hρ w hSw => ?_) ?_
     rotate_left
     ·(have e49 := Eq.trans (hρ.tmp hsz 49 rfl) lkp_hit; clear hρ; (try dsimp only at hSw); go_simp; try with_reducible rfl)
     show wpOrd _ _ _ _ _ _ _ _
     refine ord_take (i := 8) (d := 51) (v := ?_) rfl rfl (wanted_none rfl) hHeld (fun ρ hρ w hSw => ?_) ?_
     rotate_left
     ·(have hc := hρ.const; have e46 := Eq.trans (hρ.tmp hsz 46 rfl) (miss4 rfl rfl rfl rfl lkp_hit); have e50 := Eq.trans (hρ.tmp hsz 50 rfl) lkp_hit; clear hρ; (try dsimp only at hSw); go_simp; try with_reducible rfl)
     show wpOrd _ _ _ _ _ _ _ _
     refine ord_move (i := 9) (d := 52) (v := ?_) rfl rfl rfl (wanted_none rfl) hHeld (fun ρ hρ => ?_) ?_
     rotate_left
     ·(have e51 := Eq.trans (hρ.tmp hsz 51 rfl) lkp_hit; exact e51)
     show wpOrd _ _ _ _ _ _ _ _
     refine ord_move (i := 10) (d := 53) (v := ?_) rfl rfl rfl (wanted_yes (j := 9) (dj := 52) (b := true) rfl hsz rfl rfl rfl lkp_hit) hHeld (fun ρ hρ => ?_) ?_
     rotate_left
     ·(have e7 := Eq.trans (hρ.tmp hsz 7 rfl) (miss4 rfl rfl rfl rfl (miss4 rfl rfl rfl rfl (miss1 rfl (miss1 rfl (lkp_base b7))))); exact e7)
     show wpOrd _ _ _ _ _ _ _ _
     refine ord_take (i := 11) (d := 54) (v := ?_) rfl rfl (wanted_yes (j := 9) (dj := 52) (b := true) rfl hsz rfl rfl rfl (miss1 rfl lkp_hit)) hHeld (fun ρ hρ w hSw => ?_) ?_
     rotate_left
     ·(have e11 := Eq.trans (hρ.tmp hsz 11 rfl) (miss4 rfl rfl rfl rfl (miss4 rfl rfl rfl rfl (miss1 rfl (miss1 rfl (miss1 rfl (lkp_base b11)))))); clear hρ; (try dsimp only at hSw); go_simp; try with_reducible rfl)
     show wpOrd _ _ _ _ _ _ _ _
     refine ord_take (i := 12) (d := 55) (v := ?_) rfl rfl (wanted_yes (j := 9) (dj := 52) (b := true) rfl hsz rfl rfl rfl (miss1 rfl (miss1 rfl lkp_hit))) hHeld (fun ρ hρ w hSw => ?_) ?_
     rotate_left
     ·(have e54 := Eq.trans (hρ.tmp hsz 54 rfl) lkp_hit; clear hρ; (try dsimp only at hSw); subst hSw; go_simp; try with_reducible rfl)
     show wpOrd _ _ _ _ _ _ _ _
     refine ord_take (i := 13) (d := 56) (v := ?_) rfl rfl (wanted_yes (j := 9) (dj := 52) (b := true) rfl hsz rfl rfl rfl (miss1 rfl (miss1 rfl (miss1 rfl lkp_hit)))) hHeld (fun ρ hρ w hSw => ?_) ?_
     rotate_left
     ·(have e53 := Eq.trans (hρ.tmp hsz 53 rfl) (miss1 rfl (miss1 rfl lkp_hit)); have e55 := Eq.trans (hρ.tmp hsz 55 rfl) lkp_hit; clear hρ; (try dsimp only at hSw); go_simp; try with_reducible rfl)
     show wpOrd _ _ _ _ _ _ _ _
     refine ord_take (i := 14) (d := 57) (v := ?_) rfl rfl (wanted_yes (j := 9) (dj := 52) (b := true) rfl hsz rfl rfl rfl (miss4 rfl rfl rfl rfl lkp_hit)) hHeld (fun ρ hρ w hSw => ?_) ?_
     rotate_left
     ·(have e56 := Eq.trans (hρ.tmp hsz 56 rfl) lkp_hit; clear hρ; (try dsimp only at hSw); subst hSw; go_simp; try with_reducible rfl)
     show wpOrd _ _ _ _ _ _ _ _
     refine ord_move (i := 15) (d := 58) (v := ?_) rfl rfl rfl (wanted_yes (j := 9) (dj := 52) (b := true) rfl hsz rfl rfl rfl (miss4 rfl rfl rfl rfl (miss1 rfl lkp_hit))) hHeld (fun ρ hρ => ?_) ?_
     rotate_left
     ·(have e7 := Eq.trans (hρ.tmp hsz 7 rfl) (miss4 rfl rfl rfl rfl (miss4 rfl rfl rfl rfl (miss4 rfl rfl rfl rfl (miss1 rfl (miss1 rfl (miss1 rfl (lkp_base b7))))))); exact e7)
     show wpOrd _ _ _ _ _ _ _ _
     refine ord_take (i := 16) (d := 59) (v := ?_) rfl rfl (wanted_yes (j := 9) (dj := 52) (b := true) rfl hsz rfl rfl rfl (miss4 rfl rfl rfl rfl (miss1 rfl (miss1 rfl lkp_hit)))) hHeld (fun ρ hρ w hSw => ?_) ?_
     rotate_left
     ·(have e11 := Eq.trans (hρ.tmp hsz 11 rfl) (miss4 rfl rfl rfl rfl (miss4 rfl rfl rfl rfl (miss4 rfl rfl rfl rfl (miss4 rfl rfl rfl rfl (lkp_base b11))))); clear hρ; (try dsimp only at hSw); go_simp; try with_reducible rfl)
     show wpOrd _ _ _ _ _ _ _ _
     refine ord_take (i := 17) (d := 60) (v := ?_) rfl rfl (wanted_yes (j := 9) (dj := 52) (b := true) rfl hsz rfl rfl rfl (miss4 rfl rfl rfl rfl (miss1 rfl (miss1 rfl (miss1 rfl lkp_hit))))) hHeld (fun ρ hρ w hSw => ?_) ?_
     rotate_left
     ·(have e59 := Eq.trans (hρ.tmp hsz 59 rfl) lkp_hit; clear hρ; (try dsimp only at hSw); subst hSw; go_simp; try with_reducible rfl)
     show wpOrd _ _ _ _ _ _ _ _
     refine ord_take (i := 18) (d := 61) (v := ?_) rfl rfl (wanted_yes (j := 9) (dj := 52) (b := true) rfl hsz rfl rfl rfl (miss4 rfl rfl rfl rfl (miss4 rfl rfl rfl rfl lkp_hit))) hHeld (fun ρ hρ w hSw => ?_) ?_
     rotate_left
     ·(have e58 := Eq.trans (hρ.tmp hsz 58 rfl) (miss1 rfl (miss1 rfl lkp_hit)); have e60 := Eq.trans (hρ.tmp hsz 60 rfl) lkp_hit; clear hρ; (try dsimp only at hSw); go_simp; try with_reducible rfl)
     show wpOrd _ _ _ _ _ _ _ _
     refine ord_take (i := 19) (d := 62) (v := ?_) rfl rfl (wanted_yes (j := 9) (dj := 52) (b := true) rfl hsz rfl rfl rfl (miss4 rfl rfl rfl rfl (miss4 rfl rfl rfl rfl (miss1 rfl lkp_hit)))) hHeld (fun ρ hρ w hSw => ?_) ?_
     rotate_left
     ·(have e61 := Eq.trans (hρ.tmp hsz 61 rfl) lkp_hit; clear hρ; (try dsimp only at hSw); subst hSw; go_simp; try with_reducible rfl)
     show wpOrd _ _ _ _ _ _ _ _
     refine ord_take (i := 20) (d := 63) (v := ?_) rfl rfl (wanted_yes (j := 9) (dj := 52) (b := true) rfl hsz rfl rfl rfl (miss4 rfl rfl rfl rfl (miss4 rfl rfl rfl rfl (miss1 rfl (miss1 rfl lkp_hit))))) hHeld (fun ρ hρ w hSw => ?_) ?_
     rotate_left
     ·(have e57 := Eq.trans (hρ.tmp hsz 57 rfl) (miss4 rfl rfl rfl rfl (miss1 rfl lkp_hit)); have e62 := Eq.trans (hρ.tmp hsz 62 rfl) lkp_hit; clear hρ; (try dsimp only at hSw); go_simp; try with_reducible rfl)
     show wpOrd _ _ _ _ _ _ _ _
     refine ord_take (i := 21) (d := 64) (v := ?_) rfl rfl (wanted_none rfl) hHeld (fun ρ hρ w hSw => ?_) ?_
     rotate_left
     ·(have hc := hρ.const; have e52 := Eq.trans (hρ.tmp hsz 52 rfl) (miss4 rfl rfl rfl rfl (miss4 rfl rfl rfl rfl (miss1 rfl (miss1 rfl (miss1 rfl lkp_hit))))); have e63 := Eq.trans (hρ.tmp hsz 63 rfl) lkp_hit; clear hρ; (try dsimp only at hSw); go_simp; try with_reducible rfl)
     show wpOrd _ _ _ _ _ _ _ _
     refine ord_done hn2 ?_
     clear hHeld hn2 b11 b2 b10 b7 hsz A Q2
     simp only [puts_nil, puts_cons, put_lit, set_1, set_0]
     clear HRJ HRH HGS
     go_upto_region 14 with (fail)
     clear qn qn2 hkd
     have HTM := Lib.hid (two_marks (out := out) (a := a) (b := b) (by rw [hI.out.len]; exact han) (by rw [hI.out.len]; exact hbn))
     have HTC := Lib.hid (two_count HVA.out HVB.out HNE2.out (Ne.symm hba))
     have HM1 := Lib.hid ((((HM2.out.put han true).put hbn true).later (Below.refl _ _).drew).later (Below.refl _ _).drew)
     have HDI : Hid (marked out a ∨ marked out b) := by
      have e1 := marked_nat (out := out) (k := a); have e2 := marked_nat (out := out) (k := b)
      rw [HVA.out] at e1; rw [HVB.out] at e2
      rcases va with _ | _
      ·rcases vb2 with _ | _
       ·exact absurd rfl HNE2.out
       ·exact .inr (e2.2 rfl)
      ·exact .inl (e1.2 rfl)
     have HZ1 : Hid (ZhI nn ds gs z ((out.set a true).set b true)) := hI.out.mark HX.out hj0 HGF.out rfl rfl hba HDI.out (by rw [List.length_set, List.length_set]; exact hI.out.len) HTM.out.1
     have HC1 : Hid (countF ((out.set a true).set b true) < countF oz) := by
      have h1 := HTC.out.1
      rcases ch with _ | _
      ·rw [← (hno.out rfl).1]; exact h1
      ·have h2 := hyes.out rfl; unfold Hid; omega
     have hgv : go ≠ vb := by have := hgov.out; omega
     have HSA : Hid (∀ k v, (W2.setCell ⟨go, k, none⟩ v).cell? ⟨vb, 2, none⟩ = some (.int .i64 a) ∧ (W2.setCell ⟨go, k, none⟩ v).cell? ⟨vb, 3, none⟩ = some (.int .i64 b)) := fun k v => ⟨(HV.out.far (p := ⟨go, k, none⟩) (Ne.symm hgv) v).cell 2, (HV.out.far (p := ⟨go, k, none⟩) (Ne.symm hgv) v).cell 3⟩
     have HSB : Hid (∀ k v k2 v2, ((W2.setCell ⟨go, k, none⟩ v).setCell ⟨go, k2, none⟩ v2).cell? ⟨vb, 2, none⟩ = some (.int .i64 a) ∧ ((W2.setCell ⟨go, k, none⟩ v).setCell ⟨go, k2, none⟩ v2).cell? ⟨vb, 3, none⟩ = some (.int .i64 b)) := fun k v k2 v2 => ⟨((HV.out.far (p := ⟨go, k, none⟩) (Ne.symm hgv) v).far (p := ⟨go, k2, none⟩) (Ne.symm hgv) v2).cell 2, ((HV.out.far (p := ⟨go, k, none⟩) (Ne.symm hgv) v).far (p := ⟨go, k2, none⟩) (Ne.symm hgv) v2).cell 3⟩
     refine wp_region_J (S := fun W' => W'.cell? ⟨vb, 2, none⟩ = some (.int .i64 a) ∧ W'.cell? ⟨vb, 3, none⟩ = some (.int .i64 b)) (J := []) (by kernel_rfl) ?_ (fun hHeld => ?_)
     ·exact ⟨HV.out.cell 2, HV.out.cell 3⟩
     try dsimp only at hHeld
     refine tk 0 65 (mf 10 1) hHeld ?_
     refine tk 1 66 (mf 10 2) hHeld ?_
     refine wpAnyJ_takeL (i := 2) (d := some 67) (v := ?_) (mf 10 3) (by kernel_rfl) rfl rfl (by kernel_rfl) (by kernel_rfl) (by kernel_rfl) (by kernel_rfl) (by kernel_rfl) (fun _ _ _ h => h) (Or.inl ⟨by rfl, ?_⟩) hHeld ?_
     rotate_left
     ·(intro w hSw; (try dsimp only at hSw); have q := hSw.1; clear hSw; go_simp; try with_reducible rfl)
     try simp only [Act.put, sA, s0, s1]
     refine tk 3 68 (mf 10 4) hHeld ?_
     refine tk 4 69 (mf 10 5) hHeld ?_
     refine wpAnyJ_takeL (i := 5) (d := some 70) (v := ?_) (mf 10 6) (by kernel_rfl) rfl rfl (by kernel_rfl) (by kernel_rfl) (by kernel_rfl) (by kernel_rfl) (by kernel_rfl) (fun _ _ _ h => h) (Or.inl ⟨by rfl, ?_⟩) hHeld ?_
     rotate_left
     ·(intro w hSw; (try dsimp only at hSw); have q := hSw.2; clear hSw; go_simp; try with_reducible rfl)
     try simp only [Act.put, sA, s0, s1]
     refine tk 6 71 (mf 10 7) hHeld ?_
     refine wpAnyJ_oneL (k := 7) (mf 10 8) (by kernel_rfl) (by kernel_rfl) rfl (fun K hK => ?_)
     go_simp
     refine hK.out _ _ (fun _ => ?_) (fun hHeld' => ?_)
     ·exact HSA.out _ _
     replace hHeld := hHeld' rfl
     clear hHeld' hK K
     try dsimp only at hHeld
     refine tk 8 72 (mf 10 9) hHeld ?_
     refine wpAnyJ_oneL (k := 9) (mf 10 10) (by kernel_rfl) (by kernel_rfl) rfl (fun K hK => ?_)
     go_simp
     refine hK.out _ _ (fun _ => ?_) (fun hHeld' => ?_)
     ·exact HSB.out _ _ _ _
     replace hHeld := hHeld' rfl
     clear hHeld' hK K
     try dsimp only at hHeld
     refine wpAnyJ_done (by kernel_rfl) ?_ _
     go_wp2_with fail
     go_roundg (nd - (j + 1))
     case rel => exact ⟨j + 1, true, _, rfl, by go_num, by omega, rfl, HM1, HZ1, (fun e => by cases e), fun _ => HC1.out⟩
     case measure => omega
end Go.Proofs.YtepicjpdhpojnaaGreatDoor
namespace Go.Proofs.YtepicjpdhpojnaaGreatDoor
open Go.RowKit
theorem sl_getI {w : World} {B n c : Nat} {A : Option Addr} {l : List Int} (h : Sl w B 1 A n c (intsV l)) (hn : 0 < n) : ∃ b off, A = some ⟨b, off, none⟩ ∧ b < B ∧ ∀ j x, l[j]? = some x → w.cell? ⟨b, off + j, none⟩ = some (.int .i64 x) := by
 obtain ⟨b, off, e, hb, hc⟩ := h.2.2.2.2 hn
 exact ⟨b, off, e, hb, fun j x hx => hc j _ (by unfold intsV; rw [flat1_map, List.getElem?_map, hx]; rfl)⟩
theorem contR_any (R : Int → Prop) (g : Nat) (lb : Array Value) (p : Int → Bool) (eg : ∀ args w, (callFunc g args).run Tryz.prog w = .ok (.enter g args) w) (A : Option Addr) (n c B : Nat) (l : List Int) (w : World) (h : Sl w B 1 A n c (intsV l)) (hR : ∀ u ∈ l, R u)
 (hp : ∀ (W : World) (x : Int), R x → Below w.heap.size w W → FnGives Tryz.prog g lb #[.int .i64 x] (.bool (p x)) W) :
 Calls Tryz.prog 52 #[.slice A n c, .func (.func g) #[] lb] w fun e w' => e = .returned (.bool (l.any p)) ∧ ∃ q, w' = w.drewN q := by
 have hl : l.length = n := h.len (fun _ => rfl) (by decide)
 have hle := h.le
 rcases Nat.eq_zero_or_pos n with rfl | h0
 ·have : l = [] := List.eq_nil_of_length_eq_zero hl
  subst this
  refine (Tryz.slices_ContainsFunc_empty (α := Int) A c (.func (.func g) #[] lb) w).mono ?_
  rintro e w1 ⟨rfl, rfl⟩
  exact ⟨rfl, 0, rfl⟩
 ·obtain ⟨b, off, rfl, hb, hc⟩ := sl_getI h h0
  have hi : 0 < l.length := by omega
  haveI : Inhabited {u : Int // R u} := ⟨⟨l[0]'hi, hR _ (List.getElem_mem hi)⟩⟩
  refine (Tryz.slices_ContainsFunc (α := {u : Int // R u}) (fun x => Value.int .i64 x.1) (fun x => p x.1) g lb eg b off n c (l.pmap (fun u hu => ⟨u, hu⟩) hR) w (fun W x hb => hp W x.1 x.2 hb) (by rw [List.length_pmap]; omega) (by omega) (fun j hj => ?_)).mono ?_
  ·rw [List.length_pmap] at hj
   rw [hc j (l[j]'hj) (List.getElem?_eq_getElem hj)]
   congr 2
   simp [hj]
  ·rintro e w1 ⟨rfl, q, rfl⟩
   refine ⟨?_, q, rfl⟩
   rw [List.take_of_length_le (by rw [List.length_pmap]; omega)]
   congr 2
   rw [Bool.eq_iff_iff, List.any_eq_true, List.any_eq_true]
   constructor
   ·rintro ⟨x, hx, hpx⟩
    obtain ⟨u, hu, rfl⟩ := List.mem_pmap.1 hx
    exact ⟨u, hu, hpx⟩
   ·rintro ⟨u, hu, hpu⟩
    exact ⟨⟨u, hR u hu⟩, List.mem_pmap.2 ⟨u, hu, rfl⟩, hpu⟩
end Go.Proofs.YtepicjpdhpojnaaGreatDoor
