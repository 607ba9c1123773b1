import Derived.Test.YtnpfkiidhidjbaaGreatDoorZ37
import Derived.Test.YtnpfkiidhidjbaaGreatDoorZ36
/-
 The reference of layer 13: walk of May.
-/
namespace Go.Proofs.YtnpfkiidhidjbaaGreatDoor
open Go.RowKit
def set9 (w0 : World) (x7 : Nat) (u0 u1 u2 u3 u4 u5 u6 u7 u8 : Bool) : World := (((((((((w0.setCell ⟨x7, 0, none⟩ (.bool u0)).setCell ⟨x7, 1, none⟩ (.bool u1)).setCell ⟨x7, 2, none⟩ (.bool u2)).setCell ⟨x7, 3, none⟩ (.bool u3)).setCell ⟨x7, 4, none⟩ (.bool u4)).setCell ⟨x7, 5, none⟩ (.bool u5)).setCell ⟨x7, 6, none⟩ (.bool u6)).setCell ⟨x7, 7, none⟩ (.bool u7)).setCell ⟨x7, 8, none⟩ (.bool u8))
theorem run_store_nine (ρ : Operand → Value) (o : Oper) (x y : Operand) (w0 : World) (x7 : Nat) (u0 u1 u2 u3 u4 u5 u6 u7 u8 : Bool) (ho : o.op = .store 82 x y) (e7 : ρ x = .pointer (some ⟨x7, 0, none⟩)) (e39 : ρ y = .agg #[.bool u0, .bool u1, .bool u2, .bool u3, .bool u4, .bool u5, .bool u6, .bool u7, .bool u8])
  (h : Blk w0 x7 82 #[.bool false, .bool false, .bool false, .bool false, .bool false, .bool false, .bool false, .bool false, .bool false]) :
  (execOp ρ o).run Tryz.prog w0 = .ok .skip (set9 w0 x7 u0 u1 u2 u3 u4 u5 u6 u7 u8) := by
 have a0 : w0.cell? ⟨x7, 0, none⟩ = some (.bool false) := h.cell 0
 have f0 := h.frozen 0
 have a1 : w0.cell? ⟨x7, 1, none⟩ = some (.bool false) := h.cell 1
 have f1 := h.frozen 1
 have a2 : w0.cell? ⟨x7, 2, none⟩ = some (.bool false) := h.cell 2
 have f2 := h.frozen 2
 have a3 : w0.cell? ⟨x7, 3, none⟩ = some (.bool false) := h.cell 3
 have f3 := h.frozen 3
 have a4 : w0.cell? ⟨x7, 4, none⟩ = some (.bool false) := h.cell 4
 have f4 := h.frozen 4
 have a5 : w0.cell? ⟨x7, 5, none⟩ = some (.bool false) := h.cell 5
 have f5 := h.frozen 5
 have a6 : w0.cell? ⟨x7, 6, none⟩ = some (.bool false) := h.cell 6
 have f6 := h.frozen 6
 have a7 : w0.cell? ⟨x7, 7, none⟩ = some (.bool false) := h.cell 7
 have f7 := h.frozen 7
 have a8 : w0.cell? ⟨x7, 8, none⟩ = some (.bool false) := h.cell 8
 have f8 := h.frozen 8
 clear h
 unfold execOp
 rw [ho]
 simp only [e7, e39]
 go_simp
 rfl
theorem set9_blk {w0 : World} {x7 : Nat} {t : TypeId} (h : Blk w0 x7 t #[.bool false, .bool false, .bool false, .bool false, .bool false, .bool false, .bool false, .bool false, .bool false]) (u0 u1 u2 u3 u4 u5 u6 u7 u8 : Bool) : Blk (set9 w0 x7 u0 u1 u2 u3 u4 u5 u6 u7 u8) x7 t #[.bool u0, .bool u1, .bool u2, .bool u3, .bool u4, .bool u5, .bool u6, .bool u7, .bool u8] := by
 have h9 := (((((((((h.set 0 (.bool u0)).set 1 (.bool u1)).set 2 (.bool u2)).set 3 (.bool u3)).set 4 (.bool u4)).set 5 (.bool u5)).set 6 (.bool u6)).set 7 (.bool u7)).set 8 (.bool u8))
 simp only [List.setIfInBounds_toArray, List.set_cons_zero, List.set_cons_succ] at h9
 exact h9
theorem set9_below {B : Nat} {w w0 : World} {x7 : Nat} (h : Below B w w0) (hx : B ≤ x7) (u0 u1 u2 u3 u4 u5 u6 u7 u8 : Bool) : Below B w (set9 w0 x7 u0 u1 u2 u3 u4 u5 u6 u7 u8) :=
 (((((((((h.setCell (p := ⟨x7, 0, none⟩) hx _).setCell (p := ⟨x7, 1, none⟩) hx _).setCell (p := ⟨x7, 2, none⟩) hx _).setCell (p := ⟨x7, 3, none⟩) hx _).setCell (p := ⟨x7, 4, none⟩) hx _).setCell (p := ⟨x7, 5, none⟩) hx _).setCell (p := ⟨x7, 6, none⟩) hx _).setCell (p := ⟨x7, 7, none⟩) hx _).setCell (p := ⟨x7, 8, none⟩) hx _)
def RmF (W : World) (v : Value) : List Value → World → Prop
 | [], W' => Below W.heap.size W W'
 | [u], W' => u = v ∧ Below W.heap.size W W'
 | _, _ => False
theorem RmF.base {W W' : World} {v : Value} : ∀ {vs : List Value}, RmF W v vs W' → Below W.heap.size W W'
 | [], h => h
 | [_], h => h.2
 | _ :: _ :: _, h => h.elim
theorem RmF.alloc {W W' : World} {v : Value} : ∀ {vs : List Value} (o : Obj), RmF W v vs W' → RmF W v vs (W'.alloc o)
 | [], o, h => Below.alloc h (Below.size h) o
 | [_], o, h => ⟨h.1, h.2.alloc h.2.size o⟩
 | _ :: _ :: _, _, h => h.elim
theorem boolsV_get {l : List Bool} {j : Nat} {b : Bool} (h : l[j]? = some b) : (boolsV l).toArray[j]? = some (.bool b) := by
 rw [List.getElem?_toArray, boolsV_map, List.getElem?_map, h]; rfl
theorem boolsV_setA (l : List Bool) (j : Nat) (b : Bool) : (boolsV l).toArray.setIfInBounds j (.bool b) = (boolsV (l.set j b)).toArray := by
 rw [List.setIfInBounds_toArray, boolsV_set]
/-- The rounds over the states: the flags, and whether nothing is to do in all. -/
def RmR (w w1 : World) (ab : Nat) (nt op gr : Array Value) (F : List Int → List Bool) (rows : List (List Int)) (n gk : Nat) (nv iv : Value) (wr : World) : Prop := ∃ (k : Nat) (S : List Bool) (nb : Bool), iv = .int .i64 k ∧ nv = .bool nb ∧ k ≤ n ∧ gk = n - k ∧ Hid (MfIn F rows k S nb) ∧ Hid (Bx3 w nt op gr wr) ∧ Hid (Blk wr ab 82 (boolsV S).toArray) ∧ Hid (Below w1.heap.size w1 wr)
def RmS (w w1 : World) (ab x7 : Nat) (nt op gr : Array Value) (F : List Int → List Bool) (rows : List (List Int)) (k : Nat) (s : List Int) (gk : Nat) (iv : Value) (wr : World) : Prop := ∃ (j : Nat) (S : List Bool), iv = .int .i64 j ∧ j ≤ 9 ∧ gk = 9 - j ∧ Hid (MfTo F rows k s j S) ∧ Hid (Bx3 w nt op gr wr) ∧ Hid (Blk wr ab 82 (boolsV S).toArray) ∧ Hid (Blk wr x7 82 (boolsV (F s)).toArray) ∧ Hid (Below w1.heap.size w1 wr)
set_option maxRecDepth 100000 in
set_option maxHeartbeats 8000000 in
theorem rMay_any (An Ad As Al Ap : Option Addr) (nn cn nd cd n c nl cl np cp : Nat) (ns : List Nd) (ds : List Dv) (m : List Int) (ls : List Lk) (pr : List Int) (d p co : Int) (w : World) (h : HzMem w An Ad As Al Ap nn cn nd cd n c nl cl np cp ns ds m ls pr) :
  Calls Tryz.prog 18 #[.agg #[.slice An nn cn, .slice Ad nd cd], .slice As n c, .agg #[.int .i64 d, .int .i64 p], .agg #[.int .i64 co, .slice Al nl cl, .slice Ap np cp]] w (MayPost w ns ds m d p co ls pr) := by
 obtain ⟨hln, hld, hls⟩ := h.ln
 subst hln
 have HB := Lib.hid (Bx3.new w #[.slice An ns.length cn, .slice Ad nd cd] #[.int .i64 d, .int .i64 p] #[.int .i64 co, .slice Al nl cl, .slice Ap np cp])
 have HH := Lib.hid h
 clear h
 go_enter Tryz.func18, Tryz.ntmps18
 go_wp2_with fail
 generalize World.alloc (World.alloc (World.alloc w _) _) _ = W at *
 have HM := Lib.hid (HH.out.below HB.out.bl)
 refine (rsts_any An Ad As Al Ap ns.length cn nd cd n c nl cl np cp ns ds m ls pr d p co W HM.out).mono ?_
 rintro e w1 ⟨⟨h1, rfl⟩ | ⟨h1, AR, kR, cR, rfl, hR⟩, hb1⟩
 ·have H1 := Lib.hid h1
  have q : (stsErr ns ds m d p co != 0) = true := by simpa using h1
  have HB1 := Lib.hid (HB.out.later hb1.out)
  clear h1 hb1 HB HM
  go_wp2_with fail
  go_ret2
  exact ⟨.inl ⟨H1.out, rfl⟩, HB1.out.bl⟩
 have HB1 := Lib.hid (HB.out.later hb1.out)
 have H1 := Lib.hid h1
 have HLR := Lib.hid hR.out.len
 have hRl := hR.out.le
 obtain ⟨hmk, hze, hce⟩ := stsErr_ok h1
 obtain ⟨hd, hp, hco⟩ := hzErr_ok hze
 have HMK := Lib.hid hmk
 have HPP := Lib.hid hp
 obtain ⟨k, rfl⟩ := Int.eq_ofNat_of_zero_le hd.1
 have hk : k < ds.length := by omega
 have hkm : k < m.length := by have := (maskErr_net hmk).2.1; omega
 obtain ⟨x, hx⟩ : ∃ x, ds[k]? = some x := ⟨_, List.getElem?_eq_getElem hk⟩
 have HX := Lib.hid hx
 have HR := Lib.hid hR.out
 clear HB HM hb1 hce hmk hze hx h1 hp hd hR
 go_upto_region 5 with (fail)
 have HA2 := Lib.hid (Blk.new w1 82 #[.bool false, .bool false, .bool false, .bool false, .bool false, .bool false, .bool false, .bool false, .bool false])
 have HBL2 : Hid (Below w1.heap.size w1 (w1.alloc (.cells #[.bool false, .bool false, .bool false, .bool false, .bool false, .bool false, .bool false, .bool false, .bool false] 82))) := (Below.refl _ _).alloc (Nat.le_refl _) _
 have HB2 := Lib.hid (HB1.out.later HBL2.out)
 generalize World.alloc w1 _ = w2 at *
 have hab3 : w.heap.size + 3 ≤ w1.heap.size := by have := HB1.out.bg.lt; omega
 obtain ⟨ab, hab⟩ : ∃ ab, ab = w1.heap.size := ⟨_, rfl⟩
 rw [← hab] at HA2 ⊢
 obtain ⟨F, hF⟩ : ∃ F : List Int → List Bool, F = fun s => hzF ns.length ns ds s k p co ls pr x := ⟨_, rfl⟩
 have HFE := Lib.hid hF
 have HF9 : Hid (∀ s, (F s).length = 9) := fun s => by rw [hF]; exact hzF_len ..
 have HMay : Hid (∀ S nb, MfIn F (allOf m) (allOf m).length S nb → MayL ns ds m k p co ls pr x (onFrom 0 (S.set 7 nb))) := fun S nb h => by rw [hF] at h; exact may_list hkm HPP.out h
 clear hF HB1
 have hlt1 : ab ≤ w1.heap.size := by omega
 have hlt2 : w1.heap.size ≤ ab := by omega
 clear hab
 go_wp2_with fail
 go_loopg [13, 14] kR (RmR w w1 ab #[.slice An ns.length cn, .slice Ad nd cd] #[.int .i64 k, .int .i64 p] #[.int .i64 co, .slice Al nl cl, .slice Ap np cp] F (allOf m) kR)
 case atStart => exact ⟨0, List.replicate 9 false, true, rfl, rfl, Nat.zero_le _, rfl, MfIn.start, HB2, HA2, HBL2⟩
 case round =>
  clear HB2 HA2 HBL2
  obtain ⟨k2, S, nb, rfl, rfl, hk2, rfl, hMF, hbx, hA, hbl⟩ := hrel
  by_cases hlt : k2 < kR
  ·obtain ⟨br, ofr, s, As2, cs2, rfl, hbr, hs, hcr, hsr⟩ := (HR.out.below hbl.out (Nat.le_refl _)).at hlt
   have HSE : Hid (stateErr ns ds s = 0) := state_of_mask HMK.out (List.mem_of_getElem? hs)
   have HS := Lib.hid hs
   have HSR := Lib.hid (hsr.more hbl.out.size)
   have HMr := Lib.hid (HH.out.below hbx.out.bl)
   obtain ⟨u0, u1, u2, u3, u4, u5, u6, u7, u8, hFs⟩ := nine (HF9.out s)
   have HFS := Lib.hid hFs
   have HIN : Hid (∀ W', Below wr.heap.size wr W' → Calls Tryz.prog 41 #[.agg #[.slice An ns.length cn, .slice Ad nd cd], .slice As2 s.length cs2, .agg #[.int .i64 k, .int .i64 p], .agg #[.int .i64 co, .slice Al nl cl, .slice Ap np cp]] W' fun e w' => e = .returned (.agg #[.bool u0, .bool u1, .bool u2, .bool u3, .bool u4, .bool u5, .bool u6, .bool u7, .bool u8]) ∧ Below W'.heap.size W' w') := fun W' hb => by
    have HM' := HMr.out.below hb
    refine (rhz_any An Ad As2 Al Ap ns.length cn nd cd s.length cs2 nl cl np cp k ns ds s ls pr p co x W' ⟨HM'.hn, HM'.hd, (HSR.out.below hb (Nat.le_refl _)).more hb.size, HM'.hl, HM'.hp, HM'.la, HM'.sn, HM'.sd⟩ HSE.out HX.out HPP.out).mono ?_
    rintro e w' ⟨rfl, hb'⟩
    rw [HFE.out] at hFs
    rw [show hzF ns.length ns ds s k p co ls pr x = _ from hFs]
    exact ⟨rfl, hb'⟩
   have hz := hbl.out.size
   have hbr2 : br < wr.heap.size := by omega
   have hw0 : w.heap.size < wr.heap.size := by omega
   have hw1 : w.heap.size + 1 < wr.heap.size := by omega
   have hw2 : w.heap.size + 2 < wr.heap.size := by omega
   have HC : Hid (∀ W', Below wr.heap.size wr W' → ((W'.cell? ⟨w.heap.size, 0, none⟩ = some (.slice An ns.length cn) ∧ W'.cell? ⟨w.heap.size, 1, none⟩ = some (.slice Ad nd cd)) ∧ (W'.cell? ⟨w.heap.size + 1, 0, none⟩ = some (.int .i64 k) ∧ W'.cell? ⟨w.heap.size + 1, 1, none⟩ = some (.int .i64 p)) ∧ W'.cell? ⟨w.heap.size + 2, 0, none⟩ = some (.int .i64 co) ∧ W'.cell? ⟨w.heap.size + 2, 1, none⟩ = some (.slice Al nl cl) ∧ W'.cell? ⟨w.heap.size + 2, 2, none⟩ = some (.slice Ap np cp)) ∧ W'.cell? ⟨br, ofr + k2, none⟩ = some (.slice As2 s.length cs2)) := fun W' hb => ⟨(hbx.out.later hb).cells, (hb.cell (p := ⟨br, ofr + k2, none⟩) hbr2).trans hcr⟩
   clear hs hsr hcr hbr HMr HSR hFs
   go_upto_region 9 with (fail)
   refine wp_region_lat (S := fun W' => Below wr.heap.size wr W') (J := []) (n := _) ((1, true) :: (2, true) :: (3, true) :: (0, true) :: (4, true) :: (5, true) :: (6, true) :: []) ((9, false) :: []) [7] [8] #[true, true, true, true, true, true, true, false, false, false] #[true, true, true, true, true, true, true, true, true, false] (by as_aux_lemma => kernel_rfl) (by rfl) (base_cons (k := 10) (by go_simp; rfl) (base_cons (k := 14) (by go_simp; rfl) (base_cons (k := 4) (by go_simp; rfl) (base_cons (k := 6) (by go_simp; rfl) (base_cons (k := 7) (by go_simp; rfl) base_nil))))) ?_ (fun _ _ _ _ _ h => h) (fun Q2 A hsz hbase hn2 hHeld => ?_)
   ·exact (Below.refl _ _).drew
   try dsimp only at hHeld
   obtain ⟨b10, b14, b4, b6, b7, -⟩ := hbase
   refine ⟨LatP1 A [(40, .agg #[.int .i64 co, .slice Al nl cl, .slice Ap np cp]), (39, .agg #[.int .i64 k, .int .i64 p]), (38, .slice As2 s.length cs2), (34, .agg #[.slice An ns.length cn, .slice Ad nd cd]), (37, .pointer (some ⟨br, ofr + k2, none⟩)), (36, .int .i64 k2), (35, .slice (some ⟨br, ofr, none⟩) kR cR)] 8 15 wr.heap.size 82 #[.bool false, .bool false, .bool false, .bool false, .bool false, .bool false, .bool false, .bool false, .bool false] [(7, 41)] (RmF wr (.agg #[.bool u0, .bool u1, .bool u2, .bool u3, .bool u4, .bool u5, .bool u6, .bool u7, .bool u8])), ?_, ?_, ?_, ?_⟩
   ·refine ord_move (i := 1) (d := 35) (v := ?_) rfl rfl rfl (wanted_none rfl) hHeld (fun ρ hρ => ?_) ?_
    rotate_left
    ·(have e10 := Eq.trans (hρ.tmp hsz 10 rfl) (lkp_base b10); exact e10)
    show wpOrd _ _ _ _ _ _ _ _
    refine ord_move (i := 2) (d := 36) (v := ?_) rfl rfl rfl (wanted_none rfl) hHeld (fun ρ hρ => ?_) ?_
    rotate_left
    ·(have e14 := Eq.trans (hρ.tmp hsz 14 rfl) (miss1 rfl (lkp_base b14)); exact e14)
    show wpOrd _ _ _ _ _ _ _ _
    refine ord_take (i := 3) (d := 37) (v := ?_) rfl rfl (wanted_none rfl) hHeld (fun ρ hρ w hSw => ?_) ?_
    rotate_left
    ·(have e35 := Eq.trans (hρ.tmp hsz 35 rfl) (miss1 rfl lkp_hit); have e36 := Eq.trans (hρ.tmp hsz 36 rfl) lkp_hit; clear hρ; (try dsimp only at hSw); go_simp; try with_reducible rfl)
    show wpOrd _ _ _ _ _ _ _ _
    refine ord_take (i := 0) (d := 34) (v := ?_) rfl rfl (wanted_none rfl) hHeld (fun ρ hρ w hSw => ?_) ?_
    rotate_left
    ·(have e4 := Eq.trans (hρ.tmp hsz 4 rfl) (miss1 rfl (miss1 rfl (miss1 rfl (lkp_base b4)))); clear hρ; (try dsimp only at hSw); have q := HC.out _ hSw; have k0 := q.1.1.1; have k1 := q.1.1.2; clear q hSw; go_simp; try with_reducible rfl)
    show wpOrd _ _ _ _ _ _ _ _
    refine ord_take (i := 4) (d := 38) (v := ?_) rfl rfl (wanted_none rfl) hHeld (fun ρ hρ w hSw => ?_) ?_
    rotate_left
    ·(have e37 := Eq.trans (hρ.tmp hsz 37 rfl) (miss1 rfl lkp_hit); clear hρ; (try dsimp only at hSw); have q := HC.out _ hSw; have k0 := q.2; clear q hSw; go_simp; try with_reducible rfl)
    show wpOrd _ _ _ _ _ _ _ _
    refine ord_take (i := 5) (d := 39) (v := ?_) rfl rfl (wanted_none rfl) hHeld (fun ρ hρ w hSw => ?_) ?_
    rotate_left
    ·(have e6 := Eq.trans (hρ.tmp hsz 6 rfl) (miss4 rfl rfl rfl rfl (miss1 rfl (lkp_base b6))); clear hρ; (try dsimp only at hSw); have q := HC.out _ hSw; have k0 := q.1.2.1.1; have k1 := q.1.2.1.2; clear q hSw; go_simp; try with_reducible rfl)
    show wpOrd _ _ _ _ _ _ _ _
    refine ord_take (i := 6) (d := 40) (v := ?_) rfl rfl (wanted_none rfl) hHeld (fun ρ hρ w hSw => ?_) ?_
    rotate_left
    ·(have e7 := Eq.trans (hρ.tmp hsz 7 rfl) (miss4 rfl rfl rfl rfl (miss1 rfl (miss1 rfl (lkp_base b7)))); clear hρ; (try dsimp only at hSw); have q := HC.out _ hSw; have k0 := q.1.2.2.1; have k1 := q.1.2.2.2.1; have k2 := q.1.2.2.2.2; clear q hSw; go_simp; try with_reducible rfl)
    show wpOrd _ _ _ _ _ _ _ _
    exact lat_pre ⟨[], 0, rfl, by decide, by decide, rfl, (Below.refl _ _).drew, (show LatMem1 wr.heap.size _ _ _ _ _ from LatMem1.start wr.drew 0)⟩
   ·intro c cs D a w0 h
    obtain ⟨vs, x7, hC, hnd, hDD, rfl, hf, hm⟩ := h
    rcases vs with _ | ⟨v1, _⟩
    ·obtain ⟨rfl, rfl⟩ : c = 7 ∧ cs = [] := by simpa using hC
     refine lat_call (d := 41) (vs := #[.agg #[.slice An ns.length cn, .slice Ad nd cd], .slice As2 s.length cs2, .agg #[.int .i64 k, .int .i64 p], .agg #[.int .i64 co, .slice Al nl cl, .slice Ap np cp]]) rfl rfl rfl rfl (fun ρ hρ => ?_) ?_ ?_
     ·(have e34 := Eq.trans (hρ.tmp hsz 34 rfl) (miss_opt rfl (miss1 rfl (miss1 rfl (miss1 rfl lkp_hit)))); have e38 := Eq.trans (hρ.tmp hsz 38 rfl) (miss_opt rfl (miss1 rfl (miss1 rfl lkp_hit))); have e39 := Eq.trans (hρ.tmp hsz 39 rfl) (miss_opt rfl (miss1 rfl lkp_hit)); have e40 := Eq.trans (hρ.tmp hsz 40 rfl) (miss_opt rfl lkp_hit); simp only [List.map_toArray, List.map_cons, List.map_nil, e34, e38, e39, e40])
     ·(intro w; go_simp)
     refine (HIN.out w0 hf).mono ?_
     rintro e w6 ⟨rfl, hb6⟩
     have HB6 : Below wr.heap.size wr w6 := Below.trans hf (Below.mono hb6 (Below.size hf))
     refine ⟨_, rfl, fun _ => ?_, [.agg #[.bool u0, .bool u1, .bool u2, .bool u3, .bool u4, .bool u5, .bool u6, .bool u7, .bool u8]], x7, rfl, hnd, hDD, lat_push1 A (by decide), ?_, hm.later hb6⟩
     ·exact HB6
     ·exact ⟨rfl, HB6⟩
    ·simp at hC
   ·exact fun C D i a w0 hi h => wpOp_mono (fun a1 w1 h1 => ⟨fun _ => (by obtain ⟨vs1, _, _, _, _, _, hf1, _⟩ := h1; exact RmF.base hf1), h1⟩) (LatP1.alloc (fun vs w2 o h => RmF.alloc o h) rfl rfl rfl (fun ρ w2 => by go_simp; rfl) i hi h)
   ·intro a w0 h
    obtain ⟨vs, x7, hC, -, -, rfl, hf, hm⟩ := h
    rcases vs with _ | ⟨v1, _ | ⟨v2, _⟩⟩
    ·simp at hC
    rotate_left
    ·exact hf.elim
    clear hC
    obtain ⟨rfl, hB⟩ := hf
    have h7 := (hm.m7 rfl).1
    have hx7 := (hm.m7 rfl).2
    have HH7 := Lib.hid h7
    have HX7 := Lib.hid (set9_blk h7 u0 u1 u2 u3 u4 u5 u6 u7 u8)
    have HB7 := Lib.hid (set9_below hB hx7 u0 u1 u2 u3 u4 u5 u6 u7 u8)
    have hge7 := hx7
    clear hm h7 hx7 hB
    show wpOrd _ _ _ _ _ _ (puts A [(15, ptr x7), (41, .agg #[.bool u0, .bool u1, .bool u2, .bool u3, .bool u4, .bool u5, .bool u6, .bool u7, .bool u8]), (40, .agg #[.int .i64 co, .slice Al nl cl, .slice Ap np cp]), (39, .agg #[.int .i64 k, .int .i64 p]), (38, .slice As2 s.length cs2), (34, .agg #[.slice An ns.length cn, .slice Ad nd cd]), (37, .pointer (some ⟨br, ofr + k2, none⟩)), (36, .int .i64 k2), (35, .slice (some ⟨br, ofr, none⟩) kR cR)]) _
    refine ord_store (i := 9) (w' := ?_) rfl rfl (wanted_none rfl) (fun ρ hρ => ?_) (fun _ => ?_) ?_
    rotate_left
    ·(have e15 := Eq.trans (hρ.tmp hsz 15 rfl) lkp_hit; have e41 := Eq.trans (hρ.tmp hsz 41 rfl) (miss1 rfl lkp_hit); refine (run_store_nine ρ _ _ _ _ x7 u0 u1 u2 u3 u4 u5 u6 u7 u8 ?_ e15 e41 HH7.out); rfl)
    ·exact HB7.out
    show wpOrd _ _ _ _ _ _ _ _
    refine ord_done hn2 ?_
    clear hn2 b10 b14 b4 b6 b7 hsz A Q2
    simp only [puts_nil, puts_cons, put_lit, set_1, set_0, ptr]
    clear HH7 HC HIN
    generalize set9 _ _ _ _ _ _ _ _ _ _ _ = WS at *
    have HA7 := Lib.hid (hA.out.below HB7.out hA.out.lt)
    have HBX7 := Lib.hid (hbx.out.later HB7.out)
    have HBL7 := Lib.hid (hbl.out.trans (HB7.out.mono hbl.out.size))
    have hne : x7 ≠ ab := by have := hA.out.lt; omega
    have HNB := Lib.hid (fun hb : (F s)[7]? = some u7 => hMF.out.nothing HS.out hb)
    have H7 : Hid ((F s)[7]? = some u7) := by unfold Hid; rw [HFS.out]; rfl
    have HTO := Lib.hid (hMF.out.two (s := s))
    have HBF : Hid (Blk WS x7 82 (boolsV (F s)).toArray) := by unfold Hid; rw [HFS.out]; exact HX7.out
    have x77 : WS.cell? ⟨x7, 7, none⟩ = some (.bool u7) := HX7.out.cell 7
    clear hA hbx hbl HB7 HX7 hMF HFS
    rcases nb with _ | _
    all_goals
     go_wp2_with fail
     clear x77
     go_loopg [16] 9 (RmS w w1 ab x7 #[.slice An ns.length cn, .slice Ad nd cd] #[.int .i64 k, .int .i64 p] #[.int .i64 co, .slice Al nl cl, .slice Ap np cp] F (allOf m) k2 s)
     case atStart => exact ⟨0, S, rfl, Nat.zero_le _, rfl, HTO, HBX7, HA7, HBF, HBL7⟩
     case round =>
      clear HTO HBX7 HA7 HBF HBL7
      obtain ⟨j, S2, rfl, hj, rfl, hMT, hbx, hA, hX, hbl⟩ := hrel
      by_cases hj2 : j < 9
      ·obtain ⟨a, ha⟩ : ∃ a, S2[j]? = some a := ⟨_, List.getElem?_eq_getElem (by rw [hMT.out.1]; exact hj2)⟩
       obtain ⟨b, hb⟩ : ∃ b, (F s)[j]? = some b := ⟨_, List.getElem?_eq_getElem (by rw [HF9.out]; exact hj2)⟩
       have ea := (hA.out.cell j).trans (boolsV_get ha)
       have eb := (hX.out.cell j).trans (boolsV_get hb)
       have fa := hA.out.frozen j
       have HMT := Lib.hid (hMT.out.step hj2 ha hb)
       have HA3 : Hid (Blk (wr.setCell ⟨ab, j, none⟩ (.bool (a || b))) ab 82 (boolsV (S2.set j (a || b))).toArray) := by unfold Hid; rw [← boolsV_setA]; exact hA.out.set j _
       have HX3 := Lib.hid (hX.out.far (p := ⟨ab, j, none⟩) hne (.bool (a || b)))
       have HB3 := Lib.hid (hbx.out.far (p := ⟨ab, j, none⟩) (by simp; omega) (.bool (a || b)))
       have HBL3 := Lib.hid (hbl.out.setCell (p := ⟨ab, j, none⟩) (by simp; omega) (.bool (a || b)))
       have hj3 : (j : Int) < 9 := by omega
       clear ha hb hMT hbx hA hX hbl
       rcases a with _ | _
       ·simp only [Bool.false_or] at HA3 HX3 HB3 HBL3 HMT
        go_wp2_with fail
        go_roundg (9 - (j + 1))
        case rel => exact ⟨j + 1, _, by go_num, by omega, rfl, HMT, HB3, HA3, HX3, HBL3⟩
        case measure => omega
       ·simp only [Bool.true_or] at HA3 HX3 HB3 HBL3 HMT
        go_wp2_with fail
        go_roundg (9 - (j + 1))
        case rel => exact ⟨j + 1, _, by go_num, by omega, rfl, HMT, HB3, HA3, HX3, HBL3⟩
        case measure => omega
      ·obtain rfl : j = 9 := by omega
       have hii : decide ((9 : Int) < 9) = false := by decide
       have HMN := Lib.hid (hMT.out.done HS.out (HNB.out H7.out))
       go_wp2_with fail
       go_roundg (kR - (k2 + 1))
       case rel => exact ⟨k2 + 1, _, _, by go_num, rfl, by omega, rfl, HMN, hbx, hA, hbl⟩
       case measure => omega
  ·obtain rfl : k2 = kR := by omega
   have hii : decide (k2 < k2) = false := by simp
   have hS9 := hMF.out.1
   have HO := Lib.hid (HMay.out S nb (by rw [HLR.out]; exact hMF.out))
   have HA3 : Hid (Blk (wr.setCell ⟨ab, 7, none⟩ (.bool nb)) ab 82 (boolsV (S.set 7 nb)).toArray) := by unfold Hid; rw [← boolsV_setA]; exact hA.out.set 7 _
   have HBL3 := Lib.hid (hbx.out.bl.setCell (p := ⟨ab, 7, none⟩) (by simp; omega) (.bool nb))
   have ea : ∃ v, wr.cell? ⟨ab, 7, none⟩ = some v := by
    obtain ⟨a, ha⟩ : ∃ a, S[7]? = some a := ⟨_, List.getElem?_eq_getElem (by rw [hS9]; decide)⟩
    exact ⟨_, (hA.out.cell 7).trans (boolsV_get ha)⟩
   obtain ⟨va, ea⟩ := ea
   have fa := hA.out.frozen 7
   obtain ⟨u0, u1, u2, u3, u4, u5, u6, u7, u8, h9⟩ := nine (show (S.set 7 nb).length = 9 by rw [List.length_set]; exact hS9)
   rw [h9] at HA3 HO
   clear h9 hS9 hMF hA hbx
   go_upto_region 16 with (fail)
   generalize World.setCell wr _ _ = wf at *
   have e0 : wf.cell? ⟨ab, 0, none⟩ = some (.bool u0) := HA3.out.cell 0
   have e1 : wf.cell? ⟨ab, 1, none⟩ = some (.bool u1) := HA3.out.cell 1
   have e2 : wf.cell? ⟨ab, 2, none⟩ = some (.bool u2) := HA3.out.cell 2
   have e3 : wf.cell? ⟨ab, 3, none⟩ = some (.bool u3) := HA3.out.cell 3
   have e4 : wf.cell? ⟨ab, 4, none⟩ = some (.bool u4) := HA3.out.cell 4
   have e5 : wf.cell? ⟨ab, 5, none⟩ = some (.bool u5) := HA3.out.cell 5
   have e6 : wf.cell? ⟨ab, 6, none⟩ = some (.bool u6) := HA3.out.cell 6
   have e7 : wf.cell? ⟨ab, 7, none⟩ = some (.bool u7) := HA3.out.cell 7
   have e8 : wf.cell? ⟨ab, 8, none⟩ = some (.bool u8) := HA3.out.cell 8
   go_wp2_with fail
   refine (rlist_any u0 u1 u2 u3 u4 u5 u6 u7 u8 wf).mono ?_
   rintro e w9 ⟨A, ca, rfl, hO, hb9⟩
   go_wp2_with fail
   go_ret2
   exact ⟨.inr ⟨H1.out, A, _, ca, x, _, HX.out, rfl, hO.out.mono HBL3.out.size, HO⟩, HBL3.out.trans (hb9.out.mono HBL3.out.size)⟩
end Go.Proofs.YtnpfkiidhidjbaaGreatDoor
/-
 The reference of layer 13: walks of Witness, Fault, Safe.
-/
namespace Go.Proofs.YtnpfkiidhidjbaaGreatDoor
open Go.RowKit
set_option maxRecDepth 20000 in
theorem run_idx9 {u0 u1 u2 u3 u4 u5 u6 u7 u8 b : Bool} {j : Nat} (h : [u0, u1, u2, u3, u4, u5, u6, u7, u8][j]? = some b) (w : World) : (Instr.index 82 (.agg #[.bool u0, .bool u1, .bool u2, .bool u3, .bool u4, .bool u5, .bool u6, .bool u7, .bool u8]) (.int .i64 j)).run Tryz.prog w = .ok (.bool b) w := by
 rcases j with _ | _ | _ | _ | _ | _ | _ | _ | _ | j
 all_goals first | (simp only [List.getElem?_cons_zero, List.getElem?_cons_succ, Option.some.injEq] at h; subst h; kernel_rfl) | simp at h
set_option maxRecDepth 100000 in
set_option maxHeartbeats 8000000 in
theorem rWit_any (An Ad As Al Ap : Option Addr) (nn cn nd cd n c nl cl np cp : Nat) (ns : List Nd) (ds : List Dv) (m : List Int) (ls : List Lk) (pr : List Int) (d p co h : Int) (w : World) (hm : HzMem w An Ad As Al Ap nn cn nd cd n c nl cl np cp ns ds m ls pr) :
  Calls Tryz.prog 24 #[.agg #[.slice An nn cn, .slice Ad nd cd], .slice As n c, .agg #[.int .i64 d, .int .i64 p], .agg #[.int .i64 co, .slice Al nl cl, .slice Ap np cp], .int .i64 h] w (WitPost w ns ds m d p co ls pr h) := by
 obtain ⟨hln, hld, hls⟩ := hm.ln
 subst hln
 have HB := Lib.hid (Bx3.new w #[.slice An ns.length cn, .slice Ad nd cd] #[.int .i64 d, .int .i64 p] #[.int .i64 co, .slice Al nl cl, .slice Ap np cp])
 have HH := Lib.hid hm
 clear hm
 go_enter Tryz.func24, Tryz.ntmps24
 go_wp2_with fail
 generalize World.alloc (World.alloc (World.alloc w _) _) _ = W at *
 have HM := Lib.hid (HH.out.below HB.out.bl)
 refine (rsts_any An Ad As Al Ap ns.length cn nd cd n c nl cl np cp ns ds m ls pr d p co W HM.out).mono ?_
 rintro e w1 ⟨⟨h1, rfl⟩ | ⟨h1, AR, kR, cR, rfl, hR⟩, hb1⟩
 ·have H1 := Lib.hid h1
  have q : (stsErr ns ds m d p co != 0) = true := by simpa using h1
  have HB1 := Lib.hid (HB.out.later hb1.out)
  clear h1 hb1 HB HM
  go_wp2_with fail
  go_ret3
  exact ⟨.inl ⟨H1.out, rfl⟩, HB1.out.bl⟩
 have HB1 := Lib.hid (HB.out.later hb1.out)
 have HM1 := Lib.hid (HH.out.below HB1.out.bl)
 have H1 := Lib.hid h1
 have HLR := Lib.hid hR.out.len
 have hRl := hR.out.le
 obtain ⟨hmk, hze, hce⟩ := stsErr_ok h1
 obtain ⟨hd, hp, hco⟩ := hzErr_ok hze
 have HMK := Lib.hid hmk
 have HPP := Lib.hid hp
 obtain ⟨k, rfl⟩ := Int.eq_ofNat_of_zero_le hd.1
 have hk : k < ds.length := by omega
 obtain ⟨x, hx⟩ : ∃ x, ds[k]? = some x := ⟨_, List.getElem?_eq_getElem hk⟩
 have HX := Lib.hid hx
 clear HB HM hb1 hce hmk hze hx h1 hp hd
 have hz1 := HB1.out.bl.size
 go_wp2_with fail
 go_loopg [15] kR (WiR w1 (fun i => ∀ t ∈ (allOf m).take i, h ∉ hzAt ns.length ns ds t k p co ls pr x) kR)
 case atStart => exact ⟨0, rfl, Nat.zero_le _, rfl, Below.refl _ _, (fun t ht => by simp at ht)⟩
 case round =>
  obtain ⟨kk, rfl, hkk, rfl, hbl, hno⟩ := hrel
  by_cases hlt : kk < kR
  ·obtain ⟨br, ofr, s, As2, cs2, rfl, hbr, hs, hcr, hsr⟩ := (hR.out.below hbl.out (Nat.le_refl _)).at hlt
   have HSE : Hid (stateErr ns ds s = 0) := state_of_mask HMK.out (List.mem_of_getElem? hs)
   have HS := Lib.hid hs
   have HBr := Lib.hid (HB1.out.later hbl.out)
   have HMr := Lib.hid (HM1.out.below hbl.out)
   have HSR := Lib.hid (hsr.more hbl.out.size)
   have hz := hbl.out.size
   have hbr2 : br < wr.heap.size := by omega
   have HC : Hid (∀ W', Below wr.heap.size wr W' → ((W'.cell? ⟨w.heap.size, 0, none⟩ = some (.slice An ns.length cn) ∧ W'.cell? ⟨w.heap.size, 1, none⟩ = some (.slice Ad nd cd)) ∧ (W'.cell? ⟨w.heap.size + 1, 0, none⟩ = some (.int .i64 k) ∧ W'.cell? ⟨w.heap.size + 1, 1, none⟩ = some (.int .i64 p)) ∧ W'.cell? ⟨w.heap.size + 2, 0, none⟩ = some (.int .i64 co) ∧ W'.cell? ⟨w.heap.size + 2, 1, none⟩ = some (.slice Al nl cl) ∧ W'.cell? ⟨w.heap.size + 2, 2, none⟩ = some (.slice Ap np cp)) ∧ W'.cell? ⟨br, ofr + kk, none⟩ = some (.slice As2 s.length cs2)) := fun W' hb => ⟨(HBr.out.later hb).cells, (hb.cell (p := ⟨br, ofr + kk, none⟩) hbr2).trans hcr⟩
   have HSW := Lib.hid (fun W' (hb : Below wr.heap.size wr W') => (HSR.out.below hb (Nat.le_refl _)).more hb.size)
   clear hs hsr hcr hbr HSR
   go_upto_region 7 with (fail)
   by_cases h0 : 0 < h; rotate_left
   ·have q0 : decide (0 < h) = false := by simpa using h0
    have HN1 : Hid (∀ t ∈ (allOf m).take (kk + 1), h ∉ hzAt ns.length ns ds t k p co ls pr x) := fun t ht => by
     rw [take_snoc HS.out] at ht
     rcases List.mem_append.1 ht with h1 | h1
     ·exact hno.out t h1
     ·rw [List.mem_singleton.1 h1]; exact (fun e => by have := hzAt_range e; omega)
    have HBN : Hid (Below w1.heap.size w1 wr.drew) := hbl.out.drew
    clear h0
    refine wp_region_ord (S := fun W' => Below wr.heap.size wr W') (J := []) (n := _) ((0, true) :: (1, true) :: (2, true) :: (3, true) :: (4, true) :: (5, true) :: (6, true) :: (7, true) :: (8, true) :: (9, true) :: (10, true) :: (11, true) :: (12, true) :: (13, true) :: (14, true) :: (15, true) :: (16, true) :: (17, true) :: []) (by as_aux_lemma => kernel_rfl) (by rfl) (base_cons (k := 4) (by go_simp; rfl) base_nil) ?_ (fun _ _ _ _ _ h => h) (fun Q2 A hsz hbase hn2 hHeld => ?_)
    ·exact (Below.refl _ _).drew
    try dsimp only at hHeld
    obtain ⟨b4, -⟩ := hbase
    refine ord_move (i := 0) (d := 33) (v := ?_) rfl rfl rfl (wanted_none rfl) hHeld (fun ρ hρ => ?_) ?_
    rotate_left
    ·(have e4 := Eq.trans (hρ.tmp hsz 4 rfl) (lkp_base b4); exact e4)
    show wpOrd _ _ _ _ _ _ _ _
    refine ord_take (i := 1) (d := 34) (v := ?_) rfl rfl (wanted_none rfl) hHeld (fun ρ hρ w hSw => ?_) ?_
    rotate_left
    ·(have hc := hρ.const; have e33 := Eq.trans (hρ.tmp hsz 33 rfl) lkp_hit; clear hρ; (try dsimp only at hSw); go_simp; try with_reducible rfl)
    show wpOrd _ _ _ _ _ _ _ _
    refine ord_move (i := 2) (d := 35) (v := ?_) rfl rfl rfl (wanted_none rfl) hHeld (fun ρ hρ => ?_) ?_
    rotate_left
    ·(have e34 := Eq.trans (hρ.tmp hsz 34 rfl) lkp_hit; exact e34)
    show wpOrd _ _ _ _ _ _ _ _
    refine ord_skip (i := 3) (d := 36) rfl rfl (wanted_no (j := 2) (dj := 35) (b := true) (b' := false) rfl hsz rfl rfl rfl lkp_hit rfl) hHeld ?_
    show wpOrd _ _ _ _ _ _ _ _
    refine ord_skip (i := 4) (d := 37) rfl rfl (wanted_no (j := 2) (dj := 35) (b := true) (b' := false) rfl hsz rfl rfl rfl (miss1 rfl lkp_hit) rfl) hHeld ?_
    show wpOrd _ _ _ _ _ _ _ _
    refine ord_take (i := 5) (d := 38) (v := ?_) rfl rfl (wanted_none rfl) hHeld (fun ρ hρ w hSw => ?_) ?_
    rotate_left
    ·(have hc := hρ.const; have e35 := Eq.trans (hρ.tmp hsz 35 rfl) (miss1 rfl (miss1 rfl lkp_hit)); have e37 := Eq.trans (hρ.tmp hsz 37 rfl) lkp_hit; clear hρ; (try dsimp only at hSw); go_simp; try with_reducible rfl)
    show wpOrd _ _ _ _ _ _ _ _
    refine ord_move (i := 6) (d := 39) (v := ?_) rfl rfl rfl (wanted_none rfl) hHeld (fun ρ hρ => ?_) ?_
    rotate_left
    ·(have e38 := Eq.trans (hρ.tmp hsz 38 rfl) lkp_hit; exact e38)
    show wpOrd _ _ _ _ _ _ _ _
    refine ord_skip (i := 7) (d := 40) rfl rfl (wanted_no (j := 6) (dj := 39) (b := true) (b' := false) rfl hsz rfl rfl rfl lkp_hit rfl) hHeld ?_
    show wpOrd _ _ _ _ _ _ _ _
    refine ord_skip (i := 8) (d := 41) rfl rfl (wanted_no (j := 6) (dj := 39) (b := true) (b' := false) rfl hsz rfl rfl rfl (miss1 rfl lkp_hit) rfl) hHeld ?_
    show wpOrd _ _ _ _ _ _ _ _
    refine ord_skip (i := 9) (d := 42) rfl rfl (wanted_no (j := 6) (dj := 39) (b := true) (b' := false) rfl hsz rfl rfl rfl (miss1 rfl (miss1 rfl lkp_hit)) rfl) hHeld ?_
    show wpOrd _ _ _ _ _ _ _ _
    refine ord_skip (i := 10) (d := 43) rfl rfl (wanted_no (j := 6) (dj := 39) (b := true) (b' := false) rfl hsz rfl rfl rfl (miss1 rfl (miss1 rfl (miss1 rfl lkp_hit))) rfl) hHeld ?_
    show wpOrd _ _ _ _ _ _ _ _
    refine ord_skip (i := 11) (d := 44) rfl rfl (wanted_no (j := 6) (dj := 39) (b := true) (b' := false) rfl hsz rfl rfl rfl (miss4 rfl rfl rfl rfl lkp_hit) rfl) hHeld ?_
    show wpOrd _ _ _ _ _ _ _ _
    refine ord_skip (i := 12) (d := 45) rfl rfl (wanted_no (j := 6) (dj := 39) (b := true) (b' := false) rfl hsz rfl rfl rfl (miss4 rfl rfl rfl rfl (miss1 rfl lkp_hit)) rfl) hHeld ?_
    show wpOrd _ _ _ _ _ _ _ _
    refine ord_skip (i := 13) (d := 46) rfl rfl (wanted_no (j := 6) (dj := 39) (b := true) (b' := false) rfl hsz rfl rfl rfl (miss4 rfl rfl rfl rfl (miss1 rfl (miss1 rfl lkp_hit))) rfl) hHeld ?_
    show wpOrd _ _ _ _ _ _ _ _
    refine ord_skip (i := 14) (d := 47) rfl rfl (wanted_no (j := 6) (dj := 39) (b := true) (b' := false) rfl hsz rfl rfl rfl (miss4 rfl rfl rfl rfl (miss1 rfl (miss1 rfl (miss1 rfl lkp_hit)))) rfl) hHeld ?_
    show wpOrd _ _ _ _ _ _ _ _
    refine ord_skip (i := 15) (d := 48) rfl rfl (wanted_no (j := 6) (dj := 39) (b := true) (b' := false) rfl hsz rfl rfl rfl (miss4 rfl rfl rfl rfl (miss4 rfl rfl rfl rfl lkp_hit)) rfl) hHeld ?_
    show wpOrd _ _ _ _ _ _ _ _
    refine ord_skip (i := 16) (d := 49) rfl rfl (wanted_no (j := 6) (dj := 39) (b := true) (b' := false) rfl hsz rfl rfl rfl (miss4 rfl rfl rfl rfl (miss4 rfl rfl rfl rfl (miss1 rfl lkp_hit))) rfl) hHeld ?_
    show wpOrd _ _ _ _ _ _ _ _
    refine ord_take (i := 17) (d := 50) (v := ?_) rfl rfl (wanted_none rfl) hHeld (fun ρ hρ w hSw => ?_) ?_
    rotate_left
    ·(have hc := hρ.const; have e39 := Eq.trans (hρ.tmp hsz 39 rfl) (miss4 rfl rfl rfl rfl (miss4 rfl rfl rfl rfl (miss1 rfl (miss1 rfl lkp_hit)))); have e49 := Eq.trans (hρ.tmp hsz 49 rfl) lkp_hit; clear hρ; (try dsimp only at hSw); go_simp; try with_reducible rfl)
    show wpOrd _ _ _ _ _ _ _ _
    refine ord_done hn2 ?_
    clear hHeld hn2 b4 hsz A Q2
    simp only [puts_nil, puts_cons, put_lit, set_1, set_0]
    go_wp2_with fail
    go_roundg (kR - (kk + 1))
    case rel => exact ⟨kk + 1, by go_num, by omega, rfl, HBN, HN1⟩
    case measure => omega
   have q0 : decide (0 < h) = true := by simpa using h0
   by_cases h9 : h < 9; rotate_left
   ·have q9 : decide (h < 9) = false := by simpa using h9
    have HN1 : Hid (∀ t ∈ (allOf m).take (kk + 1), h ∉ hzAt ns.length ns ds t k p co ls pr x) := fun t ht => by
     rw [take_snoc HS.out] at ht
     rcases List.mem_append.1 ht with h1 | h1
     ·exact hno.out t h1
     ·rw [List.mem_singleton.1 h1]; exact (fun e => by have := hzAt_range e; omega)
    have HBN : Hid (Below w1.heap.size w1 wr.drew) := hbl.out.drew
    clear h0 h9
    refine wp_region_ord (S := fun W' => Below wr.heap.size wr W') (J := []) (n := _) ((0, true) :: (1, true) :: (2, true) :: (3, true) :: (4, true) :: (5, true) :: (6, true) :: (7, true) :: (8, true) :: (9, true) :: (10, true) :: (11, true) :: (12, true) :: (13, true) :: (14, true) :: (15, true) :: (16, true) :: (17, true) :: []) (by as_aux_lemma => kernel_rfl) (by rfl) (base_cons (k := 4) (by go_simp; rfl) base_nil) ?_ (fun _ _ _ _ _ h => h) (fun Q2 A hsz hbase hn2 hHeld => ?_)
    ·exact (Below.refl _ _).drew
    try dsimp only at hHeld
    obtain ⟨b4, -⟩ := hbase
    refine ord_move (i := 0) (d := 33) (v := ?_) rfl rfl rfl (wanted_none rfl) hHeld (fun ρ hρ => ?_) ?_
    rotate_left
    ·(have e4 := Eq.trans (hρ.tmp hsz 4 rfl) (lkp_base b4); exact e4)
    show wpOrd _ _ _ _ _ _ _ _
    refine ord_take (i := 1) (d := 34) (v := ?_) rfl rfl (wanted_none rfl) hHeld (fun ρ hρ w hSw => ?_) ?_
    rotate_left
    ·(have hc := hρ.const; have e33 := Eq.trans (hρ.tmp hsz 33 rfl) lkp_hit; clear hρ; (try dsimp only at hSw); go_simp; try with_reducible rfl)
    show wpOrd _ _ _ _ _ _ _ _
    refine ord_move (i := 2) (d := 35) (v := ?_) rfl rfl rfl (wanted_none rfl) hHeld (fun ρ hρ => ?_) ?_
    rotate_left
    ·(have e34 := Eq.trans (hρ.tmp hsz 34 rfl) lkp_hit; exact e34)
    show wpOrd _ _ _ _ _ _ _ _
    refine ord_move (i := 3) (d := 36) (v := ?_) rfl rfl rfl (wanted_yes (j := 2) (dj := 35) (b := true) rfl hsz rfl rfl rfl lkp_hit) hHeld (fun ρ hρ => ?_) ?_
    rotate_left
    ·(have e4 := Eq.trans (hρ.tmp hsz 4 rfl) (miss1 rfl (miss1 rfl (miss1 rfl (lkp_base b4)))); exact e4)
    show wpOrd _ _ _ _ _ _ _ _
    refine ord_take (i := 4) (d := 37) (v := ?_) rfl rfl (wanted_yes (j := 2) (dj := 35) (b := true) rfl hsz rfl rfl rfl (miss1 rfl lkp_hit)) hHeld (fun ρ hρ w hSw => ?_) ?_
    rotate_left
    ·(have hc := hρ.const; have e36 := Eq.trans (hρ.tmp hsz 36 rfl) lkp_hit; clear hρ; (try dsimp only at hSw); go_simp; try with_reducible rfl)
    show wpOrd _ _ _ _ _ _ _ _
    refine ord_take (i := 5) (d := 38) (v := ?_) rfl rfl (wanted_none rfl) hHeld (fun ρ hρ w hSw => ?_) ?_
    rotate_left
    ·(have hc := hρ.const; have e35 := Eq.trans (hρ.tmp hsz 35 rfl) (miss1 rfl (miss1 rfl lkp_hit)); have e37 := Eq.trans (hρ.tmp hsz 37 rfl) lkp_hit; clear hρ; (try dsimp only at hSw); go_simp; try with_reducible rfl)
    show wpOrd _ _ _ _ _ _ _ _
    refine ord_move (i := 6) (d := 39) (v := ?_) rfl rfl rfl (wanted_none rfl) hHeld (fun ρ hρ => ?_) ?_
    rotate_left
    ·(have e38 := Eq.trans (hρ.tmp hsz 38 rfl) lkp_hit; exact e38)
    show wpOrd _ _ _ _ _ _ _ _
    refine ord_skip (i := 7) (d := 40) rfl rfl (wanted_no (j := 6) (dj := 39) (b := true) (b' := false) rfl hsz rfl rfl rfl lkp_hit rfl) hHeld ?_
    show wpOrd _ _ _ _ _ _ _ _
    refine ord_skip (i := 8) (d := 41) rfl rfl (wanted_no (j := 6) (dj := 39) (b := true) (b' := false) rfl hsz rfl rfl rfl (miss1 rfl lkp_hit) rfl) hHeld ?_
    show wpOrd _ _ _ _ _ _ _ _
    refine ord_skip (i := 9) (d := 42) rfl rfl (wanted_no (j := 6) (dj := 39) (b := true) (b' := false) rfl hsz rfl rfl rfl (miss1 rfl (miss1 rfl lkp_hit)) rfl) hHeld ?_
    show wpOrd _ _ _ _ _ _ _ _
    refine ord_skip (i := 10) (d := 43) rfl rfl (wanted_no (j := 6) (dj := 39) (b := true) (b' := false) rfl hsz rfl rfl rfl (miss1 rfl (miss1 rfl (miss1 rfl lkp_hit))) rfl) hHeld ?_
    show wpOrd _ _ _ _ _ _ _ _
    refine ord_skip (i := 11) (d := 44) rfl rfl (wanted_no (j := 6) (dj := 39) (b := true) (b' := false) rfl hsz rfl rfl rfl (miss4 rfl rfl rfl rfl lkp_hit) rfl) hHeld ?_
    show wpOrd _ _ _ _ _ _ _ _
    refine ord_skip (i := 12) (d := 45) rfl rfl (wanted_no (j := 6) (dj := 39) (b := true) (b' := false) rfl hsz rfl rfl rfl (miss4 rfl rfl rfl rfl (miss1 rfl lkp_hit)) rfl) hHeld ?_
    show wpOrd _ _ _ _ _ _ _ _
    refine ord_skip (i := 13) (d := 46) rfl rfl (wanted_no (j := 6) (dj := 39) (b := true) (b' := false) rfl hsz rfl rfl rfl (miss4 rfl rfl rfl rfl (miss1 rfl (miss1 rfl lkp_hit))) rfl) hHeld ?_
    show wpOrd _ _ _ _ _ _ _ _
    refine ord_skip (i := 14) (d := 47) rfl rfl (wanted_no (j := 6) (dj := 39) (b := true) (b' := false) rfl hsz rfl rfl rfl (miss4 rfl rfl rfl rfl (miss1 rfl (miss1 rfl (miss1 rfl lkp_hit)))) rfl) hHeld ?_
    show wpOrd _ _ _ _ _ _ _ _
    refine ord_skip (i := 15) (d := 48) rfl rfl (wanted_no (j := 6) (dj := 39) (b := true) (b' := false) rfl hsz rfl rfl rfl (miss4 rfl rfl rfl rfl (miss4 rfl rfl rfl rfl lkp_hit)) rfl) hHeld ?_
    show wpOrd _ _ _ _ _ _ _ _
    refine ord_skip (i := 16) (d := 49) rfl rfl (wanted_no (j := 6) (dj := 39) (b := true) (b' := false) rfl hsz rfl rfl rfl (miss4 rfl rfl rfl rfl (miss4 rfl rfl rfl rfl (miss1 rfl lkp_hit))) rfl) hHeld ?_
    show wpOrd _ _ _ _ _ _ _ _
    refine ord_take (i := 17) (d := 50) (v := ?_) rfl rfl (wanted_none rfl) hHeld (fun ρ hρ w hSw => ?_) ?_
    rotate_left
    ·(have hc := hρ.const; have e39 := Eq.trans (hρ.tmp hsz 39 rfl) (miss4 rfl rfl rfl rfl (miss4 rfl rfl rfl rfl (miss1 rfl (miss1 rfl lkp_hit)))); have e49 := Eq.trans (hρ.tmp hsz 49 rfl) lkp_hit; clear hρ; (try dsimp only at hSw); go_simp; try with_reducible rfl)
    show wpOrd _ _ _ _ _ _ _ _
    refine ord_done hn2 ?_
    clear hHeld hn2 b4 hsz A Q2
    simp only [puts_nil, puts_cons, put_lit, set_1, set_0]
    go_wp2_with fail
    go_roundg (kR - (kk + 1))
    case rel => exact ⟨kk + 1, by go_num, by omega, rfl, HBN, HN1⟩
    case measure => omega
   have q9 : decide (h < 9) = true := by simpa using h9
   obtain ⟨hh, rfl⟩ := Int.eq_ofNat_of_zero_le (Int.le_of_lt h0)
   have hh9 : hh < 9 := by omega
   have hh9i : (hh : Int) < 9 := by omega
   have q0n : decide (0 < hh) = true := by have : 0 < hh := by omega
                                           simpa using this
   have q9n : decide (hh < 9) = true := by simpa using hh9
   obtain ⟨u0, u1, u2, u3, u4, u5, u6, u7, u8, hFs⟩ := nine (hzF_len ns.length ns ds s k p co ls pr x)
   obtain ⟨b, hb⟩ : ∃ b, (hzF ns.length ns ds s k p co ls pr x)[hh]? = some b := ⟨_, List.getElem?_eq_getElem (by rw [hzF_len]; exact hh9)⟩
   have HIF : Hid (b = true ↔ (hh : Int) ∈ hzAt ns.length ns ds s k p co ls pr x) := by unfold Hid; rw [← hzF_mem, hb]; simp
   rw [hFs] at hb
   have hu9 := fun w => run_idx9 hb w
   have HFS := Lib.hid hFs
   clear hFs hb h0 h9
   refine wp_region_ord (S := fun W' => Below wr.heap.size wr W') (J := []) (n := _) ((0, true) :: (1, true) :: (2, true) :: (3, true) :: (4, true) :: (5, true) :: (6, true) :: (8, true) :: (9, true) :: (10, true) :: (15, true) :: (7, true) :: (11, true) :: (12, true) :: (13, true) :: (14, false) :: (16, true) :: (17, true) :: []) (by as_aux_lemma => kernel_rfl) (by rfl) (base_cons (k := 4) (by go_simp; rfl) (base_cons (k := 13) (by go_simp; rfl) (base_cons (k := 15) (by go_simp; rfl) (base_cons (k := 5) (by go_simp; rfl) (base_cons (k := 7) (by go_simp; rfl) (base_cons (k := 8) (by go_simp; rfl) base_nil)))))) ?_ (fun _ _ _ _ _ h => h) (fun Q2 A hsz hbase hn2 hHeld => ?_)
   ·exact (Below.refl _ _).drew
   try dsimp only at hHeld
   obtain ⟨b4, b13, b15, b5, b7, b8, -⟩ := hbase
   refine ord_move (i := 0) (d := 33) (v := ?_) rfl rfl rfl (wanted_none rfl) hHeld (fun ρ hρ => ?_) ?_
   rotate_left
   ·(have e4 := Eq.trans (hρ.tmp hsz 4 rfl) (lkp_base b4); exact e4)
   show wpOrd _ _ _ _ _ _ _ _
   refine ord_take (i := 1) (d := 34) (v := ?_) rfl rfl (wanted_none rfl) hHeld (fun ρ hρ w hSw => ?_) ?_
   rotate_left
   ·(have hc := hρ.const; have e33 := Eq.trans (hρ.tmp hsz 33 rfl) lkp_hit; clear hρ; (try dsimp only at hSw); go_simp; try with_reducible rfl)
   show wpOrd _ _ _ _ _ _ _ _
   refine ord_move (i := 2) (d := 35) (v := ?_) rfl rfl rfl (wanted_none rfl) hHeld (fun ρ hρ => ?_) ?_
   rotate_left
   ·(have e34 := Eq.trans (hρ.tmp hsz 34 rfl) lkp_hit; exact e34)
   show wpOrd _ _ _ _ _ _ _ _
   refine ord_move (i := 3) (d := 36) (v := ?_) rfl rfl rfl (wanted_yes (j := 2) (dj := 35) (b := true) rfl hsz rfl rfl rfl lkp_hit) hHeld (fun ρ hρ => ?_) ?_
   rotate_left
   ·(have e4 := Eq.trans (hρ.tmp hsz 4 rfl) (miss1 rfl (miss1 rfl (miss1 rfl (lkp_base b4)))); exact e4)
   show wpOrd _ _ _ _ _ _ _ _
   refine ord_take (i := 4) (d := 37) (v := ?_) rfl rfl (wanted_yes (j := 2) (dj := 35) (b := true) rfl hsz rfl rfl rfl (miss1 rfl lkp_hit)) hHeld (fun ρ hρ w hSw => ?_) ?_
   rotate_left
   ·(have hc := hρ.const; have e36 := Eq.trans (hρ.tmp hsz 36 rfl) lkp_hit; clear hρ; (try dsimp only at hSw); go_simp; try with_reducible rfl)
   show wpOrd _ _ _ _ _ _ _ _
   refine ord_take (i := 5) (d := 38) (v := ?_) rfl rfl (wanted_none rfl) hHeld (fun ρ hρ w hSw => ?_) ?_
   rotate_left
   ·(have hc := hρ.const; have e35 := Eq.trans (hρ.tmp hsz 35 rfl) (miss1 rfl (miss1 rfl lkp_hit)); have e37 := Eq.trans (hρ.tmp hsz 37 rfl) lkp_hit; clear hρ; (try dsimp only at hSw); go_simp; try with_reducible rfl)
   show wpOrd _ _ _ _ _ _ _ _
   refine ord_move (i := 6) (d := 39) (v := ?_) rfl rfl rfl (wanted_none rfl) hHeld (fun ρ hρ => ?_) ?_
   rotate_left
   ·(have e38 := Eq.trans (hρ.tmp hsz 38 rfl) lkp_hit; exact e38)
   show wpOrd _ _ _ _ _ _ _ _
   refine ord_move (i := 8) (d := 41) (v := ?_) rfl rfl rfl (wanted_yes (j := 6) (dj := 39) (b := true) rfl hsz rfl rfl rfl lkp_hit) hHeld (fun ρ hρ => ?_) ?_
   rotate_left
   ·(have e13 := Eq.trans (hρ.tmp hsz 13 rfl) (miss4 rfl rfl rfl rfl (miss1 rfl (miss1 rfl (miss1 rfl (lkp_base b13))))); exact e13)
   show wpOrd _ _ _ _ _ _ _ _
   refine ord_move (i := 9) (d := 42) (v := ?_) rfl rfl rfl (wanted_yes (j := 6) (dj := 39) (b := true) rfl hsz rfl rfl rfl (miss1 rfl lkp_hit)) hHeld (fun ρ hρ => ?_) ?_
   rotate_left
   ·(have e15 := Eq.trans (hρ.tmp hsz 15 rfl) (miss4 rfl rfl rfl rfl (miss4 rfl rfl rfl rfl (lkp_base b15))); exact e15)
   show wpOrd _ _ _ _ _ _ _ _
   refine ord_take (i := 10) (d := 43) (v := ?_) rfl rfl (wanted_yes (j := 6) (dj := 39) (b := true) rfl hsz rfl rfl rfl (miss1 rfl (miss1 rfl lkp_hit))) hHeld (fun ρ hρ w hSw => ?_) ?_
   rotate_left
   ·(have e41 := Eq.trans (hρ.tmp hsz 41 rfl) (miss1 rfl lkp_hit); have e42 := Eq.trans (hρ.tmp hsz 42 rfl) lkp_hit; clear hρ; (try dsimp only at hSw); go_simp; try with_reducible rfl)
   show wpOrd _ _ _ _ _ _ _ _
   refine ord_move (i := 15) (d := 48) (v := ?_) rfl rfl rfl (wanted_yes (j := 6) (dj := 39) (b := true) rfl hsz rfl rfl rfl (miss1 rfl (miss1 rfl (miss1 rfl lkp_hit)))) hHeld (fun ρ hρ => ?_) ?_
   rotate_left
   ·(have e4 := Eq.trans (hρ.tmp hsz 4 rfl) (miss4 rfl rfl rfl rfl (miss4 rfl rfl rfl rfl (miss1 rfl (miss1 rfl (lkp_base b4))))); exact e4)
   show wpOrd _ _ _ _ _ _ _ _
   refine ord_take (i := 7) (d := 40) (v := ?_) rfl rfl (wanted_yes (j := 6) (dj := 39) (b := true) rfl hsz rfl rfl rfl (miss4 rfl rfl rfl rfl lkp_hit)) hHeld (fun ρ hρ w hSw => ?_) ?_
   rotate_left
   ·(have e5 := Eq.trans (hρ.tmp hsz 5 rfl) (miss4 rfl rfl rfl rfl (miss4 rfl rfl rfl rfl (miss1 rfl (miss1 rfl (miss1 rfl (lkp_base b5)))))); clear hρ; (try dsimp only at hSw); have q := HC.out _ hSw; have k0 := q.1.1.1; have k1 := q.1.1.2; clear q hSw; go_simp; try with_reducible rfl)
   show wpOrd _ _ _ _ _ _ _ _
   refine ord_take (i := 11) (d := 44) (v := ?_) rfl rfl (wanted_yes (j := 6) (dj := 39) (b := true) rfl hsz rfl rfl rfl (miss4 rfl rfl rfl rfl (miss1 rfl lkp_hit))) hHeld (fun ρ hρ w hSw => ?_) ?_
   rotate_left
   ·(have e43 := Eq.trans (hρ.tmp hsz 43 rfl) (miss1 rfl (miss1 rfl lkp_hit)); clear hρ; (try dsimp only at hSw); have q := HC.out _ hSw; have k0 := q.2; clear q hSw; go_simp; try with_reducible rfl)
   show wpOrd _ _ _ _ _ _ _ _
   refine ord_take (i := 12) (d := 45) (v := ?_) rfl rfl (wanted_yes (j := 6) (dj := 39) (b := true) rfl hsz rfl rfl rfl (miss4 rfl rfl rfl rfl (miss1 rfl (miss1 rfl lkp_hit)))) hHeld (fun ρ hρ w hSw => ?_) ?_
   rotate_left
   ·(have e7 := Eq.trans (hρ.tmp hsz 7 rfl) (miss4 rfl rfl rfl rfl (miss4 rfl rfl rfl rfl (miss4 rfl rfl rfl rfl (miss1 rfl (lkp_base b7))))); clear hρ; (try dsimp only at hSw); have q := HC.out _ hSw; have k0 := q.1.2.1.1; have k1 := q.1.2.1.2; clear q hSw; go_simp; try with_reducible rfl)
   show wpOrd _ _ _ _ _ _ _ _
   refine ord_take (i := 13) (d := 46) (v := ?_) rfl rfl (wanted_yes (j := 6) (dj := 39) (b := true) rfl hsz rfl rfl rfl (miss4 rfl rfl rfl rfl (miss1 rfl (miss1 rfl (miss1 rfl lkp_hit))))) hHeld (fun ρ hρ w hSw => ?_) ?_
   rotate_left
   ·(have e8 := Eq.trans (hρ.tmp hsz 8 rfl) (miss4 rfl rfl rfl rfl (miss4 rfl rfl rfl rfl (miss4 rfl rfl rfl rfl (miss1 rfl (miss1 rfl (lkp_base b8)))))); clear hρ; (try dsimp only at hSw); have q := HC.out _ hSw; have k0 := q.1.2.2.1; have k1 := q.1.2.2.2.1; have k2 := q.1.2.2.2.2; clear q hSw; go_simp; try with_reducible rfl)
   show wpOrd _ _ _ _ _ _ _ _
   refine ord_call (i := 14) (d := 47) (vs := ?_) rfl rfl rfl (wanted_yes (j := 6) (dj := 39) (b := true) rfl hsz rfl rfl rfl (miss4 rfl rfl rfl rfl (miss4 rfl rfl rfl rfl lkp_hit))) (fun ρ hρ => ?_) ?_ ?_
   rotate_left
   ·(have e40 := Eq.trans (hρ.tmp hsz 40 rfl) (miss1 rfl (miss1 rfl (miss1 rfl lkp_hit))); have e44 := Eq.trans (hρ.tmp hsz 44 rfl) (miss1 rfl (miss1 rfl lkp_hit)); have e45 := Eq.trans (hρ.tmp hsz 45 rfl) (miss1 rfl lkp_hit); have e46 := Eq.trans (hρ.tmp hsz 46 rfl) lkp_hit; simp only [List.map_toArray, List.map_cons, List.map_nil, e40, e44, e45, e46]; try with_reducible rfl)
   ·(intro w; go_simp)
   refine (rhz_any An Ad As2 Al Ap ns.length cn nd cd s.length cs2 nl cl np cp k ns ds s ls pr p co x wr.drew ⟨HMr.out.hn, HMr.out.hd, (HSW.out _ (Below.refl _ _).drew), HMr.out.hl, HMr.out.hp, HMr.out.la.below (Below.refl _ _).drew (Nat.le_refl _), HMr.out.sn, HMr.out.sd⟩ HSE.out HX.out HPP.out).mono ?_
   rintro e w4 ⟨rfl, hb4⟩
   rw [HFS.out]
   have HBN : Hid (Below w1.heap.size w1 w4) := hbl.out.drew.trans (hb4.mono hbl.out.drew.size)
   have HB4 : Hid (Below wr.heap.size wr w4) := (Below.refl wr.heap.size wr).drew.trans (hb4.mono (Below.refl wr.heap.size wr).drew.size)
   simp only [boolsV, List.flatMap_cons, List.flatMap_nil, List.cons_append, List.nil_append]
   clear hb4
   refine ⟨_, rfl, fun _ => ?_, fun hHeld' => ?_⟩
   ·exact HB4.out
   replace hHeld := hHeld' rfl
   clear hHeld'
   try dsimp only at hHeld
   show wpOrd _ _ _ _ _ _ _ _
   refine ord_take (i := 16) (d := 49) (v := ?_) rfl rfl (wanted_yes (j := 6) (dj := 39) (b := true) rfl hsz rfl rfl rfl (miss4 rfl rfl rfl rfl (miss4 rfl rfl rfl rfl (miss1 rfl lkp_hit)))) hHeld (fun ρ hρ w hSw => ?_) ?_
   rotate_left
   ·(have e47 := Eq.trans (hρ.tmp hsz 47 rfl) lkp_hit; have e48 := Eq.trans (hρ.tmp hsz 48 rfl) (miss4 rfl rfl rfl rfl (miss1 rfl lkp_hit)); clear hρ; (try dsimp only at hSw); go_simp; try with_reducible rfl)
   show wpOrd _ _ _ _ _ _ _ _
   refine ord_take (i := 17) (d := 50) (v := ?_) rfl rfl (wanted_none rfl) hHeld (fun ρ hρ w hSw => ?_) ?_
   rotate_left
   ·(have hc := hρ.const; have e39 := Eq.trans (hρ.tmp hsz 39 rfl) (miss4 rfl rfl rfl rfl (miss4 rfl rfl rfl rfl (miss1 rfl (miss1 rfl lkp_hit)))); have e49 := Eq.trans (hρ.tmp hsz 49 rfl) lkp_hit; clear hρ; (try dsimp only at hSw); go_simp; try with_reducible rfl)
   show wpOrd _ _ _ _ _ _ _ _
   refine ord_done hn2 ?_
   clear hHeld hn2 b4 b13 b15 b5 b7 b8 hsz A Q2
   simp only [puts_nil, puts_cons, put_lit, set_1, set_0]
   rcases b with _ | _
   ·have HN1 : Hid (∀ t ∈ (allOf m).take (kk + 1), (hh : Int) ∉ hzAt ns.length ns ds t k p co ls pr x) := fun t ht => by
     rw [take_snoc HS.out] at ht
     rcases List.mem_append.1 ht with h1 | h1
     ·exact hno.out t h1
     ·rw [List.mem_singleton.1 h1]; exact (fun e => by have := HIF.out.2 e; simp at this)
    go_wp2_with fail
    go_roundg (kR - (kk + 1))
    case rel => exact ⟨kk + 1, by go_num, by omega, rfl, HBN, HN1⟩
    case measure => omega
   ·have HQ := Lib.hid (HIF.out.1 rfl)
    have q4 := (HC.out _ HB4.out).2
    have HS4 := Lib.hid (HSW.out _ HB4.out)
    go_wp2_with fail
    go_ret3
    exact ⟨.inr ⟨H1.out, x, by simpa using HX.out, .inl ⟨kk, s, As2, cs2, HS.out, by simpa using HQ.out, by simpa using hno.out, rfl, HS4⟩⟩, HB1.out.bl.trans (HBN.out.mono hz1)⟩
  ·obtain rfl : kk = kR := by omega
   have hii : decide (kk < kk) = false := by simp
   have HNA : ∀ t ∈ (allOf m).take kk, h ∉ hzAt ns.length ns ds t k p co ls pr x := hno.out
   rw [List.take_of_length_le (by rw [HLR.out]; exact Nat.le_refl _)] at HNA
   have HNB := Lib.hid HNA
   clear HNA
   go_wp2_with fail
   go_ret3
   exact ⟨.inr ⟨H1.out, x, by simpa using HX.out, .inr ⟨by simpa using HNB.out, rfl⟩⟩, HB1.out.bl.trans (hbl.out.mono hz1)⟩
end Go.Proofs.YtnpfkiidhidjbaaGreatDoor
/-
 The reference of layer 13: walks of Fault and Safe.
-/
namespace Go.Proofs.YtnpfkiidhidjbaaGreatDoor
open Go.RowKit
set_option maxRecDepth 100000 in
set_option maxHeartbeats 8000000 in
theorem rFault_any (An Ad As : Option Addr) (nn cn nd cd n c : Nat) (ns : List Nd) (ds : List Dv) (m : List Int) (d : Int) (w : World) (h : HzMem w An Ad As none none nn cn nd cd n c 0 0 0 0 ns ds m [] []) :
  Calls Tryz.prog 26 #[.agg #[.slice An nn cn, .slice Ad nd cd], .slice As n c, .int .i64 d] w (FaultPost w ns ds m d) := by
 obtain ⟨hln, hld, hls⟩ := h.ln
 subst hln
 have hndm := h.hd.le; have hsm := h.hs.le
 have HB : Hid (Below w.heap.size w (w.alloc (.cells #[.slice An ns.length cn, .slice Ad nd cd] 26))) := (Below.refl _ _).alloc (Nat.le_refl _) _
 have HK := Lib.hid (Blk.new w 26 #[.slice An ns.length cn, .slice Ad nd cd])
 have HH := Lib.hid h
 clear h
 go_enter Tryz.func26, Tryz.ntmps26
 go_wp2_with fail
 generalize World.alloc _ _ = W at *
 have HM := Lib.hid (HH.out.below HB.out)
 refine (rcheckm_any An Ad As ns.length cn nd cd n c W.heap.size W.heap.size W.heap.size ns ds m W HM.out.hn HM.out.hd HM.out.hs (Nat.le_refl _) (Nat.le_refl _) (Nat.le_refl _) HM.out.sn HM.out.sd).mono ?_
 rintro e w1 ⟨rfl, hb1⟩
 have HB1 := Lib.hid (HB.out.trans (hb1.mono HB.out.size))
 have HK1 := Lib.hid (HK.out.below hb1 HK.out.lt)
 clear hb1 HM HB HK
 by_cases h0 : maskErr ns ds m = 0; rotate_left
 ·have q2 : (maskErr ns ds m != 0) = true := by simpa using h0
  have H0 := Lib.hid h0
  clear h0
  go_wp2_with fail
  go_ret2
  exact ⟨.inl ⟨H0.out, rfl⟩, HB1.out⟩
 have H0 := Lib.hid h0
 rw [h0]
 obtain ⟨hc, hml, _⟩ := maskErr_net h0
 have HOK := Lib.hid (NetOk.of hc)
 have HSE := Lib.hid (fillL_state h0 (p := 2) (.inr rfl))
 have hdl := HOK.out.dl; have hnl := HOK.out.nl
 clear h0 hc
 have hm1 : m.length ≤ nd := by omega
 have hm2 : nd ≤ m.length := by omega
 have hm3 : nd ≤ 64 := by omega
 have HLD := Lib.hid hld
 clear hml hdl hld
 subst hls
 by_cases hd0 : d < 0
 ·have q : decide (d < 0) = true := by simpa using hd0
  have HE : Hid (devErr nd d = 8) := by unfold Hid devErr; rw [if_pos hd0]
  clear hd0
  go_wp2_with fail
  go_ret2
  exact ⟨.inr (.inl ⟨H0.out, by rw [HLD.out, HE.out]; decide, by rw [HLD.out, HE.out]; rfl⟩), HB1.out⟩
 have q : decide (d < 0) = false := by simpa using hd0
 by_cases hd1 : (m.length : Int) ≤ d
 ·have q1 : decide ((m.length : Int) ≤ d) = true := by simpa using hd1
  have HE : Hid (devErr nd d = 8) := by unfold Hid devErr; rw [if_neg hd0, if_pos (by omega)]
  clear hd0 hd1
  go_wp2_with fail
  go_ret2
  exact ⟨.inr (.inl ⟨H0.out, by rw [HLD.out, HE.out]; decide, by rw [HLD.out, HE.out]; rfl⟩), HB1.out⟩
 have q1 : decide ((m.length : Int) ≤ d) = false := by simpa using hd1
 have HE : Hid (devErr nd d = 0) := by unfold Hid devErr; rw [if_neg hd0, if_neg (by omega)]
 obtain ⟨i, rfl⟩ := Int.eq_ofNat_of_zero_le (Int.not_lt.1 hd0)
 obtain ⟨x, hx⟩ : ∃ x, ds[i]? = some x := ⟨_, List.getElem?_eq_getElem (by rw [HLD.out]; omega)⟩
 have HX := Lib.hid hx
 have q0 : ¬ m.length ≤ i := by omega
 clear hx hd0 hd1
 go_upto_region 6 with (fail)
 clear q q1 q0
 have HMD := Lib.hid (HH.out.below HB1.out.drew)
 have HKD := Lib.hid (HK1.out.below (Below.refl w1.heap.size w1).drew HK1.out.lt)
 refine wp_region_ord (S := fun W' => W'.cell? ⟨w.heap.size, 0, none⟩ = some (.slice An ns.length cn) ∧ W'.cell? ⟨w.heap.size, 1, none⟩ = some (.slice Ad nd cd)) (J := []) (n := _) ((0, true) :: (1, true) :: (3, true) :: (2, false) :: (4, false) :: (5, true) :: (6, true) :: (7, true) :: (8, true) :: (9, true) :: []) (by as_aux_lemma => kernel_rfl) (by rfl) (base_cons (k := 3) (by go_simp; rfl) (base_cons (k := 1) (by go_simp; rfl) (base_cons (k := 2) (by go_simp; rfl) base_nil))) ?_ (fun _ _ _ _ _ h => h) (fun Q2 A hsz hbase hn2 hHeld => ?_)
 ·exact ⟨HK1.out.cell 0, HK1.out.cell 1⟩
 try dsimp only at hHeld
 obtain ⟨b3, b1, b2, -⟩ := hbase
 refine ord_take (i := 0) (d := 26) (v := ?_) rfl rfl (wanted_none rfl) hHeld (fun ρ hρ w hSw => ?_) ?_
 rotate_left
 ·(have e3 := Eq.trans (hρ.tmp hsz 3 rfl) (lkp_base b3); clear hρ; (try dsimp only at hSw); have k0 := hSw.1; have k1 := hSw.2; clear hSw; go_simp; try with_reducible rfl)
 show wpOrd _ _ _ _ _ _ _ _
 refine ord_move (i := 1) (d := 27) (v := ?_) rfl rfl rfl (wanted_none rfl) hHeld (fun ρ hρ => ?_) ?_
 rotate_left
 ·(have e1 := Eq.trans (hρ.tmp hsz 1 rfl) (miss1 rfl (lkp_base b1)); exact e1)
 show wpOrd _ _ _ _ _ _ _ _
 refine ord_move (i := 3) (d := 29) (v := ?_) rfl rfl rfl (wanted_none rfl) hHeld (fun ρ hρ => ?_) ?_
 rotate_left
 ·(have e2 := Eq.trans (hρ.tmp hsz 2 rfl) (miss1 rfl (miss1 rfl (lkp_base b2))); exact e2)
 show wpOrd _ _ _ _ _ _ _ _
 refine ord_call (i := 2) (d := 28) (vs := ?_) rfl rfl rfl (wanted_none rfl) (fun ρ hρ => ?_) ?_ ?_
 rotate_left
 ·(have e27 := Eq.trans (hρ.tmp hsz 27 rfl) (miss1 rfl lkp_hit); simp only [List.map_toArray, List.map_cons, List.map_nil, e27]; try with_reducible rfl)
 ·(intro w; go_simp)
 refine (rhighest_any As c w1.drew.heap.size m w1.drew HMD.out.hs (Nat.le_refl _) (by omega)).mono ?_
 rintro e w3 ⟨Aw, cw, rfl, hOw, hb3⟩
 rw [fillL_len] at hOw ⊢
 have HK3 := Lib.hid (HKD.out.below hb3.out HKD.out.lt)
 have HM3 := Lib.hid (HMD.out.below hb3.out)
 have HB3 := Lib.hid (HB1.out.drew.trans (hb3.out.mono HB1.out.drew.size))
 have HSW : Hid (Sl w3 w3.heap.size 1 Aw m.length cw (intsV (fillL m 2))) := hOw.out.sl
 clear hOw hb3
 refine ⟨_, rfl, fun _ => ?_, fun hHeld' => ?_⟩
 ·exact ⟨HK3.out.cell 0, HK3.out.cell 1⟩
 replace hHeld := hHeld' rfl
 clear hHeld'
 try dsimp only at hHeld
 show wpOrd _ _ _ _ _ _ _ _
 refine ord_call (i := 4) (d := 30) (vs := ?_) rfl rfl rfl (wanted_none rfl) (fun ρ hρ => ?_) ?_ ?_
 rotate_left
 ·(have e26 := Eq.trans (hρ.tmp hsz 26 rfl) (miss1 rfl (miss1 rfl (miss1 rfl lkp_hit))); have e28 := Eq.trans (hρ.tmp hsz 28 rfl) lkp_hit; have e29 := Eq.trans (hρ.tmp hsz 29 rfl) (miss1 rfl lkp_hit); simp only [List.map_toArray, List.map_cons, List.map_nil, e26, e28, e29]; try with_reducible rfl)
 ·(intro w; go_simp)
 refine (rOf_ok An Ad Aw ns.length cn nd cd m.length cw i ns ds (fillL m 2) x w3 ⟨HM3.out.hn, HM3.out.hd, HSW.out, Sl.nil _ _ _, Sl.nil _ _ _, HM3.out.la, HM3.out.sn, HM3.out.sd⟩ HSE.out HX.out).mono ?_
 rintro e w4 ⟨rfl, hb4⟩
 have HK4 := Lib.hid (HK3.out.below hb4 HK3.out.lt)
 have HB4 := Lib.hid (HB3.out.trans (hb4.mono HB3.out.size))
 clear hb4
 refine ⟨_, rfl, fun _ => ?_, fun hHeld' => ?_⟩
 ·exact ⟨HK4.out.cell 0, HK4.out.cell 1⟩
 replace hHeld := hHeld' rfl
 clear hHeld'
 try dsimp only at hHeld
 show wpOrd _ _ _ _ _ _ _ _
 refine ord_move (i := 5) (d := 25) (v := ?_) rfl rfl rfl (wanted_none rfl) hHeld (fun ρ hρ => ?_) ?_
 rotate_left
 ·(have e30 := Eq.trans (hρ.tmp hsz 30 rfl) lkp_hit; exact e30)
 show wpOrd _ _ _ _ _ _ _ _
 refine ord_take (i := 6) (d := 31) (v := ?_) rfl rfl (wanted_none rfl) hHeld (fun ρ hρ w hSw => ?_) ?_
 rotate_left
 ·(have e25 := Eq.trans (hρ.tmp hsz 25 rfl) lkp_hit; clear hρ; (try dsimp only at hSw); go_simp; try with_reducible rfl)
 show wpOrd _ _ _ _ _ _ _ _
 refine ord_take (i := 7) (d := 32) (v := ?_) rfl rfl (wanted_none rfl) hHeld (fun ρ hρ w hSw => ?_) ?_
 rotate_left
 ·(have e25 := Eq.trans (hρ.tmp hsz 25 rfl) (miss1 rfl lkp_hit); clear hρ; (try dsimp only at hSw); go_simp; try with_reducible rfl)
 show wpOrd _ _ _ _ _ _ _ _
 refine ord_take (i := 8) (d := 9) (v := ?_) rfl rfl (wanted_none rfl) hHeld (fun ρ hρ w hSw => ?_) ?_
 rotate_left
 ·(have e31 := Eq.trans (hρ.tmp hsz 31 rfl) (miss1 rfl lkp_hit); clear hρ; (try dsimp only at hSw); go_simp; try with_reducible rfl)
 show wpOrd _ _ _ _ _ _ _ _
 refine ord_take (i := 9) (d := 10) (v := ?_) rfl rfl (wanted_none rfl) hHeld (fun ρ hρ w hSw => ?_) ?_
 rotate_left
 ·(have e32 := Eq.trans (hρ.tmp hsz 32 rfl) (miss1 rfl lkp_hit); clear hρ; (try dsimp only at hSw); go_simp; try with_reducible rfl)
 show wpOrd _ _ _ _ _ _ _ _
 refine ord_done hn2 ?_
 clear hHeld hn2 b3 b1 b2 hsz A Q2
 simp only [puts_nil, puts_cons, put_lit, set_1, set_0]
 have HR : Hid (decide (dutyAt ns.length ns ds (fillL m 2) (i : Int) x = 4) = (dutyAt ns.length ns ds (fillL m 2) (i : Int) x == 4)) := rfl
 obtain ⟨du, hdu⟩ : ∃ du, du = dutyAt ns.length ns ds (fillL m 2) (i : Int) x := ⟨_, rfl⟩
 rw [← hdu]
 have HDU := Lib.hid hdu
 clear hdu
 go_wp2_with fail
 go_ret2
 exact ⟨.inr (.inr ⟨H0.out, by rw [HLD.out]; exact HE.out, x, by simpa using HX.out, by rw [HR.out, ← HDU.out]; rfl⟩), HB4.out⟩
def RsfR (w1 : World) (out but : List Int) (n gk : Nat) (iv : Value) (wr : World) : Prop := ∃ k : Nat, iv = .int .i64 k ∧ k ≤ n ∧ gk = n - k ∧ wr = w1 ∧ Hid (∀ x ∈ out.take k, x ∈ but)
set_option maxRecDepth 100000 in
set_option maxHeartbeats 8000000 in
theorem rSafe_any (An Ad As Al Ap Ab : Option Addr) (nn cn nd cd n c nl cl np cp nb cb : Nat) (ns : List Nd) (ds : List Dv) (m : List Int) (ls : List Lk) (pr but : List Int) (d p co : Int) (w : World) (h : HzMem w An Ad As Al Ap nn cn nd cd n c nl cl np cp ns ds m ls pr) (hb : Sl w w.heap.size 1 Ab nb cb (intsV but)) :
  Calls Tryz.prog 20 #[.agg #[.slice An nn cn, .slice Ad nd cd], .slice As n c, .agg #[.int .i64 d, .int .i64 p], .agg #[.int .i64 co, .slice Al nl cl, .slice Ap np cp], .slice Ab nb cb] w (SafePost w ns ds m d p co ls pr but) := by
 have HBT := Lib.hid hb
 have HX0 := Lib.hid (Bx3.new w #[.slice An nn cn, .slice Ad nd cd] #[.int .i64 d, .int .i64 p] #[.int .i64 co, .slice Al nl cl, .slice Ap np cp])
 have HH := Lib.hid h
 clear h hb
 go_enter Tryz.func20, Tryz.ntmps20
 go_wp2_with fail
 generalize World.alloc (World.alloc (World.alloc w _) _) _ = W at *
 refine (rMay_any An Ad As Al Ap nn cn nd cd n c nl cl np cp ns ds m ls pr d p co W (HH.out.below HX0.out.bl)).mono ?_
 rintro e w1 ⟨⟨h1, rfl⟩ | ⟨h1, AR, kR, cR, x, out, hx, rfl, hO, hML⟩, hb1⟩
 ·have H1 := Lib.hid h1
  have q : (stsErr ns ds m d p co != 0) = true := by simpa using h1
  have HB1 := Lib.hid (HX0.out.later hb1.out)
  clear h1 hb1
  go_wp2_with fail
  go_ret2
  exact ⟨.inl ⟨H1.out, rfl⟩, HB1.out.bl⟩
 have H1 := Lib.hid h1
 have HX := Lib.hid hx
 have HB1 := Lib.hid (HX0.out.later hb1.out)
 have HBT1 := Lib.hid ((HBT.out.below HB1.out.bl (Nat.le_refl _)).more HB1.out.bl.size)
 have HSO := Lib.hid hO.out.sl
 have HLO := Lib.hid hO.out.len
 have hle := hO.out.sl.le
 clear h1 hx hb1 hO HX0
 go_wp2_with fail
 go_loopg [14] kR (RsfR w1 out but kR)
 case atStart => exact ⟨0, rfl, Nat.zero_le _, rfl, rfl, fun x hx => by simp at hx⟩
 case round =>
  obtain ⟨k, rfl, hk, rfl, rfl, hno⟩ := hrel
  by_cases hlt : k < kR
  ·obtain ⟨bs, os, y, rfl, hbs, hy, hcs⟩ := HSO.out.at1 (k := k) hlt
   have HY := Lib.hid hy
   clear hy
   go_wp2_with fail
   refine (rhas_any Ab nb cb but y wr HBT1.out).mono ?_
   rintro e w3 ⟨rfl, rfl⟩
   by_cases hm : y ∈ but
   ·have HN : Hid (∀ x ∈ out.take (k + 1), x ∈ but) := fun x hx => by
     rw [take_snoc HY.out] at hx
     rcases List.mem_append.1 hx with h | h
     ·exact hno.out x h
     ·rw [List.mem_singleton.1 h]; exact hm
    rw [decide_eq_true hm]
    clear hm
    go_wp2_with fail
    go_roundg (kR - (k + 1))
    case rel => exact ⟨k + 1, by go_num, by omega, rfl, rfl, HN⟩
    case measure => omega
   ·have HR : Hid (safeB out but = false) := by
     unfold Hid
     rw [Bool.eq_false_iff]
     exact fun e => hm ((safeB_iff out but).1 e y (List.mem_of_getElem? HY.out))
    rw [decide_eq_false hm]
    clear hm
    go_wp2_with fail
    go_ret2
    exact ⟨.inr ⟨H1.out, x, out, HX.out, hML, by rw [HR.out]; rfl⟩, HB1.out.bl⟩
  ·obtain rfl : k = kR := by omega
   have hii : decide (k < k) = false := by simp
   have HR : Hid (safeB out but = true) := by
    refine (safeB_iff out but).2 fun y hy => hno.out y ?_
    rw [List.take_of_length_le (by rw [HLO.out]; exact Nat.le_refl _)]
    exact hy
   go_wp2_with fail
   go_ret2
   exact ⟨.inr ⟨H1.out, x, out, HX.out, hML, by rw [HR.out]; rfl⟩, HB1.out.bl⟩
end Go.Proofs.YtnpfkiidhidjbaaGreatDoor
