import Derived.Test.YtfaknfmndafllaaGreatDoorW32
import Derived.Test.YtfaknfmndafllaaGreatDoorW27
set_option maxRecDepth 100000
set_option maxHeartbeats 8000000
namespace Go.Proofs.YtfaknfmndafllaaGreatDoor
open Go.RowKit
def PlkPost (w : World) (ds : List Dv) (s : List Int) (e : Ending) (w' : World) : Prop :=
 ∃ (A : Option Addr) (c : Nat), e = .returned (.slice A (lcksOf ds s).length c) ∧ Hid (LocksO w' w.heap.size A (lcksOf ds s).length c (lcksOf ds s)) ∧ Hid (Below w.heap.size w w')
def PlkR (W : World) (ds : List Dv) (s : List Int) (nd gk : Nat) (v5 iv : Value) (wr : World) : Prop :=
 ∃ (k : Nat) (A : Option Addr) (c : Nat), v5 = .slice A (lcksN ds s k).length c ∧ iv = .int .i64 k ∧ k ≤ nd ∧ gk = nd - k ∧ Hid (LocksO wr W.heap.size A (lcksN ds s k).length c (lcksN ds s k)) ∧ Hid (Below W.heap.size W wr)
theorem lkAt_eq {ds : List Dv} {s : List Int} {k : Nat} {x : Dv} {sv : Int} (hx : ds[k]? = some x) (hs : s[k]? = some sv) : lkAt ds s k = if ((gapB x.kind && (sv == 1)) || ((x.kind == 4) && (sv == 2))) = true then some ⟨k, sv, k⟩ else none := by
 unfold lkAt
 rw [hx, List.getD_eq_getElem?_getD, hs]; rfl
theorem PlkR.no {W wr : World} {ds : List Dv} {s : List Int} {nd k c : Nat} {A : Option Addr} (h : lkAt ds s k = none) (hk : k < nd) (ho : LocksO wr W.heap.size A (lcksN ds s k).length c (lcksN ds s k)) (hb : Below W.heap.size W wr) : PlkR W ds s nd (nd - (k + 1)) (.slice A (lcksN ds s k).length c) (.int .i64 ((k : Int) + 1)) wr := by
 have e : lcksN ds s (k + 1) = lcksN ds s k := by rw [lcksN_next, h]; simp
 exact ⟨k + 1, A, c, by rw [e], rfl, hk, rfl, by rw [e]; exact ho, hb⟩
theorem PlkR.yes {W wr : World} {ds : List Dv} {s : List Int} {nd k c : Nat} {A : Option Addr} {l : Lk} (h : lkAt ds s k = some l) (hk : k < nd) (ho : wr.ownsRow W.heap.size 59 3 (.slice A ((lcksN ds s k).length + 1) c) ((lcksN ds s k).length + 1) ((lcksN ds s k).flatMap Lk.cells ++ Lk.cells l)) (hb : Below W.heap.size W wr) : PlkR W ds s nd (nd - (k + 1)) (.slice A ((lcksN ds s k).length + 1) c) (.int .i64 ((k : Int) + 1)) wr := by
 have e : lcksN ds s (k + 1) = lcksN ds s k ++ [l] := by rw [lcksN_next, h]; rfl
 refine ⟨k + 1, A, c, by rw [e]; simp, rfl, hk, rfl, ?_, hb⟩
 rw [e]
 unfold LocksO
 rw [List.length_append, List.flatMap_append, show [l].flatMap Lk.cells = Lk.cells l by simp]
 exact ho
theorem plocks_any (An Ad As : Option Addr) (nn cn nd cd n c : Nat) (ds : List Dv) (s : List Int) (w : World) (hd : Sl w w.heap.size 5 Ad nd cd (ds.flatMap Dv.cells)) (hs : Sl w w.heap.size 1 As n c (intsV s)) (hl : nd ≤ n) (hn : nd ≤ 64) :
 Calls Tryz.prog 98 #[.agg #[.slice An nn cn, .slice Ad nd cd], .slice As n c] w (PlkPost w ds s) := by
 have HLD := Lib.hid (hd.len (fun _ => rfl) (by decide))
 have HB : Hid (Below w.heap.size w (w.alloc (.cells #[.slice An nn cn, .slice Ad nd cd] 30))) := (Below.refl _ _).alloc (Nat.le_refl _) _
 have HK := Lib.hid (Blk.new w 30 #[.slice An nn cn, .slice Ad nd cd])
 have HD := Lib.hid hd; have HS := Lib.hid hs
 clear hd hs
 go_enter Tryz.func98, Tryz.ntmps98
 go_upto_region 2 with (fail)
 generalize World.alloc w _ = W at *
 have k1 := HK.out.cell 1
 have hzW := HB.out.size
 go_wp2_with fail
 clear k1
 refine wp_loop_u2 [(4, 0), (0, 2), (2, 1), (2, 0), (0, 3), (37, 1), (0, 0)] 5 12 (nd) (PlkR W ds s nd) (by (try dsimp only [gt]); exact ⟨0, none, 0, rfl, rfl, Nat.zero_le _, rfl, World.ownsRow_nil _ _ _ _, Below.refl _ _⟩) (by kernel_rfl) ?_
 intro u1 p5 p12 gk wr a hrel ha J1 K1 hJ1 hK1
 dsimp only [relaxR, Go.Proofs.YtfaknfmndafllaaGreatDoor.v2, Nat.reduceAdd] at ha
 subst ha
 obtain ⟨k, A, c', rfl, rfl, hk, rfl, ho, hl'⟩ := hrel
 have HO := Lib.hid ho.out; have HBR := Lib.hid hl'.out
 clear ho hl'
 have hml := lcksN_len ds s k
 by_cases hlt : k < nd; rotate_left
 ·have q1 : decide (k < nd) = false := by simpa using hlt
  obtain rfl : k = nd := by omega
  have HE : Hid (lcksN ds s k = lcksOf ds s) := by unfold Hid lcksOf; rw [HLD.out]
  rw [HE.out] at HO ⊢
  go_wp2_with fail
  go_ret
  exact ⟨A, c', rfl, World.ownsRow.mono HO.out hzW, HB.out.trans (HBR.out.mono hzW)⟩
 have q1 : decide (k < nd) = true := by simpa using hlt
 have HBL := Lib.hid (HB.out.trans (HBR.out.mono hzW))
 obtain ⟨b2, o2, x, rfl, hb2, hx, hc2⟩ := (HD.out.below HBL.out (Nat.le_refl _)).at (fun _ => rfl) (by decide) hlt
 obtain ⟨bs, os, sv, rfl, hbs, hsv, cs⟩ := (HS.out.below HBL.out (Nat.le_refl _)).at1 (by omega : k < n)
 have HLA := Lib.hid (lkAt_eq hx hsv)
 obtain ⟨nm, kd, xa, xb, xc⟩ := x
 have u0 : wr.cell? ⟨b2, o2 + k * 5, none⟩ = some (.string nm) := hc2 0 _ rfl
 have u1 : wr.cell? ⟨b2, o2 + k * 5 + 1, none⟩ = some (.int .i64 kd) := hc2 1 _ rfl
 have u2 : wr.cell? ⟨b2, o2 + k * 5 + 2, none⟩ = some (.int .i64 xa) := hc2 2 _ rfl
 have u3 : wr.cell? ⟨b2, o2 + k * 5 + 3, none⟩ = some (.int .i64 xb) := hc2 3 _ rfl
 have u4 : wr.cell? ⟨b2, o2 + k * 5 + 4, none⟩ = some (.int .i64 xc) := hc2 4 _ rfl
 have hkn : k < n := by omega
 have hnm := HS.out.le
 have hkk : IntKind.i64.wrap ((k : Int) + 1) = (k : Int) + 1 := IntWalk.i64_in _ (by omega)
 clear hc2 hx hsv
 go_upto_region 5 with (fail)
 clear u0 u1 u2 u3 u4 q1
 have HDB := Lib.hid (Blk.new wr 68 #[.string nm, .int .i64 kd, .int .i64 xa, .int .i64 xb, .int .i64 xc])
 have HBV : Hid (Below wr.heap.size wr (wr.alloc (.cells #[.string nm, .int .i64 kd, .int .i64 xa, .int .i64 xb, .int .i64 xc] 68))) := (Below.refl _ _).alloc (Nat.le_refl _) _
 generalize World.alloc wr _ = V at *
 obtain ⟨db, hdb⟩ : ∃ db, db = wr.heap.size := ⟨_, rfl⟩
 have cs' : V.cell? ⟨bs, os + k, none⟩ = some (.int .i64 sv) := (HBV.out.cell (p := ⟨bs, os + k, none⟩) (Nat.lt_of_lt_of_le hbs HBL.out.size)).trans cs
 rw [← hdb] at HDB ⊢
 clear hdb cs hbs
 have HOV := Lib.hid (own_later HO.out HBV.out)
 have HLV := Lib.hid (HBR.out.trans (HBV.out.mono HBR.out.size))
 have hzz := HLV.out.size
 have d1 := HDB.out.cell 1
 have HG := Lib.hid (gap_any V kd)
 clear HO HBR HBL
 rcases hg : gapB kd with _ | _
 ·rw [hg] at HG
  rcases h4 : (kd == 4) with _ | _
  ·have HN : Hid (lkAt ds s k = none) := by unfold Hid; rw [HLA.out]; simp [hg, h4]
   go_wp2_with fail
   refine HG.out.mono ?_
   rintro e w3 ⟨rfl, rfl⟩
   go_wp2_with fail
   refine Handed.intro (nd - (k + 1)) (by omega) (hJ1 _ _ _ (LpI2.back 5 12 ?_ (by kernel_rfl)))
   dsimp only [gt]
   exact PlkR.no HN.out hlt HOV.out HLV.out
  ·rcases h2 : (sv == 2) with _ | _
   ·have HN : Hid (lkAt ds s k = none) := by unfold Hid; rw [HLA.out]; simp [hg, h4, h2]
    go_wp2_with fail
    refine HG.out.mono ?_
    rintro e w3 ⟨rfl, rfl⟩
    go_wp2_with fail
    refine Handed.intro (nd - (k + 1)) (by omega) (hJ1 _ _ _ (LpI2.back 5 12 ?_ (by kernel_rfl)))
    dsimp only [gt]
    exact PlkR.no HN.out hlt HOV.out HLV.out
   ·have HN : Hid (lkAt ds s k = some ⟨k, sv, k⟩) := by unfold Hid; rw [HLA.out]; simp [hg, h4, h2]
    go_wp2_with fail
    refine HG.out.mono ?_
    rintro e w3 ⟨rfl, rfl⟩
    go_upto_region 7 with (fail)
    clear d1
    go_wp2_with (at_builtin; go_must (refine wpList_app rfl (.tmp 40) (.tmp 48) rfl el_lock (by rfl) (HOV.out.alloc _) (by rfl) (Sl.newest (n := 1) (by simp) (by rfl) (by decide)) (by simp [Value.oneCell']) (by omega) (by omega) (by simp; omega) ?_; intro A5 c5 w5 hown5 hgr5 hat5; have HO5 := Lib.hid hown5; have HB5 : Hid (Below W.heap.size W w5) := (HLV.out.alloc HLV.out.size _).trans ⟨hgr5.os, hgr5.tape, hgr5.output, hgr5.size, fun t ht => hgr5.block t (by simp; omega) (fun e => by have := (HOV.out.lt t e.symm).1; omega)⟩; clear hown5 hgr5 hat5))
    refine Handed.intro (nd - (k + 1)) (by omega) (hJ1 _ _ _ (LpI2.back 5 12 ?_ (by kernel_rfl)))
    dsimp only [gt]
    exact PlkR.yes HN.out hlt HO5.out HB5.out
 ·rw [hg] at HG
  rcases h1 : (sv == 1) with _ | _
  ·rcases h4 : (kd == 4) with _ | _
   ·have HN : Hid (lkAt ds s k = none) := by unfold Hid; rw [HLA.out]; simp [hg, h1, h4]
    go_wp2_with fail
    refine HG.out.mono ?_
    rintro e w3 ⟨rfl, rfl⟩
    go_wp2_with fail
    refine Handed.intro (nd - (k + 1)) (by omega) (hJ1 _ _ _ (LpI2.back 5 12 ?_ (by kernel_rfl)))
    dsimp only [gt]
    exact PlkR.no HN.out hlt HOV.out HLV.out
   ·rcases h2 : (sv == 2) with _ | _
    ·have HN : Hid (lkAt ds s k = none) := by unfold Hid; rw [HLA.out]; simp [hg, h1, h4, h2]
     go_wp2_with fail
     refine HG.out.mono ?_
     rintro e w3 ⟨rfl, rfl⟩
     go_wp2_with fail
     refine Handed.intro (nd - (k + 1)) (by omega) (hJ1 _ _ _ (LpI2.back 5 12 ?_ (by kernel_rfl)))
     dsimp only [gt]
     exact PlkR.no HN.out hlt HOV.out HLV.out
    ·have HN : Hid (lkAt ds s k = some ⟨k, sv, k⟩) := by unfold Hid; rw [HLA.out]; simp [hg, h1, h4, h2]
     go_wp2_with fail
     refine HG.out.mono ?_
     rintro e w3 ⟨rfl, rfl⟩
     go_upto_region 7 with (fail)
     clear d1
     go_wp2_with (at_builtin; go_must (refine wpList_app rfl (.tmp 40) (.tmp 48) rfl el_lock (by rfl) (HOV.out.alloc _) (by rfl) (Sl.newest (n := 1) (by simp) (by rfl) (by decide)) (by simp [Value.oneCell']) (by omega) (by omega) (by simp; omega) ?_; intro A5 c5 w5 hown5 hgr5 hat5; have HO5 := Lib.hid hown5; have HB5 : Hid (Below W.heap.size W w5) := (HLV.out.alloc HLV.out.size _).trans ⟨hgr5.os, hgr5.tape, hgr5.output, hgr5.size, fun t ht => hgr5.block t (by simp; omega) (fun e => by have := (HOV.out.lt t e.symm).1; omega)⟩; clear hown5 hgr5 hat5))
     refine Handed.intro (nd - (k + 1)) (by omega) (hJ1 _ _ _ (LpI2.back 5 12 ?_ (by kernel_rfl)))
     dsimp only [gt]
     exact PlkR.yes HN.out hlt HO5.out HB5.out
  ·have HN : Hid (lkAt ds s k = some ⟨k, sv, k⟩) := by unfold Hid; rw [HLA.out]; simp [hg, h1]
   go_wp2_with fail
   refine HG.out.mono ?_
   rintro e w3 ⟨rfl, rfl⟩
   go_upto_region 7 with (fail)
   clear d1
   go_wp2_with (at_builtin; go_must (refine wpList_app rfl (.tmp 40) (.tmp 48) rfl el_lock (by rfl) (HOV.out.alloc _) (by rfl) (Sl.newest (n := 1) (by simp) (by rfl) (by decide)) (by simp [Value.oneCell']) (by omega) (by omega) (by simp; omega) ?_; intro A5 c5 w5 hown5 hgr5 hat5; have HO5 := Lib.hid hown5; have HB5 : Hid (Below W.heap.size W w5) := (HLV.out.alloc HLV.out.size _).trans ⟨hgr5.os, hgr5.tape, hgr5.output, hgr5.size, fun t ht => hgr5.block t (by simp; omega) (fun e => by have := (HOV.out.lt t e.symm).1; omega)⟩; clear hown5 hgr5 hat5))
   refine Handed.intro (nd - (k + 1)) (by omega) (hJ1 _ _ _ (LpI2.back 5 12 ?_ (by kernel_rfl)))
   dsimp only [gt]
   exact PlkR.yes HN.out hlt HO5.out HB5.out
theorem psecured_any (An Ad As Az : Option Addr) (nn cn nd cd n c nz cz : Nat) (ns : List Nd) (ds : List Dv) (s z : List Int) (w : World) (hl : Laid w) (hn : Sl w w.heap.size 3 An nn cn (ns.flatMap Nd.cells)) (hd : Sl w w.heap.size 5 Ad nd cd (ds.flatMap Dv.cells)) (hs : Sl w w.heap.size 1 As n c (intsV s)) (hz : Sl w w.heap.size 1 Az nz cz (intsV z))
 (hsn : ∀ x ∈ ns, x.name.size ≤ 9223372036854775807) (hsd : ∀ x ∈ ds, x.name.size ≤ 9223372036854775807) (hnz : nz ≤ 10000) (hse : stateErr ns ds s = 0) (hze : zoneErr ns ds z = 0) :
 Calls Tryz.prog 58 #[.agg #[.slice An nn cn, .slice Ad nd cd], .slice As n c, .slice Az nz cz] w fun e w' => e = .returned (.bool (secu ns ds z s)) ∧ Below w.heap.size w w' := by
 obtain ⟨hck, hsl⟩ := stateErr_net hse
 have HOK := Lib.hid (NetOk.of hck)
 have hln := hd.len (fun _ => rfl) (by decide); have hls := hs.len (fun _ => rfl) (by decide)
 have hnd : nd ≤ 64 ∧ nd ≤ n ∧ n ≤ nd := by have := HOK.out.dl; omega
 have HGL := Lib.hid (lcks_good (ds := ds) s HOK.out.dl)
 have HSE : Hid (sideErr ns ds (lcksOf ds s) z = 0) := by unfold Hid sideErr; rw [if_neg (by rw [sm_locks hck HGL.out]; simp)]; exact hze
 have HB : Hid (Below w.heap.size w (w.alloc (.cells #[.slice An nn cn, .slice Ad nd cd] 30))) := (Below.refl _ _).alloc (Nat.le_refl _) _
 have HK := Lib.hid (Blk.new w 30 #[.slice An nn cn, .slice Ad nd cd])
 have HLA := Lib.hid hl; have HN := Lib.hid hn; have HD := Lib.hid hd; have HS := Lib.hid hs; have HZ := Lib.hid hz; have HSN := Lib.hid hsn; have HSD := Lib.hid hsd
 clear hl hn hd hs hz hsn hsd hse hze hck hsl hln hls
 go_enter Tryz.func58, Tryz.ntmps58
 go_upto_region 1 with (fail)
 generalize World.alloc w _ = W at *
 have hzW := HB.out.size
 have HC1 := Lib.hid (plocks_any An Ad As nn cn nd cd n c ds s W.drew ((HD.out.below HB.out (Nat.le_refl _)).more hzW) ((HS.out.below HB.out (Nat.le_refl _)).more hzW) hnd.2.1 hnd.1)
 have HCS : Hid (W.cell? ⟨w.heap.size, 0, none⟩ = some (.slice An nn cn) ∧ W.cell? ⟨w.heap.size, 1, none⟩ = some (.slice Ad nd cd)) := ⟨HK.out.cell 0, HK.out.cell 1⟩
 refine wp_region_J (S := fun W' => W'.cell? ⟨w.heap.size, 0, none⟩ = some (.slice An nn cn) ∧ W'.cell? ⟨w.heap.size, 1, none⟩ = some (.slice Ad nd cd)) (J := []) (by kernel_rfl) ?_ (fun hHeld => ?_)
 ·exact HCS.out
 try dsimp only at hHeld
 refine wpAnyJ_takeL (i := 0) (d := some 10) (v := ?_) (mf 11 1) (by kernel_rfl) rfl rfl (by kernel_rfl) (by kernel_rfl) (by kernel_rfl) (by kernel_rfl) (by kernel_rfl) (fun _ _ _ h => h) (Or.inl ⟨by rfl, ?_⟩) hHeld ?_
 rotate_left
 ·(intro w hSw; (try dsimp only at hSw); have u0 := hSw.1; have u1 := hSw.2; go_simp; try with_reducible rfl)
 try simp only [Act.put, sA, sB, sC]
 refine wpAnyJ_takeL (i := 1) (d := some 11) (v := ?_) (mf 11 2) (by kernel_rfl) rfl rfl (by kernel_rfl) (by kernel_rfl) (by kernel_rfl) (by kernel_rfl) (by kernel_rfl) (fun _ _ _ h => h) (Or.inl ⟨by rfl, ?_⟩) hHeld ?_
 rotate_left
 ·(intro w hSw; (try dsimp only at hSw); have u0 := hSw.1; have u1 := hSw.2; go_simp; try with_reducible rfl)
 try simp only [Act.put, sA, sB, sC]
 refine tk 2 12 (mf 11 3) hHeld ?_
 refine tk 4 14 #[tt, tt, tt, ff, tt, ff, ff, ff, ff, ff, ff] hHeld ?_
 refine wpAnyJ_oneL (k := 3) (mf 11 5) (by kernel_rfl) (by kernel_rfl) rfl (fun K hK => ?_)
 (go_simp; refine HC1.out.mono ?_; rintro e w3 ⟨A3, c3, rfl, hO3, hb3⟩; have HB3 : Hid (Below W.heap.size W w3) := (Below.refl W.heap.size W).drew.trans hb3.out; go_simp)
 refine hK.out _ _ (fun _ => ?_) (fun hHeld' => ?_)
 ·exact ⟨keep_cell HB3.out HCS.out.1, keep_cell HB3.out HCS.out.2⟩
 replace hHeld := hHeld' rfl
 clear hHeld' hK K
 try dsimp only at hHeld
 have HBW3 := Lib.hid (HB.out.trans (HB3.out.mono hzW))
 have hz3 := HBW3.out.size
 have HSC := Lib.hid (eSecure_any An Ad A3 Az nn cn nd cd (lcksOf ds s).length c3 nz cz ns ds (lcksOf ds s) z w3 (HLA.out.below HBW3.out (Nat.le_refl _)) ((HN.out.below HBW3.out (Nat.le_refl _)).more hz3) ((HD.out.below HBW3.out (Nat.le_refl _)).more hz3) (Sl.of_own hO3.out) ((HZ.out.below HBW3.out (Nat.le_refl _)).more hz3) HSN.out HSD.out hnz (by omega))
 refine wpAnyJ_oneL (k := 5) (mf 11 6) (by kernel_rfl) (by kernel_rfl) rfl (fun K hK => ?_)
 (go_simp; refine HSC.out.mono ?_; rintro e w4 ⟨rfl, hb4⟩; have HB4 : Hid (Below W.heap.size W w4) := HB3.out.trans (hb4.out.mono HB3.out.size); go_simp)
 refine hK.out _ _ (fun _ => ?_) (fun hHeld' => ?_)
 ·exact ⟨keep_cell HB4.out HCS.out.1, keep_cell HB4.out HCS.out.2⟩
 replace hHeld := hHeld' rfl
 clear hHeld' hK K
 try dsimp only at hHeld
 refine tk 6 9 (mf 11 7) hHeld ?_
 refine tk 7 16 (mf 11 8) hHeld ?_
 refine tk 8 17 (mf 11 9) hHeld ?_
 refine tk 9 7 (mf 11 10) hHeld ?_
 refine tk 10 8 (mf 11 11) hHeld ?_
 refine wpAnyJ_done (by kernel_rfl) ?_ _
 clear hHeld
 have HE := Lib.hid (HB.out.trans (HB4.out.mono hzW))
 go_wp2_with fail
 go_ret
 refine ⟨?_, HE.out⟩
 rw [HSE.out]; rfl
end Go.Proofs.YtfaknfmndafllaaGreatDoor
