import Derived.Test.YtkkobemhbicjgaaGreatDoorQ42
import Derived.Test.YtkkobemhbicjgaaGreatDoorQ21
set_option maxRecDepth 100000
set_option maxHeartbeats 32000000
namespace Go.Proofs.YtkkobemhbicjgaaGreatDoor
open Go.RowKit
theorem incl_anyf {a b : List Fn} (h : Incl a b) {f : Fn} (hf : f ∈ a) : ((f.hz == 7) || b.any fun y => Fn.eqB f y) = true := by
 rcases h f hf with h | h
 ·simp [h]
 ·rw [Bool.or_eq_true]; right
  rw [List.any_eq_true]
  exact ⟨f, h, by unfold Fn.eqB; simp⟩
theorem walk_CheckerFiner (w : World) (hl : Laid w) (A : Option Addr) (n c : Nat) (zs : List Int) (hs : Sl w w.heap.size 1 A n c (intsV zs)) (_hz : ∀ z ∈ zs, (Lit.int .i64 z).wf = true) :
 Calls Tryz.prog 3 #[.slice A n c] w fun e w' => e = .returned (.bool true) ∧ Below w.heap.size w w' := by
 have hnm := hs.le
 have HL := Lib.hid hl; have HS := Lib.hid hs
 clear hl hs _hz
 have HF := Lib.hid (few_any A n c w (by omega))
 rcases hf : decide (n ≤ 400) with _ | _
 ·rw [hf] at HF
  clear hf
  go_enter Tryz.func3, Tryz.ntmps3
  go_wp2_with fail
  refine HF.out.mono ?_
  rintro e w1 ⟨rfl, rfl⟩
  go_wp2_with fail
  refine (awake_any w HL.out).mono ?_
  rintro e w1 ⟨rfl, hb⟩
  go_wp2_with fail
  go_ret
  exact ⟨rfl, hb⟩
 rw [hf] at HF
 clear hf
 go_enter Tryz.func3, Tryz.ntmps3
 go_wp2_with fail
 refine HF.out.mono ?_
 rintro e w1 ⟨rfl, rfl⟩
 go_wp2_with fail
 refine (new_any A n c w.heap.size zs w HS.out (Nat.le_refl _)).mono ?_
 rintro e w1 ⟨rfl, hd1, hb1, hs1⟩
 go_wp2_with fail
 refine (mknet_any w.heap.size 5 8 w1 hd1.out (by decide) (by decide)).mono ?_
 rintro e w2 ⟨An, nn, cn, ns, Ad, nd, cd, ds, rfl, hd2, hg2, hrn, hrd, hmade⟩
 have HMK := LwN.mk0 HL.out hb1.out hs1.out hd2.out hg2.out hrn.out hrd.out hmade.out
 have HNN := Lib.hid HMK.2.1; have HND := Lib.hid HMK.2.2
 have HN3 := Lib.hid HMK.1
 have HMA := Lib.hid hmade.out
 have hnd : nd ≤ 8 := by have := hmade.out.dm; rw [HND.out] at this; omega
 have hnd1 : 1 ≤ nd := by have := hmade.out.d1; rw [HND.out] at this; omega
 have hnn : nn ≤ 5 := by have := hmade.out.nm; rw [HNN.out] at this; omega
 have HNM := Lib.hid HMA.out.names
 have HCK := Lib.hid (HMA.out.check (by decide) (by decide))
 clear HMK hd1 hb1 hs1 hd2 hg2 hrn hrd hmade HS HF
 go_wp2_with fail
 generalize World.alloc _ _ = w3 at *
 obtain ⟨nb, hnb⟩ : ∃ nb, nb = w2.heap.size := ⟨_, rfl⟩
 rw [← hnb] at HN3 ⊢
 clear hnb
 have hnn1 : 2 ≤ nn := by have := HMA.out.n2; rw [HNN.out] at this; exact this
 refine (mkmasks_any w.heap.size An Ad nn cn nd cd 4 ds w3 HN3.out.dk HN3.out.hd (by omega) (by decide)).mono ?_
 rintro e w5 ⟨As, cs, m, rfl, hd5, hg5, hO5, hmb, hcn⟩
 have HN5 := Lib.hid (HN3.out.grown HL.out hg5.out hd5.out)
 have HX5 : Hid (SlX w5 w.heap.size 1 As nd cs (intsV m)) := SlX.of_own hO5.out (by have := HN3.out.bl.size; have := HN3.out.bx.lt; have := HN3.out.ge; omega)
 have HLS : Hid (m.length = nd) := hO5.out.len
 have HME : Hid (maskErr ns ds m = 0) := by unfold Hid maskErr; rw [if_neg (by rw [HCK.out]; simp), if_neg (by rw [HLS.out, HND.out]; simp), if_pos hmb.out]
 have HMB := Lib.hid hmb.out
 have hw5 : w.heap.size < w5.heap.size := hd5.out.lt
 clear hd5 hg5 hO5 hmb hcn HN3
 have HSR : Hid (Sl w5 w5.heap.size 1 As nd cs (intsV m)) := HX5.out.1
 have hcsl := HSR.out.le
 go_upto_region 7 with (at_builtin; go_must (refine wpList_app rfl _ (.tmp 32) rfl el_int (by rfl) (World.ownsRow_nil _ w5.heap.size _ _) (by rfl) HSR.out (ints_one _) (by omega) (by omega) (by omega) ?_; intro Af cf w6 hown7 hgr7 hat7; simp only [Nat.zero_add, List.nil_append] at hown7 hgr7 ⊢; have HO7 := Lib.hid hown7; have HG7 := Lib.hid hgr7; clear hown7 hgr7 hat7))
 have HB6 : Hid (Below w5.heap.size w5 w6) := ⟨HG7.out.os, HG7.out.tape, HG7.out.output, HG7.out.size, fun q hq => HG7.out.block q hq (fun e => by cases e)⟩
 have HO6 : Hid (IntsO w6 w5.heap.size Af nd cf m) := HO7.out
 have HGB : Hid (GrB w5 w.heap.size w6) := ⟨(HN5.out.later HB6.out).dk, grown_of_below HB6.out _⟩
 clear HO7 HG7 HSR HB6
 have hn9 : nd ≤ 9223372036854775807 := by omega
 go_upto_region 8 with (fail)
 refine wp_loop_u1 [(6, 0), (0, 1), (27, 0), (0, 2), (17, 1), (90, 0)] 36 (nd) (FnR w5 w.heap.size w5.heap.size m Af cf nd) (by (try dsimp only [gt]); exact ⟨0, m, rfl, Nat.zero_le _, rfl, HGB, HO6, FinL.start⟩) (by kernel_rfl) ?_
 intro u1 p36 gk wr a hrel ha J1 K1 hJ1 hK1
 dsimp only [relaxR, Go.Proofs.YtkkobemhbicjgaaGreatDoor.v1, Nat.reduceAdd] at ha
 subst ha
 clear HGB HO6
 obtain ⟨i, f, rfl, hi, rfl, hB, hO, hF⟩ := hrel
 by_cases hlt : i < nd
 ·obtain ⟨fb, x, hfb, hge, hltb, hx, hcx, hfx, hst⟩ := hO.out.at hlt
  subst hfb
  clear hst
  by_cases h3 : x = 3
  ·subst h3
   have HX := Lib.hid hx
   clear hx
   go_wp2_with fail
   refine (one_any w.heap.size 2 wr hB.out.1 (by decide)).mono ?_
   rintro e w8 ⟨r, rfl, h1, h2, h4⟩
   have HB8 : Hid (GrB w5 w.heap.size w8) := ⟨h1.out, grown_trans hB.out.2 h2.out⟩
   have HO8 := Lib.hid (hO.out.kept h2.out (ne_row fun b e => by have := (hO.out.lt b e).1; omega))
   clear h1 h2 h4 hO hB hcx hfx
   rcases r with _ | _
   ·have HF2 := Lib.hid hF.out.pass
    go_wp2_with fail
    refine Handed.intro (nd - (i + 1)) (by omega) (hJ1 _ _ _ (LpI1.back 36 ?_ (by kernel_rfl)))
    dsimp only [gt]
    exact ⟨i + 1, f, by go_num, by omega, rfl, HB8, HO8, HF2⟩
   ·go_wp2_with fail
    refine (next_any w.heap.size 2 w8 HB8.out.1 (by decide)).mono ?_
    rintro e w9 ⟨r, rfl, h0, h1, h2, h5, h6, h7⟩
    have hr2 : r < 2 := h2.out (by decide)
    have HB9 : Hid (GrB w5 w.heap.size w9) := ⟨h5.out, grown_trans HB8.out.2 h6.out⟩
    have HO9 : Hid (IntsO w9 w5.heap.size (some ⟨fb, 0, none⟩) nd cf f) := HO8.out.kept h6.out (ne_row fun b e => by have := (HO8.out.lt b e).1; omega)
    clear h1 h2 h5 h6 h7 HB8 HO8
    have e4 : IntKind.i64.wrap (1 + r) = 1 + r := IntWalk.i64_in _ (by omega)
    obtain ⟨fb', x', e1, -, hltb, hx, hcx, hfx, hst⟩ := HO9.out.at hlt
    injection e1 with e1
    injection e1 with e1
    subst e1
    have HSW := Lib.hid (hst (1 + r))
    have HB10 := Lib.hid (HB9.out.set hw5 hge i (.int .i64 (1 + r)))
    have HF2 := Lib.hid (hF.out.put HX.out (r := 1 + r) (by omega))
    clear hx hst HB9 HO9
    go_wp2_with fail
    refine Handed.intro (nd - (i + 1)) (by omega) (hJ1 _ _ _ (LpI1.back 36 ?_ (by kernel_rfl)))
    dsimp only [gt]
    exact ⟨i + 1, _, by go_num, by omega, rfl, HB10, HSW, HF2⟩
  ·have qd : (x == 3) = false := by simpa using h3
   have HF2 := Lib.hid hF.out.pass
   clear hx h3
   go_wp2_with fail
   refine Handed.intro (nd - (i + 1)) (by omega) (hJ1 _ _ _ (LpI1.back 36 ?_ (by kernel_rfl)))
   dsimp only [gt]
   exact ⟨i + 1, f, by go_num, by omega, rfl, hB, hO, HF2⟩
 have q0 : decide (i < nd) = false := by simpa using hlt
 obtain ⟨g, hg⟩ : ∃ g, g = w.heap.size := ⟨_, rfl⟩
 have HNR := Lib.hid (HN5.out.grown HL.out hB.out.2 hB.out.1)
 have HXR := Lib.hid (HX5.out.grown hB.out.2)
 have HFR : Hid (SlX wr w.heap.size 1 Af nd cf (intsV f)) := SlX.of_own hO.out hw5
 have HLF : Hid (f.length = nd) := hO.out.len
 have HFM : Hid (∀ p ∈ f, maskB p = true) := hF.out.mask HMB.out
 have HFI : Hid (FinL m f m.length) := by have := hF.out; rw [show i = m.length by rw [HLS.out]; omega] at this; exact this
 have HFE : Hid (maskErr ns ds f = 0) := by unfold Hid maskErr; rw [if_neg (by rw [HCK.out]; simp), if_neg (by rw [HLF.out, HND.out]; simp), if_pos HFM.out]
 clear hB hO hF HN5 HX5 hg
 go_upto_region 13 with (fail)
 clear q0
 have k0 := HNR.out.bx.cell 0; have k1 := HNR.out.bx.cell 1
 go_wp2_with fail
 clear k0 k1
 refine (mkgroundz_any w.heap.size An Ad none nn cn nd cd 0 0 wr HNR.out.dk (by omega)).mono ?_
 rintro e v6 ⟨co, Ap, np, cp, pr, rfl, hco, hd6, hg6, hO6, hri⟩
 have HN6 := Lib.hid (HNR.out.grown HL.out hg6.out hd6.out)
 have HX6 := Lib.hid (HXR.out.grown hg6.out)
 have HF6 := Lib.hid (HFR.out.grown hg6.out)
 have HP6 : Hid (SlX v6 w.heap.size 1 Ap np cp (intsV pr)) := SlX.of_own hO6.out HNR.out.dk.lt
 have HRI : Hid (risL ns.length (-1) pr = true) := by unfold Hid; rw [HNN.out]; exact hri.out.2
 have HCO := Lib.hid hco
 clear hco hd6 hg6 hO6 hri HNR HXR HFR
 go_upto_region 16 with (fail)
 have HBL : Hid (Below v6.heap.size v6 (v6.alloc (.cells #[.int .i64 co, .slice none 0 0, .slice Ap np cp] 37))) := (Below.refl _ _).alloc (Nat.le_refl _) _
 have HG7 : Hid (Blk (v6.alloc (.cells #[.int .i64 co, .slice none 0 0, .slice Ap np cp] 37)) v6.heap.size 37 #[.int .i64 co, .slice none 0 0, .slice Ap np cp]) := Blk.new v6 _ _
 have HN7 := Lib.hid (HN6.out.later HBL.out)
 have HX7 := Lib.hid (HX6.out.below HBL.out)
 have HF7 := Lib.hid (HF6.out.below HBL.out)
 have HP7 := Lib.hid (HP6.out.below HBL.out)
 have hg0 : w.heap.size < v6.heap.size := HN6.out.dk.lt
 have hz7 : (v6.alloc (.cells #[.int .i64 co, .slice none 0 0, .slice Ap np cp] 37)).heap.size = v6.heap.size + 1 := by simp
 clear HN6 HX6 HF6 HP6 HBL
 generalize World.alloc v6 _ = v7 at *
 obtain ⟨gb, hgb⟩ : ∃ x, x = v6.heap.size := ⟨_, rfl⟩
 rw [← hgb] at HG7 hg0 hz7 ⊢
 clear hgb
 have HFP : Hid (FpM v7 w.heap.size v7.heap.size none 0 0 [] (v7.alloc (.cells #[.string ⟨#[80]⟩, .slice none 0 0] 41))) :=
  ⟨Blk.new v7 _ _, HN7.out.dk.alloc _, grown_of_below ((Below.refl _ _).alloc (Nat.le_refl _) _) _, World.ownsRow_nil _ _ _ _, Nat.le_refl _⟩
 have hg7 : w.heap.size < v7.heap.size := HN7.out.dk.lt
 generalize World.alloc v7 _ = v8 at *
 obtain ⟨x, hxx⟩ : ∃ x, x = v7.heap.size := ⟨_, rfl⟩
 rw [← hxx] at HFP hz7
 rw [← hz7]
 clear hxx hz7
 go_wp2_with fail
 refine (next_any w.heap.size 6 v8 HFP.out.dk (by decide)).mono ?_
 rintro e v9 ⟨k, rfl, hk0, -, hk1, hd3, hg3, hs3⟩
 have hkn := hk1.out (by decide)
 obtain ⟨k, rfl⟩ := Int.eq_ofNat_of_zero_le hk0
 have HFV := Lib.hid (HFP.out.grown hg3.out hd3.out hg7)
 clear hk1 hd3 hg3 hs3 HFP hk0
 go_upto_region 17 with (fail)
 refine wp_loop_u1 [(9, 0), (0, 2), (0, 1), (48, 0), (20, 1), (63, 0)] 10 (k) (FpR v7 w.heap.size x ns.length ds.length 5) (by (try dsimp only [gt]); exact ⟨k, 0, 0, none, [], rfl, rfl, by omega, HFV, Lib.hid (by simp)⟩) (by kernel_rfl) ?_
 intro u1 p10 gk wr a hrel ha J1 K1 hJ1 hK1
 dsimp only [relaxR, Go.Proofs.YtkkobemhbicjgaaGreatDoor.v1, Nat.reduceAdd] at ha
 subst ha
 clear HFV hkn
 obtain ⟨k', nx, cx, Ax, xs, rfl, rfl, hk, hM, hXS⟩ := hrel
 have HM := Lib.hid hM.out; have HXS := Lib.hid hXS.out
 clear hM hXS
 have HNN7 := Lib.hid (HN7.out.grown HL.out HM.out.gr HM.out.dk)
 by_cases hlt2 : 0 < gk
 ·have q1 : decide ((gk : Int) > 0) = true := by simpa using hlt2
  have q2 : decide (0 < (gk : Int)) = true := by simpa using hlt2
  have k0 := HNN7.out.bx.cell 0; have k1 := HNN7.out.bx.cell 1
  go_wp2_with fail
  clear k0 k1 q1 q2
  refine (mkstep_any w.heap.size An Ad nn cn nd cd wr HM.out.dk (by omega) (by omega) (by omega) (by omega)).mono ?_
  rintro e y1 ⟨sk, sd, sn, sp, sq, rfl, hsp, hd3, hg3⟩
  have HM1 := Lib.hid (HM.out.grown hg3.out hd3.out hg7)
  have HSP : Hid (spErr ns.length ds.length ⟨sk, sd, sn, sp, sq⟩ = 0) := by unfold Hid; rw [HNN.out, HND.out]; exact hsp.out
  clear hsp hd3 hg3 HM HNN7
  go_upto_region 20 with (fail)
  have HBL : Hid (Below y1.heap.size y1 (y1.alloc (.cells #[.int .i64 sk, .int .i64 sd, .int .i64 sn, .int .i64 sp, .int .i64 sq] 43))) := (Below.refl _ _).alloc (Nat.le_refl _) _
  have HM2 := Lib.hid (HM1.out.later HBL.out)
  have HSB := Lib.hid (Blk.new y1 43 #[.int .i64 sk, .int .i64 sd, .int .i64 sn, .int .i64 sp, .int .i64 sq])
  clear HM1 HBL
  generalize World.alloc y1 _ = y2 at *
  obtain ⟨sb, hsb⟩ : ∃ x, x = y1.heap.size := ⟨_, rfl⟩
  rw [← hsb] at HSB ⊢
  clear hsb
  have s0 := HSB.out.cell 0; have s1 := HSB.out.cell 1; have s2 := HSB.out.cell 2; have s3 := HSB.out.cell 3; have s4 := HSB.out.cell 4
  have hkk : IntKind.i64.wrap ((gk : Int) - 1) = (gk : Int) - 1 := IntWalk.i64_in _ (by omega)
  by_cases h6 : sk = 6
  ·have u1 : (sk != 6) = false := by simp [h6]
   go_wp2_with fail
   refine Handed.intro (gk - 1) (by omega) (hJ1 _ _ _ (LpI1.back 10 ?_ (by kernel_rfl)))
   dsimp only [gt]
   exact ⟨gk - 1, nx, cx, Ax, xs, by go_num, rfl, by omega, HM2, HXS⟩
  have u1 : (sk != 6) = true := by simpa using h6
  by_cases h3 : sk = 3
  ·have u2 : (sk != 3) = false := by simp [h3]
   clear h6
   go_wp2_with fail
   refine Handed.intro (gk - 1) (by omega) (hJ1 _ _ _ (LpI1.back 10 ?_ (by kernel_rfl)))
   dsimp only [gt]
   exact ⟨gk - 1, nx, cx, Ax, xs, by go_num, rfl, by omega, HM2, HXS⟩
  have u2 : (sk != 3) = true := by simpa using h3
  have HXN := Lib.hid (kinds_snoc HXS.out HSP.out h3 h6)
  clear h3 h6
  have p1 := HM2.out.bx.cell 1
  have HM3 := Lib.hid (HM2.out.later ((Below.refl _ y2).alloc (Nat.le_refl _) (.cells #[.int .i64 sk, .int .i64 sd, .int .i64 sn, .int .i64 sp, .int .i64 sq] 43)))
  have hb1 : x + 1 ≤ (y2.alloc (.cells #[.int .i64 sk, .int .i64 sd, .int .i64 sn, .int .i64 sp, .int .i64 sq] 43)).heap.size := by have := HM2.out.bx.lt; simp; omega
  go_upto_region 18 with (at_builtin; go_must (refine wpList_app rfl (.tmp 77) (.tmp 79) rfl el_step (by rfl) HM3.out.o (by rfl) (Sl.newest (n := 1) rfl rfl (by decide)) (by simp [Value.oneCell']) (by omega) (by omega) hb1 ?_; intro A' c' y4 hown7 hgr7 hat7; have HM4 := Lib.hid (HM3.out.app (f := ⟨sk, sd, sn, sp, sq⟩) hgr7 hown7 hg7); have q1 := HM4.out.1.cell 1; have q2 := HM4.out.1.frozen 1; clear hown7 hgr7 hat7))
  have HM5 := Lib.hid HM4.out.2
  clear HM4 HM3 HM2 q1 q2 p1 u1 u2 s0 s1 s2 s3 s4 hb1
  generalize World.setCell y4 _ _ = y5 at *
  go_wp2_with fail
  refine Handed.intro (gk - 1) (by omega) (hJ1 _ _ _ (LpI1.back 10 ?_ (by kernel_rfl)))
  dsimp only [gt]
  exact ⟨gk - 1, nx + 1, c', A', xs ++ [⟨sk, sd, sn, sp, sq⟩], by go_num, rfl, by omega, HM5, HXN⟩
 have q1 : decide ((gk : Int) > 0) = false := by simp; omega
 have q2 : decide (0 < (gk : Int)) = false := by simp; omega
 go_upto_region 22 with (fail)
 clear q1 q2
 have HXL : Hid (xs.length = nx) := (Sl.of_own HM.out.o).len (fun _ => rfl) (by decide)
 have hnx : nx ≤ 5 := by omega
 have HM9 : Hid (LmM w nb gb x An Ad As none Ap Ax nn cn nd cd cs 0 0 np cp nx cx ns ds m [] pr co ⟨#[80]⟩ xs wr) := ⟨HNN7.out, (HX7.out.grown HM.out.gr).1, HG7.out.grown HM.out.gr (fun e => by injection e; omega), Sl.nil _ _ _, (HP7.out.grown HM.out.gr).1, HM.out.bx, Sl.of_own HM.out.o⟩
 have HF9 : Hid (Sl wr wr.heap.size 1 Af nd cf (intsV f)) := (HF7.out.grown HM.out.gr).1
 clear HM HNN7 HX7 HG7 HF7 HP7 HN7 hlt2 hk
 have HD8 : Hid (ds.length ≤ 8) := by have := HND.out; unfold Hid; omega
 have HGL : Hid (GoodL ds []) := ⟨by simp, by simp, List.Pairwise.nil⟩
 have HX64 : Hid (xs.length ≤ 64) := by have := HXL.out; unfold Hid; omega
 have HXA : Hid (∀ y ∈ xs, spErr ns.length ds.length y = 0) := fun y hy => (HXS.out y hy).1
 have HEA : Hid (chErr ns ds m co [] pr ⟨#[80]⟩ xs = 0) := ch_made HME.out HCO.out HGL.out HRI.out (by decide) HX64.out HXA.out
 have HEB : Hid (chErr ns ds f co [] pr ⟨#[80]⟩ xs = 0) := ch_made HFE.out HCO.out HGL.out HRI.out (by decide) HX64.out HXA.out
 have HOA : Hid (ChOk ns ds ⟨m, [], pr⟩) := ⟨HME.out, sm_locks HCK.out HGL.out, HRI.out⟩
 have HOB : Hid (ChOk ns ds ⟨f, [], pr⟩) := ⟨HFE.out, sm_locks HCK.out HGL.out, HRI.out⟩
 have HPG : Hid (pgErr ns ds ⟨#[80]⟩ xs = 0) := pg_made HCK.out (by decide) HX64.out HXA.out
 have HFR := Lib.hid (fin_run (co := co) HD8.out xs 0 [] [] ⟨m, [], pr⟩ ⟨f, [], pr⟩ HOA.out HOB.out (fin_of HFI.out) (fun f hf => absurd hf (by simp)) HXS.out)
 have k0 := HM9.out.n.bx.cell 0; have k1 := HM9.out.n.bx.cell 1
 have g0 := HM9.out.g.cell 0; have g1 := HM9.out.g.cell 1; have g2 := HM9.out.g.cell 2
 have p0 := HM9.out.p.cell 0; have p1 := HM9.out.p.cell 1
 go_wp2_with fail
 clear k0 k1 g0 g1 g2 p0 p1
 refine (chRun_any An Ad As none Ap Ax nn cn nd cd nd cs 0 0 np cp nx cx ns ds m [] pr co ⟨#[80]⟩ xs wr (HM9.out.mem HNM.out (by decide) HM9.out.s)).mono ?_
 intro e w10 hpost
 obtain ⟨A1, A2, A3, A4, n1, c1, n2, c2, n3, c3, n4, c4, rfl, hR, hb10⟩ := hpost.okay HEA.out (chRun_e HD8.out _ _ _ _ HOA.out HXA.out)
 obtain ⟨Ra, hRR⟩ : ∃ R, R = chRun ns ds co 0 [] ⟨m, [], pr⟩ xs := ⟨_, rfl⟩
 rw [← hRR] at hR HFR
 have HR10 := Lib.hid hR.out
 have HM10 := Lib.hid (HM9.out.later hb10.out)
 have HF10 := Lib.hid ((HF9.out.below hb10.out (Nat.le_refl _)).more hb10.out.size)
 clear hpost hR hRR hb10 HM9 HF9
 go_upto_region 23 with (fail)
 have HBL : Hid (Below w10.heap.size w10 (w10.alloc (.cells #[.slice A1 n1 c1, .slice A2 n2 c2, .int .i64 co, .slice A3 n3 c3, .slice A4 n4 c4] 47))) := (Below.refl _ _).alloc (Nat.le_refl _) _
 have HW : Hid (LmW w nb gb x w10.heap.size An Ad As none Ap Ax nn cn nd cd cs 0 0 np cp nx cx ns ds m [] pr co ⟨#[80]⟩ xs A1 A2 A3 A4 n1 c1 n2 c2 n3 c3 n4 c4 Ra.o Ra.t (w10.alloc (.cells #[.slice A1 n1 c1, .slice A2 n2 c2, .int .i64 co, .slice A3 n3 c3, .slice A4 n4 c4] 47))) := ⟨HM10.out.later HBL.out, Blk.new w10 _ _, HR10.out.later8 HBL.out⟩
 have HF11 := Lib.hid ((HF10.out.below HBL.out (Nat.le_refl _)).more HBL.out.size)
 clear HM10 HR10 HF10 HBL
 generalize World.alloc w10 _ = w11 at *
 obtain ⟨ra, hra⟩ : ∃ x, x = w10.heap.size := ⟨_, rfl⟩
 rw [← hra] at HW ⊢
 clear hra
 have k0 := HW.out.z.n.bx.cell 0; have k1 := HW.out.z.n.bx.cell 1
 have g0 := HW.out.z.g.cell 0; have g1 := HW.out.z.g.cell 1; have g2 := HW.out.z.g.cell 2
 have p0 := HW.out.z.p.cell 0; have p1 := HW.out.z.p.cell 1
 go_wp2_with fail
 clear k0 k1 g0 g1 g2 p0 p1
 refine (chRun_any An Ad Af none Ap Ax nn cn nd cd nd cf 0 0 np cp nx cx ns ds f [] pr co ⟨#[80]⟩ xs w11 (HW.out.z.mem HNM.out (by decide) HF11.out)).mono ?_
 intro e w12 hpost
 obtain ⟨B1, B2, B3, B4, m1, e1, m2, e2, m3, e3, m4, e4, rfl, hR, hb12⟩ := hpost.okay HEB.out (chRun_e HD8.out _ _ _ _ HOB.out HXA.out)
 obtain ⟨Rb, hRR⟩ : ∃ R, R = chRun ns ds co 0 [] ⟨f, [], pr⟩ xs := ⟨_, rfl⟩
 rw [← hRR] at hR HFR
 have HR12 := Lib.hid hR.out
 have HW12 := Lib.hid (HW.out.later hb12.out)
 clear hpost hR hRR hb12 HW HF11
 go_upto_region 24 with (fail)
 have HBL : Hid (Below w12.heap.size w12 (w12.alloc (.cells #[.slice B1 m1 e1, .slice B2 m2 e2, .int .i64 co, .slice B3 m3 e3, .slice B4 m4 e4] 47))) := (Below.refl _ _).alloc (Nat.le_refl _) _
 have HBK := Lib.hid (Blk.new w12 47 #[.slice B1 m1 e1, .slice B2 m2 e2, .int .i64 co, .slice B3 m3 e3, .slice B4 m4 e4])
 have HR13 := Lib.hid (HR12.out.later8 HBL.out)
 have HW13 := Lib.hid (HW12.out.later HBL.out)
 clear HR12 HW12 HBL
 generalize World.alloc w12 _ = w13 at *
 obtain ⟨rb, hrb⟩ : ∃ x, x = w12.heap.size := ⟨_, rfl⟩
 rw [← hrb] at HBK ⊢
 clear hrb
 obtain ⟨M2, hM2⟩ : ∃ M2 : World → Prop, M2 = fun W' => LmW w nb gb x ra An Ad As none Ap Ax nn cn nd cd cs 0 0 np cp nx cx ns ds m [] pr co ⟨#[80]⟩ xs A1 A2 A3 A4 n1 c1 n2 c2 n3 c3 n4 c4 Ra.o Ra.t W' ∧ RnAt W' B1 B2 B3 B4 m1 e1 m2 e2 m3 e3 m4 e4 Rb.o Rb.t ∧ Blk W' rb 47 #[.slice B1 m1 e1, .slice B2 m2 e2, .int .i64 co, .slice B3 m3 e3, .slice B4 m4 e4] := ⟨_, rfl⟩
 have HMK : Hid (∀ {W1 W2 : World}, M2 W1 → Below W1.heap.size W1 W2 → M2 W2) := by
  rw [hM2]; exact fun h hb => ⟨h.1.later hb, h.2.1.later8 hb, h.2.2.below hb h.2.2.lt⟩
 have HMO : Hid (∀ W', M2 W' → LmW w nb gb x ra An Ad As none Ap Ax nn cn nd cd cs 0 0 np cp nx cx ns ds m [] pr co ⟨#[80]⟩ xs A1 A2 A3 A4 n1 c1 n2 c2 n3 c3 n4 c4 Ra.o Ra.t W' ∧ RnAt W' B1 B2 B3 B4 m1 e1 m2 e2 m3 e3 m4 e4 Rb.o Rb.t ∧ Blk W' rb 47 #[.slice B1 m1 e1, .slice B2 m2 e2, .int .i64 co, .slice B3 m3 e3, .slice B4 m4 e4]) := fun W' h => by rw [hM2] at h; exact h
 have HMW : Hid (M2 w13) := by unfold Hid; rw [hM2]; exact ⟨HW13.out, HR13.out, HBK.out⟩
 clear hM2 HBK HR13 HW13
 have r1 := (HMO.out _ HMW.out).1.b.cell 1
 have t1 := (HMO.out _ HMW.out).2.2.cell 1
 go_wp2_with fail
 clear r1 t1
 refine (finer_any B2 A2 m2 e2 n2 c2 w13.heap.size w13.heap.size Rb.t.s Ra.t.s w13 (HMO.out _ HMW.out).2.1.s (HMO.out _ HMW.out).1.o.s (Nat.le_refl _) (Nat.le_refl _)).mono ?_
 rintro e w14 ⟨rfl, hb⟩
 rw [dec_it (p := finB Rb.t.s Ra.t.s) (finB_of HFR.out.2.1 HFR.out.2.2.1 HFR.out.2.2.2)]
 have HMX := Lib.hid (HMK.out HMW.out hb)
 clear hb HMW
 have HQL : Hid (Rb.o.length = m1) := (HMO.out _ HMX.out).2.1.o.len (f := Fn.cells) (fun _ => rfl) (by decide)
 have HNL : Hid (Ra.o.length = n1) := (HMO.out _ HMX.out).1.o.o.len (f := Fn.cells) (fun _ => rfl) (by decide)
 have hm1 : m1 ≤ 9223372036854775807 := by have := (HMO.out _ HMX.out).2.1.o.le; omega
 have hn1 : n1 ≤ 9223372036854775807 := by have := (HMO.out _ HMX.out).1.o.o.le; omega
 have HI := Lib.hid HFR.out.1
 have r0 := (HMO.out _ HMX.out).2.2.cell 0
 go_upto_region 27 with (fail)
 clear r0
 refine wp_loop_u1 [(1, 0), (0, 1), (13, 0), (1, 1), (0, 0), (0, 1), (93, 0), (0, 2), (22, 1), (6, 0)] 115 (m1) (FdR M2 m1) (by (try dsimp only [gt]); exact ⟨0, rfl, Nat.zero_le _, rfl, HMX⟩) (by kernel_rfl) ?_
 intro u1 p115 gk wr2 a hrel ha J1 K1 hJ1 hK1
 dsimp only [relaxR, Go.Proofs.YtkkobemhbicjgaaGreatDoor.v1, Nat.reduceAdd] at ha
 subst ha
 clear HMX
 obtain ⟨j, rfl, hj, rfl, hM⟩ := hrel
 have HM := Lib.hid hM.out
 clear hM
 by_cases hjl : j < m1
 ·have u0 : decide (j < m1) = true := by simpa using hjl
  obtain ⟨bf, of, z1, z2, hCF, hbf, hf, hc1, hc2⟩ := (HMO.out _ HM.out).2.1.o.fnd hjl
  have HCF := Lib.hid hCF
  have HIN := Lib.hid (incl_anyf HI.out (List.mem_of_getElem? hf))
  clear hCF hbf hf
  rw [HCF.out]
  go_upto_region 29 with (fail)
  clear hc1 hc2 u0
  have HBL : Hid (Below wr2.heap.size wr2 (wr2.alloc (.cells #[.int .i64 z1, .int .i64 z2] 53))) := (Below.refl _ _).alloc (Nat.le_refl _) _
  have HFB := Lib.hid (Blk.new wr2 53 #[.int .i64 z1, .int .i64 z2])
  have HMn := Lib.hid (HMK.out HM.out HBL.out)
  clear HM HBL
  generalize World.alloc wr2 _ = X at *
  obtain ⟨xb, hxb⟩ : ∃ x, x = wr2.heap.size := ⟨_, rfl⟩
  rw [← hxb] at HFB ⊢
  clear hxb
  have v0 := HFB.out.c0
  have v1 := HFB.out.c1
  have r0 := (HMO.out _ HMn.out).1.b.cell 0
  obtain ⟨U, hU⟩ : ∃ U, U = (z2 == 7) := ⟨_, rfl⟩
  have HU : Hid ((U || Ra.o.any fun y => Fn.eqB ⟨z1, z2⟩ y) = true) := by rw [hU]; exact HIN.out
  have hu := hU.symm
  clear hU HIN
  go_upto_region 31 with (fail)
  clear v0 v1 r0 hu
  refine wp_loop_u2 [(17, 0), (0, 3), (0, 0), (0, 1), (103, 0), (0, 2), (9, 1), (9, 0)] 125 18 (n1) (FdH (fun W' => M2 W' ∧ Blk W' xb 53 #[.int .i64 z1, .int .i64 z2]) U Ra.o (fun y => Fn.eqB ⟨z1, z2⟩ y) n1) (by (try dsimp only [gt]); exact ⟨0, rfl, Nat.zero_le _, rfl, by simp, ⟨HMn.out, HFB.out⟩⟩) (by kernel_rfl) ?_
  intro u2 p125 p18 gk3 wr3 a hrel ha J2 K2 hJ2 hK2
  dsimp only [relaxR, Go.Proofs.YtkkobemhbicjgaaGreatDoor.v2, Nat.reduceAdd] at ha
  subst ha
  clear HMn HFB
  obtain ⟨t, rfl, ht, rfl, rfl, hM⟩ := hrel
  have HM := Lib.hid hM.out.1; have HFB := Lib.hid hM.out.2
  clear hM
  by_cases htl : t < n1
  ·have u0 : decide (t < n1) = true := by simpa using htl
   obtain ⟨ba, oa, y1, y2, hA1, hba, hf, hc1, hc2⟩ := (HMO.out _ HM.out).1.o.o.fnd htl
   have HA1 := Lib.hid hA1
   have HY : Hid (Ra.o[t]? = some ⟨y1, y2⟩) := hf
   clear hA1 hba hf
   rw [HA1.out]
   go_upto_region 33 with (fail)
   clear hc1 hc2 u0
   have HBL : Hid (Below wr3.heap.size wr3 (wr3.alloc (.cells #[.int .i64 y1, .int .i64 y2] 53))) := (Below.refl _ _).alloc (Nat.le_refl _) _
   have HYB := Lib.hid (Blk.new wr3 53 #[.int .i64 y1, .int .i64 y2])
   have HMn := Lib.hid (HMK.out HM.out HBL.out)
   have HFn := Lib.hid (HFB.out.below HBL.out HFB.out.lt)
   clear HM HFB HBL
   generalize World.alloc wr3 _ = Y at *
   obtain ⟨yb, hyb⟩ : ∃ x, x = wr3.heap.size := ⟨_, rfl⟩
   rw [← hyb] at HYB ⊢
   clear hyb
   have v0 := HFn.out.c0
   have v1 := HFn.out.c1
   have e0 := HYB.out.c0
   have e1' : Y.cell? ⟨yb, 1, none⟩ = some (.int .i64 y2) := HYB.out.cell 1
   have hq := run_eql_fn z1 z2 y1 y2
   have HA : Hid ((Ra.o.take (t + 1)).any (fun y => Fn.eqB ⟨z1, z2⟩ y) = ((Ra.o.take t).any (fun y => Fn.eqB ⟨z1, z2⟩ y) || Fn.eqB ⟨z1, z2⟩ ⟨y1, y2⟩)) := any_snc HY.out
   generalize (Ra.o.take t).any (fun y => Fn.eqB ⟨z1, z2⟩ y) = T1 at *
   generalize Fn.eqB ⟨z1, z2⟩ ⟨y1, y2⟩ = U1 at *
   have hkk : IntKind.i64.wrap ((t : Int) + 1) = (t : Int) + 1 := IntWalk.i64_in _ (by omega)
   rcases U with _ | _ <;> rcases T1 with _ | _
   all_goals
    go_wp2_with fail
    rw [← HA1.out]
    refine Handed.intro (n1 - (t + 1)) (by omega) (hJ2 _ _ _ (LpI2.back 125 18 ?_ (by kernel_rfl)))
    dsimp only [gt]
    exact ⟨t + 1, by go_num, by omega, rfl, by rw [HA.out]; rfl, ⟨HMn.out, HFn.out⟩⟩
  have u0 : decide (t < n1) = false := by simpa using htl
  rw [show (U || (Ra.o.take t).any fun y => Fn.eqB ⟨z1, z2⟩ y) = true by rw [List.take_of_length_le (by rw [HNL.out]; omega)]; exact HU.out]
  have hkk : IntKind.i64.wrap ((j : Int) + 1) = (j : Int) + 1 := IntWalk.i64_in _ (by omega)
  go_wp2_with fail
  rw [← HCF.out]
  refine Handed.intro (m1 - (j + 1)) (by omega) (hJ1 _ _ _ (LpI1.back 115 ?_ (by kernel_rfl)))
  dsimp only [gt]
  exact ⟨j + 1, by go_num, by omega, rfl, HM⟩
 have u0 : decide (j < m1) = false := by simpa using hjl
 have HZ := Lib.hid (HMO.out _ HM.out).1.z
 have k0 := HZ.out.n.bx.cell 0; have k1 := HZ.out.n.bx.cell 1
 have p0 := HZ.out.p.cell 0; have p1 := HZ.out.p.cell 1
 go_wp2_with fail
 clear k0 k1 p0 p1 u0
 refine (rpgcheck_any An Ad Ax nn cn nd cd nx cx ns ds ⟨#[80]⟩ xs wr2 ⟨HZ.out.n.hn.1, HZ.out.n.hd.1, HZ.out.x, HZ.out.n.la, HNM.out.1, HNM.out.2, by decide⟩).mono ?_
 rintro e w15 ⟨rfl, hb⟩
 rw [HPG.out]
 have HZ2 := Lib.hid (HZ.out.later hb)
 clear hb HZ HM
 go_wp2_with fail
 refine (awake_any w15 HZ2.out.n.la).mono ?_
 rintro e w16 ⟨rfl, hb⟩
 go_wp2_with fail
 go_ret
 exact ⟨rfl, HZ2.out.n.bl.trans (hb.mono HZ2.out.n.bl.size)⟩
end Go.Proofs.YtkkobemhbicjgaaGreatDoor
