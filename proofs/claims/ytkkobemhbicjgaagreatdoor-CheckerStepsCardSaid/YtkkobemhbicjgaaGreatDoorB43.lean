import Derived.Test.YtkkobemhbicjgaaGreatDoorB42
import Derived.Test.YtkkobemhbicjgaaGreatDoorRows
import Derived.Test.YtkkobemhbicjgaaGreatDoorB00
import Derived.LaidLaws
import Derived.Deep.DeepLaidRun
import Derived.Handed
set_option maxRecDepth 100000
set_option maxHeartbeats 32000000
namespace Go.Proofs.YtkkobemhbicjgaaGreatDoor
open Go.RowKit _root_.Go.Proofs.Tryz
theorem walk_CheckerSteps (w : World) (hl : Laid w) (A : Option Addr) (n c : Nat) (zs : List Int) (hs : BI w 1 A n c (zE zs)) (_hz : ∀ z ∈ zs, (Lit.int .i64 z).wf = true) :
 Calls prog 7 #[.slice A n c] w fun e w' => e = .returned (.bool true) ∧ bW w w' := by
 have EH := hs.le;have HL := iD hl; have HS := iD hs;clear hl hs _hz;have HF := iD (fC A n c w (by omega));rcases hf : decide (n ≤ 400) with _ | _
 ·rw [hf] at HF;clear hf
  go_enter func7, ntmps7
  go_wp2_with fail
  refine HF.mono ?_;rintro e w1 ⟨rfl, rfl⟩
  go_wp2_with fail
  refine (sS w HL).mono ?_;rintro e w1 ⟨rfl, hb⟩
  go_wp2_with fail
  go_ret;exact ⟨rfl, hb⟩
 rw [hf] at HF;clear hf
 go_enter func7, ntmps7
 go_wp2_with fail
 refine HF.mono ?_;rintro e w1 ⟨rfl, rfl⟩
 go_wp2_with fail
 refine (gj A n c w.heap.size zs w HS lR).mono ?_;rintro e w1 ⟨rfl, BB, AV, Bc⟩
 go_wp2_with fail
 refine (jI w.heap.size 5 8 w1 BB (by decide) (by decide)).mono ?_;rintro e w2 ⟨An, nn, cn, ns, Ad, nd, cd, ds, rfl, Gy, DD, Ul, Um, IC⟩;have Qe := Jr.mk0 HL AV Bc Gy DD Ul Um IC.out;have AK := iD Qe.2.1; have OD := iD Qe.2.2;have Hf := iD Qe.1;have Ab := iD IC.out;have AP : nd ≤ 8 := by have := IC.dm; rw [OD.out] at this; omega
 have Uv : 1 ≤ nd := by have := IC.d1; rw [OD.out] at this; omega
 have Bq : nn ≤ 5 := by have := IC.nm; rw [AK.out] at this; omega
 have Fw := iD Ab.names;have Cm := iD (Ab.check (by decide) (by decide));clear Qe BB AV Bc Gy DD Ul Um IC HS HF
 go_wp2_with fail
 generalize World.alloc _ _ = w3 at *;obtain ⟨nb, CF⟩ := eX w2.heap.size;rw [← CF] at Hf ⊢;clear CF;refine (nP w.heap.size An Ad nn cn nd cd 3 ds w3 Hf.dk Hf.hd (by omega) (by decide)).mono ?_;rintro e w5 ⟨As, cs, m, rfl, VF, GL, ET, Ga, GM⟩;have Gs : Hid (Jr w nb An nn cn ns Ad nd cd ds w5 ∧ Dx w5 w.heap.size 1 As nd cs (zE m)) := ⟨Hf.grown HL GL VF, Dx.of_own ET (by have := Hf.bl.size; have := Hf.bx.lt; have := Hf.ge; omega)⟩;have FU : Hid (m.length = nd) := ET.len;have BK : Hid (zU ns ds m = 0) := by unfold Hid zU; rw [if_neg (by rw [Cm.out]; simp), if_neg (by rw [FU.out, OD.out]; simp), if_pos Ga.out]
 have Bb : w.heap.size < w5.heap.size := VF.lt;clear VF GL ET Ga GM Hf;go_upto_region 6 with (fail);obtain ⟨M, hM⟩ : ∃ M : World → Prop, M = fun W' => Jr w nb An nn cn ns Ad nd cd ds W' ∧ Dx W' w.heap.size 1 As nd cs (zE m) := ⟨_, rfl⟩
 have Qf : Hid (vN w.heap.size M) := by unfold Hid; rw [hM]; exact (vN.lwn HL).and vN.slx
 have Kn : Hid (∀ W', M W' → Jr w nb An nn cn ns Ad nd cd ds W' ∧ Dx W' w.heap.size 1 As nd cs (zE m)) := fun W' h => by rw [hM] at h; exact h
 have AO : Hid (M w5) := by unfold Hid; rw [hM]; exact Gs.out
 have TW : w.heap.size < w5.heap.size := Bb;have Kz := iD Gs.1.dk;have Lb : Hid (∀ W', KD w5 w.heap.size W' → M W') := fun W' h => Qf.grown AO h.2 h.1
 clear hM Gs;refine uf (S := fun W' => W'.cell? ⟨nb, 0, none⟩ = some (.slice An nn cn) ∧ W'.cell? ⟨nb, 1, none⟩ = some (.slice Ad nd cd)) (J := []) (n := _) ((0, true) :: (1, true) :: (2, true) :: (3, true) :: (4, true) :: []) ((8, false) :: []) [5, 6] [7] #[true, true, true, true, true, false, false, false, false] #[true, true, true, true, true, true, true, true, false] (by as_aux_lemma => kernel_rfl) (by rfl) (xg (k := 3) (by go_simp; rfl) (xg (k := 4) (by go_simp; rfl) (xg (k := 5) (by go_simp; rfl) mM))) ?_ (fun _ _ _ _ _ h => h) (fun Q2 A hsz CR QB AA => ?_)
 ·exact ⟨(Kn _ AO).1.bx.cell 0, (Kn _ AO).1.bx.cell 1⟩
 try dsimp only at AA
 obtain ⟨b3, b4, b5, -⟩ := CR;refine ⟨qT A [(39, .slice As nd cs), (38, .agg #[.slice An nn cn, .slice Ad nd cd]), (37, .pointer (some ⟨w.heap.size, 0, none⟩)), (36, .agg #[.slice An nn cn, .slice Ad nd cd]), (35, .pointer (some ⟨w.heap.size, 0, none⟩))] 7 6 w5.heap.size 37 #[.int .i64 0, .slice none 0 0, .slice none 0 0] [(5, 40), (6, 41)] (Po ds m nn 2 w5 w.heap.size), ?_, ?_, ?_, ?_⟩
 ·refine oM 0 35 ?_ rfl rfl rfl (zd rfl) AA (fun ρ AB => ?_) ?_;rotate_left
  ·(have e3 := tm AB hsz 3 rfl (xV b3); exact e3)
  refine oT 1 36 ?_ rfl rfl (zd rfl) AA (fun ρ AB w AL => ?_) ?_;rotate_left
  ·(have e4 := tm AB hsz 4 rfl (zx rfl (xV b4)); clear AB; (try dsimp only at AL); go_simp; try with_reducible rfl)
  refine oM 2 37 ?_ rfl rfl rfl (zd rfl) AA (fun ρ AB => ?_) ?_;rotate_left
  ·(have e3 := tm AB hsz 3 rfl (zx rfl (zx rfl (xV b3))); exact e3)
  refine oT 3 38 ?_ rfl rfl (zd rfl) AA (fun ρ AB w AL => ?_) ?_;rotate_left
  ·(have e4 := tm AB hsz 4 rfl (zx rfl (zx rfl (zx rfl (xV b4)))); clear AB; (try dsimp only at AL); go_simp; try with_reducible rfl)
  refine oM 4 39 ?_ rfl rfl rfl (zd rfl) AA (fun ρ AB => ?_) ?_;rotate_left
  ·(have e5 := tm AB hsz 5 rfl (iU rfl rfl rfl rfl (xV b5)); exact e5)
  exact lz ⟨[], 0, rfl, by decide, by decide, rfl, ⟨Kz.drew, rx (yx _ _)⟩, (show yi w5.heap.size _ _ _ _ _ from yi.start w5.drew 0)⟩
 ·intro c cs D a w0 h;obtain ⟨vs, x7, hC, AP, Av, rfl, hf, hm⟩ := h;rcases vs with _ | ⟨v1, _ | ⟨v2, _⟩⟩
  ·obtain ⟨rfl, rfl⟩ : c = 5 ∧ cs = [6] := by simpa using hC
   have Oi := Lb _ hf;have hle := hm.le;refine rk (d := 40) (vs := #[.pointer (some ⟨w.heap.size, 0, none⟩), .agg #[.slice An nn cn, .slice Ad nd cd], .slice As nd cs, .int .i64 2]) rfl rfl rfl rfl (fun ρ AB => ?_) ?_ ?_
   ·(have hc := AB.const; have Bs := tm AB hsz 37 rfl (xU rfl (zx rfl (zx rfl ya))); have Br := tm AB hsz 38 rfl (xU rfl (zx rfl ya)); have Rk := tm AB hsz 39 rfl (xU rfl ya); simp only [List.map_toArray, List.map_cons, List.map_nil, Bs, Br, Rk, hc])
   ·(intro w; go_simp)
   refine (nQ w.heap.size An Ad As nn cn nd cd nd cs 2 ns ds m w0 hf.1 (Kn _ Oi).1.hn (Kn _ Oi).1.hd (Kn _ Oi).2 (by omega) (by decide) Fw.1 Fw.2).mono ?_;rintro e w6 ⟨Ag, mg, cg, ls, rfl, KP, JS, Tg, AG⟩;have DZ : KD w5 w.heap.size w6 := ⟨KP, zG hf.2 JS⟩;refine ⟨_, rfl, fun _ => ?_, [.slice Ag mg cg], x7, rfl, AP, Av, sI A (by decide), ?_, hm.grown JS TW⟩
   ·exact ⟨(Kn _ (Lb _ DZ)).1.bx.cell 0, (Kn _ (Lb _ DZ)).1.bx.cell 1⟩
   ·exact ⟨DZ, Ag, mg, cg, ls, rfl, World.ownsRow.mono Tg (by omega), AG⟩
  ·obtain ⟨rfl, rfl⟩ : c = 6 ∧ cs = [] := by simpa using hC
   obtain ⟨hB, Ag, mg, cg, ls, rfl, hO, hL⟩ := hf;have hle := hm.le;refine rk (d := 41) (vs := #[.pointer (some ⟨w.heap.size, 0, none⟩), .agg #[.slice An nn cn, .slice Ad nd cd], .slice Ag mg cg]) rfl rfl rfl rfl (fun ρ AB => ?_) ?_ ?_
   ·(have Bw := tm AB hsz 35 rfl (xU rfl (zx rfl (zx rfl (zx rfl (zx rfl (zx rfl ya)))))); have Bt := tm AB hsz 36 rfl (xU rfl (zx rfl (zx rfl (zx rfl (zx rfl ya))))); have Bp := tm AB hsz 40 rfl (xU rfl ya); simp only [List.map_toArray, List.map_cons, List.map_nil, Bw, Bt, Bp])
   ·(intro w; go_simp)
   refine (qW w.heap.size An Ad Ag nn cn nd cd mg cg w0 hB.1 (by omega)).mono ?_;rintro e w6 ⟨co, Ap, np, cp, pr, rfl, DT, KP, JS, Tg, AG⟩;have DZ : KD w5 w.heap.size w6 := ⟨KP, zG hB.2 JS⟩;refine ⟨_, rfl, fun _ => ?_, [.slice Ag mg cg, .agg #[.int .i64 co, .slice Ag mg cg, .slice Ap np cp]], x7, rfl, AP, Av, sI A (by decide), ?_, hm.grown JS TW⟩
   ·exact ⟨(Kn _ (Lb _ DZ)).1.bx.cell 0, (Kn _ (Lb _ DZ)).1.bx.cell 1⟩
   ·exact ⟨DZ, Ag, mg, cg, ls, co, Ap, np, cp, pr, rfl, rfl, DT, World.ownsRow.kept hO JS (zb fun b e => by have := (World.ownsRow.lt hO b e).1; omega), Tg.mono hle, hL, AG.1, AG.2⟩
  ·simp at hC
 ·exact fun C D i a w0 hi h => wpOp_mono (fun a1 w1 h1 => ⟨fun _ => (by obtain ⟨CJ, _, _, _, _, _, Aj, _⟩ := h1; exact ⟨(Kn _ (Lb _ (Po.bas Aj))).1.bx.cell 0, (Kn _ (Lb _ (Po.bas Aj))).1.bx.cell 1⟩), h1⟩) (qT.alloc (fun vs w2 o h => Po.alloc o h) rfl rfl rfl (fun ρ w2 => by go_simp; rfl) i hi h)
 ·intro a w0 h;obtain ⟨vs, x7, hC, -, -, rfl, hf, hm⟩ := h;rcases vs with _ | ⟨v1, _ | ⟨v2, _ | ⟨v3, _⟩⟩⟩
  ·simp at hC
  ·simp at hC
  rotate_left
  ·exact hf.elim
  clear hC;obtain ⟨hB, Ag, mg, cg, ls, co, Ap, np, cp, pr, rfl, rfl, DT, hO, Dc, hL, Kt, Pz⟩ := hf;have h7 := (hm.m7 rfl).1;have MV := (hm.m7 rfl).2;have HX := iD (eN.of hB h7 MV TW hO Dc co);have Sd := iD h7;have Tt := iD MV;have NV := iD hL;have Ay := iD Pz;have BD := iD Kt;clear hm hO Dc h7 MV hL Kt Pz
  show Ch _ _ _ _ _ _ (yJ A [(6, ptr x7), (41, .agg #[.int .i64 co, .slice Ag mg cg, .slice Ap np cp]), (40, .slice Ag mg cg), (39, .slice As nd cs), (38, .agg #[.slice An nn cn, .slice Ad nd cd]), (37, .pointer (some ⟨w.heap.size, 0, none⟩)), (36, .agg #[.slice An nn cn, .slice Ad nd cd]), (35, .pointer (some ⟨w.heap.size, 0, none⟩))]) _
  refine pC (i := 8) (w' := ?_) rfl rfl (zd rfl) (fun ρ AB => ?_) (fun _ => ?_) ?_;rotate_left
  ·(have e6 := tm AB hsz 6 rfl ya; have Bn := tm AB hsz 41 rfl (zx rfl ya); refine (pp ρ _ _ _ _ x7 co Ag Ap mg cg np cp ?_ e6 Bn Sd); rfl)
  ·exact ⟨(Kn _ (Lb _ HX.b)).1.bx.cell 0, (Kn _ (Lb _ HX.b)).1.bx.cell 1⟩
  refine nI QB ?_;clear QB b3 b4 b5 hsz A Q2;simp only [nE, qz, lp, fU, fV, ptr];have hX := HX.out;unfold set3 at hX;clear HX Sd hB;generalize World.setCell _ _ _ = WS at *;have Uz : w5.heap.size ≤ x7 := Tt.out;obtain ⟨M3, AE⟩ : ∃ M3 : World → Prop, M3 = fun W' => (Jr w nb An nn cn ns Ad nd cd ds W' ∧ Dx W' w.heap.size 1 As nd cs (zE m)) ∧ AJ W' x7 37 #[.int .i64 co, .slice Ag mg cg, .slice Ap np cp] ∧ Dx W' w.heap.size 3 Ag mg cg (ls.flatMap Lk.cells) ∧ Dx W' w.heap.size 1 Ap np cp (zE pr) := ⟨_, rfl⟩
  have EC : Hid (vN w.heap.size M3) := by unfold Hid; rw [AE]; exact ((vN.lwn HL).and vN.slx).and ((vN.blk (by omega)).and (vN.slx.and vN.slx))
  have FV : Hid (∀ W', M3 W' → (Jr w nb An nn cn ns Ad nd cd ds W' ∧ Dx W' w.heap.size 1 As nd cs (zE m)) ∧ AJ W' x7 37 #[.int .i64 co, .slice Ag mg cg, .slice Ap np cp] ∧ Dx W' w.heap.size 3 Ag mg cg (ls.flatMap Lk.cells) ∧ Dx W' w.heap.size 1 Ap np cp (zE pr)) := fun W' h => by rw [AE] at h; exact h
  have Pb : Hid (M3 WS) := by unfold Hid; rw [AE]; exact ⟨Kn _ (Lb _ hX.b), hX.b7, Dx.of_own hX.hl TW, Dx.of_own hX.hp TW⟩
  have HZ : Hid (∀ W', M3 W' → yc W' An Ad As Ag Ap nn cn nd cd nd cs mg cg np cp ns ds m ls pr) := fun W' h => ⟨(FV _ h).1.1.hn.1, (FV _ h).1.1.hd.1, (FV _ h).1.2.1, (FV _ h).2.2.1.1, (FV _ h).2.2.2.1, (FV _ h).1.1.la, Fw.1, Fw.2⟩
  have Vx : Hid (yr ns.length (-1) pr = true) := by unfold Hid; rw [AK.out]; exact Ay.out
  have CU : mg ≤ 1000 := by have h1 := (hX.hl : zk _ _ _ _ _ _).len; have h2 := NV.2.1; omega
  have TQ : np ≤ 1000 := by have := BD.out; omega
  clear AE Lb Kn Qf AO Kz hX M Ay BD Uz Tt;have Us : 2 ≤ nn := by have := Ab.n2; rw [AK.out] at this; omega
  go_upto_region 7 with (fail);obtain ⟨k0, k1⟩ := (FV _ Pb).1.1.bx.d2
  go_wp2_with fail
  clear k0 k1;refine (lC w.heap.size An Ad nn cn nd cd 7 WS (FV _ Pb).1.1.dk (by omega) (by omega) (by omega) (by omega) (by decide)).mono ?_;rintro e w8 ⟨nm, Ax, nx, cx, xs, rfl, EH, hsp, Aq, Ak, Ai⟩;have MK := iD (EC.grown Pb Ai Ak);have Fh : Hid (yO (BA nm) = true) := EH.out
  have Aa : Hid (nm.size ≤ 9223372036854775807) := by
   have h := EH.out;unfold yO at h;simp only [Bool.and_eq_true, decide_eq_true_eq, tH] at h;have := h.2; unfold Hid; omega
  have SB : Hid (zz ns.length ds.length xs = 0 ∧ xs.length = nx) := by unfold Hid; rw [AK.out, OD.out]; exact ⟨hsp.1, hsp.2.1⟩
  have CS : nx ≤ 7 := hsp.2.2;have BF : Hid (Dx w8 w.heap.size 5 Ax nx cx (xs.flatMap Sp.cells)) := Dx.of_own Aq (FV _ Pb).1.1.dk.lt;clear EH hsp Ak Ai Aq Pb;go_upto_region 8 with (fail);have Bh : Hid (Below w8.heap.size w8 (w8.alloc (.cells #[.string nm, .slice Ax nx cx] 41))) := (Below.refl _ _).alloc lR _;have GR : Hid (Rt w nb x7 w8.heap.size An Ad As Ag Ap Ax nn cn nd cd cs mg cg np cp nx cx ns ds m ls pr co nm xs (w8.alloc (.cells #[.string nm, .slice Ax nx cx] 41))) := ⟨(FV _ MK).1.1.later Bh, ((FV _ MK).1.2.below Bh).1, (FV _ MK).2.1.below Bh (FV _ MK).2.1.lt, ((FV _ MK).2.2.1.below Bh).1, ((FV _ MK).2.2.2.below Bh).1, AJ.new w8 _ _, (BF.below Bh).1⟩;clear Bh MK BF FV EC;generalize World.alloc w8 _ = w9 at *;obtain ⟨pb, Ob⟩ := eX w8.heap.size;rw [← Ob] at GR ⊢;clear Ob;have EX := iD DT;have Af : Hid (ds.length ≤ 8) := by have := OD.out; unfold Hid; omega
  have Cz : Hid (xs.length ≤ 64) := by have := SB.2; unfold Hid; omega
  have AX := iD (vc SB.1);have Ed : Hid (yX ns ds m co ls pr nm xs = 0) := kN BK EX NV.1 Vx Fh Cz AX.out;have Bv : Hid (uL ns ds ⟨m, ls, pr⟩) := ⟨BK, tM Cm NV.1, Vx⟩;obtain ⟨k0, k1⟩ := GR.n.bx.d2;obtain ⟨g0, g1, g2⟩ := GR.g.d3;obtain ⟨p0, p1⟩ := GR.p.d2
  go_wp2_with fail
  clear k0 k1 g0 g1 g2 p0 p1;refine (pT An Ad As Ag Ap Ax nn cn nd cd nd cs mg cg np cp nx cx ns ds m ls pr co nm xs w9 (GR.mem Fw Aa GR.s)).mono ?_;intro e Lp JQ;obtain ⟨A1, A2, A3, A4, n1, c1, n2, c2, n3, c3, n4, c4, rfl, hR, JW⟩ := JQ.okay Ed (kO Af _ _ _ _ Bv AX);obtain ⟨R, AW⟩ := eX (zo ns ds co 0 [] ⟨m, ls, pr⟩ xs);rw [← AW] at hR;have Jd := iD AW;have Vw := iD hR.out;have WO := iD (GR.later JW);clear JQ hR AW JW GR;go_upto_region 10 with (fail);have Bh : Hid (Below Lp.heap.size Lp (Lp.alloc (.cells #[.slice A1 n1 c1, .slice A2 n2 c2, .int .i64 co, .slice A3 n3 c3, .slice A4 n4 c4] 47))) := (Below.refl _ _).alloc lR _
  have HW : Hid (PH w nb x7 pb Lp.heap.size An Ad As Ag Ap Ax nn cn nd cd cs mg cg np cp nx cx ns ds m ls pr co nm xs A1 A2 A3 A4 n1 c1 n2 c2 n3 c3 n4 c4 R.o R.t (Lp.alloc (.cells #[.slice A1 n1 c1, .slice A2 n2 c2, .int .i64 co, .slice A3 n3 c3, .slice A4 n4 c4] 47))) := ⟨WO.later Bh, AJ.new Lp _ _, Vw.later8 Bh⟩;clear WO Vw Bh;generalize World.alloc Lp _ = Ct at *;obtain ⟨rb, RH⟩ := eX Lp.heap.size;rw [← RH] at HW ⊢;clear RH;refine kc [(10, 0), (0, 2), (0, 3), (10, 0), (59, 1), (2, 0), (133, 1)] (StC Ct co m ls pr nd mg np) ?rest0 ?first0
  case first0 =>
   intro Ce Cc Re Bi;have Bj : Hid (Below Ct.heap.size Ct Ct.drew) := (Below.refl _ _).drew;have Bd := HW.z.s.le;refine fv (PH w nb x7 pb rb An Ad As Ag Ap Ax nn cn nd cd cs mg cg np cp nx cx ns ds m ls pr co nm xs A1 A2 A3 A4 n1 c1 n2 c2 n3 c3 n4 c4 R.o R.t) [6] ?_ fun AA => ?_
   ·exact HW.later (Below.refl _ _).drew
   try dsimp only at AA
   refine tk 0 53 (mf 7 1) AA ?_;refine ty 2 55 (ma 7 5) AA (y := by intro w AL; have u0 := AL.z.g.cell 0; have u1 := AL.z.g.cell 1; have u2 := AL.z.g.cell 2; go_simp; try with_reducible rfl) (h := ?_);refine yM (i := 1) (k := 4) (mf 7 3) (ma 7 21) (by kernel_rfl) (by kernel_rfl) (by kernel_rfl) rfl rfl (fun K hK => ?_) (fun K hK => ?_)
   ·(refine zt (d := some 54) (by rfl) (by rfl) _ (.tmp 53) (by rfl) yU (by rfl) (World.ownsRow_nil _ Ct.drew.heap.size _ _) (by rfl) AA.z.s (xI _) (by omega) (by omega) lR ?_; intro D1 f1 wh EG Gc JX; simp only [Nat.zero_add, List.nil_append] at EG Gc JX ⊢; have DY := iD EG; have CV : Hid (Below Ct.drew.heap.size Ct.drew wh) := zY Gc; clear EG Gc JX)
    refine hK _ _ (fun _ => AA.later CV.out) fun p => (fun AA => ?_) (p rfl)
    clear p hK K;(try dsimp only at AA);have Bj := iD (Bj.trans (CV.mono Bj.size));clear CV;refine yM (i := 3) (k := 4) (mf 7 4) (ma 7 23) (by kernel_rfl) (by kernel_rfl) (by kernel_rfl) rfl rfl (fun K hK => ?_) (fun K hK => ?_)
    ·(go_simp; refine (sE Ag Ap mg cg np cp _ co ls pr wh AA.z.l AA.z.r lR (by omega) (by omega)).mono ?_; rintro e wi ⟨D3, D4, f3, f4, rfl, Ep, EA, AZ⟩; have Az := iD Ep.out; have BC := iD EA.out; have CV := iD AZ.out; clear Ep EA AZ; go_simp)
     refine hK _ _ (fun _ => AA.later CV.out) fun p => (fun AA => ?_) (p rfl)
     clear p hK K;(try dsimp only at AA);have Bj := iD (Bj.trans (CV.mono Bj.size));have DY := iD (zI DY CV);clear CV;refine tb 4 (mf 7 5) fun K hK => ?_
     go_simp
     refine hK _ _ (fun _ => AA.later ((Below.refl wi.heap.size wi).alloc lR (.cells #[.int .i64 0, .slice none 0 0, .slice none 0 0] 37))) fun p => (fun AA => ?_) (p rfl)
     clear p hK K;(try dsimp only at AA);have CV : Hid (Below wi.heap.size wi (wi.alloc (.cells #[.int .i64 0, .slice none 0 0, .slice none 0 0] 37))) := ((Below.refl wi.heap.size wi).alloc lR (.cells #[.int .i64 0, .slice none 0 0, .slice none 0 0] 37));have Js : Hid (AJ (wi.alloc (.cells #[.int .i64 0, .slice none 0 0, .slice none 0 0] 37)) wi.heap.size 37 #[.int .i64 0, .slice none 0 0, .slice none 0 0]) := AJ.new wi _ _;have QV : Hid (Ct.heap.size ≤ wi.heap.size) := Bj.size;have Bj := iD (Bj.trans (CV.mono Bj.size));have DY := iD (zI DY CV);have Az := iD (zI Az CV);have BC := iD (zI BC CV);generalize World.alloc wi _ = wx at *;obtain ⟨BJ, FD⟩ := eX wi.heap.size;have HX : Hid (AJ wx BJ 37 #[.int .i64 0, .slice none 0 0, .slice none 0 0]) := by rw [FD]; exact Js.out
     have Cz : Hid (Ct.heap.size ≤ BJ) := by unfold Hid; rw [FD]; exact QV.out
     try rw [← FD]
     clear FD Js QV CV;refine tk 5 11 (mf 7 6) AA ?_;have EK := iD AA;obtain ⟨z0, z1, z2⟩ := HX.d3;obtain ⟨y0, y1, y2⟩ := HX.e3;refine tb 6 (mf 7 7) fun K hK => ?_
     go_simp
     refine hK _ _ (fun h => by cases h) (fun _ => ?_)
     try clear AA
     clear hK K;refine tK ?_;have Ed : Hid (Jq BJ co D1 D3 D4 nd f1 mg f3 np f4 ⟨m, ls, pr⟩ (((wx.setCell ⟨BJ, 0, none⟩ (.int .i64 co)).setCell ⟨BJ, 1, none⟩ (.slice D3 mg f3)).setCell ⟨BJ, 2, none⟩ (.slice D4 np f4))) := Jq.new HX DY Az BC.out;have OL : Hid (Bu 0 BJ none D1 nd ∧ Bu 0 BJ none D3 mg ∧ Bu 0 BJ none D4 np) := ⟨Bu.own DY (Nat.zero_le _) (zO DY HX (by decide)), Bu.own Az (Nat.zero_le _) (zO Az HX (by decide)), Bu.own BC (Nat.zero_le _) (zO BC HX (by decide))⟩;have FM : Hid (Below Ct.heap.size Ct (((wx.setCell ⟨BJ, 0, none⟩ (.int .i64 co)).setCell ⟨BJ, 1, none⟩ (.slice D3 mg f3)).setCell ⟨BJ, 2, none⟩ (.slice D4 np f4))) := ((Bj.setCell Cz.out _).setCell Cz.out _).setCell Cz.out _;clear z0 z1 z2 y0 y1 y2;generalize World.setCell (World.setCell (World.setCell wx _ _) _ _) _ _ = wz at *
     go_wp2_with fail
     refine Met.intro (Re _ _ (lj.back 11 12 ?_ (by kernel_rfl)))
     try dsimp only [gt]
     exact ⟨BJ, f1, f3, f4, D1, D3, D4, rfl, rfl, Ed, FM, Cz, OL⟩
    ·go_simp
     refine hK _ _ (fun _ => AA.later ((Below.refl wh.heap.size wh).alloc lR (.cells #[.int .i64 0, .slice none 0 0, .slice none 0 0] 37))) fun p => (fun AA => ?_) (p rfl)
     clear p hK K;(try dsimp only at AA);have CV : Hid (Below wh.heap.size wh (wh.alloc (.cells #[.int .i64 0, .slice none 0 0, .slice none 0 0] 37))) := ((Below.refl wh.heap.size wh).alloc lR (.cells #[.int .i64 0, .slice none 0 0, .slice none 0 0] 37));have Js : Hid (AJ (wh.alloc (.cells #[.int .i64 0, .slice none 0 0, .slice none 0 0] 37)) wh.heap.size 37 #[.int .i64 0, .slice none 0 0, .slice none 0 0]) := AJ.new wh _ _;have QV : Hid (Ct.heap.size ≤ wh.heap.size) := Bj.size;have Bj := iD (Bj.trans (CV.mono Bj.size));have DY := iD (zI DY CV);generalize World.alloc wh _ = wx at *;obtain ⟨BJ, FD⟩ := eX wh.heap.size;have HX : Hid (AJ wx BJ 37 #[.int .i64 0, .slice none 0 0, .slice none 0 0]) := by rw [FD]; exact Js.out
     have Cz : Hid (Ct.heap.size ≤ BJ) := by unfold Hid; rw [FD]; exact QV.out
     try rw [← FD]
     clear FD Js QV CV;refine tb 3 (mf 7 5) fun K hK => ?_
     (go_simp; refine (sE Ag Ap mg cg np cp _ co ls pr wx AA.z.l AA.z.r lR (by omega) (by omega)).mono ?_; rintro e wi ⟨D3, D4, f3, f4, rfl, Ep, EA, AZ⟩; have Az := iD Ep.out; have BC := iD EA.out; have CV := iD AZ.out; clear Ep EA AZ; go_simp)
     refine hK _ _ (fun _ => AA.later CV.out) fun p => (fun AA => ?_) (p rfl)
     clear p hK K;(try dsimp only at AA);have Bj := iD (Bj.trans (CV.mono Bj.size));have DY := iD (zI DY CV);have HX := iD (HX.below CV HX.lt);clear CV;refine tk 5 11 (mf 7 6) AA ?_;have EK := iD AA;obtain ⟨z0, z1, z2⟩ := HX.d3;obtain ⟨y0, y1, y2⟩ := HX.e3;refine tb 6 (mf 7 7) fun K hK => ?_
     go_simp
     refine hK _ _ (fun h => by cases h) (fun _ => ?_)
     try clear AA
     clear hK K;refine tK ?_;have Ed : Hid (Jq BJ co D1 D3 D4 nd f1 mg f3 np f4 ⟨m, ls, pr⟩ (((wi.setCell ⟨BJ, 0, none⟩ (.int .i64 co)).setCell ⟨BJ, 1, none⟩ (.slice D3 mg f3)).setCell ⟨BJ, 2, none⟩ (.slice D4 np f4))) := Jq.new HX DY Az BC.out;have OL : Hid (Bu 0 BJ none D1 nd ∧ Bu 0 BJ none D3 mg ∧ Bu 0 BJ none D4 np) := ⟨Bu.own DY (Nat.zero_le _) (zO DY HX (by decide)), Bu.own Az (Nat.zero_le _) (zO Az HX (by decide)), Bu.own BC (Nat.zero_le _) (zO BC HX (by decide))⟩;have FM : Hid (Below Ct.heap.size Ct (((wi.setCell ⟨BJ, 0, none⟩ (.int .i64 co)).setCell ⟨BJ, 1, none⟩ (.slice D3 mg f3)).setCell ⟨BJ, 2, none⟩ (.slice D4 np f4))) := ((Bj.setCell Cz.out _).setCell Cz.out _).setCell Cz.out _;clear z0 z1 z2 y0 y1 y2;generalize World.setCell (World.setCell (World.setCell wi _ _) _ _) _ _ = wz at *
     go_wp2_with fail
     refine Met.intro (Re _ _ (lj.back 11 12 ?_ (by kernel_rfl)))
     try dsimp only [gt]
     exact ⟨BJ, f1, f3, f4, D1, D3, D4, rfl, rfl, Ed, FM, Cz, OL⟩
   ·go_simp
    refine hK _ _ (fun _ => HW.later ((Below.refl Ct.heap.size Ct).alloc lR (.cells #[.int .i64 0, .slice none 0 0, .slice none 0 0] 37)).drew) fun p => (fun AA => ?_) (p rfl)
    clear p hK K;(try dsimp only at AA);have CV : Hid (Below Ct.heap.size Ct (Ct.alloc (.cells #[.int .i64 0, .slice none 0 0, .slice none 0 0] 37)).drew) := ((Below.refl Ct.heap.size Ct).alloc lR (.cells #[.int .i64 0, .slice none 0 0, .slice none 0 0] 37)).drew;have Js : Hid (AJ (Ct.alloc (.cells #[.int .i64 0, .slice none 0 0, .slice none 0 0] 37)).drew Ct.heap.size 37 #[.int .i64 0, .slice none 0 0, .slice none 0 0]) := AJ.new Ct _ _;have QV : Hid (Ct.heap.size ≤ Ct.heap.size) := Bj.size;have Bj := CV;generalize World.drew (World.alloc Ct _) = wx at *;obtain ⟨BJ, FD⟩ := eX Ct.heap.size;have HX : Hid (AJ wx BJ 37 #[.int .i64 0, .slice none 0 0, .slice none 0 0]) := by rw [FD]; exact Js.out
    have Cz : Hid (Ct.heap.size ≤ BJ) := by unfold Hid; rw [FD]; exact QV.out
    try rw [← FD]
    clear FD Js QV CV;refine tb 1 (ma 7 23) fun K hK => ?_
    (refine zt (d := some 54) (by rfl) (by rfl) _ (.tmp 53) (by rfl) yU (by rfl) (World.ownsRow_nil _ wx.heap.size _ _) (by rfl) AA.z.s (xI _) (by omega) (by omega) lR ?_; intro D1 f1 wh EG Gc JX; simp only [Nat.zero_add, List.nil_append] at EG Gc JX ⊢; have DY := iD EG; have CV : Hid (Below wx.heap.size wx wh) := zY Gc; clear EG Gc JX)
    refine hK _ _ (fun _ => AA.later CV.out) fun p => (fun AA => ?_) (p rfl)
    clear p hK K;(try dsimp only at AA);have Bj := iD (Bj.trans (CV.mono Bj.size));have HX := iD (HX.below CV HX.lt);clear CV;refine tb 3 (mf 7 5) fun K hK => ?_
    (go_simp; refine (sE Ag Ap mg cg np cp _ co ls pr wh AA.z.l AA.z.r lR (by omega) (by omega)).mono ?_; rintro e wi ⟨D3, D4, f3, f4, rfl, Ep, EA, AZ⟩; have Az := iD Ep.out; have BC := iD EA.out; have CV := iD AZ.out; clear Ep EA AZ; go_simp)
    refine hK _ _ (fun _ => AA.later CV.out) fun p => (fun AA => ?_) (p rfl)
    clear p hK K;(try dsimp only at AA);have Bj := iD (Bj.trans (CV.mono Bj.size));have DY := iD (zI DY CV);have HX := iD (HX.below CV HX.lt);clear CV;refine tk 5 11 (mf 7 6) AA ?_;have EK := iD AA;obtain ⟨z0, z1, z2⟩ := HX.d3;obtain ⟨y0, y1, y2⟩ := HX.e3;refine tb 6 (mf 7 7) fun K hK => ?_
    go_simp
    refine hK _ _ (fun h => by cases h) (fun _ => ?_)
    try clear AA
    clear hK K;refine tK ?_;have Ed : Hid (Jq BJ co D1 D3 D4 nd f1 mg f3 np f4 ⟨m, ls, pr⟩ (((wi.setCell ⟨BJ, 0, none⟩ (.int .i64 co)).setCell ⟨BJ, 1, none⟩ (.slice D3 mg f3)).setCell ⟨BJ, 2, none⟩ (.slice D4 np f4))) := Jq.new HX DY Az BC.out;have OL : Hid (Bu 0 BJ none D1 nd ∧ Bu 0 BJ none D3 mg ∧ Bu 0 BJ none D4 np) := ⟨Bu.own DY (Nat.zero_le _) (zO DY HX (by decide)), Bu.own Az (Nat.zero_le _) (zO Az HX (by decide)), Bu.own BC (Nat.zero_le _) (zO BC HX (by decide))⟩;have FM : Hid (Below Ct.heap.size Ct (((wi.setCell ⟨BJ, 0, none⟩ (.int .i64 co)).setCell ⟨BJ, 1, none⟩ (.slice D3 mg f3)).setCell ⟨BJ, 2, none⟩ (.slice D4 np f4))) := ((Bj.setCell Cz.out _).setCell Cz.out _).setCell Cz.out _;clear z0 z1 z2 y0 y1 y2;generalize World.setCell (World.setCell (World.setCell wi _ _) _ _) _ _ = wz at *
    go_wp2_with fail
    refine Met.intro (Re _ _ (lj.back 11 12 ?_ (by kernel_rfl)))
    try dsimp only [gt]
    exact ⟨BJ, f1, f3, f4, D1, D3, D4, rfl, rfl, Ed, FM, Cz, OL⟩
  case rest0 =>
   intro CK BX CN wc a hcut ha;dsimp only [za, Go.Proofs.YtkkobemhbicjgaaGreatDoor.v2, Nat.reduceAdd] at ha;subst ha;obtain ⟨BJ, f1, f3, f4, D1, D3, D4, rfl, rfl, Ed, FM, Cz, OL⟩ := hcut;have Vp : Hid (JI BJ co none D1 D3 D4 0 0 nd f1 mg f3 np f4 ⟨m, ls, pr⟩ [] wc) := ⟨Ed, World.ownsRow_nil _ _ _ _, OL.1, OL.2.1, OL.2.2⟩;have Gq : Hid (zo ns ds co 0 [] ⟨m, ls, pr⟩ (xs.drop 0) = R) := Jd.symm;have Aw := iD (HW.later FM);have p1 := Aw.z.p.cell 1;go_upto_region 12 with (fail);clear p1 Aw;refine mT [(1, 0), (0, 1), (6, 0), (0, 3), (0, 4), (0, 0), (5, 1), (0, 0), (3, 1), (35, 0), (0, 2), (136, 1), (22, 0)] 60 10 11 (nx) (CtR Ct BJ co ns ds xs R nd nx) (by (try dsimp only [gt]); exact ⟨0, 0, 0, f1, mg, f3, np, f4, none, D1, D3, D4, ⟨m, ls, pr⟩, [], rfl, rfl, rfl, Nat.zero_le _, rfl, Nat.zero_le _, Vp, FM, Bv, Gq⟩) (by kernel_rfl) ?_;intro u1 p60 Ba BX gk wr a hrel ha J1 K1 EB ME
   dsimp only [za, Go.Proofs.YtkkobemhbicjgaaGreatDoor.v3, Nat.reduceAdd] at ha;subst ha;clear Vp Ed FM OL Gq;obtain ⟨i, mo, Vf, f1, e3, f3, e4, f4, Ao, D1, D3, D4, t, out, rfl, rfl, rfl, hi, rfl, QD, hC, hB, hO, hR⟩ := hrel;have HC := iD hC.out; have Bj := iD hB.out; have HT := iD hO.out; have NQ := iD hR.out;clear hC hB hO hR;have PK := iD (HW.later Bj);by_cases hlt : i < nx; rotate_left
   ·have q0 : decide (i < nx) = false := by simpa using hlt
    have Ex : Hid ((⟨0, out, t⟩ : Cr) = R) := by unfold Hid; rw [← NQ.out, pS (by have := SB.2; omega)]
    have DV := PK; have FO := HC;have r0 := DV.b.cell 0
    go_wp2_with fail
    clear r0;refine (sD Ao A1 mo Vf n1 c1 _ _ (out) R.o _ (Sl.of_own FO.o) DV.o.o lR lR).mono ?_;rintro e wh ⟨rfl, Bo⟩;rw [tf (p := out = R.o) (by rw [← Ex.out])];have DV := iD (DV.later Bo); have FO := iD (FO.later Bo);clear Bo;have r1 := DV.b.cell 1
    go_wp2_with fail
    clear r1;refine (xm D1 A2 nd f1 n2 c2 _ _ t.s R.t.s _ FO.a.s DV.o.s lR lR).mono ?_;rintro e wi ⟨rfl, Bo⟩;rw [tf (p := t.s = R.t.s) (by rw [← Ex.out])];have DV := iD (DV.later Bo); have FO := iD (FO.later Bo);clear Bo;obtain ⟨g0, g1, g2⟩ := FO.a.bx.d3;have r2 := DV.b.cell 2;have r3 := DV.b.cell 3;have r4 := DV.b.cell 4
    go_wp2_with fail
    clear g0 g1 g2 r2 r3 r4;refine (tz D3 D4 A3 A4 e3 f3 e4 f4 n3 c3 n4 c4 co co t.ls R.t.ls t.pr R.t.pr _ FO.a.l FO.a.p DV.o.l DV.o.p).mono ?_;rintro e wj ⟨rfl, Bo⟩;rw [eA (show t.ls = R.t.ls by rw [← Ex.out]) (show t.pr = R.t.pr by rw [← Ex.out])];have DV := iD (DV.later Bo); have FO := iD (FO.later Bo);clear Bo
    go_wp2_with fail
    refine (sS _ DV.z.n.la).mono ?_;rintro e wk ⟨rfl, Bo⟩;have DW := iD (DV.later Bo).z.n.bl;clear Bo
    go_wp2_with fail
    go_ret;exact ⟨rfl, DW⟩
   have q0 : decide (i < nx) = true := by simpa using hlt
   obtain ⟨be, oe, sx, VY, Fz, Jm, Ir⟩ := PK.z.x.at (fun _ => rfl) (by decide) hlt;obtain ⟨kd, dv, no, ps, ky⟩ := sx;have TC := iD VY;have CX : Hid (xs[i]? = some ⟨kd, dv, no, ps, ky⟩) := Jm;have Gp := iD (AX _ (List.mem_of_getElem? Jm));have a0 : wr.cell? ⟨be, oe + i * 5, none⟩ = some (.int .i64 kd) := Ir 0 _ rfl;have a1 : wr.cell? ⟨be, oe + i * 5 + 1, none⟩ = some (.int .i64 dv) := Ir 1 _ rfl;have a2 : wr.cell? ⟨be, oe + i * 5 + 2, none⟩ = some (.int .i64 no) := Ir 2 _ rfl;have a3 : wr.cell? ⟨be, oe + i * 5 + 3, none⟩ = some (.int .i64 ps) := Ir 3 _ rfl;have a4 : wr.cell? ⟨be, oe + i * 5 + 4, none⟩ = some (.int .i64 ky) := Ir 4 _ rfl;clear VY Fz Jm Ir;rw [TC.out];go_upto_region 14 with (fail);clear a0 a1 a2 a3 a4 q0;have Bh : Hid (Below wr.heap.size wr (wr.alloc (.cells #[.int .i64 kd, .int .i64 dv, .int .i64 no, .int .i64 ps, .int .i64 ky] 43))) := (Below.refl _ _).alloc lR _
   have NM := iD (AJ.new wr 43 #[.int .i64 kd, .int .i64 dv, .int .i64 no, .int .i64 ps, .int .i64 ky]);have FN := iD (HC.later Bh);have Tu := iD (PK.later Bh);have BS := iD (Bj.trans (Bh.mono Bj.size));have BU := iD (rZ HC.o);clear HC PK Bh Bj;generalize World.alloc wr _ = V at *;obtain ⟨sb, Py⟩ := eX wr.heap.size;have WL : Hid (∀ o', Ao ≠ some ⟨sb, o', none⟩) := fun o' e => by have := BU _ o' e; omega
   rw [← Py] at NM ⊢;clear Py BU;obtain ⟨k0, k1⟩ := Tu.z.n.bx.d2;obtain ⟨g0, g1, g2⟩ := FN.a.bx.d3;obtain ⟨s0, s1, s2, s3, s4⟩ := NM.d5;have OG : Hid (yc V An Ad D1 D3 D4 nn cn nd cd nd f1 e3 f3 e4 f4 ns ds t.s t.ls t.pr) := ⟨Tu.z.n.hn.1, Tu.z.n.hd.1, FN.a.s, FN.a.l, FN.a.p, Tu.z.n.la, Fw.1, Fw.2⟩
   go_wp2_with fail
   clear k0 k1 g0 g1 g2 s0 s1 s2 s3 s4;obtain ⟨O, hO⟩ := eX (zn ns ds co t ⟨kd, dv, no, ps, ky⟩);have Ee : Hid (yX ns ds t.s co t.ls t.pr ⟨#[80]⟩ [⟨kd, dv, no, ps, ky⟩] = 0) := kN HT.s EX (yw HT.l) HT.p (by decide) (by simp) (by intro y hy; rw [List.mem_singleton.1 hy]; exact Gp);have Tv : Hid ((zn ns ds co t ⟨kd, dv, no, ps, ky⟩).e = 0) := gG Af HT.out;have NK := iD (oN (co := co) HT Gp);refine (lV An Ad D1 D3 D4 nn cn nd cd nd f1 e3 f3 e4 f4 ns ds t.s t.ls t.pr co kd dv no ps ky V OG).mono ?_;rintro e w5 ⟨⟨h1, -⟩ | ⟨-, h1, -⟩ | ⟨-, -, B1, B2, B3, B4, m1, b1, m2, b2, m3, b3, m4, b4, rfl, hS, Au⟩, hb⟩
   ·exact absurd Ee.out h1
   ·exact absurd Tv.out h1
   rw [show (⟨t.s, t.ls, t.pr⟩ : Sm) = t from rfl, ← hO] at hS;rw [← hO] at Tv NK;have Cj := iD hO;have EW := iD hS.out;have Fx := iD Au.out;have IJ := iD (FN.later hb);have Bz := iD (Tu.later hb);have SE := iD (NM.below hb NM.lt);have Cf := iD (BS.trans (hb.mono BS.size));have Ni := iD (rZ FN.o);have CB : Hid (BJ < V.heap.size) := FN.a.bx.lt
   have Ck : Hid (m2 = nd) := by
    have h1 : O.t.s.length = m2 := EW.s.len (f := fun x : Int => [Value.int .i64 x]) (fun _ => rfl) (by decide);have h2 := (zS NK.s).2.1;have := OD.out; unfold Hid; omega
   have WU : Hid (Bu 0 BJ Ao B1 m1 ∧ Bu 0 BJ Ao B2 m2 ∧ Bu 0 BJ Ao B3 m3 ∧ Bu 0 BJ Ao B4 m4) := by
    have of : ∀ {B : Option Addr} {q : Nat}, (∀ b off, B = some ⟨b, off, none⟩ → V.heap.size ≤ b) → Bu 0 BJ Ao B q := fun h _ b off e => ⟨Nat.zero_le _, by have := h b off e; have := CB.out; omega, fun o' e2 => by have := Ni b o' e2; have := h b off e; omega⟩
    exact ⟨of Fx.h, of Fx.s, of Fx.l, of Fx.p⟩
   have BG : Hid (∀ o', Ao ≠ some ⟨sb, o', none⟩) := fun o' e => WL o' e
   clear hO hS Au hb FN Tu NM BS OG Ni Fx Ee WL;go_upto_region 15 with (fail);have Bh : Hid (Below w5.heap.size w5 (w5.alloc (.cells #[.int .i64 co, .slice B3 m3 b3, .slice B4 m4 b4] 37))) := (Below.refl _ _).alloc lR _;have Ni := iD (rZ IJ.o);have BP := iD (IJ.later Bh);have DZ := iD (Cf.trans (Bh.mono Cf.size))
   have Jf : Hid (Ll BJ w5.heap.size sb co Ao B1 B2 B3 B4 m1 b1 m2 b2 m3 b3 m4 b4 O.h O.t #[.int .i64 kd, .int .i64 dv, .int .i64 no, .int .i64 ps, .int .i64 ky] (w5.alloc (.cells #[.int .i64 co, .slice B3 m3 b3, .slice B4 m4 b4] 37))) :=
    ⟨EW.later Bh, WU.1, WU.2.1, WU.2.2.1, WU.2.2.2, AJ.new w5 _ _, SE.below Bh SE.lt, fun o' e => by have := Ni _ o' e; omega, BG⟩
   have QF : m1 ≤ 8 := by
    have h1 : O.h.length = m1 := EW.h.len (f := fun x : Int => [Value.int .i64 x]) (fun _ => rfl) (by decide);have := mI ns ds co t ⟨kd, dv, no, ps, ky⟩;rw [← Cj.out] at this; omega
   have Tz : Hid (O.h.length = m1) := EW.h.len (f := fun x : Int => [Value.int .i64 x]) (fun _ => rfl) (by decide);clear Bh Ni IJ Bz EW SE Cf WU BG;generalize World.alloc w5 _ = w6 at *;obtain ⟨JJ, UU⟩ := eX w5.heap.size;rw [← UU] at Jf ⊢;clear UU;have u0 : ((m2 : Int) != (nd : Int)) = false := by rw [Ck.out]; simp
   go_upto_region 18 with (fail);clear u0;refine vY [(9, 0), (0, 3), (8, 0), (0, 1), (64, 0), (0, 2), (9, 1), (123, 0)] 86 10 (m1) (CtD Ct BJ JJ sb co D1 D3 D4 nd f1 e3 f3 e4 f4 mo i t out B1 B2 B3 B4 m1 b1 m2 b2 m3 b3 m4 b4 O.h O.t #[.int .i64 kd, .int .i64 dv, .int .i64 no, .int .i64 ps, .int .i64 ky]) (by (try dsimp only [gt]); exact ⟨0, _, _, rfl, rfl, Nat.zero_le _, rfl, by rw [List.take_zero, show yD i [] = [] from rfl, List.append_nil]; exact BP, Jf, DZ⟩) (by kernel_rfl) ?_;intro u2 CM Ba CZ Io a hrel ha J2 K2 Bl CY;dsimp only [za, Go.Proofs.YtkkobemhbicjgaaGreatDoor.v2, Nat.reduceAdd] at ha;subst ha;clear BP Jf DZ;obtain ⟨j, GD, KF, rfl, rfl, hj, rfl, hC, hK, hB⟩ := hrel;have HC := iD hC.out; have HK := iD hK.out; have HB := iD hB.out;clear hC hK hB;by_cases Mk : j < m1
   ·have q3 : decide (j < m1) = true := by simpa using Mk
    obtain ⟨b5, o5, y, PE, Fb, hy, JV⟩ := HK.a.h.at1 Mk;have HY : Hid (O.h[j]? = some y) := hy;have AQ := iD PE;clear hy Fb PE;rw [AQ.out];have CW : m1 ≤ 9223372036854775807 := by omega
    go_upto_region 20 with (fail);clear JV q3;have Bh : Hid (Below Io.heap.size Io (Io.alloc (.cells #[.int .i64 i, .int .i64 y] 53))) := (Below.refl _ _).alloc lR _;have MP := iD (HC.later Bh);have WV := iD (HK.later Bh);have BH := iD (HB.trans (Bh.mono HB.size));have Mg : BJ + 1 ≤ (Io.alloc (.cells #[.int .i64 i, .int .i64 y] 53)).heap.size := by have := HC.a.bx.lt; simp; omega
    have Be : mo + j ≤ 100000 := by omega
    go_upto_region 21 with (at_builtin; go_must (refine zM rfl (.tmp 90) (.tmp 94) rfl fZ (by rfl) MP.o (by rfl) (Sl.newest (n := 1) rfl rfl (by decide)) (by simp [Value.oneCell']) (by omega) (by omega) Mg ?_; intro A' Rl w7 BQ CQ Cy))
    have Wj : Hid (JI BJ co A' D1 D3 D4 (mo + j + 1) Rl nd f1 e3 f3 e4 f4 t ((out ++ yD i (O.h.take j)) ++ [⟨i, y⟩]) w7) := MP.app CQ Cy (f := ⟨i, y⟩) BQ;have Qg := iD (WV.app MP.o CQ Cy ((yk BQ).imp id fun ⟨g, e, _⟩ => ⟨g, e⟩));have Df := iD (jc BH MP.o CQ Cz)
    have CG : Hid (JI BJ co A' D1 D3 D4 (mo + (j + 1)) Rl nd f1 e3 f3 e4 f4 t (out ++ yD i (O.h.take (j + 1))) w7) := by
     unfold Hid;rw [ni HY.out, ← List.append_assoc, ← Nat.add_assoc]; exact Wj.out
    clear BQ CQ Cy MP WV BH Wj HC HK HB Bh Mg Be;have Jo : IntKind.i64.wrap ((j : Int) + 1) = (j : Int) + 1 := IntWalk.i64_in _ (by omega)
    go_wp2_with fail
    rw [← AQ.out];refine Handed.intro (m1 - (j + 1)) (by omega) (Bl _ _ _ (oS.back 86 10 ?_ (by kernel_rfl)));dsimp only [gt];exact ⟨j + 1, Rl, A', by go_num, rfl, by omega, rfl, CG, Qg, Df⟩
   have q3 : decide (j < m1) = false := by simpa using Mk
   have WW : Hid (yD i (O.h.take j) = yD i O.h) := by unfold Hid; rw [List.take_of_length_le (by rw [Tz.out]; omega)]
   have Ga : mo + j ≤ 8 * (i + 1) := by omega
   rw [WW.out] at HC;clear Mk WW;go_upto_region 22 with (fail);clear q3;obtain ⟨Mc, Ma, -, OZ, -⟩ := wN Gp.out;dsimp only at Mc Ma OZ;by_cases MG : kd = 3 ∨ kd = 6; rotate_left
   ·have u6 : (kd == 6) = false := by simp; omega
    have u3 : (kd == 3) = false := by simp; omega
    refine fv (fun W' => W'.cell? ⟨sb, 0, none⟩ = some (.int .i64 kd)) [] ?_ fun AA => ?_
    ·exact HK.bs.cell 0
    try dsimp only at AA
    refine tk 0 97 (mf 20 1) AA ?_;refine ty 1 98 (mf 20 2) AA (y := by intro w AL; have u0 := AL; go_simp; try with_reducible rfl) (h := ?_);refine tk 2 99 (mf 20 3) AA ?_;refine tk 3 100 (mf 20 4) AA ?_;refine tk 4 101 (mf 20 5) AA ?_;refine ty 5 102 (mf 20 6) AA (y := by intro w AL; have u0 := AL; go_simp; try with_reducible rfl) (h := ?_);refine tk 6 103 (mf 20 7) AA ?_;refine tk 7 104 (mf 20 8) AA ?_;refine tk 8 105 (mf 20 9) AA ?_;refine ts 9 106 (mf 20 10) AA ?_;refine ts 10 107 (mf 20 11) AA ?_;refine ts 11 108 (mf 20 12) AA ?_;refine ts 12 109 (mf 20 13) AA ?_;refine ts 13 110 (mf 20 14) AA ?_;refine ts 14 111 (mf 20 15) AA ?_;refine ts 15 112 (mf 20 16) AA ?_;refine ts 16 113 (mf 20 17) AA ?_;refine ts 17 114 (mf 20 18) AA ?_;refine tk 18 115 (mf 20 19) AA ?_;refine tk 19 21 (mf 20 20) AA ?_;refine tK ?_;have Em := (Below.refl Io.heap.size Io).drew
    have HC := iD (HC.later Em); have HK := iD (HK.later Em); have HB := iD (HB.trans (Em.mono HB.size));clear Em AA;generalize World.drew Io = OM at *;go_upto_region 25 with (fail);clear u6 u3;by_cases Vb : kd = 1 ∨ kd = 2; rotate_left
    ·have u1 : (kd == 1) = false := by simp; omega
     have u2 : (kd == 2) = false := by simp; omega
     have s0 := HK.bs.cell 0;go_upto_region 29 with (fail);clear s0 u1 u2;have Kc : Hid (O.ov = false) := by unfold Hid; rw [Cj.out]; exact fW ⟨by dsimp only; omega, by dsimp only; omega⟩ (by dsimp only; exact Mc)
     clear Mc Ma OZ;obtain ⟨z0, z1, z2⟩ := HC.a.bx.d3;obtain ⟨y0, y1, y2⟩ := HC.a.bx.e3;refine fv (fun W' => (W'.cell? ⟨JJ, 0, none⟩ = some (.int .i64 co) ∧ W'.cell? ⟨JJ, 1, none⟩ = some (.slice B3 m3 b3)) ∧ W'.cell? ⟨JJ, 2, none⟩ = some (.slice B4 m4 b4)) [3] ?_ fun AA => ?_
     ·exact ⟨⟨HK.by'.cell 0, HK.by'.cell 1⟩, HK.by'.cell 2⟩
     try dsimp only at AA
     refine tk 0 194 (mf 4 1) AA ?_;refine ty 1 195 (mf 4 2) AA (y := by intro w AL; have u0 := AL.1.1; have u1 := AL.1.2; have u2 := AL.2; go_simp; try with_reducible rfl) (h := ?_);refine tk 2 11 (mf 4 3) AA ?_;refine tb 3 (mf 4 4) fun K hK => ?_
     go_simp
     refine hK _ _ (fun h => by cases h) (fun _ => ?_)
     try clear AA
     clear hK K;refine tK ?_;clear z0 z1 z2 y0 y1 y2;have Gu : Hid (JI BJ co KF B2 B3 B4 (mo + j) GD m2 b2 m3 b3 m4 b4 O.t (out ++ yD i O.h) (((((OM).setCell ⟨BJ, 0, none⟩ (.int .i64 co)).setCell ⟨BJ, 1, none⟩ (.slice B3 m3 b3)).setCell ⟨BJ, 2, none⟩ (.slice B4 m4 b4)).drew)) := HC.next HK.out;have Sv : Hid (Below Ct.heap.size Ct (((((OM).setCell ⟨BJ, 0, none⟩ (.int .i64 co)).setCell ⟨BJ, 1, none⟩ (.slice B3 m3 b3)).setCell ⟨BJ, 2, none⟩ (.slice B4 m4 b4)).drew)) := (((HB.setCell Cz.out _).setCell Cz.out _).setCell Cz.out _).drew;clear HC HK HB;generalize World.drew (World.setCell (World.setCell (World.setCell OM _ _) _ _) _ _) = wz at *;have NP : Hid (zo ns ds co (i + 1) (out ++ yD i O.h) O.t (xs.drop (i + 1)) = R) := by unfold Hid; rw [← NQ.out, vJ CX.out (by rw [← Cj.out]; exact Tv.out) (by rw [← Cj.out]; exact Kc.out), ← Cj.out]
     rw [Ck.out] at Gu;have Jo : IntKind.i64.wrap ((i : Int) + 1) = (i : Int) + 1 := IntWalk.i64_in _ (by omega)
     go_wp2_with fail
     rw [← TC.out];refine Handed.intro (nx - (i + 1)) (by omega) (EB _ _ _ (lh.back 60 10 11 ?_ (by kernel_rfl)));dsimp only [gt];exact ⟨i + 1, mo + j, GD, b2, m3, b3, m4, b4, KF, B2, B3, B4, O.t, out ++ yD i O.h, by go_num, rfl, by rw [Ck.out], by omega, rfl, Ga, Gu, Sv, NK, NP⟩
    have Gy := Ma (by omega);have Kc : Hid (O.ov = false) := by unfold Hid; rw [Cj.out]; exact fW ⟨by dsimp only; omega, by dsimp only; omega⟩ (by dsimp only; exact Mc)
    obtain ⟨di, rfl⟩ := Int.eq_ofNat_of_zero_le Gy.1;have Iq : di < nd := by have := OD.out; omega
    have Ae : Hid (kd = 1 ∨ kd = 2) := Vb;have SL : Hid (O = ⟨yG t.s, vk ns ds t.s (di : Int) kd co t.ls t.pr, ⟨t.s.set (di : Int).toNat kd, t.ls, if tB ds kd (di : Int) then [] else t.pr⟩, false⟩) := by unfold Hid; rw [Cj.out]; exact gH Ae.out
    have Hd : Hid (zy ns ds t.s (di : Int) kd co = 0) := by
     have DT := EX.out
     have h1 : zy ns ds t.s (di : Int) kd co = yG t.s := by
      unfold zy yS;rw [if_pos HT.s, if_pos] <;> rw [if_neg (by omega), if_neg (by omega), if_neg (by omega), if_neg (by omega), if_neg (by omega)]
     exact h1.trans (kP HT.s Af)
    have JZ := iD (HW.later HB);obtain ⟨bd, od, xd, Tk, Bg, DI, Bf⟩ := JZ.z.n.hd.1.at (fun _ => rfl) (by decide) Iq;have UG := iD Tk; have Tq := iD DI
    have BM : Hid (∀ W' : World, PH w nb x7 pb rb An Ad As Ag Ap Ax nn cn nd cd cs mg cg np cp nx cx ns ds m ls pr co nm xs A1 A2 A3 A4 n1 c1 n2 c2 n3 c3 n4 c4 R.o R.t W' → W'.cell? ⟨bd, od + di * 5 + 1, none⟩ = some (.int .i64 xd.kind)) := by
     intro W' h;obtain ⟨Ca, CO, BV, VZ, -, UT, AU⟩ := h.z.n.hd.1.at (fun _ => rfl) (by decide) Iq;rw [Tk] at VZ; injection VZ with e; injection e with e1 e2; subst e1; subst e2
     rw [DI] at UT; injection UT with e; subst e
     exact AU 1 _ rfl
    clear Tk Bg DI Bf Gy;have OG : Hid (yc OM An Ad D1 D3 D4 nn cn nd cd nd f1 e3 f3 e4 f4 ns ds t.s t.ls t.pr) := ⟨JZ.z.n.hn.1, JZ.z.n.hd.1, HC.a.s, HC.a.l, HC.a.p, JZ.z.n.la, Fw.1, Fw.2⟩;obtain ⟨k0, k1⟩ := JZ.z.n.bx.d2;obtain ⟨g0, g1, g2⟩ := HC.a.bx.d3;obtain ⟨s0, s1⟩ := HK.bs.d2;have un : (kd != kd) = false := by simp
    rcases (show kd = 1 ∨ kd = 2 ∧ xd.kind = 4 ∨ kd = 2 ∧ xd.kind ≠ 4 by omega) with hk | hk | hk;have u1 : (kd == 1) = true := by simp; omega
    have u2 : (kd == 2) = false := by simp; omega
    clear hk;rotate_left;have u1 : (kd == 1) = false := by simp; omega
    have u2 : (kd == 2) = true := by simp; omega
    have u4 : (xd.kind != 4) = false := by simp; omega
    clear hk;rotate_left;have u1 : (kd == 1) = false := by simp; omega
    have u2 : (kd == 2) = true := by simp; omega
    have u4 : (xd.kind != 4) = true := by simp; omega
    have ML : Hid (m4 = 0) := by
     have h1 : O.t.pr.length = m4 := HK.a.p.len (f := fun x : Int => [Value.int .i64 x]) (fun _ => rfl) (by decide);have h2 : tB ds kd (di : Int) = true := by unfold tB; rw [Int.toNat_natCast, Tq.out]; simp [hk.1, hk.2]
     rw [SL.out] at h1; dsimp only at h1; rw [if_pos h2] at h1; exact h1.symm
    have um : decide (0 < m4) = false := by rw [ML.out]; rfl
    clear hk;rotate_left
    all_goals
     go_wp2_with fail
     clear k0 k1 g0 g1 g2 s0 s1;refine (iH An Ad D1 D3 D4 nn cn nd cd nd f1 e3 f3 e4 f4 ns ds t.s t.ls t.pr (di : Int) kd co _ OG).mono ?_;rintro e wm ⟨⟨h1, -⟩ | ⟨-, AM, km, cm, BV, om, DI, rfl, Am, Ar⟩, hb⟩
     ·exact absurd Hd.out h1
     have AY : Hid (om = O.h) := by unfold Hid; rw [SL.out]; exact oC DI Ar.out
     have PX := iD (Sl.of_own Am);have BS := iD hb.out;have AH := iD (JZ.later BS); have Lh := iD (HC.later BS); have Qf := iD (HK.later BS); have Sw := iD (HB.trans (BS.mono HB.size));clear DI Am Ar hb BS HC HK HB JZ OG;go_upto_region 27 with (fail);obtain ⟨Rp, Qu, BW, EU, AZ, Jn, -⟩ := Qf.a.s.at1 (show di < m2 by rw [Ck.out]; exact Iq)
     have Vm : Hid (BW = kd) := by
      have h1 : O.t.s[di]? = some kd := by
       rw [SL.out]; dsimp only;rw [Int.toNat_natCast, List.getElem?_set, if_pos rfl, if_pos];have := (zS HT.s).2.1; have := OD.out; omega
      rw [h1] at Jn; injection Jn with e; exact e.symm
     subst EU
     have Hr : Hid (∀ W' : World, Ll BJ JJ sb co KF B1 (some ⟨Rp, Qu, none⟩) B3 B4 m1 b1 m2 b2 m3 b3 m4 b4 O.h O.t #[.int .i64 kd, .int .i64 di, .int .i64 no, .int .i64 ps, .int .i64 ky] W' → W'.cell? ⟨Rp, Qu + di, none⟩ = some (.int .i64 kd)) := by
      intro W' h;obtain ⟨Cb, CP, CL, Bm, -, Ls, Al⟩ := h.a.s.at1 (show di < m2 by rw [Ck.out]; exact Iq);injection Bm with e; injection e with e1 e2; subst e1; subst e2;rw [Jn] at Ls; injection Ls with e; rw [← e, Vm.out] at Al; exact Al
     have JU : di < m2 := by rw [Ck.out]; exact Iq
     clear AZ Jn Vm
    refine fv (fun W' => (PH w nb x7 pb rb An Ad As Ag Ap Ax nn cn nd cd cs mg cg np cp nx cx ns ds m ls pr co nm xs A1 A2 A3 A4 n1 c1 n2 c2 n3 c3 n4 c4 R.o R.t W' ∧ Ll BJ JJ sb co KF B1 (some ⟨Rp, Qu, none⟩) B3 B4 m1 b1 m2 b2 m3 b3 m4 b4 O.h O.t #[.int .i64 kd, .int .i64 di, .int .i64 no, .int .i64 ps, .int .i64 ky] W') ∧ Sl W' W'.heap.size 1 AM km cm (zE om)) [] ?_ fun AA => ?_
    ·exact ⟨⟨AH.later (Below.refl _ _).drew, Qf.later (Below.refl _ _).drew⟩, PX.drew⟩
    try dsimp only at AA
    refine tk 0 155 (mf 39 1) AA ?_;refine tk 1 156 (mf 39 2) AA ?_;refine tk 2 157 (mf 39 3) AA ?_;refine tk 3 158 (mf 39 4) AA ?_;refine tk 4 159 (mf 39 5) AA ?_;refine tb 5 (mf 39 6) fun K hK => ?_
    (go_simp; refine (xm AM B1 km cm m1 b1 _ _ om O.h _ AA.2 AA.1.2.a.h lR lR).mono ?_; rintro e wh ⟨rfl, Bo⟩; rw [tf (p := om = O.h) AY.out]; have CV := iD Bo; clear Bo; go_simp)
    refine hK _ _ (fun _ => ⟨⟨AA.1.1.later CV, AA.1.2.later CV⟩, (AA.2.below CV lR).more CV.size⟩) fun p => (fun AA => ?_) (p rfl)
    clear p hK K;(try dsimp only at AA);have Kz : Hid (Below wm.heap.size wm wh) := (Below.refl wm.heap.size wm).drew.trans CV.out; have Pm := iD (Sw.trans (Kz.mono Sw.size)); have JH := iD (Lh.later Kz); clear CV Kz;refine tk 6 161 (mf 39 7) AA ?_;refine tk 7 162 (mf 39 8) AA ?_;refine tk 8 163 (mf 39 9) AA ?_;refine tk 9 164 (mf 39 10) AA ?_;refine tk 10 165 (mf 39 11) AA ?_;refine ty 11 166 (mf 39 12) AA (y := by intro w AL; have u0 := AL.1.2.bs.cell 1; go_simp; try with_reducible rfl) (h := ?_);refine tk 12 167 (mf 39 13) AA ?_;refine ty 13 168 (mf 39 14) AA (y := by intro w AL; have u0 := Hr _ AL.1.2; go_simp; try with_reducible rfl) (h := ?_);refine tk 14 169 (mf 39 15) AA ?_;refine ty 15 170 (mf 39 16) AA (y := by intro w AL; have u0 := AL.1.2.bs.cell 0; go_simp; try with_reducible rfl) (h := ?_);refine tk 16 171 (mf 39 17) AA ?_;refine tk 17 172 (mf 39 18) AA ?_
    refine tk 18 173 (mf 39 19) AA ?_;refine tk 19 174 (mf 39 20) AA ?_;refine ty 20 175 (mf 39 21) AA (y := by intro w AL; have u0 := AL.1.2.bs.cell 0; go_simp; try with_reducible rfl) (h := ?_);refine tk 21 176 (mf 39 22) AA ?_;refine tk 22 177 (mf 39 23) AA ?_;refine ts 23 178 (mf 39 24) AA ?_;refine ts 24 179 (mf 39 25) AA ?_;refine ts 25 180 (mf 39 26) AA ?_;refine ts 26 181 (mf 39 27) AA ?_;refine ts 27 182 (mf 39 28) AA ?_;refine ts 28 183 (mf 39 29) AA ?_;refine ts 29 184 (mf 39 30) AA ?_;refine ts 30 185 (mf 39 31) AA ?_;refine tk 31 186 (mf 39 32) AA ?_;refine tk 32 187 (mf 39 33) AA ?_;refine ts 33 188 (mf 39 34) AA ?_;refine ts 34 189 (mf 39 35) AA ?_;refine ts 35 190 (mf 39 36) AA ?_;refine ts 36 191 (mf 39 37) AA ?_;refine tk 37 192 (mf 39 38) AA ?_;refine tk 38 193 (mf 39 39) AA ?_;refine tK ?_;clear un;rotate_left
    refine fv (fun W' => (PH w nb x7 pb rb An Ad As Ag Ap Ax nn cn nd cd cs mg cg np cp nx cx ns ds m ls pr co nm xs A1 A2 A3 A4 n1 c1 n2 c2 n3 c3 n4 c4 R.o R.t W' ∧ Ll BJ JJ sb co KF B1 (some ⟨Rp, Qu, none⟩) B3 B4 m1 b1 m2 b2 m3 b3 m4 b4 O.h O.t #[.int .i64 kd, .int .i64 di, .int .i64 no, .int .i64 ps, .int .i64 ky] W') ∧ Sl W' W'.heap.size 1 AM km cm (zE om)) [] ?_ fun AA => ?_
    ·exact ⟨⟨AH.later (Below.refl _ _).drew, Qf.later (Below.refl _ _).drew⟩, PX.drew⟩
    try dsimp only at AA
    refine tk 0 155 (mf 39 1) AA ?_;refine tk 1 156 (mf 39 2) AA ?_;refine tk 2 157 (mf 39 3) AA ?_;refine tk 3 158 (mf 39 4) AA ?_;refine tk 4 159 (mf 39 5) AA ?_;refine tb 5 (mf 39 6) fun K hK => ?_
    (go_simp; refine (xm AM B1 km cm m1 b1 _ _ om O.h _ AA.2 AA.1.2.a.h lR lR).mono ?_; rintro e wh ⟨rfl, Bo⟩; rw [tf (p := om = O.h) AY.out]; have CV := iD Bo; clear Bo; go_simp)
    refine hK _ _ (fun _ => ⟨⟨AA.1.1.later CV, AA.1.2.later CV⟩, (AA.2.below CV lR).more CV.size⟩) fun p => (fun AA => ?_) (p rfl)
    clear p hK K;(try dsimp only at AA);have Kz : Hid (Below wm.heap.size wm wh) := (Below.refl wm.heap.size wm).drew.trans CV.out; have Pm := iD (Sw.trans (Kz.mono Sw.size)); have JH := iD (Lh.later Kz); clear CV Kz;refine tk 6 161 (mf 39 7) AA ?_;refine tk 7 162 (mf 39 8) AA ?_;refine tk 8 163 (mf 39 9) AA ?_;refine tk 9 164 (mf 39 10) AA ?_;refine tk 10 165 (mf 39 11) AA ?_;refine ty 11 166 (mf 39 12) AA (y := by intro w AL; have u0 := AL.1.2.bs.cell 1; go_simp; try with_reducible rfl) (h := ?_);refine tk 12 167 (mf 39 13) AA ?_;refine ty 13 168 (mf 39 14) AA (y := by intro w AL; have u0 := Hr _ AL.1.2; go_simp; try with_reducible rfl) (h := ?_);refine tk 14 169 (mf 39 15) AA ?_;refine ty 15 170 (mf 39 16) AA (y := by intro w AL; have u0 := AL.1.2.bs.cell 0; go_simp; try with_reducible rfl) (h := ?_);refine tk 16 171 (mf 39 17) AA ?_;refine tk 17 172 (mf 39 18) AA ?_
    refine tk 18 173 (mf 39 19) AA ?_;refine tk 19 174 (mf 39 20) AA ?_;refine ty 20 175 (mf 39 21) AA (y := by intro w AL; have u0 := AL.1.2.bs.cell 0; go_simp; try with_reducible rfl) (h := ?_);refine tk 21 176 (mf 39 22) AA ?_;refine tk 22 177 (mf 39 23) AA ?_;refine tk 23 178 (mf 39 24) AA ?_;refine ty 24 179 (mf 39 25) AA (y := by intro w AL; have u0 := AL.1.1.z.n.bx.cell 1; rw [UG.out] at u0; go_simp; try with_reducible rfl) (h := ?_);refine tk 25 180 (mf 39 26) AA ?_;refine ty 26 181 (mf 39 27) AA (y := by intro w AL; have u0 := AL.1.2.bs.cell 1; go_simp; try with_reducible rfl) (h := ?_);refine tk 27 182 (mf 39 28) AA ?_;refine tk 28 183 (mf 39 29) AA ?_;refine ty 29 184 (mf 39 30) AA (y := by intro w AL; have u0 := BM _ AL.1.1; go_simp; try with_reducible rfl) (h := ?_);refine tk 30 185 (mf 39 31) AA ?_;refine tk 31 186 (mf 39 32) AA ?_;refine tk 32 187 (mf 39 33) AA ?_
    refine ts 33 188 (mf 39 34) AA ?_;refine ts 34 189 (mf 39 35) AA ?_;refine ts 35 190 (mf 39 36) AA ?_;refine ts 36 191 (mf 39 37) AA ?_;refine tk 37 192 (mf 39 38) AA ?_;refine tk 38 193 (mf 39 39) AA ?_;refine tK ?_;clear un u4;rotate_left;refine fv (fun W' => (PH w nb x7 pb rb An Ad As Ag Ap Ax nn cn nd cd cs mg cg np cp nx cx ns ds m ls pr co nm xs A1 A2 A3 A4 n1 c1 n2 c2 n3 c3 n4 c4 R.o R.t W' ∧ Ll BJ JJ sb co KF B1 (some ⟨Rp, Qu, none⟩) B3 B4 m1 b1 m2 b2 m3 b3 m4 b4 O.h O.t #[.int .i64 kd, .int .i64 di, .int .i64 no, .int .i64 ps, .int .i64 ky] W') ∧ Sl W' W'.heap.size 1 AM km cm (zE om)) [] ?_ fun AA => ?_
    ·exact ⟨⟨AH.later (Below.refl _ _).drew, Qf.later (Below.refl _ _).drew⟩, PX.drew⟩
    try dsimp only at AA
    refine tk 0 155 (mf 39 1) AA ?_;refine tk 1 156 (mf 39 2) AA ?_;refine tk 2 157 (mf 39 3) AA ?_;refine tk 3 158 (mf 39 4) AA ?_;refine tk 4 159 (mf 39 5) AA ?_;refine tb 5 (mf 39 6) fun K hK => ?_
    (go_simp; refine (xm AM B1 km cm m1 b1 _ _ om O.h _ AA.2 AA.1.2.a.h lR lR).mono ?_; rintro e wh ⟨rfl, Bo⟩; rw [tf (p := om = O.h) AY.out]; have CV := iD Bo; clear Bo; go_simp)
    refine hK _ _ (fun _ => ⟨⟨AA.1.1.later CV, AA.1.2.later CV⟩, (AA.2.below CV lR).more CV.size⟩) fun p => (fun AA => ?_) (p rfl)
    clear p hK K;(try dsimp only at AA);have Kz : Hid (Below wm.heap.size wm wh) := (Below.refl wm.heap.size wm).drew.trans CV.out; have Pm := iD (Sw.trans (Kz.mono Sw.size)); have JH := iD (Lh.later Kz); clear CV Kz;refine tk 6 161 (mf 39 7) AA ?_;refine tk 7 162 (mf 39 8) AA ?_;refine tk 8 163 (mf 39 9) AA ?_;refine tk 9 164 (mf 39 10) AA ?_;refine tk 10 165 (mf 39 11) AA ?_;refine ty 11 166 (mf 39 12) AA (y := by intro w AL; have u0 := AL.1.2.bs.cell 1; go_simp; try with_reducible rfl) (h := ?_);refine tk 12 167 (mf 39 13) AA ?_;refine ty 13 168 (mf 39 14) AA (y := by intro w AL; have u0 := Hr _ AL.1.2; go_simp; try with_reducible rfl) (h := ?_);refine tk 14 169 (mf 39 15) AA ?_;refine ty 15 170 (mf 39 16) AA (y := by intro w AL; have u0 := AL.1.2.bs.cell 0; go_simp; try with_reducible rfl) (h := ?_);refine tk 16 171 (mf 39 17) AA ?_;refine tk 17 172 (mf 39 18) AA ?_
    refine tk 18 173 (mf 39 19) AA ?_;refine tk 19 174 (mf 39 20) AA ?_;refine ty 20 175 (mf 39 21) AA (y := by intro w AL; have u0 := AL.1.2.bs.cell 0; go_simp; try with_reducible rfl) (h := ?_);refine tk 21 176 (mf 39 22) AA ?_;refine tk 22 177 (mf 39 23) AA ?_;refine tk 23 178 (mf 39 24) AA ?_;refine ty 24 179 (mf 39 25) AA (y := by intro w AL; have u0 := AL.1.1.z.n.bx.cell 1; rw [UG.out] at u0; go_simp; try with_reducible rfl) (h := ?_);refine tk 25 180 (mf 39 26) AA ?_;refine ty 26 181 (mf 39 27) AA (y := by intro w AL; have u0 := AL.1.2.bs.cell 1; go_simp; try with_reducible rfl) (h := ?_);refine tk 27 182 (mf 39 28) AA ?_;refine tk 28 183 (mf 39 29) AA ?_;refine ty 29 184 (mf 39 30) AA (y := by intro w AL; have u0 := BM _ AL.1.1; go_simp; try with_reducible rfl) (h := ?_);refine tk 30 185 (mf 39 31) AA ?_;refine tk 31 186 (mf 39 32) AA ?_;refine tk 32 187 (mf 39 33) AA ?_
    refine tk 33 188 (mf 39 34) AA ?_;refine ty 34 189 (mf 39 35) AA (y := by intro w AL; have u0 := AL.1.2.by'.cell 2; go_simp; try with_reducible rfl) (h := ?_);refine tk 35 190 (mf 39 36) AA ?_;refine tk 36 191 (mf 39 37) AA ?_;refine tk 37 192 (mf 39 38) AA ?_;refine tk 38 193 (mf 39 39) AA ?_;refine tK ?_;clear un u4 um;rotate_left
    all_goals
     have HC := JH; have HK := iD AA.1.2; have HB := Pm;clear AA JH Pm AH Lh Qf Sw PX Hr;go_upto_region 29 with (fail);clear u1 u2;obtain ⟨z0, z1, z2⟩ := HC.a.bx.d3;obtain ⟨y0, y1, y2⟩ := HC.a.bx.e3;refine fv (fun W' => (W'.cell? ⟨JJ, 0, none⟩ = some (.int .i64 co) ∧ W'.cell? ⟨JJ, 1, none⟩ = some (.slice B3 m3 b3)) ∧ W'.cell? ⟨JJ, 2, none⟩ = some (.slice B4 m4 b4)) [3] ?_ fun AA => ?_
     ·exact ⟨⟨HK.by'.cell 0, HK.by'.cell 1⟩, HK.by'.cell 2⟩
     try dsimp only at AA
     refine tk 0 194 (mf 4 1) AA ?_;refine ty 1 195 (mf 4 2) AA (y := by intro w AL; have u0 := AL.1.1; have u1 := AL.1.2; have u2 := AL.2; go_simp; try with_reducible rfl) (h := ?_);refine tk 2 11 (mf 4 3) AA ?_;refine tb 3 (mf 4 4) fun K hK => ?_
     go_simp
     refine hK _ _ (fun h => by cases h) (fun _ => ?_)
     try clear AA
     clear hK K;refine tK ?_;clear z0 z1 z2 y0 y1 y2;have Gu : Hid (JI BJ co KF (some ⟨Rp, Qu, none⟩) B3 B4 (mo + j) GD m2 b2 m3 b3 m4 b4 O.t (out ++ yD i O.h) (((((wh).setCell ⟨BJ, 0, none⟩ (.int .i64 co)).setCell ⟨BJ, 1, none⟩ (.slice B3 m3 b3)).setCell ⟨BJ, 2, none⟩ (.slice B4 m4 b4)).drew)) := HC.next HK.out;have Sv : Hid (Below Ct.heap.size Ct (((((wh).setCell ⟨BJ, 0, none⟩ (.int .i64 co)).setCell ⟨BJ, 1, none⟩ (.slice B3 m3 b3)).setCell ⟨BJ, 2, none⟩ (.slice B4 m4 b4)).drew)) := (((HB.setCell Cz.out _).setCell Cz.out _).setCell Cz.out _).drew;clear HC HK HB;generalize World.drew (World.setCell (World.setCell (World.setCell wh _ _) _ _) _ _) = wz at *;have NP : Hid (zo ns ds co (i + 1) (out ++ yD i O.h) O.t (xs.drop (i + 1)) = R) := by unfold Hid; rw [← NQ.out, vJ CX.out (by rw [← Cj.out]; exact Tv.out) (by rw [← Cj.out]; exact Kc.out), ← Cj.out]
     rw [Ck.out] at Gu;have Jo : IntKind.i64.wrap ((i : Int) + 1) = (i : Int) + 1 := IntWalk.i64_in _ (by omega)
     go_wp2_with fail
     rw [← TC.out];refine Handed.intro (nx - (i + 1)) (by omega) (EB _ _ _ (lh.back 60 10 11 ?_ (by kernel_rfl)));dsimp only [gt];exact ⟨i + 1, mo + j, GD, b2, m3, b3, m4, b4, KF, some ⟨Rp, Qu, none⟩, B3, B4, O.t, out ++ yD i O.h, by go_num, rfl, by rw [Ck.out], by omega, rfl, Ga, Gu, Sv, NK, NP⟩
   have LG := OZ MG;have Gy := Ma (by omega);have Qc : Hid (kd = 3 ∨ kd = 6) := MG;obtain ⟨di, rfl⟩ := Int.eq_ofNat_of_zero_le Gy.1;have Iq : di < nd := by have := OD.out; omega
   obtain ⟨bs, os, sv, QP, QK, MZ, hcs⟩ := HC.a.s.at1 Iq;subst QP;have II : Hid (t.s.getD (di : Int).toNat 0 = sv) := by unfold Hid; rw [Int.toNat_natCast]; exact kF MZ
   have Pb : Hid (sv = 1 ∨ sv = 2 ∨ sv = 3) := by
    have h1 := lr HT.s (i := di) (by have := (zS HT.s).2.1; have := OD.out; omega);rw [MZ] at h1; unfold Hid; simpa using h1
   have Qm := iD (nR Pb LG);clear MZ QK LG Gy Mc Ma OZ;have u1 : (kd == 1) = false := by simp; omega
   have u2 : (kd == 2) = false := by simp; omega
   rcases hmis : rA sv ps with _ | _; rotate_left
   ·have SQ : Hid (rA sv ps = true) := hmis;have u5 : (bits .and .i64 sv ps == 0) = true := Qm.trans hmis;clear hmis;rcases MG with MG | MG;have u6 : (kd == 6) = false := by simp; omega
    have u3 : (kd == 3) = true := by simp; omega
    clear MG;refine fv (fun W' => (W'.cell? ⟨sb, 0, none⟩ = some (.int .i64 kd) ∧ W'.cell? ⟨sb, 1, none⟩ = some (.int .i64 di) ∧ W'.cell? ⟨sb, 3, none⟩ = some (.int .i64 ps)) ∧ W'.cell? ⟨bs, os + di, none⟩ = some (.int .i64 sv)) [] ?_ fun AA => ?_
    ·exact ⟨⟨HK.bs.cell 0, HK.bs.cell 1, HK.bs.cell 3⟩, hcs⟩
    try dsimp only at AA
    refine tk 0 97 (mf 20 1) AA ?_;refine ty 1 98 (mf 20 2) AA (y := by intro w AL; have u0 := AL.1.1; go_simp; try with_reducible rfl) (h := ?_);refine tk 2 99 (mf 20 3) AA ?_;refine tk 3 100 (mf 20 4) AA ?_;refine tk 4 101 (mf 20 5) AA ?_;refine ty 5 102 (mf 20 6) AA (y := by intro w AL; have u0 := AL.1.1; go_simp; try with_reducible rfl) (h := ?_);refine tk 6 103 (mf 20 7) AA ?_;refine tk 7 104 (mf 20 8) AA ?_;refine tk 8 105 (mf 20 9) AA ?_;refine tk 9 106 (mf 20 10) AA ?_;refine tk 10 107 (mf 20 11) AA ?_;refine ty 11 108 (mf 20 12) AA (y := by intro w AL; have u0 := AL.1.2.1; go_simp; try with_reducible rfl) (h := ?_);refine tk 12 109 (mf 20 13) AA ?_;refine ty 13 110 (mf 20 14) AA (y := by intro w AL; have u0 := AL.2; go_simp; try with_reducible rfl) (h := ?_);refine tk 14 111 (mf 20 15) AA ?_
    refine ty 15 112 (mf 20 16) AA (y := by intro w AL; have u0 := AL.1.2.2; go_simp; try with_reducible rfl) (h := ?_);refine tk 16 113 (mf 20 17) AA ?_;refine tk 17 114 (mf 20 18) AA ?_;refine tk 18 115 (mf 20 19) AA ?_;refine tk 19 21 (mf 20 20) AA ?_;refine tK ?_;clear u5 u6 u3;rotate_left;have u6 : (kd == 6) = true := by simp; omega
    clear MG;refine fv (fun W' => (W'.cell? ⟨sb, 0, none⟩ = some (.int .i64 kd) ∧ W'.cell? ⟨sb, 1, none⟩ = some (.int .i64 di) ∧ W'.cell? ⟨sb, 3, none⟩ = some (.int .i64 ps)) ∧ W'.cell? ⟨bs, os + di, none⟩ = some (.int .i64 sv)) [] ?_ fun AA => ?_
    ·exact ⟨⟨HK.bs.cell 0, HK.bs.cell 1, HK.bs.cell 3⟩, hcs⟩
    try dsimp only at AA
    refine tk 0 97 (mf 20 1) AA ?_;refine ty 1 98 (mf 20 2) AA (y := by intro w AL; have u0 := AL.1.1; go_simp; try with_reducible rfl) (h := ?_);refine tk 2 99 (mf 20 3) AA ?_;refine tk 3 100 (mf 20 4) AA ?_;refine ts 4 101 (mf 20 5) AA ?_;refine ts 5 102 (mf 20 6) AA ?_;refine ts 6 103 (mf 20 7) AA ?_;refine tk 7 104 (mf 20 8) AA ?_;refine tk 8 105 (mf 20 9) AA ?_;refine tk 9 106 (mf 20 10) AA ?_;refine tk 10 107 (mf 20 11) AA ?_;refine ty 11 108 (mf 20 12) AA (y := by intro w AL; have u0 := AL.1.2.1; go_simp; try with_reducible rfl) (h := ?_);refine tk 12 109 (mf 20 13) AA ?_;refine ty 13 110 (mf 20 14) AA (y := by intro w AL; have u0 := AL.2; go_simp; try with_reducible rfl) (h := ?_);refine tk 14 111 (mf 20 15) AA ?_;refine ty 15 112 (mf 20 16) AA (y := by intro w AL; have u0 := AL.1.2.2; go_simp; try with_reducible rfl) (h := ?_);refine tk 16 113 (mf 20 17) AA ?_
    refine tk 17 114 (mf 20 18) AA ?_;refine tk 18 115 (mf 20 19) AA ?_;refine tk 19 21 (mf 20 20) AA ?_;refine tK ?_;clear u5 u6;rotate_left
    all_goals
     clear hcs;have Em := (Below.refl Io.heap.size Io).drew;have HC := iD (HC.later Em); have HK := iD (HK.later Em); have HB := iD (HB.trans (Em.mono HB.size));clear Em AA;generalize World.drew Io = OM at *;have NS : Hid (O = ⟨0, [8], t, true⟩) := by unfold Hid; rw [Cj.out]; exact fh Qc (by dsimp only; rw [II.out]; exact SQ)
     go_wp2_with fail
     refine (xm B2 (some ⟨bs, os, none⟩) m2 b2 nd f1 _ _ O.t.s t.s _ HK.a.s HC.a.s lR lR).mono ?_;rintro e wa ⟨rfl, Bo⟩;rw [tf (p := O.t.s = t.s) (by rw [NS.out])];have Ot := Bo;have Wi := iD (HC.later Ot); have WQ := iD (HK.later Ot); have Ah := iD (HB.trans (Ot.mono HB.size));clear Bo Ot HC HK HB;obtain ⟨g0, g1, g2⟩ := Wi.a.bx.d3;obtain ⟨k0, k1, k2⟩ := WQ.by'.d3
     go_wp2_with fail
     clear g0 g1 g2 k0 k1 k2;refine (tz B3 B4 D3 D4 m3 b3 m4 b4 e3 f3 e4 f4 co co O.t.ls t.ls O.t.pr t.pr _ WQ.a.l WQ.a.p Wi.a.l Wi.a.p).mono ?_;rintro e wb ⟨rfl, Bo⟩;rw [eA (show O.t.ls = t.ls by rw [NS.out]) (show O.t.pr = t.pr by rw [NS.out])];have BO := iD (Wi.later Bo); have BL := iD (WQ.later Bo); have BZ := iD (Ah.trans (Bo.mono Ah.size));clear Bo Wi WQ Ah
     go_wp2_with fail
     have Bh : Hid (Below wb.heap.size wb (wb.alloc (.cells #[.int .i64 8] 3))) := (Below.refl _ _).alloc lR _;have OE : Hid (Sl (wb.alloc (.cells #[.int .i64 8] 3)) (wb.alloc (.cells #[.int .i64 8] 3)).heap.size 1 (some ⟨wb.heap.size, 0, none⟩) 1 1 (zE [8])) := (Sl.newest (n := 1) (size := 1) rfl rfl (by decide)).more (by simp);have HC := iD (BO.later Bh); have HK := iD (BL.later Bh); have HB := iD (BZ.trans (Bh.mono BZ.size));clear Bh BO BL BZ;generalize World.alloc wb _ = CH at *;refine (xm B1 _ m1 b1 1 1 _ _ O.h [8] _ HK.a.h OE lR lR).mono ?_;rintro e wd ⟨rfl, Bo⟩;rw [tf (p := O.h = [8]) (by rw [NS.out])];have BN := iD (HC.later Bo); have Ac := iD (HK.later Bo); have BR := iD (HB.trans (Bo.mono HB.size));clear Bo HC HK HB OE;have s0 := Ac.bs.cell 0;go_upto_region 25 with (fail);go_upto_region 29 with (fail);clear s0 u1 u2;have HC := BN; have HK := Ac; have HB := BR
     clear BN Ac BR;obtain ⟨z0, z1, z2⟩ := HC.a.bx.d3;obtain ⟨y0, y1, y2⟩ := HC.a.bx.e3;refine fv (fun W' => (W'.cell? ⟨JJ, 0, none⟩ = some (.int .i64 co) ∧ W'.cell? ⟨JJ, 1, none⟩ = some (.slice B3 m3 b3)) ∧ W'.cell? ⟨JJ, 2, none⟩ = some (.slice B4 m4 b4)) [3] ?_ fun AA => ?_
     ·exact ⟨⟨HK.by'.cell 0, HK.by'.cell 1⟩, HK.by'.cell 2⟩
     try dsimp only at AA
     refine tk 0 194 (mf 4 1) AA ?_;refine ty 1 195 (mf 4 2) AA (y := by intro w AL; have u0 := AL.1.1; have u1 := AL.1.2; have u2 := AL.2; go_simp; try with_reducible rfl) (h := ?_);refine tk 2 11 (mf 4 3) AA ?_;refine tb 3 (mf 4 4) fun K hK => ?_
     go_simp
     refine hK _ _ (fun h => by cases h) (fun _ => ?_)
     try clear AA
     clear hK K;refine tK ?_;clear z0 z1 z2 y0 y1 y2;have Gu : Hid (JI BJ co KF B2 B3 B4 (mo + j) GD m2 b2 m3 b3 m4 b4 O.t (out ++ yD i O.h) (((((wd).setCell ⟨BJ, 0, none⟩ (.int .i64 co)).setCell ⟨BJ, 1, none⟩ (.slice B3 m3 b3)).setCell ⟨BJ, 2, none⟩ (.slice B4 m4 b4)).drew)) := HC.next HK.out;have Sv : Hid (Below Ct.heap.size Ct (((((wd).setCell ⟨BJ, 0, none⟩ (.int .i64 co)).setCell ⟨BJ, 1, none⟩ (.slice B3 m3 b3)).setCell ⟨BJ, 2, none⟩ (.slice B4 m4 b4)).drew)) := (((HB.setCell Cz.out _).setCell Cz.out _).setCell Cz.out _).drew;clear HC HK HB;generalize World.drew (World.setCell (World.setCell (World.setCell wd _ _) _ _) _ _) = wz at *;have Ex : Hid ((⟨0, out ++ yD i O.h, O.t⟩ : Cr) = R) := by unfold Hid; rw [← NQ.out, qG CX.out (by rw [← Cj.out]; exact Tv.out) (by rw [← Cj.out, NS.out]), ← Cj.out]
     have DV := iD (HW.later Sv);have FO := Gu;have r0 := DV.b.cell 0
     go_wp2_with fail
     clear r0;refine (sD KF A1 (mo + j) GD n1 c1 _ _ ((out ++ yD i O.h)) R.o _ (Sl.of_own FO.o) DV.o.o lR lR).mono ?_;rintro e wh ⟨rfl, Bo⟩;rw [tf (p := (out ++ yD i O.h) = R.o) (by rw [← Ex.out])];have DV := iD (DV.later Bo); have FO := iD (FO.later Bo);clear Bo;have r1 := DV.b.cell 1
     go_wp2_with fail
     clear r1;refine (xm B2 A2 m2 b2 n2 c2 _ _ O.t.s R.t.s _ FO.a.s DV.o.s lR lR).mono ?_;rintro e wi ⟨rfl, Bo⟩;rw [tf (p := O.t.s = R.t.s) (by rw [← Ex.out])];have DV := iD (DV.later Bo); have FO := iD (FO.later Bo);clear Bo;obtain ⟨g0, g1, g2⟩ := FO.a.bx.d3;have r2 := DV.b.cell 2;have r3 := DV.b.cell 3;have r4 := DV.b.cell 4
     go_wp2_with fail
     clear g0 g1 g2 r2 r3 r4;refine (tz B3 B4 A3 A4 m3 b3 m4 b4 n3 c3 n4 c4 co co O.t.ls R.t.ls O.t.pr R.t.pr _ FO.a.l FO.a.p DV.o.l DV.o.p).mono ?_;rintro e wj ⟨rfl, Bo⟩;rw [eA (show O.t.ls = R.t.ls by rw [← Ex.out]) (show O.t.pr = R.t.pr by rw [← Ex.out])];have DV := iD (DV.later Bo); have FO := iD (FO.later Bo);clear Bo
     go_wp2_with fail
     refine (sS _ DV.z.n.la).mono ?_;rintro e wk ⟨rfl, Bo⟩;have DW := iD (DV.later Bo).z.n.bl;clear Bo
     go_wp2_with fail
     go_ret;exact ⟨rfl, DW⟩
   ·have SQ : Hid (rA sv ps = false) := hmis;have u5 : (bits .and .i64 sv ps == 0) = false := Qm.trans hmis;clear hmis;rcases MG with MG | MG;have u6 : (kd == 6) = false := by simp; omega
    have u3 : (kd == 3) = true := by simp; omega
    clear MG;refine fv (fun W' => (W'.cell? ⟨sb, 0, none⟩ = some (.int .i64 kd) ∧ W'.cell? ⟨sb, 1, none⟩ = some (.int .i64 di) ∧ W'.cell? ⟨sb, 3, none⟩ = some (.int .i64 ps)) ∧ W'.cell? ⟨bs, os + di, none⟩ = some (.int .i64 sv)) [] ?_ fun AA => ?_
    ·exact ⟨⟨HK.bs.cell 0, HK.bs.cell 1, HK.bs.cell 3⟩, hcs⟩
    try dsimp only at AA
    refine tk 0 97 (mf 20 1) AA ?_;refine ty 1 98 (mf 20 2) AA (y := by intro w AL; have u0 := AL.1.1; go_simp; try with_reducible rfl) (h := ?_);refine tk 2 99 (mf 20 3) AA ?_;refine tk 3 100 (mf 20 4) AA ?_;refine tk 4 101 (mf 20 5) AA ?_;refine ty 5 102 (mf 20 6) AA (y := by intro w AL; have u0 := AL.1.1; go_simp; try with_reducible rfl) (h := ?_);refine tk 6 103 (mf 20 7) AA ?_;refine tk 7 104 (mf 20 8) AA ?_;refine tk 8 105 (mf 20 9) AA ?_;refine tk 9 106 (mf 20 10) AA ?_;refine tk 10 107 (mf 20 11) AA ?_;refine ty 11 108 (mf 20 12) AA (y := by intro w AL; have u0 := AL.1.2.1; go_simp; try with_reducible rfl) (h := ?_);refine tk 12 109 (mf 20 13) AA ?_;refine ty 13 110 (mf 20 14) AA (y := by intro w AL; have u0 := AL.2; go_simp; try with_reducible rfl) (h := ?_);refine tk 14 111 (mf 20 15) AA ?_
    refine ty 15 112 (mf 20 16) AA (y := by intro w AL; have u0 := AL.1.2.2; go_simp; try with_reducible rfl) (h := ?_);refine tk 16 113 (mf 20 17) AA ?_;refine tk 17 114 (mf 20 18) AA ?_;refine tk 18 115 (mf 20 19) AA ?_;refine tk 19 21 (mf 20 20) AA ?_;refine tK ?_;clear u5 u6 u3;rotate_left;have u6 : (kd == 6) = true := by simp; omega
    clear MG;refine fv (fun W' => (W'.cell? ⟨sb, 0, none⟩ = some (.int .i64 kd) ∧ W'.cell? ⟨sb, 1, none⟩ = some (.int .i64 di) ∧ W'.cell? ⟨sb, 3, none⟩ = some (.int .i64 ps)) ∧ W'.cell? ⟨bs, os + di, none⟩ = some (.int .i64 sv)) [] ?_ fun AA => ?_
    ·exact ⟨⟨HK.bs.cell 0, HK.bs.cell 1, HK.bs.cell 3⟩, hcs⟩
    try dsimp only at AA
    refine tk 0 97 (mf 20 1) AA ?_;refine ty 1 98 (mf 20 2) AA (y := by intro w AL; have u0 := AL.1.1; go_simp; try with_reducible rfl) (h := ?_);refine tk 2 99 (mf 20 3) AA ?_;refine tk 3 100 (mf 20 4) AA ?_;refine ts 4 101 (mf 20 5) AA ?_;refine ts 5 102 (mf 20 6) AA ?_;refine ts 6 103 (mf 20 7) AA ?_;refine tk 7 104 (mf 20 8) AA ?_;refine tk 8 105 (mf 20 9) AA ?_;refine tk 9 106 (mf 20 10) AA ?_;refine tk 10 107 (mf 20 11) AA ?_;refine ty 11 108 (mf 20 12) AA (y := by intro w AL; have u0 := AL.1.2.1; go_simp; try with_reducible rfl) (h := ?_);refine tk 12 109 (mf 20 13) AA ?_;refine ty 13 110 (mf 20 14) AA (y := by intro w AL; have u0 := AL.2; go_simp; try with_reducible rfl) (h := ?_);refine tk 14 111 (mf 20 15) AA ?_;refine ty 15 112 (mf 20 16) AA (y := by intro w AL; have u0 := AL.1.2.2; go_simp; try with_reducible rfl) (h := ?_);refine tk 16 113 (mf 20 17) AA ?_
    refine tk 17 114 (mf 20 18) AA ?_;refine tk 18 115 (mf 20 19) AA ?_;refine tk 19 21 (mf 20 20) AA ?_;refine tK ?_;clear u5 u6;rotate_left
    all_goals
     clear hcs;have Em := (Below.refl Io.heap.size Io).drew;have HC := iD (HC.later Em); have HK := iD (HK.later Em); have HB := iD (HB.trans (Em.mono HB.size));clear Em AA;generalize World.drew Io = OM at *;have Kc : Hid (O.ov = false) := by unfold Hid; rw [Cj.out]; exact dP Qc (by dsimp only; rw [II.out]; exact SQ)
     go_upto_region 25 with (fail);have s0 := HK.bs.cell 0;go_upto_region 29 with (fail);clear s0 u1 u2;obtain ⟨z0, z1, z2⟩ := HC.a.bx.d3;obtain ⟨y0, y1, y2⟩ := HC.a.bx.e3;refine fv (fun W' => (W'.cell? ⟨JJ, 0, none⟩ = some (.int .i64 co) ∧ W'.cell? ⟨JJ, 1, none⟩ = some (.slice B3 m3 b3)) ∧ W'.cell? ⟨JJ, 2, none⟩ = some (.slice B4 m4 b4)) [3] ?_ fun AA => ?_
     ·exact ⟨⟨HK.by'.cell 0, HK.by'.cell 1⟩, HK.by'.cell 2⟩
     try dsimp only at AA
     refine tk 0 194 (mf 4 1) AA ?_;refine ty 1 195 (mf 4 2) AA (y := by intro w AL; have u0 := AL.1.1; have u1 := AL.1.2; have u2 := AL.2; go_simp; try with_reducible rfl) (h := ?_);refine tk 2 11 (mf 4 3) AA ?_;refine tb 3 (mf 4 4) fun K hK => ?_
     go_simp
     refine hK _ _ (fun h => by cases h) (fun _ => ?_)
     try clear AA
     clear hK K;refine tK ?_;clear z0 z1 z2 y0 y1 y2;have Gu : Hid (JI BJ co KF B2 B3 B4 (mo + j) GD m2 b2 m3 b3 m4 b4 O.t (out ++ yD i O.h) (((((OM).setCell ⟨BJ, 0, none⟩ (.int .i64 co)).setCell ⟨BJ, 1, none⟩ (.slice B3 m3 b3)).setCell ⟨BJ, 2, none⟩ (.slice B4 m4 b4)).drew)) := HC.next HK.out;have Sv : Hid (Below Ct.heap.size Ct (((((OM).setCell ⟨BJ, 0, none⟩ (.int .i64 co)).setCell ⟨BJ, 1, none⟩ (.slice B3 m3 b3)).setCell ⟨BJ, 2, none⟩ (.slice B4 m4 b4)).drew)) := (((HB.setCell Cz.out _).setCell Cz.out _).setCell Cz.out _).drew;clear HC HK HB;generalize World.drew (World.setCell (World.setCell (World.setCell OM _ _) _ _) _ _) = wz at *;have NP : Hid (zo ns ds co (i + 1) (out ++ yD i O.h) O.t (xs.drop (i + 1)) = R) := by unfold Hid; rw [← NQ.out, vJ CX.out (by rw [← Cj.out]; exact Tv.out) (by rw [← Cj.out]; exact Kc.out), ← Cj.out]
     rw [Ck.out] at Gu;have Jo : IntKind.i64.wrap ((i : Int) + 1) = (i : Int) + 1 := IntWalk.i64_in _ (by omega)
     go_wp2_with fail
     rw [← TC.out];refine Handed.intro (nx - (i + 1)) (by omega) (EB _ _ _ (lh.back 60 10 11 ?_ (by kernel_rfl)));dsimp only [gt];exact ⟨i + 1, mo + j, GD, b2, m3, b3, m4, b4, KF, B2, B3, B4, O.t, out ++ yD i O.h, by go_num, rfl, by rw [Ck.out], by omega, rfl, Ga, Gu, Sv, NK, NP⟩
open Go.ChangeShapes Go.WideShapes Go.ChangeAt Go.RowKit
theorem rG {W : World} {fuel : Nat} {cs : List Value} {x : DataW Unit × List MemPlace} {a b : Int} {c : Bool} (h : DataW.trod (fun _ => ()) Tryz.prog W 0 (fun _ => true) false fuel 198 cs = some x) (hx : x.1 = .agg [.lit (.int .u8 a), .lit (.int .u8 b), .lit (.bool c)]) : cs = [.int .u8 a, .int .u8 b, .bool c] := by
 obtain ⟨ys, n, rfl, GK, hl, Pw, hf⟩ := DataW.trod_struct Tryz.underlying198 h;rw [show Tryz.prog.cellsOf 198 = 3 by kernel_rfl] at hl;have f0 : DataW.trod (fun _ => ()) Tryz.prog W 0 (fun _ => true) false n 5 ((cs.drop 0).take (Tryz.prog.cellsOf 5)) = ys[0]? := hf 0 _ rfl;have f1 : DataW.trod (fun _ => ()) Tryz.prog W 0 (fun _ => true) false n 5 ((cs.drop 1).take (Tryz.prog.cellsOf 5)) = ys[1]? := hf 1 _ rfl;have f2 : DataW.trod (fun _ => ()) Tryz.prog W 0 (fun _ => true) false n 4 ((cs.drop 2).take (Tryz.prog.cellsOf 4)) = ys[2]? := hf 2 _ rfl;rw [show Tryz.prog.cellsOf 5 = 1 by kernel_rfl] at f0 f1;rw [show Tryz.prog.cellsOf 4 = 1 by kernel_rfl] at f2
 match cs, hl, ys, Pw with
 | [c0, c1, c2], _, [y0, y1, y2], _ =>
  simp only [List.drop_zero, List.drop_succ_cons, List.take_succ_cons, List.take_zero, List.getElem?_cons_zero, List.getElem?_cons_succ] at f0 f1 f2;rw [GK] at hx;simp only [List.map_cons, List.map_nil, DataW.agg.injEq, List.cons.injEq, and_true] at hx;obtain ⟨v0, e0, g0, _⟩ := DataW.trod_int Tryz.underlying5 f0;obtain ⟨v1, e1, g1, _⟩ := DataW.trod_int Tryz.underlying5 f1;obtain ⟨v2, e2, g2⟩ := DataW.trod_bool Tryz.underlying4 f2;rw [g0, g1, g2] at hx;simp only [DataW.lit.injEq, Lit.int.injEq, Lit.bool.injEq, true_and] at hx;obtain ⟨rfl, rfl, rfl⟩ := hx;simp only [List.cons.injEq, and_true] at e0 e1 e2;rw [e0, e1, e2]
theorem rH {W : World} {fuel : Nat} {cs : List Value} {x : DataW Unit × List MemPlace} {a b : Bool} (h : DataW.trod (fun _ => ()) Tryz.prog W 0 (fun _ => true) false fuel 168 cs = some x) (hx : x.1 = .agg [.lit (.bool a), .lit (.bool b)]) : cs = [.bool a, .bool b] := by
 obtain ⟨ys, n, rfl, GK, hl, Pw, hf⟩ := DataW.trod_struct Tryz.underlying168 h;rw [show Tryz.prog.cellsOf 168 = 2 by kernel_rfl] at hl;have f0 : DataW.trod (fun _ => ()) Tryz.prog W 0 (fun _ => true) false n 4 ((cs.drop 0).take (Tryz.prog.cellsOf 4)) = ys[0]? := hf 0 _ rfl;have f1 : DataW.trod (fun _ => ()) Tryz.prog W 0 (fun _ => true) false n 4 ((cs.drop 1).take (Tryz.prog.cellsOf 4)) = ys[1]? := hf 1 _ rfl;rw [show Tryz.prog.cellsOf 4 = 1 by kernel_rfl] at f0 f1
 match cs, hl, ys, Pw with
 | [c0, c1], _, [y0, y1], _ =>
  simp only [List.drop_zero, List.drop_succ_cons, List.take_succ_cons, List.take_zero, List.getElem?_cons_zero, List.getElem?_cons_succ] at f0 f1;rw [GK] at hx;simp only [List.map_cons, List.map_nil, DataW.agg.injEq, List.cons.injEq, and_true] at hx;obtain ⟨v0, e0, g0⟩ := DataW.trod_bool Tryz.underlying4 f0;obtain ⟨v1, e1, g1⟩ := DataW.trod_bool Tryz.underlying4 f1;rw [g0, g1] at hx;simp only [DataW.lit.injEq, Lit.bool.injEq] at hx;obtain ⟨rfl, rfl⟩ := hx;simp only [List.cons.injEq, and_true] at e0 e1;rw [e0, e1]
theorem qA {α : Type} {l : List α} {k : Nat} (hl : l.length = 4 * k) : l = (l.drop (0 * k)).take k ++ ((l.drop (1 * k)).take k ++ ((l.drop (2 * k)).take k ++ (l.drop (3 * k)).take k)) := by
 have e : ∀ (m : List α), m = m.take k ++ m.drop k := fun m => (List.take_append_drop k m).symm
 rw [Nat.zero_mul, List.drop_zero, Nat.one_mul]
 conv => lhs; rw [e l, e (l.drop k), List.drop_drop, e (l.drop (k + k)), List.drop_drop]
 rw [show k + k = 2 * k by omega, show 2 * k + k = 3 * k by omega, List.take_of_length_le (l := l.drop (3 * k)) (by simp; omega)]
theorem laid_of {W : World} (h : laidMet Tryz.prog Rows.checkerAnswersRow.laid W) : Laid W := by
 obtain ⟨ps, ⟨g, t, cs, fuel, p, q, hg, ht, AB, hd, ⟨g2, t2, Nw, AE, p2, q2, DD, Ub, UX, Gy, _, _⟩, _⟩, _⟩ := h;have eg : some g = some 1 := hg.symm.trans (by kernel_rfl);obtain rfl := Option.some.inj eg;have et : some t = some 199 := ht.symm.trans (by kernel_rfl);obtain rfl := Option.some.inj et;have AH : some g2 = some 0 := DD.symm.trans (by kernel_rfl);obtain rfl := Option.some.inj AH;have AG : some t2 = some 169 := Ub.symm.trans (by kernel_rfl);obtain rfl := Option.some.inj AG
 have ec : cs.toList = wS := by
  obtain ⟨xs, m, _, hx, hl, AA, Oq⟩ := DataW.trod_array Tryz.underlying199 hd;rw [show Tryz.prog.cellsOf 199 = 4 * 3 by kernel_rfl] at hl;have f0 := Oq 0 (by decide);have f1 := Oq 1 (by decide);have f2 := Oq 2 (by decide);have f3 := Oq 3 (by decide);rw [show Tryz.prog.cellsOf 198 = 3 by kernel_rfl] at f0 f1 f2 f3
  match xs, AA with
  | [y0, y1, y2, y3], _ =>
   simp only [Rows.laid_permitoffice_lexeme_classes, List.map_cons, List.map_nil, Prod.mk.injEq, DataW.agg.injEq, List.cons.injEq, and_true] at hx;obtain ⟨⟨x0, x1, x2, x3⟩, _⟩ := hx;refine (qA hl).trans ?_;rw [rG f0 x0.symm, rG f1 x1.symm, rG f2 x2.symm, rG f3 x3.symm];rfl
 have ep : Nw.toList = ur := by
  obtain ⟨xs, m, _, hx, hl, AA, Oq⟩ := DataW.trod_array Tryz.underlying169 Gy;rw [show Tryz.prog.cellsOf 169 = 4 * 2 by kernel_rfl] at hl;have f0 := Oq 0 (by decide);have f1 := Oq 1 (by decide);have f2 := Oq 2 (by decide);have f3 := Oq 3 (by decide);rw [show Tryz.prog.cellsOf 168 = 2 by kernel_rfl] at f0 f1 f2 f3
  match xs, AA with
  | [y0, y1, y2, y3], _ =>
   simp only [Rows.laid_permitoffice_mask_positions, List.map_cons, List.map_nil, Prod.mk.injEq, DataW.agg.injEq, List.cons.injEq, and_true] at hx;obtain ⟨⟨x0, x1, x2, x3⟩, _⟩ := hx;refine (qA hl).trans ?_;rw [rH f0 x0.symm, rH f1 x1.symm, rH f2 x2.symm, rH f3 x3.symm];rfl
 refine ⟨fun i u hu => ?_, fun i u hu => ?_⟩
 ·have := World.var?_cell hg AB i;rw [this, ← hu, ← ec]; simp
 ·have := World.var?_cell DD UX i;rw [this, ← hu, ← ep]; simp
def ij (cs : Array Value) : Obj → Obj
 | .cells _ t frozen => .cells cs t frozen
 | o => o
noncomputable def laidWorld (os : Os) : World :=
 let w0 := World.holding Tryz.prog os ⟨#[], #[], []⟩
 { w0 with heap := (w0.heap.modify 1 (ij wS.toArray)).modify 0 (ij ur.toArray) }
theorem laid_met (os : Os) (args : Array Value) : laidMet Tryz.prog Rows.checkerAnswersRow.laid ((laidWorld os).forCall (fun _ _ => 0) ⟨#[], args, []⟩).memory :=
 laidMet_of_run3 8 (by kernel_rfl) (by kernel_rfl) (by kernel_rfl)
end Go.Proofs.YtkkobemhbicjgaaGreatDoor
