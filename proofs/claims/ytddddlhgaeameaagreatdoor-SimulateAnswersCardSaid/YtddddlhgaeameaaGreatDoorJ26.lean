import Derived.Test.YtddddlhgaeameaaGreatDoorJ25
set_option maxRecDepth 100000
set_option maxHeartbeats 8000000
namespace Go.Proofs.YtddddlhgaeameaaGreatDoor
open Go.RowKit Tryz
structure NE (w : World) (vb b1 b2 : Nat) (nt op gr dv f1 f2 : Array Value) (W : World) : Prop where
 bl : bW w W
 bn : AJ W w.heap.size 26 nt
 bo : AJ W (w.heap.size + 1) 66 op
 bg : AJ W (w.heap.size + 2) 29 gr
 bv : AJ W vb 75 dv
 b1 : AJ W b1 156 f1
 b2 : AJ W b2 156 f2
theorem NE.later {w W W' : World} {vb b1 b2 : Nat} {nt op gr dv f1 f2 : Array Value} (h : NE w vb b1 b2 nt op gr dv f1 f2 W) (hb : bW W W') : NE w vb b1 b2 nt op gr dv f1 f2 W' :=
 ⟨h.bl.trans (hb.mono h.bl.size), h.bn.below hb h.bn.lt, h.bo.below hb h.bo.lt, h.bg.below hb h.bg.lt, h.bv.below hb h.bv.lt, h.b1.below hb h.b1.lt, h.b2.below hb h.b2.lt⟩
theorem NE.cells {w W : World} {vb b1 b2 nn cn nd cd d nl cl np cp : Nat} {An Ad Al Ap : Option Addr} {p co kd a b Cn : Int} {nm : ByteArray} {t1 t2 : Bool} (h : NE w vb b1 b2 #[.slice An nn cn, .slice Ad nd cd] #[.int .i64 d, .int .i64 p] #[.int .i64 co, .slice Al nl cl, .slice Ap np cp] #[.string nm, .int .i64 kd, .int .i64 a, .int .i64 b, .int .i64 Cn] #[.int .i64 4, .bool t1] #[.int .i64 6, .bool t2] W) :
 ((W.cell? ⟨w.heap.size, 0, none⟩ = some (.slice An nn cn) ∧ W.cell? ⟨w.heap.size, 1, none⟩ = some (.slice Ad nd cd)) ∧ W.cell? ⟨w.heap.size + 1, 0, none⟩ = some (.int .i64 d) ∧ W.cell? ⟨w.heap.size + 1, 1, none⟩ = some (.int .i64 p)) ∧ (W.cell? ⟨vb, 1, none⟩ = some (.int .i64 kd) ∧ W.cell? ⟨vb, 2, none⟩ = some (.int .i64 a)) ∧ W.cell? ⟨w.heap.size + 2, 2, none⟩ = some (.slice Ap np cp) ∧ (W.cell? ⟨b1, 0, none⟩ = some (.int .i64 4) ∧ W.cell? ⟨b1, 1, none⟩ = some (.bool t1)) ∧ W.cell? ⟨b2, 0, none⟩ = some (.int .i64 6) ∧ W.cell? ⟨b2, 1, none⟩ = some (.bool t2) :=
 ⟨⟨⟨h.bn.cell 0, h.bn.cell 1⟩, h.bo.cell 0, h.bo.cell 1⟩, ⟨h.bv.cell 1, h.bv.cell 2⟩, h.bg.cell 2, ⟨h.b1.cell 0, h.b1.cell 1⟩, h.b2.cell 0, h.b2.cell 1⟩
theorem yQ {ns : List Nd} {ds : List Dv} {s : List Int} (h : zG ns ds s = 0) (d : Nat) {p : Int} (hp : p = 1 ∨ p = 2) : zG ns ds (zX s d p) = 0 := by
 unfold zG at h ⊢;split at h
 ·next h1 => exact absurd h h1
 next h1 =>
 rw [if_neg h1];split at h
 ·cases h
 next h2 =>
 rw [if_neg (by rw [yy]; exact h2)];split at h
 ·next h3 =>
  rw [if_pos];intro y hy;unfold zX at hy;split at hy
  ·rcases List.mem_or_eq_of_mem_set hy with h4 | h4
   ·exact h3 y h4
   ·rw [h4]; rcases hp with rfl | rfl <;> rfl
  ·exact h3 y hy
 ·cases h
open Classical in
theorem tS {ns : List Nd} {ds : List Dv} {s s2 out : List Int} {m : Nat} (h : lS ns ds s s2 out) (hm : out.length = m) : decide (0 < m) = ye ns ds s s2 := by
 unfold ye;by_cases h0 : 0 < m
 ·rw [decide_eq_true h0]
  symm; rw [decide_eq_true_iff]
  rcases out with _ | ⟨x, r⟩
  ·simp at hm; omega
  ·obtain ⟨k, y, _, h1, h2, h3, h4⟩ := (h x).1 (by simp);exact ⟨k, y, h1, h2, h3, h4⟩
 ·rw [decide_eq_false h0]
  symm; rw [decide_eq_false_iff_not]
  rintro ⟨k, y, h1, h2, h3, h4⟩;have := (h k).2 ⟨k, y, rfl, h1, h2, h3, h4⟩;rw [List.eq_nil_of_length_eq_zero (by omega : out.length = 0)] at this;cases this
theorem iy (An Ad As Al Ap : Option Addr) (nn cn nd cd n c nl cl np cp Bn Bd Bs Bl Bp d : Nat) (p co : Int) (ns : List Nd) (ds : List Dv) (s : List Int) (ls : List Lk) (pr : List Int) (x : Dv) (w : World) (hL : yr w)
 (hn : Sl w Bn 3 An nn cn (ns.flatMap Nd.cells)) (Ce : Bn ≤ w.heap.size) (hd : Sl w Bd 5 Ad nd cd (ds.flatMap Dv.cells)) (BN : Bd ≤ w.heap.size) (hs : Sl w Bs 1 As n c (zF s)) (Ci : Bs ≤ w.heap.size) (FR : Sl w Bl 3 Al nl cl (ls.flatMap Lk.cells)) (Df : Bl ≤ w.heap.size) (AH : Sl w Bp 1 Ap np cp (zF pr)) (AZ : Bp ≤ w.heap.size)
 (Bj : FO ns) (Bc : GH ds) (h0 : zG ns ds s = 0) (Bq : nn ≤ 10000) (Vj : n ≤ 10000) (AB : nd ≤ n) (hi : d < nd) (hx : ds[d]? = some x) (Ae : xA nn ds) (hA : Ki nn ds) (hp : p = 1 ∨ p = 2) (Vn : 1 ≤ x.kind ∧ x.kind ≤ 6) :
 Calls prog 88 #[.agg #[.slice An nn cn, .slice Ad nd cd], .slice As n c, .agg #[.int .i64 d, .int .i64 p], .agg #[.int .i64 co, .slice Al nl cl, .slice Ap np cp]] w (wP w (uq nn ns ds s d p co ls pr x)) := by
 have HN := iD hn; have HD := iD hd; have HS := iD hs; have Da := iD Bj; have CU := iD Bc; have H0 := iD h0; have HE := iD Ae; have HA := iD hA; have HX := iD hx;have HL := iD hL; have GV := iD FR; have Ab := iD AH;have Ac := AH.le; have Lj := FR.le; have Vr := hd.le; have hsl := hs.le;have Ch : Hid (s.length = n) := hs.len (fun _ => rfl) (by decide);clear hL hn hd hs FR AH Bj Bc h0 Ae hA hx;have Bi : Hid (Below w.heap.size w (((w.alloc (.cells #[.slice An nn cn, .slice Ad nd cd] 26)).alloc (.cells #[.int .i64 d, .int .i64 p] 66)).alloc (.cells #[.int .i64 co, .slice Al nl cl, .slice Ap np cp] 29))) := (((Below.refl _ _).alloc lR _).alloc (by simp) _).alloc (by simp; omega) _
 have JX : Hid (AJ (((w.alloc (.cells #[.slice An nn cn, .slice Ad nd cd] 26)).alloc (.cells #[.int .i64 d, .int .i64 p] 66)).alloc (.cells #[.int .i64 co, .slice Al nl cl, .slice Ap np cp] 29)) w.heap.size 26 #[.slice An nn cn, .slice Ad nd cd]) := ((AJ.new _ _ _).alloc _).alloc _
 have AP : Hid (AJ (((w.alloc (.cells #[.slice An nn cn, .slice Ad nd cd] 26)).alloc (.cells #[.int .i64 d, .int .i64 p] 66)).alloc (.cells #[.int .i64 co, .slice Al nl cl, .slice Ap np cp] 29)) (w.heap.size + 1) 66 #[.int .i64 d, .int .i64 p]) := by
  have := (AJ.new (w.alloc (.cells #[.slice An nn cn, .slice Ad nd cd] 26)) 66 #[.int .i64 d, .int .i64 p]).alloc (.cells #[.int .i64 co, .slice Al nl cl, .slice Ap np cp] 29);unfold Hid; simpa using this
 have AV : Hid (AJ (((w.alloc (.cells #[.slice An nn cn, .slice Ad nd cd] 26)).alloc (.cells #[.int .i64 d, .int .i64 p] 66)).alloc (.cells #[.int .i64 co, .slice Al nl cl, .slice Ap np cp] 29)) (w.heap.size + 2) 29 #[.int .i64 co, .slice Al nl cl, .slice Ap np cp]) := by
  have := AJ.new ((w.alloc (.cells #[.slice An nn cn, .slice Ad nd cd] 26)).alloc (.cells #[.int .i64 d, .int .i64 p] 66)) 29 #[.int .i64 co, .slice Al nl cl, .slice Ap np cp];unfold Hid; simpa using this
 go_enter func88, ntmps88
 go_upto_region 1 with (fail);generalize World.alloc (World.alloc (World.alloc w _) _) _ = W at *;obtain ⟨b0, off, x', rfl, hb, hx', hc⟩ := (HD.below Bi BN).at (fun _ => rfl) (by decide) hi;obtain rfl : x = x' := by have := HX.out; rw [this] at hx'; exact Option.some.inj hx'
 obtain ⟨nm, kd, a, b, Cn⟩ := x;simp only at Vn;have c0 : W.cell? ⟨b0, off + d * 5, none⟩ = some (.string nm) := hc 0 _ rfl;have c1 : W.cell? ⟨b0, off + d * 5 + 1, none⟩ = some (.int .i64 kd) := hc 1 _ rfl;have c2 : W.cell? ⟨b0, off + d * 5 + 2, none⟩ = some (.int .i64 a) := hc 2 _ rfl;have c3 : W.cell? ⟨b0, off + d * 5 + 3, none⟩ = some (.int .i64 b) := hc 3 _ rfl;have c4 : W.cell? ⟨b0, off + d * 5 + 4, none⟩ = some (.int .i64 Cn) := hc 4 _ rfl;have k1 := JX.c1;have o0 := AP.c0;clear hc hx';have AL : Hid (Below w.heap.size w (W.alloc (.cells #[.string nm, .int .i64 kd, .int .i64 a, .int .i64 b, .int .i64 Cn] 75))) := Bi.alloc Bi.size _;have AE := iD (AJ.new W 75 #[.string nm, .int .i64 kd, .int .i64 a, .int .i64 b, .int .i64 Cn]);have Td := iD (JX.alloc (.cells #[.string nm, .int .i64 kd, .int .i64 a, .int .i64 b, .int .i64 Cn] 75))
 have Mc := iD (AP.alloc (.cells #[.string nm, .int .i64 kd, .int .i64 a, .int .i64 b, .int .i64 Cn] 75));have Qf := iD (AV.alloc (.cells #[.string nm, .int .i64 kd, .int .i64 a, .int .i64 b, .int .i64 Cn] 75));go_upto_region 2 with (fail);clear Bi JX AP AV c0 c1 c2 c3 c4 k1 o0;generalize World.alloc W _ = W1 at *;obtain ⟨vb, EF⟩ := eX W.heap.size;rw [← EF] at AE ⊢;clear EF
 have AU : Hid (nP 109 #[.pointer (some ⟨w.heap.size + 1, 0, none⟩)] (fun k => decide (k.dev = d)) W1) := by
  intro W' d1 p1 q1 hb;have hc : W'.cell? ⟨w.heap.size + 1, 0, none⟩ = some (.int .i64 d) := (hb.cell (p := ⟨w.heap.size + 1, 0, none⟩) Mc.lt).trans (Mc.cell 0);have Af : w.heap.size + 1 < W'.heap.size := Nat.lt_of_lt_of_le Mc.lt hb.size;have hne : w.heap.size + 1 ≠ W'.heap.size := by omega
  have BF : Hid (Below W1.heap.size W1 (W'.alloc (.cells #[.int .i64 d1, .int .i64 p1, .int .i64 q1] 87))) := hb.alloc hb.size _;clear hb
  show Calls prog 109 #[.agg #[.int .i64 d1, .int .i64 p1, .int .i64 q1], .pointer (some ⟨w.heap.size + 1, 0, none⟩)] W' _
  go_enter func109, ntmps109
  go_wp2_with fail
  go_ret;exact ⟨zE (by by_cases h : d1 = d <;> simp [h]), BF⟩
 have XX := iD (tr 109 #[.pointer (some ⟨w.heap.size + 1, 0, none⟩)] (fun k => decide (k.dev = d)) (enters_of func109 (by kernel_rfl) rfl) Al nl cl Bl ls W1 (GV.below AL Df) (by have := AL.size; omega) AU);have g1 := Qf.c1;clear AU
 go_wp2_with fail
 clear g1;refine XX.mono ?_;rintro e w2 ⟨rfl, AQ⟩;clear XX;obtain ⟨t1, AG⟩ := eX (zk ls d);have AO := iD AG;rw [show (ls.any fun k => decide (k.dev = (d : Int))) = t1 by rw [AG]; rfl];clear AG;have AY := iD (AL.trans (AQ.mono AL.size));have XK := iD (Td.below AQ Td.lt); have XJ := iD (Mc.below AQ Mc.lt); have Qe := iD (Qf.below AQ Qf.lt); have Qd := iD (AE.below AQ AE.lt);clear AQ AL Td Mc Qf AE;have v4 := Qd.c4;have g0 := Qe.c0;have DC : vb < w2.heap.size := Qd.lt;have Am : w.heap.size + 2 < w2.heap.size := Qe.lt
 have KT : Hid (NE w vb w2.heap.size (w2.heap.size + 1) #[.slice An nn cn, .slice (some ⟨b0, off, none⟩) nd cd] #[.int .i64 d, .int .i64 p] #[.int .i64 co, .slice Al nl cl, .slice Ap np cp] #[.string nm, .int .i64 kd, .int .i64 a, .int .i64 b, .int .i64 Cn] #[.int .i64 4, .bool t1] #[.int .i64 6, .bool (Cn != co)] ((w2.alloc (.cells #[.int .i64 4, .bool t1] 156)).alloc (.cells #[.int .i64 6, .bool (Cn != co)] 156))) := by
  refine ⟨(AY.alloc AY.size _).alloc (by have := AY.size; simp; omega) _, (XK.alloc _).alloc _, (XJ.alloc _).alloc _, (Qe.alloc _).alloc _, (Qd.alloc _).alloc _, (AJ.new _ _ _).alloc _, ?_⟩;have := AJ.new (w2.alloc (.cells #[.int .i64 4, .bool t1] 156)) 156 #[.int .i64 6, .bool (Cn != co)];simpa using this
 go_upto_region 4 with (fail);clear AY XK XJ Qe Qd v4 g0 DC Am;generalize World.alloc (World.alloc w2 _) _ = W3 at *;obtain ⟨b1, AX⟩ := eX w2.heap.size;rw [← AX] at KT ⊢;clear AX;obtain ⟨t2, VQ⟩ := eX ((Cn != co));rw [← VQ] at KT ⊢;have AK := iD VQ;clear VQ;obtain ⟨bs, Jc, sd, rfl, PR, VW, hcs⟩ := (HS.below KT.bl Ci).at1 (k := d) (by omega);have TL := iD (yM VW);have AW : Hid ((W3.cell? ⟨w.heap.size + 1, 0, none⟩ = some (.int .i64 d) ∧ W3.cell? ⟨w.heap.size + 1, 1, none⟩ = some (.int .i64 p)) ∧ W3.cell? ⟨bs, Jc + d, none⟩ = some (.int .i64 sd)) := ⟨⟨KT.bo.cell 0, KT.bo.cell 1⟩, hcs⟩;clear hcs VW;have PP : d < n := by omega
 refine fX (fun W' => (W'.cell? ⟨w.heap.size + 1, 0, none⟩ = some (.int .i64 d) ∧ W'.cell? ⟨w.heap.size + 1, 1, none⟩ = some (.int .i64 p)) ∧ W'.cell? ⟨bs, Jc + d, none⟩ = some (.int .i64 sd)) [] ?_ fun AA => ?_
 ·exact AW.out
 try dsimp only at AA
 refine tk 0 35 (mf 8 1) AA ?_;refine tk 1 36 (mf 8 2) AA ?_;refine tk 2 37 (mf 8 3) AA ?_;refine tk 3 38 (mf 8 4) AA ?_;refine tk 4 39 (mf 8 5) AA ?_;refine tk 5 40 (mf 8 6) AA ?_;refine tk 6 41 (mf 8 7) AA ?_;refine tk 7 42 (mf 8 8) AA ?_;refine tK ?_;clear AW;have MZ : Hid (NE w vb b1 (b1 + 1) #[.slice An nn cn, .slice (some ⟨b0, off, none⟩) nd cd] #[.int .i64 d, .int .i64 p] #[.int .i64 co, .slice Al nl cl, .slice Ap np cp] #[.string nm, .int .i64 kd, .int .i64 a, .int .i64 b, .int .i64 Cn] #[.int .i64 4, .bool t1] #[.int .i64 6, .bool t2] W3.drew) := ⟨KT.bl.drew, KT.bn, KT.bo, KT.bg, KT.bv, KT.b1, KT.b2⟩;clear KT;generalize World.drew W3 = W4 at *;by_cases hsp : sd = p
 ·have q : (sd == p) = true := by simpa using hsp
  have HR : Hid (uq nn ns ds s d p co ls pr ⟨nm, kd, a, b, Cn⟩ = vJ (ur [(4, t1), (6, t2), (7, true)])) := by
   unfold Hid uq;rw [if_pos (by rw [TL.out]; exact hsp), gw, AO.out, AK.out]
  have hz := MZ.bl.size;obtain ⟨f10, f11⟩ := MZ.b1.d2;obtain ⟨f20, f21⟩ := MZ.b2.d2;clear hsp
  go_wp2_with fail
  refine (tT _ 3 3 (W4.heap.size + 1) [(4, t1), (6, t2), (7, true)] _ (Sl.newest rfl rfl (by decide)) (by simp) (by decide)).mono ?_;rintro e w6 ⟨Ao, c6, rfl, Ug, Cv⟩;have Dh : Hid (Below w.heap.size w w6) := (MZ.bl.alloc hz _).trans (Cv.mono (by simp; omega));have EH := iD (Ug.mono (base' := w.heap.size) (by simp; omega));clear Cv Ug
  go_wp2_with fail
  go_ret;rw [HR.out];exact ⟨Ao, c6, rfl, EH, Dh⟩
 have q : (sd == p) = false := by simpa using hsp
 have Hg : Hid (s.getD d 0 ≠ p) := by unfold Hid; rw [TL.out]; exact hsp
 clear hsp;obtain ⟨k0, k1⟩ := MZ.bn.d2;have o0 := MZ.bo.c0
 go_wp2_with fail
 clear q k0 k1 o0;have SA := MZ.bl.size;refine (gX An (some ⟨b0, off, none⟩) (some ⟨bs, Jc, none⟩) nn cn nd cd n c Bn Bd Bs d ns ds s ⟨nm, kd, a, b, Cn⟩ W4 (HL.below MZ.bl lR) (HN.below MZ.bl Ce) (by omega) (HD.below MZ.bl BN) (by omega) (HS.below MZ.bl Ci) (by omega) Da CU H0 Bq Vj AB hi HX HE HA).mono ?_;rintro e w5 ⟨rfl, BM⟩;have Em := iD (MZ.later BM);clear BM MZ SA;obtain ⟨du, Mr⟩ := eX (xI nn ns ds s d ⟨nm, kd, a, b, Cn⟩);rw [← Mr];have NM := iD Mr;clear Mr;have Wq : Hid (zG ns ds (zX s d p) = 0) := yQ H0 d hp
 have Il : Hid (uq nn ns ds s d p co ls pr ⟨nm, kd, a, b, Cn⟩ = vJ (ur [(4, t1), (6, t2), (1, decide (p = 2) && decide (du = 4)), (2, ya kd p du (Cz (zW nn ds s) ⟨nm, kd, a, b, Cn⟩)), (3, ye ns ds s (zX s d p)), (5, decide (p = 2) && decide (kd = 4) && !vA pr a)])) := by
  unfold Hid uq;rw [if_neg Hg.out, gv, AO.out, AK.out, NM.out]
 clear Hg AO AK NM TL;have Ar := iD H0.out;clear H0;go_upto_region 7 with (fail);have o1 := Em.bo.c1;rcases hp with rfl | rfl
 ·go_upto_region 8 with (fail);refine fX (fun W' => ((W'.cell? ⟨w.heap.size, 0, none⟩ = some (.slice An nn cn) ∧ W'.cell? ⟨w.heap.size, 1, none⟩ = some (.slice (some ⟨b0, off, none⟩) nd cd)) ∧ W'.cell? ⟨w.heap.size + 1, 0, none⟩ = some (.int .i64 d) ∧ W'.cell? ⟨w.heap.size + 1, 1, none⟩ = some (.int .i64 1)) ∧ (W'.cell? ⟨vb, 1, none⟩ = some (.int .i64 kd) ∧ W'.cell? ⟨vb, 2, none⟩ = some (.int .i64 a)) ∧ W'.cell? ⟨w.heap.size + 2, 2, none⟩ = some (.slice Ap np cp) ∧ (W'.cell? ⟨b1, 0, none⟩ = some (.int .i64 4) ∧ W'.cell? ⟨b1, 1, none⟩ = some (.bool t1)) ∧ W'.cell? ⟨b1 + 1, 0, none⟩ = some (.int .i64 6) ∧ W'.cell? ⟨b1 + 1, 1, none⟩ = some (.bool t2)) [] ?_ fun AA => ?_
  ·exact Em.cells
  try dsimp only at AA
  refine tk 0 60 (mf 16 1) AA ?_;refine tk 1 61 (mf 16 2) AA ?_;refine tk 2 62 (mf 16 3) AA ?_;refine tk 3 63 (mf 16 4) AA ?_;refine tk 4 64 (mf 16 5) AA ?_;refine tk 5 65 (mf 16 6) AA ?_;refine tk 6 66 (mf 16 7) AA ?_;refine tb 7 (mf 16 8) fun K hK => ?_
  (go_simp; refine (tB (some ⟨bs, Jc, none⟩) n c Bs s d 1 w5.drew (HS.below Em.bl.drew Ci) (Nat.le_trans Ci Em.bl.size) (by omega)).mono ?_; rintro e u1 ⟨At, ct, rfl, Vx, Vw⟩; have Eo := iD ((show NE _ _ _ _ _ _ _ _ _ _ w5.drew from ⟨Em.bl.drew, Em.bn, Em.bo, Em.bg, Em.bv, Em.b1, Em.b2⟩).later Vw); have Ux := iD Vx.sl; clear Vx Vw; go_simp)
  refine hK _ _ (fun _ => Eo.cells) fun p => (fun AA => ?_) (p rfl)
  clear p hK K;(try dsimp only at AA);refine tb 8 (mf 16 9) fun K hK => ?_
  (go_simp; refine (lQ An (some ⟨b0, off, none⟩) (some ⟨bs, Jc, none⟩) At nn cn nd cd n c (zX s d 1).length ct Bn Bd Bs u1.heap.size ns ds s (zX s d 1) u1 (HL.below Eo.bl lR) (HN.below Eo.bl Ce) (Nat.le_trans Ce Eo.bl.size) (HD.below Eo.bl BN) (Nat.le_trans BN Eo.bl.size) (HS.below Eo.bl Ci) (Nat.le_trans Ci Eo.bl.size) Ux lR Da CU Ar Wq Bq (by omega) AB (by rw [yy, Ch.out]; exact AB) HE HA).mono ?_; rintro e u2 ⟨Ao, mo, Aa, lo, ko, rfl, Nz, Ny, Nw, hb⟩; have Ct := iD (Eo.later hb); have Gi := iD (tS Ny Nz); have UQ := Nw.sl.le; clear hb Nz Ny Nw; go_simp)
  refine hK _ _ (fun _ => Ct.cells) fun p => (fun AA => ?_) (p rfl)
  clear p hK K;(try dsimp only at AA);refine tk 9 59 (mf 16 10) AA ?_;refine tk 10 69 (mf 16 11) AA ?_;refine tk 11 70 (mf 16 12) AA ?_;refine tk 12 71 (mf 16 13) AA ?_;refine tk 13 15 (mf 16 14) AA ?_;refine tk 14 16 (mf 16 15) AA ?_;refine tk 15 17 (mf 16 16) AA ?_;refine tK ?_;go_upto_region 9 with (fail)
  refine fX (fun W' => ((W'.cell? ⟨w.heap.size, 0, none⟩ = some (.slice An nn cn) ∧ W'.cell? ⟨w.heap.size, 1, none⟩ = some (.slice (some ⟨b0, off, none⟩) nd cd)) ∧ W'.cell? ⟨w.heap.size + 1, 0, none⟩ = some (.int .i64 d) ∧ W'.cell? ⟨w.heap.size + 1, 1, none⟩ = some (.int .i64 1)) ∧ (W'.cell? ⟨vb, 1, none⟩ = some (.int .i64 kd) ∧ W'.cell? ⟨vb, 2, none⟩ = some (.int .i64 a)) ∧ W'.cell? ⟨w.heap.size + 2, 2, none⟩ = some (.slice Ap np cp) ∧ (W'.cell? ⟨b1, 0, none⟩ = some (.int .i64 4) ∧ W'.cell? ⟨b1, 1, none⟩ = some (.bool t1)) ∧ W'.cell? ⟨b1 + 1, 0, none⟩ = some (.int .i64 6) ∧ W'.cell? ⟨b1 + 1, 1, none⟩ = some (.bool t2)) [] ?_ fun AA => ?_
  ·exact Ct.cells
  try dsimp only at AA
  refine tk 0 72 (mf 38 1) AA ?_;refine tk 1 73 (mf 38 2) AA ?_;refine tk 2 74 (mf 38 3) AA ?_;refine tk 3 75 (mf 38 4) AA ?_;refine ts 4 76 (mf 38 5) AA ?_;refine ts 5 77 (mf 38 6) AA ?_;refine tk 6 78 (mf 38 7) AA ?_;refine tk 7 79 (mf 38 8) AA ?_;refine tk 8 80 (mf 38 9) AA ?_;refine tk 9 81 (mf 38 10) AA ?_;refine tk 10 82 (mf 38 11) AA ?_;refine tk 11 83 (mf 38 12) AA ?_;refine tk 12 84 (mf 38 13) AA ?_;refine tk 13 85 (mf 38 14) AA ?_;refine tk 16 88 (ma 38 81919) AA ?_;refine tk 17 89 (ma 38 212991) AA ?_;refine tk 18 90 (ma 38 475135) AA ?_;refine tk 19 91 (ma 38 999423) AA ?_;refine tk 20 92 (ma 38 2047999) AA ?_;refine tb 14 (ma 38 2064383) fun K hK => ?_
  (go_simp; refine (pl An (some ⟨b0, off, none⟩) (some ⟨bs, Jc, none⟩) nn cn nd cd n c Bd Bs d 1 du kd ds s ⟨nm, kd, a, b, Cn⟩ u2.drew (HD.below Ct.bl.drew BN) (Nat.le_trans BN Ct.bl.size) (HS.below Ct.bl.drew Ci) (Nat.le_trans Ci Ct.bl.size) Bq (by omega) AB HE HA hi HX rfl Vn).mono ?_; rintro e u3 ⟨rfl, hb⟩; have JB := iD ((show NE _ _ _ _ _ _ _ _ _ _ u2.drew from ⟨Ct.bl.drew, Ct.bn, Ct.bo, Ct.bg, Ct.bv, Ct.b1, Ct.b2⟩).later hb); clear hb; go_simp)
  refine hK _ _ (fun _ => JB.cells) fun p => (fun AA => ?_) (p rfl)
  clear p hK K;(try dsimp only at AA);refine tk 15 87 (mf 38 21) AA ?_;refine tk 21 93 (mf 38 22) AA ?_;refine ts 22 94 (mf 38 23) AA ?_;refine ts 23 95 (mf 38 24) AA ?_;refine ts 24 96 (mf 38 25) AA ?_;refine tk 25 97 (mf 38 26) AA ?_;refine tk 26 98 (mf 38 27) AA ?_;refine ts 27 99 (mf 38 28) AA ?_;refine ts 28 100 (mf 38 29) AA ?_;refine ts 29 101 (mf 38 30) AA ?_;refine ts 30 102 (mf 38 31) AA ?_;refine ts 31 103 (mf 38 32) AA ?_;refine ts 32 104 (mf 38 33) AA ?_;refine tk 33 105 (mf 38 34) AA ?_;refine tk 34 106 (mf 38 35) AA ?_;refine tb 35 (mf 38 36) fun K hK => ?_
  go_simp
  refine hK _ _ (fun _ => (JB.later ((Below.refl _ _).alloc lR _)).cells) fun p => (fun AA => ?_) (p rfl)
  clear p hK K;(try dsimp only at AA);refine tb 36 (mf 38 37) fun K hK => ?_
  (go_simp; refine (tT _ 6 6 (u3.heap.size + 1) [(4, t1), (6, t2), (1, false), (2, ya kd 1 du (Cz (zW nn ds s) ⟨nm, kd, a, b, Cn⟩)), (3, decide (0 < mo)), (5, false)] _ (Sl.newest rfl (by rfl) (by decide)) (by simp) (by decide)).mono ?_; rintro e u5 ⟨A5, c5, rfl, Ev, BM⟩; have OV := iD ((JB.later ((Below.refl _ _).alloc lR _)).later BM); have NH := iD (Ev.mono (base' := w.heap.size) (by have := JB.bl.size; simp; omega)); clear Ev BM; go_simp)
  refine hK _ _ (fun _ => OV.cells) fun p => (fun AA => ?_) (p rfl)
  clear p hK K;(try dsimp only at AA);refine tk 37 8 (mf 38 38) AA ?_;refine tK ?_
  go_wp2_with fail
  go_ret;rw [Il.out, ← Gi.out];exact ⟨A5, c5, rfl, NH, OV.bl⟩
 ·go_upto_region 8 with (fail);refine fX (fun W' => ((W'.cell? ⟨w.heap.size, 0, none⟩ = some (.slice An nn cn) ∧ W'.cell? ⟨w.heap.size, 1, none⟩ = some (.slice (some ⟨b0, off, none⟩) nd cd)) ∧ W'.cell? ⟨w.heap.size + 1, 0, none⟩ = some (.int .i64 d) ∧ W'.cell? ⟨w.heap.size + 1, 1, none⟩ = some (.int .i64 2)) ∧ (W'.cell? ⟨vb, 1, none⟩ = some (.int .i64 kd) ∧ W'.cell? ⟨vb, 2, none⟩ = some (.int .i64 a)) ∧ W'.cell? ⟨w.heap.size + 2, 2, none⟩ = some (.slice Ap np cp) ∧ (W'.cell? ⟨b1, 0, none⟩ = some (.int .i64 4) ∧ W'.cell? ⟨b1, 1, none⟩ = some (.bool t1)) ∧ W'.cell? ⟨b1 + 1, 0, none⟩ = some (.int .i64 6) ∧ W'.cell? ⟨b1 + 1, 1, none⟩ = some (.bool t2)) [] ?_ fun AA => ?_
  ·exact Em.cells
  try dsimp only at AA
  refine tk 0 60 (mf 16 1) AA ?_;refine tk 1 61 (mf 16 2) AA ?_;refine tk 2 62 (mf 16 3) AA ?_;refine tk 3 63 (mf 16 4) AA ?_;refine tk 4 64 (mf 16 5) AA ?_;refine tk 5 65 (mf 16 6) AA ?_;refine tk 6 66 (mf 16 7) AA ?_;refine tb 7 (mf 16 8) fun K hK => ?_
  (go_simp; refine (tB (some ⟨bs, Jc, none⟩) n c Bs s d 2 w5.drew (HS.below Em.bl.drew Ci) (Nat.le_trans Ci Em.bl.size) (by omega)).mono ?_; rintro e u1 ⟨At, ct, rfl, Vx, Vw⟩; have Eo := iD ((show NE _ _ _ _ _ _ _ _ _ _ w5.drew from ⟨Em.bl.drew, Em.bn, Em.bo, Em.bg, Em.bv, Em.b1, Em.b2⟩).later Vw); have Ux := iD Vx.sl; clear Vx Vw; go_simp)
  refine hK _ _ (fun _ => Eo.cells) fun p => (fun AA => ?_) (p rfl)
  clear p hK K;(try dsimp only at AA);refine tb 8 (mf 16 9) fun K hK => ?_
  (go_simp; refine (lQ An (some ⟨b0, off, none⟩) (some ⟨bs, Jc, none⟩) At nn cn nd cd n c (zX s d 2).length ct Bn Bd Bs u1.heap.size ns ds s (zX s d 2) u1 (HL.below Eo.bl lR) (HN.below Eo.bl Ce) (Nat.le_trans Ce Eo.bl.size) (HD.below Eo.bl BN) (Nat.le_trans BN Eo.bl.size) (HS.below Eo.bl Ci) (Nat.le_trans Ci Eo.bl.size) Ux lR Da CU Ar Wq Bq (by omega) AB (by rw [yy, Ch.out]; exact AB) HE HA).mono ?_; rintro e u2 ⟨Ao, mo, Aa, lo, ko, rfl, Nz, Ny, Nw, hb⟩; have Ct := iD (Eo.later hb); have Gi := iD (tS Ny Nz); have UQ := Nw.sl.le; clear hb Nz Ny Nw; go_simp)
  refine hK _ _ (fun _ => Ct.cells) fun p => (fun AA => ?_) (p rfl)
  clear p hK K;(try dsimp only at AA);refine tk 9 59 (mf 16 10) AA ?_;refine tk 10 69 (mf 16 11) AA ?_;refine tk 11 70 (mf 16 12) AA ?_;refine tk 12 71 (mf 16 13) AA ?_;refine tk 13 15 (mf 16 14) AA ?_;refine tk 14 16 (mf 16 15) AA ?_;refine tk 15 17 (mf 16 16) AA ?_;refine tK ?_;go_upto_region 9 with (fail);by_cases hk : kd = 4
  ·subst hk;refine fX (fun W' => ((W'.cell? ⟨w.heap.size, 0, none⟩ = some (.slice An nn cn) ∧ W'.cell? ⟨w.heap.size, 1, none⟩ = some (.slice (some ⟨b0, off, none⟩) nd cd)) ∧ W'.cell? ⟨w.heap.size + 1, 0, none⟩ = some (.int .i64 d) ∧ W'.cell? ⟨w.heap.size + 1, 1, none⟩ = some (.int .i64 2)) ∧ (W'.cell? ⟨vb, 1, none⟩ = some (.int .i64 4) ∧ W'.cell? ⟨vb, 2, none⟩ = some (.int .i64 a)) ∧ W'.cell? ⟨w.heap.size + 2, 2, none⟩ = some (.slice Ap np cp) ∧ (W'.cell? ⟨b1, 0, none⟩ = some (.int .i64 4) ∧ W'.cell? ⟨b1, 1, none⟩ = some (.bool t1)) ∧ W'.cell? ⟨b1 + 1, 0, none⟩ = some (.int .i64 6) ∧ W'.cell? ⟨b1 + 1, 1, none⟩ = some (.bool t2)) [] ?_ fun AA => ?_
   ·exact Ct.cells
   try dsimp only at AA
   refine tk 0 72 (mf 38 1) AA ?_;refine tk 1 73 (mf 38 2) AA ?_;refine tk 2 74 (mf 38 3) AA ?_;refine tk 3 75 (mf 38 4) AA ?_;refine tk 4 76 (mf 38 5) AA ?_;refine tk 5 77 (mf 38 6) AA ?_;refine tk 6 78 (mf 38 7) AA ?_;refine tk 7 79 (mf 38 8) AA ?_;refine tk 8 80 (mf 38 9) AA ?_;refine tk 9 81 (mf 38 10) AA ?_;refine tk 10 82 (mf 38 11) AA ?_;refine tk 11 83 (mf 38 12) AA ?_;refine tk 12 84 (mf 38 13) AA ?_;refine tk 13 85 (mf 38 14) AA ?_;refine tk 16 88 (ma 38 81919) AA ?_;refine tk 17 89 (ma 38 212991) AA ?_;refine tk 18 90 (ma 38 475135) AA ?_;refine tk 19 91 (ma 38 999423) AA ?_;refine tk 20 92 (ma 38 2047999) AA ?_;refine tb 14 (ma 38 2064383) fun K hK => ?_
   (go_simp; refine (pl An (some ⟨b0, off, none⟩) (some ⟨bs, Jc, none⟩) nn cn nd cd n c Bd Bs d 2 du 4 ds s ⟨nm, 4, a, b, Cn⟩ u2.drew (HD.below Ct.bl.drew BN) (Nat.le_trans BN Ct.bl.size) (HS.below Ct.bl.drew Ci) (Nat.le_trans Ci Ct.bl.size) Bq (by omega) AB HE HA hi HX rfl Vn).mono ?_; rintro e u3 ⟨rfl, hb⟩; have JB := iD ((show NE _ _ _ _ _ _ _ _ _ _ u2.drew from ⟨Ct.bl.drew, Ct.bn, Ct.bo, Ct.bg, Ct.bv, Ct.b1, Ct.b2⟩).later hb); clear hb; go_simp)
   refine hK _ _ (fun _ => JB.cells) fun p => (fun AA => ?_) (p rfl)
   clear p hK K;(try dsimp only at AA);refine tk 15 87 (mf 38 21) AA ?_;refine tk 21 93 (mf 38 22) AA ?_;refine tk 22 94 (mf 38 23) AA ?_;refine tk 23 95 (mf 38 24) AA ?_;refine tk 24 96 (mf 38 25) AA ?_;refine tk 25 97 (mf 38 26) AA ?_;refine tk 26 98 (mf 38 27) AA ?_;refine tk 27 99 (mf 38 28) AA ?_;refine tk 28 100 (mf 38 29) AA ?_;refine tk 29 101 (mf 38 30) AA ?_;refine tk 30 102 (mf 38 31) AA ?_;refine tb 31 (mf 38 32) fun K hK => ?_
   (go_simp; refine (vf Ap np cp Bp pr a u3 (Ab.below JB.bl AZ)).mono ?_; rintro e u4 ⟨rfl, rfl⟩; go_simp)
   refine hK _ _ (fun _ => JB.cells) fun p => (fun AA => ?_) (p rfl)
   clear p hK K;(try dsimp only at AA);refine tk 32 104 (mf 38 33) AA ?_;refine tk 33 105 (mf 38 34) AA ?_;refine tk 34 106 (mf 38 35) AA ?_;refine tb 35 (mf 38 36) fun K hK => ?_
   go_simp
   refine hK _ _ (fun _ => (JB.later ((Below.refl _ _).alloc lR _)).cells) fun p => (fun AA => ?_) (p rfl)
   clear p hK K;(try dsimp only at AA);refine tb 36 (mf 38 37) fun K hK => ?_
   (go_simp; refine (tT _ 6 6 (u3.heap.size + 1) [(4, t1), (6, t2), (1, du == 4), (2, ya 4 2 du (Cz (zW nn ds s) ⟨nm, 4, a, b, Cn⟩)), (3, decide (0 < mo)), (5, !vA pr a)] _ (Sl.newest rfl (by rfl) (by decide)) (by simp) (by decide)).mono ?_; rintro e u5 ⟨A5, c5, rfl, Ev, BM⟩; have OV := iD ((JB.later ((Below.refl _ _).alloc lR _)).later BM); have NH := iD (Ev.mono (base' := w.heap.size) (by have := JB.bl.size; simp; omega)); clear Ev BM; go_simp)
   refine hK _ _ (fun _ => OV.cells) fun p => (fun AA => ?_) (p rfl)
   clear p hK K;(try dsimp only at AA);refine tk 37 8 (mf 38 38) AA ?_;refine tK ?_
   go_wp2_with fail
   go_ret;rw [Il.out, ← Gi.out];exact ⟨A5, c5, rfl, NH, OV.bl⟩
  ·have qk : (kd == 4) = false := by simpa using hk
   have PG := Il.out;rw [show decide (kd = 4) = false from by simp [hk]] at PG;clear Il;have Il := iD PG;clear PG;refine fX (fun W' => ((W'.cell? ⟨w.heap.size, 0, none⟩ = some (.slice An nn cn) ∧ W'.cell? ⟨w.heap.size, 1, none⟩ = some (.slice (some ⟨b0, off, none⟩) nd cd)) ∧ W'.cell? ⟨w.heap.size + 1, 0, none⟩ = some (.int .i64 d) ∧ W'.cell? ⟨w.heap.size + 1, 1, none⟩ = some (.int .i64 2)) ∧ (W'.cell? ⟨vb, 1, none⟩ = some (.int .i64 kd) ∧ W'.cell? ⟨vb, 2, none⟩ = some (.int .i64 a)) ∧ W'.cell? ⟨w.heap.size + 2, 2, none⟩ = some (.slice Ap np cp) ∧ (W'.cell? ⟨b1, 0, none⟩ = some (.int .i64 4) ∧ W'.cell? ⟨b1, 1, none⟩ = some (.bool t1)) ∧ W'.cell? ⟨b1 + 1, 0, none⟩ = some (.int .i64 6) ∧ W'.cell? ⟨b1 + 1, 1, none⟩ = some (.bool t2)) [] ?_ fun AA => ?_
   ·exact Ct.cells
   try dsimp only at AA
   refine tk 0 72 (mf 38 1) AA ?_;refine tk 1 73 (mf 38 2) AA ?_;refine tk 2 74 (mf 38 3) AA ?_;refine tk 3 75 (mf 38 4) AA ?_;refine tk 4 76 (mf 38 5) AA ?_;refine tk 5 77 (mf 38 6) AA ?_;refine tk 6 78 (mf 38 7) AA ?_;refine tk 7 79 (mf 38 8) AA ?_;refine tk 8 80 (mf 38 9) AA ?_;refine tk 9 81 (mf 38 10) AA ?_;refine tk 10 82 (mf 38 11) AA ?_;refine tk 11 83 (mf 38 12) AA ?_;refine tk 12 84 (mf 38 13) AA ?_;refine tk 13 85 (mf 38 14) AA ?_;refine tk 16 88 (ma 38 81919) AA ?_;refine tk 17 89 (ma 38 212991) AA ?_;refine tk 18 90 (ma 38 475135) AA ?_;refine tk 19 91 (ma 38 999423) AA ?_;refine tk 20 92 (ma 38 2047999) AA ?_;refine tb 14 (ma 38 2064383) fun K hK => ?_
   (go_simp; refine (pl An (some ⟨b0, off, none⟩) (some ⟨bs, Jc, none⟩) nn cn nd cd n c Bd Bs d 2 du kd ds s ⟨nm, kd, a, b, Cn⟩ u2.drew (HD.below Ct.bl.drew BN) (Nat.le_trans BN Ct.bl.size) (HS.below Ct.bl.drew Ci) (Nat.le_trans Ci Ct.bl.size) Bq (by omega) AB HE HA hi HX rfl Vn).mono ?_; rintro e u3 ⟨rfl, hb⟩; have JB := iD ((show NE _ _ _ _ _ _ _ _ _ _ u2.drew from ⟨Ct.bl.drew, Ct.bn, Ct.bo, Ct.bg, Ct.bv, Ct.b1, Ct.b2⟩).later hb); clear hb; go_simp)
   refine hK _ _ (fun _ => JB.cells) fun p => (fun AA => ?_) (p rfl)
   clear p hK K;(try dsimp only at AA);refine tk 15 87 (mf 38 21) AA ?_;refine tk 21 93 (mf 38 22) AA ?_;refine tk 22 94 (mf 38 23) AA ?_;refine tk 23 95 (mf 38 24) AA ?_;refine tk 24 96 (mf 38 25) AA ?_;refine tk 25 97 (mf 38 26) AA ?_;refine tk 26 98 (mf 38 27) AA ?_;refine ts 27 99 (mf 38 28) AA ?_;refine ts 28 100 (mf 38 29) AA ?_;refine ts 29 101 (mf 38 30) AA ?_;refine ts 30 102 (mf 38 31) AA ?_;refine ts 31 103 (mf 38 32) AA ?_;refine ts 32 104 (mf 38 33) AA ?_;refine tk 33 105 (mf 38 34) AA ?_;refine tk 34 106 (mf 38 35) AA ?_;refine tb 35 (mf 38 36) fun K hK => ?_
   go_simp
   refine hK _ _ (fun _ => (JB.later ((Below.refl _ _).alloc lR _)).cells) fun p => (fun AA => ?_) (p rfl)
   clear p hK K;(try dsimp only at AA);refine tb 36 (mf 38 37) fun K hK => ?_
   (go_simp; refine (tT _ 6 6 (u3.heap.size + 1) [(4, t1), (6, t2), (1, du == 4), (2, ya kd 2 du (Cz (zW nn ds s) ⟨nm, kd, a, b, Cn⟩)), (3, decide (0 < mo)), (5, false)] _ (Sl.newest rfl (by rfl) (by decide)) (by simp) (by decide)).mono ?_; rintro e u5 ⟨A5, c5, rfl, Ev, BM⟩; have OV := iD ((JB.later ((Below.refl _ _).alloc lR _)).later BM); have NH := iD (Ev.mono (base' := w.heap.size) (by have := JB.bl.size; simp; omega)); clear Ev BM; go_simp)
   refine hK _ _ (fun _ => OV.cells) fun p => (fun AA => ?_) (p rfl)
   clear p hK K;(try dsimp only at AA);refine tk 37 8 (mf 38 38) AA ?_;refine tK ?_
   go_wp2_with fail
   go_ret;rw [Il.out, ← Gi.out];exact ⟨A5, c5, rfl, NH, OV.bl⟩
end Go.Proofs.YtddddlhgaeameaaGreatDoor
