import Derived.Test.YtfaknfmndafllaaGreatDoorW27
import Derived.Test.YtfaknfmndafllaaGreatDoorW11
import Derived.Test.YtfaknfmndafllaaGreatDoorW18
import Derived.Test.YtfaknfmndafllaaGreatDoorW03
set_option maxRecDepth 100000
set_option maxHeartbeats 8000000
namespace Go.Proofs.YtfaknfmndafllaaGreatDoor
open Go.RowKit
structure HzQ (w : World) (vb b1 b2 : Nat) (nt op gr dv f1 f2 : Array Value) (W : World) : Prop where
 bl : Below w.heap.size w W
 bn : Blk W w.heap.size 30 nt
 bo : Blk W (w.heap.size + 1) 62 op
 bg : Blk W (w.heap.size + 2) 40 gr
 bv : Blk W vb 68 dv
 b1 : Blk W b1 193 f1
 b2 : Blk W b2 193 f2
theorem HzQ.later {w W W' : World} {vb b1 b2 : Nat} {nt op gr dv f1 f2 : Array Value} (h : HzQ w vb b1 b2 nt op gr dv f1 f2 W) (hb : Below W.heap.size W W') : HzQ w vb b1 b2 nt op gr dv f1 f2 W' :=
 ⟨h.bl.trans (hb.mono h.bl.size), h.bn.below hb h.bn.lt, h.bo.below hb h.bo.lt, h.bg.below hb h.bg.lt, h.bv.below hb h.bv.lt, h.b1.below hb h.b1.lt, h.b2.below hb h.b2.lt⟩
theorem HzQ.cells {w W : World} {vb b1 b2 nn cn nd cd d nl cl np cp : Nat} {An Ad Al Ap : Option Addr} {p co kd a b co2 : Int} {nm : ByteArray} {t1 t2 : Bool} (h : HzQ w vb b1 b2 #[.slice An nn cn, .slice Ad nd cd] #[.int .i64 d, .int .i64 p] #[.int .i64 co, .slice Al nl cl, .slice Ap np cp] #[.string nm, .int .i64 kd, .int .i64 a, .int .i64 b, .int .i64 co2] #[.int .i64 4, .bool t1] #[.int .i64 6, .bool t2] W) :
 ((W.cell? ⟨w.heap.size, 0, none⟩ = some (.slice An nn cn) ∧ W.cell? ⟨w.heap.size, 1, none⟩ = some (.slice Ad nd cd)) ∧ W.cell? ⟨w.heap.size + 1, 0, none⟩ = some (.int .i64 d) ∧ W.cell? ⟨w.heap.size + 1, 1, none⟩ = some (.int .i64 p)) ∧ (W.cell? ⟨vb, 1, none⟩ = some (.int .i64 kd) ∧ W.cell? ⟨vb, 2, none⟩ = some (.int .i64 a)) ∧ W.cell? ⟨w.heap.size + 2, 2, none⟩ = some (.slice Ap np cp) ∧ (W.cell? ⟨b1, 0, none⟩ = some (.int .i64 4) ∧ W.cell? ⟨b1, 1, none⟩ = some (.bool t1)) ∧ W.cell? ⟨b2, 0, none⟩ = some (.int .i64 6) ∧ W.cell? ⟨b2, 1, none⟩ = some (.bool t2) :=
 ⟨⟨⟨h.bn.cell 0, h.bn.cell 1⟩, h.bo.cell 0, h.bo.cell 1⟩, ⟨h.bv.cell 1, h.bv.cell 2⟩, h.bg.cell 2, ⟨h.b1.cell 0, h.b1.cell 1⟩, h.b2.cell 0, h.b2.cell 1⟩
theorem stateErr_with {ns : List Nd} {ds : List Dv} {s : List Int} (h : stateErr ns ds s = 0) (d : Nat) {p : Int} (hp : p = 1 ∨ p = 2) : stateErr ns ds (withL s d p) = 0 := by
 unfold stateErr at h ⊢
 split at h
 ·next h1 => exact absurd h h1
 next h1 =>
 rw [if_neg h1]
 split at h
 ·cases h
 next h2 =>
 rw [if_neg (by rw [withL_len]; exact h2)]
 split at h
 ·next h3 =>
  rw [if_pos]
  intro y hy
  unfold withL at hy
  split at hy
  ·rcases List.mem_or_eq_of_mem_set hy with h4 | h4
   ·exact h3 y h4
   ·rw [h4]; rcases hp with rfl | rfl <;> rfl
  ·exact h3 y hy
 ·cases h
open Classical in
theorem lostB_of {ns : List Nd} {ds : List Dv} {s s2 out : List Int} {m : Nat} (h : LostL ns ds s s2 out) (hm : out.length = m) : decide (0 < m) = lostB ns ds s s2 := by
 unfold lostB
 by_cases h0 : 0 < m
 ·rw [decide_eq_true h0]
  symm; rw [decide_eq_true_iff]
  rcases out with _ | ⟨x, r⟩
  ·simp at hm; omega
  ·obtain ⟨k, y, _, h1, h2, h3, h4⟩ := (h x).1 (by simp)
   exact ⟨k, y, h1, h2, h3, h4⟩
 ·rw [decide_eq_false h0]
  symm; rw [decide_eq_false_iff_not]
  rintro ⟨k, y, h1, h2, h3, h4⟩
  have := (h k).2 ⟨k, y, rfl, h1, h2, h3, h4⟩
  rw [List.eq_nil_of_length_eq_zero (by omega : out.length = 0)] at this
  cases this
theorem in_any (An Ad As Al Ap : Option Addr) (nn cn nd cd n c nl cl np cp Bn Bd Bs Bl Bp d : Nat) (p co : Int) (ns : List Nd) (ds : List Dv) (s : List Int) (ls : List Lk) (pr : List Int) (x : Dv) (w : World) (hL : Laid w)
 (hn : Sl w Bn 3 An nn cn (ns.flatMap Nd.cells)) (hBn : Bn ≤ w.heap.size) (hd : Sl w Bd 5 Ad nd cd (ds.flatMap Dv.cells)) (hBd : Bd ≤ w.heap.size) (hs : Sl w Bs 1 As n c (intsV s)) (hBs : Bs ≤ w.heap.size) (hls : Sl w Bl 3 Al nl cl (ls.flatMap Lk.cells)) (hBl : Bl ≤ w.heap.size) (hpr : Sl w Bp 1 Ap np cp (intsV pr)) (hBp : Bp ≤ w.heap.size)
 (hsn : ∀ x ∈ ns, x.name.size ≤ 9223372036854775807) (hsd : ∀ x ∈ ds, x.name.size ≤ 9223372036854775807) (h0 : stateErr ns ds s = 0) (hnn : nn ≤ 10000) (hn1 : n ≤ 10000) (hnd : nd ≤ n) (hi : d < nd) (hx : ds[d]? = some x) (hends : EndsOk nn ds) (hA : AOk nn ds) (hp : p = 1 ∨ p = 2) (hk6 : 1 ≤ x.kind ∧ x.kind ≤ 6) :
 Calls Tryz.prog 118 #[.agg #[.slice An nn cn, .slice Ad nd cd], .slice As n c, .agg #[.int .i64 d, .int .i64 p], .agg #[.int .i64 co, .slice Al nl cl, .slice Ap np cp]] w (IntsPost w (hzAt nn ns ds s d p co ls pr x)) := by
 have HN := Lib.hid hn; have HD := Lib.hid hd; have HS := Lib.hid hs; have HSN := Lib.hid hsn; have HSD := Lib.hid hsd; have H0 := Lib.hid h0; have HE := Lib.hid hends; have HA := Lib.hid hA; have HX := Lib.hid hx
 have HL := Lib.hid hL; have HLS := Lib.hid hls; have HPR := Lib.hid hpr
 have hpl := hpr.le; have hll := hls.le; have hdl := hd.le; have hsl := hs.le
 have HLN : Hid (s.length = n) := hs.len (fun _ => rfl) (by decide)
 clear hL hn hd hs hls hpr hsn hsd h0 hends hA hx
 have HB0 : Hid (Below w.heap.size w (((w.alloc (.cells #[.slice An nn cn, .slice Ad nd cd] 30)).alloc (.cells #[.int .i64 d, .int .i64 p] 62)).alloc (.cells #[.int .i64 co, .slice Al nl cl, .slice Ap np cp] 40))) := (((Below.refl _ _).alloc (Nat.le_refl _) _).alloc (by simp) _).alloc (by simp; omega) _
 have HKN : Hid (Blk (((w.alloc (.cells #[.slice An nn cn, .slice Ad nd cd] 30)).alloc (.cells #[.int .i64 d, .int .i64 p] 62)).alloc (.cells #[.int .i64 co, .slice Al nl cl, .slice Ap np cp] 40)) w.heap.size 30 #[.slice An nn cn, .slice Ad nd cd]) := ((Blk.new _ _ _).alloc _).alloc _
 have HKO : Hid (Blk (((w.alloc (.cells #[.slice An nn cn, .slice Ad nd cd] 30)).alloc (.cells #[.int .i64 d, .int .i64 p] 62)).alloc (.cells #[.int .i64 co, .slice Al nl cl, .slice Ap np cp] 40)) (w.heap.size + 1) 62 #[.int .i64 d, .int .i64 p]) := by
  have := (Blk.new (w.alloc (.cells #[.slice An nn cn, .slice Ad nd cd] 30)) 62 #[.int .i64 d, .int .i64 p]).alloc (.cells #[.int .i64 co, .slice Al nl cl, .slice Ap np cp] 40)
  unfold Hid; simpa using this
 have HKG : Hid (Blk (((w.alloc (.cells #[.slice An nn cn, .slice Ad nd cd] 30)).alloc (.cells #[.int .i64 d, .int .i64 p] 62)).alloc (.cells #[.int .i64 co, .slice Al nl cl, .slice Ap np cp] 40)) (w.heap.size + 2) 40 #[.int .i64 co, .slice Al nl cl, .slice Ap np cp]) := by
  have := Blk.new ((w.alloc (.cells #[.slice An nn cn, .slice Ad nd cd] 30)).alloc (.cells #[.int .i64 d, .int .i64 p] 62)) 40 #[.int .i64 co, .slice Al nl cl, .slice Ap np cp]
  unfold Hid; simpa using this
 go_enter Tryz.func118, Tryz.ntmps118
 go_upto_region 1 with (fail)
 generalize World.alloc (World.alloc (World.alloc w _) _) _ = W at *
 obtain ⟨b0, off, x', rfl, hb, hx', hc⟩ := (HD.out.below HB0.out hBd).at (fun _ => rfl) (by decide) hi
 obtain rfl : x = x' := by have := HX.out; rw [this] at hx'; exact Option.some.inj hx'
 obtain ⟨nm, kd, a, b, co2⟩ := x
 simp only at hk6
 have c0 : W.cell? ⟨b0, off + d * 5, none⟩ = some (.string nm) := hc 0 _ rfl
 have c1 : W.cell? ⟨b0, off + d * 5 + 1, none⟩ = some (.int .i64 kd) := hc 1 _ rfl
 have c2 : W.cell? ⟨b0, off + d * 5 + 2, none⟩ = some (.int .i64 a) := hc 2 _ rfl
 have c3 : W.cell? ⟨b0, off + d * 5 + 3, none⟩ = some (.int .i64 b) := hc 3 _ rfl
 have c4 : W.cell? ⟨b0, off + d * 5 + 4, none⟩ = some (.int .i64 co2) := hc 4 _ rfl
 have k1 := HKN.out.c1
 have o0 := HKO.out.c0
 clear hc hx'
 have HB1 : Hid (Below w.heap.size w (W.alloc (.cells #[.string nm, .int .i64 kd, .int .i64 a, .int .i64 b, .int .i64 co2] 68))) := HB0.out.alloc HB0.out.size _
 have HKV := Lib.hid (Blk.new W 68 #[.string nm, .int .i64 kd, .int .i64 a, .int .i64 b, .int .i64 co2])
 have HKN1 := Lib.hid (HKN.out.alloc (.cells #[.string nm, .int .i64 kd, .int .i64 a, .int .i64 b, .int .i64 co2] 68))
 have HKO1 := Lib.hid (HKO.out.alloc (.cells #[.string nm, .int .i64 kd, .int .i64 a, .int .i64 b, .int .i64 co2] 68))
 have HKG1 := Lib.hid (HKG.out.alloc (.cells #[.string nm, .int .i64 kd, .int .i64 a, .int .i64 b, .int .i64 co2] 68))
 go_upto_region 2 with (fail)
 clear HB0 HKN HKO HKG c0 c1 c2 c3 c4 k1 o0
 generalize World.alloc W _ = W1 at *
 obtain ⟨vb, hvb⟩ : ∃ x, x = W.heap.size := ⟨_, rfl⟩
 rw [← hvb] at HKV ⊢
 clear hvb
 have HPL : Hid (PredL 154 #[.pointer (some ⟨w.heap.size + 1, 0, none⟩)] (fun k => decide (k.dev = d)) W1) := by
  intro W' d1 p1 q1 hb
  have hc : W'.cell? ⟨w.heap.size + 1, 0, none⟩ = some (.int .i64 d) := (hb.cell (p := ⟨w.heap.size + 1, 0, none⟩) HKO1.out.lt).trans (HKO1.out.cell 0)
  have hBW : w.heap.size + 1 < W'.heap.size := Nat.lt_of_lt_of_le HKO1.out.lt hb.size
  have hne : w.heap.size + 1 ≠ W'.heap.size := by omega
  have HBW : Hid (Below W1.heap.size W1 (W'.alloc (.cells #[.int .i64 d1, .int .i64 p1, .int .i64 q1] 59))) := hb.alloc hb.size _
  clear hb
  show Calls Tryz.prog 154 #[.agg #[.int .i64 d1, .int .i64 p1, .int .i64 q1], .pointer (some ⟨w.heap.size + 1, 0, none⟩)] W' _
  go_enter Tryz.func154, Tryz.ntmps154
  go_wp2_with fail
  go_ret
  exact ⟨ret_bool (by by_cases h : d1 = d <;> simp [h]), HBW.out⟩
 have HCF := Lib.hid (contf_any 154 #[.pointer (some ⟨w.heap.size + 1, 0, none⟩)] (fun k => decide (k.dev = d)) (enters_of Tryz.func154 (by kernel_rfl) rfl) Al nl cl Bl ls W1 (HLS.out.below HB1.out hBl) (by have := HB1.out.size; omega) HPL.out)
 have g1 := HKG1.out.c1
 clear HPL
 go_wp2_with fail
 clear g1
 refine HCF.out.mono ?_
 rintro e w2 ⟨rfl, hb2⟩
 clear HCF
 obtain ⟨t1, ht1⟩ : ∃ t, t = lockB ls d := ⟨_, rfl⟩
 have HT1 := Lib.hid ht1
 rw [show (ls.any fun k => decide (k.dev = (d : Int))) = t1 by rw [ht1]; rfl]
 clear ht1
 have HB2 := Lib.hid (HB1.out.trans (hb2.mono HB1.out.size))
 have HKN2 := Lib.hid (HKN1.out.below hb2 HKN1.out.lt); have HKO2 := Lib.hid (HKO1.out.below hb2 HKO1.out.lt); have HKG2 := Lib.hid (HKG1.out.below hb2 HKG1.out.lt); have HKV2 := Lib.hid (HKV.out.below hb2 HKV.out.lt)
 clear hb2 HB1 HKN1 HKO1 HKG1 HKV
 have v4 := HKV2.out.c4
 have g0 := HKG2.out.c0
 have hv1 : vb < w2.heap.size := HKV2.out.lt
 have hg1 : w.heap.size + 2 < w2.heap.size := HKG2.out.lt
 have HQ4 : Hid (HzQ w vb w2.heap.size (w2.heap.size + 1) #[.slice An nn cn, .slice (some ⟨b0, off, none⟩) nd cd] #[.int .i64 d, .int .i64 p] #[.int .i64 co, .slice Al nl cl, .slice Ap np cp] #[.string nm, .int .i64 kd, .int .i64 a, .int .i64 b, .int .i64 co2] #[.int .i64 4, .bool t1] #[.int .i64 6, .bool (co2 != co)] ((w2.alloc (.cells #[.int .i64 4, .bool t1] 193)).alloc (.cells #[.int .i64 6, .bool (co2 != co)] 193))) := by
  refine ⟨(HB2.out.alloc HB2.out.size _).alloc (by have := HB2.out.size; simp; omega) _, (HKN2.out.alloc _).alloc _, (HKO2.out.alloc _).alloc _, (HKG2.out.alloc _).alloc _, (HKV2.out.alloc _).alloc _, (Blk.new _ _ _).alloc _, ?_⟩
  have := Blk.new (w2.alloc (.cells #[.int .i64 4, .bool t1] 193)) 193 #[.int .i64 6, .bool (co2 != co)]
  simpa using this
 go_upto_region 4 with (fail)
 clear HB2 HKN2 HKO2 HKG2 HKV2 v4 g0 hv1 hg1
 generalize World.alloc (World.alloc w2 _) _ = W3 at *
 obtain ⟨b1, hb1⟩ : ∃ x, x = w2.heap.size := ⟨_, rfl⟩
 rw [← hb1] at HQ4 ⊢
 clear hb1
 obtain ⟨t2, ht2⟩ : ∃ t, t = (co2 != co) := ⟨_, rfl⟩
 rw [← ht2] at HQ4 ⊢
 have HT2 := Lib.hid ht2
 clear ht2
 obtain ⟨bs, of2, sd, rfl, hbs, hsd1, hcs⟩ := (HS.out.below HQ4.out.bl hBs).at1 (k := d) (by omega)
 have HSD1 := Lib.hid (getD_of hsd1)
 have HC4 : Hid ((W3.cell? ⟨w.heap.size + 1, 0, none⟩ = some (.int .i64 d) ∧ W3.cell? ⟨w.heap.size + 1, 1, none⟩ = some (.int .i64 p)) ∧ W3.cell? ⟨bs, of2 + d, none⟩ = some (.int .i64 sd)) := ⟨⟨HQ4.out.bo.cell 0, HQ4.out.bo.cell 1⟩, hcs⟩
 clear hcs hsd1
 have hdn : d < n := by omega
 refine wp_region_J (S := fun W' => (W'.cell? ⟨w.heap.size + 1, 0, none⟩ = some (.int .i64 d) ∧ W'.cell? ⟨w.heap.size + 1, 1, none⟩ = some (.int .i64 p)) ∧ W'.cell? ⟨bs, of2 + d, none⟩ = some (.int .i64 sd)) (J := []) (by kernel_rfl) ?_ (fun hHeld => ?_)
 ·exact HC4.out
 try dsimp only at hHeld
 refine tk 0 35 (mf 8 1) hHeld ?_
 refine tk 1 36 (mf 8 2) hHeld ?_
 refine tk 2 37 (mf 8 3) hHeld ?_
 refine tk 3 38 (mf 8 4) hHeld ?_
 refine tk 4 39 (mf 8 5) hHeld ?_
 refine tk 5 40 (mf 8 6) hHeld ?_
 refine tk 6 41 (mf 8 7) hHeld ?_
 refine tk 7 42 (mf 8 8) hHeld ?_
 refine wpAnyJ_done (by kernel_rfl) ?_ _
 clear HC4
 have HQ5 : Hid (HzQ w vb b1 (b1 + 1) #[.slice An nn cn, .slice (some ⟨b0, off, none⟩) nd cd] #[.int .i64 d, .int .i64 p] #[.int .i64 co, .slice Al nl cl, .slice Ap np cp] #[.string nm, .int .i64 kd, .int .i64 a, .int .i64 b, .int .i64 co2] #[.int .i64 4, .bool t1] #[.int .i64 6, .bool t2] W3.drew) := ⟨HQ4.out.bl.drew, HQ4.out.bn, HQ4.out.bo, HQ4.out.bg, HQ4.out.bv, HQ4.out.b1, HQ4.out.b2⟩
 clear HQ4
 generalize World.drew W3 = W4 at *
 by_cases hsp : sd = p
 ·have q : (sd == p) = true := by simpa using hsp
  have HR : Hid (hzAt nn ns ds s d p co ls pr ⟨nm, kd, a, b, co2⟩ = sortL (fndL [(4, t1), (6, t2), (7, true)])) := by
   unfold Hid hzAt
   rw [if_pos (by rw [HSD1.out]; exact hsp), fnd3, HT1.out, HT2.out]
  have hz := HQ5.out.bl.size
  have f10 := HQ5.out.b1.c0
  have f11 := HQ5.out.b1.c1
  have f20 := HQ5.out.b2.c0
  have f21 := HQ5.out.b2.c1
  clear hsp
  go_wp2_with fail
  refine (list_any _ 3 3 (W4.heap.size + 1) [(4, t1), (6, t2), (7, true)] _ (Sl.newest rfl rfl (by decide)) (by simp) (by decide)).mono ?_
  rintro e w6 ⟨Ao, c6, rfl, hO6, hb6⟩
  have HB6 : Hid (Below w.heap.size w w6) := (HQ5.out.bl.alloc hz _).trans (hb6.out.mono (by simp; omega))
  have HO6 := Lib.hid (hO6.out.mono (base' := w.heap.size) (by simp; omega))
  clear hb6 hO6
  go_wp2_with fail
  go_ret
  rw [HR.out]
  exact ⟨Ao, c6, rfl, HO6, HB6⟩
 have q : (sd == p) = false := by simpa using hsp
 have HSP : Hid (s.getD d 0 ≠ p) := by unfold Hid; rw [HSD1.out]; exact hsp
 clear hsp
 have k0 := HQ5.out.bn.c0
 have k1 := HQ5.out.bn.c1
 have o0 := HQ5.out.bo.c0
 go_wp2_with fail
 clear q k0 k1 o0
 have hz5 := HQ5.out.bl.size
 refine (Of_ok An (some ⟨b0, off, none⟩) (some ⟨bs, of2, none⟩) nn cn nd cd n c Bn Bd Bs d ns ds s ⟨nm, kd, a, b, co2⟩ W4 (HL.out.below HQ5.out.bl (Nat.le_refl _)) (HN.out.below HQ5.out.bl hBn) (by omega) (HD.out.below HQ5.out.bl hBd) (by omega) (HS.out.below HQ5.out.bl hBs) (by omega) HSN.out HSD.out H0.out hnn hn1 hnd hi HX.out HE.out HA.out).mono ?_
 rintro e w5 ⟨rfl, hb5⟩
 have HQ6 := Lib.hid (HQ5.out.later hb5)
 clear hb5 HQ5 hz5
 obtain ⟨du, hdu⟩ : ∃ x, x = dutyAt nn ns ds s d ⟨nm, kd, a, b, co2⟩ := ⟨_, rfl⟩
 rw [← hdu]
 have HDU := Lib.hid hdu
 clear hdu
 have HS2E : Hid (stateErr ns ds (withL s d p) = 0) := stateErr_with H0.out d hp
 have HRR : Hid (hzAt nn ns ds s d p co ls pr ⟨nm, kd, a, b, co2⟩ = sortL (fndL [(4, t1), (6, t2), (1, decide (p = 2) && decide (du = 4)), (2, badB kd p du (lvE (colsOf nn ds s) ⟨nm, kd, a, b, co2⟩)), (3, lostB ns ds s (withL s d p)), (5, decide (p = 2) && decide (kd = 4) && !hasB pr a)])) := by
  unfold Hid hzAt
  rw [if_neg HSP.out, fnd6, HT1.out, HT2.out, HDU.out]
 clear HSP HT1 HT2 HDU HSD1
 have HST := Lib.hid H0.out
 clear H0
 go_upto_region 7 with (fail)
 have o1 := HQ6.out.bo.c1
 rcases hp with rfl | rfl
 ·go_upto_region 8 with (fail)
  refine wp_region_J (S := fun W' => ((W'.cell? ⟨w.heap.size, 0, none⟩ = some (.slice An nn cn) ∧ W'.cell? ⟨w.heap.size, 1, none⟩ = some (.slice (some ⟨b0, off, none⟩) nd cd)) ∧ W'.cell? ⟨w.heap.size + 1, 0, none⟩ = some (.int .i64 d) ∧ W'.cell? ⟨w.heap.size + 1, 1, none⟩ = some (.int .i64 1)) ∧ (W'.cell? ⟨vb, 1, none⟩ = some (.int .i64 kd) ∧ W'.cell? ⟨vb, 2, none⟩ = some (.int .i64 a)) ∧ W'.cell? ⟨w.heap.size + 2, 2, none⟩ = some (.slice Ap np cp) ∧ (W'.cell? ⟨b1, 0, none⟩ = some (.int .i64 4) ∧ W'.cell? ⟨b1, 1, none⟩ = some (.bool t1)) ∧ W'.cell? ⟨b1 + 1, 0, none⟩ = some (.int .i64 6) ∧ W'.cell? ⟨b1 + 1, 1, none⟩ = some (.bool t2)) (J := []) (by kernel_rfl) ?_ (fun hHeld => ?_)
  ·exact HQ6.out.cells
  try dsimp only at hHeld
  refine tk 0 60 (mf 16 1) hHeld ?_
  refine tk 1 61 (mf 16 2) hHeld ?_
  refine tk 2 62 (mf 16 3) hHeld ?_
  refine tk 3 63 (mf 16 4) hHeld ?_
  refine tk 4 64 (mf 16 5) hHeld ?_
  refine tk 5 65 (mf 16 6) hHeld ?_
  refine tk 6 66 (mf 16 7) hHeld ?_
  refine wpAnyJ_oneL (k := 7) (mf 16 8) (by kernel_rfl) (by kernel_rfl) rfl (fun K hK => ?_)
  (go_simp; refine (with_any (some ⟨bs, of2, none⟩) n c Bs s d 1 w5.drew (HS.out.below HQ6.out.bl.drew hBs) (Nat.le_trans hBs HQ6.out.bl.size) (by omega)).mono ?_; rintro e u1 ⟨At, ct, rfl, hOt, hbt⟩; have HU1 := Lib.hid ((show HzQ _ _ _ _ _ _ _ _ _ _ w5.drew from ⟨HQ6.out.bl.drew, HQ6.out.bn, HQ6.out.bo, HQ6.out.bg, HQ6.out.bv, HQ6.out.b1, HQ6.out.b2⟩).later hbt.out); have HOT := Lib.hid hOt.out.sl; clear hOt hbt; go_simp)
  refine hK.out _ _ (fun _ => ?_) (fun hHeld' => ?_)
  ·exact HU1.out.cells
  replace hHeld := hHeld' rfl
  clear hHeld' hK K
  try dsimp only at hHeld
  refine wpAnyJ_oneL (k := 8) (mf 16 9) (by kernel_rfl) (by kernel_rfl) rfl (fun K hK => ?_)
  (go_simp; refine (Lost_ok An (some ⟨b0, off, none⟩) (some ⟨bs, of2, none⟩) At nn cn nd cd n c (withL s d 1).length ct Bn Bd Bs u1.heap.size ns ds s (withL s d 1) u1 (HL.out.below HU1.out.bl (Nat.le_refl _)) (HN.out.below HU1.out.bl hBn) (Nat.le_trans hBn HU1.out.bl.size) (HD.out.below HU1.out.bl hBd) (Nat.le_trans hBd HU1.out.bl.size) (HS.out.below HU1.out.bl hBs) (Nat.le_trans hBs HU1.out.bl.size) HOT.out (Nat.le_refl _) HSN.out HSD.out HST.out HS2E.out hnn (by omega) hnd (by rw [withL_len, HLN.out]; exact hnd) HE.out HA.out).mono ?_; rintro e u2 ⟨Ao, mo, co3, lo, ko, rfl, hLO1, hLO2, hLO3, hb⟩; have HU2 := Lib.hid (HU1.out.later hb.out); have HLO := Lib.hid (lostB_of hLO2.out hLO1.out); have hmo := hLO3.out.sl.le; clear hb hLO1 hLO2 hLO3; go_simp)
  refine hK.out _ _ (fun _ => ?_) (fun hHeld' => ?_)
  ·exact HU2.out.cells
  replace hHeld := hHeld' rfl
  clear hHeld' hK K
  try dsimp only at hHeld
  refine tk 9 59 (mf 16 10) hHeld ?_
  refine tk 10 69 (mf 16 11) hHeld ?_
  refine tk 11 70 (mf 16 12) hHeld ?_
  refine tk 12 71 (mf 16 13) hHeld ?_
  refine tk 13 15 (mf 16 14) hHeld ?_
  refine tk 14 16 (mf 16 15) hHeld ?_
  refine tk 15 17 (mf 16 16) hHeld ?_
  refine wpAnyJ_done (by kernel_rfl) ?_ _
  go_upto_region 9 with (fail)
  refine wp_region_J (S := fun W' => ((W'.cell? ⟨w.heap.size, 0, none⟩ = some (.slice An nn cn) ∧ W'.cell? ⟨w.heap.size, 1, none⟩ = some (.slice (some ⟨b0, off, none⟩) nd cd)) ∧ W'.cell? ⟨w.heap.size + 1, 0, none⟩ = some (.int .i64 d) ∧ W'.cell? ⟨w.heap.size + 1, 1, none⟩ = some (.int .i64 1)) ∧ (W'.cell? ⟨vb, 1, none⟩ = some (.int .i64 kd) ∧ W'.cell? ⟨vb, 2, none⟩ = some (.int .i64 a)) ∧ W'.cell? ⟨w.heap.size + 2, 2, none⟩ = some (.slice Ap np cp) ∧ (W'.cell? ⟨b1, 0, none⟩ = some (.int .i64 4) ∧ W'.cell? ⟨b1, 1, none⟩ = some (.bool t1)) ∧ W'.cell? ⟨b1 + 1, 0, none⟩ = some (.int .i64 6) ∧ W'.cell? ⟨b1 + 1, 1, none⟩ = some (.bool t2)) (J := []) (by kernel_rfl) ?_ (fun hHeld => ?_)
  ·exact HU2.out.cells
  try dsimp only at hHeld
  refine tk 0 72 (mf 38 1) hHeld ?_
  refine tk 1 73 (mf 38 2) hHeld ?_
  refine tk 2 74 (mf 38 3) hHeld ?_
  refine tk 3 75 (mf 38 4) hHeld ?_
  refine ts 4 76 (mf 38 5) hHeld ?_
  refine ts 5 77 (mf 38 6) hHeld ?_
  refine tk 6 78 (mf 38 7) hHeld ?_
  refine tk 7 79 (mf 38 8) hHeld ?_
  refine tk 8 80 (mf 38 9) hHeld ?_
  refine tk 9 81 (mf 38 10) hHeld ?_
  refine tk 10 82 (mf 38 11) hHeld ?_
  refine tk 11 83 (mf 38 12) hHeld ?_
  refine tk 12 84 (mf 38 13) hHeld ?_
  refine tk 13 85 (mf 38 14) hHeld ?_
  refine tk 16 88 #[tt, tt, tt, tt, tt, tt, tt, tt, tt, tt, tt, tt, tt, tt, ff, ff, tt, ff, ff, ff, ff, ff, ff, ff, ff, ff, ff, ff, ff, ff, ff, ff, ff, ff, ff, ff, ff, ff] hHeld ?_
  refine tk 17 89 #[tt, tt, tt, tt, tt, tt, tt, tt, tt, tt, tt, tt, tt, tt, ff, ff, tt, tt, ff, ff, ff, ff, ff, ff, ff, ff, ff, ff, ff, ff, ff, ff, ff, ff, ff, ff, ff, ff] hHeld ?_
  refine tk 18 90 #[tt, tt, tt, tt, tt, tt, tt, tt, tt, tt, tt, tt, tt, tt, ff, ff, tt, tt, tt, ff, ff, ff, ff, ff, ff, ff, ff, ff, ff, ff, ff, ff, ff, ff, ff, ff, ff, ff] hHeld ?_
  refine tk 19 91 #[tt, tt, tt, tt, tt, tt, tt, tt, tt, tt, tt, tt, tt, tt, ff, ff, tt, tt, tt, tt, ff, ff, ff, ff, ff, ff, ff, ff, ff, ff, ff, ff, ff, ff, ff, ff, ff, ff] hHeld ?_
  refine tk 20 92 #[tt, tt, tt, tt, tt, tt, tt, tt, tt, tt, tt, tt, tt, tt, ff, ff, tt, tt, tt, tt, tt, ff, ff, ff, ff, ff, ff, ff, ff, ff, ff, ff, ff, ff, ff, ff, ff, ff] hHeld ?_
  refine wpAnyJ_oneL (k := 14) #[tt, tt, tt, tt, tt, tt, tt, tt, tt, tt, tt, tt, tt, tt, tt, ff, tt, tt, tt, tt, tt, ff, ff, ff, ff, ff, ff, ff, ff, ff, ff, ff, ff, ff, ff, ff, ff, ff] (by kernel_rfl) (by kernel_rfl) rfl (fun K hK => ?_)
  (go_simp; refine (bad_any An (some ⟨b0, off, none⟩) (some ⟨bs, of2, none⟩) nn cn nd cd n c Bd Bs d 1 du kd ds s ⟨nm, kd, a, b, co2⟩ u2.drew (HD.out.below HU2.out.bl.drew hBd) (Nat.le_trans hBd HU2.out.bl.size) (HS.out.below HU2.out.bl.drew hBs) (Nat.le_trans hBs HU2.out.bl.size) hnn (by omega) hnd HE.out HA.out hi HX.out rfl hk6).mono ?_; rintro e u3 ⟨rfl, hb⟩; have HU3 := Lib.hid ((show HzQ _ _ _ _ _ _ _ _ _ _ u2.drew from ⟨HU2.out.bl.drew, HU2.out.bn, HU2.out.bo, HU2.out.bg, HU2.out.bv, HU2.out.b1, HU2.out.b2⟩).later hb); clear hb; go_simp)
  refine hK.out _ _ (fun _ => ?_) (fun hHeld' => ?_)
  ·exact HU3.out.cells
  replace hHeld := hHeld' rfl
  clear hHeld' hK K
  try dsimp only at hHeld
  refine tk 15 87 (mf 38 21) hHeld ?_
  refine tk 21 93 (mf 38 22) hHeld ?_
  refine ts 22 94 (mf 38 23) hHeld ?_
  refine ts 23 95 (mf 38 24) hHeld ?_
  refine ts 24 96 (mf 38 25) hHeld ?_
  refine tk 25 97 (mf 38 26) hHeld ?_
  refine tk 26 98 (mf 38 27) hHeld ?_
  refine ts 27 99 (mf 38 28) hHeld ?_
  refine ts 28 100 (mf 38 29) hHeld ?_
  refine ts 29 101 (mf 38 30) hHeld ?_
  refine ts 30 102 (mf 38 31) hHeld ?_
  refine ts 31 103 (mf 38 32) hHeld ?_
  refine ts 32 104 (mf 38 33) hHeld ?_
  refine tk 33 105 (mf 38 34) hHeld ?_
  refine tk 34 106 (mf 38 35) hHeld ?_
  refine wpAnyJ_oneL (k := 35) (mf 38 36) (by kernel_rfl) (by kernel_rfl) rfl (fun K hK => ?_)
  go_simp
  refine hK.out _ _ (fun _ => ?_) (fun hHeld' => ?_)
  ·exact (HU3.out.later ((Below.refl _ _).alloc (Nat.le_refl _) _)).cells
  replace hHeld := hHeld' rfl
  clear hHeld' hK K
  try dsimp only at hHeld
  refine wpAnyJ_oneL (k := 36) (mf 38 37) (by kernel_rfl) (by kernel_rfl) rfl (fun K hK => ?_)
  (go_simp; refine (list_any _ 6 6 (u3.heap.size + 1) [(4, t1), (6, t2), (1, false), (2, badB kd 1 du (lvE (colsOf nn ds s) ⟨nm, kd, a, b, co2⟩)), (3, decide (0 < mo)), (5, false)] _ (Sl.newest rfl (by rfl) (by decide)) (by simp) (by decide)).mono ?_; rintro e u5 ⟨A5, c5, rfl, hO5, hb5⟩; have HU5 := Lib.hid ((HU3.out.later ((Below.refl _ _).alloc (Nat.le_refl _) _)).later hb5.out); have HO5 := Lib.hid (hO5.out.mono (base' := w.heap.size) (by have := HU3.out.bl.size; simp; omega)); clear hO5 hb5; go_simp)
  refine hK.out _ _ (fun _ => ?_) (fun hHeld' => ?_)
  ·exact HU5.out.cells
  replace hHeld := hHeld' rfl
  clear hHeld' hK K
  try dsimp only at hHeld
  refine tk 37 8 (mf 38 38) hHeld ?_
  refine wpAnyJ_done (by kernel_rfl) ?_ _
  go_wp2_with fail
  go_ret
  rw [HRR.out, ← HLO.out]
  exact ⟨A5, c5, rfl, HO5, HU5.out.bl⟩
 ·go_upto_region 8 with (fail)
  refine wp_region_J (S := fun W' => ((W'.cell? ⟨w.heap.size, 0, none⟩ = some (.slice An nn cn) ∧ W'.cell? ⟨w.heap.size, 1, none⟩ = some (.slice (some ⟨b0, off, none⟩) nd cd)) ∧ W'.cell? ⟨w.heap.size + 1, 0, none⟩ = some (.int .i64 d) ∧ W'.cell? ⟨w.heap.size + 1, 1, none⟩ = some (.int .i64 2)) ∧ (W'.cell? ⟨vb, 1, none⟩ = some (.int .i64 kd) ∧ W'.cell? ⟨vb, 2, none⟩ = some (.int .i64 a)) ∧ W'.cell? ⟨w.heap.size + 2, 2, none⟩ = some (.slice Ap np cp) ∧ (W'.cell? ⟨b1, 0, none⟩ = some (.int .i64 4) ∧ W'.cell? ⟨b1, 1, none⟩ = some (.bool t1)) ∧ W'.cell? ⟨b1 + 1, 0, none⟩ = some (.int .i64 6) ∧ W'.cell? ⟨b1 + 1, 1, none⟩ = some (.bool t2)) (J := []) (by kernel_rfl) ?_ (fun hHeld => ?_)
  ·exact HQ6.out.cells
  try dsimp only at hHeld
  refine tk 0 60 (mf 16 1) hHeld ?_
  refine tk 1 61 (mf 16 2) hHeld ?_
  refine tk 2 62 (mf 16 3) hHeld ?_
  refine tk 3 63 (mf 16 4) hHeld ?_
  refine tk 4 64 (mf 16 5) hHeld ?_
  refine tk 5 65 (mf 16 6) hHeld ?_
  refine tk 6 66 (mf 16 7) hHeld ?_
  refine wpAnyJ_oneL (k := 7) (mf 16 8) (by kernel_rfl) (by kernel_rfl) rfl (fun K hK => ?_)
  (go_simp; refine (with_any (some ⟨bs, of2, none⟩) n c Bs s d 2 w5.drew (HS.out.below HQ6.out.bl.drew hBs) (Nat.le_trans hBs HQ6.out.bl.size) (by omega)).mono ?_; rintro e u1 ⟨At, ct, rfl, hOt, hbt⟩; have HU1 := Lib.hid ((show HzQ _ _ _ _ _ _ _ _ _ _ w5.drew from ⟨HQ6.out.bl.drew, HQ6.out.bn, HQ6.out.bo, HQ6.out.bg, HQ6.out.bv, HQ6.out.b1, HQ6.out.b2⟩).later hbt.out); have HOT := Lib.hid hOt.out.sl; clear hOt hbt; go_simp)
  refine hK.out _ _ (fun _ => ?_) (fun hHeld' => ?_)
  ·exact HU1.out.cells
  replace hHeld := hHeld' rfl
  clear hHeld' hK K
  try dsimp only at hHeld
  refine wpAnyJ_oneL (k := 8) (mf 16 9) (by kernel_rfl) (by kernel_rfl) rfl (fun K hK => ?_)
  (go_simp; refine (Lost_ok An (some ⟨b0, off, none⟩) (some ⟨bs, of2, none⟩) At nn cn nd cd n c (withL s d 2).length ct Bn Bd Bs u1.heap.size ns ds s (withL s d 2) u1 (HL.out.below HU1.out.bl (Nat.le_refl _)) (HN.out.below HU1.out.bl hBn) (Nat.le_trans hBn HU1.out.bl.size) (HD.out.below HU1.out.bl hBd) (Nat.le_trans hBd HU1.out.bl.size) (HS.out.below HU1.out.bl hBs) (Nat.le_trans hBs HU1.out.bl.size) HOT.out (Nat.le_refl _) HSN.out HSD.out HST.out HS2E.out hnn (by omega) hnd (by rw [withL_len, HLN.out]; exact hnd) HE.out HA.out).mono ?_; rintro e u2 ⟨Ao, mo, co3, lo, ko, rfl, hLO1, hLO2, hLO3, hb⟩; have HU2 := Lib.hid (HU1.out.later hb.out); have HLO := Lib.hid (lostB_of hLO2.out hLO1.out); have hmo := hLO3.out.sl.le; clear hb hLO1 hLO2 hLO3; go_simp)
  refine hK.out _ _ (fun _ => ?_) (fun hHeld' => ?_)
  ·exact HU2.out.cells
  replace hHeld := hHeld' rfl
  clear hHeld' hK K
  try dsimp only at hHeld
  refine tk 9 59 (mf 16 10) hHeld ?_
  refine tk 10 69 (mf 16 11) hHeld ?_
  refine tk 11 70 (mf 16 12) hHeld ?_
  refine tk 12 71 (mf 16 13) hHeld ?_
  refine tk 13 15 (mf 16 14) hHeld ?_
  refine tk 14 16 (mf 16 15) hHeld ?_
  refine tk 15 17 (mf 16 16) hHeld ?_
  refine wpAnyJ_done (by kernel_rfl) ?_ _
  go_upto_region 9 with (fail)
  by_cases hk : kd = 4
  ·subst hk
   refine wp_region_J (S := fun W' => ((W'.cell? ⟨w.heap.size, 0, none⟩ = some (.slice An nn cn) ∧ W'.cell? ⟨w.heap.size, 1, none⟩ = some (.slice (some ⟨b0, off, none⟩) nd cd)) ∧ W'.cell? ⟨w.heap.size + 1, 0, none⟩ = some (.int .i64 d) ∧ W'.cell? ⟨w.heap.size + 1, 1, none⟩ = some (.int .i64 2)) ∧ (W'.cell? ⟨vb, 1, none⟩ = some (.int .i64 4) ∧ W'.cell? ⟨vb, 2, none⟩ = some (.int .i64 a)) ∧ W'.cell? ⟨w.heap.size + 2, 2, none⟩ = some (.slice Ap np cp) ∧ (W'.cell? ⟨b1, 0, none⟩ = some (.int .i64 4) ∧ W'.cell? ⟨b1, 1, none⟩ = some (.bool t1)) ∧ W'.cell? ⟨b1 + 1, 0, none⟩ = some (.int .i64 6) ∧ W'.cell? ⟨b1 + 1, 1, none⟩ = some (.bool t2)) (J := []) (by kernel_rfl) ?_ (fun hHeld => ?_)
   ·exact HU2.out.cells
   try dsimp only at hHeld
   refine tk 0 72 (mf 38 1) hHeld ?_
   refine tk 1 73 (mf 38 2) hHeld ?_
   refine tk 2 74 (mf 38 3) hHeld ?_
   refine tk 3 75 (mf 38 4) hHeld ?_
   refine tk 4 76 (mf 38 5) hHeld ?_
   refine tk 5 77 (mf 38 6) hHeld ?_
   refine tk 6 78 (mf 38 7) hHeld ?_
   refine tk 7 79 (mf 38 8) hHeld ?_
   refine tk 8 80 (mf 38 9) hHeld ?_
   refine tk 9 81 (mf 38 10) hHeld ?_
   refine tk 10 82 (mf 38 11) hHeld ?_
   refine tk 11 83 (mf 38 12) hHeld ?_
   refine tk 12 84 (mf 38 13) hHeld ?_
   refine tk 13 85 (mf 38 14) hHeld ?_
   refine tk 16 88 #[tt, tt, tt, tt, tt, tt, tt, tt, tt, tt, tt, tt, tt, tt, ff, ff, tt, ff, ff, ff, ff, ff, ff, ff, ff, ff, ff, ff, ff, ff, ff, ff, ff, ff, ff, ff, ff, ff] hHeld ?_
   refine tk 17 89 #[tt, tt, tt, tt, tt, tt, tt, tt, tt, tt, tt, tt, tt, tt, ff, ff, tt, tt, ff, ff, ff, ff, ff, ff, ff, ff, ff, ff, ff, ff, ff, ff, ff, ff, ff, ff, ff, ff] hHeld ?_
   refine tk 18 90 #[tt, tt, tt, tt, tt, tt, tt, tt, tt, tt, tt, tt, tt, tt, ff, ff, tt, tt, tt, ff, ff, ff, ff, ff, ff, ff, ff, ff, ff, ff, ff, ff, ff, ff, ff, ff, ff, ff] hHeld ?_
   refine tk 19 91 #[tt, tt, tt, tt, tt, tt, tt, tt, tt, tt, tt, tt, tt, tt, ff, ff, tt, tt, tt, tt, ff, ff, ff, ff, ff, ff, ff, ff, ff, ff, ff, ff, ff, ff, ff, ff, ff, ff] hHeld ?_
   refine tk 20 92 #[tt, tt, tt, tt, tt, tt, tt, tt, tt, tt, tt, tt, tt, tt, ff, ff, tt, tt, tt, tt, tt, ff, ff, ff, ff, ff, ff, ff, ff, ff, ff, ff, ff, ff, ff, ff, ff, ff] hHeld ?_
   refine wpAnyJ_oneL (k := 14) #[tt, tt, tt, tt, tt, tt, tt, tt, tt, tt, tt, tt, tt, tt, tt, ff, tt, tt, tt, tt, tt, ff, ff, ff, ff, ff, ff, ff, ff, ff, ff, ff, ff, ff, ff, ff, ff, ff] (by kernel_rfl) (by kernel_rfl) rfl (fun K hK => ?_)
   (go_simp; refine (bad_any An (some ⟨b0, off, none⟩) (some ⟨bs, of2, none⟩) nn cn nd cd n c Bd Bs d 2 du 4 ds s ⟨nm, 4, a, b, co2⟩ u2.drew (HD.out.below HU2.out.bl.drew hBd) (Nat.le_trans hBd HU2.out.bl.size) (HS.out.below HU2.out.bl.drew hBs) (Nat.le_trans hBs HU2.out.bl.size) hnn (by omega) hnd HE.out HA.out hi HX.out rfl hk6).mono ?_; rintro e u3 ⟨rfl, hb⟩; have HU3 := Lib.hid ((show HzQ _ _ _ _ _ _ _ _ _ _ u2.drew from ⟨HU2.out.bl.drew, HU2.out.bn, HU2.out.bo, HU2.out.bg, HU2.out.bv, HU2.out.b1, HU2.out.b2⟩).later hb); clear hb; go_simp)
   refine hK.out _ _ (fun _ => ?_) (fun hHeld' => ?_)
   ·exact HU3.out.cells
   replace hHeld := hHeld' rfl
   clear hHeld' hK K
   try dsimp only at hHeld
   refine tk 15 87 (mf 38 21) hHeld ?_
   refine tk 21 93 (mf 38 22) hHeld ?_
   refine tk 22 94 (mf 38 23) hHeld ?_
   refine tk 23 95 (mf 38 24) hHeld ?_
   refine tk 24 96 (mf 38 25) hHeld ?_
   refine tk 25 97 (mf 38 26) hHeld ?_
   refine tk 26 98 (mf 38 27) hHeld ?_
   refine tk 27 99 (mf 38 28) hHeld ?_
   refine tk 28 100 (mf 38 29) hHeld ?_
   refine tk 29 101 (mf 38 30) hHeld ?_
   refine tk 30 102 (mf 38 31) hHeld ?_
   refine wpAnyJ_oneL (k := 31) (mf 38 32) (by kernel_rfl) (by kernel_rfl) rfl (fun K hK => ?_)
   (go_simp; refine (contains_any Ap np cp Bp pr a u3 (HPR.out.below HU3.out.bl hBp)).mono ?_; rintro e u4 ⟨rfl, rfl⟩; go_simp)
   refine hK.out _ _ (fun _ => ?_) (fun hHeld' => ?_)
   ·exact HU3.out.cells
   replace hHeld := hHeld' rfl
   clear hHeld' hK K
   try dsimp only at hHeld
   refine tk 32 104 (mf 38 33) hHeld ?_
   refine tk 33 105 (mf 38 34) hHeld ?_
   refine tk 34 106 (mf 38 35) hHeld ?_
   refine wpAnyJ_oneL (k := 35) (mf 38 36) (by kernel_rfl) (by kernel_rfl) rfl (fun K hK => ?_)
   go_simp
   refine hK.out _ _ (fun _ => ?_) (fun hHeld' => ?_)
   ·exact (HU3.out.later ((Below.refl _ _).alloc (Nat.le_refl _) _)).cells
   replace hHeld := hHeld' rfl
   clear hHeld' hK K
   try dsimp only at hHeld
   refine wpAnyJ_oneL (k := 36) (mf 38 37) (by kernel_rfl) (by kernel_rfl) rfl (fun K hK => ?_)
   (go_simp; refine (list_any _ 6 6 (u3.heap.size + 1) [(4, t1), (6, t2), (1, du == 4), (2, badB 4 2 du (lvE (colsOf nn ds s) ⟨nm, 4, a, b, co2⟩)), (3, decide (0 < mo)), (5, !hasB pr a)] _ (Sl.newest rfl (by rfl) (by decide)) (by simp) (by decide)).mono ?_; rintro e u5 ⟨A5, c5, rfl, hO5, hb5⟩; have HU5 := Lib.hid ((HU3.out.later ((Below.refl _ _).alloc (Nat.le_refl _) _)).later hb5.out); have HO5 := Lib.hid (hO5.out.mono (base' := w.heap.size) (by have := HU3.out.bl.size; simp; omega)); clear hO5 hb5; go_simp)
   refine hK.out _ _ (fun _ => ?_) (fun hHeld' => ?_)
   ·exact HU5.out.cells
   replace hHeld := hHeld' rfl
   clear hHeld' hK K
   try dsimp only at hHeld
   refine tk 37 8 (mf 38 38) hHeld ?_
   refine wpAnyJ_done (by kernel_rfl) ?_ _
   go_wp2_with fail
   go_ret
   rw [HRR.out, ← HLO.out]
   exact ⟨A5, c5, rfl, HO5, HU5.out.bl⟩
  ·have qk : (kd == 4) = false := by simpa using hk
   have hr3 := HRR.out
   rw [show decide (kd = 4) = false from by simp [hk]] at hr3
   clear HRR
   have HRR := Lib.hid hr3
   clear hr3
   refine wp_region_J (S := fun W' => ((W'.cell? ⟨w.heap.size, 0, none⟩ = some (.slice An nn cn) ∧ W'.cell? ⟨w.heap.size, 1, none⟩ = some (.slice (some ⟨b0, off, none⟩) nd cd)) ∧ W'.cell? ⟨w.heap.size + 1, 0, none⟩ = some (.int .i64 d) ∧ W'.cell? ⟨w.heap.size + 1, 1, none⟩ = some (.int .i64 2)) ∧ (W'.cell? ⟨vb, 1, none⟩ = some (.int .i64 kd) ∧ W'.cell? ⟨vb, 2, none⟩ = some (.int .i64 a)) ∧ W'.cell? ⟨w.heap.size + 2, 2, none⟩ = some (.slice Ap np cp) ∧ (W'.cell? ⟨b1, 0, none⟩ = some (.int .i64 4) ∧ W'.cell? ⟨b1, 1, none⟩ = some (.bool t1)) ∧ W'.cell? ⟨b1 + 1, 0, none⟩ = some (.int .i64 6) ∧ W'.cell? ⟨b1 + 1, 1, none⟩ = some (.bool t2)) (J := []) (by kernel_rfl) ?_ (fun hHeld => ?_)
   ·exact HU2.out.cells
   try dsimp only at hHeld
   refine tk 0 72 (mf 38 1) hHeld ?_
   refine tk 1 73 (mf 38 2) hHeld ?_
   refine tk 2 74 (mf 38 3) hHeld ?_
   refine tk 3 75 (mf 38 4) hHeld ?_
   refine tk 4 76 (mf 38 5) hHeld ?_
   refine tk 5 77 (mf 38 6) hHeld ?_
   refine tk 6 78 (mf 38 7) hHeld ?_
   refine tk 7 79 (mf 38 8) hHeld ?_
   refine tk 8 80 (mf 38 9) hHeld ?_
   refine tk 9 81 (mf 38 10) hHeld ?_
   refine tk 10 82 (mf 38 11) hHeld ?_
   refine tk 11 83 (mf 38 12) hHeld ?_
   refine tk 12 84 (mf 38 13) hHeld ?_
   refine tk 13 85 (mf 38 14) hHeld ?_
   refine tk 16 88 #[tt, tt, tt, tt, tt, tt, tt, tt, tt, tt, tt, tt, tt, tt, ff, ff, tt, ff, ff, ff, ff, ff, ff, ff, ff, ff, ff, ff, ff, ff, ff, ff, ff, ff, ff, ff, ff, ff] hHeld ?_
   refine tk 17 89 #[tt, tt, tt, tt, tt, tt, tt, tt, tt, tt, tt, tt, tt, tt, ff, ff, tt, tt, ff, ff, ff, ff, ff, ff, ff, ff, ff, ff, ff, ff, ff, ff, ff, ff, ff, ff, ff, ff] hHeld ?_
   refine tk 18 90 #[tt, tt, tt, tt, tt, tt, tt, tt, tt, tt, tt, tt, tt, tt, ff, ff, tt, tt, tt, ff, ff, ff, ff, ff, ff, ff, ff, ff, ff, ff, ff, ff, ff, ff, ff, ff, ff, ff] hHeld ?_
   refine tk 19 91 #[tt, tt, tt, tt, tt, tt, tt, tt, tt, tt, tt, tt, tt, tt, ff, ff, tt, tt, tt, tt, ff, ff, ff, ff, ff, ff, ff, ff, ff, ff, ff, ff, ff, ff, ff, ff, ff, ff] hHeld ?_
   refine tk 20 92 #[tt, tt, tt, tt, tt, tt, tt, tt, tt, tt, tt, tt, tt, tt, ff, ff, tt, tt, tt, tt, tt, ff, ff, ff, ff, ff, ff, ff, ff, ff, ff, ff, ff, ff, ff, ff, ff, ff] hHeld ?_
   refine wpAnyJ_oneL (k := 14) #[tt, tt, tt, tt, tt, tt, tt, tt, tt, tt, tt, tt, tt, tt, tt, ff, tt, tt, tt, tt, tt, ff, ff, ff, ff, ff, ff, ff, ff, ff, ff, ff, ff, ff, ff, ff, ff, ff] (by kernel_rfl) (by kernel_rfl) rfl (fun K hK => ?_)
   (go_simp; refine (bad_any An (some ⟨b0, off, none⟩) (some ⟨bs, of2, none⟩) nn cn nd cd n c Bd Bs d 2 du kd ds s ⟨nm, kd, a, b, co2⟩ u2.drew (HD.out.below HU2.out.bl.drew hBd) (Nat.le_trans hBd HU2.out.bl.size) (HS.out.below HU2.out.bl.drew hBs) (Nat.le_trans hBs HU2.out.bl.size) hnn (by omega) hnd HE.out HA.out hi HX.out rfl hk6).mono ?_; rintro e u3 ⟨rfl, hb⟩; have HU3 := Lib.hid ((show HzQ _ _ _ _ _ _ _ _ _ _ u2.drew from ⟨HU2.out.bl.drew, HU2.out.bn, HU2.out.bo, HU2.out.bg, HU2.out.bv, HU2.out.b1, HU2.out.b2⟩).later hb); clear hb; go_simp)
   refine hK.out _ _ (fun _ => ?_) (fun hHeld' => ?_)
   ·exact HU3.out.cells
   replace hHeld := hHeld' rfl
   clear hHeld' hK K
   try dsimp only at hHeld
   refine tk 15 87 (mf 38 21) hHeld ?_
   refine tk 21 93 (mf 38 22) hHeld ?_
   refine tk 22 94 (mf 38 23) hHeld ?_
   refine tk 23 95 (mf 38 24) hHeld ?_
   refine tk 24 96 (mf 38 25) hHeld ?_
   refine tk 25 97 (mf 38 26) hHeld ?_
   refine tk 26 98 (mf 38 27) hHeld ?_
   refine ts 27 99 (mf 38 28) hHeld ?_
   refine ts 28 100 (mf 38 29) hHeld ?_
   refine ts 29 101 (mf 38 30) hHeld ?_
   refine ts 30 102 (mf 38 31) hHeld ?_
   refine ts 31 103 (mf 38 32) hHeld ?_
   refine ts 32 104 (mf 38 33) hHeld ?_
   refine tk 33 105 (mf 38 34) hHeld ?_
   refine tk 34 106 (mf 38 35) hHeld ?_
   refine wpAnyJ_oneL (k := 35) (mf 38 36) (by kernel_rfl) (by kernel_rfl) rfl (fun K hK => ?_)
   go_simp
   refine hK.out _ _ (fun _ => ?_) (fun hHeld' => ?_)
   ·exact (HU3.out.later ((Below.refl _ _).alloc (Nat.le_refl _) _)).cells
   replace hHeld := hHeld' rfl
   clear hHeld' hK K
   try dsimp only at hHeld
   refine wpAnyJ_oneL (k := 36) (mf 38 37) (by kernel_rfl) (by kernel_rfl) rfl (fun K hK => ?_)
   (go_simp; refine (list_any _ 6 6 (u3.heap.size + 1) [(4, t1), (6, t2), (1, du == 4), (2, badB kd 2 du (lvE (colsOf nn ds s) ⟨nm, kd, a, b, co2⟩)), (3, decide (0 < mo)), (5, false)] _ (Sl.newest rfl (by rfl) (by decide)) (by simp) (by decide)).mono ?_; rintro e u5 ⟨A5, c5, rfl, hO5, hb5⟩; have HU5 := Lib.hid ((HU3.out.later ((Below.refl _ _).alloc (Nat.le_refl _) _)).later hb5.out); have HO5 := Lib.hid (hO5.out.mono (base' := w.heap.size) (by have := HU3.out.bl.size; simp; omega)); clear hO5 hb5; go_simp)
   refine hK.out _ _ (fun _ => ?_) (fun hHeld' => ?_)
   ·exact HU5.out.cells
   replace hHeld := hHeld' rfl
   clear hHeld' hK K
   try dsimp only at hHeld
   refine tk 37 8 (mf 38 38) hHeld ?_
   refine wpAnyJ_done (by kernel_rfl) ?_ _
   go_wp2_with fail
   go_ret
   rw [HRR.out, ← HLO.out]
   exact ⟨A5, c5, rfl, HO5, HU5.out.bl⟩
end Go.Proofs.YtfaknfmndafllaaGreatDoor
