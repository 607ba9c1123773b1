import Derived.Test.YtddddlhgaeameaaGreatDoorM33
import Derived.Test.YtddddlhgaeameaaGreatDoorM21
set_option maxRecDepth 100000
set_option maxHeartbeats 8000000
namespace Go.Proofs.YtddddlhgaeameaaGreatDoor
open Go.RowKit
structure HzQ (w : World) (vb b1 b2 : Nat) (nt op gr dv f1 f2 : Array Value) (W : World) : Prop where
 bl : Below w.heap.size w W
 bn : Blk W w.heap.size 26 nt
 bo : Blk W (w.heap.size + 1) 66 op
 bg : Blk W (w.heap.size + 2) 29 gr
 bv : Blk W vb 75 dv
 b1 : Blk W b1 156 f1
 b2 : Blk W b2 156 f2
theorem HzQ.later {w W W' : World} {vb b1 b2 : Nat} {nt op gr dv f1 f2 : Array Value} (h : HzQ w vb b1 b2 nt op gr dv f1 f2 W) (hb : Below W.heap.size W W') : HzQ w vb b1 b2 nt op gr dv f1 f2 W' :=
 ⟨h.bl.trans (hb.mono h.bl.size), h.bn.below hb h.bn.lt, h.bo.below hb h.bo.lt, h.bg.below hb h.bg.lt, h.bv.below hb h.bv.lt, h.b1.below hb h.b1.lt, h.b2.below hb h.b2.lt⟩
theorem HzQ.cells {w W : World} {vb b1 b2 nn cn nd cd d nl cl np cp : Nat} {An Ad Al Ap : Option Addr} {p co kd a b co2 : Int} {nm : ByteArray} {t1 t2 : Bool} (h : HzQ w vb b1 b2 #[.slice An nn cn, .slice Ad nd cd] #[.int .i64 d, .int .i64 p] #[.int .i64 co, .slice Al nl cl, .slice Ap np cp] #[.string nm, .int .i64 kd, .int .i64 a, .int .i64 b, .int .i64 co2] #[.int .i64 4, .bool t1] #[.int .i64 6, .bool t2] W) :
 ((W.cell? ⟨w.heap.size, 0, none⟩ = some (.slice An nn cn) ∧ W.cell? ⟨w.heap.size, 1, none⟩ = some (.slice Ad nd cd)) ∧ W.cell? ⟨w.heap.size + 1, 0, none⟩ = some (.int .i64 d) ∧ W.cell? ⟨w.heap.size + 1, 1, none⟩ = some (.int .i64 p)) ∧ (W.cell? ⟨vb, 1, none⟩ = some (.int .i64 kd) ∧ W.cell? ⟨vb, 2, none⟩ = some (.int .i64 a)) ∧ W.cell? ⟨w.heap.size + 2, 2, none⟩ = some (.slice Ap np cp) ∧ (W.cell? ⟨b1, 0, none⟩ = some (.int .i64 4) ∧ W.cell? ⟨b1, 1, none⟩ = some (.bool t1)) ∧ W.cell? ⟨b2, 0, none⟩ = some (.int .i64 6) ∧ W.cell? ⟨b2, 1, none⟩ = some (.bool t2) :=
 ⟨⟨⟨h.bn.cell 0, h.bn.cell 1⟩, h.bo.cell 0, h.bo.cell 1⟩, ⟨h.bv.cell 1, h.bv.cell 2⟩, h.bg.cell 2, ⟨h.b1.cell 0, h.b1.cell 1⟩, h.b2.cell 0, h.b2.cell 1⟩
theorem yI {ns : List Nd} {ds : List Dv} {s : List Int} (h : zL ns ds s = 0) (d : Nat) {p : Int} (hp : p = 1 ∨ p = 2) : zL ns ds (zZ s d p) = 0 := by
 unfold zL at h ⊢
 split at h
 ·next h1 => exact absurd h h1
 next h1 =>
 rw [if_neg h1]
 split at h
 ·cases h
 next h2 =>
 rw [if_neg (by rw [yq]; exact h2)]
 split at h
 ·next h3 =>
  rw [if_pos]
  intro y hy
  unfold zZ at hy
  split at hy
  ·rcases List.mem_or_eq_of_mem_set hy with h4 | h4
   ·exact h3 y h4
   ·rw [h4]; rcases hp with rfl | rfl <;> rfl
  ·exact h3 y hy
 ·cases h
open Classical in
theorem tC {ns : List Nd} {ds : List Dv} {s s2 out : List Int} {m : Nat} (h : mO ns ds s s2 out) (hm : out.length = m) : decide (0 < m) = yT ns ds s s2 := by
 unfold yT
 by_cases h0 : 0 < m
 ·rw [decide_eq_true h0]
  symm; rw [decide_eq_true_iff]
  rcases out with _ | ⟨x, r⟩
  ·simp at hm; omega
  ·obtain ⟨k, y, _, h1, h2, h3, h4⟩ := (h x).1 (by simp)
   exact ⟨k, y, h1, h2, h3, h4⟩
 ·rw [decide_eq_false h0]
  symm; rw [decide_eq_false_iff_not]
  rintro ⟨k, y, h1, h2, h3, h4⟩
  have := (h k).2 ⟨k, y, rfl, h1, h2, h3, h4⟩
  rw [List.eq_nil_of_length_eq_zero (by omega : out.length = 0)] at this
  cases this
theorem jl (An Ad As Al Ap : Option Addr) (nn cn nd cd n c nl cl np cp Bn Bd Bs Bl Bp d : Nat) (p co : Int) (ns : List Nd) (ds : List Dv) (s : List Int) (ls : List Lk) (pr : List Int) (x : Dv) (w : World) (hL : Laid w)
 (hn : Sl w Bn 3 An nn cn (ns.flatMap Nd.cells)) (hBn : Bn ≤ w.heap.size) (hd : Sl w Bd 5 Ad nd cd (ds.flatMap Dv.cells)) (hBd : Bd ≤ w.heap.size) (hs : Sl w Bs 1 As n c (zK s)) (hBs : Bs ≤ w.heap.size) (hls : Sl w Bl 3 Al nl cl (ls.flatMap Lk.cells)) (hBl : Bl ≤ w.heap.size) (hpr : Sl w Bp 1 Ap np cp (zK pr)) (hBp : Bp ≤ w.heap.size)
 (hsn : ∀ x ∈ ns, x.name.size ≤ 9223372036854775807) (hsd : ∀ x ∈ ds, x.name.size ≤ 9223372036854775807) (h0 : zL ns ds s = 0) (hnn : nn ≤ 10000) (hn1 : n ≤ 10000) (hnd : nd ≤ n) (hi : d < nd) (hx : ds[d]? = some x) (hends : yu nn ds) (hA : AOk nn ds) (hp : p = 1 ∨ p = 2) (hk6 : 1 ≤ x.kind ∧ x.kind ≤ 6) :
 Calls Tryz.prog 88 #[.agg #[.slice An nn cn, .slice Ad nd cd], .slice As n c, .agg #[.int .i64 d, .int .i64 p], .agg #[.int .i64 co, .slice Al nl cl, .slice Ap np cp]] w (wM w (uc nn ns ds s d p co ls pr x)) := by
 have HN := iD hn; have HD := iD hd; have HS := iD hs; have HSN := iD hsn; have HSD := iD hsd; have H0 := iD h0; have HE := iD hends; have HA := iD hA; have HX := iD hx
 have HL := iD hL; have HLS := iD hls; have HPR := iD hpr
 have hpl := hpr.le; have hll := hls.le; have hdl := hd.le; have hsl := hs.le
 have HLN : Hid (s.length = n) := hs.len (fun _ => rfl) (by decide)
 clear hL hn hd hs hls hpr hsn hsd h0 hends hA hx
 have HB0 : Hid (Below w.heap.size w (((w.alloc (.cells #[.slice An nn cn, .slice Ad nd cd] 26)).alloc (.cells #[.int .i64 d, .int .i64 p] 66)).alloc (.cells #[.int .i64 co, .slice Al nl cl, .slice Ap np cp] 29))) := (((Below.refl _ _).alloc lR _).alloc (by simp) _).alloc (by simp; omega) _
 have HKN : Hid (Blk (((w.alloc (.cells #[.slice An nn cn, .slice Ad nd cd] 26)).alloc (.cells #[.int .i64 d, .int .i64 p] 66)).alloc (.cells #[.int .i64 co, .slice Al nl cl, .slice Ap np cp] 29)) w.heap.size 26 #[.slice An nn cn, .slice Ad nd cd]) := ((Blk.new _ _ _).alloc _).alloc _
 have HKO : Hid (Blk (((w.alloc (.cells #[.slice An nn cn, .slice Ad nd cd] 26)).alloc (.cells #[.int .i64 d, .int .i64 p] 66)).alloc (.cells #[.int .i64 co, .slice Al nl cl, .slice Ap np cp] 29)) (w.heap.size + 1) 66 #[.int .i64 d, .int .i64 p]) := by
  have := (Blk.new (w.alloc (.cells #[.slice An nn cn, .slice Ad nd cd] 26)) 66 #[.int .i64 d, .int .i64 p]).alloc (.cells #[.int .i64 co, .slice Al nl cl, .slice Ap np cp] 29)
  unfold Hid; simpa using this
 have HKG : Hid (Blk (((w.alloc (.cells #[.slice An nn cn, .slice Ad nd cd] 26)).alloc (.cells #[.int .i64 d, .int .i64 p] 66)).alloc (.cells #[.int .i64 co, .slice Al nl cl, .slice Ap np cp] 29)) (w.heap.size + 2) 29 #[.int .i64 co, .slice Al nl cl, .slice Ap np cp]) := by
  have := Blk.new ((w.alloc (.cells #[.slice An nn cn, .slice Ad nd cd] 26)).alloc (.cells #[.int .i64 d, .int .i64 p] 66)) 29 #[.int .i64 co, .slice Al nl cl, .slice Ap np cp]
  unfold Hid; simpa using this
 go_enter Tryz.func88, Tryz.ntmps88
 go_upto_region 1 with (fail)
 generalize World.alloc (World.alloc (World.alloc w _) _) _ = W at *
 obtain ⟨b0, off, x', rfl, hb, hx', hc⟩ := (HD.out.below HB0.out hBd).at (fun _ => rfl) (by decide) hi
 obtain rfl : x = x' := by have := HX.out; rw [this] at hx'; exact Option.some.inj hx'
 obtain ⟨nm, kd, a, b, co2⟩ := x
 simp only at hk6
 have c0 : W.cell? ⟨b0, off + d * 5, none⟩ = some (.string nm) := hc 0 _ rfl
 have c1 : W.cell? ⟨b0, off + d * 5 + 1, none⟩ = some (.int .i64 kd) := hc 1 _ rfl
 have c2 : W.cell? ⟨b0, off + d * 5 + 2, none⟩ = some (.int .i64 a) := hc 2 _ rfl
 have c3 : W.cell? ⟨b0, off + d * 5 + 3, none⟩ = some (.int .i64 b) := hc 3 _ rfl
 have c4 : W.cell? ⟨b0, off + d * 5 + 4, none⟩ = some (.int .i64 co2) := hc 4 _ rfl
 have k1 := HKN.out.c1
 have o0 := HKO.out.c0
 clear hc hx'
 have HB1 : Hid (Below w.heap.size w (W.alloc (.cells #[.string nm, .int .i64 kd, .int .i64 a, .int .i64 b, .int .i64 co2] 75))) := HB0.out.alloc HB0.out.size _
 have HKV := iD (Blk.new W 75 #[.string nm, .int .i64 kd, .int .i64 a, .int .i64 b, .int .i64 co2])
 have HKN1 := iD (HKN.out.alloc (.cells #[.string nm, .int .i64 kd, .int .i64 a, .int .i64 b, .int .i64 co2] 75))
 have HKO1 := iD (HKO.out.alloc (.cells #[.string nm, .int .i64 kd, .int .i64 a, .int .i64 b, .int .i64 co2] 75))
 have HKG1 := iD (HKG.out.alloc (.cells #[.string nm, .int .i64 kd, .int .i64 a, .int .i64 b, .int .i64 co2] 75))
 go_upto_region 2 with (fail)
 clear HB0 HKN HKO HKG c0 c1 c2 c3 c4 k1 o0
 generalize World.alloc W _ = W1 at *
 obtain ⟨vb, hvb⟩ : ∃ x, x = W.heap.size := ⟨_, rfl⟩
 rw [← hvb] at HKV ⊢
 clear hvb
 have HPL : Hid (oV 109 #[.pointer (some ⟨w.heap.size + 1, 0, none⟩)] (fun k => decide (k.dev = d)) W1) := by
  intro W' d1 p1 q1 hb
  have hc : W'.cell? ⟨w.heap.size + 1, 0, none⟩ = some (.int .i64 d) := (hb.cell (p := ⟨w.heap.size + 1, 0, none⟩) HKO1.out.lt).trans (HKO1.out.cell 0)
  have hBW : w.heap.size + 1 < W'.heap.size := Nat.lt_of_lt_of_le HKO1.out.lt hb.size
  have hne : w.heap.size + 1 ≠ W'.heap.size := by omega
  have HBW : Hid (Below W1.heap.size W1 (W'.alloc (.cells #[.int .i64 d1, .int .i64 p1, .int .i64 q1] 87))) := hb.alloc hb.size _
  clear hb
  show Calls Tryz.prog 109 #[.agg #[.int .i64 d1, .int .i64 p1, .int .i64 q1], .pointer (some ⟨w.heap.size + 1, 0, none⟩)] W' _
  go_enter Tryz.func109, Tryz.ntmps109
  go_wp2_with fail
  go_ret
  exact ⟨zI (by by_cases h : d1 = d <;> simp [h]), HBW.out⟩
 have HCF := iD (tV 109 #[.pointer (some ⟨w.heap.size + 1, 0, none⟩)] (fun k => decide (k.dev = d)) (enters_of Tryz.func109 (by kernel_rfl) rfl) Al nl cl Bl ls W1 (HLS.out.below HB1.out hBl) (by have := HB1.out.size; omega) HPL.out)
 have g1 := HKG1.out.c1
 clear HPL
 go_wp2_with fail
 clear g1
 refine HCF.out.mono ?_
 rintro e w2 ⟨rfl, hb2⟩
 clear HCF
 obtain ⟨t1, ht1⟩ : ∃ t, t = zl ls d := ⟨_, rfl⟩
 have HT1 := iD ht1
 rw [show (ls.any fun k => decide (k.dev = (d : Int))) = t1 by rw [ht1]; rfl]
 clear ht1
 have HB2 := iD (HB1.out.trans (hb2.mono HB1.out.size))
 have HKN2 := iD (HKN1.out.below hb2 HKN1.out.lt); have HKO2 := iD (HKO1.out.below hb2 HKO1.out.lt); have HKG2 := iD (HKG1.out.below hb2 HKG1.out.lt); have HKV2 := iD (HKV.out.below hb2 HKV.out.lt)
 clear hb2 HB1 HKN1 HKO1 HKG1 HKV
 have v4 := HKV2.out.c4
 have g0 := HKG2.out.c0
 have hv1 : vb < w2.heap.size := HKV2.out.lt
 have hg1 : w.heap.size + 2 < w2.heap.size := HKG2.out.lt
 have HQ4 : Hid (HzQ w vb w2.heap.size (w2.heap.size + 1) #[.slice An nn cn, .slice (some ⟨b0, off, none⟩) nd cd] #[.int .i64 d, .int .i64 p] #[.int .i64 co, .slice Al nl cl, .slice Ap np cp] #[.string nm, .int .i64 kd, .int .i64 a, .int .i64 b, .int .i64 co2] #[.int .i64 4, .bool t1] #[.int .i64 6, .bool (co2 != co)] ((w2.alloc (.cells #[.int .i64 4, .bool t1] 156)).alloc (.cells #[.int .i64 6, .bool (co2 != co)] 156))) := by
  refine ⟨(HB2.out.alloc HB2.out.size _).alloc (by have := HB2.out.size; simp; omega) _, (HKN2.out.alloc _).alloc _, (HKO2.out.alloc _).alloc _, (HKG2.out.alloc _).alloc _, (HKV2.out.alloc _).alloc _, (Blk.new _ _ _).alloc _, ?_⟩
  have := Blk.new (w2.alloc (.cells #[.int .i64 4, .bool t1] 156)) 156 #[.int .i64 6, .bool (co2 != co)]
  simpa using this
 go_upto_region 4 with (fail)
 clear HB2 HKN2 HKO2 HKG2 HKV2 v4 g0 hv1 hg1
 generalize World.alloc (World.alloc w2 _) _ = W3 at *
 obtain ⟨b1, hb1⟩ : ∃ x, x = w2.heap.size := ⟨_, rfl⟩
 rw [← hb1] at HQ4 ⊢
 clear hb1
 obtain ⟨t2, ht2⟩ : ∃ t, t = (co2 != co) := ⟨_, rfl⟩
 rw [← ht2] at HQ4 ⊢
 have HT2 := iD ht2
 clear ht2
 obtain ⟨bs, of2, sd, rfl, hbs, hsd1, hcs⟩ := (HS.out.below HQ4.out.bl hBs).at1 (k := d) (by omega)
 have HSD1 := iD (yG hsd1)
 have HC4 : Hid ((W3.cell? ⟨w.heap.size + 1, 0, none⟩ = some (.int .i64 d) ∧ W3.cell? ⟨w.heap.size + 1, 1, none⟩ = some (.int .i64 p)) ∧ W3.cell? ⟨bs, of2 + d, none⟩ = some (.int .i64 sd)) := ⟨⟨HQ4.out.bo.cell 0, HQ4.out.bo.cell 1⟩, hcs⟩
 clear hcs hsd1
 have hdn : d < n := by omega
 refine zk (S := fun W' => (W'.cell? ⟨w.heap.size + 1, 0, none⟩ = some (.int .i64 d) ∧ W'.cell? ⟨w.heap.size + 1, 1, none⟩ = some (.int .i64 p)) ∧ W'.cell? ⟨bs, of2 + d, none⟩ = some (.int .i64 sd)) (J := []) (n := _) ((0, true) :: (1, true) :: (2, true) :: (3, true) :: (4, true) :: (5, true) :: (6, true) :: (7, true) :: []) (by as_aux_lemma => kernel_rfl) (by rfl) (zM (k := 1) (by go_simp; rfl) (zM (k := 6) (by go_simp; rfl) yg)) ?_ (fun _ _ _ _ _ h => h) (fun Q2 A hsz hbase hn2 AA => ?_)
 ·exact HC4.out
 try dsimp only at AA
 obtain ⟨b1, b6, -⟩ := hbase
 refine oM 0 35 ?_ rfl rfl rfl (zA rfl) AA (fun ρ AB => ?_) ?_
 rotate_left
 ·(have e1 := tm AB hsz 1 rfl (zJ b1); exact e1)
 refine oT 1 36 ?_ rfl rfl (zA rfl) AA (fun ρ AB w hSw => ?_) ?_
 rotate_left
 ·(have e6 := tm AB hsz 6 rfl (zD rfl (zJ b6)); clear AB; (try dsimp only at hSw); go_simp; try with_reducible rfl)
 refine oT 2 37 ?_ rfl rfl (zA rfl) AA (fun ρ AB w hSw => ?_) ?_
 rotate_left
 ·(have e36 := tm AB hsz 36 rfl zB; clear AB; (try dsimp only at hSw); go_simp; try with_reducible rfl)
 refine oT 3 38 ?_ rfl rfl (zA rfl) AA (fun ρ AB w hSw => ?_) ?_
 rotate_left
 ·(have e35 := tm AB hsz 35 rfl (zD rfl (zD rfl zB)); have e37 := tm AB hsz 37 rfl zB; clear AB; (try dsimp only at hSw); go_simp; try with_reducible rfl)
 refine oT 4 39 ?_ rfl rfl (zA rfl) AA (fun ρ AB w hSw => ?_) ?_
 rotate_left
 ·(have e38 := tm AB hsz 38 rfl zB; clear AB; (try dsimp only at hSw); go_simp; try with_reducible rfl)
 refine oT 5 40 ?_ rfl rfl (zA rfl) AA (fun ρ AB w hSw => ?_) ?_
 rotate_left
 ·(have e6 := tm AB hsz 6 rfl (zH rfl rfl rfl rfl (zD rfl (zJ b6))); clear AB; (try dsimp only at hSw); go_simp; try with_reducible rfl)
 refine oT 6 41 ?_ rfl rfl (zA rfl) AA (fun ρ AB w hSw => ?_) ?_
 rotate_left
 ·(have e40 := tm AB hsz 40 rfl zB; clear AB; (try dsimp only at hSw); go_simp; try with_reducible rfl)
 refine oT 7 42 ?_ rfl rfl (zA rfl) AA (fun ρ AB w hSw => ?_) ?_
 rotate_left
 ·(have e39 := tm AB hsz 39 rfl (zD rfl (zD rfl zB)); have e41 := tm AB hsz 41 rfl zB; clear AB; (try dsimp only at hSw); go_simp; try with_reducible rfl)
 refine ye hn2 ?_
 clear AA hn2 b1 b6 hsz A Q2
 simp only [yd, yJ, xJ, vD, vE]
 clear HC4
 have HQ5 : Hid (HzQ w vb b1 (b1 + 1) #[.slice An nn cn, .slice (some ⟨b0, off, none⟩) nd cd] #[.int .i64 d, .int .i64 p] #[.int .i64 co, .slice Al nl cl, .slice Ap np cp] #[.string nm, .int .i64 kd, .int .i64 a, .int .i64 b, .int .i64 co2] #[.int .i64 4, .bool t1] #[.int .i64 6, .bool t2] W3.drew) := ⟨HQ4.out.bl.drew, HQ4.out.bn, HQ4.out.bo, HQ4.out.bg, HQ4.out.bv, HQ4.out.b1, HQ4.out.b2⟩
 clear HQ4
 generalize World.drew W3 = W4 at *
 by_cases hsp : sd = p
 ·have q : (sd == p) = true := by simpa using hsp
  have HR : Hid (uc nn ns ds s d p co ls pr ⟨nm, kd, a, b, co2⟩ = vC (ud [(4, t1), (6, t2), (7, true)])) := by
   unfold Hid uc
   rw [if_pos (by rw [HSD1.out]; exact hsp), ii, HT1.out, HT2.out]
  have hz := HQ5.out.bl.size
  have f10 := HQ5.out.b1.c0
  have f11 := HQ5.out.b1.c1
  have f20 := HQ5.out.b2.c0
  have f21 := HQ5.out.b2.c1
  clear hsp
  go_wp2_with fail
  refine (tE _ 3 3 (W4.heap.size + 1) [(4, t1), (6, t2), (7, true)] _ (Sl.newest rfl rfl (by decide)) (by simp) (by decide)).mono ?_
  rintro e w6 ⟨Ao, c6, rfl, hO6, hb6⟩
  have HB6 : Hid (Below w.heap.size w w6) := (HQ5.out.bl.alloc hz _).trans (hb6.out.mono (by simp; omega))
  have HO6 := iD (hO6.out.mono (base' := w.heap.size) (by simp; omega))
  clear hb6 hO6
  go_wp2_with fail
  go_ret
  rw [HR.out]
  exact ⟨Ao, c6, rfl, HO6, HB6⟩
 have q : (sd == p) = false := by simpa using hsp
 have HSP : Hid (s.getD d 0 ≠ p) := by unfold Hid; rw [HSD1.out]; exact hsp
 clear hsp
 have k0 := HQ5.out.bn.c0
 have k1 := HQ5.out.bn.c1
 have o0 := HQ5.out.bo.c0
 go_wp2_with fail
 clear q k0 k1 o0
 have hz5 := HQ5.out.bl.size
 refine (iO An (some ⟨b0, off, none⟩) (some ⟨bs, of2, none⟩) nn cn nd cd n c Bn Bd Bs d ns ds s ⟨nm, kd, a, b, co2⟩ W4 (HL.out.below HQ5.out.bl lR) (HN.out.below HQ5.out.bl hBn) (by omega) (HD.out.below HQ5.out.bl hBd) (by omega) (HS.out.below HQ5.out.bl hBs) (by omega) HSN.out HSD.out H0.out hnn hn1 hnd hi HX.out HE.out HA.out).mono ?_
 rintro e w5 ⟨rfl, hb5⟩
 have HQ6 := iD (HQ5.out.later hb5)
 clear hb5 HQ5 hz5
 obtain ⟨du, hdu⟩ : ∃ x, x = xG nn ns ds s d ⟨nm, kd, a, b, co2⟩ := ⟨_, rfl⟩
 rw [← hdu]
 have HDU := iD hdu
 clear hdu
 have HS2E : Hid (zL ns ds (zZ s d p) = 0) := yI H0.out d hp
 have HRR : Hid (uc nn ns ds s d p co ls pr ⟨nm, kd, a, b, co2⟩ = vC (ud [(4, t1), (6, t2), (1, decide (p = 2) && decide (du = 4)), (2, yS kd p du (lvE (zY nn ds s) ⟨nm, kd, a, b, co2⟩)), (3, yT ns ds s (zZ s d p)), (5, decide (p = 2) && decide (kd = 4) && !wl pr a)])) := by
  unfold Hid uc
  rw [if_neg HSP.out, ig, HT1.out, HT2.out, HDU.out]
 clear HSP HT1 HT2 HDU HSD1
 have HST := iD H0.out
 clear H0
 go_upto_region 7 with (fail)
 have o1 := HQ6.out.bo.c1
 rcases hp with rfl | rfl
 ·go_upto_region 8 with (fail)
  refine zk (S := fun W' => ((W'.cell? ⟨w.heap.size, 0, none⟩ = some (.slice An nn cn) ∧ W'.cell? ⟨w.heap.size, 1, none⟩ = some (.slice (some ⟨b0, off, none⟩) nd cd)) ∧ W'.cell? ⟨w.heap.size + 1, 0, none⟩ = some (.int .i64 d) ∧ W'.cell? ⟨w.heap.size + 1, 1, none⟩ = some (.int .i64 1)) ∧ (W'.cell? ⟨vb, 1, none⟩ = some (.int .i64 kd) ∧ W'.cell? ⟨vb, 2, none⟩ = some (.int .i64 a)) ∧ W'.cell? ⟨w.heap.size + 2, 2, none⟩ = some (.slice Ap np cp) ∧ (W'.cell? ⟨b1, 0, none⟩ = some (.int .i64 4) ∧ W'.cell? ⟨b1, 1, none⟩ = some (.bool t1)) ∧ W'.cell? ⟨b1 + 1, 0, none⟩ = some (.int .i64 6) ∧ W'.cell? ⟨b1 + 1, 1, none⟩ = some (.bool t2)) (J := []) (n := _) ((0, true) :: (1, true) :: (2, true) :: (3, true) :: (4, true) :: (5, true) :: (6, true) :: (7, false) :: (8, false) :: (9, true) :: (10, true) :: (11, true) :: (12, true) :: (13, true) :: (14, true) :: (15, true) :: []) (by as_aux_lemma => kernel_rfl) (by rfl) (zM (k := 4) (by go_simp; rfl) (zM (k := 1) (by go_simp; rfl) (zM (k := 6) (by go_simp; rfl) yg))) ?_ (fun _ _ _ _ _ h => h) (fun Q2 A hsz hbase hn2 AA => ?_)
  ·exact HQ6.out.cells
  try dsimp only at AA
  obtain ⟨b4, b1, b6, -⟩ := hbase
  refine oT 0 60 ?_ rfl rfl (zA rfl) AA (fun ρ AB w hSw => ?_) ?_
  rotate_left
  ·(have e4 := tm AB hsz 4 rfl (zJ b4); clear AB; (try dsimp only at hSw); go_simp; try with_reducible rfl)
  refine oM 1 61 ?_ rfl rfl rfl (zA rfl) AA (fun ρ AB => ?_) ?_
  rotate_left
  ·(have e1 := tm AB hsz 1 rfl (zD rfl (zJ b1)); exact e1)
  refine oM 2 62 ?_ rfl rfl rfl (zA rfl) AA (fun ρ AB => ?_) ?_
  rotate_left
  ·(have e1 := tm AB hsz 1 rfl (zD rfl (zD rfl (zJ b1))); exact e1)
  refine oT 3 63 ?_ rfl rfl (zA rfl) AA (fun ρ AB w hSw => ?_) ?_
  rotate_left
  ·(have e6 := tm AB hsz 6 rfl (zD rfl (zD rfl (zD rfl (zJ b6)))); clear AB; (try dsimp only at hSw); go_simp; try with_reducible rfl)
  refine oT 4 64 ?_ rfl rfl (zA rfl) AA (fun ρ AB w hSw => ?_) ?_
  rotate_left
  ·(have e63 := tm AB hsz 63 rfl zB; clear AB; (try dsimp only at hSw); go_simp; try with_reducible rfl)
  refine oT 5 65 ?_ rfl rfl (zA rfl) AA (fun ρ AB w hSw => ?_) ?_
  rotate_left
  ·(have e6 := tm AB hsz 6 rfl (zH rfl rfl rfl rfl (zD rfl (zJ b6))); clear AB; (try dsimp only at hSw); go_simp; try with_reducible rfl)
  refine oT 6 66 ?_ rfl rfl (zA rfl) AA (fun ρ AB w hSw => ?_) ?_
  rotate_left
  ·(have e65 := tm AB hsz 65 rfl zB; clear AB; (try dsimp only at hSw); go_simp; try with_reducible rfl)
  refine yB (i := 7) (d := 67) (vs := ?_) rfl rfl rfl (zA rfl) (fun ρ AB => ?_) ?_ ?_
  rotate_left
  ·(have e62 := tm AB hsz 62 rfl (zH rfl rfl rfl rfl zB); have e64 := tm AB hsz 64 rfl (zD rfl (zD rfl zB)); have e66 := tm AB hsz 66 rfl zB; simp only [List.map_toArray, List.map_cons, List.map_nil, e62, e64, e66]; try with_reducible rfl)
  ·(intro w; go_simp)
  refine (ul (some ⟨bs, of2, none⟩) n c Bs s d 1 w5.drew (HS.out.below HQ6.out.bl.drew hBs) (Nat.le_trans hBs HQ6.out.bl.size) (by omega)).mono ?_
  rintro e u1 ⟨At, ct, rfl, hOt, hbt⟩
  have HU1 := iD ((show HzQ _ _ _ _ _ _ _ _ _ _ w5.drew from ⟨HQ6.out.bl.drew, HQ6.out.bn, HQ6.out.bo, HQ6.out.bg, HQ6.out.bv, HQ6.out.b1, HQ6.out.b2⟩).later hbt.out)
  have HOT := iD hOt.out.sl
  clear hOt hbt
  refine ⟨_, rfl, fun _ => ?_, fun AA' => ?_⟩
  ·exact HU1.out.cells
  replace AA := AA' rfl
  clear AA'
  try dsimp only at AA
  refine yB (i := 8) (d := 68) (vs := ?_) rfl rfl rfl (zA rfl) (fun ρ AB => ?_) ?_ ?_
  rotate_left
  ·(have e60 := tm AB hsz 60 rfl (zH rfl rfl rfl rfl (zD rfl (zD rfl (zD rfl zB)))); have e61 := tm AB hsz 61 rfl (zH rfl rfl rfl rfl (zD rfl (zD rfl zB))); have e67 := tm AB hsz 67 rfl zB; simp only [List.map_toArray, List.map_cons, List.map_nil, e60, e61, e67]; try with_reducible rfl)
  ·(intro w; go_simp)
  refine (mN An (some ⟨b0, off, none⟩) (some ⟨bs, of2, none⟩) At nn cn nd cd n c (zZ s d 1).length ct Bn Bd Bs u1.heap.size ns ds s (zZ s d 1) u1 (HL.out.below HU1.out.bl lR) (HN.out.below HU1.out.bl hBn) (Nat.le_trans hBn HU1.out.bl.size) (HD.out.below HU1.out.bl hBd) (Nat.le_trans hBd HU1.out.bl.size) (HS.out.below HU1.out.bl hBs) (Nat.le_trans hBs HU1.out.bl.size) HOT.out lR HSN.out HSD.out HST.out HS2E.out hnn (by omega) hnd (by rw [yq, HLN.out]; exact hnd) HE.out HA.out).mono ?_
  rintro e u2 ⟨Ao, mo, co3, lo, ko, rfl, hLO1, hLO2, hLO3, hb⟩
  have HU2 := iD (HU1.out.later hb.out)
  have HLO := iD (tC hLO2.out hLO1.out)
  have hmo := hLO3.out.sl.le
  clear hb hLO1 hLO2 hLO3
  refine ⟨_, rfl, fun _ => ?_, fun AA' => ?_⟩
  ·exact HU2.out.cells
  replace AA := AA' rfl
  clear AA'
  try dsimp only at AA
  refine oM 9 59 ?_ rfl rfl rfl (zA rfl) AA (fun ρ AB => ?_) ?_
  rotate_left
  ·(have e68 := tm AB hsz 68 rfl zB; exact e68)
  refine oT 10 69 ?_ rfl rfl (zA rfl) AA (fun ρ AB w hSw => ?_) ?_
  rotate_left
  ·(have e59 := tm AB hsz 59 rfl zB; clear AB; (try dsimp only at hSw); go_simp; try with_reducible rfl)
  refine oT 11 70 ?_ rfl rfl (zA rfl) AA (fun ρ AB w hSw => ?_) ?_
  rotate_left
  ·(have e59 := tm AB hsz 59 rfl (zD rfl zB); clear AB; (try dsimp only at hSw); go_simp; try with_reducible rfl)
  refine oT 12 71 ?_ rfl rfl (zA rfl) AA (fun ρ AB w hSw => ?_) ?_
  rotate_left
  ·(have e59 := tm AB hsz 59 rfl (zD rfl (zD rfl zB)); clear AB; (try dsimp only at hSw); go_simp; try with_reducible rfl)
  refine oT 13 15 ?_ rfl rfl (zA rfl) AA (fun ρ AB w hSw => ?_) ?_
  rotate_left
  ·(have e69 := tm AB hsz 69 rfl (zD rfl (zD rfl zB)); clear AB; (try dsimp only at hSw); go_simp; try with_reducible rfl)
  refine oT 14 16 ?_ rfl rfl (zA rfl) AA (fun ρ AB w hSw => ?_) ?_
  rotate_left
  ·(have e70 := tm AB hsz 70 rfl (zD rfl (zD rfl zB)); clear AB; (try dsimp only at hSw); go_simp; try with_reducible rfl)
  refine oT 15 17 ?_ rfl rfl (zA rfl) AA (fun ρ AB w hSw => ?_) ?_
  rotate_left
  ·(have e71 := tm AB hsz 71 rfl (zD rfl (zD rfl zB)); clear AB; (try dsimp only at hSw); go_simp; try with_reducible rfl)
  refine ye hn2 ?_
  clear AA hn2 b4 b1 b6 hsz A Q2
  simp only [yd, yJ, xJ, vD, vE]
  go_upto_region 9 with (fail)
  refine zk (S := fun W' => ((W'.cell? ⟨w.heap.size, 0, none⟩ = some (.slice An nn cn) ∧ W'.cell? ⟨w.heap.size, 1, none⟩ = some (.slice (some ⟨b0, off, none⟩) nd cd)) ∧ W'.cell? ⟨w.heap.size + 1, 0, none⟩ = some (.int .i64 d) ∧ W'.cell? ⟨w.heap.size + 1, 1, none⟩ = some (.int .i64 1)) ∧ (W'.cell? ⟨vb, 1, none⟩ = some (.int .i64 kd) ∧ W'.cell? ⟨vb, 2, none⟩ = some (.int .i64 a)) ∧ W'.cell? ⟨w.heap.size + 2, 2, none⟩ = some (.slice Ap np cp) ∧ (W'.cell? ⟨b1, 0, none⟩ = some (.int .i64 4) ∧ W'.cell? ⟨b1, 1, none⟩ = some (.bool t1)) ∧ W'.cell? ⟨b1 + 1, 0, none⟩ = some (.int .i64 6) ∧ W'.cell? ⟨b1 + 1, 1, none⟩ = some (.bool t2)) (J := []) (n := _) ((0, true) :: (1, true) :: (2, true) :: (3, true) :: (4, true) :: (5, true) :: (6, true) :: (7, true) :: (8, true) :: (9, true) :: (10, true) :: (11, true) :: (12, true) :: (13, true) :: (16, true) :: (17, true) :: (18, true) :: (19, true) :: (20, true) :: (14, false) :: (15, true) :: (21, true) :: (22, true) :: (23, true) :: (24, true) :: (25, true) :: (26, true) :: (27, true) :: (28, true) :: (29, true) :: (30, true) :: (31, true) :: (32, true) :: (33, true) :: (34, true) :: (35, false) :: (36, false) :: (37, true) :: []) (by as_aux_lemma => kernel_rfl) (by rfl) (zM (k := 10) (by go_simp; rfl) (zM (k := 11) (by go_simp; rfl) (zM (k := 14) (by go_simp; rfl) (zM (k := 4) (by go_simp; rfl) (zM (k := 1) (by go_simp; rfl) (zM (k := 6) (by go_simp; rfl) (zM (k := 9) (by go_simp; rfl) (zM (k := 12) (by go_simp; rfl) (zM (k := 15) (by go_simp; rfl) yg))))))))) ?_ (fun _ _ _ _ _ h => h) (fun Q2 A hsz hbase hn2 AA => ?_)
  ·exact HU2.out.cells
  try dsimp only at AA
  obtain ⟨b10, b11, b14, b4, b1, b6, b9, b12, b15, -⟩ := hbase
  refine oT 0 72 ?_ rfl rfl (zA rfl) AA (fun ρ AB w hSw => ?_) ?_
  rotate_left
  ·(have e10 := tm AB hsz 10 rfl (zJ b10); clear AB; (try dsimp only at hSw); go_simp; try with_reducible rfl)
  refine oT 1 73 ?_ rfl rfl (zA rfl) AA (fun ρ AB w hSw => ?_) ?_
  rotate_left
  ·(have e11 := tm AB hsz 11 rfl (zD rfl (zJ b11)); clear AB; (try dsimp only at hSw); go_simp; try with_reducible rfl)
  refine oM 2 74 ?_ rfl rfl rfl (zA rfl) AA (fun ρ AB => ?_) ?_
  rotate_left
  ·(have e14 := tm AB hsz 14 rfl (zD rfl (zD rfl (zJ b14))); exact e14)
  refine oM 3 75 ?_ rfl rfl rfl (zA rfl) AA (fun ρ AB => ?_) ?_
  rotate_left
  ·(have e74 := tm AB hsz 74 rfl zB; exact e74)
  refine oS 4 76 rfl rfl (wN 3 75 true false rfl hsz rfl rfl rfl zB rfl) AA ?_
  refine oS 5 77 rfl rfl (wN 3 75 true false rfl hsz rfl rfl rfl (zD rfl zB) rfl) AA ?_
  refine oT 6 78 ?_ rfl rfl (zA rfl) AA (fun ρ AB w hSw => ?_) ?_
  rotate_left
  ·(have hc := AB.const; have e75 := tm AB hsz 75 rfl (zD rfl (zD rfl zB)); have e77 := tm AB hsz 77 rfl zB; clear AB; (try dsimp only at hSw); go_simp; try with_reducible rfl)
  refine oT 7 79 ?_ rfl rfl (zA rfl) AA (fun ρ AB w hSw => ?_) ?_
  rotate_left
  ·(have hc := AB.const; have e78 := tm AB hsz 78 rfl zB; clear AB; (try dsimp only at hSw); go_simp; try with_reducible rfl)
  refine oT 8 80 ?_ rfl rfl (zA rfl) AA (fun ρ AB w hSw => ?_) ?_
  rotate_left
  ·(have e4 := tm AB hsz 4 rfl (zH rfl rfl rfl rfl (zH rfl rfl rfl rfl (zJ b4))); clear AB; (try dsimp only at hSw); go_simp; try with_reducible rfl)
  refine oM 9 81 ?_ rfl rfl rfl (zA rfl) AA (fun ρ AB => ?_) ?_
  rotate_left
  ·(have e1 := tm AB hsz 1 rfl (zH rfl rfl rfl rfl (zH rfl rfl rfl rfl (zD rfl (zJ b1)))); exact e1)
  refine oT 10 82 ?_ rfl rfl (zA rfl) AA (fun ρ AB w hSw => ?_) ?_
  rotate_left
  ·(have e6 := tm AB hsz 6 rfl (zH rfl rfl rfl rfl (zH rfl rfl rfl rfl (zD rfl (zD rfl (zJ b6))))); clear AB; (try dsimp only at hSw); go_simp; try with_reducible rfl)
  refine oT 11 83 ?_ rfl rfl (zA rfl) AA (fun ρ AB w hSw => ?_) ?_
  rotate_left
  ·(have e9 := tm AB hsz 9 rfl (zH rfl rfl rfl rfl (zH rfl rfl rfl rfl (zD rfl (zD rfl (zD rfl (zJ b9)))))); clear AB; (try dsimp only at hSw); go_simp; try with_reducible rfl)
  refine oT 12 84 ?_ rfl rfl (zA rfl) AA (fun ρ AB w hSw => ?_) ?_
  rotate_left
  ·(have e83 := tm AB hsz 83 rfl zB; clear AB; (try dsimp only at hSw); go_simp; try with_reducible rfl)
  refine oM 13 85 ?_ rfl rfl rfl (zA rfl) AA (fun ρ AB => ?_) ?_
  rotate_left
  ·(have e12 := tm AB hsz 12 rfl (zH rfl rfl rfl rfl (zH rfl rfl rfl rfl (zH rfl rfl rfl rfl (zD rfl (zJ b12))))); exact e12)
  refine oM 16 88 ?_ rfl rfl rfl (zA rfl) AA (fun ρ AB => ?_) ?_
  rotate_left
  ·(have e15 := tm AB hsz 15 rfl (zH rfl rfl rfl rfl (zH rfl rfl rfl rfl (zH rfl rfl rfl rfl (zD rfl (zD rfl (zJ b15)))))); exact e15)
  refine oT 17 89 ?_ rfl rfl (zA rfl) AA (fun ρ AB w hSw => ?_) ?_
  rotate_left
  ·(have e88 := tm AB hsz 88 rfl zB; clear AB; (try dsimp only at hSw); go_simp; try with_reducible rfl)
  refine oT 18 90 ?_ rfl rfl (zA rfl) AA (fun ρ AB w hSw => ?_) ?_
  rotate_left
  ·(have hc := AB.const; have e89 := tm AB hsz 89 rfl zB; clear AB; (try dsimp only at hSw); go_simp; try with_reducible rfl)
  refine oT 19 91 ?_ rfl rfl (zA rfl) AA (fun ρ AB w hSw => ?_) ?_
  rotate_left
  ·(have hc := AB.const; have e90 := tm AB hsz 90 rfl zB; clear AB; (try dsimp only at hSw); go_simp; try with_reducible rfl)
  refine oM 20 92 ?_ rfl rfl rfl (zA rfl) AA (fun ρ AB => ?_) ?_
  rotate_left
  ·(have e14 := tm AB hsz 14 rfl (zH rfl rfl rfl rfl (zH rfl rfl rfl rfl (zH rfl rfl rfl rfl (zH rfl rfl rfl rfl (zD rfl (zD rfl (zJ b14))))))); exact e14)
  refine yB (i := 14) (d := 86) (vs := ?_) rfl rfl rfl (zA rfl) (fun ρ AB => ?_) ?_ ?_
  rotate_left
  ·(have e80 := tm AB hsz 80 rfl (zH rfl rfl rfl rfl (zH rfl rfl rfl rfl (zD rfl (zD rfl zB)))); have e81 := tm AB hsz 81 rfl (zH rfl rfl rfl rfl (zH rfl rfl rfl rfl (zD rfl zB))); have e82 := tm AB hsz 82 rfl (zH rfl rfl rfl rfl (zH rfl rfl rfl rfl zB)); have e84 := tm AB hsz 84 rfl (zH rfl rfl rfl rfl (zD rfl (zD rfl zB))); have e85 := tm AB hsz 85 rfl (zH rfl rfl rfl rfl (zD rfl zB)); simp only [List.map_toArray, List.map_cons, List.map_nil, e80, e81, e82, e84, e85]; try with_reducible rfl)
  ·(intro w; go_simp)
  refine (pE An (some ⟨b0, off, none⟩) (some ⟨bs, of2, none⟩) nn cn nd cd n c Bd Bs d 1 du kd ds s ⟨nm, kd, a, b, co2⟩ u2.drew (HD.out.below HU2.out.bl.drew hBd) (Nat.le_trans hBd HU2.out.bl.size) (HS.out.below HU2.out.bl.drew hBs) (Nat.le_trans hBs HU2.out.bl.size) hnn (by omega) hnd HE.out HA.out hi HX.out rfl hk6).mono ?_
  rintro e u3 ⟨rfl, hb⟩
  have HU3 := iD ((show HzQ _ _ _ _ _ _ _ _ _ _ u2.drew from ⟨HU2.out.bl.drew, HU2.out.bn, HU2.out.bo, HU2.out.bg, HU2.out.bv, HU2.out.b1, HU2.out.b2⟩).later hb)
  clear hb
  refine ⟨_, rfl, fun _ => ?_, fun AA' => ?_⟩
  ·exact HU3.out.cells
  replace AA := AA' rfl
  clear AA'
  try dsimp only at AA
  refine oT 15 87 ?_ rfl rfl (zA rfl) AA (fun ρ AB w hSw => ?_) ?_
  rotate_left
  ·(have hc := AB.const; have e86 := tm AB hsz 86 rfl zB; clear AB; (try dsimp only at hSw); go_simp; try with_reducible rfl)
  refine oM 21 93 ?_ rfl rfl rfl (zA rfl) AA (fun ρ AB => ?_) ?_
  rotate_left
  ·(have e92 := tm AB hsz 92 rfl (zD rfl (zD rfl zB)); exact e92)
  refine oS 22 94 rfl rfl (wN 21 93 true false rfl hsz rfl rfl rfl zB rfl) AA ?_
  refine oS 23 95 rfl rfl (wN 21 93 true false rfl hsz rfl rfl rfl (zD rfl zB) rfl) AA ?_
  refine oS 24 96 rfl rfl (wN 21 93 true false rfl hsz rfl rfl rfl (zD rfl (zD rfl zB)) rfl) AA ?_
  refine oT 25 97 ?_ rfl rfl (zA rfl) AA (fun ρ AB w hSw => ?_) ?_
  rotate_left
  ·(have hc := AB.const; have e93 := tm AB hsz 93 rfl (zD rfl (zD rfl (zD rfl zB))); have e96 := tm AB hsz 96 rfl zB; clear AB; (try dsimp only at hSw); go_simp; try with_reducible rfl)
  refine oM 26 98 ?_ rfl rfl rfl (zA rfl) AA (fun ρ AB => ?_) ?_
  rotate_left
  ·(have e97 := tm AB hsz 97 rfl zB; exact e97)
  refine oS 27 99 rfl rfl (wN 26 98 true false rfl hsz rfl rfl rfl zB rfl) AA ?_
  refine oS 28 100 rfl rfl (wN 26 98 true false rfl hsz rfl rfl rfl (zD rfl zB) rfl) AA ?_
  refine oS 29 101 rfl rfl (wN 26 98 true false rfl hsz rfl rfl rfl (zD rfl (zD rfl zB)) rfl) AA ?_
  refine oS 30 102 rfl rfl (wN 26 98 true false rfl hsz rfl rfl rfl (zD rfl (zD rfl (zD rfl zB))) rfl) AA ?_
  refine oS 31 103 rfl rfl (wN 26 98 true false rfl hsz rfl rfl rfl (zH rfl rfl rfl rfl zB) rfl) AA ?_
  refine oS 32 104 rfl rfl (wN 26 98 true false rfl hsz rfl rfl rfl (zH rfl rfl rfl rfl (zD rfl zB)) rfl) AA ?_
  refine oT 33 105 ?_ rfl rfl (zA rfl) AA (fun ρ AB w hSw => ?_) ?_
  rotate_left
  ·(have hc := AB.const; have e98 := tm AB hsz 98 rfl (zH rfl rfl rfl rfl (zD rfl (zD rfl zB))); have e104 := tm AB hsz 104 rfl zB; clear AB; (try dsimp only at hSw); go_simp; try with_reducible rfl)
  refine oT 34 106 ?_ rfl rfl (zA rfl) AA (fun ρ AB w hSw => ?_) ?_
  rotate_left
  ·(have hc := AB.const; have e105 := tm AB hsz 105 rfl zB; clear AB; (try dsimp only at hSw); go_simp; try with_reducible rfl)
  refine qj (i := 35) (d := 107) (v := ?_) (w' := ?_) rfl rfl (zA rfl) (fun ρ AB => ?_) ?_ ?_
  rotate_left 2
  ·(have e72 := tm AB hsz 72 rfl (zH rfl rfl rfl rfl (zH rfl rfl rfl rfl (zH rfl rfl rfl rfl (zH rfl rfl rfl rfl (zH rfl rfl rfl rfl (zH rfl rfl rfl rfl (zH rfl rfl rfl rfl (zH rfl rfl rfl rfl (zD rfl (zD rfl zB)))))))))); have e73 := tm AB hsz 73 rfl (zH rfl rfl rfl rfl (zH rfl rfl rfl rfl (zH rfl rfl rfl rfl (zH rfl rfl rfl rfl (zH rfl rfl rfl rfl (zH rfl rfl rfl rfl (zH rfl rfl rfl rfl (zH rfl rfl rfl rfl (zD rfl zB))))))))); have e79 := tm AB hsz 79 rfl (zH rfl rfl rfl rfl (zH rfl rfl rfl rfl (zH rfl rfl rfl rfl (zH rfl rfl rfl rfl (zH rfl rfl rfl rfl (zH rfl rfl rfl rfl (zD rfl (zD rfl (zD rfl zB))))))))); have e87 := tm AB hsz 87 rfl (zH rfl rfl rfl rfl (zH rfl rfl rfl rfl (zH rfl rfl rfl rfl (zD rfl (zD rfl zB))))); have e91 := tm AB hsz 91 rfl (zH rfl rfl rfl rfl (zH rfl rfl rfl rfl (zH rfl rfl rfl rfl (zH rfl rfl rfl rfl (zD rfl zB))))); have e106 := tm AB hsz 106 rfl zB; clear AB; go_simp; first | with_reducible rfl | (constructor <;> with_reducible rfl))
  ·refine fun _ => ?_
   exact (HU3.out.later ((Below.refl _ _).alloc lR _)).cells
  intro AA'
  replace AA := AA' rfl
  clear AA'
  try dsimp only at AA
  refine yB (i := 36) (d := 108) (vs := ?_) rfl rfl rfl (zA rfl) (fun ρ AB => ?_) ?_ ?_
  rotate_left
  ·(have e107 := tm AB hsz 107 rfl zB; simp only [List.map_toArray, List.map_cons, List.map_nil, e107]; try with_reducible rfl)
  ·(intro w; go_simp)
  refine (tE _ 6 6 (u3.heap.size + 1) [(4, t1), (6, t2), (1, false), (2, yS kd 1 du (lvE (zY nn ds s) ⟨nm, kd, a, b, co2⟩)), (3, decide (0 < mo)), (5, false)] _ (Sl.newest rfl (by rfl) (by decide)) (by simp) (by decide)).mono ?_
  rintro e u5 ⟨A5, c5, rfl, hO5, hb5⟩
  have HU5 := iD ((HU3.out.later ((Below.refl _ _).alloc lR _)).later hb5.out)
  have HO5 := iD (hO5.out.mono (base' := w.heap.size) (by have := HU3.out.bl.size; simp; omega))
  clear hO5 hb5
  refine ⟨_, rfl, fun _ => ?_, fun AA' => ?_⟩
  ·exact HU5.out.cells
  replace AA := AA' rfl
  clear AA'
  try dsimp only at AA
  refine oT 37 8 ?_ rfl rfl (zA rfl) AA (fun ρ AB w hSw => ?_) ?_
  rotate_left
  ·(have e108 := tm AB hsz 108 rfl zB; clear AB; (try dsimp only at hSw); go_simp; try with_reducible rfl)
  refine ye hn2 ?_
  clear AA hn2 b10 b11 b14 b4 b1 b6 b9 b12 b15 hsz A Q2
  simp only [yd, yJ, xJ, vD, vE]
  go_wp2_with fail
  go_ret
  rw [HRR.out, ← HLO.out]
  exact ⟨A5, c5, rfl, HO5, HU5.out.bl⟩
 ·go_upto_region 8 with (fail)
  refine zk (S := fun W' => ((W'.cell? ⟨w.heap.size, 0, none⟩ = some (.slice An nn cn) ∧ W'.cell? ⟨w.heap.size, 1, none⟩ = some (.slice (some ⟨b0, off, none⟩) nd cd)) ∧ W'.cell? ⟨w.heap.size + 1, 0, none⟩ = some (.int .i64 d) ∧ W'.cell? ⟨w.heap.size + 1, 1, none⟩ = some (.int .i64 2)) ∧ (W'.cell? ⟨vb, 1, none⟩ = some (.int .i64 kd) ∧ W'.cell? ⟨vb, 2, none⟩ = some (.int .i64 a)) ∧ W'.cell? ⟨w.heap.size + 2, 2, none⟩ = some (.slice Ap np cp) ∧ (W'.cell? ⟨b1, 0, none⟩ = some (.int .i64 4) ∧ W'.cell? ⟨b1, 1, none⟩ = some (.bool t1)) ∧ W'.cell? ⟨b1 + 1, 0, none⟩ = some (.int .i64 6) ∧ W'.cell? ⟨b1 + 1, 1, none⟩ = some (.bool t2)) (J := []) (n := _) ((0, true) :: (1, true) :: (2, true) :: (3, true) :: (4, true) :: (5, true) :: (6, true) :: (7, false) :: (8, false) :: (9, true) :: (10, true) :: (11, true) :: (12, true) :: (13, true) :: (14, true) :: (15, true) :: []) (by as_aux_lemma => kernel_rfl) (by rfl) (zM (k := 4) (by go_simp; rfl) (zM (k := 1) (by go_simp; rfl) (zM (k := 6) (by go_simp; rfl) yg))) ?_ (fun _ _ _ _ _ h => h) (fun Q2 A hsz hbase hn2 AA => ?_)
  ·exact HQ6.out.cells
  try dsimp only at AA
  obtain ⟨b4, b1, b6, -⟩ := hbase
  refine oT 0 60 ?_ rfl rfl (zA rfl) AA (fun ρ AB w hSw => ?_) ?_
  rotate_left
  ·(have e4 := tm AB hsz 4 rfl (zJ b4); clear AB; (try dsimp only at hSw); go_simp; try with_reducible rfl)
  refine oM 1 61 ?_ rfl rfl rfl (zA rfl) AA (fun ρ AB => ?_) ?_
  rotate_left
  ·(have e1 := tm AB hsz 1 rfl (zD rfl (zJ b1)); exact e1)
  refine oM 2 62 ?_ rfl rfl rfl (zA rfl) AA (fun ρ AB => ?_) ?_
  rotate_left
  ·(have e1 := tm AB hsz 1 rfl (zD rfl (zD rfl (zJ b1))); exact e1)
  refine oT 3 63 ?_ rfl rfl (zA rfl) AA (fun ρ AB w hSw => ?_) ?_
  rotate_left
  ·(have e6 := tm AB hsz 6 rfl (zD rfl (zD rfl (zD rfl (zJ b6)))); clear AB; (try dsimp only at hSw); go_simp; try with_reducible rfl)
  refine oT 4 64 ?_ rfl rfl (zA rfl) AA (fun ρ AB w hSw => ?_) ?_
  rotate_left
  ·(have e63 := tm AB hsz 63 rfl zB; clear AB; (try dsimp only at hSw); go_simp; try with_reducible rfl)
  refine oT 5 65 ?_ rfl rfl (zA rfl) AA (fun ρ AB w hSw => ?_) ?_
  rotate_left
  ·(have e6 := tm AB hsz 6 rfl (zH rfl rfl rfl rfl (zD rfl (zJ b6))); clear AB; (try dsimp only at hSw); go_simp; try with_reducible rfl)
  refine oT 6 66 ?_ rfl rfl (zA rfl) AA (fun ρ AB w hSw => ?_) ?_
  rotate_left
  ·(have e65 := tm AB hsz 65 rfl zB; clear AB; (try dsimp only at hSw); go_simp; try with_reducible rfl)
  refine yB (i := 7) (d := 67) (vs := ?_) rfl rfl rfl (zA rfl) (fun ρ AB => ?_) ?_ ?_
  rotate_left
  ·(have e62 := tm AB hsz 62 rfl (zH rfl rfl rfl rfl zB); have e64 := tm AB hsz 64 rfl (zD rfl (zD rfl zB)); have e66 := tm AB hsz 66 rfl zB; simp only [List.map_toArray, List.map_cons, List.map_nil, e62, e64, e66]; try with_reducible rfl)
  ·(intro w; go_simp)
  refine (ul (some ⟨bs, of2, none⟩) n c Bs s d 2 w5.drew (HS.out.below HQ6.out.bl.drew hBs) (Nat.le_trans hBs HQ6.out.bl.size) (by omega)).mono ?_
  rintro e u1 ⟨At, ct, rfl, hOt, hbt⟩
  have HU1 := iD ((show HzQ _ _ _ _ _ _ _ _ _ _ w5.drew from ⟨HQ6.out.bl.drew, HQ6.out.bn, HQ6.out.bo, HQ6.out.bg, HQ6.out.bv, HQ6.out.b1, HQ6.out.b2⟩).later hbt.out)
  have HOT := iD hOt.out.sl
  clear hOt hbt
  refine ⟨_, rfl, fun _ => ?_, fun AA' => ?_⟩
  ·exact HU1.out.cells
  replace AA := AA' rfl
  clear AA'
  try dsimp only at AA
  refine yB (i := 8) (d := 68) (vs := ?_) rfl rfl rfl (zA rfl) (fun ρ AB => ?_) ?_ ?_
  rotate_left
  ·(have e60 := tm AB hsz 60 rfl (zH rfl rfl rfl rfl (zD rfl (zD rfl (zD rfl zB)))); have e61 := tm AB hsz 61 rfl (zH rfl rfl rfl rfl (zD rfl (zD rfl zB))); have e67 := tm AB hsz 67 rfl zB; simp only [List.map_toArray, List.map_cons, List.map_nil, e60, e61, e67]; try with_reducible rfl)
  ·(intro w; go_simp)
  refine (mN An (some ⟨b0, off, none⟩) (some ⟨bs, of2, none⟩) At nn cn nd cd n c (zZ s d 2).length ct Bn Bd Bs u1.heap.size ns ds s (zZ s d 2) u1 (HL.out.below HU1.out.bl lR) (HN.out.below HU1.out.bl hBn) (Nat.le_trans hBn HU1.out.bl.size) (HD.out.below HU1.out.bl hBd) (Nat.le_trans hBd HU1.out.bl.size) (HS.out.below HU1.out.bl hBs) (Nat.le_trans hBs HU1.out.bl.size) HOT.out lR HSN.out HSD.out HST.out HS2E.out hnn (by omega) hnd (by rw [yq, HLN.out]; exact hnd) HE.out HA.out).mono ?_
  rintro e u2 ⟨Ao, mo, co3, lo, ko, rfl, hLO1, hLO2, hLO3, hb⟩
  have HU2 := iD (HU1.out.later hb.out)
  have HLO := iD (tC hLO2.out hLO1.out)
  have hmo := hLO3.out.sl.le
  clear hb hLO1 hLO2 hLO3
  refine ⟨_, rfl, fun _ => ?_, fun AA' => ?_⟩
  ·exact HU2.out.cells
  replace AA := AA' rfl
  clear AA'
  try dsimp only at AA
  refine oM 9 59 ?_ rfl rfl rfl (zA rfl) AA (fun ρ AB => ?_) ?_
  rotate_left
  ·(have e68 := tm AB hsz 68 rfl zB; exact e68)
  refine oT 10 69 ?_ rfl rfl (zA rfl) AA (fun ρ AB w hSw => ?_) ?_
  rotate_left
  ·(have e59 := tm AB hsz 59 rfl zB; clear AB; (try dsimp only at hSw); go_simp; try with_reducible rfl)
  refine oT 11 70 ?_ rfl rfl (zA rfl) AA (fun ρ AB w hSw => ?_) ?_
  rotate_left
  ·(have e59 := tm AB hsz 59 rfl (zD rfl zB); clear AB; (try dsimp only at hSw); go_simp; try with_reducible rfl)
  refine oT 12 71 ?_ rfl rfl (zA rfl) AA (fun ρ AB w hSw => ?_) ?_
  rotate_left
  ·(have e59 := tm AB hsz 59 rfl (zD rfl (zD rfl zB)); clear AB; (try dsimp only at hSw); go_simp; try with_reducible rfl)
  refine oT 13 15 ?_ rfl rfl (zA rfl) AA (fun ρ AB w hSw => ?_) ?_
  rotate_left
  ·(have e69 := tm AB hsz 69 rfl (zD rfl (zD rfl zB)); clear AB; (try dsimp only at hSw); go_simp; try with_reducible rfl)
  refine oT 14 16 ?_ rfl rfl (zA rfl) AA (fun ρ AB w hSw => ?_) ?_
  rotate_left
  ·(have e70 := tm AB hsz 70 rfl (zD rfl (zD rfl zB)); clear AB; (try dsimp only at hSw); go_simp; try with_reducible rfl)
  refine oT 15 17 ?_ rfl rfl (zA rfl) AA (fun ρ AB w hSw => ?_) ?_
  rotate_left
  ·(have e71 := tm AB hsz 71 rfl (zD rfl (zD rfl zB)); clear AB; (try dsimp only at hSw); go_simp; try with_reducible rfl)
  refine ye hn2 ?_
  clear AA hn2 b4 b1 b6 hsz A Q2
  simp only [yd, yJ, xJ, vD, vE]
  go_upto_region 9 with (fail)
  by_cases hk : kd = 4
  ·subst hk
   refine zk (S := fun W' => ((W'.cell? ⟨w.heap.size, 0, none⟩ = some (.slice An nn cn) ∧ W'.cell? ⟨w.heap.size, 1, none⟩ = some (.slice (some ⟨b0, off, none⟩) nd cd)) ∧ W'.cell? ⟨w.heap.size + 1, 0, none⟩ = some (.int .i64 d) ∧ W'.cell? ⟨w.heap.size + 1, 1, none⟩ = some (.int .i64 2)) ∧ (W'.cell? ⟨vb, 1, none⟩ = some (.int .i64 4) ∧ W'.cell? ⟨vb, 2, none⟩ = some (.int .i64 a)) ∧ W'.cell? ⟨w.heap.size + 2, 2, none⟩ = some (.slice Ap np cp) ∧ (W'.cell? ⟨b1, 0, none⟩ = some (.int .i64 4) ∧ W'.cell? ⟨b1, 1, none⟩ = some (.bool t1)) ∧ W'.cell? ⟨b1 + 1, 0, none⟩ = some (.int .i64 6) ∧ W'.cell? ⟨b1 + 1, 1, none⟩ = some (.bool t2)) (J := []) (n := _) ((0, true) :: (1, true) :: (2, true) :: (3, true) :: (4, true) :: (5, true) :: (6, true) :: (7, true) :: (8, true) :: (9, true) :: (10, true) :: (11, true) :: (12, true) :: (13, true) :: (16, true) :: (17, true) :: (18, true) :: (19, true) :: (20, true) :: (14, false) :: (15, true) :: (21, true) :: (22, true) :: (23, true) :: (24, true) :: (25, true) :: (26, true) :: (27, true) :: (28, true) :: (29, true) :: (30, true) :: (31, false) :: (32, true) :: (33, true) :: (34, true) :: (35, false) :: (36, false) :: (37, true) :: []) (by as_aux_lemma => kernel_rfl) (by rfl) (zM (k := 10) (by go_simp; rfl) (zM (k := 11) (by go_simp; rfl) (zM (k := 14) (by go_simp; rfl) (zM (k := 12) (by go_simp; rfl) (zM (k := 4) (by go_simp; rfl) (zM (k := 1) (by go_simp; rfl) (zM (k := 6) (by go_simp; rfl) (zM (k := 9) (by go_simp; rfl) (zM (k := 15) (by go_simp; rfl) (zM (k := 7) (by go_simp; rfl) yg)))))))))) ?_ (fun _ _ _ _ _ h => h) (fun Q2 A hsz hbase hn2 AA => ?_)
   ·exact HU2.out.cells
   try dsimp only at AA
   obtain ⟨b10, b11, b14, b12, b4, b1, b6, b9, b15, b7, -⟩ := hbase
   refine oT 0 72 ?_ rfl rfl (zA rfl) AA (fun ρ AB w hSw => ?_) ?_
   rotate_left
   ·(have e10 := tm AB hsz 10 rfl (zJ b10); clear AB; (try dsimp only at hSw); go_simp; try with_reducible rfl)
   refine oT 1 73 ?_ rfl rfl (zA rfl) AA (fun ρ AB w hSw => ?_) ?_
   rotate_left
   ·(have e11 := tm AB hsz 11 rfl (zD rfl (zJ b11)); clear AB; (try dsimp only at hSw); go_simp; try with_reducible rfl)
   refine oM 2 74 ?_ rfl rfl rfl (zA rfl) AA (fun ρ AB => ?_) ?_
   rotate_left
   ·(have e14 := tm AB hsz 14 rfl (zD rfl (zD rfl (zJ b14))); exact e14)
   refine oM 3 75 ?_ rfl rfl rfl (zA rfl) AA (fun ρ AB => ?_) ?_
   rotate_left
   ·(have e74 := tm AB hsz 74 rfl zB; exact e74)
   refine oM 4 76 ?_ rfl rfl rfl (wY 3 75 true rfl hsz rfl rfl rfl zB) AA (fun ρ AB => ?_) ?_
   rotate_left
   ·(have e12 := tm AB hsz 12 rfl (zH rfl rfl rfl rfl (zJ b12)); exact e12)
   refine oT 5 77 ?_ rfl rfl (wY 3 75 true rfl hsz rfl rfl rfl (zD rfl zB)) AA (fun ρ AB w hSw => ?_) ?_
   rotate_left
   ·(have hc := AB.const; have e76 := tm AB hsz 76 rfl zB; clear AB; (try dsimp only at hSw); go_simp; try with_reducible rfl)
   refine oT 6 78 ?_ rfl rfl (zA rfl) AA (fun ρ AB w hSw => ?_) ?_
   rotate_left
   ·(have hc := AB.const; have e75 := tm AB hsz 75 rfl (zD rfl (zD rfl zB)); have e77 := tm AB hsz 77 rfl zB; clear AB; (try dsimp only at hSw); go_simp; try with_reducible rfl)
   refine oT 7 79 ?_ rfl rfl (zA rfl) AA (fun ρ AB w hSw => ?_) ?_
   rotate_left
   ·(have hc := AB.const; have e78 := tm AB hsz 78 rfl zB; clear AB; (try dsimp only at hSw); go_simp; try with_reducible rfl)
   refine oT 8 80 ?_ rfl rfl (zA rfl) AA (fun ρ AB w hSw => ?_) ?_
   rotate_left
   ·(have e4 := tm AB hsz 4 rfl (zH rfl rfl rfl rfl (zH rfl rfl rfl rfl (zJ b4))); clear AB; (try dsimp only at hSw); go_simp; try with_reducible rfl)
   refine oM 9 81 ?_ rfl rfl rfl (zA rfl) AA (fun ρ AB => ?_) ?_
   rotate_left
   ·(have e1 := tm AB hsz 1 rfl (zH rfl rfl rfl rfl (zH rfl rfl rfl rfl (zD rfl (zJ b1)))); exact e1)
   refine oT 10 82 ?_ rfl rfl (zA rfl) AA (fun ρ AB w hSw => ?_) ?_
   rotate_left
   ·(have e6 := tm AB hsz 6 rfl (zH rfl rfl rfl rfl (zH rfl rfl rfl rfl (zD rfl (zD rfl (zJ b6))))); clear AB; (try dsimp only at hSw); go_simp; try with_reducible rfl)
   refine oT 11 83 ?_ rfl rfl (zA rfl) AA (fun ρ AB w hSw => ?_) ?_
   rotate_left
   ·(have e9 := tm AB hsz 9 rfl (zH rfl rfl rfl rfl (zH rfl rfl rfl rfl (zD rfl (zD rfl (zD rfl (zJ b9)))))); clear AB; (try dsimp only at hSw); go_simp; try with_reducible rfl)
   refine oT 12 84 ?_ rfl rfl (zA rfl) AA (fun ρ AB w hSw => ?_) ?_
   rotate_left
   ·(have e83 := tm AB hsz 83 rfl zB; clear AB; (try dsimp only at hSw); go_simp; try with_reducible rfl)
   refine oM 13 85 ?_ rfl rfl rfl (zA rfl) AA (fun ρ AB => ?_) ?_
   rotate_left
   ·(have e12 := tm AB hsz 12 rfl (zH rfl rfl rfl rfl (zH rfl rfl rfl rfl (zH rfl rfl rfl rfl (zD rfl (zJ b12))))); exact e12)
   refine oM 16 88 ?_ rfl rfl rfl (zA rfl) AA (fun ρ AB => ?_) ?_
   rotate_left
   ·(have e15 := tm AB hsz 15 rfl (zH rfl rfl rfl rfl (zH rfl rfl rfl rfl (zH rfl rfl rfl rfl (zD rfl (zD rfl (zJ b15)))))); exact e15)
   refine oT 17 89 ?_ rfl rfl (zA rfl) AA (fun ρ AB w hSw => ?_) ?_
   rotate_left
   ·(have e88 := tm AB hsz 88 rfl zB; clear AB; (try dsimp only at hSw); go_simp; try with_reducible rfl)
   refine oT 18 90 ?_ rfl rfl (zA rfl) AA (fun ρ AB w hSw => ?_) ?_
   rotate_left
   ·(have hc := AB.const; have e89 := tm AB hsz 89 rfl zB; clear AB; (try dsimp only at hSw); go_simp; try with_reducible rfl)
   refine oT 19 91 ?_ rfl rfl (zA rfl) AA (fun ρ AB w hSw => ?_) ?_
   rotate_left
   ·(have hc := AB.const; have e90 := tm AB hsz 90 rfl zB; clear AB; (try dsimp only at hSw); go_simp; try with_reducible rfl)
   refine oM 20 92 ?_ rfl rfl rfl (zA rfl) AA (fun ρ AB => ?_) ?_
   rotate_left
   ·(have e14 := tm AB hsz 14 rfl (zH rfl rfl rfl rfl (zH rfl rfl rfl rfl (zH rfl rfl rfl rfl (zH rfl rfl rfl rfl (zD rfl (zD rfl (zJ b14))))))); exact e14)
   refine yB (i := 14) (d := 86) (vs := ?_) rfl rfl rfl (zA rfl) (fun ρ AB => ?_) ?_ ?_
   rotate_left
   ·(have e80 := tm AB hsz 80 rfl (zH rfl rfl rfl rfl (zH rfl rfl rfl rfl (zD rfl (zD rfl zB)))); have e81 := tm AB hsz 81 rfl (zH rfl rfl rfl rfl (zH rfl rfl rfl rfl (zD rfl zB))); have e82 := tm AB hsz 82 rfl (zH rfl rfl rfl rfl (zH rfl rfl rfl rfl zB)); have e84 := tm AB hsz 84 rfl (zH rfl rfl rfl rfl (zD rfl (zD rfl zB))); have e85 := tm AB hsz 85 rfl (zH rfl rfl rfl rfl (zD rfl zB)); simp only [List.map_toArray, List.map_cons, List.map_nil, e80, e81, e82, e84, e85]; try with_reducible rfl)
   ·(intro w; go_simp)
   refine (pE An (some ⟨b0, off, none⟩) (some ⟨bs, of2, none⟩) nn cn nd cd n c Bd Bs d 2 du 4 ds s ⟨nm, 4, a, b, co2⟩ u2.drew (HD.out.below HU2.out.bl.drew hBd) (Nat.le_trans hBd HU2.out.bl.size) (HS.out.below HU2.out.bl.drew hBs) (Nat.le_trans hBs HU2.out.bl.size) hnn (by omega) hnd HE.out HA.out hi HX.out rfl hk6).mono ?_
   rintro e u3 ⟨rfl, hb⟩
   have HU3 := iD ((show HzQ _ _ _ _ _ _ _ _ _ _ u2.drew from ⟨HU2.out.bl.drew, HU2.out.bn, HU2.out.bo, HU2.out.bg, HU2.out.bv, HU2.out.b1, HU2.out.b2⟩).later hb)
   clear hb
   refine ⟨_, rfl, fun _ => ?_, fun AA' => ?_⟩
   ·exact HU3.out.cells
   replace AA := AA' rfl
   clear AA'
   try dsimp only at AA
   refine oT 15 87 ?_ rfl rfl (zA rfl) AA (fun ρ AB w hSw => ?_) ?_
   rotate_left
   ·(have hc := AB.const; have e86 := tm AB hsz 86 rfl zB; clear AB; (try dsimp only at hSw); go_simp; try with_reducible rfl)
   refine oM 21 93 ?_ rfl rfl rfl (zA rfl) AA (fun ρ AB => ?_) ?_
   rotate_left
   ·(have e92 := tm AB hsz 92 rfl (zD rfl (zD rfl zB)); exact e92)
   refine oT 22 94 ?_ rfl rfl (wY 21 93 true rfl hsz rfl rfl rfl zB) AA (fun ρ AB w hSw => ?_) ?_
   rotate_left
   ·(have e9 := tm AB hsz 9 rfl (zH rfl rfl rfl rfl (zH rfl rfl rfl rfl (zH rfl rfl rfl rfl (zH rfl rfl rfl rfl (zH rfl rfl rfl rfl (zD rfl (zD rfl (zJ b9)))))))); clear AB; (try dsimp only at hSw); go_simp; try with_reducible rfl)
   refine oT 23 95 ?_ rfl rfl (wY 21 93 true rfl hsz rfl rfl rfl (zD rfl zB)) AA (fun ρ AB w hSw => ?_) ?_
   rotate_left
   ·(have e94 := tm AB hsz 94 rfl zB; clear AB; (try dsimp only at hSw); go_simp; try with_reducible rfl)
   refine oT 24 96 ?_ rfl rfl (wY 21 93 true rfl hsz rfl rfl rfl (zD rfl (zD rfl zB))) AA (fun ρ AB w hSw => ?_) ?_
   rotate_left
   ·(have hc := AB.const; have e95 := tm AB hsz 95 rfl zB; clear AB; (try dsimp only at hSw); go_simp; try with_reducible rfl)
   refine oT 25 97 ?_ rfl rfl (zA rfl) AA (fun ρ AB w hSw => ?_) ?_
   rotate_left
   ·(have hc := AB.const; have e93 := tm AB hsz 93 rfl (zD rfl (zD rfl (zD rfl zB))); have e96 := tm AB hsz 96 rfl zB; clear AB; (try dsimp only at hSw); go_simp; try with_reducible rfl)
   refine oM 26 98 ?_ rfl rfl rfl (zA rfl) AA (fun ρ AB => ?_) ?_
   rotate_left
   ·(have e97 := tm AB hsz 97 rfl zB; exact e97)
   refine oT 27 99 ?_ rfl rfl (wY 26 98 true rfl hsz rfl rfl rfl zB) AA (fun ρ AB w hSw => ?_) ?_
   rotate_left
   ·(have e7 := tm AB hsz 7 rfl (zH rfl rfl rfl rfl (zH rfl rfl rfl rfl (zH rfl rfl rfl rfl (zH rfl rfl rfl rfl (zH rfl rfl rfl rfl (zH rfl rfl rfl rfl (zD rfl (zD rfl (zD rfl (zJ b7)))))))))); clear AB; (try dsimp only at hSw); go_simp; try with_reducible rfl)
   refine oT 28 100 ?_ rfl rfl (wY 26 98 true rfl hsz rfl rfl rfl (zD rfl zB)) AA (fun ρ AB w hSw => ?_) ?_
   rotate_left
   ·(have e99 := tm AB hsz 99 rfl zB; clear AB; (try dsimp only at hSw); go_simp; try with_reducible rfl)
   refine oT 29 101 ?_ rfl rfl (wY 26 98 true rfl hsz rfl rfl rfl (zD rfl (zD rfl zB))) AA (fun ρ AB w hSw => ?_) ?_
   rotate_left
   ·(have e9 := tm AB hsz 9 rfl (zH rfl rfl rfl rfl (zH rfl rfl rfl rfl (zH rfl rfl rfl rfl (zH rfl rfl rfl rfl (zH rfl rfl rfl rfl (zH rfl rfl rfl rfl (zH rfl rfl rfl rfl (zD rfl (zJ b9))))))))); clear AB; (try dsimp only at hSw); go_simp; try with_reducible rfl)
   refine oT 30 102 ?_ rfl rfl (wY 26 98 true rfl hsz rfl rfl rfl (zD rfl (zD rfl (zD rfl zB)))) AA (fun ρ AB w hSw => ?_) ?_
   rotate_left
   ·(have e101 := tm AB hsz 101 rfl zB; clear AB; (try dsimp only at hSw); go_simp; try with_reducible rfl)
   refine yB (i := 31) (d := 103) (vs := ?_) rfl rfl rfl (wY 26 98 true rfl hsz rfl rfl rfl (zH rfl rfl rfl rfl zB)) (fun ρ AB => ?_) ?_ ?_
   rotate_left
   ·(have e100 := tm AB hsz 100 rfl (zD rfl (zD rfl zB)); have e102 := tm AB hsz 102 rfl zB; simp only [List.map_toArray, List.map_cons, List.map_nil, e100, e102]; try with_reducible rfl)
   ·(intro w; go_simp)
   refine (vU Ap np cp Bp pr a u3 (HPR.out.below HU3.out.bl hBp)).mono ?_
   rintro e u4 ⟨rfl, rfl⟩
   refine ⟨_, rfl, fun _ => ?_, fun AA' => ?_⟩
   ·exact HU3.out.cells
   replace AA := AA' rfl
   clear AA'
   try dsimp only at AA
   refine oT 32 104 ?_ rfl rfl (wY 26 98 true rfl hsz rfl rfl rfl (zH rfl rfl rfl rfl (zD rfl zB))) AA (fun ρ AB w hSw => ?_) ?_
   rotate_left
   ·(have e103 := tm AB hsz 103 rfl zB; clear AB; (try dsimp only at hSw); go_simp; try with_reducible rfl)
   refine oT 33 105 ?_ rfl rfl (zA rfl) AA (fun ρ AB w hSw => ?_) ?_
   rotate_left
   ·(have hc := AB.const; have e98 := tm AB hsz 98 rfl (zH rfl rfl rfl rfl (zD rfl (zD rfl zB))); have e104 := tm AB hsz 104 rfl zB; clear AB; (try dsimp only at hSw); go_simp; try with_reducible rfl)
   refine oT 34 106 ?_ rfl rfl (zA rfl) AA (fun ρ AB w hSw => ?_) ?_
   rotate_left
   ·(have hc := AB.const; have e105 := tm AB hsz 105 rfl zB; clear AB; (try dsimp only at hSw); go_simp; try with_reducible rfl)
   refine qj (i := 35) (d := 107) (v := ?_) (w' := ?_) rfl rfl (zA rfl) (fun ρ AB => ?_) ?_ ?_
   rotate_left 2
   ·(have e72 := tm AB hsz 72 rfl (zH rfl rfl rfl rfl (zH rfl rfl rfl rfl (zH rfl rfl rfl rfl (zH rfl rfl rfl rfl (zH rfl rfl rfl rfl (zH rfl rfl rfl rfl (zH rfl rfl rfl rfl (zH rfl rfl rfl rfl (zD rfl (zD rfl zB)))))))))); have e73 := tm AB hsz 73 rfl (zH rfl rfl rfl rfl (zH rfl rfl rfl rfl (zH rfl rfl rfl rfl (zH rfl rfl rfl rfl (zH rfl rfl rfl rfl (zH rfl rfl rfl rfl (zH rfl rfl rfl rfl (zH rfl rfl rfl rfl (zD rfl zB))))))))); have e79 := tm AB hsz 79 rfl (zH rfl rfl rfl rfl (zH rfl rfl rfl rfl (zH rfl rfl rfl rfl (zH rfl rfl rfl rfl (zH rfl rfl rfl rfl (zH rfl rfl rfl rfl (zD rfl (zD rfl (zD rfl zB))))))))); have e87 := tm AB hsz 87 rfl (zH rfl rfl rfl rfl (zH rfl rfl rfl rfl (zH rfl rfl rfl rfl (zD rfl (zD rfl zB))))); have e91 := tm AB hsz 91 rfl (zH rfl rfl rfl rfl (zH rfl rfl rfl rfl (zH rfl rfl rfl rfl (zH rfl rfl rfl rfl (zD rfl zB))))); have e106 := tm AB hsz 106 rfl zB; clear AB; go_simp; first | with_reducible rfl | (constructor <;> with_reducible rfl))
   ·refine fun _ => ?_
    exact (HU3.out.later ((Below.refl _ _).alloc lR _)).cells
   intro AA'
   replace AA := AA' rfl
   clear AA'
   try dsimp only at AA
   refine yB (i := 36) (d := 108) (vs := ?_) rfl rfl rfl (zA rfl) (fun ρ AB => ?_) ?_ ?_
   rotate_left
   ·(have e107 := tm AB hsz 107 rfl zB; simp only [List.map_toArray, List.map_cons, List.map_nil, e107]; try with_reducible rfl)
   ·(intro w; go_simp)
   refine (tE _ 6 6 (u3.heap.size + 1) [(4, t1), (6, t2), (1, du == 4), (2, yS 4 2 du (lvE (zY nn ds s) ⟨nm, 4, a, b, co2⟩)), (3, decide (0 < mo)), (5, !wl pr a)] _ (Sl.newest rfl (by rfl) (by decide)) (by simp) (by decide)).mono ?_
   rintro e u5 ⟨A5, c5, rfl, hO5, hb5⟩
   have HU5 := iD ((HU3.out.later ((Below.refl _ _).alloc lR _)).later hb5.out)
   have HO5 := iD (hO5.out.mono (base' := w.heap.size) (by have := HU3.out.bl.size; simp; omega))
   clear hO5 hb5
   refine ⟨_, rfl, fun _ => ?_, fun AA' => ?_⟩
   ·exact HU5.out.cells
   replace AA := AA' rfl
   clear AA'
   try dsimp only at AA
   refine oT 37 8 ?_ rfl rfl (zA rfl) AA (fun ρ AB w hSw => ?_) ?_
   rotate_left
   ·(have e108 := tm AB hsz 108 rfl zB; clear AB; (try dsimp only at hSw); go_simp; try with_reducible rfl)
   refine ye hn2 ?_
   clear AA hn2 b10 b11 b14 b12 b4 b1 b6 b9 b15 b7 hsz A Q2
   simp only [yd, yJ, xJ, vD, vE]
   go_wp2_with fail
   go_ret
   rw [HRR.out, ← HLO.out]
   exact ⟨A5, c5, rfl, HO5, HU5.out.bl⟩
  ·have qk : (kd == 4) = false := by simpa using hk
   have hr3 := HRR.out
   rw [show decide (kd = 4) = false from by simp [hk]] at hr3
   clear HRR
   have HRR := iD hr3
   clear hr3
   refine zk (S := fun W' => ((W'.cell? ⟨w.heap.size, 0, none⟩ = some (.slice An nn cn) ∧ W'.cell? ⟨w.heap.size, 1, none⟩ = some (.slice (some ⟨b0, off, none⟩) nd cd)) ∧ W'.cell? ⟨w.heap.size + 1, 0, none⟩ = some (.int .i64 d) ∧ W'.cell? ⟨w.heap.size + 1, 1, none⟩ = some (.int .i64 2)) ∧ (W'.cell? ⟨vb, 1, none⟩ = some (.int .i64 kd) ∧ W'.cell? ⟨vb, 2, none⟩ = some (.int .i64 a)) ∧ W'.cell? ⟨w.heap.size + 2, 2, none⟩ = some (.slice Ap np cp) ∧ (W'.cell? ⟨b1, 0, none⟩ = some (.int .i64 4) ∧ W'.cell? ⟨b1, 1, none⟩ = some (.bool t1)) ∧ W'.cell? ⟨b1 + 1, 0, none⟩ = some (.int .i64 6) ∧ W'.cell? ⟨b1 + 1, 1, none⟩ = some (.bool t2)) (J := []) (n := _) ((0, true) :: (1, true) :: (2, true) :: (3, true) :: (4, true) :: (5, true) :: (6, true) :: (7, true) :: (8, true) :: (9, true) :: (10, true) :: (11, true) :: (12, true) :: (13, true) :: (16, true) :: (17, true) :: (18, true) :: (19, true) :: (20, true) :: (14, false) :: (15, true) :: (21, true) :: (22, true) :: (23, true) :: (24, true) :: (25, true) :: (26, true) :: (27, true) :: (28, true) :: (29, true) :: (30, true) :: (31, true) :: (32, true) :: (33, true) :: (34, true) :: (35, false) :: (36, false) :: (37, true) :: []) (by as_aux_lemma => kernel_rfl) (by rfl) (zM (k := 10) (by go_simp; rfl) (zM (k := 11) (by go_simp; rfl) (zM (k := 14) (by go_simp; rfl) (zM (k := 12) (by go_simp; rfl) (zM (k := 4) (by go_simp; rfl) (zM (k := 1) (by go_simp; rfl) (zM (k := 6) (by go_simp; rfl) (zM (k := 9) (by go_simp; rfl) (zM (k := 15) (by go_simp; rfl) yg))))))))) ?_ (fun _ _ _ _ _ h => h) (fun Q2 A hsz hbase hn2 AA => ?_)
   ·exact HU2.out.cells
   try dsimp only at AA
   obtain ⟨b10, b11, b14, b12, b4, b1, b6, b9, b15, -⟩ := hbase
   refine oT 0 72 ?_ rfl rfl (zA rfl) AA (fun ρ AB w hSw => ?_) ?_
   rotate_left
   ·(have e10 := tm AB hsz 10 rfl (zJ b10); clear AB; (try dsimp only at hSw); go_simp; try with_reducible rfl)
   refine oT 1 73 ?_ rfl rfl (zA rfl) AA (fun ρ AB w hSw => ?_) ?_
   rotate_left
   ·(have e11 := tm AB hsz 11 rfl (zD rfl (zJ b11)); clear AB; (try dsimp only at hSw); go_simp; try with_reducible rfl)
   refine oM 2 74 ?_ rfl rfl rfl (zA rfl) AA (fun ρ AB => ?_) ?_
   rotate_left
   ·(have e14 := tm AB hsz 14 rfl (zD rfl (zD rfl (zJ b14))); exact e14)
   refine oM 3 75 ?_ rfl rfl rfl (zA rfl) AA (fun ρ AB => ?_) ?_
   rotate_left
   ·(have e74 := tm AB hsz 74 rfl zB; exact e74)
   refine oM 4 76 ?_ rfl rfl rfl (wY 3 75 true rfl hsz rfl rfl rfl zB) AA (fun ρ AB => ?_) ?_
   rotate_left
   ·(have e12 := tm AB hsz 12 rfl (zH rfl rfl rfl rfl (zJ b12)); exact e12)
   refine oT 5 77 ?_ rfl rfl (wY 3 75 true rfl hsz rfl rfl rfl (zD rfl zB)) AA (fun ρ AB w hSw => ?_) ?_
   rotate_left
   ·(have hc := AB.const; have e76 := tm AB hsz 76 rfl zB; clear AB; (try dsimp only at hSw); go_simp; try with_reducible rfl)
   refine oT 6 78 ?_ rfl rfl (zA rfl) AA (fun ρ AB w hSw => ?_) ?_
   rotate_left
   ·(have hc := AB.const; have e75 := tm AB hsz 75 rfl (zD rfl (zD rfl zB)); have e77 := tm AB hsz 77 rfl zB; clear AB; (try dsimp only at hSw); go_simp; try with_reducible rfl)
   refine oT 7 79 ?_ rfl rfl (zA rfl) AA (fun ρ AB w hSw => ?_) ?_
   rotate_left
   ·(have hc := AB.const; have e78 := tm AB hsz 78 rfl zB; clear AB; (try dsimp only at hSw); go_simp; try with_reducible rfl)
   refine oT 8 80 ?_ rfl rfl (zA rfl) AA (fun ρ AB w hSw => ?_) ?_
   rotate_left
   ·(have e4 := tm AB hsz 4 rfl (zH rfl rfl rfl rfl (zH rfl rfl rfl rfl (zJ b4))); clear AB; (try dsimp only at hSw); go_simp; try with_reducible rfl)
   refine oM 9 81 ?_ rfl rfl rfl (zA rfl) AA (fun ρ AB => ?_) ?_
   rotate_left
   ·(have e1 := tm AB hsz 1 rfl (zH rfl rfl rfl rfl (zH rfl rfl rfl rfl (zD rfl (zJ b1)))); exact e1)
   refine oT 10 82 ?_ rfl rfl (zA rfl) AA (fun ρ AB w hSw => ?_) ?_
   rotate_left
   ·(have e6 := tm AB hsz 6 rfl (zH rfl rfl rfl rfl (zH rfl rfl rfl rfl (zD rfl (zD rfl (zJ b6))))); clear AB; (try dsimp only at hSw); go_simp; try with_reducible rfl)
   refine oT 11 83 ?_ rfl rfl (zA rfl) AA (fun ρ AB w hSw => ?_) ?_
   rotate_left
   ·(have e9 := tm AB hsz 9 rfl (zH rfl rfl rfl rfl (zH rfl rfl rfl rfl (zD rfl (zD rfl (zD rfl (zJ b9)))))); clear AB; (try dsimp only at hSw); go_simp; try with_reducible rfl)
   refine oT 12 84 ?_ rfl rfl (zA rfl) AA (fun ρ AB w hSw => ?_) ?_
   rotate_left
   ·(have e83 := tm AB hsz 83 rfl zB; clear AB; (try dsimp only at hSw); go_simp; try with_reducible rfl)
   refine oM 13 85 ?_ rfl rfl rfl (zA rfl) AA (fun ρ AB => ?_) ?_
   rotate_left
   ·(have e12 := tm AB hsz 12 rfl (zH rfl rfl rfl rfl (zH rfl rfl rfl rfl (zH rfl rfl rfl rfl (zD rfl (zJ b12))))); exact e12)
   refine oM 16 88 ?_ rfl rfl rfl (zA rfl) AA (fun ρ AB => ?_) ?_
   rotate_left
   ·(have e15 := tm AB hsz 15 rfl (zH rfl rfl rfl rfl (zH rfl rfl rfl rfl (zH rfl rfl rfl rfl (zD rfl (zD rfl (zJ b15)))))); exact e15)
   refine oT 17 89 ?_ rfl rfl (zA rfl) AA (fun ρ AB w hSw => ?_) ?_
   rotate_left
   ·(have e88 := tm AB hsz 88 rfl zB; clear AB; (try dsimp only at hSw); go_simp; try with_reducible rfl)
   refine oT 18 90 ?_ rfl rfl (zA rfl) AA (fun ρ AB w hSw => ?_) ?_
   rotate_left
   ·(have hc := AB.const; have e89 := tm AB hsz 89 rfl zB; clear AB; (try dsimp only at hSw); go_simp; try with_reducible rfl)
   refine oT 19 91 ?_ rfl rfl (zA rfl) AA (fun ρ AB w hSw => ?_) ?_
   rotate_left
   ·(have hc := AB.const; have e90 := tm AB hsz 90 rfl zB; clear AB; (try dsimp only at hSw); go_simp; try with_reducible rfl)
   refine oM 20 92 ?_ rfl rfl rfl (zA rfl) AA (fun ρ AB => ?_) ?_
   rotate_left
   ·(have e14 := tm AB hsz 14 rfl (zH rfl rfl rfl rfl (zH rfl rfl rfl rfl (zH rfl rfl rfl rfl (zH rfl rfl rfl rfl (zD rfl (zD rfl (zJ b14))))))); exact e14)
   refine yB (i := 14) (d := 86) (vs := ?_) rfl rfl rfl (zA rfl) (fun ρ AB => ?_) ?_ ?_
   rotate_left
   ·(have e80 := tm AB hsz 80 rfl (zH rfl rfl rfl rfl (zH rfl rfl rfl rfl (zD rfl (zD rfl zB)))); have e81 := tm AB hsz 81 rfl (zH rfl rfl rfl rfl (zH rfl rfl rfl rfl (zD rfl zB))); have e82 := tm AB hsz 82 rfl (zH rfl rfl rfl rfl (zH rfl rfl rfl rfl zB)); have e84 := tm AB hsz 84 rfl (zH rfl rfl rfl rfl (zD rfl (zD rfl zB))); have e85 := tm AB hsz 85 rfl (zH rfl rfl rfl rfl (zD rfl zB)); simp only [List.map_toArray, List.map_cons, List.map_nil, e80, e81, e82, e84, e85]; try with_reducible rfl)
   ·(intro w; go_simp)
   refine (pE An (some ⟨b0, off, none⟩) (some ⟨bs, of2, none⟩) nn cn nd cd n c Bd Bs d 2 du kd ds s ⟨nm, kd, a, b, co2⟩ u2.drew (HD.out.below HU2.out.bl.drew hBd) (Nat.le_trans hBd HU2.out.bl.size) (HS.out.below HU2.out.bl.drew hBs) (Nat.le_trans hBs HU2.out.bl.size) hnn (by omega) hnd HE.out HA.out hi HX.out rfl hk6).mono ?_
   rintro e u3 ⟨rfl, hb⟩
   have HU3 := iD ((show HzQ _ _ _ _ _ _ _ _ _ _ u2.drew from ⟨HU2.out.bl.drew, HU2.out.bn, HU2.out.bo, HU2.out.bg, HU2.out.bv, HU2.out.b1, HU2.out.b2⟩).later hb)
   clear hb
   refine ⟨_, rfl, fun _ => ?_, fun AA' => ?_⟩
   ·exact HU3.out.cells
   replace AA := AA' rfl
   clear AA'
   try dsimp only at AA
   refine oT 15 87 ?_ rfl rfl (zA rfl) AA (fun ρ AB w hSw => ?_) ?_
   rotate_left
   ·(have hc := AB.const; have e86 := tm AB hsz 86 rfl zB; clear AB; (try dsimp only at hSw); go_simp; try with_reducible rfl)
   refine oM 21 93 ?_ rfl rfl rfl (zA rfl) AA (fun ρ AB => ?_) ?_
   rotate_left
   ·(have e92 := tm AB hsz 92 rfl (zD rfl (zD rfl zB)); exact e92)
   refine oT 22 94 ?_ rfl rfl (wY 21 93 true rfl hsz rfl rfl rfl zB) AA (fun ρ AB w hSw => ?_) ?_
   rotate_left
   ·(have e9 := tm AB hsz 9 rfl (zH rfl rfl rfl rfl (zH rfl rfl rfl rfl (zH rfl rfl rfl rfl (zH rfl rfl rfl rfl (zH rfl rfl rfl rfl (zD rfl (zD rfl (zJ b9)))))))); clear AB; (try dsimp only at hSw); go_simp; try with_reducible rfl)
   refine oT 23 95 ?_ rfl rfl (wY 21 93 true rfl hsz rfl rfl rfl (zD rfl zB)) AA (fun ρ AB w hSw => ?_) ?_
   rotate_left
   ·(have e94 := tm AB hsz 94 rfl zB; clear AB; (try dsimp only at hSw); go_simp; try with_reducible rfl)
   refine oT 24 96 ?_ rfl rfl (wY 21 93 true rfl hsz rfl rfl rfl (zD rfl (zD rfl zB))) AA (fun ρ AB w hSw => ?_) ?_
   rotate_left
   ·(have hc := AB.const; have e95 := tm AB hsz 95 rfl zB; clear AB; (try dsimp only at hSw); go_simp; try with_reducible rfl)
   refine oT 25 97 ?_ rfl rfl (zA rfl) AA (fun ρ AB w hSw => ?_) ?_
   rotate_left
   ·(have hc := AB.const; have e93 := tm AB hsz 93 rfl (zD rfl (zD rfl (zD rfl zB))); have e96 := tm AB hsz 96 rfl zB; clear AB; (try dsimp only at hSw); go_simp; try with_reducible rfl)
   refine oM 26 98 ?_ rfl rfl rfl (zA rfl) AA (fun ρ AB => ?_) ?_
   rotate_left
   ·(have e97 := tm AB hsz 97 rfl zB; exact e97)
   refine oS 27 99 rfl rfl (wN 26 98 true false rfl hsz rfl rfl rfl zB rfl) AA ?_
   refine oS 28 100 rfl rfl (wN 26 98 true false rfl hsz rfl rfl rfl (zD rfl zB) rfl) AA ?_
   refine oS 29 101 rfl rfl (wN 26 98 true false rfl hsz rfl rfl rfl (zD rfl (zD rfl zB)) rfl) AA ?_
   refine oS 30 102 rfl rfl (wN 26 98 true false rfl hsz rfl rfl rfl (zD rfl (zD rfl (zD rfl zB))) rfl) AA ?_
   refine oS 31 103 rfl rfl (wN 26 98 true false rfl hsz rfl rfl rfl (zH rfl rfl rfl rfl zB) rfl) AA ?_
   refine oS 32 104 rfl rfl (wN 26 98 true false rfl hsz rfl rfl rfl (zH rfl rfl rfl rfl (zD rfl zB)) rfl) AA ?_
   refine oT 33 105 ?_ rfl rfl (zA rfl) AA (fun ρ AB w hSw => ?_) ?_
   rotate_left
   ·(have hc := AB.const; have e98 := tm AB hsz 98 rfl (zH rfl rfl rfl rfl (zD rfl (zD rfl zB))); have e104 := tm AB hsz 104 rfl zB; clear AB; (try dsimp only at hSw); go_simp; try with_reducible rfl)
   refine oT 34 106 ?_ rfl rfl (zA rfl) AA (fun ρ AB w hSw => ?_) ?_
   rotate_left
   ·(have hc := AB.const; have e105 := tm AB hsz 105 rfl zB; clear AB; (try dsimp only at hSw); go_simp; try with_reducible rfl)
   refine qj (i := 35) (d := 107) (v := ?_) (w' := ?_) rfl rfl (zA rfl) (fun ρ AB => ?_) ?_ ?_
   rotate_left 2
   ·(have e72 := tm AB hsz 72 rfl (zH rfl rfl rfl rfl (zH rfl rfl rfl rfl (zH rfl rfl rfl rfl (zH rfl rfl rfl rfl (zH rfl rfl rfl rfl (zH rfl rfl rfl rfl (zH rfl rfl rfl rfl (zH rfl rfl rfl rfl (zD rfl (zD rfl zB)))))))))); have e73 := tm AB hsz 73 rfl (zH rfl rfl rfl rfl (zH rfl rfl rfl rfl (zH rfl rfl rfl rfl (zH rfl rfl rfl rfl (zH rfl rfl rfl rfl (zH rfl rfl rfl rfl (zH rfl rfl rfl rfl (zH rfl rfl rfl rfl (zD rfl zB))))))))); have e79 := tm AB hsz 79 rfl (zH rfl rfl rfl rfl (zH rfl rfl rfl rfl (zH rfl rfl rfl rfl (zH rfl rfl rfl rfl (zH rfl rfl rfl rfl (zH rfl rfl rfl rfl (zD rfl (zD rfl (zD rfl zB))))))))); have e87 := tm AB hsz 87 rfl (zH rfl rfl rfl rfl (zH rfl rfl rfl rfl (zH rfl rfl rfl rfl (zD rfl (zD rfl zB))))); have e91 := tm AB hsz 91 rfl (zH rfl rfl rfl rfl (zH rfl rfl rfl rfl (zH rfl rfl rfl rfl (zH rfl rfl rfl rfl (zD rfl zB))))); have e106 := tm AB hsz 106 rfl zB; clear AB; go_simp; first | with_reducible rfl | (constructor <;> with_reducible rfl))
   ·refine fun _ => ?_
    exact (HU3.out.later ((Below.refl _ _).alloc lR _)).cells
   intro AA'
   replace AA := AA' rfl
   clear AA'
   try dsimp only at AA
   refine yB (i := 36) (d := 108) (vs := ?_) rfl rfl rfl (zA rfl) (fun ρ AB => ?_) ?_ ?_
   rotate_left
   ·(have e107 := tm AB hsz 107 rfl zB; simp only [List.map_toArray, List.map_cons, List.map_nil, e107]; try with_reducible rfl)
   ·(intro w; go_simp)
   refine (tE _ 6 6 (u3.heap.size + 1) [(4, t1), (6, t2), (1, du == 4), (2, yS kd 2 du (lvE (zY nn ds s) ⟨nm, kd, a, b, co2⟩)), (3, decide (0 < mo)), (5, false)] _ (Sl.newest rfl (by rfl) (by decide)) (by simp) (by decide)).mono ?_
   rintro e u5 ⟨A5, c5, rfl, hO5, hb5⟩
   have HU5 := iD ((HU3.out.later ((Below.refl _ _).alloc lR _)).later hb5.out)
   have HO5 := iD (hO5.out.mono (base' := w.heap.size) (by have := HU3.out.bl.size; simp; omega))
   clear hO5 hb5
   refine ⟨_, rfl, fun _ => ?_, fun AA' => ?_⟩
   ·exact HU5.out.cells
   replace AA := AA' rfl
   clear AA'
   try dsimp only at AA
   refine oT 37 8 ?_ rfl rfl (zA rfl) AA (fun ρ AB w hSw => ?_) ?_
   rotate_left
   ·(have e108 := tm AB hsz 108 rfl zB; clear AB; (try dsimp only at hSw); go_simp; try with_reducible rfl)
   refine ye hn2 ?_
   clear AA hn2 b10 b11 b14 b12 b4 b1 b6 b9 b15 hsz A Q2
   simp only [yd, yJ, xJ, vD, vE]
   go_wp2_with fail
   go_ret
   rw [HRR.out, ← HLO.out]
   exact ⟨A5, c5, rfl, HO5, HU5.out.bl⟩
end Go.Proofs.YtddddlhgaeameaaGreatDoor
