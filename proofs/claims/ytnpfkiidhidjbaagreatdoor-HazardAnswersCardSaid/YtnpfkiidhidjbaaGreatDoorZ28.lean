import Derived.Test.YtnpfkiidhidjbaaGreatDoorZ17
import Derived.Test.YtnpfkiidhidjbaaGreatDoorZ26
import Derived.Test.YtnpfkiidhidjbaaGreatDoorZ13
import Derived.Test.YtnpfkiidhidjbaaGreatDoorZ27
import Derived.Test.YtnpfkiidhidjbaaGreatDoorZ10
/-
 The program's layer 13: walk of in.
-/
namespace Go.Proofs.YtnpfkiidhidjbaaGreatDoor
open Go.RowKit
structure HzQ (w : World) (vb b1 b2 : Nat) (nt op gr dv f1 f2 : Array Value) (W : World) : Prop where
 bl : Below w.heap.size w W
 bn : Blk W w.heap.size 26 nt
 bo : Blk W (w.heap.size + 1) 28 op
 bg : Blk W (w.heap.size + 2) 31 gr
 bv : Blk W vb 63 dv
 b1 : Blk W b1 103 f1
 b2 : Blk W b2 103 f2
theorem HzQ.later {w W W' : World} {vb b1 b2 : Nat} {nt op gr dv f1 f2 : Array Value} (h : HzQ w vb b1 b2 nt op gr dv f1 f2 W) (hb : Below W.heap.size W W') : HzQ w vb b1 b2 nt op gr dv f1 f2 W' :=
 ⟨h.bl.trans (hb.mono h.bl.size), h.bn.below hb h.bn.lt, h.bo.below hb h.bo.lt, h.bg.below hb h.bg.lt, h.bv.below hb h.bv.lt, h.b1.below hb h.b1.lt, h.b2.below hb h.b2.lt⟩
theorem HzQ.cells {w W : World} {vb b1 b2 nn cn nd cd d nl cl np cp : Nat} {An Ad Al Ap : Option Addr} {p co kd a b co2 : Int} {nm : ByteArray} {t1 t2 : Bool} (h : HzQ w vb b1 b2 #[.slice An nn cn, .slice Ad nd cd] #[.int .i64 d, .int .i64 p] #[.int .i64 co, .slice Al nl cl, .slice Ap np cp] #[.string nm, .int .i64 kd, .int .i64 a, .int .i64 b, .int .i64 co2] #[.int .i64 4, .bool t1] #[.int .i64 6, .bool t2] W) :
  ((W.cell? ⟨w.heap.size, 0, none⟩ = some (.slice An nn cn) ∧ W.cell? ⟨w.heap.size, 1, none⟩ = some (.slice Ad nd cd)) ∧ W.cell? ⟨w.heap.size + 1, 0, none⟩ = some (.int .i64 d) ∧ W.cell? ⟨w.heap.size + 1, 1, none⟩ = some (.int .i64 p)) ∧ (W.cell? ⟨vb, 1, none⟩ = some (.int .i64 kd) ∧ W.cell? ⟨vb, 2, none⟩ = some (.int .i64 a)) ∧ W.cell? ⟨w.heap.size + 2, 2, none⟩ = some (.slice Ap np cp) ∧ (W.cell? ⟨b1, 0, none⟩ = some (.int .i64 4) ∧ W.cell? ⟨b1, 1, none⟩ = some (.bool t1)) ∧ W.cell? ⟨b2, 0, none⟩ = some (.int .i64 6) ∧ W.cell? ⟨b2, 1, none⟩ = some (.bool t2) :=
 ⟨⟨⟨h.bn.cell 0, h.bn.cell 1⟩, h.bo.cell 0, h.bo.cell 1⟩, ⟨h.bv.cell 1, h.bv.cell 2⟩, h.bg.cell 2, ⟨h.b1.cell 0, h.b1.cell 1⟩, h.b2.cell 0, h.b2.cell 1⟩
theorem stateErr_with {ns : List Nd} {ds : List Dv} {s : List Int} (h : stateErr ns ds s = 0) (d : Nat) {p : Int} (hp : p = 1 ∨ p = 2) : stateErr ns ds (withL s d p) = 0 := by
 unfold stateErr at h ⊢
 split at h
 ·next h1 => exact absurd h h1
 next h1 =>
 rw [if_neg h1]
 split at h
 ·cases h
 next h2 =>
 rw [if_neg (by rw [withL_len]; exact h2)]
 split at h
 ·next h3 =>
  rw [if_pos]
  intro y hy
  unfold withL at hy
  split at hy
  ·rcases List.mem_or_eq_of_mem_set hy with h4 | h4
   ·exact h3 y h4
   ·rw [h4]; rcases hp with rfl | rfl <;> rfl
  ·exact h3 y hy
 ·cases h
open Classical in
theorem lostB_of {ns : List Nd} {ds : List Dv} {s s2 out : List Int} {m : Nat} (h : LostL ns ds s s2 out) (hm : out.length = m) : decide (0 < m) = lostB ns ds s s2 := by
 unfold lostB
 by_cases h0 : 0 < m
 ·rw [decide_eq_true h0]
  symm; rw [decide_eq_true_iff]
  rcases out with _ | ⟨x, r⟩
  ·simp at hm; omega
  ·obtain ⟨k, y, _, h1, h2, h3, h4⟩ := (h x).1 (by simp)
   exact ⟨k, y, h1, h2, h3, h4⟩
 ·rw [decide_eq_false h0]
  symm; rw [decide_eq_false_iff_not]
  rintro ⟨k, y, h1, h2, h3, h4⟩
  have := (h k).2 ⟨k, y, rfl, h1, h2, h3, h4⟩
  rw [List.eq_nil_of_length_eq_zero (by omega : out.length = 0)] at this
  cases this
set_option maxRecDepth 100000 in
set_option maxHeartbeats 8000000 in
theorem in_any (An Ad As Al Ap : Option Addr) (nn cn nd cd n c nl cl np cp Bn Bd Bs Bl Bp d : Nat) (p co : Int) (ns : List Nd) (ds : List Dv) (s : List Int) (ls : List Lk) (pr : List Int) (x : Dv) (w : World) (hL : Laid w)
  (hn : Sl w Bn 3 An nn cn (ns.flatMap Nd.cells)) (hBn : Bn ≤ w.heap.size) (hd : Sl w Bd 5 Ad nd cd (ds.flatMap Dv.cells)) (hBd : Bd ≤ w.heap.size) (hs : Sl w Bs 1 As n c (intsV s)) (hBs : Bs ≤ w.heap.size) (hls : Sl w Bl 3 Al nl cl (ls.flatMap Lk.cells)) (hBl : Bl ≤ w.heap.size) (hpr : Sl w Bp 1 Ap np cp (intsV pr)) (hBp : Bp ≤ w.heap.size)
  (hsn : ∀ x ∈ ns, x.name.size ≤ 9223372036854775807) (hsd : ∀ x ∈ ds, x.name.size ≤ 9223372036854775807) (h0 : stateErr ns ds s = 0) (hnn : nn ≤ 10000) (hn1 : n ≤ 10000) (hnd : nd ≤ n) (hi : d < nd) (hx : ds[d]? = some x) (hends : EndsOk nn ds) (hA : AOk nn ds) (hp : p = 1 ∨ p = 2) (hk6 : 1 ≤ x.kind ∧ x.kind ≤ 6) :
  Calls Tryz.prog 37 #[.agg #[.slice An nn cn, .slice Ad nd cd], .slice As n c, .agg #[.int .i64 d, .int .i64 p], .agg #[.int .i64 co, .slice Al nl cl, .slice Ap np cp]] w (IntsPost w (hzAt nn ns ds s d p co ls pr x)) := by
 have HN := Lib.hid hn; have HD := Lib.hid hd; have HS := Lib.hid hs; have HSN := Lib.hid hsn; have HSD := Lib.hid hsd; have H0 := Lib.hid h0; have HE := Lib.hid hends; have HA := Lib.hid hA; have HX := Lib.hid hx
 have HL := Lib.hid hL; have HLS := Lib.hid hls; have HPR := Lib.hid hpr
 have hpl := hpr.le; have hll := hls.le; have hdl := hd.le; have hsl := hs.le
 have HLN : Hid (s.length = n) := hs.len (fun _ => rfl) (by decide)
 clear hL hn hd hs hls hpr hsn hsd h0 hends hA hx
 have HB0 : Hid (Below w.heap.size w (((w.alloc (.cells #[.slice An nn cn, .slice Ad nd cd] 26)).alloc (.cells #[.int .i64 d, .int .i64 p] 28)).alloc (.cells #[.int .i64 co, .slice Al nl cl, .slice Ap np cp] 31))) := (((Below.refl _ _).alloc (Nat.le_refl _) _).alloc (by simp) _).alloc (by simp; omega) _
 have HKN : Hid (Blk (((w.alloc (.cells #[.slice An nn cn, .slice Ad nd cd] 26)).alloc (.cells #[.int .i64 d, .int .i64 p] 28)).alloc (.cells #[.int .i64 co, .slice Al nl cl, .slice Ap np cp] 31)) w.heap.size 26 #[.slice An nn cn, .slice Ad nd cd]) := ((Blk.new _ _ _).alloc _).alloc _
 have HKO : Hid (Blk (((w.alloc (.cells #[.slice An nn cn, .slice Ad nd cd] 26)).alloc (.cells #[.int .i64 d, .int .i64 p] 28)).alloc (.cells #[.int .i64 co, .slice Al nl cl, .slice Ap np cp] 31)) (w.heap.size + 1) 28 #[.int .i64 d, .int .i64 p]) := by
  have := (Blk.new (w.alloc (.cells #[.slice An nn cn, .slice Ad nd cd] 26)) 28 #[.int .i64 d, .int .i64 p]).alloc (.cells #[.int .i64 co, .slice Al nl cl, .slice Ap np cp] 31)
  unfold Hid; simpa using this
 have HKG : Hid (Blk (((w.alloc (.cells #[.slice An nn cn, .slice Ad nd cd] 26)).alloc (.cells #[.int .i64 d, .int .i64 p] 28)).alloc (.cells #[.int .i64 co, .slice Al nl cl, .slice Ap np cp] 31)) (w.heap.size + 2) 31 #[.int .i64 co, .slice Al nl cl, .slice Ap np cp]) := by
  have := Blk.new ((w.alloc (.cells #[.slice An nn cn, .slice Ad nd cd] 26)).alloc (.cells #[.int .i64 d, .int .i64 p] 28)) 31 #[.int .i64 co, .slice Al nl cl, .slice Ap np cp]
  unfold Hid; simpa using this
 go_enter Tryz.func37, Tryz.ntmps37
 go_upto_region 1 with (fail)
 generalize World.alloc (World.alloc (World.alloc w _) _) _ = W at *
 obtain ⟨b0, off, x', rfl, hb, hx', hc⟩ := (HD.out.below HB0.out hBd).at (fun _ => rfl) (by decide) hi
 obtain rfl : x = x' := by have := HX.out; rw [this] at hx'; exact Option.some.inj hx'
 obtain ⟨nm, kd, a, b, co2⟩ := x
 simp only at hk6
 have c0 : W.cell? ⟨b0, off + d * 5, none⟩ = some (.string nm) := hc 0 _ rfl
 have c1 : W.cell? ⟨b0, off + d * 5 + 1, none⟩ = some (.int .i64 kd) := hc 1 _ rfl
 have c2 : W.cell? ⟨b0, off + d * 5 + 2, none⟩ = some (.int .i64 a) := hc 2 _ rfl
 have c3 : W.cell? ⟨b0, off + d * 5 + 3, none⟩ = some (.int .i64 b) := hc 3 _ rfl
 have c4 : W.cell? ⟨b0, off + d * 5 + 4, none⟩ = some (.int .i64 co2) := hc 4 _ rfl
 have k1 : W.cell? ⟨w.heap.size, 1, none⟩ = some (.slice (some ⟨b0, off, none⟩) nd cd) := HKN.out.cell 1
 have o0 : W.cell? ⟨w.heap.size + 1, 0, none⟩ = some (.int .i64 d) := HKO.out.cell 0
 clear hc hx'
 have HB1 : Hid (Below w.heap.size w (W.alloc (.cells #[.string nm, .int .i64 kd, .int .i64 a, .int .i64 b, .int .i64 co2] 63))) := HB0.out.alloc HB0.out.size _
 have HKV := Lib.hid (Blk.new W 63 #[.string nm, .int .i64 kd, .int .i64 a, .int .i64 b, .int .i64 co2])
 have HKN1 := Lib.hid (HKN.out.alloc (.cells #[.string nm, .int .i64 kd, .int .i64 a, .int .i64 b, .int .i64 co2] 63))
 have HKO1 := Lib.hid (HKO.out.alloc (.cells #[.string nm, .int .i64 kd, .int .i64 a, .int .i64 b, .int .i64 co2] 63))
 have HKG1 := Lib.hid (HKG.out.alloc (.cells #[.string nm, .int .i64 kd, .int .i64 a, .int .i64 b, .int .i64 co2] 63))
 go_upto_region 2 with (fail)
 clear HB0 HKN HKO HKG c0 c1 c2 c3 c4 k1 o0
 generalize World.alloc W _ = W1 at *
 obtain ⟨vb, hvb⟩ : ∃ x, x = W.heap.size := ⟨_, rfl⟩
 rw [← hvb] at HKV ⊢
 clear hvb
 have HPL : Hid (PredL 63 #[.pointer (some ⟨w.heap.size + 1, 0, none⟩)] (fun k => decide (k.dev = d)) W1) := by
  intro W' d1 p1 q1 hb
  have hc : W'.cell? ⟨w.heap.size + 1, 0, none⟩ = some (.int .i64 d) := (hb.cell (p := ⟨w.heap.size + 1, 0, none⟩) HKO1.out.lt).trans (HKO1.out.cell 0)
  have hBW : w.heap.size + 1 < W'.heap.size := Nat.lt_of_lt_of_le HKO1.out.lt hb.size
  have hne : w.heap.size + 1 ≠ W'.heap.size := by omega
  have HBW : Hid (Below W1.heap.size W1 (W'.alloc (.cells #[.int .i64 d1, .int .i64 p1, .int .i64 q1] 77))) := hb.alloc hb.size _
  clear hb
  show Calls Tryz.prog 63 #[.agg #[.int .i64 d1, .int .i64 p1, .int .i64 q1], .pointer (some ⟨w.heap.size + 1, 0, none⟩)] W' _
  go_enter Tryz.func63, Tryz.ntmps63
  go_wp2_with fail
  go_ret
  exact ⟨ret_bool (by by_cases h : d1 = d <;> simp [h]), HBW.out⟩
 have HCF := Lib.hid (contf_any 63 #[.pointer (some ⟨w.heap.size + 1, 0, none⟩)] (fun k => decide (k.dev = d)) (enters_of Tryz.func63 (by kernel_rfl) rfl) Al nl cl Bl ls W1 (HLS.out.below HB1.out hBl) (by have := HB1.out.size; omega) HPL.out)
 have g1 : W1.cell? ⟨w.heap.size + 2, 1, none⟩ = some (.slice Al nl cl) := HKG1.out.cell 1
 clear HPL
 go_wp2_with fail
 clear g1
 refine HCF.out.mono ?_
 rintro e w2 ⟨rfl, hb2⟩
 clear HCF
 obtain ⟨t1, ht1⟩ : ∃ t, t = lockB ls d := ⟨_, rfl⟩
 have HT1 := Lib.hid ht1
 rw [show (ls.any fun k => decide (k.dev = (d : Int))) = t1 by rw [ht1]; rfl]
 clear ht1
 have HB2 := Lib.hid (HB1.out.trans (hb2.mono HB1.out.size))
 have HKN2 := Lib.hid (HKN1.out.below hb2 HKN1.out.lt); have HKO2 := Lib.hid (HKO1.out.below hb2 HKO1.out.lt); have HKG2 := Lib.hid (HKG1.out.below hb2 HKG1.out.lt); have HKV2 := Lib.hid (HKV.out.below hb2 HKV.out.lt)
 clear hb2 HB1 HKN1 HKO1 HKG1 HKV
 have v4 : w2.cell? ⟨vb, 4, none⟩ = some (.int .i64 co2) := HKV2.out.cell 4
 have g0 : w2.cell? ⟨w.heap.size + 2, 0, none⟩ = some (.int .i64 co) := HKG2.out.cell 0
 have hv1 : vb < w2.heap.size := HKV2.out.lt
 have hg1 : w.heap.size + 2 < w2.heap.size := HKG2.out.lt
 have HQ4 : Hid (HzQ w vb w2.heap.size (w2.heap.size + 1) #[.slice An nn cn, .slice (some ⟨b0, off, none⟩) nd cd] #[.int .i64 d, .int .i64 p] #[.int .i64 co, .slice Al nl cl, .slice Ap np cp] #[.string nm, .int .i64 kd, .int .i64 a, .int .i64 b, .int .i64 co2] #[.int .i64 4, .bool t1] #[.int .i64 6, .bool (co2 != co)] ((w2.alloc (.cells #[.int .i64 4, .bool t1] 103)).alloc (.cells #[.int .i64 6, .bool (co2 != co)] 103))) := by
  refine ⟨(HB2.out.alloc HB2.out.size _).alloc (by have := HB2.out.size; simp; omega) _, (HKN2.out.alloc _).alloc _, (HKO2.out.alloc _).alloc _, (HKG2.out.alloc _).alloc _, (HKV2.out.alloc _).alloc _, (Blk.new _ _ _).alloc _, ?_⟩
  have := Blk.new (w2.alloc (.cells #[.int .i64 4, .bool t1] 103)) 103 #[.int .i64 6, .bool (co2 != co)]
  simpa using this
 go_upto_region 4 with (fail)
 clear HB2 HKN2 HKO2 HKG2 HKV2 v4 g0 hv1 hg1
 generalize World.alloc (World.alloc w2 _) _ = W3 at *
 obtain ⟨b1, hb1⟩ : ∃ x, x = w2.heap.size := ⟨_, rfl⟩
 rw [← hb1] at HQ4 ⊢
 clear hb1
 obtain ⟨t2, ht2⟩ : ∃ t, t = (co2 != co) := ⟨_, rfl⟩
 rw [← ht2] at HQ4 ⊢
 have HT2 := Lib.hid ht2
 clear ht2
 obtain ⟨bs, of2, sd, rfl, hbs, hsd1, hcs⟩ := (HS.out.below HQ4.out.bl hBs).at1 (k := d) (by omega)
 have HSD1 := Lib.hid (getD_of hsd1)
 have HC4 : Hid ((W3.cell? ⟨w.heap.size + 1, 0, none⟩ = some (.int .i64 d) ∧ W3.cell? ⟨w.heap.size + 1, 1, none⟩ = some (.int .i64 p)) ∧ W3.cell? ⟨bs, of2 + d, none⟩ = some (.int .i64 sd)) := ⟨⟨HQ4.out.bo.cell 0, HQ4.out.bo.cell 1⟩, hcs⟩
 clear hcs hsd1
 have hdn : d < n := by omega
 refine wp_region_ord (S := fun W' => (W'.cell? ⟨w.heap.size + 1, 0, none⟩ = some (.int .i64 d) ∧ W'.cell? ⟨w.heap.size + 1, 1, none⟩ = some (.int .i64 p)) ∧ W'.cell? ⟨bs, of2 + d, none⟩ = some (.int .i64 sd)) (J := []) (n := _) ((0, true) :: (1, true) :: (2, true) :: (3, true) :: (4, true) :: (5, true) :: (6, true) :: (7, true) :: []) (by as_aux_lemma => kernel_rfl) (by rfl) (base_cons (k := 1) (by go_simp; rfl) (base_cons (k := 6) (by go_simp; rfl) base_nil)) ?_ (fun _ _ _ _ _ h => h) (fun Q2 A hsz hbase hn2 hHeld => ?_)
 ·exact HC4.out
 try dsimp only at hHeld
 obtain ⟨b1, b6, -⟩ := hbase
 refine ord_move (i := 0) (d := 35) (v := ?_) rfl rfl rfl (wanted_none rfl) hHeld (fun ρ hρ => ?_) ?_
 rotate_left
 ·(have e1 := Eq.trans (hρ.tmp hsz 1 rfl) (lkp_base b1); exact e1)
 show wpOrd _ _ _ _ _ _ _ _
 refine ord_take (i := 1) (d := 36) (v := ?_) rfl rfl (wanted_none rfl) hHeld (fun ρ hρ w hSw => ?_) ?_
 rotate_left
 ·(have e6 := Eq.trans (hρ.tmp hsz 6 rfl) (miss1 rfl (lkp_base b6)); clear hρ; (try dsimp only at hSw); go_simp; try with_reducible rfl)
 show wpOrd _ _ _ _ _ _ _ _
 refine ord_take (i := 2) (d := 37) (v := ?_) rfl rfl (wanted_none rfl) hHeld (fun ρ hρ w hSw => ?_) ?_
 rotate_left
 ·(have e36 := Eq.trans (hρ.tmp hsz 36 rfl) lkp_hit; clear hρ; (try dsimp only at hSw); go_simp; try with_reducible rfl)
 show wpOrd _ _ _ _ _ _ _ _
 refine ord_take (i := 3) (d := 38) (v := ?_) rfl rfl (wanted_none rfl) hHeld (fun ρ hρ w hSw => ?_) ?_
 rotate_left
 ·(have e35 := Eq.trans (hρ.tmp hsz 35 rfl) (miss1 rfl (miss1 rfl lkp_hit)); have e37 := Eq.trans (hρ.tmp hsz 37 rfl) lkp_hit; clear hρ; (try dsimp only at hSw); go_simp; try with_reducible rfl)
 show wpOrd _ _ _ _ _ _ _ _
 refine ord_take (i := 4) (d := 39) (v := ?_) rfl rfl (wanted_none rfl) hHeld (fun ρ hρ w hSw => ?_) ?_
 rotate_left
 ·(have e38 := Eq.trans (hρ.tmp hsz 38 rfl) lkp_hit; clear hρ; (try dsimp only at hSw); go_simp; try with_reducible rfl)
 show wpOrd _ _ _ _ _ _ _ _
 refine ord_take (i := 5) (d := 40) (v := ?_) rfl rfl (wanted_none rfl) hHeld (fun ρ hρ w hSw => ?_) ?_
 rotate_left
 ·(have e6 := Eq.trans (hρ.tmp hsz 6 rfl) (miss4 rfl rfl rfl rfl (miss1 rfl (lkp_base b6))); clear hρ; (try dsimp only at hSw); go_simp; try with_reducible rfl)
 show wpOrd _ _ _ _ _ _ _ _
 refine ord_take (i := 6) (d := 41) (v := ?_) rfl rfl (wanted_none rfl) hHeld (fun ρ hρ w hSw => ?_) ?_
 rotate_left
 ·(have e40 := Eq.trans (hρ.tmp hsz 40 rfl) lkp_hit; clear hρ; (try dsimp only at hSw); go_simp; try with_reducible rfl)
 show wpOrd _ _ _ _ _ _ _ _
 refine ord_take (i := 7) (d := 42) (v := ?_) rfl rfl (wanted_none rfl) hHeld (fun ρ hρ w hSw => ?_) ?_
 rotate_left
 ·(have e39 := Eq.trans (hρ.tmp hsz 39 rfl) (miss1 rfl (miss1 rfl lkp_hit)); have e41 := Eq.trans (hρ.tmp hsz 41 rfl) lkp_hit; clear hρ; (try dsimp only at hSw); go_simp; try with_reducible rfl)
 show wpOrd _ _ _ _ _ _ _ _
 refine ord_done hn2 ?_
 clear hHeld hn2 b1 b6 hsz A Q2
 simp only [puts_nil, puts_cons, put_lit, set_1, set_0]
 clear HC4
 have HQ5 : Hid (HzQ w vb b1 (b1 + 1) #[.slice An nn cn, .slice (some ⟨b0, off, none⟩) nd cd] #[.int .i64 d, .int .i64 p] #[.int .i64 co, .slice Al nl cl, .slice Ap np cp] #[.string nm, .int .i64 kd, .int .i64 a, .int .i64 b, .int .i64 co2] #[.int .i64 4, .bool t1] #[.int .i64 6, .bool t2] W3.drew) := ⟨HQ4.out.bl.drew, HQ4.out.bn, HQ4.out.bo, HQ4.out.bg, HQ4.out.bv, HQ4.out.b1, HQ4.out.b2⟩
 clear HQ4
 generalize World.drew W3 = W4 at *
 by_cases hsp : sd = p
 ·have q : (sd == p) = true := by simpa using hsp
  have HR : Hid (hzAt nn ns ds s d p co ls pr ⟨nm, kd, a, b, co2⟩ = sortL (fndL [(4, t1), (6, t2), (7, true)])) := by
   unfold Hid hzAt
   rw [if_pos (by rw [HSD1.out]; exact hsp), fnd3, HT1.out, HT2.out]
  have hz := HQ5.out.bl.size
  have f10 : W4.cell? ⟨b1, 0, none⟩ = some (.int .i64 4) := HQ5.out.b1.cell 0
  have f11 : W4.cell? ⟨b1, 1, none⟩ = some (.bool t1) := HQ5.out.b1.cell 1
  have f20 : W4.cell? ⟨b1 + 1, 0, none⟩ = some (.int .i64 6) := HQ5.out.b2.cell 0
  have f21 : W4.cell? ⟨b1 + 1, 1, none⟩ = some (.bool t2) := HQ5.out.b2.cell 1
  clear hsp
  go_wp2_with fail
  refine (list_any _ 3 3 (W4.heap.size + 1) [(4, t1), (6, t2), (7, true)] _ (Sl.newest rfl rfl (by decide)) (by simp) (by decide)).mono ?_
  rintro e w6 ⟨Ao, c6, rfl, hO6, hb6⟩
  have HB6 : Hid (Below w.heap.size w w6) := (HQ5.out.bl.alloc hz _).trans (hb6.out.mono (by simp; omega))
  have HO6 := Lib.hid (hO6.out.mono (base' := w.heap.size) (by simp; omega))
  clear hb6 hO6
  go_wp2_with fail
  go_ret
  rw [HR.out]
  exact ⟨Ao, c6, rfl, HO6, HB6⟩
 have q : (sd == p) = false := by simpa using hsp
 have HSP : Hid (s.getD d 0 ≠ p) := by unfold Hid; rw [HSD1.out]; exact hsp
 clear hsp
 have k0 : W4.cell? ⟨w.heap.size, 0, none⟩ = some (.slice An nn cn) := HQ5.out.bn.cell 0
 have k1 : W4.cell? ⟨w.heap.size, 1, none⟩ = some (.slice (some ⟨b0, off, none⟩) nd cd) := HQ5.out.bn.cell 1
 have o0 : W4.cell? ⟨w.heap.size + 1, 0, none⟩ = some (.int .i64 d) := HQ5.out.bo.cell 0
 go_wp2_with fail
 clear q k0 k1 o0
 have hz5 := HQ5.out.bl.size
 refine (Of_ok An (some ⟨b0, off, none⟩) (some ⟨bs, of2, none⟩) nn cn nd cd n c Bn Bd Bs d ns ds s ⟨nm, kd, a, b, co2⟩ W4 (HL.out.below HQ5.out.bl (Nat.le_refl _)) (HN.out.below HQ5.out.bl hBn) (by omega) (HD.out.below HQ5.out.bl hBd) (by omega) (HS.out.below HQ5.out.bl hBs) (by omega) HSN.out HSD.out H0.out hnn hn1 hnd hi HX.out HE.out HA.out).mono ?_
 rintro e w5 ⟨rfl, hb5⟩
 have HQ6 := Lib.hid (HQ5.out.later hb5)
 clear hb5 HQ5 hz5
 obtain ⟨du, hdu⟩ : ∃ x, x = dutyAt nn ns ds s d ⟨nm, kd, a, b, co2⟩ := ⟨_, rfl⟩
 rw [← hdu]
 have HDU := Lib.hid hdu
 clear hdu
 have HS2E : Hid (stateErr ns ds (withL s d p) = 0) := stateErr_with H0.out d hp
 have HRR : Hid (hzAt nn ns ds s d p co ls pr ⟨nm, kd, a, b, co2⟩ = sortL (fndL [(4, t1), (6, t2), (1, decide (p = 2) && decide (du = 4)), (2, badB kd p du (lvE (colsOf nn ds s) ⟨nm, kd, a, b, co2⟩)), (3, lostB ns ds s (withL s d p)), (5, decide (p = 2) && decide (kd = 4) && !hasB pr a)])) := by
  unfold Hid hzAt
  rw [if_neg HSP.out, fnd6, HT1.out, HT2.out, HDU.out]
 clear HSP HT1 HT2 HDU HSD1
 have HST := Lib.hid H0.out
 clear H0
 go_upto_region 7 with (fail)
 have o1 : w5.cell? ⟨w.heap.size + 1, 1, none⟩ = some (.int .i64 p) := HQ6.out.bo.cell 1
 rcases hp with rfl | rfl
 ·go_upto_region 8 with (fail)
  refine wp_region_ord (S := fun W' => ((W'.cell? ⟨w.heap.size, 0, none⟩ = some (.slice An nn cn) ∧ W'.cell? ⟨w.heap.size, 1, none⟩ = some (.slice (some ⟨b0, off, none⟩) nd cd)) ∧ W'.cell? ⟨w.heap.size + 1, 0, none⟩ = some (.int .i64 d) ∧ W'.cell? ⟨w.heap.size + 1, 1, none⟩ = some (.int .i64 1)) ∧ (W'.cell? ⟨vb, 1, none⟩ = some (.int .i64 kd) ∧ W'.cell? ⟨vb, 2, none⟩ = some (.int .i64 a)) ∧ W'.cell? ⟨w.heap.size + 2, 2, none⟩ = some (.slice Ap np cp) ∧ (W'.cell? ⟨b1, 0, none⟩ = some (.int .i64 4) ∧ W'.cell? ⟨b1, 1, none⟩ = some (.bool t1)) ∧ W'.cell? ⟨b1 + 1, 0, none⟩ = some (.int .i64 6) ∧ W'.cell? ⟨b1 + 1, 1, none⟩ = some (.bool t2)) (J := []) (n := _) ((0, true) :: (1, true) :: (2, true) :: (3, true) :: (4, true) :: (5, true) :: (6, true) :: (7, false) :: (8, false) :: (9, true) :: (10, true) :: (11, true) :: (12, true) :: (13, true) :: (14, true) :: (15, true) :: []) (by as_aux_lemma => kernel_rfl) (by rfl) (base_cons (k := 4) (by go_simp; rfl) (base_cons (k := 1) (by go_simp; rfl) (base_cons (k := 6) (by go_simp; rfl) base_nil))) ?_ (fun _ _ _ _ _ h => h) (fun Q2 A hsz hbase hn2 hHeld => ?_)
  ·exact HQ6.out.cells
  try dsimp only at hHeld
  obtain ⟨b4, b1, b6, -⟩ := hbase
  refine ord_take (i := 0) (d := 60) (v := ?_) rfl rfl (wanted_none rfl) hHeld (fun ρ hρ w hSw => ?_) ?_
  rotate_left
  ·(have e4 := Eq.trans (hρ.tmp hsz 4 rfl) (lkp_base b4); clear hρ; (try dsimp only at hSw); go_simp; try with_reducible rfl)
  show wpOrd _ _ _ _ _ _ _ _
  refine ord_move (i := 1) (d := 61) (v := ?_) rfl rfl rfl (wanted_none rfl) hHeld (fun ρ hρ => ?_) ?_
  rotate_left
  ·(have e1 := Eq.trans (hρ.tmp hsz 1 rfl) (miss1 rfl (lkp_base b1)); exact e1)
  show wpOrd _ _ _ _ _ _ _ _
  refine ord_move (i := 2) (d := 62) (v := ?_) rfl rfl rfl (wanted_none rfl) hHeld (fun ρ hρ => ?_) ?_
  rotate_left
  ·(have e1 := Eq.trans (hρ.tmp hsz 1 rfl) (miss1 rfl (miss1 rfl (lkp_base b1))); exact e1)
  show wpOrd _ _ _ _ _ _ _ _
  refine ord_take (i := 3) (d := 63) (v := ?_) rfl rfl (wanted_none rfl) hHeld (fun ρ hρ w hSw => ?_) ?_
  rotate_left
  ·(have e6 := Eq.trans (hρ.tmp hsz 6 rfl) (miss1 rfl (miss1 rfl (miss1 rfl (lkp_base b6)))); clear hρ; (try dsimp only at hSw); go_simp; try with_reducible rfl)
  show wpOrd _ _ _ _ _ _ _ _
  refine ord_take (i := 4) (d := 64) (v := ?_) rfl rfl (wanted_none rfl) hHeld (fun ρ hρ w hSw => ?_) ?_
  rotate_left
  ·(have e63 := Eq.trans (hρ.tmp hsz 63 rfl) lkp_hit; clear hρ; (try dsimp only at hSw); go_simp; try with_reducible rfl)
  show wpOrd _ _ _ _ _ _ _ _
  refine ord_take (i := 5) (d := 65) (v := ?_) rfl rfl (wanted_none rfl) hHeld (fun ρ hρ w hSw => ?_) ?_
  rotate_left
  ·(have e6 := Eq.trans (hρ.tmp hsz 6 rfl) (miss4 rfl rfl rfl rfl (miss1 rfl (lkp_base b6))); clear hρ; (try dsimp only at hSw); go_simp; try with_reducible rfl)
  show wpOrd _ _ _ _ _ _ _ _
  refine ord_take (i := 6) (d := 66) (v := ?_) rfl rfl (wanted_none rfl) hHeld (fun ρ hρ w hSw => ?_) ?_
  rotate_left
  ·(have e65 := Eq.trans (hρ.tmp hsz 65 rfl) lkp_hit; clear hρ; (try dsimp only at hSw); go_simp; try with_reducible rfl)
  show wpOrd _ _ _ _ _ _ _ _
  refine ord_call (i := 7) (d := 67) (vs := ?_) rfl rfl rfl (wanted_none rfl) (fun ρ hρ => ?_) ?_ ?_
  rotate_left
  ·(have e62 := Eq.trans (hρ.tmp hsz 62 rfl) (miss4 rfl rfl rfl rfl lkp_hit); have e64 := Eq.trans (hρ.tmp hsz 64 rfl) (miss1 rfl (miss1 rfl lkp_hit)); have e66 := Eq.trans (hρ.tmp hsz 66 rfl) lkp_hit; simp only [List.map_toArray, List.map_cons, List.map_nil, e62, e64, e66]; try with_reducible rfl)
  ·(intro w; go_simp)
  refine (with_any (some ⟨bs, of2, none⟩) n c Bs s d 1 w5.drew (HS.out.below HQ6.out.bl.drew hBs) (Nat.le_trans hBs HQ6.out.bl.size) (by omega)).mono ?_
  rintro e u1 ⟨At, ct, rfl, hOt, hbt⟩
  have HU1 := Lib.hid ((show HzQ _ _ _ _ _ _ _ _ _ _ w5.drew from ⟨HQ6.out.bl.drew, HQ6.out.bn, HQ6.out.bo, HQ6.out.bg, HQ6.out.bv, HQ6.out.b1, HQ6.out.b2⟩).later hbt.out)
  have HOT := Lib.hid hOt.out.sl
  clear hOt hbt
  refine ⟨_, rfl, fun _ => ?_, fun hHeld' => ?_⟩
  ·exact HU1.out.cells
  replace hHeld := hHeld' rfl
  clear hHeld'
  try dsimp only at hHeld
  show wpOrd _ _ _ _ _ _ _ _
  refine ord_call (i := 8) (d := 68) (vs := ?_) rfl rfl rfl (wanted_none rfl) (fun ρ hρ => ?_) ?_ ?_
  rotate_left
  ·(have e60 := Eq.trans (hρ.tmp hsz 60 rfl) (miss4 rfl rfl rfl rfl (miss1 rfl (miss1 rfl (miss1 rfl lkp_hit)))); have e61 := Eq.trans (hρ.tmp hsz 61 rfl) (miss4 rfl rfl rfl rfl (miss1 rfl (miss1 rfl lkp_hit))); have e67 := Eq.trans (hρ.tmp hsz 67 rfl) lkp_hit; simp only [List.map_toArray, List.map_cons, List.map_nil, e60, e61, e67]; try with_reducible rfl)
  ·(intro w; go_simp)
  refine (Lost_ok An (some ⟨b0, off, none⟩) (some ⟨bs, of2, none⟩) At nn cn nd cd n c (withL s d 1).length ct Bn Bd Bs u1.heap.size ns ds s (withL s d 1) u1 (HL.out.below HU1.out.bl (Nat.le_refl _)) (HN.out.below HU1.out.bl hBn) (Nat.le_trans hBn HU1.out.bl.size) (HD.out.below HU1.out.bl hBd) (Nat.le_trans hBd HU1.out.bl.size) (HS.out.below HU1.out.bl hBs) (Nat.le_trans hBs HU1.out.bl.size) HOT.out (Nat.le_refl _) HSN.out HSD.out HST.out HS2E.out hnn (by omega) hnd (by rw [withL_len, HLN.out]; exact hnd) HE.out HA.out).mono ?_
  rintro e u2 ⟨Ao, mo, co3, lo, ko, rfl, hLO1, hLO2, hLO3, hb⟩
  have HU2 := Lib.hid (HU1.out.later hb.out)
  have HLO := Lib.hid (lostB_of hLO2.out hLO1.out)
  have hmo := hLO3.out.sl.le
  clear hb hLO1 hLO2 hLO3
  refine ⟨_, rfl, fun _ => ?_, fun hHeld' => ?_⟩
  ·exact HU2.out.cells
  replace hHeld := hHeld' rfl
  clear hHeld'
  try dsimp only at hHeld
  show wpOrd _ _ _ _ _ _ _ _
  refine ord_move (i := 9) (d := 59) (v := ?_) rfl rfl rfl (wanted_none rfl) hHeld (fun ρ hρ => ?_) ?_
  rotate_left
  ·(have e68 := Eq.trans (hρ.tmp hsz 68 rfl) lkp_hit; exact e68)
  show wpOrd _ _ _ _ _ _ _ _
  refine ord_take (i := 10) (d := 69) (v := ?_) rfl rfl (wanted_none rfl) hHeld (fun ρ hρ w hSw => ?_) ?_
  rotate_left
  ·(have e59 := Eq.trans (hρ.tmp hsz 59 rfl) lkp_hit; clear hρ; (try dsimp only at hSw); go_simp; try with_reducible rfl)
  show wpOrd _ _ _ _ _ _ _ _
  refine ord_take (i := 11) (d := 70) (v := ?_) rfl rfl (wanted_none rfl) hHeld (fun ρ hρ w hSw => ?_) ?_
  rotate_left
  ·(have e59 := Eq.trans (hρ.tmp hsz 59 rfl) (miss1 rfl lkp_hit); clear hρ; (try dsimp only at hSw); go_simp; try with_reducible rfl)
  show wpOrd _ _ _ _ _ _ _ _
  refine ord_take (i := 12) (d := 71) (v := ?_) rfl rfl (wanted_none rfl) hHeld (fun ρ hρ w hSw => ?_) ?_
  rotate_left
  ·(have e59 := Eq.trans (hρ.tmp hsz 59 rfl) (miss1 rfl (miss1 rfl lkp_hit)); clear hρ; (try dsimp only at hSw); go_simp; try with_reducible rfl)
  show wpOrd _ _ _ _ _ _ _ _
  refine ord_take (i := 13) (d := 15) (v := ?_) rfl rfl (wanted_none rfl) hHeld (fun ρ hρ w hSw => ?_) ?_
  rotate_left
  ·(have e69 := Eq.trans (hρ.tmp hsz 69 rfl) (miss1 rfl (miss1 rfl lkp_hit)); clear hρ; (try dsimp only at hSw); go_simp; try with_reducible rfl)
  show wpOrd _ _ _ _ _ _ _ _
  refine ord_take (i := 14) (d := 16) (v := ?_) rfl rfl (wanted_none rfl) hHeld (fun ρ hρ w hSw => ?_) ?_
  rotate_left
  ·(have e70 := Eq.trans (hρ.tmp hsz 70 rfl) (miss1 rfl (miss1 rfl lkp_hit)); clear hρ; (try dsimp only at hSw); go_simp; try with_reducible rfl)
  show wpOrd _ _ _ _ _ _ _ _
  refine ord_take (i := 15) (d := 17) (v := ?_) rfl rfl (wanted_none rfl) hHeld (fun ρ hρ w hSw => ?_) ?_
  rotate_left
  ·(have e71 := Eq.trans (hρ.tmp hsz 71 rfl) (miss1 rfl (miss1 rfl lkp_hit)); clear hρ; (try dsimp only at hSw); go_simp; try with_reducible rfl)
  show wpOrd _ _ _ _ _ _ _ _
  refine ord_done hn2 ?_
  clear hHeld hn2 b4 b1 b6 hsz A Q2
  simp only [puts_nil, puts_cons, put_lit, set_1, set_0]
  go_upto_region 9 with (fail)
  refine wp_region_ord (S := fun W' => ((W'.cell? ⟨w.heap.size, 0, none⟩ = some (.slice An nn cn) ∧ W'.cell? ⟨w.heap.size, 1, none⟩ = some (.slice (some ⟨b0, off, none⟩) nd cd)) ∧ W'.cell? ⟨w.heap.size + 1, 0, none⟩ = some (.int .i64 d) ∧ W'.cell? ⟨w.heap.size + 1, 1, none⟩ = some (.int .i64 1)) ∧ (W'.cell? ⟨vb, 1, none⟩ = some (.int .i64 kd) ∧ W'.cell? ⟨vb, 2, none⟩ = some (.int .i64 a)) ∧ W'.cell? ⟨w.heap.size + 2, 2, none⟩ = some (.slice Ap np cp) ∧ (W'.cell? ⟨b1, 0, none⟩ = some (.int .i64 4) ∧ W'.cell? ⟨b1, 1, none⟩ = some (.bool t1)) ∧ W'.cell? ⟨b1 + 1, 0, none⟩ = some (.int .i64 6) ∧ W'.cell? ⟨b1 + 1, 1, none⟩ = some (.bool t2)) (J := []) (n := _) ((0, true) :: (1, true) :: (2, true) :: (3, true) :: (4, true) :: (5, true) :: (6, true) :: (7, true) :: (8, true) :: (9, true) :: (10, true) :: (11, true) :: (12, true) :: (13, true) :: (16, true) :: (17, true) :: (18, true) :: (19, true) :: (20, true) :: (14, false) :: (15, true) :: (21, true) :: (22, true) :: (23, true) :: (24, true) :: (25, true) :: (26, true) :: (27, true) :: (28, true) :: (29, true) :: (30, true) :: (31, true) :: (32, true) :: (33, true) :: (34, true) :: (35, false) :: (36, false) :: (37, true) :: []) (by as_aux_lemma => kernel_rfl) (by rfl) (base_cons (k := 10) (by go_simp; rfl) (base_cons (k := 11) (by go_simp; rfl) (base_cons (k := 14) (by go_simp; rfl) (base_cons (k := 4) (by go_simp; rfl) (base_cons (k := 1) (by go_simp; rfl) (base_cons (k := 6) (by go_simp; rfl) (base_cons (k := 9) (by go_simp; rfl) (base_cons (k := 12) (by go_simp; rfl) (base_cons (k := 15) (by go_simp; rfl) base_nil))))))))) ?_ (fun _ _ _ _ _ h => h) (fun Q2 A hsz hbase hn2 hHeld => ?_)
  ·exact HU2.out.cells
  try dsimp only at hHeld
  obtain ⟨b10, b11, b14, b4, b1, b6, b9, b12, b15, -⟩ := hbase
  refine ord_take (i := 0) (d := 72) (v := ?_) rfl rfl (wanted_none rfl) hHeld (fun ρ hρ w hSw => ?_) ?_
  rotate_left
  ·(have e10 := Eq.trans (hρ.tmp hsz 10 rfl) (lkp_base b10); clear hρ; (try dsimp only at hSw); go_simp; try with_reducible rfl)
  show wpOrd _ _ _ _ _ _ _ _
  refine ord_take (i := 1) (d := 73) (v := ?_) rfl rfl (wanted_none rfl) hHeld (fun ρ hρ w hSw => ?_) ?_
  rotate_left
  ·(have e11 := Eq.trans (hρ.tmp hsz 11 rfl) (miss1 rfl (lkp_base b11)); clear hρ; (try dsimp only at hSw); go_simp; try with_reducible rfl)
  show wpOrd _ _ _ _ _ _ _ _
  refine ord_move (i := 2) (d := 74) (v := ?_) rfl rfl rfl (wanted_none rfl) hHeld (fun ρ hρ => ?_) ?_
  rotate_left
  ·(have e14 := Eq.trans (hρ.tmp hsz 14 rfl) (miss1 rfl (miss1 rfl (lkp_base b14))); exact e14)
  show wpOrd _ _ _ _ _ _ _ _
  refine ord_move (i := 3) (d := 75) (v := ?_) rfl rfl rfl (wanted_none rfl) hHeld (fun ρ hρ => ?_) ?_
  rotate_left
  ·(have e74 := Eq.trans (hρ.tmp hsz 74 rfl) lkp_hit; exact e74)
  show wpOrd _ _ _ _ _ _ _ _
  refine ord_skip (i := 4) (d := 76) rfl rfl (wanted_no (j := 3) (dj := 75) (b := true) (b' := false) rfl hsz rfl rfl rfl lkp_hit rfl) hHeld ?_
  show wpOrd _ _ _ _ _ _ _ _
  refine ord_skip (i := 5) (d := 77) rfl rfl (wanted_no (j := 3) (dj := 75) (b := true) (b' := false) rfl hsz rfl rfl rfl (miss1 rfl lkp_hit) rfl) hHeld ?_
  show wpOrd _ _ _ _ _ _ _ _
  refine ord_take (i := 6) (d := 78) (v := ?_) rfl rfl (wanted_none rfl) hHeld (fun ρ hρ w hSw => ?_) ?_
  rotate_left
  ·(have hc := hρ.const; have e75 := Eq.trans (hρ.tmp hsz 75 rfl) (miss1 rfl (miss1 rfl lkp_hit)); have e77 := Eq.trans (hρ.tmp hsz 77 rfl) lkp_hit; clear hρ; (try dsimp only at hSw); go_simp; try with_reducible rfl)
  show wpOrd _ _ _ _ _ _ _ _
  refine ord_take (i := 7) (d := 79) (v := ?_) rfl rfl (wanted_none rfl) hHeld (fun ρ hρ w hSw => ?_) ?_
  rotate_left
  ·(have hc := hρ.const; have e78 := Eq.trans (hρ.tmp hsz 78 rfl) lkp_hit; clear hρ; (try dsimp only at hSw); go_simp; try with_reducible rfl)
  show wpOrd _ _ _ _ _ _ _ _
  refine ord_take (i := 8) (d := 80) (v := ?_) rfl rfl (wanted_none rfl) hHeld (fun ρ hρ w hSw => ?_) ?_
  rotate_left
  ·(have e4 := Eq.trans (hρ.tmp hsz 4 rfl) (miss4 rfl rfl rfl rfl (miss4 rfl rfl rfl rfl (lkp_base b4))); clear hρ; (try dsimp only at hSw); go_simp; try with_reducible rfl)
  show wpOrd _ _ _ _ _ _ _ _
  refine ord_move (i := 9) (d := 81) (v := ?_) rfl rfl rfl (wanted_none rfl) hHeld (fun ρ hρ => ?_) ?_
  rotate_left
  ·(have e1 := Eq.trans (hρ.tmp hsz 1 rfl) (miss4 rfl rfl rfl rfl (miss4 rfl rfl rfl rfl (miss1 rfl (lkp_base b1)))); exact e1)
  show wpOrd _ _ _ _ _ _ _ _
  refine ord_take (i := 10) (d := 82) (v := ?_) rfl rfl (wanted_none rfl) hHeld (fun ρ hρ w hSw => ?_) ?_
  rotate_left
  ·(have e6 := Eq.trans (hρ.tmp hsz 6 rfl) (miss4 rfl rfl rfl rfl (miss4 rfl rfl rfl rfl (miss1 rfl (miss1 rfl (lkp_base b6))))); clear hρ; (try dsimp only at hSw); go_simp; try with_reducible rfl)
  show wpOrd _ _ _ _ _ _ _ _
  refine ord_take (i := 11) (d := 83) (v := ?_) rfl rfl (wanted_none rfl) hHeld (fun ρ hρ w hSw => ?_) ?_
  rotate_left
  ·(have e9 := Eq.trans (hρ.tmp hsz 9 rfl) (miss4 rfl rfl rfl rfl (miss4 rfl rfl rfl rfl (miss1 rfl (miss1 rfl (miss1 rfl (lkp_base b9)))))); clear hρ; (try dsimp only at hSw); go_simp; try with_reducible rfl)
  show wpOrd _ _ _ _ _ _ _ _
  refine ord_take (i := 12) (d := 84) (v := ?_) rfl rfl (wanted_none rfl) hHeld (fun ρ hρ w hSw => ?_) ?_
  rotate_left
  ·(have e83 := Eq.trans (hρ.tmp hsz 83 rfl) lkp_hit; clear hρ; (try dsimp only at hSw); go_simp; try with_reducible rfl)
  show wpOrd _ _ _ _ _ _ _ _
  refine ord_move (i := 13) (d := 85) (v := ?_) rfl rfl rfl (wanted_none rfl) hHeld (fun ρ hρ => ?_) ?_
  rotate_left
  ·(have e12 := Eq.trans (hρ.tmp hsz 12 rfl) (miss4 rfl rfl rfl rfl (miss4 rfl rfl rfl rfl (miss4 rfl rfl rfl rfl (miss1 rfl (lkp_base b12))))); exact e12)
  show wpOrd _ _ _ _ _ _ _ _
  refine ord_move (i := 16) (d := 88) (v := ?_) rfl rfl rfl (wanted_none rfl) hHeld (fun ρ hρ => ?_) ?_
  rotate_left
  ·(have e15 := Eq.trans (hρ.tmp hsz 15 rfl) (miss4 rfl rfl rfl rfl (miss4 rfl rfl rfl rfl (miss4 rfl rfl rfl rfl (miss1 rfl (miss1 rfl (lkp_base b15)))))); exact e15)
  show wpOrd _ _ _ _ _ _ _ _
  refine ord_take (i := 17) (d := 89) (v := ?_) rfl rfl (wanted_none rfl) hHeld (fun ρ hρ w hSw => ?_) ?_
  rotate_left
  ·(have e88 := Eq.trans (hρ.tmp hsz 88 rfl) lkp_hit; clear hρ; (try dsimp only at hSw); go_simp; try with_reducible rfl)
  show wpOrd _ _ _ _ _ _ _ _
  refine ord_take (i := 18) (d := 90) (v := ?_) rfl rfl (wanted_none rfl) hHeld (fun ρ hρ w hSw => ?_) ?_
  rotate_left
  ·(have hc := hρ.const; have e89 := Eq.trans (hρ.tmp hsz 89 rfl) lkp_hit; clear hρ; (try dsimp only at hSw); go_simp; try with_reducible rfl)
  show wpOrd _ _ _ _ _ _ _ _
  refine ord_take (i := 19) (d := 91) (v := ?_) rfl rfl (wanted_none rfl) hHeld (fun ρ hρ w hSw => ?_) ?_
  rotate_left
  ·(have hc := hρ.const; have e90 := Eq.trans (hρ.tmp hsz 90 rfl) lkp_hit; clear hρ; (try dsimp only at hSw); go_simp; try with_reducible rfl)
  show wpOrd _ _ _ _ _ _ _ _
  refine ord_move (i := 20) (d := 92) (v := ?_) rfl rfl rfl (wanted_none rfl) hHeld (fun ρ hρ => ?_) ?_
  rotate_left
  ·(have e14 := Eq.trans (hρ.tmp hsz 14 rfl) (miss4 rfl rfl rfl rfl (miss4 rfl rfl rfl rfl (miss4 rfl rfl rfl rfl (miss4 rfl rfl rfl rfl (miss1 rfl (miss1 rfl (lkp_base b14))))))); exact e14)
  show wpOrd _ _ _ _ _ _ _ _
  refine ord_call (i := 14) (d := 86) (vs := ?_) rfl rfl rfl (wanted_none rfl) (fun ρ hρ => ?_) ?_ ?_
  rotate_left
  ·(have e80 := Eq.trans (hρ.tmp hsz 80 rfl) (miss4 rfl rfl rfl rfl (miss4 rfl rfl rfl rfl (miss1 rfl (miss1 rfl lkp_hit)))); have e81 := Eq.trans (hρ.tmp hsz 81 rfl) (miss4 rfl rfl rfl rfl (miss4 rfl rfl rfl rfl (miss1 rfl lkp_hit))); have e82 := Eq.trans (hρ.tmp hsz 82 rfl) (miss4 rfl rfl rfl rfl (miss4 rfl rfl rfl rfl lkp_hit)); have e84 := Eq.trans (hρ.tmp hsz 84 rfl) (miss4 rfl rfl rfl rfl (miss1 rfl (miss1 rfl lkp_hit))); have e85 := Eq.trans (hρ.tmp hsz 85 rfl) (miss4 rfl rfl rfl rfl (miss1 rfl lkp_hit)); simp only [List.map_toArray, List.map_cons, List.map_nil, e80, e81, e82, e84, e85]; try with_reducible rfl)
  ·(intro w; go_simp)
  refine (bad_any An (some ⟨b0, off, none⟩) (some ⟨bs, of2, none⟩) nn cn nd cd n c Bd Bs d 1 du kd ds s ⟨nm, kd, a, b, co2⟩ u2.drew (HD.out.below HU2.out.bl.drew hBd) (Nat.le_trans hBd HU2.out.bl.size) (HS.out.below HU2.out.bl.drew hBs) (Nat.le_trans hBs HU2.out.bl.size) hnn (by omega) hnd HE.out HA.out hi HX.out rfl hk6).mono ?_
  rintro e u3 ⟨rfl, hb⟩
  have HU3 := Lib.hid ((show HzQ _ _ _ _ _ _ _ _ _ _ u2.drew from ⟨HU2.out.bl.drew, HU2.out.bn, HU2.out.bo, HU2.out.bg, HU2.out.bv, HU2.out.b1, HU2.out.b2⟩).later hb)
  clear hb
  refine ⟨_, rfl, fun _ => ?_, fun hHeld' => ?_⟩
  ·exact HU3.out.cells
  replace hHeld := hHeld' rfl
  clear hHeld'
  try dsimp only at hHeld
  show wpOrd _ _ _ _ _ _ _ _
  refine ord_take (i := 15) (d := 87) (v := ?_) rfl rfl (wanted_none rfl) hHeld (fun ρ hρ w hSw => ?_) ?_
  rotate_left
  ·(have hc := hρ.const; have e86 := Eq.trans (hρ.tmp hsz 86 rfl) lkp_hit; clear hρ; (try dsimp only at hSw); go_simp; try with_reducible rfl)
  show wpOrd _ _ _ _ _ _ _ _
  refine ord_move (i := 21) (d := 93) (v := ?_) rfl rfl rfl (wanted_none rfl) hHeld (fun ρ hρ => ?_) ?_
  rotate_left
  ·(have e92 := Eq.trans (hρ.tmp hsz 92 rfl) (miss1 rfl (miss1 rfl lkp_hit)); exact e92)
  show wpOrd _ _ _ _ _ _ _ _
  refine ord_skip (i := 22) (d := 94) rfl rfl (wanted_no (j := 21) (dj := 93) (b := true) (b' := false) rfl hsz rfl rfl rfl lkp_hit rfl) hHeld ?_
  show wpOrd _ _ _ _ _ _ _ _
  refine ord_skip (i := 23) (d := 95) rfl rfl (wanted_no (j := 21) (dj := 93) (b := true) (b' := false) rfl hsz rfl rfl rfl (miss1 rfl lkp_hit) rfl) hHeld ?_
  show wpOrd _ _ _ _ _ _ _ _
  refine ord_skip (i := 24) (d := 96) rfl rfl (wanted_no (j := 21) (dj := 93) (b := true) (b' := false) rfl hsz rfl rfl rfl (miss1 rfl (miss1 rfl lkp_hit)) rfl) hHeld ?_
  show wpOrd _ _ _ _ _ _ _ _
  refine ord_take (i := 25) (d := 97) (v := ?_) rfl rfl (wanted_none rfl) hHeld (fun ρ hρ w hSw => ?_) ?_
  rotate_left
  ·(have hc := hρ.const; have e93 := Eq.trans (hρ.tmp hsz 93 rfl) (miss1 rfl (miss1 rfl (miss1 rfl lkp_hit))); have e96 := Eq.trans (hρ.tmp hsz 96 rfl) lkp_hit; clear hρ; (try dsimp only at hSw); go_simp; try with_reducible rfl)
  show wpOrd _ _ _ _ _ _ _ _
  refine ord_move (i := 26) (d := 98) (v := ?_) rfl rfl rfl (wanted_none rfl) hHeld (fun ρ hρ => ?_) ?_
  rotate_left
  ·(have e97 := Eq.trans (hρ.tmp hsz 97 rfl) lkp_hit; exact e97)
  show wpOrd _ _ _ _ _ _ _ _
  refine ord_skip (i := 27) (d := 99) rfl rfl (wanted_no (j := 26) (dj := 98) (b := true) (b' := false) rfl hsz rfl rfl rfl lkp_hit rfl) hHeld ?_
  show wpOrd _ _ _ _ _ _ _ _
  refine ord_skip (i := 28) (d := 100) rfl rfl (wanted_no (j := 26) (dj := 98) (b := true) (b' := false) rfl hsz rfl rfl rfl (miss1 rfl lkp_hit) rfl) hHeld ?_
  show wpOrd _ _ _ _ _ _ _ _
  refine ord_skip (i := 29) (d := 101) rfl rfl (wanted_no (j := 26) (dj := 98) (b := true) (b' := false) rfl hsz rfl rfl rfl (miss1 rfl (miss1 rfl lkp_hit)) rfl) hHeld ?_
  show wpOrd _ _ _ _ _ _ _ _
  refine ord_skip (i := 30) (d := 102) rfl rfl (wanted_no (j := 26) (dj := 98) (b := true) (b' := false) rfl hsz rfl rfl rfl (miss1 rfl (miss1 rfl (miss1 rfl lkp_hit))) rfl) hHeld ?_
  show wpOrd _ _ _ _ _ _ _ _
  refine ord_skip (i := 31) (d := 103) rfl rfl (wanted_no (j := 26) (dj := 98) (b := true) (b' := false) rfl hsz rfl rfl rfl (miss4 rfl rfl rfl rfl lkp_hit) rfl) hHeld ?_
  show wpOrd _ _ _ _ _ _ _ _
  refine ord_skip (i := 32) (d := 104) rfl rfl (wanted_no (j := 26) (dj := 98) (b := true) (b' := false) rfl hsz rfl rfl rfl (miss4 rfl rfl rfl rfl (miss1 rfl lkp_hit)) rfl) hHeld ?_
  show wpOrd _ _ _ _ _ _ _ _
  refine ord_take (i := 33) (d := 105) (v := ?_) rfl rfl (wanted_none rfl) hHeld (fun ρ hρ w hSw => ?_) ?_
  rotate_left
  ·(have hc := hρ.const; have e98 := Eq.trans (hρ.tmp hsz 98 rfl) (miss4 rfl rfl rfl rfl (miss1 rfl (miss1 rfl lkp_hit))); have e104 := Eq.trans (hρ.tmp hsz 104 rfl) lkp_hit; clear hρ; (try dsimp only at hSw); go_simp; try with_reducible rfl)
  show wpOrd _ _ _ _ _ _ _ _
  refine ord_take (i := 34) (d := 106) (v := ?_) rfl rfl (wanted_none rfl) hHeld (fun ρ hρ w hSw => ?_) ?_
  rotate_left
  ·(have hc := hρ.const; have e105 := Eq.trans (hρ.tmp hsz 105 rfl) lkp_hit; clear hρ; (try dsimp only at hSw); go_simp; try with_reducible rfl)
  show wpOrd _ _ _ _ _ _ _ _
  refine ord_run (i := 35) (d := 107) (v := ?_) (w' := ?_) rfl rfl (wanted_none rfl) (fun ρ hρ => ?_) ?_ ?_
  rotate_left 2
  ·(have e72 := Eq.trans (hρ.tmp hsz 72 rfl) (miss4 rfl rfl rfl rfl (miss4 rfl rfl rfl rfl (miss4 rfl rfl rfl rfl (miss4 rfl rfl rfl rfl (miss4 rfl rfl rfl rfl (miss4 rfl rfl rfl rfl (miss4 rfl rfl rfl rfl (miss4 rfl rfl rfl rfl (miss1 rfl (miss1 rfl lkp_hit)))))))))); have e73 := Eq.trans (hρ.tmp hsz 73 rfl) (miss4 rfl rfl rfl rfl (miss4 rfl rfl rfl rfl (miss4 rfl rfl rfl rfl (miss4 rfl rfl rfl rfl (miss4 rfl rfl rfl rfl (miss4 rfl rfl rfl rfl (miss4 rfl rfl rfl rfl (miss4 rfl rfl rfl rfl (miss1 rfl lkp_hit))))))))); have e79 := Eq.trans (hρ.tmp hsz 79 rfl) (miss4 rfl rfl rfl rfl (miss4 rfl rfl rfl rfl (miss4 rfl rfl rfl rfl (miss4 rfl rfl rfl rfl (miss4 rfl rfl rfl rfl (miss4 rfl rfl rfl rfl (miss1 rfl (miss1 rfl (miss1 rfl lkp_hit))))))))); have e87 := Eq.trans (hρ.tmp hsz 87 rfl) (miss4 rfl rfl rfl rfl (miss4 rfl rfl rfl rfl (miss4 rfl rfl rfl rfl (miss1 rfl (miss1 rfl lkp_hit))))); have e91 := Eq.trans (hρ.tmp hsz 91 rfl) (miss4 rfl rfl rfl rfl (miss4 rfl rfl rfl rfl (miss4 rfl rfl rfl rfl (miss4 rfl rfl rfl rfl (miss1 rfl lkp_hit))))); have e106 := Eq.trans (hρ.tmp hsz 106 rfl) lkp_hit; clear hρ; go_simp; first | with_reducible rfl | (constructor <;> with_reducible rfl))
  ·refine fun _ => ?_
   exact (HU3.out.later ((Below.refl _ _).alloc (Nat.le_refl _) _)).cells
  intro hHeld'
  replace hHeld := hHeld' rfl
  clear hHeld'
  try dsimp only at hHeld
  show wpOrd _ _ _ _ _ _ _ _
  refine ord_call (i := 36) (d := 108) (vs := ?_) rfl rfl rfl (wanted_none rfl) (fun ρ hρ => ?_) ?_ ?_
  rotate_left
  ·(have e107 := Eq.trans (hρ.tmp hsz 107 rfl) lkp_hit; simp only [List.map_toArray, List.map_cons, List.map_nil, e107]; try with_reducible rfl)
  ·(intro w; go_simp)
  refine (list_any _ 6 6 (u3.heap.size + 1) [(4, t1), (6, t2), (1, false), (2, badB kd 1 du (lvE (colsOf nn ds s) ⟨nm, kd, a, b, co2⟩)), (3, decide (0 < mo)), (5, false)] _ (Sl.newest rfl (by rfl) (by decide)) (by simp) (by decide)).mono ?_
  rintro e u5 ⟨A5, c5, rfl, hO5, hb5⟩
  have HU5 := Lib.hid ((HU3.out.later ((Below.refl _ _).alloc (Nat.le_refl _) _)).later hb5.out)
  have HO5 := Lib.hid (hO5.out.mono (base' := w.heap.size) (by have := HU3.out.bl.size; simp; omega))
  clear hO5 hb5
  refine ⟨_, rfl, fun _ => ?_, fun hHeld' => ?_⟩
  ·exact HU5.out.cells
  replace hHeld := hHeld' rfl
  clear hHeld'
  try dsimp only at hHeld
  show wpOrd _ _ _ _ _ _ _ _
  refine ord_take (i := 37) (d := 8) (v := ?_) rfl rfl (wanted_none rfl) hHeld (fun ρ hρ w hSw => ?_) ?_
  rotate_left
  ·(have e108 := Eq.trans (hρ.tmp hsz 108 rfl) lkp_hit; clear hρ; (try dsimp only at hSw); go_simp; try with_reducible rfl)
  show wpOrd _ _ _ _ _ _ _ _
  refine ord_done hn2 ?_
  clear hHeld hn2 b10 b11 b14 b4 b1 b6 b9 b12 b15 hsz A Q2
  simp only [puts_nil, puts_cons, put_lit, set_1, set_0]
  go_wp2_with fail
  go_ret
  rw [HRR.out, ← HLO.out]
  exact ⟨A5, c5, rfl, HO5, HU5.out.bl⟩
 ·go_upto_region 8 with (fail)
  refine wp_region_ord (S := fun W' => ((W'.cell? ⟨w.heap.size, 0, none⟩ = some (.slice An nn cn) ∧ W'.cell? ⟨w.heap.size, 1, none⟩ = some (.slice (some ⟨b0, off, none⟩) nd cd)) ∧ W'.cell? ⟨w.heap.size + 1, 0, none⟩ = some (.int .i64 d) ∧ W'.cell? ⟨w.heap.size + 1, 1, none⟩ = some (.int .i64 2)) ∧ (W'.cell? ⟨vb, 1, none⟩ = some (.int .i64 kd) ∧ W'.cell? ⟨vb, 2, none⟩ = some (.int .i64 a)) ∧ W'.cell? ⟨w.heap.size + 2, 2, none⟩ = some (.slice Ap np cp) ∧ (W'.cell? ⟨b1, 0, none⟩ = some (.int .i64 4) ∧ W'.cell? ⟨b1, 1, none⟩ = some (.bool t1)) ∧ W'.cell? ⟨b1 + 1, 0, none⟩ = some (.int .i64 6) ∧ W'.cell? ⟨b1 + 1, 1, none⟩ = some (.bool t2)) (J := []) (n := _) ((0, true) :: (1, true) :: (2, true) :: (3, true) :: (4, true) :: (5, true) :: (6, true) :: (7, false) :: (8, false) :: (9, true) :: (10, true) :: (11, true) :: (12, true) :: (13, true) :: (14, true) :: (15, true) :: []) (by as_aux_lemma => kernel_rfl) (by rfl) (base_cons (k := 4) (by go_simp; rfl) (base_cons (k := 1) (by go_simp; rfl) (base_cons (k := 6) (by go_simp; rfl) base_nil))) ?_ (fun _ _ _ _ _ h => h) (fun Q2 A hsz hbase hn2 hHeld => ?_)
  ·exact HQ6.out.cells
  try dsimp only at hHeld
  obtain ⟨b4, b1, b6, -⟩ := hbase
  refine ord_take (i := 0) (d := 60) (v := ?_) rfl rfl (wanted_none rfl) hHeld (fun ρ hρ w hSw => ?_) ?_
  rotate_left
  ·(have e4 := Eq.trans (hρ.tmp hsz 4 rfl) (lkp_base b4); clear hρ; (try dsimp only at hSw); go_simp; try with_reducible rfl)
  show wpOrd _ _ _ _ _ _ _ _
  refine ord_move (i := 1) (d := 61) (v := ?_) rfl rfl rfl (wanted_none rfl) hHeld (fun ρ hρ => ?_) ?_
  rotate_left
  ·(have e1 := Eq.trans (hρ.tmp hsz 1 rfl) (miss1 rfl (lkp_base b1)); exact e1)
  show wpOrd _ _ _ _ _ _ _ _
  refine ord_move (i := 2) (d := 62) (v := ?_) rfl rfl rfl (wanted_none rfl) hHeld (fun ρ hρ => ?_) ?_
  rotate_left
  ·(have e1 := Eq.trans (hρ.tmp hsz 1 rfl) (miss1 rfl (miss1 rfl (lkp_base b1))); exact e1)
  show wpOrd _ _ _ _ _ _ _ _
  refine ord_take (i := 3) (d := 63) (v := ?_) rfl rfl (wanted_none rfl) hHeld (fun ρ hρ w hSw => ?_) ?_
  rotate_left
  ·(have e6 := Eq.trans (hρ.tmp hsz 6 rfl) (miss1 rfl (miss1 rfl (miss1 rfl (lkp_base b6)))); clear hρ; (try dsimp only at hSw); go_simp; try with_reducible rfl)
  show wpOrd _ _ _ _ _ _ _ _
  refine ord_take (i := 4) (d := 64) (v := ?_) rfl rfl (wanted_none rfl) hHeld (fun ρ hρ w hSw => ?_) ?_
  rotate_left
  ·(have e63 := Eq.trans (hρ.tmp hsz 63 rfl) lkp_hit; clear hρ; (try dsimp only at hSw); go_simp; try with_reducible rfl)
  show wpOrd _ _ _ _ _ _ _ _
  refine ord_take (i := 5) (d := 65) (v := ?_) rfl rfl (wanted_none rfl) hHeld (fun ρ hρ w hSw => ?_) ?_
  rotate_left
  ·(have e6 := Eq.trans (hρ.tmp hsz 6 rfl) (miss4 rfl rfl rfl rfl (miss1 rfl (lkp_base b6))); clear hρ; (try dsimp only at hSw); go_simp; try with_reducible rfl)
  show wpOrd _ _ _ _ _ _ _ _
  refine ord_take (i := 6) (d := 66) (v := ?_) rfl rfl (wanted_none rfl) hHeld (fun ρ hρ w hSw => ?_) ?_
  rotate_left
  ·(have e65 := Eq.trans (hρ.tmp hsz 65 rfl) lkp_hit; clear hρ; (try dsimp only at hSw); go_simp; try with_reducible rfl)
  show wpOrd _ _ _ _ _ _ _ _
  refine ord_call (i := 7) (d := 67) (vs := ?_) rfl rfl rfl (wanted_none rfl) (fun ρ hρ => ?_) ?_ ?_
  rotate_left
  ·(have e62 := Eq.trans (hρ.tmp hsz 62 rfl) (miss4 rfl rfl rfl rfl lkp_hit); have e64 := Eq.trans (hρ.tmp hsz 64 rfl) (miss1 rfl (miss1 rfl lkp_hit)); have e66 := Eq.trans (hρ.tmp hsz 66 rfl) lkp_hit; simp only [List.map_toArray, List.map_cons, List.map_nil, e62, e64, e66]; try with_reducible rfl)
  ·(intro w; go_simp)
  refine (with_any (some ⟨bs, of2, none⟩) n c Bs s d 2 w5.drew (HS.out.below HQ6.out.bl.drew hBs) (Nat.le_trans hBs HQ6.out.bl.size) (by omega)).mono ?_
  rintro e u1 ⟨At, ct, rfl, hOt, hbt⟩
  have HU1 := Lib.hid ((show HzQ _ _ _ _ _ _ _ _ _ _ w5.drew from ⟨HQ6.out.bl.drew, HQ6.out.bn, HQ6.out.bo, HQ6.out.bg, HQ6.out.bv, HQ6.out.b1, HQ6.out.b2⟩).later hbt.out)
  have HOT := Lib.hid hOt.out.sl
  clear hOt hbt
  refine ⟨_, rfl, fun _ => ?_, fun hHeld' => ?_⟩
  ·exact HU1.out.cells
  replace hHeld := hHeld' rfl
  clear hHeld'
  try dsimp only at hHeld
  show wpOrd _ _ _ _ _ _ _ _
  refine ord_call (i := 8) (d := 68) (vs := ?_) rfl rfl rfl (wanted_none rfl) (fun ρ hρ => ?_) ?_ ?_
  rotate_left
  ·(have e60 := Eq.trans (hρ.tmp hsz 60 rfl) (miss4 rfl rfl rfl rfl (miss1 rfl (miss1 rfl (miss1 rfl lkp_hit)))); have e61 := Eq.trans (hρ.tmp hsz 61 rfl) (miss4 rfl rfl rfl rfl (miss1 rfl (miss1 rfl lkp_hit))); have e67 := Eq.trans (hρ.tmp hsz 67 rfl) lkp_hit; simp only [List.map_toArray, List.map_cons, List.map_nil, e60, e61, e67]; try with_reducible rfl)
  ·(intro w; go_simp)
  refine (Lost_ok An (some ⟨b0, off, none⟩) (some ⟨bs, of2, none⟩) At nn cn nd cd n c (withL s d 2).length ct Bn Bd Bs u1.heap.size ns ds s (withL s d 2) u1 (HL.out.below HU1.out.bl (Nat.le_refl _)) (HN.out.below HU1.out.bl hBn) (Nat.le_trans hBn HU1.out.bl.size) (HD.out.below HU1.out.bl hBd) (Nat.le_trans hBd HU1.out.bl.size) (HS.out.below HU1.out.bl hBs) (Nat.le_trans hBs HU1.out.bl.size) HOT.out (Nat.le_refl _) HSN.out HSD.out HST.out HS2E.out hnn (by omega) hnd (by rw [withL_len, HLN.out]; exact hnd) HE.out HA.out).mono ?_
  rintro e u2 ⟨Ao, mo, co3, lo, ko, rfl, hLO1, hLO2, hLO3, hb⟩
  have HU2 := Lib.hid (HU1.out.later hb.out)
  have HLO := Lib.hid (lostB_of hLO2.out hLO1.out)
  have hmo := hLO3.out.sl.le
  clear hb hLO1 hLO2 hLO3
  refine ⟨_, rfl, fun _ => ?_, fun hHeld' => ?_⟩
  ·exact HU2.out.cells
  replace hHeld := hHeld' rfl
  clear hHeld'
  try dsimp only at hHeld
  show wpOrd _ _ _ _ _ _ _ _
  refine ord_move (i := 9) (d := 59) (v := ?_) rfl rfl rfl (wanted_none rfl) hHeld (fun ρ hρ => ?_) ?_
  rotate_left
  ·(have e68 := Eq.trans (hρ.tmp hsz 68 rfl) lkp_hit; exact e68)
  show wpOrd _ _ _ _ _ _ _ _
  refine ord_take (i := 10) (d := 69) (v := ?_) rfl rfl (wanted_none rfl) hHeld (fun ρ hρ w hSw => ?_) ?_
  rotate_left
  ·(have e59 := Eq.trans (hρ.tmp hsz 59 rfl) lkp_hit; clear hρ; (try dsimp only at hSw); go_simp; try with_reducible rfl)
  show wpOrd _ _ _ _ _ _ _ _
  refine ord_take (i := 11) (d := 70) (v := ?_) rfl rfl (wanted_none rfl) hHeld (fun ρ hρ w hSw => ?_) ?_
  rotate_left
  ·(have e59 := Eq.trans (hρ.tmp hsz 59 rfl) (miss1 rfl lkp_hit); clear hρ; (try dsimp only at hSw); go_simp; try with_reducible rfl)
  show wpOrd _ _ _ _ _ _ _ _
  refine ord_take (i := 12) (d := 71) (v := ?_) rfl rfl (wanted_none rfl) hHeld (fun ρ hρ w hSw => ?_) ?_
  rotate_left
  ·(have e59 := Eq.trans (hρ.tmp hsz 59 rfl) (miss1 rfl (miss1 rfl lkp_hit)); clear hρ; (try dsimp only at hSw); go_simp; try with_reducible rfl)
  show wpOrd _ _ _ _ _ _ _ _
  refine ord_take (i := 13) (d := 15) (v := ?_) rfl rfl (wanted_none rfl) hHeld (fun ρ hρ w hSw => ?_) ?_
  rotate_left
  ·(have e69 := Eq.trans (hρ.tmp hsz 69 rfl) (miss1 rfl (miss1 rfl lkp_hit)); clear hρ; (try dsimp only at hSw); go_simp; try with_reducible rfl)
  show wpOrd _ _ _ _ _ _ _ _
  refine ord_take (i := 14) (d := 16) (v := ?_) rfl rfl (wanted_none rfl) hHeld (fun ρ hρ w hSw => ?_) ?_
  rotate_left
  ·(have e70 := Eq.trans (hρ.tmp hsz 70 rfl) (miss1 rfl (miss1 rfl lkp_hit)); clear hρ; (try dsimp only at hSw); go_simp; try with_reducible rfl)
  show wpOrd _ _ _ _ _ _ _ _
  refine ord_take (i := 15) (d := 17) (v := ?_) rfl rfl (wanted_none rfl) hHeld (fun ρ hρ w hSw => ?_) ?_
  rotate_left
  ·(have e71 := Eq.trans (hρ.tmp hsz 71 rfl) (miss1 rfl (miss1 rfl lkp_hit)); clear hρ; (try dsimp only at hSw); go_simp; try with_reducible rfl)
  show wpOrd _ _ _ _ _ _ _ _
  refine ord_done hn2 ?_
  clear hHeld hn2 b4 b1 b6 hsz A Q2
  simp only [puts_nil, puts_cons, put_lit, set_1, set_0]
  go_upto_region 9 with (fail)
  by_cases hk : kd = 4
  ·subst hk
   refine wp_region_ord (S := fun W' => ((W'.cell? ⟨w.heap.size, 0, none⟩ = some (.slice An nn cn) ∧ W'.cell? ⟨w.heap.size, 1, none⟩ = some (.slice (some ⟨b0, off, none⟩) nd cd)) ∧ W'.cell? ⟨w.heap.size + 1, 0, none⟩ = some (.int .i64 d) ∧ W'.cell? ⟨w.heap.size + 1, 1, none⟩ = some (.int .i64 2)) ∧ (W'.cell? ⟨vb, 1, none⟩ = some (.int .i64 4) ∧ W'.cell? ⟨vb, 2, none⟩ = some (.int .i64 a)) ∧ W'.cell? ⟨w.heap.size + 2, 2, none⟩ = some (.slice Ap np cp) ∧ (W'.cell? ⟨b1, 0, none⟩ = some (.int .i64 4) ∧ W'.cell? ⟨b1, 1, none⟩ = some (.bool t1)) ∧ W'.cell? ⟨b1 + 1, 0, none⟩ = some (.int .i64 6) ∧ W'.cell? ⟨b1 + 1, 1, none⟩ = some (.bool t2)) (J := []) (n := _) ((0, true) :: (1, true) :: (2, true) :: (3, true) :: (4, true) :: (5, true) :: (6, true) :: (7, true) :: (8, true) :: (9, true) :: (10, true) :: (11, true) :: (12, true) :: (13, true) :: (16, true) :: (17, true) :: (18, true) :: (19, true) :: (20, true) :: (14, false) :: (15, true) :: (21, true) :: (22, true) :: (23, true) :: (24, true) :: (25, true) :: (26, true) :: (27, true) :: (28, true) :: (29, true) :: (30, true) :: (31, false) :: (32, true) :: (33, true) :: (34, true) :: (35, false) :: (36, false) :: (37, true) :: []) (by as_aux_lemma => kernel_rfl) (by rfl) (base_cons (k := 10) (by go_simp; rfl) (base_cons (k := 11) (by go_simp; rfl) (base_cons (k := 14) (by go_simp; rfl) (base_cons (k := 12) (by go_simp; rfl) (base_cons (k := 4) (by go_simp; rfl) (base_cons (k := 1) (by go_simp; rfl) (base_cons (k := 6) (by go_simp; rfl) (base_cons (k := 9) (by go_simp; rfl) (base_cons (k := 15) (by go_simp; rfl) (base_cons (k := 7) (by go_simp; rfl) base_nil)))))))))) ?_ (fun _ _ _ _ _ h => h) (fun Q2 A hsz hbase hn2 hHeld => ?_)
   ·exact HU2.out.cells
   try dsimp only at hHeld
   obtain ⟨b10, b11, b14, b12, b4, b1, b6, b9, b15, b7, -⟩ := hbase
   refine ord_take (i := 0) (d := 72) (v := ?_) rfl rfl (wanted_none rfl) hHeld (fun ρ hρ w hSw => ?_) ?_
   rotate_left
   ·(have e10 := Eq.trans (hρ.tmp hsz 10 rfl) (lkp_base b10); clear hρ; (try dsimp only at hSw); go_simp; try with_reducible rfl)
   show wpOrd _ _ _ _ _ _ _ _
   refine ord_take (i := 1) (d := 73) (v := ?_) rfl rfl (wanted_none rfl) hHeld (fun ρ hρ w hSw => ?_) ?_
   rotate_left
   ·(have e11 := Eq.trans (hρ.tmp hsz 11 rfl) (miss1 rfl (lkp_base b11)); clear hρ; (try dsimp only at hSw); go_simp; try with_reducible rfl)
   show wpOrd _ _ _ _ _ _ _ _
   refine ord_move (i := 2) (d := 74) (v := ?_) rfl rfl rfl (wanted_none rfl) hHeld (fun ρ hρ => ?_) ?_
   rotate_left
   ·(have e14 := Eq.trans (hρ.tmp hsz 14 rfl) (miss1 rfl (miss1 rfl (lkp_base b14))); exact e14)
   show wpOrd _ _ _ _ _ _ _ _
   refine ord_move (i := 3) (d := 75) (v := ?_) rfl rfl rfl (wanted_none rfl) hHeld (fun ρ hρ => ?_) ?_
   rotate_left
   ·(have e74 := Eq.trans (hρ.tmp hsz 74 rfl) lkp_hit; exact e74)
   show wpOrd _ _ _ _ _ _ _ _
   refine ord_move (i := 4) (d := 76) (v := ?_) rfl rfl rfl (wanted_yes (j := 3) (dj := 75) (b := true) rfl hsz rfl rfl rfl lkp_hit) hHeld (fun ρ hρ => ?_) ?_
   rotate_left
   ·(have e12 := Eq.trans (hρ.tmp hsz 12 rfl) (miss4 rfl rfl rfl rfl (lkp_base b12)); exact e12)
   show wpOrd _ _ _ _ _ _ _ _
   refine ord_take (i := 5) (d := 77) (v := ?_) rfl rfl (wanted_yes (j := 3) (dj := 75) (b := true) rfl hsz rfl rfl rfl (miss1 rfl lkp_hit)) hHeld (fun ρ hρ w hSw => ?_) ?_
   rotate_left
   ·(have hc := hρ.const; have e76 := Eq.trans (hρ.tmp hsz 76 rfl) lkp_hit; clear hρ; (try dsimp only at hSw); go_simp; try with_reducible rfl)
   show wpOrd _ _ _ _ _ _ _ _
   refine ord_take (i := 6) (d := 78) (v := ?_) rfl rfl (wanted_none rfl) hHeld (fun ρ hρ w hSw => ?_) ?_
   rotate_left
   ·(have hc := hρ.const; have e75 := Eq.trans (hρ.tmp hsz 75 rfl) (miss1 rfl (miss1 rfl lkp_hit)); have e77 := Eq.trans (hρ.tmp hsz 77 rfl) lkp_hit; clear hρ; (try dsimp only at hSw); go_simp; try with_reducible rfl)
   show wpOrd _ _ _ _ _ _ _ _
   refine ord_take (i := 7) (d := 79) (v := ?_) rfl rfl (wanted_none rfl) hHeld (fun ρ hρ w hSw => ?_) ?_
   rotate_left
   ·(have hc := hρ.const; have e78 := Eq.trans (hρ.tmp hsz 78 rfl) lkp_hit; clear hρ; (try dsimp only at hSw); go_simp; try with_reducible rfl)
   show wpOrd _ _ _ _ _ _ _ _
   refine ord_take (i := 8) (d := 80) (v := ?_) rfl rfl (wanted_none rfl) hHeld (fun ρ hρ w hSw => ?_) ?_
   rotate_left
   ·(have e4 := Eq.trans (hρ.tmp hsz 4 rfl) (miss4 rfl rfl rfl rfl (miss4 rfl rfl rfl rfl (lkp_base b4))); clear hρ; (try dsimp only at hSw); go_simp; try with_reducible rfl)
   show wpOrd _ _ _ _ _ _ _ _
   refine ord_move (i := 9) (d := 81) (v := ?_) rfl rfl rfl (wanted_none rfl) hHeld (fun ρ hρ => ?_) ?_
   rotate_left
   ·(have e1 := Eq.trans (hρ.tmp hsz 1 rfl) (miss4 rfl rfl rfl rfl (miss4 rfl rfl rfl rfl (miss1 rfl (lkp_base b1)))); exact e1)
   show wpOrd _ _ _ _ _ _ _ _
   refine ord_take (i := 10) (d := 82) (v := ?_) rfl rfl (wanted_none rfl) hHeld (fun ρ hρ w hSw => ?_) ?_
   rotate_left
   ·(have e6 := Eq.trans (hρ.tmp hsz 6 rfl) (miss4 rfl rfl rfl rfl (miss4 rfl rfl rfl rfl (miss1 rfl (miss1 rfl (lkp_base b6))))); clear hρ; (try dsimp only at hSw); go_simp; try with_reducible rfl)
   show wpOrd _ _ _ _ _ _ _ _
   refine ord_take (i := 11) (d := 83) (v := ?_) rfl rfl (wanted_none rfl) hHeld (fun ρ hρ w hSw => ?_) ?_
   rotate_left
   ·(have e9 := Eq.trans (hρ.tmp hsz 9 rfl) (miss4 rfl rfl rfl rfl (miss4 rfl rfl rfl rfl (miss1 rfl (miss1 rfl (miss1 rfl (lkp_base b9)))))); clear hρ; (try dsimp only at hSw); go_simp; try with_reducible rfl)
   show wpOrd _ _ _ _ _ _ _ _
   refine ord_take (i := 12) (d := 84) (v := ?_) rfl rfl (wanted_none rfl) hHeld (fun ρ hρ w hSw => ?_) ?_
   rotate_left
   ·(have e83 := Eq.trans (hρ.tmp hsz 83 rfl) lkp_hit; clear hρ; (try dsimp only at hSw); go_simp; try with_reducible rfl)
   show wpOrd _ _ _ _ _ _ _ _
   refine ord_move (i := 13) (d := 85) (v := ?_) rfl rfl rfl (wanted_none rfl) hHeld (fun ρ hρ => ?_) ?_
   rotate_left
   ·(have e12 := Eq.trans (hρ.tmp hsz 12 rfl) (miss4 rfl rfl rfl rfl (miss4 rfl rfl rfl rfl (miss4 rfl rfl rfl rfl (miss1 rfl (lkp_base b12))))); exact e12)
   show wpOrd _ _ _ _ _ _ _ _
   refine ord_move (i := 16) (d := 88) (v := ?_) rfl rfl rfl (wanted_none rfl) hHeld (fun ρ hρ => ?_) ?_
   rotate_left
   ·(have e15 := Eq.trans (hρ.tmp hsz 15 rfl) (miss4 rfl rfl rfl rfl (miss4 rfl rfl rfl rfl (miss4 rfl rfl rfl rfl (miss1 rfl (miss1 rfl (lkp_base b15)))))); exact e15)
   show wpOrd _ _ _ _ _ _ _ _
   refine ord_take (i := 17) (d := 89) (v := ?_) rfl rfl (wanted_none rfl) hHeld (fun ρ hρ w hSw => ?_) ?_
   rotate_left
   ·(have e88 := Eq.trans (hρ.tmp hsz 88 rfl) lkp_hit; clear hρ; (try dsimp only at hSw); go_simp; try with_reducible rfl)
   show wpOrd _ _ _ _ _ _ _ _
   refine ord_take (i := 18) (d := 90) (v := ?_) rfl rfl (wanted_none rfl) hHeld (fun ρ hρ w hSw => ?_) ?_
   rotate_left
   ·(have hc := hρ.const; have e89 := Eq.trans (hρ.tmp hsz 89 rfl) lkp_hit; clear hρ; (try dsimp only at hSw); go_simp; try with_reducible rfl)
   show wpOrd _ _ _ _ _ _ _ _
   refine ord_take (i := 19) (d := 91) (v := ?_) rfl rfl (wanted_none rfl) hHeld (fun ρ hρ w hSw => ?_) ?_
   rotate_left
   ·(have hc := hρ.const; have e90 := Eq.trans (hρ.tmp hsz 90 rfl) lkp_hit; clear hρ; (try dsimp only at hSw); go_simp; try with_reducible rfl)
   show wpOrd _ _ _ _ _ _ _ _
   refine ord_move (i := 20) (d := 92) (v := ?_) rfl rfl rfl (wanted_none rfl) hHeld (fun ρ hρ => ?_) ?_
   rotate_left
   ·(have e14 := Eq.trans (hρ.tmp hsz 14 rfl) (miss4 rfl rfl rfl rfl (miss4 rfl rfl rfl rfl (miss4 rfl rfl rfl rfl (miss4 rfl rfl rfl rfl (miss1 rfl (miss1 rfl (lkp_base b14))))))); exact e14)
   show wpOrd _ _ _ _ _ _ _ _
   refine ord_call (i := 14) (d := 86) (vs := ?_) rfl rfl rfl (wanted_none rfl) (fun ρ hρ => ?_) ?_ ?_
   rotate_left
   ·(have e80 := Eq.trans (hρ.tmp hsz 80 rfl) (miss4 rfl rfl rfl rfl (miss4 rfl rfl rfl rfl (miss1 rfl (miss1 rfl lkp_hit)))); have e81 := Eq.trans (hρ.tmp hsz 81 rfl) (miss4 rfl rfl rfl rfl (miss4 rfl rfl rfl rfl (miss1 rfl lkp_hit))); have e82 := Eq.trans (hρ.tmp hsz 82 rfl) (miss4 rfl rfl rfl rfl (miss4 rfl rfl rfl rfl lkp_hit)); have e84 := Eq.trans (hρ.tmp hsz 84 rfl) (miss4 rfl rfl rfl rfl (miss1 rfl (miss1 rfl lkp_hit))); have e85 := Eq.trans (hρ.tmp hsz 85 rfl) (miss4 rfl rfl rfl rfl (miss1 rfl lkp_hit)); simp only [List.map_toArray, List.map_cons, List.map_nil, e80, e81, e82, e84, e85]; try with_reducible rfl)
   ·(intro w; go_simp)
   refine (bad_any An (some ⟨b0, off, none⟩) (some ⟨bs, of2, none⟩) nn cn nd cd n c Bd Bs d 2 du 4 ds s ⟨nm, 4, a, b, co2⟩ u2.drew (HD.out.below HU2.out.bl.drew hBd) (Nat.le_trans hBd HU2.out.bl.size) (HS.out.below HU2.out.bl.drew hBs) (Nat.le_trans hBs HU2.out.bl.size) hnn (by omega) hnd HE.out HA.out hi HX.out rfl hk6).mono ?_
   rintro e u3 ⟨rfl, hb⟩
   have HU3 := Lib.hid ((show HzQ _ _ _ _ _ _ _ _ _ _ u2.drew from ⟨HU2.out.bl.drew, HU2.out.bn, HU2.out.bo, HU2.out.bg, HU2.out.bv, HU2.out.b1, HU2.out.b2⟩).later hb)
   clear hb
   refine ⟨_, rfl, fun _ => ?_, fun hHeld' => ?_⟩
   ·exact HU3.out.cells
   replace hHeld := hHeld' rfl
   clear hHeld'
   try dsimp only at hHeld
   show wpOrd _ _ _ _ _ _ _ _
   refine ord_take (i := 15) (d := 87) (v := ?_) rfl rfl (wanted_none rfl) hHeld (fun ρ hρ w hSw => ?_) ?_
   rotate_left
   ·(have hc := hρ.const; have e86 := Eq.trans (hρ.tmp hsz 86 rfl) lkp_hit; clear hρ; (try dsimp only at hSw); go_simp; try with_reducible rfl)
   show wpOrd _ _ _ _ _ _ _ _
   refine ord_move (i := 21) (d := 93) (v := ?_) rfl rfl rfl (wanted_none rfl) hHeld (fun ρ hρ => ?_) ?_
   rotate_left
   ·(have e92 := Eq.trans (hρ.tmp hsz 92 rfl) (miss1 rfl (miss1 rfl lkp_hit)); exact e92)
   show wpOrd _ _ _ _ _ _ _ _
   refine ord_take (i := 22) (d := 94) (v := ?_) rfl rfl (wanted_yes (j := 21) (dj := 93) (b := true) rfl hsz rfl rfl rfl lkp_hit) hHeld (fun ρ hρ w hSw => ?_) ?_
   rotate_left
   ·(have e9 := Eq.trans (hρ.tmp hsz 9 rfl) (miss4 rfl rfl rfl rfl (miss4 rfl rfl rfl rfl (miss4 rfl rfl rfl rfl (miss4 rfl rfl rfl rfl (miss4 rfl rfl rfl rfl (miss1 rfl (miss1 rfl (lkp_base b9)))))))); clear hρ; (try dsimp only at hSw); go_simp; try with_reducible rfl)
   show wpOrd _ _ _ _ _ _ _ _
   refine ord_take (i := 23) (d := 95) (v := ?_) rfl rfl (wanted_yes (j := 21) (dj := 93) (b := true) rfl hsz rfl rfl rfl (miss1 rfl lkp_hit)) hHeld (fun ρ hρ w hSw => ?_) ?_
   rotate_left
   ·(have e94 := Eq.trans (hρ.tmp hsz 94 rfl) lkp_hit; clear hρ; (try dsimp only at hSw); go_simp; try with_reducible rfl)
   show wpOrd _ _ _ _ _ _ _ _
   refine ord_take (i := 24) (d := 96) (v := ?_) rfl rfl (wanted_yes (j := 21) (dj := 93) (b := true) rfl hsz rfl rfl rfl (miss1 rfl (miss1 rfl lkp_hit))) hHeld (fun ρ hρ w hSw => ?_) ?_
   rotate_left
   ·(have hc := hρ.const; have e95 := Eq.trans (hρ.tmp hsz 95 rfl) lkp_hit; clear hρ; (try dsimp only at hSw); go_simp; try with_reducible rfl)
   show wpOrd _ _ _ _ _ _ _ _
   refine ord_take (i := 25) (d := 97) (v := ?_) rfl rfl (wanted_none rfl) hHeld (fun ρ hρ w hSw => ?_) ?_
   rotate_left
   ·(have hc := hρ.const; have e93 := Eq.trans (hρ.tmp hsz 93 rfl) (miss1 rfl (miss1 rfl (miss1 rfl lkp_hit))); have e96 := Eq.trans (hρ.tmp hsz 96 rfl) lkp_hit; clear hρ; (try dsimp only at hSw); go_simp; try with_reducible rfl)
   show wpOrd _ _ _ _ _ _ _ _
   refine ord_move (i := 26) (d := 98) (v := ?_) rfl rfl rfl (wanted_none rfl) hHeld (fun ρ hρ => ?_) ?_
   rotate_left
   ·(have e97 := Eq.trans (hρ.tmp hsz 97 rfl) lkp_hit; exact e97)
   show wpOrd _ _ _ _ _ _ _ _
   refine ord_take (i := 27) (d := 99) (v := ?_) rfl rfl (wanted_yes (j := 26) (dj := 98) (b := true) rfl hsz rfl rfl rfl lkp_hit) hHeld (fun ρ hρ w hSw => ?_) ?_
   rotate_left
   ·(have e7 := Eq.trans (hρ.tmp hsz 7 rfl) (miss4 rfl rfl rfl rfl (miss4 rfl rfl rfl rfl (miss4 rfl rfl rfl rfl (miss4 rfl rfl rfl rfl (miss4 rfl rfl rfl rfl (miss4 rfl rfl rfl rfl (miss1 rfl (miss1 rfl (miss1 rfl (lkp_base b7)))))))))); clear hρ; (try dsimp only at hSw); go_simp; try with_reducible rfl)
   show wpOrd _ _ _ _ _ _ _ _
   refine ord_take (i := 28) (d := 100) (v := ?_) rfl rfl (wanted_yes (j := 26) (dj := 98) (b := true) rfl hsz rfl rfl rfl (miss1 rfl lkp_hit)) hHeld (fun ρ hρ w hSw => ?_) ?_
   rotate_left
   ·(have e99 := Eq.trans (hρ.tmp hsz 99 rfl) lkp_hit; clear hρ; (try dsimp only at hSw); go_simp; try with_reducible rfl)
   show wpOrd _ _ _ _ _ _ _ _
   refine ord_take (i := 29) (d := 101) (v := ?_) rfl rfl (wanted_yes (j := 26) (dj := 98) (b := true) rfl hsz rfl rfl rfl (miss1 rfl (miss1 rfl lkp_hit))) hHeld (fun ρ hρ w hSw => ?_) ?_
   rotate_left
   ·(have e9 := Eq.trans (hρ.tmp hsz 9 rfl) (miss4 rfl rfl rfl rfl (miss4 rfl rfl rfl rfl (miss4 rfl rfl rfl rfl (miss4 rfl rfl rfl rfl (miss4 rfl rfl rfl rfl (miss4 rfl rfl rfl rfl (miss4 rfl rfl rfl rfl (miss1 rfl (lkp_base b9))))))))); clear hρ; (try dsimp only at hSw); go_simp; try with_reducible rfl)
   show wpOrd _ _ _ _ _ _ _ _
   refine ord_take (i := 30) (d := 102) (v := ?_) rfl rfl (wanted_yes (j := 26) (dj := 98) (b := true) rfl hsz rfl rfl rfl (miss1 rfl (miss1 rfl (miss1 rfl lkp_hit)))) hHeld (fun ρ hρ w hSw => ?_) ?_
   rotate_left
   ·(have e101 := Eq.trans (hρ.tmp hsz 101 rfl) lkp_hit; clear hρ; (try dsimp only at hSw); go_simp; try with_reducible rfl)
   show wpOrd _ _ _ _ _ _ _ _
   refine ord_call (i := 31) (d := 103) (vs := ?_) rfl rfl rfl (wanted_yes (j := 26) (dj := 98) (b := true) rfl hsz rfl rfl rfl (miss4 rfl rfl rfl rfl lkp_hit)) (fun ρ hρ => ?_) ?_ ?_
   rotate_left
   ·(have e100 := Eq.trans (hρ.tmp hsz 100 rfl) (miss1 rfl (miss1 rfl lkp_hit)); have e102 := Eq.trans (hρ.tmp hsz 102 rfl) lkp_hit; simp only [List.map_toArray, List.map_cons, List.map_nil, e100, e102]; try with_reducible rfl)
   ·(intro w; go_simp)
   refine (contains_any Ap np cp Bp pr a u3 (HPR.out.below HU3.out.bl hBp)).mono ?_
   rintro e u4 ⟨rfl, rfl⟩
   refine ⟨_, rfl, fun _ => ?_, fun hHeld' => ?_⟩
   ·exact HU3.out.cells
   replace hHeld := hHeld' rfl
   clear hHeld'
   try dsimp only at hHeld
   show wpOrd _ _ _ _ _ _ _ _
   refine ord_take (i := 32) (d := 104) (v := ?_) rfl rfl (wanted_yes (j := 26) (dj := 98) (b := true) rfl hsz rfl rfl rfl (miss4 rfl rfl rfl rfl (miss1 rfl lkp_hit))) hHeld (fun ρ hρ w hSw => ?_) ?_
   rotate_left
   ·(have e103 := Eq.trans (hρ.tmp hsz 103 rfl) lkp_hit; clear hρ; (try dsimp only at hSw); go_simp; try with_reducible rfl)
   show wpOrd _ _ _ _ _ _ _ _
   refine ord_take (i := 33) (d := 105) (v := ?_) rfl rfl (wanted_none rfl) hHeld (fun ρ hρ w hSw => ?_) ?_
   rotate_left
   ·(have hc := hρ.const; have e98 := Eq.trans (hρ.tmp hsz 98 rfl) (miss4 rfl rfl rfl rfl (miss1 rfl (miss1 rfl lkp_hit))); have e104 := Eq.trans (hρ.tmp hsz 104 rfl) lkp_hit; clear hρ; (try dsimp only at hSw); go_simp; try with_reducible rfl)
   show wpOrd _ _ _ _ _ _ _ _
   refine ord_take (i := 34) (d := 106) (v := ?_) rfl rfl (wanted_none rfl) hHeld (fun ρ hρ w hSw => ?_) ?_
   rotate_left
   ·(have hc := hρ.const; have e105 := Eq.trans (hρ.tmp hsz 105 rfl) lkp_hit; clear hρ; (try dsimp only at hSw); go_simp; try with_reducible rfl)
   show wpOrd _ _ _ _ _ _ _ _
   refine ord_run (i := 35) (d := 107) (v := ?_) (w' := ?_) rfl rfl (wanted_none rfl) (fun ρ hρ => ?_) ?_ ?_
   rotate_left 2
   ·(have e72 := Eq.trans (hρ.tmp hsz 72 rfl) (miss4 rfl rfl rfl rfl (miss4 rfl rfl rfl rfl (miss4 rfl rfl rfl rfl (miss4 rfl rfl rfl rfl (miss4 rfl rfl rfl rfl (miss4 rfl rfl rfl rfl (miss4 rfl rfl rfl rfl (miss4 rfl rfl rfl rfl (miss1 rfl (miss1 rfl lkp_hit)))))))))); have e73 := Eq.trans (hρ.tmp hsz 73 rfl) (miss4 rfl rfl rfl rfl (miss4 rfl rfl rfl rfl (miss4 rfl rfl rfl rfl (miss4 rfl rfl rfl rfl (miss4 rfl rfl rfl rfl (miss4 rfl rfl rfl rfl (miss4 rfl rfl rfl rfl (miss4 rfl rfl rfl rfl (miss1 rfl lkp_hit))))))))); have e79 := Eq.trans (hρ.tmp hsz 79 rfl) (miss4 rfl rfl rfl rfl (miss4 rfl rfl rfl rfl (miss4 rfl rfl rfl rfl (miss4 rfl rfl rfl rfl (miss4 rfl rfl rfl rfl (miss4 rfl rfl rfl rfl (miss1 rfl (miss1 rfl (miss1 rfl lkp_hit))))))))); have e87 := Eq.trans (hρ.tmp hsz 87 rfl) (miss4 rfl rfl rfl rfl (miss4 rfl rfl rfl rfl (miss4 rfl rfl rfl rfl (miss1 rfl (miss1 rfl lkp_hit))))); have e91 := Eq.trans (hρ.tmp hsz 91 rfl) (miss4 rfl rfl rfl rfl (miss4 rfl rfl rfl rfl (miss4 rfl rfl rfl rfl (miss4 rfl rfl rfl rfl (miss1 rfl lkp_hit))))); have e106 := Eq.trans (hρ.tmp hsz 106 rfl) lkp_hit; clear hρ; go_simp; first | with_reducible rfl | (constructor <;> with_reducible rfl))
   ·refine fun _ => ?_
    exact (HU3.out.later ((Below.refl _ _).alloc (Nat.le_refl _) _)).cells
   intro hHeld'
   replace hHeld := hHeld' rfl
   clear hHeld'
   try dsimp only at hHeld
   show wpOrd _ _ _ _ _ _ _ _
   refine ord_call (i := 36) (d := 108) (vs := ?_) rfl rfl rfl (wanted_none rfl) (fun ρ hρ => ?_) ?_ ?_
   rotate_left
   ·(have e107 := Eq.trans (hρ.tmp hsz 107 rfl) lkp_hit; simp only [List.map_toArray, List.map_cons, List.map_nil, e107]; try with_reducible rfl)
   ·(intro w; go_simp)
   refine (list_any _ 6 6 (u3.heap.size + 1) [(4, t1), (6, t2), (1, du == 4), (2, badB 4 2 du (lvE (colsOf nn ds s) ⟨nm, 4, a, b, co2⟩)), (3, decide (0 < mo)), (5, !hasB pr a)] _ (Sl.newest rfl (by rfl) (by decide)) (by simp) (by decide)).mono ?_
   rintro e u5 ⟨A5, c5, rfl, hO5, hb5⟩
   have HU5 := Lib.hid ((HU3.out.later ((Below.refl _ _).alloc (Nat.le_refl _) _)).later hb5.out)
   have HO5 := Lib.hid (hO5.out.mono (base' := w.heap.size) (by have := HU3.out.bl.size; simp; omega))
   clear hO5 hb5
   refine ⟨_, rfl, fun _ => ?_, fun hHeld' => ?_⟩
   ·exact HU5.out.cells
   replace hHeld := hHeld' rfl
   clear hHeld'
   try dsimp only at hHeld
   show wpOrd _ _ _ _ _ _ _ _
   refine ord_take (i := 37) (d := 8) (v := ?_) rfl rfl (wanted_none rfl) hHeld (fun ρ hρ w hSw => ?_) ?_
   rotate_left
   ·(have e108 := Eq.trans (hρ.tmp hsz 108 rfl) lkp_hit; clear hρ; (try dsimp only at hSw); go_simp; try with_reducible rfl)
   show wpOrd _ _ _ _ _ _ _ _
   refine ord_done hn2 ?_
   clear hHeld hn2 b10 b11 b14 b12 b4 b1 b6 b9 b15 b7 hsz A Q2
   simp only [puts_nil, puts_cons, put_lit, set_1, set_0]
   go_wp2_with fail
   go_ret
   rw [HRR.out, ← HLO.out]
   exact ⟨A5, c5, rfl, HO5, HU5.out.bl⟩
  ·have qk : (kd == 4) = false := by simpa using hk
   have hr3 := HRR.out
   rw [show decide (kd = 4) = false from by simp [hk]] at hr3
   clear HRR
   have HRR := Lib.hid hr3
   clear hr3
   refine wp_region_ord (S := fun W' => ((W'.cell? ⟨w.heap.size, 0, none⟩ = some (.slice An nn cn) ∧ W'.cell? ⟨w.heap.size, 1, none⟩ = some (.slice (some ⟨b0, off, none⟩) nd cd)) ∧ W'.cell? ⟨w.heap.size + 1, 0, none⟩ = some (.int .i64 d) ∧ W'.cell? ⟨w.heap.size + 1, 1, none⟩ = some (.int .i64 2)) ∧ (W'.cell? ⟨vb, 1, none⟩ = some (.int .i64 kd) ∧ W'.cell? ⟨vb, 2, none⟩ = some (.int .i64 a)) ∧ W'.cell? ⟨w.heap.size + 2, 2, none⟩ = some (.slice Ap np cp) ∧ (W'.cell? ⟨b1, 0, none⟩ = some (.int .i64 4) ∧ W'.cell? ⟨b1, 1, none⟩ = some (.bool t1)) ∧ W'.cell? ⟨b1 + 1, 0, none⟩ = some (.int .i64 6) ∧ W'.cell? ⟨b1 + 1, 1, none⟩ = some (.bool t2)) (J := []) (n := _) ((0, true) :: (1, true) :: (2, true) :: (3, true) :: (4, true) :: (5, true) :: (6, true) :: (7, true) :: (8, true) :: (9, true) :: (10, true) :: (11, true) :: (12, true) :: (13, true) :: (16, true) :: (17, true) :: (18, true) :: (19, true) :: (20, true) :: (14, false) :: (15, true) :: (21, true) :: (22, true) :: (23, true) :: (24, true) :: (25, true) :: (26, true) :: (27, true) :: (28, true) :: (29, true) :: (30, true) :: (31, true) :: (32, true) :: (33, true) :: (34, true) :: (35, false) :: (36, false) :: (37, true) :: []) (by as_aux_lemma => kernel_rfl) (by rfl) (base_cons (k := 10) (by go_simp; rfl) (base_cons (k := 11) (by go_simp; rfl) (base_cons (k := 14) (by go_simp; rfl) (base_cons (k := 12) (by go_simp; rfl) (base_cons (k := 4) (by go_simp; rfl) (base_cons (k := 1) (by go_simp; rfl) (base_cons (k := 6) (by go_simp; rfl) (base_cons (k := 9) (by go_simp; rfl) (base_cons (k := 15) (by go_simp; rfl) base_nil))))))))) ?_ (fun _ _ _ _ _ h => h) (fun Q2 A hsz hbase hn2 hHeld => ?_)
   ·exact HU2.out.cells
   try dsimp only at hHeld
   obtain ⟨b10, b11, b14, b12, b4, b1, b6, b9, b15, -⟩ := hbase
   refine ord_take (i := 0) (d := 72) (v := ?_) rfl rfl (wanted_none rfl) hHeld (fun ρ hρ w hSw => ?_) ?_
   rotate_left
   ·(have e10 := Eq.trans (hρ.tmp hsz 10 rfl) (lkp_base b10); clear hρ; (try dsimp only at hSw); go_simp; try with_reducible rfl)
   show wpOrd _ _ _ _ _ _ _ _
   refine ord_take (i := 1) (d := 73) (v := ?_) rfl rfl (wanted_none rfl) hHeld (fun ρ hρ w hSw => ?_) ?_
   rotate_left
   ·(have e11 := Eq.trans (hρ.tmp hsz 11 rfl) (miss1 rfl (lkp_base b11)); clear hρ; (try dsimp only at hSw); go_simp; try with_reducible rfl)
   show wpOrd _ _ _ _ _ _ _ _
   refine ord_move (i := 2) (d := 74) (v := ?_) rfl rfl rfl (wanted_none rfl) hHeld (fun ρ hρ => ?_) ?_
   rotate_left
   ·(have e14 := Eq.trans (hρ.tmp hsz 14 rfl) (miss1 rfl (miss1 rfl (lkp_base b14))); exact e14)
   show wpOrd _ _ _ _ _ _ _ _
   refine ord_move (i := 3) (d := 75) (v := ?_) rfl rfl rfl (wanted_none rfl) hHeld (fun ρ hρ => ?_) ?_
   rotate_left
   ·(have e74 := Eq.trans (hρ.tmp hsz 74 rfl) lkp_hit; exact e74)
   show wpOrd _ _ _ _ _ _ _ _
   refine ord_move (i := 4) (d := 76) (v := ?_) rfl rfl rfl (wanted_yes (j := 3) (dj := 75) (b := true) rfl hsz rfl rfl rfl lkp_hit) hHeld (fun ρ hρ => ?_) ?_
   rotate_left
   ·(have e12 := Eq.trans (hρ.tmp hsz 12 rfl) (miss4 rfl rfl rfl rfl (lkp_base b12)); exact e12)
   show wpOrd _ _ _ _ _ _ _ _
   refine ord_take (i := 5) (d := 77) (v := ?_) rfl rfl (wanted_yes (j := 3) (dj := 75) (b := true) rfl hsz rfl rfl rfl (miss1 rfl lkp_hit)) hHeld (fun ρ hρ w hSw => ?_) ?_
   rotate_left
   ·(have hc := hρ.const; have e76 := Eq.trans (hρ.tmp hsz 76 rfl) lkp_hit; clear hρ; (try dsimp only at hSw); go_simp; try with_reducible rfl)
   show wpOrd _ _ _ _ _ _ _ _
   refine ord_take (i := 6) (d := 78) (v := ?_) rfl rfl (wanted_none rfl) hHeld (fun ρ hρ w hSw => ?_) ?_
   rotate_left
   ·(have hc := hρ.const; have e75 := Eq.trans (hρ.tmp hsz 75 rfl) (miss1 rfl (miss1 rfl lkp_hit)); have e77 := Eq.trans (hρ.tmp hsz 77 rfl) lkp_hit; clear hρ; (try dsimp only at hSw); go_simp; try with_reducible rfl)
   show wpOrd _ _ _ _ _ _ _ _
   refine ord_take (i := 7) (d := 79) (v := ?_) rfl rfl (wanted_none rfl) hHeld (fun ρ hρ w hSw => ?_) ?_
   rotate_left
   ·(have hc := hρ.const; have e78 := Eq.trans (hρ.tmp hsz 78 rfl) lkp_hit; clear hρ; (try dsimp only at hSw); go_simp; try with_reducible rfl)
   show wpOrd _ _ _ _ _ _ _ _
   refine ord_take (i := 8) (d := 80) (v := ?_) rfl rfl (wanted_none rfl) hHeld (fun ρ hρ w hSw => ?_) ?_
   rotate_left
   ·(have e4 := Eq.trans (hρ.tmp hsz 4 rfl) (miss4 rfl rfl rfl rfl (miss4 rfl rfl rfl rfl (lkp_base b4))); clear hρ; (try dsimp only at hSw); go_simp; try with_reducible rfl)
   show wpOrd _ _ _ _ _ _ _ _
   refine ord_move (i := 9) (d := 81) (v := ?_) rfl rfl rfl (wanted_none rfl) hHeld (fun ρ hρ => ?_) ?_
   rotate_left
   ·(have e1 := Eq.trans (hρ.tmp hsz 1 rfl) (miss4 rfl rfl rfl rfl (miss4 rfl rfl rfl rfl (miss1 rfl (lkp_base b1)))); exact e1)
   show wpOrd _ _ _ _ _ _ _ _
   refine ord_take (i := 10) (d := 82) (v := ?_) rfl rfl (wanted_none rfl) hHeld (fun ρ hρ w hSw => ?_) ?_
   rotate_left
   ·(have e6 := Eq.trans (hρ.tmp hsz 6 rfl) (miss4 rfl rfl rfl rfl (miss4 rfl rfl rfl rfl (miss1 rfl (miss1 rfl (lkp_base b6))))); clear hρ; (try dsimp only at hSw); go_simp; try with_reducible rfl)
   show wpOrd _ _ _ _ _ _ _ _
   refine ord_take (i := 11) (d := 83) (v := ?_) rfl rfl (wanted_none rfl) hHeld (fun ρ hρ w hSw => ?_) ?_
   rotate_left
   ·(have e9 := Eq.trans (hρ.tmp hsz 9 rfl) (miss4 rfl rfl rfl rfl (miss4 rfl rfl rfl rfl (miss1 rfl (miss1 rfl (miss1 rfl (lkp_base b9)))))); clear hρ; (try dsimp only at hSw); go_simp; try with_reducible rfl)
   show wpOrd _ _ _ _ _ _ _ _
   refine ord_take (i := 12) (d := 84) (v := ?_) rfl rfl (wanted_none rfl) hHeld (fun ρ hρ w hSw => ?_) ?_
   rotate_left
   ·(have e83 := Eq.trans (hρ.tmp hsz 83 rfl) lkp_hit; clear hρ; (try dsimp only at hSw); go_simp; try with_reducible rfl)
   show wpOrd _ _ _ _ _ _ _ _
   refine ord_move (i := 13) (d := 85) (v := ?_) rfl rfl rfl (wanted_none rfl) hHeld (fun ρ hρ => ?_) ?_
   rotate_left
   ·(have e12 := Eq.trans (hρ.tmp hsz 12 rfl) (miss4 rfl rfl rfl rfl (miss4 rfl rfl rfl rfl (miss4 rfl rfl rfl rfl (miss1 rfl (lkp_base b12))))); exact e12)
   show wpOrd _ _ _ _ _ _ _ _
   refine ord_move (i := 16) (d := 88) (v := ?_) rfl rfl rfl (wanted_none rfl) hHeld (fun ρ hρ => ?_) ?_
   rotate_left
   ·(have e15 := Eq.trans (hρ.tmp hsz 15 rfl) (miss4 rfl rfl rfl rfl (miss4 rfl rfl rfl rfl (miss4 rfl rfl rfl rfl (miss1 rfl (miss1 rfl (lkp_base b15)))))); exact e15)
   show wpOrd _ _ _ _ _ _ _ _
   refine ord_take (i := 17) (d := 89) (v := ?_) rfl rfl (wanted_none rfl) hHeld (fun ρ hρ w hSw => ?_) ?_
   rotate_left
   ·(have e88 := Eq.trans (hρ.tmp hsz 88 rfl) lkp_hit; clear hρ; (try dsimp only at hSw); go_simp; try with_reducible rfl)
   show wpOrd _ _ _ _ _ _ _ _
   refine ord_take (i := 18) (d := 90) (v := ?_) rfl rfl (wanted_none rfl) hHeld (fun ρ hρ w hSw => ?_) ?_
   rotate_left
   ·(have hc := hρ.const; have e89 := Eq.trans (hρ.tmp hsz 89 rfl) lkp_hit; clear hρ; (try dsimp only at hSw); go_simp; try with_reducible rfl)
   show wpOrd _ _ _ _ _ _ _ _
   refine ord_take (i := 19) (d := 91) (v := ?_) rfl rfl (wanted_none rfl) hHeld (fun ρ hρ w hSw => ?_) ?_
   rotate_left
   ·(have hc := hρ.const; have e90 := Eq.trans (hρ.tmp hsz 90 rfl) lkp_hit; clear hρ; (try dsimp only at hSw); go_simp; try with_reducible rfl)
   show wpOrd _ _ _ _ _ _ _ _
   refine ord_move (i := 20) (d := 92) (v := ?_) rfl rfl rfl (wanted_none rfl) hHeld (fun ρ hρ => ?_) ?_
   rotate_left
   ·(have e14 := Eq.trans (hρ.tmp hsz 14 rfl) (miss4 rfl rfl rfl rfl (miss4 rfl rfl rfl rfl (miss4 rfl rfl rfl rfl (miss4 rfl rfl rfl rfl (miss1 rfl (miss1 rfl (lkp_base b14))))))); exact e14)
   show wpOrd _ _ _ _ _ _ _ _
   refine ord_call (i := 14) (d := 86) (vs := ?_) rfl rfl rfl (wanted_none rfl) (fun ρ hρ => ?_) ?_ ?_
   rotate_left
   ·(have e80 := Eq.trans (hρ.tmp hsz 80 rfl) (miss4 rfl rfl rfl rfl (miss4 rfl rfl rfl rfl (miss1 rfl (miss1 rfl lkp_hit)))); have e81 := Eq.trans (hρ.tmp hsz 81 rfl) (miss4 rfl rfl rfl rfl (miss4 rfl rfl rfl rfl (miss1 rfl lkp_hit))); have e82 := Eq.trans (hρ.tmp hsz 82 rfl) (miss4 rfl rfl rfl rfl (miss4 rfl rfl rfl rfl lkp_hit)); have e84 := Eq.trans (hρ.tmp hsz 84 rfl) (miss4 rfl rfl rfl rfl (miss1 rfl (miss1 rfl lkp_hit))); have e85 := Eq.trans (hρ.tmp hsz 85 rfl) (miss4 rfl rfl rfl rfl (miss1 rfl lkp_hit)); simp only [List.map_toArray, List.map_cons, List.map_nil, e80, e81, e82, e84, e85]; try with_reducible rfl)
   ·(intro w; go_simp)
   refine (bad_any An (some ⟨b0, off, none⟩) (some ⟨bs, of2, none⟩) nn cn nd cd n c Bd Bs d 2 du kd ds s ⟨nm, kd, a, b, co2⟩ u2.drew (HD.out.below HU2.out.bl.drew hBd) (Nat.le_trans hBd HU2.out.bl.size) (HS.out.below HU2.out.bl.drew hBs) (Nat.le_trans hBs HU2.out.bl.size) hnn (by omega) hnd HE.out HA.out hi HX.out rfl hk6).mono ?_
   rintro e u3 ⟨rfl, hb⟩
   have HU3 := Lib.hid ((show HzQ _ _ _ _ _ _ _ _ _ _ u2.drew from ⟨HU2.out.bl.drew, HU2.out.bn, HU2.out.bo, HU2.out.bg, HU2.out.bv, HU2.out.b1, HU2.out.b2⟩).later hb)
   clear hb
   refine ⟨_, rfl, fun _ => ?_, fun hHeld' => ?_⟩
   ·exact HU3.out.cells
   replace hHeld := hHeld' rfl
   clear hHeld'
   try dsimp only at hHeld
   show wpOrd _ _ _ _ _ _ _ _
   refine ord_take (i := 15) (d := 87) (v := ?_) rfl rfl (wanted_none rfl) hHeld (fun ρ hρ w hSw => ?_) ?_
   rotate_left
   ·(have hc := hρ.const; have e86 := Eq.trans (hρ.tmp hsz 86 rfl) lkp_hit; clear hρ; (try dsimp only at hSw); go_simp; try with_reducible rfl)
   show wpOrd _ _ _ _ _ _ _ _
   refine ord_move (i := 21) (d := 93) (v := ?_) rfl rfl rfl (wanted_none rfl) hHeld (fun ρ hρ => ?_) ?_
   rotate_left
   ·(have e92 := Eq.trans (hρ.tmp hsz 92 rfl) (miss1 rfl (miss1 rfl lkp_hit)); exact e92)
   show wpOrd _ _ _ _ _ _ _ _
   refine ord_take (i := 22) (d := 94) (v := ?_) rfl rfl (wanted_yes (j := 21) (dj := 93) (b := true) rfl hsz rfl rfl rfl lkp_hit) hHeld (fun ρ hρ w hSw => ?_) ?_
   rotate_left
   ·(have e9 := Eq.trans (hρ.tmp hsz 9 rfl) (miss4 rfl rfl rfl rfl (miss4 rfl rfl rfl rfl (miss4 rfl rfl rfl rfl (miss4 rfl rfl rfl rfl (miss4 rfl rfl rfl rfl (miss1 rfl (miss1 rfl (lkp_base b9)))))))); clear hρ; (try dsimp only at hSw); go_simp; try with_reducible rfl)
   show wpOrd _ _ _ _ _ _ _ _
   refine ord_take (i := 23) (d := 95) (v := ?_) rfl rfl (wanted_yes (j := 21) (dj := 93) (b := true) rfl hsz rfl rfl rfl (miss1 rfl lkp_hit)) hHeld (fun ρ hρ w hSw => ?_) ?_
   rotate_left
   ·(have e94 := Eq.trans (hρ.tmp hsz 94 rfl) lkp_hit; clear hρ; (try dsimp only at hSw); go_simp; try with_reducible rfl)
   show wpOrd _ _ _ _ _ _ _ _
   refine ord_take (i := 24) (d := 96) (v := ?_) rfl rfl (wanted_yes (j := 21) (dj := 93) (b := true) rfl hsz rfl rfl rfl (miss1 rfl (miss1 rfl lkp_hit))) hHeld (fun ρ hρ w hSw => ?_) ?_
   rotate_left
   ·(have hc := hρ.const; have e95 := Eq.trans (hρ.tmp hsz 95 rfl) lkp_hit; clear hρ; (try dsimp only at hSw); go_simp; try with_reducible rfl)
   show wpOrd _ _ _ _ _ _ _ _
   refine ord_take (i := 25) (d := 97) (v := ?_) rfl rfl (wanted_none rfl) hHeld (fun ρ hρ w hSw => ?_) ?_
   rotate_left
   ·(have hc := hρ.const; have e93 := Eq.trans (hρ.tmp hsz 93 rfl) (miss1 rfl (miss1 rfl (miss1 rfl lkp_hit))); have e96 := Eq.trans (hρ.tmp hsz 96 rfl) lkp_hit; clear hρ; (try dsimp only at hSw); go_simp; try with_reducible rfl)
   show wpOrd _ _ _ _ _ _ _ _
   refine ord_move (i := 26) (d := 98) (v := ?_) rfl rfl rfl (wanted_none rfl) hHeld (fun ρ hρ => ?_) ?_
   rotate_left
   ·(have e97 := Eq.trans (hρ.tmp hsz 97 rfl) lkp_hit; exact e97)
   show wpOrd _ _ _ _ _ _ _ _
   refine ord_skip (i := 27) (d := 99) rfl rfl (wanted_no (j := 26) (dj := 98) (b := true) (b' := false) rfl hsz rfl rfl rfl lkp_hit rfl) hHeld ?_
   show wpOrd _ _ _ _ _ _ _ _
   refine ord_skip (i := 28) (d := 100) rfl rfl (wanted_no (j := 26) (dj := 98) (b := true) (b' := false) rfl hsz rfl rfl rfl (miss1 rfl lkp_hit) rfl) hHeld ?_
   show wpOrd _ _ _ _ _ _ _ _
   refine ord_skip (i := 29) (d := 101) rfl rfl (wanted_no (j := 26) (dj := 98) (b := true) (b' := false) rfl hsz rfl rfl rfl (miss1 rfl (miss1 rfl lkp_hit)) rfl) hHeld ?_
   show wpOrd _ _ _ _ _ _ _ _
   refine ord_skip (i := 30) (d := 102) rfl rfl (wanted_no (j := 26) (dj := 98) (b := true) (b' := false) rfl hsz rfl rfl rfl (miss1 rfl (miss1 rfl (miss1 rfl lkp_hit))) rfl) hHeld ?_
   show wpOrd _ _ _ _ _ _ _ _
   refine ord_skip (i := 31) (d := 103) rfl rfl (wanted_no (j := 26) (dj := 98) (b := true) (b' := false) rfl hsz rfl rfl rfl (miss4 rfl rfl rfl rfl lkp_hit) rfl) hHeld ?_
   show wpOrd _ _ _ _ _ _ _ _
   refine ord_skip (i := 32) (d := 104) rfl rfl (wanted_no (j := 26) (dj := 98) (b := true) (b' := false) rfl hsz rfl rfl rfl (miss4 rfl rfl rfl rfl (miss1 rfl lkp_hit)) rfl) hHeld ?_
   show wpOrd _ _ _ _ _ _ _ _
   refine ord_take (i := 33) (d := 105) (v := ?_) rfl rfl (wanted_none rfl) hHeld (fun ρ hρ w hSw => ?_) ?_
   rotate_left
   ·(have hc := hρ.const; have e98 := Eq.trans (hρ.tmp hsz 98 rfl) (miss4 rfl rfl rfl rfl (miss1 rfl (miss1 rfl lkp_hit))); have e104 := Eq.trans (hρ.tmp hsz 104 rfl) lkp_hit; clear hρ; (try dsimp only at hSw); go_simp; try with_reducible rfl)
   show wpOrd _ _ _ _ _ _ _ _
   refine ord_take (i := 34) (d := 106) (v := ?_) rfl rfl (wanted_none rfl) hHeld (fun ρ hρ w hSw => ?_) ?_
   rotate_left
   ·(have hc := hρ.const; have e105 := Eq.trans (hρ.tmp hsz 105 rfl) lkp_hit; clear hρ; (try dsimp only at hSw); go_simp; try with_reducible rfl)
   show wpOrd _ _ _ _ _ _ _ _
   refine ord_run (i := 35) (d := 107) (v := ?_) (w' := ?_) rfl rfl (wanted_none rfl) (fun ρ hρ => ?_) ?_ ?_
   rotate_left 2
   ·(have e72 := Eq.trans (hρ.tmp hsz 72 rfl) (miss4 rfl rfl rfl rfl (miss4 rfl rfl rfl rfl (miss4 rfl rfl rfl rfl (miss4 rfl rfl rfl rfl (miss4 rfl rfl rfl rfl (miss4 rfl rfl rfl rfl (miss4 rfl rfl rfl rfl (miss4 rfl rfl rfl rfl (miss1 rfl (miss1 rfl lkp_hit)))))))))); have e73 := Eq.trans (hρ.tmp hsz 73 rfl) (miss4 rfl rfl rfl rfl (miss4 rfl rfl rfl rfl (miss4 rfl rfl rfl rfl (miss4 rfl rfl rfl rfl (miss4 rfl rfl rfl rfl (miss4 rfl rfl rfl rfl (miss4 rfl rfl rfl rfl (miss4 rfl rfl rfl rfl (miss1 rfl lkp_hit))))))))); have e79 := Eq.trans (hρ.tmp hsz 79 rfl) (miss4 rfl rfl rfl rfl (miss4 rfl rfl rfl rfl (miss4 rfl rfl rfl rfl (miss4 rfl rfl rfl rfl (miss4 rfl rfl rfl rfl (miss4 rfl rfl rfl rfl (miss1 rfl (miss1 rfl (miss1 rfl lkp_hit))))))))); have e87 := Eq.trans (hρ.tmp hsz 87 rfl) (miss4 rfl rfl rfl rfl (miss4 rfl rfl rfl rfl (miss4 rfl rfl rfl rfl (miss1 rfl (miss1 rfl lkp_hit))))); have e91 := Eq.trans (hρ.tmp hsz 91 rfl) (miss4 rfl rfl rfl rfl (miss4 rfl rfl rfl rfl (miss4 rfl rfl rfl rfl (miss4 rfl rfl rfl rfl (miss1 rfl lkp_hit))))); have e106 := Eq.trans (hρ.tmp hsz 106 rfl) lkp_hit; clear hρ; go_simp; first | with_reducible rfl | (constructor <;> with_reducible rfl))
   ·refine fun _ => ?_
    exact (HU3.out.later ((Below.refl _ _).alloc (Nat.le_refl _) _)).cells
   intro hHeld'
   replace hHeld := hHeld' rfl
   clear hHeld'
   try dsimp only at hHeld
   show wpOrd _ _ _ _ _ _ _ _
   refine ord_call (i := 36) (d := 108) (vs := ?_) rfl rfl rfl (wanted_none rfl) (fun ρ hρ => ?_) ?_ ?_
   rotate_left
   ·(have e107 := Eq.trans (hρ.tmp hsz 107 rfl) lkp_hit; simp only [List.map_toArray, List.map_cons, List.map_nil, e107]; try with_reducible rfl)
   ·(intro w; go_simp)
   refine (list_any _ 6 6 (u3.heap.size + 1) [(4, t1), (6, t2), (1, du == 4), (2, badB kd 2 du (lvE (colsOf nn ds s) ⟨nm, kd, a, b, co2⟩)), (3, decide (0 < mo)), (5, false)] _ (Sl.newest rfl (by rfl) (by decide)) (by simp) (by decide)).mono ?_
   rintro e u5 ⟨A5, c5, rfl, hO5, hb5⟩
   have HU5 := Lib.hid ((HU3.out.later ((Below.refl _ _).alloc (Nat.le_refl _) _)).later hb5.out)
   have HO5 := Lib.hid (hO5.out.mono (base' := w.heap.size) (by have := HU3.out.bl.size; simp; omega))
   clear hO5 hb5
   refine ⟨_, rfl, fun _ => ?_, fun hHeld' => ?_⟩
   ·exact HU5.out.cells
   replace hHeld := hHeld' rfl
   clear hHeld'
   try dsimp only at hHeld
   show wpOrd _ _ _ _ _ _ _ _
   refine ord_take (i := 37) (d := 8) (v := ?_) rfl rfl (wanted_none rfl) hHeld (fun ρ hρ w hSw => ?_) ?_
   rotate_left
   ·(have e108 := Eq.trans (hρ.tmp hsz 108 rfl) lkp_hit; clear hρ; (try dsimp only at hSw); go_simp; try with_reducible rfl)
   show wpOrd _ _ _ _ _ _ _ _
   refine ord_done hn2 ?_
   clear hHeld hn2 b10 b11 b14 b12 b4 b1 b6 b9 b15 hsz A Q2
   simp only [puts_nil, puts_cons, put_lit, set_1, set_0]
   go_wp2_with fail
   go_ret
   rw [HRR.out, ← HLO.out]
   exact ⟨A5, c5, rfl, HO5, HU5.out.bl⟩
end Go.Proofs.YtnpfkiidhidjbaaGreatDoor
