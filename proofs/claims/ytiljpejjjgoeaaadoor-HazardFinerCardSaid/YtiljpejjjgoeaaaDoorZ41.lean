import Derived.Test.YtiljpejjjgoeaaaDoorZ40
/-
  Layer 13: walks of Fault, Safe, Witness.
-/
namespace Go.Proofs.YtiljpejjjgoeaaaDoor
open Go.RowKit
set_option maxHeartbeats 2000000 in
/-- Of, at a valid state and no device of the network. -/
theorem Of_dev (An Ad As : Option Addr) (nn cn nd cd n c Bn Bd Bs : Nat) (d : Int) (ns : List Nd) (ds : List Dv) (s : List Int) (w : World) (hl : Laid w)
    (hn : Sl w Bn 3 An nn cn (ns.flatMap Nd.cells)) (hBn : Bn ≤ w.heap.size) (hd : Sl w Bd 5 Ad nd cd (ds.flatMap Dv.cells)) (hBd : Bd ≤ w.heap.size) (hs : Sl w Bs 1 As n c (intsV s)) (hBs : Bs ≤ w.heap.size) (hsn : ∀ x ∈ ns, x.name.size ≤ 9223372036854775807) (hsd : ∀ x ∈ ds, x.name.size ≤ 9223372036854775807)
    (h0 : stateErr ns ds s = 0) (he : devErr nd d ≠ 0) :
    Calls Tryd.prog 28 #[.agg #[.slice An nn cn, .slice Ad nd cd], .slice As n c, .int .i64 d] w fun e w' => e = .returned (.tuple #[.int .i64 0, .int .i64 (devErr nd d)]) ∧ Below w.heap.size w w' := by
  have HB : Hid (Below w.heap.size w (w.alloc (.cells #[.slice An nn cn, .slice Ad nd cd] 30))) := (Below.refl _ _).alloc (Nat.le_refl _) _
  have HK := Lib.hid (Blk.new w 30 #[.slice An nn cn, .slice Ad nd cd])
  have HL := Lib.hid hl; have HN := Lib.hid hn; have HD := Lib.hid hd; have HS := Lib.hid hs; have HSN := Lib.hid hsn; have HSD := Lib.hid hsd; have H0 := Lib.hid h0
  have q : (devErr nd d != 0) = true := by simpa using he
  have hndm := hd.le
  clear hl hn hd hs hsn hsd h0 he
  go_enter Tryd.func28, Tryd.ntmps28
  go_wp2_with fail
  generalize World.alloc _ _ = W at *
  have hz := HB.out.size
  have HC := Lib.hid (mstate_any An Ad As nn cn nd cd n c Bn Bd Bs ns ds s W (HL.out.below HB.out (Nat.le_refl _)) (HN.out.below HB.out hBn) (HD.out.below HB.out hBd) (HS.out.below HB.out hBs) (by omega) (by omega) (by omega) HSN.out HSD.out)
  rw [H0.out] at HC
  refine HC.out.mono ?_
  rintro e w1 ⟨rfl, hb1⟩
  have HB1 := Lib.hid (HB.out.trans (hb1.mono hz))
  have HK1 := Lib.hid (HK.out.below hb1 HK.out.lt)
  have hz1 := HB1.out.size
  clear hb1 HC HB HK hz
  have k0 : w1.cell? ⟨w.heap.size, 0, none⟩ = some (.slice An nn cn) := HK1.out.cell 0
  have k1 : w1.cell? ⟨w.heap.size, 1, none⟩ = some (.slice Ad nd cd) := HK1.out.cell 1
  go_wp2_with fail
  refine (device_any An Ad nn cn nd cd d w1 (by omega)).mono ?_
  rintro e w2 ⟨rfl, hb2⟩
  have HB2 := Lib.hid (HB1.out.trans (hb2.mono hz1))
  clear hb2 HB1 k0 k1
  go_wp2_with fail
  go_ret2
  exact ⟨rfl, HB2.out⟩
theorem devErr_ok {nd : Nat} {d : Int} (h : devErr nd d = 0) : 0 ≤ d ∧ d < nd := by
  unfold devErr at h
  split at h
  · cases h
  split at h
  · cases h
  omega
def FaultPost (w : World) (ns : List Nd) (ds : List Dv) (m : List Int) (d : Int) (e : Ending) (w' : World) : Prop :=
  (maskErr ns ds m ≠ 0 ∧ e = .returned (.tuple #[.bool false, .int .i64 (maskErr ns ds m)]) ∨ maskErr ns ds m = 0 ∧ devErr ds.length d ≠ 0 ∧ e = .returned (.tuple #[.bool false, .int .i64 (devErr ds.length d)]) ∨ maskErr ns ds m = 0 ∧ devErr ds.length d = 0 ∧ ∃ x : Dv, ds[d.toNat]? = some x ∧ e = .returned (.tuple #[.bool (decide (dutyAt ns.length ns ds (fillL m 2) d x = 4)), .int .i64 0])) ∧ Hid (Below w.heap.size w w')
set_option maxRecDepth 100000 in
set_option maxHeartbeats 4000000 in
theorem Fault_any (An Ad As : Option Addr) (nn cn nd cd n c : Nat) (ns : List Nd) (ds : List Dv) (m : List Int) (d : Int) (w : World) (h : HzMem w An Ad As none none nn cn nd cd n c 0 0 0 0 ns ds m [] []) :
    Calls Tryd.prog 16 #[.agg #[.slice An nn cn, .slice Ad nd cd], .slice As n c, .int .i64 d] w (FaultPost w ns ds m d) := by
  obtain ⟨hln, hld, hls⟩ := h.ln
  subst hln
  have hndm := h.hd.le; have hsm := h.hs.le
  have HB : Hid (Below w.heap.size w (w.alloc (.cells #[.slice An ns.length cn, .slice Ad nd cd] 30))) := (Below.refl _ _).alloc (Nat.le_refl _) _
  have HK := Lib.hid (Blk.new w 30 #[.slice An ns.length cn, .slice Ad nd cd])
  have HH := Lib.hid h
  clear h
  go_enter Tryd.func16, Tryd.ntmps16
  go_wp2_with fail
  generalize World.alloc _ _ = W at *
  have HM := Lib.hid (HH.out.below HB.out)
  refine (mcheckm_any An Ad As ns.length cn nd cd n c W.heap.size W.heap.size W.heap.size ns ds m W HM.out.la HM.out.hn HM.out.hd HM.out.hs (Nat.le_refl _) (Nat.le_refl _) (Nat.le_refl _) HM.out.sn HM.out.sd).mono ?_
  rintro e w1 ⟨rfl, hb1⟩
  have HB1 := Lib.hid (HB.out.trans (hb1.mono HB.out.size))
  have HK1 := Lib.hid (HK.out.below hb1 HK.out.lt)
  clear hb1 HM HB HK
  by_cases h0 : maskErr ns ds m = 0; rotate_left
  · have q2 : (maskErr ns ds m != 0) = true := by simpa using h0
    have H0 := Lib.hid h0
    clear h0
    go_wp2_with fail
    go_ret2
    exact ⟨.inl ⟨H0.out, rfl⟩, HB1.out⟩
  have H0 := Lib.hid h0
  rw [h0]
  obtain ⟨hc, hml, _⟩ := maskErr_net h0
  have HOK := Lib.hid (NetOk.of hc)
  have HSE := Lib.hid (fillL_state h0 (p := 2) (.inr rfl))
  have hdl := HOK.out.dl; have hnl := HOK.out.nl
  clear h0 hc
  have hm1 : m.length ≤ nd := by omega
  have hm2 : nd ≤ m.length := by omega
  have hm3 : nd ≤ 64 := by omega
  have HLD := Lib.hid hld
  clear hml hdl hld
  subst hls
  have HC1 : Hid (w1.cell? ⟨w.heap.size, 0, none⟩ = some (.slice An ns.length cn) ∧ w1.cell? ⟨w.heap.size, 1, none⟩ = some (.slice Ad nd cd)) := ⟨HK1.out.cell 0, HK1.out.cell 1⟩
  by_cases he : devErr nd d = 0; rotate_left
  · have HE := Lib.hid he
    have qe : (devErr nd d == 0) = false := by simpa using he
    clear he
    go_upto_region 4 with (fail)
    refine wp_region_ord (S := fun W' => W'.cell? ⟨w.heap.size, 0, none⟩ = some (.slice An ns.length cn) ∧ W'.cell? ⟨w.heap.size, 1, none⟩ = some (.slice Ad nd cd)) (J := []) (n := _) ((0, true) :: (1, true) :: (3, true) :: (2, false) :: (4, false) :: (5, true) :: (6, true) :: (7, true) :: (8, true) :: (9, true) :: []) (by as_aux_lemma => kernel_rfl) (by rfl) (base_cons (k := 3) (by go_simp; rfl) (base_cons (k := 1) (by go_simp; rfl) (base_cons (k := 2) (by go_simp; rfl) base_nil))) ?_ (fun _ _ _ _ _ h => h) (fun Q2 A hsz hbase hn2 hHeld => ?_)
    · exact HC1.out
    try dsimp only at hHeld
    obtain ⟨b3, b1, b2, -⟩ := hbase
    refine ord_take (i := 0) (d := 18) (v := ?_) rfl rfl (wanted_none rfl) hHeld (fun ρ hρ w hSw => ?_) ?_
    rotate_left
    · (have e3 := Eq.trans (hρ.tmp hsz 3 rfl) (lkp_base b3); clear hρ; (try dsimp only at hSw); go_simp; try with_reducible rfl)
    show wpOrd _ _ _ _ _ _ _ _
    refine ord_move (i := 1) (d := 19) (v := ?_) rfl rfl rfl (wanted_none rfl) hHeld (fun ρ hρ => ?_) ?_
    rotate_left
    · (have e1 := Eq.trans (hρ.tmp hsz 1 rfl) (miss1 rfl (lkp_base b1)); exact e1)
    show wpOrd _ _ _ _ _ _ _ _
    refine ord_move (i := 3) (d := 21) (v := ?_) rfl rfl rfl (wanted_none rfl) hHeld (fun ρ hρ => ?_) ?_
    rotate_left
    · (have e2 := Eq.trans (hρ.tmp hsz 2 rfl) (miss1 rfl (miss1 rfl (lkp_base b2))); exact e2)
    show wpOrd _ _ _ _ _ _ _ _
    refine ord_call (i := 2) (d := 20) (vs := ?_) rfl rfl rfl (wanted_none rfl) (fun ρ hρ => ?_) ?_ ?_
    rotate_left
    · (have e19 := Eq.trans (hρ.tmp hsz 19 rfl) (miss1 rfl lkp_hit); simp only [List.map_toArray, List.map_cons, List.map_nil, e19]; try with_reducible rfl)
    · (intro w; go_simp)
    refine (highest_any As c w1.drew.heap.size m w1.drew (HH.out.below HB1.out.drew).hs (Nat.le_refl _) (by omega)).mono ?_
    rintro e w2 ⟨A2, c2, rfl, hO2, hb2⟩
    have HB2 := Lib.hid (HB1.out.drew.trans (hb2.out.mono HB1.out.size))
    have HK2 : Hid (Blk w2 w.heap.size 30 #[.slice An ns.length cn, .slice Ad nd cd]) := Blk.below (w := w1.drew) HK1.out hb2.out HK1.out.lt
    have HS2 := Lib.hid hO2.out.sl
    clear hO2 hb2
    refine ⟨_, rfl, fun _ => ?_, fun hHeld' => ?_⟩
    · exact ⟨HK2.out.cell 0, HK2.out.cell 1⟩
    replace hHeld := hHeld' rfl
    clear hHeld'
    try dsimp only at hHeld
    show wpOrd _ _ _ _ _ _ _ _
    refine ord_call (i := 4) (d := 22) (vs := ?_) rfl rfl rfl (wanted_none rfl) (fun ρ hρ => ?_) ?_ ?_
    rotate_left
    · (have e18 := Eq.trans (hρ.tmp hsz 18 rfl) (miss1 rfl (miss1 rfl (miss1 rfl lkp_hit))); have e20 := Eq.trans (hρ.tmp hsz 20 rfl) lkp_hit; have e21 := Eq.trans (hρ.tmp hsz 21 rfl) (miss1 rfl lkp_hit); simp only [List.map_toArray, List.map_cons, List.map_nil, e18, e20, e21]; try with_reducible rfl)
    · (intro w; go_simp)
    refine (Of_dev An Ad A2 ns.length cn nd cd (fillL m 2).length c2 w2.heap.size w2.heap.size w2.heap.size d ns ds (fillL m 2) w2 (HH.out.below HB2.out).la (HH.out.below HB2.out).hn (Nat.le_refl _) (HH.out.below HB2.out).hd (Nat.le_refl _) HS2.out (Nat.le_refl _) HH.out.sn HH.out.sd HSE.out HE.out).mono ?_
    rintro e w3 ⟨rfl, hb3⟩
    have HB3 := Lib.hid (HB2.out.trans (hb3.mono HB2.out.size))
    have HK3 := Lib.hid (HK2.out.below hb3 HK2.out.lt)
    clear hb3
    refine ⟨_, rfl, fun _ => ?_, fun hHeld' => ?_⟩
    · exact ⟨HK3.out.cell 0, HK3.out.cell 1⟩
    replace hHeld := hHeld' rfl
    clear hHeld'
    try dsimp only at hHeld
    show wpOrd _ _ _ _ _ _ _ _
    refine ord_move (i := 5) (d := 17) (v := ?_) rfl rfl rfl (wanted_none rfl) hHeld (fun ρ hρ => ?_) ?_
    rotate_left
    · (have e22 := Eq.trans (hρ.tmp hsz 22 rfl) lkp_hit; exact e22)
    show wpOrd _ _ _ _ _ _ _ _
    refine ord_take (i := 6) (d := 23) (v := ?_) rfl rfl (wanted_none rfl) hHeld (fun ρ hρ w hSw => ?_) ?_
    rotate_left
    · (have e17 := Eq.trans (hρ.tmp hsz 17 rfl) lkp_hit; clear hρ; (try dsimp only at hSw); go_simp; try with_reducible rfl)
    show wpOrd _ _ _ _ _ _ _ _
    refine ord_take (i := 7) (d := 24) (v := ?_) rfl rfl (wanted_none rfl) hHeld (fun ρ hρ w hSw => ?_) ?_
    rotate_left
    · (have e17 := Eq.trans (hρ.tmp hsz 17 rfl) (miss1 rfl lkp_hit); clear hρ; (try dsimp only at hSw); go_simp; try with_reducible rfl)
    show wpOrd _ _ _ _ _ _ _ _
    refine ord_take (i := 8) (d := 9) (v := ?_) rfl rfl (wanted_none rfl) hHeld (fun ρ hρ w hSw => ?_) ?_
    rotate_left
    · (have e23 := Eq.trans (hρ.tmp hsz 23 rfl) (miss1 rfl lkp_hit); clear hρ; (try dsimp only at hSw); go_simp; try with_reducible rfl)
    show wpOrd _ _ _ _ _ _ _ _
    refine ord_take (i := 9) (d := 10) (v := ?_) rfl rfl (wanted_none rfl) hHeld (fun ρ hρ w hSw => ?_) ?_
    rotate_left
    · (have e24 := Eq.trans (hρ.tmp hsz 24 rfl) (miss1 rfl lkp_hit); clear hρ; (try dsimp only at hSw); go_simp; try with_reducible rfl)
    show wpOrd _ _ _ _ _ _ _ _
    refine ord_done hn2 ?_
    clear hHeld hn2 b3 b1 b2 hsz A Q2
    simp only [puts_nil, puts_cons, put_lit, set_1, set_0]
    go_wp2_with fail
    go_ret2
    exact ⟨.inr (.inl ⟨H0.out, by rw [HLD.out]; exact HE.out, by rw [HLD.out]; rfl⟩), HB3⟩
  have HE := Lib.hid he
  obtain ⟨hd0, hd1⟩ := devErr_ok he
  clear he
  obtain ⟨i, rfl⟩ := Int.eq_ofNat_of_zero_le hd0
  have hi : i < nd := by omega
  obtain ⟨x, hx⟩ : ∃ x, ds[i]? = some x := ⟨_, List.getElem?_eq_getElem (by rw [HLD.out]; exact hi)⟩
  have HX := Lib.hid hx
  obtain ⟨du, hdu⟩ : ∃ y, y = dutyAt ns.length ns ds (fillL m 2) i x := ⟨_, rfl⟩
  have HDU := Lib.hid hdu
  clear hx hdu
  go_upto_region 4 with (fail)
  refine wp_region_ord (S := fun W' => W'.cell? ⟨w.heap.size, 0, none⟩ = some (.slice An ns.length cn) ∧ W'.cell? ⟨w.heap.size, 1, none⟩ = some (.slice Ad nd cd)) (J := []) (n := _) ((0, true) :: (1, true) :: (3, true) :: (2, false) :: (4, false) :: (5, true) :: (6, true) :: (7, true) :: (8, true) :: (9, true) :: []) (by as_aux_lemma => kernel_rfl) (by rfl) (base_cons (k := 3) (by go_simp; rfl) (base_cons (k := 1) (by go_simp; rfl) (base_cons (k := 2) (by go_simp; rfl) base_nil))) ?_ (fun _ _ _ _ _ h => h) (fun Q2 A hsz hbase hn2 hHeld => ?_)
  · exact HC1.out
  try dsimp only at hHeld
  obtain ⟨b3, b1, b2, -⟩ := hbase
  refine ord_take (i := 0) (d := 18) (v := ?_) rfl rfl (wanted_none rfl) hHeld (fun ρ hρ w hSw => ?_) ?_
  rotate_left
  · (have e3 := Eq.trans (hρ.tmp hsz 3 rfl) (lkp_base b3); clear hρ; (try dsimp only at hSw); go_simp; try with_reducible rfl)
  show wpOrd _ _ _ _ _ _ _ _
  refine ord_move (i := 1) (d := 19) (v := ?_) rfl rfl rfl (wanted_none rfl) hHeld (fun ρ hρ => ?_) ?_
  rotate_left
  · (have e1 := Eq.trans (hρ.tmp hsz 1 rfl) (miss1 rfl (lkp_base b1)); exact e1)
  show wpOrd _ _ _ _ _ _ _ _
  refine ord_move (i := 3) (d := 21) (v := ?_) rfl rfl rfl (wanted_none rfl) hHeld (fun ρ hρ => ?_) ?_
  rotate_left
  · (have e2 := Eq.trans (hρ.tmp hsz 2 rfl) (miss1 rfl (miss1 rfl (lkp_base b2))); exact e2)
  show wpOrd _ _ _ _ _ _ _ _
  refine ord_call (i := 2) (d := 20) (vs := ?_) rfl rfl rfl (wanted_none rfl) (fun ρ hρ => ?_) ?_ ?_
  rotate_left
  · (have e19 := Eq.trans (hρ.tmp hsz 19 rfl) (miss1 rfl lkp_hit); simp only [List.map_toArray, List.map_cons, List.map_nil, e19]; try with_reducible rfl)
  · (intro w; go_simp)
  refine (highest_any As c w1.drew.heap.size m w1.drew (HH.out.below HB1.out.drew).hs (Nat.le_refl _) (by omega)).mono ?_
  rintro e w2 ⟨A2, c2, rfl, hO2, hb2⟩
  have HB2 := Lib.hid (HB1.out.drew.trans (hb2.out.mono HB1.out.size))
  have HK2 : Hid (Blk w2 w.heap.size 30 #[.slice An ns.length cn, .slice Ad nd cd]) := Blk.below (w := w1.drew) HK1.out hb2.out HK1.out.lt
  have HS2 := Lib.hid hO2.out.sl
  clear hO2 hb2
  refine ⟨_, rfl, fun _ => ?_, fun hHeld' => ?_⟩
  · exact ⟨HK2.out.cell 0, HK2.out.cell 1⟩
  replace hHeld := hHeld' rfl
  clear hHeld'
  try dsimp only at hHeld
  show wpOrd _ _ _ _ _ _ _ _
  refine ord_call (i := 4) (d := 22) (vs := ?_) rfl rfl rfl (wanted_none rfl) (fun ρ hρ => ?_) ?_ ?_
  rotate_left
  · (have e18 := Eq.trans (hρ.tmp hsz 18 rfl) (miss1 rfl (miss1 rfl (miss1 rfl lkp_hit))); have e20 := Eq.trans (hρ.tmp hsz 20 rfl) lkp_hit; have e21 := Eq.trans (hρ.tmp hsz 21 rfl) (miss1 rfl lkp_hit); simp only [List.map_toArray, List.map_cons, List.map_nil, e18, e20, e21]; try with_reducible rfl)
  · (intro w; go_simp)
  refine (Of_ok An Ad A2 ns.length cn nd cd (fillL m 2).length c2 w2.heap.size w2.heap.size w2.heap.size i ns ds (fillL m 2) x w2 (HH.out.below HB2.out).la (HH.out.below HB2.out).hn (Nat.le_refl _) (HH.out.below HB2.out).hd (Nat.le_refl _) HS2.out (Nat.le_refl _) HH.out.sn HH.out.sd HSE.out (by omega) (by rw [fillL_len]; omega) (by rw [fillL_len]; omega) hi HX.out HOK.out.e HOK.out.a).mono ?_
  rintro e w3 ⟨rfl, hb3⟩
  rw [← HDU.out]
  have HB3 := Lib.hid (HB2.out.trans (hb3.mono HB2.out.size))
  have HK3 := Lib.hid (HK2.out.below hb3 HK2.out.lt)
  clear hb3
  refine ⟨_, rfl, fun _ => ?_, fun hHeld' => ?_⟩
  · exact ⟨HK3.out.cell 0, HK3.out.cell 1⟩
  replace hHeld := hHeld' rfl
  clear hHeld'
  try dsimp only at hHeld
  show wpOrd _ _ _ _ _ _ _ _
  refine ord_move (i := 5) (d := 17) (v := ?_) rfl rfl rfl (wanted_none rfl) hHeld (fun ρ hρ => ?_) ?_
  rotate_left
  · (have e22 := Eq.trans (hρ.tmp hsz 22 rfl) lkp_hit; exact e22)
  show wpOrd _ _ _ _ _ _ _ _
  refine ord_take (i := 6) (d := 23) (v := ?_) rfl rfl (wanted_none rfl) hHeld (fun ρ hρ w hSw => ?_) ?_
  rotate_left
  · (have e17 := Eq.trans (hρ.tmp hsz 17 rfl) lkp_hit; clear hρ; (try dsimp only at hSw); go_simp; try with_reducible rfl)
  show wpOrd _ _ _ _ _ _ _ _
  refine ord_take (i := 7) (d := 24) (v := ?_) rfl rfl (wanted_none rfl) hHeld (fun ρ hρ w hSw => ?_) ?_
  rotate_left
  · (have e17 := Eq.trans (hρ.tmp hsz 17 rfl) (miss1 rfl lkp_hit); clear hρ; (try dsimp only at hSw); go_simp; try with_reducible rfl)
  show wpOrd _ _ _ _ _ _ _ _
  refine ord_take (i := 8) (d := 9) (v := ?_) rfl rfl (wanted_none rfl) hHeld (fun ρ hρ w hSw => ?_) ?_
  rotate_left
  · (have e23 := Eq.trans (hρ.tmp hsz 23 rfl) (miss1 rfl lkp_hit); clear hρ; (try dsimp only at hSw); go_simp; try with_reducible rfl)
  show wpOrd _ _ _ _ _ _ _ _
  refine ord_take (i := 9) (d := 10) (v := ?_) rfl rfl (wanted_none rfl) hHeld (fun ρ hρ w hSw => ?_) ?_
  rotate_left
  · (have e24 := Eq.trans (hρ.tmp hsz 24 rfl) (miss1 rfl lkp_hit); clear hρ; (try dsimp only at hSw); go_simp; try with_reducible rfl)
  show wpOrd _ _ _ _ _ _ _ _
  refine ord_done hn2 ?_
  clear hHeld hn2 b3 b1 b2 hsz A Q2
  simp only [puts_nil, puts_cons, put_lit, set_1, set_0]
  go_wp2_with fail
  go_ret2
  exact ⟨.inr (.inr ⟨H0.out, by rw [HLD.out]; exact HE.out, x, by simpa using HX.out, by rw [← HDU.out]; rfl⟩), HB3⟩
theorem contfi_any (g : Nat) (lb : Array Value) (p : Int → Bool) (eg : ∀ args w, (callFunc g args).run Tryd.prog w = .ok (.enter g args) w) (A : Option Addr) (n c B : Nat) (l : List Int) (w : World) (h : Sl w B 1 A n c (intsV l)) (hp : PredAt Tryd.prog g lb (Value.int .i64) p w) :
    Calls Tryd.prog 25 #[.slice A n c, .func (.func g) #[] lb] w fun e w' => e = .returned (.bool (l.any p)) ∧ ∃ q, w' = w.drewN q := by
  have hl : l.length = n := h.len (fun _ => rfl) (by decide)
  have hle := h.le
  rcases Nat.eq_zero_or_pos n with rfl | h0
  · have : l = [] := List.eq_nil_of_length_eq_zero hl
    subst this
    refine (Tryd.slices_ContainsFunc_empty (α := Int) A c (.func (.func g) #[] lb) w).mono ?_
    rintro e w1 ⟨rfl, rfl⟩
    exact ⟨rfl, 0, rfl⟩
  · obtain ⟨b, off, rfl, hb, _, hc⟩ := h.getB h0
    refine (Tryd.slices_ContainsFunc (Value.int .i64) p g lb eg b off n c l w hp (by omega) (by omega) (fun j hj => ?_)).mono ?_
    · rw [hc j hj, List.getD_eq_getElem?_getD, List.getElem?_eq_getElem hj]
      congr 2
      simp [hj]
    · rintro e w1 ⟨rfl, q, rfl⟩
      rw [List.take_of_length_le (by omega)]
      exact ⟨rfl, q, rfl⟩
def safeB (out but : List Int) : Bool := !(out.any fun h => !hasB but h)
theorem safeB_iff (out but : List Int) : safeB out but = true ↔ ∀ h ∈ out, h ∈ but := by
  unfold safeB hasB
  simp
def SafePost (w : World) (ns : List Nd) (ds : List Dv) (m : List Int) (d p co : Int) (ls : List Lk) (pr but : List Int) (e : Ending) (w' : World) : Prop :=
  (stsErr ns ds m d p co ≠ 0 ∧ e = .returned (.tuple #[.bool false, .int .i64 (stsErr ns ds m d p co)]) ∨ stsErr ns ds m d p co = 0 ∧ ∃ (x : Dv) (out : List Int), ds[d.toNat]? = some x ∧ Hid (MayL ns ds m d p co ls pr x out) ∧ e = .returned (.tuple #[.bool (safeB out but), .int .i64 0])) ∧ Hid (Below w.heap.size w w')
theorem safe1_gives (Ab : Option Addr) (mb cb bb B : Nat) (l : List Int) (x : Int) (W : World) (hc : W.cell? ⟨bb, 0, none⟩ = some (.slice Ab mb cb)) (hs : Sl W B 1 Ab mb cb (intsV l)) :
    FnGives Tryd.prog 26 #[.pointer (some ⟨bb, 0, none⟩)] #[.int .i64 x] (.bool (!hasB l x)) W := by
  have HC := Lib.hid (contains_any Ab mb cb B l x W hs)
  show Calls Tryd.prog 26 #[.int .i64 x, .pointer (some ⟨bb, 0, none⟩)] W _
  clear hs
  go_enter Tryd.func26, Tryd.ntmps26
  go_wp2_with fail
  refine HC.out.mono ?_
  rintro e w1 ⟨rfl, rfl⟩
  go_wp2_with fail
  go_ret
  exact ⟨rfl, 0, rfl⟩
set_option maxHeartbeats 4000000 in
theorem Safe_any (An Ad As Al Ap Ab : Option Addr) (nn cn nd cd n c nl cl np cp nb cb : Nat) (ns : List Nd) (ds : List Dv) (m : List Int) (ls : List Lk) (pr but : List Int) (d p co : Int) (w : World) (h : HzMem w An Ad As Al Ap nn cn nd cd n c nl cl np cp ns ds m ls pr) (hb : Sl w w.heap.size 1 Ab nb cb (intsV but)) :
    Calls Tryd.prog 15 #[.agg #[.slice An nn cn, .slice Ad nd cd], .slice As n c, .agg #[.int .i64 d, .int .i64 p], .agg #[.int .i64 co, .slice Al nl cl, .slice Ap np cp], .slice Ab nb cb] w (SafePost w ns ds m d p co ls pr but) := by
  have HBT := Lib.hid hb
  have HX0 := Lib.hid (Bx3.new w #[.slice An nn cn, .slice Ad nd cd] #[.int .i64 d, .int .i64 p] #[.int .i64 co, .slice Al nl cl, .slice Ap np cp])
  have HB0 := Lib.hid (HX0.out.bl.alloc HX0.out.bl.size (.cells #[.slice Ab nb cb] 22))
  have HBB := Lib.hid (Blk.new (((w.alloc (.cells #[.slice An nn cn, .slice Ad nd cd] 30)).alloc (.cells #[.int .i64 d, .int .i64 p] 36)).alloc (.cells #[.int .i64 co, .slice Al nl cl, .slice Ap np cp] 40)) 22 #[.slice Ab nb cb])
  have HH := Lib.hid h
  clear h hb HX0
  go_enter Tryd.func15, Tryd.ntmps15
  go_wp2_with fail
  have hsz : (((w.alloc (.cells #[.slice An nn cn, .slice Ad nd cd] 30)).alloc (.cells #[.int .i64 d, .int .i64 p] 36)).alloc (.cells #[.int .i64 co, .slice Al nl cl, .slice Ap np cp] 40)).heap.size = w.heap.size + 1 + 1 + 1 := by simp
  rw [hsz] at HBB
  clear hsz
  generalize World.alloc (World.alloc (World.alloc (World.alloc w _) _) _) _ = W at *
  refine (May_any An Ad As Al Ap nn cn nd cd n c nl cl np cp ns ds m ls pr d p co W (HH.out.below HB0.out)).mono ?_
  rintro e w1 ⟨⟨h1, rfl⟩ | ⟨h1, AR, kR, cR, x, out, hx, rfl, hO, hML⟩, hb1⟩
  · have H1 := Lib.hid h1
    have q : (stsErr ns ds m d p co == 0) = false := by simpa using h1
    have HB1 := Lib.hid (HB0.out.trans (hb1.out.mono HB0.out.size))
    clear h1 hb1
    go_wp2_with fail
    go_ret2
    exact ⟨.inl ⟨H1.out, rfl⟩, HB1.out⟩
  have H1 := Lib.hid h1
  have HX := Lib.hid hx
  have HB1 := Lib.hid (HB0.out.trans (hb1.out.mono HB0.out.size))
  have HBB1 := Lib.hid (HBB.out.below hb1.out HBB.out.lt)
  have HBT1 := Lib.hid (HBT.out.below HB1.out (Nat.le_refl _))
  have HSO := Lib.hid hO.out.sl
  have HCF := Lib.hid (contfi_any 26 #[.pointer (some ⟨w.heap.size + 1 + 1 + 1, 0, none⟩)] (fun h => !hasB but h) (enters_of Tryd.func26 (by kernel_rfl) rfl) AR kR cR w1.heap.size out w1 HSO.out
    (fun W' x hb => safe1_gives Ab nb cb _ w.heap.size but x W' ((hb.cell (p := ⟨w.heap.size + 1 + 1 + 1, 0, none⟩) HBB1.out.lt).trans (HBB1.out.cell 0)) (HBT1.out.below hb HB1.out.size)))
  clear h1 hx hb1 hO HBB HB0 HSO
  go_wp2_with fail
  refine HCF.out.mono ?_
  rintro e w2 ⟨rfl, q, rfl⟩
  go_wp2_with fail
  go_ret2
  exact ⟨.inr ⟨H1.out, x, out, HX.out, hML, rfl⟩, below_drewN' HB1.out q⟩
end Go.Proofs.YtiljpejjjgoeaaaDoor
/-
  The example of the chapter on hazards.
-/
namespace Go.Proofs.YtiljpejjjgoeaaaDoor
open Go.RowKit
def nsC : List Nd := [⟨⟨#[65]⟩, 0, 0⟩]
def dsC : List Dv := [⟨⟨#[83]⟩, 5, 0, -1, 0⟩, ⟨⟨#[69]⟩, 4, 0, -1, 0⟩]
theorem namesC : (∀ x ∈ nsC, x.name.size ≤ 9223372036854775807) ∧ (∀ x ∈ dsC, x.name.size ≤ 9223372036854775807) := by
  constructor <;> intro x hx <;> simp [nsC, dsC] at hx
  · subst hx; decide
  · rcases hx with rfl | rfl <;> decide
theorem stsC : stsErr nsC dsC [3, 1] 1 2 0 = 0 := by decide
theorem maskC : maskErr nsC dsC [1, 3] = 0 := by decide
theorem dsC_cases {i : Nat} {x : Dv} (h : dsC[i]? = some x) : (i = 0 ∧ x = ⟨⟨#[83]⟩, 5, 0, -1, 0⟩) ∨ (i = 1 ∧ x = ⟨⟨#[69]⟩, 4, 0, -1, 0⟩) := by
  match i, h with
  | 0, h => left; exact ⟨rfl, (Option.some.inj h).symm⟩
  | 1, h => right; exact ⟨rfl, (Option.some.inj h).symm⟩
  | i + 2, h => simp [dsC] at h
theorem colC {s : List Int} {x : Int} (h : colV dsC s 0 = x) : colsOf 1 dsC s = [x] := by
  refine colsOf_eq ⟨rfl, fun v hv => ?_⟩
  obtain rfl : v = 0 := by omega
  simpa using h.symm
theorem dutyC1 : dutyAt 1 nsC dsC [2, 1] (1 : Nat) ⟨⟨#[69]⟩, 4, 0, -1, 0⟩ = 4 := by
  have h : colsOf 1 dsC (withL [2, 1] (1 : Nat) 2) = [3] := by
    refine colC ?_
    show colV dsC [2, 2] 0 = 3
    unfold colV
    rw [ind_pos (show HasK liveK dsC [2, 2] 0 from ⟨0, _, rfl, rfl, .inl rfl, Conn.refl _ _ _⟩), ind_pos (show HasK (· = 4) dsC [2, 2] 0 from ⟨1, _, rfl, rfl, rfl, Conn.refl _ _ _⟩)]
    rfl
  unfold dutyAt dutyV
  rw [h]
  rfl
theorem dutyC2 : dutyAt 1 nsC dsC (fillL [1, 3] 2) (1 : Nat) ⟨⟨#[69]⟩, 4, 0, -1, 0⟩ ≠ 4 := by
  have h : colsOf 1 dsC (withL (fillL [1, 3] 2) (1 : Nat) 2) = [2] := by
    refine colC ?_
    show colV dsC [1, 2] 0 = 2
    unfold colV
    rw [ind_neg (show ¬ HasK liveK dsC [1, 2] 0 from ?_), ind_pos (show HasK (· = 4) dsC [1, 2] 0 from ⟨1, _, rfl, rfl, rfl, Conn.refl _ _ _⟩)]
    · rfl
    · rintro ⟨i, x, hx, hs, hk, _⟩
      rcases dsC_cases hx with ⟨rfl, rfl⟩ | ⟨rfl, rfl⟩
      · cases hs
      · rcases hk with hk | hk <;> cases hk
  unfold dutyAt dutyV
  rw [h, if_neg (by decide)]
  split
  · decide
  split
  · decide
  split <;> decide
theorem mayC {x : Dv} {out : List Int} (hx : dsC[1]? = some x) (h : MayL nsC dsC [3, 1] 1 2 0 [] [0] x out) : hasB out 1 = true ∧ hasB out 5 = false := by
  obtain rfl : x = ⟨⟨#[69]⟩, 4, 0, -1, 0⟩ := (Option.some.inj hx).symm
  constructor
  · rw [hasB_iff, h.2.2]
    refine ⟨[2, 1], by decide, ?_, .inl (by decide)⟩
    unfold hzAt
    rw [if_neg (by decide), hzL_mem]
    refine .inl ⟨rfl, ?_⟩
    rw [show dutyAt nsC.length nsC dsC [2, 1] ((1 : Int).toNat) ⟨⟨#[69]⟩, 4, 0, -1, 0⟩ = 4 from dutyC1]
    rfl
  · rw [hasB_not, h.2.2]
    rintro ⟨s, _, h5, _⟩
    unfold hzAt at h5
    split at h5 <;> rw [hzL_mem] at h5 <;> simp [hasB] at h5
/-- The example's network in memory. -/
structure AwC (w wr : World) : Prop where
  bn : Blk wr (w.heap.size + 1 + 1) 30 #[.slice (some ⟨w.heap.size, 0, none⟩) 1 1, .slice (some ⟨w.heap.size + 1, 0, none⟩) 2 2]
  sn : Sl wr (w.heap.size + 1) 3 (some ⟨w.heap.size, 0, none⟩) 1 1 (nsC.flatMap Nd.cells)
  sd : Sl wr (w.heap.size + 1 + 1) 5 (some ⟨w.heap.size + 1, 0, none⟩) 2 2 (dsC.flatMap Dv.cells)
  bl : Below w.heap.size w wr
  la : Laid wr
  sz : w.heap.size + 3 ≤ wr.heap.size
theorem AwC.later {w wr wr' : World} (h : AwC w wr) (hb : Below wr.heap.size wr wr') : AwC w wr' :=
  ⟨h.bn.below hb h.bn.lt, h.sn.below hb (by have := h.sz; omega), h.sd.below hb (by have := h.sz; omega), h.bl.trans (hb.mono h.bl.size), h.la.below hb (Nat.le_refl _), Nat.le_trans h.sz hb.size⟩
theorem AwC.mk0 (w : World) (hl : Laid w) : AwC w (((w.alloc (.cells #[.string ⟨#[65]⟩, .int .i64 0, .int .i64 0] 49)).alloc (.cells #[.string ⟨#[83]⟩, .int .i64 5, .int .i64 0, .int .i64 (-1), .int .i64 0, .string ⟨#[69]⟩, .int .i64 4, .int .i64 0, .int .i64 (-1), .int .i64 0] 51)).alloc (.cells #[.slice (some ⟨w.heap.size, 0, none⟩) 1 1, .slice (some ⟨w.heap.size + 1, 0, none⟩) 2 2] 30)) := by
  refine ⟨?_, ?_, ?_, ?_, ((hl.alloc _).alloc _).alloc _, by simp⟩
  · have := Blk.new ((w.alloc (.cells #[.string ⟨#[65]⟩, .int .i64 0, .int .i64 0] 49)).alloc (.cells #[.string ⟨#[83]⟩, .int .i64 5, .int .i64 0, .int .i64 (-1), .int .i64 0, .string ⟨#[69]⟩, .int .i64 4, .int .i64 0, .int .i64 (-1), .int .i64 0] 51)) 30 #[.slice (some ⟨w.heap.size, 0, none⟩) 1 1, .slice (some ⟨w.heap.size + 1, 0, none⟩) 2 2]
    simpa using this
  · refine Sl.alloc (Sl.alloc ?_ (by simp) _) (by simp) _
    exact Sl.newest (n := 1) (size := 3) rfl rfl (by decide)
  · refine Sl.alloc ?_ (by simp) _
    exact Sl.newest (n := 2) (size := 5) (by simp) rfl (by decide)
  · exact (((Below.refl _ _).alloc (Nat.le_refl _) _).alloc (by simp) _).alloc (by simp; omega) _
theorem rhasb_any (A : Option Addr) (n c : Nat) (l : List Int) (x : Int) (w : World) (hs : Sl w w.heap.size 1 A n c (intsV l)) :
    Calls Tryd.prog 14 #[.slice A n c, .int .i64 x] w fun e w' => e = .returned (.bool (hasB l x)) ∧ w = w' := by
  have h := rhas_any A n c l x w hs
  rwa [show decide (x ∈ l) = hasB l x by rw [Bool.eq_iff_iff, hasB_iff]; simp] at h
set_option maxRecDepth 100000 in
set_option maxHeartbeats 4000000 in
theorem awake_any (w : World) (hl : Laid w) : Calls Tryd.prog 5 #[] w fun e w' => e = .returned (.bool true) ∧ Below w.heap.size w w' := by
  have HA0 := Lib.hid (AwC.mk0 w hl)
  clear hl
  go_enter Tryd.func5, Tryd.ntmps5
  go_upto_region 2 with (fail)
  generalize World.alloc (World.alloc (World.alloc _ _) _) _ = w0 at *
  have hz0 := HA0.out.sz
  have k0 : w0.cell? ⟨w.heap.size + 1 + 1, 0, none⟩ = some (.slice (some ⟨w.heap.size, 0, none⟩) 1 1) := HA0.out.bn.cell 0
  have k1 : w0.cell? ⟨w.heap.size + 1 + 1, 1, none⟩ = some (.slice (some ⟨w.heap.size + 1, 0, none⟩) 2 2) := HA0.out.bn.cell 1
  go_wp2_with fail
  clear k0 k1
  have HA1 : Hid (AwC w ((w0.alloc (.cells #[.int .i64 3, .int .i64 1] 3)).alloc (.cells #[.int .i64 0] 3))) := HA0.out.later (((Below.refl _ _).alloc (Nat.le_refl _) _).alloc (by simp) _)
  have HM1 : Hid (HzMem ((w0.alloc (.cells #[.int .i64 3, .int .i64 1] 3)).alloc (.cells #[.int .i64 0] 3)) (some ⟨w.heap.size, 0, none⟩) (some ⟨w.heap.size + 1, 0, none⟩) (some ⟨w0.heap.size, 0, none⟩) none (some ⟨w0.heap.size + 1, 0, none⟩) 1 1 2 2 2 2 0 0 1 1 nsC dsC [3, 1] [] [0]) := by
    refine ⟨HA1.out.sn.more (by have := HA1.out.sz; omega), HA1.out.sd.more (by have := HA1.out.sz; omega), ?_, Sl.nil _ _ _, ?_, HA1.out.la, namesC.1, namesC.2⟩
    · exact (Sl.alloc (B := w0.heap.size + 1) (Sl.newest (n := 2) (size := 1) rfl rfl (by decide)) (by simp) _).more (by simp)
    · exact (Sl.newest (H := w0.heap.size + 1) (n := 1) (size := 1) (by simp) rfl (by decide)).more (by simp)
  generalize World.alloc (World.alloc w0 _) _ = w1 at *
  clear HA0
  refine (May_any _ _ _ _ _ 1 1 2 2 2 2 0 0 1 1 nsC dsC [3, 1] [] [0] 1 2 0 w1 HM1.out).mono ?_
  rintro e w2 ⟨⟨h1, _⟩ | ⟨_, A, k, c, x, out, hx, rfl, hO, hML⟩, hb2⟩
  · exact absurd stsC h1
  obtain ⟨hq1, hq5⟩ := mayC hx hML.out
  have HQ1 := Lib.hid hq1; have HQ5 := Lib.hid hq5
  have HA2 := Lib.hid (HA1.out.later hb2.out)
  have HSO := Lib.hid hO.out.sl
  clear hx hML hb2 hO hq1 hq5 HA1 HM1 hz0
  have k0 : w2.cell? ⟨w.heap.size + 1 + 1, 0, none⟩ = some (.slice (some ⟨w.heap.size, 0, none⟩) 1 1) := HA2.out.bn.cell 0
  have k1 : w2.cell? ⟨w.heap.size + 1 + 1, 1, none⟩ = some (.slice (some ⟨w.heap.size + 1, 0, none⟩) 2 2) := HA2.out.bn.cell 1
  have HB3 : Hid (Below w2.heap.size w2 (w2.alloc (.cells #[.int .i64 1, .int .i64 3] 3))) := (Below.refl _ _).alloc (Nat.le_refl _) _
  have HA3 := Lib.hid (HA2.out.later HB3.out)
  have HM3 : Hid (HzMem (w2.alloc (.cells #[.int .i64 1, .int .i64 3] 3)) (some ⟨w.heap.size, 0, none⟩) (some ⟨w.heap.size + 1, 0, none⟩) (some ⟨w2.heap.size, 0, none⟩) none none 1 1 2 2 2 2 0 0 0 0 nsC dsC [1, 3] [] []) := by
    refine ⟨HA3.out.sn.more (by have := HA3.out.sz; omega), HA3.out.sd.more (by have := HA3.out.sz; omega), ?_, Sl.nil _ _ _, Sl.nil _ _ _, HA3.out.la, namesC.1, namesC.2⟩
    exact (Sl.newest (n := 2) (size := 1) rfl rfl (by decide)).more (by simp)
  have HSO3 := Lib.hid ((HSO.out.below HB3.out (Nat.le_refl _)).more HB3.out.size)
  clear HA2 HSO
  go_wp2_with fail
  clear k0 k1
  generalize World.alloc w2 _ = w3 at *
  refine (Fault_any _ _ _ 1 1 2 2 2 2 nsC dsC [1, 3] 1 w3 HM3.out).mono ?_
  rintro e w4 ⟨⟨h1, _⟩ | ⟨_, h1, _⟩ | ⟨_, _, x, hx, rfl⟩, hb4⟩
  · exact absurd maskC h1
  · exact absurd (by decide) h1
  obtain rfl : x = ⟨⟨#[69]⟩, 4, 0, -1, 0⟩ := (Option.some.inj hx).symm
  rw [show decide (dutyAt nsC.length nsC dsC (fillL [1, 3] 2) 1 ⟨⟨#[69]⟩, 4, 0, -1, 0⟩ = 4) = false from decide_eq_false dutyC2]
  have HA4 := Lib.hid (HA3.out.later hb4.out)
  have HSO4 := Lib.hid ((HSO3.out.below hb4.out (Nat.le_refl _)).more hb4.out.size)
  clear hx hb4 HA3 HM3 HSO3 HB3
  go_wp2_with fail
  refine (rhasb_any A k c out 1 w4 HSO4.out).mono ?_
  rintro e w5 ⟨rfl, rfl⟩
  rw [HQ1.out]
  go_wp2_with fail
  refine (rhasb_any A k c out 5 w4 HSO4.out).mono ?_
  rintro e w5 ⟨rfl, rfl⟩
  rw [HQ5.out]
  go_wp2_with fail
  go_ret
  exact ⟨rfl, HA4.out.bl⟩
end Go.Proofs.YtiljpejjjgoeaaaDoor
