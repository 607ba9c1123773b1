import Derived.Test.YtnpfkiidhidjbaaGreatDoorZ32
import Derived.Test.YtnpfkiidhidjbaaGreatDoorZ30
/-
  Layer 13: walks of Fault, Safe, Witness.
-/
namespace Go.Proofs.YtnpfkiidhidjbaaGreatDoor
open Go.RowKit
set_option maxHeartbeats 2000000 in
/-- Of, at a valid state and no device of the network. -/
theorem Of_dev (An Ad As : Option Addr) (nn cn nd cd n c Bn Bd Bs : Nat) (d : Int) (ns : List Nd) (ds : List Dv) (s : List Int) (w : World) (hl : Laid w)
    (hn : Sl w Bn 3 An nn cn (ns.flatMap Nd.cells)) (hBn : Bn ≤ w.heap.size) (hd : Sl w Bd 5 Ad nd cd (ds.flatMap Dv.cells)) (hBd : Bd ≤ w.heap.size) (hs : Sl w Bs 1 As n c (intsV s)) (hBs : Bs ≤ w.heap.size) (hsn : ∀ x ∈ ns, x.name.size ≤ 9223372036854775807) (hsd : ∀ x ∈ ds, x.name.size ≤ 9223372036854775807)
    (h0 : stateErr ns ds s = 0) (he : devErr nd d ≠ 0) :
    Calls Tryz.prog 49 #[.agg #[.slice An nn cn, .slice Ad nd cd], .slice As n c, .int .i64 d] w fun e w' => e = .returned (.tuple #[.int .i64 0, .int .i64 (devErr nd d)]) ∧ Below w.heap.size w w' := by
  have HB : Hid (Below w.heap.size w (w.alloc (.cells #[.slice An nn cn, .slice Ad nd cd] 26))) := (Below.refl _ _).alloc (Nat.le_refl _) _
  have HK := Lib.hid (Blk.new w 26 #[.slice An nn cn, .slice Ad nd cd])
  have HL := Lib.hid hl; have HN := Lib.hid hn; have HD := Lib.hid hd; have HS := Lib.hid hs; have HSN := Lib.hid hsn; have HSD := Lib.hid hsd; have H0 := Lib.hid h0
  have q : (devErr nd d != 0) = true := by simpa using he
  have hndm := hd.le
  clear hl hn hd hs hsn hsd h0 he
  go_enter Tryz.func49, Tryz.ntmps49
  go_wp2_with fail
  generalize World.alloc _ _ = W at *
  have hz := HB.out.size
  have HC := Lib.hid (mstate_any An Ad As nn cn nd cd n c Bn Bd Bs ns ds s W (HL.out.below HB.out (Nat.le_refl _)) (HN.out.below HB.out hBn) (HD.out.below HB.out hBd) (HS.out.below HB.out hBs) (by omega) (by omega) (by omega) HSN.out HSD.out)
  rw [H0.out] at HC
  refine HC.out.mono ?_
  rintro e w1 ⟨rfl, hb1⟩
  have HB1 := Lib.hid (HB.out.trans (hb1.mono hz))
  have HK1 := Lib.hid (HK.out.below hb1 HK.out.lt)
  have hz1 := HB1.out.size
  clear hb1 HC HB HK hz
  have k0 : w1.cell? ⟨w.heap.size, 0, none⟩ = some (.slice An nn cn) := HK1.out.cell 0
  have k1 : w1.cell? ⟨w.heap.size, 1, none⟩ = some (.slice Ad nd cd) := HK1.out.cell 1
  go_wp2_with fail
  refine (device_any An Ad nn cn nd cd d w1 (by omega)).mono ?_
  rintro e w2 ⟨rfl, hb2⟩
  have HB2 := Lib.hid (HB1.out.trans (hb2.mono hz1))
  clear hb2 HB1 k0 k1
  go_wp2_with fail
  go_ret2
  exact ⟨rfl, HB2.out⟩
theorem devErr_ok {nd : Nat} {d : Int} (h : devErr nd d = 0) : 0 ≤ d ∧ d < nd := by
  unfold devErr at h
  split at h
  · cases h
  split at h
  · cases h
  omega
def FaultPost (w : World) (ns : List Nd) (ds : List Dv) (m : List Int) (d : Int) (e : Ending) (w' : World) : Prop :=
  (maskErr ns ds m ≠ 0 ∧ e = .returned (.tuple #[.bool false, .int .i64 (maskErr ns ds m)]) ∨ maskErr ns ds m = 0 ∧ devErr ds.length d ≠ 0 ∧ e = .returned (.tuple #[.bool false, .int .i64 (devErr ds.length d)]) ∨ maskErr ns ds m = 0 ∧ devErr ds.length d = 0 ∧ ∃ x : Dv, ds[d.toNat]? = some x ∧ e = .returned (.tuple #[.bool (decide (dutyAt ns.length ns ds (fillL m 2) d x = 4)), .int .i64 0])) ∧ Hid (Below w.heap.size w w')
set_option maxRecDepth 100000 in
set_option maxHeartbeats 4000000 in
theorem Fault_any (An Ad As : Option Addr) (nn cn nd cd n c : Nat) (ns : List Nd) (ds : List Dv) (m : List Int) (d : Int) (w : World) (h : HzMem w An Ad As none none nn cn nd cd n c 0 0 0 0 ns ds m [] []) :
    Calls Tryz.prog 25 #[.agg #[.slice An nn cn, .slice Ad nd cd], .slice As n c, .int .i64 d] w (FaultPost w ns ds m d) := by
  obtain ⟨hln, hld, hls⟩ := h.ln
  subst hln
  have hndm := h.hd.le; have hsm := h.hs.le
  have HB : Hid (Below w.heap.size w (w.alloc (.cells #[.slice An ns.length cn, .slice Ad nd cd] 26))) := (Below.refl _ _).alloc (Nat.le_refl _) _
  have HK := Lib.hid (Blk.new w 26 #[.slice An ns.length cn, .slice Ad nd cd])
  have HH := Lib.hid h
  clear h
  go_enter Tryz.func25, Tryz.ntmps25
  go_wp2_with fail
  generalize World.alloc _ _ = W at *
  have HM := Lib.hid (HH.out.below HB.out)
  refine (mcheckm_any An Ad As ns.length cn nd cd n c W.heap.size W.heap.size W.heap.size ns ds m W HM.out.la HM.out.hn HM.out.hd HM.out.hs (Nat.le_refl _) (Nat.le_refl _) (Nat.le_refl _) HM.out.sn HM.out.sd).mono ?_
  rintro e w1 ⟨rfl, hb1⟩
  have HB1 := Lib.hid (HB.out.trans (hb1.mono HB.out.size))
  have HK1 := Lib.hid (HK.out.below hb1 HK.out.lt)
  clear hb1 HM HB HK
  by_cases h0 : maskErr ns ds m = 0; rotate_left
  · have q2 : (maskErr ns ds m != 0) = true := by simpa using h0
    have H0 := Lib.hid h0
    clear h0
    go_wp2_with fail
    go_ret2
    exact ⟨.inl ⟨H0.out, rfl⟩, HB1.out⟩
  have H0 := Lib.hid h0
  rw [h0]
  obtain ⟨hc, hml, _⟩ := maskErr_net h0
  have HOK := Lib.hid (NetOk.of hc)
  have HSE := Lib.hid (fillL_state h0 (p := 2) (.inr rfl))
  have hdl := HOK.out.dl; have hnl := HOK.out.nl
  clear h0 hc
  have hm1 : m.length ≤ nd := by omega
  have hm2 : nd ≤ m.length := by omega
  have hm3 : nd ≤ 64 := by omega
  have HLD := Lib.hid hld
  clear hml hdl hld
  subst hls
  have HC1 : Hid (w1.cell? ⟨w.heap.size, 0, none⟩ = some (.slice An ns.length cn) ∧ w1.cell? ⟨w.heap.size, 1, none⟩ = some (.slice Ad nd cd)) := ⟨HK1.out.cell 0, HK1.out.cell 1⟩
  by_cases he : devErr nd d = 0; rotate_left
  · have HE := Lib.hid he
    have qe : (devErr nd d == 0) = false := by simpa using he
    clear he
    go_upto_region 4 with (fail)
    refine wp_region_ord (S := fun W' => W'.cell? ⟨w.heap.size, 0, none⟩ = some (.slice An ns.length cn) ∧ W'.cell? ⟨w.heap.size, 1, none⟩ = some (.slice Ad nd cd)) (J := []) (n := _) ((0, true) :: (1, true) :: (3, true) :: (2, false) :: (4, false) :: (5, true) :: (6, true) :: (7, true) :: (8, true) :: (9, true) :: []) (by as_aux_lemma => kernel_rfl) (by rfl) (base_cons (k := 3) (by go_simp; rfl) (base_cons (k := 1) (by go_simp; rfl) (base_cons (k := 2) (by go_simp; rfl) base_nil))) ?_ (fun _ _ _ _ _ h => h) (fun Q2 A hsz hbase hn2 hHeld => ?_)
    · exact HC1.out
    try dsimp only at hHeld
    obtain ⟨b3, b1, b2, -⟩ := hbase
    refine ord_take (i := 0) (d := 18) (v := ?_) rfl rfl (wanted_none rfl) hHeld (fun ρ hρ w hSw => ?_) ?_
    rotate_left
    · (have e3 := Eq.trans (hρ.tmp hsz 3 rfl) (lkp_base b3); clear hρ; (try dsimp only at hSw); go_simp; try with_reducible rfl)
    show wpOrd _ _ _ _ _ _ _ _
    refine ord_move (i := 1) (d := 19) (v := ?_) rfl rfl rfl (wanted_none rfl) hHeld (fun ρ hρ => ?_) ?_
    rotate_left
    · (have e1 := Eq.trans (hρ.tmp hsz 1 rfl) (miss1 rfl (lkp_base b1)); exact e1)
    show wpOrd _ _ _ _ _ _ _ _
    refine ord_move (i := 3) (d := 21) (v := ?_) rfl rfl rfl (wanted_none rfl) hHeld (fun ρ hρ => ?_) ?_
    rotate_left
    · (have e2 := Eq.trans (hρ.tmp hsz 2 rfl) (miss1 rfl (miss1 rfl (lkp_base b2))); exact e2)
    show wpOrd _ _ _ _ _ _ _ _
    refine ord_call (i := 2) (d := 20) (vs := ?_) rfl rfl rfl (wanted_none rfl) (fun ρ hρ => ?_) ?_ ?_
    rotate_left
    · (have e19 := Eq.trans (hρ.tmp hsz 19 rfl) (miss1 rfl lkp_hit); simp only [List.map_toArray, List.map_cons, List.map_nil, e19]; try with_reducible rfl)
    · (intro w; go_simp)
    refine (highest_any As c w1.drew.heap.size m w1.drew (HH.out.below HB1.out.drew).hs (Nat.le_refl _) (by omega)).mono ?_
    rintro e w2 ⟨A2, c2, rfl, hO2, hb2⟩
    have HB2 := Lib.hid (HB1.out.drew.trans (hb2.out.mono HB1.out.size))
    have HK2 : Hid (Blk w2 w.heap.size 26 #[.slice An ns.length cn, .slice Ad nd cd]) := Blk.below (w := w1.drew) HK1.out hb2.out HK1.out.lt
    have HS2 := Lib.hid hO2.out.sl
    clear hO2 hb2
    refine ⟨_, rfl, fun _ => ?_, fun hHeld' => ?_⟩
    · exact ⟨HK2.out.cell 0, HK2.out.cell 1⟩
    replace hHeld := hHeld' rfl
    clear hHeld'
    try dsimp only at hHeld
    show wpOrd _ _ _ _ _ _ _ _
    refine ord_call (i := 4) (d := 22) (vs := ?_) rfl rfl rfl (wanted_none rfl) (fun ρ hρ => ?_) ?_ ?_
    rotate_left
    · (have e18 := Eq.trans (hρ.tmp hsz 18 rfl) (miss1 rfl (miss1 rfl (miss1 rfl lkp_hit))); have e20 := Eq.trans (hρ.tmp hsz 20 rfl) lkp_hit; have e21 := Eq.trans (hρ.tmp hsz 21 rfl) (miss1 rfl lkp_hit); simp only [List.map_toArray, List.map_cons, List.map_nil, e18, e20, e21]; try with_reducible rfl)
    · (intro w; go_simp)
    refine (Of_dev An Ad A2 ns.length cn nd cd (fillL m 2).length c2 w2.heap.size w2.heap.size w2.heap.size d ns ds (fillL m 2) w2 (HH.out.below HB2.out).la (HH.out.below HB2.out).hn (Nat.le_refl _) (HH.out.below HB2.out).hd (Nat.le_refl _) HS2.out (Nat.le_refl _) HH.out.sn HH.out.sd HSE.out HE.out).mono ?_
    rintro e w3 ⟨rfl, hb3⟩
    have HB3 := Lib.hid (HB2.out.trans (hb3.mono HB2.out.size))
    have HK3 := Lib.hid (HK2.out.below hb3 HK2.out.lt)
    clear hb3
    refine ⟨_, rfl, fun _ => ?_, fun hHeld' => ?_⟩
    · exact ⟨HK3.out.cell 0, HK3.out.cell 1⟩
    replace hHeld := hHeld' rfl
    clear hHeld'
    try dsimp only at hHeld
    show wpOrd _ _ _ _ _ _ _ _
    refine ord_move (i := 5) (d := 17) (v := ?_) rfl rfl rfl (wanted_none rfl) hHeld (fun ρ hρ => ?_) ?_
    rotate_left
    · (have e22 := Eq.trans (hρ.tmp hsz 22 rfl) lkp_hit; exact e22)
    show wpOrd _ _ _ _ _ _ _ _
    refine ord_take (i := 6) (d := 23) (v := ?_) rfl rfl (wanted_none rfl) hHeld (fun ρ hρ w hSw => ?_) ?_
    rotate_left
    · (have e17 := Eq.trans (hρ.tmp hsz 17 rfl) lkp_hit; clear hρ; (try dsimp only at hSw); go_simp; try with_reducible rfl)
    show wpOrd _ _ _ _ _ _ _ _
    refine ord_take (i := 7) (d := 24) (v := ?_) rfl rfl (wanted_none rfl) hHeld (fun ρ hρ w hSw => ?_) ?_
    rotate_left
    · (have e17 := Eq.trans (hρ.tmp hsz 17 rfl) (miss1 rfl lkp_hit); clear hρ; (try dsimp only at hSw); go_simp; try with_reducible rfl)
    show wpOrd _ _ _ _ _ _ _ _
    refine ord_take (i := 8) (d := 9) (v := ?_) rfl rfl (wanted_none rfl) hHeld (fun ρ hρ w hSw => ?_) ?_
    rotate_left
    · (have e23 := Eq.trans (hρ.tmp hsz 23 rfl) (miss1 rfl lkp_hit); clear hρ; (try dsimp only at hSw); go_simp; try with_reducible rfl)
    show wpOrd _ _ _ _ _ _ _ _
    refine ord_take (i := 9) (d := 10) (v := ?_) rfl rfl (wanted_none rfl) hHeld (fun ρ hρ w hSw => ?_) ?_
    rotate_left
    · (have e24 := Eq.trans (hρ.tmp hsz 24 rfl) (miss1 rfl lkp_hit); clear hρ; (try dsimp only at hSw); go_simp; try with_reducible rfl)
    show wpOrd _ _ _ _ _ _ _ _
    refine ord_done hn2 ?_
    clear hHeld hn2 b3 b1 b2 hsz A Q2
    simp only [puts_nil, puts_cons, put_lit, set_1, set_0]
    go_wp2_with fail
    go_ret2
    exact ⟨.inr (.inl ⟨H0.out, by rw [HLD.out]; exact HE.out, by rw [HLD.out]; rfl⟩), HB3⟩
  have HE := Lib.hid he
  obtain ⟨hd0, hd1⟩ := devErr_ok he
  clear he
  obtain ⟨i, rfl⟩ := Int.eq_ofNat_of_zero_le hd0
  have hi : i < nd := by omega
  obtain ⟨x, hx⟩ : ∃ x, ds[i]? = some x := ⟨_, List.getElem?_eq_getElem (by rw [HLD.out]; exact hi)⟩
  have HX := Lib.hid hx
  obtain ⟨du, hdu⟩ : ∃ y, y = dutyAt ns.length ns ds (fillL m 2) i x := ⟨_, rfl⟩
  have HDU := Lib.hid hdu
  clear hx hdu
  go_upto_region 4 with (fail)
  refine wp_region_ord (S := fun W' => W'.cell? ⟨w.heap.size, 0, none⟩ = some (.slice An ns.length cn) ∧ W'.cell? ⟨w.heap.size, 1, none⟩ = some (.slice Ad nd cd)) (J := []) (n := _) ((0, true) :: (1, true) :: (3, true) :: (2, false) :: (4, false) :: (5, true) :: (6, true) :: (7, true) :: (8, true) :: (9, true) :: []) (by as_aux_lemma => kernel_rfl) (by rfl) (base_cons (k := 3) (by go_simp; rfl) (base_cons (k := 1) (by go_simp; rfl) (base_cons (k := 2) (by go_simp; rfl) base_nil))) ?_ (fun _ _ _ _ _ h => h) (fun Q2 A hsz hbase hn2 hHeld => ?_)
  · exact HC1.out
  try dsimp only at hHeld
  obtain ⟨b3, b1, b2, -⟩ := hbase
  refine ord_take (i := 0) (d := 18) (v := ?_) rfl rfl (wanted_none rfl) hHeld (fun ρ hρ w hSw => ?_) ?_
  rotate_left
  · (have e3 := Eq.trans (hρ.tmp hsz 3 rfl) (lkp_base b3); clear hρ; (try dsimp only at hSw); go_simp; try with_reducible rfl)
  show wpOrd _ _ _ _ _ _ _ _
  refine ord_move (i := 1) (d := 19) (v := ?_) rfl rfl rfl (wanted_none rfl) hHeld (fun ρ hρ => ?_) ?_
  rotate_left
  · (have e1 := Eq.trans (hρ.tmp hsz 1 rfl) (miss1 rfl (lkp_base b1)); exact e1)
  show wpOrd _ _ _ _ _ _ _ _
  refine ord_move (i := 3) (d := 21) (v := ?_) rfl rfl rfl (wanted_none rfl) hHeld (fun ρ hρ => ?_) ?_
  rotate_left
  · (have e2 := Eq.trans (hρ.tmp hsz 2 rfl) (miss1 rfl (miss1 rfl (lkp_base b2))); exact e2)
  show wpOrd _ _ _ _ _ _ _ _
  refine ord_call (i := 2) (d := 20) (vs := ?_) rfl rfl rfl (wanted_none rfl) (fun ρ hρ => ?_) ?_ ?_
  rotate_left
  · (have e19 := Eq.trans (hρ.tmp hsz 19 rfl) (miss1 rfl lkp_hit); simp only [List.map_toArray, List.map_cons, List.map_nil, e19]; try with_reducible rfl)
  · (intro w; go_simp)
  refine (highest_any As c w1.drew.heap.size m w1.drew (HH.out.below HB1.out.drew).hs (Nat.le_refl _) (by omega)).mono ?_
  rintro e w2 ⟨A2, c2, rfl, hO2, hb2⟩
  have HB2 := Lib.hid (HB1.out.drew.trans (hb2.out.mono HB1.out.size))
  have HK2 : Hid (Blk w2 w.heap.size 26 #[.slice An ns.length cn, .slice Ad nd cd]) := Blk.below (w := w1.drew) HK1.out hb2.out HK1.out.lt
  have HS2 := Lib.hid hO2.out.sl
  clear hO2 hb2
  refine ⟨_, rfl, fun _ => ?_, fun hHeld' => ?_⟩
  · exact ⟨HK2.out.cell 0, HK2.out.cell 1⟩
  replace hHeld := hHeld' rfl
  clear hHeld'
  try dsimp only at hHeld
  show wpOrd _ _ _ _ _ _ _ _
  refine ord_call (i := 4) (d := 22) (vs := ?_) rfl rfl rfl (wanted_none rfl) (fun ρ hρ => ?_) ?_ ?_
  rotate_left
  · (have e18 := Eq.trans (hρ.tmp hsz 18 rfl) (miss1 rfl (miss1 rfl (miss1 rfl lkp_hit))); have e20 := Eq.trans (hρ.tmp hsz 20 rfl) lkp_hit; have e21 := Eq.trans (hρ.tmp hsz 21 rfl) (miss1 rfl lkp_hit); simp only [List.map_toArray, List.map_cons, List.map_nil, e18, e20, e21]; try with_reducible rfl)
  · (intro w; go_simp)
  refine (Of_ok An Ad A2 ns.length cn nd cd (fillL m 2).length c2 w2.heap.size w2.heap.size w2.heap.size i ns ds (fillL m 2) x w2 (HH.out.below HB2.out).la (HH.out.below HB2.out).hn (Nat.le_refl _) (HH.out.below HB2.out).hd (Nat.le_refl _) HS2.out (Nat.le_refl _) HH.out.sn HH.out.sd HSE.out (by omega) (by rw [fillL_len]; omega) (by rw [fillL_len]; omega) hi HX.out HOK.out.e HOK.out.a).mono ?_
  rintro e w3 ⟨rfl, hb3⟩
  rw [← HDU.out]
  have HB3 := Lib.hid (HB2.out.trans (hb3.mono HB2.out.size))
  have HK3 := Lib.hid (HK2.out.below hb3 HK2.out.lt)
  clear hb3
  refine ⟨_, rfl, fun _ => ?_, fun hHeld' => ?_⟩
  · exact ⟨HK3.out.cell 0, HK3.out.cell 1⟩
  replace hHeld := hHeld' rfl
  clear hHeld'
  try dsimp only at hHeld
  show wpOrd _ _ _ _ _ _ _ _
  refine ord_move (i := 5) (d := 17) (v := ?_) rfl rfl rfl (wanted_none rfl) hHeld (fun ρ hρ => ?_) ?_
  rotate_left
  · (have e22 := Eq.trans (hρ.tmp hsz 22 rfl) lkp_hit; exact e22)
  show wpOrd _ _ _ _ _ _ _ _
  refine ord_take (i := 6) (d := 23) (v := ?_) rfl rfl (wanted_none rfl) hHeld (fun ρ hρ w hSw => ?_) ?_
  rotate_left
  · (have e17 := Eq.trans (hρ.tmp hsz 17 rfl) lkp_hit; clear hρ; (try dsimp only at hSw); go_simp; try with_reducible rfl)
  show wpOrd _ _ _ _ _ _ _ _
  refine ord_take (i := 7) (d := 24) (v := ?_) rfl rfl (wanted_none rfl) hHeld (fun ρ hρ w hSw => ?_) ?_
  rotate_left
  · (have e17 := Eq.trans (hρ.tmp hsz 17 rfl) (miss1 rfl lkp_hit); clear hρ; (try dsimp only at hSw); go_simp; try with_reducible rfl)
  show wpOrd _ _ _ _ _ _ _ _
  refine ord_take (i := 8) (d := 9) (v := ?_) rfl rfl (wanted_none rfl) hHeld (fun ρ hρ w hSw => ?_) ?_
  rotate_left
  · (have e23 := Eq.trans (hρ.tmp hsz 23 rfl) (miss1 rfl lkp_hit); clear hρ; (try dsimp only at hSw); go_simp; try with_reducible rfl)
  show wpOrd _ _ _ _ _ _ _ _
  refine ord_take (i := 9) (d := 10) (v := ?_) rfl rfl (wanted_none rfl) hHeld (fun ρ hρ w hSw => ?_) ?_
  rotate_left
  · (have e24 := Eq.trans (hρ.tmp hsz 24 rfl) (miss1 rfl lkp_hit); clear hρ; (try dsimp only at hSw); go_simp; try with_reducible rfl)
  show wpOrd _ _ _ _ _ _ _ _
  refine ord_done hn2 ?_
  clear hHeld hn2 b3 b1 b2 hsz A Q2
  simp only [puts_nil, puts_cons, put_lit, set_1, set_0]
  go_wp2_with fail
  go_ret2
  exact ⟨.inr (.inr ⟨H0.out, by rw [HLD.out]; exact HE.out, x, by simpa using HX.out, by rw [← HDU.out]; rfl⟩), HB3⟩
theorem contfi_any (g : Nat) (lb : Array Value) (p : Int → Bool) (eg : ∀ args w, (callFunc g args).run Tryz.prog w = .ok (.enter g args) w) (A : Option Addr) (n c B : Nat) (l : List Int) (w : World) (h : Sl w B 1 A n c (intsV l)) (hp : PredAt Tryz.prog g lb (Value.int .i64) p w) :
    Calls Tryz.prog 46 #[.slice A n c, .func (.func g) #[] lb] w fun e w' => e = .returned (.bool (l.any p)) ∧ ∃ q, w' = w.drewN q := by
  have hl : l.length = n := h.len (fun _ => rfl) (by decide)
  have hle := h.le
  rcases Nat.eq_zero_or_pos n with rfl | h0
  · have : l = [] := List.eq_nil_of_length_eq_zero hl
    subst this
    refine (Tryz.slices_ContainsFunc_empty (α := Int) A c (.func (.func g) #[] lb) w).mono ?_
    rintro e w1 ⟨rfl, rfl⟩
    exact ⟨rfl, 0, rfl⟩
  · obtain ⟨b, off, rfl, hb, _, hc⟩ := h.getB h0
    refine (Tryz.slices_ContainsFunc (Value.int .i64) p g lb eg b off n c l w hp (by omega) (by omega) (fun j hj => ?_)).mono ?_
    · rw [hc j hj, List.getD_eq_getElem?_getD, List.getElem?_eq_getElem hj]
      congr 2
      simp [hj]
    · rintro e w1 ⟨rfl, q, rfl⟩
      rw [List.take_of_length_le (by omega)]
      exact ⟨rfl, q, rfl⟩
def safeB (out but : List Int) : Bool := !(out.any fun h => !hasB but h)
theorem safeB_iff (out but : List Int) : safeB out but = true ↔ ∀ h ∈ out, h ∈ but := by
  unfold safeB hasB
  simp
def SafePost (w : World) (ns : List Nd) (ds : List Dv) (m : List Int) (d p co : Int) (ls : List Lk) (pr but : List Int) (e : Ending) (w' : World) : Prop :=
  (stsErr ns ds m d p co ≠ 0 ∧ e = .returned (.tuple #[.bool false, .int .i64 (stsErr ns ds m d p co)]) ∨ stsErr ns ds m d p co = 0 ∧ ∃ (x : Dv) (out : List Int), ds[d.toNat]? = some x ∧ Hid (MayL ns ds m d p co ls pr x out) ∧ e = .returned (.tuple #[.bool (safeB out but), .int .i64 0])) ∧ Hid (Below w.heap.size w w')
theorem safe1_gives (Ab : Option Addr) (mb cb bb B : Nat) (l : List Int) (x : Int) (W : World) (hc : W.cell? ⟨bb, 0, none⟩ = some (.slice Ab mb cb)) (hs : Sl W B 1 Ab mb cb (intsV l)) :
    FnGives Tryz.prog 47 #[.pointer (some ⟨bb, 0, none⟩)] #[.int .i64 x] (.bool (!hasB l x)) W := by
  have HC := Lib.hid (contains_any Ab mb cb B l x W hs)
  show Calls Tryz.prog 47 #[.int .i64 x, .pointer (some ⟨bb, 0, none⟩)] W _
  clear hs
  go_enter Tryz.func47, Tryz.ntmps47
  go_wp2_with fail
  refine HC.out.mono ?_
  rintro e w1 ⟨rfl, rfl⟩
  go_wp2_with fail
  go_ret
  exact ⟨rfl, 0, rfl⟩
set_option maxHeartbeats 4000000 in
theorem Safe_any (An Ad As Al Ap Ab : Option Addr) (nn cn nd cd n c nl cl np cp nb cb : Nat) (ns : List Nd) (ds : List Dv) (m : List Int) (ls : List Lk) (pr but : List Int) (d p co : Int) (w : World) (h : HzMem w An Ad As Al Ap nn cn nd cd n c nl cl np cp ns ds m ls pr) (hb : Sl w w.heap.size 1 Ab nb cb (intsV but)) :
    Calls Tryz.prog 19 #[.agg #[.slice An nn cn, .slice Ad nd cd], .slice As n c, .agg #[.int .i64 d, .int .i64 p], .agg #[.int .i64 co, .slice Al nl cl, .slice Ap np cp], .slice Ab nb cb] w (SafePost w ns ds m d p co ls pr but) := by
  have HBT := Lib.hid hb
  have HX0 := Lib.hid (Bx3.new w #[.slice An nn cn, .slice Ad nd cd] #[.int .i64 d, .int .i64 p] #[.int .i64 co, .slice Al nl cl, .slice Ap np cp])
  have HB0 := Lib.hid (HX0.out.bl.alloc HX0.out.bl.size (.cells #[.slice Ab nb cb] 22))
  have HBB := Lib.hid (Blk.new (((w.alloc (.cells #[.slice An nn cn, .slice Ad nd cd] 26)).alloc (.cells #[.int .i64 d, .int .i64 p] 28)).alloc (.cells #[.int .i64 co, .slice Al nl cl, .slice Ap np cp] 31)) 22 #[.slice Ab nb cb])
  have HH := Lib.hid h
  clear h hb HX0
  go_enter Tryz.func19, Tryz.ntmps19
  go_wp2_with fail
  have hsz : (((w.alloc (.cells #[.slice An nn cn, .slice Ad nd cd] 26)).alloc (.cells #[.int .i64 d, .int .i64 p] 28)).alloc (.cells #[.int .i64 co, .slice Al nl cl, .slice Ap np cp] 31)).heap.size = w.heap.size + 1 + 1 + 1 := by simp
  rw [hsz] at HBB
  clear hsz
  generalize World.alloc (World.alloc (World.alloc (World.alloc w _) _) _) _ = W at *
  refine (May_any An Ad As Al Ap nn cn nd cd n c nl cl np cp ns ds m ls pr d p co W (HH.out.below HB0.out)).mono ?_
  rintro e w1 ⟨⟨h1, rfl⟩ | ⟨h1, AR, kR, cR, x, out, hx, rfl, hO, hML⟩, hb1⟩
  · have H1 := Lib.hid h1
    have q : (stsErr ns ds m d p co == 0) = false := by simpa using h1
    have HB1 := Lib.hid (HB0.out.trans (hb1.out.mono HB0.out.size))
    clear h1 hb1
    go_wp2_with fail
    go_ret2
    exact ⟨.inl ⟨H1.out, rfl⟩, HB1.out⟩
  have H1 := Lib.hid h1
  have HX := Lib.hid hx
  have HB1 := Lib.hid (HB0.out.trans (hb1.out.mono HB0.out.size))
  have HBB1 := Lib.hid (HBB.out.below hb1.out HBB.out.lt)
  have HBT1 := Lib.hid (HBT.out.below HB1.out (Nat.le_refl _))
  have HSO := Lib.hid hO.out.sl
  have HCF := Lib.hid (contfi_any 47 #[.pointer (some ⟨w.heap.size + 1 + 1 + 1, 0, none⟩)] (fun h => !hasB but h) (enters_of Tryz.func47 (by kernel_rfl) rfl) AR kR cR w1.heap.size out w1 HSO.out
    (fun W' x hb => safe1_gives Ab nb cb _ w.heap.size but x W' ((hb.cell (p := ⟨w.heap.size + 1 + 1 + 1, 0, none⟩) HBB1.out.lt).trans (HBB1.out.cell 0)) (HBT1.out.below hb HB1.out.size)))
  clear h1 hx hb1 hO HBB HB0 HSO
  go_wp2_with fail
  refine HCF.out.mono ?_
  rintro e w2 ⟨rfl, q, rfl⟩
  go_wp2_with fail
  go_ret2
  exact ⟨.inr ⟨H1.out, x, out, HX.out, hML, rfl⟩, below_drewN' HB1.out q⟩
end Go.Proofs.YtnpfkiidhidjbaaGreatDoor
/-
  Layers 6 and 13: walks of Witness and of the reference's Agrees.
-/
namespace Go.Proofs.YtnpfkiidhidjbaaGreatDoor
open Go.RowKit
/-- What Witness returns: the first state with a hazard. -/
def WitPost (w : World) (ns : List Nd) (ds : List Dv) (m : List Int) (d p co : Int) (ls : List Lk) (pr : List Int) (h : Int) (e : Ending) (w' : World) : Prop :=
  (stsErr ns ds m d p co ≠ 0 ∧ e = .returned (.tuple #[.slice none 0 0, .bool false, .int .i64 (stsErr ns ds m d p co)]) ∨
   stsErr ns ds m d p co = 0 ∧ ∃ x : Dv, ds[d.toNat]? = some x ∧
    ((∃ (k : Nat) (s : List Int) (A : Option Addr) (c : Nat), (allOf m)[k]? = some s ∧ h ∈ hzAt ns.length ns ds s d.toNat p co ls pr x ∧ (∀ t ∈ (allOf m).take k, h ∉ hzAt ns.length ns ds t d.toNat p co ls pr x) ∧ e = .returned (.tuple #[.slice A s.length c, .bool true, .int .i64 0]) ∧ Hid (Sl w' w'.heap.size 1 A s.length c (intsV s))) ∨
     (∀ t ∈ allOf m, h ∉ hzAt ns.length ns ds t d.toNat p co ls pr x) ∧ e = .returned (.tuple #[.slice none 0 0, .bool false, .int .i64 0]))) ∧ Hid (Below w.heap.size w w')
def WiR (w1 : World) (N : Nat → Prop) (n gk : Nat) (iv : Value) (wr : World) : Prop := ∃ k : Nat, iv = .int .i64 k ∧ k ≤ n ∧ gk = n - k ∧ Hid (Below w1.heap.size w1 wr) ∧ Hid (N k)
set_option maxRecDepth 100000 in
set_option maxHeartbeats 4000000 in
theorem Witness_any (An Ad As Al Ap : Option Addr) (nn cn nd cd n c nl cl np cp : Nat) (ns : List Nd) (ds : List Dv) (m : List Int) (ls : List Lk) (pr : List Int) (d p co h : Int) (w : World) (hm : HzMem w An Ad As Al Ap nn cn nd cd n c nl cl np cp ns ds m ls pr) :
    Calls Tryz.prog 22 #[.agg #[.slice An nn cn, .slice Ad nd cd], .slice As n c, .agg #[.int .i64 d, .int .i64 p], .agg #[.int .i64 co, .slice Al nl cl, .slice Ap np cp], .int .i64 h] w (WitPost w ns ds m d p co ls pr h) := by
  obtain ⟨hln, hld, hls⟩ := hm.ln
  subst hln
  have HB := Lib.hid (Bx3.new w #[.slice An ns.length cn, .slice Ad nd cd] #[.int .i64 d, .int .i64 p] #[.int .i64 co, .slice Al nl cl, .slice Ap np cp])
  have HH := Lib.hid hm
  clear hm
  go_enter Tryz.func22, Tryz.ntmps22
  go_wp2_with fail
  generalize World.alloc (World.alloc (World.alloc w _) _) _ = W at *
  have HM := Lib.hid (HH.out.below HB.out.bl)
  refine (states_any An Ad As Al Ap ns.length cn nd cd n c nl cl np cp ns ds m ls pr d p co W HM.out).mono ?_
  rintro e w1 ⟨⟨h1, rfl⟩ | ⟨h1, AR, kR, cR, rfl, hR⟩, hb1⟩
  · have H1 := Lib.hid h1
    have HB1 := Lib.hid (HB.out.later hb1.out)
    clear h1 hb1 HB HM
    go_wp2_with fail
    go_loopg [27] 0 (WiR w1 (fun _ => True) 0)
    case atStart => exact ⟨0, rfl, Nat.le_refl _, rfl, Below.refl _ _, trivial⟩
    case round =>
      obtain ⟨k, rfl, hk, rfl, hbl, -⟩ := hrel
      obtain rfl : k = 0 := by omega
      go_wp2_with fail
      go_ret3
      exact ⟨.inl ⟨H1.out, rfl⟩, HB1.out.bl.trans (hbl.out.mono HB1.out.bl.size)⟩
  have HB1 := Lib.hid (HB.out.later hb1.out)
  have HM1 := Lib.hid (HH.out.below HB1.out.bl)
  have H1 := Lib.hid h1
  have HLR := Lib.hid hR.out.len
  have hRl := hR.out.le
  obtain ⟨hmk, hze, hce⟩ := stsErr_ok h1
  obtain ⟨hd, hp, hco⟩ := hzErr_ok hze
  have HMK := Lib.hid hmk; have HZE := Lib.hid hze
  obtain ⟨k, rfl⟩ := Int.eq_ofNat_of_zero_le hd.1
  have hk : k < ds.length := by omega
  obtain ⟨x, hx⟩ : ∃ x, ds[k]? = some x := ⟨_, List.getElem?_eq_getElem hk⟩
  have HX := Lib.hid hx
  clear HB HM hb1 hce hmk hze hx h1
  have hz1 := HB1.out.bl.size
  go_wp2_with fail
  go_loopg [27] kR (WiR w1 (fun i => ∀ t ∈ (allOf m).take i, h ∉ hzAt ns.length ns ds t k p co ls pr x) kR)
  case atStart => exact ⟨0, rfl, Nat.zero_le _, rfl, Below.refl _ _, (fun t ht => by simp at ht)⟩
  case round =>
    obtain ⟨kk, rfl, hkk, rfl, hbl, hno⟩ := hrel
    by_cases hlt : kk < kR
    · obtain ⟨br, ofr, s, As2, cs2, rfl, hbr, hs, hcr, hsr⟩ := (hR.out.below hbl.out (Nat.le_refl _)).at hlt
      have HSE : Hid (stateErr ns ds s = 0) := state_of_mask HMK.out (List.mem_of_getElem? hs)
      have HS := Lib.hid hs
      have HBr := Lib.hid (HB1.out.later hbl.out)
      have HMr := Lib.hid (HM1.out.below hbl.out)
      have HSR := Lib.hid (hsr.more hbl.out.size)
      obtain ⟨⟨k0, k1⟩, ⟨o0, o1⟩, g0, g1, g2⟩ := HBr.out.cells
      clear hs hsr
      go_upto_region 5 with (fail)
      clear hcr
      obtain ⟨x', hx', hinn⟩ := in_ok (s := s) (As := As2) (n := s.length) (c := cs2) ⟨HMr.out.hn, HMr.out.hd, HSR.out, HMr.out.hl, HMr.out.hp, HMr.out.la, HMr.out.sn, HMr.out.sd⟩ HSE.out (show hzErr nd (k : Int) p co = 0 by rw [← hld]; exact HZE.out)
      simp only [Int.toNat_natCast] at hx' hinn
      obtain rfl : x = x' := by have := HX.out; rw [this] at hx'; exact Option.some.inj hx'
      have HIN := Lib.hid hinn
      clear hinn hx'
      go_wp2_with fail
      clear k0 k1 o0 o1 g0 g1 g2
      refine HIN.out.mono ?_
      rintro e w4 ⟨AH, cH, rfl, hOH, hb4⟩
      have HB4 := Lib.hid (hbl.out.trans (hb4.out.mono hbl.out.size))
      have HCO := Lib.hid (contains_any AH _ cH w4.heap.size _ h w4 hOH.out.sl)
      have HS4 := Lib.hid ((HSR.out.below hb4.out (Nat.le_refl _)).more hb4.out.size)
      clear HIN hbl hb4 hOH HBr HMr HSR HSE
      go_wp2_with fail
      rcases hq : hasB (hzAt ns.length ns ds s k p co ls pr x) h with _ | _
      · rw [hq] at HCO
        have HN1 : Hid (∀ t ∈ (allOf m).take (kk + 1), h ∉ hzAt ns.length ns ds t k p co ls pr x) := fun t ht => by
          rw [take_snoc HS.out] at ht
          rcases List.mem_append.1 ht with h1 | h1
          · exact hno.out t h1
          · rw [List.mem_singleton.1 h1]; exact (hasB_not _ _).1 hq
        clear hq
        refine HCO.out.mono ?_
        rintro e w5 ⟨rfl, rfl⟩
        go_wp2_with fail
        go_roundg (kR - (kk + 1))
        case rel => exact ⟨kk + 1, by go_num, by omega, rfl, HB4, HN1⟩
        case measure => omega
      · rw [hq] at HCO
        have HQ := Lib.hid ((hasB_iff _ _).1 hq)
        clear hq
        refine HCO.out.mono ?_
        rintro e w5 ⟨rfl, rfl⟩
        go_wp2_with fail
        go_ret3
        exact ⟨.inr ⟨H1.out, x, by simpa using HX.out, .inl ⟨kk, s, As2, cs2, HS.out, by simpa using HQ.out, by simpa using hno.out, rfl, HS4⟩⟩, HB1.out.bl.trans (HB4.out.mono hz1)⟩
    · obtain rfl : kk = kR := by omega
      have hii : decide (kk < kk) = false := by simp
      have HNA : ∀ t ∈ (allOf m).take kk, h ∉ hzAt ns.length ns ds t k p co ls pr x := hno.out
      rw [List.take_of_length_le (by rw [HLR.out]; exact Nat.le_refl _)] at HNA
      have HNB := Lib.hid HNA
      clear HNA
      go_wp2_with fail
      go_ret3
      exact ⟨.inr ⟨H1.out, x, by simpa using HX.out, .inr ⟨by simpa using HNB.out, rfl⟩⟩, HB1.out.bl.trans (hbl.out.mono hz1)⟩
end Go.Proofs.YtnpfkiidhidjbaaGreatDoor
/-
  The reference's All: all agreeing states.
-/
namespace Go.Proofs.YtnpfkiidhidjbaaGreatDoor
open Go.RowKit
theorem RowsO.appL {w w' : World} {base n c : Nat} {A : Option Addr} {ls : List (List Int)} {vs : List Value} (h : RowsO w base A n c ls vs) {A1 An : Option Addr} {c1 cn ln : Nat} {l : List Int} (hln : l.length = ln) (hown : w'.ownsRow base 22 1 (.slice A1 (n + 1) c1) (n + 1) (vs ++ [.slice An ln cn])) (hg : w.grownBy w' (Value.slice A n c).ownBlock)
    (hat : (Value.slice A1 (n + 1) c1).ownBlock = (Value.slice A n c).ownBlock ∨ (Value.slice A1 (n + 1) c1).ownBlock = some w.heap.size) (hl : Sl w w.heap.size 1 An ln cn (intsV l)) (hlt : ∀ b off, An = some ⟨b, off, none⟩ → b < w.heap.size ∧ some b ≠ (Value.slice A n c).ownBlock) : RowsO w' base A1 (n + 1) c1 (ls ++ [l]) (vs ++ [.slice An ln cn]) := by
  subst hln
  exact h.app hown hg hat hl hlt
/-- What of one row is laid. -/
def partL (x : Int) (o : List Int) (p : Nat) : List (List Int) := (if 2 ≤ p ∧ x ≠ 2 then [o ++ [1]] else []) ++ (if 3 ≤ p ∧ x ≠ 1 then [o ++ [2]] else [])
theorem partL_one (x : Int) (o : List Int) : partL x o 1 = [] := rfl
theorem partL_done {x : Int} (o : List Int) (h : x = 1 ∨ x = 2 ∨ x = 3) : partL x o 3 = nextL (some x) o := by
  rcases h with rfl | rfl | rfl <;> rfl
theorem partL_len (x : Int) (o : List Int) (p : Nat) : (partL x o p).length ≤ 2 := by
  unfold partL; split <;> split <;> simp
theorem next_len (x : Option Int) (ls : List (List Int)) : (ls.flatMap (nextL x)).length ≤ 2 * ls.length := by
  induction ls with
  | nil => simp
  | cons o ls ih =>
    rw [List.flatMap_cons, List.length_append, List.length_cons]
    have : (nextL x o).length ≤ 2 := by unfold nextL; split <;> simp
    omega
theorem cErr_zero {m : List Int} (h : cErr m = 0) : (∀ x ∈ m, maskB x = true) ∧ cntN m m.length ≤ 8 := by
  unfold cErr at h
  split at h
  · next hv =>
    split at h
    · omega
    · exact ⟨List.all_eq_true.1 hv, by omega⟩
  · omega
def RaR1 (w : World) (m : List Int) (gk : Nat) (ov iv : Value) (wr : World) : Prop := ∃ (i no co : Nat) (Ao : Option Addr), iv = .int .i64 i ∧ ov = .slice Ao no co ∧ i ≤ m.length ∧ gk = m.length - i ∧ Hid (RowsAt wr wr.heap.size Ao no co (allN m i)) ∧ Hid (Below w.heap.size w wr)
def RaR2 (W : World) (m : List Int) (i no gk : Nat) (ov iv : Value) (wr : World) : Prop := ∃ (k nx cx : Nat) (Ax : Option Addr) (vs : List Value), iv = .int .i64 k ∧ ov = .slice Ax nx cx ∧ k ≤ no ∧ gk = no - k ∧ Hid (RowsO wr W.heap.size Ax nx cx (((allN m i).take k).flatMap (nextL m[i]?)) vs) ∧ Hid (Below W.heap.size W wr)
def RaR3 (W : World) (m : List Int) (i k : Nat) (x : Int) (o : List Int) (gk : Nat) (ov pv : Value) (wr : World) : Prop := ∃ (p nx cx : Nat) (Ax : Option Addr) (vs : List Value), pv = .int .i64 p ∧ ov = .slice Ax nx cx ∧ 1 ≤ p ∧ p ≤ 3 ∧ gk = 3 - p ∧ Hid (RowsO wr W.heap.size Ax nx cx (((allN m i).take k).flatMap (nextL m[i]?) ++ partL x o p) vs) ∧ Hid (Below W.heap.size W wr)
set_option maxRecDepth 100000 in
set_option maxHeartbeats 8000000 in
theorem rall_any (A : Option Addr) (c B : Nat) (m : List Int) (w : World) (hs : Sl w B 1 A m.length c (intsV m)) (hB : B ≤ w.heap.size) (hn : m.length ≤ 1000) : Calls Tryz.prog 77 #[.slice A m.length c] w (MAllPost w m) := by
  have HC := Lib.hid (rcount_any A m.length c B m w hs hB (by omega))
  have HS := Lib.hid hs
  clear hs
  by_cases he : cErr m = 0; rotate_left
  · have q : (cErr m != 0) = true := by simpa using he
    have HE := Lib.hid he
    clear he
    go_enter Tryz.func77, Tryz.ntmps77
    go_wp2_with fail
    refine HC.out.mono ?_
    rintro e w1 ⟨rfl, hb1⟩
    go_wp2_with fail
    go_ret2
    exact ⟨.inl ⟨HE.out, rfl⟩, hb1⟩
  have HMB := Lib.hid (cErr_zero he).1
  have HU8 := Lib.hid (cErr_zero he).2
  have HE := Lib.hid he
  rw [he] at HC
  clear he
  generalize cntV m = cv at *
  go_enter Tryz.func77, Tryz.ntmps77
  go_wp2_with fail
  refine HC.out.mono ?_
  rintro e w1 ⟨rfl, hb1⟩
  go_wp2_with fail
  have HR0 : Hid (RowsAt (w1.alloc (.cells #[.slice none 0 0] 22)) (w1.alloc (.cells #[.slice none 0 0] 22)).heap.size (some ⟨w1.heap.size, 0, none⟩) 1 1 (allN m 0)) :=
    ⟨[.slice none 0 0], (Sl.newest (n := 1) (size := 1) (w := w1) rfl (by rfl) (by decide)).more (by simp), rfl, fun i l hl => by
      cases i with
      | zero => simp [allN] at hl; subst hl; exact ⟨none, 0, rfl, Sl.nil _ _ _⟩
      | succ i => simp [allN] at hl⟩
  have HB0 := Lib.hid (hb1.alloc hb1.size (.cells #[.slice none 0 0] 22))
  clear HC hb1
  generalize World.alloc _ _ = w2 at *
  go_loopg [6, 7] m.length (RaR1 w m)
  case atStart => exact ⟨0, 1, 1, _, rfl, rfl, Nat.zero_le _, rfl, HR0, HB0⟩
  case round =>
    clear HR0 HB0
    obtain ⟨i, no, co, Ao, rfl, rfl, hi, rfl, hra, hbl⟩ := hrel
    by_cases hlt : i < m.length
    · have hno : no ≤ 256 := by
        have h1 := hra.out.len
        rw [allN_len] at h1
        have := Nat.pow_le_pow_right (n := 2) (by decide) (Nat.le_trans (cntN_mono m (Nat.le_of_lt hlt)) HU8.out)
        omega
      have hzw := hbl.out.size
      go_wp2_with fail
      generalize wr = W at *
      go_loopg [8, 9] no (RaR2 W m i no)
      case atStart => exact ⟨0, 0, 0, none, [], rfl, rfl, Nat.zero_le _, rfl, RowsO.nil _ _, Below.refl _ _⟩
      case round =>
        obtain ⟨k, nx, cx, Ax, vs, rfl, rfl, hk, rfl, hro, hbw⟩ := hrel
        by_cases hkt : k < no
        · obtain ⟨rb, ro, o, Ak, ck, rfl, hrb, ho, hrc, hrs⟩ := hra.out.at hkt
          have HO := Lib.hid ho
          have HOL : Hid (o.length = i) := ((mem_allN m i o).1 (List.mem_of_getElem? ho)).1
          have hol : o.length ≤ 1000 := by have := HOL.out; omega
          have HRS := Lib.hid hrs
          obtain ⟨x, hx⟩ : ∃ x, m[i]? = some x := ⟨_, List.getElem?_eq_getElem hlt⟩
          have HX := Lib.hid hx
          have hx3 : x = 1 ∨ x = 2 ∨ x = 3 := by
            have := HMB.out x (List.mem_of_getElem? hx)
            simp [maskB] at this; omega
          have HX3 := Lib.hid hx3
          have HSTEP : Hid (((allN m i).take (k + 1)).flatMap (nextL m[i]?) = ((allN m i).take k).flatMap (nextL m[i]?) ++ partL x o 3) := by
            unfold Hid
            rw [take_snoc ho, List.flatMap_append, partL_done o hx3, hx]; simp
          have HTL : Hid ((((allN m i).take k).flatMap (nextL m[i]?)).length ≤ 512) := by
            have h1 := next_len m[i]? ((allN m i).take k)
            have h2 : ((allN m i).take k).length ≤ k := List.length_take_le _ _
            unfold Hid; omega
          have HRC := Lib.hid hrc
          clear ho hrs hx hx3 hrc
          go_wp2_with fail
          go_loopg [8, 10] 2 (RaR3 W m i k x o)
          case atStart => exact ⟨1, nx, cx, Ax, vs, rfl, rfl, Nat.le_refl _, by omega, rfl, (by unfold Hid; rw [partL_one, List.append_nil]; exact hro.out), hbw⟩
          case round =>
            clear hro hbw
            obtain ⟨p, nx, cx, Ax, vs, rfl, rfl, hp1, hp3, rfl, hro, hbw⟩ := hrel
            have hnx : nx ≤ 600 := by
              have h1 := hro.out.2.1
              rw [List.length_append] at h1
              have := partL_len x o p
              have := HTL.out
              omega
            by_cases hpt : p = 3
            · subst hpt
              have HR5 : Hid (RowsO wr W.heap.size Ax nx cx (((allN m i).take (k + 1)).flatMap (nextL m[i]?)) vs) := by unfold Hid; rw [HSTEP.out]; exact hro.out
              go_wp2_with fail
              go_roundg (no - (k + 1))
              case rel => exact ⟨k + 1, nx, cx, Ax, vs, by go_num, rfl, by omega, rfl, HR5, hbw⟩
              case measure => omega
            · obtain ⟨mb, mo, x', rfl, hmb, hx', hmc⟩ := ((HS.out.below hbl.out hB).below hbw.out (by omega)).at1 hlt
              obtain rfl : x' = x := by rw [HX.out] at hx'; injection hx' with h; exact h.symm
              have hp2 : p ≤ 2 := by omega
              have q2 : decide ((p : Int) ≤ 2) = true := by simp; omega
              clear hx' hpt
              by_cases hyes : (p = 1 ∧ x' ≠ 2) ∨ (p = 2 ∧ x' ≠ 1)
              · have qa : (bits BinOp.and IntKind.i64 x' (p : Int) != 0) = true := by
                  have := HX3.out
                  rcases hyes with ⟨rfl, h⟩ | ⟨rfl, h⟩ <;> rcases this with rfl | rfl | rfl <;> first | rfl | exact absurd rfl h
                have HPT : Hid (((allN m i).take k).flatMap (nextL m[i]?) ++ partL x' o (p + 1) = (((allN m i).take k).flatMap (nextL m[i]?) ++ partL x' o p) ++ [o ++ [(p : Int)]]) := by
                  unfold Hid
                  rw [List.append_assoc]
                  congr 1
                  have := HX3.out
                  rcases hyes with ⟨rfl, h⟩ | ⟨rfl, h⟩ <;> rcases this with rfl | rfl | rfl <;> first | rfl | exact absurd rfl h
                have hrc : wr.cell? ⟨rb, ro + k, none⟩ = some (.slice Ak o.length ck) := (hbw.out.cell (p := ⟨rb, ro + k, none⟩) hrb).trans HRC.out
                have HRS2 := Lib.hid ((HRS.out.below hbw.out (Nat.le_refl _)).more hbw.out.size)
                clear hyes
                have hwz := hbw.out.size
                go_wp2_with (at_builtin; go_must (first
                  | (refine wpList_app rfl _ (.tmp 47) rfl el_int (by rfl) (World.ownsRow_nil _ wr.heap.size _ _) (by rfl) HRS2.out (ints_one o) (by omega) (by omega) (Nat.le_refl _) ?_; intro A1 co1 w4 hown4 hgr4 hat4; simp only [Nat.zero_add, List.nil_append] at hown4 hgr4 ⊢; have HO4 : Hid (IntsO w4 wr.heap.size A1 o.length co1 o) := hown4; have HB4 : Hid (Below wr.heap.size wr w4) := ⟨hgr4.os, hgr4.tape, hgr4.output, hgr4.size, fun i hi => hgr4.block i hi (by simp [Value.ownBlock])⟩; clear hown4 hgr4 hat4)
                  | (refine wpList_app rfl (.tmp 48) (.tmp 50) rfl el_int (by rfl) (HO4.out.alloc _) (by rfl) (Sl.newest (n := 1) (by simp) (by rfl) (by decide)) (by simp [Value.oneCell']) (by omega) (by omega) (by have := HB4.out.size; simp; omega) ?_; intro A2 co2 w5 hown5 hgr5 hat5; have HO5 := Lib.hid hown5; have HB5 : Hid (Below wr.heap.size wr w5) := (HB4.out.alloc HB4.out.size _).trans ⟨hgr5.os, hgr5.tape, hgr5.output, hgr5.size, fun t ht => hgr5.block t (by have := HB4.out.size; simp; omega) (fun e => by have := (HO4.out.lt t e.symm).1; omega)⟩; clear hown5 hgr5 hat5)
                  | (refine wpList_app rfl (.tmp 43) (.tmp 52) rfl el_rows (by rfl) ((hro.out.kept (HB5.out.alloc HB5.out.size (.cells #[.slice A2 (o.length + 1) co2] 22)) (Nat.le_refl _)).1) (by rfl) (Sl.newest (n := 1) (by simp) (by rfl) (by decide)) (by simp [Value.oneCell']) (by omega) (by omega) (by have := HB5.out.size; simp; omega) ?_; intro A3 co3 w6 hown6 hgr6 hat6; have HO6 := Lib.hid hown6; have HG6 := Lib.hid hgr6; have HAT6 := Lib.hid hat6; clear hown6 hgr6 hat6)))
                have HB6 := Lib.hid (HB5.out.alloc HB5.out.size (.cells #[.slice A2 (o.length + 1) co2] 22))
                have HR6 : Hid (RowsO w6 W.heap.size A3 (nx + 1) co3 (((allN m i).take k).flatMap (nextL m[i]?) ++ partL x' o (p + 1)) (vs ++ [.slice A2 (o.length + 1) co2])) := by
                  unfold Hid
                  rw [HPT.out]
                  refine (hro.out.kept HB6.out (Nat.le_refl _)).appL (by simp) HO6.out HG6.out HAT6.out ?_ ?_
                  · have h1 := (Sl.of_own HO5.out)
                    have h2 : Sl (w5.alloc (.cells #[.slice A2 (o.length + 1) co2] 22)) w5.heap.size 1 A2 (o.length + 1) co2 (intsV (o ++ [(p : Int)])) := by rw [intsV_append]; exact h1.alloc (Nat.le_refl _) _
                    exact h2.more (by simp)
                  · intro b off e
                    have h1 := HO5.out.lt b (by rw [e]; rfl)
                    refine ⟨by simp; omega, fun e2 => ?_⟩
                    have := (hro.out.lt b e2.symm).2
                    omega
                have HB7 : Hid (Below W.heap.size W w6) := by
                  have h1 := hbw.out.trans (HB6.out.mono hwz)
                  refine h1.trans ⟨HG6.out.os, HG6.out.tape, HG6.out.output, HG6.out.size, fun t ht => HG6.out.block t (by have := h1.size; omega) (fun e => by have := (hro.out.lt t e.symm).1; omega)⟩
                go_roundg (3 - (p + 1))
                case rel => exact ⟨p + 1, nx + 1, co3, A3, _, by go_num, rfl, by omega, by omega, rfl, HR6, HB7⟩
                case measure => omega
              · have qa : (bits BinOp.and IntKind.i64 x' (p : Int) != 0) = false := by
                  have := HX3.out
                  have : (p = 1 ∧ x' = 2) ∨ (p = 2 ∧ x' = 1) := by omega
                  rcases this with ⟨rfl, rfl⟩ | ⟨rfl, rfl⟩ <;> rfl
                have HPT : Hid (partL x' o (p + 1) = partL x' o p) := by
                  have : (p = 1 ∧ x' = 2) ∨ (p = 2 ∧ x' = 1) := by omega
                  rcases this with ⟨rfl, rfl⟩ | ⟨rfl, rfl⟩ <;> rfl
                clear hyes
                go_wp2_with fail
                go_roundg (3 - (p + 1))
                case rel => exact ⟨p + 1, nx, cx, Ax, vs, by go_num, rfl, by omega, by omega, rfl, (by unfold Hid; rw [HPT.out]; exact hro.out), hbw⟩
                case measure => omega
        · obtain rfl : k = no := by omega
          have hkk : decide (k < k) = false := by simp
          have HR5 : Hid (RowsAt wr wr.heap.size Ax nx cx (allN m (i + 1))) := by
            have := hro.out.read
            rw [List.take_of_length_le (by rw [hra.out.len]; exact Nat.le_refl _)] at this
            exact this
          go_wp2_with fail
          go_roundg (m.length - (i + 1))
          case rel => exact ⟨i + 1, nx, cx, Ax, by go_num, rfl, by omega, rfl, HR5, hbl.out.trans (hbw.out.mono hzw)⟩
          case measure => omega
    · obtain rfl : i = m.length := by omega
      have hii : decide (m.length < m.length) = false := by simp
      go_wp2_with fail
      go_ret2
      exact ⟨.inr ⟨HE.out, Ao, no, co, rfl, hra⟩, hbl⟩
end Go.Proofs.YtnpfkiidhidjbaaGreatDoor
