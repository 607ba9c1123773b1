import Derived.Test.YtlcaebfjdhgcfaaDoorZ40
/-
  law37.start: its walk.
-/
namespace Go.Proofs.YtlcaebfjdhgcfaaDoor
open Go.RowKit
set_option maxRecDepth 100000 in
set_option maxHeartbeats 16000000 in
theorem start_any (g : Nat) (w w0 : World) (hd : DeckAt w g) (hla : Laid w) (h0 : Laid w0) (hge : w0.heap.size ≤ g) : Calls Tryd.prog 9 #[.pointer (some ⟨g, 0, none⟩)] w (StartPost w g) := by
  have hgl := hd.lt
  have HD := Lib.hid hd; have HLA := Lib.hid hla; have HL0 := Lib.hid h0
  clear hd hla h0
  go_enter Tryd.func9, Tryd.ntmps9
  go_wp2_with fail
  have HB0 : Hid (Bx2f w #[.slice none 0 0, .slice none 0 0] #[.slice none 0 0, .slice none 0 0, .slice none 0 0] ((w.alloc (.cells #[.slice none 0 0, .slice none 0 0] 30)).alloc (.cells #[.slice none 0 0, .slice none 0 0, .slice none 0 0] 33))) := Bx2f.new _ _ _
  have HD0 : Hid (DeckAt ((w.alloc (.cells #[.slice none 0 0, .slice none 0 0] 30)).alloc (.cells #[.slice none 0 0, .slice none 0 0, .slice none 0 0] 33)) g) := (HD.out.alloc _).alloc _
  generalize World.alloc (World.alloc _ _) _ = wa at *
  have hza := HB0.out.b1.lt
  refine (tie_any g wa HD0.out).mono ?_
  rintro e w1 ⟨An, cn, ns, Ad, nd, cd, ds, As, cs, ss, rfl, hd1, hg1, hrn, hrd, hrs, htv⟩
  have HLA1 : Hid (Laid w1) := (HLA.out.below HB0.out.bl (Nat.le_refl _)).grown HL0.out hg1.out hge
  have HFX := Lib.hid (FdX.tie (w := wa) (by omega) HLA1.out hd1.out hrn.out hrd.out hrs.out htv.out.1 htv.out.2.2)
  have HF0 := Lib.hid (tie_state htv.out.1 htv.out.2.1 htv.out.2.2)
  have HND := Lib.hid htv.out.2.2.pos
  have HM1 : Hid (StM w g w1.heap.size #[.slice An 6 cn, .slice Ad nd cd] #[.slice As nd cs, .slice none 0 0, .slice none 0 0] ((w1.alloc (.cells #[.slice An 6 cn, .slice Ad nd cd] 30)).alloc (.cells #[.slice As nd cs, .slice none 0 0, .slice none 0 0] 33))) := by
    have h1 := Bx2f.new w1 #[.slice An 6 cn, .slice Ad nd cd] #[.slice As nd cs, .slice none 0 0, .slice none 0 0]
    have hz1 := hg1.out.size
    exact ⟨grown_trans (grown_trans (grown_of_below HB0.out.bl _) hg1.out) (grown_of_below h1.bl _), (HB0.out.b0.grown hg1.out (by simp; omega)).below h1.bl (HB0.out.b0.grown hg1.out (by simp; omega)).lt, (HB0.out.b1.grown hg1.out (by simp; omega)).below h1.bl (HB0.out.b1.grown hg1.out (by simp; omega)).lt, h1.b0, h1.b1, by omega⟩
  have HFX1 := Lib.hid ((HFX.out.alloc (.cells #[.slice An 6 cn, .slice Ad nd cd] 30)).alloc (.cells #[.slice As nd cs, .slice none 0 0, .slice none 0 0] 33))
  clear hd1 hg1 hrn hrd hrs htv HLA1 HFX
  go_upto_region 3 with (fail)
  clear HB0 HD0 hza HD HLA
  generalize World.alloc (World.alloc _ _) _ = w2 at *
  generalize w1.heap.size = b at *
  go_wp2_with fail
  refine (next_any g 20 w2 HFX1.out.dk (by decide)).mono ?_
  rintro e w3 ⟨k, rfl, r0, r1, r2, hd6, hg6, hs6⟩
  have r3 : k < 20 := r2.out (by decide)
  have HM3 := Lib.hid (HM1.out.next hgl hg6.out)
  have HFX3 := Lib.hid (HFX1.out.grown HL0.out hge hd6.out hg6.out)
  clear hd6 hg6 hs6 r1 r2 HM1 HFX1
  obtain ⟨k, rfl⟩ := Int.eq_ofNat_of_zero_le r0
  go_wp2_with fail
  have HLF0 : Hid (LsF (20 - k) (⟨ss, [], []⟩ : Fd)) := ⟨Nat.zero_le _, fun x hx => by cases hx⟩
  refine wp_loop_u1 [(6, 0), (0, 2), (1, 1), (8, 0), (15, 1), (1, 0)] 7 (k) (StR w g b An Ad cn nd cd ns ds) (by (try dsimp only [gt]); exact ⟨k, _, _, _, _, _, _, _, _, _, _, rfl, rfl, by omega, HLF0, HFX3, HM3, HF0⟩) (by kernel_rfl) ?_
  intro u1 p7 gk wr a hrel ha J1 K1 hJ1 hK1
  dsimp only [relaxR, Go.Proofs.YtlcaebfjdhgcfaaDoor.v1, Nat.reduceAdd] at ha
  subst ha
  clear HM3 HFX3 HF0 HLF0 w3
  obtain ⟨i, n, c, nl, cl, nt, ct, As, Al, At, F, rfl, rfl, hi, HLF, HFX, HM, HF⟩ := hrel
  by_cases hlk : 0 < gk
  · have hlki : (0 : Int) < (gk : Int) := by omega
    have HXD := Lib.hid (HFX.out.later (Below.refl _ _).drew)
    have HMD := Lib.hid (HM.out.later (Below.refl _ _).drew)
    have hgb : g < b + 2 := by have := HM.out.hb; omega
    go_upto_region 6 with (fail)
    refine wp_region_phi (S := fun W' => Blk W' b 30 #[.slice An 6 cn, .slice Ad nd cd] ∧ Blk W' (b + 1) 33 #[.slice As n c, .slice Al nl cl, .slice At nt ct]) (J := []) (n := _) ((0, true) :: (1, true) :: (2, true) :: (3, true) :: []) ((11, true) :: []) (phiG [(4, []), (5, [4]), (6, [5]), (7, [5, 6]), (8, [5, 6]), (9, []), (10, [5, 7, 9])]) 7 #[true, true, true, true, false, false, false, false, false, false, false, false] #[true, true, true, true, true, true, true, true, true, true, true, false] (by as_aux_lemma => kernel_rfl) (by rfl) (base_cons (k := 4) (by go_simp; rfl) (base_cons (k := 6) (by go_simp; rfl) (base_cons (k := 0) (by go_simp; rfl) base_nil))) ?_ (fun _ _ _ _ _ h => h) (fun Q2 A hsz hbase hn2 hHeld => ?_)
    · exact ⟨HMD.out.b4, HMD.out.b6⟩
    try dsimp only at hHeld
    obtain ⟨b4, b6, b0, -⟩ := hbase
    refine ⟨Phi1 A [(4, 28), (5, 29), (6, 23), (7, 30), (8, 31), (9, 8)] [(27, .agg #[.slice An 6 cn, .slice Ad nd cd]), (26, .pointer (some ⟨g, 0, none⟩)), (25, .agg #[.slice As n c, .slice Al nl cl, .slice At nt ct]), (24, .agg #[.slice An 6 cn, .slice Ad nd cd])] 12 (StB w g b An Ad As Al At cn nd cd n c nl cl nt ct ns ds F) (StG (b + 2)), ?_, ?_, ?_⟩
    · refine ord_take (i := 0) (d := 24) (v := ?_) rfl rfl (wanted_none rfl) hHeld (fun ρ hρ w hSw => ?_) ?_
      rotate_left
      · (have e4 := Eq.trans (hρ.tmp hsz 4 rfl) (lkp_base b4); clear hρ; (try dsimp only at hSw); have k0 := hSw.1.cell 0; have k1 := hSw.1.cell 1; clear hSw; go_simp; try with_reducible rfl)
      show wpOrd _ _ _ _ _ _ _ _
      refine ord_take (i := 1) (d := 25) (v := ?_) rfl rfl (wanted_none rfl) hHeld (fun ρ hρ w hSw => ?_) ?_
      rotate_left
      · (have e6 := Eq.trans (hρ.tmp hsz 6 rfl) (miss1 rfl (lkp_base b6)); clear hρ; (try dsimp only at hSw); have k0 := hSw.2.cell 0; have k1 := hSw.2.cell 1; have k2 := hSw.2.cell 2; clear hSw; go_simp; try with_reducible rfl)
      show wpOrd _ _ _ _ _ _ _ _
      refine ord_move (i := 2) (d := 26) (v := ?_) rfl rfl rfl (wanted_none rfl) hHeld (fun ρ hρ => ?_) ?_
      rotate_left
      · (have e0 := Eq.trans (hρ.tmp hsz 0 rfl) (miss1 rfl (miss1 rfl (lkp_base b0))); exact e0)
      show wpOrd _ _ _ _ _ _ _ _
      refine ord_take (i := 3) (d := 27) (v := ?_) rfl rfl (wanted_none rfl) hHeld (fun ρ hρ w hSw => ?_) ?_
      rotate_left
      · (have e4 := Eq.trans (hρ.tmp hsz 4 rfl) (miss1 rfl (miss1 rfl (miss1 rfl (lkp_base b4)))); clear hρ; (try dsimp only at hSw); have k0 := hSw.1.cell 0; have k1 := hSw.1.cell 1; clear hSw; go_simp; try with_reducible rfl)
      show wpOrd _ _ _ _ _ _ _ _
      exact lat_pre (phi1_start (l := #[true, true, true, true, false, false, false, false, false, false, false, false]) ((undef, 0, #[.slice none 0 0, .slice none 0 0, .slice none 0 0]) : StGh) (by decide) rfl ⟨HXD.out, HMD.out, fun e => absurd e (by decide), fun _ => rfl, fun e => absurd e (by decide), fun _ => by decide, fun _ => by decide⟩)
    · intro l i a w0 hg h
      obtain ⟨vs, γ, hl, rfl, hB, hG⟩ := h
      obtain ⟨hf, ds, hm, hds⟩ := phiG_out hg
      clear hg
      simp only [List.mem_cons, Prod.mk.injEq, List.not_mem_nil, or_false] at hm
      rcases hm with ⟨rfl, rfl⟩ | ⟨rfl, rfl⟩ | ⟨rfl, rfl⟩ | ⟨rfl, rfl⟩ | ⟨rfl, rfl⟩ | ⟨rfl, rfl⟩ | ⟨rfl, rfl⟩
      · clear hds
        refine lat_call (d := 28) (vs := #[.pointer (some ⟨g, 0, none⟩), .agg #[.slice An 6 cn, .slice Ad nd cd]]) rfl rfl rfl rfl (fun ρ hρ => ?_) ?_ ?_
        · (have e26 := Eq.trans (hρ.tmp hsz 26 rfl) ((slots_miss _ rfl (miss1 rfl lkp_hit))); have e27 := Eq.trans (hρ.tmp hsz 27 rfl) ((slots_miss _ rfl lkp_hit)); simp only [List.map_toArray, List.map_cons, List.map_nil, e26, e27])
        · (intro w; go_simp)
        refine (event_any g An Ad 6 cn nd cd w0 hB.x.dk (by have := HND.out; have := hB.x.fdm.ln; omega)).mono ?_
        rintro e w6 ⟨k, d, p, q, rfl, hq, hd6, hg6⟩
        refine ⟨_, rfl, fun _ => ⟨((hB.keep (i := 4) (by omega) (by decide) (by decide) (.inr (by decide)) (hB.x.grown HL0.out hge hd6.out hg6.out) (hB.m.next hgl hg6.out) (fun v E h => h.grown HL0.out hge hd6.out hg6.out))).m.b4, ((hB.keep (i := 4) (by omega) (by decide) (by decide) (.inr (by decide)) (hB.x.grown HL0.out hge hd6.out hg6.out) (hB.m.next hgl hg6.out) (fun v E h => h.grown HL0.out hge hd6.out hg6.out))).m.b6⟩, phi1_step (γ' := γ) (by decide) (by decide) hl (by decide) hf (hB.keep (i := 4) (by omega) (by decide) (by decide) (.inr (by decide)) (hB.x.grown HL0.out hge hd6.out hg6.out) (hB.m.next hgl hg6.out) (fun v E h => h.grown HL0.out hge hd6.out hg6.out)) hG (fun j u _ _ h => h.grown hg6.out hgb) (⟨k, d, p, q, rfl, hq⟩)⟩
      · have f4 : flag l 4 = true := hds 4 (by simp)
        have G4 := hG 4 f4 (by decide)
        clear hds
        obtain ⟨k, d, p, q, h4, hq⟩ := G4
        refine lat_call (d := 29) (vs := #[.agg #[.slice An 6 cn, .slice Ad nd cd], .agg #[.slice As n c, .slice Al nl cl, .slice At nt ct], .agg #[.int .i64 k, .int .i64 d, .int .i64 p, .int .i64 q]]) rfl rfl rfl rfl (fun ρ hρ => ?_) ?_ ?_
        · (have e24 := Eq.trans (hρ.tmp hsz 24 rfl) ((slots_miss _ rfl (miss1 rfl (miss1 rfl (miss1 rfl lkp_hit))))); have e25 := Eq.trans (hρ.tmp hsz 25 rfl) ((slots_miss _ rfl (miss1 rfl (miss1 rfl lkp_hit)))); have e28 := Eq.trans (hρ.tmp hsz 28 rfl) ((slots_get (i := 4) f4 _ (by decide) (by decide)).trans h4); simp only [List.map_toArray, List.map_cons, List.map_nil, e24, e25, e28])
        · (intro w; go_simp)
        refine (rstep_any An Ad As Al At 6 cn nd cd n c nl cl nt ct ns ds F k d p q w0 hB.x.fdm).mono ?_
        intro e w6 hr
        obtain ⟨hb6, v, E, rfl, hN⟩ := NewOk.of hB.x hB.x.dk.lt ⟨Nat.le_refl _, HLF.out.2⟩ hq hr
        refine ⟨_, rfl, fun _ => ⟨((hB.five (by omega) hf hb6 hN)).m.b4, ((hB.five (by omega) hf hb6 hN)).m.b6⟩, phi1_step (γ' := (v, E, γ.2.2)) (by decide) (by decide) hl (by decide) hf (hB.five (by omega) hf hb6 hN) hG (fun j u hj _ h => (StG.step5 hf (hB.o hf) hj h).later hb6) (rfl)⟩
      · have f5 : flag l 5 = true := hds 5 (by simp)
        have G5 := hG 5 f5 (by decide)
        clear hds
        have h5 : vs 5 = .tuple #[γ.1, .int .i64 γ.2.1] := G5
        refine lat_run (d := 23) (v := ?_) (w' := ?_) rfl rfl rfl (fun ρ hρ => ?_) ?_
        rotate_left 2
        · (have e29 := Eq.trans (hρ.tmp hsz 29 rfl) ((slots_get (i := 5) f5 _ (by decide) (by decide)).trans h5); clear hρ; go_simp; first | with_reducible rfl | (constructor <;> with_reducible rfl))
        exact ⟨fun _ => ⟨((hB.keep (i := 6) (by omega) (by decide) (by decide) (.inl f5) hB.x hB.m (fun v E h => h))).m.b4, ((hB.keep (i := 6) (by omega) (by decide) (by decide) (.inl f5) hB.x hB.m (fun v E h => h))).m.b6⟩, phi1_step (γ' := γ) (by decide) (by decide) hl (by decide) hf (hB.keep (i := 6) (by omega) (by decide) (by decide) (.inl f5) hB.x hB.m (fun v E h => h)) hG (fun j u _ _ h => h) (rfl)⟩
      · have f5 : flag l 5 = true := hds 5 (by simp)
        have f6 : flag l 6 = true := hds 6 (by simp)
        have G5 := hG 5 f5 (by decide)
        have G6 := hG 6 f6 (by decide)
        clear hds
        have h6 : vs 6 = .tuple #[γ.1, .int .i64 γ.2.1] := G6
        refine lat_run (d := 30) (v := ?_) (w' := ?_) rfl rfl rfl (fun ρ hρ => ?_) ?_
        rotate_left 2
        · (have e23 := Eq.trans (hρ.tmp hsz 23 rfl) ((slots_get (i := 6) f6 _ (by decide) (by decide)).trans h6); clear hρ; go_simp; first | with_reducible rfl | (constructor <;> with_reducible rfl))
        exact ⟨fun _ => ⟨((hB.keep (i := 7) (by omega) (by decide) (by decide) (.inl f5) hB.x hB.m (fun v E h => h))).m.b4, ((hB.keep (i := 7) (by omega) (by decide) (by decide) (.inl f5) hB.x hB.m (fun v E h => h))).m.b6⟩, phi1_step (γ' := γ) (by decide) (by decide) hl (by decide) hf (hB.keep (i := 7) (by omega) (by decide) (by decide) (.inl f5) hB.x hB.m (fun v E h => h)) hG (fun j u _ _ h => h) (rfl)⟩
      · have f5 : flag l 5 = true := hds 5 (by simp)
        have f6 : flag l 6 = true := hds 6 (by simp)
        have G5 := hG 5 f5 (by decide)
        have G6 := hG 6 f6 (by decide)
        clear hds
        have h6 : vs 6 = .tuple #[γ.1, .int .i64 γ.2.1] := G6
        refine lat_run (d := 31) (v := ?_) (w' := ?_) rfl rfl rfl (fun ρ hρ => ?_) ?_
        rotate_left 2
        · (have e23 := Eq.trans (hρ.tmp hsz 23 rfl) ((slots_get (i := 6) f6 _ (by decide) (by decide)).trans h6); clear hρ; go_simp; first | with_reducible rfl | (constructor <;> with_reducible rfl))
        exact ⟨fun _ => ⟨((hB.keep (i := 8) (by omega) (by decide) (by decide) (.inl f5) hB.x hB.m (fun v E h => h))).m.b4, ((hB.keep (i := 8) (by omega) (by decide) (by decide) (.inl f5) hB.x hB.m (fun v E h => h))).m.b6⟩, phi1_step (γ' := γ) (by decide) (by decide) hl (by decide) hf (hB.keep (i := 8) (by omega) (by decide) (by decide) (.inl f5) hB.x hB.m (fun v E h => h)) hG (fun j u _ _ h => h) (rfl)⟩
      · clear hds
        refine lat_run (d := 8) (v := ?_) (w' := ?_) rfl rfl rfl (fun ρ hρ => ?_) ?_
        rotate_left 2
        · (skip; clear hρ; go_simp; first | with_reducible rfl | (constructor <;> with_reducible rfl))
        exact ⟨fun _ => ⟨((hB.keep (i := 9) (by omega) (by decide) (by decide) (.inr (by decide)) (hB.x.alloc _) (hB.m.later ((Below.refl _ _).alloc (Nat.le_refl _) _)) (fun v E h => h.later ((Below.refl _ _).alloc (Nat.le_refl _) _)))).m.b4, ((hB.keep (i := 9) (by omega) (by decide) (by decide) (.inr (by decide)) (hB.x.alloc _) (hB.m.later ((Below.refl _ _).alloc (Nat.le_refl _) _)) (fun v E h => h.later ((Below.refl _ _).alloc (Nat.le_refl _) _)))).m.b6⟩, phi1_step (γ' := γ) (by decide) (by decide) hl (by decide) hf (hB.keep (i := 9) (by omega) (by decide) (by decide) (.inr (by decide)) (hB.x.alloc _) (hB.m.later ((Below.refl _ _).alloc (Nat.le_refl _) _)) (fun v E h => h.later ((Below.refl _ _).alloc (Nat.le_refl _) _))) hG (fun j u _ _ h => h.later ((Below.refl _ _).alloc (Nat.le_refl _) _)) (⟨w0.heap.size, rfl, by rw [hB.z (hB.o9 hf)]; exact Blk.new _ _ _, hB.m.b6.lt⟩)⟩
      · have f5 : flag l 5 = true := hds 5 (by simp)
        have f7 : flag l 7 = true := hds 7 (by simp)
        have f9 : flag l 9 = true := hds 9 (by simp)
        have G5 := hG 5 f5 (by decide)
        have G7 := hG 7 f7 (by decide)
        have G9 := hG 9 f9 (by decide)
        clear hds
        obtain ⟨As2, Al2, At2, n2, c2, nl2, cl2, nt2, ct2, hv, hN2⟩ := hB.k f5
        obtain ⟨x, h9, hx, hxl⟩ := G9
        have h7 : vs 7 = .agg #[.slice As2 n2 c2, .slice Al2 nl2 cl2, .slice At2 nt2 ct2] := Eq.trans G7 hv
        rw [hB.z hf] at hx
        have k0 := hx.cell 0
        have k1 := hx.cell 1
        have k2 := hx.cell 2
        have z0 := hx.frozen 0
        have z1 := hx.frozen 1
        have z2 := hx.frozen 2
        clear hN2
        refine lat_store rfl rfl rfl (w' := ((w0.setCell ⟨x, 0, none⟩ (.slice As2 n2 c2)).setCell ⟨x, 1, none⟩ (.slice Al2 nl2 cl2)).setCell ⟨x, 2, none⟩ (.slice At2 nt2 ct2)) (fun ρ hρ => ?_) ?_
        · (have e8 := Eq.trans (hρ.tmp hsz 8 rfl) ((slots_get (i := 9) f9 _ (by decide) (by decide)).trans h9); have e30 := Eq.trans (hρ.tmp hsz 30 rfl) ((slots_get (i := 7) f7 _ (by decide) (by decide)).trans h7); clear hρ; clear hv h7 h9 hG G5 G7; go_simp)
        clear k0 k1 k2 z0 z1 z2
        have hgx : g < x := by omega
        have hwx := Nat.le_of_lt (Nat.lt_of_le_of_lt hge hgx)
        have hX3 : FdX g An Ad As Al At 6 cn nd cd n c nl cl nt ct ns ds F (((w0.setCell ⟨x, 0, none⟩ (.slice As2 n2 c2)).setCell ⟨x, 1, none⟩ (.slice Al2 nl2 cl2)).setCell ⟨x, 2, none⟩ (.slice At2 nt2 ct2)) := hB.x.out3 hx hgx HL0.out hwx
        clear hgl
        have hM3 : StM w g b #[.slice An 6 cn, .slice Ad nd cd] #[.slice As n c, .slice Al nl cl, .slice At nt ct] (((w0.setCell ⟨x, 0, none⟩ (.slice As2 n2 c2)).setCell ⟨x, 1, none⟩ (.slice Al2 nl2 cl2)).setCell ⟨x, 2, none⟩ (.slice At2 nt2 ct2)) := hB.m.out3 hxl _ _ _
        clear hlki
        have hN3 : NewOk (F.ls.length + 1) g An Ad cn nd cd ns ds γ.1 γ.2.1 (((w0.setCell ⟨x, 0, none⟩ (.slice As2 n2 c2)).setCell ⟨x, 1, none⟩ (.slice Al2 nl2 cl2)).setCell ⟨x, 2, none⟩ (.slice At2 nt2 ct2)) := (hB.k f5).out3 hx hgx HL0.out hwx
        clear HXD
        have hB3 := hB.ten (by omega) f5 f9 hv hX3 hM3 hN3
        clear hX3 hM3 hN3
        exact ⟨fun _ => ⟨((hB3)).m.b4, ((hB3)).m.b6⟩, phi1_step0 (γ' := (γ.1, γ.2.1, #[.slice As2 n2 c2, .slice Al2 nl2 cl2, .slice At2 nt2 ct2])) (by decide) hl (hB3) hG (fun j _ _ h => StG.ten h9 hx hxl rfl h)⟩
    intro a w0 h
    obtain ⟨vs, γ, -, rfl, hB, hG⟩ := h
    show wpOrd _ _ _ _ _ _ (puts A ((28, vs 4) :: (29, vs 5) :: (23, vs 6) :: (30, vs 7) :: (31, vs 8) :: (8, vs 9) :: [(27, .agg #[.slice An 6 cn, .slice Ad nd cd]), (26, .pointer (some ⟨g, 0, none⟩)), (25, .agg #[.slice As n c, .slice Al nl cl, .slice At nt ct]), (24, .agg #[.slice An 6 cn, .slice Ad nd cd])])) _
    replace hHeld : (fun W' => Blk W' b 30 #[.slice An 6 cn, .slice Ad nd cd] ∧ Blk W' (b + 1) 33 #[.slice As n c, .slice Al nl cl, .slice At nt ct]) w0 := ⟨(hB).m.b4, (hB).m.b6⟩
    have h8 : vs 8 = .int .i64 γ.2.1 := hG 8 rfl (by decide)
    obtain ⟨x, h9, hx, hxl⟩ := hG 9 rfl (by decide)
    obtain ⟨As2, Al2, At2, n2, c2, nl2, cl2, nt2, ct2, hv, hN2⟩ := hB.k rfl
    have hzz : γ.2.2 = #[.slice As2 n2 c2, .slice Al2 nl2 cl2, .slice At2 nt2 ct2] := by have h1 := hB.f rfl; rw [hv] at h1; injection h1 with h1; exact h1.symm
    rw [hzz] at hx
    obtain ⟨v4, hv4⟩ : ∃ v, v = vs 4 := ⟨_, rfl⟩
    obtain ⟨v5, hv5⟩ : ∃ v, v = vs 5 := ⟨_, rfl⟩
    obtain ⟨v6, hv6⟩ : ∃ v, v = vs 6 := ⟨_, rfl⟩
    obtain ⟨v7, hv7⟩ : ∃ v, v = vs 7 := ⟨_, rfl⟩
    obtain ⟨E, hE⟩ : ∃ E, E = γ.2.1 := ⟨_, rfl⟩
    rw [← hE] at h8 hN2
    rw [h8, h9, ← hv4, ← hv5, ← hv6, ← hv7]
    clear h8 h9 hG hv4 hv5 hv6 hv7 hv hzz hE
    have HXE := Lib.hid hB.x
    have HME := Lib.hid hB.m
    have HNE := Lib.hid hN2
    have HBX := Lib.hid hx
    clear hB hN2 hx vs
    show wpOrd _ _ _ _ _ _ _ _
    refine ord_take (i := 11) (d := 9) (v := ?_) rfl rfl (wanted_none rfl) hHeld (fun ρ hρ w hSw => ?_) ?_
    rotate_left
    · (have e31 := Eq.trans (hρ.tmp hsz 31 rfl) (miss4 rfl rfl rfl rfl lkp_hit); clear hρ; (try dsimp only at hSw); go_simp; try with_reducible rfl)
    show wpOrd _ _ _ _ _ _ _ _
    refine ord_done hn2 ?_
    clear hHeld hn2 b4 b6 b0 hsz A Q2
    simp only [puts_nil, puts_cons, put_lit, set_1, set_0]
    have hgks : (0 : Nat) < gk := hlk
    have hbb := HME.out.hb
    have hwr : IntKind.i64.wrap ((gk : Int) - 1) = ((gk - 1 : Nat) : Int) := by rw [IntWalk.i64_in _ (by omega)]; omega
    clear HFX HM HXD HMD
    by_cases hE0 : E = 0
    · subst hE0
      obtain ⟨F2, hX2, hF2, hLF2⟩ := HNE.out rfl
      have HX9 := Lib.hid (hX2.out3 (A1 := As2) (n1 := n2) (c1 := c2) (A2 := Al2) (n2 := nl2) (c2 := cl2) (A3 := At2) (n3 := nt2) (c3 := ct2) HME.out.b6 (by omega) HL0.out (by omega))
      have HM9 := Lib.hid (HME.out.fld (cf := #[.slice As2 n2 c2, .slice Al2 nl2 cl2, .slice At2 nt2 ct2]) rfl)
      have HF9 := Lib.hid hF2
      have HL9 := Lib.hid hLF2
      have c0 := HBX.out.cell 0
      have c1 := HBX.out.cell 1
      have c2 := HBX.out.cell 2
      have d0 := HME.out.b6.cell 0
      have d1 := HME.out.b6.cell 1
      have d2 := HME.out.b6.cell 2
      have y0 := HME.out.b6.frozen 0
      have y1 := HME.out.b6.frozen 1
      have y2 := HME.out.b6.frozen 2
      clear hX2 hF2 hLF2 HNE HXE HBX HME
      go_wp2_with fail
      clear c0 c1 c2 d0 d1 d2 y0 y1 y2
      generalize World.setCell (World.setCell (World.setCell w0 _ _) _ _) _ _ = w9 at *
      refine Handed.intro (gk - 1) (by omega) (hJ1 _ _ _ (LpI1.back 7 ?_ (by kernel_rfl)))
      dsimp only [gt]
      exact ⟨gk - 1, _, _, _, _, _, _, _, _, _, F2, rfl, rfl, by omega, ⟨by have h1 := HL9.out.1; have h2 := HLF.out.1; omega, HL9.out.2⟩, HX9, HM9, HF9⟩
    · have q0 : (E == 0) = false := by simpa using hE0
      clear hE0 HNE HBX
      go_wp2_with fail
      refine Handed.intro (gk - 1) (by omega) (hJ1 _ _ _ (LpI1.back 7 ?_ (by kernel_rfl)))
      dsimp only [gt]
      exact ⟨gk - 1, _, _, _, _, _, _, _, _, _, F, rfl, rfl, by omega, HLF.out.le (by omega), HXE, HME, HF⟩
  · obtain rfl : gk = 0 := by omega
    have HFIN := Lib.hid (HM.out.fin HFX.out hgl HL0.out hge HF.out (by have h1 := HND.out; have h2 := HFX.out.fdm.ln; omega) (HLF.out.le (by omega)))
    have HRS := Lib.hid HM.out.res
    have c0 := HM.out.b4.cell 0
    have c1 := HM.out.b4.cell 1
    have d0 := HM.out.b6.cell 0
    have d1 := HM.out.b6.cell 1
    have d2 := HM.out.b6.cell 2
    have e0 := HM.out.r0.cell 0
    have e1 := HM.out.r0.cell 1
    have f0 := HM.out.r1.cell 0
    have f1 := HM.out.r1.cell 1
    have f2 := HM.out.r1.cell 2
    have y0 := HM.out.r0.frozen 0
    have y1 := HM.out.r0.frozen 1
    have z0 := HM.out.r1.frozen 0
    have z1 := HM.out.r1.frozen 1
    have z2 := HM.out.r1.frozen 2
    have hbb := HM.out.hb
    go_upto_region 9 with (fail)
    go_region
    clear c0 c1 d0 d1 d2 e0 e1 f0 f1 f2 y0 y1 z0 z1 z2
    generalize World.setCell (World.setCell (World.setCell (World.setCell (World.setCell wr _ _) _ _) _ _) _ _) _ _ = wz at *
    have t0 : wz.drew.cell? ⟨w.heap.size, 0, none⟩ = some (.slice An 6 cn) := HRS.out.1.cell 0
    have t1 : wz.drew.cell? ⟨w.heap.size, 1, none⟩ = some (.slice Ad nd cd) := HRS.out.1.cell 1
    have t2 : wz.drew.cell? ⟨w.heap.size + 1, 0, none⟩ = some (.slice As n c) := HRS.out.2.cell 0
    have t3 : wz.drew.cell? ⟨w.heap.size + 1, 1, none⟩ = some (.slice Al nl cl) := HRS.out.2.cell 1
    have t4 : wz.drew.cell? ⟨w.heap.size + 1, 2, none⟩ = some (.slice At nt ct) := HRS.out.2.cell 2
    go_wp2_with fail
    exact bodyPost_ret (v := .tuple #[.agg #[.slice An 6 cn, .slice Ad nd cd], .agg #[.slice As n c, .slice Al nl cl, .slice At nt ct]]) (by simp [results, Tryd.results9, go_sem, t0, t1, t2, t3, t4]) rfl HFIN.out.drew
end Go.Proofs.YtlcaebfjdhgcfaaDoor
