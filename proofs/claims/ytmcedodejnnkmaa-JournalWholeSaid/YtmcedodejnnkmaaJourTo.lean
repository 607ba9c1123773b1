/-
  Walk of JournalTorn.
-/
import Derived.Test.YtmcedodejnnkmaaJourTn
import Derived.Test.YtmcedodejnnkmaaOrd
namespace Go.Proofs.Ytmcedodejnnkmaa
open Go.RowKit

theorem wholeJ_torn {ps : List (List UInt8)} {k r : Nat} (hs : Small ps) (hn : ps.length ≤ 1024) (hr : InRec ps k r ps.length) (hk : k ≤ (chain 0 0#64 ps).length) : wholeJ ((chain 0 0#64 ps).take k) = (chain 0 0#64 ps).take (pfx ps r) := by
  have := hr.2.1
  rw [wholeJ, torn ps k r hs hn hr hk, List.take_take, Nat.min_eq_left this]
theorem paysJ_torn {ps : List (List UInt8)} {k r : Nat} (hs : Small ps) (hn : ps.length ≤ 1024) (hr : InRec ps k r ps.length) (hk : k ≤ (chain 0 0#64 ps).length) : paysJ ((chain 0 0#64 ps).take k) = ps.take r := by
  rw [paysJ, torn ps k r hs hn hr hk, recsOf_pay]

set_option maxRecDepth 100000 in
set_option maxHeartbeats 800000 in
theorem walk_JournalTorn (w : World) (A : Option Addr) (n c : Nat) (z : List Int) (hz : Sl w w.heap.size 1 A n c (intsV z)) (_ : ∀ x ∈ z, (Lit.int .i64 x).wf = true) (at_ : Int) (_ : (Lit.int .i64 at_).wf = true) :
    Calls Try.prog 7 #[.slice A n c, .int .i64 at_] w fun e w' => e = .returned (.bool true) ∧ Below w.heap.size w w' := by
  obtain ⟨hnc, hcm⟩ := hz.le
  have HZ := Lib.hid hz; clear hz
  go_enter Try.func7, Try.ntmps7
  go_wp2_with fail
  refine (awake_any _).mono ?_
  rintro e w0 ⟨rfl, hb0⟩
  go_wp2_with fail
  refine (few_any A n c _ (by omega)).mono ?_
  rintro e w1 ⟨rfl, rfl⟩
  by_cases hf : n ≤ 400; rotate_left
  · have hf' : decide (n ≤ 400) = false := by simpa using hf
    clear hf
    go_wp2_with fail
    refine (awake_any _).mono ?_
    rintro e w1 ⟨rfl, hb1⟩
    go_wp2_with fail
    go_ret
    exact ⟨rfl, hb0.trans (hb1.mono hb0.size)⟩
  have hf' : decide (n ≤ 400) = true := by simpa using hf
  go_wp2_with fail
  refine (new_any A n c w.heap.size z _ (HZ.out.below hb0 (Nat.le_refl _)) hb0.size).mono ?_
  rintro e w1 ⟨rfl, hd1, hb1, hs1⟩
  go_wp2_with fail
  refine (made_any w0.heap.size 5 w1 hd1.out (by decide)).mono ?_
  rintro e w2 ⟨ps, Ap, cp, rfl, hn5, hsh, hown, hd2, hg2⟩
  have hb2 : Below w.heap.size w w2 := (hb0.trans (hb1.out.mono hb0.size)).trans (below_of_grown hg2.out hb0.size (Nat.le_trans hb0.size hb1.out.size))
  have HB2 := Lib.hid hb2
  have hjl := hsh.out.len
  have HSL := Lib.hid (Sl.of_own hown.out)
  have hz2 := hb2.size
  obtain ⟨hc1, hc2⟩ := HSL.out.le
  obtain ⟨J, hJ⟩ : ∃ J, (chain 0 0#64 ps).length = J := ⟨_, rfl⟩
  have HJ := Lib.hid hJ
  have hsz : (mkS (chain 0 0#64 ps)).size = J := by rw [size_mk, hJ]
  have HT1 := Lib.hid (fun k r h1 h2 => torn ps k r hsh.out.small (by omega) h1 h2)
  have HT2 := Lib.hid (fun k r h1 h2 => wholeJ_torn (ps := ps) (k := k) (r := r) hsh.out.small (by omega) h1 h2)
  have HT3 := Lib.hid (fun k r h1 h2 => paysJ_torn (ps := ps) (k := k) (r := r) hsh.out.small (by omega) h1 h2)
  clear hb2 hown hd2 hg2 hd1 hb1 hs1
  generalize hS : mkS (chain 0 0#64 ps) = S at *
  have hts : toL S = chain 0 0#64 ps := by rw [← hS, toL_mk]
  have HS := Lib.hid hts; clear hS hts
  obtain ⟨N, hN⟩ : ∃ N, ps.length = N := ⟨_, rfl⟩
  rw [hN] at hn5 hjl HSL hc1 ⊢
  rw [hJ] at hjl
  have HN := Lib.hid hN; clear hN hJ
  go_wp2_with fail
  refine (mod_any at_ _ _ (by omega) (by omega)).mono ?_
  rintro e w3 ⟨⟨k, rfl, hkJ⟩, rfl⟩
  replace hkJ : k ≤ J := by omega
  go_wp2_with fail
  go_loopw [9, 10, 38] (fun s r i wr => ∃ (i' r' s' : Nat), i = .int .i64 i' ∧ r = .int .i64 r' ∧ s = .int .i64 s' ∧ i' ≤ N ∧ r' ≤ i' ∧ s' ≤ 57 * i' ∧ Hid (s' = pfx ps i') ∧ Hid (InRec ps k r' i') ∧ wr = w2) (fun _ _ i _ => N - (intOf i).toNat)
  case atStart => exact ⟨0, 0, 0, rfl, rfl, rfl, Nat.zero_le _, by decide, by decide, (pfx_zero _).symm, ⟨Nat.le_refl _, by rw [pfx_zero]; omega, fun h => absurd h (by omega)⟩, rfl⟩
  case round =>
    obtain ⟨i, r, s, rfl, rfl, rfl, hi, hr5, hs57, hs, hin, rfl⟩ := hrel
    by_cases hlt : i < N
    · obtain ⟨bb, off, p, rfl, _, hp, hc⟩ := HSL.out.at1 hlt
      have hsu := pfx_succ hp
      have hp29 := hsh.out p (List.mem_of_getElem? hp)
      have hpz : (mkS p).size = p.length := size_mk p
      rw [← hs.out] at hsu
      generalize mkS p = P at *
      generalize p.length = m at *
      have HSU := Lib.hid hsu; clear hsu hp
      by_cases hle : s + (28 + m) ≤ k
      · have hle' : decide ((s : Int) + (28 + (m : Int)) ≤ (k : Int)) = true := by simp; omega
        obtain ⟨hri, hin'⟩ := hin.out.up (by rw [HSU.out]; exact hle)
        subst hri
        have HIN := Lib.hid hin'; clear hin'
        go_wp2_with fail
        go_roundw
        case rel => exact ⟨r + 1, r + 1, s + (28 + m), by go_num, by go_num, by go_num, by omega, by omega, by omega, by unfold Hid; rw [HSU.out], HIN, trivial⟩
        case measure => simp [intOf]; omega
      · have hle' : decide ((s : Int) + (28 + (m : Int)) ≤ (k : Int)) = false := by simp; omega
        have hin' := hin.out.stay (by rw [HSU.out]; omega)
        have HIN := Lib.hid hin'; clear hin'
        go_wp2_with fail
        go_roundw
        case rel => exact ⟨i + 1, r, s + (28 + m), by go_num, rfl, by go_num, by omega, by omega, by omega, by unfold Hid; rw [HSU.out], HIN, trivial⟩
        case measure => simp [intOf]; omega
    · obtain rfl : i = N := by omega
      have hin' : InRec ps k r ps.length := by rw [HN.out]; exact hin.out
      have hkl : k ≤ (chain 0 0#64 ps).length := by rw [HJ.out]; exact hkJ
      have e1 := HT1.out k r hin' hkl
      have e2 := HT2.out k r hin' hkl
      have e3 := HT3.out k r hin' hkl
      have hex : ∀ t, S.extract 0 t = mkS ((toL S).take t) := fun t => by rw [extract_mk, List.drop_zero, Nat.sub_zero]
      have hpk := hin'.2.1
      rw [← HS.out] at e1 e2 e3
      obtain ⟨b, hb⟩ : ∃ b, pfx ps r = b := ⟨_, rfl⟩
      rw [hb] at e1 e2 hpk
      have hrlen : (recsOf 0 0#64 (ps.take r)).length = r := by rw [recsOf_len, List.length_take, HN.out]; omega
      have htlen : (ps.take r).length = r := by rw [List.length_take, HN.out]; omega
      have hkz : (mkS ((toL S).take k)).size = k := by rw [size_mk, List.length_take, toL_len, hsz]; omega
      have hxk := hex k
      have hxb := hex b
      generalize hK : mkS ((toL S).take k) = K at *
      have hKt : toL K = (toL S).take k := by rw [← hK, toL_mk]
      rw [← hKt] at e1 e2 e3
      rw [← e2] at hxb
      have hsp := Lib.hid (HSL.out.take1 (k := r) (by omega))
      have E1 := Lib.hid e1; have E2 := Lib.hid e2; have E3 := Lib.hid e3; have HRL := Lib.hid hrlen; have HTL := Lib.hid htlen
      have hkJ' : (k : Int) ≤ (J : Int) := by omega
      have hbJ' : (b : Int) ≤ (J : Int) := by omega
      have hrN' : (r : Int) ≤ (i : Int) := by omega
      have hrc' : (r : Int) ≤ (cp : Int) := by omega
      clear e1 e2 e3 hin' hkl hex hb hrlen htlen hK hKt hxb
      have hxb : S.extract 0 b = mkS (wholeJ (toL K)) := by rw [extract_mk, List.drop_zero, Nat.sub_zero, E2.out]
      generalize hWKd : mkS (wholeJ (toL K)) = WK at *
      have HWKd := Lib.hid hWKd; clear hWKd
      go_wp2_with fail
      refine (Read_any K _ (by omega)).mono ?_
      rintro e w4 ⟨A4, c4, rfl, ho4, hb4⟩
      rw [E1.out] at ho4 ⊢
      simp only [HRL.out] at ho4 ⊢
      clear ho4
      have HB4 := Lib.hid (HB2.out.trans (hb4.mono hz2))
      have hz4 := hb4.size
      have HS4 := Lib.hid (hsp.out.below hb4 (Nat.le_refl _))
      clear hb4 hsp
      have HPY := Lib.hid (fun W => Payloads_any K W (by omega))
      have HWH := Lib.hid (fun W => Whole_any K W (by omega))
      by_cases hkb : k = b
      · rw [if_pos hkb]
        subst hkb
        obtain rfl : K = WK := hxk.symm.trans hxb
        have q1 : ((k : Int) == (k : Int)) = true := by simp
        clear HT1 HT2 HT3 HZ HSL hxb
        go_wp2_with fail
        refine wp_region_J (S := (fun _ => True)) (J := []) (by kernel_rfl) ?_ (fun hHeld => ?_)
        · trivial
        try dsimp only at hHeld
        refine wpAnyJ_take (i := 0) (d := some 81) (v := ?_) rfl rfl (by kernel_rfl) (by kernel_rfl) (by kernel_rfl) (by kernel_rfl) (by kernel_rfl) (fun _ _ _ h => h) (Or.inl ⟨by rfl, ?_⟩) hHeld ?_
        rotate_left
        · (intro w hSw; (try dsimp only at hSw); go_simp; try with_reducible rfl)
        try simp only [Act.put, List.setIfInBounds_toArray, List.set_cons_zero, List.set_cons_succ]
        refine wpAnyJ_take (i := 1) (d := some 82) (v := ?_) rfl rfl (by kernel_rfl) (by kernel_rfl) (by kernel_rfl) (by kernel_rfl) (by kernel_rfl) (fun _ _ _ h => h) (Or.inl ⟨by rfl, ?_⟩) hHeld ?_
        rotate_left
        · (intro w hSw; (try dsimp only at hSw); go_simp; try with_reducible rfl)
        try simp only [Act.put, List.setIfInBounds_toArray, List.set_cons_zero, List.set_cons_succ]
        refine wpAnyJ_take (i := 2) (d := some 83) (v := ?_) rfl rfl (by kernel_rfl) (by kernel_rfl) (by kernel_rfl) (by kernel_rfl) (by kernel_rfl) (fun _ _ _ h => h) (Or.inl ⟨by rfl, ?_⟩) hHeld ?_
        rotate_left
        · (intro w hSw; (try dsimp only at hSw); go_simp; try with_reducible rfl)
        try simp only [Act.put, List.setIfInBounds_toArray, List.set_cons_zero, List.set_cons_succ]
        refine wpAnyJ_take (i := 4) (d := some 85) (v := ?_) rfl rfl (by kernel_rfl) (by kernel_rfl) (by kernel_rfl) (by kernel_rfl) (by kernel_rfl) (fun _ _ _ h => h) (Or.inl ⟨by rfl, ?_⟩) hHeld ?_
        rotate_left
        · (intro w hSw; (try dsimp only at hSw); go_simp; try with_reducible rfl)
        try simp only [Act.put, List.setIfInBounds_toArray, List.set_cons_zero, List.set_cons_succ]
        refine wpAnyJ_take (i := 5) (d := some 86) (v := ?_) rfl rfl (by kernel_rfl) (by kernel_rfl) (by kernel_rfl) (by kernel_rfl) (by kernel_rfl) (fun _ _ _ h => h) (Or.inl ⟨by rfl, ?_⟩) hHeld ?_
        rotate_left
        · (intro w hSw; (try dsimp only at hSw); go_simp; try with_reducible rfl)
        try simp only [Act.put, List.setIfInBounds_toArray, List.set_cons_zero, List.set_cons_succ]
        refine wpAnyJ_take (i := 6) (d := some 87) (v := ?_) rfl rfl (by kernel_rfl) (by kernel_rfl) (by kernel_rfl) (by kernel_rfl) (by kernel_rfl) (fun _ _ _ h => h) (Or.inl ⟨by rfl, ?_⟩) hHeld ?_
        rotate_left
        · (intro w hSw; (try dsimp only at hSw); go_simp; try with_reducible rfl)
        try simp only [Act.put, List.setIfInBounds_toArray, List.set_cons_zero, List.set_cons_succ]
        refine wpAnyJ_one (k := 3) (by kernel_rfl) rfl (fun K hK => ?_)
        go_simp
        refine (HPY.out _).mono ?_
        rintro e wa ⟨Aa, ca, rfl, hoa, hba⟩
        rw [E3.out, HTL.out] at hoa ⊢
        clear HPY
        have hba' : Below w4.heap.size w4 wa := ⟨hba.os, hba.tape, hba.output, hba.size, hba.block⟩
        have HBA := Lib.hid hba'; clear hba hba'
        have HOA := Lib.hid (Sl.of_own hoa); clear hoa
        try go_simp
        refine hK.out _ _ (fun _ => ?_) (fun hHeld' => ?_)
        · trivial
        replace hHeld := hHeld' rfl
        clear hHeld'
        try dsimp only at hHeld
        clear hK K
        try simp only [Act.put, List.setIfInBounds_toArray, List.set_cons_zero, List.set_cons_succ]
        refine wpAnyJ_one (k := 7) (by kernel_rfl) rfl (fun K hK => ?_)
        go_simp
        refine (SameTexts_any Aa Ap r ca cp _ _ (ps.take r) _ HOA.out (HS4.out.below HBA.out hz4) (by omega) (Nat.le_refl _) (Nat.le_trans hz4 HBA.out.size)).mono ?_
        rintro e wb ⟨rfl, hbb⟩
        have HBB := Lib.hid hbb; clear hbb
        try go_simp
        refine hK.out _ _ (fun _ => ?_) (fun hHeld' => ?_)
        · trivial
        replace hHeld := hHeld' rfl
        clear hHeld'
        try dsimp only at hHeld
        clear hK K
        try simp only [Act.put, List.setIfInBounds_toArray, List.set_cons_zero, List.set_cons_succ]
        refine wpAnyJ_take (i := 8) (d := some 89) (v := ?_) rfl rfl (by kernel_rfl) (by kernel_rfl) (by kernel_rfl) (by kernel_rfl) (by kernel_rfl) (fun _ _ _ h => h) (Or.inl ⟨by rfl, ?_⟩) hHeld ?_
        rotate_left
        · (intro w hSw; (try dsimp only at hSw); go_simp; try with_reducible rfl)
        try simp only [Act.put, List.setIfInBounds_toArray, List.set_cons_zero, List.set_cons_succ]
        refine wpAnyJ_take (i := 9) (d := some 90) (v := ?_) rfl rfl (by kernel_rfl) (by kernel_rfl) (by kernel_rfl) (by kernel_rfl) (by kernel_rfl) (fun _ _ _ h => h) (Or.inl ⟨by rfl, ?_⟩) hHeld ?_
        rotate_left
        · (intro w hSw; (try dsimp only at hSw); go_simp; try with_reducible rfl)
        try simp only [Act.put, List.setIfInBounds_toArray, List.set_cons_zero, List.set_cons_succ]
        refine wpAnyJ_take (i := 10) (d := some 91) (v := ?_) rfl rfl (by kernel_rfl) (by kernel_rfl) (by kernel_rfl) (by kernel_rfl) (by kernel_rfl) (fun _ _ _ h => h) (Or.inl ⟨by rfl, ?_⟩) hHeld ?_
        rotate_left
        · (intro w hSw; (try dsimp only at hSw); go_simp; try with_reducible rfl)
        try simp only [Act.put, List.setIfInBounds_toArray, List.set_cons_zero, List.set_cons_succ]
        refine wpAnyJ_take (i := 11) (d := some 92) (v := ?_) rfl rfl (by kernel_rfl) (by kernel_rfl) (by kernel_rfl) (by kernel_rfl) (by kernel_rfl) (fun _ _ _ h => h) (Or.inl ⟨by rfl, ?_⟩) hHeld ?_
        rotate_left
        · (intro w hSw; (try dsimp only at hSw); go_simp; try with_reducible rfl)
        try simp only [Act.put, List.setIfInBounds_toArray, List.set_cons_zero, List.set_cons_succ]
        refine wpAnyJ_take (i := 13) (d := some 94) (v := ?_) rfl rfl (by kernel_rfl) (by kernel_rfl) (by kernel_rfl) (by kernel_rfl) (by kernel_rfl) (fun _ _ _ h => h) (Or.inl ⟨by rfl, ?_⟩) hHeld ?_
        rotate_left
        · (intro w hSw; (try dsimp only at hSw); go_simp; try with_reducible rfl)
        try simp only [Act.put, List.setIfInBounds_toArray, List.set_cons_zero, List.set_cons_succ]
        refine wpAnyJ_take (i := 14) (d := some 95) (v := ?_) rfl rfl (by kernel_rfl) (by kernel_rfl) (by kernel_rfl) (by kernel_rfl) (by kernel_rfl) (fun _ _ _ h => h) (Or.inl ⟨by rfl, ?_⟩) hHeld ?_
        rotate_left
        · (intro w hSw; (try dsimp only at hSw); go_simp; try with_reducible rfl)
        try simp only [Act.put, List.setIfInBounds_toArray, List.set_cons_zero, List.set_cons_succ]
        refine wpAnyJ_take (i := 15) (d := some 96) (v := ?_) rfl rfl (by kernel_rfl) (by kernel_rfl) (by kernel_rfl) (by kernel_rfl) (by kernel_rfl) (fun _ _ _ h => h) (Or.inl ⟨by rfl, ?_⟩) hHeld ?_
        rotate_left
        · (intro w hSw; (try dsimp only at hSw); go_simp; try with_reducible rfl)
        try simp only [Act.put, List.setIfInBounds_toArray, List.set_cons_zero, List.set_cons_succ]
        refine wpAnyJ_one (k := 12) (by kernel_rfl) rfl (fun K hK => ?_)
        go_simp
        refine (HWH.out _).mono ?_
        rintro e wc ⟨rfl, hbc⟩
        rw [HWKd.out]
        have HBC := Lib.hid hbc; clear hbc
        try go_simp
        refine hK.out _ _ (fun _ => ?_) (fun hHeld' => ?_)
        · trivial
        replace hHeld := hHeld' rfl
        clear hHeld'
        try dsimp only at hHeld
        clear hK K
        try simp only [Act.put, List.setIfInBounds_toArray, List.set_cons_zero, List.set_cons_succ]
        refine wpAnyJ_take (i := 16) (d := some 97) (v := ?_) rfl rfl (by kernel_rfl) (by kernel_rfl) (by kernel_rfl) (by kernel_rfl) (by kernel_rfl) (fun _ _ _ h => h) (Or.inl ⟨by rfl, ?_⟩) hHeld ?_
        rotate_left
        · (intro w hSw; (try dsimp only at hSw); go_simp; try with_reducible rfl)
        try simp only [Act.put, List.setIfInBounds_toArray, List.set_cons_zero, List.set_cons_succ]
        refine wpAnyJ_take (i := 17) (d := some 98) (v := ?_) rfl rfl (by kernel_rfl) (by kernel_rfl) (by kernel_rfl) (by kernel_rfl) (by kernel_rfl) (fun _ _ _ h => h) (Or.inl ⟨by rfl, ?_⟩) hHeld ?_
        rotate_left
        · (intro w hSw; (try dsimp only at hSw); go_simp; try with_reducible rfl)
        try simp only [Act.put, List.setIfInBounds_toArray, List.set_cons_zero, List.set_cons_succ]
        refine wpAnyJ_take (i := 18) (d := some 4) (v := ?_) rfl rfl (by kernel_rfl) (by kernel_rfl) (by kernel_rfl) (by kernel_rfl) (by kernel_rfl) (fun _ _ _ h => h) (Or.inl ⟨by rfl, ?_⟩) hHeld ?_
        rotate_left
        · (intro w hSw; (try dsimp only at hSw); go_simp; try with_reducible rfl)
        try simp only [Act.put, List.setIfInBounds_toArray, List.set_cons_zero, List.set_cons_succ]
        refine wpAnyJ_done (by kernel_rfl) ?_ _
        go_wp2_with fail
        go_ret
        exact ⟨rfl, ((HB4.out.trans (HBA.out.mono (Nat.le_trans hz2 hz4))).trans (HBB.out.mono (Nat.le_trans hz2 (Nat.le_trans hz4 HBA.out.size)))).trans (HBC.out.mono (Nat.le_trans hz2 (Nat.le_trans hz4 (Nat.le_trans HBA.out.size HBB.out.size))))⟩
      · rw [if_neg hkb]
        have q1 : ((b : Int) == (k : Int)) = false := by simp; omega
        clear HT1 HT2 HT3 HZ HSL hkb
        go_wp2_with fail
        refine wp_region_J (S := (fun _ => True)) (J := []) (by kernel_rfl) ?_ (fun hHeld => ?_)
        · trivial
        try dsimp only at hHeld
        refine wpAnyJ_take (i := 0) (d := some 81) (v := ?_) rfl rfl (by kernel_rfl) (by kernel_rfl) (by kernel_rfl) (by kernel_rfl) (by kernel_rfl) (fun _ _ _ h => h) (Or.inl ⟨by rfl, ?_⟩) hHeld ?_
        rotate_left
        · (intro w hSw; (try dsimp only at hSw); go_simp; try with_reducible rfl)
        try simp only [Act.put, List.setIfInBounds_toArray, List.set_cons_zero, List.set_cons_succ]
        refine wpAnyJ_take (i := 1) (d := some 82) (v := ?_) rfl rfl (by kernel_rfl) (by kernel_rfl) (by kernel_rfl) (by kernel_rfl) (by kernel_rfl) (fun _ _ _ h => h) (Or.inl ⟨by rfl, ?_⟩) hHeld ?_
        rotate_left
        · (intro w hSw; (try dsimp only at hSw); go_simp; try with_reducible rfl)
        try simp only [Act.put, List.setIfInBounds_toArray, List.set_cons_zero, List.set_cons_succ]
        refine wpAnyJ_take (i := 2) (d := some 83) (v := ?_) rfl rfl (by kernel_rfl) (by kernel_rfl) (by kernel_rfl) (by kernel_rfl) (by kernel_rfl) (fun _ _ _ h => h) (Or.inl ⟨by rfl, ?_⟩) hHeld ?_
        rotate_left
        · (intro w hSw; (try dsimp only at hSw); go_simp; try with_reducible rfl)
        try simp only [Act.put, List.setIfInBounds_toArray, List.set_cons_zero, List.set_cons_succ]
        refine wpAnyJ_take (i := 4) (d := some 85) (v := ?_) rfl rfl (by kernel_rfl) (by kernel_rfl) (by kernel_rfl) (by kernel_rfl) (by kernel_rfl) (fun _ _ _ h => h) (Or.inl ⟨by rfl, ?_⟩) hHeld ?_
        rotate_left
        · (intro w hSw; (try dsimp only at hSw); go_simp; try with_reducible rfl)
        try simp only [Act.put, List.setIfInBounds_toArray, List.set_cons_zero, List.set_cons_succ]
        refine wpAnyJ_take (i := 5) (d := some 86) (v := ?_) rfl rfl (by kernel_rfl) (by kernel_rfl) (by kernel_rfl) (by kernel_rfl) (by kernel_rfl) (fun _ _ _ h => h) (Or.inl ⟨by rfl, ?_⟩) hHeld ?_
        rotate_left
        · (intro w hSw; (try dsimp only at hSw); go_simp; try with_reducible rfl)
        try simp only [Act.put, List.setIfInBounds_toArray, List.set_cons_zero, List.set_cons_succ]
        refine wpAnyJ_take (i := 6) (d := some 87) (v := ?_) rfl rfl (by kernel_rfl) (by kernel_rfl) (by kernel_rfl) (by kernel_rfl) (by kernel_rfl) (fun _ _ _ h => h) (Or.inl ⟨by rfl, ?_⟩) hHeld ?_
        rotate_left
        · (intro w hSw; (try dsimp only at hSw); go_simp; try with_reducible rfl)
        try simp only [Act.put, List.setIfInBounds_toArray, List.set_cons_zero, List.set_cons_succ]
        refine wpAnyJ_one (k := 3) (by kernel_rfl) rfl (fun K hK => ?_)
        go_simp
        refine (HPY.out _).mono ?_
        rintro e wa ⟨Aa, ca, rfl, hoa, hba⟩
        rw [E3.out, HTL.out] at hoa ⊢
        clear HPY
        have hba' : Below w4.heap.size w4 wa := ⟨hba.os, hba.tape, hba.output, hba.size, hba.block⟩
        have HBA := Lib.hid hba'; clear hba hba'
        have HOA := Lib.hid (Sl.of_own hoa); clear hoa
        try go_simp
        refine hK.out _ _ (fun _ => ?_) (fun hHeld' => ?_)
        · trivial
        replace hHeld := hHeld' rfl
        clear hHeld'
        try dsimp only at hHeld
        clear hK K
        try simp only [Act.put, List.setIfInBounds_toArray, List.set_cons_zero, List.set_cons_succ]
        refine wpAnyJ_one (k := 7) (by kernel_rfl) rfl (fun K hK => ?_)
        go_simp
        refine (SameTexts_any Aa Ap r ca cp _ _ (ps.take r) _ HOA.out (HS4.out.below HBA.out hz4) (by omega) (Nat.le_refl _) (Nat.le_trans hz4 HBA.out.size)).mono ?_
        rintro e wb ⟨rfl, hbb⟩
        have HBB := Lib.hid hbb; clear hbb
        try go_simp
        refine hK.out _ _ (fun _ => ?_) (fun hHeld' => ?_)
        · trivial
        replace hHeld := hHeld' rfl
        clear hHeld'
        try dsimp only at hHeld
        clear hK K
        try simp only [Act.put, List.setIfInBounds_toArray, List.set_cons_zero, List.set_cons_succ]
        refine wpAnyJ_take (i := 8) (d := some 89) (v := ?_) rfl rfl (by kernel_rfl) (by kernel_rfl) (by kernel_rfl) (by kernel_rfl) (by kernel_rfl) (fun _ _ _ h => h) (Or.inl ⟨by rfl, ?_⟩) hHeld ?_
        rotate_left
        · (intro w hSw; (try dsimp only at hSw); go_simp; try with_reducible rfl)
        try simp only [Act.put, List.setIfInBounds_toArray, List.set_cons_zero, List.set_cons_succ]
        refine wpAnyJ_take (i := 9) (d := some 90) (v := ?_) rfl rfl (by kernel_rfl) (by kernel_rfl) (by kernel_rfl) (by kernel_rfl) (by kernel_rfl) (fun _ _ _ h => h) (Or.inl ⟨by rfl, ?_⟩) hHeld ?_
        rotate_left
        · (intro w hSw; (try dsimp only at hSw); go_simp; try with_reducible rfl)
        try simp only [Act.put, List.setIfInBounds_toArray, List.set_cons_zero, List.set_cons_succ]
        refine wpAnyJ_take (i := 10) (d := some 91) (v := ?_) rfl rfl (by kernel_rfl) (by kernel_rfl) (by kernel_rfl) (by kernel_rfl) (by kernel_rfl) (fun _ _ _ h => h) (Or.inl ⟨by rfl, ?_⟩) hHeld ?_
        rotate_left
        · (intro w hSw; (try dsimp only at hSw); go_simp; try with_reducible rfl)
        try simp only [Act.put, List.setIfInBounds_toArray, List.set_cons_zero, List.set_cons_succ]
        refine wpAnyJ_take (i := 11) (d := some 92) (v := ?_) rfl rfl (by kernel_rfl) (by kernel_rfl) (by kernel_rfl) (by kernel_rfl) (by kernel_rfl) (fun _ _ _ h => h) (Or.inl ⟨by rfl, ?_⟩) hHeld ?_
        rotate_left
        · (intro w hSw; (try dsimp only at hSw); go_simp; try with_reducible rfl)
        try simp only [Act.put, List.setIfInBounds_toArray, List.set_cons_zero, List.set_cons_succ]
        refine wpAnyJ_take (i := 13) (d := some 94) (v := ?_) rfl rfl (by kernel_rfl) (by kernel_rfl) (by kernel_rfl) (by kernel_rfl) (by kernel_rfl) (fun _ _ _ h => h) (Or.inl ⟨by rfl, ?_⟩) hHeld ?_
        rotate_left
        · (intro w hSw; (try dsimp only at hSw); go_simp; try with_reducible rfl)
        try simp only [Act.put, List.setIfInBounds_toArray, List.set_cons_zero, List.set_cons_succ]
        refine wpAnyJ_take (i := 14) (d := some 95) (v := ?_) rfl rfl (by kernel_rfl) (by kernel_rfl) (by kernel_rfl) (by kernel_rfl) (by kernel_rfl) (fun _ _ _ h => h) (Or.inl ⟨by rfl, ?_⟩) hHeld ?_
        rotate_left
        · (intro w hSw; (try dsimp only at hSw); go_simp; try with_reducible rfl)
        try simp only [Act.put, List.setIfInBounds_toArray, List.set_cons_zero, List.set_cons_succ]
        refine wpAnyJ_take (i := 15) (d := some 96) (v := ?_) rfl rfl (by kernel_rfl) (by kernel_rfl) (by kernel_rfl) (by kernel_rfl) (by kernel_rfl) (fun _ _ _ h => h) (Or.inl ⟨by rfl, ?_⟩) hHeld ?_
        rotate_left
        · (intro w hSw; (try dsimp only at hSw); go_simp; try with_reducible rfl)
        try simp only [Act.put, List.setIfInBounds_toArray, List.set_cons_zero, List.set_cons_succ]
        refine wpAnyJ_one (k := 12) (by kernel_rfl) rfl (fun K hK => ?_)
        go_simp
        refine (HWH.out _).mono ?_
        rintro e wc ⟨rfl, hbc⟩
        rw [HWKd.out]
        have HBC := Lib.hid hbc; clear hbc
        try go_simp
        refine hK.out _ _ (fun _ => ?_) (fun hHeld' => ?_)
        · trivial
        replace hHeld := hHeld' rfl
        clear hHeld'
        try dsimp only at hHeld
        clear hK K
        try simp only [Act.put, List.setIfInBounds_toArray, List.set_cons_zero, List.set_cons_succ]
        refine wpAnyJ_take (i := 16) (d := some 97) (v := ?_) rfl rfl (by kernel_rfl) (by kernel_rfl) (by kernel_rfl) (by kernel_rfl) (by kernel_rfl) (fun _ _ _ h => h) (Or.inl ⟨by rfl, ?_⟩) hHeld ?_
        rotate_left
        · (intro w hSw; (try dsimp only at hSw); go_simp; try with_reducible rfl)
        try simp only [Act.put, List.setIfInBounds_toArray, List.set_cons_zero, List.set_cons_succ]
        refine wpAnyJ_take (i := 17) (d := some 98) (v := ?_) rfl rfl (by kernel_rfl) (by kernel_rfl) (by kernel_rfl) (by kernel_rfl) (by kernel_rfl) (fun _ _ _ h => h) (Or.inl ⟨by rfl, ?_⟩) hHeld ?_
        rotate_left
        · (intro w hSw; (try dsimp only at hSw); go_simp; try with_reducible rfl)
        try simp only [Act.put, List.setIfInBounds_toArray, List.set_cons_zero, List.set_cons_succ]
        refine wpAnyJ_take (i := 18) (d := some 4) (v := ?_) rfl rfl (by kernel_rfl) (by kernel_rfl) (by kernel_rfl) (by kernel_rfl) (by kernel_rfl) (fun _ _ _ h => h) (Or.inl ⟨by rfl, ?_⟩) hHeld ?_
        rotate_left
        · (intro w hSw; (try dsimp only at hSw); go_simp; try with_reducible rfl)
        try simp only [Act.put, List.setIfInBounds_toArray, List.set_cons_zero, List.set_cons_succ]
        refine wpAnyJ_done (by kernel_rfl) ?_ _
        go_wp2_with fail
        go_ret
        exact ⟨rfl, ((HB4.out.trans (HBA.out.mono (Nat.le_trans hz2 hz4))).trans (HBB.out.mono (Nat.le_trans hz2 (Nat.le_trans hz4 HBA.out.size)))).trans (HBC.out.mono (Nat.le_trans hz2 (Nat.le_trans hz4 (Nat.le_trans HBA.out.size HBB.out.size))))⟩
end Go.Proofs.Ytmcedodejnnkmaa
