/-
  Walk of JournalExact.
-/
import Derived.Test.YtmcedodejnnkmaaJourX1
import Derived.Test.YtmcedodejnnkmaaOrd
namespace Go.Proofs.Ytmcedodejnnkmaa
open Go.RowKit

set_option maxRecDepth 100000 in
set_option maxHeartbeats 4000000 in
theorem walk_JournalExact (w : World) (A : Option Addr) (n c : Nat) (z : List Int) (hz : Sl w w.heap.size 1 A n c (intsV z)) (_ : ∀ x ∈ z, (Lit.int .i64 x).wf = true) (raw : ByteArray) (hraw : raw.size ≤ maxLen) (rn : Int) (rb : BitVec 64) (rp : ByteArray) (hrp : rp.size ≤ maxLen) (at_ : Int) (_ : (Lit.int .i64 at_).wf = true) (by_ : Int) (wb : (Lit.int .u8 by_).wf = true) :
    Calls Try.prog 8 #[.slice A n c, .string raw, .agg #[.int .i64 rn, .int .u64 rb.toNat, .string rp], .int .i64 at_, .int .u8 by_] w fun e w' => e = .returned (.bool true) ∧ Below w.heap.size w w' := by
  obtain ⟨hnc, hcm⟩ := hz.le
  have HZ0 := Lib.hid hz; clear hz
  replace hraw : raw.size ≤ 9223372036854775807 := hraw
  replace hrp : rp.size ≤ 9223372036854775807 := hrp
  obtain ⟨hv0, hv1⟩ := bounds_u8 wb
  clear wb
  obtain ⟨V, rfl⟩ := Int.eq_ofNat_of_zero_le hv0
  go_enter Try.func8, Try.ntmps8
  go_wp2_with fail
  generalize hW : w.alloc (.cells #[.int .i64 rn, .int .u64 rb.toNat, .string rp] 43) = W0
  have HBK : Hid (Blk W0 w.heap.size 43 #[.int .i64 rn, .int .u64 rb.toNat, .string rp]) := hW ▸ Blk.new _ _ _
  have HB0 : Hid (Below w.heap.size w W0) := hW ▸ (Below.refl _ _).alloc (Nat.le_refl _) _
  have hW0 : w.heap.size < W0.heap.size := by rw [← hW]; simp
  have HZ : Hid (Sl W0 w.heap.size 1 A n c (intsV z)) := hW ▸ HZ0.out.alloc (Nat.le_refl _) _
  clear hW HZ0
  refine (awake_any _).mono ?_
  rintro e w0 ⟨rfl, hb0⟩
  go_wp2_with fail
  refine (few_any A n c _ (by omega)).mono ?_
  rintro e w1 ⟨rfl, rfl⟩
  by_cases hf : n ≤ 400; rotate_left
  · have hf' : decide (n ≤ 400) = false := by simpa using hf
    clear hf
    go_wp2_with fail
    refine (awake_any _).mono ?_
    rintro e w1 ⟨rfl, hb1⟩
    go_wp2_with fail
    go_ret
    exact ⟨rfl, HB0.out.trans ((hb0.trans (hb1.mono hb0.size)).mono (Nat.le_of_lt hW0))⟩
  have hf' : decide (n ≤ 400) = true := by simpa using hf
  by_cases hrw : 600 < raw.size
  · have hr' : decide ((600 : Int) < (raw.size : Int)) = true := by simp; omega
    go_wp2_with fail
    refine (awake_any _).mono ?_
    rintro e w1 ⟨rfl, hb1⟩
    go_wp2_with fail
    go_ret
    exact ⟨rfl, HB0.out.trans ((hb0.trans (hb1.mono hb0.size)).mono (Nat.le_of_lt hW0))⟩
  have hr' : decide ((600 : Int) < (raw.size : Int)) = false := by simp; omega
  replace hrw : raw.size ≤ 600 := by omega
  clear hraw
  have hcp0 : w0.cell? ⟨w.heap.size, 2, none⟩ = some (.string rp) := (HBK.out.below hb0 hW0).cell 2
  by_cases hrq : 32768 < rp.size
  · have hr2 : decide ((32768 : Int) < (rp.size : Int)) = true := by simp; omega
    go_wp2_with fail
    refine (awake_any _).mono ?_
    rintro e w1 ⟨rfl, hb1⟩
    go_wp2_with fail
    go_ret
    exact ⟨rfl, HB0.out.trans ((hb0.trans (hb1.mono hb0.size)).mono (Nat.le_of_lt hW0))⟩
  have hr2 : decide ((32768 : Int) < (rp.size : Int)) = false := by simp; omega
  replace hrq : rp.size ≤ 32768 := by omega
  clear hrp
  go_wp2_with fail
  refine (new_any A n c w.heap.size z _ (HZ.out.below hb0 (Nat.le_of_lt hW0)) (Nat.le_trans (Nat.le_of_lt hW0) hb0.size)).mono ?_
  rintro e w1 ⟨rfl, hd1, hb1, hs1⟩
  go_wp2_with fail
  refine (made_any w0.heap.size 5 w1 hd1.out (by decide)).mono ?_
  rintro e w2 ⟨ps, Ap, cp, rfl, hn5, hsh, hown, hd2, hg2⟩
  have hb2 : Below W0.heap.size W0 w2 := (hb0.trans (hb1.out.mono hb0.size)).trans (below_of_grown hg2.out hb0.size (Nat.le_trans hb0.size hb1.out.size))
  have HB2 := Lib.hid hb2
  have hjl := hsh.out.len
  have HSL := Lib.hid (Sl.of_own hown.out)
  have hz2 := hb2.size
  obtain ⟨hc1, hc2⟩ := HSL.out.le
  obtain ⟨J, hJ⟩ : ∃ J, (chain 0 0#64 ps).length = J := ⟨_, rfl⟩
  have HJ := Lib.hid hJ
  have hsz : (mkS (chain 0 0#64 ps)).size = J := by rw [size_mk, hJ]
  clear hb2 hown hd2 hg2 hd1 hb1 hs1 hcp0
  generalize hS : mkS (chain 0 0#64 ps) = S at *
  have HS := Lib.hid hS; clear hS
  obtain ⟨N, hN⟩ : ∃ N, ps.length = N := ⟨_, rfl⟩
  rw [hN] at hn5 hjl HSL hc1 ⊢
  rw [hJ] at hjl
  have HN := Lib.hid hN; clear hN hJ
  obtain ⟨cb, W3, hcv, hcb, hcm2, hb3, hs3, hcell⟩ := run_bytes_ex w2 S (by omega)
  have hcv' := hcv
  rw [hsz] at hcv hcb
  have HB3 := Lib.hid (HB2.out.trans (hb3.mono hz2))
  have hz3 : w2.heap.size + 1 ≤ W3.heap.size := by omega
  by_cases hJ0 : J = 0
  · have q : decide ((0 : Int) < (J : Int)) = false := by simp; omega
    obtain ⟨L, hL, HSE⟩ : ∃ L : List UInt8, L.length = J ∧ Hid (Sl W3 (w2.heap.size + 1) 1 (some ⟨w2.heap.size, 0, none⟩) J cb (bytesV L)) := ⟨[], by simp [hJ0], by unfold Hid; rw [hJ0]; exact ⟨rfl, Nat.zero_le _, hcm2, (fun e => by cases e), fun h => absurd h (by omega)⟩⟩
    have HJ0 := Lib.hid hJ0
    clear hcell hJ0 q
    go_wp2_with fail
    · exfalso; have := HJ0.out; omega
    clear hcv HJ0
    have hzw : w2.heap.size + 1 ≤ W3.heap.size := hz3
    have HBW := HB3
    generalize W3 = WW at *
    clear HB2 hcv' hb3 HB3 hz3 HS HSL hs3
    have hcat2 : ¬ (9223372036854775807 < J + raw.size) := by omega
    have hcat3 : ¬ (9223372036854775807 < J + J) := by omega
    have hw64 : IntKind.i64.wrap ((J : Int) + 1) = (J : Int) + 1 := IntWalk.i64_in _ (by omega)
    have hw64' : (1 : Int) ≤ (J : Int) + 1 := by omega
    refine wp_region_J (S := (fun w1 => Sl w1 (w2.heap.size + 1) 1 (some ⟨w2.heap.size, 0, none⟩) J cb (bytesV L) ∧ w2.heap.size + 1 ≤ w1.heap.size)) (J := []) (by kernel_rfl) ?_ (fun hHeld => ?_)
    · exact ⟨HSE.out, hzw⟩
    try dsimp only at hHeld
    refine wpAnyJ_take (i := 0) (d := some 72) (v := ?_) rfl rfl (by kernel_rfl) (by kernel_rfl) (by kernel_rfl) (by kernel_rfl) (by kernel_rfl) (fun _ _ _ h => h) (Or.inl ⟨by rfl, ?_⟩) hHeld ?_
    rotate_left
    · (intro w hSw; (try dsimp only at hSw); go_simp; try with_reducible rfl)
    try simp only [Act.put, List.setIfInBounds_toArray, List.set_cons_zero, List.set_cons_succ]
    refine wpAnyJ_take (i := 1) (d := some 73) (v := ?_) rfl rfl (by kernel_rfl) (by kernel_rfl) (by kernel_rfl) (by kernel_rfl) (by kernel_rfl) (fun _ _ _ h => h) (Or.inl ⟨by rfl, ?_⟩) hHeld ?_
    rotate_left
    · (intro w hSw; (try dsimp only at hSw); go_simp; try with_reducible rfl)
    try simp only [Act.put, List.setIfInBounds_toArray, List.set_cons_zero, List.set_cons_succ]
    refine wpAnyJ_take (i := 3) (d := some 75) (v := ?_) rfl rfl (by kernel_rfl) (by kernel_rfl) (by kernel_rfl) (by kernel_rfl) (by kernel_rfl) (fun _ _ _ h => h) (Or.inl ⟨by rfl, ?_⟩) hHeld ?_
    rotate_left
    · (intro w hSw; (try dsimp only at hSw); go_simp; try with_reducible rfl)
    try simp only [Act.put, List.setIfInBounds_toArray, List.set_cons_zero, List.set_cons_succ]
    refine wpAnyJ_take (i := 4) (d := some 76) (v := ?_) rfl rfl (by kernel_rfl) (by kernel_rfl) (by kernel_rfl) (by kernel_rfl) (by kernel_rfl) (fun _ _ _ h => h) (Or.inl ⟨by rfl, ?_⟩) hHeld ?_
    rotate_left
    · (intro w hSw; (try dsimp only at hSw); go_simp; try with_reducible rfl)
    try simp only [Act.put, List.setIfInBounds_toArray, List.set_cons_zero, List.set_cons_succ]
    refine wpAnyJ_take (i := 5) (d := some 77) (v := ?_) rfl rfl (by kernel_rfl) (by kernel_rfl) (by kernel_rfl) (by kernel_rfl) (by kernel_rfl) (fun _ _ _ h => h) (Or.inl ⟨by rfl, ?_⟩) hHeld ?_
    rotate_left
    · (intro w hSw; (try dsimp only at hSw); go_simp; try with_reducible rfl)
    try simp only [Act.put, List.setIfInBounds_toArray, List.set_cons_zero, List.set_cons_succ]
    refine wpAnyJ_take (i := 6) (d := some 78) (v := ?_) rfl rfl (by kernel_rfl) (by kernel_rfl) (by kernel_rfl) (by kernel_rfl) (by kernel_rfl) (fun _ _ _ h => h) (Or.inl ⟨by rfl, ?_⟩) hHeld ?_
    rotate_left
    · (intro w hSw; (try dsimp only at hSw); go_simp; try with_reducible rfl)
    try simp only [Act.put, List.setIfInBounds_toArray, List.set_cons_zero, List.set_cons_succ]
    refine wpAnyJ_take (i := 7) (d := some 79) (v := ?_) rfl rfl (by kernel_rfl) (by kernel_rfl) (by kernel_rfl) (by kernel_rfl) (by kernel_rfl) (fun _ _ _ h => h) (Or.inl ⟨by rfl, ?_⟩) hHeld ?_
    rotate_left
    · (intro w hSw; (try dsimp only at hSw); go_simp; try with_reducible rfl)
    try simp only [Act.put, List.setIfInBounds_toArray, List.set_cons_zero, List.set_cons_succ]
    refine wpAnyJ_take (i := 10) (d := some 82) (v := ?_) rfl rfl (by kernel_rfl) (by kernel_rfl) (by kernel_rfl) (by kernel_rfl) (by kernel_rfl) (fun _ _ _ h => h) (Or.inl ⟨by rfl, ?_⟩) hHeld ?_
    rotate_left
    · (intro w hSw; (try dsimp only at hSw); go_simp; try with_reducible rfl)
    try simp only [Act.put, List.setIfInBounds_toArray, List.set_cons_zero, List.set_cons_succ]
    refine wpAnyJ_take (i := 11) (d := some 83) (v := ?_) rfl rfl (by kernel_rfl) (by kernel_rfl) (by kernel_rfl) (by kernel_rfl) (by kernel_rfl) (fun _ _ _ h => h) (Or.inl ⟨by rfl, ?_⟩) hHeld ?_
    rotate_left
    · (intro w hSw; (try dsimp only at hSw); go_simp; try with_reducible rfl)
    try simp only [Act.put, List.setIfInBounds_toArray, List.set_cons_zero, List.set_cons_succ]
    refine wpAnyJ_take (i := 12) (d := some 84) (v := ?_) rfl rfl (by kernel_rfl) (by kernel_rfl) (by kernel_rfl) (by kernel_rfl) (by kernel_rfl) (fun _ _ _ h => h) (Or.inl ⟨by rfl, ?_⟩) hHeld ?_
    rotate_left
    · (intro w hSw; (try dsimp only at hSw); go_simp; try with_reducible rfl)
    try simp only [Act.put, List.setIfInBounds_toArray, List.set_cons_zero, List.set_cons_succ]
    refine wpAnyJ_take (i := 13) (d := some 85) (v := ?_) rfl rfl (by kernel_rfl) (by kernel_rfl) (by kernel_rfl) (by kernel_rfl) (by kernel_rfl) (fun _ _ _ h => h) (Or.inl ⟨by rfl, ?_⟩) hHeld ?_
    rotate_left
    · (intro w hSw; (try dsimp only at hSw); go_simp; try with_reducible rfl)
    try simp only [Act.put, List.setIfInBounds_toArray, List.set_cons_zero, List.set_cons_succ]
    refine wpAnyJ_take (i := 14) (d := some 86) (v := ?_) rfl rfl (by kernel_rfl) (by kernel_rfl) (by kernel_rfl) (by kernel_rfl) (by kernel_rfl) (fun _ _ _ h => h) (Or.inl ⟨by rfl, ?_⟩) hHeld ?_
    rotate_left
    · (intro w hSw; (try dsimp only at hSw); go_simp; try with_reducible rfl)
    try simp only [Act.put, List.setIfInBounds_toArray, List.set_cons_zero, List.set_cons_succ]
    refine wpAnyJ_take (i := 15) (d := some 87) (v := ?_) rfl rfl (by kernel_rfl) (by kernel_rfl) (by kernel_rfl) (by kernel_rfl) (by kernel_rfl) (fun _ _ _ h => h) (Or.inl ⟨by rfl, ?_⟩) hHeld ?_
    rotate_left
    · (intro w hSw; (try dsimp only at hSw); go_simp; try with_reducible rfl)
    try simp only [Act.put, List.setIfInBounds_toArray, List.set_cons_zero, List.set_cons_succ]
    refine wpAnyJ_take (i := 16) (d := some 88) (v := ?_) rfl rfl (by kernel_rfl) (by kernel_rfl) (by kernel_rfl) (by kernel_rfl) (by kernel_rfl) (fun _ _ _ h => h) (Or.inl ⟨by rfl, ?_⟩) hHeld ?_
    rotate_left
    · (intro w hSw; (try dsimp only at hSw); go_simp; try with_reducible rfl)
    try simp only [Act.put, List.setIfInBounds_toArray, List.set_cons_zero, List.set_cons_succ]
    refine wpAnyJ_take (i := 19) (d := some 91) (v := ?_) rfl rfl (by kernel_rfl) (by kernel_rfl) (by kernel_rfl) (by kernel_rfl) (by kernel_rfl) (fun _ _ _ h => h) (Or.inl ⟨by rfl, ?_⟩) hHeld ?_
    rotate_left
    · (intro w hSw; (try dsimp only at hSw); go_simp; try with_reducible rfl)
    try simp only [Act.put, List.setIfInBounds_toArray, List.set_cons_zero, List.set_cons_succ]
    refine wpAnyJ_take (i := 2) (d := some 74) (v := ?_) rfl rfl (by kernel_rfl) (by kernel_rfl) (by kernel_rfl) (by kernel_rfl) (by kernel_rfl) (fun _ _ _ h => h) (Or.inl ⟨by rfl, ?_⟩) hHeld ?_
    rotate_left
    · (intro w hSw; have hcx := run_string_of (P := Try.prog) Try.underlying31 Try.underlying5 Try.underlying9 hSw.1; clear hSw; go_simp; try with_reducible rfl)
    try simp only [Act.put, List.setIfInBounds_toArray, List.set_cons_zero, List.set_cons_succ]
    refine wpAnyJ_one (k := 8) (by kernel_rfl) rfl (fun K hK => ?_)
    go_simp
    refine (mod_any at_ ((J : Int) + 1) _ (by omega) (by omega)).mono ?_
    rintro e wm ⟨⟨k2, rfl, hk2⟩, rfl⟩
    replace hk2 : k2 ≤ J := by omega
    have hx2 : S.extract 0 k2 = mkS ((toL S).take k2) := by rw [extract_mk, List.drop_zero, Nat.sub_zero]
    have hk2' : (k2 : Int) ≤ (J : Int) := by omega
    try go_simp
    refine hK.out _ _ (fun _ => ?_) (fun hHeld' => ?_)
    · exact hHeld
    replace hHeld := hHeld' rfl
    clear hHeld'
    try dsimp only at hHeld
    clear hK K
    try simp only [Act.put, List.setIfInBounds_toArray, List.set_cons_zero, List.set_cons_succ]
    refine wpAnyJ_take (i := 9) (d := some 81) (v := ?_) rfl rfl (by kernel_rfl) (by kernel_rfl) (by kernel_rfl) (by kernel_rfl) (by kernel_rfl) (fun _ _ _ h => h) (Or.inl ⟨by rfl, ?_⟩) hHeld ?_
    rotate_left
    · (intro w hSw; (try dsimp only at hSw); go_simp; try with_reducible rfl)
    try simp only [Act.put, List.setIfInBounds_toArray, List.set_cons_zero, List.set_cons_succ]
    refine wpAnyJ_one (k := 17) (by kernel_rfl) rfl (fun K hK => ?_)
    go_simp
    refine hK.out _ _ (fun _ => ?_) (fun hHeld' => ?_)
    · exact ⟨hHeld.1.alloc hHeld.2 _, by simp; omega⟩
    replace hHeld := hHeld' rfl
    clear hHeld'
    try dsimp only at hHeld
    clear hK K
    try simp only [Act.put, List.setIfInBounds_toArray, List.set_cons_zero, List.set_cons_succ]
    refine wpAnyJ_take (i := 18) (d := some 90) (v := ?_) rfl rfl (by kernel_rfl) (by kernel_rfl) (by kernel_rfl) (by kernel_rfl) (by kernel_rfl) (fun _ _ _ h => h) (Or.inl ⟨by rfl, ?_⟩) hHeld ?_
    rotate_left
    · (intro w hSw; (try dsimp only at hSw); go_simp; try with_reducible rfl)
    try simp only [Act.put, List.setIfInBounds_toArray, List.set_cons_zero, List.set_cons_succ]
    refine wpAnyJ_done (by kernel_rfl) ?_ _
    clear hw64 hw64'
    clear hHeld hx2 hk2'
    have z0 : S.size ≤ 20000 := by omega
    have z1 : (mkS L).size ≤ 20000 := by rw [size_mk, hL]; omega
    have z2 : (mkS ((toL S).take k2)).size ≤ 20000 := by rw [size_mk, List.length_take, toL_len, hsz]; omega
    have z3 : (S ++ raw).size ≤ 20000 := by rw [← toL_len, toL_append, List.length_append, toL_len, toL_len, hsz]; omega
    have z5 : (S ++ S).size ≤ 20000 := by rw [← toL_len, toL_append, List.length_append, toL_len, hsz]; omega
    generalize mkS L = s1 at *
    generalize mkS ((toL S).take k2) = s2 at *
    generalize S ++ raw = s3 at *
    generalize S ++ S = s5 at *
    have hS4 : Sl ((WW.alloc (.cells #[.string S, .string s1, .string s2, .string s3, .string raw, .string s5] 9)).drew) (WW.heap.size + 1) 1 (some ⟨WW.heap.size, 0, none⟩) 6 6 ([S, s1, s2, s3, raw, s5].flatMap fun s => [Value.string s]) := Sl.drew (Sl.newest (n := 6) rfl rfl (by decide))
    have hSz : ∀ s ∈ [S, s1, s2, s3, raw, s5], s.size ≤ 20000 := by
      intro s hs
      simp at hs
      rcases hs with rfl | rfl | rfl | rfl | rfl | rfl <;> omega
    have hBA : Below W0.heap.size W0 ((WW.alloc (.cells #[.string S, .string s1, .string s2, .string s3, .string raw, .string s5] 9)).drew) := (HBW.out.alloc (by omega) _).drew
    have hzA : WW.heap.size + 1 ≤ ((WW.alloc (.cells #[.string S, .string s1, .string s2, .string s3, .string raw, .string s5] 9)).drew).heap.size := by simp
    generalize ((WW.alloc (.cells #[.string S, .string s1, .string s2, .string s3, .string raw, .string s5] 9)).drew) = WA at *
    generalize WW.heap.size = BB at *
    have HS4 := Lib.hid hS4; have HBA := Lib.hid hBA; have HSz := Lib.hid hSz
    have hzw2 : W0.heap.size ≤ WA.heap.size := hBA.size
    have hgw : w.heap.size < WA.heap.size := by omega
    have HBKA := Lib.hid (HBK.out.below hBA hW0)
    clear hS4 hBA hSz z0 z1 z2 z3 z5 HSE HBW hcat2 hcat3 HBK hsz
    go_wp2_with fail
    go_loopw [91] (fun i wr => ∃ (i' : Nat), i = .int .i64 i' ∧ i' ≤ 6 ∧ Hid (Below WA.heap.size WA wr)) (fun i _ => 6 - (intOf i).toNat)
    case atStart => exact ⟨0, rfl, Nat.zero_le _, Below.refl _ _⟩
    case round =>
      obtain ⟨i, rfl, hi, hbl⟩ := hrel
      have hsb := hbl.out.size
      by_cases hlt : i < 6
      · obtain ⟨bb, off, s, e1, _, hs, hc⟩ := (HS4.out.below hbl.out hzA).at1 hlt
        injection e1 with e1
        injection e1 with e1 e2 _
        subst e1 e2
        rw [Nat.zero_add] at hc
        have hs2 := HSz.out s (List.mem_of_getElem? hs)
        clear hs
        have hrl := readJ_len (toL s)
        have hpl : (paysJ (toL s)).length = (readJ (toL s)).recs.length := by rw [paysJ, List.length_map]
        have HRd := Lib.hid (fun W => Read_any s W (by omega))
        have HRr := Lib.hid (fun W => rread_any s W (by omega))
        have HAp := Lib.hid (fun W => Append_any s rp W (by omega) (by omega))
        have HAr := Lib.hid (fun W => rappend_any s rp W (by omega) (by omega))
        have HWh := Lib.hid (fun W => Whole_any s W (by omega))
        have HWr := Lib.hid (fun W => rWhole_any s W (by omega))
        have HPa := Lib.hid (fun W => Payloads_any s W (by omega))
        have HPr := Lib.hid (fun W => rPayloads_any s W (by omega))
        have HSu := Lib.hid (fun W => sum_any s W (by omega))
        have HSr := Lib.hid (fun W => rsum_any s W (by omega))
        unfold RetRead3 at HRd HRr
        unfold RetStr at HAp HAr
        unfold RetStrs at HPa HPr
        generalize readJ (toL s) = R at *
        generalize paysJ (toL s) = Py at *
        generalize mkS (appJ (toL s) (toL rp)) = U at *
        generalize appE (toL s) (toL rp) = ue at *
        generalize mkS (wholeJ (toL s)) = Wl at *
        generalize (sumJ (toL s)).toNat = sm at *
        obtain ⟨rs, sz, su, er⟩ := R
        simp only at *
        obtain ⟨m, hm⟩ : ∃ m, rs.length = m := ⟨_, rfl⟩
        have HM := Lib.hid hm; clear hm
        simp only [HM.out] at HRd HRr hrl hpl
        have HPL := Lib.hid hpl; clear hpl
        simp only [HPL.out] at HPa HPr
        go_wp2_with fail
        refine (HRd.out _).mono ?_
        rintro e w4 ⟨A4, c4, rfl, ho4, hb4⟩
        have HO4 := Lib.hid (Sl.of_own ho4)
        have HL4 := Lib.hid (hbl.out.trans (hb4.mono hbl.out.size))
        clear ho4 hb4
        go_wp2_with fail
        refine (HRr.out _).mono ?_
        rintro e w5 ⟨A5, c5, rfl, ho5, hb5⟩
        have HO5 := Lib.hid (Sl.of_own ho5)
        replace HO4 := Lib.hid (HO4.out.below hb5 (Nat.le_refl _))
        have hz45 := hb5.size
        have HL5 := Lib.hid (HL4.out.trans (hb5.mono HL4.out.size))
        have cp5 : w5.cell? ⟨w.heap.size, 2, none⟩ = some (.string rp) := (HBKA.out.below HL5.out hgw).cell 2
        clear ho5 hb5
        go_wp2_with fail
        refine (HAp.out _).mono ?_
        rintro e w6 ⟨rfl, hb6⟩
        replace HO4 := Lib.hid (HO4.out.below hb6 hz45)
        replace HO5 := Lib.hid (HO5.out.below hb6 (Nat.le_refl _))
        have hz56 := hb6.size
        have HL6 := Lib.hid (HL5.out.trans (hb6.mono HL5.out.size))
        have cp6 : w6.cell? ⟨w.heap.size, 2, none⟩ = some (.string rp) := (HBKA.out.below HL6.out hgw).cell 2
        clear hb6 cp5
        go_wp2_with fail
        refine (HAr.out _).mono ?_
        rintro e w7 ⟨rfl, hb7⟩
        replace HO4 := Lib.hid (HO4.out.below hb7 (by omega))
        replace HO5 := Lib.hid (HO5.out.below hb7 (by omega))
        have hz67 := hb7.size
        have HL7 := Lib.hid (HL6.out.trans (hb7.mono HL6.out.size))
        clear hb7 cp6
        go_wp2_with fail
        refine (Same_any A4 A5 m c4 c5 w4.heap.size w5.heap.size rs _ HO4.out HO5.out (by omega) (by omega) (by omega)).mono ?_
        rintro e w8 ⟨rfl, hb8⟩
        have HL8 := Lib.hid (HL7.out.trans (hb8.mono HL7.out.size))
        clear hb8 HO4 HO5
        go_wp2_with fail
        refine (HWh.out _).mono ?_
        rintro e w9 ⟨rfl, hb9⟩
        have HL9 := Lib.hid (HL8.out.trans (hb9.mono HL8.out.size))
        clear hb9
        go_wp2_with fail
        refine (HWr.out _).mono ?_
        rintro e w10 ⟨rfl, hb10⟩
        have HL10 := Lib.hid (HL9.out.trans (hb10.mono HL9.out.size))
        clear hb10
        go_wp2_with fail
        refine (HPa.out _).mono ?_
        rintro e w11 ⟨A11, c11, rfl, ho11, hb11⟩
        have HO11 := Lib.hid (Sl.of_own ho11)
        have HL11 := Lib.hid (HL10.out.trans (hb11.mono HL10.out.size))
        clear ho11 hb11
        go_wp2_with fail
        refine (HPr.out _).mono ?_
        rintro e w12 ⟨A12, c12, rfl, ho12, hb12⟩
        have HO12 := Lib.hid (Sl.of_own ho12)
        replace HO11 := Lib.hid (HO11.out.below hb12 (Nat.le_refl _))
        have hz1112 := hb12.size
        have HL12 := Lib.hid (HL11.out.trans (hb12.mono HL11.out.size))
        clear ho12 hb12
        go_wp2_with fail
        refine (SameTexts_any A11 A12 m c11 c12 w11.heap.size w12.heap.size Py _ HO11.out HO12.out (by omega) (by omega) (Nat.le_refl _)).mono ?_
        rintro e w13 ⟨rfl, hb13⟩
        have HL13 := Lib.hid (HL12.out.trans (hb13.mono HL12.out.size))
        clear hb13 HO11 HO12
        go_wp2_with fail
        refine (HSu.out _).mono ?_
        rintro e w14 ⟨rfl, rfl⟩
        go_wp2_with fail
        refine (HSr.out _).mono ?_
        rintro e w14 ⟨rfl, rfl⟩
        go_wp2_with fail
        go_roundw
        case rel => exact ⟨i + 1, by go_num, by omega, HL13⟩
        case measure => simp [intOf]; omega
      · obtain rfl : i = 6 := by omega
        have cr0 : wr.cell? ⟨w.heap.size, 0, none⟩ = some (.int .i64 rn) := (HBKA.out.below hbl.out hgw).cell 0
        have cr1 : wr.cell? ⟨w.heap.size, 1, none⟩ = some (.int .u64 rb.toNat) := (HBKA.out.below hbl.out hgw).cell 1
        have cr2 : wr.cell? ⟨w.heap.size, 2, none⟩ = some (.string rp) := (HBKA.out.below hbl.out hgw).cell 2
        have HWn := Lib.hid (fun W => Write_any rn rb rp W (by omega))
        have HWm := Lib.hid (fun W => rWrite_any rn rb rp W (by omega))
        unfold RetStr at HWn HWm
        generalize mkS (wrJ rn rb (toL rp)) = U at *
        generalize wrE rn (toL rp) = ue at *
        go_wp2_with fail
        refine (HWn.out _).mono ?_
        rintro e w4 ⟨rfl, hb4⟩
        have HL4 := Lib.hid (hbl.out.trans (hb4.mono hbl.out.size))
        have cs0 : w4.cell? ⟨w.heap.size, 0, none⟩ = some (.int .i64 rn) := (HBKA.out.below HL4.out hgw).cell 0
        have cs1 : w4.cell? ⟨w.heap.size, 1, none⟩ = some (.int .u64 rb.toNat) := (HBKA.out.below HL4.out hgw).cell 1
        have cs2 : w4.cell? ⟨w.heap.size, 2, none⟩ = some (.string rp) := (HBKA.out.below HL4.out hgw).cell 2
        clear hb4 cr0 cr1 cr2
        go_wp2_with fail
        refine (HWm.out _).mono ?_
        rintro e w5 ⟨rfl, hb5⟩
        have HL5 := Lib.hid (HL4.out.trans (hb5.mono HL4.out.size))
        go_wp2_with fail
        go_ret
        exact ⟨rfl, HB0.out.trans ((HBA.out.trans (HL5.out.mono hzw2)).mono (Nat.le_of_lt hW0))⟩
  · have q : decide ((0 : Int) < (J : Int)) = true := by simp; omega
    go_wp2_with fail
    refine (mod_any at_ J _ (by omega) (by omega)).mono ?_
    rintro e w3 ⟨⟨k, rfl, hkJ⟩, rfl⟩
    replace hkJ : k < J := by omega
    obtain ⟨x0, hx0⟩ : ∃ x0, (toL S)[k]? = some x0 := ⟨_, List.getElem?_eq_getElem (by rw [toL_len, hsz]; exact hkJ)⟩
    obtain ⟨ck, fk⟩ := hcell k _ hx0
    have hxv : bits .xor .u8 (x0.toNat : Int) (V : Int) = ((x0 ^^^ UInt8.ofNat V).toNat : Int) := by
      rw [u8_xor_nat _ _ (UInt8.toNat_lt _) (by omega), UInt8.toNat_xor]
      simp
      rw [Nat.mod_eq_of_lt (by omega)]
    have HSE0 := Lib.hid (Sl.set_byte (W := W3) (H := w2.heap.size) (k := k) (x := x0 ^^^ UInt8.ofNat V) (toL_len S) (by rw [hsz]; exact hcb) hcm2 (fun i y hy => (hcell i y hy).1))
    rw [hsz] at HSE0
    obtain ⟨L, hL, HSE⟩ : ∃ L : List UInt8, L.length = J ∧ Hid (Sl (W3.setCell ⟨w2.heap.size, k, none⟩ (.int .u8 (x0 ^^^ UInt8.ofNat V).toNat)) (w2.heap.size + 1) 1 (some ⟨w2.heap.size, 0, none⟩) J cb (bytesV L)) := ⟨_, by rw [List.length_set, toL_len, hsz], HSE0⟩
    have hkc : (k : Int) < (J : Int) := by omega
    clear hcell HSE0
    generalize x0 ^^^ UInt8.ofNat V = x at *
    go_wp2_with fail
    clear hcv
    have hzw : w2.heap.size + 1 ≤ (W3.setCell ⟨w2.heap.size, k, none⟩ (.int .u8 x.toNat)).heap.size := by simp; omega
    have HBW := Lib.hid (HB3.out.setCell (p := ⟨w2.heap.size, k, none⟩) hz2 (.int .u8 x.toNat))
    generalize W3.setCell ⟨w2.heap.size, k, none⟩ (.int .u8 x.toNat) = WW at *
    clear HB2 hcv' hb3 HB3 hz3 HS HSL hs3 hJ0 q ck fk hxv hx0
    have hcat2 : ¬ (9223372036854775807 < J + raw.size) := by omega
    have hcat3 : ¬ (9223372036854775807 < J + J) := by omega
    have hw64 : IntKind.i64.wrap ((J : Int) + 1) = (J : Int) + 1 := IntWalk.i64_in _ (by omega)
    have hw64' : (1 : Int) ≤ (J : Int) + 1 := by omega
    refine wp_region_J (S := (fun w1 => Sl w1 (w2.heap.size + 1) 1 (some ⟨w2.heap.size, 0, none⟩) J cb (bytesV L) ∧ w2.heap.size + 1 ≤ w1.heap.size)) (J := []) (by kernel_rfl) ?_ (fun hHeld => ?_)
    · exact ⟨HSE.out, hzw⟩
    try dsimp only at hHeld
    refine wpAnyJ_take (i := 0) (d := some 72) (v := ?_) rfl rfl (by kernel_rfl) (by kernel_rfl) (by kernel_rfl) (by kernel_rfl) (by kernel_rfl) (fun _ _ _ h => h) (Or.inl ⟨by rfl, ?_⟩) hHeld ?_
    rotate_left
    · (intro w hSw; (try dsimp only at hSw); go_simp; try with_reducible rfl)
    try simp only [Act.put, List.setIfInBounds_toArray, List.set_cons_zero, List.set_cons_succ]
    refine wpAnyJ_take (i := 1) (d := some 73) (v := ?_) rfl rfl (by kernel_rfl) (by kernel_rfl) (by kernel_rfl) (by kernel_rfl) (by kernel_rfl) (fun _ _ _ h => h) (Or.inl ⟨by rfl, ?_⟩) hHeld ?_
    rotate_left
    · (intro w hSw; (try dsimp only at hSw); go_simp; try with_reducible rfl)
    try simp only [Act.put, List.setIfInBounds_toArray, List.set_cons_zero, List.set_cons_succ]
    refine wpAnyJ_take (i := 3) (d := some 75) (v := ?_) rfl rfl (by kernel_rfl) (by kernel_rfl) (by kernel_rfl) (by kernel_rfl) (by kernel_rfl) (fun _ _ _ h => h) (Or.inl ⟨by rfl, ?_⟩) hHeld ?_
    rotate_left
    · (intro w hSw; (try dsimp only at hSw); go_simp; try with_reducible rfl)
    try simp only [Act.put, List.setIfInBounds_toArray, List.set_cons_zero, List.set_cons_succ]
    refine wpAnyJ_take (i := 4) (d := some 76) (v := ?_) rfl rfl (by kernel_rfl) (by kernel_rfl) (by kernel_rfl) (by kernel_rfl) (by kernel_rfl) (fun _ _ _ h => h) (Or.inl ⟨by rfl, ?_⟩) hHeld ?_
    rotate_left
    · (intro w hSw; (try dsimp only at hSw); go_simp; try with_reducible rfl)
    try simp only [Act.put, List.setIfInBounds_toArray, List.set_cons_zero, List.set_cons_succ]
    refine wpAnyJ_take (i := 5) (d := some 77) (v := ?_) rfl rfl (by kernel_rfl) (by kernel_rfl) (by kernel_rfl) (by kernel_rfl) (by kernel_rfl) (fun _ _ _ h => h) (Or.inl ⟨by rfl, ?_⟩) hHeld ?_
    rotate_left
    · (intro w hSw; (try dsimp only at hSw); go_simp; try with_reducible rfl)
    try simp only [Act.put, List.setIfInBounds_toArray, List.set_cons_zero, List.set_cons_succ]
    refine wpAnyJ_take (i := 6) (d := some 78) (v := ?_) rfl rfl (by kernel_rfl) (by kernel_rfl) (by kernel_rfl) (by kernel_rfl) (by kernel_rfl) (fun _ _ _ h => h) (Or.inl ⟨by rfl, ?_⟩) hHeld ?_
    rotate_left
    · (intro w hSw; (try dsimp only at hSw); go_simp; try with_reducible rfl)
    try simp only [Act.put, List.setIfInBounds_toArray, List.set_cons_zero, List.set_cons_succ]
    refine wpAnyJ_take (i := 7) (d := some 79) (v := ?_) rfl rfl (by kernel_rfl) (by kernel_rfl) (by kernel_rfl) (by kernel_rfl) (by kernel_rfl) (fun _ _ _ h => h) (Or.inl ⟨by rfl, ?_⟩) hHeld ?_
    rotate_left
    · (intro w hSw; (try dsimp only at hSw); go_simp; try with_reducible rfl)
    try simp only [Act.put, List.setIfInBounds_toArray, List.set_cons_zero, List.set_cons_succ]
    refine wpAnyJ_take (i := 10) (d := some 82) (v := ?_) rfl rfl (by kernel_rfl) (by kernel_rfl) (by kernel_rfl) (by kernel_rfl) (by kernel_rfl) (fun _ _ _ h => h) (Or.inl ⟨by rfl, ?_⟩) hHeld ?_
    rotate_left
    · (intro w hSw; (try dsimp only at hSw); go_simp; try with_reducible rfl)
    try simp only [Act.put, List.setIfInBounds_toArray, List.set_cons_zero, List.set_cons_succ]
    refine wpAnyJ_take (i := 11) (d := some 83) (v := ?_) rfl rfl (by kernel_rfl) (by kernel_rfl) (by kernel_rfl) (by kernel_rfl) (by kernel_rfl) (fun _ _ _ h => h) (Or.inl ⟨by rfl, ?_⟩) hHeld ?_
    rotate_left
    · (intro w hSw; (try dsimp only at hSw); go_simp; try with_reducible rfl)
    try simp only [Act.put, List.setIfInBounds_toArray, List.set_cons_zero, List.set_cons_succ]
    refine wpAnyJ_take (i := 12) (d := some 84) (v := ?_) rfl rfl (by kernel_rfl) (by kernel_rfl) (by kernel_rfl) (by kernel_rfl) (by kernel_rfl) (fun _ _ _ h => h) (Or.inl ⟨by rfl, ?_⟩) hHeld ?_
    rotate_left
    · (intro w hSw; (try dsimp only at hSw); go_simp; try with_reducible rfl)
    try simp only [Act.put, List.setIfInBounds_toArray, List.set_cons_zero, List.set_cons_succ]
    refine wpAnyJ_take (i := 13) (d := some 85) (v := ?_) rfl rfl (by kernel_rfl) (by kernel_rfl) (by kernel_rfl) (by kernel_rfl) (by kernel_rfl) (fun _ _ _ h => h) (Or.inl ⟨by rfl, ?_⟩) hHeld ?_
    rotate_left
    · (intro w hSw; (try dsimp only at hSw); go_simp; try with_reducible rfl)
    try simp only [Act.put, List.setIfInBounds_toArray, List.set_cons_zero, List.set_cons_succ]
    refine wpAnyJ_take (i := 14) (d := some 86) (v := ?_) rfl rfl (by kernel_rfl) (by kernel_rfl) (by kernel_rfl) (by kernel_rfl) (by kernel_rfl) (fun _ _ _ h => h) (Or.inl ⟨by rfl, ?_⟩) hHeld ?_
    rotate_left
    · (intro w hSw; (try dsimp only at hSw); go_simp; try with_reducible rfl)
    try simp only [Act.put, List.setIfInBounds_toArray, List.set_cons_zero, List.set_cons_succ]
    refine wpAnyJ_take (i := 15) (d := some 87) (v := ?_) rfl rfl (by kernel_rfl) (by kernel_rfl) (by kernel_rfl) (by kernel_rfl) (by kernel_rfl) (fun _ _ _ h => h) (Or.inl ⟨by rfl, ?_⟩) hHeld ?_
    rotate_left
    · (intro w hSw; (try dsimp only at hSw); go_simp; try with_reducible rfl)
    try simp only [Act.put, List.setIfInBounds_toArray, List.set_cons_zero, List.set_cons_succ]
    refine wpAnyJ_take (i := 16) (d := some 88) (v := ?_) rfl rfl (by kernel_rfl) (by kernel_rfl) (by kernel_rfl) (by kernel_rfl) (by kernel_rfl) (fun _ _ _ h => h) (Or.inl ⟨by rfl, ?_⟩) hHeld ?_
    rotate_left
    · (intro w hSw; (try dsimp only at hSw); go_simp; try with_reducible rfl)
    try simp only [Act.put, List.setIfInBounds_toArray, List.set_cons_zero, List.set_cons_succ]
    refine wpAnyJ_take (i := 19) (d := some 91) (v := ?_) rfl rfl (by kernel_rfl) (by kernel_rfl) (by kernel_rfl) (by kernel_rfl) (by kernel_rfl) (fun _ _ _ h => h) (Or.inl ⟨by rfl, ?_⟩) hHeld ?_
    rotate_left
    · (intro w hSw; (try dsimp only at hSw); go_simp; try with_reducible rfl)
    try simp only [Act.put, List.setIfInBounds_toArray, List.set_cons_zero, List.set_cons_succ]
    refine wpAnyJ_take (i := 2) (d := some 74) (v := ?_) rfl rfl (by kernel_rfl) (by kernel_rfl) (by kernel_rfl) (by kernel_rfl) (by kernel_rfl) (fun _ _ _ h => h) (Or.inl ⟨by rfl, ?_⟩) hHeld ?_
    rotate_left
    · (intro w hSw; have hcx := run_string_of (P := Try.prog) Try.underlying31 Try.underlying5 Try.underlying9 hSw.1; clear hSw; go_simp; try with_reducible rfl)
    try simp only [Act.put, List.setIfInBounds_toArray, List.set_cons_zero, List.set_cons_succ]
    refine wpAnyJ_one (k := 8) (by kernel_rfl) rfl (fun K hK => ?_)
    go_simp
    refine (mod_any at_ ((J : Int) + 1) _ (by omega) (by omega)).mono ?_
    rintro e wm ⟨⟨k2, rfl, hk2⟩, rfl⟩
    replace hk2 : k2 ≤ J := by omega
    have hx2 : S.extract 0 k2 = mkS ((toL S).take k2) := by rw [extract_mk, List.drop_zero, Nat.sub_zero]
    have hk2' : (k2 : Int) ≤ (J : Int) := by omega
    try go_simp
    refine hK.out _ _ (fun _ => ?_) (fun hHeld' => ?_)
    · exact hHeld
    replace hHeld := hHeld' rfl
    clear hHeld'
    try dsimp only at hHeld
    clear hK K
    try simp only [Act.put, List.setIfInBounds_toArray, List.set_cons_zero, List.set_cons_succ]
    refine wpAnyJ_take (i := 9) (d := some 81) (v := ?_) rfl rfl (by kernel_rfl) (by kernel_rfl) (by kernel_rfl) (by kernel_rfl) (by kernel_rfl) (fun _ _ _ h => h) (Or.inl ⟨by rfl, ?_⟩) hHeld ?_
    rotate_left
    · (intro w hSw; (try dsimp only at hSw); go_simp; try with_reducible rfl)
    try simp only [Act.put, List.setIfInBounds_toArray, List.set_cons_zero, List.set_cons_succ]
    refine wpAnyJ_one (k := 17) (by kernel_rfl) rfl (fun K hK => ?_)
    go_simp
    refine hK.out _ _ (fun _ => ?_) (fun hHeld' => ?_)
    · exact ⟨hHeld.1.alloc hHeld.2 _, by simp; omega⟩
    replace hHeld := hHeld' rfl
    clear hHeld'
    try dsimp only at hHeld
    clear hK K
    try simp only [Act.put, List.setIfInBounds_toArray, List.set_cons_zero, List.set_cons_succ]
    refine wpAnyJ_take (i := 18) (d := some 90) (v := ?_) rfl rfl (by kernel_rfl) (by kernel_rfl) (by kernel_rfl) (by kernel_rfl) (by kernel_rfl) (fun _ _ _ h => h) (Or.inl ⟨by rfl, ?_⟩) hHeld ?_
    rotate_left
    · (intro w hSw; (try dsimp only at hSw); go_simp; try with_reducible rfl)
    try simp only [Act.put, List.setIfInBounds_toArray, List.set_cons_zero, List.set_cons_succ]
    refine wpAnyJ_done (by kernel_rfl) ?_ _
    clear hw64 hw64'
    clear hHeld hx2 hk2'
    have z0 : S.size ≤ 20000 := by omega
    have z1 : (mkS L).size ≤ 20000 := by rw [size_mk, hL]; omega
    have z2 : (mkS ((toL S).take k2)).size ≤ 20000 := by rw [size_mk, List.length_take, toL_len, hsz]; omega
    have z3 : (S ++ raw).size ≤ 20000 := by rw [← toL_len, toL_append, List.length_append, toL_len, toL_len, hsz]; omega
    have z5 : (S ++ S).size ≤ 20000 := by rw [← toL_len, toL_append, List.length_append, toL_len, hsz]; omega
    generalize mkS L = s1 at *
    generalize mkS ((toL S).take k2) = s2 at *
    generalize S ++ raw = s3 at *
    generalize S ++ S = s5 at *
    have hS4 : Sl ((WW.alloc (.cells #[.string S, .string s1, .string s2, .string s3, .string raw, .string s5] 9)).drew) (WW.heap.size + 1) 1 (some ⟨WW.heap.size, 0, none⟩) 6 6 ([S, s1, s2, s3, raw, s5].flatMap fun s => [Value.string s]) := Sl.drew (Sl.newest (n := 6) rfl rfl (by decide))
    have hSz : ∀ s ∈ [S, s1, s2, s3, raw, s5], s.size ≤ 20000 := by
      intro s hs
      simp at hs
      rcases hs with rfl | rfl | rfl | rfl | rfl | rfl <;> omega
    have hBA : Below W0.heap.size W0 ((WW.alloc (.cells #[.string S, .string s1, .string s2, .string s3, .string raw, .string s5] 9)).drew) := (HBW.out.alloc (by omega) _).drew
    have hzA : WW.heap.size + 1 ≤ ((WW.alloc (.cells #[.string S, .string s1, .string s2, .string s3, .string raw, .string s5] 9)).drew).heap.size := by simp
    generalize ((WW.alloc (.cells #[.string S, .string s1, .string s2, .string s3, .string raw, .string s5] 9)).drew) = WA at *
    generalize WW.heap.size = BB at *
    have HS4 := Lib.hid hS4; have HBA := Lib.hid hBA; have HSz := Lib.hid hSz
    have hzw2 : W0.heap.size ≤ WA.heap.size := hBA.size
    have hgw : w.heap.size < WA.heap.size := by omega
    have HBKA := Lib.hid (HBK.out.below hBA hW0)
    clear hS4 hBA hSz z0 z1 z2 z3 z5 HSE HBW hcat2 hcat3 HBK hsz
    go_wp2_with fail
    go_loopw [91] (fun i wr => ∃ (i' : Nat), i = .int .i64 i' ∧ i' ≤ 6 ∧ Hid (Below WA.heap.size WA wr)) (fun i _ => 6 - (intOf i).toNat)
    case atStart => exact ⟨0, rfl, Nat.zero_le _, Below.refl _ _⟩
    case round =>
      obtain ⟨i, rfl, hi, hbl⟩ := hrel
      have hsb := hbl.out.size
      by_cases hlt : i < 6
      · obtain ⟨bb, off, s, e1, _, hs, hc⟩ := (HS4.out.below hbl.out hzA).at1 hlt
        injection e1 with e1
        injection e1 with e1 e2 _
        subst e1 e2
        rw [Nat.zero_add] at hc
        have hs2 := HSz.out s (List.mem_of_getElem? hs)
        clear hs
        have hrl := readJ_len (toL s)
        have hpl : (paysJ (toL s)).length = (readJ (toL s)).recs.length := by rw [paysJ, List.length_map]
        have HRd := Lib.hid (fun W => Read_any s W (by omega))
        have HRr := Lib.hid (fun W => rread_any s W (by omega))
        have HAp := Lib.hid (fun W => Append_any s rp W (by omega) (by omega))
        have HAr := Lib.hid (fun W => rappend_any s rp W (by omega) (by omega))
        have HWh := Lib.hid (fun W => Whole_any s W (by omega))
        have HWr := Lib.hid (fun W => rWhole_any s W (by omega))
        have HPa := Lib.hid (fun W => Payloads_any s W (by omega))
        have HPr := Lib.hid (fun W => rPayloads_any s W (by omega))
        have HSu := Lib.hid (fun W => sum_any s W (by omega))
        have HSr := Lib.hid (fun W => rsum_any s W (by omega))
        unfold RetRead3 at HRd HRr
        unfold RetStr at HAp HAr
        unfold RetStrs at HPa HPr
        generalize readJ (toL s) = R at *
        generalize paysJ (toL s) = Py at *
        generalize mkS (appJ (toL s) (toL rp)) = U at *
        generalize appE (toL s) (toL rp) = ue at *
        generalize mkS (wholeJ (toL s)) = Wl at *
        generalize (sumJ (toL s)).toNat = sm at *
        obtain ⟨rs, sz, su, er⟩ := R
        simp only at *
        obtain ⟨m, hm⟩ : ∃ m, rs.length = m := ⟨_, rfl⟩
        have HM := Lib.hid hm; clear hm
        simp only [HM.out] at HRd HRr hrl hpl
        have HPL := Lib.hid hpl; clear hpl
        simp only [HPL.out] at HPa HPr
        go_wp2_with fail
        refine (HRd.out _).mono ?_
        rintro e w4 ⟨A4, c4, rfl, ho4, hb4⟩
        have HO4 := Lib.hid (Sl.of_own ho4)
        have HL4 := Lib.hid (hbl.out.trans (hb4.mono hbl.out.size))
        clear ho4 hb4
        go_wp2_with fail
        refine (HRr.out _).mono ?_
        rintro e w5 ⟨A5, c5, rfl, ho5, hb5⟩
        have HO5 := Lib.hid (Sl.of_own ho5)
        replace HO4 := Lib.hid (HO4.out.below hb5 (Nat.le_refl _))
        have hz45 := hb5.size
        have HL5 := Lib.hid (HL4.out.trans (hb5.mono HL4.out.size))
        have cp5 : w5.cell? ⟨w.heap.size, 2, none⟩ = some (.string rp) := (HBKA.out.below HL5.out hgw).cell 2
        clear ho5 hb5
        go_wp2_with fail
        refine (HAp.out _).mono ?_
        rintro e w6 ⟨rfl, hb6⟩
        replace HO4 := Lib.hid (HO4.out.below hb6 hz45)
        replace HO5 := Lib.hid (HO5.out.below hb6 (Nat.le_refl _))
        have hz56 := hb6.size
        have HL6 := Lib.hid (HL5.out.trans (hb6.mono HL5.out.size))
        have cp6 : w6.cell? ⟨w.heap.size, 2, none⟩ = some (.string rp) := (HBKA.out.below HL6.out hgw).cell 2
        clear hb6 cp5
        go_wp2_with fail
        refine (HAr.out _).mono ?_
        rintro e w7 ⟨rfl, hb7⟩
        replace HO4 := Lib.hid (HO4.out.below hb7 (by omega))
        replace HO5 := Lib.hid (HO5.out.below hb7 (by omega))
        have hz67 := hb7.size
        have HL7 := Lib.hid (HL6.out.trans (hb7.mono HL6.out.size))
        clear hb7 cp6
        go_wp2_with fail
        refine (Same_any A4 A5 m c4 c5 w4.heap.size w5.heap.size rs _ HO4.out HO5.out (by omega) (by omega) (by omega)).mono ?_
        rintro e w8 ⟨rfl, hb8⟩
        have HL8 := Lib.hid (HL7.out.trans (hb8.mono HL7.out.size))
        clear hb8 HO4 HO5
        go_wp2_with fail
        refine (HWh.out _).mono ?_
        rintro e w9 ⟨rfl, hb9⟩
        have HL9 := Lib.hid (HL8.out.trans (hb9.mono HL8.out.size))
        clear hb9
        go_wp2_with fail
        refine (HWr.out _).mono ?_
        rintro e w10 ⟨rfl, hb10⟩
        have HL10 := Lib.hid (HL9.out.trans (hb10.mono HL9.out.size))
        clear hb10
        go_wp2_with fail
        refine (HPa.out _).mono ?_
        rintro e w11 ⟨A11, c11, rfl, ho11, hb11⟩
        have HO11 := Lib.hid (Sl.of_own ho11)
        have HL11 := Lib.hid (HL10.out.trans (hb11.mono HL10.out.size))
        clear ho11 hb11
        go_wp2_with fail
        refine (HPr.out _).mono ?_
        rintro e w12 ⟨A12, c12, rfl, ho12, hb12⟩
        have HO12 := Lib.hid (Sl.of_own ho12)
        replace HO11 := Lib.hid (HO11.out.below hb12 (Nat.le_refl _))
        have hz1112 := hb12.size
        have HL12 := Lib.hid (HL11.out.trans (hb12.mono HL11.out.size))
        clear ho12 hb12
        go_wp2_with fail
        refine (SameTexts_any A11 A12 m c11 c12 w11.heap.size w12.heap.size Py _ HO11.out HO12.out (by omega) (by omega) (Nat.le_refl _)).mono ?_
        rintro e w13 ⟨rfl, hb13⟩
        have HL13 := Lib.hid (HL12.out.trans (hb13.mono HL12.out.size))
        clear hb13 HO11 HO12
        go_wp2_with fail
        refine (HSu.out _).mono ?_
        rintro e w14 ⟨rfl, rfl⟩
        go_wp2_with fail
        refine (HSr.out _).mono ?_
        rintro e w14 ⟨rfl, rfl⟩
        go_wp2_with fail
        go_roundw
        case rel => exact ⟨i + 1, by go_num, by omega, HL13⟩
        case measure => simp [intOf]; omega
      · obtain rfl : i = 6 := by omega
        have cr0 : wr.cell? ⟨w.heap.size, 0, none⟩ = some (.int .i64 rn) := (HBKA.out.below hbl.out hgw).cell 0
        have cr1 : wr.cell? ⟨w.heap.size, 1, none⟩ = some (.int .u64 rb.toNat) := (HBKA.out.below hbl.out hgw).cell 1
        have cr2 : wr.cell? ⟨w.heap.size, 2, none⟩ = some (.string rp) := (HBKA.out.below hbl.out hgw).cell 2
        have HWn := Lib.hid (fun W => Write_any rn rb rp W (by omega))
        have HWm := Lib.hid (fun W => rWrite_any rn rb rp W (by omega))
        unfold RetStr at HWn HWm
        generalize mkS (wrJ rn rb (toL rp)) = U at *
        generalize wrE rn (toL rp) = ue at *
        go_wp2_with fail
        refine (HWn.out _).mono ?_
        rintro e w4 ⟨rfl, hb4⟩
        have HL4 := Lib.hid (hbl.out.trans (hb4.mono hbl.out.size))
        have cs0 : w4.cell? ⟨w.heap.size, 0, none⟩ = some (.int .i64 rn) := (HBKA.out.below HL4.out hgw).cell 0
        have cs1 : w4.cell? ⟨w.heap.size, 1, none⟩ = some (.int .u64 rb.toNat) := (HBKA.out.below HL4.out hgw).cell 1
        have cs2 : w4.cell? ⟨w.heap.size, 2, none⟩ = some (.string rp) := (HBKA.out.below HL4.out hgw).cell 2
        clear hb4 cr0 cr1 cr2
        go_wp2_with fail
        refine (HWm.out _).mono ?_
        rintro e w5 ⟨rfl, hb5⟩
        have HL5 := Lib.hid (HL4.out.trans (hb5.mono HL4.out.size))
        go_wp2_with fail
        go_ret
        exact ⟨rfl, HB0.out.trans ((HBA.out.trans (HL5.out.mono hzw2)).mono (Nat.le_of_lt hW0))⟩
end Go.Proofs.Ytmcedodejnnkmaa
