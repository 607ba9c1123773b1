/-
  Walk of JournalWhole.
-/
import Derived.Test.YtmcedodejnnkmaaJourWp
import Derived.Test.YtmcedodejnnkmaaJourTo
namespace Go.Proofs.Ytmcedodejnnkmaa
open Go.RowKit

set_option maxRecDepth 100000 in
set_option maxHeartbeats 4000000 in
theorem walk_JournalWhole (w : World) (A : Option Addr) (n c : Nat) (z : List Int) (hz : Sl w w.heap.size 1 A n c (intsV z)) (_ : ∀ x ∈ z, (Lit.int .i64 x).wf = true) (raw : ByteArray) (hraw : raw.size ≤ maxLen) (at_ : Int) (_ : (Lit.int .i64 at_).wf = true) (by_ : Int) (wb : (Lit.int .u8 by_).wf = true) :
    Calls Try.prog 6 #[.slice A n c, .string raw, .int .i64 at_, .int .u8 by_] w fun e w' => e = .returned (.bool true) ∧ Below w.heap.size w w' := by
  obtain ⟨hnc, hcm⟩ := hz.le
  have HZ := Lib.hid hz; clear hz
  replace hraw : raw.size ≤ 9223372036854775807 := hraw
  obtain ⟨hv0, hv1⟩ := bounds_u8 wb
  clear wb
  obtain ⟨V, rfl⟩ := Int.eq_ofNat_of_zero_le hv0
  go_enter Try.func6, Try.ntmps6
  go_wp2_with fail
  refine (awake_any _).mono ?_
  rintro e w0 ⟨rfl, hb0⟩
  go_wp2_with fail
  refine (few_any A n c _ (by omega)).mono ?_
  rintro e w1 ⟨rfl, rfl⟩
  by_cases hf : n ≤ 400; rotate_left
  · have hf' : decide (n ≤ 400) = false := by simpa using hf
    clear hf
    go_wp2_with fail
    refine (awake_any _).mono ?_
    rintro e w1 ⟨rfl, hb1⟩
    go_wp2_with fail
    go_ret
    exact ⟨rfl, hb0.trans (hb1.mono hb0.size)⟩
  have hf' : decide (n ≤ 400) = true := by simpa using hf
  by_cases hrw : 400 < raw.size
  · have hr' : decide ((400 : Int) < (raw.size : Int)) = true := by simp; omega
    go_wp2_with fail
    refine (awake_any _).mono ?_
    rintro e w1 ⟨rfl, hb1⟩
    go_wp2_with fail
    go_ret
    exact ⟨rfl, hb0.trans (hb1.mono hb0.size)⟩
  have hr' : decide ((400 : Int) < (raw.size : Int)) = false := by simp; omega
  replace hrw : raw.size ≤ 400 := by omega
  clear hraw
  go_wp2_with fail
  refine (new_any A n c w.heap.size z _ (HZ.out.below hb0 (Nat.le_refl _)) hb0.size).mono ?_
  rintro e w1 ⟨rfl, hd1, hb1, hs1⟩
  go_wp2_with fail
  refine (made_any w0.heap.size 5 w1 hd1.out (by decide)).mono ?_
  rintro e w2 ⟨ps, Ap, cp, rfl, hn5, hsh, hown, hd2, hg2⟩
  have hb2 : Below w.heap.size w w2 := (hb0.trans (hb1.out.mono hb0.size)).trans (below_of_grown hg2.out hb0.size (Nat.le_trans hb0.size hb1.out.size))
  have HB2 := Lib.hid hb2
  have hjl := hsh.out.len
  have HSL := Lib.hid (Sl.of_own hown.out)
  have hz2 := hb2.size
  obtain ⟨hc1, hc2⟩ := HSL.out.le
  obtain ⟨J, hJ⟩ : ∃ J, (chain 0 0#64 ps).length = J := ⟨_, rfl⟩
  have HJ := Lib.hid hJ
  have hsz : (mkS (chain 0 0#64 ps)).size = J := by rw [size_mk, hJ]
  clear hb2 hown hd2 hg2 hd1 hb1 hs1
  generalize hS : mkS (chain 0 0#64 ps) = S at *
  have HS := Lib.hid hS; clear hS
  obtain ⟨N, hN⟩ : ∃ N, ps.length = N := ⟨_, rfl⟩
  rw [hN] at hn5 hjl HSL hc1 ⊢
  rw [hJ] at hjl
  have HN := Lib.hid hN; clear hN hJ
  obtain ⟨cb, W3, hcv, hcb, hcm2, hb3, hs3, hcell⟩ := run_bytes_ex w2 S (by omega)
  have hcv' := hcv
  rw [hsz] at hcv hcb
  have HB3 := Lib.hid (HB2.out.trans (hb3.mono hz2))
  have hz3 : w2.heap.size + 1 ≤ W3.heap.size := by omega
  have hcat : S.size + raw.size ≤ 9223372036854775807 := by rw [hsz]; omega
  by_cases hJ0 : J = 0
  · have q : decide ((0 : Int) < (J : Int)) = false := by simp; omega
    obtain ⟨L, hL, HSE⟩ : ∃ L : List UInt8, L.length = J ∧ Hid (Sl W3 (w2.heap.size + 1) 1 (some ⟨w2.heap.size, 0, none⟩) J cb (bytesV L)) := ⟨[], by simp [hJ0], by unfold Hid; rw [hJ0]; exact ⟨rfl, Nat.zero_le _, hcm2, (fun e => by cases e), fun h => absurd h (by omega)⟩⟩
    have HJ0 := Lib.hid hJ0
    clear hcell hJ0 q
    go_wp2_with fail
    · exfalso; have := HJ0.out; omega
    clear hcv HJ0
    have hzw : w2.heap.size + 1 ≤ W3.heap.size := hz3
    have HBW := HB3
    generalize W3 = WW at *
    clear HB2 hcv' hb3 HB3 hz3 HS HSL hs3
    have hcat2 : ¬ (9223372036854775807 < J + raw.size) := by omega
    clear hcat
    have hw64 : IntKind.i64.wrap ((J : Int) + 1) = (J : Int) + 1 := IntWalk.i64_in _ (by omega)
    have hw64' : (1 : Int) ≤ (J : Int) + 1 := by omega
    refine wp_region_J (S := (fun w1 => Sl w1 (w2.heap.size + 1) 1 (some ⟨w2.heap.size, 0, none⟩) J cb (bytesV L) ∧ w2.heap.size + 1 ≤ w1.heap.size)) (J := []) (by kernel_rfl) ?_ (fun hHeld => ?_)
    · exact ⟨HSE.out, hzw⟩
    try dsimp only at hHeld
    refine wpAnyJ_take (i := 0) (d := some 62) (v := ?_) rfl rfl (by kernel_rfl) (by kernel_rfl) (by kernel_rfl) (by kernel_rfl) (by kernel_rfl) (fun _ _ _ h => h) (Or.inl ⟨by rfl, ?_⟩) hHeld ?_
    rotate_left
    · (intro w hSw; (try dsimp only at hSw); go_simp; try with_reducible rfl)
    try simp only [Act.put, List.setIfInBounds_toArray, List.set_cons_zero, List.set_cons_succ]
    refine wpAnyJ_take (i := 2) (d := some 64) (v := ?_) rfl rfl (by kernel_rfl) (by kernel_rfl) (by kernel_rfl) (by kernel_rfl) (by kernel_rfl) (fun _ _ _ h => h) (Or.inl ⟨by rfl, ?_⟩) hHeld ?_
    rotate_left
    · (intro w hSw; (try dsimp only at hSw); go_simp; try with_reducible rfl)
    try simp only [Act.put, List.setIfInBounds_toArray, List.set_cons_zero, List.set_cons_succ]
    refine wpAnyJ_take (i := 3) (d := some 65) (v := ?_) rfl rfl (by kernel_rfl) (by kernel_rfl) (by kernel_rfl) (by kernel_rfl) (by kernel_rfl) (fun _ _ _ h => h) (Or.inl ⟨by rfl, ?_⟩) hHeld ?_
    rotate_left
    · (intro w hSw; (try dsimp only at hSw); go_simp; try with_reducible rfl)
    try simp only [Act.put, List.setIfInBounds_toArray, List.set_cons_zero, List.set_cons_succ]
    refine wpAnyJ_take (i := 4) (d := some 66) (v := ?_) rfl rfl (by kernel_rfl) (by kernel_rfl) (by kernel_rfl) (by kernel_rfl) (by kernel_rfl) (fun _ _ _ h => h) (Or.inl ⟨by rfl, ?_⟩) hHeld ?_
    rotate_left
    · (intro w hSw; (try dsimp only at hSw); go_simp; try with_reducible rfl)
    try simp only [Act.put, List.setIfInBounds_toArray, List.set_cons_zero, List.set_cons_succ]
    refine wpAnyJ_take (i := 5) (d := some 67) (v := ?_) rfl rfl (by kernel_rfl) (by kernel_rfl) (by kernel_rfl) (by kernel_rfl) (by kernel_rfl) (fun _ _ _ h => h) (Or.inl ⟨by rfl, ?_⟩) hHeld ?_
    rotate_left
    · (intro w hSw; (try dsimp only at hSw); go_simp; try with_reducible rfl)
    try simp only [Act.put, List.setIfInBounds_toArray, List.set_cons_zero, List.set_cons_succ]
    refine wpAnyJ_take (i := 6) (d := some 68) (v := ?_) rfl rfl (by kernel_rfl) (by kernel_rfl) (by kernel_rfl) (by kernel_rfl) (by kernel_rfl) (fun _ _ _ h => h) (Or.inl ⟨by rfl, ?_⟩) hHeld ?_
    rotate_left
    · (intro w hSw; (try dsimp only at hSw); go_simp; try with_reducible rfl)
    try simp only [Act.put, List.setIfInBounds_toArray, List.set_cons_zero, List.set_cons_succ]
    refine wpAnyJ_take (i := 7) (d := some 69) (v := ?_) rfl rfl (by kernel_rfl) (by kernel_rfl) (by kernel_rfl) (by kernel_rfl) (by kernel_rfl) (fun _ _ _ h => h) (Or.inl ⟨by rfl, ?_⟩) hHeld ?_
    rotate_left
    · (intro w hSw; (try dsimp only at hSw); go_simp; try with_reducible rfl)
    try simp only [Act.put, List.setIfInBounds_toArray, List.set_cons_zero, List.set_cons_succ]
    refine wpAnyJ_take (i := 8) (d := some 70) (v := ?_) rfl rfl (by kernel_rfl) (by kernel_rfl) (by kernel_rfl) (by kernel_rfl) (by kernel_rfl) (fun _ _ _ h => h) (Or.inl ⟨by rfl, ?_⟩) hHeld ?_
    rotate_left
    · (intro w hSw; (try dsimp only at hSw); go_simp; try with_reducible rfl)
    try simp only [Act.put, List.setIfInBounds_toArray, List.set_cons_zero, List.set_cons_succ]
    refine wpAnyJ_take (i := 9) (d := some 71) (v := ?_) rfl rfl (by kernel_rfl) (by kernel_rfl) (by kernel_rfl) (by kernel_rfl) (by kernel_rfl) (fun _ _ _ h => h) (Or.inl ⟨by rfl, ?_⟩) hHeld ?_
    rotate_left
    · (intro w hSw; (try dsimp only at hSw); go_simp; try with_reducible rfl)
    try simp only [Act.put, List.setIfInBounds_toArray, List.set_cons_zero, List.set_cons_succ]
    refine wpAnyJ_take (i := 10) (d := some 72) (v := ?_) rfl rfl (by kernel_rfl) (by kernel_rfl) (by kernel_rfl) (by kernel_rfl) (by kernel_rfl) (fun _ _ _ h => h) (Or.inl ⟨by rfl, ?_⟩) hHeld ?_
    rotate_left
    · (intro w hSw; (try dsimp only at hSw); go_simp; try with_reducible rfl)
    try simp only [Act.put, List.setIfInBounds_toArray, List.set_cons_zero, List.set_cons_succ]
    refine wpAnyJ_take (i := 15) (d := some 77) (v := ?_) rfl rfl (by kernel_rfl) (by kernel_rfl) (by kernel_rfl) (by kernel_rfl) (by kernel_rfl) (fun _ _ _ h => h) (Or.inl ⟨by rfl, ?_⟩) hHeld ?_
    rotate_left
    · (intro w hSw; (try dsimp only at hSw); go_simp; try with_reducible rfl)
    try simp only [Act.put, List.setIfInBounds_toArray, List.set_cons_zero, List.set_cons_succ]
    refine wpAnyJ_take (i := 1) (d := some 63) (v := ?_) rfl rfl (by kernel_rfl) (by kernel_rfl) (by kernel_rfl) (by kernel_rfl) (by kernel_rfl) (fun _ _ _ h => h) (Or.inl ⟨by rfl, ?_⟩) hHeld ?_
    rotate_left
    · (intro w hSw; have hcx := run_string_of (P := Try.prog) Try.underlying31 Try.underlying5 Try.underlying9 hSw.1; clear hSw; go_simp; try with_reducible rfl)
    try simp only [Act.put, List.setIfInBounds_toArray, List.set_cons_zero, List.set_cons_succ]
    refine wpAnyJ_one (k := 11) (by kernel_rfl) rfl (fun K hK => ?_)
    go_simp
    refine (mod_any at_ ((J : Int) + 1) _ (by omega) (by omega)).mono ?_
    rintro e wm ⟨⟨k2, rfl, hk2⟩, rfl⟩
    replace hk2 : k2 ≤ J := by omega
    have hx2 : S.extract 0 k2 = mkS ((toL S).take k2) := by rw [extract_mk, List.drop_zero, Nat.sub_zero]
    have hk2' : (k2 : Int) ≤ (J : Int) := by omega
    try go_simp
    refine hK.out _ _ (fun _ => ?_) (fun hHeld' => ?_)
    · exact hHeld
    replace hHeld := hHeld' rfl
    clear hHeld'
    try dsimp only at hHeld
    clear hK K
    try simp only [Act.put, List.setIfInBounds_toArray, List.set_cons_zero, List.set_cons_succ]
    refine wpAnyJ_take (i := 12) (d := some 74) (v := ?_) rfl rfl (by kernel_rfl) (by kernel_rfl) (by kernel_rfl) (by kernel_rfl) (by kernel_rfl) (fun _ _ _ h => h) (Or.inl ⟨by rfl, ?_⟩) hHeld ?_
    rotate_left
    · (intro w hSw; (try dsimp only at hSw); go_simp; try with_reducible rfl)
    try simp only [Act.put, List.setIfInBounds_toArray, List.set_cons_zero, List.set_cons_succ]
    refine wpAnyJ_one (k := 13) (by kernel_rfl) rfl (fun K hK => ?_)
    go_simp
    refine hK.out _ _ (fun _ => ?_) (fun hHeld' => ?_)
    · exact ⟨hHeld.1.alloc hHeld.2 _, by simp; omega⟩
    replace hHeld := hHeld' rfl
    clear hHeld'
    try dsimp only at hHeld
    clear hK K
    try simp only [Act.put, List.setIfInBounds_toArray, List.set_cons_zero, List.set_cons_succ]
    refine wpAnyJ_take (i := 14) (d := some 76) (v := ?_) rfl rfl (by kernel_rfl) (by kernel_rfl) (by kernel_rfl) (by kernel_rfl) (by kernel_rfl) (fun _ _ _ h => h) (Or.inl ⟨by rfl, ?_⟩) hHeld ?_
    rotate_left
    · (intro w hSw; (try dsimp only at hSw); go_simp; try with_reducible rfl)
    try simp only [Act.put, List.setIfInBounds_toArray, List.set_cons_zero, List.set_cons_succ]
    refine wpAnyJ_done (by kernel_rfl) ?_ _

    clear hw64 hw64'
    clear hHeld hx2 hk2'
    have z0 : (mkS L).size ≤ 20000 := by rw [size_mk, hL]; omega
    have z1 : (S ++ raw).size ≤ 20000 := by rw [← toL_len, toL_append, List.length_append, toL_len, toL_len, hsz]; omega
    have z3 : (mkS ((toL S).take k2)).size ≤ 20000 := by rw [size_mk, List.length_take, toL_len, hsz]; omega
    generalize mkS L = s0 at *
    generalize S ++ raw = s1 at *
    generalize mkS ((toL S).take k2) = s3 at *
    have hS4 : Sl ((WW.alloc (.cells #[.string s0, .string s1, .string raw, .string s3] 9)).drew) (WW.heap.size + 1) 1 (some ⟨WW.heap.size, 0, none⟩) 4 4 ([s0, s1, raw, s3].flatMap fun s => [Value.string s]) := Sl.drew (Sl.newest (n := 4) rfl rfl (by decide))
    have hSz : ∀ s ∈ [s0, s1, raw, s3], s.size ≤ 20000 := by
      intro s hs
      simp at hs
      rcases hs with rfl | rfl | rfl | rfl <;> omega
    have hBA : Below w.heap.size w ((WW.alloc (.cells #[.string s0, .string s1, .string raw, .string s3] 9)).drew) := (HBW.out.alloc (by omega) _).drew
    have hzA : WW.heap.size + 1 ≤ ((WW.alloc (.cells #[.string s0, .string s1, .string raw, .string s3] 9)).drew).heap.size := by simp
    generalize ((WW.alloc (.cells #[.string s0, .string s1, .string raw, .string s3] 9)).drew) = WA at *
    generalize WW.heap.size = BB at *
    have HS4 := Lib.hid hS4; have HBA := Lib.hid hBA; have HSz := Lib.hid hSz
    have hzw2 : w.heap.size ≤ WA.heap.size := hBA.size
    clear hS4 hBA hSz z0 z1 z3 HSE HBW hcat2
    go_wp2_with fail
    go_loopw [77] (fun i wr => ∃ (i' : Nat), i = .int .i64 i' ∧ i' ≤ 4 ∧ Hid (Below WA.heap.size WA wr)) (fun i _ => 4 - (intOf i).toNat)
    case atStart => exact ⟨0, rfl, Nat.zero_le _, Below.refl _ _⟩
    case round =>
      obtain ⟨i, rfl, hi, hbl⟩ := hrel
      by_cases hlt : i < 4
      · obtain ⟨bb, off, s, e1, _, hs, hc⟩ := (HS4.out.below hbl.out hzA).at1 hlt
        injection e1 with e1
        injection e1 with e1 e2 _
        subst e1 e2
        rw [Nat.zero_add] at hc
        have hs2 := HSz.out s (List.mem_of_getElem? hs)
        have hrw' := read_whole (toL s)
        have hwl := whole_len (toL s)
        have hle := readJ_size (toL s)
        have hrl := readJ_len (toL s)
        rw [toL_len] at hle
        obtain ⟨ha1, ha2, ha3, ha4⟩ := app_whole (toL s) [122] (by rw [toL_len]; exact hs2) (by decide)
        have hex : s.extract 0 (readJ (toL s)).size = mkS (wholeJ (toL s)) := by rw [extract_mk, List.drop_zero, Nat.sub_zero, wholeJ]
        have HWh := Lib.hid (fun W => Whole_any s W (by omega))
        have HRs := Lib.hid (fun W => Read_any s W (by omega))
        have hWz : (mkS (wholeJ (toL s))).size = (readJ (toL s)).size := by rw [size_mk, hwl]
        have hWt : toL (mkS (wholeJ (toL s))) = wholeJ (toL s) := toL_mk _
        generalize mkS (wholeJ (toL s)) = Wl at *
        rw [← hWt] at hrw' ha1 ha2 ha3 ha4
        have HRw := Lib.hid (fun W => Read_any Wl W (by omega))
        have HAp := Lib.hid (fun W => Append_any Wl ⟨#[122]⟩ W (by omega) (by decide))
        simp only [show toL ⟨#[122]⟩ = [122] from rfl, ha1] at HAp
        have hXz : (mkS (appJ (toL Wl) [122])).size ≤ 30000 := by rw [size_mk]; rw [toL_len] at ha2; simp at ha2; omega
        have hXt : toL (mkS (appJ (toL Wl) [122])) = appJ (toL Wl) [122] := toL_mk _
        rw [← hXt] at ha3 ha4
        simp only [hrw'] at HRw
        unfold RetStr at HAp
        generalize mkS (appJ (toL Wl) [122]) = X at *
        have HRx := Lib.hid (fun W => Read_any X W (by omega))
        unfold RetRead3 at HRw HRs HRx
        simp only [ha3, ha4] at HRx
        generalize (readJ (toL X)).size = xs at *
        clear ha1 ha2 ha3 ha4 hrw' hwl hWt hXt hs
        generalize readJ (toL s) = R at *
        obtain ⟨rs, sz, sm, er⟩ := R
        simp only [List.length_append, List.length_singleton] at *
        obtain ⟨m, hm⟩ : ∃ m, rs.length = m := ⟨_, rfl⟩
        have HM := Lib.hid hm; clear hm
        simp only [HM.out] at HRw HRs HRx hrl
        go_wp2_with fail
        refine (HWh.out _).mono ?_
        rintro e w4 ⟨rfl, hb4⟩
        go_wp2_with fail
        refine (HRw.out _).mono ?_
        rintro e w5 ⟨A5, c5, rfl, ho5, hb5⟩
        clear ho5
        go_wp2_with fail
        refine (HRs.out _).mono ?_
        rintro e w6 ⟨A6, c6, rfl, ho6, hb6⟩
        clear ho6
        go_wp2_with fail
        refine (HAp.out _).mono ?_
        rintro e w7 ⟨rfl, hb7⟩
        go_wp2_with fail
        refine (HRx.out _).mono ?_
        rintro e w8 ⟨A8, c8, rfl, ho8, hb8⟩
        obtain ⟨br, offr, r, rfl, _, hr, hcr⟩ := (Sl.of_own ho8).at (k := m) (fun _ => rfl) (by decide) (by omega)
        rw [List.getElem?_append_right (by rw [HM.out]; omega), HM.out, Nat.sub_self] at hr
        simp at hr
        have hcz := hcr 2 (.string (mkS r.payload)) rfl
        rw [← hr] at hcz
        have hcz' : w8.cell? ⟨br, offr + m * 3 + 2, none⟩ = some (.string ⟨#[122]⟩) := hcz
        have hmc : (m : Int) < ((m + 1 : Nat) : Int) := by omega
        have hbb := Lib.hid ((((((hbl.out.trans (hb4.mono hbl.out.size)).trans (hb5.mono (Nat.le_trans hbl.out.size hb4.size)))).trans (hb6.mono (Nat.le_trans hbl.out.size (Nat.le_trans hb4.size hb5.size)))).trans (hb7.mono (Nat.le_trans hbl.out.size (Nat.le_trans hb4.size (Nat.le_trans hb5.size hb6.size))))).trans (hb8.mono (Nat.le_trans hbl.out.size (Nat.le_trans hb4.size (Nat.le_trans hb5.size (Nat.le_trans hb6.size hb7.size))))))
        clear hcr hcz hr ho8 hb4 hb5 hb6 hb7 hb8
        go_wp2_with fail
        go_roundw
        case rel => exact ⟨i + 1, by go_num, by omega, hbb⟩
        case measure => simp [intOf]; omega
      · obtain rfl : i = 4 := by omega
        go_wp2_with fail
        go_ret
        exact ⟨rfl, HBA.out.trans (hbl.out.mono hzw2)⟩
  · have q : decide ((0 : Int) < (J : Int)) = true := by simp; omega
    go_wp2_with fail
    refine (mod_any at_ J _ (by omega) (by omega)).mono ?_
    rintro e w3 ⟨⟨k, rfl, hkJ⟩, rfl⟩
    replace hkJ : k < J := by omega
    obtain ⟨x0, hx0⟩ : ∃ x0, (toL S)[k]? = some x0 := ⟨_, List.getElem?_eq_getElem (by rw [toL_len, hsz]; exact hkJ)⟩
    obtain ⟨ck, fk⟩ := hcell k _ hx0
    have hxv : bits .xor .u8 (x0.toNat : Int) (V : Int) = ((x0 ^^^ UInt8.ofNat V).toNat : Int) := by
      rw [u8_xor_nat _ _ (UInt8.toNat_lt _) (by omega), UInt8.toNat_xor]
      simp
      rw [Nat.mod_eq_of_lt (by omega)]
    have HSE0 := Lib.hid (Sl.set_byte (W := W3) (H := w2.heap.size) (k := k) (x := x0 ^^^ UInt8.ofNat V) (toL_len S) (by rw [hsz]; exact hcb) hcm2 (fun i y hy => (hcell i y hy).1))
    rw [hsz] at HSE0
    obtain ⟨L, hL, HSE⟩ : ∃ L : List UInt8, L.length = J ∧ Hid (Sl (W3.setCell ⟨w2.heap.size, k, none⟩ (.int .u8 (x0 ^^^ UInt8.ofNat V).toNat)) (w2.heap.size + 1) 1 (some ⟨w2.heap.size, 0, none⟩) J cb (bytesV L)) := ⟨_, by rw [List.length_set, toL_len, hsz], HSE0⟩
    have hkc : (k : Int) < (J : Int) := by omega
    clear hcell HSE0
    generalize x0 ^^^ UInt8.ofNat V = x at *
    go_wp2_with fail
    clear hcv
    have hzw : w2.heap.size + 1 ≤ (W3.setCell ⟨w2.heap.size, k, none⟩ (.int .u8 x.toNat)).heap.size := by simp; omega
    have HBW := Lib.hid (HB3.out.setCell (p := ⟨w2.heap.size, k, none⟩) hz2 (.int .u8 x.toNat))
    generalize W3.setCell ⟨w2.heap.size, k, none⟩ (.int .u8 x.toNat) = WW at *
    clear HB2 hcv' hb3 HB3 hz3 HS HSL hs3 hJ0 q ck fk hxv hx0
    have hcat2 : ¬ (9223372036854775807 < J + raw.size) := by omega
    clear hcat
    have hw64 : IntKind.i64.wrap ((J : Int) + 1) = (J : Int) + 1 := IntWalk.i64_in _ (by omega)
    have hw64' : (1 : Int) ≤ (J : Int) + 1 := by omega
    refine wp_region_J (S := (fun w1 => Sl w1 (w2.heap.size + 1) 1 (some ⟨w2.heap.size, 0, none⟩) J cb (bytesV L) ∧ w2.heap.size + 1 ≤ w1.heap.size)) (J := []) (by kernel_rfl) ?_ (fun hHeld => ?_)
    · exact ⟨HSE.out, hzw⟩
    try dsimp only at hHeld
    refine wpAnyJ_take (i := 0) (d := some 62) (v := ?_) rfl rfl (by kernel_rfl) (by kernel_rfl) (by kernel_rfl) (by kernel_rfl) (by kernel_rfl) (fun _ _ _ h => h) (Or.inl ⟨by rfl, ?_⟩) hHeld ?_
    rotate_left
    · (intro w hSw; (try dsimp only at hSw); go_simp; try with_reducible rfl)
    try simp only [Act.put, List.setIfInBounds_toArray, List.set_cons_zero, List.set_cons_succ]
    refine wpAnyJ_take (i := 2) (d := some 64) (v := ?_) rfl rfl (by kernel_rfl) (by kernel_rfl) (by kernel_rfl) (by kernel_rfl) (by kernel_rfl) (fun _ _ _ h => h) (Or.inl ⟨by rfl, ?_⟩) hHeld ?_
    rotate_left
    · (intro w hSw; (try dsimp only at hSw); go_simp; try with_reducible rfl)
    try simp only [Act.put, List.setIfInBounds_toArray, List.set_cons_zero, List.set_cons_succ]
    refine wpAnyJ_take (i := 3) (d := some 65) (v := ?_) rfl rfl (by kernel_rfl) (by kernel_rfl) (by kernel_rfl) (by kernel_rfl) (by kernel_rfl) (fun _ _ _ h => h) (Or.inl ⟨by rfl, ?_⟩) hHeld ?_
    rotate_left
    · (intro w hSw; (try dsimp only at hSw); go_simp; try with_reducible rfl)
    try simp only [Act.put, List.setIfInBounds_toArray, List.set_cons_zero, List.set_cons_succ]
    refine wpAnyJ_take (i := 4) (d := some 66) (v := ?_) rfl rfl (by kernel_rfl) (by kernel_rfl) (by kernel_rfl) (by kernel_rfl) (by kernel_rfl) (fun _ _ _ h => h) (Or.inl ⟨by rfl, ?_⟩) hHeld ?_
    rotate_left
    · (intro w hSw; (try dsimp only at hSw); go_simp; try with_reducible rfl)
    try simp only [Act.put, List.setIfInBounds_toArray, List.set_cons_zero, List.set_cons_succ]
    refine wpAnyJ_take (i := 5) (d := some 67) (v := ?_) rfl rfl (by kernel_rfl) (by kernel_rfl) (by kernel_rfl) (by kernel_rfl) (by kernel_rfl) (fun _ _ _ h => h) (Or.inl ⟨by rfl, ?_⟩) hHeld ?_
    rotate_left
    · (intro w hSw; (try dsimp only at hSw); go_simp; try with_reducible rfl)
    try simp only [Act.put, List.setIfInBounds_toArray, List.set_cons_zero, List.set_cons_succ]
    refine wpAnyJ_take (i := 6) (d := some 68) (v := ?_) rfl rfl (by kernel_rfl) (by kernel_rfl) (by kernel_rfl) (by kernel_rfl) (by kernel_rfl) (fun _ _ _ h => h) (Or.inl ⟨by rfl, ?_⟩) hHeld ?_
    rotate_left
    · (intro w hSw; (try dsimp only at hSw); go_simp; try with_reducible rfl)
    try simp only [Act.put, List.setIfInBounds_toArray, List.set_cons_zero, List.set_cons_succ]
    refine wpAnyJ_take (i := 7) (d := some 69) (v := ?_) rfl rfl (by kernel_rfl) (by kernel_rfl) (by kernel_rfl) (by kernel_rfl) (by kernel_rfl) (fun _ _ _ h => h) (Or.inl ⟨by rfl, ?_⟩) hHeld ?_
    rotate_left
    · (intro w hSw; (try dsimp only at hSw); go_simp; try with_reducible rfl)
    try simp only [Act.put, List.setIfInBounds_toArray, List.set_cons_zero, List.set_cons_succ]
    refine wpAnyJ_take (i := 8) (d := some 70) (v := ?_) rfl rfl (by kernel_rfl) (by kernel_rfl) (by kernel_rfl) (by kernel_rfl) (by kernel_rfl) (fun _ _ _ h => h) (Or.inl ⟨by rfl, ?_⟩) hHeld ?_
    rotate_left
    · (intro w hSw; (try dsimp only at hSw); go_simp; try with_reducible rfl)
    try simp only [Act.put, List.setIfInBounds_toArray, List.set_cons_zero, List.set_cons_succ]
    refine wpAnyJ_take (i := 9) (d := some 71) (v := ?_) rfl rfl (by kernel_rfl) (by kernel_rfl) (by kernel_rfl) (by kernel_rfl) (by kernel_rfl) (fun _ _ _ h => h) (Or.inl ⟨by rfl, ?_⟩) hHeld ?_
    rotate_left
    · (intro w hSw; (try dsimp only at hSw); go_simp; try with_reducible rfl)
    try simp only [Act.put, List.setIfInBounds_toArray, List.set_cons_zero, List.set_cons_succ]
    refine wpAnyJ_take (i := 10) (d := some 72) (v := ?_) rfl rfl (by kernel_rfl) (by kernel_rfl) (by kernel_rfl) (by kernel_rfl) (by kernel_rfl) (fun _ _ _ h => h) (Or.inl ⟨by rfl, ?_⟩) hHeld ?_
    rotate_left
    · (intro w hSw; (try dsimp only at hSw); go_simp; try with_reducible rfl)
    try simp only [Act.put, List.setIfInBounds_toArray, List.set_cons_zero, List.set_cons_succ]
    refine wpAnyJ_take (i := 15) (d := some 77) (v := ?_) rfl rfl (by kernel_rfl) (by kernel_rfl) (by kernel_rfl) (by kernel_rfl) (by kernel_rfl) (fun _ _ _ h => h) (Or.inl ⟨by rfl, ?_⟩) hHeld ?_
    rotate_left
    · (intro w hSw; (try dsimp only at hSw); go_simp; try with_reducible rfl)
    try simp only [Act.put, List.setIfInBounds_toArray, List.set_cons_zero, List.set_cons_succ]
    refine wpAnyJ_take (i := 1) (d := some 63) (v := ?_) rfl rfl (by kernel_rfl) (by kernel_rfl) (by kernel_rfl) (by kernel_rfl) (by kernel_rfl) (fun _ _ _ h => h) (Or.inl ⟨by rfl, ?_⟩) hHeld ?_
    rotate_left
    · (intro w hSw; have hcx := run_string_of (P := Try.prog) Try.underlying31 Try.underlying5 Try.underlying9 hSw.1; clear hSw; go_simp; try with_reducible rfl)
    try simp only [Act.put, List.setIfInBounds_toArray, List.set_cons_zero, List.set_cons_succ]
    refine wpAnyJ_one (k := 11) (by kernel_rfl) rfl (fun K hK => ?_)
    go_simp
    refine (mod_any at_ ((J : Int) + 1) _ (by omega) (by omega)).mono ?_
    rintro e wm ⟨⟨k2, rfl, hk2⟩, rfl⟩
    replace hk2 : k2 ≤ J := by omega
    have hx2 : S.extract 0 k2 = mkS ((toL S).take k2) := by rw [extract_mk, List.drop_zero, Nat.sub_zero]
    have hk2' : (k2 : Int) ≤ (J : Int) := by omega
    try go_simp
    refine hK.out _ _ (fun _ => ?_) (fun hHeld' => ?_)
    · exact hHeld
    replace hHeld := hHeld' rfl
    clear hHeld'
    try dsimp only at hHeld
    clear hK K
    try simp only [Act.put, List.setIfInBounds_toArray, List.set_cons_zero, List.set_cons_succ]
    refine wpAnyJ_take (i := 12) (d := some 74) (v := ?_) rfl rfl (by kernel_rfl) (by kernel_rfl) (by kernel_rfl) (by kernel_rfl) (by kernel_rfl) (fun _ _ _ h => h) (Or.inl ⟨by rfl, ?_⟩) hHeld ?_
    rotate_left
    · (intro w hSw; (try dsimp only at hSw); go_simp; try with_reducible rfl)
    try simp only [Act.put, List.setIfInBounds_toArray, List.set_cons_zero, List.set_cons_succ]
    refine wpAnyJ_one (k := 13) (by kernel_rfl) rfl (fun K hK => ?_)
    go_simp
    refine hK.out _ _ (fun _ => ?_) (fun hHeld' => ?_)
    · exact ⟨hHeld.1.alloc hHeld.2 _, by simp; omega⟩
    replace hHeld := hHeld' rfl
    clear hHeld'
    try dsimp only at hHeld
    clear hK K
    try simp only [Act.put, List.setIfInBounds_toArray, List.set_cons_zero, List.set_cons_succ]
    refine wpAnyJ_take (i := 14) (d := some 76) (v := ?_) rfl rfl (by kernel_rfl) (by kernel_rfl) (by kernel_rfl) (by kernel_rfl) (by kernel_rfl) (fun _ _ _ h => h) (Or.inl ⟨by rfl, ?_⟩) hHeld ?_
    rotate_left
    · (intro w hSw; (try dsimp only at hSw); go_simp; try with_reducible rfl)
    try simp only [Act.put, List.setIfInBounds_toArray, List.set_cons_zero, List.set_cons_succ]
    refine wpAnyJ_done (by kernel_rfl) ?_ _

    clear hw64 hw64'
    clear hHeld hx2 hk2'
    have z0 : (mkS L).size ≤ 20000 := by rw [size_mk, hL]; omega
    have z1 : (S ++ raw).size ≤ 20000 := by rw [← toL_len, toL_append, List.length_append, toL_len, toL_len, hsz]; omega
    have z3 : (mkS ((toL S).take k2)).size ≤ 20000 := by rw [size_mk, List.length_take, toL_len, hsz]; omega
    generalize mkS L = s0 at *
    generalize S ++ raw = s1 at *
    generalize mkS ((toL S).take k2) = s3 at *
    have hS4 : Sl ((WW.alloc (.cells #[.string s0, .string s1, .string raw, .string s3] 9)).drew) (WW.heap.size + 1) 1 (some ⟨WW.heap.size, 0, none⟩) 4 4 ([s0, s1, raw, s3].flatMap fun s => [Value.string s]) := Sl.drew (Sl.newest (n := 4) rfl rfl (by decide))
    have hSz : ∀ s ∈ [s0, s1, raw, s3], s.size ≤ 20000 := by
      intro s hs
      simp at hs
      rcases hs with rfl | rfl | rfl | rfl <;> omega
    have hBA : Below w.heap.size w ((WW.alloc (.cells #[.string s0, .string s1, .string raw, .string s3] 9)).drew) := (HBW.out.alloc (by omega) _).drew
    have hzA : WW.heap.size + 1 ≤ ((WW.alloc (.cells #[.string s0, .string s1, .string raw, .string s3] 9)).drew).heap.size := by simp
    generalize ((WW.alloc (.cells #[.string s0, .string s1, .string raw, .string s3] 9)).drew) = WA at *
    generalize WW.heap.size = BB at *
    have HS4 := Lib.hid hS4; have HBA := Lib.hid hBA; have HSz := Lib.hid hSz
    have hzw2 : w.heap.size ≤ WA.heap.size := hBA.size
    clear hS4 hBA hSz z0 z1 z3 HSE HBW hcat2
    go_wp2_with fail
    go_loopw [77] (fun i wr => ∃ (i' : Nat), i = .int .i64 i' ∧ i' ≤ 4 ∧ Hid (Below WA.heap.size WA wr)) (fun i _ => 4 - (intOf i).toNat)
    case atStart => exact ⟨0, rfl, Nat.zero_le _, Below.refl _ _⟩
    case round =>
      obtain ⟨i, rfl, hi, hbl⟩ := hrel
      by_cases hlt : i < 4
      · obtain ⟨bb, off, s, e1, _, hs, hc⟩ := (HS4.out.below hbl.out hzA).at1 hlt
        injection e1 with e1
        injection e1 with e1 e2 _
        subst e1 e2
        rw [Nat.zero_add] at hc
        have hs2 := HSz.out s (List.mem_of_getElem? hs)
        have hrw' := read_whole (toL s)
        have hwl := whole_len (toL s)
        have hle := readJ_size (toL s)
        have hrl := readJ_len (toL s)
        rw [toL_len] at hle
        obtain ⟨ha1, ha2, ha3, ha4⟩ := app_whole (toL s) [122] (by rw [toL_len]; exact hs2) (by decide)
        have hex : s.extract 0 (readJ (toL s)).size = mkS (wholeJ (toL s)) := by rw [extract_mk, List.drop_zero, Nat.sub_zero, wholeJ]
        have HWh := Lib.hid (fun W => Whole_any s W (by omega))
        have HRs := Lib.hid (fun W => Read_any s W (by omega))
        have hWz : (mkS (wholeJ (toL s))).size = (readJ (toL s)).size := by rw [size_mk, hwl]
        have hWt : toL (mkS (wholeJ (toL s))) = wholeJ (toL s) := toL_mk _
        generalize mkS (wholeJ (toL s)) = Wl at *
        rw [← hWt] at hrw' ha1 ha2 ha3 ha4
        have HRw := Lib.hid (fun W => Read_any Wl W (by omega))
        have HAp := Lib.hid (fun W => Append_any Wl ⟨#[122]⟩ W (by omega) (by decide))
        simp only [show toL ⟨#[122]⟩ = [122] from rfl, ha1] at HAp
        have hXz : (mkS (appJ (toL Wl) [122])).size ≤ 30000 := by rw [size_mk]; rw [toL_len] at ha2; simp at ha2; omega
        have hXt : toL (mkS (appJ (toL Wl) [122])) = appJ (toL Wl) [122] := toL_mk _
        rw [← hXt] at ha3 ha4
        simp only [hrw'] at HRw
        unfold RetStr at HAp
        generalize mkS (appJ (toL Wl) [122]) = X at *
        have HRx := Lib.hid (fun W => Read_any X W (by omega))
        unfold RetRead3 at HRw HRs HRx
        simp only [ha3, ha4] at HRx
        generalize (readJ (toL X)).size = xs at *
        clear ha1 ha2 ha3 ha4 hrw' hwl hWt hXt hs
        generalize readJ (toL s) = R at *
        obtain ⟨rs, sz, sm, er⟩ := R
        simp only [List.length_append, List.length_singleton] at *
        obtain ⟨m, hm⟩ : ∃ m, rs.length = m := ⟨_, rfl⟩
        have HM := Lib.hid hm; clear hm
        simp only [HM.out] at HRw HRs HRx hrl
        go_wp2_with fail
        refine (HWh.out _).mono ?_
        rintro e w4 ⟨rfl, hb4⟩
        go_wp2_with fail
        refine (HRw.out _).mono ?_
        rintro e w5 ⟨A5, c5, rfl, ho5, hb5⟩
        clear ho5
        go_wp2_with fail
        refine (HRs.out _).mono ?_
        rintro e w6 ⟨A6, c6, rfl, ho6, hb6⟩
        clear ho6
        go_wp2_with fail
        refine (HAp.out _).mono ?_
        rintro e w7 ⟨rfl, hb7⟩
        go_wp2_with fail
        refine (HRx.out _).mono ?_
        rintro e w8 ⟨A8, c8, rfl, ho8, hb8⟩
        obtain ⟨br, offr, r, rfl, _, hr, hcr⟩ := (Sl.of_own ho8).at (k := m) (fun _ => rfl) (by decide) (by omega)
        rw [List.getElem?_append_right (by rw [HM.out]; omega), HM.out, Nat.sub_self] at hr
        simp at hr
        have hcz := hcr 2 (.string (mkS r.payload)) rfl
        rw [← hr] at hcz
        have hcz' : w8.cell? ⟨br, offr + m * 3 + 2, none⟩ = some (.string ⟨#[122]⟩) := hcz
        have hmc : (m : Int) < ((m + 1 : Nat) : Int) := by omega
        have hbb := Lib.hid ((((((hbl.out.trans (hb4.mono hbl.out.size)).trans (hb5.mono (Nat.le_trans hbl.out.size hb4.size)))).trans (hb6.mono (Nat.le_trans hbl.out.size (Nat.le_trans hb4.size hb5.size)))).trans (hb7.mono (Nat.le_trans hbl.out.size (Nat.le_trans hb4.size (Nat.le_trans hb5.size hb6.size))))).trans (hb8.mono (Nat.le_trans hbl.out.size (Nat.le_trans hb4.size (Nat.le_trans hb5.size (Nat.le_trans hb6.size hb7.size))))))
        clear hcr hcz hr ho8 hb4 hb5 hb6 hb7 hb8
        go_wp2_with fail
        go_roundw
        case rel => exact ⟨i + 1, by go_num, by omega, hbb⟩
        case measure => simp [intOf]; omega
      · obtain rfl : i = 4 := by omega
        go_wp2_with fail
        go_ret
        exact ⟨rfl, HBA.out.trans (hbl.out.mono hzw2)⟩
end Go.Proofs.Ytmcedodejnnkmaa
