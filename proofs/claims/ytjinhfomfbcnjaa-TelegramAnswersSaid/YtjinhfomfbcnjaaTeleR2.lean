/-
  Walks of the references of layer 9: Encode, Reports; of the statements' comparison of reports.
-/
import Derived.Test.YtjinhfomfbcnjaaTeleR1
import Derived.Test.YtjinhfomfbcnjaaTeleS
import Derived.Test.YtjinhfomfbcnjaaTeleW4
import Derived.Deep.QuietTactic
import Derived.BigQuiet
namespace Go.Proofs.Ytjinhfomfbcnjaa
open Go.RowKit

theorem own_baseT {w : World} {base base' : Nat} {e : TypeId} {size n : Nat} {v : Value} {xs : List Value} (h : w.ownsRow base e size v n xs) (hb : base' ≤ base) : w.ownsRow base' e size v n xs := h.mono hb
theorem pt_parts {pt : Int} (h0 : 0 ≤ pt) (h3 : pt ≤ 3) : pt = 0 ∨ pt = 1 ∨ pt = 2 ∨ pt = 3 := by omega
theorem or_pt {pt : Int} (h0 : 0 ≤ pt) (h3 : pt ≤ 3) : bits .or .i64 pt 128 = pt + 128 := by
  rcases pt_parts h0 h3 with rfl | rfl | rfl | rfl <;> decide
set_option maxHeartbeats 1000000 in
theorem rencode_any (st sq : Int) (A : Option Addr) (n c B : Nat) (l : List Item) (w : World) (hr : Sl w B 4 A n c (l.flatMap Item.cells)) (hB : B ≤ w.heap.size) : Calls Try.prog 21 #[.agg #[.int .i64 st, .int .i64 sq, .slice A n c]] w (RetBytes w (encT st sq l) (checkT st sq l)) := by
  have HL := Lib.hid (hr.len (fun _ => rfl) (by decide))
  obtain ⟨hnc, hcm⟩ := hr.le
  have HR := Lib.hid hr; clear hr
  by_cases h0 : checkT st sq l = 0; rotate_left
  · have HC := Lib.hid (rcheck_any st sq A n c B l (w.alloc (.cells #[.int .i64 st, .int .i64 sq, .slice A n c] 31)) (HR.out.alloc hB _) (by simp; omega))
    have HE : Hid (encT st sq l = []) := by unfold Hid; rw [encT, if_neg h0]
    generalize checkT st sq l = er at *
    have h0' : (er == 0) = false := by simpa using h0
    have h0'' : (er != 0) = true := by simpa using h0
    clear h0
    go_enter Try.func21, Try.ntmps21
    go_wp2_with fail
    refine HC.out.mono ?_
    rintro e w1 ⟨rfl, hb1⟩
    go_wp2_with fail
    go_ret2
    rw [HE.out]
    exact ⟨none, 0, rfl, World.ownsRow_nil _ _ _ _, ((Below.refl _ _).alloc (Nat.le_refl _) _).trans (hb1.mono (by simp))⟩
  obtain ⟨hs0, hs1, hq0, hq1, h3, hit⟩ := checkT_parts h0
  rw [HL.out] at h3
  have HIT := Lib.hid hit; clear hit
  have HE : Hid (encT st sq l = frameT st sq l) := by unfold Hid; rw [encT, if_pos h0]
  have H0 := Lib.hid h0; clear h0
  go_enter Try.func21, Try.ntmps21
  go_wp2_with fail
  refine (rcheck_any st sq A n c B l _ (HR.out.alloc hB _) (by simp; omega)).mono ?_
  rintro e w1 ⟨rfl, hb1⟩
  rw [H0.out]
  have hsz1 : w.heap.size < w1.heap.size := by have := hb1.size; simp at this; omega
  have HK1 := Lib.hid ((Blk.new w 31 #[.int .i64 st, .int .i64 sq, .slice A n c]).below hb1 (by simp))
  have c0 : w1.cell? ⟨w.heap.size, 0, none⟩ = some (.int .i64 st) := HK1.out.cell 0
  have c1 : w1.cell? ⟨w.heap.size, 1, none⟩ = some (.int .i64 sq) := HK1.out.cell 1
  have c2 : w1.cell? ⟨w.heap.size, 2, none⟩ = some (.slice A n c) := HK1.out.cell 2
  have HBW : Hid (Below w.heap.size w w1) := ((Below.refl _ _).alloc (Nat.le_refl _) _).trans (hb1.mono (by simp))
  clear hb1
  go_wp2_with fail
  clear c0 c1 c2
  go_loopw [5, 6] (fun v i wr => ∃ (k cap : Nat) (Av : Option Addr), k ≤ n ∧ i = .int .i64 k ∧ v = .slice Av (4 + 5 * k) cap ∧ Hid (wr.ownsRow w1.heap.size 5 1 (.slice Av (4 + 5 * k) cap) (4 + 5 * k) (bytesV (headT st sq n ++ (l.take k).flatMap Item.bytes))) ∧ Hid (Below w1.heap.size w1 wr)) (fun _ i _ => n - (intOf i).toNat)
  case atStart =>
    refine ⟨0, 4, some ⟨w1.heap.size, 0, none⟩, Nat.zero_le _, rfl, rfl, ?_, (Below.refl _ _).alloc (Nat.le_refl _) _⟩
    have := World.ownsRow_lit (base := w1.heap.size) (e := 5) (size := 1) w1 #[.int .u8 104, .int .u8 st, .int .u8 sq, .int .u8 n] 4 (by omega) (by decide) rfl
    simp [bytesV, headT, u8_toNat]
    rw [show ((n : Int) % 256) = n from by omega, show st % 256 = st from by omega, show sq % 256 = sq from by omega]
    exact this
  case round =>
    obtain ⟨k, cap, Av, hk, rfl, rfl, hown, hbl⟩ := hrel
    have hsz := hbl.out.size
    have s2 : wr.cell? ⟨w.heap.size, 2, none⟩ = some (.slice A n c) := (HK1.out.below hbl.out hsz1).cell 2
    by_cases hlt : k < n
    · obtain ⟨b, off, x, rfl, hb, hx, hc⟩ := ((HR.out.below HBW.out hB).below hbl.out (by omega)).at (fun _ => rfl) (by decide) hlt
      have hok := itemErr_parts (HIT.out x (List.mem_of_getElem? hx))
      have HFl := Lib.hid (flag_val hok.2.2.1 hok.2.2.2.1)
      have hor := or_pt hok.2.2.1 hok.2.2.2.1
      have HX := Lib.hid hx
      obtain ⟨dv, pt, inv, tm⟩ := x
      have c0 : wr.cell? ⟨b, off + k * 4, none⟩ = some (.int .i64 dv) := hc 0 _ rfl
      have c1 : wr.cell? ⟨b, off + k * 4 + 1, none⟩ = some (.int .i64 pt) := hc 1 _ rfl
      have c2 : wr.cell? ⟨b, off + k * 4 + 2, none⟩ = some (.bool inv) := hc 2 _ rfl
      have c3 : wr.cell? ⟨b, off + k * 4 + 3, none⟩ = some (.int .i64 tm) := hc 3 _ rfl
      clear hc hx
      obtain ⟨_, _, hp0, hp3, _, _⟩ := hok
      simp only at hp0 hp3 hor HFl
      have hlt' : (k : Int) < (n : Int) := by omega
      cases inv
      all_goals
        go_wp2_with (at_builtin; go_must (refine wpList_app rfl (.tmp 44) (.tmp 61) rfl el_u8 (by rfl) ((hown.out.alloc _).alloc _) (by rfl) (Sl.newest (n := 5) (by simp) rfl (by decide)) (by simp [Value.oneCell']) (by omega) (by omega) (by simp; omega) ?_; intro A' cap' w2 hown2 hgr2 hat2))
        clear c0 c1 c2 c3
        go_wp2_with fail
        go_roundw
        case rel =>
          refine ⟨k + 1, cap', A', by omega, by go_num, by rw [show 4 + 5 * (k + 1) = 4 + 5 * k + 5 from by omega], ?_, ?_⟩
          · unfold Hid
            rw [show 4 + 5 * (k + 1) = 4 + 5 * k + 5 from by omega, enc_step _ HX.out, HFl.out]
            simp only [Bool.false_eq_true, if_false, if_true, Int.add_zero]
            first
              | (rw [show pt % 256 = pt from by omega] at hown2; exact hown2)
              | (rw [show (pt + 128) % 256 = pt + 128 from by omega] at hown2; exact hown2)
              | exact hown2
          · exact ((hbl.out.alloc hsz _).alloc (by simp; omega) _).grown hgr2 (by simp; omega) fun g hg => (own_lt hown.out g hg).1
        case measure => simp [intOf]; omega
    · have hkn : k = n := by omega
      subst hkn
      go_wp2_with fail
      refine (rchecksum_any _ _ _ _ _ _ (Sl.of_own hown.out)).mono ?_
      rintro e w3 ⟨rfl, rfl⟩
      have hbd : bodyT st sq l = headT st sq k ++ (l.take k).flatMap Item.bytes := by rw [bodyT, HL.out, List.take_of_length_le (by rw [HL.out]; omega)]
      have HBd := Lib.hid hbd; clear hbd
      rw [← HBd.out] at hown ⊢
      generalize hcr : crcAll (bodyT st sq l) = cr
      have HCr := Lib.hid hcr; clear hcr
      have hcr16 : cr.toNat < 65536 := cr.isLt
      go_wp2_with (at_builtin; go_must (refine wpList_app rfl (.tmp 65) (.tmp 71) rfl el_u8 (by rfl) (hown.out.alloc _) (by rfl) (Sl.newest (n := 2) rfl rfl (by decide)) (by simp [Value.oneCell']) (by omega) (by omega) (by simp; omega) ?_; intro A' cap' w2 hown2 hgr2 hat2))
      go_ret2
      rw [HE.out, H0.out]
      have hfl : (frameT st sq l).length = 4 + 5 * k + 2 := by rw [frame_len, HL.out]; omega
      have hbl2 : Below w1.heap.size w1 w2 := (hbl.out.alloc hsz _).grown hgr2 (by simp; omega) fun g hg => (own_lt hown.out g hg).1
      refine ⟨A', cap', by rw [hfl]; rfl, own_baseT ?_ (Nat.le_of_lt hsz1), HBW.out.trans (hbl2.mono (Nat.le_of_lt hsz1))⟩
      rw [hfl, frameT, bytesV_append, HCr.out]
      simp only [crcTail, bytesV, List.flatMap_cons, List.flatMap_nil, List.cons_append, List.nil_append, u8_toNat] at hown2 ⊢
      rw [show ((cr.toNat : Int) / 256 % 256) = (cr.toNat : Int) / 256 from by omega]
      exact hown2

set_option maxHeartbeats 2000000 in
theorem rreports_any (st sq : Int) (A : Option Addr) (n c B : Nat) (l : List Item) (w : World) (hr : Sl w B 4 A n c (l.flatMap Item.cells)) (hB : B ≤ w.heap.size) : Calls Try.prog 25 #[.agg #[.int .i64 st, .int .i64 sq, .slice A n c]] w (RetReports w (reportsT st sq l)) := by
  have HL := Lib.hid (hr.len (fun _ => rfl) (by decide))
  obtain ⟨hnc, hcm⟩ := hr.le
  have HR := Lib.hid hr; clear hr
  by_cases h0 : checkT st sq l = 0; rotate_left
  · have HC := Lib.hid (rcheck_any st sq A n c B l (w.alloc (.cells #[.int .i64 st, .int .i64 sq, .slice A n c] 31)) (HR.out.alloc hB _) (by simp; omega))
    have HE : Hid (reportsT st sq l = []) := by unfold Hid; rw [reportsT, if_neg h0]
    generalize checkT st sq l = er at *
    have h0'' : (er != 0) = true := by simpa using h0
    clear h0
    go_enter Try.func25, Try.ntmps25
    go_wp2_with fail
    refine HC.out.mono ?_
    rintro e w1 ⟨rfl, hb1⟩
    go_wp2_with fail
    go_ret
    rw [HE.out]
    exact ⟨none, 0, rfl, World.ownsRow_nil _ _ _ _, ((Below.refl _ _).alloc (Nat.le_refl _) _).trans (hb1.mono (by simp))⟩
  obtain ⟨hs0, hs1, hq0, hq1, h3, hit⟩ := checkT_parts h0
  rw [HL.out] at h3
  have HIT := Lib.hid hit; clear hit
  have HE : Hid (reportsT st sq l = l.map repOf) := by unfold Hid; rw [reportsT, if_pos h0]
  have H0 := Lib.hid h0; clear h0
  go_enter Try.func25, Try.ntmps25
  go_wp2_with fail
  refine (rcheck_any st sq A n c B l _ (HR.out.alloc hB _) (by simp; omega)).mono ?_
  rintro e w1 ⟨rfl, hb1⟩
  rw [H0.out]
  have hsz1 : w.heap.size < w1.heap.size := by have := hb1.size; simp at this; omega
  have HK1 := Lib.hid ((Blk.new w 31 #[.int .i64 st, .int .i64 sq, .slice A n c]).below hb1 (by simp))
  have HBW : Hid (Below w.heap.size w w1) := ((Below.refl _ _).alloc (Nat.le_refl _) _).trans (hb1.mono (by simp))
  clear hb1
  go_wp2_with fail
  go_loopw [3, 4] (fun v i wr => ∃ (k cap : Nat) (Av : Option Addr), k ≤ n ∧ i = .int .i64 k ∧ v = .slice Av k cap ∧ Hid (wr.ownsRow w1.heap.size 40 5 (.slice Av k cap) k (((l.take k).map repOf).flatMap Report.cells)) ∧ Hid (Below w1.heap.size w1 wr)) (fun _ i _ => n - (intOf i).toNat)
  case atStart => exact ⟨0, 0, none, Nat.zero_le _, rfl, rfl, World.ownsRow_nil _ _ _ _, Below.refl _ _⟩
  case round =>
    obtain ⟨k, cap, Av, hk, rfl, rfl, hown, hbl⟩ := hrel
    have hsz := hbl.out.size
    have s2 : wr.cell? ⟨w.heap.size, 2, none⟩ = some (.slice A n c) := (HK1.out.below hbl.out hsz1).cell 2
    by_cases hlt : k < n
    · obtain ⟨b, off, x, rfl, hb, hx, hc⟩ := ((HR.out.below HBW.out hB).below hbl.out (by omega)).at (fun _ => rfl) (by decide) hlt
      have hok := itemErr_parts (HIT.out x (List.mem_of_getElem? hx))
      have HX := Lib.hid hx
      obtain ⟨dv, pt, inv, tm⟩ := x
      have c0 : wr.cell? ⟨b, off + k * 4, none⟩ = some (.int .i64 dv) := hc 0 _ rfl
      have c1 : wr.cell? ⟨b, off + k * 4 + 1, none⟩ = some (.int .i64 pt) := hc 1 _ rfl
      have c2 : wr.cell? ⟨b, off + k * 4 + 2, none⟩ = some (.bool inv) := hc 2 _ rfl
      have c3 : wr.cell? ⟨b, off + k * 4 + 3, none⟩ = some (.int .i64 tm) := hc 3 _ rfl
      clear hc hx
      obtain ⟨_, _, hp0, hp3, _, _⟩ := hok
      have hlt' : (k : Int) < (n : Int) := by omega
      have hpp := pt_parts hp0 hp3
      simp only at hpp
      have HST : Hid (((l.take (k + 1)).map repOf).flatMap Report.cells = ((l.take k).map repOf).flatMap Report.cells ++ (repOf ⟨dv, pt, inv, tm⟩).cells) := by unfold Hid; rw [take_snoc HX.out]; simp
      clear hp0 hp3
      rcases hpp with rfl | rfl | rfl | rfl
      all_goals
        cases inv
        all_goals
          go_wp2_with (at_builtin; go_must (refine wpList_app rfl (.tmp 25) (.tmp 44) rfl el_report (by rfl) ((hown.out.alloc _).alloc _) (by rfl) (Sl.newest (n := 1) (by simp) rfl (by decide)) (by simp [Value.oneCell']) (by omega) (by omega) (by simp; omega) ?_; intro A' cap' w2 hown2 hgr2 hat2))
          clear c0 c1 c2 c3
          go_wp2_with fail
          go_roundw
          case rel => exact ⟨k + 1, cap', A', by omega, by go_num, rfl, by unfold Hid; rw [HST.out]; exact hown2, ((hbl.out.alloc hsz _).alloc (by simp; omega) _).grown hgr2 (by simp; omega) fun g hg => (own_lt hown.out g hg).1⟩
          case measure => simp [intOf]; omega
    · have hkn : k = n := by omega
      subst hkn
      go_wp2_with fail
      go_ret
      rw [HE.out]
      have hll : (l.map repOf).length = k := by rw [List.length_map, HL.out]
      have ho := hown.out
      rw [List.take_of_length_le (by rw [HL.out]; omega)] at ho
      rw [RetReports, hll]
      exact ⟨Av, cap, rfl, own_baseT ho (Nat.le_of_lt hsz1), HBW.out.trans (hbl.out.mono (Nat.le_of_lt hsz1))⟩

set_option maxHeartbeats 1000000 in
theorem sameReps_any (A1 A2 : Option Addr) (n c1 c2 B1 B2 : Nat) (rs : List Report) (w : World) (h1 : Sl w B1 5 A1 n c1 (rs.flatMap Report.cells)) (h2 : Sl w B2 5 A2 n c2 (rs.flatMap Report.cells)) (hB1 : B1 ≤ w.heap.size) (hB2 : B2 ≤ w.heap.size) :
    Calls Try.prog 24 #[.slice A1 n c1, .slice A2 n c2] w fun e w' => e = .returned (.bool true) ∧ Below w.heap.size w w' := by
  obtain ⟨hc1, hc2⟩ := h1.le
  obtain ⟨hc3, hc4⟩ := h2.le
  have H1 := Lib.hid h1; have H2 := Lib.hid h2; clear h1 h2
  go_enter Try.func24, Try.ntmps24
  go_wp2_with fail
  go_loopw [13] (fun i wr => ∃ (i' : Nat), i = .int .i64 i' ∧ i' ≤ n ∧ Hid (Below w.heap.size w wr)) (fun i _ => n - (intOf i).toNat)
  case atStart => exact ⟨0, rfl, Nat.zero_le _, Below.refl _ _⟩
  case round =>
    obtain ⟨i, rfl, hi, hbl⟩ := hrel
    by_cases hlt : i < n
    · obtain ⟨ba, offa, p, rfl, _, hp, hca⟩ := (H1.out.below hbl.out hB1).at (k := i) (fun _ => rfl) (by decide) hlt
      obtain ⟨bb, offb, q, rfl, _, hq, hcb⟩ := (H2.out.below hbl.out hB2).at (k := i) (fun _ => rfl) (by decide) hlt
      rw [hp] at hq
      injection hq with hq
      subst hq
      obtain ⟨p1, p2, p3, p4, p5⟩ := p
      have a0 : wr.cell? ⟨ba, offa + i * 5, none⟩ = some (.int .i64 p1) := hca 0 _ rfl
      have a1 : wr.cell? ⟨ba, offa + i * 5 + 1, none⟩ = some (.int .i64 p2) := hca 1 _ rfl
      have a2 : wr.cell? ⟨ba, offa + i * 5 + 2, none⟩ = some (.int .i64 p3) := hca 2 _ rfl
      have a3 : wr.cell? ⟨ba, offa + i * 5 + 3, none⟩ = some (.int .i64 p4) := hca 3 _ rfl
      have a4 : wr.cell? ⟨ba, offa + i * 5 + 4, none⟩ = some (.bool p5) := hca 4 _ rfl
      have b0 : wr.cell? ⟨bb, offb + i * 5, none⟩ = some (.int .i64 p1) := hcb 0 _ rfl
      have b1 : wr.cell? ⟨bb, offb + i * 5 + 1, none⟩ = some (.int .i64 p2) := hcb 1 _ rfl
      have b2 : wr.cell? ⟨bb, offb + i * 5 + 2, none⟩ = some (.int .i64 p3) := hcb 2 _ rfl
      have b3 : wr.cell? ⟨bb, offb + i * 5 + 3, none⟩ = some (.int .i64 p4) := hcb 3 _ rfl
      have b4 : wr.cell? ⟨bb, offb + i * 5 + 4, none⟩ = some (.bool p5) := hcb 4 _ rfl
      have hlt' : (i : Int) < (n : Int) := by omega
      clear hp hca hcb
      go_wp2_with fail
      go_quiet (fail)
      go_wp2_with fail
      go_roundw
      case rel => exact ⟨i + 1, by go_num, by omega, below_drewN hbl.out _⟩
      case measure => simp [intOf]; omega
    · obtain rfl : i = n := by omega
      go_wp2_with fail
      go_ret
      exact ⟨rfl, hbl.out⟩
end Go.Proofs.Ytjinhfomfbcnjaa
