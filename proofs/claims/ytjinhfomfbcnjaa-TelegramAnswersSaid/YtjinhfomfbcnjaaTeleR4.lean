/-
  Walk of the references of layer 9: Scan.
-/
import Derived.Test.YtjinhfomfbcnjaaTeleR3
import Derived.Test.YtjinhfomfbcnjaaTeleSc
namespace Go.Proofs.Ytjinhfomfbcnjaa
open Go.RowKit
attribute [local go_sem ↓] Go.wp_at_zero Go.wp_at_succ

def refSize (d : List UInt8) : Nat := if d.length < 4 then 6 else 6 + 5 * (d.getD 3 0).toNat
theorem take_getD (d : List UInt8) {z j : Nat} (h : j < z) : (d.take z).getD j 0 = d.getD j 0 := by
  rw [List.getD_eq_getElem?_getD, List.getD_eq_getElem?_getD, List.getElem?_take_of_lt h]
theorem ref_hit {d : List UInt8} (h1 : refSize d ≤ d.length) (h2 : decErr (d.take (refSize d)) = 0) : hitB d = true ∧ sizeT d = refSize d := by
  have h6 : 6 ≤ refSize d := by unfold refSize; split <;> omega
  have hr : refSize d = 6 + 5 * (d.getD 3 0).toNat := by unfold refSize; rw [if_neg (by omega)]
  have hl : (d.take (refSize d)).length = refSize d := by rw [List.length_take]; omega
  have hs : sizeT d = refSize d := by
    have h0 : sizeT (d.take (refSize d)) ≠ 0 := by
      intro e
      unfold decErr at h2
      rw [if_neg (by omega), if_pos e] at h2
      contradiction
    unfold sizeT at h0 ⊢
    rw [take_getD d (by omega), take_getD d (by omega)] at h0
    rw [if_neg (by omega)]
    rw [if_neg (by omega)] at h0
    split at h0
    · contradiction
    split at h0
    · contradiction
    next g1 g2 => rw [if_neg g1, if_neg g2, hr]
  refine ⟨?_, hs⟩
  rw [hitB, hs, h2]
  simp; omega
theorem ref_miss {d : List UInt8} (h : ¬ (refSize d ≤ d.length ∧ decErr (d.take (refSize d)) = 0)) : hitB d = false := by
  rcases hb : hitB d with _ | _
  · rfl
  · exfalso
    simp only [hitB, Bool.and_eq_true, decide_eq_true_eq] at hb
    obtain ⟨⟨p1, p2⟩, p3⟩ := hb
    obtain ⟨q1, q2, q3⟩ := size_pos p1
    have : refSize d = sizeT d := by
      unfold refSize sizeT at *
      rw [if_neg (by omega)]
      rw [if_neg (by omega)] at p1 ⊢
      split at p1
      · omega
      split at p1
      · omega
      next g1 g2 => rw [if_neg g1, if_neg g2]
    rw [this] at h
    exact h ⟨p2, p3⟩
def ScRef (w : World) (n : Nat) (l : List UInt8) (out p at_ : Value) (wr : World) : Prop :=
  ∃ (k cap q : Nat) (Av : Option Addr) (ts : List Tele), k ≤ n ∧ q ≤ k ∧ at_ = .int .i64 k ∧ out = .slice Av ts.length cap ∧ p = .int .i64 q ∧ Hid (OwnT wr w.heap.size Av ts.length cap ts) ∧ Hid (scanT l = (ts ++ (scanT (l.drop k)).1, q + (scanT (l.drop k)).2)) ∧ Hid (Below w.heap.size w wr)
set_option maxRecDepth 100000 in
set_option maxHeartbeats 4000000 in
theorem rscan_any (A : Option Addr) (n c B : Nat) (l : List UInt8) (w : World) (hr : Sl w B 1 A n c (bytesV l)) (hB : B ≤ w.heap.size) (hn : n ≤ 1000000000) : Calls Try.prog 27 #[.slice A n c] w (RetScan w (scanT l).1 (scanT l).2) := by
  have HL := Lib.hid (hr.len (fun _ => rfl) (by decide))
  obtain ⟨hnc, hcm⟩ := hr.le
  have HR := Lib.hid hr; clear hr
  have HSL := Lib.hid (scan_le l)
  go_enter Try.func27, Try.ntmps27
  go_wp2_with fail
  go_loopw [4, 5, 6] (fun out p at_ wr => ScRef w n l out p at_ wr) (fun _ _ at_ _ => n - (intOf at_).toNat)
  case atStart => exact ⟨0, 0, 0, none, [], Nat.zero_le _, Nat.le_refl _, rfl, rfl, rfl, OwnT.nil _ _, by simp [Hid], Below.refl _ _⟩
  case round =>
    obtain ⟨k, cap, q, Av, ts, hk, hq, rfl, rfl, rfl, hown, hsc, hbl⟩ := hrel
    have hszw := hbl.out.size
    by_cases hlt : k < n; rotate_left
    · obtain rfl : k = n := by omega
      have hkk : decide (k < k) = false := by simp
      go_wp2_with fail
      go_ret2
      have e : l.drop k = [] := List.drop_eq_nil_of_le (by rw [HL.out]; omega)
      have hsc' := hsc.out
      rw [e, scan_nil] at hsc'
      simp at hsc'
      rw [hsc']
      exact ⟨Av, cap, rfl, hown.out, hbl.out⟩
    have hlt' : decide (k < n) = true := by simpa using hlt
    obtain ⟨b, off, rfl, hb, hc⟩ := HR.out.bytes (by omega)
    have hdl : (l.drop k).length = n - k := by rw [List.length_drop, HL.out]
    have HDL := Lib.hid hdl; clear hdl
    have hts : ts.length ≤ n := by
      have := HSL.out
      rw [hsc.out, HL.out, List.length_append] at this
      omega
    have hmiss : hitB (l.drop k) = false → ∀ wr1, Below w.heap.size w wr1 → OwnT wr1 w.heap.size Av ts.length cap ts → ScRef w n l (.slice Av ts.length cap) (.int .i64 ((q : Int) + 1)) (.int .i64 ((k : Int) + 1)) wr1 := by
      intro h wr1 hb1 ho1
      exact ⟨k + 1, cap, q + 1, _, ts, by omega, by omega, by go_num, rfl, by go_num, ho1, scan_step_miss (by rw [HL.out]; omega) h hsc.out, hb1⟩
    have HMISS := Lib.hid hmiss; clear hmiss
    by_cases h4 : n < k + 4
    · have HM : Hid (hitB (l.drop k) = false) := by
        refine ref_miss fun h => ?_
        have : refSize (l.drop k) = 6 := by unfold refSize; rw [if_pos (by rw [HDL.out]; omega)]
        rw [this, HDL.out] at h
        omega
      have t1 : decide ((k : Int) + 4 ≤ (n : Int)) = false := by simp; omega
      have t2 : decide ((k : Int) + 6 ≤ (n : Int)) = false := by simp; omega
      clear hc
      go_wp2_with fail
      go_roundw
      case rel => exact HMISS.out HM.out _ hbl.out hown.out
      case measure => simp [intOf]; omega
    have t1 : decide ((k : Int) + 4 ≤ (n : Int)) = true := by simp; omega
    have HRS : Hid (refSize (l.drop k) = 6 + 5 * (l.getD (k + 3) 0).toNat) := by
      unfold Hid refSize
      rw [if_neg (by rw [HDL.out]; omega), List.getD_eq_getElem?_getD, List.getElem?_drop, ← List.getD_eq_getElem?_getD]
    have c3 : wr.cell? ⟨b, off + (k + 3), none⟩ = some (.int .u8 (l.getD (k + 3) 0).toNat) := (hbl.out.cell (p := ⟨b, off + (k + 3), none⟩) (Nat.lt_of_lt_of_le hb hB)).trans (hc (k + 3) (by omega))
    clear hc
    have hx256 : (l.getD (k + 3) 0).toNat < 256 := UInt8.toNat_lt _
    generalize (l.getD (k + 3) 0).toNat = x at *
    obtain ⟨z, hz⟩ : ∃ z, 6 + 5 * x = z := ⟨_, rfl⟩
    rw [hz] at HRS
    have hzi : 6 + 5 * (x : Int) = (z : Int) := by omega
    have hz6 : 6 ≤ z := by omega
    have hz2 : z ≤ 2000 := by omega
    have k3 : (k : Int) + 3 < (n : Int) := by omega
    have k3t : ((k : Int) + 3).toNat = k + 3 := by omega
    clear hz
    by_cases hkz : n < k + z
    · have HM : Hid (hitB (l.drop k) = false) := by
        refine ref_miss fun h => ?_
        rw [HRS.out, HDL.out] at h
        omega
      have t2 : decide ((k : Int) + (z : Int) ≤ (n : Int)) = false := by simp; omega
      go_wp2_with fail
      go_roundw
      case rel => exact HMISS.out HM.out _ hbl.out hown.out
      case measure => simp [intOf]; omega
    have t2 : decide ((k : Int) + (z : Int) ≤ (n : Int)) = true := by simp; omega
    have kzc : (k : Int) + (z : Int) ≤ (c : Int) := by omega
    have kzt : ((k : Int) + (z : Int)).toNat - k = z := by omega
    have hck : ¬ c = k := by omega
    have HUP : Hid (Sl w B 1 (some ⟨b, off + k, none⟩) z (c - k) (bytesV ((l.drop k).take z))) := by
      have := (HR.out.cut (k := k) (by omega)).upto (k := z) (by omega)
      rw [cutA, if_neg hck, Option.map_some, add_plain] at this
      exact this
    have HDC := Lib.hid (fun W h1 h2 => rdecode_any (some ⟨b, off + k, none⟩) z (c - k) B ((l.drop k).take z) W h1 h2)
    by_cases h2 : decErr ((l.drop k).take z) = 0; rotate_left
    · have HM : Hid (hitB (l.drop k) = false) := by
        refine ref_miss fun h => ?_
        rw [HRS.out] at h
        exact h2 h.2
      generalize decErr ((l.drop k).take z) = er at *
      have h2' : (er == 0) = false := by simpa using h2
      clear h2
      go_wp2_with fail
      refine (HDC.out _ (HUP.out.below hbl.out hB) (by omega)).mono ?_
      rintro e w1 ⟨Ad, cd, rfl, hod, hbd⟩
      have HBD := Lib.hid hbd; clear hod hbd
      go_wp2_with fail
      go_roundw
      case rel => exact HMISS.out HM.out _ ((hbl.out.trans (HBD.out.mono hszw)).alloc (Nat.le_trans hszw HBD.out.size) _) ((hown.out.below HBD.out).alloc _)
      case measure => simp [intOf]; omega
    · have HM := Lib.hid (ref_hit (d := l.drop k) (by rw [HRS.out, HDL.out]; omega) (by rw [HRS.out]; exact h2))
      have H2 := Lib.hid h2; clear h2
      go_wp2_with fail
      refine (HDC.out _ (HUP.out.below hbl.out hB) (by omega)).mono ?_
      rintro e w1 ⟨Ad, cd, rfl, hod, hbd⟩
      rw [H2.out]
      have HRR : Hid (Below w.heap.size w w1) := hbl.out.trans (hbd.mono hszw)
      have HTF : Hid (TOk w1 (Value.slice Av ts.length cap).ownBlock ⟨decSt ((l.drop k).take z), decSq ((l.drop k).take z), Ad, (decL ((l.drop k).take z)).length, cd⟩ ⟨decSt ((l.drop k).take z), decSq ((l.drop k).take z), decL ((l.drop k).take z)⟩) := TOk.fresh hown.out hod
      have HO1 := Lib.hid (hown.out.below hbd)
      have HDT : Hid (decTele ((l.drop k).take z) = ⟨decSt ((l.drop k).take z), decSq ((l.drop k).take z), decL ((l.drop k).take z)⟩) := rfl
      clear hod hbd HDC HUP
      generalize decSt ((l.drop k).take z) = st at *
      generalize decSq ((l.drop k).take z) = sq at *
      generalize decL ((l.drop k).take z) = L at *
      obtain ⟨rows, hrl, hro, hrt⟩ := HO1.out
      have HRL := Lib.hid hrl; have HRO := Lib.hid hro; have HRT := Lib.hid hrt
      clear hrl hro hrt
      have hsz1 := HRR.out.size
      go_wp2_with (at_builtin; go_must (refine wpList_app rfl (.tmp 45) (.tmp 47) rfl el_tele (by rfl) ((HRO.out.alloc _).alloc _) (by rfl) (Sl.newest (n := 1) (by simp) rfl (by decide)) (by simp [Value.oneCell']) (by omega) (by omega) (by simp; omega) ?_; intro A' cap' we howne hgre hate))
      go_wp2_with fail
      go_roundw
      case rel =>
        have hbb : Below w1.heap.size w1 ((w1.alloc (.cells #[.int .i64 st, .int .i64 sq, .slice Ad L.length cd] 31)).alloc (.cells #[.int .i64 st, .int .i64 sq, .slice Ad L.length cd] 31)) := ((Below.refl _ _).alloc (Nat.le_refl _) _).alloc (by simp) _
        refine ⟨k + z, cap', q, A', ts ++ [⟨st, sq, L⟩], by omega, by omega, by go_num, by rw [List.length_append]; rfl, rfl, ?_, ?_, ?_⟩
        · unfold Hid
          rw [List.length_append]
          exact OwnT.push HRL.out (fun i r t h1 h2 => (HRT.out i r t h1 h2).keep (by simp; omega) fun w2 h2 => grown_trans (grown_of_below hbb _) h2) (HTF.out.keep (by simp; omega) fun w2 h2 => grown_trans (grown_of_below hbb _) h2) howne hgre hate
        · have := scan_step_hit (by rw [HL.out]; omega) HM.out.1 hsc.out
          rw [HM.out.2, HRS.out, HDT.out] at this
          exact this
        · exact ((HRR.out.alloc hsz1 _).alloc (by simp; omega) _).grown hgre (by simp; omega) fun g hg => (HRO.out.lt g hg).1
      case measure => simp [intOf]; omega
end Go.Proofs.Ytjinhfomfbcnjaa
