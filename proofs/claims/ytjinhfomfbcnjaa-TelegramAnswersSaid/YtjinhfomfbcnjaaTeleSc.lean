/-
  Walk of layer 9: Scan.
-/
import Derived.Test.YtjinhfomfbcnjaaTeleL
namespace Go.Proofs.Ytjinhfomfbcnjaa
open Go.RowKit
attribute [local go_sem ↓] Go.wp_at_zero Go.wp_at_succ

/-- Telegrams and a number are returned; nothing that was there is changed. -/
def RetScan (w : World) (ts : List Tele) (p : Nat) (e : Ending) (w' : World) : Prop :=
  ∃ A c, e = .returned (.tuple #[.slice A ts.length c, .int .i64 p]) ∧ OwnT w' w.heap.size A ts.length c ts ∧ Below w.heap.size w w'
theorem scan_step_hit {l : List UInt8} {k : Nat} {ts : List Tele} {p : Nat} (hk : k < l.length) (h : hitB (l.drop k) = true) (hs : scanT l = (ts ++ (scanT (l.drop k)).1, p + (scanT (l.drop k)).2)) :
    scanT l = ((ts ++ [decTele ((l.drop k).take (sizeT (l.drop k)))]) ++ (scanT (l.drop (k + sizeT (l.drop k)))).1, p + (scanT (l.drop (k + sizeT (l.drop k)))).2) := by
  rw [hs]
  have hne : l.drop k ≠ [] := by intro e; have := congrArg List.length e; simp at this; omega
  rw [scan_hit hne h, List.drop_drop, List.append_assoc]
  rfl
theorem scan_step_miss {l : List UInt8} {k : Nat} {ts : List Tele} {p : Nat} (hk : k < l.length) (h : hitB (l.drop k) = false) (hs : scanT l = (ts ++ (scanT (l.drop k)).1, p + (scanT (l.drop k)).2)) :
    scanT l = (ts ++ (scanT (l.drop (k + 1))).1, (p + 1) + (scanT (l.drop (k + 1))).2) := by
  rw [hs]
  have hd := List.drop_eq_getElem_cons hk
  rw [hd] at h ⊢
  rw [scan_miss h, Nat.add_assoc, Nat.add_comm 1]

def ScRel (w : World) (n B : Nat) (l : List UInt8) (b out p : Value) (wr : World) : Prop :=
  ∃ (k m cb cap q : Nat) (Ab Av : Option Addr) (ts : List Tele), k ≤ n ∧ m + k = n ∧ q ≤ k ∧ b = .slice Ab m cb ∧ out = .slice Av ts.length cap ∧ p = .int .i64 q ∧ Hid (Sl w B 1 Ab m cb (bytesV (l.drop k))) ∧ Hid (OwnT wr w.heap.size Av ts.length cap ts) ∧ Hid (scanT l = (ts ++ (scanT (l.drop k)).1, q + (scanT (l.drop k)).2)) ∧ Hid (Below w.heap.size w wr)
set_option maxHeartbeats 4000000 in
theorem scan_any (A : Option Addr) (n c B : Nat) (l : List UInt8) (w : World) (hr : Sl w B 1 A n c (bytesV l)) (hB : B ≤ w.heap.size) (hn : n ≤ 1000000000) : Calls Try.prog 20 #[.slice A n c] w (RetScan w (scanT l).1 (scanT l).2) := by
  have HL := Lib.hid (hr.len (fun _ => rfl) (by decide))
  obtain ⟨hnc, hcm⟩ := hr.le
  have HR := Lib.hid hr; clear hr
  have HSL := Lib.hid (scan_le l)
  go_enter Try.func20, Try.ntmps20
  go_wp2_with fail
  go_loopw [0, 4, 5] (fun b out p wr => ScRel w n B l b out p wr) (fun b _ _ _ => match b with | .slice _ m _ => m | _ => 0)
  case atStart => exact ⟨0, n, c, 0, 0, A, none, [], Nat.zero_le _, rfl, Nat.zero_le _, rfl, rfl, rfl, HR, OwnT.nil _ _, by simp [Hid], Below.refl _ _⟩
  case round =>
    obtain ⟨k, m, cb, cap, q, Ab, Av, ts, hk, hmk, hq, rfl, rfl, rfl, hs, hown, hsc, hbl⟩ := hrel
    obtain ⟨hmc, hcbm⟩ := hs.out.le
    have hszw := hbl.out.size
    by_cases hlt : 0 < m; rotate_left
    · obtain rfl : m = 0 := by omega
      go_wp2_with fail
      go_ret2
      have e : l.drop k = [] := List.drop_eq_nil_of_le (by rw [HL.out]; omega)
      have hsc' := hsc.out
      rw [e, scan_nil] at hsc'
      simp at hsc'
      rw [hsc']
      exact ⟨Av, cap, rfl, hown.out, hbl.out⟩
    have hm0 : decide ((0 : Int) < (m : Int)) = true := by simp; omega
    have hsd := hs.out.below hbl.out hB
    have HSD := Lib.hid hsd; clear hsd
    have hdl : (l.drop k).length = m := by rw [List.length_drop, HL.out]; omega
    have HDL := Lib.hid hdl; clear hdl
    have hfr := fun W => run_from W Ab m cb 1 (by omega)
    have HCU := Lib.hid (hs.out.cut (k := 1) (by omega))
    obtain ⟨d, hd⟩ : ∃ d, l.drop k = d := ⟨_, rfl⟩
    have hdd : ∀ j, d.drop j = l.drop (k + j) := fun j => by rw [← hd, List.drop_drop]
    have HD := Lib.hid hd; have HDD := Lib.hid hdd; clear hd hdd
    have hts : ts.length ≤ n := by
      have := HSL.out
      rw [hsc.out, HL.out, List.length_append] at this
      omega
    have hmiss : hitB d = false → ∀ wr1, Below w.heap.size w wr1 → OwnT wr1 w.heap.size Av ts.length cap ts →
        ScRel w n B l (.slice (cutA Ab cb 1) (m - 1) (cb - 1)) (.slice Av ts.length cap) (.int .i64 ((q : Int) + 1)) wr1 := by
      intro h wr1 hb1 ho1
      refine ⟨k + 1, m - 1, cb - 1, cap, q + 1, _, _, ts, by omega, by omega, by omega, rfl, rfl, by go_num, ?_, ho1, ?_, hb1⟩
      · have := HCU.out
        rw [List.drop_drop] at this
        exact this
      · exact scan_step_miss (by rw [HL.out]; omega) (by rw [HD.out]; exact h) hsc.out
    have HMISS := Lib.hid hmiss; clear hmiss
    by_cases h0 : sizeT d = 0
    · have HM : Hid (hitB d = false) := by unfold Hid; simp [hitB, h0]
      have H0 := Lib.hid h0; clear h0
      go_wp2_with fail
      refine (size_any _ _ _ _ d _ (by rw [← HD.out]; exact HSD.out)).mono ?_
      rintro e w1 ⟨rfl, rfl⟩
      rw [H0.out]
      go_wp2_with fail
      go_roundw
      case rel => exact HMISS.out HM.out _ hbl.out hown.out
      case measure => simp; omega
    obtain ⟨hz6, hz166, _⟩ := size_pos (l := d) (by omega)
    have hz0 : decide ((0 : Int) < (sizeT d : Int)) = true := by simp; omega
    by_cases h1 : m < sizeT d
    · have HM : Hid (hitB d = false) := by
        have := HDL.out; rw [HD.out] at this
        unfold Hid; simp only [hitB]; rw [show decide (sizeT d ≤ d.length) = false from by simp; omega]; simp
      have h1' : decide (sizeT d ≤ m) = false := by simpa using h1
      generalize hzd : sizeT d = z at *
      have HZD := Lib.hid hzd; clear hzd
      go_wp2_with fail
      refine (size_any _ _ _ _ d _ (by rw [← HD.out]; exact HSD.out)).mono ?_
      rintro e w1 ⟨rfl, rfl⟩
      rw [HZD.out]
      go_wp2_with fail
      go_roundw
      case rel => exact HMISS.out HM.out _ hbl.out hown.out
      case measure => simp; omega
    have h1' : decide (sizeT d ≤ m) = true := by simpa using h1
    have HIT : Hid (hitB d = decide (decErr (d.take (sizeT d)) = 0)) := by
      have := HDL.out; rw [HD.out] at this
      unfold Hid; simp only [hitB]
      rw [show decide (sizeT d ≤ d.length) = true from by simp; omega, show decide (0 < sizeT d) = true from by simp; omega]; simp
    have HUP := Lib.hid (HSD.out.upto (k := sizeT d) (by omega))
    have hfrz := fun W => run_from W Ab m cb (sizeT d) (by omega)
    have HCZ := Lib.hid (hs.out.cut (k := sizeT d) (by omega))
    generalize hzd : sizeT d = z at *
    have HZD := Lib.hid hzd; clear hzd
    have hzc : (z : Int) ≤ (cb : Int) := by omega
    have HZM : z ≤ m := by omega
    clear h0 h1
    rw [HD.out] at HUP HCZ
    have HDC := Lib.hid (fun W h1 h2 => decode_any Ab z cb B (d.take z) W h1 h2)
    by_cases h2 : decErr (d.take z) = 0; rotate_left
    · have HM : Hid (hitB d = false) := by unfold Hid; rw [HIT.out]; simpa using h2
      generalize decErr (d.take z) = er at *
      have h2' : (er == 0) = false := by simpa using h2
      clear h2
      go_wp2_with fail
      refine (size_any _ _ _ _ d _ (by rw [← HD.out]; exact HSD.out)).mono ?_
      rintro e w1 ⟨rfl, rfl⟩
      rw [HZD.out]
      go_wp2_with fail
      refine (HDC.out _ HUP.out (by omega)).mono ?_
      rintro e w1 ⟨Ad, cd, rfl, hod, hbd⟩
      have HBD := Lib.hid hbd; clear hod hbd hzc hmc
      go_wp2_with fail
      go_roundw
      case rel => exact HMISS.out HM.out _ ((hbl.out.trans (HBD.out.mono hszw)).alloc (Nat.le_trans hszw HBD.out.size) _) ((hown.out.below HBD.out).alloc _)
      case measure => simp; omega
    · have HM : Hid (hitB d = true) := by unfold Hid; rw [HIT.out]; simpa using h2
      have H2 := Lib.hid h2; clear h2
      go_wp2_with fail
      refine (size_any _ _ _ _ d _ (by rw [← HD.out]; exact HSD.out)).mono ?_
      rintro e w1 ⟨rfl, rfl⟩
      rw [HZD.out]
      go_wp2_with fail
      refine (HDC.out _ HUP.out (by omega)).mono ?_
      rintro e w1 ⟨Ad, cd, rfl, hod, hbd⟩
      rw [H2.out]
      have HRR : Hid (Below w.heap.size w w1) := hbl.out.trans (hbd.mono hszw)
      have HTF : Hid (TOk w1 (Value.slice Av ts.length cap).ownBlock ⟨decSt (d.take z), decSq (d.take z), Ad, (decL (d.take z)).length, cd⟩ ⟨decSt (d.take z), decSq (d.take z), decL (d.take z)⟩) := TOk.fresh hown.out hod
      have HO1 := Lib.hid (hown.out.below hbd)
      have HDT : Hid (decTele (d.take z) = ⟨decSt (d.take z), decSq (d.take z), decL (d.take z)⟩) := rfl
      clear hod hbd HDC HIT HUP
      generalize decSt (d.take z) = st at *
      generalize decSq (d.take z) = sq at *
      generalize decL (d.take z) = L at *
      go_wp2_with fail
      generalize hW : w1.alloc (.cells #[.int .i64 st, .int .i64 sq, .slice Ad L.length cd] 31) = W1
      have c0 : W1.cell? ⟨w1.heap.size, 0, none⟩ = some (.int .i64 st) := hW ▸ (Blk.new _ _ _).cell 0
      have c1 : W1.cell? ⟨w1.heap.size, 1, none⟩ = some (.int .i64 sq) := hW ▸ (Blk.new _ _ _).cell 1
      have c2 : W1.cell? ⟨w1.heap.size, 2, none⟩ = some (.slice Ad L.length cd) := hW ▸ (Blk.new _ _ _).cell 2
      have hbW : Below w1.heap.size w1 W1 := hW ▸ (Below.refl _ _).alloc (Nat.le_refl _) _
      have hWs : W1.heap.size = w1.heap.size + 1 := by rw [← hW]; simp
      clear hW
      obtain ⟨rows, hrl, hro, hrt⟩ := HO1.out.below hbW
      have hT1 := HTF.out.keep hbW.size fun w2 h2 => grown_trans (grown_of_below hbW _) h2
      have HRL := Lib.hid hrl; have HRO := Lib.hid hro; have HRT := Lib.hid hrt; have HT1 := Lib.hid hT1
      have HBW := Lib.hid (HRR.out.trans (hbW.mono HRR.out.size))
      have hszW := HBW.out.size
      have hlw : w1.heap.size < W1.heap.size := by omega
      clear hrl hro hrt hT1 hbW hWs HTF HO1 HRR
      go_region_law (refine step_app (by rfl) _ _ (by rfl) el_tele (by rfl) ((World.ownsRow.drew HRO.out).alloc _) (by rfl) (Sl.newest (n := 1) rfl (by rfl) (by decide)) (by simp [Value.oneCell']) (by omega) (by omega) (by simp; omega) ?_; intro A' cap' we howne hgre hate)
      all_goals
        go_wp2
        go_roundw
        case rel =>
          refine ⟨_, _, _, ?_, rfl, rfl, rfl⟩
          refine ⟨k + z, m - z, cb - z, cap', q, _, A', ts ++ [⟨st, sq, L⟩], by omega, by omega, by omega, rfl, by rw [List.length_append]; rfl, rfl, ?_, ?_, ?_, ?_⟩
          · rw [HDD.out] at HCZ; exact HCZ
          · unfold Hid
            rw [List.length_append]
            refine OwnT.push (w := W1.drew.alloc (.cells #[.int .i64 st, .int .i64 sq, .slice Ad L.length cd] 31)) HRL.out (fun i r t h1 h2 => (HRT.out i r t h1 h2).keep (by simp) fun w2 h2 => grown_trans (grown_of_below ((Below.refl _ _).drew.alloc (Nat.le_refl _) _) _) h2) (HT1.out.keep (by simp) fun w2 h2 => grown_trans (grown_of_below ((Below.refl _ _).drew.alloc (Nat.le_refl _) _) _) h2) howne hgre hate
          · have := scan_step_hit (by rw [HL.out]; omega) (by rw [HD.out]; exact HM.out) hsc.out
            rw [HD.out, HZD.out, HDT.out] at this
            exact this
          · exact (HBW.out.drew.alloc hszW _).grown hgre (by simp; omega) fun g hg => (HRO.out.lt g hg).1
        case measure => (try simp); omega
end Go.Proofs.Ytjinhfomfbcnjaa
