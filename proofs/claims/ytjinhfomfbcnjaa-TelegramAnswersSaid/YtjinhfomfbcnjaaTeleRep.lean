/-
  Walk of TelegramReports: each item is a report of its time, doubtful exactly if it is invalid, moving or faulty.
-/
import Derived.Test.YtjinhfomfbcnjaaTeleW4
import Derived.Test.YtjinhfomfbcnjaaTeleAwake
import Derived.Test.YtjinhfomfbcnjaaMkTele
namespace Go.Proofs.Ytjinhfomfbcnjaa
open Go.RowKit
theorem checkT_ok {st sq : Int} {l : List Item} (h0 : 0 ≤ st) (h1 : st < 256) (h2 : 0 ≤ sq) (h3 : sq < 256) (h4 : l.length ≤ 32) (h5 : ∀ x ∈ l, ItemOk x) : checkT st sq l = 0 := by
  have a : octB st = true := by simp [octB]; omega
  have b : octB sq = true := by simp [octB]; omega
  rw [checkT, if_neg (by simp [a]), if_neg (by simp [b]), if_neg (by omega), firstErr_all h5]

theorem below_refl (w : World) : Below w.heap.size w w := Below.refl _ _
theorem map_at {α β : Type} {f : α → β} {l : List α} {k : Nat} {x : α} {y : β} (h : l[k]? = some x) (h' : (l.map f)[k]? = some y) : y = f x := by
  rw [List.getElem?_map, h] at h'; simpa using h'.symm
set_option maxRecDepth 100000 in
set_option maxHeartbeats 4000000 in
theorem walk_TelegramReports (w : World) (A : Option Addr) (n c : Nat) (z : List Int) (hz : Sl w w.heap.size 1 A n c (intsV z)) (_ : ∀ x ∈ z, (Lit.int .i64 x).wf = true) :
    Calls Try.prog 4 #[.slice A n c] w fun e w' => e = .returned (.bool true) ∧ Below w.heap.size w w' := by
  obtain ⟨hnc, hcm⟩ := hz.le
  have HZ := Lib.hid hz; clear hz
  by_cases hf : n ≤ 400; rotate_left
  · have hf' : decide (n ≤ 400) = false := by simpa using hf
    clear hf
    go_enter Try.func4, Try.ntmps4
    go_wp2_with fail
    refine (few_any A n c w (by omega)).mono ?_
    rintro e w1 ⟨rfl, rfl⟩
    go_wp2_with fail
    refine (awake_any _).mono ?_
    rintro e w1 ⟨rfl, hb⟩
    go_wp2_with fail
    go_ret
    exact ⟨rfl, hb⟩
  have hf' : decide (n ≤ 400) = true := by simpa using hf
  go_enter Try.func4, Try.ntmps4
  go_wp2_with fail
  refine (few_any A n c w (by omega)).mono ?_
  rintro e w1 ⟨rfl, rfl⟩
  go_wp2_with fail
  refine (new_any A n c w.heap.size z w HZ.out (Nat.le_refl _)).mono ?_
  rintro e w1 ⟨rfl, hd1, hb1, hs1⟩
  go_wp2_with fail
  refine (telegram_any w.heap.size 8 w1 hd1.out (by decide)).mono ?_
  rintro e w2 ⟨st, sq, Ai, ni, ci, l, rfl, hst0, hst1, hsq0, hsq1, hn8, hok, hown, hd2, hg2⟩
  have HOW := Lib.hid hown; have HOK := Lib.hid hok; have HG2 := Lib.hid hg2; clear hown hok hd2 hg2
  have HL := Lib.hid ((Sl.of_own HOW.out).len (fun _ => rfl) (by decide))
  have hb2 : Below w.heap.size w w2 := hb1.out.trans (below_of_grown HG2.out (Nat.le_refl _) hb1.out.size)
  have hle2 := hb2.size
  go_wp2_with fail
  refine (reports_any st sq Ai ni ci w2.heap.size l _ ((Sl.of_own HOW.out).alloc (Nat.le_refl _) _) (by simp)).mono ?_
  rintro e w3 ⟨Ar, cr, rfl, hown3, hb3⟩
  have hch : checkT st sq l = 0 := checkT_ok hst0 hst1 hsq0 hsq1 (by rw [HL.out]; omega) HOK.out
  have hrep : reportsT st sq l = l.map repOf := by rw [reportsT, if_pos hch]
  have hrl : (reportsT st sq l).length = ni := by rw [hrep, List.length_map, HL.out]
  rw [hrl] at hown3 ⊢
  rw [hrep] at hown3
  have HR3 := Lib.hid (Sl.of_own hown3)
  have HI3 := Lib.hid ((((Sl.of_own HOW.out).alloc (Nat.le_refl _) (.cells #[.int .i64 st, .int .i64 sq, .slice Ai ni ci] 31)).below hb3 (by simp)).more (B' := w3.heap.size) (by have := hb3.size; simp at this; omega))
  have c2 : w3.cell? ⟨w2.heap.size, 2, none⟩ = some (.slice Ai ni ci) := (hb3.cell (p := ⟨w2.heap.size, 2, none⟩) (by simp)).trans (by simp [go_sem])
  have hb : Below w.heap.size w w3 := (hb2.alloc hle2 _).trans (hb3.mono (by simp; omega))
  clear hch hrep hrl hown3 hb3
  go_wp2_with fail
  clear c2
  go_loopw [5, 6, 7, 26] (fun _ _ _ i wr => ∃ k : Nat, k ≤ ni ∧ i = .int .i64 k ∧ Hid (Below w3.heap.size w3 wr)) (fun _ _ _ i _ => ni - (intOf i).toNat)
  case atStart => exact ⟨0, Nat.zero_le _, rfl, Below.refl _ _⟩
  case round =>
    obtain ⟨k, hk, rfl, hbl⟩ := hrel
    by_cases hlt : k < ni
    · obtain ⟨b, off, x, rfl, hb, hx, hc⟩ := (HI3.out.below hbl.out (Nat.le_refl _)).at (fun _ => rfl) (by decide) hlt
      obtain ⟨b', off', y, rfl, hb', hy, hc'⟩ := (HR3.out.below hbl.out (Nat.le_refl _)).at (fun _ => rfl) (by decide) hlt
      have hyx := map_at hx hy
      subst hyx
      have hi1 : (k : Int) < (ni : Int) := by omega
      obtain ⟨dev, pt, inv, tm⟩ := x
      have c0 : wr.cell? ⟨b, off + k * 4, none⟩ = some (.int .i64 dev) := hc 0 _ rfl
      have c1 : wr.cell? ⟨b, off + k * 4 + 1, none⟩ = some (.int .i64 pt) := hc 1 _ rfl
      have c2 : wr.cell? ⟨b, off + k * 4 + 2, none⟩ = some (.bool inv) := hc 2 _ rfl
      have c3 : wr.cell? ⟨b, off + k * 4 + 3, none⟩ = some (.int .i64 tm) := hc 3 _ rfl
      have hbw : b' < wr.heap.size := by have := hbl.out.size; omega
      have d0 : wr.cell? ⟨b', off' + k * 5, none⟩ = some (.int .i64 dev) := hc' 0 _ rfl
      have d1 : wr.cell? ⟨b', off' + k * 5 + 1, none⟩ = some (.int .i64 (if pt = 2 then 2 else 1)) := hc' 1 _ rfl
      have d2 : wr.cell? ⟨b', off' + k * 5 + 2, none⟩ = some (.int .i64 1) := hc' 2 _ rfl
      have d3 : wr.cell? ⟨b', off' + k * 5 + 3, none⟩ = some (.int .i64 tm) := hc' 3 _ rfl
      have d4 : wr.cell? ⟨b', off' + k * 5 + 4, none⟩ = some (.bool (inv || (pt != 1 && pt != 2))) := hc' 4 _ rfl
      clear hc hx hc' hy hb hb'
      have hparts : (pt = 1) ∨ (pt = 2) ∨ (pt ≠ 1 ∧ pt ≠ 2) := by omega
      have hsz : w3.heap.size ≤ wr.heap.size := hbl.out.size
      rcases hparts with rfl | rfl | ⟨hp1, hp2⟩
      rotate_right
      · have q1 : (pt == 2) = false := by simpa using hp2
        have q0 : (pt == 1) = false := by simpa using hp1
        rw [if_neg hp2] at d1
        have q4 : (inv || (pt != 1 && pt != 2)) = true := by simp [hp1, hp2]
        rw [q4] at d4
        clear q4 hp1 hp2
        cases inv
        all_goals
          go_wp2_with fail
          go_quiet (fail)
          go_wp2_with fail
          go_roundw
          case rel => exact ⟨k + 1, by omega, by go_num, below_drewN (hbl.out.alloc hsz _) _⟩
          case measure => simp [intOf]; omega
      all_goals
        cases inv
        all_goals
          simp only [Bool.false_or, Bool.true_or] at d4
          go_wp2_with fail
          go_quiet (fail)
          go_wp2_with fail
          go_roundw
          case rel => exact ⟨k + 1, by omega, by go_num, below_drewN (hbl.out.alloc hsz _) _⟩
          case measure => simp [intOf]; omega
    · have hkn : k = ni := by omega
      subst hkn
      go_wp2_with fail
      refine (awake_any _).mono ?_
      rintro e w4 ⟨rfl, hb4⟩
      go_wp2_with fail
      go_ret
      exact ⟨rfl, (hb.trans (hbl.out.mono hb.size)).trans (hb4.mono (Nat.le_trans hb.size hbl.out.size))⟩
end Go.Proofs.Ytjinhfomfbcnjaa
