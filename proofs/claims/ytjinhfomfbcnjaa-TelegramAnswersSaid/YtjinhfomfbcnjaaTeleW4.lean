/-
  Walks of layer 9: Reports.
-/
import Derived.Test.YtjinhfomfbcnjaaTeleW3
namespace Go.Proofs.Ytjinhfomfbcnjaa
open Go.RowKit
theorem el_report : ElemI Try.prog 35 40 5 40 := ElemI.mk' (z := .agg #[.int .i64 0, .int .i64 0, .int .i64 0, .int .i64 0, .bool false]) Try.underlying35 (by kernel_rfl) rfl (by decide)

structure Report where
  device : Int
  pos : Int
  source : Int
  time : Int
  doubt : Bool
def Report.cells (x : Report) : List Value := [.int .i64 x.device, .int .i64 x.pos, .int .i64 x.source, .int .i64 x.time, .bool x.doubt]
def repOf (x : Item) : Report := ⟨x.device, if x.point = 2 then 2 else 1, 1, x.time, x.invalid || (x.point != 1 && x.point != 2)⟩
def reportsT (st sq : Int) (l : List Item) : List Report := if checkT st sq l = 0 then l.map repOf else []
/-- A slice of reports of the call's own is returned; nothing that was there is changed. -/
def RetReports (w : World) (l : List Report) (e : Ending) (w' : World) : Prop :=
  ∃ A c, e = .returned (.slice A l.length c) ∧ w'.ownsRow w.heap.size 40 5 (.slice A l.length c) l.length (l.flatMap Report.cells) ∧ Below w.heap.size w w'

set_option maxHeartbeats 2000000 in
theorem reports_any (st sq : Int) (A : Option Addr) (n c B : Nat) (l : List Item) (w : World) (hr : Sl w B 4 A n c (l.flatMap Item.cells)) (hB : B ≤ w.heap.size) : Calls Try.prog 14 #[.agg #[.int .i64 st, .int .i64 sq, .slice A n c]] w (RetReports w (reportsT st sq l)) := by
  have HL := Lib.hid (hr.len (fun _ => rfl) (by decide))
  obtain ⟨hnc, hcm⟩ := hr.le
  have HR := Lib.hid hr; clear hr
  by_cases h0 : checkT st sq l = 0; rotate_left
  · have HC := Lib.hid (check_any st sq A n c B l (w.alloc (.cells #[.int .i64 st, .int .i64 sq, .slice A n c] 31)) (HR.out.alloc hB _) (by simp; omega))
    have HE : Hid (reportsT st sq l = []) := by unfold Hid; rw [reportsT, if_neg h0]
    generalize checkT st sq l = er at *
    have h0'' : (er != 0) = true := by simpa using h0
    clear h0
    go_enter Try.func14, Try.ntmps14
    go_wp2_with fail
    refine HC.out.mono ?_
    rintro e w1 ⟨rfl, hb1⟩
    go_wp2_with fail
    go_ret
    rw [HE.out]
    exact ⟨none, 0, rfl, World.ownsRow_nil _ _ _ _, ((Below.refl _ _).alloc (Nat.le_refl _) _).trans (hb1.mono (by simp))⟩
  have h3 : n ≤ 32 := by
    unfold checkT at h0
    split at h0
    · contradiction
    split at h0
    · contradiction
    split at h0
    · contradiction
    rw [← HL.out]; omega
  have HE : Hid (reportsT st sq l = l.map repOf) := by unfold Hid; rw [reportsT, if_pos h0]
  have H0 := Lib.hid h0; clear h0
  go_enter Try.func14, Try.ntmps14
  go_wp2_with fail
  refine (check_any st sq A n c B l _ (HR.out.alloc hB _) (by simp; omega)).mono ?_
  rintro e w1 ⟨rfl, hb1⟩
  rw [H0.out]
  have c2 : w1.cell? ⟨w.heap.size, 2, none⟩ = some (.slice A n c) := (hb1.cell (p := ⟨w.heap.size, 2, none⟩) (by simp)).trans (by simp [go_sem])
  have hbw : Below w.heap.size w w1 := ((Below.refl _ _).alloc (Nat.le_refl _) _).trans (hb1.mono (by simp))
  clear hb1
  go_wp2_with fail
  go_loopw [3, 5, 6, 13] (fun v _ _ i wr => ∃ (k cap : Nat) (Av : Option Addr), k ≤ n ∧ i = .int .i64 k ∧ v = .slice Av k cap ∧ Hid (wr.ownsRow w.heap.size 40 5 (.slice Av k cap) k (((l.take k).map repOf).flatMap Report.cells)) ∧ Below w.heap.size w wr) (fun _ _ _ i _ => n - (intOf i).toNat)
  case atStart => exact ⟨0, 0, none, Nat.zero_le _, rfl, rfl, World.ownsRow_nil _ _ _ _, hbw⟩
  case round =>
    obtain ⟨k, cap, Av, hk, rfl, rfl, hown, hbl⟩ := hrel
    have hsz := hbl.size
    by_cases hlt : k < n
    · obtain ⟨b, off, x, rfl, hb, hx, hc⟩ := (HR.out.below hbl hB).at (fun _ => rfl) (by decide) hlt
      obtain ⟨dev, pt, inv, tm⟩ := x
      have c0 : wr.cell? ⟨b, off + k * 4, none⟩ = some (.int .i64 dev) := hc 0 _ rfl
      have c1 : wr.cell? ⟨b, off + k * 4 + 1, none⟩ = some (.int .i64 pt) := hc 1 _ rfl
      have c2 : wr.cell? ⟨b, off + k * 4 + 2, none⟩ = some (.bool inv) := hc 2 _ rfl
      have c3 : wr.cell? ⟨b, off + k * 4 + 3, none⟩ = some (.int .i64 tm) := hc 3 _ rfl
      have HX := Lib.hid hx; clear hc hx
      have hparts : (pt = 1) ∨ (pt = 2) ∨ (pt ≠ 1 ∧ pt ≠ 2) := by omega
      rcases hparts with rfl | rfl | ⟨hp1, hp2⟩
      rotate_right
      · have q1 : (pt == 2) = false := by simpa using hp2
        have q2 : (pt != 1) = true := by simpa using hp1
        have q3 : (pt != 2) = true := by simpa using hp2
        have HP : Hid (repOf ⟨dev, pt, inv, tm⟩ = ⟨dev, 1, 1, tm, true⟩) := by unfold Hid; simp [repOf, hp1, hp2]
        clear hp1 hp2
        cases inv
        all_goals
          go_wp2_with (at_builtin; go_must (refine wpList_app rfl (.tmp 39) (.tmp 41) rfl el_report (by rfl) (((hown.out.alloc _).alloc _).alloc _) (by rfl) (Sl.newest (n := 1) (by simp) (by rfl) (by decide)) (by simp [Value.oneCell']) (by omega) (by omega) (by simp; omega) ?_; intro A' cap' w2 hown2 hgr2 hat2))
          clear c0 c1 c2 c3
          go_wp2
          go_roundw
          case rel =>
            refine ⟨k + 1, cap', A', by omega, by go_num, rfl, ?_, ?_⟩
            · unfold Hid
              rw [take_snoc HX.out, List.map_append, List.flatMap_append, List.map_singleton, HP.out]
              exact hown2
            · exact (((hbl.alloc hsz _).alloc (by simp; omega) _).alloc (by simp; omega) _).grown hgr2 (by simp; omega) fun g hg => (own_lt hown.out g hg).1
          case measure => simp [intOf]; omega
      all_goals
        cases inv
        all_goals
          go_wp2_with (at_builtin; go_must (refine wpList_app rfl (.tmp 39) (.tmp 41) rfl el_report (by rfl) (((hown.out.alloc _).alloc _).alloc _) (by rfl) (Sl.newest (n := 1) (by simp) (by rfl) (by decide)) (by simp [Value.oneCell']) (by omega) (by omega) (by simp; omega) ?_; intro A' cap' w2 hown2 hgr2 hat2))
          clear c0 c1 c2 c3
          go_wp2
          go_roundw
          case rel =>
            refine ⟨k + 1, cap', A', by omega, by go_num, rfl, ?_, ?_⟩
            · unfold Hid
              rw [take_snoc HX.out, List.map_append, List.flatMap_append, List.map_singleton]
              exact hown2
            · exact (((hbl.alloc hsz _).alloc (by simp; omega) _).alloc (by simp; omega) _).grown hgr2 (by simp; omega) fun g hg => (own_lt hown.out g hg).1
          case measure => simp [intOf]; omega
    · have hkn : k = n := by omega
      subst hkn
      go_wp2
      go_ret
      rw [HE.out]
      have hl : (l.map repOf).length = k := by rw [List.length_map, HL.out]
      refine ⟨Av, cap, by rw [hl]; rfl, ?_, hbl⟩
      have := hown.out
      rw [List.take_of_length_le (by rw [HL.out]; omega)] at this
      rw [hl]; exact this
end Go.Proofs.Ytjinhfomfbcnjaa
