/-
  Walk of the statements' maker of telegrams.
-/
import Derived.Test.YtjinhfomfbcnjaaMkOne
import Derived.Test.YtjinhfomfbcnjaaTeleM
import Derived.Deep.RegionLaw
import Derived.Deep.RegionWith
import Derived.Deep.DrawnRows
namespace Go.Proofs.Ytjinhfomfbcnjaa
open Go.RowKit
attribute [local go_sem ↓] Go.wp_at_zero Go.wp_at_succ
theorem el_item : ElemI Try.prog 29 38 4 32 := ElemI.mk' (z := .agg #[.int .i64 0, .int .i64 0, .bool false, .int .i64 0]) Try.underlying29 (by kernel_rfl) rfl (by decide)

def ItemOk (x : Item) : Prop := itemErr x = 0
/-- A valid telegram of at most 'most' items is returned; only the deck has changed. -/
def TelePost (w : World) (g : Nat) (most : Nat) (e : Ending) (w' : World) : Prop :=
  ∃ (st sq : Int) (A : Option Addr) (n c : Nat) (l : List Item), e = .returned (.agg #[.int .i64 st, .int .i64 sq, .slice A n c]) ∧ 0 ≤ st ∧ st < 256 ∧ 0 ≤ sq ∧ sq < 256 ∧ n ≤ most ∧ (∀ x ∈ l, ItemOk x) ∧
    w'.ownsRow w.heap.size 38 4 (.slice A n c) n (l.flatMap Item.cells) ∧ DeckAt w' g ∧ w.grownBy w' (some g)

theorem item_ok (x : Item) (h0 : 0 ≤ x.device) (h1 : x.device < 64) (h2 : 0 ≤ x.point) (h3 : x.point < 4) (h4 : 0 ≤ x.time) (h5 : x.time < 16777216) : ItemOk x := by
  unfold ItemOk itemErr
  rw [if_neg (by omega), if_neg (by omega), if_neg (by omega)]

set_option maxHeartbeats 4000000 in
theorem telegram_any (g most : Nat) (w : World) (hd : DeckAt w g) (hm : most ≤ 1000) : Calls Try.prog 12 #[.pointer (some ⟨g, 0, none⟩), .int .i64 most] w (TelePost w g most) := by
  have hlt := hd.lt
  have HD := Lib.hid hd; clear hd
  go_enter Try.func12, Try.ntmps12
  go_wp2_with fail
  refine (next_any g 256 _ (HD.out.alloc _) (by decide)).mono ?_
  rintro e w1 ⟨st, rfl, hst0, _, hst1, HD1, HG1, HS1⟩
  replace hst1 := hst1.out (by decide)
  go_wp2_with fail
  refine (next_any g 256 _ HD1.out (by decide)).mono ?_
  rintro e w2 ⟨sq, rfl, hsq0, _, hsq1, HD2, HG2, HS2⟩
  replace hsq1 := hsq1.out (by decide)
  go_wp2_with fail
  refine (next_any g _ _ (HD2.out.alloc _) (by omega)).mono ?_
  rintro e w3 ⟨k, rfl, hk0, _, hk1, HD3, HG3, HS3⟩
  replace hk1 := hk1.out (by omega)
  obtain ⟨tb, htb⟩ : ∃ tb, tb = w2.heap.size := ⟨_, rfl⟩
  have hb0 : Blk w3 w.heap.size 31 #[.int .i64 0, .int .i64 0, .slice none 0 0] :=
    ((((Blk.new w _ _).grown HG1.out (by simp; omega)).grown HG2.out (by simp; omega)).alloc _).grown HG3.out (by simp; omega)
  have hbt : Blk w3 tb 31 #[.int .i64 st, .int .i64 sq, .slice none 0 0] := by
    rw [htb]
    exact (Blk.new w2 _ _).grown HG3.out (by have := HS2.out; have := HS1.out; simp at *; omega)
  have htw : tb = w.heap.size + 1 := by have := HS2.out; have := HS1.out; simp at *; omega
  have hgw : w.grownBy w3 (some g) := grown_trans (grown_alloc (grown_trans (grown_trans (World.grownBy_alloc w _ _) HG1.out) HG2.out) _) HG3.out
  have HB0 := Lib.hid hb0; have HBT := Lib.hid hbt; have HTW := Lib.hid htw; have HGW := Lib.hid hgw; clear hb0 hbt htw hgw
  go_wp2_with fail
  rw [← htb]
  have htl : w.heap.size < tb := by rw [HTW.out]; omega
  clear htb
  go_loopw [6] (fun i wr => ∃ (k n c : Nat) (A : Option Addr) (l : List Item), i = .int .i64 k ∧ k + n ≤ most ∧ Hid (∀ x ∈ l, ItemOk x) ∧ Hid (Blk wr tb 31 #[.int .i64 st, .int .i64 sq, .slice A n c]) ∧ Hid (wr.ownsRow (tb + 1) 38 4 (.slice A n c) n (l.flatMap Item.cells)) ∧
    Hid (DeckAt wr g) ∧ Hid (w.grownBy wr (some g)) ∧ Hid (Blk wr w.heap.size 31 #[.int .i64 0, .int .i64 0, .slice none 0 0])) (fun i _ => (intOf i).toNat)
  case atStart => exact ⟨k.toNat, 0, 0, none, [], by rw [Int.toNat_of_nonneg hk0], by omega, (fun x hx => by cases hx), HBT, World.ownsRow_nil _ _ _ _, HD3, HGW, HB0⟩
  case round =>
    obtain ⟨k, n, c, A, l, rfl, hkn, hok, hbt, hown, hdk, hgw, hb0'⟩ := hrel
    by_cases hk : 0 < k
    · have hki : decide ((0 : Int) < (k : Int)) = true := by simp; omega
      have ct : wr.cell? ⟨tb, 2, none⟩ = some (.slice A n c) := hbt.out.cell 2
      have ft : wr.frozen? ⟨tb, 2, none⟩ = false := hbt.out.frozen 2
      go_wp2_with fail
      have hne : some tb ≠ some g := by intro e; injection e; omega
      have hne0 : some w.heap.size ≠ some g := by intro e; injection e; omega
      have hnv : (Value.slice A n c).ownBlock = none ∨ (Value.slice A n c).ownBlock ≠ some g := by
        cases hv : (Value.slice A n c).ownBlock with
        | none => exact .inl rfl
        | some b => exact .inr (fun e => by injection e with e; have := (hown.out.lt b hv).1; omega)
      have hnt : some tb ≠ (Value.slice A n c).ownBlock := fun e => by have := (hown.out.lt tb e.symm).1; omega
      have HBD : Hid (Blk wr.drew tb 31 #[.int .i64 st, .int .i64 sq, .slice A n c]) := hbt.out
      go_region_law
        (first
          | (refine step_app (by rfl) _ _ (by rfl) el_item (by rfl) (hod.out.alloc _) (by rfl) (Sl.newest (n := 1) rfl (by rfl) (by decide)) (by simp [Value.oneCell']) (by omega) (by omega) (by simp; have := htd.out.lt; omega) ?_; intro A' cap' we howne hgre hate; have hte := Lib.hid (Blk.grown (htd.out.alloc _) hgre hnt); have cte : we.cell? ⟨tb, 2, none⟩ = some (.slice A n c) := hte.out.cell 2; have fte : we.frozen? ⟨tb, 2, none⟩ = false := hte.out.frozen 2)
          | (go_simp; go_at_call_of 17 (Value.int .i64 64); refine (next_any g 64 _ (by exact hdk.out) (by decide)).mono ?_; rintro e wa ⟨ra, rfl, ha0, _, ha1, hda, hga, hsa⟩; have cta : wa.cell? ⟨tb, 2, none⟩ = some (.slice A n c) := (Blk.grown HBD.out hga.out hne).cell 2)
          | (go_simp; go_at_call_of 17 (Value.int .i64 4); refine (next_any g 4 _ (by exact hda.out) (by decide)).mono ?_; rintro e wb ⟨rb, rfl, hb0, _, hb1, hdb, hgb, hsb⟩; have ctb : wb.cell? ⟨tb, 2, none⟩ = some (.slice A n c) := ((Blk.grown HBD.out hga.out hne).grown hgb.out hne).cell 2)
          | (go_simp; go_at_call 19; refine (one_any g 4 _ (by exact hdb.out) (by decide)).mono ?_; rintro e wc ⟨rc, rfl, hdc, hgc, hsc⟩; have ctc : wc.cell? ⟨tb, 2, none⟩ = some (.slice A n c) := (((Blk.grown HBD.out hga.out hne).grown hgb.out hne).grown hgc.out hne).cell 2)
          | (go_simp; go_at_call_of 17 (Value.int .i64 16777216); refine (next_any g 16777216 _ (by exact hdc.out) (by decide)).mono ?_; rintro e wd ⟨rd, rfl, hd0, _, hd1, hdd, hgd, hsd⟩; have htd := Lib.hid ((((Blk.grown HBD.out hga.out hne).grown hgb.out hne).grown hgc.out hne).grown hgd.out hne); have hod := Lib.hid (((((World.ownsRow.drew hown.out).kept hga.out hnv).kept hgb.out hnv).kept hgc.out hnv).kept hgd.out hnv); have ctd : wd.cell? ⟨tb, 2, none⟩ = some (.slice A n c) := htd.out.cell 2; have hltd : tb < wd.heap.size := htd.out.lt))
      all_goals
        go_wp2
        go_roundw
        case rel =>
          have hx : ItemOk ⟨ra, rb, rc, rd⟩ := item_ok _ ha0 (ha1.out (by decide)) hb0 (hb1.out (by decide)) hd0 (hd1.out (by decide))
          have hbw : w.heap.size ≤ we.heap.size := Nat.le_of_lt (Nat.lt_trans htl hte.out.lt)
          refine ⟨k - 1, n + 1, cap', A', l ++ [⟨ra, rb, rc, rd⟩], by rw [show ((k - 1 : Nat) : Int) = (k : Int) - 1 from by omega], by omega, ?_, hte.out.set 2 _, ?_, ?_, ?_, ?_⟩
          · intro x hx'
            rcases List.mem_append.1 hx' with h | h
            · exact hok.out x h
            · rw [List.mem_singleton.1 h]; exact hx
          · unfold Hid
            rw [List.flatMap_append]
            exact ownsRow_setCell_below howne (a := ⟨tb, 2, none⟩) (by simp) _
          · exact ((hdd.out.alloc _).grown hgre (fun b hb => by have := (hod.out.lt b hb).1; omega)).setCell (by simpa using by omega) _
          · exact grown_set (grown_new (grown_alloc (grown_trans (grown_trans (grown_trans (grown_trans (grown_drew hgw.out) hga.out) hgb.out) hgc.out) hgd.out) _) hgre (fun b hb => by have := (hod.out.lt b hb).1; omega)) (by simpa using by omega) _
          · exact (Blk.grown (((((Blk.grown (w := wr.drew) hb0'.out hga.out hne0).grown hgb.out hne0).grown hgc.out hne0).grown hgd.out hne0).alloc _) hgre (fun e => by have := (hod.out.lt _ e.symm).1; omega)).far (by simpa using by omega) _
        case measure => simp [intOf]; omega
    · have hk0 : k = 0 := by omega
      subst hk0
      have c0 : wr.cell? ⟨tb, 0, none⟩ = some (.int .i64 st) := hbt.out.cell 0
      have c1 : wr.cell? ⟨tb, 1, none⟩ = some (.int .i64 sq) := hbt.out.cell 1
      have c2 : wr.cell? ⟨tb, 2, none⟩ = some (.slice A n c) := hbt.out.cell 2
      have d0 : wr.cell? ⟨w.heap.size, 0, none⟩ = some (.int .i64 0) := hb0'.out.cell 0
      have d1 : wr.cell? ⟨w.heap.size, 1, none⟩ = some (.int .i64 0) := hb0'.out.cell 1
      have d2 : wr.cell? ⟨w.heap.size, 2, none⟩ = some (.slice none 0 0) := hb0'.out.cell 2
      have f0 := hb0'.out.frozen 0
      have f1 := hb0'.out.frozen 1
      have f2 := hb0'.out.frozen 2
      go_wp2
      refine bodyPost_ret (v := .agg #[.int .i64 st, .int .i64 sq, .slice A n c]) (by simp [results, Try.results12, go_sem, d0, d1, d2]) rfl ?_
      refine ⟨st, sq, A, n, c, l, rfl, hst0, hst1, hsq0, hsq1, by omega, hok.out, ?_, ?_, ?_⟩
      · exact (ownsRow_setCell_below (ownsRow_setCell_below (ownsRow_setCell_below hown.out (a := ⟨w.heap.size, 0, none⟩) (by simpa using by omega) _) (a := ⟨w.heap.size, 1, none⟩) (by simpa using by omega) _) (a := ⟨w.heap.size, 2, none⟩) (by simpa using by omega) _).mono (by omega)
      · exact ((hdk.out.setCell hlt _).setCell hlt _).setCell hlt _
      · exact grown_set (grown_set (grown_set hgw.out (Nat.le_refl _) _) (Nat.le_refl _) _) (Nat.le_refl _) _
end Go.Proofs.Ytjinhfomfbcnjaa
