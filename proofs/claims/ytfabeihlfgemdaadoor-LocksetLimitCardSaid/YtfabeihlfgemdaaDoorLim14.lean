/-
  LocksetLimit: there may be 128 locks, and no more.
-/
import Derived.Test.YtfabeihlfgemdaaDoorAwk14
namespace Go.Proofs.YtfabeihlfgemdaaDoor
open Go.RowKit Go.ChangeAt Go.WideShapes
def limL (c : Nat) : List Lk := (List.range c).map fun i : Nat => (⟨0, 2, (i : Int)⟩ : Lk)
theorem limL_len (c : Nat) : (limL c).length = c := by simp [limL]
theorem limL_succ (c : Nat) : limL (c + 1) = limL c ++ [⟨0, 2, (c : Int)⟩] := by simp [limL, List.range_succ]
theorem lim_lk {i : Int} (h0 : 0 ≤ i) (h1 : i ≤ 65536) : lkErr dsB ⟨0, 2, i⟩ = 0 := by
  have hk : kindOf dsB 0 = 3 := rfl
  unfold lkErr
  simp only [hk]
  rw [if_neg (by decide), if_neg (by decide), if_neg (by decide), if_neg (by decide), if_neg (by omega), if_neg (by omega)]
theorem limL_good {c : Nat} (h : c ≤ 128) : GoodL dsB (limL c) := by
  refine ⟨by rw [limL_len]; exact h, fun k hk => ?_, ?_⟩
  · obtain ⟨i, hi, rfl⟩ := List.mem_map.1 hk
    have := List.mem_range.1 hi
    exact lim_lk (by omega) (by omega)
  · unfold limL
    rw [List.pairwise_map]
    exact List.pairwise_lt_range.imp fun h => ⟨(bef_iff _ _).2 (.inr ⟨rfl, by simp only; omega⟩), fun _ => rfl, by show ¬ _; simp only; omega⟩
theorem lim_err0 {c : Nat} (h : c ≤ 128) : locksErr nsB dsB (limL c) = 0 := by
  unfold locksErr
  rw [if_neg (by rw [checkB]; simp), if_neg (by rw [limL_len]; omega)]
  exact good_err (limL_good h)
theorem lim_err1 {c : Nat} (h : 128 < c) : locksErr nsB dsB (limL c) = 1 := by
  unfold locksErr
  rw [if_neg (by rw [checkB]; simp), if_pos (by rw [limL_len]; exact h)]
theorem lim_add {c : Nat} (h : c ≤ 128) : addErr nsB dsB (limL c) ⟨0, 2, 65536⟩ = if c = 128 then 1 else 0 := by
  unfold addErr
  have hu : usdL (limL c) 65536 = false := usd_not.2 fun x hx => by
    obtain ⟨i, hi, rfl⟩ := List.mem_map.1 hx
    have := List.mem_range.1 hi
    simp only; omega
  have ho : othL (limL c) ⟨0, 2, 65536⟩ = false := oth_not.2 fun x hx _ => by
    obtain ⟨i, hi, rfl⟩ := List.mem_map.1 hx
    rfl
  rw [if_neg (by rw [lim_err0 h]; simp), if_neg (by rw [lim_lk (by decide) (by decide)]; simp), if_neg (by rw [hu]; simp), if_neg (by rw [ho]; simp), limL_len]
theorem lim_add1 {c : Nat} (h : 128 < c) : addErr nsB dsB (limL c) ⟨0, 2, 65536⟩ = 1 := by
  unfold addErr
  rw [if_pos (by rw [lim_err1 h]; decide), lim_err1 h]
theorem AwB.far {w wr wr' : World} (h : AwB w wr) (hb : Below (w.heap.size + 3) wr wr') : AwB w wr' :=
  ⟨h.bn.below hb (by omega), h.sn.below hb (by omega), h.sd.below hb (by omega), h.bl.trans (hb.mono (by omega)), ⟨fun i u hu => (hb.cell (p := ⟨0, i, none⟩) (by have := h.tb; simp only; omega)).trans (h.la.1 i u hu), trivial⟩, Nat.le_trans h.sz hb.size, h.tb⟩
def LmR (w : World) (c gk : Nat) (lv iv : Value) (wr : World) : Prop := ∃ (i cc : Nat) (A : Option Addr), lv = .slice A i cc ∧ iv = .int .i64 i ∧ i ≤ c ∧ gk = c - i ∧ Hid (LocksO wr (w.heap.size + 3) A i cc (limL i)) ∧ Hid (AwB w wr)
theorem lim_rem (k : Int) : ∃ c : Nat, 127 + k % 3 = (c : Int) ∧ 127 ≤ c ∧ c ≤ 129 := by
  refine ⟨(127 + k % 3).toNat, ?_, ?_, ?_⟩ <;> omega
set_option maxRecDepth 100000 in
set_option maxHeartbeats 4000000 in
theorem walk_LocksetLimit (w : World) (hl : Laid w) (k : Int) (hk : (Lit.int IntKind.u8 k).wf = true) : Calls Tryd.prog 4 #[.int .u8 k] w fun e w' => e = .returned (.bool true) ∧ Below w.heap.size w w' := by
  have HA0 := Lib.hid (AwB.mk0 w hl)
  clear hl
  have hk0 := bounds_u8 hk
  obtain ⟨c, hc, hc1, hc2⟩ := lim_rem k
  go_enter Tryd.func4, Tryd.ntmps4
  go_upto_region 5 with (fail)
  generalize World.alloc (World.alloc (World.alloc _ _) _) _ = w0 at *
  clear hc hk0 hk
  go_loopg [5, 6] c (LmR w c)
  case atStart => exact ⟨0, 0, none, rfl, rfl, Nat.zero_le _, rfl, World.ownsRow_nil _ _ _ _, HA0⟩
  case round =>
    clear HA0
    obtain ⟨i, cc, A, rfl, rfl, hi, rfl, hO, hA⟩ := hrel
    have hzr := hA.out.sz
    by_cases hlt : i < c
    · go_wp2_with (at_builtin; go_must (refine wpList_app rfl (.tmp 24) (.tmp 27) rfl el_lock (by rfl) (World.ownsRow.alloc hO.out _) (by rfl) (Sl.newest (n := 1) (by simp) (by rfl) (by decide)) (by simp [Value.oneCell']) (by omega) (by omega) (by simp; omega) ?_; intro A' cap' w3 hown3 hgr3 hat3; have HO3 := Lib.hid hown3; have HG3 := Lib.hid hgr3; clear hown3 hgr3 hat3))
      go_roundg (c - (i + 1))
      case rel =>
        have hr1 : ∀ b, (Value.slice A i cc).ownBlock = some b → w.heap.size + 3 ≤ b := fun b e => (hO.out.lt b e).1
        have hg3 := HG3.out
        refine ⟨i + 1, cap', A', rfl, by go_num, by omega, rfl, ?_, ?_⟩
        · unfold Hid LocksO; rw [limL_succ, List.flatMap_append]; exact HO3.out
        · have hb1 : Below (w.heap.size + 3) wr w3 := ((Below.refl _ _).alloc hzr _).trans ⟨hg3.os, hg3.tape, hg3.output, hg3.size, fun t ht => hg3.block t (by simp; omega) (fun e => by have := hr1 t e.symm; omega)⟩
          exact hA.out.far hb1
      case measure => omega
    · obtain rfl : i = c := by omega
      have hii : decide (i < i) = false := by simp
      have k0 : wr.cell? ⟨w.heap.size + 1 + 1, 0, none⟩ = some (.slice (some ⟨w.heap.size, 0, none⟩) 2 2) := hA.out.bn.cell 0
      have k1 : wr.cell? ⟨w.heap.size + 1 + 1, 1, none⟩ = some (.slice (some ⟨w.heap.size + 1, 0, none⟩) 1 1) := hA.out.bn.cell 1
      have hlen := limL_len i
      have HS : Hid (Sl wr wr.heap.size 3 A (limL i).length cc ((limL i).flatMap Lk.cells)) := by rw [hlen]; exact Sl.of_own hO.out
      go_wp2_with fail
      clear k0 k1 hii
      have hcall := ladd_any (some ⟨w.heap.size, 0, none⟩) (some ⟨w.heap.size + 1, 0, none⟩) A 2 2 1 1 cc (w.heap.size + 1) (w.heap.size + 1 + 1) wr.heap.size nsB dsB (limL i) 0 2 65536 wr hA.out.la hA.out.sn hA.out.sd HS.out (by omega) (by omega) (Nat.le_refl _) namesB.1 namesB.2
      rw [hlen] at hcall HS
      refine hcall.mono ?_
      clear hcall
      intro e w1 hpost
      by_cases hlt : i < 128
      · obtain ⟨A1, c1, rfl, hO1, hb1⟩ := hpost.ok (by rw [lim_add (by omega), if_neg (by omega)])
        have HA1 := Lib.hid (hA.out.later hb1.out)
        have HS1 := Lib.hid (HS.out.below hb1.out (Nat.le_refl _))
        have hz1 := hb1.out.size
        have q1 : decide ((i : Int) < 128) = true := by simp; omega
        have q2 : decide (i < 128) = true := by simpa using hlt
        have q3 : (((limL i).length : Int) + 1 == (i : Int) + 1) = true := by rw [hlen]; simp
        rw [hlen]
        have HCK := Lib.hid (lcheck_any (some ⟨w.heap.size, 0, none⟩) (some ⟨w.heap.size + 1, 0, none⟩) A 2 2 1 1 i cc (w.heap.size + 1) (w.heap.size + 1 + 1) wr.heap.size nsB dsB (limL i) w1 HA1.out.la HA1.out.sn HA1.out.sd HS1.out (by omega) (by omega) hz1 namesB.1 namesB.2)
        rw [lim_err0 (by omega)] at HCK
        have k0 : w1.cell? ⟨w.heap.size + 1 + 1, 0, none⟩ = some (.slice (some ⟨w.heap.size, 0, none⟩) 2 2) := HA1.out.bn.cell 0
        have k1 : w1.cell? ⟨w.heap.size + 1 + 1, 1, none⟩ = some (.slice (some ⟨w.heap.size + 1, 0, none⟩) 1 1) := HA1.out.bn.cell 1
        clear hpost hb1 hA HS hO hO1 hzr
        go_wp2_with fail
        clear k0 k1
        refine HCK.out.mono ?_
        rintro e w2 ⟨rfl, hb2⟩
        have HA2 := Lib.hid (HA1.out.later hb2)
        clear hb2 HA1 HCK HS1
        go_wp2_with fail
        refine (awake_any w2 HA2.out.la).mono ?_
        rintro e w3 ⟨rfl, hb3⟩
        have HA3 := Lib.hid (HA2.out.later hb3)
        clear hb3 HA2
        go_wp2_with fail
        go_ret
        exact ⟨rfl, HA3.out.bl⟩
      have q1 : decide ((i : Int) < 128) = false := by simp; omega
      have q2 : decide (i < 128) = false := by simpa using hlt
      have hcase : i = 128 ∨ i = 129 := by omega
      rcases hcase with h128 | h128
      · have q3 : ((i : Int) == 128) = true := by simp; omega
        have q4 : decide (i = 128) = true := by simpa using h128
        obtain ⟨rfl, hb1⟩ := hpost.err (by rw [lim_add (by omega), if_pos h128]; decide)
        have HA1 := Lib.hid (hA.out.later hb1.out)
        have HS1 := Lib.hid (HS.out.below hb1.out (Nat.le_refl _))
        have hz1 := hb1.out.size
        rw [lim_add (by omega), if_pos h128]
        have HCK := Lib.hid (lcheck_any (some ⟨w.heap.size, 0, none⟩) (some ⟨w.heap.size + 1, 0, none⟩) A 2 2 1 1 i cc (w.heap.size + 1) (w.heap.size + 1 + 1) wr.heap.size nsB dsB (limL i) w1 HA1.out.la HA1.out.sn HA1.out.sd HS1.out (by omega) (by omega) hz1 namesB.1 namesB.2)
        rw [lim_err0 (by omega)] at HCK
        have k0 : w1.cell? ⟨w.heap.size + 1 + 1, 0, none⟩ = some (.slice (some ⟨w.heap.size, 0, none⟩) 2 2) := HA1.out.bn.cell 0
        have k1 : w1.cell? ⟨w.heap.size + 1 + 1, 1, none⟩ = some (.slice (some ⟨w.heap.size + 1, 0, none⟩) 1 1) := HA1.out.bn.cell 1
        clear hpost hb1 hA HS hO hzr h128
        go_wp2_with fail
        clear k0 k1
        refine HCK.out.mono ?_
        rintro e w2 ⟨rfl, hb2⟩
        have HA2 := Lib.hid (HA1.out.later hb2)
        clear hb2 HA1 HCK HS1
        go_wp2_with fail
        refine (awake_any w2 HA2.out.la).mono ?_
        rintro e w3 ⟨rfl, hb3⟩
        have HA3 := Lib.hid (HA2.out.later hb3)
        clear hb3 HA2
        go_wp2_with fail
        go_ret
        exact ⟨rfl, HA3.out.bl⟩
      · have q3 : ((i : Int) == 128) = false := by simp; omega
        have q4 : decide (i = 128) = false := by simp; omega
        obtain ⟨rfl, hb1⟩ := hpost.err (by rw [lim_add1 (by omega)]; decide)
        have HA1 := Lib.hid (hA.out.later hb1.out)
        have HS1 := Lib.hid (HS.out.below hb1.out (Nat.le_refl _))
        have hz1 := hb1.out.size
        rw [lim_add1 (by omega)]
        have HCK := Lib.hid (lcheck_any (some ⟨w.heap.size, 0, none⟩) (some ⟨w.heap.size + 1, 0, none⟩) A 2 2 1 1 i cc (w.heap.size + 1) (w.heap.size + 1 + 1) wr.heap.size nsB dsB (limL i) w1 HA1.out.la HA1.out.sn HA1.out.sd HS1.out (by omega) (by omega) hz1 namesB.1 namesB.2)
        rw [lim_err1 (by omega)] at HCK
        have k0 : w1.cell? ⟨w.heap.size + 1 + 1, 0, none⟩ = some (.slice (some ⟨w.heap.size, 0, none⟩) 2 2) := HA1.out.bn.cell 0
        have k1 : w1.cell? ⟨w.heap.size + 1 + 1, 1, none⟩ = some (.slice (some ⟨w.heap.size + 1, 0, none⟩) 1 1) := HA1.out.bn.cell 1
        clear hpost hb1 hA HS hO hzr h128
        go_wp2_with fail
        clear k0 k1
        refine HCK.out.mono ?_
        rintro e w2 ⟨rfl, hb2⟩
        have HA2 := Lib.hid (HA1.out.later hb2)
        clear hb2 HA1 HCK HS1
        go_wp2_with fail
        refine (awake_any w2 HA2.out.la).mono ?_
        rintro e w3 ⟨rfl, hb3⟩
        have HA3 := Lib.hid (HA2.out.later hb3)
        clear hb3 HA2
        go_wp2_with fail
        go_ret
        exact ⟨rfl, HA3.out.bl⟩
end Go.Proofs.YtfabeihlfgemdaaDoor
