/-
  The references of layers 3 and 6: walks of Gap and Finer.
-/
import Derived.Test.YtfabeihlfgemdaaDoorMsk
import Derived.Test.YtfabeihlfgemdaaDoorOrdB
import Derived.Deep.DeepCutAuto
namespace Go.Proofs.YtfabeihlfgemdaaDoor
open Go.RowKit
def andM (x y : Int) : Int := if x = y then x else if x = 3 then y else if y = 3 then x else 0
theorem and_mask {x y : Int} (hx : maskB x = true) (hy : maskB y = true) : bits .and .i64 x y = andM x y := by
  simp only [maskB, Bool.and_eq_true, decide_eq_true_eq] at hx hy
  rcases (show x = 1 ∨ x = 2 ∨ x = 3 by omega) with rfl | rfl | rfl <;> rcases (show y = 1 ∨ y = 2 ∨ y = 3 by omega) with rfl | rfl | rfl <;> kernel_rfl
/-- The first masks are finer than the others. -/
def finB (a b : List Int) : Prop := a.length = b.length ∧ a.all maskB = true ∧ b.all maskB = true ∧ ∀ (i : Nat) (x y : Int), a[i]? = some x → b[i]? = some y → andM x y = x
def FiR (w : World) (a b : List Int) (n gk : Nat) (iv : Value) (wr : World) : Prop := ∃ i : Nat, iv = .int .i64 i ∧ i ≤ n ∧ gk = n - i ∧ Hid (∀ k x y, k < i → a[k]? = some x → b[k]? = some y → andM x y = x) ∧ Hid (Below w.heap.size w wr)
open Classical in
set_option maxRecDepth 100000 in
set_option maxHeartbeats 4000000 in
theorem finer_any (A A2 : Option Addr) (n c n2 c2 B B2 : Nat) (a b : List Int) (w : World) (ha : Sl w B 1 A n c (intsV a)) (hb : Sl w B2 1 A2 n2 c2 (intsV b)) (hB : B ≤ w.heap.size) (hB2 : B2 ≤ w.heap.size) :
    Calls Tryd.prog 33 #[.slice A n c, .slice A2 n2 c2] w fun e w' => e = .returned (.bool (decide (finB a b))) ∧ Below w.heap.size w w' := by
  have HLA := Lib.hid (ha.len (f := fun x : Int => [Value.int .i64 x]) (fun _ => rfl) (by decide)); have HLB := Lib.hid (hb.len (f := fun x : Int => [Value.int .i64 x]) (fun _ => rfl) (by decide))
  have HA := Lib.hid ha; have HBB := Lib.hid hb
  have hle := ha.le
  have hle2 := hb.le
  clear ha hb
  by_cases hn : n = n2; rotate_left
  · have q : ((n : Int) != (n2 : Int)) = true := by simp; omega
    have q2 : decide (n = n2) = false := by simpa using hn
    have HR : Hid (decide (finB a b) = false) := by
      unfold Hid; rw [decide_eq_false_iff_not]; rintro ⟨e, _⟩; exact hn (HLA.out.symm.trans (e.trans HLB.out))
    clear hn
    go_enter Tryd.func33, Tryd.ntmps33
    go_wp2_with fail
    go_ret
    exact ⟨ret_bool HR.out.symm, Below.refl _ _⟩
  subst hn
  have hma := masked_any A n c B a w HA.out hB
  rcases hm1 : a.all maskB with _ | _
  · rw [hm1] at hma
    have HR : Hid (decide (finB a b) = false) := by
      unfold Hid; rw [decide_eq_false_iff_not]; rintro ⟨_, e, _⟩; rw [hm1] at e; cases e
    clear hm1
    have HMA := Lib.hid hma
    clear hma
    go_enter Tryd.func33, Tryd.ntmps33
    go_wp2_with fail
    refine HMA.out.mono ?_
    rintro e w1 ⟨rfl, hb1⟩
    go_wp2_with fail
    go_ret
    exact ⟨ret_bool HR.out.symm, hb1⟩
  rw [hm1] at hma
  have HM1 := Lib.hid hm1
  have HMA := Lib.hid hma
  clear hma hm1
  rcases hm2 : b.all maskB with _ | _
  · have HR : Hid (decide (finB a b) = false) := by
      unfold Hid; rw [decide_eq_false_iff_not]; rintro ⟨_, _, e, _⟩; rw [hm2] at e; cases e
    have HM2 := Lib.hid hm2
    clear hm2
    go_enter Tryd.func33, Tryd.ntmps33
    go_wp2_with fail
    refine HMA.out.mono ?_
    rintro e w1 ⟨rfl, hb1⟩
    have hmb := masked_any A2 n c2 B2 b w1 (HBB.out.below hb1 hB2) (by have := hb1.size; omega)
    rw [HM2.out] at hmb
    have HMB := Lib.hid hmb
    clear hmb
    go_wp2_with fail
    refine HMB.out.mono ?_
    rintro e w2 ⟨rfl, hb2⟩
    have HB2 := Lib.hid (hb1.trans (hb2.mono hb1.size))
    clear hb1 hb2
    go_wp2_with fail
    go_ret
    exact ⟨ret_bool HR.out.symm, HB2.out⟩
  have HM2 := Lib.hid hm2
  clear hm2
  go_enter Tryd.func33, Tryd.ntmps33
  go_wp2_with fail
  refine HMA.out.mono ?_
  rintro e w1 ⟨rfl, hb1⟩
  have hmb := masked_any A2 n c2 B2 b w1 (HBB.out.below hb1 hB2) (by have := hb1.size; omega)
  rw [HM2.out] at hmb
  have HMB := Lib.hid hmb
  clear hmb
  go_wp2_with fail
  refine HMB.out.mono ?_
  rintro e w2 ⟨rfl, hb2⟩
  have HB2 := Lib.hid (hb1.trans (hb2.mono hb1.size))
  clear hb1 hb2 HMA HMB
  go_wp2_with fail
  go_loopg [5] n (FiR w a b n)
  case atStart => exact ⟨0, rfl, Nat.zero_le _, rfl, (fun k x y hk => absurd hk (by omega)), HB2⟩
  case round =>
    clear HB2
    obtain ⟨i, rfl, hi, rfl, hno, hbl⟩ := hrel
    by_cases hlt : i < n
    · obtain ⟨b0, off, x, rfl, hb0, hx, c0⟩ := (HA.out.below hbl.out hB).at1 (g := fun x : Int => .int .i64 x) hlt
      obtain ⟨b1, off1, y, rfl, hb1, hy, e0⟩ := (HBB.out.below hbl.out hB2).at1 (g := fun x : Int => .int .i64 x) hlt
      have HX := Lib.hid hx; have HY := Lib.hid hy
      have hand := and_mask (List.all_eq_true.1 HM1.out x (List.mem_of_getElem? hx)) (List.all_eq_true.1 HM2.out y (List.mem_of_getElem? hy))
      have HCS : Hid (wr.cell? ⟨b0, off + i, none⟩ = some (.int .i64 x) ∧ wr.cell? ⟨b1, off1 + i, none⟩ = some (.int .i64 y)) := ⟨c0, e0⟩
      clear hx hy c0 e0
      by_cases he : andM x y = x
      · have HN : Hid (∀ k x y, k < i + 1 → a[k]? = some x → b[k]? = some y → andM x y = x) := fun k x' y' hk hx' hy' => by
          rcases Nat.lt_succ_iff_lt_or_eq.1 hk with h | rfl
          · exact hno.out k x' y' h hx' hy'
          · rw [HX.out] at hx'; rw [HY.out] at hy'
            injection hx' with hx'; injection hy' with hy'; subst hx'; subst hy'; exact he
        have qe : (andM x y != x) = false := by simpa using he
        clear he
        go_upto_region 6 with (fail)
        refine wp_region_J (S := fun W' => W'.cell? ⟨b0, off + i, none⟩ = some (.int .i64 x) ∧ W'.cell? ⟨b1, off1 + i, none⟩ = some (.int .i64 y)) (J := []) (by kernel_rfl) ?_ (fun hHeld => ?_)
        · exact HCS.out
        try dsimp only at hHeld
        refine wpAnyJ_takeL (i := 0) (d := some 27) (v := ?_) #[true, false, false, false, false, false, false, false, false, false, false, false, false, false] (by kernel_rfl) rfl rfl (by kernel_rfl) (by kernel_rfl) (by kernel_rfl) (by kernel_rfl) (by kernel_rfl) (fun _ _ _ h => h) (Or.inl ⟨by rfl, ?_⟩) hHeld ?_
        rotate_left
        · (intro w hSw; (try dsimp only at hSw);  go_simp; try with_reducible rfl)
        try simp only [Act.put, List.setIfInBounds_toArray, List.set_cons_zero, List.set_cons_succ]
        refine wpAnyJ_takeL (i := 1) (d := some 28) (v := ?_) #[true, true, false, false, false, false, false, false, false, false, false, false, false, false] (by kernel_rfl) rfl rfl (by kernel_rfl) (by kernel_rfl) (by kernel_rfl) (by kernel_rfl) (by kernel_rfl) (fun _ _ _ h => h) (Or.inl ⟨by rfl, ?_⟩) hHeld ?_
        rotate_left
        · (intro w hSw; (try dsimp only at hSw);  go_simp; try with_reducible rfl)
        try simp only [Act.put, List.setIfInBounds_toArray, List.set_cons_zero, List.set_cons_succ]
        refine wpAnyJ_takeL (i := 2) (d := some 29) (v := ?_) #[true, true, true, false, false, false, false, false, false, false, false, false, false, false] (by kernel_rfl) rfl rfl (by kernel_rfl) (by kernel_rfl) (by kernel_rfl) (by kernel_rfl) (by kernel_rfl) (fun _ _ _ h => h) (Or.inl ⟨by rfl, ?_⟩) hHeld ?_
        rotate_left
        · (intro w hSw; (try dsimp only at hSw);  go_simp; try with_reducible rfl)
        try simp only [Act.put, List.setIfInBounds_toArray, List.set_cons_zero, List.set_cons_succ]
        refine wpAnyJ_takeL (i := 3) (d := some 30) (v := ?_) #[true, true, true, true, false, false, false, false, false, false, false, false, false, false] (by kernel_rfl) rfl rfl (by kernel_rfl) (by kernel_rfl) (by kernel_rfl) (by kernel_rfl) (by kernel_rfl) (fun _ _ _ h => h) (Or.inl ⟨by rfl, ?_⟩) hHeld ?_
        rotate_left
        · (intro w hSw; (try dsimp only at hSw);  go_simp; try with_reducible rfl)
        try simp only [Act.put, List.setIfInBounds_toArray, List.set_cons_zero, List.set_cons_succ]
        refine wpAnyJ_takeL (i := 4) (d := some 31) (v := ?_) #[true, true, true, true, true, false, false, false, false, false, false, false, false, false] (by kernel_rfl) rfl rfl (by kernel_rfl) (by kernel_rfl) (by kernel_rfl) (by kernel_rfl) (by kernel_rfl) (fun _ _ _ h => h) (Or.inl ⟨by rfl, ?_⟩) hHeld ?_
        rotate_left
        · (intro w hSw; (try dsimp only at hSw);  go_simp; try with_reducible rfl)
        try simp only [Act.put, List.setIfInBounds_toArray, List.set_cons_zero, List.set_cons_succ]
        refine wpAnyJ_takeL (i := 5) (d := some 32) (v := ?_) #[true, true, true, true, true, true, false, false, false, false, false, false, false, false] (by kernel_rfl) rfl rfl (by kernel_rfl) (by kernel_rfl) (by kernel_rfl) (by kernel_rfl) (by kernel_rfl) (fun _ _ _ h => h) (Or.inl ⟨by rfl, ?_⟩) hHeld ?_
        rotate_left
        · (intro w hSw; (try dsimp only at hSw);  go_simp; try with_reducible rfl)
        try simp only [Act.put, List.setIfInBounds_toArray, List.set_cons_zero, List.set_cons_succ]
        refine wpAnyJ_takeL (i := 6) (d := some 33) (v := ?_) #[true, true, true, true, true, true, true, false, false, false, false, false, false, false] (by kernel_rfl) rfl rfl (by kernel_rfl) (by kernel_rfl) (by kernel_rfl) (by kernel_rfl) (by kernel_rfl) (fun _ _ _ h => h) (Or.inl ⟨by rfl, ?_⟩) hHeld ?_
        rotate_left
        · (intro w hSw; (try dsimp only at hSw);  go_simp; try with_reducible rfl)
        try simp only [Act.put, List.setIfInBounds_toArray, List.set_cons_zero, List.set_cons_succ]
        refine wpAnyJ_takeL (i := 7) (d := some 34) (v := ?_) #[true, true, true, true, true, true, true, true, false, false, false, false, false, false] (by kernel_rfl) rfl rfl (by kernel_rfl) (by kernel_rfl) (by kernel_rfl) (by kernel_rfl) (by kernel_rfl) (fun _ _ _ h => h) (Or.inl ⟨by rfl, ?_⟩) hHeld ?_
        rotate_left
        · (intro w hSw; (try dsimp only at hSw);  go_simp; try with_reducible rfl)
        try simp only [Act.put, List.setIfInBounds_toArray, List.set_cons_zero, List.set_cons_succ]
        refine wpAnyJ_takeL (i := 8) (d := some 35) (v := ?_) #[true, true, true, true, true, true, true, true, true, false, false, false, false, false] (by kernel_rfl) rfl rfl (by kernel_rfl) (by kernel_rfl) (by kernel_rfl) (by kernel_rfl) (by kernel_rfl) (fun _ _ _ h => h) (Or.inl ⟨by rfl, ?_⟩) hHeld ?_
        rotate_left
        · (intro w hSw; (try dsimp only at hSw);  go_simp; try with_reducible rfl)
        try simp only [Act.put, List.setIfInBounds_toArray, List.set_cons_zero, List.set_cons_succ]
        refine wpAnyJ_takeL (i := 9) (d := some 36) (v := ?_) #[true, true, true, true, true, true, true, true, true, true, false, false, false, false] (by kernel_rfl) rfl rfl (by kernel_rfl) (by kernel_rfl) (by kernel_rfl) (by kernel_rfl) (by kernel_rfl) (fun _ _ _ h => h) (Or.inl ⟨by rfl, ?_⟩) hHeld ?_
        rotate_left
        · (intro w hSw; (try dsimp only at hSw);  go_simp; try with_reducible rfl)
        try simp only [Act.put, List.setIfInBounds_toArray, List.set_cons_zero, List.set_cons_succ]
        refine wpAnyJ_takeL (i := 10) (d := some 37) (v := ?_) #[true, true, true, true, true, true, true, true, true, true, true, false, false, false] (by kernel_rfl) rfl rfl (by kernel_rfl) (by kernel_rfl) (by kernel_rfl) (by kernel_rfl) (by kernel_rfl) (fun _ _ _ h => h) (Or.inl ⟨by rfl, ?_⟩) hHeld ?_
        rotate_left
        · (intro w hSw; (try dsimp only at hSw);  go_simp; try with_reducible rfl)
        try simp only [Act.put, List.setIfInBounds_toArray, List.set_cons_zero, List.set_cons_succ]
        refine wpAnyJ_takeL (i := 11) (d := some 38) (v := ?_) #[true, true, true, true, true, true, true, true, true, true, true, true, false, false] (by kernel_rfl) rfl rfl (by kernel_rfl) (by kernel_rfl) (by kernel_rfl) (by kernel_rfl) (by kernel_rfl) (fun _ _ _ h => h) (Or.inl ⟨by rfl, ?_⟩) hHeld ?_
        rotate_left
        · (intro w hSw; (try dsimp only at hSw);  go_simp; try with_reducible rfl)
        try simp only [Act.put, List.setIfInBounds_toArray, List.set_cons_zero, List.set_cons_succ]
        refine wpAnyJ_takeL (i := 12) (d := some 39) (v := ?_) #[true, true, true, true, true, true, true, true, true, true, true, true, true, false] (by kernel_rfl) rfl rfl (by kernel_rfl) (by kernel_rfl) (by kernel_rfl) (by kernel_rfl) (by kernel_rfl) (fun _ _ _ h => h) (Or.inl ⟨by rfl, ?_⟩) hHeld ?_
        rotate_left
        · (intro w hSw; (try dsimp only at hSw);  go_simp; try with_reducible rfl)
        try simp only [Act.put, List.setIfInBounds_toArray, List.set_cons_zero, List.set_cons_succ]
        refine wpAnyJ_takeL (i := 13) (d := some 40) (v := ?_) #[true, true, true, true, true, true, true, true, true, true, true, true, true, true] (by kernel_rfl) rfl rfl (by kernel_rfl) (by kernel_rfl) (by kernel_rfl) (by kernel_rfl) (by kernel_rfl) (fun _ _ _ h => h) (Or.inl ⟨by rfl, ?_⟩) hHeld ?_
        rotate_left
        · (intro w hSw; (try dsimp only at hSw);  go_simp; try with_reducible rfl)
        try simp only [Act.put, List.setIfInBounds_toArray, List.set_cons_zero, List.set_cons_succ]
        refine wpAnyJ_done (by kernel_rfl) ?_ _
        clear hHeld
        go_wp2_with fail
        go_roundg (n - (i + 1))
        case rel => exact ⟨i + 1, by go_num, by omega, rfl, HN, hbl.out.drew⟩
        case measure => omega
      · have HR : Hid (decide (finB a b) = false) := by
          unfold Hid; rw [decide_eq_false_iff_not]; rintro ⟨_, _, _, e⟩; exact he (e i x y HX.out HY.out)
        have qe : (andM x y != x) = true := by simpa using he
        clear he
        go_upto_region 6 with (fail)
        refine wp_region_J (S := fun W' => W'.cell? ⟨b0, off + i, none⟩ = some (.int .i64 x) ∧ W'.cell? ⟨b1, off1 + i, none⟩ = some (.int .i64 y)) (J := []) (by kernel_rfl) ?_ (fun hHeld => ?_)
        · exact HCS.out
        try dsimp only at hHeld
        refine wpAnyJ_takeL (i := 0) (d := some 27) (v := ?_) #[true, false, false, false, false, false, false, false, false, false, false, false, false, false] (by kernel_rfl) rfl rfl (by kernel_rfl) (by kernel_rfl) (by kernel_rfl) (by kernel_rfl) (by kernel_rfl) (fun _ _ _ h => h) (Or.inl ⟨by rfl, ?_⟩) hHeld ?_
        rotate_left
        · (intro w hSw; (try dsimp only at hSw);  go_simp; try with_reducible rfl)
        try simp only [Act.put, List.setIfInBounds_toArray, List.set_cons_zero, List.set_cons_succ]
        refine wpAnyJ_takeL (i := 1) (d := some 28) (v := ?_) #[true, true, false, false, false, false, false, false, false, false, false, false, false, false] (by kernel_rfl) rfl rfl (by kernel_rfl) (by kernel_rfl) (by kernel_rfl) (by kernel_rfl) (by kernel_rfl) (fun _ _ _ h => h) (Or.inl ⟨by rfl, ?_⟩) hHeld ?_
        rotate_left
        · (intro w hSw; (try dsimp only at hSw);  go_simp; try with_reducible rfl)
        try simp only [Act.put, List.setIfInBounds_toArray, List.set_cons_zero, List.set_cons_succ]
        refine wpAnyJ_takeL (i := 2) (d := some 29) (v := ?_) #[true, true, true, false, false, false, false, false, false, false, false, false, false, false] (by kernel_rfl) rfl rfl (by kernel_rfl) (by kernel_rfl) (by kernel_rfl) (by kernel_rfl) (by kernel_rfl) (fun _ _ _ h => h) (Or.inl ⟨by rfl, ?_⟩) hHeld ?_
        rotate_left
        · (intro w hSw; (try dsimp only at hSw);  go_simp; try with_reducible rfl)
        try simp only [Act.put, List.setIfInBounds_toArray, List.set_cons_zero, List.set_cons_succ]
        refine wpAnyJ_takeL (i := 3) (d := some 30) (v := ?_) #[true, true, true, true, false, false, false, false, false, false, false, false, false, false] (by kernel_rfl) rfl rfl (by kernel_rfl) (by kernel_rfl) (by kernel_rfl) (by kernel_rfl) (by kernel_rfl) (fun _ _ _ h => h) (Or.inl ⟨by rfl, ?_⟩) hHeld ?_
        rotate_left
        · (intro w hSw; (try dsimp only at hSw);  go_simp; try with_reducible rfl)
        try simp only [Act.put, List.setIfInBounds_toArray, List.set_cons_zero, List.set_cons_succ]
        refine wpAnyJ_takeL (i := 4) (d := some 31) (v := ?_) #[true, true, true, true, true, false, false, false, false, false, false, false, false, false] (by kernel_rfl) rfl rfl (by kernel_rfl) (by kernel_rfl) (by kernel_rfl) (by kernel_rfl) (by kernel_rfl) (fun _ _ _ h => h) (Or.inl ⟨by rfl, ?_⟩) hHeld ?_
        rotate_left
        · (intro w hSw; (try dsimp only at hSw);  go_simp; try with_reducible rfl)
        try simp only [Act.put, List.setIfInBounds_toArray, List.set_cons_zero, List.set_cons_succ]
        refine wpAnyJ_takeL (i := 5) (d := some 32) (v := ?_) #[true, true, true, true, true, true, false, false, false, false, false, false, false, false] (by kernel_rfl) rfl rfl (by kernel_rfl) (by kernel_rfl) (by kernel_rfl) (by kernel_rfl) (by kernel_rfl) (fun _ _ _ h => h) (Or.inl ⟨by rfl, ?_⟩) hHeld ?_
        rotate_left
        · (intro w hSw; (try dsimp only at hSw);  go_simp; try with_reducible rfl)
        try simp only [Act.put, List.setIfInBounds_toArray, List.set_cons_zero, List.set_cons_succ]
        refine wpAnyJ_takeL (i := 6) (d := some 33) (v := ?_) #[true, true, true, true, true, true, true, false, false, false, false, false, false, false] (by kernel_rfl) rfl rfl (by kernel_rfl) (by kernel_rfl) (by kernel_rfl) (by kernel_rfl) (by kernel_rfl) (fun _ _ _ h => h) (Or.inl ⟨by rfl, ?_⟩) hHeld ?_
        rotate_left
        · (intro w hSw; (try dsimp only at hSw);  go_simp; try with_reducible rfl)
        try simp only [Act.put, List.setIfInBounds_toArray, List.set_cons_zero, List.set_cons_succ]
        refine wpAnyJ_takeL (i := 7) (d := some 34) (v := ?_) #[true, true, true, true, true, true, true, true, false, false, false, false, false, false] (by kernel_rfl) rfl rfl (by kernel_rfl) (by kernel_rfl) (by kernel_rfl) (by kernel_rfl) (by kernel_rfl) (fun _ _ _ h => h) (Or.inl ⟨by rfl, ?_⟩) hHeld ?_
        rotate_left
        · (intro w hSw; (try dsimp only at hSw);  go_simp; try with_reducible rfl)
        try simp only [Act.put, List.setIfInBounds_toArray, List.set_cons_zero, List.set_cons_succ]
        refine wpAnyJ_takeL (i := 8) (d := some 35) (v := ?_) #[true, true, true, true, true, true, true, true, true, false, false, false, false, false] (by kernel_rfl) rfl rfl (by kernel_rfl) (by kernel_rfl) (by kernel_rfl) (by kernel_rfl) (by kernel_rfl) (fun _ _ _ h => h) (Or.inl ⟨by rfl, ?_⟩) hHeld ?_
        rotate_left
        · (intro w hSw; (try dsimp only at hSw);  go_simp; try with_reducible rfl)
        try simp only [Act.put, List.setIfInBounds_toArray, List.set_cons_zero, List.set_cons_succ]
        refine wpAnyJ_takeL (i := 9) (d := some 36) (v := ?_) #[true, true, true, true, true, true, true, true, true, true, false, false, false, false] (by kernel_rfl) rfl rfl (by kernel_rfl) (by kernel_rfl) (by kernel_rfl) (by kernel_rfl) (by kernel_rfl) (fun _ _ _ h => h) (Or.inl ⟨by rfl, ?_⟩) hHeld ?_
        rotate_left
        · (intro w hSw; (try dsimp only at hSw);  go_simp; try with_reducible rfl)
        try simp only [Act.put, List.setIfInBounds_toArray, List.set_cons_zero, List.set_cons_succ]
        refine wpAnyJ_takeL (i := 10) (d := some 37) (v := ?_) #[true, true, true, true, true, true, true, true, true, true, true, false, false, false] (by kernel_rfl) rfl rfl (by kernel_rfl) (by kernel_rfl) (by kernel_rfl) (by kernel_rfl) (by kernel_rfl) (fun _ _ _ h => h) (Or.inl ⟨by rfl, ?_⟩) hHeld ?_
        rotate_left
        · (intro w hSw; (try dsimp only at hSw);  go_simp; try with_reducible rfl)
        try simp only [Act.put, List.setIfInBounds_toArray, List.set_cons_zero, List.set_cons_succ]
        refine wpAnyJ_takeL (i := 11) (d := some 38) (v := ?_) #[true, true, true, true, true, true, true, true, true, true, true, true, false, false] (by kernel_rfl) rfl rfl (by kernel_rfl) (by kernel_rfl) (by kernel_rfl) (by kernel_rfl) (by kernel_rfl) (fun _ _ _ h => h) (Or.inl ⟨by rfl, ?_⟩) hHeld ?_
        rotate_left
        · (intro w hSw; (try dsimp only at hSw);  go_simp; try with_reducible rfl)
        try simp only [Act.put, List.setIfInBounds_toArray, List.set_cons_zero, List.set_cons_succ]
        refine wpAnyJ_takeL (i := 12) (d := some 39) (v := ?_) #[true, true, true, true, true, true, true, true, true, true, true, true, true, false] (by kernel_rfl) rfl rfl (by kernel_rfl) (by kernel_rfl) (by kernel_rfl) (by kernel_rfl) (by kernel_rfl) (fun _ _ _ h => h) (Or.inl ⟨by rfl, ?_⟩) hHeld ?_
        rotate_left
        · (intro w hSw; (try dsimp only at hSw);  go_simp; try with_reducible rfl)
        try simp only [Act.put, List.setIfInBounds_toArray, List.set_cons_zero, List.set_cons_succ]
        refine wpAnyJ_takeL (i := 13) (d := some 40) (v := ?_) #[true, true, true, true, true, true, true, true, true, true, true, true, true, true] (by kernel_rfl) rfl rfl (by kernel_rfl) (by kernel_rfl) (by kernel_rfl) (by kernel_rfl) (by kernel_rfl) (fun _ _ _ h => h) (Or.inl ⟨by rfl, ?_⟩) hHeld ?_
        rotate_left
        · (intro w hSw; (try dsimp only at hSw);  go_simp; try with_reducible rfl)
        try simp only [Act.put, List.setIfInBounds_toArray, List.set_cons_zero, List.set_cons_succ]
        refine wpAnyJ_done (by kernel_rfl) ?_ _
        clear hHeld
        go_wp2_with fail
        go_ret
        exact ⟨ret_bool HR.out.symm, hbl.out.drew⟩
    · obtain rfl : i = n := by omega
      have hii : decide (i < i) = false := by simp
      have HR : Hid (decide (finB a b) = true) := by
        unfold Hid
        rw [decide_eq_true_eq]
        exact ⟨HLA.out.trans HLB.out.symm, HM1.out, HM2.out, fun k x y hx hy => hno.out k x y (by have := (List.getElem?_eq_some_iff.1 hx).1; rw [HLA.out] at this; exact this) hx hy⟩
      go_wp2_with fail
      go_ret
      exact ⟨ret_bool HR.out.symm, hbl.out⟩
end Go.Proofs.YtfabeihlfgemdaaDoor
