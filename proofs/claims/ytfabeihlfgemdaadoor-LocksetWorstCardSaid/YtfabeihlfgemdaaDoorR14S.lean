/-
  The references of layer 14: walk of Same.
-/
import Derived.Test.YtfabeihlfgemdaaDoorR14A
import Derived.Laws.StructEq
namespace Go.Proofs.YtfabeihlfgemdaaDoor
open Go.RowKit
def eqLk (a b : Lk) : Bool := a.dev == b.dev && a.pos == b.pos && a.key == b.key
theorem eqLk_iff (a b : Lk) : eqLk a b = true ↔ a = b := by
  obtain ⟨a1, a2, a3⟩ := a
  obtain ⟨b1, b2, b3⟩ := b
  unfold eqLk; simp [and_assoc]
theorem run_neq_lk (d p q d2 p2 q2 : Int) (w : World) : (binOp .neq 37 (.agg #[.int .i64 d, .int .i64 p, .int .i64 q]) (.agg #[.int .i64 d2, .int .i64 p2, .int .i64 q2])).run Tryd.prog w = .ok (.bool (!eqLk ⟨d, p, q⟩ ⟨d2, p2, q2⟩)) w := by
  have u3 := Tryd.underlying3
  have a3 := Tryd.isAgg3
  have z3 := Tryd.sizeOf3
  have hS : Tryd.prog.underlying 37 = some (.struct (Tryd.prog.fieldsOf 37)) := by kernel_rfl
  have hp : Tryd.prog.stoodInHeld 37 = false := by kernel_rfl
  rw [run_neq_struct, show (10000 : Nat) = 9999 + 1 from rfl, run_equalIn_agg w 9999 37 _ _ hS hp]
  simp only [Program.fieldsOf, Tryd.underlying37]
  go_simp
  by_cases h1 : d = d2 <;> by_cases h2 : p = p2 <;> by_cases h3 : q = q2 <;> simp [h1, h2, h3, eqLk]
def SaR (w : World) (a b : List Lk) (n gk : Nat) (iv : Value) (wr : World) : Prop := ∃ i : Nat, iv = .int .i64 i ∧ i ≤ n ∧ gk = n - i ∧ Hid (a.take i = b.take i) ∧ Hid (Below w.heap.size w wr)
open Classical in
set_option maxRecDepth 100000 in
set_option maxHeartbeats 4000000 in
theorem same_any (A A2 : Option Addr) (n c n2 c2 B B2 : Nat) (a b : List Lk) (w : World) (ha : Sl w B 3 A n c (a.flatMap Lk.cells)) (hb : Sl w B2 3 A2 n2 c2 (b.flatMap Lk.cells)) (hB : B ≤ w.heap.size) (hB2 : B2 ≤ w.heap.size) :
    Calls Tryd.prog 17 #[.slice A n c, .slice A2 n2 c2] w fun e w' => e = .returned (.bool (decide (a = b))) ∧ Below w.heap.size w w' := by
  have HLA := Lib.hid (ha.len (fun _ => rfl) (by decide)); have HLB := Lib.hid (hb.len (fun _ => rfl) (by decide))
  have HA := Lib.hid ha; have HBB := Lib.hid hb
  have hle := ha.le
  have hle2 := hb.le
  clear ha hb
  by_cases hn : n = n2; rotate_left
  · have q : ((n : Int) != (n2 : Int)) = true := by simp; omega
    have q2 : decide (n = n2) = false := by simpa using hn
    have HR : Hid (decide (a = b) = false) := by
      unfold Hid; rw [decide_eq_false_iff_not]; intro e; subst e; exact hn (HLA.out.symm.trans HLB.out)
    clear hn
    go_enter Tryd.func17, Tryd.ntmps17
    go_wp2_with fail
    go_ret
    exact ⟨ret_bool HR.out.symm, Below.refl _ _⟩
  subst hn
  go_enter Tryd.func17, Tryd.ntmps17
  go_wp2_with fail
  go_loopg [5] n (SaR w a b n)
  case atStart => exact ⟨0, rfl, Nat.zero_le _, rfl, rfl, Below.refl _ _⟩
  case round =>
    obtain ⟨i, rfl, hi, rfl, heq, hbl⟩ := hrel
    by_cases hlt : i < n
    · obtain ⟨b0, off, d, p, q, rfl, hb0, hx, c0, c1, c2'⟩ := (HA.out.below hbl.out hB).lock hlt
      obtain ⟨b1, off1, d1, p1, q1, rfl, hb1, hx1, e0, e1, e2⟩ := (HBB.out.below hbl.out hB2).lock hlt
      have HX := Lib.hid hx; have HX1 := Lib.hid hx1
      have HCS : Hid (wr.cell? ⟨b0, off + i * 3, none⟩ = some (.int .i64 d) ∧ wr.cell? ⟨b0, off + i * 3 + 1, none⟩ = some (.int .i64 p) ∧ wr.cell? ⟨b0, off + i * 3 + 2, none⟩ = some (.int .i64 q) ∧ wr.cell? ⟨b1, off1 + i * 3, none⟩ = some (.int .i64 d1) ∧ wr.cell? ⟨b1, off1 + i * 3 + 1, none⟩ = some (.int .i64 p1) ∧ wr.cell? ⟨b1, off1 + i * 3 + 2, none⟩ = some (.int .i64 q1)) := ⟨c0, c1, c2', e0, e1, e2⟩
      have hneq := fun W => run_neq_lk d p q d1 p1 q1 W
      clear hx hx1 c0 c1 c2' e0 e1 e2
      rcases hee : eqLk ⟨d, p, q⟩ ⟨d1, p1, q1⟩ with _ | _
      · have HR : Hid (decide (a = b) = false) := by
          unfold Hid; rw [decide_eq_false_iff_not]; intro e; subst e
          have := HX.out.symm.trans HX1.out
          injection this with this
          rw [(eqLk_iff _ _).2 this] at hee; cases hee
        rw [hee] at hneq
        clear hee
        simp only [Bool.not_false] at hneq
        go_upto_region 6 with (fail)
        refine wp_region_J (S := fun W' => W'.cell? ⟨b0, off + i * 3, none⟩ = some (.int .i64 d) ∧ W'.cell? ⟨b0, off + i * 3 + 1, none⟩ = some (.int .i64 p) ∧ W'.cell? ⟨b0, off + i * 3 + 2, none⟩ = some (.int .i64 q) ∧ W'.cell? ⟨b1, off1 + i * 3, none⟩ = some (.int .i64 d1) ∧ W'.cell? ⟨b1, off1 + i * 3 + 1, none⟩ = some (.int .i64 p1) ∧ W'.cell? ⟨b1, off1 + i * 3 + 2, none⟩ = some (.int .i64 q1)) (J := []) (by kernel_rfl) ?_ (fun hHeld => ?_)
        · exact HCS.out
        try dsimp only at hHeld
        refine wpAnyJ_takeL (i := 0) (d := some 17) (v := ?_) #[true, false, false, false, false, false, false, false, false] (by kernel_rfl) rfl rfl (by kernel_rfl) (by kernel_rfl) (by kernel_rfl) (by kernel_rfl) (by kernel_rfl) (fun _ _ _ h => h) (Or.inl ⟨by rfl, ?_⟩) hHeld ?_
        rotate_left
        · (intro w hSw; (try dsimp only at hSw);  go_simp; try with_reducible rfl)
        try simp only [Act.put, List.setIfInBounds_toArray, List.set_cons_zero, List.set_cons_succ]
        refine wpAnyJ_takeL (i := 1) (d := some 18) (v := ?_) #[true, true, false, false, false, false, false, false, false] (by kernel_rfl) rfl rfl (by kernel_rfl) (by kernel_rfl) (by kernel_rfl) (by kernel_rfl) (by kernel_rfl) (fun _ _ _ h => h) (Or.inl ⟨by rfl, ?_⟩) hHeld ?_
        rotate_left
        · (intro w hSw; (try dsimp only at hSw);  go_simp; try with_reducible rfl)
        try simp only [Act.put, List.setIfInBounds_toArray, List.set_cons_zero, List.set_cons_succ]
        refine wpAnyJ_takeL (i := 2) (d := some 19) (v := ?_) #[true, true, true, false, false, false, false, false, false] (by kernel_rfl) rfl rfl (by kernel_rfl) (by kernel_rfl) (by kernel_rfl) (by kernel_rfl) (by kernel_rfl) (fun _ _ _ h => h) (Or.inl ⟨by rfl, ?_⟩) hHeld ?_
        rotate_left
        · (intro w hSw; (try dsimp only at hSw);  go_simp; try with_reducible rfl)
        try simp only [Act.put, List.setIfInBounds_toArray, List.set_cons_zero, List.set_cons_succ]
        refine wpAnyJ_takeL (i := 3) (d := some 20) (v := ?_) #[true, true, true, true, false, false, false, false, false] (by kernel_rfl) rfl rfl (by kernel_rfl) (by kernel_rfl) (by kernel_rfl) (by kernel_rfl) (by kernel_rfl) (fun _ _ _ h => h) (Or.inl ⟨by rfl, ?_⟩) hHeld ?_
        rotate_left
        · (intro w hSw; (try dsimp only at hSw);  go_simp; try with_reducible rfl)
        try simp only [Act.put, List.setIfInBounds_toArray, List.set_cons_zero, List.set_cons_succ]
        refine wpAnyJ_takeL (i := 4) (d := some 21) (v := ?_) #[true, true, true, true, true, false, false, false, false] (by kernel_rfl) rfl rfl (by kernel_rfl) (by kernel_rfl) (by kernel_rfl) (by kernel_rfl) (by kernel_rfl) (fun _ _ _ h => h) (Or.inl ⟨by rfl, ?_⟩) hHeld ?_
        rotate_left
        · (intro w hSw; (try dsimp only at hSw);  go_simp; try with_reducible rfl)
        try simp only [Act.put, List.setIfInBounds_toArray, List.set_cons_zero, List.set_cons_succ]
        refine wpAnyJ_takeL (i := 5) (d := some 22) (v := ?_) #[true, true, true, true, true, true, false, false, false] (by kernel_rfl) rfl rfl (by kernel_rfl) (by kernel_rfl) (by kernel_rfl) (by kernel_rfl) (by kernel_rfl) (fun _ _ _ h => h) (Or.inl ⟨by rfl, ?_⟩) hHeld ?_
        rotate_left
        · (intro w hSw; (try dsimp only at hSw);  go_simp; try with_reducible rfl)
        try simp only [Act.put, List.setIfInBounds_toArray, List.set_cons_zero, List.set_cons_succ]
        refine wpAnyJ_takeL (i := 6) (d := some 23) (v := ?_) #[true, true, true, true, true, true, true, false, false] (by kernel_rfl) rfl rfl (by kernel_rfl) (by kernel_rfl) (by kernel_rfl) (by kernel_rfl) (by kernel_rfl) (fun _ _ _ h => h) (Or.inl ⟨by rfl, ?_⟩) hHeld ?_
        rotate_left
        · (intro w hSw; (try dsimp only at hSw);  go_simp; try with_reducible rfl)
        try simp only [Act.put, List.setIfInBounds_toArray, List.set_cons_zero, List.set_cons_succ]
        refine wpAnyJ_takeL (i := 7) (d := some 24) (v := ?_) #[true, true, true, true, true, true, true, true, false] (by kernel_rfl) rfl rfl (by kernel_rfl) (by kernel_rfl) (by kernel_rfl) (by kernel_rfl) (by kernel_rfl) (fun _ _ _ h => h) (Or.inl ⟨by rfl, ?_⟩) hHeld ?_
        rotate_left
        · (intro w hSw; (try dsimp only at hSw);  go_simp; try with_reducible rfl)
        try simp only [Act.put, List.setIfInBounds_toArray, List.set_cons_zero, List.set_cons_succ]
        refine wpAnyJ_takeL (i := 8) (d := some 25) (v := ?_) #[true, true, true, true, true, true, true, true, true] (by kernel_rfl) rfl rfl (by kernel_rfl) (by kernel_rfl) (by kernel_rfl) (by kernel_rfl) (by kernel_rfl) (fun _ _ _ h => h) (Or.inl ⟨by rfl, ?_⟩) hHeld ?_
        rotate_left
        · (intro w hSw; (try dsimp only at hSw);  go_simp; try with_reducible rfl)
        try simp only [Act.put, List.setIfInBounds_toArray, List.set_cons_zero, List.set_cons_succ]
        refine wpAnyJ_done (by kernel_rfl) ?_ _
        clear hHeld
        go_wp2_with fail
        go_ret
        exact ⟨ret_bool HR.out.symm, hbl.out.drew⟩
      · have HE2 : Hid (a.take (i + 1) = b.take (i + 1)) := by
          unfold Hid; rw [take_snoc HX.out, take_snoc HX1.out, heq.out, (eqLk_iff _ _).1 hee]
        rw [hee] at hneq
        clear hee
        simp only [Bool.not_true] at hneq
        go_upto_region 6 with (fail)
        refine wp_region_J (S := fun W' => W'.cell? ⟨b0, off + i * 3, none⟩ = some (.int .i64 d) ∧ W'.cell? ⟨b0, off + i * 3 + 1, none⟩ = some (.int .i64 p) ∧ W'.cell? ⟨b0, off + i * 3 + 2, none⟩ = some (.int .i64 q) ∧ W'.cell? ⟨b1, off1 + i * 3, none⟩ = some (.int .i64 d1) ∧ W'.cell? ⟨b1, off1 + i * 3 + 1, none⟩ = some (.int .i64 p1) ∧ W'.cell? ⟨b1, off1 + i * 3 + 2, none⟩ = some (.int .i64 q1)) (J := []) (by kernel_rfl) ?_ (fun hHeld => ?_)
        · exact HCS.out
        try dsimp only at hHeld
        refine wpAnyJ_takeL (i := 0) (d := some 17) (v := ?_) #[true, false, false, false, false, false, false, false, false] (by kernel_rfl) rfl rfl (by kernel_rfl) (by kernel_rfl) (by kernel_rfl) (by kernel_rfl) (by kernel_rfl) (fun _ _ _ h => h) (Or.inl ⟨by rfl, ?_⟩) hHeld ?_
        rotate_left
        · (intro w hSw; (try dsimp only at hSw);  go_simp; try with_reducible rfl)
        try simp only [Act.put, List.setIfInBounds_toArray, List.set_cons_zero, List.set_cons_succ]
        refine wpAnyJ_takeL (i := 1) (d := some 18) (v := ?_) #[true, true, false, false, false, false, false, false, false] (by kernel_rfl) rfl rfl (by kernel_rfl) (by kernel_rfl) (by kernel_rfl) (by kernel_rfl) (by kernel_rfl) (fun _ _ _ h => h) (Or.inl ⟨by rfl, ?_⟩) hHeld ?_
        rotate_left
        · (intro w hSw; (try dsimp only at hSw);  go_simp; try with_reducible rfl)
        try simp only [Act.put, List.setIfInBounds_toArray, List.set_cons_zero, List.set_cons_succ]
        refine wpAnyJ_takeL (i := 2) (d := some 19) (v := ?_) #[true, true, true, false, false, false, false, false, false] (by kernel_rfl) rfl rfl (by kernel_rfl) (by kernel_rfl) (by kernel_rfl) (by kernel_rfl) (by kernel_rfl) (fun _ _ _ h => h) (Or.inl ⟨by rfl, ?_⟩) hHeld ?_
        rotate_left
        · (intro w hSw; (try dsimp only at hSw);  go_simp; try with_reducible rfl)
        try simp only [Act.put, List.setIfInBounds_toArray, List.set_cons_zero, List.set_cons_succ]
        refine wpAnyJ_takeL (i := 3) (d := some 20) (v := ?_) #[true, true, true, true, false, false, false, false, false] (by kernel_rfl) rfl rfl (by kernel_rfl) (by kernel_rfl) (by kernel_rfl) (by kernel_rfl) (by kernel_rfl) (fun _ _ _ h => h) (Or.inl ⟨by rfl, ?_⟩) hHeld ?_
        rotate_left
        · (intro w hSw; (try dsimp only at hSw);  go_simp; try with_reducible rfl)
        try simp only [Act.put, List.setIfInBounds_toArray, List.set_cons_zero, List.set_cons_succ]
        refine wpAnyJ_takeL (i := 4) (d := some 21) (v := ?_) #[true, true, true, true, true, false, false, false, false] (by kernel_rfl) rfl rfl (by kernel_rfl) (by kernel_rfl) (by kernel_rfl) (by kernel_rfl) (by kernel_rfl) (fun _ _ _ h => h) (Or.inl ⟨by rfl, ?_⟩) hHeld ?_
        rotate_left
        · (intro w hSw; (try dsimp only at hSw);  go_simp; try with_reducible rfl)
        try simp only [Act.put, List.setIfInBounds_toArray, List.set_cons_zero, List.set_cons_succ]
        refine wpAnyJ_takeL (i := 5) (d := some 22) (v := ?_) #[true, true, true, true, true, true, false, false, false] (by kernel_rfl) rfl rfl (by kernel_rfl) (by kernel_rfl) (by kernel_rfl) (by kernel_rfl) (by kernel_rfl) (fun _ _ _ h => h) (Or.inl ⟨by rfl, ?_⟩) hHeld ?_
        rotate_left
        · (intro w hSw; (try dsimp only at hSw);  go_simp; try with_reducible rfl)
        try simp only [Act.put, List.setIfInBounds_toArray, List.set_cons_zero, List.set_cons_succ]
        refine wpAnyJ_takeL (i := 6) (d := some 23) (v := ?_) #[true, true, true, true, true, true, true, false, false] (by kernel_rfl) rfl rfl (by kernel_rfl) (by kernel_rfl) (by kernel_rfl) (by kernel_rfl) (by kernel_rfl) (fun _ _ _ h => h) (Or.inl ⟨by rfl, ?_⟩) hHeld ?_
        rotate_left
        · (intro w hSw; (try dsimp only at hSw);  go_simp; try with_reducible rfl)
        try simp only [Act.put, List.setIfInBounds_toArray, List.set_cons_zero, List.set_cons_succ]
        refine wpAnyJ_takeL (i := 7) (d := some 24) (v := ?_) #[true, true, true, true, true, true, true, true, false] (by kernel_rfl) rfl rfl (by kernel_rfl) (by kernel_rfl) (by kernel_rfl) (by kernel_rfl) (by kernel_rfl) (fun _ _ _ h => h) (Or.inl ⟨by rfl, ?_⟩) hHeld ?_
        rotate_left
        · (intro w hSw; (try dsimp only at hSw);  go_simp; try with_reducible rfl)
        try simp only [Act.put, List.setIfInBounds_toArray, List.set_cons_zero, List.set_cons_succ]
        refine wpAnyJ_takeL (i := 8) (d := some 25) (v := ?_) #[true, true, true, true, true, true, true, true, true] (by kernel_rfl) rfl rfl (by kernel_rfl) (by kernel_rfl) (by kernel_rfl) (by kernel_rfl) (by kernel_rfl) (fun _ _ _ h => h) (Or.inl ⟨by rfl, ?_⟩) hHeld ?_
        rotate_left
        · (intro w hSw; (try dsimp only at hSw);  go_simp; try with_reducible rfl)
        try simp only [Act.put, List.setIfInBounds_toArray, List.set_cons_zero, List.set_cons_succ]
        refine wpAnyJ_done (by kernel_rfl) ?_ _
        clear hHeld
        go_wp2_with fail
        go_roundg (n - (i + 1))
        case rel => exact ⟨i + 1, by go_num, by omega, rfl, HE2, hbl.out.drew⟩
        case measure => omega
    · obtain rfl : i = n := by omega
      have hii : decide (i < i) = false := by simp
      have HR : Hid (decide (a = b) = true) := by
        unfold Hid; rw [decide_eq_true_iff]
        have := heq.out
        rwa [List.take_of_length_le (by rw [HLA.out]; exact Nat.le_refl _), List.take_of_length_le (by rw [HLB.out]; exact Nat.le_refl _)] at this
      go_wp2_with fail
      go_ret
      exact ⟨ret_bool HR.out.symm, hbl.out⟩
end Go.Proofs.YtfabeihlfgemdaaDoor
