/-
  The program's layer 14: walks of order and Check.
-/
import Derived.Test.YtfabeihlfgemdaaDoorLkW
import Derived.Test.YtfabeihlfgemdaaDoorR14C
import Derived.Test.YtfabeihlfgemdaaDoorNetC
import Derived.Shelf.SlSortCmp.InsertionK
namespace Go.Proofs.YtfabeihlfgemdaaDoor
open Go.RowKit
open Go.Sort (grow alloc_eq_grow)
theorem cell_al3 {W : World} {p : Addr} {v : Value} (o : Obj) (h : W.cell? p = some v) : (W.alloc o).cell? p = some v := (World.cell?_alloc_lt W o p (cell_lt h)).trans h
theorem grow_three (w : World) (a b c : Obj) : ∃ n os, ((w.alloc a).alloc b).drew.alloc c = grow (w.drewN n) os := ⟨1, #[a] ++ #[b] ++ #[c], by
  rw [alloc_eq_grow w a, alloc_eq_grow _ b, Go.Sort.grow_grow]
  show (grow w.drew (#[a] ++ #[b])).alloc c = _
  rw [alloc_eq_grow, Go.Sort.grow_grow]; rfl⟩
def cmpI (a b : Int) : Int := if a < b then -1 else if b < a then 1 else 0
def orI (x y : Int) : Int := if x ≠ 0 then x else y
def ordI (a b : Lk) : Int := orI (cmpI a.dev b.dev) (cmpI a.key b.key)
theorem cmpI_zero {a b : Int} : cmpI a b = 0 ↔ a = b := by unfold cmpI; split <;> (try split) <;> omega
theorem ord_lt (a b : Lk) : ordI a b < 0 ↔ befB a b = true := by
  rw [bef_iff]; unfold ordI orI cmpI
  split <;> split <;> (try split) <;> omega
theorem nan_any (x : Int) (w : World) : Calls Tryd.prog 77 #[.int .i64 x] w fun e w' => e = .returned (.bool false) ∧ w = w' := by
  have q : (x != x) = false := by simp
  go_enter Tryd.func77, Tryd.ntmps77
  go_wp2_with fail
  go_ret
  exact ⟨rfl, rfl⟩
theorem cmp_any (x y : Int) (w : World) : Calls Tryd.prog 60 #[.int .i64 x, .int .i64 y] w fun e w' => e = .returned (.int .i64 (cmpI x y)) ∧ w = w' := by
  by_cases h1 : x < y
  · have q1 : decide (x < y) = true := by simpa using h1
    have HR : Hid (cmpI x y = -1) := by unfold Hid cmpI; rw [if_pos h1]
    go_enter Tryd.func60, Tryd.ntmps60
    go_wp2_with fail
    refine (nan_any x w).mono ?_
    rintro e w1 ⟨rfl, rfl⟩
    go_wp2_with fail
    refine (nan_any y _).mono ?_
    rintro e w1 ⟨rfl, rfl⟩
    go_wp2_with fail
    go_ret
    exact ⟨ret_int HR.out.symm, rfl⟩
  have q1 : decide (x < y) = false := by simpa using h1
  by_cases h2 : y < x
  · have q2 : decide (y < x) = true := by simpa using h2
    have HR : Hid (cmpI x y = 1) := by unfold Hid cmpI; rw [if_neg h1, if_pos h2]
    go_enter Tryd.func60, Tryd.ntmps60
    go_wp2_with fail
    refine (nan_any x w).mono ?_
    rintro e w1 ⟨rfl, rfl⟩
    go_wp2_with fail
    refine (nan_any y _).mono ?_
    rintro e w1 ⟨rfl, rfl⟩
    go_wp2_with fail
    go_ret
    exact ⟨ret_int HR.out.symm, rfl⟩
  have q2 : decide (y < x) = false := by simpa using h2
  have HR : Hid (cmpI x y = 0) := by unfold Hid cmpI; rw [if_neg h1, if_neg h2]
  go_enter Tryd.func60, Tryd.ntmps60
  go_wp2_with fail
  refine (nan_any x w).mono ?_
  rintro e w1 ⟨rfl, rfl⟩
  go_wp2_with fail
  refine (nan_any y _).mono ?_
  rintro e w1 ⟨rfl, rfl⟩
  go_wp2_with fail
  go_ret
  exact ⟨ret_int HR.out.symm, rfl⟩
def OrR (w : World) (x : Int) (gk : Nat) (iv : Value) (wr : World) : Prop := ∃ i : Nat, iv = .int .i64 i ∧ i ≤ 2 ∧ gk = 2 - i ∧ Hid (i = 1 → x = 0) ∧ Hid (i = 2 → False) ∧ wr = w
set_option maxHeartbeats 2000000 in
/-- cmp.Or of two numbers in a block. -/
theorem or_any (b : Nat) (x y : Int) (w : World) (h0 : w.cell? ⟨b, 0, none⟩ = some (.int .i64 x)) (h1 : w.cell? ⟨b, 1, none⟩ = some (.int .i64 y)) :
    Calls Tryd.prog 59 #[.slice (some ⟨b, 0, none⟩) 2 2] w fun e w' => e = .returned (.int .i64 (orI x y)) ∧ w = w' := by
  by_cases hx : x = 0
  · subst hx
    have e1 : ((0 : Int) != 0) = false := by decide
    by_cases hy : y = 0
    · subst hy
      go_enter Tryd.func59, Tryd.ntmps59
      go_wp2_with fail
      refine wp_loop_rounds 3 ?_
      rw [rounds_succ]
      go_wp2_with fail
      rw [rounds_succ]
      go_wp2_with fail
      rw [rounds_succ]
      go_wp2_with fail
      go_ret
      exact ⟨ret_int (by unfold orI; rw [if_neg (by simp)]), rfl⟩
    · have e2 : (y != 0) = true := by simpa using hy
      go_enter Tryd.func59, Tryd.ntmps59
      go_wp2_with fail
      refine wp_loop_rounds 3 ?_
      rw [rounds_succ]
      go_wp2_with fail
      rw [rounds_succ]
      go_wp2_with fail
      go_ret
      exact ⟨ret_int (by unfold orI; rw [if_neg (by simp)]), rfl⟩
  · have e1 : (x != 0) = true := by simpa using hx
    have HX := Lib.hid hx
    clear hx
    go_enter Tryd.func59, Tryd.ntmps59
    go_wp2_with fail
    refine wp_loop_rounds 3 ?_
    rw [rounds_succ]
    go_wp2_with fail
    go_ret
    exact ⟨ret_int (by unfold orI; rw [if_pos HX.out]), rfl⟩
set_option maxHeartbeats 4000000 in
theorem order_any (a b : Lk) (w : World) : Calls Tryd.prog 42 #[.agg #[.int .i64 a.dev, .int .i64 a.pos, .int .i64 a.key], .agg #[.int .i64 b.dev, .int .i64 b.pos, .int .i64 b.key]] w fun e w' => e = .returned (.int .i64 (ordI a b)) ∧ ∃ q os, w' = grow (w.drewN q) os := by
  obtain ⟨d, p, q⟩ := a
  obtain ⟨d2, p2, q2⟩ := b
  have HC1 := Lib.hid (fun W => cmp_any d d2 W)
  have HC2 := Lib.hid (fun W => cmp_any q q2 W)
  have HR : Hid (ordI ⟨d, p, q⟩ ⟨d2, p2, q2⟩ = orI (cmpI d d2) (cmpI q q2)) := rfl
  generalize cmpI d d2 = r1 at *
  generalize cmpI q q2 = r2 at *
  have HCS : Hid ((((w.alloc (.cells #[.int .i64 d, .int .i64 p, .int .i64 q] 37)).alloc (.cells #[.int .i64 d2, .int .i64 p2, .int .i64 q2] 37)).cell? ⟨w.heap.size, 0, none⟩ = some (.int .i64 d)) ∧ (((w.alloc (.cells #[.int .i64 d, .int .i64 p, .int .i64 q] 37)).alloc (.cells #[.int .i64 d2, .int .i64 p2, .int .i64 q2] 37)).cell? ⟨w.heap.size, 2, none⟩ = some (.int .i64 q)) ∧ (((w.alloc (.cells #[.int .i64 d, .int .i64 p, .int .i64 q] 37)).alloc (.cells #[.int .i64 d2, .int .i64 p2, .int .i64 q2] 37)).cell? ⟨w.heap.size + 1, 0, none⟩ = some (.int .i64 d2)) ∧ (((w.alloc (.cells #[.int .i64 d, .int .i64 p, .int .i64 q] 37)).alloc (.cells #[.int .i64 d2, .int .i64 p2, .int .i64 q2] 37)).cell? ⟨w.heap.size + 1, 2, none⟩ = some (.int .i64 q2))) := by
    have b1 : Blk ((w.alloc (.cells #[.int .i64 d, .int .i64 p, .int .i64 q] 37)).alloc (.cells #[.int .i64 d2, .int .i64 p2, .int .i64 q2] 37)) w.heap.size 37 #[.int .i64 d, .int .i64 p, .int .i64 q] := (Blk.new _ _ _).alloc _
    have b2 : Blk ((w.alloc (.cells #[.int .i64 d, .int .i64 p, .int .i64 q] 37)).alloc (.cells #[.int .i64 d2, .int .i64 p2, .int .i64 q2] 37)) (w.heap.size + 1) 37 #[.int .i64 d2, .int .i64 p2, .int .i64 q2] := by have := Blk.new (w.alloc (.cells #[.int .i64 d, .int .i64 p, .int .i64 q] 37)) 37 #[.int .i64 d2, .int .i64 p2, .int .i64 q2]; simpa using this
    exact ⟨b1.cell 0, b1.cell 2, b2.cell 0, b2.cell 2⟩
  have HEND : Hid (∀ o, ∃ nq os, ((w.alloc (.cells #[.int .i64 d, .int .i64 p, .int .i64 q] 37)).alloc (.cells #[.int .i64 d2, .int .i64 p2, .int .i64 q2] 37)).drew.alloc o = grow (w.drewN nq) os) := fun o => grow_three w _ _ o
  go_enter Tryd.func42, Tryd.ntmps42
  go_upto_region 1 with (fail)
  generalize World.alloc (World.alloc _ _) _ = W at *
  refine wp_region_J (S := fun W' => W'.cell? ⟨w.heap.size, 0, none⟩ = some (.int .i64 d) ∧ W'.cell? ⟨w.heap.size, 2, none⟩ = some (.int .i64 q) ∧ W'.cell? ⟨w.heap.size + 1, 0, none⟩ = some (.int .i64 d2) ∧ W'.cell? ⟨w.heap.size + 1, 2, none⟩ = some (.int .i64 q2)) (J := []) (by kernel_rfl) ?_ (fun hHeld => ?_)
  · exact HCS.out
  try dsimp only at hHeld
  refine wpAnyJ_takeL (i := 0) (d := some 5) (v := ?_) #[true, false, false, false, false, false, false, false, false, false, false, false, false] (by kernel_rfl) rfl rfl (by kernel_rfl) (by kernel_rfl) (by kernel_rfl) (by kernel_rfl) (by kernel_rfl) (fun _ _ _ h => h) (Or.inl ⟨by rfl, ?_⟩) hHeld ?_
  rotate_left
  · (intro w hSw; (try dsimp only at hSw);  go_simp; try with_reducible rfl)
  try simp only [Act.put, List.setIfInBounds_toArray, List.set_cons_zero, List.set_cons_succ]
  refine wpAnyJ_takeL (i := 1) (d := some 6) (v := ?_) #[true, true, false, false, false, false, false, false, false, false, false, false, false] (by kernel_rfl) rfl rfl (by kernel_rfl) (by kernel_rfl) (by kernel_rfl) (by kernel_rfl) (by kernel_rfl) (fun _ _ _ h => h) (Or.inl ⟨by rfl, ?_⟩) hHeld ?_
  rotate_left
  · (intro w hSw; (try dsimp only at hSw);  go_simp; try with_reducible rfl)
  try simp only [Act.put, List.setIfInBounds_toArray, List.set_cons_zero, List.set_cons_succ]
  refine wpAnyJ_takeL (i := 2) (d := some 7) (v := ?_) #[true, true, true, false, false, false, false, false, false, false, false, false, false] (by kernel_rfl) rfl rfl (by kernel_rfl) (by kernel_rfl) (by kernel_rfl) (by kernel_rfl) (by kernel_rfl) (fun _ _ _ h => h) (Or.inl ⟨by rfl, ?_⟩) hHeld ?_
  rotate_left
  · (intro w hSw; (try dsimp only at hSw);  go_simp; try with_reducible rfl)
  try simp only [Act.put, List.setIfInBounds_toArray, List.set_cons_zero, List.set_cons_succ]
  refine wpAnyJ_takeL (i := 3) (d := some 8) (v := ?_) #[true, true, true, true, false, false, false, false, false, false, false, false, false] (by kernel_rfl) rfl rfl (by kernel_rfl) (by kernel_rfl) (by kernel_rfl) (by kernel_rfl) (by kernel_rfl) (fun _ _ _ h => h) (Or.inl ⟨by rfl, ?_⟩) hHeld ?_
  rotate_left
  · (intro w hSw; (try dsimp only at hSw);  go_simp; try with_reducible rfl)
  try simp only [Act.put, List.setIfInBounds_toArray, List.set_cons_zero, List.set_cons_succ]
  refine wpAnyJ_takeL (i := 5) (d := some 10) (v := ?_) #[true, true, true, true, false, true, false, false, false, false, false, false, false] (by kernel_rfl) rfl rfl (by kernel_rfl) (by kernel_rfl) (by kernel_rfl) (by kernel_rfl) (by kernel_rfl) (fun _ _ _ h => h) (Or.inl ⟨by rfl, ?_⟩) hHeld ?_
  rotate_left
  · (intro w hSw; (try dsimp only at hSw);  go_simp; try with_reducible rfl)
  try simp only [Act.put, List.setIfInBounds_toArray, List.set_cons_zero, List.set_cons_succ]
  refine wpAnyJ_takeL (i := 6) (d := some 11) (v := ?_) #[true, true, true, true, false, true, true, false, false, false, false, false, false] (by kernel_rfl) rfl rfl (by kernel_rfl) (by kernel_rfl) (by kernel_rfl) (by kernel_rfl) (by kernel_rfl) (fun _ _ _ h => h) (Or.inl ⟨by rfl, ?_⟩) hHeld ?_
  rotate_left
  · (intro w hSw; (try dsimp only at hSw);  go_simp; try with_reducible rfl)
  try simp only [Act.put, List.setIfInBounds_toArray, List.set_cons_zero, List.set_cons_succ]
  refine wpAnyJ_takeL (i := 7) (d := some 12) (v := ?_) #[true, true, true, true, false, true, true, true, false, false, false, false, false] (by kernel_rfl) rfl rfl (by kernel_rfl) (by kernel_rfl) (by kernel_rfl) (by kernel_rfl) (by kernel_rfl) (fun _ _ _ h => h) (Or.inl ⟨by rfl, ?_⟩) hHeld ?_
  rotate_left
  · (intro w hSw; (try dsimp only at hSw);  go_simp; try with_reducible rfl)
  try simp only [Act.put, List.setIfInBounds_toArray, List.set_cons_zero, List.set_cons_succ]
  refine wpAnyJ_takeL (i := 8) (d := some 13) (v := ?_) #[true, true, true, true, false, true, true, true, true, false, false, false, false] (by kernel_rfl) rfl rfl (by kernel_rfl) (by kernel_rfl) (by kernel_rfl) (by kernel_rfl) (by kernel_rfl) (fun _ _ _ h => h) (Or.inl ⟨by rfl, ?_⟩) hHeld ?_
  rotate_left
  · (intro w hSw; (try dsimp only at hSw);  go_simp; try with_reducible rfl)
  try simp only [Act.put, List.setIfInBounds_toArray, List.set_cons_zero, List.set_cons_succ]
  refine wpAnyJ_oneL (k := 4) #[true, true, true, true, true, true, true, true, true, false, false, false, false] (by kernel_rfl) (by kernel_rfl) rfl (fun K hK => ?_)
  (go_simp; refine (HC1.out _).mono ?_; rintro e w1 ⟨rfl, rfl⟩; go_simp)
  refine hK.out _ _ (fun _ => ?_) (fun hHeld' => ?_)
  · exact HCS.out
  replace hHeld := hHeld' rfl
  clear hHeld' hK K
  try dsimp only at hHeld
  refine wpAnyJ_oneL (k := 9) #[true, true, true, true, true, true, true, true, true, true, false, false, false] (by kernel_rfl) (by kernel_rfl) rfl (fun K hK => ?_)
  (go_simp; refine (HC2.out _).mono ?_; rintro e w1 ⟨rfl, rfl⟩; go_simp)
  refine hK.out _ _ (fun _ => ?_) (fun hHeld' => ?_)
  · exact HCS.out
  replace hHeld := hHeld' rfl
  clear hHeld' hK K
  try dsimp only at hHeld
  refine wpAnyJ_oneL (k := 10) #[true, true, true, true, true, true, true, true, true, true, true, false, false] (by kernel_rfl) (by kernel_rfl) rfl (fun K hK => ?_)
  go_simp
  refine hK.out _ _ (fun _ => ?_) (fun hHeld' => ?_)
  · exact ⟨cell_al3 _ HCS.out.1, cell_al3 _ HCS.out.2.1, cell_al3 _ HCS.out.2.2.1, cell_al3 _ HCS.out.2.2.2⟩
  replace hHeld := hHeld' rfl
  clear hHeld' hK K
  try dsimp only at hHeld
  refine wpAnyJ_oneL (k := 11) #[true, true, true, true, true, true, true, true, true, true, true, true, false] (by kernel_rfl) (by kernel_rfl) rfl (fun K hK => ?_)
  (go_simp; refine (or_any W.heap.size r1 r2 _ (by simp) (by simp)).mono ?_; rintro e w1 ⟨rfl, rfl⟩; go_simp)
  refine hK.out _ _ (fun _ => ?_) (fun hHeld' => ?_)
  · exact ⟨cell_al3 _ HCS.out.1, cell_al3 _ HCS.out.2.1, cell_al3 _ HCS.out.2.2.1, cell_al3 _ HCS.out.2.2.2⟩
  replace hHeld := hHeld' rfl
  clear hHeld' hK K
  try dsimp only at hHeld
  refine wpAnyJ_takeL (i := 12) (d := some 4) (v := ?_) #[true, true, true, true, true, true, true, true, true, true, true, true, true] (by kernel_rfl) rfl rfl (by kernel_rfl) (by kernel_rfl) (by kernel_rfl) (by kernel_rfl) (by kernel_rfl) (fun _ _ _ h => h) (Or.inl ⟨by rfl, ?_⟩) hHeld ?_
  rotate_left
  · (intro w hSw; (try dsimp only at hSw);  go_simp; try with_reducible rfl)
  try simp only [Act.put, List.setIfInBounds_toArray, List.set_cons_zero, List.set_cons_succ]
  refine wpAnyJ_done (by kernel_rfl) ?_ _
  go_wp2_with fail
  go_ret
  exact ⟨ret_int HR.out.symm, HEND.out _⟩
end Go.Proofs.YtfabeihlfgemdaaDoor
