import Derived.Test.YtlcaebfjdhgcfaaDoorZ25
/-
  The program's field: unused, the copy of a field.
-/
namespace Go.Proofs.YtlcaebfjdhgcfaaDoor
open Go.RowKit
set_option maxHeartbeats 2000000 in
theorem unused_any (k d p q : Int) (w : World) : Calls Tryd.prog 21 #[.agg #[.int .i64 k, .int .i64 d, .int .i64 p, .int .i64 q]] w fun e w' => e = .returned (.bool (unuB k p q)) ∧ Below w.heap.size w w' := by
  obtain ⟨u, hu⟩ : ∃ u, u = unuB k p q := ⟨_, rfl⟩
  rw [← hu]
  have HBL : Hid (Below w.heap.size w (w.alloc (.cells #[.int .i64 k, .int .i64 d, .int .i64 p, .int .i64 q] 37))) := (Below.refl _ _).alloc (Nat.le_refl _) _
  unfold unuB at hu
  by_cases h6 : k = 6
  · subst h6
    rw [if_pos rfl] at hu
    subst hu
    go_enter Tryd.func21, Tryd.ntmps21
    go_wp2_with fail
    go_ret
    exact ⟨rfl, HBL.out⟩
  rw [if_neg h6] at hu
  have q6 : (k == 6) = false := by simpa using h6
  by_cases h7 : k = 7
  · subst h7
    rw [if_pos rfl] at hu
    have HU := Lib.hid hu
    clear hu h6
    go_enter Tryd.func21, Tryd.ntmps21
    go_wp2_with fail
    go_ret
    exact ⟨by rw [HU.out]; exact ret_bool (by rw [Bool.eq_iff_iff]; simp), HBL.out⟩
  rw [if_neg h7] at hu
  have q7 : (k == 7) = false := by simpa using h7
  have two : ∀ (P0 Q0 : Bool), P0 = decide (p ≠ 0) → Q0 = decide (q ≠ 0) → True := fun _ _ _ _ => trivial
  clear two
  by_cases h2 : k = 2 ∨ k = 4 ∨ k = 5
  · rw [if_pos h2] at hu
    have HU := Lib.hid hu
    clear hu h6 h7
    by_cases hp : p = 0
    · have qp : (p != 0) = false := by simpa using hp
      have HR : Hid (u = (q != 0)) := by unfold Hid; rw [HU.out, Bool.eq_iff_iff]; simp [hp]
      clear hp
      rcases h2 with rfl | rfl | rfl
      all_goals
        go_enter Tryd.func21, Tryd.ntmps21
        go_wp2_with fail
        go_ret
        exact ⟨by rw [HR.out]; rfl, HBL.out⟩
    · have qp : (p != 0) = true := by simpa using hp
      have HR : Hid (u = true) := by unfold Hid; rw [HU.out]; simp [hp]
      clear hp
      rcases h2 with rfl | rfl | rfl
      all_goals
        go_enter Tryd.func21, Tryd.ntmps21
        go_wp2_with fail
        go_ret
        exact ⟨by rw [HR.out]; rfl, HBL.out⟩
  · rw [if_neg h2] at hu
    have q2 : (k == 2) = false := by simp; omega
    have q4 : (k == 4) = false := by simp; omega
    have q5 : (k == 5) = false := by simp; omega
    have HR : Hid (u = (q != 0)) := by unfold Hid; rw [hu, Bool.eq_iff_iff]; simp
    clear hu h6 h7 h2
    go_enter Tryd.func21, Tryd.ntmps21
    go_wp2_with fail
    go_ret
    exact ⟨by rw [HR.out]; rfl, HBL.out⟩
def CopPost (w : World) (n nl nt : Nat) (F : Fd) (e : Ending) (w' : World) : Prop := ∃ (A1 A2 A3 : Option Addr) (c1 c2 c3 : Nat), e = .returned (.agg #[.slice A1 n c1, .slice A2 nl c2, .slice A3 nt c3]) ∧ Hid (IntsO w' w.heap.size A1 n c1 F.s) ∧ Hid (LocksO w' w.heap.size A2 nl c2 F.ls) ∧ Hid (IntsO w' w.heap.size A3 nt c3 F.st) ∧ Hid (Below w.heap.size w w')
/-- The boxes of copies.Field: the argument's, the result's. -/
structure Bc (w : World) (cf : Array Value) (wr : World) : Prop where
  b0 : Blk wr w.heap.size 33 cf
  b1 : Blk wr (w.heap.size + 1) 33 #[.slice none 0 0, .slice none 0 0, .slice none 0 0]
  bl : Below w.heap.size w wr
theorem Bc.new (w : World) (cf : Array Value) : Bc w cf ((w.alloc (.cells cf 33)).alloc (.cells #[.slice none 0 0, .slice none 0 0, .slice none 0 0] 33)) := by
  have e : (w.alloc (.cells cf 33)).heap.size = w.heap.size + 1 := by simp
  refine ⟨(Blk.new w _ _).alloc _, ?_, ((Below.refl _ _).alloc (Nat.le_refl _) _).alloc (by simp) _⟩
  have := Blk.new (w.alloc (.cells cf 33)) 33 #[.slice none 0 0, .slice none 0 0, .slice none 0 0]
  rwa [e] at this
theorem Bc.later {w wr wr' : World} {cf : Array Value} (h : Bc w cf wr) (hb : Below wr.heap.size wr wr') : Bc w cf wr' := ⟨h.b0.below hb h.b0.lt, h.b1.below hb h.b1.lt, h.bl.trans (hb.mono h.bl.size)⟩
theorem Bc.cells {w wr : World} {x y z : Value} (h : Bc w #[x, y, z] wr) : wr.cell? ⟨w.heap.size, 0, none⟩ = some x ∧ wr.cell? ⟨w.heap.size, 1, none⟩ = some y ∧ wr.cell? ⟨w.heap.size, 2, none⟩ = some z := ⟨h.b0.cell 0, h.b0.cell 1, h.b0.cell 2⟩
/-- The three slices of a field. -/
def Fd3 (w : World) (As : Option Addr) (n c : Nat) (Al : Option Addr) (nl cl : Nat) (At : Option Addr) (nt ct : Nat) (F : Fd) : Prop := Sl w w.heap.size 1 As n c (intsV F.s) ∧ Sl w w.heap.size 3 Al nl cl (F.ls.flatMap Lk.cells) ∧ Sl w w.heap.size 1 At nt ct (intsV F.st)
theorem fd3_later {w w' : World} {As Al At : Option Addr} {n c nl cl nt ct : Nat} {F : Fd} (h : Fd3 w As n c Al nl cl At nt ct F) (hb : Below w.heap.size w w') : Fd3 w' As n c Al nl cl At nt ct F :=
  ⟨(h.1.below hb (Nat.le_refl _)).more hb.size, (h.2.1.below hb (Nat.le_refl _)).more hb.size, (h.2.2.below hb (Nat.le_refl _)).more hb.size⟩
theorem own_far {w : World} {base size n c x i : Nat} {e : TypeId} {A : Option Addr} {xs : List Value} {u : Value} (h : w.ownsRow base e size (.slice A n c) n xs) (hx : x < base) : (w.setCell ⟨x, i, none⟩ u).ownsRow base e size (.slice A n c) n xs :=
  h.kept (grown_cell _ _ _) (ne_row fun b e => by have := (h.lt b e).1; simp; omega)
set_option maxRecDepth 100000 in
set_option maxHeartbeats 4000000 in
theorem copies_any (As Al At : Option Addr) (n c nl cl nt ct : Nat) (F : Fd) (w : World) (h : Fd3 w As n c Al nl cl At nt ct F) (hn : n ≤ 1000000) (hnl : nl ≤ 1000000) (hnt : nt ≤ 1000000) :
    Calls Tryd.prog 25 #[.agg #[.slice As n c, .slice Al nl cl, .slice At nt ct]] w (CopPost w n nl nt F) := by
  have HLS : Hid (F.s.length = n) := h.1.len (fun _ => rfl) (by decide)
  have HLL : Hid (F.ls.length = nl) := h.2.1.len (fun _ => rfl) (by decide)
  have HLT : Hid (F.st.length = nt) := h.2.2.len (fun _ => rfl) (by decide)
  have HB := Lib.hid (Bc.new w #[.slice As n c, .slice Al nl cl, .slice At nt ct])
  have HH := Lib.hid h
  clear h
  go_enter Tryd.func25, Tryd.ntmps25
  go_upto_region 1 with (fail)
  generalize World.alloc (World.alloc w _) _ = W at *
  have HB0 := Lib.hid (HB.out.later (Below.refl _ _).drew)
  have HM0 := Lib.hid (fd3_later HH.out HB0.out.bl)
  refine wp_region_J (S := fun W' => W'.cell? ⟨w.heap.size, 0, none⟩ = some (.slice As n c) ∧ W'.cell? ⟨w.heap.size, 1, none⟩ = some (.slice Al nl cl) ∧ W'.cell? ⟨w.heap.size, 2, none⟩ = some (.slice At nt ct)) (J := [10, 11, 12, 13, 14]) (by kernel_rfl) ?_ (fun hHeld => ?_)
  · exact HB.out.cells
  try dsimp only at hHeld
  refine wpAnyJ_takeL (i := 0) (d := some 3) (v := ?_) #[true, false, false, false, false, false, false, false, false, false, false, false, false, false, false] (by kernel_rfl) rfl rfl (by kernel_rfl) (by kernel_rfl) (by kernel_rfl) (by kernel_rfl) (by kernel_rfl) (fun _ _ _ h => h) (Or.inl ⟨by rfl, ?_⟩) hHeld ?_
  rotate_left
  · (intro w hSw; (try dsimp only at hSw);  go_simp; try with_reducible rfl)
  try simp only [Act.put, List.setIfInBounds_toArray, List.set_cons_zero, List.set_cons_succ]
  refine wpAnyJ_takeL (i := 1) (d := some 4) (v := ?_) #[true, true, false, false, false, false, false, false, false, false, false, false, false, false, false] (by kernel_rfl) rfl rfl (by kernel_rfl) (by kernel_rfl) (by kernel_rfl) (by kernel_rfl) (by kernel_rfl) (fun _ _ _ h => h) (Or.inl ⟨by rfl, ?_⟩) hHeld ?_
  rotate_left
  · (intro w hSw; (try dsimp only at hSw);  go_simp; try with_reducible rfl)
  try simp only [Act.put, List.setIfInBounds_toArray, List.set_cons_zero, List.set_cons_succ]
  refine wpAnyJ_takeL (i := 3) (d := some 6) (v := ?_) #[true, true, false, true, false, false, false, false, false, false, false, false, false, false, false] (by kernel_rfl) rfl rfl (by kernel_rfl) (by kernel_rfl) (by kernel_rfl) (by kernel_rfl) (by kernel_rfl) (fun _ _ _ h => h) (Or.inl ⟨by rfl, ?_⟩) hHeld ?_
  rotate_left
  · (intro w hSw; (try dsimp only at hSw);  go_simp; try with_reducible rfl)
  try simp only [Act.put, List.setIfInBounds_toArray, List.set_cons_zero, List.set_cons_succ]
  refine wpAnyJ_takeL (i := 4) (d := some 7) (v := ?_) #[true, true, false, true, true, false, false, false, false, false, false, false, false, false, false] (by kernel_rfl) rfl rfl (by kernel_rfl) (by kernel_rfl) (by kernel_rfl) (by kernel_rfl) (by kernel_rfl) (fun _ _ _ h => h) (Or.inl ⟨by rfl, ?_⟩) hHeld ?_
  rotate_left
  · (intro w hSw; (try dsimp only at hSw);  go_simp; try with_reducible rfl)
  try simp only [Act.put, List.setIfInBounds_toArray, List.set_cons_zero, List.set_cons_succ]
  refine wpAnyJ_takeL (i := 6) (d := some 9) (v := ?_) #[true, true, false, true, true, false, true, false, false, false, false, false, false, false, false] (by kernel_rfl) rfl rfl (by kernel_rfl) (by kernel_rfl) (by kernel_rfl) (by kernel_rfl) (by kernel_rfl) (fun _ _ _ h => h) (Or.inl ⟨by rfl, ?_⟩) hHeld ?_
  rotate_left
  · (intro w hSw; (try dsimp only at hSw);  go_simp; try with_reducible rfl)
  try simp only [Act.put, List.setIfInBounds_toArray, List.set_cons_zero, List.set_cons_succ]
  refine wpAnyJ_takeL (i := 7) (d := some 10) (v := ?_) #[true, true, false, true, true, false, true, true, false, false, false, false, false, false, false] (by kernel_rfl) rfl rfl (by kernel_rfl) (by kernel_rfl) (by kernel_rfl) (by kernel_rfl) (by kernel_rfl) (fun _ _ _ h => h) (Or.inl ⟨by rfl, ?_⟩) hHeld ?_
  rotate_left
  · (intro w hSw; (try dsimp only at hSw);  go_simp; try with_reducible rfl)
  try simp only [Act.put, List.setIfInBounds_toArray, List.set_cons_zero, List.set_cons_succ]
  refine wpAnyJ_oneL (k := 2) #[true, true, true, true, true, false, true, true, false, false, false, false, false, false, false] (by kernel_rfl) (by kernel_rfl) rfl (fun K hK => ?_)
  (go_simp; refine (clone_any As n c _ F.s W.drew HM0.out.1 (Nat.le_refl _) hn).mono ?_; rintro e w1 ⟨A1, c1, rfl, hO1, hb1⟩; rw [HLS.out] at hO1 ⊢; go_simp)
  refine hK.out _ _ (fun _ => ?_) (fun hHeld' => ?_)
  · exact (HB0.out.later hb1.out).cells
  replace hHeld := hHeld' rfl
  clear hHeld' hK K
  try dsimp only at hHeld
  have HB1 := Lib.hid (HB0.out.later hb1.out); have HM1 := Lib.hid (fd3_later HM0.out hb1.out); have HO1 := Lib.hid (hO1.out.mono HB0.out.b1.lt)
  clear hO1 hb1
  refine wpAnyJ_takeL (i := 9) (d := some 12) (v := ?_) #[true, true, true, true, true, false, true, true, false, true, false, false, false, false, false] (by kernel_rfl) rfl rfl (by kernel_rfl) (by kernel_rfl) (by kernel_rfl) (by kernel_rfl) (by kernel_rfl) (fun _ _ _ h => h) (Or.inl ⟨by rfl, ?_⟩) hHeld ?_
  rotate_left
  · (intro w hSw; (try dsimp only at hSw);  go_simp; try with_reducible rfl)
  try simp only [Act.put, List.setIfInBounds_toArray, List.set_cons_zero, List.set_cons_succ]
  refine wpAnyJ_oneL (k := 5) #[true, true, true, true, true, true, true, true, false, true, false, false, false, false, false] (by kernel_rfl) (by kernel_rfl) rfl (fun K hK => ?_)
  (go_simp; refine (clonelk_any Al nl cl _ F.ls w1 HM1.out.2.1 (Nat.le_refl _) hnl).mono ?_; rintro e w2 ⟨A2, c2, rfl, hO2, hb2⟩; rw [HLL.out] at hO2 ⊢; go_simp)
  refine hK.out _ _ (fun _ => ?_) (fun hHeld' => ?_)
  · exact (HB1.out.later hb2.out).cells
  replace hHeld := hHeld' rfl
  clear hHeld' hK K
  try dsimp only at hHeld
  have HB2 := Lib.hid (HB1.out.later hb2.out); have HM2 := Lib.hid (fd3_later HM1.out hb2.out); have HP1 := Lib.hid (own_later HO1.out hb2.out); have HO2 := Lib.hid (World.ownsRow.mono hO2.out HB1.out.b1.lt)
  clear hO2 hb2
  refine wpAnyJ_oneL (k := 8) #[true, true, true, true, true, true, true, true, true, true, false, false, false, false, false] (by kernel_rfl) (by kernel_rfl) rfl (fun K hK => ?_)
  (go_simp; refine (clone_any At nt ct _ F.st w2 HM2.out.2.2 (Nat.le_refl _) hnt).mono ?_; rintro e w3 ⟨A3, c3, rfl, hO3, hb3⟩; rw [HLT.out] at hO3 ⊢; go_simp)
  refine hK.out _ _ (fun _ => ?_) (fun hHeld' => ?_)
  · exact (HB2.out.later hb3.out).cells
  replace hHeld := hHeld' rfl
  clear hHeld' hK K
  try dsimp only at hHeld
  have HB3 := Lib.hid (HB2.out.later hb3.out); have HQ1 := Lib.hid (own_later HP1.out hb3.out); have HQ2 := Lib.hid (own_later HO2.out hb3.out); have HQ3 := Lib.hid (hO3.out.mono HB2.out.b1.lt)
  obtain ⟨b0, b1, b2⟩ := HB3.out.cells; have z0 := HB3.out.b0.frozen 0; have z1 := HB3.out.b0.frozen 1; have z2 := HB3.out.b0.frozen 2
  clear hO3 hb3
  refine wpAnyJ_oneL (k := 10) #[true, true, true, true, true, true, true, true, true, true, true, false, false, false, false] (by kernel_rfl) (by kernel_rfl) rfl (fun K hK => ?_)
  go_simp
  refine hK.out _ _ (fun h => by cases h) (fun _ => ?_)
  try clear hHeld
  clear hK K
  refine wpAnyJ_oneL (k := 11) #[true, true, true, true, true, true, true, true, true, true, true, true, false, false, false] (by kernel_rfl) (by kernel_rfl) rfl (fun K hK => ?_)
  go_simp
  refine hK.out _ _ (fun h => by cases h) (fun _ => ?_)
  try clear hHeld
  clear hK K
  refine wpAnyJ_oneL (k := 12) #[true, true, true, true, true, true, true, true, true, true, true, true, true, false, false] (by kernel_rfl) (by kernel_rfl) rfl (fun K hK => ?_)
  go_simp
  refine hK.out _ _ (fun h => by cases h) (fun _ => ?_)
  try clear hHeld
  clear hK K
  refine wpAnyJ_oneL (k := 13) #[true, true, true, true, true, true, true, true, true, true, true, true, true, true, false] (by kernel_rfl) (by kernel_rfl) rfl (fun K hK => ?_)
  go_simp
  refine hK.out _ _ (fun h => by cases h) (fun _ => ?_)
  try clear hHeld
  clear hK K
  refine wpAnyJ_oneL (k := 14) #[true, true, true, true, true, true, true, true, true, true, true, true, true, true, true] (by kernel_rfl) (by kernel_rfl) rfl (fun K hK => ?_)
  go_simp
  refine hK.out _ _ (fun h => by cases h) (fun _ => ?_)
  try clear hHeld
  clear hK K
  refine wpAnyJ_done (by kernel_rfl) ?_ _
  clear b0 b1 b2 z0 z1 z2
  have HBF : Hid (Bc w #[.slice A1 n c1, .slice A2 nl c2, .slice A3 nt c3] (((w3.setCell ⟨w.heap.size, 0, none⟩ (.slice A1 n c1)).setCell ⟨w.heap.size, 1, none⟩ (.slice A2 nl c2)).setCell ⟨w.heap.size, 2, none⟩ (.slice A3 nt c3))) :=
    ⟨((HB3.out.b0.set 0 _).set 1 _).set 2 _, ((HB3.out.b1.far (by simp) _).far (by simp) _).far (by simp) _, ((HB3.out.bl.setCell (by simp) _).setCell (by simp) _).setCell (by simp) _⟩
  have HR1 := Lib.hid (own_far (x := w.heap.size) (i := 2) (u := .slice A3 nt c3) (own_far (x := w.heap.size) (i := 1) (u := .slice A2 nl c2) (own_far (x := w.heap.size) (i := 0) (u := .slice A1 n c1) HQ1.out (by omega)) (by omega)) (by omega))
  have HR2 := Lib.hid (own_far (x := w.heap.size) (i := 2) (u := .slice A3 nt c3) (own_far (x := w.heap.size) (i := 1) (u := .slice A2 nl c2) (own_far (x := w.heap.size) (i := 0) (u := .slice A1 n c1) HQ2.out (by omega)) (by omega)) (by omega))
  have HR3 := Lib.hid (own_far (x := w.heap.size) (i := 2) (u := .slice A3 nt c3) (own_far (x := w.heap.size) (i := 1) (u := .slice A2 nl c2) (own_far (x := w.heap.size) (i := 0) (u := .slice A1 n c1) HQ3.out (by omega)) (by omega)) (by omega))
  generalize World.setCell (World.setCell (World.setCell w3 _ _) _ _) _ _ = ws at *
  clear HQ1 HQ2 HQ3 HB3 HP1 HO1 HO2
  obtain ⟨b0, b1, b2⟩ := HBF.out.cells
  have z0 := HBF.out.b1.frozen 0; have z1 := HBF.out.b1.frozen 1; have z2 := HBF.out.b1.frozen 2
  have d0 : ws.cell? ⟨w.heap.size + 1, 0, none⟩ = some (.slice none 0 0) := HBF.out.b1.cell 0
  have d1 : ws.cell? ⟨w.heap.size + 1, 1, none⟩ = some (.slice none 0 0) := HBF.out.b1.cell 1
  have d2 : ws.cell? ⟨w.heap.size + 1, 2, none⟩ = some (.slice none 0 0) := HBF.out.b1.cell 2
  go_wp2_with fail
  clear b0 b1 b2 z0 z1 z2
  obtain ⟨x, hx⟩ : ∃ x, x = (((ws.setCell ⟨w.heap.size + 1, 0, none⟩ (.slice A1 n c1)).setCell ⟨w.heap.size + 1, 1, none⟩ (.slice A2 nl c2)).setCell ⟨w.heap.size + 1, 2, none⟩ (.slice A3 nt c3)) := ⟨_, rfl⟩
  have HX : Hid (CopPost w n nl nt F (.returned (.agg #[.slice A1 n c1, .slice A2 nl c2, .slice A3 nt c3])) x) := by
    rw [hx]
    have f := fun {e : TypeId} {size m b : Nat} {A : Option Addr} {xs : List Value} (h : ws.ownsRow (w.heap.size + 1 + 1) e size (.slice A m b) m xs) => own_far (x := w.heap.size + 1) (i := 2) (u := .slice A3 nt c3) (own_far (x := w.heap.size + 1) (i := 1) (u := .slice A2 nl c2) (own_far (x := w.heap.size + 1) (i := 0) (u := .slice A1 n c1) h (Nat.lt_succ_self _)) (Nat.lt_succ_self _)) (Nat.lt_succ_self _)
    exact ⟨A1, A2, A3, c1, c2, c3, rfl, (f HR1.out).mono (Nat.le_add_right _ 2), (f HR2.out).mono (Nat.le_add_right _ 2), (f HR3.out).mono (Nat.le_add_right _ 2), ((HBF.out.bl.setCell (by simp) _).setCell (by simp) _).setCell (by simp) _⟩
  have HD : Hid (Blk x (w.heap.size + 1) 33 #[.slice A1 n c1, .slice A2 nl c2, .slice A3 nt c3]) := by
    unfold Hid; rw [hx]; exact ((HBF.out.b1.set 0 _).set 1 _).set 2 _
  rw [← hx]
  clear hx d0 d1 d2 HR1 HR2 HR3 HBF
  have d0 : x.cell? ⟨w.heap.size + 1, 0, none⟩ = some (.slice A1 n c1) := HD.out.cell 0
  have d1 : x.cell? ⟨w.heap.size + 1, 1, none⟩ = some (.slice A2 nl c2) := HD.out.cell 1
  have d2 : x.cell? ⟨w.heap.size + 1, 2, none⟩ = some (.slice A3 nt c3) := HD.out.cell 2
  exact bodyPost_ret (v := .agg #[.slice A1 n c1, .slice A2 nl c2, .slice A3 nt c3]) (by simp [results, Tryd.results25, go_sem, d0, d1, d2]) rfl HX.out
end Go.Proofs.YtlcaebfjdhgcfaaDoor
