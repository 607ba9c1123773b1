import Derived.Test.YtnpfkiidhidjbaaGreatDoorZ10
/-
 Layer 12: walk of sides.
-/
namespace Go.Proofs.YtnpfkiidhidjbaaGreatDoor
open Go.RowKit
def lvB (op : List Int) (v : Int) : Bool := liveB (op.getD v.toNat 0)
def sOk (kd a b : Int) (parts : List Int) : Bool := if kd = 4 then false else if joinsB kd = false then true else !(parts.getD a.toNat 0 == parts.getD b.toNat 0)
def sL0 (kd a : Int) (op : List Int) : Bool := if kd = 4 then false else if joinsB kd = false then true else lvB op a
def sL1 (kd a b : Int) (op : List Int) : Bool := if kd = 4 then false else if joinsB kd = false then lvB op a else lvB op b
def sN0 (kd a : Int) : Int := if kd = 4 then 0 else if joinsB kd = false then -1 else a
def sN1 (kd a b : Int) : Int := if kd = 4 then 0 else if joinsB kd = false then a else b
theorem cell_two (W : World) (p c : Nat) (h : c ≠ p) (i j k : Nat) (u v : Value) : ((W.setCell ⟨p, i, none⟩ u).setCell ⟨p, j, none⟩ v).cell? ⟨c, k, none⟩ = W.cell? ⟨c, k, none⟩ :=
 (World.cell?_setCell_other _ _ _ _ (fun e => h (by injection e with e1; exact e1.symm))).trans (World.cell?_setCell_other _ _ _ _ (fun e => h (by injection e with e1; exact e1.symm)))
def SidesPost (w : World) (l0 l1 ok : Bool) (n0 n1 : Int) (e : Ending) (w' : World) : Prop := e = .returned (.tuple #[.agg #[.bool l0, .bool l1], .agg #[.int .i64 n0, .int .i64 n1], .bool ok]) ∧ Below w.heap.size w w'
set_option maxRecDepth 100000 in
set_option maxHeartbeats 4000000 in
theorem sides_earth (An Ad Ap Ao Ac : Option Addr) (nn cn nd cd : Nat) (nm : ByteArray) (kd a b co : Int) (parts op cl : List Int) (w : World) (h : VwOk w nn kd a b Ap Ao Ac parts op cl) (h4 : kd = 4) :
  Calls Tryz.prog 133 #[.agg (vwC An nn cn Ad nd cd nm kd a b co Ap Ao Ac)] w (SidesPost w (sL0 kd a op) (sL1 kd a b op) (sOk kd a b parts) (sN0 kd a) (sN1 kd a b)) := by
 subst h4
 have HB : Hid (Below w.heap.size w (((w.alloc (.cells (vwC An nn cn Ad nd cd nm 4 a b co Ap Ao Ac) 142)).alloc (.cells #[.bool false, .bool false] 158)).alloc (.cells #[.int .i64 0, .int .i64 0] 159))) := (((Below.refl _ _).alloc (Nat.le_refl _) _).alloc (by simp) _).alloc (by simp; omega) _
 have HV : Hid (Blk (((w.alloc (.cells (vwC An nn cn Ad nd cd nm 4 a b co Ap Ao Ac) 142)).alloc (.cells #[.bool false, .bool false] 158)).alloc (.cells #[.int .i64 0, .int .i64 0] 159)) w.heap.size 142 (vwC An nn cn Ad nd cd nm 4 a b co Ap Ao Ac)) := ((Blk.new w _ _).alloc _).alloc _
 have H1 : Hid (Blk (((w.alloc (.cells (vwC An nn cn Ad nd cd nm 4 a b co Ap Ao Ac) 142)).alloc (.cells #[.bool false, .bool false] 158)).alloc (.cells #[.int .i64 0, .int .i64 0] 159)) (w.heap.size + 1) 158 #[.bool false, .bool false]) := by
  have := Blk.new (w.alloc (.cells (vwC An nn cn Ad nd cd nm 4 a b co Ap Ao Ac) 142)) 158 #[.bool false, .bool false]
  rw [World.size_alloc] at this
  exact this.alloc _
 have H2 : Hid (Blk (((w.alloc (.cells (vwC An nn cn Ad nd cd nm 4 a b co Ap Ao Ac) 142)).alloc (.cells #[.bool false, .bool false] 158)).alloc (.cells #[.int .i64 0, .int .i64 0] 159)) (w.heap.size + 1 + 1) 159 #[.int .i64 0, .int .i64 0]) := by
  have := Blk.new ((w.alloc (.cells (vwC An nn cn Ad nd cd nm 4 a b co Ap Ao Ac) 142)).alloc (.cells #[.bool false, .bool false] 158)) 159 #[.int .i64 0, .int .i64 0]
  simp only [World.size_alloc] at this
  exact this
 have HO := Lib.hid (h.later HB.out)
 have HO0 := Lib.hid h
 clear h
 have hmf : ∀ (fn : Fn) (first cap : Array Value) (w : World), (Instr.makeFunc fn first cap).run Tryz.prog w = .ok (.func fn first cap) w := fun _ _ _ _ => rfl
 simp only [vwC] at HB HV H1 H2 HO ⊢
 have HJ2 := Lib.hid (joins_any 4)
 go_enter Tryz.func133, Tryz.ntmps133
 go_upto_region 2 with (fail)
 clear hmf
 generalize World.alloc (World.alloc (World.alloc _ _) _) _ = W at *
 obtain ⟨vb, hvb⟩ : ∃ vb, vb = w.heap.size := ⟨_, rfl⟩
 rw [← hvb] at H1 H2 HV ⊢
 have HVB := Lib.hid hvb; clear hvb
 have e3 : W.cell? ⟨vb, 3, none⟩ = some (.int .i64 4) := HV.out.cell 3
 have z10 : W.cell? ⟨vb + 1, 0, none⟩ = some (.bool false) := H1.out.cell 0
 have z11 : W.cell? ⟨vb + 1, 1, none⟩ = some (.bool false) := H1.out.cell 1
 have z20 : W.cell? ⟨vb + 1 + 1, 0, none⟩ = some (.int .i64 0) := H2.out.cell 0
 have z21 : W.cell? ⟨vb + 1 + 1, 1, none⟩ = some (.int .i64 0) := H2.out.cell 1
 have f10 := H1.out.frozen 0
 have f11 := H1.out.frozen 1
 have f20 := H2.out.frozen 0
 have f21 := H2.out.frozen 1
 have hvw : w.heap.size ≤ vb := Nat.le_of_eq HVB.out.symm
 go_upto_region 3 with (fail)
 clear e3
 have HE : Hid (sL0 4 a op = false ∧ sL1 4 a b op = false ∧ sN0 4 a = 0 ∧ sN1 4 a b = 0 ∧ sOk 4 a b parts = false) := by unfold Hid sL0 sL1 sN0 sN1 sOk; simp
 have HBF : Hid (Below w.heap.size w (((((W.setCell ⟨vb + 1, 0, none⟩ (.bool false)).setCell ⟨vb + 1, 1, none⟩ (.bool false)).setCell ⟨vb + 1 + 1, 0, none⟩ (.int .i64 0)).setCell ⟨vb + 1 + 1, 1, none⟩ (.int .i64 0)).drew)) := (((((HB.out.setCell (by simp; omega) _).setCell (by simp; omega) _).setCell (by simp; omega) _).setCell (by simp; omega) _).drew)
 refine wp_region_J (S := fun W' => W'.cell? ⟨vb + 1, 0, none⟩ = some (.bool false) ∧ W'.cell? ⟨vb + 1, 1, none⟩ = some (.bool false) ∧ W'.cell? ⟨vb + 1 + 1, 0, none⟩ = some (.int .i64 0) ∧ W'.cell? ⟨vb + 1 + 1, 1, none⟩ = some (.int .i64 0)) (J := [3, 4]) (by kernel_rfl) ?_ (fun hHeld => ?_)
 ·exact ⟨z10, z11, z20, z21⟩
 try dsimp only at hHeld
 refine wpAnyJ_tL (i := 0) (d := some 12) (v := ?_) #[tt, ff, ff, ff, ff] rfl rfl ?_ hHeld ?_
 rotate_left
 ·(intro w hSw; (try dsimp only at hSw);  go_simp; try with_reducible rfl)
 try simp only [Act.put, sA, s0, s1]
 refine wpAnyJ_tL (i := 1) (d := some 13) (v := ?_) #[tt, tt, ff, ff, ff] rfl rfl ?_ hHeld ?_
 rotate_left
 ·(intro w hSw; (try dsimp only at hSw);  go_simp; try with_reducible rfl)
 try simp only [Act.put, sA, s0, s1]
 refine wpAnyJ_oneL (k := 2) #[tt, tt, tt, ff, ff] (by kernel_rfl) (by kernel_rfl) rfl (fun K hK => ?_)
 go_simp
 refine hK.out _ _ (fun _ => ?_) (fun hHeld' => ?_)
 ·exact ⟨((H1.out.set 0 _).set 1 _).cell 0, ((H1.out.set 0 _).set 1 _).cell 1, (cell_two W (vb + 1) _ (by omega) _ _ _ _ _).trans z20, (cell_two W (vb + 1) _ (by omega) _ _ _ _ _).trans z21⟩
 replace hHeld := hHeld' rfl
 clear hHeld' hK K
 try dsimp only at hHeld
 refine wpAnyJ_oneL (k := 3) #[tt, tt, tt, tt, ff] (by kernel_rfl) (by kernel_rfl) rfl (fun K hK => ?_)
 go_simp
 refine hK.out _ _ (fun h => by cases h) (fun _ => ?_)
 try clear hHeld
 clear hK K
 refine wpAnyJ_oneL (k := 4) #[tt, tt, tt, tt, tt] (by kernel_rfl) (by kernel_rfl) rfl (fun K hK => ?_)
 go_simp
 refine hK.out _ _ (fun h => by cases h) (fun _ => ?_)
 try clear hHeld
 clear hK K
 refine wpAnyJ_done (by kernel_rfl) ?_ _
 go_wp2_with fail
 exact bodyPost_ret (v := .tuple #[.agg #[.bool false, .bool false], .agg #[.int .i64 0, .int .i64 0], .bool false]) (by simp [results, Tryz.results133, go_sem, z10, z11, z20, z21]; try rfl) rfl ⟨by rw [HE.out.1, HE.out.2.1, HE.out.2.2.1, HE.out.2.2.2.1, HE.out.2.2.2.2], HBF.out⟩
set_option maxRecDepth 100000 in
set_option maxHeartbeats 4000000 in
theorem sides_lone (An Ad Ap Ao Ac : Option Addr) (nn cn nd cd : Nat) (nm : ByteArray) (kd a b co : Int) (parts op cl : List Int) (w : World) (h : VwOk w nn kd a b Ap Ao Ac parts op cl) (h4 : ¬ kd = 4) (hj : joinsB kd = false) :
  Calls Tryz.prog 133 #[.agg (vwC An nn cn Ad nd cd nm kd a b co Ap Ao Ac)] w (SidesPost w (sL0 kd a op) (sL1 kd a b op) (sOk kd a b parts) (sN0 kd a) (sN1 kd a b)) := by
 have HB : Hid (Below w.heap.size w (((w.alloc (.cells (vwC An nn cn Ad nd cd nm kd a b co Ap Ao Ac) 142)).alloc (.cells #[.bool false, .bool false] 158)).alloc (.cells #[.int .i64 0, .int .i64 0] 159))) := (((Below.refl _ _).alloc (Nat.le_refl _) _).alloc (by simp) _).alloc (by simp; omega) _
 have HV : Hid (Blk (((w.alloc (.cells (vwC An nn cn Ad nd cd nm kd a b co Ap Ao Ac) 142)).alloc (.cells #[.bool false, .bool false] 158)).alloc (.cells #[.int .i64 0, .int .i64 0] 159)) w.heap.size 142 (vwC An nn cn Ad nd cd nm kd a b co Ap Ao Ac)) := ((Blk.new w _ _).alloc _).alloc _
 have H1 : Hid (Blk (((w.alloc (.cells (vwC An nn cn Ad nd cd nm kd a b co Ap Ao Ac) 142)).alloc (.cells #[.bool false, .bool false] 158)).alloc (.cells #[.int .i64 0, .int .i64 0] 159)) (w.heap.size + 1) 158 #[.bool false, .bool false]) := by
  have := Blk.new (w.alloc (.cells (vwC An nn cn Ad nd cd nm kd a b co Ap Ao Ac) 142)) 158 #[.bool false, .bool false]
  rw [World.size_alloc] at this
  exact this.alloc _
 have H2 : Hid (Blk (((w.alloc (.cells (vwC An nn cn Ad nd cd nm kd a b co Ap Ao Ac) 142)).alloc (.cells #[.bool false, .bool false] 158)).alloc (.cells #[.int .i64 0, .int .i64 0] 159)) (w.heap.size + 1 + 1) 159 #[.int .i64 0, .int .i64 0]) := by
  have := Blk.new ((w.alloc (.cells (vwC An nn cn Ad nd cd nm kd a b co Ap Ao Ac) 142)).alloc (.cells #[.bool false, .bool false] 158)) 159 #[.int .i64 0, .int .i64 0]
  simp only [World.size_alloc] at this
  exact this
 have HO := Lib.hid (h.later HB.out)
 have HO0 := Lib.hid h
 clear h
 have hmf : ∀ (fn : Fn) (first cap : Array Value) (w : World), (Instr.makeFunc fn first cap).run Tryz.prog w = .ok (.func fn first cap) w := fun _ _ _ _ => rfl
 simp only [vwC] at HB HV H1 H2 HO ⊢
 have HJ2 := Lib.hid (joins_any kd)
 go_enter Tryz.func133, Tryz.ntmps133
 go_upto_region 2 with (fail)
 clear hmf
 generalize World.alloc (World.alloc (World.alloc _ _) _) _ = W at *
 obtain ⟨vb, hvb⟩ : ∃ vb, vb = w.heap.size := ⟨_, rfl⟩
 rw [← hvb] at H1 H2 HV ⊢
 have HVB := Lib.hid hvb; clear hvb
 have e3 : W.cell? ⟨vb, 3, none⟩ = some (.int .i64 kd) := HV.out.cell 3
 have z10 : W.cell? ⟨vb + 1, 0, none⟩ = some (.bool false) := H1.out.cell 0
 have z11 : W.cell? ⟨vb + 1, 1, none⟩ = some (.bool false) := H1.out.cell 1
 have z20 : W.cell? ⟨vb + 1 + 1, 0, none⟩ = some (.int .i64 0) := H2.out.cell 0
 have z21 : W.cell? ⟨vb + 1 + 1, 1, none⟩ = some (.int .i64 0) := H2.out.cell 1
 have f10 := H1.out.frozen 0
 have f11 := H1.out.frozen 1
 have f20 := H2.out.frozen 0
 have f21 := H2.out.frozen 1
 have hvw : w.heap.size ≤ vb := Nat.le_of_eq HVB.out.symm
 have q4 : (kd == 4) = false := by simpa using h4
 have ha0 := HO.out.a0
 have e4 : W.cell? ⟨vb, 4, none⟩ = some (.int .i64 a) := HV.out.cell 4
 have e8 : W.cell? ⟨vb, 8, none⟩ = some (.slice Ao nn nn) := HV.out.cell 8
 have HB0 := Lib.hid HB.out
 have HE : Hid (sL0 kd a op = true ∧ sL1 kd a b op = liveB (op.getD a.toNat 0) ∧ sN0 kd a = -1 ∧ sN1 kd a b = a ∧ sOk kd a b parts = true) := by unfold Hid sL0 sL1 sN0 sN1 sOk lvB; simp [h4, hj]
 rw [hj] at HJ2
 clear hj
 go_wp2_with fail
 refine (HJ2.out _).mono ?_
 rintro e w1 ⟨rfl, rfl⟩
 go_upto_region 5 with (fail)
 clear e3
 have HBF : Hid (Below w.heap.size w (((((W.setCell ⟨vb + 1, 0, none⟩ (.bool true)).setCell ⟨vb + 1, 1, none⟩ (.bool (liveB (op.getD a.toNat 0)))).setCell ⟨vb + 1 + 1, 0, none⟩ (.int .i64 (-1))).setCell ⟨vb + 1 + 1, 1, none⟩ (.int .i64 a)).drew)) := (((((HB.out.setCell (by simp; omega) _).setCell (by simp; omega) _).setCell (by simp; omega) _).setCell (by simp; omega) _).drew)
 refine wp_region_J (S := fun W' => W'.cell? ⟨vb, 4, none⟩ = some (.int .i64 a)) (J := []) (by kernel_rfl) ?_ (fun hHeld => ?_)
 ·exact e4
 try dsimp only at hHeld
 refine wpAnyJ_tL (i := 0) (d := some 20) (v := ?_) #[tt, ff, ff, ff, ff, ff, ff, ff, ff, ff, ff, ff, ff] rfl rfl ?_ hHeld ?_
 rotate_left
 ·(intro w hSw; (try dsimp only at hSw);  go_simp; try with_reducible rfl)
 try simp only [Act.put, sA, s0, s1]
 refine wpAnyJ_tL (i := 1) (d := some 21) (v := ?_) #[tt, tt, ff, ff, ff, ff, ff, ff, ff, ff, ff, ff, ff] rfl rfl ?_ hHeld ?_
 rotate_left
 ·(intro w hSw; (try dsimp only at hSw);  go_simp; try with_reducible rfl)
 try simp only [Act.put, sA, s0, s1]
 refine wpAnyJ_tL (i := 2) (d := some 22) (v := ?_) #[tt, tt, tt, ff, ff, ff, ff, ff, ff, ff, ff, ff, ff] rfl rfl ?_ hHeld ?_
 rotate_left
 ·(intro w hSw; (try dsimp only at hSw);  go_simp; try with_reducible rfl)
 try simp only [Act.put, sA, s0, s1]
 refine wpAnyJ_tL (i := 3) (d := some 23) (v := ?_) #[tt, tt, tt, tt, ff, ff, ff, ff, ff, ff, ff, ff, ff] rfl rfl ?_ hHeld ?_
 rotate_left
 ·(intro w hSw; (try dsimp only at hSw);  go_simp; try with_reducible rfl)
 try simp only [Act.put, sA, s0, s1]
 refine wpAnyJ_tL (i := 6) (d := some 26) (v := ?_) #[tt, tt, tt, tt, ff, ff, tt, ff, ff, ff, ff, ff, ff] rfl rfl ?_ hHeld ?_
 rotate_left
 ·(intro w hSw; (try dsimp only at hSw);  go_simp; try with_reducible rfl)
 try simp only [Act.put, sA, s0, s1]
 refine wpAnyJ_tL (i := 7) (d := some 27) (v := ?_) #[tt, tt, tt, tt, ff, ff, tt, tt, ff, ff, ff, ff, ff] rfl rfl ?_ hHeld ?_
 rotate_left
 ·(intro w hSw; (try dsimp only at hSw);  go_simp; try with_reducible rfl)
 try simp only [Act.put, sA, s0, s1]
 refine wpAnyJ_tL (i := 8) (d := some 28) (v := ?_) #[tt, tt, tt, tt, ff, ff, tt, tt, tt, ff, ff, ff, ff] rfl rfl ?_ hHeld ?_
 rotate_left
 ·(intro w hSw; (try dsimp only at hSw);  go_simp; try with_reducible rfl)
 try simp only [Act.put, sA, s0, s1]
 refine wpAnyJ_tL (i := 9) (d := some 29) (v := ?_) #[tt, tt, tt, tt, ff, ff, tt, tt, tt, tt, ff, ff, ff] rfl rfl ?_ hHeld ?_
 rotate_left
 ·(intro w hSw; (try dsimp only at hSw);  go_simp; try with_reducible rfl)
 try simp only [Act.put, sA, s0, s1]
 refine wpAnyJ_oneL (k := 4) #[tt, tt, tt, tt, tt, ff, tt, tt, tt, tt, ff, ff, ff] (by kernel_rfl) (by kernel_rfl) rfl (fun K hK => ?_)
 (go_simp; refine (lives_any vb nn Ao op a W.drew e8 HO.out.ho ha0).mono ?_; rintro e w3 ⟨rfl, rfl⟩; go_simp)
 refine hK.out _ _ (fun _ => ?_) (fun hHeld' => ?_)
 ·exact hHeld
 replace hHeld := hHeld' rfl
 clear hHeld' hK K
 try dsimp only at hHeld
 refine wpAnyJ_tL (i := 5) (d := some 25) (v := ?_) #[tt, tt, tt, tt, tt, tt, tt, tt, tt, tt, ff, ff, ff] rfl rfl ?_ hHeld ?_
 rotate_left
 ·(intro w hSw; (try dsimp only at hSw);  go_simp; try with_reducible rfl)
 try simp only [Act.put, sA, s0, s1]
 refine wpAnyJ_oneL (k := 10) #[tt, tt, tt, tt, tt, tt, tt, tt, tt, tt, tt, ff, ff] (by kernel_rfl) (by kernel_rfl) rfl (fun K hK => ?_)
 go_simp
 refine hK.out _ _ (fun _ => ?_) (fun hHeld' => ?_)
 ·exact (cell_two W (vb + 1) _ (by omega) _ _ _ _ _).trans e4
 replace hHeld := hHeld' rfl
 clear hHeld' hK K
 try dsimp only at hHeld
 refine wpAnyJ_oneL (k := 11) #[tt, tt, tt, tt, tt, tt, tt, tt, tt, tt, tt, tt, ff] (by kernel_rfl) (by kernel_rfl) rfl (fun K hK => ?_)
 go_simp
 refine hK.out _ _ (fun _ => ?_) (fun hHeld' => ?_)
 ·exact (cell_two _ (vb + 1 + 1) _ (by omega) _ _ _ _ _).trans ((cell_two W (vb + 1) _ (by omega) _ _ _ _ _).trans e4)
 replace hHeld := hHeld' rfl
 clear hHeld' hK K
 try dsimp only at hHeld
 refine wpAnyJ_oneL (k := 12) #[tt, tt, tt, tt, tt, tt, tt, tt, tt, tt, tt, tt, tt] (by kernel_rfl) (by kernel_rfl) rfl (fun K hK => ?_)
 go_simp
 refine hK.out _ _ (fun _ => ?_) (fun hHeld' => ?_)
 ·exact hHeld
 replace hHeld := hHeld' rfl
 clear hHeld' hK K
 try dsimp only at hHeld
 refine wpAnyJ_done (by kernel_rfl) ?_ _
 go_wp2_with fail
 exact bodyPost_ret (v := .tuple #[.agg #[.bool true, .bool (liveB (op.getD a.toNat 0))], .agg #[.int .i64 (-1), .int .i64 a], .bool true]) (by simp [results, Tryz.results133, go_sem, z10, z11, z20, z21]; try rfl) rfl ⟨by rw [HE.out.1, HE.out.2.1, HE.out.2.2.1, HE.out.2.2.2.1, HE.out.2.2.2.2], HBF.out⟩
set_option maxRecDepth 100000 in
set_option maxHeartbeats 4000000 in
theorem sides_join (An Ad Ap Ao Ac : Option Addr) (nn cn nd cd : Nat) (nm : ByteArray) (kd a b co : Int) (parts op cl : List Int) (w : World) (h : VwOk w nn kd a b Ap Ao Ac parts op cl) (h4 : ¬ kd = 4) (hj : joinsB kd = true) :
  Calls Tryz.prog 133 #[.agg (vwC An nn cn Ad nd cd nm kd a b co Ap Ao Ac)] w (SidesPost w (sL0 kd a op) (sL1 kd a b op) (sOk kd a b parts) (sN0 kd a) (sN1 kd a b)) := by
 have HB : Hid (Below w.heap.size w (((w.alloc (.cells (vwC An nn cn Ad nd cd nm kd a b co Ap Ao Ac) 142)).alloc (.cells #[.bool false, .bool false] 158)).alloc (.cells #[.int .i64 0, .int .i64 0] 159))) := (((Below.refl _ _).alloc (Nat.le_refl _) _).alloc (by simp) _).alloc (by simp; omega) _
 have HV : Hid (Blk (((w.alloc (.cells (vwC An nn cn Ad nd cd nm kd a b co Ap Ao Ac) 142)).alloc (.cells #[.bool false, .bool false] 158)).alloc (.cells #[.int .i64 0, .int .i64 0] 159)) w.heap.size 142 (vwC An nn cn Ad nd cd nm kd a b co Ap Ao Ac)) := ((Blk.new w _ _).alloc _).alloc _
 have H1 : Hid (Blk (((w.alloc (.cells (vwC An nn cn Ad nd cd nm kd a b co Ap Ao Ac) 142)).alloc (.cells #[.bool false, .bool false] 158)).alloc (.cells #[.int .i64 0, .int .i64 0] 159)) (w.heap.size + 1) 158 #[.bool false, .bool false]) := by
  have := Blk.new (w.alloc (.cells (vwC An nn cn Ad nd cd nm kd a b co Ap Ao Ac) 142)) 158 #[.bool false, .bool false]
  rw [World.size_alloc] at this
  exact this.alloc _
 have H2 : Hid (Blk (((w.alloc (.cells (vwC An nn cn Ad nd cd nm kd a b co Ap Ao Ac) 142)).alloc (.cells #[.bool false, .bool false] 158)).alloc (.cells #[.int .i64 0, .int .i64 0] 159)) (w.heap.size + 1 + 1) 159 #[.int .i64 0, .int .i64 0]) := by
  have := Blk.new ((w.alloc (.cells (vwC An nn cn Ad nd cd nm kd a b co Ap Ao Ac) 142)).alloc (.cells #[.bool false, .bool false] 158)) 159 #[.int .i64 0, .int .i64 0]
  simp only [World.size_alloc] at this
  exact this
 have HO := Lib.hid (h.later HB.out)
 have HO0 := Lib.hid h
 clear h
 have hmf : ∀ (fn : Fn) (first cap : Array Value) (w : World), (Instr.makeFunc fn first cap).run Tryz.prog w = .ok (.func fn first cap) w := fun _ _ _ _ => rfl
 simp only [vwC] at HB HV H1 H2 HO ⊢
 have HJ2 := Lib.hid (joins_any kd)
 go_enter Tryz.func133, Tryz.ntmps133
 go_upto_region 2 with (fail)
 clear hmf
 generalize World.alloc (World.alloc (World.alloc _ _) _) _ = W at *
 obtain ⟨vb, hvb⟩ : ∃ vb, vb = w.heap.size := ⟨_, rfl⟩
 rw [← hvb] at H1 H2 HV ⊢
 have HVB := Lib.hid hvb; clear hvb
 have e3 : W.cell? ⟨vb, 3, none⟩ = some (.int .i64 kd) := HV.out.cell 3
 have z10 : W.cell? ⟨vb + 1, 0, none⟩ = some (.bool false) := H1.out.cell 0
 have z11 : W.cell? ⟨vb + 1, 1, none⟩ = some (.bool false) := H1.out.cell 1
 have z20 : W.cell? ⟨vb + 1 + 1, 0, none⟩ = some (.int .i64 0) := H2.out.cell 0
 have z21 : W.cell? ⟨vb + 1 + 1, 1, none⟩ = some (.int .i64 0) := H2.out.cell 1
 have f10 := H1.out.frozen 0
 have f11 := H1.out.frozen 1
 have f20 := H2.out.frozen 0
 have f21 := H2.out.frozen 1
 have hvw : w.heap.size ≤ vb := Nat.le_of_eq HVB.out.symm
 have q4 : (kd == 4) = false := by simpa using h4
 have ha0 := HO.out.a0
 have e4 : W.cell? ⟨vb, 4, none⟩ = some (.int .i64 a) := HV.out.cell 4
 have e8 : W.cell? ⟨vb, 8, none⟩ = some (.slice Ao nn nn) := HV.out.cell 8
 have HB0 := Lib.hid HB.out
 have hb0 := HO.out.b0 hj
 have e5 : W.cell? ⟨vb, 5, none⟩ = some (.int .i64 b) := HV.out.cell 5
 have e7 : W.cell? ⟨vb, 7, none⟩ = some (.slice Ap nn nn) := HV.out.cell 7
 obtain ⟨ka, rfl⟩ := Int.eq_ofNat_of_zero_le ha0.1
 obtain ⟨kb, rfl⟩ := Int.eq_ofNat_of_zero_le hb0.1
 have hnl := HO.out.n0
 have hka : ka < nn := by omega
 have hkb : kb < nn := by omega
 obtain ⟨pb, poff, x, rfl, hpb, hx, hcx⟩ := HO0.out.hp.at1 hka
 obtain ⟨pb2, poff2, y, hA2, hpb2, hy, hcy⟩ := HO0.out.hp.at1 hkb
 injection hA2 with hA2
 injection hA2 with h1 h2
 subst h1 h2
 have HE : Hid (sL0 kd ka op = liveB (op.getD (ka : Int).toNat 0) ∧ sL1 kd ka kb op = liveB (op.getD (kb : Int).toNat 0) ∧ sN0 kd ka = ka ∧ sN1 kd ka kb = kb ∧ sOk kd ka kb parts = !(x == y)) := by
  have e1 : parts.getD (ka : Int).toNat 0 = x := by rw [Int.toNat_natCast, getD_of hx]
  have e2 : parts.getD (kb : Int).toNat 0 = y := by rw [Int.toNat_natCast, getD_of hy]
  unfold Hid sL0 sL1 sN0 sN1 sOk lvB
  rw [e1, e2]
  simp [h4, hj]
 have p1 : W.cell? ⟨pb, poff + ka, none⟩ = some (.int .i64 x) := (HB0.out.cell (p := ⟨pb, poff + ka, none⟩) hpb).trans hcx
 have p2 : W.cell? ⟨pb, poff + kb, none⟩ = some (.int .i64 y) := (HB0.out.cell (p := ⟨pb, poff + kb, none⟩) hpb).trans hcy
 have hne1 : ¬ pb = vb + 1 := by omega
 have hne2 : ¬ pb = vb + 1 + 1 := by omega
 rw [hj] at HJ2
 clear hj hx hy hcx hcy hpb hpb2
 go_wp2_with fail
 refine (HJ2.out _).mono ?_
 rintro e w1 ⟨rfl, rfl⟩
 go_upto_region 6 with (fail)
 clear e3
 have HBF : Hid (Below w.heap.size w (((((W.setCell ⟨vb + 1, 0, none⟩ (.bool (liveB (op.getD (ka : Int).toNat 0)))).setCell ⟨vb + 1, 1, none⟩ (.bool (liveB (op.getD (kb : Int).toNat 0)))).setCell ⟨vb + 1 + 1, 0, none⟩ (.int .i64 ka)).setCell ⟨vb + 1 + 1, 1, none⟩ (.int .i64 kb)).drew)) := (((((HB.out.setCell (by simp; omega) _).setCell (by simp; omega) _).setCell (by simp; omega) _).setCell (by simp; omega) _).drew)
 refine wp_region_J (S := fun W' => W'.cell? ⟨vb, 4, none⟩ = some (.int .i64 ka) ∧ W'.cell? ⟨vb, 5, none⟩ = some (.int .i64 kb) ∧ W'.cell? ⟨vb, 7, none⟩ = some (.slice (some ⟨pb, poff, none⟩) nn nn) ∧ W'.cell? ⟨pb, poff + ka, none⟩ = some (.int .i64 x) ∧ W'.cell? ⟨pb, poff + kb, none⟩ = some (.int .i64 y)) (J := []) (by kernel_rfl) ?_ (fun hHeld => ?_)
 ·exact ⟨e4, e5, e7, p1, p2⟩
 try dsimp only at hHeld
 refine wpAnyJ_tL (i := 0) (d := some 30) (v := ?_) #[tt, ff, ff, ff, ff, ff, ff, ff, ff, ff, ff, ff, ff, ff, ff, ff, ff, ff, ff, ff, ff, ff, ff, ff, ff, ff, ff, ff, ff, ff, ff, ff, ff, ff, ff, ff] rfl rfl ?_ hHeld ?_
 rotate_left
 ·(intro w hSw; (try dsimp only at hSw);  go_simp; try with_reducible rfl)
 try simp only [Act.put, sA, s0, s1]
 refine wpAnyJ_tL (i := 1) (d := some 31) (v := ?_) #[tt, tt, ff, ff, ff, ff, ff, ff, ff, ff, ff, ff, ff, ff, ff, ff, ff, ff, ff, ff, ff, ff, ff, ff, ff, ff, ff, ff, ff, ff, ff, ff, ff, ff, ff, ff] rfl rfl ?_ hHeld ?_
 rotate_left
 ·(intro w hSw; (try dsimp only at hSw);  go_simp; try with_reducible rfl)
 try simp only [Act.put, sA, s0, s1]
 refine wpAnyJ_tL (i := 2) (d := some 32) (v := ?_) #[tt, tt, tt, ff, ff, ff, ff, ff, ff, ff, ff, ff, ff, ff, ff, ff, ff, ff, ff, ff, ff, ff, ff, ff, ff, ff, ff, ff, ff, ff, ff, ff, ff, ff, ff, ff] rfl rfl ?_ hHeld ?_
 rotate_left
 ·(intro w hSw; (try dsimp only at hSw);  go_simp; try with_reducible rfl)
 try simp only [Act.put, sA, s0, s1]
 refine wpAnyJ_tL (i := 3) (d := some 33) (v := ?_) #[tt, tt, tt, tt, ff, ff, ff, ff, ff, ff, ff, ff, ff, ff, ff, ff, ff, ff, ff, ff, ff, ff, ff, ff, ff, ff, ff, ff, ff, ff, ff, ff, ff, ff, ff, ff] rfl rfl ?_ hHeld ?_
 rotate_left
 ·(intro w hSw; (try dsimp only at hSw);  go_simp; try with_reducible rfl)
 try simp only [Act.put, sA, s0, s1]
 refine wpAnyJ_tL (i := 5) (d := some 35) (v := ?_) #[tt, tt, tt, tt, ff, tt, ff, ff, ff, ff, ff, ff, ff, ff, ff, ff, ff, ff, ff, ff, ff, ff, ff, ff, ff, ff, ff, ff, ff, ff, ff, ff, ff, ff, ff, ff] rfl rfl ?_ hHeld ?_
 rotate_left
 ·(intro w hSw; (try dsimp only at hSw);  go_simp; try with_reducible rfl)
 try simp only [Act.put, sA, s0, s1]
 refine wpAnyJ_tL (i := 6) (d := some 36) (v := ?_) #[tt, tt, tt, tt, ff, tt, tt, ff, ff, ff, ff, ff, ff, ff, ff, ff, ff, ff, ff, ff, ff, ff, ff, ff, ff, ff, ff, ff, ff, ff, ff, ff, ff, ff, ff, ff] rfl rfl ?_ hHeld ?_
 rotate_left
 ·(intro w hSw; (try dsimp only at hSw);  go_simp; try with_reducible rfl)
 try simp only [Act.put, sA, s0, s1]
 refine wpAnyJ_tL (i := 7) (d := some 37) (v := ?_) #[tt, tt, tt, tt, ff, tt, tt, tt, ff, ff, ff, ff, ff, ff, ff, ff, ff, ff, ff, ff, ff, ff, ff, ff, ff, ff, ff, ff, ff, ff, ff, ff, ff, ff, ff, ff] rfl rfl ?_ hHeld ?_
 rotate_left
 ·(intro w hSw; (try dsimp only at hSw);  go_simp; try with_reducible rfl)
 try simp only [Act.put, sA, s0, s1]
 refine wpAnyJ_tL (i := 8) (d := some 38) (v := ?_) #[tt, tt, tt, tt, ff, tt, tt, tt, tt, ff, ff, ff, ff, ff, ff, ff, ff, ff, ff, ff, ff, ff, ff, ff, ff, ff, ff, ff, ff, ff, ff, ff, ff, ff, ff, ff] rfl rfl ?_ hHeld ?_
 rotate_left
 ·(intro w hSw; (try dsimp only at hSw);  go_simp; try with_reducible rfl)
 try simp only [Act.put, sA, s0, s1]
 refine wpAnyJ_tL (i := 11) (d := some 41) (v := ?_) #[tt, tt, tt, tt, ff, tt, tt, tt, tt, ff, ff, tt, ff, ff, ff, ff, ff, ff, ff, ff, ff, ff, ff, ff, ff, ff, ff, ff, ff, ff, ff, ff, ff, ff, ff, ff] rfl rfl ?_ hHeld ?_
 rotate_left
 ·(intro w hSw; (try dsimp only at hSw);  go_simp; try with_reducible rfl)
 try simp only [Act.put, sA, s0, s1]
 as_aux_lemma =>
  refine wpAnyJ_tL (i := 12) (d := some 42) (v := ?_) #[tt, tt, tt, tt, ff, tt, tt, tt, tt, ff, ff, tt, tt, ff, ff, ff, ff, ff, ff, ff, ff, ff, ff, ff, ff, ff, ff, ff, ff, ff, ff, ff, ff, ff, ff, ff] rfl rfl ?_ hHeld ?_
  rotate_left
  ·(intro w hSw; (try dsimp only at hSw);  go_simp; try with_reducible rfl)
  try simp only [Act.put, sA, s0, s1]
  refine wpAnyJ_tL (i := 13) (d := some 43) (v := ?_) #[tt, tt, tt, tt, ff, tt, tt, tt, tt, ff, ff, tt, tt, tt, ff, ff, ff, ff, ff, ff, ff, ff, ff, ff, ff, ff, ff, ff, ff, ff, ff, ff, ff, ff, ff, ff] rfl rfl ?_ hHeld ?_
  rotate_left
  ·(intro w hSw; (try dsimp only at hSw);  go_simp; try with_reducible rfl)
  try simp only [Act.put, sA, s0, s1]
  refine wpAnyJ_tL (i := 14) (d := some 44) (v := ?_) #[tt, tt, tt, tt, ff, tt, tt, tt, tt, ff, ff, tt, tt, tt, tt, ff, ff, ff, ff, ff, ff, ff, ff, ff, ff, ff, ff, ff, ff, ff, ff, ff, ff, ff, ff, ff] rfl rfl ?_ hHeld ?_
  rotate_left
  ·(intro w hSw; (try dsimp only at hSw);  go_simp; try with_reducible rfl)
  try simp only [Act.put, sA, s0, s1]
  refine wpAnyJ_tL (i := 15) (d := some 45) (v := ?_) #[tt, tt, tt, tt, ff, tt, tt, tt, tt, ff, ff, tt, tt, tt, tt, tt, ff, ff, ff, ff, ff, ff, ff, ff, ff, ff, ff, ff, ff, ff, ff, ff, ff, ff, ff, ff] rfl rfl ?_ hHeld ?_
  rotate_left
  ·(intro w hSw; (try dsimp only at hSw);  go_simp; try with_reducible rfl)
  try simp only [Act.put, sA, s0, s1]
  refine wpAnyJ_tL (i := 16) (d := some 46) (v := ?_) #[tt, tt, tt, tt, ff, tt, tt, tt, tt, ff, ff, tt, tt, tt, tt, tt, tt, ff, ff, ff, ff, ff, ff, ff, ff, ff, ff, ff, ff, ff, ff, ff, ff, ff, ff, ff] rfl rfl ?_ hHeld ?_
  rotate_left
  ·(intro w hSw; (try dsimp only at hSw);  go_simp; try with_reducible rfl)
  try simp only [Act.put, sA, s0, s1]
  refine wpAnyJ_tL (i := 17) (d := some 47) (v := ?_) #[tt, tt, tt, tt, ff, tt, tt, tt, tt, ff, ff, tt, tt, tt, tt, tt, tt, tt, ff, ff, ff, ff, ff, ff, ff, ff, ff, ff, ff, ff, ff, ff, ff, ff, ff, ff] rfl rfl ?_ hHeld ?_
  rotate_left
  ·(intro w hSw; (try dsimp only at hSw);  go_simp; try with_reducible rfl)
  try simp only [Act.put, sA, s0, s1]
  refine wpAnyJ_tL (i := 18) (d := some 48) (v := ?_) #[tt, tt, tt, tt, ff, tt, tt, tt, tt, ff, ff, tt, tt, tt, tt, tt, tt, tt, tt, ff, ff, ff, ff, ff, ff, ff, ff, ff, ff, ff, ff, ff, ff, ff, ff, ff] rfl rfl ?_ hHeld ?_
  rotate_left
  ·(intro w hSw; (try dsimp only at hSw);  go_simp; try with_reducible rfl)
  try simp only [Act.put, sA, s0, s1]
  refine wpAnyJ_tL (i := 19) (d := some 49) (v := ?_) #[tt, tt, tt, tt, ff, tt, tt, tt, tt, ff, ff, tt, tt, tt, tt, tt, tt, tt, tt, tt, ff, ff, ff, ff, ff, ff, ff, ff, ff, ff, ff, ff, ff, ff, ff, ff] rfl rfl ?_ hHeld ?_
  rotate_left
  ·(intro w hSw; (try dsimp only at hSw);  go_simp; try with_reducible rfl)
  try simp only [Act.put, sA, s0, s1]
  refine wpAnyJ_tL (i := 20) (d := some 50) (v := ?_) #[tt, tt, tt, tt, ff, tt, tt, tt, tt, ff, ff, tt, tt, tt, tt, tt, tt, tt, tt, tt, tt, ff, ff, ff, ff, ff, ff, ff, ff, ff, ff, ff, ff, ff, ff, ff] rfl rfl ?_ hHeld ?_
  rotate_left
  ·(intro w hSw; (try dsimp only at hSw);  go_simp; try with_reducible rfl)
  try simp only [Act.put, sA, s0, s1]
  refine wpAnyJ_tL (i := 21) (d := some 51) (v := ?_) #[tt, tt, tt, tt, ff, tt, tt, tt, tt, ff, ff, tt, tt, tt, tt, tt, tt, tt, tt, tt, tt, tt, ff, ff, ff, ff, ff, ff, ff, ff, ff, ff, ff, ff, ff, ff] rfl rfl ?_ hHeld ?_
  rotate_left
  ·(intro w hSw; (try dsimp only at hSw);  go_simp; try with_reducible rfl)
  try simp only [Act.put, sA, s0, s1]
  refine wpAnyJ_tL (i := 22) (d := some 52) (v := ?_) #[tt, tt, tt, tt, ff, tt, tt, tt, tt, ff, ff, tt, tt, tt, tt, tt, tt, tt, tt, tt, tt, tt, tt, ff, ff, ff, ff, ff, ff, ff, ff, ff, ff, ff, ff, ff] rfl rfl ?_ hHeld ?_
  rotate_left
  ·(intro w hSw; (try dsimp only at hSw);  go_simp; try with_reducible rfl)
  try simp only [Act.put, sA, s0, s1]
  as_aux_lemma =>
   refine wpAnyJ_tL (i := 23) (d := some 53) (v := ?_) #[tt, tt, tt, tt, ff, tt, tt, tt, tt, ff, ff, tt, tt, tt, tt, tt, tt, tt, tt, tt, tt, tt, tt, tt, ff, ff, ff, ff, ff, ff, ff, ff, ff, ff, ff, ff] rfl rfl ?_ hHeld ?_
   rotate_left
   ·(intro w hSw; (try dsimp only at hSw);  go_simp; try with_reducible rfl)
   try simp only [Act.put, sA, s0, s1]
   refine wpAnyJ_tL (i := 24) (d := some 54) (v := ?_) #[tt, tt, tt, tt, ff, tt, tt, tt, tt, ff, ff, tt, tt, tt, tt, tt, tt, tt, tt, tt, tt, tt, tt, tt, tt, ff, ff, ff, ff, ff, ff, ff, ff, ff, ff, ff] rfl rfl ?_ hHeld ?_
   rotate_left
   ·(intro w hSw; (try dsimp only at hSw);  go_simp; try with_reducible rfl)
   try simp only [Act.put, sA, s0, s1]
   refine wpAnyJ_tL (i := 25) (d := some 55) (v := ?_) #[tt, tt, tt, tt, ff, tt, tt, tt, tt, ff, ff, tt, tt, tt, tt, tt, tt, tt, tt, tt, tt, tt, tt, tt, tt, tt, ff, ff, ff, ff, ff, ff, ff, ff, ff, ff] rfl rfl ?_ hHeld ?_
   rotate_left
   ·(intro w hSw; (try dsimp only at hSw);  go_simp; try with_reducible rfl)
   try simp only [Act.put, sA, s0, s1]
   refine wpAnyJ_tL (i := 26) (d := some 56) (v := ?_) #[tt, tt, tt, tt, ff, tt, tt, tt, tt, ff, ff, tt, tt, tt, tt, tt, tt, tt, tt, tt, tt, tt, tt, tt, tt, tt, tt, ff, ff, ff, ff, ff, ff, ff, ff, ff] rfl rfl ?_ hHeld ?_
   rotate_left
   ·(intro w hSw; (try dsimp only at hSw);  go_simp; try with_reducible rfl)
   try simp only [Act.put, sA, s0, s1]
   refine wpAnyJ_tL (i := 27) (d := some 57) (v := ?_) #[tt, tt, tt, tt, ff, tt, tt, tt, tt, ff, ff, tt, tt, tt, tt, tt, tt, tt, tt, tt, tt, tt, tt, tt, tt, tt, tt, tt, ff, ff, ff, ff, ff, ff, ff, ff] rfl rfl ?_ hHeld ?_
   rotate_left
   ·(intro w hSw; (try dsimp only at hSw);  go_simp; try with_reducible rfl)
   try simp only [Act.put, sA, s0, s1]
   refine wpAnyJ_tL (i := 28) (d := some 58) (v := ?_) #[tt, tt, tt, tt, ff, tt, tt, tt, tt, ff, ff, tt, tt, tt, tt, tt, tt, tt, tt, tt, tt, tt, tt, tt, tt, tt, tt, tt, tt, ff, ff, ff, ff, ff, ff, ff] rfl rfl ?_ hHeld ?_
   rotate_left
   ·(intro w hSw; (try dsimp only at hSw);  go_simp; try with_reducible rfl)
   try simp only [Act.put, sA, s0, s1]
   refine wpAnyJ_tL (i := 29) (d := some 59) (v := ?_) #[tt, tt, tt, tt, ff, tt, tt, tt, tt, ff, ff, tt, tt, tt, tt, tt, tt, tt, tt, tt, tt, tt, tt, tt, tt, tt, tt, tt, tt, tt, ff, ff, ff, ff, ff, ff] rfl rfl ?_ hHeld ?_
   rotate_left
   ·(intro w hSw; (try dsimp only at hSw);  go_simp; try with_reducible rfl)
   try simp only [Act.put, sA, s0, s1]
   refine wpAnyJ_tL (i := 30) (d := some 60) (v := ?_) #[tt, tt, tt, tt, ff, tt, tt, tt, tt, ff, ff, tt, tt, tt, tt, tt, tt, tt, tt, tt, tt, tt, tt, tt, tt, tt, tt, tt, tt, tt, tt, ff, ff, ff, ff, ff] rfl rfl ?_ hHeld ?_
   rotate_left
   ·(intro w hSw; (try dsimp only at hSw);  go_simp; try with_reducible rfl)
   try simp only [Act.put, sA, s0, s1]
   refine wpAnyJ_tL (i := 31) (d := some 61) (v := ?_) #[tt, tt, tt, tt, ff, tt, tt, tt, tt, ff, ff, tt, tt, tt, tt, tt, tt, tt, tt, tt, tt, tt, tt, tt, tt, tt, tt, tt, tt, tt, tt, tt, ff, ff, ff, ff] rfl rfl ?_ hHeld ?_
   rotate_left
   ·(intro w hSw; (try dsimp only at hSw);  go_simp; try with_reducible rfl)
   try simp only [Act.put, sA, s0, s1]
   refine wpAnyJ_tL (i := 32) (d := some 62) (v := ?_) #[tt, tt, tt, tt, ff, tt, tt, tt, tt, ff, ff, tt, tt, tt, tt, tt, tt, tt, tt, tt, tt, tt, tt, tt, tt, tt, tt, tt, tt, tt, tt, tt, tt, ff, ff, ff] rfl rfl ?_ hHeld ?_
   rotate_left
   ·(intro w hSw; (try dsimp only at hSw);  go_simp; try with_reducible rfl)
   try simp only [Act.put, sA, s0, s1]
   as_aux_lemma =>
    refine wpAnyJ_oneL (k := 4) #[tt, tt, tt, tt, tt, tt, tt, tt, tt, ff, ff, tt, tt, tt, tt, tt, tt, tt, tt, tt, tt, tt, tt, tt, tt, tt, tt, tt, tt, tt, tt, tt, tt, ff, ff, ff] (by kernel_rfl) (by kernel_rfl) rfl (fun K hK => ?_)
    (go_simp; refine (lives_any vb nn Ao op ka W.drew e8 HO.out.ho ha0).mono ?_; rintro e w3 ⟨rfl, rfl⟩; go_simp)
    refine hK.out _ _ (fun _ => ?_) (fun hHeld' => ?_)
    ·exact hHeld
    replace hHeld := hHeld' rfl
    clear hHeld' hK K
    try dsimp only at hHeld
    refine wpAnyJ_oneL (k := 9) #[tt, tt, tt, tt, tt, tt, tt, tt, tt, tt, ff, tt, tt, tt, tt, tt, tt, tt, tt, tt, tt, tt, tt, tt, tt, tt, tt, tt, tt, tt, tt, tt, tt, ff, ff, ff] (by kernel_rfl) (by kernel_rfl) rfl (fun K hK => ?_)
    (go_simp; refine (lives_any vb nn Ao op kb W.drew e8 HO.out.ho hb0).mono ?_; rintro e w3 ⟨rfl, rfl⟩; go_simp)
    refine hK.out _ _ (fun _ => ?_) (fun hHeld' => ?_)
    ·exact hHeld
    replace hHeld := hHeld' rfl
    clear hHeld' hK K
    try dsimp only at hHeld
    refine wpAnyJ_tL (i := 10) (d := some 40) (v := ?_) #[tt, tt, tt, tt, tt, tt, tt, tt, tt, tt, tt, tt, tt, tt, tt, tt, tt, tt, tt, tt, tt, tt, tt, tt, tt, tt, tt, tt, tt, tt, tt, tt, tt, ff, ff, ff] rfl rfl ?_ hHeld ?_
    rotate_left
    ·(intro w hSw; (try dsimp only at hSw);  go_simp; try with_reducible rfl)
    try simp only [Act.put, sA, s0, s1]
    refine wpAnyJ_oneL (k := 33) #[tt, tt, tt, tt, tt, tt, tt, tt, tt, tt, tt, tt, tt, tt, tt, tt, tt, tt, tt, tt, tt, tt, tt, tt, tt, tt, tt, tt, tt, tt, tt, tt, tt, tt, ff, ff] (by kernel_rfl) (by kernel_rfl) rfl (fun K hK => ?_)
    go_simp
    refine hK.out _ _ (fun _ => ?_) (fun hHeld' => ?_)
    ·exact ⟨(cell_two W (vb + 1) _ (by omega) _ _ _ _ _).trans e4, (cell_two W (vb + 1) _ (by omega) _ _ _ _ _).trans e5, (cell_two W (vb + 1) _ (by omega) _ _ _ _ _).trans e7, (cell_two W (vb + 1) _ (by omega) _ _ _ _ _).trans p1, (cell_two W (vb + 1) _ (by omega) _ _ _ _ _).trans p2⟩
    replace hHeld := hHeld' rfl
    clear hHeld' hK K
    try dsimp only at hHeld
    refine wpAnyJ_oneL (k := 34) #[tt, tt, tt, tt, tt, tt, tt, tt, tt, tt, tt, tt, tt, tt, tt, tt, tt, tt, tt, tt, tt, tt, tt, tt, tt, tt, tt, tt, tt, tt, tt, tt, tt, tt, tt, ff] (by kernel_rfl) (by kernel_rfl) rfl (fun K hK => ?_)
    go_simp
    refine hK.out _ _ (fun _ => ?_) (fun hHeld' => ?_)
    ·exact ⟨(cell_two _ (vb + 1 + 1) _ (by omega) _ _ _ _ _).trans ((cell_two W (vb + 1) _ (by omega) _ _ _ _ _).trans e4), (cell_two _ (vb + 1 + 1) _ (by omega) _ _ _ _ _).trans ((cell_two W (vb + 1) _ (by omega) _ _ _ _ _).trans e5), (cell_two _ (vb + 1 + 1) _ (by omega) _ _ _ _ _).trans ((cell_two W (vb + 1) _ (by omega) _ _ _ _ _).trans e7), (cell_two _ (vb + 1 + 1) _ (by omega) _ _ _ _ _).trans ((cell_two W (vb + 1) _ (by omega) _ _ _ _ _).trans p1), (cell_two _ (vb + 1 + 1) _ (by omega) _ _ _ _ _).trans ((cell_two W (vb + 1) _ (by omega) _ _ _ _ _).trans p2)⟩
    replace hHeld := hHeld' rfl
    clear hHeld' hK K
    try dsimp only at hHeld
    refine wpAnyJ_oneL (k := 35) #[tt, tt, tt, tt, tt, tt, tt, tt, tt, tt, tt, tt, tt, tt, tt, tt, tt, tt, tt, tt, tt, tt, tt, tt, tt, tt, tt, tt, tt, tt, tt, tt, tt, tt, tt, tt] (by kernel_rfl) (by kernel_rfl) rfl (fun K hK => ?_)
    go_simp
    refine hK.out _ _ (fun _ => ?_) (fun hHeld' => ?_)
    ·exact hHeld
    replace hHeld := hHeld' rfl
    clear hHeld' hK K
    try dsimp only at hHeld
    refine wpAnyJ_done (by kernel_rfl) ?_ _
    go_wp2_with fail
    exact bodyPost_ret (v := .tuple #[.agg #[.bool (liveB (op.getD (ka : Int).toNat 0)), .bool (liveB (op.getD (kb : Int).toNat 0))], .agg #[.int .i64 ka, .int .i64 kb], .bool (!(x == y))]) (by simp [results, Tryz.results133, go_sem, z10, z11, z20, z21]; try rfl) rfl ⟨by rw [HE.out.1, HE.out.2.1, HE.out.2.2.1, HE.out.2.2.2.1, HE.out.2.2.2.2], HBF.out⟩
theorem sides_any (An Ad Ap Ao Ac : Option Addr) (nn cn nd cd : Nat) (nm : ByteArray) (kd a b co : Int) (parts op cl : List Int) (w : World) (h : VwOk w nn kd a b Ap Ao Ac parts op cl) :
  Calls Tryz.prog 133 #[.agg (vwC An nn cn Ad nd cd nm kd a b co Ap Ao Ac)] w (SidesPost w (sL0 kd a op) (sL1 kd a b op) (sOk kd a b parts) (sN0 kd a) (sN1 kd a b)) := by
 by_cases h4 : kd = 4
 ·exact sides_earth An Ad Ap Ao Ac nn cn nd cd nm kd a b co parts op cl w h h4
 ·rcases hj : joinsB kd with _ | _
  ·exact sides_lone An Ad Ap Ao Ac nn cn nd cd nm kd a b co parts op cl w h h4 hj
  ·exact sides_join An Ad Ap Ao Ac nn cn nd cd nm kd a b co parts op cl w h h4 hj
end Go.Proofs.YtnpfkiidhidjbaaGreatDoor
