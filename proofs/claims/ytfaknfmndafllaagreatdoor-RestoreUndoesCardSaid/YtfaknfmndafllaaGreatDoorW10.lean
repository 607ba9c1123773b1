import Derived.Test.YtfaknfmndafllaaGreatDoorW09
set_option maxRecDepth 100000
set_option maxHeartbeats 4000000
namespace Go.Proofs.YtfaknfmndafllaaGreatDoor
open Go.RowKit
def lvB (op : List Int) (v : Int) : Bool := liveB (op.getD v.toNat 0)
def sOk (kd a b : Int) (parts : List Int) : Bool := if kd = 4 then false else if joinsB kd = false then true else !(parts.getD a.toNat 0 == parts.getD b.toNat 0)
def sL0 (kd a : Int) (op : List Int) : Bool := if kd = 4 then false else if joinsB kd = false then true else lvB op a
def sL1 (kd a b : Int) (op : List Int) : Bool := if kd = 4 then false else if joinsB kd = false then lvB op a else lvB op b
def sN0 (kd a : Int) : Int := if kd = 4 then 0 else if joinsB kd = false then -1 else a
def sN1 (kd a b : Int) : Int := if kd = 4 then 0 else if joinsB kd = false then a else b
theorem cell_two (W : World) (p c : Nat) (h : c ≠ p) (i j k : Nat) (u v : Value) : ((W.setCell ⟨p, i, none⟩ u).setCell ⟨p, j, none⟩ v).cell? ⟨c, k, none⟩ = W.cell? ⟨c, k, none⟩ :=
 (World.cell?_setCell_other _ _ _ _ (fun e => h (by injection e with e1; exact e1.symm))).trans (World.cell?_setCell_other _ _ _ _ (fun e => h (by injection e with e1; exact e1.symm)))
def SidesPost (w : World) (l0 l1 ok : Bool) (n0 n1 : Int) (e : Ending) (w' : World) : Prop := e = .returned (.tuple #[.agg #[.bool l0, .bool l1], .agg #[.int .i64 n0, .int .i64 n1], .bool ok]) ∧ Below w.heap.size w w'
theorem sides_earth (An Ad Ap Ao Ac : Option Addr) (nn cn nd cd : Nat) (nm : ByteArray) (kd a b co : Int) (parts op cl : List Int) (w : World) (h : VwOk w nn kd a b Ap Ao Ac parts op cl) (h4 : kd = 4) :
 Calls Tryz.prog 236 #[.agg (vwC An nn cn Ad nd cd nm kd a b co Ap Ao Ac)] w (SidesPost w (sL0 kd a op) (sL1 kd a b op) (sOk kd a b parts) (sN0 kd a) (sN1 kd a b)) := by
 subst h4
 have HB : Hid (Below w.heap.size w (((w.alloc (.cells (vwC An nn cn Ad nd cd nm 4 a b co Ap Ao Ac) 242)).alloc (.cells #[.bool false, .bool false] 266)).alloc (.cells #[.int .i64 0, .int .i64 0] 267))) := (((Below.refl _ _).alloc (Nat.le_refl _) _).alloc (by simp) _).alloc (by simp; omega) _
 have HV : Hid (Blk (((w.alloc (.cells (vwC An nn cn Ad nd cd nm 4 a b co Ap Ao Ac) 242)).alloc (.cells #[.bool false, .bool false] 266)).alloc (.cells #[.int .i64 0, .int .i64 0] 267)) w.heap.size 242 (vwC An nn cn Ad nd cd nm 4 a b co Ap Ao Ac)) := ((Blk.new w _ _).alloc _).alloc _
 have H1 : Hid (Blk (((w.alloc (.cells (vwC An nn cn Ad nd cd nm 4 a b co Ap Ao Ac) 242)).alloc (.cells #[.bool false, .bool false] 266)).alloc (.cells #[.int .i64 0, .int .i64 0] 267)) (w.heap.size + 1) 266 #[.bool false, .bool false]) := by
  have := Blk.new (w.alloc (.cells (vwC An nn cn Ad nd cd nm 4 a b co Ap Ao Ac) 242)) 266 #[.bool false, .bool false]
  rw [World.size_alloc] at this
  exact this.alloc _
 have H2 : Hid (Blk (((w.alloc (.cells (vwC An nn cn Ad nd cd nm 4 a b co Ap Ao Ac) 242)).alloc (.cells #[.bool false, .bool false] 266)).alloc (.cells #[.int .i64 0, .int .i64 0] 267)) (w.heap.size + 1 + 1) 267 #[.int .i64 0, .int .i64 0]) := by
  have := Blk.new ((w.alloc (.cells (vwC An nn cn Ad nd cd nm 4 a b co Ap Ao Ac) 242)).alloc (.cells #[.bool false, .bool false] 266)) 267 #[.int .i64 0, .int .i64 0]
  simp only [World.size_alloc] at this
  exact this
 have HO := Lib.hid (h.later HB.out)
 have HO0 := Lib.hid h
 clear h
 have hmf : ∀ (fn : Fn) (first cap : Array Value) (w : World), (Instr.makeFunc fn first cap).run Tryz.prog w = .ok (.func fn first cap) w := fun _ _ _ _ => rfl
 simp only [vwC] at HB HV H1 H2 HO ⊢
 have HJ2 := Lib.hid (joins_any 4)
 go_enter Tryz.func236, Tryz.ntmps236
 go_upto_region 2 with (fail)
 clear hmf
 generalize World.alloc (World.alloc (World.alloc _ _) _) _ = W at *
 obtain ⟨vb, hvb⟩ : ∃ vb, vb = w.heap.size := ⟨_, rfl⟩
 rw [← hvb] at H1 H2 HV ⊢
 have HVB := Lib.hid hvb; clear hvb
 have e3 := HV.out.c3
 have z10 := H1.out.c0
 have z11 := H1.out.c1
 have z20 := H2.out.c0
 have z21 := H2.out.c1
 have f10 := H1.out.frozen 0
 have f11 := H1.out.frozen 1
 have f20 := H2.out.frozen 0
 have f21 := H2.out.frozen 1
 have hvw : w.heap.size ≤ vb := Nat.le_of_eq HVB.out.symm
 go_upto_region 3 with (fail)
 clear e3
 have HE : Hid (sL0 4 a op = false ∧ sL1 4 a b op = false ∧ sN0 4 a = 0 ∧ sN1 4 a b = 0 ∧ sOk 4 a b parts = false) := by unfold Hid sL0 sL1 sN0 sN1 sOk; simp
 have HBF : Hid (Below w.heap.size w (((((W.setCell ⟨vb + 1, 0, none⟩ (.bool false)).setCell ⟨vb + 1, 1, none⟩ (.bool false)).setCell ⟨vb + 1 + 1, 0, none⟩ (.int .i64 0)).setCell ⟨vb + 1 + 1, 1, none⟩ (.int .i64 0)).drew)) := (((((HB.out.setCell (by simp; omega) _).setCell (by simp; omega) _).setCell (by simp; omega) _).setCell (by simp; omega) _).drew)
 refine wp_region_J (S := fun W' => W'.cell? ⟨vb + 1, 0, none⟩ = some (.bool false) ∧ W'.cell? ⟨vb + 1, 1, none⟩ = some (.bool false) ∧ W'.cell? ⟨vb + 1 + 1, 0, none⟩ = some (.int .i64 0) ∧ W'.cell? ⟨vb + 1 + 1, 1, none⟩ = some (.int .i64 0)) (J := [3, 4]) (by kernel_rfl) ?_ (fun hHeld => ?_)
 ·exact ⟨z10, z11, z20, z21⟩
 try dsimp only at hHeld
 refine tk 0 12 (mf 5 1) hHeld ?_
 refine tk 1 13 (mf 5 2) hHeld ?_
 refine wpAnyJ_oneL (k := 2) (mf 5 3) (by kernel_rfl) (by kernel_rfl) rfl (fun K hK => ?_)
 go_simp
 refine hK.out _ _ (fun _ => ?_) (fun hHeld' => ?_)
 ·exact ⟨((H1.out.set 0 _).set 1 _).cell 0, ((H1.out.set 0 _).set 1 _).cell 1, (cell_two W (vb + 1) _ (by omega) _ _ _ _ _).trans z20, (cell_two W (vb + 1) _ (by omega) _ _ _ _ _).trans z21⟩
 replace hHeld := hHeld' rfl
 clear hHeld' hK K
 try dsimp only at hHeld
 refine wpAnyJ_oneL (k := 3) (mf 5 4) (by kernel_rfl) (by kernel_rfl) rfl (fun K hK => ?_)
 go_simp
 refine hK.out _ _ (fun h => by cases h) (fun _ => ?_)
 try clear hHeld
 clear hK K
 refine wpAnyJ_oneL (k := 4) (mf 5 5) (by kernel_rfl) (by kernel_rfl) rfl (fun K hK => ?_)
 go_simp
 refine hK.out _ _ (fun h => by cases h) (fun _ => ?_)
 try clear hHeld
 clear hK K
 refine wpAnyJ_done (by kernel_rfl) ?_ _
 go_wp2_with fail
 exact bodyPost_ret (v := .tuple #[.agg #[.bool false, .bool false], .agg #[.int .i64 0, .int .i64 0], .bool false]) (by simp [results, Tryz.results236, go_sem, z10, z11, z20, z21]; try rfl) rfl ⟨by rw [HE.out.1, HE.out.2.1, HE.out.2.2.1, HE.out.2.2.2.1, HE.out.2.2.2.2], HBF.out⟩
theorem sides_lone (An Ad Ap Ao Ac : Option Addr) (nn cn nd cd : Nat) (nm : ByteArray) (kd a b co : Int) (parts op cl : List Int) (w : World) (h : VwOk w nn kd a b Ap Ao Ac parts op cl) (h4 : ¬ kd = 4) (hj : joinsB kd = false) :
 Calls Tryz.prog 236 #[.agg (vwC An nn cn Ad nd cd nm kd a b co Ap Ao Ac)] w (SidesPost w (sL0 kd a op) (sL1 kd a b op) (sOk kd a b parts) (sN0 kd a) (sN1 kd a b)) := by
 have HB : Hid (Below w.heap.size w (((w.alloc (.cells (vwC An nn cn Ad nd cd nm kd a b co Ap Ao Ac) 242)).alloc (.cells #[.bool false, .bool false] 266)).alloc (.cells #[.int .i64 0, .int .i64 0] 267))) := (((Below.refl _ _).alloc (Nat.le_refl _) _).alloc (by simp) _).alloc (by simp; omega) _
 have HV : Hid (Blk (((w.alloc (.cells (vwC An nn cn Ad nd cd nm kd a b co Ap Ao Ac) 242)).alloc (.cells #[.bool false, .bool false] 266)).alloc (.cells #[.int .i64 0, .int .i64 0] 267)) w.heap.size 242 (vwC An nn cn Ad nd cd nm kd a b co Ap Ao Ac)) := ((Blk.new w _ _).alloc _).alloc _
 have H1 : Hid (Blk (((w.alloc (.cells (vwC An nn cn Ad nd cd nm kd a b co Ap Ao Ac) 242)).alloc (.cells #[.bool false, .bool false] 266)).alloc (.cells #[.int .i64 0, .int .i64 0] 267)) (w.heap.size + 1) 266 #[.bool false, .bool false]) := by
  have := Blk.new (w.alloc (.cells (vwC An nn cn Ad nd cd nm kd a b co Ap Ao Ac) 242)) 266 #[.bool false, .bool false]
  rw [World.size_alloc] at this
  exact this.alloc _
 have H2 : Hid (Blk (((w.alloc (.cells (vwC An nn cn Ad nd cd nm kd a b co Ap Ao Ac) 242)).alloc (.cells #[.bool false, .bool false] 266)).alloc (.cells #[.int .i64 0, .int .i64 0] 267)) (w.heap.size + 1 + 1) 267 #[.int .i64 0, .int .i64 0]) := by
  have := Blk.new ((w.alloc (.cells (vwC An nn cn Ad nd cd nm kd a b co Ap Ao Ac) 242)).alloc (.cells #[.bool false, .bool false] 266)) 267 #[.int .i64 0, .int .i64 0]
  simp only [World.size_alloc] at this
  exact this
 have HO := Lib.hid (h.later HB.out)
 have HO0 := Lib.hid h
 clear h
 have hmf : ∀ (fn : Fn) (first cap : Array Value) (w : World), (Instr.makeFunc fn first cap).run Tryz.prog w = .ok (.func fn first cap) w := fun _ _ _ _ => rfl
 simp only [vwC] at HB HV H1 H2 HO ⊢
 have HJ2 := Lib.hid (joins_any kd)
 go_enter Tryz.func236, Tryz.ntmps236
 go_upto_region 2 with (fail)
 clear hmf
 generalize World.alloc (World.alloc (World.alloc _ _) _) _ = W at *
 obtain ⟨vb, hvb⟩ : ∃ vb, vb = w.heap.size := ⟨_, rfl⟩
 rw [← hvb] at H1 H2 HV ⊢
 have HVB := Lib.hid hvb; clear hvb
 have e3 := HV.out.c3
 have z10 := H1.out.c0
 have z11 := H1.out.c1
 have z20 := H2.out.c0
 have z21 := H2.out.c1
 have f10 := H1.out.frozen 0
 have f11 := H1.out.frozen 1
 have f20 := H2.out.frozen 0
 have f21 := H2.out.frozen 1
 have hvw : w.heap.size ≤ vb := Nat.le_of_eq HVB.out.symm
 have q4 : (kd == 4) = false := by simpa using h4
 have ha0 := HO.out.a0
 have e4 := HV.out.c4
 have e8 := HV.out.c8
 have HB0 := Lib.hid HB.out
 have HE : Hid (sL0 kd a op = true ∧ sL1 kd a b op = liveB (op.getD a.toNat 0) ∧ sN0 kd a = -1 ∧ sN1 kd a b = a ∧ sOk kd a b parts = true) := by unfold Hid sL0 sL1 sN0 sN1 sOk lvB; simp [h4, hj]
 rw [hj] at HJ2
 clear hj
 go_wp2_with fail
 refine (HJ2.out _).mono ?_
 rintro e w1 ⟨rfl, rfl⟩
 go_upto_region 5 with (fail)
 clear e3
 have HBF : Hid (Below w.heap.size w (((((W.setCell ⟨vb + 1, 0, none⟩ (.bool true)).setCell ⟨vb + 1, 1, none⟩ (.bool (liveB (op.getD a.toNat 0)))).setCell ⟨vb + 1 + 1, 0, none⟩ (.int .i64 (-1))).setCell ⟨vb + 1 + 1, 1, none⟩ (.int .i64 a)).drew)) := (((((HB.out.setCell (by simp; omega) _).setCell (by simp; omega) _).setCell (by simp; omega) _).setCell (by simp; omega) _).drew)
 refine wp_region_J (S := fun W' => W'.cell? ⟨vb, 4, none⟩ = some (.int .i64 a)) (J := []) (by kernel_rfl) ?_ (fun hHeld => ?_)
 ·exact e4
 try dsimp only at hHeld
 refine tk 0 20 (mf 13 1) hHeld ?_
 refine tk 1 21 (mf 13 2) hHeld ?_
 refine tk 2 22 (mf 13 3) hHeld ?_
 refine tk 3 23 (mf 13 4) hHeld ?_
 refine tk 6 26 #[tt, tt, tt, tt, ff, ff, tt, ff, ff, ff, ff, ff, ff] hHeld ?_
 refine tk 7 27 #[tt, tt, tt, tt, ff, ff, tt, tt, ff, ff, ff, ff, ff] hHeld ?_
 refine tk 8 28 #[tt, tt, tt, tt, ff, ff, tt, tt, tt, ff, ff, ff, ff] hHeld ?_
 refine tk 9 29 #[tt, tt, tt, tt, ff, ff, tt, tt, tt, tt, ff, ff, ff] hHeld ?_
 refine wpAnyJ_oneL (k := 4) #[tt, tt, tt, tt, tt, ff, tt, tt, tt, tt, ff, ff, ff] (by kernel_rfl) (by kernel_rfl) rfl (fun K hK => ?_)
 (go_simp; refine (lives_any vb nn Ao op a W.drew e8 HO.out.ho ha0).mono ?_; rintro e w3 ⟨rfl, rfl⟩; go_simp)
 refine hK.out _ _ (fun _ => ?_) (fun hHeld' => ?_)
 ·exact hHeld
 replace hHeld := hHeld' rfl
 clear hHeld' hK K
 try dsimp only at hHeld
 refine tk 5 25 (mf 13 10) hHeld ?_
 refine wpAnyJ_oneL (k := 10) (mf 13 11) (by kernel_rfl) (by kernel_rfl) rfl (fun K hK => ?_)
 go_simp
 refine hK.out _ _ (fun _ => ?_) (fun hHeld' => ?_)
 ·exact (cell_two W (vb + 1) _ (by omega) _ _ _ _ _).trans e4
 replace hHeld := hHeld' rfl
 clear hHeld' hK K
 try dsimp only at hHeld
 refine wpAnyJ_oneL (k := 11) (mf 13 12) (by kernel_rfl) (by kernel_rfl) rfl (fun K hK => ?_)
 go_simp
 refine hK.out _ _ (fun _ => ?_) (fun hHeld' => ?_)
 ·exact (cell_two _ (vb + 1 + 1) _ (by omega) _ _ _ _ _).trans ((cell_two W (vb + 1) _ (by omega) _ _ _ _ _).trans e4)
 replace hHeld := hHeld' rfl
 clear hHeld' hK K
 try dsimp only at hHeld
 refine wpAnyJ_oneL (k := 12) (mf 13 13) (by kernel_rfl) (by kernel_rfl) rfl (fun K hK => ?_)
 go_simp
 refine hK.out _ _ (fun _ => ?_) (fun hHeld' => ?_)
 ·exact hHeld
 replace hHeld := hHeld' rfl
 clear hHeld' hK K
 try dsimp only at hHeld
 refine wpAnyJ_done (by kernel_rfl) ?_ _
 go_wp2_with fail
 exact bodyPost_ret (v := .tuple #[.agg #[.bool true, .bool (liveB (op.getD a.toNat 0))], .agg #[.int .i64 (-1), .int .i64 a], .bool true]) (by simp [results, Tryz.results236, go_sem, z10, z11, z20, z21]; try rfl) rfl ⟨by rw [HE.out.1, HE.out.2.1, HE.out.2.2.1, HE.out.2.2.2.1, HE.out.2.2.2.2], HBF.out⟩
theorem sides_join (An Ad Ap Ao Ac : Option Addr) (nn cn nd cd : Nat) (nm : ByteArray) (kd a b co : Int) (parts op cl : List Int) (w : World) (h : VwOk w nn kd a b Ap Ao Ac parts op cl) (h4 : ¬ kd = 4) (hj : joinsB kd = true) :
 Calls Tryz.prog 236 #[.agg (vwC An nn cn Ad nd cd nm kd a b co Ap Ao Ac)] w (SidesPost w (sL0 kd a op) (sL1 kd a b op) (sOk kd a b parts) (sN0 kd a) (sN1 kd a b)) := by
 have HB : Hid (Below w.heap.size w (((w.alloc (.cells (vwC An nn cn Ad nd cd nm kd a b co Ap Ao Ac) 242)).alloc (.cells #[.bool false, .bool false] 266)).alloc (.cells #[.int .i64 0, .int .i64 0] 267))) := (((Below.refl _ _).alloc (Nat.le_refl _) _).alloc (by simp) _).alloc (by simp; omega) _
 have HV : Hid (Blk (((w.alloc (.cells (vwC An nn cn Ad nd cd nm kd a b co Ap Ao Ac) 242)).alloc (.cells #[.bool false, .bool false] 266)).alloc (.cells #[.int .i64 0, .int .i64 0] 267)) w.heap.size 242 (vwC An nn cn Ad nd cd nm kd a b co Ap Ao Ac)) := ((Blk.new w _ _).alloc _).alloc _
 have H1 : Hid (Blk (((w.alloc (.cells (vwC An nn cn Ad nd cd nm kd a b co Ap Ao Ac) 242)).alloc (.cells #[.bool false, .bool false] 266)).alloc (.cells #[.int .i64 0, .int .i64 0] 267)) (w.heap.size + 1) 266 #[.bool false, .bool false]) := by
  have := Blk.new (w.alloc (.cells (vwC An nn cn Ad nd cd nm kd a b co Ap Ao Ac) 242)) 266 #[.bool false, .bool false]
  rw [World.size_alloc] at this
  exact this.alloc _
 have H2 : Hid (Blk (((w.alloc (.cells (vwC An nn cn Ad nd cd nm kd a b co Ap Ao Ac) 242)).alloc (.cells #[.bool false, .bool false] 266)).alloc (.cells #[.int .i64 0, .int .i64 0] 267)) (w.heap.size + 1 + 1) 267 #[.int .i64 0, .int .i64 0]) := by
  have := Blk.new ((w.alloc (.cells (vwC An nn cn Ad nd cd nm kd a b co Ap Ao Ac) 242)).alloc (.cells #[.bool false, .bool false] 266)) 267 #[.int .i64 0, .int .i64 0]
  simp only [World.size_alloc] at this
  exact this
 have HO := Lib.hid (h.later HB.out)
 have HO0 := Lib.hid h
 clear h
 have hmf : ∀ (fn : Fn) (first cap : Array Value) (w : World), (Instr.makeFunc fn first cap).run Tryz.prog w = .ok (.func fn first cap) w := fun _ _ _ _ => rfl
 simp only [vwC] at HB HV H1 H2 HO ⊢
 have HJ2 := Lib.hid (joins_any kd)
 go_enter Tryz.func236, Tryz.ntmps236
 go_upto_region 2 with (fail)
 clear hmf
 generalize World.alloc (World.alloc (World.alloc _ _) _) _ = W at *
 obtain ⟨vb, hvb⟩ : ∃ vb, vb = w.heap.size := ⟨_, rfl⟩
 rw [← hvb] at H1 H2 HV ⊢
 have HVB := Lib.hid hvb; clear hvb
 have e3 := HV.out.c3
 have z10 := H1.out.c0
 have z11 := H1.out.c1
 have z20 := H2.out.c0
 have z21 := H2.out.c1
 have f10 := H1.out.frozen 0
 have f11 := H1.out.frozen 1
 have f20 := H2.out.frozen 0
 have f21 := H2.out.frozen 1
 have hvw : w.heap.size ≤ vb := Nat.le_of_eq HVB.out.symm
 have q4 : (kd == 4) = false := by simpa using h4
 have ha0 := HO.out.a0
 have e4 := HV.out.c4
 have e8 := HV.out.c8
 have HB0 := Lib.hid HB.out
 have hb0 := HO.out.b0 hj
 have e5 := HV.out.c5
 have e7 := HV.out.c7
 obtain ⟨ka, rfl⟩ := Int.eq_ofNat_of_zero_le ha0.1
 obtain ⟨kb, rfl⟩ := Int.eq_ofNat_of_zero_le hb0.1
 have hnl := HO.out.n0
 have hka : ka < nn := by omega
 have hkb : kb < nn := by omega
 obtain ⟨pb, poff, x, rfl, hpb, hx, hcx⟩ := HO0.out.hp.at1 hka
 obtain ⟨pb2, poff2, y, hA2, hpb2, hy, hcy⟩ := HO0.out.hp.at1 hkb
 injection hA2 with hA2
 injection hA2 with h1 h2
 subst h1 h2
 have HE : Hid (sL0 kd ka op = liveB (op.getD (ka : Int).toNat 0) ∧ sL1 kd ka kb op = liveB (op.getD (kb : Int).toNat 0) ∧ sN0 kd ka = ka ∧ sN1 kd ka kb = kb ∧ sOk kd ka kb parts = !(x == y)) := by
  have e1 : parts.getD (ka : Int).toNat 0 = x := by rw [Int.toNat_natCast, getD_of hx]
  have e2 : parts.getD (kb : Int).toNat 0 = y := by rw [Int.toNat_natCast, getD_of hy]
  unfold Hid sL0 sL1 sN0 sN1 sOk lvB
  rw [e1, e2]
  simp [h4, hj]
 have p1 : W.cell? ⟨pb, poff + ka, none⟩ = some (.int .i64 x) := (HB0.out.cell (p := ⟨pb, poff + ka, none⟩) hpb).trans hcx
 have p2 : W.cell? ⟨pb, poff + kb, none⟩ = some (.int .i64 y) := (HB0.out.cell (p := ⟨pb, poff + kb, none⟩) hpb).trans hcy
 have hne1 : ¬ pb = vb + 1 := by omega
 have hne2 : ¬ pb = vb + 1 + 1 := by omega
 rw [hj] at HJ2
 clear hj hx hy hcx hcy hpb hpb2
 go_wp2_with fail
 refine (HJ2.out _).mono ?_
 rintro e w1 ⟨rfl, rfl⟩
 go_upto_region 6 with (fail)
 clear e3
 have HBF : Hid (Below w.heap.size w (((((W.setCell ⟨vb + 1, 0, none⟩ (.bool (liveB (op.getD (ka : Int).toNat 0)))).setCell ⟨vb + 1, 1, none⟩ (.bool (liveB (op.getD (kb : Int).toNat 0)))).setCell ⟨vb + 1 + 1, 0, none⟩ (.int .i64 ka)).setCell ⟨vb + 1 + 1, 1, none⟩ (.int .i64 kb)).drew)) := (((((HB.out.setCell (by simp; omega) _).setCell (by simp; omega) _).setCell (by simp; omega) _).setCell (by simp; omega) _).drew)
 refine wp_region_J (S := fun W' => W'.cell? ⟨vb, 4, none⟩ = some (.int .i64 ka) ∧ W'.cell? ⟨vb, 5, none⟩ = some (.int .i64 kb) ∧ W'.cell? ⟨vb, 7, none⟩ = some (.slice (some ⟨pb, poff, none⟩) nn nn) ∧ W'.cell? ⟨pb, poff + ka, none⟩ = some (.int .i64 x) ∧ W'.cell? ⟨pb, poff + kb, none⟩ = some (.int .i64 y)) (J := []) (by kernel_rfl) ?_ (fun hHeld => ?_)
 ·exact ⟨e4, e5, e7, p1, p2⟩
 try dsimp only at hHeld
 refine tk 0 30 (mf 36 1) hHeld ?_
 refine tk 1 31 (mf 36 2) hHeld ?_
 refine tk 2 32 (mf 36 3) hHeld ?_
 refine tk 3 33 (mf 36 4) hHeld ?_
 refine tk 5 35 #[tt, tt, tt, tt, ff, tt, ff, ff, ff, ff, ff, ff, ff, ff, ff, ff, ff, ff, ff, ff, ff, ff, ff, ff, ff, ff, ff, ff, ff, ff, ff, ff, ff, ff, ff, ff] hHeld ?_
 refine tk 6 36 #[tt, tt, tt, tt, ff, tt, tt, ff, ff, ff, ff, ff, ff, ff, ff, ff, ff, ff, ff, ff, ff, ff, ff, ff, ff, ff, ff, ff, ff, ff, ff, ff, ff, ff, ff, ff] hHeld ?_
 refine tk 7 37 #[tt, tt, tt, tt, ff, tt, tt, tt, ff, ff, ff, ff, ff, ff, ff, ff, ff, ff, ff, ff, ff, ff, ff, ff, ff, ff, ff, ff, ff, ff, ff, ff, ff, ff, ff, ff] hHeld ?_
 refine tk 8 38 #[tt, tt, tt, tt, ff, tt, tt, tt, tt, ff, ff, ff, ff, ff, ff, ff, ff, ff, ff, ff, ff, ff, ff, ff, ff, ff, ff, ff, ff, ff, ff, ff, ff, ff, ff, ff] hHeld ?_
 refine tk 11 41 #[tt, tt, tt, tt, ff, tt, tt, tt, tt, ff, ff, tt, ff, ff, ff, ff, ff, ff, ff, ff, ff, ff, ff, ff, ff, ff, ff, ff, ff, ff, ff, ff, ff, ff, ff, ff] hHeld ?_
 as_aux_lemma =>
  refine tk 12 42 #[tt, tt, tt, tt, ff, tt, tt, tt, tt, ff, ff, tt, tt, ff, ff, ff, ff, ff, ff, ff, ff, ff, ff, ff, ff, ff, ff, ff, ff, ff, ff, ff, ff, ff, ff, ff] hHeld ?_
  refine tk 13 43 #[tt, tt, tt, tt, ff, tt, tt, tt, tt, ff, ff, tt, tt, tt, ff, ff, ff, ff, ff, ff, ff, ff, ff, ff, ff, ff, ff, ff, ff, ff, ff, ff, ff, ff, ff, ff] hHeld ?_
  refine tk 14 44 #[tt, tt, tt, tt, ff, tt, tt, tt, tt, ff, ff, tt, tt, tt, tt, ff, ff, ff, ff, ff, ff, ff, ff, ff, ff, ff, ff, ff, ff, ff, ff, ff, ff, ff, ff, ff] hHeld ?_
  refine tk 15 45 #[tt, tt, tt, tt, ff, tt, tt, tt, tt, ff, ff, tt, tt, tt, tt, tt, ff, ff, ff, ff, ff, ff, ff, ff, ff, ff, ff, ff, ff, ff, ff, ff, ff, ff, ff, ff] hHeld ?_
  refine tk 16 46 #[tt, tt, tt, tt, ff, tt, tt, tt, tt, ff, ff, tt, tt, tt, tt, tt, tt, ff, ff, ff, ff, ff, ff, ff, ff, ff, ff, ff, ff, ff, ff, ff, ff, ff, ff, ff] hHeld ?_
  refine tk 17 47 #[tt, tt, tt, tt, ff, tt, tt, tt, tt, ff, ff, tt, tt, tt, tt, tt, tt, tt, ff, ff, ff, ff, ff, ff, ff, ff, ff, ff, ff, ff, ff, ff, ff, ff, ff, ff] hHeld ?_
  refine tk 18 48 #[tt, tt, tt, tt, ff, tt, tt, tt, tt, ff, ff, tt, tt, tt, tt, tt, tt, tt, tt, ff, ff, ff, ff, ff, ff, ff, ff, ff, ff, ff, ff, ff, ff, ff, ff, ff] hHeld ?_
  refine tk 19 49 #[tt, tt, tt, tt, ff, tt, tt, tt, tt, ff, ff, tt, tt, tt, tt, tt, tt, tt, tt, tt, ff, ff, ff, ff, ff, ff, ff, ff, ff, ff, ff, ff, ff, ff, ff, ff] hHeld ?_
  refine tk 20 50 #[tt, tt, tt, tt, ff, tt, tt, tt, tt, ff, ff, tt, tt, tt, tt, tt, tt, tt, tt, tt, tt, ff, ff, ff, ff, ff, ff, ff, ff, ff, ff, ff, ff, ff, ff, ff] hHeld ?_
  refine tk 21 51 #[tt, tt, tt, tt, ff, tt, tt, tt, tt, ff, ff, tt, tt, tt, tt, tt, tt, tt, tt, tt, tt, tt, ff, ff, ff, ff, ff, ff, ff, ff, ff, ff, ff, ff, ff, ff] hHeld ?_
  refine tk 22 52 #[tt, tt, tt, tt, ff, tt, tt, tt, tt, ff, ff, tt, tt, tt, tt, tt, tt, tt, tt, tt, tt, tt, tt, ff, ff, ff, ff, ff, ff, ff, ff, ff, ff, ff, ff, ff] hHeld ?_
  as_aux_lemma =>
   refine tk 23 53 #[tt, tt, tt, tt, ff, tt, tt, tt, tt, ff, ff, tt, tt, tt, tt, tt, tt, tt, tt, tt, tt, tt, tt, tt, ff, ff, ff, ff, ff, ff, ff, ff, ff, ff, ff, ff] hHeld ?_
   refine tk 24 54 #[tt, tt, tt, tt, ff, tt, tt, tt, tt, ff, ff, tt, tt, tt, tt, tt, tt, tt, tt, tt, tt, tt, tt, tt, tt, ff, ff, ff, ff, ff, ff, ff, ff, ff, ff, ff] hHeld ?_
   refine tk 25 55 #[tt, tt, tt, tt, ff, tt, tt, tt, tt, ff, ff, tt, tt, tt, tt, tt, tt, tt, tt, tt, tt, tt, tt, tt, tt, tt, ff, ff, ff, ff, ff, ff, ff, ff, ff, ff] hHeld ?_
   refine tk 26 56 #[tt, tt, tt, tt, ff, tt, tt, tt, tt, ff, ff, tt, tt, tt, tt, tt, tt, tt, tt, tt, tt, tt, tt, tt, tt, tt, tt, ff, ff, ff, ff, ff, ff, ff, ff, ff] hHeld ?_
   refine tk 27 57 #[tt, tt, tt, tt, ff, tt, tt, tt, tt, ff, ff, tt, tt, tt, tt, tt, tt, tt, tt, tt, tt, tt, tt, tt, tt, tt, tt, tt, ff, ff, ff, ff, ff, ff, ff, ff] hHeld ?_
   refine tk 28 58 #[tt, tt, tt, tt, ff, tt, tt, tt, tt, ff, ff, tt, tt, tt, tt, tt, tt, tt, tt, tt, tt, tt, tt, tt, tt, tt, tt, tt, tt, ff, ff, ff, ff, ff, ff, ff] hHeld ?_
   refine tk 29 59 #[tt, tt, tt, tt, ff, tt, tt, tt, tt, ff, ff, tt, tt, tt, tt, tt, tt, tt, tt, tt, tt, tt, tt, tt, tt, tt, tt, tt, tt, tt, ff, ff, ff, ff, ff, ff] hHeld ?_
   refine tk 30 60 #[tt, tt, tt, tt, ff, tt, tt, tt, tt, ff, ff, tt, tt, tt, tt, tt, tt, tt, tt, tt, tt, tt, tt, tt, tt, tt, tt, tt, tt, tt, tt, ff, ff, ff, ff, ff] hHeld ?_
   refine tk 31 61 #[tt, tt, tt, tt, ff, tt, tt, tt, tt, ff, ff, tt, tt, tt, tt, tt, tt, tt, tt, tt, tt, tt, tt, tt, tt, tt, tt, tt, tt, tt, tt, tt, ff, ff, ff, ff] hHeld ?_
   refine tk 32 62 #[tt, tt, tt, tt, ff, tt, tt, tt, tt, ff, ff, tt, tt, tt, tt, tt, tt, tt, tt, tt, tt, tt, tt, tt, tt, tt, tt, tt, tt, tt, tt, tt, tt, ff, ff, ff] hHeld ?_
   as_aux_lemma =>
    refine wpAnyJ_oneL (k := 4) #[tt, tt, tt, tt, tt, tt, tt, tt, tt, ff, ff, tt, tt, tt, tt, tt, tt, tt, tt, tt, tt, tt, tt, tt, tt, tt, tt, tt, tt, tt, tt, tt, tt, ff, ff, ff] (by kernel_rfl) (by kernel_rfl) rfl (fun K hK => ?_)
    (go_simp; refine (lives_any vb nn Ao op ka W.drew e8 HO.out.ho ha0).mono ?_; rintro e w3 ⟨rfl, rfl⟩; go_simp)
    refine hK.out _ _ (fun _ => ?_) (fun hHeld' => ?_)
    ·exact hHeld
    replace hHeld := hHeld' rfl
    clear hHeld' hK K
    try dsimp only at hHeld
    refine wpAnyJ_oneL (k := 9) #[tt, tt, tt, tt, tt, tt, tt, tt, tt, tt, ff, tt, tt, tt, tt, tt, tt, tt, tt, tt, tt, tt, tt, tt, tt, tt, tt, tt, tt, tt, tt, tt, tt, ff, ff, ff] (by kernel_rfl) (by kernel_rfl) rfl (fun K hK => ?_)
    (go_simp; refine (lives_any vb nn Ao op kb W.drew e8 HO.out.ho hb0).mono ?_; rintro e w3 ⟨rfl, rfl⟩; go_simp)
    refine hK.out _ _ (fun _ => ?_) (fun hHeld' => ?_)
    ·exact hHeld
    replace hHeld := hHeld' rfl
    clear hHeld' hK K
    try dsimp only at hHeld
    refine tk 10 40 (mf 36 33) hHeld ?_
    refine wpAnyJ_oneL (k := 33) (mf 36 34) (by kernel_rfl) (by kernel_rfl) rfl (fun K hK => ?_)
    go_simp
    refine hK.out _ _ (fun _ => ?_) (fun hHeld' => ?_)
    ·exact ⟨(cell_two W (vb + 1) _ (by omega) _ _ _ _ _).trans e4, (cell_two W (vb + 1) _ (by omega) _ _ _ _ _).trans e5, (cell_two W (vb + 1) _ (by omega) _ _ _ _ _).trans e7, (cell_two W (vb + 1) _ (by omega) _ _ _ _ _).trans p1, (cell_two W (vb + 1) _ (by omega) _ _ _ _ _).trans p2⟩
    replace hHeld := hHeld' rfl
    clear hHeld' hK K
    try dsimp only at hHeld
    refine wpAnyJ_oneL (k := 34) (mf 36 35) (by kernel_rfl) (by kernel_rfl) rfl (fun K hK => ?_)
    go_simp
    refine hK.out _ _ (fun _ => ?_) (fun hHeld' => ?_)
    ·exact ⟨(cell_two _ (vb + 1 + 1) _ (by omega) _ _ _ _ _).trans ((cell_two W (vb + 1) _ (by omega) _ _ _ _ _).trans e4), (cell_two _ (vb + 1 + 1) _ (by omega) _ _ _ _ _).trans ((cell_two W (vb + 1) _ (by omega) _ _ _ _ _).trans e5), (cell_two _ (vb + 1 + 1) _ (by omega) _ _ _ _ _).trans ((cell_two W (vb + 1) _ (by omega) _ _ _ _ _).trans e7), (cell_two _ (vb + 1 + 1) _ (by omega) _ _ _ _ _).trans ((cell_two W (vb + 1) _ (by omega) _ _ _ _ _).trans p1), (cell_two _ (vb + 1 + 1) _ (by omega) _ _ _ _ _).trans ((cell_two W (vb + 1) _ (by omega) _ _ _ _ _).trans p2)⟩
    replace hHeld := hHeld' rfl
    clear hHeld' hK K
    try dsimp only at hHeld
    refine wpAnyJ_oneL (k := 35) (mf 36 36) (by kernel_rfl) (by kernel_rfl) rfl (fun K hK => ?_)
    go_simp
    refine hK.out _ _ (fun _ => ?_) (fun hHeld' => ?_)
    ·exact hHeld
    replace hHeld := hHeld' rfl
    clear hHeld' hK K
    try dsimp only at hHeld
    refine wpAnyJ_done (by kernel_rfl) ?_ _
    go_wp2_with fail
    exact bodyPost_ret (v := .tuple #[.agg #[.bool (liveB (op.getD (ka : Int).toNat 0)), .bool (liveB (op.getD (kb : Int).toNat 0))], .agg #[.int .i64 ka, .int .i64 kb], .bool (!(x == y))]) (by simp [results, Tryz.results236, go_sem, z10, z11, z20, z21]; try rfl) rfl ⟨by rw [HE.out.1, HE.out.2.1, HE.out.2.2.1, HE.out.2.2.2.1, HE.out.2.2.2.2], HBF.out⟩
theorem sides_any (An Ad Ap Ao Ac : Option Addr) (nn cn nd cd : Nat) (nm : ByteArray) (kd a b co : Int) (parts op cl : List Int) (w : World) (h : VwOk w nn kd a b Ap Ao Ac parts op cl) :
 Calls Tryz.prog 236 #[.agg (vwC An nn cn Ad nd cd nm kd a b co Ap Ao Ac)] w (SidesPost w (sL0 kd a op) (sL1 kd a b op) (sOk kd a b parts) (sN0 kd a) (sN1 kd a b)) := by
 by_cases h4 : kd = 4
 ·exact sides_earth An Ad Ap Ao Ac nn cn nd cd nm kd a b co parts op cl w h h4
 ·rcases hj : joinsB kd with _ | _
  ·exact sides_lone An Ad Ap Ao Ac nn cn nd cd nm kd a b co parts op cl w h h4 hj
  ·exact sides_join An Ad Ap Ao Ac nn cn nd cd nm kd a b co parts op cl w h h4 hj
end Go.Proofs.YtfaknfmndafllaaGreatDoor
