import Derived.Test.YtkkobemhbicjgaaGreatDoorE08
set_option maxRecDepth 100000
set_option maxHeartbeats 4000000
namespace Go.Proofs.YtkkobemhbicjgaaGreatDoor
open Go.RowKit
def lvB (op : List Int) (v : Int) : Bool := xZ (op.getD v.toNat 0)
def sOk (kd a b : Int) (parts : List Int) : Bool := if kd = 4 then false else if zc kd = false then true else !(parts.getD a.toNat 0 == parts.getD b.toNat 0)
def sL0 (kd a : Int) (op : List Int) : Bool := if kd = 4 then false else if zc kd = false then true else lvB op a
def sL1 (kd a b : Int) (op : List Int) : Bool := if kd = 4 then false else if zc kd = false then lvB op a else lvB op b
def sN0 (kd a : Int) : Int := if kd = 4 then 0 else if zc kd = false then -1 else a
def sN1 (kd a b : Int) : Int := if kd = 4 then 0 else if zc kd = false then a else b
theorem zn (W : World) (p c : Nat) (h : c ≠ p) (i j k : Nat) (u v : Value) : ((W.setCell ⟨p, i, none⟩ u).setCell ⟨p, j, none⟩ v).cell? ⟨c, k, none⟩ = W.cell? ⟨c, k, none⟩ :=
 (World.cell?_setCell_other _ _ _ _ (fun e => h (by injection e with e1; exact e1.symm))).trans (World.cell?_setCell_other _ _ _ _ (fun e => h (by injection e with e1; exact e1.symm)))
def vq (w : World) (l0 l1 ok : Bool) (n0 n1 : Int) (e : Ending) (w' : World) : Prop := e = .returned (.tuple #[.agg #[.bool l0, .bool l1], .agg #[.int .i64 n0, .int .i64 n1], .bool ok]) ∧ Below w.heap.size w w'
theorem pF (An Ad Ap Ao Ac : Option Addr) (nn cn nd cd : Nat) (nm : ByteArray) (kd a b co : Int) (parts op cl : List Int) (w : World) (h : vu w nn kd a b Ap Ao Ac parts op cl) (h4 : kd = 4) :
 Calls Tryz.prog 216 #[.agg (vwC An nn cn Ad nd cd nm kd a b co Ap Ao Ac)] w (vq w (sL0 kd a op) (sL1 kd a b op) (sOk kd a b parts) (sN0 kd a) (sN1 kd a b)) := by
 subst h4
 have HB : Hid (Below w.heap.size w (((w.alloc (.cells (vwC An nn cn Ad nd cd nm 4 a b co Ap Ao Ac) 219)).alloc (.cells #[.bool false, .bool false] 239)).alloc (.cells #[.int .i64 0, .int .i64 0] 240))) := (((Below.refl _ _).alloc lR _).alloc (by simp) _).alloc (by simp; omega) _
 have HV : Hid (Blk (((w.alloc (.cells (vwC An nn cn Ad nd cd nm 4 a b co Ap Ao Ac) 219)).alloc (.cells #[.bool false, .bool false] 239)).alloc (.cells #[.int .i64 0, .int .i64 0] 240)) w.heap.size 219 (vwC An nn cn Ad nd cd nm 4 a b co Ap Ao Ac)) := ((Blk.new w _ _).alloc _).alloc _
 have H1 : Hid (Blk (((w.alloc (.cells (vwC An nn cn Ad nd cd nm 4 a b co Ap Ao Ac) 219)).alloc (.cells #[.bool false, .bool false] 239)).alloc (.cells #[.int .i64 0, .int .i64 0] 240)) (w.heap.size + 1) 239 #[.bool false, .bool false]) := by
  have := Blk.new (w.alloc (.cells (vwC An nn cn Ad nd cd nm 4 a b co Ap Ao Ac) 219)) 239 #[.bool false, .bool false]
  rw [World.size_alloc] at this
  exact this.alloc _
 have H2 : Hid (Blk (((w.alloc (.cells (vwC An nn cn Ad nd cd nm 4 a b co Ap Ao Ac) 219)).alloc (.cells #[.bool false, .bool false] 239)).alloc (.cells #[.int .i64 0, .int .i64 0] 240)) (w.heap.size + 1 + 1) 240 #[.int .i64 0, .int .i64 0]) := by
  have := Blk.new ((w.alloc (.cells (vwC An nn cn Ad nd cd nm 4 a b co Ap Ao Ac) 219)).alloc (.cells #[.bool false, .bool false] 239)) 240 #[.int .i64 0, .int .i64 0]
  simp only [World.size_alloc] at this
  exact this
 have HO := iD (h.later HB.out)
 have HO0 := iD h
 clear h
 have hmf : ∀ (fn : Fn) (first cap : Array Value) (w : World), (Instr.makeFunc fn first cap).run Tryz.prog w = .ok (.func fn first cap) w := fun _ _ _ _ => rfl
 simp only [vwC] at HB HV H1 H2 HO ⊢
 have HJ2 := iD (xQ 4)
 go_enter Tryz.func216, Tryz.ntmps216
 go_upto_region 2 with (fail)
 clear hmf
 generalize World.alloc (World.alloc (World.alloc _ _) _) _ = W at *
 obtain ⟨vb, hvb⟩ : ∃ vb, vb = w.heap.size := ⟨_, rfl⟩
 rw [← hvb] at H1 H2 HV ⊢
 have HVB := iD hvb; clear hvb
 have e3 := HV.out.c3
 have z10 := H1.out.c0
 have z11 := H1.out.c1
 have z20 := H2.out.c0
 have z21 := H2.out.c1
 have f10 := H1.out.frozen 0
 have f11 := H1.out.frozen 1
 have f20 := H2.out.frozen 0
 have f21 := H2.out.frozen 1
 have hvw : w.heap.size ≤ vb := Nat.le_of_eq HVB.out.symm
 go_upto_region 3 with (fail)
 clear e3
 have HE : Hid (sL0 4 a op = false ∧ sL1 4 a b op = false ∧ sN0 4 a = 0 ∧ sN1 4 a b = 0 ∧ sOk 4 a b parts = false) := by unfold Hid sL0 sL1 sN0 sN1 sOk; simp
 have HBF : Hid (Below w.heap.size w (((((W.setCell ⟨vb + 1, 0, none⟩ (.bool false)).setCell ⟨vb + 1, 1, none⟩ (.bool false)).setCell ⟨vb + 1 + 1, 0, none⟩ (.int .i64 0)).setCell ⟨vb + 1 + 1, 1, none⟩ (.int .i64 0)).drew)) := (((((HB.out.setCell (by simp; omega) _).setCell (by simp; omega) _).setCell (by simp; omega) _).setCell (by simp; omega) _).drew)
 refine zC (S := fun W' => W'.cell? ⟨vb + 1, 0, none⟩ = some (.bool false) ∧ W'.cell? ⟨vb + 1, 1, none⟩ = some (.bool false) ∧ W'.cell? ⟨vb + 1 + 1, 0, none⟩ = some (.int .i64 0) ∧ W'.cell? ⟨vb + 1 + 1, 1, none⟩ = some (.int .i64 0)) (J := [3, 4]) (by kernel_rfl) ?_ (fun AA => ?_)
 ·exact ⟨z10, z11, z20, z21⟩
 try dsimp only at AA
 refine tk 0 12 (mf 5 1) AA ?_
 refine tk 1 13 (mf 5 2) AA ?_
 refine tb 2 (mf 5 3) fun K hK => ?_
 go_simp
 refine hK.out _ _ (fun _ => ?_) (fun AA' => ?_)
 ·exact ⟨((H1.out.set 0 _).set 1 _).cell 0, ((H1.out.set 0 _).set 1 _).cell 1, (zn W (vb + 1) _ (by omega) _ _ _ _ _).trans z20, (zn W (vb + 1) _ (by omega) _ _ _ _ _).trans z21⟩
 replace AA := AA' rfl
 clear AA' hK K
 try dsimp only at AA
 refine tb 3 (mf 5 4) fun K hK => ?_
 go_simp
 refine hK.out _ _ (fun h => by cases h) (fun _ => ?_)
 try clear AA
 clear hK K
 refine tb 4 (mf 5 5) fun K hK => ?_
 go_simp
 refine hK.out _ _ (fun h => by cases h) (fun _ => ?_)
 try clear AA
 clear hK K
 refine zA (by kernel_rfl) ?_ _
 go_wp2_with fail
 exact bodyPost_ret (v := .tuple #[.agg #[.bool false, .bool false], .agg #[.int .i64 0, .int .i64 0], .bool false]) (by simp [results, Tryz.results216, go_sem, z10, z11, z20, z21]; try rfl) rfl ⟨by rw [HE.out.1, HE.out.2.1, HE.out.2.2.1, HE.out.2.2.2.1, HE.out.2.2.2.2], HBF.out⟩
theorem oX (An Ad Ap Ao Ac : Option Addr) (nn cn nd cd : Nat) (nm : ByteArray) (kd a b co : Int) (parts op cl : List Int) (w : World) (h : vu w nn kd a b Ap Ao Ac parts op cl) (h4 : ¬ kd = 4) (hj : zc kd = false) :
 Calls Tryz.prog 216 #[.agg (vwC An nn cn Ad nd cd nm kd a b co Ap Ao Ac)] w (vq w (sL0 kd a op) (sL1 kd a b op) (sOk kd a b parts) (sN0 kd a) (sN1 kd a b)) := by
 have HB : Hid (Below w.heap.size w (((w.alloc (.cells (vwC An nn cn Ad nd cd nm kd a b co Ap Ao Ac) 219)).alloc (.cells #[.bool false, .bool false] 239)).alloc (.cells #[.int .i64 0, .int .i64 0] 240))) := (((Below.refl _ _).alloc lR _).alloc (by simp) _).alloc (by simp; omega) _
 have HV : Hid (Blk (((w.alloc (.cells (vwC An nn cn Ad nd cd nm kd a b co Ap Ao Ac) 219)).alloc (.cells #[.bool false, .bool false] 239)).alloc (.cells #[.int .i64 0, .int .i64 0] 240)) w.heap.size 219 (vwC An nn cn Ad nd cd nm kd a b co Ap Ao Ac)) := ((Blk.new w _ _).alloc _).alloc _
 have H1 : Hid (Blk (((w.alloc (.cells (vwC An nn cn Ad nd cd nm kd a b co Ap Ao Ac) 219)).alloc (.cells #[.bool false, .bool false] 239)).alloc (.cells #[.int .i64 0, .int .i64 0] 240)) (w.heap.size + 1) 239 #[.bool false, .bool false]) := by
  have := Blk.new (w.alloc (.cells (vwC An nn cn Ad nd cd nm kd a b co Ap Ao Ac) 219)) 239 #[.bool false, .bool false]
  rw [World.size_alloc] at this
  exact this.alloc _
 have H2 : Hid (Blk (((w.alloc (.cells (vwC An nn cn Ad nd cd nm kd a b co Ap Ao Ac) 219)).alloc (.cells #[.bool false, .bool false] 239)).alloc (.cells #[.int .i64 0, .int .i64 0] 240)) (w.heap.size + 1 + 1) 240 #[.int .i64 0, .int .i64 0]) := by
  have := Blk.new ((w.alloc (.cells (vwC An nn cn Ad nd cd nm kd a b co Ap Ao Ac) 219)).alloc (.cells #[.bool false, .bool false] 239)) 240 #[.int .i64 0, .int .i64 0]
  simp only [World.size_alloc] at this
  exact this
 have HO := iD (h.later HB.out)
 have HO0 := iD h
 clear h
 have hmf : ∀ (fn : Fn) (first cap : Array Value) (w : World), (Instr.makeFunc fn first cap).run Tryz.prog w = .ok (.func fn first cap) w := fun _ _ _ _ => rfl
 simp only [vwC] at HB HV H1 H2 HO ⊢
 have HJ2 := iD (xQ kd)
 go_enter Tryz.func216, Tryz.ntmps216
 go_upto_region 2 with (fail)
 clear hmf
 generalize World.alloc (World.alloc (World.alloc _ _) _) _ = W at *
 obtain ⟨vb, hvb⟩ : ∃ vb, vb = w.heap.size := ⟨_, rfl⟩
 rw [← hvb] at H1 H2 HV ⊢
 have HVB := iD hvb; clear hvb
 have e3 := HV.out.c3
 have z10 := H1.out.c0
 have z11 := H1.out.c1
 have z20 := H2.out.c0
 have z21 := H2.out.c1
 have f10 := H1.out.frozen 0
 have f11 := H1.out.frozen 1
 have f20 := H2.out.frozen 0
 have f21 := H2.out.frozen 1
 have hvw : w.heap.size ≤ vb := Nat.le_of_eq HVB.out.symm
 have q4 : (kd == 4) = false := by simpa using h4
 have ha0 := HO.out.a0
 have e4 := HV.out.c4
 have e8 := HV.out.c8
 have HB0 := iD HB.out
 have HE : Hid (sL0 kd a op = true ∧ sL1 kd a b op = xZ (op.getD a.toNat 0) ∧ sN0 kd a = -1 ∧ sN1 kd a b = a ∧ sOk kd a b parts = true) := by unfold Hid sL0 sL1 sN0 sN1 sOk lvB; simp [h4, hj]
 rw [hj] at HJ2
 clear hj
 go_wp2_with fail
 refine (HJ2.out _).mono ?_
 rintro e w1 ⟨rfl, rfl⟩
 go_upto_region 5 with (fail)
 clear e3
 have HBF : Hid (Below w.heap.size w (((((W.setCell ⟨vb + 1, 0, none⟩ (.bool true)).setCell ⟨vb + 1, 1, none⟩ (.bool (xZ (op.getD a.toNat 0)))).setCell ⟨vb + 1 + 1, 0, none⟩ (.int .i64 (-1))).setCell ⟨vb + 1 + 1, 1, none⟩ (.int .i64 a)).drew)) := (((((HB.out.setCell (by simp; omega) _).setCell (by simp; omega) _).setCell (by simp; omega) _).setCell (by simp; omega) _).drew)
 refine zC (S := fun W' => W'.cell? ⟨vb, 4, none⟩ = some (.int .i64 a)) (J := []) (by kernel_rfl) ?_ (fun AA => ?_)
 ·exact e4
 try dsimp only at AA
 refine tk 0 20 (mf 13 1) AA ?_
 refine tk 1 21 (mf 13 2) AA ?_
 refine tk 2 22 (mf 13 3) AA ?_
 refine tk 3 23 (mf 13 4) AA ?_
 refine tk 6 26 (ma 13 79) AA ?_
 refine tk 7 27 (ma 13 207) AA ?_
 refine tk 8 28 (ma 13 463) AA ?_
 refine tk 9 29 (ma 13 975) AA ?_
 refine tb 4 (ma 13 991) fun K hK => ?_
 (go_simp; refine (uz vb nn Ao op a W.drew e8 HO.out.ho ha0).mono ?_; rintro e w3 ⟨rfl, rfl⟩; go_simp)
 refine hK.out _ _ (fun _ => ?_) (fun AA' => ?_)
 ·exact AA
 replace AA := AA' rfl
 clear AA' hK K
 try dsimp only at AA
 refine tk 5 25 (mf 13 10) AA ?_
 refine tb 10 (mf 13 11) fun K hK => ?_
 go_simp
 refine hK.out _ _ (fun _ => ?_) (fun AA' => ?_)
 ·exact (zn W (vb + 1) _ (by omega) _ _ _ _ _).trans e4
 replace AA := AA' rfl
 clear AA' hK K
 try dsimp only at AA
 refine tb 11 (mf 13 12) fun K hK => ?_
 go_simp
 refine hK.out _ _ (fun _ => ?_) (fun AA' => ?_)
 ·exact (zn _ (vb + 1 + 1) _ (by omega) _ _ _ _ _).trans ((zn W (vb + 1) _ (by omega) _ _ _ _ _).trans e4)
 replace AA := AA' rfl
 clear AA' hK K
 try dsimp only at AA
 refine tb 12 (mf 13 13) fun K hK => ?_
 go_simp
 refine hK.out _ _ (fun _ => ?_) (fun AA' => ?_)
 ·exact AA
 replace AA := AA' rfl
 clear AA' hK K
 try dsimp only at AA
 refine zA (by kernel_rfl) ?_ _
 go_wp2_with fail
 exact bodyPost_ret (v := .tuple #[.agg #[.bool true, .bool (xZ (op.getD a.toNat 0))], .agg #[.int .i64 (-1), .int .i64 a], .bool true]) (by simp [results, Tryz.results216, go_sem, z10, z11, z20, z21]; try rfl) rfl ⟨by rw [HE.out.1, HE.out.2.1, HE.out.2.2.1, HE.out.2.2.2.1, HE.out.2.2.2.2], HBF.out⟩
theorem oY (An Ad Ap Ao Ac : Option Addr) (nn cn nd cd : Nat) (nm : ByteArray) (kd a b co : Int) (parts op cl : List Int) (w : World) (h : vu w nn kd a b Ap Ao Ac parts op cl) (h4 : ¬ kd = 4) (hj : zc kd = true) :
 Calls Tryz.prog 216 #[.agg (vwC An nn cn Ad nd cd nm kd a b co Ap Ao Ac)] w (vq w (sL0 kd a op) (sL1 kd a b op) (sOk kd a b parts) (sN0 kd a) (sN1 kd a b)) := by
 have HB : Hid (Below w.heap.size w (((w.alloc (.cells (vwC An nn cn Ad nd cd nm kd a b co Ap Ao Ac) 219)).alloc (.cells #[.bool false, .bool false] 239)).alloc (.cells #[.int .i64 0, .int .i64 0] 240))) := (((Below.refl _ _).alloc lR _).alloc (by simp) _).alloc (by simp; omega) _
 have HV : Hid (Blk (((w.alloc (.cells (vwC An nn cn Ad nd cd nm kd a b co Ap Ao Ac) 219)).alloc (.cells #[.bool false, .bool false] 239)).alloc (.cells #[.int .i64 0, .int .i64 0] 240)) w.heap.size 219 (vwC An nn cn Ad nd cd nm kd a b co Ap Ao Ac)) := ((Blk.new w _ _).alloc _).alloc _
 have H1 : Hid (Blk (((w.alloc (.cells (vwC An nn cn Ad nd cd nm kd a b co Ap Ao Ac) 219)).alloc (.cells #[.bool false, .bool false] 239)).alloc (.cells #[.int .i64 0, .int .i64 0] 240)) (w.heap.size + 1) 239 #[.bool false, .bool false]) := by
  have := Blk.new (w.alloc (.cells (vwC An nn cn Ad nd cd nm kd a b co Ap Ao Ac) 219)) 239 #[.bool false, .bool false]
  rw [World.size_alloc] at this
  exact this.alloc _
 have H2 : Hid (Blk (((w.alloc (.cells (vwC An nn cn Ad nd cd nm kd a b co Ap Ao Ac) 219)).alloc (.cells #[.bool false, .bool false] 239)).alloc (.cells #[.int .i64 0, .int .i64 0] 240)) (w.heap.size + 1 + 1) 240 #[.int .i64 0, .int .i64 0]) := by
  have := Blk.new ((w.alloc (.cells (vwC An nn cn Ad nd cd nm kd a b co Ap Ao Ac) 219)).alloc (.cells #[.bool false, .bool false] 239)) 240 #[.int .i64 0, .int .i64 0]
  simp only [World.size_alloc] at this
  exact this
 have HO := iD (h.later HB.out)
 have HO0 := iD h
 clear h
 have hmf : ∀ (fn : Fn) (first cap : Array Value) (w : World), (Instr.makeFunc fn first cap).run Tryz.prog w = .ok (.func fn first cap) w := fun _ _ _ _ => rfl
 simp only [vwC] at HB HV H1 H2 HO ⊢
 have HJ2 := iD (xQ kd)
 go_enter Tryz.func216, Tryz.ntmps216
 go_upto_region 2 with (fail)
 clear hmf
 generalize World.alloc (World.alloc (World.alloc _ _) _) _ = W at *
 obtain ⟨vb, hvb⟩ : ∃ vb, vb = w.heap.size := ⟨_, rfl⟩
 rw [← hvb] at H1 H2 HV ⊢
 have HVB := iD hvb; clear hvb
 have e3 := HV.out.c3
 have z10 := H1.out.c0
 have z11 := H1.out.c1
 have z20 := H2.out.c0
 have z21 := H2.out.c1
 have f10 := H1.out.frozen 0
 have f11 := H1.out.frozen 1
 have f20 := H2.out.frozen 0
 have f21 := H2.out.frozen 1
 have hvw : w.heap.size ≤ vb := Nat.le_of_eq HVB.out.symm
 have q4 : (kd == 4) = false := by simpa using h4
 have ha0 := HO.out.a0
 have e4 := HV.out.c4
 have e8 := HV.out.c8
 have HB0 := iD HB.out
 have hb0 := HO.out.b0 hj
 have e5 := HV.out.c5
 have e7 := HV.out.c7
 obtain ⟨ka, rfl⟩ := Int.eq_ofNat_of_zero_le ha0.1
 obtain ⟨kb, rfl⟩ := Int.eq_ofNat_of_zero_le hb0.1
 have hnl := HO.out.n0
 have hka : ka < nn := by omega
 have hkb : kb < nn := by omega
 obtain ⟨pb, poff, x, rfl, hpb, hx, hcx⟩ := HO0.out.hp.at1 hka
 obtain ⟨pb2, poff2, y, hA2, hpb2, hy, hcy⟩ := HO0.out.hp.at1 hkb
 injection hA2 with hA2
 injection hA2 with h1 h2
 subst h1 h2
 have HE : Hid (sL0 kd ka op = xZ (op.getD (ka : Int).toNat 0) ∧ sL1 kd ka kb op = xZ (op.getD (kb : Int).toNat 0) ∧ sN0 kd ka = ka ∧ sN1 kd ka kb = kb ∧ sOk kd ka kb parts = !(x == y)) := by
  have e1 : parts.getD (ka : Int).toNat 0 = x := by rw [Int.toNat_natCast, yS hx]
  have e2 : parts.getD (kb : Int).toNat 0 = y := by rw [Int.toNat_natCast, yS hy]
  unfold Hid sL0 sL1 sN0 sN1 sOk lvB
  rw [e1, e2]
  simp [h4, hj]
 have p1 : W.cell? ⟨pb, poff + ka, none⟩ = some (.int .i64 x) := (HB0.out.cell (p := ⟨pb, poff + ka, none⟩) hpb).trans hcx
 have p2 : W.cell? ⟨pb, poff + kb, none⟩ = some (.int .i64 y) := (HB0.out.cell (p := ⟨pb, poff + kb, none⟩) hpb).trans hcy
 have hne1 : ¬ pb = vb + 1 := by omega
 have hne2 : ¬ pb = vb + 1 + 1 := by omega
 rw [hj] at HJ2
 clear hj hx hy hcx hcy hpb hpb2
 go_wp2_with fail
 refine (HJ2.out _).mono ?_
 rintro e w1 ⟨rfl, rfl⟩
 go_upto_region 6 with (fail)
 clear e3
 have HBF : Hid (Below w.heap.size w (((((W.setCell ⟨vb + 1, 0, none⟩ (.bool (xZ (op.getD (ka : Int).toNat 0)))).setCell ⟨vb + 1, 1, none⟩ (.bool (xZ (op.getD (kb : Int).toNat 0)))).setCell ⟨vb + 1 + 1, 0, none⟩ (.int .i64 ka)).setCell ⟨vb + 1 + 1, 1, none⟩ (.int .i64 kb)).drew)) := (((((HB.out.setCell (by simp; omega) _).setCell (by simp; omega) _).setCell (by simp; omega) _).setCell (by simp; omega) _).drew)
 refine zC (S := fun W' => W'.cell? ⟨vb, 4, none⟩ = some (.int .i64 ka) ∧ W'.cell? ⟨vb, 5, none⟩ = some (.int .i64 kb) ∧ W'.cell? ⟨vb, 7, none⟩ = some (.slice (some ⟨pb, poff, none⟩) nn nn) ∧ W'.cell? ⟨pb, poff + ka, none⟩ = some (.int .i64 x) ∧ W'.cell? ⟨pb, poff + kb, none⟩ = some (.int .i64 y)) (J := []) (by kernel_rfl) ?_ (fun AA => ?_)
 ·exact ⟨e4, e5, e7, p1, p2⟩
 try dsimp only at AA
 refine tk 0 30 (mf 36 1) AA ?_
 refine tk 1 31 (mf 36 2) AA ?_
 refine tk 2 32 (mf 36 3) AA ?_
 refine tk 3 33 (mf 36 4) AA ?_
 refine tk 5 35 (ma 36 47) AA ?_
 refine tk 6 36 (ma 36 111) AA ?_
 refine tk 7 37 (ma 36 239) AA ?_
 refine tk 8 38 (ma 36 495) AA ?_
 refine tk 11 41 (ma 36 2543) AA ?_
 as_aux_lemma =>
  refine tk 12 42 (ma 36 6639) AA ?_
  refine tk 13 43 (ma 36 14831) AA ?_
  refine tk 14 44 (ma 36 31215) AA ?_
  refine tk 15 45 (ma 36 63983) AA ?_
  refine tk 16 46 (ma 36 129519) AA ?_
  refine tk 17 47 (ma 36 260591) AA ?_
  refine tk 18 48 (ma 36 522735) AA ?_
  refine tk 19 49 (ma 36 1047023) AA ?_
  refine tk 20 50 (ma 36 2095599) AA ?_
  refine tk 21 51 (ma 36 4192751) AA ?_
  refine tk 22 52 (ma 36 8387055) AA ?_
  as_aux_lemma =>
   refine tk 23 53 (ma 36 16775663) AA ?_
   refine tk 24 54 (ma 36 33552879) AA ?_
   refine tk 25 55 (ma 36 67107311) AA ?_
   refine tk 26 56 (ma 36 134216175) AA ?_
   refine tk 27 57 (ma 36 268433903) AA ?_
   refine tk 28 58 (ma 36 536869359) AA ?_
   refine tk 29 59 (ma 36 1073740271) AA ?_
   refine tk 30 60 (ma 36 2147482095) AA ?_
   refine tk 31 61 (ma 36 4294965743) AA ?_
   refine tk 32 62 (ma 36 8589933039) AA ?_
   as_aux_lemma =>
    refine tb 4 (ma 36 8589933055) fun K hK => ?_
    (go_simp; refine (uz vb nn Ao op ka W.drew e8 HO.out.ho ha0).mono ?_; rintro e w3 ⟨rfl, rfl⟩; go_simp)
    refine hK.out _ _ (fun _ => ?_) (fun AA' => ?_)
    ·exact AA
    replace AA := AA' rfl
    clear AA' hK K
    try dsimp only at AA
    refine tb 9 (ma 36 8589933567) fun K hK => ?_
    (go_simp; refine (uz vb nn Ao op kb W.drew e8 HO.out.ho hb0).mono ?_; rintro e w3 ⟨rfl, rfl⟩; go_simp)
    refine hK.out _ _ (fun _ => ?_) (fun AA' => ?_)
    ·exact AA
    replace AA := AA' rfl
    clear AA' hK K
    try dsimp only at AA
    refine tk 10 40 (mf 36 33) AA ?_
    refine tb 33 (mf 36 34) fun K hK => ?_
    go_simp
    refine hK.out _ _ (fun _ => ?_) (fun AA' => ?_)
    ·exact ⟨(zn W (vb + 1) _ (by omega) _ _ _ _ _).trans e4, (zn W (vb + 1) _ (by omega) _ _ _ _ _).trans e5, (zn W (vb + 1) _ (by omega) _ _ _ _ _).trans e7, (zn W (vb + 1) _ (by omega) _ _ _ _ _).trans p1, (zn W (vb + 1) _ (by omega) _ _ _ _ _).trans p2⟩
    replace AA := AA' rfl
    clear AA' hK K
    try dsimp only at AA
    refine tb 34 (mf 36 35) fun K hK => ?_
    go_simp
    refine hK.out _ _ (fun _ => ?_) (fun AA' => ?_)
    ·exact ⟨(zn _ (vb + 1 + 1) _ (by omega) _ _ _ _ _).trans ((zn W (vb + 1) _ (by omega) _ _ _ _ _).trans e4), (zn _ (vb + 1 + 1) _ (by omega) _ _ _ _ _).trans ((zn W (vb + 1) _ (by omega) _ _ _ _ _).trans e5), (zn _ (vb + 1 + 1) _ (by omega) _ _ _ _ _).trans ((zn W (vb + 1) _ (by omega) _ _ _ _ _).trans e7), (zn _ (vb + 1 + 1) _ (by omega) _ _ _ _ _).trans ((zn W (vb + 1) _ (by omega) _ _ _ _ _).trans p1), (zn _ (vb + 1 + 1) _ (by omega) _ _ _ _ _).trans ((zn W (vb + 1) _ (by omega) _ _ _ _ _).trans p2)⟩
    replace AA := AA' rfl
    clear AA' hK K
    try dsimp only at AA
    refine tb 35 (mf 36 36) fun K hK => ?_
    go_simp
    refine hK.out _ _ (fun _ => ?_) (fun AA' => ?_)
    ·exact AA
    replace AA := AA' rfl
    clear AA' hK K
    try dsimp only at AA
    refine zA (by kernel_rfl) ?_ _
    go_wp2_with fail
    exact bodyPost_ret (v := .tuple #[.agg #[.bool (xZ (op.getD (ka : Int).toNat 0)), .bool (xZ (op.getD (kb : Int).toNat 0))], .agg #[.int .i64 ka, .int .i64 kb], .bool (!(x == y))]) (by simp [results, Tryz.results216, go_sem, z10, z11, z20, z21]; try rfl) rfl ⟨by rw [HE.out.1, HE.out.2.1, HE.out.2.2.1, HE.out.2.2.2.1, HE.out.2.2.2.2], HBF.out⟩
theorem rO (An Ad Ap Ao Ac : Option Addr) (nn cn nd cd : Nat) (nm : ByteArray) (kd a b co : Int) (parts op cl : List Int) (w : World) (h : vu w nn kd a b Ap Ao Ac parts op cl) :
 Calls Tryz.prog 216 #[.agg (vwC An nn cn Ad nd cd nm kd a b co Ap Ao Ac)] w (vq w (sL0 kd a op) (sL1 kd a b op) (sOk kd a b parts) (sN0 kd a) (sN1 kd a b)) := by
 by_cases h4 : kd = 4
 ·exact pF An Ad Ap Ao Ac nn cn nd cd nm kd a b co parts op cl w h h4
 ·rcases hj : zc kd with _ | _
  ·exact oX An Ad Ap Ao Ac nn cn nd cd nm kd a b co parts op cl w h h4 hj
  ·exact oY An Ad Ap Ao Ac nn cn nd cd nm kd a b co parts op cl w h h4 hj
end Go.Proofs.YtkkobemhbicjgaaGreatDoor
