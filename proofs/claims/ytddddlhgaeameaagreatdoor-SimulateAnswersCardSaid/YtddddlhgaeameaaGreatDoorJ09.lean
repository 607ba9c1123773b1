import Derived.Test.YtddddlhgaeameaaGreatDoorJ08
set_option maxRecDepth 100000
set_option maxHeartbeats 4000000
namespace Go.Proofs.YtddddlhgaeameaaGreatDoor
open Go.RowKit Tryz
def JN (op : List Int) (v : Int) : Bool := yw (op.getD v.toNat 0)
def FN (kd a b : Int) (parts : List Int) : Bool := if kd = 4 then false else if zV kd = false then true else !(parts.getD a.toNat 0 == parts.getD b.toNat 0)
def Eh (kd a : Int) (op : List Int) : Bool := if kd = 4 then false else if zV kd = false then true else JN op a
def FH (kd a b : Int) (op : List Int) : Bool := if kd = 4 then false else if zV kd = false then JN op a else JN op b
def Kj (kd a : Int) : Int := if kd = 4 then 0 else if zV kd = false then -1 else a
def KE (kd a b : Int) : Int := if kd = 4 then 0 else if zV kd = false then a else b
theorem yA (W : World) (p c : Nat) (h : c ≠ p) (i j k : Nat) (u v : Value) : ((W.setCell ⟨p, i, none⟩ u).setCell ⟨p, j, none⟩ v).cell? ⟨c, k, none⟩ = W.cell? ⟨c, k, none⟩ :=
 (World.cell?_setCell_other _ _ _ _ (fun e => h (by injection e with e1; exact e1.symm))).trans (World.cell?_setCell_other _ _ _ _ (fun e => h (by injection e with e1; exact e1.symm)))
def uV (w : World) (l0 l1 ok : Bool) (n0 n1 : Int) (e : Ending) (w' : World) : Prop := e = .returned (.tuple #[.agg #[.bool l0, .bool l1], .agg #[.int .i64 n0, .int .i64 n1], .bool ok]) ∧ bW w w'
theorem oE (An Ad Ap Ao Ac : Option Addr) (nn cn nd cd : Nat) (nm : ByteArray) (kd a b co : Int) (parts op cl : List Int) (w : World) (h : uZ w nn kd a b Ap Ao Ac parts op cl) (h4 : kd = 4) :
 Calls prog 172 #[.agg (Cq An nn cn Ad nd cd nm kd a b co Ap Ao Ac)] w (uV w (Eh kd a op) (FH kd a b op) (FN kd a b parts) (Kj kd a) (KE kd a b)) := by
 subst h4;have HB : Hid (Below w.heap.size w (((w.alloc (.cells (Cq An nn cn Ad nd cd nm 4 a b co Ap Ao Ac) 190)).alloc (.cells #[.bool false, .bool false] 210)).alloc (.cells #[.int .i64 0, .int .i64 0] 211))) := (((Below.refl _ _).alloc lR _).alloc (by simp) _).alloc (by simp; omega) _;have HV : Hid (AJ (((w.alloc (.cells (Cq An nn cn Ad nd cd nm 4 a b co Ap Ao Ac) 190)).alloc (.cells #[.bool false, .bool false] 210)).alloc (.cells #[.int .i64 0, .int .i64 0] 211)) w.heap.size 190 (Cq An nn cn Ad nd cd nm 4 a b co Ap Ao Ac)) := ((AJ.new w _ _).alloc _).alloc _
 have H1 : Hid (AJ (((w.alloc (.cells (Cq An nn cn Ad nd cd nm 4 a b co Ap Ao Ac) 190)).alloc (.cells #[.bool false, .bool false] 210)).alloc (.cells #[.int .i64 0, .int .i64 0] 211)) (w.heap.size + 1) 210 #[.bool false, .bool false]) := by
  have := AJ.new (w.alloc (.cells (Cq An nn cn Ad nd cd nm 4 a b co Ap Ao Ac) 190)) 210 #[.bool false, .bool false];rw [World.size_alloc] at this;exact this.alloc _
 have H2 : Hid (AJ (((w.alloc (.cells (Cq An nn cn Ad nd cd nm 4 a b co Ap Ao Ac) 190)).alloc (.cells #[.bool false, .bool false] 210)).alloc (.cells #[.int .i64 0, .int .i64 0] 211)) (w.heap.size + 1 + 1) 211 #[.int .i64 0, .int .i64 0]) := by
  have := AJ.new ((w.alloc (.cells (Cq An nn cn Ad nd cd nm 4 a b co Ap Ao Ac) 190)).alloc (.cells #[.bool false, .bool false] 210)) 211 #[.int .i64 0, .int .i64 0];simp only [World.size_alloc] at this;exact this
 have HO := iD (h.later HB);have AB := iD h;clear h;have Qx : ∀ (fn : Fn) (first cap : Array Value) (w : World), (Instr.makeFunc fn first cap).run prog w = .ok (.func fn first cap) w := fun _ _ _ _ => rfl
 simp only [Cq] at HB HV H1 H2 HO ⊢;have Cw := iD (xx 4)
 go_enter func172, ntmps172
 go_upto_region 2 with (fail);clear Qx;generalize World.alloc (World.alloc (World.alloc _ _) _) _ = W at *;obtain ⟨vb, EF⟩ := eX w.heap.size;rw [← EF] at H1 H2 HV ⊢;have QQ := iD EF; clear EF;have e3 := HV.c3;obtain ⟨UK, UJ⟩ := H1.d2;obtain ⟨z20, z21⟩ := H2.d2;obtain ⟨f10, f11⟩ := H1.e2;obtain ⟨f20, f21⟩ := H2.e2;have AE : w.heap.size ≤ vb := Nat.le_of_eq QQ.symm;go_upto_region 3 with (fail);clear e3;have HE : Hid (Eh 4 a op = false ∧ FH 4 a b op = false ∧ Kj 4 a = 0 ∧ KE 4 a b = 0 ∧ FN 4 a b parts = false) := by unfold Hid Eh FH Kj KE FN; simp
 have Rh : Hid (Below w.heap.size w (((((W.setCell ⟨vb + 1, 0, none⟩ (.bool false)).setCell ⟨vb + 1, 1, none⟩ (.bool false)).setCell ⟨vb + 1 + 1, 0, none⟩ (.int .i64 0)).setCell ⟨vb + 1 + 1, 1, none⟩ (.int .i64 0)).drew)) := (((((HB.setCell (by simp; omega) _).setCell (by simp; omega) _).setCell (by simp; omega) _).setCell (by simp; omega) _).drew);refine fX (fun W' => W'.cell? ⟨vb + 1, 0, none⟩ = some (.bool false) ∧ W'.cell? ⟨vb + 1, 1, none⟩ = some (.bool false) ∧ W'.cell? ⟨vb + 1 + 1, 0, none⟩ = some (.int .i64 0) ∧ W'.cell? ⟨vb + 1 + 1, 1, none⟩ = some (.int .i64 0)) [3, 4] ?_ fun AA => ?_
 ·exact ⟨UK, UJ, z20, z21⟩
 try dsimp only at AA
 refine tk 0 12 (mf 5 1) AA ?_;refine tk 1 13 (mf 5 2) AA ?_;refine tb 2 (mf 5 3) fun K hK => ?_
 go_simp
 refine hK _ _ (fun _ => ⟨((H1.set 0 _).set 1 _).cell 0, ((H1.set 0 _).set 1 _).cell 1, (yA W (vb + 1) _ (by omega) _ _ _ _ _).trans z20, (yA W (vb + 1) _ (by omega) _ _ _ _ _).trans z21⟩) fun p => (fun AA => ?_) (p rfl)
 clear p hK K;(try dsimp only at AA);refine tb 3 (mf 5 4) fun K hK => ?_
 go_simp
 refine hK _ _ (fun h => by cases h) (fun _ => ?_)
 try clear AA
 clear hK K;refine tb 4 (mf 5 5) fun K hK => ?_
 go_simp
 refine hK _ _ (fun h => by cases h) (fun _ => ?_)
 try clear AA
 clear hK K;refine tK ?_
 go_wp2_with fail
 exact bodyPost_ret (v := .tuple #[.agg #[.bool false, .bool false], .agg #[.int .i64 0, .int .i64 0], .bool false]) (by simp [results, results172, go_sem, UK, UJ, z20, z21]; try rfl) rfl ⟨by rw [HE.1, HE.2.1, HE.2.2.1, HE.2.2.2.1, HE.2.2.2.2], Rh⟩
theorem nX (An Ad Ap Ao Ac : Option Addr) (nn cn nd cd : Nat) (nm : ByteArray) (kd a b co : Int) (parts op cl : List Int) (w : World) (h : uZ w nn kd a b Ap Ao Ac parts op cl) (h4 : ¬ kd = 4) (hj : zV kd = false) :
 Calls prog 172 #[.agg (Cq An nn cn Ad nd cd nm kd a b co Ap Ao Ac)] w (uV w (Eh kd a op) (FH kd a b op) (FN kd a b parts) (Kj kd a) (KE kd a b)) := by
 have HB : Hid (Below w.heap.size w (((w.alloc (.cells (Cq An nn cn Ad nd cd nm kd a b co Ap Ao Ac) 190)).alloc (.cells #[.bool false, .bool false] 210)).alloc (.cells #[.int .i64 0, .int .i64 0] 211))) := (((Below.refl _ _).alloc lR _).alloc (by simp) _).alloc (by simp; omega) _;have HV : Hid (AJ (((w.alloc (.cells (Cq An nn cn Ad nd cd nm kd a b co Ap Ao Ac) 190)).alloc (.cells #[.bool false, .bool false] 210)).alloc (.cells #[.int .i64 0, .int .i64 0] 211)) w.heap.size 190 (Cq An nn cn Ad nd cd nm kd a b co Ap Ao Ac)) := ((AJ.new w _ _).alloc _).alloc _
 have H1 : Hid (AJ (((w.alloc (.cells (Cq An nn cn Ad nd cd nm kd a b co Ap Ao Ac) 190)).alloc (.cells #[.bool false, .bool false] 210)).alloc (.cells #[.int .i64 0, .int .i64 0] 211)) (w.heap.size + 1) 210 #[.bool false, .bool false]) := by
  have := AJ.new (w.alloc (.cells (Cq An nn cn Ad nd cd nm kd a b co Ap Ao Ac) 190)) 210 #[.bool false, .bool false];rw [World.size_alloc] at this;exact this.alloc _
 have H2 : Hid (AJ (((w.alloc (.cells (Cq An nn cn Ad nd cd nm kd a b co Ap Ao Ac) 190)).alloc (.cells #[.bool false, .bool false] 210)).alloc (.cells #[.int .i64 0, .int .i64 0] 211)) (w.heap.size + 1 + 1) 211 #[.int .i64 0, .int .i64 0]) := by
  have := AJ.new ((w.alloc (.cells (Cq An nn cn Ad nd cd nm kd a b co Ap Ao Ac) 190)).alloc (.cells #[.bool false, .bool false] 210)) 211 #[.int .i64 0, .int .i64 0];simp only [World.size_alloc] at this;exact this
 have HO := iD (h.later HB);have AB := iD h;clear h;have Qx : ∀ (fn : Fn) (first cap : Array Value) (w : World), (Instr.makeFunc fn first cap).run prog w = .ok (.func fn first cap) w := fun _ _ _ _ => rfl
 simp only [Cq] at HB HV H1 H2 HO ⊢;have Cw := iD (xx kd)
 go_enter func172, ntmps172
 go_upto_region 2 with (fail);clear Qx;generalize World.alloc (World.alloc (World.alloc _ _) _) _ = W at *;obtain ⟨vb, EF⟩ := eX w.heap.size;rw [← EF] at H1 H2 HV ⊢;have QQ := iD EF; clear EF;have e3 := HV.c3;obtain ⟨UK, UJ⟩ := H1.d2;obtain ⟨z20, z21⟩ := H2.d2;obtain ⟨f10, f11⟩ := H1.e2;obtain ⟨f20, f21⟩ := H2.e2;have AE : w.heap.size ≤ vb := Nat.le_of_eq QQ.symm;have q4 : (kd == 4) = false := by simpa using h4
 have IQ := HO.a0;have e4 := HV.c4;have e8 := HV.c8;have Bi := iD HB.out;have HE : Hid (Eh kd a op = true ∧ FH kd a b op = yw (op.getD a.toNat 0) ∧ Kj kd a = -1 ∧ KE kd a b = a ∧ FN kd a b parts = true) := by unfold Hid Eh FH Kj KE FN JN; simp [h4, hj]
 rw [hj] at Cw;clear hj
 go_wp2_with fail
 refine (Cw _).mono ?_;rintro e w1 ⟨rfl, rfl⟩;go_upto_region 5 with (fail);clear e3;have Rh : Hid (Below w.heap.size w (((((W.setCell ⟨vb + 1, 0, none⟩ (.bool true)).setCell ⟨vb + 1, 1, none⟩ (.bool (yw (op.getD a.toNat 0)))).setCell ⟨vb + 1 + 1, 0, none⟩ (.int .i64 (-1))).setCell ⟨vb + 1 + 1, 1, none⟩ (.int .i64 a)).drew)) := (((((HB.setCell (by simp; omega) _).setCell (by simp; omega) _).setCell (by simp; omega) _).setCell (by simp; omega) _).drew);refine fX (fun W' => W'.cell? ⟨vb, 4, none⟩ = some (.int .i64 a)) [] ?_ fun AA => ?_
 ·exact e4
 try dsimp only at AA
 refine tk 0 20 (mf 13 1) AA ?_;refine tk 1 21 (mf 13 2) AA ?_;refine tk 2 22 (mf 13 3) AA ?_;refine tk 3 23 (mf 13 4) AA ?_;refine tk 6 26 (ma 13 79) AA ?_;refine tk 7 27 (ma 13 207) AA ?_;refine tk 8 28 (ma 13 463) AA ?_;refine tk 9 29 (ma 13 975) AA ?_;refine tb 4 (ma 13 991) fun K hK => ?_
 (go_simp; refine (tl vb nn Ao op a W.drew e8 HO.ho IQ).mono ?_; rintro e w3 ⟨rfl, rfl⟩; go_simp)
 refine hK _ _ (fun _ => AA) fun p => (fun AA => ?_) (p rfl)
 clear p hK K;(try dsimp only at AA);refine tk 5 25 (mf 13 10) AA ?_;refine tb 10 (mf 13 11) fun K hK => ?_
 go_simp
 refine hK _ _ (fun _ => (yA W (vb + 1) _ (by omega) _ _ _ _ _).trans e4) fun p => (fun AA => ?_) (p rfl)
 clear p hK K;(try dsimp only at AA);refine tb 11 (mf 13 12) fun K hK => ?_
 go_simp
 refine hK _ _ (fun _ => (yA _ (vb + 1 + 1) _ (by omega) _ _ _ _ _).trans ((yA W (vb + 1) _ (by omega) _ _ _ _ _).trans e4)) fun p => (fun AA => ?_) (p rfl)
 clear p hK K;(try dsimp only at AA);refine tb 12 (mf 13 13) fun K hK => ?_
 go_simp
 refine hK _ _ (fun _ => AA) fun p => (fun AA => ?_) (p rfl)
 clear p hK K;(try dsimp only at AA);refine tK ?_
 go_wp2_with fail
 exact bodyPost_ret (v := .tuple #[.agg #[.bool true, .bool (yw (op.getD a.toNat 0))], .agg #[.int .i64 (-1), .int .i64 a], .bool true]) (by simp [results, results172, go_sem, UK, UJ, z20, z21]; try rfl) rfl ⟨by rw [HE.1, HE.2.1, HE.2.2.1, HE.2.2.2.1, HE.2.2.2.2], Rh⟩
theorem nY (An Ad Ap Ao Ac : Option Addr) (nn cn nd cd : Nat) (nm : ByteArray) (kd a b co : Int) (parts op cl : List Int) (w : World) (h : uZ w nn kd a b Ap Ao Ac parts op cl) (h4 : ¬ kd = 4) (hj : zV kd = true) :
 Calls prog 172 #[.agg (Cq An nn cn Ad nd cd nm kd a b co Ap Ao Ac)] w (uV w (Eh kd a op) (FH kd a b op) (FN kd a b parts) (Kj kd a) (KE kd a b)) := by
 have HB : Hid (Below w.heap.size w (((w.alloc (.cells (Cq An nn cn Ad nd cd nm kd a b co Ap Ao Ac) 190)).alloc (.cells #[.bool false, .bool false] 210)).alloc (.cells #[.int .i64 0, .int .i64 0] 211))) := (((Below.refl _ _).alloc lR _).alloc (by simp) _).alloc (by simp; omega) _;have HV : Hid (AJ (((w.alloc (.cells (Cq An nn cn Ad nd cd nm kd a b co Ap Ao Ac) 190)).alloc (.cells #[.bool false, .bool false] 210)).alloc (.cells #[.int .i64 0, .int .i64 0] 211)) w.heap.size 190 (Cq An nn cn Ad nd cd nm kd a b co Ap Ao Ac)) := ((AJ.new w _ _).alloc _).alloc _
 have H1 : Hid (AJ (((w.alloc (.cells (Cq An nn cn Ad nd cd nm kd a b co Ap Ao Ac) 190)).alloc (.cells #[.bool false, .bool false] 210)).alloc (.cells #[.int .i64 0, .int .i64 0] 211)) (w.heap.size + 1) 210 #[.bool false, .bool false]) := by
  have := AJ.new (w.alloc (.cells (Cq An nn cn Ad nd cd nm kd a b co Ap Ao Ac) 190)) 210 #[.bool false, .bool false];rw [World.size_alloc] at this;exact this.alloc _
 have H2 : Hid (AJ (((w.alloc (.cells (Cq An nn cn Ad nd cd nm kd a b co Ap Ao Ac) 190)).alloc (.cells #[.bool false, .bool false] 210)).alloc (.cells #[.int .i64 0, .int .i64 0] 211)) (w.heap.size + 1 + 1) 211 #[.int .i64 0, .int .i64 0]) := by
  have := AJ.new ((w.alloc (.cells (Cq An nn cn Ad nd cd nm kd a b co Ap Ao Ac) 190)).alloc (.cells #[.bool false, .bool false] 210)) 211 #[.int .i64 0, .int .i64 0];simp only [World.size_alloc] at this;exact this
 have HO := iD (h.later HB);have AB := iD h;clear h;have Qx : ∀ (fn : Fn) (first cap : Array Value) (w : World), (Instr.makeFunc fn first cap).run prog w = .ok (.func fn first cap) w := fun _ _ _ _ => rfl
 simp only [Cq] at HB HV H1 H2 HO ⊢;have Cw := iD (xx kd)
 go_enter func172, ntmps172
 go_upto_region 2 with (fail);clear Qx;generalize World.alloc (World.alloc (World.alloc _ _) _) _ = W at *;obtain ⟨vb, EF⟩ := eX w.heap.size;rw [← EF] at H1 H2 HV ⊢;have QQ := iD EF; clear EF;have e3 := HV.c3;obtain ⟨UK, UJ⟩ := H1.d2;obtain ⟨z20, z21⟩ := H2.d2;obtain ⟨f10, f11⟩ := H1.e2;obtain ⟨f20, f21⟩ := H2.e2;have AE : w.heap.size ≤ vb := Nat.le_of_eq QQ.symm;have q4 : (kd == 4) = false := by simpa using h4
 have IQ := HO.a0;have e4 := HV.c4;have e8 := HV.c8;have Bi := iD HB.out;have Fs := HO.b0 hj;have e5 := HV.c5;have e7 := HV.c7;obtain ⟨ka, rfl⟩ := Int.eq_ofNat_of_zero_le IQ.1;obtain ⟨kb, rfl⟩ := Int.eq_ofNat_of_zero_le Fs.1;have Gl := HO.n0;have AL : ka < nn := by omega
 have AK : kb < nn := by omega
 obtain ⟨pb, Cu, x, rfl, UO, hx, Np⟩ := AB.hp.at1 AL;obtain ⟨VK, Jb, y, Cm, Vb, hy, Gu⟩ := AB.hp.at1 AK;injection Cm with Cm;injection Cm with h1 h2;subst h1 h2
 have HE : Hid (Eh kd ka op = yw (op.getD (ka : Int).toNat 0) ∧ FH kd ka kb op = yw (op.getD (kb : Int).toNat 0) ∧ Kj kd ka = ka ∧ KE kd ka kb = kb ∧ FN kd ka kb parts = !(x == y)) := by
  have e1 : parts.getD (ka : Int).toNat 0 = x := by rw [Int.toNat_natCast, yM hx]
  have e2 : parts.getD (kb : Int).toNat 0 = y := by rw [Int.toNat_natCast, yM hy]
  unfold Hid Eh FH Kj KE FN JN;rw [e1, e2];simp [h4, hj]
 have p1 : W.cell? ⟨pb, Cu + ka, none⟩ = some (.int .i64 x) := (Bi.cell (p := ⟨pb, Cu + ka, none⟩) UO).trans Np;have p2 : W.cell? ⟨pb, Cu + kb, none⟩ = some (.int .i64 y) := (Bi.cell (p := ⟨pb, Cu + kb, none⟩) UO).trans Gu;have AH : ¬ pb = vb + 1 := by omega
 have AG : ¬ pb = vb + 1 + 1 := by omega
 rw [hj] at Cw;clear hj hx hy Np Gu UO Vb
 go_wp2_with fail
 refine (Cw _).mono ?_;rintro e w1 ⟨rfl, rfl⟩;go_upto_region 6 with (fail);clear e3;have Rh : Hid (Below w.heap.size w (((((W.setCell ⟨vb + 1, 0, none⟩ (.bool (yw (op.getD (ka : Int).toNat 0)))).setCell ⟨vb + 1, 1, none⟩ (.bool (yw (op.getD (kb : Int).toNat 0)))).setCell ⟨vb + 1 + 1, 0, none⟩ (.int .i64 ka)).setCell ⟨vb + 1 + 1, 1, none⟩ (.int .i64 kb)).drew)) := (((((HB.setCell (by simp; omega) _).setCell (by simp; omega) _).setCell (by simp; omega) _).setCell (by simp; omega) _).drew);refine fX (fun W' => W'.cell? ⟨vb, 4, none⟩ = some (.int .i64 ka) ∧ W'.cell? ⟨vb, 5, none⟩ = some (.int .i64 kb) ∧ W'.cell? ⟨vb, 7, none⟩ = some (.slice (some ⟨pb, Cu, none⟩) nn nn) ∧ W'.cell? ⟨pb, Cu + ka, none⟩ = some (.int .i64 x) ∧ W'.cell? ⟨pb, Cu + kb, none⟩ = some (.int .i64 y)) [] ?_ fun AA => ?_
 ·exact ⟨e4, e5, e7, p1, p2⟩
 try dsimp only at AA
 refine tk 0 30 (mf 36 1) AA ?_;refine tk 1 31 (mf 36 2) AA ?_;refine tk 2 32 (mf 36 3) AA ?_;refine tk 3 33 (mf 36 4) AA ?_;refine tk 5 35 (ma 36 47) AA ?_;refine tk 6 36 (ma 36 111) AA ?_;refine tk 7 37 (ma 36 239) AA ?_;refine tk 8 38 (ma 36 495) AA ?_;refine tk 11 41 (ma 36 2543) AA ?_
 as_aux_lemma =>
  refine tk 12 42 (ma 36 6639) AA ?_;refine tk 13 43 (ma 36 14831) AA ?_;refine tk 14 44 (ma 36 31215) AA ?_;refine tk 15 45 (ma 36 63983) AA ?_;refine tk 16 46 (ma 36 129519) AA ?_;refine tk 17 47 (ma 36 260591) AA ?_;refine tk 18 48 (ma 36 522735) AA ?_;refine tk 19 49 (ma 36 1047023) AA ?_;refine tk 20 50 (ma 36 2095599) AA ?_;refine tk 21 51 (ma 36 4192751) AA ?_;refine tk 22 52 (ma 36 8387055) AA ?_
  as_aux_lemma =>
   refine tk 23 53 (ma 36 16775663) AA ?_;refine tk 24 54 (ma 36 33552879) AA ?_;refine tk 25 55 (ma 36 67107311) AA ?_;refine tk 26 56 (ma 36 134216175) AA ?_;refine tk 27 57 (ma 36 268433903) AA ?_;refine tk 28 58 (ma 36 536869359) AA ?_;refine tk 29 59 (ma 36 1073740271) AA ?_;refine tk 30 60 (ma 36 2147482095) AA ?_;refine tk 31 61 (ma 36 4294965743) AA ?_;refine tk 32 62 (ma 36 8589933039) AA ?_
   as_aux_lemma =>
    refine tb 4 (ma 36 8589933055) fun K hK => ?_
    (go_simp; refine (tl vb nn Ao op ka W.drew e8 HO.ho IQ).mono ?_; rintro e w3 ⟨rfl, rfl⟩; go_simp)
    refine hK _ _ (fun _ => AA) fun p => (fun AA => ?_) (p rfl)
    clear p hK K;(try dsimp only at AA);refine tb 9 (ma 36 8589933567) fun K hK => ?_
    (go_simp; refine (tl vb nn Ao op kb W.drew e8 HO.ho Fs).mono ?_; rintro e w3 ⟨rfl, rfl⟩; go_simp)
    refine hK _ _ (fun _ => AA) fun p => (fun AA => ?_) (p rfl)
    clear p hK K;(try dsimp only at AA);refine tk 10 40 (mf 36 33) AA ?_;refine tb 33 (mf 36 34) fun K hK => ?_
    go_simp
    refine hK _ _ (fun _ => ⟨(yA W (vb + 1) _ (by omega) _ _ _ _ _).trans e4, (yA W (vb + 1) _ (by omega) _ _ _ _ _).trans e5, (yA W (vb + 1) _ (by omega) _ _ _ _ _).trans e7, (yA W (vb + 1) _ (by omega) _ _ _ _ _).trans p1, (yA W (vb + 1) _ (by omega) _ _ _ _ _).trans p2⟩) fun p => (fun AA => ?_) (p rfl)
    clear p hK K;(try dsimp only at AA);refine tb 34 (mf 36 35) fun K hK => ?_
    go_simp
    refine hK _ _ (fun _ => ⟨(yA _ (vb + 1 + 1) _ (by omega) _ _ _ _ _).trans ((yA W (vb + 1) _ (by omega) _ _ _ _ _).trans e4), (yA _ (vb + 1 + 1) _ (by omega) _ _ _ _ _).trans ((yA W (vb + 1) _ (by omega) _ _ _ _ _).trans e5), (yA _ (vb + 1 + 1) _ (by omega) _ _ _ _ _).trans ((yA W (vb + 1) _ (by omega) _ _ _ _ _).trans e7), (yA _ (vb + 1 + 1) _ (by omega) _ _ _ _ _).trans ((yA W (vb + 1) _ (by omega) _ _ _ _ _).trans p1), (yA _ (vb + 1 + 1) _ (by omega) _ _ _ _ _).trans ((yA W (vb + 1) _ (by omega) _ _ _ _ _).trans p2)⟩) fun p => (fun AA => ?_) (p rfl)
    clear p hK K;(try dsimp only at AA);refine tb 35 (mf 36 36) fun K hK => ?_
    go_simp
    refine hK _ _ (fun _ => AA) fun p => (fun AA => ?_) (p rfl)
    clear p hK K;(try dsimp only at AA);refine tK ?_
    go_wp2_with fail
    exact bodyPost_ret (v := .tuple #[.agg #[.bool (yw (op.getD (ka : Int).toNat 0)), .bool (yw (op.getD (kb : Int).toNat 0))], .agg #[.int .i64 ka, .int .i64 kb], .bool (!(x == y))]) (by simp [results, results172, go_sem, UK, UJ, z20, z21]; try rfl) rfl ⟨by rw [HE.1, HE.2.1, HE.2.2.1, HE.2.2.2.1, HE.2.2.2.2], Rh⟩
theorem qJ (An Ad Ap Ao Ac : Option Addr) (nn cn nd cd : Nat) (nm : ByteArray) (kd a b co : Int) (parts op cl : List Int) (w : World) (h : uZ w nn kd a b Ap Ao Ac parts op cl) :
 Calls prog 172 #[.agg (Cq An nn cn Ad nd cd nm kd a b co Ap Ao Ac)] w (uV w (Eh kd a op) (FH kd a b op) (FN kd a b parts) (Kj kd a) (KE kd a b)) := by
 by_cases h4 : kd = 4
 ·exact oE An Ad Ap Ao Ac nn cn nd cd nm kd a b co parts op cl w h h4
 ·rcases hj : zV kd with _ | _
  ·exact nX An Ad Ap Ao Ac nn cn nd cd nm kd a b co parts op cl w h h4 hj
  ·exact nY An Ad Ap Ao Ac nn cn nd cd nm kd a b co parts op cl w h h4 hj
end Go.Proofs.YtddddlhgaeameaaGreatDoor
