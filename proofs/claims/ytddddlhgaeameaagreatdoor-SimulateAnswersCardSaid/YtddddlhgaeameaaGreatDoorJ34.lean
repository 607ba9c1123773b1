import Derived.Test.YtddddlhgaeameaaGreatDoorJ30
set_option maxRecDepth 100000
set_option maxHeartbeats 32000000
namespace Go.Proofs.YtddddlhgaeameaaGreatDoor
open Go.RowKit Tryz
theorem lE : xJ prog 56 95 2 16 := xJ.mk' (z := .agg #[.int .i64 0, .int .i64 0]) underlying56 (by kernel_rfl) rfl (by decide)
theorem iM (ns : List Nd) (ds : List Dv) (s : List Int) (d p co : Int) (ls : List Lk) (pr : List Int) : (FP ns ds s d p co ls pr).length ≤ 8 := by
 have hl : ∀ f1 f2 f3 f4 f5 f6 f7, (Qr f1 f2 f3 f4 f5 f6 f7).length ≤ 8 := fun f1 f2 f3 f4 f5 f6 f7 => by
  have h1 := xw f1 1; have h2 := xw f2 2; have h3 := xw f3 3; have h4 := xw f4 4; have h5 := xw f5 5; have h6 := xw f6 6; have h7 := xw f7 7;unfold Qr; simp only [List.length_append]; omega
 unfold FP;split
 ·unfold uq; split <;> exact hl _ _ _ _ _ _ _
 ·simp
theorem tF (ns : List Nd) (ds : List Dv) (co : Int) (t : Sm) (x : Sp) : (za ns ds co t x).h.length ≤ 8 := by
 unfold za;split
 ·exact iM _ _ _ _ _ _ _ _
 split
 ·split <;> simp
 split
 ·split <;> simp
 split
 ·simp
 split
 ·simp
 split <;> simp
structure Pa (w : World) (co : Int) (Al Ap : Option Addr) (nl cl np cp Hu : Nat) (B3 B4 : Option Addr) (m3 e3 m4 e4 : Nat) (wr : World) : Prop where
 a : AJ wr (w.heap.size + 2) 29 #[.int .i64 co, .slice Al nl cl, .slice Ap np cp]
 b : AJ wr Hu 29 #[.int .i64 co, .slice B3 m3 e3, .slice B4 m4 e4]
def gJ (w : World) (ob : Nat) (An Ad A5 : Option Addr) (nn cn nd cd n5 c5 : Nat) (co : Int) (pg : Array Value) (As Al Ap Ao : Option Addr) (n c nl cl np cp mo cx : Nat) (ns : List Nd) (ds : List Dv) (Bw : List Int) (t : Sm) (out : List Fn) (i : Nat) (x : Sp) (e : Ending) (w' : World) : Prop :=
 (uY Bw x = true ∧ e = .returned (.bool false) ∧ Hid (RM w ob An Ad A5 nn cn nd cd n5 c5 co pg As Al Ap Ao n c nl cl np cp mo cx t out w')) ∨
 (uY Bw x = false ∧ e = .returned (.bool (za ns ds co t x).ok) ∧ ∃ (A2 B3 B4 A' : Option Addr) (n2 c2 m3 e3 m4 e4 mo' cx' : Nat), Hid (RM w ob An Ad A5 nn cn nd cd n5 c5 co pg A2 B3 B4 A' n2 c2 m3 e3 m4 e4 mo' cx' (za ns ds co t x).t (out ++ yD i (za ns ds co t x).h) w') ∧ mo' ≤ mo + 8)
def DoR (w : World) (ob x8 : Nat) (An Ad A5 : Option Addr) (nn cn nd cd n5 c5 : Nat) (co : Int) (pg : Array Value) (As Al Ap : Option Addr) (n c nl cl np cp : Nat) (t : Sm) (out : List Fn) (A1 A2 B3 B4 : Option Addr) (n1 c1 n2 c2 m3 e3 m4 e4 mo i : Nat) (so : So) (gk : Nat) (iv : Value) (wr : World) : Prop :=
 ∃ (j cx : Nat) (Ao : Option Addr), iv = .int .i64 j ∧ j ≤ n1 ∧ gk = n1 - j ∧ Hid (RM w ob An Ad A5 nn cn nd cd n5 c5 co pg As Al Ap Ao n c nl cl np cp (mo + j) cx t (out ++ yD i (so.h.take j)) wr) ∧ Hid (SK w ob x8 co Ao A1 A2 B3 B4 n1 c1 n2 c2 m3 e3 m4 e4 so wr)
theorem hY (An Ad A5 As Al Ap Ao : Option Addr) (nn cn nd cd n5 c5 n c nl cl np cp mo cx ob : Nat) (ns : List Nd) (ds : List Dv) (Bw : List Int) (t : Sm) (out : List Fn) (co : Int) (pg : Array Value) (i : Nat) (k d no p q : Int) (w wr : World)
 (Ie : yr w) (hn : Av w 3 An nn cn (ns.flatMap Nd.cells)) (hd : Av w 5 Ad nd cd (ds.flatMap Dv.cells)) (Bj : FO ns) (Bc : GH ds)
 (h5 : Av w 1 A5 n5 c5 (zF Bw)) (CB : ua ns ds t) (FT : 0 ≤ co ∧ co ≤ 7) (hx : zc ns.length ds.length ⟨k, d, no, p, q⟩ = 0) (UQ : mo ≤ 1000000) (_hi : i ≤ 1000000)
 (h : RM w ob An Ad A5 nn cn nd cd n5 c5 co pg As Al Ap Ao n c nl cl np cp mo cx t out wr) :
 Calls prog 44 #[.int .i64 (i : Int), .agg #[.int .i64 k, .int .i64 d, .int .i64 no, .int .i64 p, .int .i64 q], .pointer (some ⟨w.heap.size + 4, 0, none⟩), .pointer (some ⟨w.heap.size, 0, none⟩), .pointer (some ⟨w.heap.size + 1, 0, none⟩), .pointer (some ⟨w.heap.size + 2, 0, none⟩), .pointer (some ⟨ob, 0, none⟩)] wr (gJ w ob An Ad A5 nn cn nd cd n5 c5 co pg As Al Ap Ao n c nl cl np cp mo cx ns ds Bw t out i ⟨k, d, no, p, q⟩) := by
 have HN := iD hn; have HD := iD hd; have Gj := iD Ie; have Da := iD Bj; have CU := iD Bc; have H5 := iD h5; have BR := iD CB; have Mg := iD FT; have Hg := iD hx;have H0 := iD h;have HR := iD (h.later ((Below.refl wr.heap.size wr).alloc lR (.cells #[.int .i64 k, .int .i64 d, .int .i64 no, .int .i64 p, .int .i64 q] 31)));have Ff := iD (AJ.new wr 31 #[.int .i64 k, .int .i64 d, .int .i64 no, .int .i64 p, .int .i64 q]);have Qc : Hid (ob < wr.heap.size) := h.bo.lt
 have QP : Hid ((∀ b o', Ao = some ⟨b, o', none⟩ → b < wr.heap.size)) := fun b o' e => by
  rcases uB h.o with h1 | ⟨g, h1, -, h2⟩
  ·rw [h1] at e; cases e
  ·rw [h1] at e; injection e with e; injection e with e _; omega
 have JC : Hid (uY Bw ⟨k, d, no, p, q⟩ = ((decide (k = 1) || decide (k = 2)) && decide (d ∈ Bw))) := rfl;clear hn hd Ie Bj Bc h5 CB FT hx h
 go_enter func44, ntmps44
 go_upto_region 1 with (fail);generalize World.alloc wr _ = W at *;obtain ⟨sb, Oz⟩ := eX wr.heap.size;rw [← Oz] at Ff Qc QP ⊢;clear Oz;obtain ⟨s0, s1⟩ := Ff.d2;have k5 := HR.b4.c0;have XW := iD (vf A5 n5 c5 w.heap.size Bw d W (H5.below HR.bl lR));by_cases hk : ¬ (k = 1 ∨ k = 2)
 ·have q1 : (k == 1) = false := by simp; omega
  have q2 : (k == 2) = false := by simp; omega
  have QM : Hid (uY Bw ⟨k, d, no, p, q⟩ = false) := by unfold Hid; rw [JC.out]; simp; omega
  go_upto_region 4 with (fail);clear q1 q2 hk;clear s0 s1 k5;obtain ⟨s0, s1, s2, s3, s4⟩ := Ff.d5;obtain ⟨k0, k1⟩ := HR.b0.d2;have t0 := HR.b1.c0;obtain ⟨g0, g1, g2⟩ := HR.b2.d3;have Ar := iD (xC An Ad As Al Ap nn cn nd cd n c nl cl np cp ns ds t.s t.ls t.pr co k d no p q W ⟨(HN.below HR.bl lR).more HR.bl.size, (HD.below HR.bl lR).more HR.bl.size, HR.s, HR.l, HR.p, Gj.below HR.bl lR, Da, CU⟩ BR Mg Hg)
  go_wp2_with fail
  clear s0 s1 s2 s3 s4 k0 k1 t0 g0 g1 g2;refine Ar.mono ?_;rintro e w6 ⟨A1, A2, B3, B4, n1, c1, n2, c2, m3, e3, m4, e4, rfl, hS, hF, hb⟩;obtain ⟨so, Hw⟩ := eX (za ns ds co t ⟨k, d, no, p, q⟩);have DF := iD Hw;rw [show za ns ds co ⟨t.s, t.ls, t.pr⟩ ⟨k, d, no, p, q⟩ = so from Hw.symm] at hS ⊢;clear Hw;have EB : Hid (Below W.heap.size W (w6.alloc (.cells #[.int .i64 co, .slice B3 m3 e3, .slice B4 m4 e4] 29))) := hb.alloc hb.size _;have Bt := iD (HR.later EB);have Wh : Hid (sb < w6.heap.size ∧ W.heap.size ≤ w6.heap.size) := ⟨Nat.lt_of_lt_of_le Ff.lt hb.size, hb.size⟩
  have Cb : Hid (SK w ob w6.heap.size co Ao A1 A2 B3 B4 n1 c1 n2 c2 m3 e3 m4 e4 so (w6.alloc (.cells #[.int .i64 co, .slice B3 m3 e3, .slice B4 m4 e4] 29))) := by
   have hB : ob < W.heap.size := by have := Qc.out; have := Ff.lt; omega
   have hA : ∀ b o', Ao = some ⟨b, o', none⟩ → b < W.heap.size := fun b o' e => by have := QP b o' e; have := Ff.lt; omega
   obtain ⟨f1, f2, f3, f4⟩ := hF.out
   exact ⟨hS.later ((Below.refl _ w6).alloc lR _), Ke.fre (A := none) (n := 0) (fun h => absurd h (by omega)) f1 hB HR.hob hA, HR.ks.fre f2 hB HR.hob hA, HR.kl.fre f3 hB HR.hob hA, HR.kp.fre f4 hB HR.hob hA, AJ.new _ _ _,
    by have := hb.size; omega, fun o' e => by have := hA _ o' e; have := hb.size; omega⟩
  clear hS hF hb Ar HR Ff XW EB;go_upto_region 5 with (fail);generalize World.alloc w6 _ = V at *;obtain ⟨Hu, Jg⟩ := eX w6.heap.size;rw [← Jg] at Cb ⊢;clear Jg Wh;have EK : Hid (so.h.length = n1) := Cb.a.h.len (fun _ => rfl) (by decide);have IC : Hid (n1 ≤ 8) := by have h1 := tF ns ds co t ⟨k, d, no, p, q⟩; rw [← DF.out] at h1; unfold Hid; have := EK.out; omega
  have Vi : n1 ≤ 9223372036854775807 := by have := IC.out; omega
  go_upto_region 6 with (fail);refine zm [(15, 0), (0, 1), (26, 0), (0, 2), (9, 1), (2, 0)] 44 (n1) (DoR w ob Hu An Ad A5 nn cn nd cd n5 c5 co pg As Al Ap n c nl cl np cp t out A1 A2 B3 B4 n1 c1 n2 c2 m3 e3 m4 e4 mo i so) (by (try dsimp only [gt]); exact ⟨0, _, _, rfl, Nat.zero_le _, rfl, by rw [List.take_zero, show yD i [] = [] from rfl, List.append_nil]; exact Bt, Cb⟩) (by kernel_rfl) ?_;intro u1 p44 gk wr a hrel ha J1 K1 Dk Ky;dsimp only [zY, Go.Proofs.YtddddlhgaeameaaGreatDoor.v1, Nat.reduceAdd] at ha;subst ha;clear Bt Cb V;obtain ⟨j, cx', Ao', rfl, hj, rfl, Bt, Cb⟩ := hrel;by_cases hlt : j < n1; rotate_left
  ·have Ck : decide ((j : Int) < (n1 : Int)) = false := by simp; omega
   have GM : decide (j < n1) = false := by simp; omega
   have Hz : Hid (so.h.take j = so.h) := List.take_of_length_le (by have := EK.out; omega);rw [Hz.out] at Bt;go_upto_region 10 with (fail);clear Ck GM
   have Dg : Hid (RM w ob An Ad A5 nn cn nd cd n5 c5 co pg A2 B3 B4 Ao' n2 c2 m3 e3 m4 e4 (mo + j) cx' so.t (out ++ yD i so.h) ((((wr.setCell ⟨w.heap.size + 1, 0, none⟩ (.slice A2 n2 c2)).drew.setCell ⟨w.heap.size + 2, 0, none⟩ (.int .i64 co)).setCell ⟨w.heap.size + 2, 1, none⟩ (.slice B3 m3 e3)).setCell ⟨w.heap.size + 2, 2, none⟩ (.slice B4 m4 e4))) := by
    rw [show (wr.setCell ⟨w.heap.size + 1, 0, none⟩ (.slice A2 n2 c2)).drew = wr.drew.setCell ⟨w.heap.size + 1, 0, none⟩ (.slice A2 n2 c2) from rfl];exact (Bt.later (Below.refl _ _).drew).put (Cb.later (Below.refl _ _).drew)
   have hw := Bt.hob;have d0 := Bt.b1.cell 0;have y0 := Bt.b1.frozen 0;have Ea : Hid (Pa w co Al Ap nl cl np cp Hu B3 B4 m3 e3 m4 e4 (wr.setCell ⟨w.heap.size + 1, 0, none⟩ (.slice A2 n2 c2)).drew) := ⟨((Bt.b2.far (p := ⟨w.heap.size + 1, 0, none⟩) (by simp) _).drw), ((Cb.bx.far (p := ⟨w.heap.size + 1, 0, none⟩) (by show Hu ≠ w.heap.size + 1; have := Cb.hx.1; omega) _).drw)⟩;refine fX (fun W' => W'.cell? ⟨Hu, 0, none⟩ = some (.int .i64 co) ∧ W'.cell? ⟨Hu, 1, none⟩ = some (.slice B3 m3 e3) ∧ W'.cell? ⟨Hu, 2, none⟩ = some (.slice B4 m4 e4)) [3] ?_ fun AA => ?_
   ·exact ⟨Cb.bx.cell 0, Cb.bx.cell 1, Cb.bx.cell 2⟩
   try dsimp only at AA
   refine tk 0 55 (mf 4 1) AA ?_;refine tk 1 56 (mf 4 2) AA ?_;refine tb 2 (mf 4 3) fun K hK => ?_
   go_simp
   refine hK _ _ (fun _ => ⟨Ea.b.cell 0, Ea.b.cell 1, Ea.b.cell 2⟩) fun p => (fun AA => ?_) (p rfl)
   clear p hK K;(try dsimp only at AA);clear d0 y0;generalize World.drew (World.setCell wr _ _) = wq at *;obtain ⟨d0, d1, d2⟩ := Ea.a.d3;obtain ⟨y0, y1, y2⟩ := Ea.a.e3;refine tb 3 (mf 4 4) fun K hK => ?_
   go_simp
   refine hK _ _ (fun h => by cases h) (fun _ => ?_)
   try clear AA
   clear hK K;refine tK ?_;clear d0 d1 d2 y0 y1 y2 Ea
   go_wp2_with fail
   go_ret;exact .inr ⟨QM, by rw [← DF.out]; rfl, A2, B3, B4, Ao', n2, c2, m3, e3, m4, e4, mo + j, cx', by rw [← DF.out]; exact Dg, by have := IC.out; omega⟩
  obtain ⟨b1, o1, y, Ew, AX, hy, Mt⟩ := Cb.a.h.at1 hlt;have Hz : Hid (out ++ yD i (so.h.take (j + 1)) = (out ++ yD i (so.h.take j)) ++ [⟨i, y⟩]) := by unfold Hid; rw [zO hy]; simp [yD]
  subst Ew;clear hy AX;have o0 := Bt.bo.cell 0;go_upto_region 8 with (fail);have Cg := iD (Bt.later ((Below.refl _ wr).alloc lR (.cells #[.int .i64 i, .int .i64 y] 95)));have PX := iD (Cb.later ((Below.refl _ wr).alloc lR (.cells #[.int .i64 i, .int .i64 y] 95)));have Ni : ob + 1 ≤ (wr.alloc (.cells #[.int .i64 i, .int .i64 y] 95)).heap.size := Cg.bo.lt
  go_wp2_with (at_builtin; go_must (refine zL rfl (.tmp 48) (.tmp 52) rfl lE (by rfl) Cg.o (by rfl) (Sl.newest (n := 1) rfl rfl (by decide)) (by simp [Value.oneCell']) (by have := IC.out; omega) (by have := IC.out; omega) Ni ?_; intro A' RL w7 BH Be DL; have HOW := iD BH; have Oh : Hid (Gr w ob Ao' (mo + j) cx' A' RL _ w7) := ⟨Be, DL⟩; have r0 : w7.cell? ⟨ob, 0, none⟩ = some (.slice Ao' (mo + j) cx') := (Cg.bo.grown Be (vZ Cg lR)).cell 0; have z0 : w7.frozen? ⟨ob, 0, none⟩ = false := (Cg.bo.grown Be (vZ Cg lR)).frozen 0; clear BH Be DL o0 Mt))
  have KS := iD (Cg.app (f := ⟨i, y⟩) Oh HOW);have Da := iD (SK.app (f := ⟨i, y⟩) Cg PX Oh HOW);rw [← Hz.out] at KS;clear Cg PX Oh HOW r0 z0 Bt Cb Hz;generalize World.setCell w7 _ _ = w8 at *;refine Handed.intro (n1 - (j + 1)) (by omega) (Dk _ _ _ (xQ.back 44 ?_ (by kernel_rfl)));dsimp only [gt];exact ⟨j + 1, RL, A', by go_num, by omega, rfl, KS, Da⟩
 have hk : k = 1 ∨ k = 2 := by omega
 have q0 : k = 1 ∨ k ≠ 1 := by omega
 rcases q0 with h1 | h1
 ·have q1 : (k == 1) = true := by simpa using h1
  clear h1
  skip
  go_wp2_with fail
  clear q1;refine XW.mono ?_;rintro e w1 ⟨rfl, rfl⟩;rcases hh : vA Bw d with _ | _
  ·have QM : Hid (uY Bw ⟨k, d, no, p, q⟩ = false) := by unfold Hid; rw [JC.out]; simp [show ¬ d ∈ Bw by simpa [vA] using hh]
   clear hh hk;go_upto_region 4 with (fail);clear s0 s1 k5;obtain ⟨s0, s1, s2, s3, s4⟩ := Ff.d5;obtain ⟨k0, k1⟩ := HR.b0.d2;have t0 := HR.b1.c0;obtain ⟨g0, g1, g2⟩ := HR.b2.d3;have Ar := iD (xC An Ad As Al Ap nn cn nd cd n c nl cl np cp ns ds t.s t.ls t.pr co k d no p q W ⟨(HN.below HR.bl lR).more HR.bl.size, (HD.below HR.bl lR).more HR.bl.size, HR.s, HR.l, HR.p, Gj.below HR.bl lR, Da, CU⟩ BR Mg Hg)
   go_wp2_with fail
   clear s0 s1 s2 s3 s4 k0 k1 t0 g0 g1 g2;refine Ar.mono ?_;rintro e w6 ⟨A1, A2, B3, B4, n1, c1, n2, c2, m3, e3, m4, e4, rfl, hS, hF, hb⟩;obtain ⟨so, Hw⟩ := eX (za ns ds co t ⟨k, d, no, p, q⟩);have DF := iD Hw;rw [show za ns ds co ⟨t.s, t.ls, t.pr⟩ ⟨k, d, no, p, q⟩ = so from Hw.symm] at hS ⊢;clear Hw;have EB : Hid (Below W.heap.size W (w6.alloc (.cells #[.int .i64 co, .slice B3 m3 e3, .slice B4 m4 e4] 29))) := hb.alloc hb.size _;have Bt := iD (HR.later EB);have Wh : Hid (sb < w6.heap.size ∧ W.heap.size ≤ w6.heap.size) := ⟨Nat.lt_of_lt_of_le Ff.lt hb.size, hb.size⟩
   have Cb : Hid (SK w ob w6.heap.size co Ao A1 A2 B3 B4 n1 c1 n2 c2 m3 e3 m4 e4 so (w6.alloc (.cells #[.int .i64 co, .slice B3 m3 e3, .slice B4 m4 e4] 29))) := by
    have hB : ob < W.heap.size := by have := Qc.out; have := Ff.lt; omega
    have hA : ∀ b o', Ao = some ⟨b, o', none⟩ → b < W.heap.size := fun b o' e => by have := QP b o' e; have := Ff.lt; omega
    obtain ⟨f1, f2, f3, f4⟩ := hF.out
    exact ⟨hS.later ((Below.refl _ w6).alloc lR _), Ke.fre (A := none) (n := 0) (fun h => absurd h (by omega)) f1 hB HR.hob hA, HR.ks.fre f2 hB HR.hob hA, HR.kl.fre f3 hB HR.hob hA, HR.kp.fre f4 hB HR.hob hA, AJ.new _ _ _,
     by have := hb.size; omega, fun o' e => by have := hA _ o' e; have := hb.size; omega⟩
   clear hS hF hb Ar HR Ff XW EB;go_upto_region 5 with (fail);generalize World.alloc w6 _ = V at *;obtain ⟨Hu, Jg⟩ := eX w6.heap.size;rw [← Jg] at Cb ⊢;clear Jg Wh;have EK : Hid (so.h.length = n1) := Cb.a.h.len (fun _ => rfl) (by decide);have IC : Hid (n1 ≤ 8) := by have h1 := tF ns ds co t ⟨k, d, no, p, q⟩; rw [← DF.out] at h1; unfold Hid; have := EK.out; omega
   have Vi : n1 ≤ 9223372036854775807 := by have := IC.out; omega
   go_upto_region 6 with (fail);refine zm [(15, 0), (0, 1), (26, 0), (0, 2), (9, 1), (2, 0)] 44 (n1) (DoR w ob Hu An Ad A5 nn cn nd cd n5 c5 co pg As Al Ap n c nl cl np cp t out A1 A2 B3 B4 n1 c1 n2 c2 m3 e3 m4 e4 mo i so) (by (try dsimp only [gt]); exact ⟨0, _, _, rfl, Nat.zero_le _, rfl, by rw [List.take_zero, show yD i [] = [] from rfl, List.append_nil]; exact Bt, Cb⟩) (by kernel_rfl) ?_;intro u1 p44 gk wr a hrel ha J1 K1 Dk Ky;dsimp only [zY, Go.Proofs.YtddddlhgaeameaaGreatDoor.v1, Nat.reduceAdd] at ha;subst ha;clear Bt Cb V;obtain ⟨j, cx', Ao', rfl, hj, rfl, Bt, Cb⟩ := hrel;by_cases hlt : j < n1; rotate_left
   ·have Ck : decide ((j : Int) < (n1 : Int)) = false := by simp; omega
    have GM : decide (j < n1) = false := by simp; omega
    have Hz : Hid (so.h.take j = so.h) := List.take_of_length_le (by have := EK.out; omega);rw [Hz.out] at Bt;go_upto_region 10 with (fail);clear Ck GM
    have Dg : Hid (RM w ob An Ad A5 nn cn nd cd n5 c5 co pg A2 B3 B4 Ao' n2 c2 m3 e3 m4 e4 (mo + j) cx' so.t (out ++ yD i so.h) ((((wr.setCell ⟨w.heap.size + 1, 0, none⟩ (.slice A2 n2 c2)).drew.setCell ⟨w.heap.size + 2, 0, none⟩ (.int .i64 co)).setCell ⟨w.heap.size + 2, 1, none⟩ (.slice B3 m3 e3)).setCell ⟨w.heap.size + 2, 2, none⟩ (.slice B4 m4 e4))) := by
     rw [show (wr.setCell ⟨w.heap.size + 1, 0, none⟩ (.slice A2 n2 c2)).drew = wr.drew.setCell ⟨w.heap.size + 1, 0, none⟩ (.slice A2 n2 c2) from rfl];exact (Bt.later (Below.refl _ _).drew).put (Cb.later (Below.refl _ _).drew)
    have hw := Bt.hob;have d0 := Bt.b1.cell 0;have y0 := Bt.b1.frozen 0;have Ea : Hid (Pa w co Al Ap nl cl np cp Hu B3 B4 m3 e3 m4 e4 (wr.setCell ⟨w.heap.size + 1, 0, none⟩ (.slice A2 n2 c2)).drew) := ⟨((Bt.b2.far (p := ⟨w.heap.size + 1, 0, none⟩) (by simp) _).drw), ((Cb.bx.far (p := ⟨w.heap.size + 1, 0, none⟩) (by show Hu ≠ w.heap.size + 1; have := Cb.hx.1; omega) _).drw)⟩;refine fX (fun W' => W'.cell? ⟨Hu, 0, none⟩ = some (.int .i64 co) ∧ W'.cell? ⟨Hu, 1, none⟩ = some (.slice B3 m3 e3) ∧ W'.cell? ⟨Hu, 2, none⟩ = some (.slice B4 m4 e4)) [3] ?_ fun AA => ?_
    ·exact ⟨Cb.bx.cell 0, Cb.bx.cell 1, Cb.bx.cell 2⟩
    try dsimp only at AA
    refine tk 0 55 (mf 4 1) AA ?_;refine tk 1 56 (mf 4 2) AA ?_;refine tb 2 (mf 4 3) fun K hK => ?_
    go_simp
    refine hK _ _ (fun _ => ⟨Ea.b.cell 0, Ea.b.cell 1, Ea.b.cell 2⟩) fun p => (fun AA => ?_) (p rfl)
    clear p hK K;(try dsimp only at AA);clear d0 y0;generalize World.drew (World.setCell wr _ _) = wq at *;obtain ⟨d0, d1, d2⟩ := Ea.a.d3;obtain ⟨y0, y1, y2⟩ := Ea.a.e3;refine tb 3 (mf 4 4) fun K hK => ?_
    go_simp
    refine hK _ _ (fun h => by cases h) (fun _ => ?_)
    try clear AA
    clear hK K;refine tK ?_;clear d0 d1 d2 y0 y1 y2 Ea
    go_wp2_with fail
    go_ret;exact .inr ⟨QM, by rw [← DF.out]; rfl, A2, B3, B4, Ao', n2, c2, m3, e3, m4, e4, mo + j, cx', by rw [← DF.out]; exact Dg, by have := IC.out; omega⟩
   obtain ⟨b1, o1, y, Ew, AX, hy, Mt⟩ := Cb.a.h.at1 hlt;have Hz : Hid (out ++ yD i (so.h.take (j + 1)) = (out ++ yD i (so.h.take j)) ++ [⟨i, y⟩]) := by unfold Hid; rw [zO hy]; simp [yD]
   subst Ew;clear hy AX;have o0 := Bt.bo.cell 0;go_upto_region 8 with (fail);have Cg := iD (Bt.later ((Below.refl _ wr).alloc lR (.cells #[.int .i64 i, .int .i64 y] 95)));have PX := iD (Cb.later ((Below.refl _ wr).alloc lR (.cells #[.int .i64 i, .int .i64 y] 95)));have Ni : ob + 1 ≤ (wr.alloc (.cells #[.int .i64 i, .int .i64 y] 95)).heap.size := Cg.bo.lt
   go_wp2_with (at_builtin; go_must (refine zL rfl (.tmp 48) (.tmp 52) rfl lE (by rfl) Cg.o (by rfl) (Sl.newest (n := 1) rfl rfl (by decide)) (by simp [Value.oneCell']) (by have := IC.out; omega) (by have := IC.out; omega) Ni ?_; intro A' RL w7 BH Be DL; have HOW := iD BH; have Oh : Hid (Gr w ob Ao' (mo + j) cx' A' RL _ w7) := ⟨Be, DL⟩; have r0 : w7.cell? ⟨ob, 0, none⟩ = some (.slice Ao' (mo + j) cx') := (Cg.bo.grown Be (vZ Cg lR)).cell 0; have z0 : w7.frozen? ⟨ob, 0, none⟩ = false := (Cg.bo.grown Be (vZ Cg lR)).frozen 0; clear BH Be DL o0 Mt))
   have KS := iD (Cg.app (f := ⟨i, y⟩) Oh HOW);have Da := iD (SK.app (f := ⟨i, y⟩) Cg PX Oh HOW);rw [← Hz.out] at KS;clear Cg PX Oh HOW r0 z0 Bt Cb Hz;generalize World.setCell w7 _ _ = w8 at *;refine Handed.intro (n1 - (j + 1)) (by omega) (Dk _ _ _ (xQ.back 44 ?_ (by kernel_rfl)));dsimp only [gt];exact ⟨j + 1, RL, A', by go_num, by omega, rfl, KS, Da⟩
  ·have QM : Hid (uY Bw ⟨k, d, no, p, q⟩ = true) := by unfold Hid; rw [JC.out]; simp [show d ∈ Bw by simpa [vA] using hh]; omega
   clear hh hk
   go_wp2_with fail
   go_ret;exact .inl ⟨QM, rfl, HR⟩
 ·have q1 : (k == 1) = false := by simpa using h1
  have q2 : (k == 2) = true := by simp; omega
  clear h1
  skip
  go_wp2_with fail
  clear q1 q2;refine XW.mono ?_;rintro e w1 ⟨rfl, rfl⟩;rcases hh : vA Bw d with _ | _
  ·have QM : Hid (uY Bw ⟨k, d, no, p, q⟩ = false) := by unfold Hid; rw [JC.out]; simp [show ¬ d ∈ Bw by simpa [vA] using hh]
   clear hh hk;go_upto_region 4 with (fail);clear s0 s1 k5;obtain ⟨s0, s1, s2, s3, s4⟩ := Ff.d5;obtain ⟨k0, k1⟩ := HR.b0.d2;have t0 := HR.b1.c0;obtain ⟨g0, g1, g2⟩ := HR.b2.d3;have Ar := iD (xC An Ad As Al Ap nn cn nd cd n c nl cl np cp ns ds t.s t.ls t.pr co k d no p q W ⟨(HN.below HR.bl lR).more HR.bl.size, (HD.below HR.bl lR).more HR.bl.size, HR.s, HR.l, HR.p, Gj.below HR.bl lR, Da, CU⟩ BR Mg Hg)
   go_wp2_with fail
   clear s0 s1 s2 s3 s4 k0 k1 t0 g0 g1 g2;refine Ar.mono ?_;rintro e w6 ⟨A1, A2, B3, B4, n1, c1, n2, c2, m3, e3, m4, e4, rfl, hS, hF, hb⟩;obtain ⟨so, Hw⟩ := eX (za ns ds co t ⟨k, d, no, p, q⟩);have DF := iD Hw;rw [show za ns ds co ⟨t.s, t.ls, t.pr⟩ ⟨k, d, no, p, q⟩ = so from Hw.symm] at hS ⊢;clear Hw;have EB : Hid (Below W.heap.size W (w6.alloc (.cells #[.int .i64 co, .slice B3 m3 e3, .slice B4 m4 e4] 29))) := hb.alloc hb.size _;have Bt := iD (HR.later EB);have Wh : Hid (sb < w6.heap.size ∧ W.heap.size ≤ w6.heap.size) := ⟨Nat.lt_of_lt_of_le Ff.lt hb.size, hb.size⟩
   have Cb : Hid (SK w ob w6.heap.size co Ao A1 A2 B3 B4 n1 c1 n2 c2 m3 e3 m4 e4 so (w6.alloc (.cells #[.int .i64 co, .slice B3 m3 e3, .slice B4 m4 e4] 29))) := by
    have hB : ob < W.heap.size := by have := Qc.out; have := Ff.lt; omega
    have hA : ∀ b o', Ao = some ⟨b, o', none⟩ → b < W.heap.size := fun b o' e => by have := QP b o' e; have := Ff.lt; omega
    obtain ⟨f1, f2, f3, f4⟩ := hF.out
    exact ⟨hS.later ((Below.refl _ w6).alloc lR _), Ke.fre (A := none) (n := 0) (fun h => absurd h (by omega)) f1 hB HR.hob hA, HR.ks.fre f2 hB HR.hob hA, HR.kl.fre f3 hB HR.hob hA, HR.kp.fre f4 hB HR.hob hA, AJ.new _ _ _,
     by have := hb.size; omega, fun o' e => by have := hA _ o' e; have := hb.size; omega⟩
   clear hS hF hb Ar HR Ff XW EB;go_upto_region 5 with (fail);generalize World.alloc w6 _ = V at *;obtain ⟨Hu, Jg⟩ := eX w6.heap.size;rw [← Jg] at Cb ⊢;clear Jg Wh;have EK : Hid (so.h.length = n1) := Cb.a.h.len (fun _ => rfl) (by decide);have IC : Hid (n1 ≤ 8) := by have h1 := tF ns ds co t ⟨k, d, no, p, q⟩; rw [← DF.out] at h1; unfold Hid; have := EK.out; omega
   have Vi : n1 ≤ 9223372036854775807 := by have := IC.out; omega
   go_upto_region 6 with (fail);refine zm [(15, 0), (0, 1), (26, 0), (0, 2), (9, 1), (2, 0)] 44 (n1) (DoR w ob Hu An Ad A5 nn cn nd cd n5 c5 co pg As Al Ap n c nl cl np cp t out A1 A2 B3 B4 n1 c1 n2 c2 m3 e3 m4 e4 mo i so) (by (try dsimp only [gt]); exact ⟨0, _, _, rfl, Nat.zero_le _, rfl, by rw [List.take_zero, show yD i [] = [] from rfl, List.append_nil]; exact Bt, Cb⟩) (by kernel_rfl) ?_;intro u1 p44 gk wr a hrel ha J1 K1 Dk Ky;dsimp only [zY, Go.Proofs.YtddddlhgaeameaaGreatDoor.v1, Nat.reduceAdd] at ha;subst ha;clear Bt Cb V;obtain ⟨j, cx', Ao', rfl, hj, rfl, Bt, Cb⟩ := hrel;by_cases hlt : j < n1; rotate_left
   ·have Ck : decide ((j : Int) < (n1 : Int)) = false := by simp; omega
    have GM : decide (j < n1) = false := by simp; omega
    have Hz : Hid (so.h.take j = so.h) := List.take_of_length_le (by have := EK.out; omega);rw [Hz.out] at Bt;go_upto_region 10 with (fail);clear Ck GM
    have Dg : Hid (RM w ob An Ad A5 nn cn nd cd n5 c5 co pg A2 B3 B4 Ao' n2 c2 m3 e3 m4 e4 (mo + j) cx' so.t (out ++ yD i so.h) ((((wr.setCell ⟨w.heap.size + 1, 0, none⟩ (.slice A2 n2 c2)).drew.setCell ⟨w.heap.size + 2, 0, none⟩ (.int .i64 co)).setCell ⟨w.heap.size + 2, 1, none⟩ (.slice B3 m3 e3)).setCell ⟨w.heap.size + 2, 2, none⟩ (.slice B4 m4 e4))) := by
     rw [show (wr.setCell ⟨w.heap.size + 1, 0, none⟩ (.slice A2 n2 c2)).drew = wr.drew.setCell ⟨w.heap.size + 1, 0, none⟩ (.slice A2 n2 c2) from rfl];exact (Bt.later (Below.refl _ _).drew).put (Cb.later (Below.refl _ _).drew)
    have hw := Bt.hob;have d0 := Bt.b1.cell 0;have y0 := Bt.b1.frozen 0;have Ea : Hid (Pa w co Al Ap nl cl np cp Hu B3 B4 m3 e3 m4 e4 (wr.setCell ⟨w.heap.size + 1, 0, none⟩ (.slice A2 n2 c2)).drew) := ⟨((Bt.b2.far (p := ⟨w.heap.size + 1, 0, none⟩) (by simp) _).drw), ((Cb.bx.far (p := ⟨w.heap.size + 1, 0, none⟩) (by show Hu ≠ w.heap.size + 1; have := Cb.hx.1; omega) _).drw)⟩;refine fX (fun W' => W'.cell? ⟨Hu, 0, none⟩ = some (.int .i64 co) ∧ W'.cell? ⟨Hu, 1, none⟩ = some (.slice B3 m3 e3) ∧ W'.cell? ⟨Hu, 2, none⟩ = some (.slice B4 m4 e4)) [3] ?_ fun AA => ?_
    ·exact ⟨Cb.bx.cell 0, Cb.bx.cell 1, Cb.bx.cell 2⟩
    try dsimp only at AA
    refine tk 0 55 (mf 4 1) AA ?_;refine tk 1 56 (mf 4 2) AA ?_;refine tb 2 (mf 4 3) fun K hK => ?_
    go_simp
    refine hK _ _ (fun _ => ⟨Ea.b.cell 0, Ea.b.cell 1, Ea.b.cell 2⟩) fun p => (fun AA => ?_) (p rfl)
    clear p hK K;(try dsimp only at AA);clear d0 y0;generalize World.drew (World.setCell wr _ _) = wq at *;obtain ⟨d0, d1, d2⟩ := Ea.a.d3;obtain ⟨y0, y1, y2⟩ := Ea.a.e3;refine tb 3 (mf 4 4) fun K hK => ?_
    go_simp
    refine hK _ _ (fun h => by cases h) (fun _ => ?_)
    try clear AA
    clear hK K;refine tK ?_;clear d0 d1 d2 y0 y1 y2 Ea
    go_wp2_with fail
    go_ret;exact .inr ⟨QM, by rw [← DF.out]; rfl, A2, B3, B4, Ao', n2, c2, m3, e3, m4, e4, mo + j, cx', by rw [← DF.out]; exact Dg, by have := IC.out; omega⟩
   obtain ⟨b1, o1, y, Ew, AX, hy, Mt⟩ := Cb.a.h.at1 hlt;have Hz : Hid (out ++ yD i (so.h.take (j + 1)) = (out ++ yD i (so.h.take j)) ++ [⟨i, y⟩]) := by unfold Hid; rw [zO hy]; simp [yD]
   subst Ew;clear hy AX;have o0 := Bt.bo.cell 0;go_upto_region 8 with (fail);have Cg := iD (Bt.later ((Below.refl _ wr).alloc lR (.cells #[.int .i64 i, .int .i64 y] 95)));have PX := iD (Cb.later ((Below.refl _ wr).alloc lR (.cells #[.int .i64 i, .int .i64 y] 95)));have Ni : ob + 1 ≤ (wr.alloc (.cells #[.int .i64 i, .int .i64 y] 95)).heap.size := Cg.bo.lt
   go_wp2_with (at_builtin; go_must (refine zL rfl (.tmp 48) (.tmp 52) rfl lE (by rfl) Cg.o (by rfl) (Sl.newest (n := 1) rfl rfl (by decide)) (by simp [Value.oneCell']) (by have := IC.out; omega) (by have := IC.out; omega) Ni ?_; intro A' RL w7 BH Be DL; have HOW := iD BH; have Oh : Hid (Gr w ob Ao' (mo + j) cx' A' RL _ w7) := ⟨Be, DL⟩; have r0 : w7.cell? ⟨ob, 0, none⟩ = some (.slice Ao' (mo + j) cx') := (Cg.bo.grown Be (vZ Cg lR)).cell 0; have z0 : w7.frozen? ⟨ob, 0, none⟩ = false := (Cg.bo.grown Be (vZ Cg lR)).frozen 0; clear BH Be DL o0 Mt))
   have KS := iD (Cg.app (f := ⟨i, y⟩) Oh HOW);have Da := iD (SK.app (f := ⟨i, y⟩) Cg PX Oh HOW);rw [← Hz.out] at KS;clear Cg PX Oh HOW r0 z0 Bt Cb Hz;generalize World.setCell w7 _ _ = w8 at *;refine Handed.intro (n1 - (j + 1)) (by omega) (Dk _ _ _ (xQ.back 44 ?_ (by kernel_rfl)));dsimp only [gt];exact ⟨j + 1, RL, A', by go_num, by omega, rfl, KS, Da⟩
  ·have QM : Hid (uY Bw ⟨k, d, no, p, q⟩ = true) := by unfold Hid; rw [JC.out]; simp [show d ∈ Bw by simpa [vA] using hh]; omega
   clear hh hk
   go_wp2_with fail
   go_ret;exact .inl ⟨QM, rfl, HR⟩
end Go.Proofs.YtddddlhgaeameaaGreatDoor
