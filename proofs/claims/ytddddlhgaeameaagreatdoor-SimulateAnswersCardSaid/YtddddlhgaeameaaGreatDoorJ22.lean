import Derived.Test.YtddddlhgaeameaaGreatDoorJ20
set_option maxRecDepth 100000
set_option maxHeartbeats 8000000
namespace Go.Proofs.YtddddlhgaeameaaGreatDoor
open Go.RowKit Tryz
variable {ds : List Dv} {s : List Int} {ls : List Lk}
def xp (ds : List Dv) (s : List Int) (most : Nat) (ls : List Lk) : Prop := wQ ds ls ∧ ls.length ≤ most ∧ ∀ k ∈ ls, 10 ≤ k.key ∧ k.key < 10 + 3 * (most : Int) ∧ ∀ x, s[k.dev.toNat]? = some x → 0 < x → x ≤ 2 → k.pos = x
def pD (w : World) (g most : Nat) (ds : List Dv) (s : List Int) (e : Ending) (w' : World) : Prop :=
 ∃ (A : Option Addr) (m c : Nat) (ls : List Lk), e = .returned (.slice A m c) ∧ Hid (zP w' g) ∧ Hid (w.grownBy w' (some g)) ∧ Hid (ze w' (w.heap.size + 1) A m c ls) ∧ Hid (xp ds s most ls)
theorem xp.nil (ds : List Dv) (s : List Int) (most : Nat) : xp ds s most [] := ⟨⟨by simp, by simp, List.Pairwise.nil⟩, by simp, by simp⟩
theorem xp.more {most : Nat} (h : xp ds s most ls) : xp ds s (most + 1) ls := ⟨h.1, by have := h.2.1; omega, fun k hk => by obtain ⟨h1, h2, h3⟩ := h.2.2 k hk; exact ⟨h1, by omega, h3⟩⟩
theorem kI {ns : List Nd} {k : Lk} (h : zf ns ds ls k = 0) : wQ ds (xy k ls) := by
 unfold zf at h;split at h
 ·next h1 => exact absurd h h1
 ·next h1 =>
  split at h
  ·next h2 => exact absurd h h2
  ·next h2 =>
   split at h
   ·omega
   ·next h3 =>
    split at h
    ·omega
    ·next h4 =>
     split at h
     ·omega
     ·next h5 =>
      have hg := yW (by simpa using h1 : zH ns ds ls = 0);exact rT hg (by simpa using h2) (by simpa using h3) (by simpa using h4) (by have := hg.1; omega)
theorem xp.put {ns : List Nd} {j : Nat} {k : Lk} (h : xp ds s j ls) (ha : zf ns ds ls k = 0) (h1 : 10 ≤ k.key) (h2 : k.key < 10 + 3 * ((j : Int) + 1)) (h3 : ∀ x, s[k.dev.toNat]? = some x → 0 < x → x ≤ 2 → k.pos = x) : xp ds s (j + 1) (xy k ls) := by
 refine ⟨kI ha, by rw [wH]; have := h.2.1; omega, fun y hy => ?_⟩;rcases (mz k y ls).1 hy with rfl | hy
 ·exact ⟨h1, by omega, h3⟩
 ·obtain ⟨a, b, c⟩ := h.2.2 y hy;exact ⟨a, by omega, c⟩
theorem xp.upto {a b : Nat} (h : xp ds s a ls) (Uc : a ≤ b) : xp ds s b ls := ⟨h.1, by have := h.2.1; omega, fun k hk => by obtain ⟨h1, h2, h3⟩ := h.2.2 k hk; exact ⟨h1, by omega, h3⟩⟩
theorem tO (An Ad Al : Option Addr) (nn cn nd cd c Bn Bd Bl : Nat) (ns : List Nd) (ds : List Dv) (ls : List Lk) (d p q : Int) (w : World) (hn : Sl w Bn 3 An nn cn (ns.flatMap Nd.cells)) (hd : Sl w Bd 5 Ad nd cd (ds.flatMap Dv.cells)) (hs : Sl w Bl 3 Al ls.length c (ls.flatMap Lk.cells)) (Ce : Bn ≤ w.heap.size) (BN : Bd ≤ w.heap.size) (Df : Bl ≤ w.heap.size)
 (Bj : FO ns) (Bc : GH ds) :
 Calls prog 36 #[.agg #[.slice An nn cn, .slice Ad nd cd], .slice Al ls.length c, .agg #[.int .i64 d, .int .i64 p, .int .i64 q]] w fun e w' => ∃ (A' : Option Addr) (m' c' : Nat) (er : Int), e = .returned (.tuple #[.slice A' m' c', .int .i64 er]) ∧ Hid (er = 0 → m' = ls.length + 1 ∧ zf ns ds ls ⟨d, p, q⟩ = 0 ∧ ze w' w.heap.size A' m' c' (xy ⟨d, p, q⟩ ls)) ∧ Hid (bW w w') := by
 refine (oL An Ad Al nn cn nd cd c Bn Bd Bl ns ds ls d p q w hn hd hs Ce BN Df Bj Bc).mono ?_;rintro e w' ⟨⟨h1, rfl⟩ | ⟨h1, A', c', rfl, hO⟩, hb⟩
 ·exact ⟨none, 0, 0, _, rfl, fun h => absurd h h1, hb⟩
 ·exact ⟨A', _, c', 0, rfl, fun _ => ⟨rfl, h1, hO⟩, hb⟩
theorem wM {k : Nat} {v : Int} (hk : k ≤ 1000) (h0 : 0 ≤ v) (h1 : v < 3) : IntKind.i64.wrap (IntKind.i64.wrap (10 + IntKind.i64.wrap (3 * (k : Int))) + v) = 10 + 3 * (k : Int) + v := by
 rw [IntWalk.i64_in (3 * (k : Int)) (by omega), IntWalk.i64_in (10 + 3 * (k : Int)) (by omega), IntWalk.i64_in _ (by omega)]
def MlR (w W : World) (g most : Nat) (ds : List Dv) (s : List Int) (gk : Nat) (ov kv : Value) (wr : World) : Prop :=
 ∃ (k c : Nat) (A : Option Addr) (ls : List Lk), ov = .slice A ls.length c ∧ kv = .int .i64 k ∧ k ≤ most ∧ gk = most - k ∧ Hid (ze wr (w.heap.size + 1) A ls.length c ls) ∧ Hid (zP wr g) ∧ Hid (W.grownBy wr (some g)) ∧ Hid (xp ds s k ls)
theorem oc (g : Nat) (An Ad As : Option Addr) (nn cn nd cd n c most : Nat) (ns : List Nd) (ds : List Dv) (s : List Int) (w : World) (hd : zP w g) (Qs : EI w g 3 An nn cn (ns.flatMap Nd.cells)) (GL : EI w g 5 Ad nd cd (ds.flatMap Dv.cells)) (Oy : EI w g 1 As n c (zF s)) (AU : nd ≤ 1000) (UQ : most ≤ 1000)
 (Bj : FO ns) (Bc : GH ds) :
 Calls prog 13 #[.pointer (some ⟨g, 0, none⟩), .agg #[.slice An nn cn, .slice Ad nd cd], .slice As n c, .int .i64 (most : Int)] w (pD w g most ds s) := by
 have hlt := hd.lt;have Da := iD Bj; have CU := iD Bc;have JZ := iD (hd.alloc (.cells #[.slice An nn cn, .slice Ad nd cd] 26));have GU := iD (Qs.alloc (.cells #[.slice An nn cn, .slice Ad nd cd] 26));have AB := iD (GL.alloc (.cells #[.slice An nn cn, .slice Ad nd cd] 26));have RQ := iD (Oy.alloc (.cells #[.slice An nn cn, .slice Ad nd cd] 26));have RS := iD (Oy.1.len (f := fun x : Int => [Value.int .i64 x]) (fun _ => rfl) (by decide));have GY := iD (AJ.new w 26 #[.slice An nn cn, .slice Ad nd cd]);have Bi : Hid (w.grownBy (w.alloc (.cells #[.slice An nn cn, .slice Ad nd cd] 26)) (some g)) := zI ((Below.refl _ _).alloc lR _) _;have HW : Hid ((w.alloc (.cells #[.slice An nn cn, .slice Ad nd cd] 26)).heap.size = w.heap.size + 1) := by unfold Hid; simp
 have AV := GL.1.le;have hcs := Oy.1.le;clear hd Qs GL Oy Bj Bc
 go_enter func13, ntmps13
 go_wp2_with fail
 generalize World.alloc _ _ = W at *
 go_loopg [9, 10] most (MlR w W g most ds s)
 case atStart => exact ⟨0, 0, none, [], rfl, rfl, Nat.zero_le _, rfl, World.ownsRow_nil _ _ _ _, JZ, xF _ _, xp.nil _ _ _⟩
 case round =>
  clear JZ;obtain ⟨k, c', A, ls, rfl, rfl, hk, rfl, hO, hD, hG, hM⟩ := hrel;have Fy := iD (GY.grown hG (fun e => by injection e with e; omega));have k1 := Fy.c1;by_cases hgo : k < most ∧ 0 < nd
  ·obtain ⟨Gq, AH⟩ := hgo
   go_wp2_with fail
   clear k1;refine (wT g 3 wr hD (by decide)).mono ?_;rintro e w3 ⟨r, rfl, Jk, Et, SL⟩;have BU := iD (hO.kept Et (zj fun b e => by have := (hO.lt b e).1; omega));have DW := iD (zJ hG Et);clear hD hG Et SL hO Fy;rcases r with _ | _;rotate_left
   ·have CG := iD (hM.more)
    go_wp2_with fail
    go_roundg (most - (k + 1))
    ·exact ⟨k + 1, c', A, ls, rfl, by go_num, by omega, rfl, BU, Jk, DW, CG⟩
    omega
   have EL := iD (GY.grown DW (fun e => by injection e with e; omega));have k1 := EL.c1
   go_wp2_with fail
   clear k1 EL;refine (zS g (nd : Int) w3 Jk (by omega)).mono ?_;rintro e w4 ⟨v, rfl, KI, _, DC, PQ, Gt, AG⟩;have MJ := DC (by omega);obtain ⟨t, rfl⟩ := Int.eq_ofNat_of_zero_le KI;have AQ : t < nd := by omega
   have BP := iD (BU.kept Gt (zj fun b e => by have := (BU.lt b e).1; omega));have GK := iD (zJ DW Gt);clear Jk Gt AG BU DW DC MJ KI;have TB := iD (RQ.grown GK)
   have GG : (∃ x b off, t < n ∧ As = some ⟨b, off, none⟩ ∧ b < W.heap.size ∧ b ≠ g ∧ s[t]? = some x ∧ 0 < x ∧ w4.cell? ⟨b, off + t, none⟩ = some (.int .i64 x)) ∨ (∃ x b off, t < n ∧ As = some ⟨b, off, none⟩ ∧ s[t]? = some x ∧ ¬ 0 < x ∧ w4.cell? ⟨b, off + t, none⟩ = some (.int .i64 x)) ∨ ¬ t < n := by
    by_cases Pn : t < n
    ·obtain ⟨b, off, x, rfl, hb, hx, hc⟩ := TB.1.at1 Pn;have AK := TB.2 b off rfl;by_cases h0 : 0 < x
     ·refine .inl ⟨x, b, off, Pn, rfl, ?_, AK, hx, h0, hc⟩;obtain ⟨b', off', _, e', hb', _⟩ := RQ.1.at1 Pn;injection e' with e'; injection e' with e1 e2;omega
     ·exact .inr (.inl ⟨x, b, off, Pn, rfl, hx, h0, hc⟩)
    ·exact .inr (.inr Pn)
   have Pq : ∃ p : Int, Hid (∀ x, s[t]? = some x → 0 < x → x ≤ 2 → p = x) ∧ ((∃ x b off, t < n ∧ As = some ⟨b, off, none⟩ ∧ b < W.heap.size ∧ b ≠ g ∧ 0 < x ∧ 2 < x ∧ Hid (∀ y, s[t]? = some y → 0 < y → y ≤ 2 → False) ∧ w4.cell? ⟨b, off + t, none⟩ = some (.int .i64 x)) ∨ (∃ b off, t < n ∧ As = some ⟨b, off, none⟩ ∧ 0 < p ∧ ¬ 2 < p ∧ w4.cell? ⟨b, off + t, none⟩ = some (.int .i64 p)) ∨ (p = 1 ∧ ∃ x b off, t < n ∧ As = some ⟨b, off, none⟩ ∧ ¬ 0 < x ∧ w4.cell? ⟨b, off + t, none⟩ = some (.int .i64 x)) ∨ (p = 1 ∧ ¬ t < n)) := by
    rcases GG with ⟨x, b, off, h1, h2, h3, h4, h5, h6, h7⟩ | ⟨x, b, off, h1, h2, h5, h6, h7⟩ | h1
    ·by_cases h8 : 2 < x
     ·exact ⟨0, fun y hy _ AO => by rw [h5] at hy; injection hy with hy; omega, .inl ⟨x, b, off, h1, h2, h3, h4, h6, h8, fun y hy _ _ => by rw [h5] at hy; injection hy with hy; omega, h7⟩⟩
     ·exact ⟨x, fun y hy _ _ => by rw [h5] at hy; injection hy, .inr (.inl ⟨b, off, h1, h2, h6, h8, h7⟩)⟩
    ·exact ⟨1, fun y hy _ _ => by rw [h5] at hy; injection hy with hy; omega, .inr (.inr (.inl ⟨rfl, x, b, off, h1, h2, h6, h7⟩))⟩
    ·exact ⟨1, fun y hy _ _ => by have h9 := (List.getElem?_eq_some_iff.1 hy).1; have := RS.out; omega, .inr (.inr (.inr ⟨rfl, h1⟩))⟩
   clear GG TB;obtain ⟨p, Ut, GG⟩ := Pq;rcases GG with ⟨x, b, off, h1, rfl, h3, h4, h6, h8, JU, c1⟩ | ⟨b, off, h1, rfl, h6, h8, c1⟩ | ⟨rfl, x, b, off, h1, rfl, h6, c1⟩ | ⟨rfl, h1⟩
   ·have q1 : decide (0 < x) = true := by simpa using h6
    have q2 : decide (2 < x) = true := by simpa using h8
    go_wp2_with fail
    clear c1 q1 q2 Ut;refine (zS g 2 w4 PQ (by decide)).mono ?_;rintro e w5 ⟨v, rfl, KI, _, DC, Vu, JQ, AE⟩;have AP := DC (by decide);have NH := iD (BP.kept JQ (zj fun b e => by have := (BP.lt b e).1; omega));have LW := iD (zJ GK JQ);have Ut : Hid (∀ y, s[t]? = some y → 0 < y → y ≤ 2 → 1 + v = y) := fun y a b c => (JU y a b c).elim
    clear PQ BP GK JQ AE DC JU h3 h4 h6 h8;go_upto_region 12 with (fail);have Fy := iD (GY.grown LW (fun e => by injection e with e; omega));have AZ := Fy.lt;have FM : Hid (w5.cell? ⟨w.heap.size, 0, none⟩ = some (.slice An nn cn) ∧ w5.cell? ⟨w.heap.size, 1, none⟩ = some (.slice Ad nd cd)) := ⟨Fy.cell 0, Fy.cell 1⟩;clear Fy;refine fX (fun W' => W'.cell? ⟨w.heap.size, 0, none⟩ = some (.slice An nn cn) ∧ W'.cell? ⟨w.heap.size, 1, none⟩ = some (.slice Ad nd cd)) [] ?_ fun AA => ?_
    ·exact FM.out
    try dsimp only at AA
    refine tk 0 54 (mf 17 1) AA ?_;refine tk 1 55 (mf 17 2) AA ?_;refine tk 2 56 (mf 17 3) AA ?_;refine tk 3 57 (mf 17 4) AA ?_;refine tk 4 58 (mf 17 5) AA ?_;refine tk 5 59 (mf 17 6) AA ?_;refine tk 6 60 (mf 17 7) AA ?_;refine tk 7 61 (mf 17 8) AA ?_;refine tb 8 (mf 17 9) fun K hK => ?_
    (go_simp; refine (zS g 3 w5.drew Vu.drew (by decide)).mono ?_; rintro e w6 ⟨v6, rfl, OE, _, OD, Kt, Jj, SI⟩; have OC := OD (by decide); have Fz := iD (xi Jj); clear OD SI; go_simp)
    refine hK _ _ (fun _ => ⟨(World.cell?_of_block (Fz.block w.heap.size AZ (fun e => by injection e with e; omega))).trans FM.1, (World.cell?_of_block (Fz.block w.heap.size AZ (fun e => by injection e with e; omega))).trans FM.2⟩) fun p => (fun AA => ?_) (p rfl)
    clear p hK K;(try dsimp only at AA);refine tk 9 63 (mf 17 10) AA ?_;refine tk 10 64 (mf 17 11) AA ?_;refine tb 11 (mf 17 12) fun K hK => ?_
    (have EH := iD (NH.kept Fz (zj fun b e => by have := (NH.lt b e).1; omega)); have Hr := iD (zJ LW Fz); have Rz := Hr.size; rw [HW.out] at Rz; have Hd := iD (GU.grown Hr); have He := iD (AB.grown Hr); go_simp; refine (tO An Ad A nn cn nd cd c' _ _ _ ns ds ls t _ _ w6 Hd.1 He.1 (Sl.of_own EH) lR lR lR Da CU).mono ?_; rintro e w7 ⟨A7, m7, c7, er, rfl, Iq, Dc⟩; go_simp)
    refine hK _ _ (fun _ => ⟨(Dc.cell (p := ⟨w.heap.size, 0, none⟩) (by simp only; omega)).trans AA.1, (Dc.cell (p := ⟨w.heap.size, 1, none⟩) (by simp only; omega)).trans AA.2⟩) fun p => (fun AA => ?_) (p rfl)
    clear p hK K;(try dsimp only at AA);refine tk 12 53 (mf 17 13) AA ?_;refine tk 13 66 (mf 17 14) AA ?_;refine tk 14 67 (mf 17 15) AA ?_;refine tk 15 13 (mf 17 16) AA ?_;refine tk 16 14 (mf 17 17) AA ?_;refine tK ?_;clear AA FM;have Dy := iD (zJ Hr (zI Dc (some g)));have Kr := iD (Kt.grown (zI Dc none) (fun k e => by cases e));have LQ := iD (zM EH (Dc.mono lR));clear Dc EH Kt Fz Hd He Hr;by_cases Kq : er = 0
    ·obtain ⟨rfl, Gx, Nv⟩ := Iq Kq;subst Kq;have Hl := iD Nv;have CG := iD (hM.put Gx (by simp only; rw [wM (by omega) OE OC]; omega) (by simp only; rw [wM (by omega) OE OC]; omega) (fun x hx h0 h2 => Ut x (by simpa using hx) h0 h2));clear Iq Gx Nv
     go_wp2_with fail
     go_roundg (most - (k + 1))
     ·exact ⟨k + 1, c7, A7, _, by rw [wH], by go_num, by omega, rfl, by rw [wH]; exact World.ownsRow.mono Hl (by omega), Kr, Dy, CG⟩
     omega
    ·have qe : (er == 0) = false := by simpa using Kq
     have CG := iD hM.more;clear Iq
     go_wp2_with fail
     go_roundg (most - (k + 1))
     ·exact ⟨k + 1, c', A, ls, rfl, by go_num, by omega, rfl, LQ, Kr, Dy, CG⟩
     omega
   ·have q1 : decide (0 < p) = true := by simpa using h6
    have q2 : decide (2 < p) = false := by simpa using h8
    go_upto_region 12 with (fail);clear c1 q1 q2 h6 h8;have Fy := iD (GY.grown GK (fun e => by injection e with e; omega));have AZ := Fy.lt;have FM : Hid (w4.cell? ⟨w.heap.size, 0, none⟩ = some (.slice An nn cn) ∧ w4.cell? ⟨w.heap.size, 1, none⟩ = some (.slice Ad nd cd)) := ⟨Fy.cell 0, Fy.cell 1⟩;clear Fy;refine fX (fun W' => W'.cell? ⟨w.heap.size, 0, none⟩ = some (.slice An nn cn) ∧ W'.cell? ⟨w.heap.size, 1, none⟩ = some (.slice Ad nd cd)) [] ?_ fun AA => ?_
    ·exact FM.out
    try dsimp only at AA
    refine tk 0 54 (mf 17 1) AA ?_;refine tk 1 55 (mf 17 2) AA ?_;refine tk 2 56 (mf 17 3) AA ?_;refine tk 3 57 (mf 17 4) AA ?_;refine tk 4 58 (mf 17 5) AA ?_;refine tk 5 59 (mf 17 6) AA ?_;refine tk 6 60 (mf 17 7) AA ?_;refine tk 7 61 (mf 17 8) AA ?_;refine tb 8 (mf 17 9) fun K hK => ?_
    (go_simp; refine (zS g 3 w4.drew PQ.drew (by decide)).mono ?_; rintro e w6 ⟨v6, rfl, OE, _, OD, Kt, Jj, SI⟩; have OC := OD (by decide); have Fz := iD (xi Jj); clear OD SI; go_simp)
    refine hK _ _ (fun _ => ⟨(World.cell?_of_block (Fz.block w.heap.size AZ (fun e => by injection e with e; omega))).trans FM.1, (World.cell?_of_block (Fz.block w.heap.size AZ (fun e => by injection e with e; omega))).trans FM.2⟩) fun p => (fun AA => ?_) (p rfl)
    clear p hK K;(try dsimp only at AA);refine tk 9 63 (mf 17 10) AA ?_;refine tk 10 64 (mf 17 11) AA ?_;refine tb 11 (mf 17 12) fun K hK => ?_
    (have EH := iD (BP.kept Fz (zj fun b e => by have := (BP.lt b e).1; omega)); have Hr := iD (zJ GK Fz); have Rz := Hr.size; rw [HW.out] at Rz; have Hd := iD (GU.grown Hr); have He := iD (AB.grown Hr); go_simp; refine (tO An Ad A nn cn nd cd c' _ _ _ ns ds ls t _ _ w6 Hd.1 He.1 (Sl.of_own EH) lR lR lR Da CU).mono ?_; rintro e w7 ⟨A7, m7, c7, er, rfl, Iq, Dc⟩; go_simp)
    refine hK _ _ (fun _ => ⟨(Dc.cell (p := ⟨w.heap.size, 0, none⟩) (by simp only; omega)).trans AA.1, (Dc.cell (p := ⟨w.heap.size, 1, none⟩) (by simp only; omega)).trans AA.2⟩) fun p => (fun AA => ?_) (p rfl)
    clear p hK K;(try dsimp only at AA);refine tk 12 53 (mf 17 13) AA ?_;refine tk 13 66 (mf 17 14) AA ?_;refine tk 14 67 (mf 17 15) AA ?_;refine tk 15 13 (mf 17 16) AA ?_;refine tk 16 14 (mf 17 17) AA ?_;refine tK ?_;clear AA FM;have Dy := iD (zJ Hr (zI Dc (some g)));have Kr := iD (Kt.grown (zI Dc none) (fun k e => by cases e));have LQ := iD (zM EH (Dc.mono lR));clear Dc EH Kt Fz Hd He Hr;by_cases Kq : er = 0
    ·obtain ⟨rfl, Gx, Nv⟩ := Iq Kq;subst Kq;have Hl := iD Nv;have CG := iD (hM.put Gx (by simp only; rw [wM (by omega) OE OC]; omega) (by simp only; rw [wM (by omega) OE OC]; omega) (fun x hx h0 h2 => Ut x (by simpa using hx) h0 h2));clear Iq Gx Nv
     go_wp2_with fail
     go_roundg (most - (k + 1))
     ·exact ⟨k + 1, c7, A7, _, by rw [wH], by go_num, by omega, rfl, by rw [wH]; exact World.ownsRow.mono Hl (by omega), Kr, Dy, CG⟩
     omega
    ·have qe : (er == 0) = false := by simpa using Kq
     have CG := iD hM.more;clear Iq
     go_wp2_with fail
     go_roundg (most - (k + 1))
     ·exact ⟨k + 1, c', A, ls, rfl, by go_num, by omega, rfl, LQ, Kr, Dy, CG⟩
     omega
   ·have q1 : decide (0 < x) = false := by simpa using h6
    go_upto_region 12 with (fail);clear c1 q1 h6;have Fy := iD (GY.grown GK (fun e => by injection e with e; omega));have AZ := Fy.lt;have FM : Hid (w4.cell? ⟨w.heap.size, 0, none⟩ = some (.slice An nn cn) ∧ w4.cell? ⟨w.heap.size, 1, none⟩ = some (.slice Ad nd cd)) := ⟨Fy.cell 0, Fy.cell 1⟩;clear Fy;refine fX (fun W' => W'.cell? ⟨w.heap.size, 0, none⟩ = some (.slice An nn cn) ∧ W'.cell? ⟨w.heap.size, 1, none⟩ = some (.slice Ad nd cd)) [] ?_ fun AA => ?_
    ·exact FM.out
    try dsimp only at AA
    refine tk 0 54 (mf 17 1) AA ?_;refine tk 1 55 (mf 17 2) AA ?_;refine tk 2 56 (mf 17 3) AA ?_;refine tk 3 57 (mf 17 4) AA ?_;refine tk 4 58 (mf 17 5) AA ?_;refine tk 5 59 (mf 17 6) AA ?_;refine tk 6 60 (mf 17 7) AA ?_;refine tk 7 61 (mf 17 8) AA ?_;refine tb 8 (mf 17 9) fun K hK => ?_
    (go_simp; refine (zS g 3 w4.drew PQ.drew (by decide)).mono ?_; rintro e w6 ⟨v6, rfl, OE, _, OD, Kt, Jj, SI⟩; have OC := OD (by decide); have Fz := iD (xi Jj); clear OD SI; go_simp)
    refine hK _ _ (fun _ => ⟨(World.cell?_of_block (Fz.block w.heap.size AZ (fun e => by injection e with e; omega))).trans FM.1, (World.cell?_of_block (Fz.block w.heap.size AZ (fun e => by injection e with e; omega))).trans FM.2⟩) fun p => (fun AA => ?_) (p rfl)
    clear p hK K;(try dsimp only at AA);refine tk 9 63 (mf 17 10) AA ?_;refine tk 10 64 (mf 17 11) AA ?_;refine tb 11 (mf 17 12) fun K hK => ?_
    (have EH := iD (BP.kept Fz (zj fun b e => by have := (BP.lt b e).1; omega)); have Hr := iD (zJ GK Fz); have Rz := Hr.size; rw [HW.out] at Rz; have Hd := iD (GU.grown Hr); have He := iD (AB.grown Hr); go_simp; refine (tO An Ad A nn cn nd cd c' _ _ _ ns ds ls t _ _ w6 Hd.1 He.1 (Sl.of_own EH) lR lR lR Da CU).mono ?_; rintro e w7 ⟨A7, m7, c7, er, rfl, Iq, Dc⟩; go_simp)
    refine hK _ _ (fun _ => ⟨(Dc.cell (p := ⟨w.heap.size, 0, none⟩) (by simp only; omega)).trans AA.1, (Dc.cell (p := ⟨w.heap.size, 1, none⟩) (by simp only; omega)).trans AA.2⟩) fun p => (fun AA => ?_) (p rfl)
    clear p hK K;(try dsimp only at AA);refine tk 12 53 (mf 17 13) AA ?_;refine tk 13 66 (mf 17 14) AA ?_;refine tk 14 67 (mf 17 15) AA ?_;refine tk 15 13 (mf 17 16) AA ?_;refine tk 16 14 (mf 17 17) AA ?_;refine tK ?_;clear AA FM;have Dy := iD (zJ Hr (zI Dc (some g)));have Kr := iD (Kt.grown (zI Dc none) (fun k e => by cases e));have LQ := iD (zM EH (Dc.mono lR));clear Dc EH Kt Fz Hd He Hr;by_cases Kq : er = 0
    ·obtain ⟨rfl, Gx, Nv⟩ := Iq Kq;subst Kq;have Hl := iD Nv;have CG := iD (hM.put Gx (by simp only; rw [wM (by omega) OE OC]; omega) (by simp only; rw [wM (by omega) OE OC]; omega) (fun x hx h0 h2 => Ut x (by simpa using hx) h0 h2));clear Iq Gx Nv
     go_wp2_with fail
     go_roundg (most - (k + 1))
     ·exact ⟨k + 1, c7, A7, _, by rw [wH], by go_num, by omega, rfl, by rw [wH]; exact World.ownsRow.mono Hl (by omega), Kr, Dy, CG⟩
     omega
    ·have qe : (er == 0) = false := by simpa using Kq
     have CG := iD hM.more;clear Iq
     go_wp2_with fail
     go_roundg (most - (k + 1))
     ·exact ⟨k + 1, c', A, ls, rfl, by go_num, by omega, rfl, LQ, Kr, Dy, CG⟩
     omega
   ·have q1 : decide (t < n) = false := by simpa using h1
    go_upto_region 12 with (fail);clear q1;have Fy := iD (GY.grown GK (fun e => by injection e with e; omega));have AZ := Fy.lt;have FM : Hid (w4.cell? ⟨w.heap.size, 0, none⟩ = some (.slice An nn cn) ∧ w4.cell? ⟨w.heap.size, 1, none⟩ = some (.slice Ad nd cd)) := ⟨Fy.cell 0, Fy.cell 1⟩;clear Fy;refine fX (fun W' => W'.cell? ⟨w.heap.size, 0, none⟩ = some (.slice An nn cn) ∧ W'.cell? ⟨w.heap.size, 1, none⟩ = some (.slice Ad nd cd)) [] ?_ fun AA => ?_
    ·exact FM.out
    try dsimp only at AA
    refine tk 0 54 (mf 17 1) AA ?_;refine tk 1 55 (mf 17 2) AA ?_;refine tk 2 56 (mf 17 3) AA ?_;refine tk 3 57 (mf 17 4) AA ?_;refine tk 4 58 (mf 17 5) AA ?_;refine tk 5 59 (mf 17 6) AA ?_;refine tk 6 60 (mf 17 7) AA ?_;refine tk 7 61 (mf 17 8) AA ?_;refine tb 8 (mf 17 9) fun K hK => ?_
    (go_simp; refine (zS g 3 w4.drew PQ.drew (by decide)).mono ?_; rintro e w6 ⟨v6, rfl, OE, _, OD, Kt, Jj, SI⟩; have OC := OD (by decide); have Fz := iD (xi Jj); clear OD SI; go_simp)
    refine hK _ _ (fun _ => ⟨(World.cell?_of_block (Fz.block w.heap.size AZ (fun e => by injection e with e; omega))).trans FM.1, (World.cell?_of_block (Fz.block w.heap.size AZ (fun e => by injection e with e; omega))).trans FM.2⟩) fun p => (fun AA => ?_) (p rfl)
    clear p hK K;(try dsimp only at AA);refine tk 9 63 (mf 17 10) AA ?_;refine tk 10 64 (mf 17 11) AA ?_;refine tb 11 (mf 17 12) fun K hK => ?_
    (have EH := iD (BP.kept Fz (zj fun b e => by have := (BP.lt b e).1; omega)); have Hr := iD (zJ GK Fz); have Rz := Hr.size; rw [HW.out] at Rz; have Hd := iD (GU.grown Hr); have He := iD (AB.grown Hr); go_simp; refine (tO An Ad A nn cn nd cd c' _ _ _ ns ds ls t _ _ w6 Hd.1 He.1 (Sl.of_own EH) lR lR lR Da CU).mono ?_; rintro e w7 ⟨A7, m7, c7, er, rfl, Iq, Dc⟩; go_simp)
    refine hK _ _ (fun _ => ⟨(Dc.cell (p := ⟨w.heap.size, 0, none⟩) (by simp only; omega)).trans AA.1, (Dc.cell (p := ⟨w.heap.size, 1, none⟩) (by simp only; omega)).trans AA.2⟩) fun p => (fun AA => ?_) (p rfl)
    clear p hK K;(try dsimp only at AA);refine tk 12 53 (mf 17 13) AA ?_;refine tk 13 66 (mf 17 14) AA ?_;refine tk 14 67 (mf 17 15) AA ?_;refine tk 15 13 (mf 17 16) AA ?_;refine tk 16 14 (mf 17 17) AA ?_;refine tK ?_;clear AA FM;have Dy := iD (zJ Hr (zI Dc (some g)));have Kr := iD (Kt.grown (zI Dc none) (fun k e => by cases e));have LQ := iD (zM EH (Dc.mono lR));clear Dc EH Kt Fz Hd He Hr;by_cases Kq : er = 0
    ·obtain ⟨rfl, Gx, Nv⟩ := Iq Kq;subst Kq;have Hl := iD Nv;have CG := iD (hM.put Gx (by simp only; rw [wM (by omega) OE OC]; omega) (by simp only; rw [wM (by omega) OE OC]; omega) (fun x hx h0 h2 => Ut x (by simpa using hx) h0 h2));clear Iq Gx Nv
     go_wp2_with fail
     go_roundg (most - (k + 1))
     ·exact ⟨k + 1, c7, A7, _, by rw [wH], by go_num, by omega, rfl, by rw [wH]; exact World.ownsRow.mono Hl (by omega), Kr, Dy, CG⟩
     omega
    ·have qe : (er == 0) = false := by simpa using Kq
     have CG := iD hM.more;clear Iq
     go_wp2_with fail
     go_roundg (most - (k + 1))
     ·exact ⟨k + 1, c', A, ls, rfl, by go_num, by omega, rfl, LQ, Kr, Dy, CG⟩
     omega
  ·have Dg : Hid (pD w g most ds s (.returned (.slice A ls.length c')) wr) := ⟨A, _, c', ls, rfl, hD, zJ Bi hG, hO, hM.upto hk⟩;by_cases hl : k < most
   ·obtain rfl : nd = 0 := by omega
    go_wp2_with fail
    go_ret;exact Dg.out
   ·have ql : decide ((k : Int) < (most : Int)) = false := by simp; omega
    have AL : decide (k < most) = false := by simp; omega
    go_wp2_with fail
    go_ret;exact Dg.out
end Go.Proofs.YtddddlhgaeameaaGreatDoor
