import Derived.Test.YtddddlhgaeameaaGreatDoorK44
set_option maxRecDepth 100000
set_option maxHeartbeats 32000000
namespace Go.Proofs.YtddddlhgaeameaaGreatDoor
open Go.RowKit
theorem Sl.front {w : World} {B size n c m : Nat} {A : Option Addr} {xs : List Value} (h : Sl w B size A n c xs) (hm : m ≤ n) : Sl w B size A m c (xs.take (m * size)) := by
 obtain ⟨h1, h2, h3, h4, h5⟩ := h
 refine ⟨by rw [List.length_take, h1]; exact Nat.min_eq_left (Nat.mul_le_mul_right _ hm), by omega, h3, h4, fun h0 => ?_⟩
 obtain ⟨b, off, e, hb, hc⟩ := h5 (by omega)
 exact ⟨b, off, e, hb, fun j v hj => hc j v (by rw [List.getElem?_take] at hj; split at hj; exact hj; cases hj)⟩
theorem rX {α : Type} {f : α → List Value} {size : Nat} (hf : ∀ x, (f x).length = size) : ∀ (l : List α) (m : Nat), (l.flatMap f).take (m * size) = (l.take m).flatMap f
 | [], m => by simp
 | x :: l, 0 => by simp
 | x :: l, m + 1 => by
  rw [List.flatMap_cons, List.take_succ_cons, List.flatMap_cons, List.take_append, hf, ← rX hf l m, List.take_of_length_le (by rw [hf, Nat.succ_mul]; omega), show (m + 1) * size - size = m * size by rw [Nat.succ_mul]; omega]
theorem Sl.ground {w : World} {B size n c x : Nat} {A : Option Addr} {xs : List Value} {co : Int} {u1 u2 v1 v2 : Value} (h : Sl w B size A n c xs) (hi : ∀ v ∈ xs, ∃ z, v = .int .i64 z) (hx : Blk w x 29 #[.int .i64 co, u1, u2]) (h1 : ∀ z, u1 ≠ .int .i64 z) (h2 : ∀ z, u2 ≠ .int .i64 z) :
 Sl (((w.setCell ⟨x, 0, none⟩ (.int .i64 co)).setCell ⟨x, 1, none⟩ v1).setCell ⟨x, 2, none⟩ v2) B size A n c xs := by
 obtain ⟨g1, g2, g3, g4, g5⟩ := h
 refine ⟨g1, g2, g3, g4, fun h0 => ?_⟩
 obtain ⟨b, off, e, hb, hc⟩ := g5 h0
 refine ⟨b, off, e, hb, fun j v hj => ?_⟩
 have hv := hc j v hj
 obtain ⟨z, rfl⟩ := hi v (List.mem_of_getElem? hj)
 by_cases hbx : b = x
 ·subst hbx
  have hB := ((hx.set 0 (.int .i64 co)).set 1 v1).set 2 v2
  rcases (show off + j = 0 ∨ off + j = 1 ∨ off + j = 2 ∨ 2 < off + j by omega) with h | h | h | h
  ·rw [h] at hv ⊢
   rw [hx.cell 0] at hv
   exact (hB.cell 0).trans hv
  ·rw [h, hx.cell 1] at hv; exact absurd (Option.some.inj hv) (h1 z)
  ·rw [h, hx.cell 2] at hv; exact absurd (Option.some.inj hv) (h2 z)
  ·have : w.cell? ⟨b, off + j, none⟩ = none := by
    have hx' := hx
    unfold Blk at hx'
    simp [World.cell?, hx']
    omega
   rw [this] at hv; cases hv
 ·exact (World.cell?_setCell_far _ ⟨x, 2, none⟩ ⟨b, off + j, none⟩ _ (fun e2 => hbx e2.symm)).trans ((World.cell?_setCell_far _ ⟨x, 1, none⟩ ⟨b, off + j, none⟩ _ (fun e2 => hbx e2.symm)).trans ((World.cell?_setCell_far _ ⟨x, 0, none⟩ ⟨b, off + j, none⟩ _ (fun e2 => hbx e2.symm)).trans hv))
theorem pH {s : List Int} : ∀ v ∈ zJ s, ∃ z, v = .int .i64 z := fun v hv => by
 unfold zJ at hv; simp at hv; obtain ⟨z, _, rfl⟩ := hv; exact ⟨z, rfl⟩
theorem kC {ls : List Lk} : ∀ v ∈ ls.flatMap Lk.cells, ∃ z, v = .int .i64 z := fun v hv => by
 obtain ⟨k, _, hv⟩ := List.mem_flatMap.1 hv
 simp [Lk.cells] at hv
 rcases hv with rfl | rfl | rfl <;> exact ⟨_, rfl⟩
theorem qS.later {w w' : World} {A1 A2 Al Ap : Option Addr} {n1 c1 n2 c2 nl cl np cp : Nat} {o : List Fn} {t : Sm} (h : qS w A1 A2 Al Ap n1 c1 n2 c2 nl cl np cp o t) (hb : Below w.heap.size w w') : qS w' A1 A2 Al Ap n1 c1 n2 c2 nl cl np cp o t :=
 ⟨(h.o.below hb lR).more hb.size, (h.s.below hb lR).more hb.size, (h.l.below hb lR).more hb.size, (h.p.below hb lR).more hb.size⟩
structure StA (x : Nat) (co : Int) (As Al Ap : Option Addr) (n c nl cl np cp : Nat) (t : Sm) (wr : World) : Prop where
 bx : Blk wr x 29 #[.int .i64 co, .slice Al nl cl, .slice Ap np cp]
 s : Sl wr wr.heap.size 1 As n c (zJ t.s)
 l : Sl wr wr.heap.size 3 Al nl cl (t.ls.flatMap Lk.cells)
 p : Sl wr wr.heap.size 1 Ap np cp (zJ t.pr)
theorem StA.later {x : Nat} {co : Int} {As Al Ap : Option Addr} {n c nl cl np cp : Nat} {t : Sm} {w w' : World} (h : StA x co As Al Ap n c nl cl np cp t w) (hb : Below w.heap.size w w') : StA x co As Al Ap n c nl cl np cp t w' :=
 ⟨h.bx.below hb h.bx.lt, (h.s.below hb lR).more hb.size, (h.l.below hb lR).more hb.size, (h.p.below hb lR).more hb.size⟩
structure SsM (M : World → Prop) (x11 : Nat) (A1 A2 A3 A4 B1 B2 B3 B4 : Option Addr) (n1 c1 n2 c2 n3 c3 n4 c4 m1 d1 m2 d2 m3 d3 m4 d4 : Nat) (co : Int) (o1 o2 : List Fn) (t1 t2 : Sm) (wr : World) : Prop where
 m : M wr
 a : qS wr A1 A2 A3 A4 n1 c1 n2 c2 n3 c3 n4 c4 o1 t1
 b : qS wr B1 B2 B3 B4 m1 d1 m2 d2 m3 d3 m4 d4 o2 t2
 bb : Blk wr x11 29 #[.int .i64 co, .slice B3 m3 d3, .slice B4 m4 d4]
theorem SsM.later {M : World → Prop} {g x11 : Nat} {A1 A2 A3 A4 B1 B2 B3 B4 : Option Addr} {n1 c1 n2 c2 n3 c3 n4 c4 m1 d1 m2 d2 m3 d3 m4 d4 : Nat} {co : Int} {o1 o2 : List Fn} {t1 t2 : Sm} {w w' : World} (hk : xG g M) (h : SsM M x11 A1 A2 A3 A4 B1 B2 B3 B4 n1 c1 n2 c2 n3 c3 n4 c4 m1 d1 m2 d2 m3 d3 m4 d4 co o1 o2 t1 t2 w) (hb : Below w.heap.size w w') : SsM M x11 A1 A2 A3 A4 B1 B2 B3 B4 n1 c1 n2 c2 n3 c3 n4 c4 m1 d1 m2 d2 m3 d3 m4 d4 co o1 o2 t1 t2 w' :=
 ⟨hk.later h.m hb, h.a.later hb, h.b.later hb, h.bb.below hb h.bb.lt⟩
theorem nE {p : Prop} {i : Decidable p} (h : p) : @decide p i = true := decide_eq_true h
theorem kx {co : Int} {l1 l2 : List Lk} {p1 p2 : List Int} {i : Decidable (l1 = l2)} (h1 : l1 = l2) (h2 : p1 = p2) : (decide (co = co) && @decide (l1 = l2) i && decide (p1 = p2)) = true := by simp [h1, h2]
structure oc (b o : Nat) (k d no p q : Int) (w : World) : Prop where
 c0 : w.cell? ⟨b, o, none⟩ = some (.int .i64 k)
 c1 : w.cell? ⟨b, o + 1, none⟩ = some (.int .i64 d)
 c2 : w.cell? ⟨b, o + 2, none⟩ = some (.int .i64 no)
 c3 : w.cell? ⟨b, o + 3, none⟩ = some (.int .i64 p)
 c4 : w.cell? ⟨b, o + 4, none⟩ = some (.int .i64 q)
theorem oc.later {b o : Nat} {k d no p q : Int} {w w' : World} (h : oc b o k d no p q w) (hb : Below w.heap.size w w') : oc b o k d no p q w' :=
 ⟨zF hb h.c0, zF hb h.c1, zF hb h.c2, zF hb h.c3, zF hb h.c4⟩
theorem StA.new {w : World} {x b1 b2 b3 n c nl cl np cp : Nat} {co : Int} {A Al Ap : Option Addr} {s : List Int} {ls : List Lk} {pr : List Int} (hx : Blk w x 29 #[.int .i64 0, .slice none 0 0, .slice none 0 0]) (h1 : zW w b1 A n c s) (h2 : zk w b2 Al nl cl ls) (h3 : zW w b3 Ap np cp pr) :
 StA x co A Al Ap n c nl cl np cp ⟨s, ls, pr⟩ (((w.setCell ⟨x, 0, none⟩ (.int .i64 co)).setCell ⟨x, 1, none⟩ (.slice Al nl cl)).setCell ⟨x, 2, none⟩ (.slice Ap np cp)) := by
 have o1 := zu h1 hx (by decide)
 have o2 := zu h2 hx (by decide)
 have o3 := zu h3 hx (by decide)
 exact ⟨((hx.set 0 _).set 1 _).set 2 _, ((((Sl.of_own h1).ne o1).ne o1).ne o1).more (by simp [World.setCell]), ((((Sl.of_own h2).ne o2).ne o2).ne o2).more (by simp [World.setCell]), ((((Sl.of_own h3).ne o3).ne o3).ne o3).more (by simp [World.setCell])⟩
theorem StA.put {w : World} {x p1 r1 p2 r2 p3 r3 p4 r4 m3 d3 m4 d4 : Nat} {co : Int} {F1 F2 F3 F4 D3 D4 : Option Addr} {o : So} (hx : Blk w x 29 #[.int .i64 co, .slice D3 m3 d3, .slice D4 m4 d4]) (h : yZ w F1 F2 F3 F4 p1 r1 p2 r2 p3 r3 p4 r4 o) :
 StA x co F2 F3 F4 p2 r2 p3 r3 p4 r4 o.t (((w.setCell ⟨x, 0, none⟩ (.int .i64 co)).setCell ⟨x, 1, none⟩ (.slice F3 p3 r3)).setCell ⟨x, 2, none⟩ (.slice F4 p4 r4)).drew :=
 ⟨(((hx.set 0 _).set 1 _).set 2 _).drw, ((h.s.ground pH hx (fun z e => by cases e) (fun z e => by cases e)).drew).more (by simp [World.setCell]), ((h.l.ground kC hx (fun z e => by cases e) (fun z e => by cases e)).drew).more (by simp [World.setCell]), ((h.p.ground pH hx (fun z e => by cases e) (fun z e => by cases e)).drew).more (by simp [World.setCell])⟩
theorem yi.mix {w : World} {An Ad As Al Ap D1 D3 D4 : Option Addr} {nn cn nd cd n c nl cl np cp e1 f1 e3 f3 e4 f4 x : Nat} {ns : List Nd} {ds : List Dv} {s : List Int} {ls : List Lk} {pr : List Int} {co : Int} {t : Sm} (h : yi w An Ad As Al Ap nn cn nd cd n c nl cl np cp ns ds s ls pr) (g : StA x co D1 D3 D4 e1 f1 e3 f3 e4 f4 t w) : yi w An Ad D1 D3 D4 nn cn nd cd e1 f1 e3 f3 e4 f4 ns ds t.s t.ls t.pr :=
 ⟨h.hn, h.hd, g.s, g.l, g.p, h.la, h.sn, h.sd⟩
def StC (wg : World) (co : Int) (s : List Int) (ls : List Lk) (pr : List Int) (nd mg np : Nat) (nv xv : Value) (wc : World) : Prop :=
 ∃ (x20 f1 f3 f4 : Nat) (D1 D3 D4 : Option Addr), nv = .slice D1 nd f1 ∧ xv = .pointer (some ⟨x20, 0, none⟩) ∧ Hid (StA x20 co D1 D3 D4 nd f1 mg f3 np f4 ⟨s, ls, pr⟩ wc) ∧ Hid (Below wg.heap.size wg wc) ∧ Hid (wg.heap.size ≤ x20)
def StR (wg : World) (x20 : Nat) (ns : List Nd) (ds : List Dv) (co r : Int) (xs : List Sp) (R : List Fn × Sm × Nat) (jj gk : Nat) (nv iv : Value) (wr : World) : Prop :=
 ∃ (i e1 f1 e3 f3 e4 f4 : Nat) (D1 D3 D4 : Option Addr) (t : Sm) (out : List Fn), nv = .slice D1 e1 f1 ∧ iv = .int .i64 i ∧ i ≤ jj ∧ gk = jj - i ∧ Hid (StA x20 co D1 D3 D4 e1 f1 e3 f3 e4 f4 t wr) ∧ Hid (Below wg.heap.size wg wr) ∧ Hid (zc ns ds co [r] i out t (xs.drop i) = R) ∧ Hid (uO ns ds t)
structure SsA (M3 M5 : World → Prop) (nb x7 x8 x9 x11 : Nat) (An Ad Ag Ap Ax A1 A2 A3 A4 B1 B2 B3 B4 : Option Addr) (nn cn nd cd mg cg np cp nx cx n1 c1 n2 c2 n3 c3 n4 c4 m1 d1 m2 d2 m3 d3 m4 d4 : Nat) (co r : Int) (nm : ByteArray) (xs : List Sp) (o1 o2 : List Fn) (t1 t2 : Sm) (wr : World) : Prop where
 mm : M3 wr
 n : Blk wr nb 26 #[.slice An nn cn, .slice Ad nd cd]
 g : Blk wr x7 29 #[.int .i64 co, .slice Ag mg cg, .slice Ap np cp]
 p : Blk wr x8 34 #[.string nm, .slice Ax nx cx]
 k : Blk wr x9 3 #[.int .i64 r]
 x5 : Sl wr wr.heap.size 5 Ax nx cx (xs.flatMap Sp.cells)
 x : SsM M5 x11 A1 A2 A3 A4 B1 B2 B3 B4 n1 c1 n2 c2 n3 c3 n4 c4 m1 d1 m2 d2 m3 d3 m4 d4 co o1 o2 t1 t2 wr
theorem walk_SimulateSteps (w : World) (hl : Laid w) (A : Option Addr) (n c : Nat) (zs : List Int) (hs : Sl w w.heap.size 1 A n c (zJ zs)) (_hz : ∀ z ∈ zs, (Lit.int .i64 z).wf = true) :
 Calls Tryz.prog 4 #[.slice A n c] w fun e w' => e = .returned (.bool true) ∧ Below w.heap.size w w' := by
 have hnm := hs.le
 have HL := iD hl; have HS := iD hs
 clear hl hs _hz
 have HF := iD (kK A n c w (by omega))
 rcases hf : decide (n ≤ 400) with _ | _
 ·rw [hf] at HF
  clear hf
  go_enter Tryz.func4, Tryz.ntmps4
  go_wp2_with fail
  refine HF.out.mono ?_
  rintro e w1 ⟨rfl, rfl⟩
  go_wp2_with fail
  refine (vm w HL.out).mono ?_
  rintro e w1 ⟨rfl, hb⟩
  go_wp2_with fail
  go_ret
  exact ⟨rfl, hb⟩
 rw [hf] at HF
 clear hf
 go_enter Tryz.func4, Tryz.ntmps4
 go_wp2_with fail
 refine HF.out.mono ?_
 rintro e w1 ⟨rfl, rfl⟩
 go_wp2_with fail
 refine (kB A n c w.heap.size zs w HS.out lR).mono ?_
 rintro e w1 ⟨rfl, hd1, hb1, hs1⟩
 go_wp2_with fail
 refine (ni w.heap.size 5 8 w1 hd1.out (by decide) (by decide)).mono ?_
 rintro e w2 ⟨An, nn, cn, ns, Ad, nd, cd, ds, rfl, hd2, hg2, hrn, hrd, hmade⟩
 have HMK := LwN.mk0 HL.out hb1.out hs1.out hd2.out hg2.out hrn.out hrd.out hmade.out
 have HNN := iD HMK.2.1; have HND := iD HMK.2.2
 have HN3 := iD HMK.1
 have HMA := iD hmade.out
 have hnd : nd ≤ 8 := by have := hmade.out.dm; rw [HND.out] at this; omega
 have hnd1 : 1 ≤ nd := by have := hmade.out.d1; rw [HND.out] at this; omega
 have hnn : nn ≤ 5 := by have := hmade.out.nm; rw [HNN.out] at this; omega
 have HNM := iD HMA.out.names
 have HCK := iD (HMA.out.check (by decide) (by decide))
 clear HMK hd1 hb1 hs1 hd2 hg2 hrn hrd hmade HS HF
 go_wp2_with fail
 generalize World.alloc _ _ = w3 at *
 obtain ⟨nb, hnb⟩ : ∃ nb, nb = w2.heap.size := ⟨_, rfl⟩
 rw [← hnb] at HN3 ⊢
 clear hnb
 refine (pA w.heap.size An Ad nn cn nd cd ds w3 HN3.out.dk HN3.out.hd (by omega)).mono ?_
 rintro e w5 ⟨As, cs, s, rfl, hd5, hg5, hO5, hpos⟩
 have HM6 : Hid (LwN w nb An nn cn ns Ad nd cd ds w5 ∧ SlX w5 w.heap.size 1 As nd cs (zJ s)) := ⟨HN3.out.grown HL.out hg5.out hd5.out, SlX.of_own hO5.out (by have := HN3.out.bl.size; have := HN3.out.bx.lt; have := HN3.out.ge; omega)⟩
 have HLS : Hid (s.length = nd) := hO5.out.len
 have hw6 : w.heap.size < w5.heap.size := hd5.out.lt
 clear hd5 hg5 hO5 HN3
 go_upto_region 6 with (fail)
 obtain ⟨M, hM⟩ : ∃ M : World → Prop, M = fun W' => LwN w nb An nn cn ns Ad nd cd ds W' ∧ SlX W' w.heap.size 1 As nd cs (zJ s) := ⟨_, rfl⟩
 have HKM : Hid (xG w.heap.size M) := by unfold Hid; rw [hM]; exact (xG.lwn HL.out).and xG.slx
 have HAM : Hid (∀ W', M W' → LwN w nb An nn cn ns Ad nd cd ds W' ∧ SlX W' w.heap.size 1 As nd cs (zJ s)) := fun W' h => by rw [hM] at h; exact h
 have HMW : Hid (M w5) := by unfold Hid; rw [hM]; exact HM6.out
 have hgW : w.heap.size < w5.heap.size := hw6
 have HDW := iD HM6.out.1.dk
 have HMD : Hid (∀ W', GrB w5 w.heap.size W' → M W') := fun W' h => HKM.out.grown HMW.out h.2 h.1
 clear hM HM6
 refine sg (S := fun W' => W'.cell? ⟨nb, 0, none⟩ = some (.slice An nn cn) ∧ W'.cell? ⟨nb, 1, none⟩ = some (.slice Ad nd cd)) (J := []) (n := _) ((0, true) :: (1, true) :: (2, true) :: (3, true) :: (4, true) :: []) ((8, false) :: []) [5, 6] [7] #[true, true, true, true, true, false, false, false, false] #[true, true, true, true, true, true, true, true, false] (by as_aux_lemma => kernel_rfl) (by rfl) (zO (k := 3) (by go_simp; rfl) (zO (k := 4) (by go_simp; rfl) (zO (k := 5) (by go_simp; rfl) xf))) ?_ (fun _ _ _ _ _ h => h) (fun Q2 A hsz hbase hn2 AA => ?_)
 ·exact ⟨(HAM.out _ HMW.out).1.bx.cell 0, (HAM.out _ HMW.out).1.bx.cell 1⟩
 try dsimp only at AA
 obtain ⟨b3, b4, b5, -⟩ := hbase
 refine ⟨ph A [(42, .slice As nd cs), (41, .agg #[.slice An nn cn, .slice Ad nd cd]), (40, .pointer (some ⟨w.heap.size, 0, none⟩)), (39, .agg #[.slice An nn cn, .slice Ad nd cd]), (38, .pointer (some ⟨w.heap.size, 0, none⟩))] 7 6 w5.heap.size 29 #[.int .i64 0, .slice none 0 0, .slice none 0 0] [(5, 43), (6, 44)] (GsF ds s nn 2 w5 w.heap.size), ?_, ?_, ?_, ?_⟩
 ·refine oM 0 38 ?_ rfl rfl rfl (zA rfl) AA (fun ρ AB => ?_) ?_
  rotate_left
  ·(have e3 := tm AB hsz 3 rfl (zN b3); exact e3)
  refine oT 1 39 ?_ rfl rfl (zA rfl) AA (fun ρ AB w hSw => ?_) ?_
  rotate_left
  ·(have e4 := tm AB hsz 4 rfl (zE rfl (zN b4)); clear AB; (try dsimp only at hSw); go_simp; try with_reducible rfl)
  refine oM 2 40 ?_ rfl rfl rfl (zA rfl) AA (fun ρ AB => ?_) ?_
  rotate_left
  ·(have e3 := tm AB hsz 3 rfl (zE rfl (zE rfl (zN b3))); exact e3)
  refine oT 3 41 ?_ rfl rfl (zA rfl) AA (fun ρ AB w hSw => ?_) ?_
  rotate_left
  ·(have e4 := tm AB hsz 4 rfl (zE rfl (zE rfl (zE rfl (zN b4)))); clear AB; (try dsimp only at hSw); go_simp; try with_reducible rfl)
  refine oM 4 42 ?_ rfl rfl rfl (zA rfl) AA (fun ρ AB => ?_) ?_
  rotate_left
  ·(have e5 := tm AB hsz 5 rfl (zG rfl rfl rfl rfl (zN b5)); exact e5)
  exact kD ⟨[], 0, rfl, by decide, by decide, rfl, ⟨HDW.out.drew, sP (yf _ _)⟩, (show yY w5.heap.size _ _ _ _ _ from yY.start w5.drew 0)⟩
 ·intro c cs D a w0 h
  obtain ⟨vs, x7, hC, hnd, hDD, rfl, hf, hm⟩ := h
  rcases vs with _ | ⟨v1, _ | ⟨v2, _⟩⟩
  ·obtain ⟨rfl, rfl⟩ : c = 5 ∧ cs = [6] := by simpa using hC
   have hm0 := HMD.out _ hf
   have hle := hm.le
   refine pF (d := 43) (vs := #[.pointer (some ⟨w.heap.size, 0, none⟩), .agg #[.slice An nn cn, .slice Ad nd cd], .slice As nd cs, .int .i64 2]) rfl rfl rfl rfl (fun ρ AB => ?_) ?_ ?_
   ·(have hc := AB.const; have e40 := tm AB hsz 40 rfl (wL rfl (zE rfl (zE rfl zB))); have e41 := tm AB hsz 41 rfl (wL rfl (zE rfl zB)); have e42 := tm AB hsz 42 rfl (wL rfl zB); simp only [List.map_toArray, List.map_cons, List.map_nil, e40, e41, e42, hc])
   ·(intro w; go_simp)
   refine (pB w.heap.size An Ad As nn cn nd cd nd cs 2 ns ds s w0 hf.1 (HAM.out _ hm0).1.hn (HAM.out _ hm0).1.hd (HAM.out _ hm0).2 (by omega) (by decide) HNM.out.1 HNM.out.2).mono ?_
   rintro e w6 ⟨Ag, mg, cg, ls, rfl, hd6, hg6, hO6, hL6⟩
   have HB6 : GrB w5 w.heap.size w6 := ⟨hd6.out, zL hf.2 hg6.out⟩
   refine ⟨_, rfl, fun _ => ?_, [.slice Ag mg cg], x7, rfl, hnd, hDD, rS A (by decide), ?_, hm.grown hg6.out hgW⟩
   ·exact ⟨(HAM.out _ (HMD.out _ HB6)).1.bx.cell 0, (HAM.out _ (HMD.out _ HB6)).1.bx.cell 1⟩
   ·exact ⟨HB6, Ag, mg, cg, ls, rfl, World.ownsRow.mono hO6.out (by omega), hL6.out⟩
  ·obtain ⟨rfl, rfl⟩ : c = 6 ∧ cs = [] := by simpa using hC
   obtain ⟨hB, Ag, mg, cg, ls, rfl, hO, hL⟩ := hf
   have hle := hm.le
   refine pF (d := 44) (vs := #[.pointer (some ⟨w.heap.size, 0, none⟩), .agg #[.slice An nn cn, .slice Ad nd cd], .slice Ag mg cg]) rfl rfl rfl rfl (fun ρ AB => ?_) ?_ ?_
   ·(have e38 := tm AB hsz 38 rfl (wL rfl (zE rfl (zE rfl (zE rfl (zE rfl (zE rfl zB)))))); have e39 := tm AB hsz 39 rfl (wL rfl (zE rfl (zE rfl (zE rfl (zE rfl zB))))); have e43 := tm AB hsz 43 rfl (wL rfl zB); simp only [List.map_toArray, List.map_cons, List.map_nil, e38, e39, e43])
   ·(intro w; go_simp)
   refine (sz w.heap.size An Ad Ag nn cn nd cd mg cg w0 hB.1 (by omega)).mono ?_
   rintro e w6 ⟨co, Ap, np, cp, pr, rfl, hco, hd6, hg6, hO6, hL6⟩
   have HB6 : GrB w5 w.heap.size w6 := ⟨hd6.out, zL hB.2 hg6.out⟩
   refine ⟨_, rfl, fun _ => ?_, [.slice Ag mg cg, .agg #[.int .i64 co, .slice Ag mg cg, .slice Ap np cp]], x7, rfl, hnd, hDD, rS A (by decide), ?_, hm.grown hg6.out hgW⟩
   ·exact ⟨(HAM.out _ (HMD.out _ HB6)).1.bx.cell 0, (HAM.out _ (HMD.out _ HB6)).1.bx.cell 1⟩
   ·exact ⟨HB6, Ag, mg, cg, ls, co, Ap, np, cp, pr, rfl, rfl, hco, World.ownsRow.kept hO hg6.out (zj fun b e => by have := (World.ownsRow.lt hO b e).1; omega), hO6.out.mono hle, hL, hL6.out.1, hL6.out.2⟩
  ·simp at hC
 ·exact fun C D i a w0 hi h => wpOp_mono (fun a1 w1 h1 => ⟨fun _ => (by obtain ⟨vs1, _, _, _, _, _, hf1, _⟩ := h1; exact ⟨(HAM.out _ (HMD.out _ (GsF.base hf1))).1.bx.cell 0, (HAM.out _ (HMD.out _ (GsF.base hf1))).1.bx.cell 1⟩), h1⟩) (ph.alloc (fun vs w2 o h => GsF.alloc o h) rfl rfl rfl (fun ρ w2 => by go_simp; rfl) i hi h)
 ·intro a w0 h
  obtain ⟨vs, x7, hC, -, -, rfl, hf, hm⟩ := h
  rcases vs with _ | ⟨v1, _ | ⟨v2, _ | ⟨v3, _⟩⟩⟩
  ·simp at hC
  ·simp at hC
  rotate_left
  ·exact hf.elim
  clear hC
  obtain ⟨hB, Ag, mg, cg, ls, co, Ap, np, cp, pr, rfl, rfl, hco, hO, hO2, hL, hp1, hp2⟩ := hf
  have h7 := (hm.m7 rfl).1
  have hx7 := (hm.m7 rfl).2
  have HX := iD (jG.of hB h7 hx7 hgW hO hO2 co)
  have HH7 := iD h7
  have HX7 := iD hx7
  have HLM := iD hL
  have HPR := iD hp2
  have HPN := iD hp1
  clear hm hO hO2 h7 hx7 hL hp1 hp2
  show wpOrd _ _ _ _ _ _ (zi A [(6, ptr x7), (44, .agg #[.int .i64 co, .slice Ag mg cg, .slice Ap np cp]), (43, .slice Ag mg cg), (42, .slice As nd cs), (41, .agg #[.slice An nn cn, .slice Ad nd cd]), (40, .pointer (some ⟨w.heap.size, 0, none⟩)), (39, .agg #[.slice An nn cn, .slice Ad nd cd]), (38, .pointer (some ⟨w.heap.size, 0, none⟩))]) _
  refine ng (i := 8) (w' := ?_) rfl rfl (zA rfl) (fun ρ AB => ?_) (fun _ => ?_) ?_
  rotate_left
  ·(have e6 := tm AB hsz 6 rfl zB; have e44 := tm AB hsz 44 rfl (zE rfl zB); refine (ry ρ _ _ _ _ x7 co Ag Ap mg cg np cp ?_ e6 e44 HH7.out); rfl)
  ·exact ⟨(HAM.out _ (HMD.out _ HX.out.b)).1.bx.cell 0, (HAM.out _ (HMD.out _ HX.out.b)).1.bx.cell 1⟩
  refine xY hn2 ?_
  clear hn2 b3 b4 b5 hsz A Q2
  simp only [xX, yv, xy, tH, tI, ptr]
  have hX := HX.out
  unfold set3 at hX
  clear HX HH7 hB
  generalize World.setCell _ _ _ = WS at *
  have hge7 : w5.heap.size ≤ x7 := HX7.out
  obtain ⟨M3, hM3⟩ : ∃ M3 : World → Prop, M3 = fun W' => (LwN w nb An nn cn ns Ad nd cd ds W' ∧ SlX W' w.heap.size 1 As nd cs (zJ s)) ∧ Blk W' x7 29 #[.int .i64 co, .slice Ag mg cg, .slice Ap np cp] ∧ SlX W' w.heap.size 3 Ag mg cg (ls.flatMap Lk.cells) ∧ SlX W' w.heap.size 1 Ap np cp (zJ pr) := ⟨_, rfl⟩
  have HK3 : Hid (xG w.heap.size M3) := by unfold Hid; rw [hM3]; exact ((xG.lwn HL.out).and xG.slx).and ((xG.blk (by omega)).and (xG.slx.and xG.slx))
  have HA3 : Hid (∀ W', M3 W' → (LwN w nb An nn cn ns Ad nd cd ds W' ∧ SlX W' w.heap.size 1 As nd cs (zJ s)) ∧ Blk W' x7 29 #[.int .i64 co, .slice Ag mg cg, .slice Ap np cp] ∧ SlX W' w.heap.size 3 Ag mg cg (ls.flatMap Lk.cells) ∧ SlX W' w.heap.size 1 Ap np cp (zJ pr)) := fun W' h => by rw [hM3] at h; exact h
  have HMS : Hid (M3 WS) := by unfold Hid; rw [hM3]; exact ⟨HAM.out _ (HMD.out _ hX.b), hX.b7, SlX.of_own hX.hl hgW, SlX.of_own hX.hp hgW⟩
  have HZ : Hid (∀ W', M3 W' → yi W' An Ad As Ag Ap nn cn nd cd nd cs mg cg np cp ns ds s ls pr) := fun W' h => ⟨(HA3.out _ h).1.1.hn.1, (HA3.out _ h).1.1.hd.1, (HA3.out _ h).1.2.1, (HA3.out _ h).2.2.1.1, (HA3.out _ h).2.2.2.1, (HA3.out _ h).1.1.la, HNM.out.1, HNM.out.2⟩
  have HSE : Hid (zP ns ds s = 0) := sj HCK.out (by rw [HLS.out, HND.out]) hpos.out
  have HPR2 : Hid (yS ns.length (-1) pr = true) := by unfold Hid; rw [HNN.out]; exact HPR.out
  have hmg : mg ≤ 1000 := by have h1 := (hX.hl : zk _ _ _ _ _ _).len; have h2 := HLM.out.2.1; omega
  have hnp : np ≤ 1000 := by have := HPN.out; omega
  clear hM3 HMD HAM HKM HMW HDW hX M HPR HPN hge7 HX7
  have hnn1 : 2 ≤ nn := by have := HMA.out.n2; rw [HNN.out] at this; omega
  go_upto_region 7 with (fail)
  have k0 := (HA3.out _ HMS.out).1.1.bx.c0
  have k1 := (HA3.out _ HMS.out).1.1.bx.c1
  go_wp2_with fail
  clear k0 k1
  refine (oG w.heap.size An Ad nn cn nd cd 7 WS (HA3.out _ HMS.out).1.1.dk (by omega) (by omega) (by omega) (by omega) (by decide)).mono ?_
  rintro e w8 ⟨nm, Ax, nx, cx, xs, rfl, hnm, hsp, hO8, hd8, hg8⟩
  have HM8 := iD (HK3.out.grown HMS.out hg8.out hd8.out)
  have HNM2 := iD hnm.out
  have HSPS : Hid (zv ns.length ds.length xs = 0 ∧ xs.length = nx) := by unfold Hid; rw [HNN.out, HND.out]; exact ⟨hsp.out.1, hsp.out.2.1⟩
  have hnx : nx ≤ 7 := hsp.out.2.2
  have HOX : Hid (SlX w8 w.heap.size 5 Ax nx cx (xs.flatMap Sp.cells)) := SlX.of_own hO8.out (HA3.out _ HMS.out).1.1.dk.lt
  clear hsp hd8 hg8 hnm hO8 HMS
  go_upto_region 8 with (fail)
  have HM9 := iD (HK3.out.later HM8.out ((Below.refl _ w8).alloc lR (.cells #[.string nm, .slice Ax nx cx] 34)))
  have HB9 := iD (Blk.new w8 34 #[.string nm, .slice Ax nx cx])
  have HOX9 := iD (HOX.out.below ((Below.refl _ w8).alloc lR (.cells #[.string nm, .slice Ax nx cx] 34)))
  have hx9 : w.heap.size < w8.heap.size := (HA3.out _ HM8.out).1.1.dk.lt
  clear HM8 HOX
  generalize World.alloc w8 _ = w9 at *
  obtain ⟨x8, hx8⟩ : ∃ x, x = w8.heap.size := ⟨_, rfl⟩
  rw [← hx8] at HB9 hx9 ⊢
  clear hx8
  obtain ⟨M4, hM4⟩ : ∃ M4 : World → Prop, M4 = fun W' => M3 W' ∧ Blk W' x8 34 #[.string nm, .slice Ax nx cx] ∧ SlX W' w.heap.size 5 Ax nx cx (xs.flatMap Sp.cells) := ⟨_, rfl⟩
  have HK4 : Hid (xG w.heap.size M4) := by unfold Hid; rw [hM4]; exact HK3.out.and ((xG.blk (by omega)).and xG.slx)
  have HA4 : Hid (∀ W', M4 W' → M3 W' ∧ Blk W' x8 34 #[.string nm, .slice Ax nx cx] ∧ SlX W' w.heap.size 5 Ax nx cx (xs.flatMap Sp.cells)) := fun W' h => by rw [hM4] at h; exact h
  have HM4 : Hid (M4 w9) := by unfold Hid; rw [hM4]; exact ⟨HM9.out, HB9.out, HOX9.out⟩
  clear hM4 HM9 HB9 HOX9
  go_wp2_with fail
  refine (zR w.heap.size (nd : Int) w9 (HA3.out _ (HA4.out _ HM4.out).1).1.1.dk (by omega)).mono ?_
  rintro e wa ⟨r, rfl, hr0, _, hr1, hda, hga, hsa⟩
  have hrn := hr1.out (by omega)
  have HMa := iD (HK4.out.grown HM4.out hga.out hda.out)
  clear hr1 hda hga hsa HM4
  go_upto_region 9 with (fail)
  have HMb := iD (HK4.out.later HMa.out ((Below.refl _ wa).alloc lR (.cells #[.int .i64 r] 3)))
  have HR5 : Hid (SlX (wa.alloc (.cells #[.int .i64 r] 3)) w.heap.size 1 (some ⟨wa.heap.size, 0, none⟩) 1 1 (zJ [r])) := SlX.of_own (tT (base := wa.heap.size) (n := 1) (xs := [.int .i64 r]) lR (by decide) rfl) (HA3.out _ (HA4.out _ HMa.out).1).1.1.dk.lt
  have HB5 := iD (Blk.new wa 3 #[.int .i64 r])
  have hgx : w.heap.size < wa.heap.size := (HA3.out _ (HA4.out _ HMa.out).1).1.1.dk.lt
  clear HMa
  generalize World.alloc wa _ = wb at *
  generalize wa.heap.size = x9 at *
  obtain ⟨M5, hM5⟩ : ∃ M5 : World → Prop, M5 = fun W' => M4 W' ∧ SlX W' w.heap.size 1 (some ⟨x9, 0, none⟩) 1 1 (zJ [r]) ∧ Blk W' x9 3 #[.int .i64 r] := ⟨_, rfl⟩
  have HK5 : Hid (xG w.heap.size M5) := by unfold Hid; rw [hM5]; exact HK4.out.and (xG.slx.and (xG.blk (by omega)))
  have HA5 : Hid (∀ W', M5 W' → M4 W' ∧ SlX W' w.heap.size 1 (some ⟨x9, 0, none⟩) 1 1 (zJ [r]) ∧ Blk W' x9 3 #[.int .i64 r]) := fun W' h => by rw [hM5] at h; exact h
  have HM5 : Hid (M5 wb) := by unfold Hid; rw [hM5]; exact ⟨HMb.out, HR5.out, HB5.out⟩
  clear hM5 HMb HR5 HB5
  have HLK : Hid (zM ns ds ls = 0) := tp HCK.out HLM.out.1
  have HSM : Hid (yo ns ds s co ls pr nm xs = 0) := rP HSE.out HCK.out hco HLK.out HPR2.out HNM2.out HSPS.out.1 (by have := HSPS.out.2; omega)
  have HNZ : Hid (nm.size ≤ 9223372036854775807) := by
   have h := HNM2.out
   unfold yD at h
   simp only [Bool.and_eq_true, decide_eq_true_eq] at h
   have h2 := h.2
   rw [uR] at h2; unfold Hid; omega
  have HSS : Hid (∀ W', M5 W' → tP W' An Ad As Ag Ap Ax nn cn nd cd nd cs mg cg np cp nx cx ns ds s ls pr nm xs) := fun W' h => ⟨HZ.out _ (HA4.out _ (HA5.out _ h).1).1, (HA4.out _ (HA5.out _ h).1).2.2.1, HNZ.out⟩
  have HNT : Hid (∀ W', M5 W' → (Blk W' nb 26 #[.slice An nn cn, .slice Ad nd cd] ∧ Blk W' x7 29 #[.int .i64 co, .slice Ag mg cg, .slice Ap np cp]) ∧ Blk W' x8 34 #[.string nm, .slice Ax nx cx]) := fun W' h => ⟨⟨(HA3.out _ (HA4.out _ (HA5.out _ h).1).1).1.1.bx, (HA3.out _ (HA4.out _ (HA5.out _ h).1).1).2.1⟩, (HA4.out _ (HA5.out _ h).1).2.1⟩
  have HR1 := iD (tY An Ad As Ag Ap Ax none nn cn nd cd nd cs mg cg np cp nx cx 0 0 ns ds s ls pr co nm xs [] wb (HSS.out _ HM5.out) (Sl.nil _ _ _))
  have k0 := (HNT.out _ HM5.out).1.1.c0
  have k1 := (HNT.out _ HM5.out).1.1.c1
  have g0 := (HNT.out _ HM5.out).1.2.c0
  have g1 := (HNT.out _ HM5.out).1.2.c1
  have g2 := (HNT.out _ HM5.out).1.2.c2
  have p0 := (HNT.out _ HM5.out).2.c0
  have p1 := (HNT.out _ HM5.out).2.c1
  go_wp2_with fail
  clear k0 k1 g0 g1 g2 p0 p1
  refine HR1.out.mono ?_
  rintro e wc ⟨⟨h1, -⟩ | ⟨-, A1, A2, A3, A4, n1, c1, n2, c2, n3, c3, n4, c4, rfl, hR⟩, hbc⟩
  ·exact absurd HSM.out h1
  obtain ⟨R1, hR1⟩ : ∃ R, R = zc ns ds co [] 0 [] ⟨s, ls, pr⟩ xs := ⟨_, rfl⟩
  rw [← hR1] at hR ⊢
  have HRQ := iD hR1
  have HMc := iD (HK5.out.later HM5.out (hbc.out.alloc hbc.out.size (.cells #[.int .i64 co, .slice A3 n3 c3, .slice A4 n4 c4] 29)))
  have HRA := iD (hR.out.later ((Below.refl _ wc).alloc lR (.cells #[.int .i64 co, .slice A3 n3 c3, .slice A4 n4 c4] 29)))
  clear hR hbc HM5 HR1 hR1
  go_upto_region 10 with (fail)
  generalize World.alloc wc _ = wd at *
  generalize wc.heap.size = x10 at *
  have HR2 := iD (tY An Ad As Ag Ap Ax (some ⟨x9, 0, none⟩) nn cn nd cd nd cs mg cg np cp nx cx 1 1 ns ds s ls pr co nm xs [r] wd (HSS.out _ HMc.out) (HA5.out _ HMc.out).2.1.1)
  have k0 := (HNT.out _ HMc.out).1.1.c0
  have k1 := (HNT.out _ HMc.out).1.1.c1
  have g0 := (HNT.out _ HMc.out).1.2.c0
  have g1 := (HNT.out _ HMc.out).1.2.c1
  have g2 := (HNT.out _ HMc.out).1.2.c2
  have p0 := (HNT.out _ HMc.out).2.c0
  have p1 := (HNT.out _ HMc.out).2.c1
  go_wp2_with fail
  clear k0 k1 g0 g1 g2 p0 p1
  refine HR2.out.mono ?_
  rintro e we ⟨⟨h1, -⟩ | ⟨-, B1, B2, B3, B4, m1, d1, m2, d2, m3, d3, m4, d4, rfl, hR⟩, hbe⟩
  ·exact absurd HSM.out h1
  obtain ⟨R2, hR2⟩ : ∃ R, R = zc ns ds co [r] 0 [] ⟨s, ls, pr⟩ xs := ⟨_, rfl⟩
  rw [← hR2] at hR ⊢
  have HRQ2 := iD hR2
  have HSX : Hid (SsM M5 we.heap.size A1 A2 A3 A4 B1 B2 B3 B4 n1 c1 n2 c2 n3 c3 n4 c4 m1 d1 m2 d2 m3 d3 m4 d4 co R1.1 R2.1 R1.2.1 R2.2.1 (we.alloc (.cells #[.int .i64 co, .slice B3 m3 d3, .slice B4 m4 d4] 29))) :=
   ⟨HK5.out.later HMc.out (hbe.out.alloc hbe.out.size _), HRA.out.later (hbe.out.alloc hbe.out.size _), hR.out.later ((Below.refl _ we).alloc lR _), Blk.new _ _ _⟩
  clear hR hbe HMc HR2 HRA hR2
  go_upto_region 11 with (fail)
  generalize World.alloc we _ = wf at *
  generalize we.heap.size = x11 at *
  have HCP := iD (rK (ns := ns) (ds := ds) (co := co) (stk := [r]) xs 0 [] ⟨s, ls, pr⟩)
  have HGE := iD (vJ (ns := ns) (ds := ds) (co := co) (stk := []) xs 0 [] ⟨s, ls, pr⟩)
  obtain ⟨o1, t1, kk⟩ := R1
  obtain ⟨o2, t2, jj⟩ := R2
  have HCP2 : Hid (jj ≤ kk ∧ o2 <+: o1 ∧ (jj = kk ∨ ∃ y, xs[jj]? = some y ∧ y.dev ∈ [r]) ∧ kk ≤ nx) := by
   have h := HCP.out; have h2 := HGE.out
   rw [← HRQ2.out, ← HRQ.out] at h
   rw [← HRQ.out] at h2
   exact ⟨h.1, h.2.1, h.2.2, by have := HSPS.out.2; have := h2.2; dsimp only at this; omega⟩
  dsimp only at HSX ⊢
  have hjk : jj ≤ kk := HCP2.out.1
  have hkn : kk ≤ nx := HCP2.out.2.2.2
  have hl1 : o1.length = n1 := HSX.out.a.o.len (fun _ => rfl) (by decide)
  have hl2 : o2.length = m1 := HSX.out.b.o.len (fun _ => rfl) (by decide)
  have hm1 : m1 ≤ n1 := by have := HCP2.out.2.1.length_le; omega
  have hcc := HSX.out.a.o.le
  have hcb := HSX.out.b.o.le
  have q1 : decide ((jj : Int) > (kk : Int)) = false := by simp; omega
  have q2 : decide ((m1 : Int) > (n1 : Int)) = false := by simp; omega
  have q3 : decide (kk < jj) = false := by simp; omega
  have q4 : decide (n1 < m1) = false := by simp; omega
  clear HCP HGE
  go_wp2_with fail
  have HPF : Hid (o2 = o1.take m1) := by
   have h := List.prefix_iff_eq_take.1 HCP2.out.2.1
   rw [hl2] at h; exact h
  refine (nV B1 A1 m1 d1 m1 c1 wf.heap.size wf.heap.size o2 (o1.take m1) wf HSX.out.b.o (by have := HSX.out.a.o.front hm1; rwa [rX (f := Fn.cells) (size := 2) (fun _ => rfl)] at this) lR lR).mono ?_
  rintro e wg ⟨rfl, hbg⟩
  rw [nE (p := o2 = o1.take m1) HPF.out]
  have HSX := iD (SsM.later HK5.out HSX.out hbg)
  clear hbg q1 q2 q3 q4 hm1 hcc hcb hl1 hl2 HPF
  go_upto_region 13 with (fail)
  obtain ⟨MS, hMS⟩ : ∃ MS : World → Prop, MS = SsM M5 x11 A1 A2 A3 A4 B1 B2 B3 B4 n1 c1 n2 c2 n3 c3 n4 c4 m1 d1 m2 d2 m3 d3 m4 d4 co o1 o2 t1 t2 := ⟨_, rfl⟩
  have HKS : Hid (∀ wr wr' : World, MS wr → Below wr.heap.size wr wr' → MS wr') := fun wr wr' h hb => by rw [hMS] at h ⊢; exact SsM.later HK5.out h hb
  have HAS : Hid (∀ W', MS W' → SsA M3 M5 nb x7 x8 x9 x11 An Ad Ag Ap Ax A1 A2 A3 A4 B1 B2 B3 B4 nn cn nd cd mg cg np cp nx cx n1 c1 n2 c2 n3 c3 n4 c4 m1 d1 m2 d2 m3 d3 m4 d4 co r nm xs o1 o2 t1 t2 W') := fun W' h => by
   rw [hMS] at h
   exact ⟨(HA4.out _ (HA5.out _ h.m).1).1, (HNT.out _ h.m).1.1, (HNT.out _ h.m).1.2, (HNT.out _ h.m).2, (HA5.out _ h.m).2.2, (HA4.out _ (HA5.out _ h.m).1).2.2.1, h⟩
  have HMS6 : Hid (MS wg) := by unfold Hid; rw [hMS]; exact HSX.out
  clear hMS HSX HRQ
  refine nO [(10, 0), (0, 1), (6, 0), (0, 2), (0, 3), (0, 1), (4, 0), (142, 1)] (StC wg co s ls pr nd mg np) ?rest0 ?first0
  case first0 =>
   intro Jc0 Kc0 hJc0 hKc0
   have HBW : Hid (Below wg.heap.size wg wg.drew) := (Below.refl _ _).drew
   have hnd2 := (HZ.out _ (HAS.out _ HMS6.out).mm).hs.le
   refine zD (S := MS) (J := [6]) (by kernel_rfl) ?_ (fun AA => ?_)
   ·exact HKS.out _ _ HMS6.out (Below.refl _ _).drew
   try dsimp only at AA
   refine tk 0 103 (mf 7 1) AA ?_
   refine tx 2 105 ?_ (ma 7 5) ?_ AA ?_
   rotate_left
   ·(intro w hSw; (try dsimp only at hSw); have u0 := (HAS.out _ hSw).g.cell 0; have u1 := (HAS.out _ hSw).g.cell 1; have u2 := (HAS.out _ hSw).g.cell 2; go_simp; try with_reducible rfl)
   try simp only [Act.put, sA, sB, sC]
   refine yI (i := 1) (k := 4) (mf 7 3) (ma 7 21) (by kernel_rfl) (by kernel_rfl) (by kernel_rfl) rfl rfl (fun K hK => ?_) (fun K hK => ?_)
   ·(refine zo (d := some 104) (by rfl) (by rfl) _ (.tmp 103) (by rfl) wF (by rfl) (World.ownsRow_nil _ wg.drew.heap.size _ _) (by rfl) (HZ.out _ (HAS.out _ AA).mm).hs (wM _) (by omega) (by omega) lR ?_; intro D1 f1 wh hown1 hgr1 hat1; simp only [Nat.zero_add, List.nil_append] at hown1 hgr1 hat1 ⊢; have HO1 := iD hown1; have HDD : Hid (Below wg.drew.heap.size wg.drew wh) := zU hgr1; clear hown1 hgr1 hat1)
    refine hK.out _ _ (fun _ => ?_) (fun AA' => ?_)
    ·exact HKS.out _ _ AA HDD.out
    replace AA := AA' rfl
    clear AA' hK K
    try dsimp only at AA
    have HBW := iD (HBW.out.trans (HDD.out.mono HBW.out.size))
    clear HDD
    refine yI (i := 3) (k := 4) (mf 7 4) (ma 7 23) (by kernel_rfl) (by kernel_rfl) (by kernel_rfl) rfl rfl (fun K hK => ?_) (fun K hK => ?_)
    ·(go_simp; refine (uk Ag Ap mg cg np cp _ co ls pr wh (HZ.out _ (HAS.out _ AA).mm).hl (HZ.out _ (HAS.out _ AA).mm).hp lR (by omega) (by omega)).mono ?_; rintro e wi ⟨D3, D4, f3, f4, rfl, hO3, hO4, hb2⟩; have HO3 := iD hO3.out; have HO4 := iD hO4.out; have HDD := iD hb2.out; clear hO3 hO4 hb2; go_simp)
     refine hK.out _ _ (fun _ => ?_) (fun AA' => ?_)
     ·exact HKS.out _ _ AA HDD.out
     replace AA := AA' rfl
     clear AA' hK K
     try dsimp only at AA
     have HBW := iD (HBW.out.trans (HDD.out.mono HBW.out.size))
     have HO1 := iD (za HO1.out HDD.out)
     clear HDD
     refine tb 4 (mf 7 5) fun K hK => ?_
     go_simp
     refine hK.out _ _ (fun _ => ?_) (fun AA' => ?_)
     ·exact HKS.out _ _ AA ((Below.refl wi.heap.size wi).alloc lR (.cells #[.int .i64 0, .slice none 0 0, .slice none 0 0] 29))
     replace AA := AA' rfl
     clear AA' hK K
     try dsimp only at AA
     have HDD : Hid (Below wi.heap.size wi (wi.alloc (.cells #[.int .i64 0, .slice none 0 0, .slice none 0 0] 29))) := ((Below.refl wi.heap.size wi).alloc lR (.cells #[.int .i64 0, .slice none 0 0, .slice none 0 0] 29))
     have HXN : Hid (Blk (wi.alloc (.cells #[.int .i64 0, .slice none 0 0, .slice none 0 0] 29)) wi.heap.size 29 #[.int .i64 0, .slice none 0 0, .slice none 0 0]) := Blk.new wi _ _
     have HXG : Hid (wg.heap.size ≤ wi.heap.size) := HBW.out.size
     have HBW := iD (HBW.out.trans (HDD.out.mono HBW.out.size))
     have HO1 := iD (za HO1.out HDD.out)
     have HO3 := iD (za HO3.out HDD.out)
     have HO4 := iD (za HO4.out HDD.out)
     generalize World.alloc wi _ = wx at *
     obtain ⟨x20, hx20⟩ : ∃ x, x = wi.heap.size := ⟨_, rfl⟩
     have HX : Hid (Blk wx x20 29 #[.int .i64 0, .slice none 0 0, .slice none 0 0]) := by rw [hx20]; exact HXN.out
     have HXL : Hid (wg.heap.size ≤ x20) := by unfold Hid; rw [hx20]; exact HXG.out
     try rw [← hx20]
     clear hx20 HXN HXG HDD
     refine tk 5 19 (mf 7 6) AA ?_
     have HTT := iD AA
     have z0 := HX.out.cell 0; have z1 := HX.out.cell 1; have z2 := HX.out.cell 2; have y0 := HX.out.frozen 0; have y1 := HX.out.frozen 1; have y2 := HX.out.frozen 2
     refine tb 6 (mf 7 7) fun K hK => ?_
     go_simp
     refine hK.out _ _ (fun h => by cases h) (fun _ => ?_)
     try clear AA
     clear hK K
     refine zC (by kernel_rfl) ?_ _
     have HEA : Hid (StA x20 co D1 D3 D4 nd f1 mg f3 np f4 ⟨s, ls, pr⟩ (((wx.setCell ⟨x20, 0, none⟩ (.int .i64 co)).setCell ⟨x20, 1, none⟩ (.slice D3 mg f3)).setCell ⟨x20, 2, none⟩ (.slice D4 np f4))) := StA.new HX.out HO1.out HO3.out HO4.out
     have HEB : Hid (Below wg.heap.size wg (((wx.setCell ⟨x20, 0, none⟩ (.int .i64 co)).setCell ⟨x20, 1, none⟩ (.slice D3 mg f3)).setCell ⟨x20, 2, none⟩ (.slice D4 np f4))) := ((HBW.out.setCell HXL.out _).setCell HXL.out _).setCell HXL.out _
     clear z0 z1 z2 y0 y1 y2
     generalize World.setCell (World.setCell (World.setCell wx _ _) _ _) _ _ = wz at *
     go_wp2_with fail
     refine Met.intro (hJc0 _ _ (ol.back 19 20 ?_ (by kernel_rfl)))
     try dsimp only [gt]
     exact ⟨x20, f1, f3, f4, D1, D3, D4, rfl, rfl, HEA, HEB, HXL⟩
    ·go_simp
     refine hK.out _ _ (fun _ => ?_) (fun AA' => ?_)
     ·exact HKS.out _ _ AA ((Below.refl wh.heap.size wh).alloc lR (.cells #[.int .i64 0, .slice none 0 0, .slice none 0 0] 29))
     replace AA := AA' rfl
     clear AA' hK K
     try dsimp only at AA
     have HDD : Hid (Below wh.heap.size wh (wh.alloc (.cells #[.int .i64 0, .slice none 0 0, .slice none 0 0] 29))) := ((Below.refl wh.heap.size wh).alloc lR (.cells #[.int .i64 0, .slice none 0 0, .slice none 0 0] 29))
     have HXN : Hid (Blk (wh.alloc (.cells #[.int .i64 0, .slice none 0 0, .slice none 0 0] 29)) wh.heap.size 29 #[.int .i64 0, .slice none 0 0, .slice none 0 0]) := Blk.new wh _ _
     have HXG : Hid (wg.heap.size ≤ wh.heap.size) := HBW.out.size
     have HBW := iD (HBW.out.trans (HDD.out.mono HBW.out.size))
     have HO1 := iD (za HO1.out HDD.out)
     generalize World.alloc wh _ = wx at *
     obtain ⟨x20, hx20⟩ : ∃ x, x = wh.heap.size := ⟨_, rfl⟩
     have HX : Hid (Blk wx x20 29 #[.int .i64 0, .slice none 0 0, .slice none 0 0]) := by rw [hx20]; exact HXN.out
     have HXL : Hid (wg.heap.size ≤ x20) := by unfold Hid; rw [hx20]; exact HXG.out
     try rw [← hx20]
     clear hx20 HXN HXG HDD
     refine tb 3 (mf 7 5) fun K hK => ?_
     (go_simp; refine (uk Ag Ap mg cg np cp _ co ls pr wx (HZ.out _ (HAS.out _ AA).mm).hl (HZ.out _ (HAS.out _ AA).mm).hp lR (by omega) (by omega)).mono ?_; rintro e wi ⟨D3, D4, f3, f4, rfl, hO3, hO4, hb2⟩; have HO3 := iD hO3.out; have HO4 := iD hO4.out; have HDD := iD hb2.out; clear hO3 hO4 hb2; go_simp)
     refine hK.out _ _ (fun _ => ?_) (fun AA' => ?_)
     ·exact HKS.out _ _ AA HDD.out
     replace AA := AA' rfl
     clear AA' hK K
     try dsimp only at AA
     have HBW := iD (HBW.out.trans (HDD.out.mono HBW.out.size))
     have HO1 := iD (za HO1.out HDD.out)
     have HX := iD (HX.out.below HDD.out HX.out.lt)
     clear HDD
     refine tk 5 19 (mf 7 6) AA ?_
     have HTT := iD AA
     have z0 := HX.out.cell 0; have z1 := HX.out.cell 1; have z2 := HX.out.cell 2; have y0 := HX.out.frozen 0; have y1 := HX.out.frozen 1; have y2 := HX.out.frozen 2
     refine tb 6 (mf 7 7) fun K hK => ?_
     go_simp
     refine hK.out _ _ (fun h => by cases h) (fun _ => ?_)
     try clear AA
     clear hK K
     refine zC (by kernel_rfl) ?_ _
     have HEA : Hid (StA x20 co D1 D3 D4 nd f1 mg f3 np f4 ⟨s, ls, pr⟩ (((wi.setCell ⟨x20, 0, none⟩ (.int .i64 co)).setCell ⟨x20, 1, none⟩ (.slice D3 mg f3)).setCell ⟨x20, 2, none⟩ (.slice D4 np f4))) := StA.new HX.out HO1.out HO3.out HO4.out
     have HEB : Hid (Below wg.heap.size wg (((wi.setCell ⟨x20, 0, none⟩ (.int .i64 co)).setCell ⟨x20, 1, none⟩ (.slice D3 mg f3)).setCell ⟨x20, 2, none⟩ (.slice D4 np f4))) := ((HBW.out.setCell HXL.out _).setCell HXL.out _).setCell HXL.out _
     clear z0 z1 z2 y0 y1 y2
     generalize World.setCell (World.setCell (World.setCell wi _ _) _ _) _ _ = wz at *
     go_wp2_with fail
     refine Met.intro (hJc0 _ _ (ol.back 19 20 ?_ (by kernel_rfl)))
     try dsimp only [gt]
     exact ⟨x20, f1, f3, f4, D1, D3, D4, rfl, rfl, HEA, HEB, HXL⟩
   ·go_simp
    refine hK.out _ _ (fun _ => ?_) (fun AA' => ?_)
    ·exact HKS.out _ _ HMS6.out ((Below.refl wg.heap.size wg).alloc lR (.cells #[.int .i64 0, .slice none 0 0, .slice none 0 0] 29)).drew
    replace AA := AA' rfl
    clear AA' hK K
    try dsimp only at AA
    have HDD : Hid (Below wg.heap.size wg (wg.alloc (.cells #[.int .i64 0, .slice none 0 0, .slice none 0 0] 29)).drew) := ((Below.refl wg.heap.size wg).alloc lR (.cells #[.int .i64 0, .slice none 0 0, .slice none 0 0] 29)).drew
    have HXN : Hid (Blk (wg.alloc (.cells #[.int .i64 0, .slice none 0 0, .slice none 0 0] 29)).drew wg.heap.size 29 #[.int .i64 0, .slice none 0 0, .slice none 0 0]) := Blk.new wg _ _
    have HXG : Hid (wg.heap.size ≤ wg.heap.size) := HBW.out.size
    have HBW := HDD
    generalize World.drew (World.alloc wg _) = wx at *
    obtain ⟨x20, hx20⟩ : ∃ x, x = wg.heap.size := ⟨_, rfl⟩
    have HX : Hid (Blk wx x20 29 #[.int .i64 0, .slice none 0 0, .slice none 0 0]) := by rw [hx20]; exact HXN.out
    have HXL : Hid (wg.heap.size ≤ x20) := by unfold Hid; rw [hx20]; exact HXG.out
    try rw [← hx20]
    clear hx20 HXN HXG HDD
    refine tb 1 (ma 7 23) fun K hK => ?_
    (refine zo (d := some 104) (by rfl) (by rfl) _ (.tmp 103) (by rfl) wF (by rfl) (World.ownsRow_nil _ wx.heap.size _ _) (by rfl) (HZ.out _ (HAS.out _ AA).mm).hs (wM _) (by omega) (by omega) lR ?_; intro D1 f1 wh hown1 hgr1 hat1; simp only [Nat.zero_add, List.nil_append] at hown1 hgr1 hat1 ⊢; have HO1 := iD hown1; have HDD : Hid (Below wx.heap.size wx wh) := zU hgr1; clear hown1 hgr1 hat1)
    refine hK.out _ _ (fun _ => ?_) (fun AA' => ?_)
    ·exact HKS.out _ _ AA HDD.out
    replace AA := AA' rfl
    clear AA' hK K
    try dsimp only at AA
    have HBW := iD (HBW.out.trans (HDD.out.mono HBW.out.size))
    have HX := iD (HX.out.below HDD.out HX.out.lt)
    clear HDD
    refine tb 3 (mf 7 5) fun K hK => ?_
    (go_simp; refine (uk Ag Ap mg cg np cp _ co ls pr wh (HZ.out _ (HAS.out _ AA).mm).hl (HZ.out _ (HAS.out _ AA).mm).hp lR (by omega) (by omega)).mono ?_; rintro e wi ⟨D3, D4, f3, f4, rfl, hO3, hO4, hb2⟩; have HO3 := iD hO3.out; have HO4 := iD hO4.out; have HDD := iD hb2.out; clear hO3 hO4 hb2; go_simp)
    refine hK.out _ _ (fun _ => ?_) (fun AA' => ?_)
    ·exact HKS.out _ _ AA HDD.out
    replace AA := AA' rfl
    clear AA' hK K
    try dsimp only at AA
    have HBW := iD (HBW.out.trans (HDD.out.mono HBW.out.size))
    have HO1 := iD (za HO1.out HDD.out)
    have HX := iD (HX.out.below HDD.out HX.out.lt)
    clear HDD
    refine tk 5 19 (mf 7 6) AA ?_
    have HTT := iD AA
    have z0 := HX.out.cell 0; have z1 := HX.out.cell 1; have z2 := HX.out.cell 2; have y0 := HX.out.frozen 0; have y1 := HX.out.frozen 1; have y2 := HX.out.frozen 2
    refine tb 6 (mf 7 7) fun K hK => ?_
    go_simp
    refine hK.out _ _ (fun h => by cases h) (fun _ => ?_)
    try clear AA
    clear hK K
    refine zC (by kernel_rfl) ?_ _
    have HEA : Hid (StA x20 co D1 D3 D4 nd f1 mg f3 np f4 ⟨s, ls, pr⟩ (((wi.setCell ⟨x20, 0, none⟩ (.int .i64 co)).setCell ⟨x20, 1, none⟩ (.slice D3 mg f3)).setCell ⟨x20, 2, none⟩ (.slice D4 np f4))) := StA.new HX.out HO1.out HO3.out HO4.out
    have HEB : Hid (Below wg.heap.size wg (((wi.setCell ⟨x20, 0, none⟩ (.int .i64 co)).setCell ⟨x20, 1, none⟩ (.slice D3 mg f3)).setCell ⟨x20, 2, none⟩ (.slice D4 np f4))) := ((HBW.out.setCell HXL.out _).setCell HXL.out _).setCell HXL.out _
    clear z0 z1 z2 y0 y1 y2
    generalize World.setCell (World.setCell (World.setCell wi _ _) _ _) _ _ = wz at *
    go_wp2_with fail
    refine Met.intro (hJc0 _ _ (ol.back 19 20 ?_ (by kernel_rfl)))
    try dsimp only [gt]
    exact ⟨x20, f1, f3, f4, D1, D3, D4, rfl, rfl, HEA, HEB, HXL⟩
  case rest0 =>
   intro uc0 p19 p20 wc a hcut ha
   dsimp only [ze, Go.Proofs.YtddddlhgaeameaaGreatDoor.v2, Nat.reduceAdd] at ha
   subst ha
   obtain ⟨x20, f1, f3, f4, D1, D3, D4, rfl, rfl, HEA, HEB, HXL⟩ := hcut
   have HST0 : Hid (uO ns ds ⟨s, ls, pr⟩) := (uU HSM.out).1
   go_upto_region 15 with (fail)
   refine ta [(1, 0), (0, 1), (15, 0), (0, 2), (0, 0), (0, 3), (4, 1), (79, 0), (27, 1), (34, 0)] 19 21 (jj) (StR wg x20 ns ds co r xs (o2, t2, jj) jj) (by (try dsimp only [gt]); exact ⟨0, nd, f1, mg, f3, np, f4, D1, D3, D4, ⟨s, ls, pr⟩, [], rfl, rfl, Nat.zero_le _, rfl, HEA, HEB, HRQ2.out.symm, HST0⟩) (by kernel_rfl) ?_
   intro u1 p19 p21 gk wr a hrel ha J1 K1 hJ1 hK1
   dsimp only [ze, Go.Proofs.YtddddlhgaeameaaGreatDoor.v2, Nat.reduceAdd] at ha
   subst ha
   clear HEA HEB HST0
   obtain ⟨i, e1, f1, e3, f3, e4, f4, D1, D3, D4, t, out, rfl, rfl, hij, rfl, HSTR, HBR, HRUN, HSMO⟩ := hrel
   have HMSR : Hid (MS wr) := HKS.out _ _ HMS6.out HBR.out
   by_cases hlt : i < jj; rotate_left
   ·obtain rfl : i = jj := by omega
    have HTE : Hid (t2 = t) := nU HRUN.out rfl
    have hii : decide ((i : Int) < (i : Int)) = false := by simp
    have hii2 : decide (i < i) = false := by simp
    go_upto_region 21 with (fail)
    clear hii hii2
    rcases HCP2.out.2.2.1 with hk | ⟨y, hy, hyd⟩
    ·obtain rfl : i = kk := hk
     refine zD (S := fun W' => (MS W' ∧ StA x20 co D1 D3 D4 e1 f1 e3 f3 e4 f4 t W')) (J := []) (by kernel_rfl) ?_ (fun AA => ?_)
     ·exact ⟨HKS.out _ _ HMSR.out (Below.refl _ _).drew, HSTR.out.later (Below.refl _ _).drew⟩
     try dsimp only at AA
     refine tk 0 135 (mf 36 1) AA ?_
     refine tk 1 136 (mf 36 2) AA ?_
     refine tb 2 (mf 36 3) fun K hK => ?_
     (go_simp; refine (wO D1 B2 e1 f1 m2 d2 _ _ t.s t2.s _ AA.2.s (HAS.out _ AA.1).x.b.s lR lR).mono ?_; rintro e wh ⟨rfl, hbw⟩; rw [nE (p := t.s = t2.s) (by rw [HTE.out])]; have HDD := iD hbw; clear hbw; go_simp)
     refine hK.out _ _ (fun _ => ?_) (fun AA' => ?_)
     ·exact ⟨HKS.out _ _ AA.1 HDD.out, AA.2.later HDD.out⟩
     replace AA := AA' rfl
     clear AA' hK K
     try dsimp only at AA
     clear HDD
     refine tk 3 138 (mf 36 4) AA ?_
     refine tx 4 139 ?_ (mf 36 5) ?_ AA ?_
     rotate_left
     ·(intro w hSw; (try dsimp only at hSw); have u0 := hSw.2.bx.cell 0; have u1 := hSw.2.bx.cell 1; have u2 := hSw.2.bx.cell 2; go_simp; try with_reducible rfl)
     try simp only [Act.put, sA, sB, sC]
     refine tx 5 140 ?_ (mf 36 6) ?_ AA ?_
     rotate_left
     ·(intro w hSw; (try dsimp only at hSw); have u0 := (HAS.out _ hSw.1).x.bb.cell 0; have u1 := (HAS.out _ hSw.1).x.bb.cell 1; have u2 := (HAS.out _ hSw.1).x.bb.cell 2; go_simp; try with_reducible rfl)
     try simp only [Act.put, sA, sB, sC]
     refine tb 6 (mf 36 7) fun K hK => ?_
     (go_simp; refine (uj D3 D4 B3 B4 e3 f3 e4 f4 m3 d3 m4 d4 co co t.ls t2.ls t.pr t2.pr _ AA.2.l AA.2.p (HAS.out _ AA.1).x.b.l (HAS.out _ AA.1).x.b.p).mono ?_; rintro e wi ⟨rfl, hbw⟩; rw [kx (show t.ls = t2.ls by rw [HTE.out]) (show t.pr = t2.pr by rw [HTE.out])]; have HDD := iD hbw; clear hbw; go_simp)
     refine hK.out _ _ (fun _ => ?_) (fun AA' => ?_)
     ·exact ⟨HKS.out _ _ AA.1 HDD.out, AA.2.later HDD.out⟩
     replace AA := AA' rfl
     clear AA' hK K
     try dsimp only at AA
     clear HDD
     refine tk 7 142 (mf 36 8) AA ?_
     refine tk 8 143 (mf 36 9) AA ?_
     refine tk 9 144 (mf 36 10) AA ?_
     refine tk 10 145 (mf 36 11) AA ?_
     refine tk 11 146 (mf 36 12) AA ?_
     refine tk 12 147 (mf 36 13) AA ?_
     refine ts 13 148 (mf 36 14) AA ?_
     refine ts 14 149 (mf 36 15) AA ?_
     refine ts 15 150 (mf 36 16) AA ?_
     refine ts 16 151 (mf 36 17) AA ?_
     refine ts 17 152 (mf 36 18) AA ?_
     refine ts 18 153 (mf 36 19) AA ?_
     refine ts 19 154 (mf 36 20) AA ?_
     refine ts 20 155 (mf 36 21) AA ?_
     refine ts 21 156 (mf 36 22) AA ?_
     refine ts 22 157 (mf 36 23) AA ?_
     refine ts 23 158 (mf 36 24) AA ?_
     refine ts 24 159 (mf 36 25) AA ?_
     refine ts 25 160 (mf 36 26) AA ?_
     refine ts 26 161 (mf 36 27) AA ?_
     refine ts 27 162 (mf 36 28) AA ?_
     refine ts 28 163 (mf 36 29) AA ?_
     refine ts 29 164 (mf 36 30) AA ?_
     refine tk 30 165 (mf 36 31) AA ?_
     refine tk 31 166 (mf 36 32) AA ?_
     refine tk 32 167 (mf 36 33) AA ?_
     refine tb 33 (mf 36 34) fun K hK => ?_
     (go_simp; refine (vm _ (HZ.out _ (HAS.out _ AA.1).mm).la).mono ?_; rintro e wz ⟨rfl, hbw⟩; have HDD := iD hbw; clear hbw; go_simp)
     refine hK.out _ _ (fun _ => ?_) (fun AA' => ?_)
     ·exact ⟨HKS.out _ _ AA.1 HDD.out, AA.2.later HDD.out⟩
     replace AA := AA' rfl
     clear AA' hK K
     try dsimp only at AA
     clear HDD
     refine tk 34 169 (mf 36 35) AA ?_
     refine tk 35 2 (mf 36 36) AA ?_
     refine zC (by kernel_rfl) ?_ _
     have HEND21 := iD (HA3.out _ (HAS.out _ AA.1).mm).1.1.bl
     clear AA
     go_wp2_with fail
     go_ret
     exact ⟨rfl, HEND21.out⟩
    ·have HYX := iD hy
     have hin : i < nx := by have := (List.getElem?_eq_some_iff.1 hy).1; have := HSPS.out.2; omega
     obtain ⟨be, oe, x, hAe, hbe, hx, hc⟩ := (HAS.out _ HMSR.out).x5.at (fun _ => rfl) (by decide) hin
     rw [hy] at hx
     obtain rfl := Option.some.inj hx
     have HSPR : Hid (oc be (oe + i * 5) y.kind y.dev y.node y.pos y.key wr) := ⟨hc 0 _ rfl, hc 1 _ rfl, hc 2 _ rfl, hc 3 _ rfl, hc 4 _ rfl⟩
     have hyr : y.dev = r := by simpa using hyd
     rw [hyr] at HSPR
     clear hy hyd hbe hx hc hyr
     subst hAe
     by_cases hkk : i = kk
     ·obtain rfl : i = kk := hkk
      refine zD (S := fun W' => (MS W' ∧ StA x20 co D1 D3 D4 e1 f1 e3 f3 e4 f4 t W')) (J := []) (by kernel_rfl) ?_ (fun AA => ?_)
      ·exact ⟨HKS.out _ _ HMSR.out (Below.refl _ _).drew, HSTR.out.later (Below.refl _ _).drew⟩
      try dsimp only at AA
      refine tk 0 135 (mf 36 1) AA ?_
      refine tk 1 136 (mf 36 2) AA ?_
      refine tb 2 (mf 36 3) fun K hK => ?_
      (go_simp; refine (wO D1 B2 e1 f1 m2 d2 _ _ t.s t2.s _ AA.2.s (HAS.out _ AA.1).x.b.s lR lR).mono ?_; rintro e wh ⟨rfl, hbw⟩; rw [nE (p := t.s = t2.s) (by rw [HTE.out])]; have HDD := iD hbw; clear hbw; go_simp)
      refine hK.out _ _ (fun _ => ?_) (fun AA' => ?_)
      ·exact ⟨HKS.out _ _ AA.1 HDD.out, AA.2.later HDD.out⟩
      replace AA := AA' rfl
      clear AA' hK K
      try dsimp only at AA
      clear HDD
      refine tk 3 138 (mf 36 4) AA ?_
      refine tx 4 139 ?_ (mf 36 5) ?_ AA ?_
      rotate_left
      ·(intro w hSw; (try dsimp only at hSw); have u0 := hSw.2.bx.cell 0; have u1 := hSw.2.bx.cell 1; have u2 := hSw.2.bx.cell 2; go_simp; try with_reducible rfl)
      try simp only [Act.put, sA, sB, sC]
      refine tx 5 140 ?_ (mf 36 6) ?_ AA ?_
      rotate_left
      ·(intro w hSw; (try dsimp only at hSw); have u0 := (HAS.out _ hSw.1).x.bb.cell 0; have u1 := (HAS.out _ hSw.1).x.bb.cell 1; have u2 := (HAS.out _ hSw.1).x.bb.cell 2; go_simp; try with_reducible rfl)
      try simp only [Act.put, sA, sB, sC]
      refine tb 6 (mf 36 7) fun K hK => ?_
      (go_simp; refine (uj D3 D4 B3 B4 e3 f3 e4 f4 m3 d3 m4 d4 co co t.ls t2.ls t.pr t2.pr _ AA.2.l AA.2.p (HAS.out _ AA.1).x.b.l (HAS.out _ AA.1).x.b.p).mono ?_; rintro e wi ⟨rfl, hbw⟩; rw [kx (show t.ls = t2.ls by rw [HTE.out]) (show t.pr = t2.pr by rw [HTE.out])]; have HDD := iD hbw; clear hbw; go_simp)
      refine hK.out _ _ (fun _ => ?_) (fun AA' => ?_)
      ·exact ⟨HKS.out _ _ AA.1 HDD.out, AA.2.later HDD.out⟩
      replace AA := AA' rfl
      clear AA' hK K
      try dsimp only at AA
      clear HDD
      refine tk 7 142 (mf 36 8) AA ?_
      refine tk 8 143 (mf 36 9) AA ?_
      refine tk 9 144 (mf 36 10) AA ?_
      refine tk 10 145 (mf 36 11) AA ?_
      refine tk 11 146 (mf 36 12) AA ?_
      refine tk 12 147 (mf 36 13) AA ?_
      refine ts 13 148 (mf 36 14) AA ?_
      refine ts 14 149 (mf 36 15) AA ?_
      refine ts 15 150 (mf 36 16) AA ?_
      refine ts 16 151 (mf 36 17) AA ?_
      refine ts 17 152 (mf 36 18) AA ?_
      refine ts 18 153 (mf 36 19) AA ?_
      refine ts 19 154 (mf 36 20) AA ?_
      refine ts 20 155 (mf 36 21) AA ?_
      refine ts 21 156 (mf 36 22) AA ?_
      refine ts 22 157 (mf 36 23) AA ?_
      refine ts 23 158 (mf 36 24) AA ?_
      refine ts 24 159 (mf 36 25) AA ?_
      refine ts 25 160 (mf 36 26) AA ?_
      refine ts 26 161 (mf 36 27) AA ?_
      refine ts 27 162 (mf 36 28) AA ?_
      refine ts 28 163 (mf 36 29) AA ?_
      refine ts 29 164 (mf 36 30) AA ?_
      refine tk 30 165 (mf 36 31) AA ?_
      refine tk 31 166 (mf 36 32) AA ?_
      refine tk 32 167 (mf 36 33) AA ?_
      refine tb 33 (mf 36 34) fun K hK => ?_
      (go_simp; refine (vm _ (HZ.out _ (HAS.out _ AA.1).mm).la).mono ?_; rintro e wz ⟨rfl, hbw⟩; have HDD := iD hbw; clear hbw; go_simp)
      refine hK.out _ _ (fun _ => ?_) (fun AA' => ?_)
      ·exact ⟨HKS.out _ _ AA.1 HDD.out, AA.2.later HDD.out⟩
      replace AA := AA' rfl
      clear AA' hK K
      try dsimp only at AA
      clear HDD
      refine tk 34 169 (mf 36 35) AA ?_
      refine tk 35 2 (mf 36 36) AA ?_
      refine zC (by kernel_rfl) ?_ _
      have HEND21 := iD (HA3.out _ (HAS.out _ AA.1).mm).1.1.bl
      clear AA
      go_wp2_with fail
      go_ret
      exact ⟨rfl, HEND21.out⟩
     have q1 : ((i : Int) == (kk : Int)) = false := by simp; omega
     have q2 : (i == kk) = false := by simp; omega
     refine zD (S := fun W' => (MS W' ∧ StA x20 co D1 D3 D4 e1 f1 e3 f3 e4 f4 t W') ∧ oc be (oe + i * 5) y.kind r y.node y.pos y.key W') (J := []) (by kernel_rfl) ?_ (fun AA => ?_)
     ·exact ⟨⟨HKS.out _ _ HMSR.out (Below.refl _ _).drew, HSTR.out.later (Below.refl _ _).drew⟩, HSPR.out.later (Below.refl _ _).drew⟩
     try dsimp only at AA
     refine tk 0 135 (mf 36 1) AA ?_
     refine tk 1 136 (mf 36 2) AA ?_
     refine tb 2 (mf 36 3) fun K hK => ?_
     (go_simp; refine (wO D1 B2 e1 f1 m2 d2 _ _ t.s t2.s _ AA.1.2.s (HAS.out _ AA.1.1).x.b.s lR lR).mono ?_; rintro e wh ⟨rfl, hbw⟩; rw [nE (p := t.s = t2.s) (by rw [HTE.out])]; have HDD := iD hbw; clear hbw; go_simp)
     refine hK.out _ _ (fun _ => ?_) (fun AA' => ?_)
     ·exact ⟨⟨HKS.out _ _ AA.1.1 HDD.out, AA.1.2.later HDD.out⟩, AA.2.later HDD.out⟩
     replace AA := AA' rfl
     clear AA' hK K
     try dsimp only at AA
     clear HDD
     refine tk 3 138 (mf 36 4) AA ?_
     refine tx 4 139 ?_ (mf 36 5) ?_ AA ?_
     rotate_left
     ·(intro w hSw; (try dsimp only at hSw); have u0 := hSw.1.2.bx.cell 0; have u1 := hSw.1.2.bx.cell 1; have u2 := hSw.1.2.bx.cell 2; go_simp; try with_reducible rfl)
     try simp only [Act.put, sA, sB, sC]
     refine tx 5 140 ?_ (mf 36 6) ?_ AA ?_
     rotate_left
     ·(intro w hSw; (try dsimp only at hSw); have u0 := (HAS.out _ hSw.1.1).x.bb.cell 0; have u1 := (HAS.out _ hSw.1.1).x.bb.cell 1; have u2 := (HAS.out _ hSw.1.1).x.bb.cell 2; go_simp; try with_reducible rfl)
     try simp only [Act.put, sA, sB, sC]
     refine tb 6 (mf 36 7) fun K hK => ?_
     (go_simp; refine (uj D3 D4 B3 B4 e3 f3 e4 f4 m3 d3 m4 d4 co co t.ls t2.ls t.pr t2.pr _ AA.1.2.l AA.1.2.p (HAS.out _ AA.1.1).x.b.l (HAS.out _ AA.1.1).x.b.p).mono ?_; rintro e wi ⟨rfl, hbw⟩; rw [kx (show t.ls = t2.ls by rw [HTE.out]) (show t.pr = t2.pr by rw [HTE.out])]; have HDD := iD hbw; clear hbw; go_simp)
     refine hK.out _ _ (fun _ => ?_) (fun AA' => ?_)
     ·exact ⟨⟨HKS.out _ _ AA.1.1 HDD.out, AA.1.2.later HDD.out⟩, AA.2.later HDD.out⟩
     replace AA := AA' rfl
     clear AA' hK K
     try dsimp only at AA
     clear HDD
     refine tk 7 142 (mf 36 8) AA ?_
     refine tk 8 143 (mf 36 9) AA ?_
     refine tk 9 144 (mf 36 10) AA ?_
     refine tk 10 145 (mf 36 11) AA ?_
     refine tk 11 146 (mf 36 12) AA ?_
     refine tk 12 147 (mf 36 13) AA ?_
     refine tk 13 148 (mf 36 14) AA ?_
     refine tk 14 149 (mf 36 15) AA ?_
     refine tx 15 150 ?_ (mf 36 16) ?_ AA ?_
     rotate_left
     ·(intro w hSw; (try dsimp only at hSw); have u0 := (HAS.out _ hSw.1.1).p.cell 1; go_simp; try with_reducible rfl)
     try simp only [Act.put, sA, sB, sC]
     refine tk 16 151 (mf 36 17) AA ?_
     refine tk 17 152 (mf 36 18) AA ?_
     refine tk 18 153 (mf 36 19) AA ?_
     refine tk 19 154 (mf 36 20) AA ?_
     refine tx 20 155 ?_ (mf 36 21) ?_ AA ?_
     rotate_left
     ·(intro w hSw; (try dsimp only at hSw); have u0 := (HAS.out _ hSw.1.1).p.cell 1; go_simp; try with_reducible rfl)
     try simp only [Act.put, sA, sB, sC]
     refine tk 21 156 (mf 36 22) AA ?_
     refine tk 22 157 (mf 36 23) AA ?_
     refine tk 23 158 (mf 36 24) AA ?_
     refine tx 24 159 ?_ (mf 36 25) ?_ AA ?_
     rotate_left
     ·(intro w hSw; (try dsimp only at hSw); have u0 := hSw.2.c1; go_simp; try with_reducible rfl)
     try simp only [Act.put, sA, sB, sC]
     refine tk 25 160 (mf 36 26) AA ?_
     refine tk 26 161 (mf 36 27) AA ?_
     refine tx 27 162 ?_ (mf 36 28) ?_ AA ?_
     rotate_left
     ·(intro w hSw; (try dsimp only at hSw); have u0 := (HAS.out _ hSw.1.1).k.cell 0; go_simp; try with_reducible rfl)
     try simp only [Act.put, sA, sB, sC]
     refine tk 28 163 (mf 36 29) AA ?_
     refine tk 29 164 (mf 36 30) AA ?_
     refine tk 30 165 (mf 36 31) AA ?_
     refine tk 31 166 (mf 36 32) AA ?_
     refine tk 32 167 (mf 36 33) AA ?_
     refine tb 33 (mf 36 34) fun K hK => ?_
     (go_simp; refine (vm _ (HZ.out _ (HAS.out _ AA.1.1).mm).la).mono ?_; rintro e wz ⟨rfl, hbw⟩; have HDD := iD hbw; clear hbw; go_simp)
     refine hK.out _ _ (fun _ => ?_) (fun AA' => ?_)
     ·exact ⟨⟨HKS.out _ _ AA.1.1 HDD.out, AA.1.2.later HDD.out⟩, AA.2.later HDD.out⟩
     replace AA := AA' rfl
     clear AA' hK K
     try dsimp only at AA
     clear HDD
     refine tk 34 169 (mf 36 35) AA ?_
     refine tk 35 2 (mf 36 36) AA ?_
     refine zC (by kernel_rfl) ?_ _
     have HEND21 := iD (HA3.out _ (HAS.out _ AA.1.1).mm).1.1.bl
     clear AA
     go_wp2_with fail
     go_ret
     exact ⟨rfl, HEND21.out⟩
   obtain ⟨sx, hsx, hok, hnx2⟩ := pn HRUN.out hlt
   have hin : i < nx := by omega
   have HNX := iD hnx2
   obtain ⟨be, oe, x, hAe, hbe, hx, hc⟩ := (HAS.out _ HMSR.out).x5.at (fun _ => rfl) (by decide) hin
   rw [hsx] at hx
   obtain rfl := Option.some.inj hx
   have HSP1 : Hid (zd ns.length ds.length sx = 0) := mR HSPS.out.1 sx (List.mem_of_getElem? hsx)
   obtain ⟨k, d, no, p, q⟩ := sx
   have HSPR : Hid (oc be (oe + i * 5) k d no p q wr) := ⟨hc 0 _ rfl, hc 1 _ rfl, hc 2 _ rfl, hc 3 _ rfl, hc 4 _ rfl⟩
   have HOK1 := iD hok
   have HSP : Hid (yo ns ds t.s co t.ls t.pr ⟨#[80]⟩ [⟨k, d, no, p, q⟩] = 0) := rP HSMO.out.s HCK.out hco HSMO.out.l HSMO.out.p (by decide) (by rw [zv, if_neg (by rw [HSP1.out]; simp)]; rfl) (by simp)
   clear hsx hok hnx2 hbe hx hc
   have hii : decide ((i : Int) < (jj : Int)) = true := by simp; omega
   have hii2 : decide (i < jj) = true := by simp; omega
   go_upto_region 17 with (fail)
   clear hii hii2
   subst hAe
   refine zD (S := fun W' => (MS W' ∧ StA x20 co D1 D3 D4 e1 f1 e3 f3 e4 f4 t W') ∧ oc be (oe + i * 5) k d no p q W') (J := []) (by kernel_rfl) ?_ (fun AA => ?_)
   ·exact ⟨⟨HKS.out _ _ HMSR.out (Below.refl _ _).drew, HSTR.out.later (Below.refl _ _).drew⟩, HSPR.out.later (Below.refl _ _).drew⟩
   try dsimp only at AA
   refine tx 0 113 ?_ (mf 21 1) ?_ AA ?_
   rotate_left
   ·(intro w hSw; (try dsimp only at hSw); have u0 := (HAS.out _ hSw.1.1).n.cell 0; have u1 := (HAS.out _ hSw.1.1).n.cell 1; go_simp; try with_reducible rfl)
   try simp only [Act.put, sA, sB, sC]
   refine tk 1 114 (mf 21 2) AA ?_
   refine tx 2 115 ?_ (mf 21 3) ?_ AA ?_
   rotate_left
   ·(intro w hSw; (try dsimp only at hSw); have u0 := hSw.1.2.bx.cell 0; have u1 := hSw.1.2.bx.cell 1; have u2 := hSw.1.2.bx.cell 2; go_simp; try with_reducible rfl)
   try simp only [Act.put, sA, sB, sC]
   refine tk 3 116 (mf 21 4) AA ?_
   refine tx 4 117 ?_ (mf 21 5) ?_ AA ?_
   rotate_left
   ·(intro w hSw; (try dsimp only at hSw); have u0 := (HAS.out _ hSw.1.1).p.cell 1; go_simp; try with_reducible rfl)
   try simp only [Act.put, sA, sB, sC]
   refine tk 5 118 (mf 21 6) AA ?_
   refine tk 6 119 (mf 21 7) AA ?_
   refine tx 7 120 ?_ (mf 21 8) ?_ AA ?_
   rotate_left
   ·(intro w hSw; (try dsimp only at hSw); have u0 := hSw.2.c0; have u1 := hSw.2.c1; have u2 := hSw.2.c2; have u3 := hSw.2.c3; have u4 := hSw.2.c4; go_simp; try with_reducible rfl)
   try simp only [Act.put, sA, sB, sC]
   refine yI (i := 8) (k := 15) (mf 21 9) (ma 21 33023) (by kernel_rfl) (by kernel_rfl) (by kernel_rfl) rfl rfl (fun K hK => ?_) (fun K hK => ?_)
   ·(go_simp; refine (pZ An Ad D1 D3 D4 nn cn nd cd e1 f1 e3 f3 e4 f4 ns ds t.s t.ls t.pr co k d no p q wr.drew (yi.mix (HZ.out _ (HAS.out _ AA.1.1).mm) AA.1.2)).mono ?_; rintro e wh ⟨⟨h1, -⟩ | ⟨-, F1, F2, F3, F4, p1, r1, p2, r2, p3, r3, p4, r4, rfl, hSo, hLo⟩, hbs⟩; exact absurd HSP.out h1; have HSO := iD hSo.out; have HLO := iD hLo.out; have HDD := iD hbs.out; rw [HOK1.out]; clear hSo hLo hbs; go_simp)
    refine hK.out _ _ (fun _ => ?_) (fun AA' => ?_)
    ·exact ⟨⟨HKS.out _ _ AA.1.1 HDD.out, AA.1.2.later HDD.out⟩, AA.2.later HDD.out⟩
    replace AA := AA' rfl
    clear AA' hK K
    try dsimp only at AA
    have HBW2 : Hid (Below wr.heap.size wr wh) := (Below.refl wr.heap.size wr).drew.trans HDD.out
    refine tk 9 112 (mf 21 10) AA ?_
    refine tk 10 122 (mf 21 11) AA ?_
    refine tk 11 123 (mf 21 12) AA ?_
    refine tk 12 124 (mf 21 13) AA ?_
    refine tk 13 125 (mf 21 14) AA ?_
    refine tk 14 126 (mf 21 15) AA ?_
    refine tb 15 (mf 21 16) fun K hK => ?_
    go_simp
    refine hK.out _ _ (fun _ => ?_) (fun AA' => ?_)
    ·exact ⟨⟨HKS.out _ _ AA.1.1 ((Below.refl _ _).alloc lR (.cells #[.int .i64 0, .slice none 0 0, .slice none 0 0] 29)), AA.1.2.later ((Below.refl _ _).alloc lR (.cells #[.int .i64 0, .slice none 0 0, .slice none 0 0] 29))⟩, AA.2.later ((Below.refl _ _).alloc lR (.cells #[.int .i64 0, .slice none 0 0, .slice none 0 0] 29))⟩
    replace AA := AA' rfl
    clear AA' hK K
    try dsimp only at AA
    have HXN : Hid (Blk (wh.alloc (.cells #[.int .i64 0, .slice none 0 0, .slice none 0 0] 29)) wh.heap.size 29 #[.int .i64 0, .slice none 0 0, .slice none 0 0]) := Blk.new wh _ _
    have HDX : Hid (Below wh.heap.size wh (wh.alloc (.cells #[.int .i64 0, .slice none 0 0, .slice none 0 0] 29))) := ((Below.refl _ _).alloc lR _)
    generalize World.alloc wh _ = wx at *
    obtain ⟨x24, hx24⟩ : ∃ x, x = wh.heap.size := ⟨_, rfl⟩
    have HX : Hid (Blk wx x24 29 #[.int .i64 0, .slice none 0 0, .slice none 0 0]) := by rw [hx24]; exact HXN.out
    have HX24 : Hid (wr.heap.size ≤ x24) := by unfold Hid; rw [hx24]; exact HBW2.out.size
    have HXH : Hid (wh.heap.size ≤ x24) := by unfold Hid; rw [hx24]; exact Nat.le_refl _
    have HBW2 := iD (HBW2.out.trans (HDX.out.mono HBW2.out.size))
    try rw [← hx24]
    clear hx24 HXN
    have z0 := HX.out.cell 0; have z1 := HX.out.cell 1; have z2 := HX.out.cell 2; have y0 := HX.out.frozen 0; have y1 := HX.out.frozen 1; have y2 := HX.out.frozen 2
    refine tk 16 22 (mf 21 17) AA ?_
    refine tk 17 23 (mf 21 18) AA ?_
    refine tb 18 (mf 21 19) fun K hK => ?_
    go_simp
    refine hK.out _ _ (fun _ => ?_) (fun AA' => ?_)
    ·exact ⟨⟨HKS.out _ _ HMSR.out ((HBW2.out.setCell HX24.out _).setCell HX24.out _ |>.setCell HX24.out _), HSTR.out.later ((HBW2.out.setCell HX24.out _).setCell HX24.out _ |>.setCell HX24.out _)⟩, HSPR.out.later ((HBW2.out.setCell HX24.out _).setCell HX24.out _ |>.setCell HX24.out _)⟩
    replace AA := AA' rfl
    clear AA' hK K
    try dsimp only at AA
    refine tk 19 25 (mf 21 20) AA ?_
    refine tk 20 26 (mf 21 21) AA ?_
    refine zC (by kernel_rfl) ?_ _
    have HSE : Hid (yZ (((wx.setCell ⟨x24, 0, none⟩ (.int .i64 co)).setCell ⟨x24, 1, none⟩ (.slice F3 p3 r3)).setCell ⟨x24, 2, none⟩ (.slice F4 p4 r4)) F1 F2 F3 F4 p1 r1 p2 r2 p3 r3 p4 r4 (zS ns ds co t ⟨k, d, no, p, q⟩)) := HSO.out.set3low HDX.out HXH.out
    have HXE : Hid (Blk (((wx.setCell ⟨x24, 0, none⟩ (.int .i64 co)).setCell ⟨x24, 1, none⟩ (.slice F3 p3 r3)).setCell ⟨x24, 2, none⟩ (.slice F4 p4 r4)) x24 29 #[.int .i64 co, .slice F3 p3 r3, .slice F4 p4 r4]) := ((HX.out.set 0 _).set 1 _).set 2 _
    have HBE : Hid (Below wr.heap.size wr (((wx.setCell ⟨x24, 0, none⟩ (.int .i64 co)).setCell ⟨x24, 1, none⟩ (.slice F3 p3 r3)).setCell ⟨x24, 2, none⟩ (.slice F4 p4 r4))) := ((HBW2.out.setCell HX24.out _).setCell HX24.out _).setCell HX24.out _
    clear z0 z1 z2 y0 y1 y2 AA
    generalize World.setCell (World.setCell (World.setCell wx _ _) _ _) _ _ = wz at *
    go_upto_region 20 with (fail)
    have HB20 := iD (HSTR.out.bx.below HBE.out HSTR.out.bx.lt)
    have z0 := HB20.out.cell 0; have z1 := HB20.out.cell 1; have z2 := HB20.out.cell 2; have y0 := HB20.out.frozen 0; have y1 := HB20.out.frozen 1; have y2 := HB20.out.frozen 2
    refine zD (S := fun W' => (W'.cell? ⟨x24, 0, none⟩ = some (.int .i64 co) ∧ W'.cell? ⟨x24, 1, none⟩ = some (.slice F3 p3 r3)) ∧ W'.cell? ⟨x24, 2, none⟩ = some (.slice F4 p4 r4)) (J := [3]) (by kernel_rfl) ?_ (fun AA => ?_)
    ·exact ⟨⟨HXE.out.cell 0, HXE.out.cell 1⟩, HXE.out.cell 2⟩
    try dsimp only at AA
    refine tk 0 133 (mf 4 1) AA ?_
    refine tx 1 134 ?_ (mf 4 2) ?_ AA ?_
    rotate_left
    ·(intro w hSw; (try dsimp only at hSw); have u0 := hSw.1.1; have u1 := hSw.1.2; have u2 := hSw.2; go_simp; try with_reducible rfl)
    try simp only [Act.put, sA, sB, sC]
    refine tk 2 19 (mf 4 3) AA ?_
    refine tb 3 (mf 4 4) fun K hK => ?_
    go_simp
    refine hK.out _ _ (fun h => by cases h) (fun _ => ?_)
    try clear AA
    clear hK K
    refine zC (by kernel_rfl) ?_ _
    clear z0 z1 z2 y0 y1 y2
    have HNA : Hid (StA x20 co F2 F3 F4 p2 r2 p3 r3 p4 r4 (zS ns ds co t ⟨k, d, no, p, q⟩).t ((((wz).setCell ⟨x20, 0, none⟩ (.int .i64 co)).setCell ⟨x20, 1, none⟩ (.slice F3 p3 r3)).setCell ⟨x20, 2, none⟩ (.slice F4 p4 r4)).drew) := StA.put HB20.out HSE.out
    have HNB : Hid (Below wg.heap.size wg ((((wz).setCell ⟨x20, 0, none⟩ (.int .i64 co)).setCell ⟨x20, 1, none⟩ (.slice F3 p3 r3)).setCell ⟨x20, 2, none⟩ (.slice F4 p4 r4)).drew) := ((((HBR.out.trans (HBE.out.mono HBR.out.size)).setCell HXL.out _).setCell HXL.out _).setCell HXL.out _).drew
    clear HSE HB20 HXE HBE HX HBW2
    generalize World.drew (World.setCell (World.setCell (World.setCell wz _ _) _ _) _ _) = wy at *
    go_wp2_with fail
    refine Handed.intro (jj - (i + 1)) (by omega) (hJ1 _ _ _ (pe.back 19 21 ?_ (by kernel_rfl)))
    dsimp only [gt]
    exact ⟨i + 1, p2, r2, p3, r3, p4, r4, F2, F3, F4, _, _, rfl, by go_num, by omega, rfl, HNA, HNB, HNX, rt HSMO.out HSP1.out⟩
   ·go_simp
    refine hK.out _ _ (fun _ => ?_) (fun AA' => ?_)
    ·exact ⟨⟨HKS.out _ _ HMSR.out ((Below.refl wr.heap.size wr).alloc lR (.cells #[.int .i64 0, .slice none 0 0, .slice none 0 0] 29)).drew, HSTR.out.later ((Below.refl wr.heap.size wr).alloc lR (.cells #[.int .i64 0, .slice none 0 0, .slice none 0 0] 29)).drew⟩, HSPR.out.later ((Below.refl wr.heap.size wr).alloc lR (.cells #[.int .i64 0, .slice none 0 0, .slice none 0 0] 29)).drew⟩
    replace AA := AA' rfl
    clear AA' hK K
    try dsimp only at AA
    have HXN : Hid (Blk (wr.alloc (.cells #[.int .i64 0, .slice none 0 0, .slice none 0 0] 29)).drew wr.heap.size 29 #[.int .i64 0, .slice none 0 0, .slice none 0 0]) := Blk.new wr _ _
    have HDX : Hid (Below wr.heap.size wr (wr.alloc (.cells #[.int .i64 0, .slice none 0 0, .slice none 0 0] 29)).drew) := ((Below.refl _ _).alloc lR _).drew
    generalize World.drew (World.alloc wr _) = wx at *
    obtain ⟨x24, hx24⟩ : ∃ x, x = wr.heap.size := ⟨_, rfl⟩
    have HX : Hid (Blk wx x24 29 #[.int .i64 0, .slice none 0 0, .slice none 0 0]) := by rw [hx24]; exact HXN.out
    have HX24 : Hid (wr.heap.size ≤ x24) := by unfold Hid; rw [hx24]; exact Nat.le_refl _
    rw [← hx24]
    clear hx24 HXN
    have HXL4 : Hid (x24 < wx.heap.size) := HX.out.lt
    refine tb 8 (ma 21 33279) fun K hK => ?_
    (go_simp; refine (pZ An Ad D1 D3 D4 nn cn nd cd e1 f1 e3 f3 e4 f4 ns ds t.s t.ls t.pr co k d no p q wx (yi.mix (HZ.out _ (HAS.out _ AA.1.1).mm) AA.1.2)).mono ?_; rintro e wh ⟨⟨h1, -⟩ | ⟨-, F1, F2, F3, F4, p1, r1, p2, r2, p3, r3, p4, r4, rfl, hSo, hLo⟩, hbs⟩; exact absurd HSP.out h1; have HSO := iD hSo.out; have HLO := iD hLo.out; have HDD := iD hbs.out; rw [HOK1.out]; clear hSo hLo hbs; go_simp)
    refine hK.out _ _ (fun _ => ?_) (fun AA' => ?_)
    ·exact ⟨⟨HKS.out _ _ AA.1.1 HDD.out, AA.1.2.later HDD.out⟩, AA.2.later HDD.out⟩
    replace AA := AA' rfl
    clear AA' hK K
    try dsimp only at AA
    have HX := iD (HX.out.below HDD.out HX.out.lt)
    have HBW2 : Hid (Below wr.heap.size wr wh) := HDX.out.trans (HDD.out.mono HDX.out.size)
    refine tk 9 112 (ma 21 33791) AA ?_
    refine tk 10 122 (ma 21 34815) AA ?_
    refine tk 11 123 (ma 21 36863) AA ?_
    refine tk 12 124 (ma 21 40959) AA ?_
    refine tk 13 125 (ma 21 49151) AA ?_
    refine tk 14 126 (mf 21 16) AA ?_
    have z0 := HX.out.cell 0; have z1 := HX.out.cell 1; have z2 := HX.out.cell 2; have y0 := HX.out.frozen 0; have y1 := HX.out.frozen 1; have y2 := HX.out.frozen 2
    refine tk 16 22 (mf 21 17) AA ?_
    refine tk 17 23 (mf 21 18) AA ?_
    refine tb 18 (mf 21 19) fun K hK => ?_
    go_simp
    refine hK.out _ _ (fun _ => ?_) (fun AA' => ?_)
    ·exact ⟨⟨HKS.out _ _ HMSR.out ((HBW2.out.setCell HX24.out _).setCell HX24.out _ |>.setCell HX24.out _), HSTR.out.later ((HBW2.out.setCell HX24.out _).setCell HX24.out _ |>.setCell HX24.out _)⟩, HSPR.out.later ((HBW2.out.setCell HX24.out _).setCell HX24.out _ |>.setCell HX24.out _)⟩
    replace AA := AA' rfl
    clear AA' hK K
    try dsimp only at AA
    refine tk 19 25 (mf 21 20) AA ?_
    refine tk 20 26 (mf 21 21) AA ?_
    refine zC (by kernel_rfl) ?_ _
    have HSE : Hid (yZ (((wh.setCell ⟨x24, 0, none⟩ (.int .i64 co)).setCell ⟨x24, 1, none⟩ (.slice F3 p3 r3)).setCell ⟨x24, 2, none⟩ (.slice F4 p4 r4)) F1 F2 F3 F4 p1 r1 p2 r2 p3 r3 p4 r4 (zS ns ds co t ⟨k, d, no, p, q⟩)) := HSO.out.set3 ⟨fun b off e _ => by have := HLO.out.h b off e; have := HXL4.out; omega, fun b off e _ => by have := HLO.out.s b off e; have := HXL4.out; omega, fun b off e _ => by have := HLO.out.l b off e; have := HXL4.out; omega, fun b off e _ => by have := HLO.out.p b off e; have := HXL4.out; omega⟩
    have HXE : Hid (Blk (((wh.setCell ⟨x24, 0, none⟩ (.int .i64 co)).setCell ⟨x24, 1, none⟩ (.slice F3 p3 r3)).setCell ⟨x24, 2, none⟩ (.slice F4 p4 r4)) x24 29 #[.int .i64 co, .slice F3 p3 r3, .slice F4 p4 r4]) := ((HX.out.set 0 _).set 1 _).set 2 _
    have HBE : Hid (Below wr.heap.size wr (((wh.setCell ⟨x24, 0, none⟩ (.int .i64 co)).setCell ⟨x24, 1, none⟩ (.slice F3 p3 r3)).setCell ⟨x24, 2, none⟩ (.slice F4 p4 r4))) := ((HBW2.out.setCell HX24.out _).setCell HX24.out _).setCell HX24.out _
    clear z0 z1 z2 y0 y1 y2 AA
    generalize World.setCell (World.setCell (World.setCell wh _ _) _ _) _ _ = wz at *
    go_upto_region 20 with (fail)
    have HB20 := iD (HSTR.out.bx.below HBE.out HSTR.out.bx.lt)
    have z0 := HB20.out.cell 0; have z1 := HB20.out.cell 1; have z2 := HB20.out.cell 2; have y0 := HB20.out.frozen 0; have y1 := HB20.out.frozen 1; have y2 := HB20.out.frozen 2
    refine zD (S := fun W' => (W'.cell? ⟨x24, 0, none⟩ = some (.int .i64 co) ∧ W'.cell? ⟨x24, 1, none⟩ = some (.slice F3 p3 r3)) ∧ W'.cell? ⟨x24, 2, none⟩ = some (.slice F4 p4 r4)) (J := [3]) (by kernel_rfl) ?_ (fun AA => ?_)
    ·exact ⟨⟨HXE.out.cell 0, HXE.out.cell 1⟩, HXE.out.cell 2⟩
    try dsimp only at AA
    refine tk 0 133 (mf 4 1) AA ?_
    refine tx 1 134 ?_ (mf 4 2) ?_ AA ?_
    rotate_left
    ·(intro w hSw; (try dsimp only at hSw); have u0 := hSw.1.1; have u1 := hSw.1.2; have u2 := hSw.2; go_simp; try with_reducible rfl)
    try simp only [Act.put, sA, sB, sC]
    refine tk 2 19 (mf 4 3) AA ?_
    refine tb 3 (mf 4 4) fun K hK => ?_
    go_simp
    refine hK.out _ _ (fun h => by cases h) (fun _ => ?_)
    try clear AA
    clear hK K
    refine zC (by kernel_rfl) ?_ _
    clear z0 z1 z2 y0 y1 y2
    have HNA : Hid (StA x20 co F2 F3 F4 p2 r2 p3 r3 p4 r4 (zS ns ds co t ⟨k, d, no, p, q⟩).t ((((wz).setCell ⟨x20, 0, none⟩ (.int .i64 co)).setCell ⟨x20, 1, none⟩ (.slice F3 p3 r3)).setCell ⟨x20, 2, none⟩ (.slice F4 p4 r4)).drew) := StA.put HB20.out HSE.out
    have HNB : Hid (Below wg.heap.size wg ((((wz).setCell ⟨x20, 0, none⟩ (.int .i64 co)).setCell ⟨x20, 1, none⟩ (.slice F3 p3 r3)).setCell ⟨x20, 2, none⟩ (.slice F4 p4 r4)).drew) := ((((HBR.out.trans (HBE.out.mono HBR.out.size)).setCell HXL.out _).setCell HXL.out _).setCell HXL.out _).drew
    clear HSE HB20 HXE HBE HX HBW2
    generalize World.drew (World.setCell (World.setCell (World.setCell wz _ _) _ _) _ _) = wy at *
    go_wp2_with fail
    refine Handed.intro (jj - (i + 1)) (by omega) (hJ1 _ _ _ (pe.back 19 21 ?_ (by kernel_rfl)))
    dsimp only [gt]
    exact ⟨i + 1, p2, r2, p3, r3, p4, r4, F2, F3, F4, _, _, rfl, by go_num, by omega, rfl, HNA, HNB, HNX, rt HSMO.out HSP1.out⟩
end Go.Proofs.YtddddlhgaeameaaGreatDoor
