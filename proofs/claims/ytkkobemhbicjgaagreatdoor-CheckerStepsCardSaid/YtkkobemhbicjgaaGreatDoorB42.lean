import Derived.Test.YtkkobemhbicjgaaGreatDoorB41
set_option maxRecDepth 100000
set_option maxHeartbeats 16000000
namespace Go.Proofs.YtkkobemhbicjgaaGreatDoor
open Go.RowKit Tryz
variable {W w : World} {c cl cp n nl np x : Nat} {co : Int} {s : List Int} {Al Ap : Option Addr} {t : Sm} {ns : List Nd} {ds : List Dv}
theorem Sl.ground {B size : Nat} {A : Option Addr} {xs : List Value} {u1 u2 v1 v2 : Value} (h : Sl w B size A n c xs) (hi : ∀ v ∈ xs, ∃ z, v = .int .i64 z) (hx : AJ w x 37 #[.int .i64 co, u1, u2]) (h1 : ∀ z, u1 ≠ .int .i64 z) (h2 : ∀ z, u2 ≠ .int .i64 z) :
 Sl (((w.setCell ⟨x, 0, none⟩ (.int .i64 co)).setCell ⟨x, 1, none⟩ v1).setCell ⟨x, 2, none⟩ v2) B size A n c xs := by
 obtain ⟨g1, g2, g3, g4, g5⟩ := h;refine ⟨g1, g2, g3, g4, fun h0 => ?_⟩;obtain ⟨b, off, e, hb, hc⟩ := g5 h0;refine ⟨b, off, e, hb, fun j v hj => ?_⟩;have hv := hc j v hj;obtain ⟨z, rfl⟩ := hi v (List.mem_of_getElem? hj);by_cases Du : b = x
 ·subst Du;have hB := ((hx.set 0 (.int .i64 co)).set 1 v1).set 2 v2;rcases (show off + j = 0 ∨ off + j = 1 ∨ off + j = 2 ∨ 2 < off + j by omega) with h | h | h | h
  ·rw [h] at hv ⊢;rw [hx.cell 0] at hv;exact (hB.cell 0).trans hv
  ·rw [h, hx.cell 1] at hv; exact absurd (Option.some.inj hv) (h1 z)
  ·rw [h, hx.cell 2] at hv; exact absurd (Option.some.inj hv) (h2 z)
  ·have : w.cell? ⟨b, off + j, none⟩ = none := by
    have hx' := hx;unfold AJ at hx';simp [World.cell?, hx'];omega
   rw [this] at hv; cases hv
 ·exact (World.cell?_setCell_far _ ⟨x, 2, none⟩ ⟨b, off + j, none⟩ _ (fun e2 => Du e2.symm)).trans ((World.cell?_setCell_far _ ⟨x, 1, none⟩ ⟨b, off + j, none⟩ _ (fun e2 => Du e2.symm)).trans ((World.cell?_setCell_far _ ⟨x, 0, none⟩ ⟨b, off + j, none⟩ _ (fun e2 => Du e2.symm)).trans hv))
theorem nX : ∀ v ∈ zE s, ∃ z, v = .int .i64 z := fun v hv => by
 unfold zE at hv; simp at hv; obtain ⟨z, _, rfl⟩ := hv; exact ⟨z, rfl⟩
theorem gm {ls : List Lk} : ∀ v ∈ ls.flatMap Lk.cells, ∃ z, v = .int .i64 z := fun v hv => by
 obtain ⟨k, _, hv⟩ := List.mem_flatMap.1 hv;simp [Lk.cells] at hv;rcases hv with rfl | rfl | rfl <;> exact ⟨_, rfl⟩
structure Jq (x : Nat) (co : Int) (As Al Ap : Option Addr) (n c nl cl np cp : Nat) (t : Sm) (wr : World) : Prop where
 bx : AJ wr x 37 #[.int .i64 co, .slice Al nl cl, .slice Ap np cp]
 s : BI wr 1 As n c (zE t.s)
 l : BI wr 3 Al nl cl (t.ls.flatMap Lk.cells)
 p : BI wr 1 Ap np cp (zE t.pr)
theorem Jq.later {As : Option Addr} {w' : World} (h : Jq x co As Al Ap n c nl cl np cp t w) (hb : bW w w') : Jq x co As Al Ap n c nl cl np cp t w' :=
 ⟨h.bx.below hb h.bx.lt, (h.s.below hb lR).more hb.size, (h.l.below hb lR).more hb.size, (h.p.below hb lR).more hb.size⟩
theorem tf {p : Prop} {i : Decidable p} (h : p) : @decide p i = true := by simp [h]
theorem eA {l1 l2 : List Lk} {p1 p2 : List Int} {i : Decidable (l1 = l2)} (h1 : l1 = l2) (h2 : p1 = p2) : (decide (co = co) && @decide (l1 = l2) i && decide (p1 = p2)) = true := by simp [h1, h2]
structure eH (b o : Nat) (k d no p q : Int) (w : World) : Prop where
 c0 : w.cell? ⟨b, o, none⟩ = some (.int .i64 k)
 c1 : w.cell? ⟨b, o + 1, none⟩ = some (.int .i64 d)
 c2 : w.cell? ⟨b, o + 2, none⟩ = some (.int .i64 no)
 c3 : w.cell? ⟨b, o + 3, none⟩ = some (.int .i64 p)
 c4 : w.cell? ⟨b, o + 4, none⟩ = some (.int .i64 q)
theorem eH.later {b o : Nat} {k d no p q : Int} {w' : World} (h : eH b o k d no p q w) (hb : bW w w') : eH b o k d no p q w' :=
 ⟨zD hb h.c0, zD hb h.c1, zD hb h.c2, zD hb h.c3, zD hb h.c4⟩
theorem Jq.new {b1 b2 b3 : Nat} {A : Option Addr} {ls : List Lk} {pr : List Int} (hx : AJ w x 37 #[.int .i64 0, .slice none 0 0, .slice none 0 0]) (h1 : zL w b1 A n c s) (h2 : zk w b2 Al nl cl ls) (h3 : zL w b3 Ap np cp pr) :
 Jq x co A Al Ap n c nl cl np cp ⟨s, ls, pr⟩ (((w.setCell ⟨x, 0, none⟩ (.int .i64 co)).setCell ⟨x, 1, none⟩ (.slice Al nl cl)).setCell ⟨x, 2, none⟩ (.slice Ap np cp)) := by
 have o1 := zO h1 hx (by decide);have o2 := zO h2 hx (by decide);have o3 := zO h3 hx (by decide);exact ⟨((hx.set 0 _).set 1 _).set 2 _, ((((Sl.of_own h1).ne o1).ne o1).ne o1).more (by simp [World.setCell]), ((((Sl.of_own h2).ne o2).ne o2).ne o2).more (by simp [World.setCell]), ((((Sl.of_own h3).ne o3).ne o3).ne o3).more (by simp [World.setCell])⟩
theorem Jq.put {p1 r1 p2 r2 p3 r3 p4 r4 m3 d3 m4 d4 : Nat} {F1 F2 F3 F4 D3 D4 : Option Addr} {o : So} (hx : AJ w x 37 #[.int .i64 co, .slice D3 m3 d3, .slice D4 m4 d4]) (h : xF w F1 F2 F3 F4 p1 r1 p2 r2 p3 r3 p4 r4 o) :
 Jq x co F2 F3 F4 p2 r2 p3 r3 p4 r4 o.t (((w.setCell ⟨x, 0, none⟩ (.int .i64 co)).setCell ⟨x, 1, none⟩ (.slice F3 p3 r3)).setCell ⟨x, 2, none⟩ (.slice F4 p4 r4)).drew :=
 ⟨(((hx.set 0 _).set 1 _).set 2 _).drw, ((h.s.ground nX hx (fun z e => by cases e) (fun z e => by cases e)).drew).more (by simp [World.setCell]), ((h.l.ground gm hx (fun z e => by cases e) (fun z e => by cases e)).drew).more (by simp [World.setCell]), ((h.p.ground nX hx (fun z e => by cases e) (fun z e => by cases e)).drew).more (by simp [World.setCell])⟩
def StC (wg : World) (co : Int) (s : List Int) (ls : List Lk) (pr : List Int) (nd mg np : Nat) (nv xv : Value) (wc : World) : Prop :=
 ∃ (BJ f1 f3 f4 : Nat) (D1 D3 D4 : Option Addr), nv = .slice D1 nd f1 ∧ xv = .pointer (some ⟨BJ, 0, none⟩) ∧ Hid (Jq BJ co D1 D3 D4 nd f1 mg f3 np f4 ⟨s, ls, pr⟩ wc) ∧ Hid (Below wg.heap.size wg wc) ∧ Hid (wg.heap.size ≤ BJ) ∧ Hid (Bu 0 BJ none D1 nd ∧ Bu 0 BJ none D3 mg ∧ Bu 0 BJ none D4 np)
structure JI (x : Nat) (co : Int) (Ao D1 D3 D4 : Option Addr) (mo cx e1 f1 e3 f3 e4 f4 : Nat) (t : Sm) (out : List Fn) (wr : World) : Prop where
 a : Jq x co D1 D3 D4 e1 f1 e3 f3 e4 f4 t wr
 o : wr.ownsRow (x + 1) 53 2 (.slice Ao mo cx) mo (out.flatMap Fn.cells)
 k1 : Bu 0 x Ao D1 e1
 k3 : Bu 0 x Ao D3 e3
 k4 : Bu 0 x Ao D4 e4
section
variable {x mo cx cx' e1 f1 e3 f3 e4 f4 : Nat} {co : Int} {Ao A' D1 D3 D4 : Option Addr} {t : Sm} {out : List Fn} {f : Fn} {wr wr' : World}
theorem JI.later (h : JI x co Ao D1 D3 D4 mo cx e1 f1 e3 f3 e4 f4 t out wr) (hb : bW wr wr') : JI x co Ao D1 D3 D4 mo cx e1 f1 e3 f3 e4 f4 t out wr' :=
 ⟨h.a.later hb, zI h.o hb, h.k1, h.k3, h.k4⟩
theorem JI.app (h : JI x co Ao D1 D3 D4 mo cx e1 f1 e3 f3 e4 f4 t out wr) (hg : wr.grownBy wr' (Value.slice Ao mo cx).ownBlock) (FR : (Value.slice A' (mo + 1) cx').ownBlock = (Value.slice Ao mo cx).ownBlock ∨ (Value.slice A' (mo + 1) cx').ownBlock = some wr.heap.size) (hr : wr'.ownsRow (x + 1) 53 2 (.slice A' (mo + 1) cx') (mo + 1) (out.flatMap Fn.cells ++ f.cells)) :
 JI x co A' D1 D3 D4 (mo + 1) cx' e1 f1 e3 f3 e4 f4 t (out ++ [f]) wr' := by
 have fA : Ao = none ∨ ∃ g, Ao = some ⟨g, 0, none⟩ := (yk h.o).imp id fun ⟨g, e, _⟩ => ⟨g, e⟩
 have fA' : A' = none ∨ ∃ g, A' = some ⟨g, 0, none⟩ := (yk hr).imp id fun ⟨g, e, _⟩ => ⟨g, e⟩
 have nb : ∀ {g : Nat}, g ≤ x → some g ≠ (Value.slice Ao mo cx).ownBlock := fun {g} hg e => by have := (h.o.lt g e.symm).1; omega
 refine ⟨⟨h.a.bx.grown hg (nb lR), xl h.k1 h.a.s hg fA, xl h.k3 h.a.l hg fA, xl h.k4 h.a.p hg fA⟩, ?_, h.k1.grow h.a.s FR fA' fA, h.k3.grow h.a.l FR fA' fA, h.k4.grow h.a.p FR fA' fA⟩;rw [List.flatMap_append, List.flatMap_cons, List.flatMap_nil, List.append_nil]; exact hr
end
def CtR (W : World) (x : Nat) (co : Int) (ns : List Nd) (ds : List Dv) (xs : List Sp) (R : Cr) (nd nx gk : Nat) (iv ov nv : Value) (wr : World) : Prop :=
 ∃ (i mo cx f1 e3 f3 e4 f4 : Nat) (Ao D1 D3 D4 : Option Addr) (t : Sm) (out : List Fn), iv = .int .i64 i ∧ ov = .slice Ao mo cx ∧ nv = .slice D1 nd f1 ∧ i ≤ nx ∧ gk = nx - i ∧ mo ≤ 8 * i ∧ Hid (JI x co Ao D1 D3 D4 mo cx nd f1 e3 f3 e4 f4 t out wr) ∧ Hid (Below W.heap.size W wr) ∧ Hid (uL ns ds t) ∧ Hid (zo ns ds co i out t (xs.drop i) = R)
structure Ll (x y sb : Nat) (co : Int) (Ao A1 A2 Al Ap : Option Addr) (n1 c1 n2 c2 nl cl np cp : Nat) (h : List Int) (t : Sm) (S : Array Value) (wr : World) : Prop where
 a : xF wr A1 A2 Al Ap n1 c1 n2 c2 nl cl np cp ⟨h, t, true⟩
 k1 : Bu 0 x Ao A1 n1
 k2 : Bu 0 x Ao A2 n2
 kl : Bu 0 x Ao Al nl
 kp : Bu 0 x Ao Ap np
 by' : AJ wr y 37 #[.int .i64 co, .slice Al nl cl, .slice Ap np cp]
 bs : AJ wr sb 43 S
 hy : ∀ o', Ao ≠ some ⟨y, o', none⟩
 hs : ∀ o', Ao ≠ some ⟨sb, o', none⟩
section
variable {x y sb mo cx cx' n1 c1 n2 c2 nl cl np cp : Nat} {co : Int} {Ao A' A1 A2 Al Ap : Option Addr} {h : List Int} {t : Sm} {S : Array Value} {xs : List Value} {wr wr' : World}
theorem Ll.later (k : Ll x y sb co Ao A1 A2 Al Ap n1 c1 n2 c2 nl cl np cp h t S wr) (hb : bW wr wr') : Ll x y sb co Ao A1 A2 Al Ap n1 c1 n2 c2 nl cl np cp h t S wr' :=
 ⟨k.a.later hb, k.k1, k.k2, k.kl, k.kp, k.by'.below hb k.by'.lt, k.bs.below hb k.bs.lt, k.hy, k.hs⟩
theorem Ll.app (k : Ll x y sb co Ao A1 A2 Al Ap n1 c1 n2 c2 nl cl np cp h t S wr) (ho : wr.ownsRow (x + 1) 53 2 (.slice Ao mo cx) mo xs) (hg : wr.grownBy wr' (Value.slice Ao mo cx).ownBlock) (FR : (Value.slice A' (mo + 1) cx').ownBlock = (Value.slice Ao mo cx).ownBlock ∨ (Value.slice A' (mo + 1) cx').ownBlock = some wr.heap.size) (fA' : A' = none ∨ ∃ g, A' = some ⟨g, 0, none⟩) :
 Ll x y sb co A' A1 A2 Al Ap n1 c1 n2 c2 nl cl np cp h t S wr' := by
 have fA : Ao = none ∨ ∃ g, Ao = some ⟨g, 0, none⟩ := (yk ho).imp id fun ⟨g, e, _⟩ => ⟨g, e⟩
 have nb : ∀ {q : Nat}, (∀ o', Ao ≠ some ⟨q, o', none⟩) → some q ≠ (Value.slice Ao mo cx).ownBlock := fun {q} hq e => by
  obtain ⟨o2, h5⟩ := ra Ao mo cx q e fA;exact hq o2 h5
 have nx : ∀ {q : Nat}, q < wr.heap.size → (∀ o', Ao ≠ some ⟨q, o', none⟩) → ∀ o', A' ≠ some ⟨q, o', none⟩ := fun {q} hl hq o' e => by
  rcases fA' with rfl | ⟨g, rfl⟩
  ·cases e
  injection e with e; injection e with e _; subst e;rcases FR with h4 | h4
  ·obtain ⟨o2, h5⟩ := ra Ao mo cx g (by rw [← h4]; rfl) fA;exact hq o2 h5
  ·simp [Value.ownBlock] at h4; omega
 exact ⟨⟨xl k.k1 k.a.h hg fA, xl k.k2 k.a.s hg fA, xl k.kl k.a.l hg fA, xl k.kp k.a.p hg fA⟩, k.k1.grow k.a.h FR fA' fA, k.k2.grow k.a.s FR fA' fA, k.kl.grow k.a.l FR fA' fA, k.kp.grow k.a.p FR fA' fA, k.by'.grown hg (nb k.hy), k.bs.grown hg (nb k.hs), nx k.by'.lt k.hy, nx k.bs.lt k.hs⟩
end
def CtD (W : World) (x y sb : Nat) (co : Int) (D1 D3 D4 : Option Addr) (e1 f1 e3 f3 e4 f4 mo i : Nat) (t : Sm) (out : List Fn) (B1 B2 B3 B4 : Option Addr) (m1 b1 m2 b2 m3 b3 m4 b4 : Nat) (h : List Int) (t' : Sm) (S : Array Value) (gk : Nat) (jv ov : Value) (wr : World) : Prop :=
 ∃ (j cx : Nat) (Ao : Option Addr), jv = .int .i64 j ∧ ov = .slice Ao (mo + j) cx ∧ j ≤ m1 ∧ gk = m1 - j ∧ Hid (JI x co Ao D1 D3 D4 (mo + j) cx e1 f1 e3 f3 e4 f4 t (out ++ yD i (h.take j)) wr) ∧ Hid (Ll x y sb co Ao B1 B2 B3 B4 m1 b1 m2 b2 m3 b3 m4 b4 h t' S wr) ∧ Hid (Below W.heap.size W wr)
theorem jc {wr wr' : World} {mo cx : Nat} {Ao : Option Addr} {xs : List Value} (hb : bW W wr) (ho : wr.ownsRow (x + 1) 53 2 (.slice Ao mo cx) mo xs) (hg : wr.grownBy wr' (Value.slice Ao mo cx).ownBlock) (hx : W.heap.size ≤ x) : bW W wr' :=
 hb.grown hg hb.size fun k e => by have := (ho.lt k e).1; omega
theorem JI.next {y sb mo cx n1 c1 n2 c2 e1 f1 e3 f3 e4 f4 : Nat} {Ao D1 D3 D4 A1 A2 : Option Addr} {h : List Int} {t' : Sm} {out : List Fn} {S : Array Value} {wr : World} (c : JI x co Ao D1 D3 D4 mo cx e1 f1 e3 f3 e4 f4 t out wr) (k : Ll x y sb co Ao A1 A2 Al Ap n1 c1 n2 c2 nl cl np cp h t' S wr) :
 JI x co Ao A2 Al Ap mo cx n2 c2 nl cl np cp t' out ((((wr.setCell ⟨x, 0, none⟩ (.int .i64 co)).setCell ⟨x, 1, none⟩ (.slice Al nl cl)).setCell ⟨x, 2, none⟩ (.slice Ap np cp)).drew) :=
 ⟨Jq.put c.a.bx k.a, zI (vh (vh (vh c.o (by omega)) (by omega)) (by omega)) (Below.refl _ _).drew, k.k2, k.kl, k.kp⟩
theorem fW {x : Sp} (h : x.kind ≠ 3 ∧ x.kind ≠ 6) (hr : 1 ≤ x.kind ∧ x.kind ≤ 6) : (zn ns ds co t x).ov = false := by
 unfold zn;split
 ·rfl
 split
 ·split <;> rfl
 split
 ·split <;> rfl
 omega
theorem dP {x : Sp} (h : x.kind = 3 ∨ x.kind = 6) (hm : rA (t.s.getD x.dev.toNat 0) x.pos = false) : (zn ns ds co t x).ov = false := by
 rw [qF h, if_neg (by rw [hm]; simp)];split
 ·rfl
 ·split <;> rfl
theorem fh {x : Sp} (h : x.kind = 3 ∨ x.kind = 6) (hm : rA (t.s.getD x.dev.toNat 0) x.pos = true) : zn ns ds co t x = ⟨0, [8], t, true⟩ := by
 rw [qF h, if_pos hm]
def gI (l : List Int) (k : Nat) : Int := l.getD k 0
theorem ym {base i g : Nat} {l : List Int} (h : zL w base (some ⟨g, 0, none⟩) n c l) (hi : i < n) : w.cell? ⟨g, i, none⟩ = some (.int .i64 (gI l i)) := by
 obtain ⟨g', x, e, _, _, hx, hc, _⟩ := h.at hi;injection e with e; injection e with e; subst e;unfold gI;rw [List.getD_eq_getElem?_getD, hx]; exact hc
section
variable {kd a b : Int} {ns : List Nd} {parts op cl : List Int}
theorem se (h : yy kd a b cl = true) : xL kd a b ns parts op cl = 4 := by unfold xL; rw [if_pos h]
theorem pN (hf : yy kd a b cl = false) (h : FC kd a b parts = false) : xL kd a b ns parts op cl = 0 := by
 unfold xL sy wY Gi; rw [hf, h]; simp
theorem pM (hf : yy kd a b cl = false) (h : FC kd a b parts = true) (h0 : EZ kd a op = true) (h1 : Ev kd a b op = true) : xL kd a b ns parts op cl = 3 := by
 unfold xL sy; rw [hf, h, h0, h1]; rfl
theorem lO (hf : yy kd a b cl = false) (h0 : EZ kd a op = false) (h1 : Ev kd a b op = false) : xL kd a b ns parts op cl = 0 := by
 unfold xL sy wY Gi; rw [hf, h0, h1]; simp
theorem tA (hf : yy kd a b cl = false) (h : FC kd a b parts = true) (h0 : EZ kd a op ≠ Ev kd a b op) (hl : xZ kd a b ns parts op ns.length) : xL kd a b ns parts op cl = 2 := by
 have hd : Gi kd a b parts op = true := by unfold Gi; rw [h]; simpa using h0
 have hp : sy kd a b parts op = false := by unfold sy; rw [h]; revert h0; cases EZ kd a op <;> cases Ev kd a b op <;> simp
 have Nr : wY kd a b ns parts op = true := by unfold wY; rw [hd]; simpa using hl
 unfold xL; rw [hf, hp, Nr]; rfl
theorem sL (hf : yy kd a b cl = false) (h : FC kd a b parts = true) (h0 : EZ kd a op ≠ Ev kd a b op) (hl : ¬ xZ kd a b ns parts op ns.length) : xL kd a b ns parts op cl = 1 := by
 have hd : Gi kd a b parts op = true := by unfold Gi; rw [h]; simpa using h0
 have hp : sy kd a b parts op = false := by unfold sy; rw [h]; revert h0; cases EZ kd a op <;> cases Ev kd a b op <;> simp
 have Nr : wY kd a b ns parts op = false := by unfold wY; rw [hd]; simpa using hl
 unfold xL; rw [hf, hp, Nr, hd]; rfl
end
def eJ (w : World) (ns : List Nd) (P : List Int) (dv : Int) (gk : Nat) (iv : Value) (wr : World) : Prop := ∃ v : Nat, iv = .int .i64 v ∧ v ≤ ns.length ∧ gk = ns.length - v ∧ wr = w ∧ Hid (¬ ∃ (i : Nat) (x : Nd), i < v ∧ ns[i]? = some x ∧ 0 < x.cust ∧ gI P i = dv)
theorem iG (An Ad As : Option Addr) (nn cn nd cd n c i : Nat) (ns : List Nd) (ds : List Dv) (s : List Int) (x : Dv) (w : World) (h : yc w An Ad As none none nn cn nd cd n c 0 0 0 0 ns ds s [] []) (h0 : zQ ns ds s = 0) (hx : ds[i]? = some x) :
 Calls prog 93 #[.agg #[.slice An nn cn, .slice Ad nd cd], .slice As n c, .int .i64 i] w fun e w' => e = .returned (.tuple #[.int .i64 (yz nn ns ds s i x), .int .i64 0]) ∧ bW w w' := by
 obtain ⟨Da, Hl, ES⟩ := h.ln;subst Da;have hN := xk.of (yv h0).1;have hsl := (yv h0).2;have Lr := List.mem_of_getElem? hx;have Ho := hN.a x Lr;have TU := hN.k x Lr;have Fe : zV x.kind = true → 0 ≤ x.b ∧ x.b < ns.length := fun hj => (hN.e x Lr hj).2
 have hi : i < nd := by have := (List.getElem?_eq_some_iff.1 hx).1; omega
 have Hg := hN.nl;have VD := hN.dl;have HN := iD hN;have FU := iD ES;have Oh : nd ≤ n ∧ n ≤ nd := by omega
 have HB : Hid (Below w.heap.size w (w.alloc (.cells #[.slice An ns.length cn, .slice Ad nd cd] 30))) := (Below.refl _ _).alloc lR _;have HK := iD (AJ.new w 30 #[.slice An ns.length cn, .slice Ad nd cd]);have HH := iD h;have HX := iD hx;have H0 := iD h0;clear h hN Lr hx h0 hsl ES
 go_enter func93, ntmps93
 go_wp2_with fail
 generalize World.alloc w _ = W at *;have HM := iD (HH.below HB);have HC := iD (rU An Ad As ns.length cn nd cd n c _ _ _ ns ds s W HM.hn HM.hd HM.hs lR lR lR HM.sn HM.sd);rw [H0.out] at HC;refine HC.mono ?_;rintro e w1 ⟨rfl, AV⟩;have AQ := iD (HB.trans (AV.mono HB.size));have De := iD (HK.below AV HK.lt);clear HC HM AV HB HK;obtain ⟨b0, off, x', rfl, hb, hx', hc⟩ := (HH.below AQ).hd.at (k := i) (fun _ => rfl) (by decide) hi;obtain rfl : x = x' := by have := HX.out; rw [this] at hx'; exact Option.some.inj hx'
 obtain ⟨nm, kd, a, b, co⟩ := x;simp only at Ho Fe TU;obtain ⟨a, rfl⟩ := Int.eq_ofNat_of_zero_le Ho.1;have Iw : a < ns.length := by omega
 have q1 : decide ((i : Int) < 0) = false := by simp
 have q2 : decide ((n : Int) ≤ (i : Int)) = false := by simp; omega
 have c0 : w1.cell? ⟨b0, off + i * 5, none⟩ = some (.string nm) := hc 0 _ rfl;have c1 : w1.cell? ⟨b0, off + i * 5 + 1, none⟩ = some (.int .i64 kd) := hc 1 _ rfl;have c2 : w1.cell? ⟨b0, off + i * 5 + 2, none⟩ = some (.int .i64 a) := hc 2 _ rfl;have c3 : w1.cell? ⟨b0, off + i * 5 + 3, none⟩ = some (.int .i64 b) := hc 3 _ rfl;have c4 : w1.cell? ⟨b0, off + i * 5 + 4, none⟩ = some (.int .i64 co) := hc 4 _ rfl;obtain ⟨k0, k1⟩ := De.d2;clear hc hx' Ho;go_upto_region 7 with (fail);clear c0 c1 c2 c3 c4 k0 k1 q1 q2;have NY := iD (AJ.new w1 57 #[.string nm, .int .i64 kd, .int .i64 a, .int .i64 b, .int .i64 co]);have Ai := iD (AQ.alloc AQ.size (.cells #[.string nm, .int .i64 kd, .int .i64 a, .int .i64 b, .int .i64 co] 57));have EP := iD (De.alloc (.cells #[.string nm, .int .i64 kd, .int .i64 a, .int .i64 b, .int .i64 co] 57));generalize World.alloc w1 _ = w2 at *;obtain ⟨db, VE⟩ := eX w1.heap.size
 rw [← VE] at NY ⊢;clear VE AQ De hb;have Ck := iD (HH.below Ai.drew);refine fv (fun W' => W'.cell? ⟨w.heap.size, 0, none⟩ = some (.slice An ns.length cn) ∧ W'.cell? ⟨w.heap.size, 1, none⟩ = some (.slice (some ⟨b0, off, none⟩) nd cd)) [] ?_ fun AA => ?_
 ·exact ⟨EP.cell 0, EP.cell 1⟩
 try dsimp only at AA
 refine tk 0 41 (mf 10 1) AA ?_;refine tk 1 42 (mf 10 2) AA ?_;refine tk 2 43 (mf 10 3) AA ?_;refine tb 3 (mf 10 4) fun K hK => ?_
 (go_simp; refine (vP As n c w2.drew.heap.size s i 2 w2.drew Ck.hs lR (by omega)).mono ?_; rintro e w3 ⟨Aw, cw, rfl, IY, BX⟩; rw [xD, FU.out] at IY ⊢; have FK := iD (Ck.below BX); have CO := iD (Ai.drew.trans (BX.mono Ai.drew.size)); have EC := iD (AJ.below (w := w2.drew) EP BX EP.lt); have Qj := iD (AJ.below (w := w2.drew) NY BX NY.lt); go_simp)
 refine hK _ _ (fun _ => ⟨EC.cell 0, EC.cell 1⟩) fun p => (fun AA => ?_) (p rfl)
 clear p hK K;(try dsimp only at AA);refine tb 4 (mf 10 5) fun K hK => ?_
 (go_simp; refine (vQ An (some ⟨b0, off, none⟩) Aw ns.length cn nd cd n cw w3.heap.size w3.heap.size w3.heap.size ns ds (zX s i 2) w3 FK.hn FK.hd IY.sl lR lR lR FK.sn FK.sd (by omega) (fun _ => ⟨by omega, HN.e, HN.ne⟩) (fun _ => ⟨HN.a, HN.k⟩)).mono ?_; (rintro e w4 ⟨Be, ⟨hne, -⟩ | ⟨-, AC, CL, rfl, PD, MF⟩⟩; exact absurd (yN H0 i (p := 2) (Or.inr rfl)) hne); have DF := iD (CO.trans (Be.mono CO.size)); have El := iD (EC.below Be EC.lt); have Em := iD (Qj.below Be Qj.lt); go_simp)
 refine hK _ _ (fun _ => ⟨El.cell 0, El.cell 1⟩) fun p => (fun AA => ?_) (p rfl)
 clear p hK K;(try dsimp only at AA);refine tk 5 40 (mf 10 6) AA ?_;refine tk 6 46 (mf 10 7) AA ?_;refine tk 7 47 (mf 10 8) AA ?_;refine tk 8 10 (mf 10 9) AA ?_;refine tk 9 11 (mf 10 10) AA ?_;refine tK ?_;have Fs : Hid (yz ns.length ns ds s i ⟨nm, kd, a, b, co⟩ = xL kd a b ns (tU ns.length ds (zX s i 1)) (zW ns.length ds (zX s i 1)) CL) := by unfold Hid yz; rw [xO MF.out]
 obtain ⟨g, rfl, -, hg⟩ := wO PD (by omega);have Ae := ym PD Iw;have Ak : Hid (∀ k, k < ns.length → w4.cell? ⟨g, k, none⟩ = some (.int .i64 (gI CL k))) := fun k hk => ym PD hk
 have Qb := iD (vg kd);have d1 := Em.cell 1;have d2 := Em.cell 2;have Na : Hid (yy kd a b CL = ((gI CL a == 3) || (zV kd && (gI CL b.toNat == 3)))) := rfl;clear NY EP Ai Ck FK CO EC Qj BX Be IY MF PD;rcases hq : (gI CL a == 3) with _ | _; rotate_left
 ·have HF : Hid (yy kd a b CL = true) := by unfold Hid; rw [Na.out, hq]; rfl
  go_wp2_with fail
  go_ret2;exact ⟨by rw [Fs.out, se HF.out]; rfl, DF⟩
 rw [hq] at Na;rcases hj : zV kd with _ | _
 ·have HF : Hid (yy kd a b CL = false) := by unfold Hid; rw [Na.out, hj]; rfl
  have NZ := iD hj;rw [hj] at Qb;clear Na Fe
  go_wp2_with fail
  refine (Qb w4).mono ?_;rintro e w4 ⟨rfl, rfl⟩;rcases Ol : (kd == 4) with _ | _; rotate_left
  ·have Bv : Hid (FC kd a b (tU ns.length ds (zX s i 1)) = false) := by unfold Hid FC; rw [if_pos (by simpa using Ol)]
   go_wp2_with fail
   go_ret2;exact ⟨by rw [Fs.out, pN HF.out Bv.out]; rfl, DF⟩
  have Gx : kd ≠ 4 := by simpa using Ol
  have Kh := iD Gx;clear Gx;obtain ⟨k0, k1⟩ := El.d2
  go_wp2_with fail
  clear k0 k1 d1 d2 Ae;have ML := iD (HH.below DF);refine (vP As n c w4.heap.size s i 1 w4 ML.hs lR (by omega)).mono ?_;rintro e w5 ⟨TE, Rm, rfl, IY, BN⟩;rw [xD, FU.out] at IY ⊢;have JC := iD (ML.below BN);have Cf := iD (DF.trans (BN.mono DF.size));have JE := iD (El.below BN El.lt);have Pj := iD (Em.below BN Em.lt);have EW : Hid (Sl w5 w5.heap.size 1 TE n Rm (zE (zX s i 1))) := IY.sl;clear IY BN ML DF El Em Ak;obtain ⟨k0, k1⟩ := JE.d2
  go_wp2_with fail
  clear k0 k1;refine (vQ An (some ⟨b0, off, none⟩) TE ns.length cn nd cd n Rm w5.heap.size w5.heap.size w5.heap.size ns ds (zX s i 1) w5 JC.hn JC.hd EW lR lR lR JC.sn JC.sd (by omega) (fun _ => ⟨by omega, HN.e, HN.ne⟩) (fun _ => ⟨HN.a, HN.k⟩)).mono ?_
  (rintro e w6 ⟨Db, ⟨hne, -⟩ | ⟨-, AO, OP, rfl, VO, VS⟩⟩; exact absurd (yN H0 i (p := 1) (Or.inl rfl)) hne)
  have Gs := iD (JC.below Db);have DZ := iD (Cf.trans (Db.mono Cf.size));have Jf := iD (JE.below Db JE.lt);have Su := iD (Pj.below Db Pj.lt);have Jc := iD ((EW.below Db lR).more Db.size);rw [xO VS.out] at Fs;clear Db VS JC Cf JE Pj EW;obtain ⟨k0, k1⟩ := Jf.d2
  go_wp2_with fail
  clear k0 k1;refine (uq An (some ⟨b0, off, none⟩) TE ns.length cn nd cd n Rm w6.heap.size w6.heap.size w6.heap.size ns ds (zX s i 1) w6 Gs.hn Gs.hd Jc lR lR lR Gs.sn Gs.sd (by omega) (fun _ => ⟨by omega, HN.e, HN.ne⟩)).mono ?_
  (rintro e w7 ⟨Cx, ⟨hne, -⟩ | ⟨-, AP, PL, rfl, Oz, VR⟩⟩; exact absurd (yN H0 i (p := 1) (Or.inl rfl)) hne)
  have AK := iD ((Gs.below Cx).hn);have Df := iD (DZ.trans (Cx.mono DZ.size));have Qg := iD (Jf.below Cx Jf.lt);have Qi := iD (Su.below Cx Su.lt);have Cj := iD (VO.later Cx);rw [uu VR.out] at Fs;clear Cx VR Gs DZ Jf Su Jc VO HN;obtain ⟨go, rfl, -, hgo⟩ := wO Cj (by omega);obtain ⟨gp, rfl, -, BW⟩ := wO Oz (by omega);have oa := ym Cj Iw;have pa := ym Oz Iw;have d1 := Qi.cell 1;have d2 := Qi.cell 2;have PU : Hid (∀ k, k < ns.length → w7.cell? ⟨gp, k, none⟩ = some (.int .i64 (gI PL k))) := fun k hk => ym Oz hk
  have Nv : JM OP a = (bits BinOp.and IntKind.i64 (gI OP a) 1 != 0) := rfl;have Bv : Hid (FC kd a b PL = true) := by unfold Hid FC; rw [if_neg Kh.out, if_pos NZ.out]
  have JD : Hid (EZ kd a OP = true) := by unfold Hid EZ; rw [if_neg Kh.out, if_pos NZ.out]
  have Hw : Hid (Ev kd a b OP = JM OP a) := by unfold Hid Ev; rw [if_neg Kh.out, if_pos NZ.out]
  clear hj Oz Cj;rcases hl : (bits BinOp.and IntKind.i64 (gI OP a) 1 != 0) with _ | _; rotate_left
  ·rw [Nv, hl] at Hw;clear Nv
   go_wp2_with fail
   refine (Qb w7).mono ?_;rintro e w7 ⟨rfl, rfl⟩
   go_wp2_with fail
   go_ret2;exact ⟨by rw [Fs.out, pM HF.out Bv.out JD.out Hw.out]; rfl, Df⟩
  rw [Nv, hl] at Hw;have Je : Hid (EZ kd a OP ≠ Ev kd a b OP) := by unfold Hid; rw [JD.out, Hw.out]; simp
  clear Nv
  go_wp2_with fail
  refine (Qb w7).mono ?_;rintro e w7 ⟨rfl, rfl⟩
  have GU : Hid (xZ kd a b ns PL OP ns.length ↔ ∃ (i : Nat) (x : Nd), i < ns.length ∧ ns[i]? = some x ∧ 0 < x.cust ∧ gI PL i = gI PL a) := by
   have Iq : dN kd a b PL OP = (a : Int) := by unfold dN Gi; rw [Bv.out, if_pos (by simpa using Je.out), if_pos JD.out]; unfold Jk; rw [if_neg Kh.out, if_pos NZ.out]
   unfold Hid xZ;rw [Iq];rfl
  clear d1 d2
  go_wp2_with fail
  go_loopg [20] ns.length (eJ w7 ns PL (gI PL a))
  case atStart => exact ⟨0, rfl, Nat.zero_le _, rfl, rfl, fun ⟨i, x, h, _⟩ => by omega⟩
  case round =>
   obtain ⟨v, rfl, hv, rfl, rfl, hno⟩ := hrel;by_cases MW : v < ns.length
   ·obtain ⟨Pv, JL, y, NB, CF, hy, QA⟩ := AK.at (k := v) (fun _ => rfl) (by decide) MW;have HY := iD hy;have Gg := Qg.cell 0;rw [NB] at Gg;have k0 : wr.cell? ⟨w.heap.size, 0, none⟩ = some (.slice (some ⟨Pv, JL, none⟩) ns.length cn) := Gg;have y1 : wr.cell? ⟨Pv, JL + v * 3 + 1, none⟩ = some (.int .i64 y.cust) := QA 1 _ rfl;have pv := PU v MW;have BL := iD NB;clear hy QA NB Gg;rcases IU : (gI PL v == gI PL a) with _ | _
    ·have JA : Hid (¬ ∃ (i : Nat) (x : Nd), i < v + 1 ∧ ns[i]? = some x ∧ 0 < x.cust ∧ gI PL i = gI PL a) := fun ⟨i, x, h1, h2, h3, h4⟩ => by
      rcases Nat.lt_succ_iff_lt_or_eq.1 h1 with h | rfl
      ·exact hno ⟨i, x, h, h2, h3, h4⟩
      ·rw [h4] at IU; simp at IU
     go_wp2_with fail
     go_roundg (ns.length - (v + 1))
     ·exact ⟨v + 1, by go_num, by omega, rfl, rfl, JA⟩
     omega
    by_cases DK : 0 < y.cust
    ·have q3 : decide (0 < y.cust) = true := by simpa using DK
     have FL := iD (GU.2 ⟨v, y, MW, HY, DK, by simpa using IU⟩);clear DK
     go_wp2_with fail
     go_ret2;exact ⟨by rw [Fs.out, tA HF.out Bv.out Je.out FL.out]; rfl, Df⟩
    ·have q3 : decide (0 < y.cust) = false := by simpa using DK
     have JA : Hid (¬ ∃ (i : Nat) (x : Nd), i < v + 1 ∧ ns[i]? = some x ∧ 0 < x.cust ∧ gI PL i = gI PL a) := fun ⟨i, x, h1, h2, h3, h4⟩ => by
      rcases Nat.lt_succ_iff_lt_or_eq.1 h1 with h | rfl
      ·exact hno ⟨i, x, h, h2, h3, h4⟩
      ·rw [HY.out] at h2; injection h2 with h2; subst h2; exact DK h3
     clear DK
     go_wp2_with fail
     go_roundg (ns.length - (v + 1))
     ·exact ⟨v + 1, by go_num, by omega, rfl, rfl, JA⟩
     omega
   ·obtain rfl : v = ns.length := by omega
    have Cw : decide (ns.length < ns.length) = false := by simp
    have Ij := iD (fun h => hno (GU.1 h))
    go_wp2_with fail
    go_ret2;exact ⟨by rw [Fs.out, sL HF.out Bv.out Je.out Ij.out]; rfl, Df⟩
 ·obtain ⟨b, rfl⟩ := Int.eq_ofNat_of_zero_le (Fe hj).1;have Ov : b < ns.length := by have := (Fe hj).2; omega
  have Ax := Ak b Ov;have d3 := Em.cell 3;have NZ := iD hj;rw [hj] at Qb Na;clear Fe;rcases TP : (gI CL b == 3) with _ | _; rotate_left
  ·have HF : Hid (yy kd a b CL = true) := by unfold Hid; rw [Na.out, Int.toNat_natCast, TP]; rfl
   clear Na
   go_wp2_with fail
   refine (Qb w4).mono ?_;rintro e w4 ⟨rfl, rfl⟩
   go_wp2_with fail
   go_ret2;exact ⟨by rw [Fs.out, se HF.out]; rfl, DF⟩
  have HF : Hid (yy kd a b CL = false) := by unfold Hid; rw [Na.out, Int.toNat_natCast, TP]; rfl
  have Kh : Hid (kd ≠ 4) := fun e => by subst e; exact absurd NZ.out (by decide)
  have Ol : (kd == 4) = false := by simpa using Kh.out
  clear Na
  go_wp2_with fail
  refine (Qb w4).mono ?_;rintro e w4 ⟨rfl, rfl⟩;obtain ⟨k0, k1⟩ := El.d2
  go_wp2_with fail
  clear k0 k1 d1 d2 d3 Ae Ax;have ML := iD (HH.below DF);refine (vP As n c w4.heap.size s i 1 w4 ML.hs lR (by omega)).mono ?_;rintro e w5 ⟨TE, Rm, rfl, IY, BN⟩;rw [xD, FU.out] at IY ⊢;have JC := iD (ML.below BN);have Cf := iD (DF.trans (BN.mono DF.size));have JE := iD (El.below BN El.lt);have Pj := iD (Em.below BN Em.lt);have EW : Hid (Sl w5 w5.heap.size 1 TE n Rm (zE (zX s i 1))) := IY.sl;clear IY BN ML DF El Em Ak;obtain ⟨k0, k1⟩ := JE.d2
  go_wp2_with fail
  clear k0 k1;refine (vQ An (some ⟨b0, off, none⟩) TE ns.length cn nd cd n Rm w5.heap.size w5.heap.size w5.heap.size ns ds (zX s i 1) w5 JC.hn JC.hd EW lR lR lR JC.sn JC.sd (by omega) (fun _ => ⟨by omega, HN.e, HN.ne⟩) (fun _ => ⟨HN.a, HN.k⟩)).mono ?_
  (rintro e w6 ⟨Db, ⟨hne, -⟩ | ⟨-, AO, OP, rfl, VO, VS⟩⟩; exact absurd (yN H0 i (p := 1) (Or.inl rfl)) hne)
  have Gs := iD (JC.below Db);have DZ := iD (Cf.trans (Db.mono Cf.size));have Jf := iD (JE.below Db JE.lt);have Su := iD (Pj.below Db Pj.lt);have Jc := iD ((EW.below Db lR).more Db.size);rw [xO VS.out] at Fs;clear Db VS JC Cf JE Pj EW;obtain ⟨k0, k1⟩ := Jf.d2
  go_wp2_with fail
  clear k0 k1;refine (uq An (some ⟨b0, off, none⟩) TE ns.length cn nd cd n Rm w6.heap.size w6.heap.size w6.heap.size ns ds (zX s i 1) w6 Gs.hn Gs.hd Jc lR lR lR Gs.sn Gs.sd (by omega) (fun _ => ⟨by omega, HN.e, HN.ne⟩)).mono ?_
  (rintro e w7 ⟨Cx, ⟨hne, -⟩ | ⟨-, AP, PL, rfl, Oz, VR⟩⟩; exact absurd (yN H0 i (p := 1) (Or.inl rfl)) hne)
  have AK := iD ((Gs.below Cx).hn);have Df := iD (DZ.trans (Cx.mono DZ.size));have Qg := iD (Jf.below Cx Jf.lt);have Qi := iD (Su.below Cx Su.lt);have Cj := iD (VO.later Cx);rw [uu VR.out] at Fs;clear Cx VR Gs DZ Jf Su Jc VO HN;obtain ⟨go, rfl, -, hgo⟩ := wO Cj (by omega);obtain ⟨gp, rfl, -, BW⟩ := wO Oz (by omega);have oa := ym Cj Iw;have pa := ym Oz Iw;have d1 := Qi.cell 1;have d2 := Qi.cell 2;have PU : Hid (∀ k, k < ns.length → w7.cell? ⟨gp, k, none⟩ = some (.int .i64 (gI PL k))) := fun k hk => ym Oz hk
  have Nv : JM OP a = (bits BinOp.and IntKind.i64 (gI OP a) 1 != 0) := rfl;have ob := ym Cj Ov;have pb := PU b Ov;have d3 := Qi.cell 3;have VP : JM OP b = (bits BinOp.and IntKind.i64 (gI OP b) 1 != 0) := rfl;have Af : Hid (FC kd a b PL = !(gI PL a == gI PL b)) := by unfold Hid FC; rw [if_neg Kh.out, if_neg (by rw [NZ.out]; simp)]; rfl
  have JD : Hid (EZ kd a OP = JM OP a) := by unfold Hid EZ; rw [if_neg Kh.out, if_neg (by rw [NZ.out]; simp)]
  have Hw : Hid (Ev kd a b OP = JM OP b) := by unfold Hid Ev; rw [if_neg Kh.out, if_neg (by rw [NZ.out]; simp)]
  clear hj Oz Cj;rw [Nv] at JD;rw [VP] at Hw;clear Nv VP;obtain ⟨la, IE⟩ := eX ((bits BinOp.and IntKind.i64 (gI OP a) 1 != 0));obtain ⟨lb, Aa⟩ := eX ((bits BinOp.and IntKind.i64 (gI OP b) 1 != 0));rw [← IE] at JD;rw [← Aa] at Hw;have BS := Aa.symm;have BU := IE.symm;clear IE Aa
  go_wp2_with fail
  refine (Qb w7).mono ?_;rintro e w7 ⟨rfl, rfl⟩;go_upto_region 18 with (fail);refine fv (fun W' => (∀ k, k < ns.length → W'.cell? ⟨gp, k, none⟩ = some (.int .i64 (gI PL k))) ∧ W'.cell? ⟨db, 2, none⟩ = some (.int .i64 a) ∧ W'.cell? ⟨db, 3, none⟩ = some (.int .i64 b)) [] ?_ fun AA => ?_
  ·exact ⟨PU, Qi.cell 2, Qi.cell 3⟩
  try dsimp only at AA
  refine tk 0 100 (mf 11 1) AA ?_;refine tk 5 105 (ma 11 33) AA ?_;refine tk 1 101 (ma 11 35) AA ?_;refine tk 6 106 (ma 11 99) AA ?_;refine ty 2 102 (ma 11 103) AA (y := by intro w AL; have d2 := AL.2.1; go_simp; try with_reducible rfl) (h := ?_);refine ty 7 107 (ma 11 231) AA (y := by intro w AL; have d3 := AL.2.2; go_simp; try with_reducible rfl) (h := ?_);refine tk 3 103 (ma 11 239) AA ?_;refine tk 8 108 (ma 11 495) AA ?_;refine ty 4 104 (mf 11 9) AA (y := by intro w AL; have p1 := AL.1 a Iw; go_simp; try with_reducible rfl) (h := ?_);refine ty 9 109 (mf 11 10) AA (y := by intro w AL; have p1 := AL.1 b Ov; go_simp; try with_reducible rfl) (h := ?_);refine tk 10 110 (mf 11 11) AA ?_;refine tK ?_;rcases Lt : (gI PL a == gI PL b) with _ | _; rotate_left
  ·have Bv : Hid (FC kd a b PL = false) := by unfold Hid; rw [Af.out, Lt]; rfl
   go_wp2_with fail
   go_ret2;exact ⟨by rw [Fs.out, pN HF.out Bv.out]; rfl, Df.drew⟩
  have Bv : Hid (FC kd a b PL = true) := by unfold Hid; rw [Af.out, Lt]; rfl
  clear Af;rcases la with _ | _
  ·rcases lb with _ | _
   ·go_wp2_with fail
    go_ret2;exact ⟨by rw [Fs.out, lO HF.out JD.out Hw.out]; rfl, Df.drew⟩
   ·have Je : Hid (EZ kd a OP ≠ Ev kd a b OP) := by unfold Hid; rw [JD.out, Hw.out]; simp
    have GU : Hid (xZ kd a b ns PL OP ns.length ↔ ∃ (i : Nat) (x : Nd), i < ns.length ∧ ns[i]? = some x ∧ 0 < x.cust ∧ gI PL i = gI PL a) := by
     have Iq : dN kd a b PL OP = (a : Int) := by unfold dN Gi; rw [Bv.out, if_pos (by simpa using Je.out), if_neg (by rw [JD.out]; simp)]; unfold KH; rw [if_neg Kh.out, if_neg (by rw [NZ.out]; simp)]
     unfold Hid xZ;rw [Iq];rfl
    clear d1 d2
    go_wp2_with fail
    go_loopg [20] ns.length (eJ w7.drew ns PL (gI PL a))
    case atStart => exact ⟨0, rfl, Nat.zero_le _, rfl, rfl, fun ⟨i, x, h, _⟩ => by omega⟩
    case round =>
     obtain ⟨v, rfl, hv, rfl, rfl, hno⟩ := hrel;by_cases MW : v < ns.length
     ·obtain ⟨Pv, JL, y, NB, CF, hy, QA⟩ := AK.at (k := v) (fun _ => rfl) (by decide) MW;have HY := iD hy;have Gg := Qg.cell 0;rw [NB] at Gg;have k0 : w7.cell? ⟨w.heap.size, 0, none⟩ = some (.slice (some ⟨Pv, JL, none⟩) ns.length cn) := Gg;have y1 : w7.cell? ⟨Pv, JL + v * 3 + 1, none⟩ = some (.int .i64 y.cust) := QA 1 _ rfl;have pv := PU v MW;have BL := iD NB;clear hy QA NB Gg;rcases IU : (gI PL v == gI PL a) with _ | _
      ·have JA : Hid (¬ ∃ (i : Nat) (x : Nd), i < v + 1 ∧ ns[i]? = some x ∧ 0 < x.cust ∧ gI PL i = gI PL a) := fun ⟨i, x, h1, h2, h3, h4⟩ => by
        rcases Nat.lt_succ_iff_lt_or_eq.1 h1 with h | rfl
        ·exact hno ⟨i, x, h, h2, h3, h4⟩
        ·rw [h4] at IU; simp at IU
       go_wp2_with fail
       go_roundg (ns.length - (v + 1))
       ·exact ⟨v + 1, by go_num, by omega, rfl, rfl, JA⟩
       omega
      by_cases DK : 0 < y.cust
      ·have q3 : decide (0 < y.cust) = true := by simpa using DK
       have FL := iD (GU.2 ⟨v, y, MW, HY, DK, by simpa using IU⟩);clear DK
       go_wp2_with fail
       go_ret2;exact ⟨by rw [Fs.out, tA HF.out Bv.out Je.out FL.out]; rfl, Df.drew⟩
      ·have q3 : decide (0 < y.cust) = false := by simpa using DK
       have JA : Hid (¬ ∃ (i : Nat) (x : Nd), i < v + 1 ∧ ns[i]? = some x ∧ 0 < x.cust ∧ gI PL i = gI PL a) := fun ⟨i, x, h1, h2, h3, h4⟩ => by
        rcases Nat.lt_succ_iff_lt_or_eq.1 h1 with h | rfl
        ·exact hno ⟨i, x, h, h2, h3, h4⟩
        ·rw [HY.out] at h2; injection h2 with h2; subst h2; exact DK h3
       clear DK
       go_wp2_with fail
       go_roundg (ns.length - (v + 1))
       ·exact ⟨v + 1, by go_num, by omega, rfl, rfl, JA⟩
       omega
     ·obtain rfl : v = ns.length := by omega
      have Cw : decide (ns.length < ns.length) = false := by simp
      have Ij := iD (fun h => hno (GU.1 h))
      go_wp2_with fail
      go_ret2;exact ⟨by rw [Fs.out, sL HF.out Bv.out Je.out Ij.out]; rfl, Df.drew⟩
  ·rcases lb with _ | _
   ·have Je : Hid (EZ kd a OP ≠ Ev kd a b OP) := by unfold Hid; rw [JD.out, Hw.out]; simp
    have GU : Hid (xZ kd a b ns PL OP ns.length ↔ ∃ (i : Nat) (x : Nd), i < ns.length ∧ ns[i]? = some x ∧ 0 < x.cust ∧ gI PL i = gI PL b) := by
     have Iq : dN kd a b PL OP = (b : Int) := by unfold dN Gi; rw [Bv.out, if_pos (by simpa using Je.out), if_pos JD.out]; unfold Jk; rw [if_neg Kh.out, if_neg (by rw [NZ.out]; simp)]
     unfold Hid xZ;rw [Iq];rfl
    clear d1 d2
    go_wp2_with fail
    go_loopg [20] ns.length (eJ w7.drew ns PL (gI PL b))
    case atStart => exact ⟨0, rfl, Nat.zero_le _, rfl, rfl, fun ⟨i, x, h, _⟩ => by omega⟩
    case round =>
     obtain ⟨v, rfl, hv, rfl, rfl, hno⟩ := hrel;by_cases MW : v < ns.length
     ·obtain ⟨Pv, JL, y, NB, CF, hy, QA⟩ := AK.at (k := v) (fun _ => rfl) (by decide) MW;have HY := iD hy;have Gg := Qg.cell 0;rw [NB] at Gg;have k0 : w7.cell? ⟨w.heap.size, 0, none⟩ = some (.slice (some ⟨Pv, JL, none⟩) ns.length cn) := Gg;have y1 : w7.cell? ⟨Pv, JL + v * 3 + 1, none⟩ = some (.int .i64 y.cust) := QA 1 _ rfl;have pv := PU v MW;have BL := iD NB;clear hy QA NB Gg;rcases IU : (gI PL v == gI PL b) with _ | _
      ·have JA : Hid (¬ ∃ (i : Nat) (x : Nd), i < v + 1 ∧ ns[i]? = some x ∧ 0 < x.cust ∧ gI PL i = gI PL b) := fun ⟨i, x, h1, h2, h3, h4⟩ => by
        rcases Nat.lt_succ_iff_lt_or_eq.1 h1 with h | rfl
        ·exact hno ⟨i, x, h, h2, h3, h4⟩
        ·rw [h4] at IU; simp at IU
       go_wp2_with fail
       go_roundg (ns.length - (v + 1))
       ·exact ⟨v + 1, by go_num, by omega, rfl, rfl, JA⟩
       omega
      by_cases DK : 0 < y.cust
      ·have q3 : decide (0 < y.cust) = true := by simpa using DK
       have FL := iD (GU.2 ⟨v, y, MW, HY, DK, by simpa using IU⟩);clear DK
       go_wp2_with fail
       go_ret2;exact ⟨by rw [Fs.out, tA HF.out Bv.out Je.out FL.out]; rfl, Df.drew⟩
      ·have q3 : decide (0 < y.cust) = false := by simpa using DK
       have JA : Hid (¬ ∃ (i : Nat) (x : Nd), i < v + 1 ∧ ns[i]? = some x ∧ 0 < x.cust ∧ gI PL i = gI PL b) := fun ⟨i, x, h1, h2, h3, h4⟩ => by
        rcases Nat.lt_succ_iff_lt_or_eq.1 h1 with h | rfl
        ·exact hno ⟨i, x, h, h2, h3, h4⟩
        ·rw [HY.out] at h2; injection h2 with h2; subst h2; exact DK h3
       clear DK
       go_wp2_with fail
       go_roundg (ns.length - (v + 1))
       ·exact ⟨v + 1, by go_num, by omega, rfl, rfl, JA⟩
       omega
     ·obtain rfl : v = ns.length := by omega
      have Cw : decide (ns.length < ns.length) = false := by simp
      have Ij := iD (fun h => hno (GU.1 h))
      go_wp2_with fail
      go_ret2;exact ⟨by rw [Fs.out, sL HF.out Bv.out Je.out Ij.out]; rfl, Df.drew⟩
   ·go_wp2_with fail
    go_ret2;exact ⟨by rw [Fs.out, pM HF.out Bv.out JD.out Hw.out]; rfl, Df.drew⟩
theorem iZ {nn : Nat} {c : List Int} (hc : wJ nn ds s c) {a b : Nat} (ha : a < nn) (hb : b < nn) : xP (bits .or .i64 (c.getD a 0) (c.getD b 0)) = (xP (c.getD a 0) || xP (c.getD b 0)) := by
 rw [yB (hc.2 a ha), yB (hc.2 b hb)];unfold tg;rcases yI (ud yg ds s a) 1 with ⟨_, e1⟩ | ⟨_, e1⟩ <;> rcases yI (ud (· = 4) ds s a) 2 with ⟨_, e2⟩ | ⟨_, e2⟩ <;> rcases yI (ud yg ds s b) 1 with ⟨_, e3⟩ | ⟨_, e3⟩ <;> rcases yI (ud (· = 4) ds s b) 2 with ⟨_, e4⟩ | ⟨_, e4⟩ <;> rw [e1, e2, e3, e4] <;> kernel_rfl
theorem jS (kd a b : Int) (ns : List Nd) (parts op cl : List Int) : xL kd a b ns parts op cl = 0 ∨ xL kd a b ns parts op cl = 1 ∨ xL kd a b ns parts op cl = 2 ∨ xL kd a b ns parts op cl = 3 ∨ xL kd a b ns parts op cl = 4 := by
 unfold xL;split
 ·simp
 split
 ·simp
 split
 ·simp
 split <;> simp
theorem iC (An Ad As : Option Addr) (nn cn nd cd n c i : Nat) (ns : List Nd) (ds : List Dv) (s : List Int) (p : Int) (x : Dv) (w : World) (h : yc w An Ad As none none nn cn nd cd n c 0 0 0 0 ns ds s [] []) (h0 : zQ ns ds s = 0) (hx : ds[i]? = some x) (hp : p = 1 ∨ p = 2) :
 Calls prog 94 #[.agg #[.slice An nn cn, .slice Ad nd cd], .slice As n c, .agg #[.int .i64 i, .int .i64 p]] w fun e w' => e = .returned (.bool (yV x.kind p (yz nn ns ds s i x) (Cv (zW nn ds s) x))) ∧ bW w w' := by
 obtain ⟨Da, Hl, ES⟩ := h.ln;subst Da;have hN := xk.of (yv h0).1;have hsl := (yv h0).2;have Lr := List.mem_of_getElem? hx;have Ho := hN.a x Lr;have TU := hN.k x Lr;have Fe : zV x.kind = true → 0 ≤ x.b ∧ x.b < ns.length := fun hj => (hN.e x Lr hj).2
 have hi : i < nd := by have := (List.getElem?_eq_some_iff.1 hx).1; omega
 have Hg := hN.nl;have VD := hN.dl;have HN := iD hN;have FU := iD ES;have Oh : nd ≤ n ∧ n ≤ nd := by omega
 have HB : Hid (Below w.heap.size w ((w.alloc (.cells #[.slice An ns.length cn, .slice Ad nd cd] 30)).alloc (.cells #[.int .i64 i, .int .i64 p] 77))) := ((Below.refl _ _).alloc lR _).alloc (by simp) _;have HK := iD ((AJ.new w 30 #[.slice An ns.length cn, .slice Ad nd cd]).alloc (.cells #[.int .i64 i, .int .i64 p] 77));have HO := iD (AJ.new (w.alloc (.cells #[.slice An ns.length cn, .slice Ad nd cd] 30)) 77 #[.int .i64 i, .int .i64 p]);have hsz : (w.alloc (.cells #[.slice An ns.length cn, .slice Ad nd cd] 30)).heap.size = w.heap.size + 1 := by simp
 rw [hsz] at HO;have HH := iD h;have HX := iD hx;have H0 := iD h0;clear h hN Lr hx h0 hsl ES
 go_enter func94, ntmps94
 go_upto_region 1 with (fail);clear hsz;generalize World.alloc (World.alloc w _) _ = W at *;obtain ⟨b0, off, x', rfl, hb, hx', hc⟩ := (HH.below HB).hd.at (k := i) (fun _ => rfl) (by decide) hi;obtain rfl : x = x' := by have := HX.out; rw [this] at hx'; exact Option.some.inj hx'
 obtain ⟨nm, kd, a, b, co⟩ := x;simp only at Ho Fe TU;obtain ⟨a, rfl⟩ := Int.eq_ofNat_of_zero_le Ho.1;have Iw : a < ns.length := by omega
 have c0 : W.cell? ⟨b0, off + i * 5, none⟩ = some (.string nm) := hc 0 _ rfl;have c1 : W.cell? ⟨b0, off + i * 5 + 1, none⟩ = some (.int .i64 kd) := hc 1 _ rfl;have c2 : W.cell? ⟨b0, off + i * 5 + 2, none⟩ = some (.int .i64 a) := hc 2 _ rfl;have c3 : W.cell? ⟨b0, off + i * 5 + 3, none⟩ = some (.int .i64 b) := hc 3 _ rfl;have c4 : W.cell? ⟨b0, off + i * 5 + 4, none⟩ = some (.int .i64 co) := hc 4 _ rfl;obtain ⟨k0, k1⟩ := HK.d2;have o0 := HO.cell 0;clear hc hx' Ho;go_upto_region 2 with (fail);clear c0 c1 c2 c3 c4 k0 k1 o0;have NY := iD (AJ.new W 57 #[.string nm, .int .i64 kd, .int .i64 a, .int .i64 b, .int .i64 co]);have Ai := iD (HB.alloc HB.size (.cells #[.string nm, .int .i64 kd, .int .i64 a, .int .i64 b, .int .i64 co] 57));have EP := iD (HK.alloc (.cells #[.string nm, .int .i64 kd, .int .i64 a, .int .i64 b, .int .i64 co] 57))
 have Ay := iD (HO.alloc (.cells #[.string nm, .int .i64 kd, .int .i64 a, .int .i64 b, .int .i64 co] 57));generalize World.alloc W _ = w2 at *;obtain ⟨db, VE⟩ := eX W.heap.size;rw [← VE] at NY ⊢;clear VE HB HK HO hb;have Ck := iD (HH.below Ai);obtain ⟨k0, k1⟩ := EP.d2;have o0 := Ay.cell 0
 go_wp2_with fail
 clear k0 k1 o0;refine (iG An (some ⟨b0, off, none⟩) As ns.length cn nd cd n c i ns ds s _ w2 Ck H0 HX).mono ?_;rintro e w3 ⟨rfl, BX⟩;have CO := iD (Ai.trans (BX.mono Ai.size));have EC := iD (EP.below BX EP.lt);have Az := iD (Ay.below BX Ay.lt);have Qj := iD (NY.below BX NY.lt);have FK := iD (Ck.below BX);obtain ⟨du, Lx⟩ := eX (yz ns.length ns ds s i ⟨nm, kd, a, b, co⟩);have MN : Hid (du = 0 ∨ du = 1 ∨ du = 2 ∨ du = 3 ∨ du = 4) := by rw [Lx]; exact jS ..
 rw [← Lx];have MO := iD Lx;clear BX Ai EP Ay NY Ck Lx;have d1 := Qj.cell 1;have o1 := Az.cell 1;obtain rfl | rfl | rfl | rfl | rfl | rfl : kd = 1 ∨ kd = 2 ∨ kd = 3 ∨ kd = 4 ∨ kd = 5 ∨ kd = 6 := by omega
 ·obtain ⟨b, rfl⟩ := Int.eq_ofNat_of_zero_le (Fe (by kernel_rfl)).1;have Ov : b < ns.length := by have := (Fe (by kernel_rfl)).2; omega
  obtain ⟨k0, k1⟩ := EC.d2
  go_wp2_with fail
  clear k0 k1 d1 o1;refine (vQ An (some ⟨b0, off, none⟩) As ns.length cn nd cd n c w3.heap.size w3.heap.size w3.heap.size ns ds s w3 FK.hn FK.hd FK.hs lR lR lR FK.sn FK.sd (by omega) (fun _ => ⟨by omega, HN.e, HN.ne⟩) (fun _ => ⟨HN.a, HN.k⟩)).mono ?_
  (rintro e w4 ⟨Be, ⟨hne, -⟩ | ⟨-, AC, CL, rfl, PD, MF⟩⟩; exact absurd H0.out hne)
  have DF := iD (CO.trans (Be.mono CO.size));have Em := iD (Qj.below Be Qj.lt);obtain ⟨g, rfl, -, hg⟩ := wO PD (by omega);have Ae := ym PD Iw;have Ax := ym PD Ov;have Lc : Hid (Cv (zW ns.length ds s) ⟨nm, 1, a, b, co⟩ = (xP (gI CL a) || xP (gI CL b))) := by unfold Hid Cv; rw [xO MF.out]; exact iZ MF Iw Ov
  have d2 := Em.cell 2;have d3 := Em.cell 3;have Nv : xP (gI CL a) = (bits BinOp.and IntKind.i64 (gI CL a) 1 != 0) := rfl;have VP : xP (gI CL b) = (bits BinOp.and IntKind.i64 (gI CL b) 1 != 0) := rfl;rw [Nv, VP] at Lc;clear Be PD MF CO EC Az Qj FK Nv VP;rcases hl : (bits BinOp.and IntKind.i64 (gI CL a) 1 != 0) with _ | _
  ·rw [hl, Bool.false_or] at Lc
   go_wp2_with fail
   go_ret;exact ⟨zF (by rw [Lc.out]; rfl), DF⟩
  ·rw [hl, Bool.true_or] at Lc
   go_wp2_with fail
   go_ret;exact ⟨zF (by rw [Lc.out]; rfl), DF⟩
 ·go_wp2_with fail
  go_ret;exact ⟨zF (by rw [← MO.out]; rfl), CO⟩
 ·rcases MN.out with rfl | rfl | rfl | rfl | rfl
  all_goals
   go_wp2_with fail
   go_ret;exact ⟨zF (by rw [← MO.out]; rfl), CO⟩
 ·rcases MN.out with rfl | rfl | rfl | rfl | rfl <;> rcases hp with rfl | rfl
  all_goals
   go_wp2_with fail
   go_ret;exact ⟨zF (by rw [← MO.out]; rfl), CO⟩
 ·go_wp2_with fail
  go_ret;exact ⟨zF (by rw [← MO.out]; rfl), CO⟩
 ·rcases MN.out with rfl | rfl | rfl | rfl | rfl <;> rcases hp with rfl | rfl
  all_goals
   go_wp2_with fail
   go_ret;exact ⟨zF (by rw [← MO.out]; rfl), CO⟩
theorem ix (l : List Int) (x : Int) : vV l x = decide (x ∈ l) := by rw [Bool.eq_iff_iff, rv]; simp
structure Ha (w : World) (nt op gr dv out : Array Value) (W : World) : Prop where
 bx : IK w nt op gr W
 br : AJ W (w.heap.size + 3) 114 #[.bool false, .bool false, .bool false, .bool false, .bool false, .bool false, .bool false, .bool false, .bool false]
 bo : AJ W (w.heap.size + 4) 114 out
 bd : AJ W (w.heap.size + 5) 57 dv
section
variable {w W W' : World} {nt op gr dv out : Array Value}
theorem Ha.later (h : Ha w nt op gr dv out W) (hb : bW W W') : Ha w nt op gr dv out W' := ⟨h.bx.later hb, h.br.below hb h.br.lt, h.bo.below hb h.bo.lt, h.bd.below hb h.bd.lt⟩
theorem IK.far (h : IK w nt op gr W) {p : Addr} (hp : w.heap.size + 3 ≤ p.block) (u : Value) : IK w nt op gr (W.setCell p u) := ⟨h.bl.setCell (by omega) u, h.bn.far (by omega) u, h.bo.far (by omega) u, h.bg.far (by omega) u⟩
theorem Ha.set (h : Ha w nt op gr dv out W) (j : Nat) (u : Value) : Ha w nt op gr dv (out.setIfInBounds j u) (W.setCell ⟨w.heap.size + 4, j, none⟩ u) := ⟨h.bx.far (by simp) u, h.br.far (by simp) u, h.bo.set j u, h.bd.far (by simp) u⟩
theorem Ha.drew (h : Ha w nt op gr dv out W) : Ha w nt op gr dv out W.drew := h.later (Below.refl _ _).drew
end
theorem gZ (An Ad As Al Ap : Option Addr) (nn cn nd cd n c nl cl np cp i : Nat) (ns : List Nd) (ds : List Dv) (s : List Int) (ls : List Lk) (pr : List Int) (p co : Int) (x : Dv) (w : World) (h : yc w An Ad As Al Ap nn cn nd cd n c nl cl np cp ns ds s ls pr) (h0 : zQ ns ds s = 0) (hx : ds[i]? = some x) (hp : p = 1 ∨ p = 2) :
 Calls prog 66 #[.agg #[.slice An nn cn, .slice Ad nd cd], .slice As n c, .agg #[.int .i64 i, .int .i64 p], .agg #[.int .i64 co, .slice Al nl cl, .slice Ap np cp]] w fun e w' => e = .returned (.agg (yY (KI nn ns ds s i p co ls pr x)).toArray) ∧ bW w w' := by
 obtain ⟨Da, Hl, ES⟩ := h.ln;subst Da;have hN := xk.of (yv h0).1;have hsl := (yv h0).2;have Lr := List.mem_of_getElem? hx;have Ho := hN.a x Lr;have hi : i < nd := by have := (List.getElem?_eq_some_iff.1 hx).1; omega
 have Hg := hN.nl;have VD := hN.dl;have HN := iD hN;have FU := iD ES;have Oh : nd ≤ n ∧ n ≤ nd := by omega
 have Ei : i < n := by omega
 have Au : nd ≤ ds.length ∧ ds.length ≤ nd := by omega
 have BF := iD (IK.new w #[.slice An ns.length cn, .slice Ad nd cd] #[.int .i64 i, .int .i64 p] #[.int .i64 co, .slice Al nl cl, .slice Ap np cp]);have JN : (((w.alloc (.cells #[.slice An ns.length cn, .slice Ad nd cd] 30)).alloc (.cells #[.int .i64 i, .int .i64 p] 77)).alloc (.cells #[.int .i64 co, .slice Al nl cl, .slice Ap np cp] 37)).heap.size = w.heap.size + 3 := by simp
 generalize Bc : ((w.alloc (.cells #[.slice An ns.length cn, .slice Ad nd cd] 30)).alloc (.cells #[.int .i64 i, .int .i64 p] 77)).alloc (.cells #[.int .i64 co, .slice Al nl cl, .slice Ap np cp] 37) = W3 at *;have Am := iD ((AJ.new W3 114 #[.bool false, .bool false, .bool false, .bool false, .bool false, .bool false, .bool false, .bool false, .bool false]).alloc (.cells #[.bool false, .bool false, .bool false, .bool false, .bool false, .bool false, .bool false, .bool false, .bool false] 114));have Aq := iD (AJ.new (W3.alloc (.cells #[.bool false, .bool false, .bool false, .bool false, .bool false, .bool false, .bool false, .bool false, .bool false] 114)) 114 #[.bool false, .bool false, .bool false, .bool false, .bool false, .bool false, .bool false, .bool false, .bool false]);rw [World.size_alloc, JN] at Aq;rw [JN] at Am
 have Ah := iD (BF.later (((Below.refl _ _).alloc lR (.cells #[.bool false, .bool false, .bool false, .bool false, .bool false, .bool false, .bool false, .bool false, .bool false] 114)).alloc (by simp) (.cells #[.bool false, .bool false, .bool false, .bool false, .bool false, .bool false, .bool false, .bool false, .bool false] 114)));have Qz : ((W3.alloc (.cells #[.bool false, .bool false, .bool false, .bool false, .bool false, .bool false, .bool false, .bool false, .bool false] 114)).alloc (.cells #[.bool false, .bool false, .bool false, .bool false, .bool false, .bool false, .bool false, .bool false, .bool false] 114)).heap.size = w.heap.size + 5 := by simp; omega
 subst Bc;have HH := iD h;have HX := iD hx;have H0 := iD h0;clear h hN Lr hx h0 hsl ES BF JN
 go_enter func66, ntmps66
 go_upto_region 2 with (fail);generalize World.alloc (World.alloc (World.alloc (World.alloc (World.alloc w _) _) _) _) _ = W at *;obtain ⟨b0, off, x', rfl, hb, hx', hc⟩ := (HH.below Ah.bl).hd.at (k := i) (fun _ => rfl) (by decide) hi;obtain rfl : x = x' := by have := HX.out; rw [this] at hx'; exact Option.some.inj hx'
 have HF : Hid (∀ s, KI ns.length ns ds s i p co ls pr x = if s.getD i 0 = p then [false, false, false, false, zi ls i, false, x.comp != co, true, false] else [false, decide (p = 2) && decide (yz ns.length ns ds s i x = 4), yV x.kind p (yz ns.length ns ds s i x) (Cv (zW ns.length ds s) x), yR ns ds s (zX s i p), zi ls i, decide (p = 2) && decide (x.kind = 4) && !vV pr x.a, x.comp != co, false, false]) := fun _ => rfl
 obtain ⟨nm, kd, a, b, BR⟩ := x;simp only at Ho HF;obtain ⟨a, rfl⟩ := Int.eq_ofNat_of_zero_le Ho.1;have c0 : W.cell? ⟨b0, off + i * 5, none⟩ = some (.string nm) := hc 0 _ rfl;have c1 : W.cell? ⟨b0, off + i * 5 + 1, none⟩ = some (.int .i64 kd) := hc 1 _ rfl;have c2 : W.cell? ⟨b0, off + i * 5 + 2, none⟩ = some (.int .i64 a) := hc 2 _ rfl;have c3 : W.cell? ⟨b0, off + i * 5 + 3, none⟩ = some (.int .i64 b) := hc 3 _ rfl;have c4 : W.cell? ⟨b0, off + i * 5 + 4, none⟩ = some (.int .i64 BR) := hc 4 _ rfl;have k1 := Ah.bn.cell 1;have o0 := Ah.bo.cell 0;clear hc hx' hb;go_upto_region 3 with (fail);clear c0 c1 c2 c3 c4 k1 o0
 have Tx : Hid (Ha w #[.slice An ns.length cn, .slice (some ⟨b0, off, none⟩) nd cd] #[.int .i64 i, .int .i64 p] #[.int .i64 co, .slice Al nl cl, .slice Ap np cp] #[.string nm, .int .i64 kd, .int .i64 a, .int .i64 b, .int .i64 BR] #[.bool false, .bool false, .bool false, .bool false, .bool false, .bool false, .bool false, .bool false, .bool false] (W.alloc (.cells #[.string nm, .int .i64 kd, .int .i64 a, .int .i64 b, .int .i64 BR] 57))) := ⟨Ah.later ((Below.refl _ _).alloc lR _), Am.alloc _, Aq.alloc _, by have := AJ.new W 57 #[.string nm, .int .i64 kd, .int .i64 a, .int .i64 b, .int .i64 BR]; rw [Qz] at this; exact this⟩
 try rw [Qz]
 clear Ah Am Aq;generalize World.alloc W _ = w2 at *;clear Qz;obtain ⟨Ad, Tk⟩ := eX (some (⟨b0, off, none⟩ : Addr));rw [← Tk] at Tx HH;clear Tk W;have Ck := iD (HH.below Tx.bx.bl);obtain ⟨o0, o1⟩ := Tx.bx.bo.d2;obtain ⟨g0, g1, g2⟩ := Tx.bx.bg.d3
 go_wp2_with fail
 clear o0 o1 g0 g1 g2;refine (ng Al Ap nl cl np cp ls co i w2 Ck.hl).mono ?_;rintro e w3 ⟨rfl, BX⟩;have OC := iD (Tx.later BX);have FK := iD (Ck.below BX);clear Tx Ck BX;obtain ⟨g0, g1, g2⟩ := OC.bx.bg.d3;have d1 := OC.bd.cell 1;have d2 := OC.bd.cell 2;have d4 := OC.bd.cell 4;have e4 := OC.bo.cell 4;have y4 := OC.bo.frozen 4;have e6 := OC.bo.cell 6;have y6 := OC.bo.frozen 6;have Jv : Hid (Ha w #[.slice An ns.length cn, .slice Ad nd cd] #[.int .i64 i, .int .i64 p] #[.int .i64 co, .slice Al nl cl, .slice Ap np cp] #[.string nm, .int .i64 kd, .int .i64 a, .int .i64 b, .int .i64 BR] #[.bool false, .bool false, .bool false, .bool false, .bool (zi ls i), .bool false, .bool false, .bool false, .bool false] _) := OC.set 4 (.bool (zi ls i))
 have Ey : Hid (Ha w #[.slice An ns.length cn, .slice Ad nd cd] #[.int .i64 i, .int .i64 p] #[.int .i64 co, .slice Al nl cl, .slice Ap np cp] #[.string nm, .int .i64 kd, .int .i64 a, .int .i64 b, .int .i64 BR] #[.bool false, .bool false, .bool false, .bool false, .bool (zi ls i), .bool false, .bool (BR != co), .bool false, .bool false] _) := Jv.set 6 (.bool (BR != co));go_upto_region 5 with (fail);clear g0 g1 g2 d1 d2 d4 e4 y4 e6 y6 OC Jv;generalize World.setCell (World.setCell w3 _ _) _ _ = w6 at *;have Gs := iD (HH.below Ey.bx.bl);obtain ⟨bs, os, sv, QP, QK, MZ, hcs⟩ := Gs.hs.at1 (k := i) (by omega);have BG := iD (yB MZ);have PU : Hid (w6.cell? ⟨bs, os + i, none⟩ = some (.int .i64 sv)) := hcs;subst QP;clear hcs MZ QK
 refine fv (fun W' => (W'.cell? ⟨w.heap.size + 1, 0, none⟩ = some (.int .i64 i) ∧ W'.cell? ⟨w.heap.size + 1, 1, none⟩ = some (.int .i64 p)) ∧ W'.cell? ⟨bs, os + i, none⟩ = some (.int .i64 sv)) [] ?_ fun AA => ?_
 ·exact ⟨⟨Ey.bx.bo.cell 0, Ey.bx.bo.cell 1⟩, PU⟩
 try dsimp only at AA
 refine tk 0 33 (mf 8 1) AA ?_;refine tk 1 34 (mf 8 2) AA ?_;refine tk 5 38 (ma 8 35) AA ?_;refine ty 2 35 (ma 8 39) AA (y := by intro w AL; have o0 := AL.1.1; go_simp; try with_reducible rfl) (h := ?_);refine ty 6 39 (ma 8 103) AA (y := by intro w AL; have o1 := AL.1.2; go_simp; try with_reducible rfl) (h := ?_);refine tk 3 36 (ma 8 111) AA ?_;refine ty 4 37 (mf 8 7) AA (y := by intro w AL; have ss := AL.2; go_simp; try with_reducible rfl) (h := ?_);refine tk 7 40 (mf 8 8) AA ?_;refine tK ?_;have PS := iD Ey.drew;clear Ey Gs PU FK;generalize World.drew w6 = w7 at *;have JB := iD (HH.below PS.bx.bl);by_cases hq : sv = p
 ·have q : (sv == p) = true := by simpa using hq
  have e7 := PS.bo.cell 7;have y7 := PS.bo.frozen 7;have EN : Hid (Ha w #[.slice An ns.length cn, .slice Ad nd cd] #[.int .i64 i, .int .i64 p] #[.int .i64 co, .slice Al nl cl, .slice Ap np cp] #[.string nm, .int .i64 kd, .int .i64 a, .int .i64 b, .int .i64 BR] #[.bool false, .bool false, .bool false, .bool false, .bool (zi ls i), .bool false, .bool (BR != co), .bool true, .bool false] _) := PS.set 7 (.bool (true));go_upto_region 7 with (fail);clear e7 y7 PS JB;generalize World.setCell w7 _ _ = w8 at *;have e0 := EN.bo.cell 0;have r0 := EN.br.cell 0;have y0 := EN.br.frozen 0;have e1 := EN.bo.cell 1;have r1 := EN.br.cell 1;have y1 := EN.br.frozen 1;have e2 := EN.bo.cell 2;have r2 := EN.br.cell 2;have y2 := EN.br.frozen 2;have e3 := EN.bo.cell 3;have r3 := EN.br.cell 3;have y3 := EN.br.frozen 3;have e4 := EN.bo.cell 4;have r4 := EN.br.cell 4;have y4 := EN.br.frozen 4;have e5 := EN.bo.cell 5
  have r5 := EN.br.cell 5;have y5 := EN.br.frozen 5;have e6 := EN.bo.cell 6;have r6 := EN.br.cell 6;have y6 := EN.br.frozen 6;have e7 := EN.bo.cell 7;have r7 := EN.br.cell 7;have y7 := EN.br.frozen 7;have e8 := EN.bo.cell 8;have r8 := EN.br.cell 8;have y8 := EN.br.frozen 8
  have HX : Hid (Below w.heap.size w (((((((((w8.setCell ⟨w.heap.size + 3, 0, none⟩ (.bool (false))).setCell ⟨w.heap.size + 3, 1, none⟩ (.bool (false))).setCell ⟨w.heap.size + 3, 2, none⟩ (.bool (false))).setCell ⟨w.heap.size + 3, 3, none⟩ (.bool (false))).setCell ⟨w.heap.size + 3, 4, none⟩ (.bool (zi ls i))).setCell ⟨w.heap.size + 3, 5, none⟩ (.bool (false))).setCell ⟨w.heap.size + 3, 6, none⟩ (.bool (BR != co))).setCell ⟨w.heap.size + 3, 7, none⟩ (.bool (true))).setCell ⟨w.heap.size + 3, 8, none⟩ (.bool (false)))) := (((((((((EN.bx.bl.setCell (p := ⟨w.heap.size + 3, 0, none⟩) (by simp) (.bool (false))).setCell (p := ⟨w.heap.size + 3, 1, none⟩) (by simp) (.bool (false))).setCell (p := ⟨w.heap.size + 3, 2, none⟩) (by simp) (.bool (false))).setCell (p := ⟨w.heap.size + 3, 3, none⟩) (by simp) (.bool (false))).setCell (p := ⟨w.heap.size + 3, 4, none⟩) (by simp) (.bool (zi ls i))).setCell (p := ⟨w.heap.size + 3, 5, none⟩) (by simp) (.bool (false))).setCell (p := ⟨w.heap.size + 3, 6, none⟩) (by simp) (.bool (BR != co))).setCell (p := ⟨w.heap.size + 3, 7, none⟩) (by simp) (.bool (true))).setCell (p := ⟨w.heap.size + 3, 8, none⟩) (by simp) (.bool (false)))
  have HR : Hid (KI ns.length ns ds s i p co ls pr ⟨nm, kd, a, b, BR⟩ = [false, false, false, false, zi ls i, false, BR != co, true, false]) := by
   unfold Hid;rw [HF.out s, if_pos (by rw [BG.out]; exact hq)]
  generalize (zi ls i) = v4 at *;generalize (BR != co) = v6 at *
  go_wp2_with fail
  exact bodyPost_ret (v := .agg #[.bool false, .bool false, .bool false, .bool false, .bool v4, .bool false, .bool v6, .bool true, .bool false]) (by simp [results, results66, go_sem, r0, r1, r2, r3, r4, r5, r6, r7, r8]) rfl ⟨by rw [HR.out]; rfl, HX⟩
 have q : (sv == p) = false := by simpa using hq
 have AH : Hid (¬ s.getD i 0 = p) := by rw [BG.out]; exact hq
 clear hq;obtain ⟨As, QP⟩ := eX (some (⟨bs, os, none⟩ : Addr));rw [← QP] at JB HH ⊢;clear QP;obtain ⟨k0, k1⟩ := PS.bx.bn.d2;obtain ⟨o0, o1⟩ := PS.bx.bo.d2
 go_wp2_with fail
 clear k0 k1 o0 o1 q;refine (iG An Ad As ns.length cn nd cd n c i ns ds s _ w7 ⟨JB.hn, JB.hd, JB.hs, Sl.nil _ _ _, Sl.nil _ _ _, JB.la, JB.sn, JB.sd⟩ H0 HX).mono ?_;rintro e w8 ⟨rfl, GA⟩;have EN := iD (PS.later GA);have MK := iD (JB.below GA);have BH := iD (iC An Ad As ns.length cn nd cd n c i ns ds s p ⟨nm, kd, a, b, BR⟩);obtain ⟨du, Lx⟩ := eX (yz ns.length ns ds s i ⟨nm, kd, a, b, BR⟩);rw [← Lx] at BH ⊢;have MO := iD Lx;clear GA PS JB Lx;obtain ⟨o0, o1⟩ := EN.bx.bo.d2;have e1 := EN.bo.cell 1;have y1 := EN.bo.frozen 1
 have MJ : Hid (Ha w #[.slice An ns.length cn, .slice Ad nd cd] #[.int .i64 i, .int .i64 p] #[.int .i64 co, .slice Al nl cl, .slice Ap np cp] #[.string nm, .int .i64 kd, .int .i64 a, .int .i64 b, .int .i64 BR] #[.bool false, .bool (decide (p = 2) && decide (du = 4)), .bool false, .bool false, .bool (zi ls i), .bool false, .bool (BR != co), .bool false, .bool false] _) := EN.set 1 (.bool (decide (p = 2) && decide (du = 4)));rcases hp with rfl | rfl
 ·have Ja : Hid ((decide ((1 : Int) = 2) && decide (du = 4)) = false) := rfl;rw [Ja.out] at MJ;go_upto_region 10 with (fail);clear o0 o1 e1 y1 EN;generalize World.setCell w8 _ _ = w9 at *;have GR := iD (HH.below MJ.bx.bl);obtain ⟨k0, k1⟩ := MJ.bx.bn.d2;obtain ⟨o0, o1⟩ := MJ.bx.bo.d2
  go_wp2_with fail
  clear k0 k1 o0 o1 MK;refine (BH w9 ⟨GR.hn, GR.hd, GR.hs, Sl.nil _ _ _, Sl.nil _ _ _, GR.la, GR.sn, GR.sd⟩ H0 HX (by simp)).mono ?_;rintro e Lp ⟨rfl, JW⟩;have Ie := iD (MJ.later JW);clear JW MJ GR BH;have e2 := Ie.bo.cell 2;have y2 := Ie.bo.frozen 2;have NR : Hid (Ha w #[.slice An ns.length cn, .slice Ad nd cd] #[.int .i64 i, .int .i64 1] #[.int .i64 co, .slice Al nl cl, .slice Ap np cp] #[.string nm, .int .i64 kd, .int .i64 a, .int .i64 b, .int .i64 BR] #[.bool false, .bool false, .bool (yV kd 1 du (Cv (zW ns.length ds s) ⟨nm, kd, a, b, BR⟩)), .bool false, .bool (zi ls i), .bool false, .bool (BR != co), .bool false, .bool false] _) := Ie.set 2 (.bool (yV kd 1 du (Cv (zW ns.length ds s) ⟨nm, kd, a, b, BR⟩)));go_upto_region 11 with (fail);clear e2 y2 Ie;generalize World.setCell Lp _ _ = Ct at *;have Es := iD NR.drew;have Kg := iD (HH.below Es.bx.bl);clear NR
  refine fv (fun W' => ((W'.cell? ⟨w.heap.size, 0, none⟩ = some (.slice An ns.length cn) ∧ W'.cell? ⟨w.heap.size, 1, none⟩ = some (.slice Ad nd cd)) ∧ W'.cell? ⟨w.heap.size + 1, 0, none⟩ = some (.int .i64 i)) ∧ W'.cell? ⟨w.heap.size + 1, 1, none⟩ = some (.int .i64 1)) [] ?_ fun AA => ?_
  ·exact ⟨⟨⟨Es.bx.bn.cell 0, Es.bx.bn.cell 1⟩, Es.bx.bo.cell 0⟩, Es.bx.bo.cell 1⟩
  try dsimp only at AA
  refine tk 1 66 (ma 16 2) AA ?_;refine tk 2 67 (ma 16 6) AA ?_;refine tk 3 68 (ma 16 14) AA ?_;refine tk 5 70 (ma 16 46) AA ?_;refine ty 0 65 (ma 16 47) AA (y := by intro w AL; have k0 := AL.1.1.1; have k1 := AL.1.1.2; go_simp; try with_reducible rfl) (h := ?_);refine ty 4 69 (mf 16 6) AA (y := by intro w AL; have o0 := AL.1.2; go_simp; try with_reducible rfl) (h := ?_);refine ty 6 71 (mf 16 7) AA (y := by intro w AL; have o1 := AL.2; go_simp; try with_reducible rfl) (h := ?_);refine tb 7 (mf 16 8) fun K hK => ?_
  (go_simp; refine (vP As n c Ct.drew.heap.size s i 1 Ct.drew Kg.hs lR (by omega)).mono ?_; rintro e Qr ⟨Aw, cw, rfl, IY, KS⟩; rw [xD, FU.out] at IY ⊢; have Fg := iD (Es.later KS); have Et := iD (Kg.below KS); have NL : Hid (Sl Qr Qr.heap.size 1 Aw n cw (zE (zX s i 1))) := IY.sl; clear IY KS Es Kg; go_simp)
  refine hK _ _ (fun _ => ⟨⟨⟨Fg.bx.bn.cell 0, Fg.bx.bn.cell 1⟩, Fg.bx.bo.cell 0⟩, Fg.bx.bo.cell 1⟩) fun p => (fun AA => ?_) (p rfl)
  clear p hK K;(try dsimp only at AA);refine tb 8 (mf 16 9) fun K hK => ?_
  (go_simp; refine (qw An Ad As Aw ns.length cn nd cd n c n cw ns ds s (zX s i 1) Qr Et.hn Et.hd Et.hs NL Et.sn Et.sd (by omega) H0 (yN H0 i (by simp)) (by omega) (by omega) ⟨HN.e, HN.ne⟩ ⟨HN.a, HN.k⟩).mono ?_; rintro e AY ⟨Ao, mo, Bn, lo, ko, rfl, Mj, RN, Mi, KR⟩; have EO := iD (Fg.later KR); have NU := iD (Et.below KR); have Fx := iD (tX Mi Mj); clear Mj Mi KR Fg Et NL; go_simp)
  refine hK _ _ (fun _ => ⟨⟨⟨EO.bx.bn.cell 0, EO.bx.bn.cell 1⟩, EO.bx.bo.cell 0⟩, EO.bx.bo.cell 1⟩) fun p => (fun AA => ?_) (p rfl)
  clear p hK K;(try dsimp only at AA);refine tk 9 64 (mf 16 10) AA ?_;refine tk 10 74 (mf 16 11) AA ?_;refine tk 11 75 (mf 16 12) AA ?_;refine tk 12 76 (mf 16 13) AA ?_;refine tk 13 13 (mf 16 14) AA ?_;refine tk 14 14 (mf 16 15) AA ?_;refine tk 15 15 (mf 16 16) AA ?_;refine tK ?_;have e3 := EO.bo.cell 3;have y3 := EO.bo.frozen 3;have BM : Hid (Ha w #[.slice An ns.length cn, .slice Ad nd cd] #[.int .i64 i, .int .i64 1] #[.int .i64 co, .slice Al nl cl, .slice Ap np cp] #[.string nm, .int .i64 kd, .int .i64 a, .int .i64 b, .int .i64 BR] #[.bool false, .bool false, .bool (yV kd 1 du (Cv (zW ns.length ds s) ⟨nm, kd, a, b, BR⟩)), .bool (yR ns ds s (zX s i 1)), .bool (zi ls i), .bool false, .bool (BR != co), .bool false, .bool false] _) := EO.set 3 (.bool (yR ns ds s (zX s i 1)));rw [← Fx.out] at BM;go_upto_region 13 with (fail);clear e3 y3 EO RN;rw [Fx.out] at BM ⊢;clear Fx
  generalize World.setCell AY _ _ = TK at *;rcases Ol : (kd == 4) with _ | _
  ·have SH : Hid (decide (kd = 4) = false) := Ol;obtain ⟨o0, o1⟩ := BM.bx.bo.d2;obtain ⟨g0, g1, g2⟩ := BM.bx.bg.d3;have d1 := BM.bd.cell 1;have d2 := BM.bd.cell 2;have d4 := BM.bd.cell 4;have e5 := BM.bo.cell 5;have y5 := BM.bo.frozen 5;have AX : Hid (Ha w #[.slice An ns.length cn, .slice Ad nd cd] #[.int .i64 i, .int .i64 1] #[.int .i64 co, .slice Al nl cl, .slice Ap np cp] #[.string nm, .int .i64 kd, .int .i64 a, .int .i64 b, .int .i64 BR] #[.bool false, .bool false, .bool (yV kd 1 du (Cv (zW ns.length ds s) ⟨nm, kd, a, b, BR⟩)), .bool (yR ns ds s (zX s i 1)), .bool (zi ls i), .bool false, .bool (BR != co), .bool false, .bool false] _) := BM.set 5 (.bool (false));go_upto_region 14 with (fail);clear e5 y5 o0 o1 g0 g1 g2 d1 d2 d4 BM NU;generalize World.setCell TK _ _ = Qq at *;have e0 := AX.bo.cell 0;have r0 := AX.br.cell 0;have y0 := AX.br.frozen 0;have e1 := AX.bo.cell 1
   have r1 := AX.br.cell 1;have y1 := AX.br.frozen 1;have e2 := AX.bo.cell 2;have r2 := AX.br.cell 2;have y2 := AX.br.frozen 2;have e3 := AX.bo.cell 3;have r3 := AX.br.cell 3;have y3 := AX.br.frozen 3;have e4 := AX.bo.cell 4;have r4 := AX.br.cell 4;have y4 := AX.br.frozen 4;have e5 := AX.bo.cell 5;have r5 := AX.br.cell 5;have y5 := AX.br.frozen 5;have e6 := AX.bo.cell 6;have r6 := AX.br.cell 6;have y6 := AX.br.frozen 6;have e7 := AX.bo.cell 7;have r7 := AX.br.cell 7;have y7 := AX.br.frozen 7;have e8 := AX.bo.cell 8;have r8 := AX.br.cell 8;have y8 := AX.br.frozen 8
   have HX : Hid (Below w.heap.size w (((((((((Qq.setCell ⟨w.heap.size + 3, 0, none⟩ (.bool (false))).setCell ⟨w.heap.size + 3, 1, none⟩ (.bool (false))).setCell ⟨w.heap.size + 3, 2, none⟩ (.bool (yV kd 1 du (Cv (zW ns.length ds s) ⟨nm, kd, a, b, BR⟩)))).setCell ⟨w.heap.size + 3, 3, none⟩ (.bool (yR ns ds s (zX s i 1)))).setCell ⟨w.heap.size + 3, 4, none⟩ (.bool (zi ls i))).setCell ⟨w.heap.size + 3, 5, none⟩ (.bool (false))).setCell ⟨w.heap.size + 3, 6, none⟩ (.bool (BR != co))).setCell ⟨w.heap.size + 3, 7, none⟩ (.bool (false))).setCell ⟨w.heap.size + 3, 8, none⟩ (.bool (false)))) := (((((((((AX.bx.bl.setCell (p := ⟨w.heap.size + 3, 0, none⟩) (by simp) (.bool (false))).setCell (p := ⟨w.heap.size + 3, 1, none⟩) (by simp) (.bool (false))).setCell (p := ⟨w.heap.size + 3, 2, none⟩) (by simp) (.bool (yV kd 1 du (Cv (zW ns.length ds s) ⟨nm, kd, a, b, BR⟩)))).setCell (p := ⟨w.heap.size + 3, 3, none⟩) (by simp) (.bool (yR ns ds s (zX s i 1)))).setCell (p := ⟨w.heap.size + 3, 4, none⟩) (by simp) (.bool (zi ls i))).setCell (p := ⟨w.heap.size + 3, 5, none⟩) (by simp) (.bool (false))).setCell (p := ⟨w.heap.size + 3, 6, none⟩) (by simp) (.bool (BR != co))).setCell (p := ⟨w.heap.size + 3, 7, none⟩) (by simp) (.bool (false))).setCell (p := ⟨w.heap.size + 3, 8, none⟩) (by simp) (.bool (false)))
   have HR : Hid (KI ns.length ns ds s i 1 co ls pr ⟨nm, kd, a, b, BR⟩ = [false, false, yV kd 1 du (Cv (zW ns.length ds s) ⟨nm, kd, a, b, BR⟩), yR ns ds s (zX s i 1), zi ls i, false, BR != co, false, false]) := by
    unfold Hid;rw [HF.out s, if_neg AH.out, MO.symm, SH.out]; rfl
   generalize (yV kd 1 du (Cv (zW ns.length ds s) ⟨nm, kd, a, b, BR⟩)) = v2 at *;generalize (yR ns ds s (zX s i 1)) = v3 at *;generalize (zi ls i) = v4 at *;generalize (BR != co) = v6 at *
   go_wp2_with fail
   exact bodyPost_ret (v := .agg #[.bool false, .bool false, .bool v2, .bool v3, .bool v4, .bool false, .bool v6, .bool false, .bool false]) (by simp [results, results66, go_sem, r0, r1, r2, r3, r4, r5, r6, r7, r8]) rfl ⟨by rw [HR.out]; rfl, HX⟩
  ·have SH : Hid (decide (kd = 4) = true) := Ol;obtain ⟨o0, o1⟩ := BM.bx.bo.d2;obtain ⟨g0, g1, g2⟩ := BM.bx.bg.d3;have d1 := BM.bd.cell 1;have d2 := BM.bd.cell 2;have d4 := BM.bd.cell 4;have e5 := BM.bo.cell 5;have y5 := BM.bo.frozen 5;have AX : Hid (Ha w #[.slice An ns.length cn, .slice Ad nd cd] #[.int .i64 i, .int .i64 1] #[.int .i64 co, .slice Al nl cl, .slice Ap np cp] #[.string nm, .int .i64 kd, .int .i64 a, .int .i64 b, .int .i64 BR] #[.bool false, .bool false, .bool (yV kd 1 du (Cv (zW ns.length ds s) ⟨nm, kd, a, b, BR⟩)), .bool (yR ns ds s (zX s i 1)), .bool (zi ls i), .bool false, .bool (BR != co), .bool false, .bool false] _) := BM.set 5 (.bool (false));go_upto_region 14 with (fail);clear e5 y5 o0 o1 g0 g1 g2 d1 d2 d4 BM NU;generalize World.setCell TK _ _ = Qq at *;have e0 := AX.bo.cell 0;have r0 := AX.br.cell 0;have y0 := AX.br.frozen 0;have e1 := AX.bo.cell 1
   have r1 := AX.br.cell 1;have y1 := AX.br.frozen 1;have e2 := AX.bo.cell 2;have r2 := AX.br.cell 2;have y2 := AX.br.frozen 2;have e3 := AX.bo.cell 3;have r3 := AX.br.cell 3;have y3 := AX.br.frozen 3;have e4 := AX.bo.cell 4;have r4 := AX.br.cell 4;have y4 := AX.br.frozen 4;have e5 := AX.bo.cell 5;have r5 := AX.br.cell 5;have y5 := AX.br.frozen 5;have e6 := AX.bo.cell 6;have r6 := AX.br.cell 6;have y6 := AX.br.frozen 6;have e7 := AX.bo.cell 7;have r7 := AX.br.cell 7;have y7 := AX.br.frozen 7;have e8 := AX.bo.cell 8;have r8 := AX.br.cell 8;have y8 := AX.br.frozen 8
   have HX : Hid (Below w.heap.size w (((((((((Qq.setCell ⟨w.heap.size + 3, 0, none⟩ (.bool (false))).setCell ⟨w.heap.size + 3, 1, none⟩ (.bool (false))).setCell ⟨w.heap.size + 3, 2, none⟩ (.bool (yV kd 1 du (Cv (zW ns.length ds s) ⟨nm, kd, a, b, BR⟩)))).setCell ⟨w.heap.size + 3, 3, none⟩ (.bool (yR ns ds s (zX s i 1)))).setCell ⟨w.heap.size + 3, 4, none⟩ (.bool (zi ls i))).setCell ⟨w.heap.size + 3, 5, none⟩ (.bool (false))).setCell ⟨w.heap.size + 3, 6, none⟩ (.bool (BR != co))).setCell ⟨w.heap.size + 3, 7, none⟩ (.bool (false))).setCell ⟨w.heap.size + 3, 8, none⟩ (.bool (false)))) := (((((((((AX.bx.bl.setCell (p := ⟨w.heap.size + 3, 0, none⟩) (by simp) (.bool (false))).setCell (p := ⟨w.heap.size + 3, 1, none⟩) (by simp) (.bool (false))).setCell (p := ⟨w.heap.size + 3, 2, none⟩) (by simp) (.bool (yV kd 1 du (Cv (zW ns.length ds s) ⟨nm, kd, a, b, BR⟩)))).setCell (p := ⟨w.heap.size + 3, 3, none⟩) (by simp) (.bool (yR ns ds s (zX s i 1)))).setCell (p := ⟨w.heap.size + 3, 4, none⟩) (by simp) (.bool (zi ls i))).setCell (p := ⟨w.heap.size + 3, 5, none⟩) (by simp) (.bool (false))).setCell (p := ⟨w.heap.size + 3, 6, none⟩) (by simp) (.bool (BR != co))).setCell (p := ⟨w.heap.size + 3, 7, none⟩) (by simp) (.bool (false))).setCell (p := ⟨w.heap.size + 3, 8, none⟩) (by simp) (.bool (false)))
   have HR : Hid (KI ns.length ns ds s i 1 co ls pr ⟨nm, kd, a, b, BR⟩ = [false, false, yV kd 1 du (Cv (zW ns.length ds s) ⟨nm, kd, a, b, BR⟩), yR ns ds s (zX s i 1), zi ls i, false, BR != co, false, false]) := by
    unfold Hid;rw [HF.out s, if_neg AH.out, MO.symm, SH.out]; rfl
   generalize (yV kd 1 du (Cv (zW ns.length ds s) ⟨nm, kd, a, b, BR⟩)) = v2 at *;generalize (yR ns ds s (zX s i 1)) = v3 at *;generalize (zi ls i) = v4 at *;generalize (BR != co) = v6 at *
   go_wp2_with fail
   exact bodyPost_ret (v := .agg #[.bool false, .bool false, .bool v2, .bool v3, .bool v4, .bool false, .bool v6, .bool false, .bool false]) (by simp [results, results66, go_sem, r0, r1, r2, r3, r4, r5, r6, r7, r8]) rfl ⟨by rw [HR.out]; rfl, HX⟩
 ·have Ja : Hid ((decide ((2 : Int) = 2) && decide (du = 4)) = (du == 4)) := rfl;rw [Ja.out] at MJ;go_upto_region 10 with (fail);clear o0 o1 e1 y1 EN;generalize World.setCell w8 _ _ = w9 at *;have GR := iD (HH.below MJ.bx.bl);obtain ⟨k0, k1⟩ := MJ.bx.bn.d2;obtain ⟨o0, o1⟩ := MJ.bx.bo.d2
  go_wp2_with fail
  clear k0 k1 o0 o1 MK;refine (BH w9 ⟨GR.hn, GR.hd, GR.hs, Sl.nil _ _ _, Sl.nil _ _ _, GR.la, GR.sn, GR.sd⟩ H0 HX (by simp)).mono ?_;rintro e Lp ⟨rfl, JW⟩;have Ie := iD (MJ.later JW);clear JW MJ GR BH;have e2 := Ie.bo.cell 2;have y2 := Ie.bo.frozen 2;have NR : Hid (Ha w #[.slice An ns.length cn, .slice Ad nd cd] #[.int .i64 i, .int .i64 2] #[.int .i64 co, .slice Al nl cl, .slice Ap np cp] #[.string nm, .int .i64 kd, .int .i64 a, .int .i64 b, .int .i64 BR] #[.bool false, .bool (du == 4), .bool (yV kd 2 du (Cv (zW ns.length ds s) ⟨nm, kd, a, b, BR⟩)), .bool false, .bool (zi ls i), .bool false, .bool (BR != co), .bool false, .bool false] _) := Ie.set 2 (.bool (yV kd 2 du (Cv (zW ns.length ds s) ⟨nm, kd, a, b, BR⟩)));go_upto_region 11 with (fail);clear e2 y2 Ie;generalize World.setCell Lp _ _ = Ct at *;have Es := iD NR.drew;have Kg := iD (HH.below Es.bx.bl);clear NR
  refine fv (fun W' => ((W'.cell? ⟨w.heap.size, 0, none⟩ = some (.slice An ns.length cn) ∧ W'.cell? ⟨w.heap.size, 1, none⟩ = some (.slice Ad nd cd)) ∧ W'.cell? ⟨w.heap.size + 1, 0, none⟩ = some (.int .i64 i)) ∧ W'.cell? ⟨w.heap.size + 1, 1, none⟩ = some (.int .i64 2)) [] ?_ fun AA => ?_
  ·exact ⟨⟨⟨Es.bx.bn.cell 0, Es.bx.bn.cell 1⟩, Es.bx.bo.cell 0⟩, Es.bx.bo.cell 1⟩
  try dsimp only at AA
  refine tk 1 66 (ma 16 2) AA ?_;refine tk 2 67 (ma 16 6) AA ?_;refine tk 3 68 (ma 16 14) AA ?_;refine tk 5 70 (ma 16 46) AA ?_;refine ty 0 65 (ma 16 47) AA (y := by intro w AL; have k0 := AL.1.1.1; have k1 := AL.1.1.2; go_simp; try with_reducible rfl) (h := ?_);refine ty 4 69 (mf 16 6) AA (y := by intro w AL; have o0 := AL.1.2; go_simp; try with_reducible rfl) (h := ?_);refine ty 6 71 (mf 16 7) AA (y := by intro w AL; have o1 := AL.2; go_simp; try with_reducible rfl) (h := ?_);refine tb 7 (mf 16 8) fun K hK => ?_
  (go_simp; refine (vP As n c Ct.drew.heap.size s i 2 Ct.drew Kg.hs lR (by omega)).mono ?_; rintro e Qr ⟨Aw, cw, rfl, IY, KS⟩; rw [xD, FU.out] at IY ⊢; have Fg := iD (Es.later KS); have Et := iD (Kg.below KS); have NL : Hid (Sl Qr Qr.heap.size 1 Aw n cw (zE (zX s i 2))) := IY.sl; clear IY KS Es Kg; go_simp)
  refine hK _ _ (fun _ => ⟨⟨⟨Fg.bx.bn.cell 0, Fg.bx.bn.cell 1⟩, Fg.bx.bo.cell 0⟩, Fg.bx.bo.cell 1⟩) fun p => (fun AA => ?_) (p rfl)
  clear p hK K;(try dsimp only at AA);refine tb 8 (mf 16 9) fun K hK => ?_
  (go_simp; refine (qw An Ad As Aw ns.length cn nd cd n c n cw ns ds s (zX s i 2) Qr Et.hn Et.hd Et.hs NL Et.sn Et.sd (by omega) H0 (yN H0 i (by simp)) (by omega) (by omega) ⟨HN.e, HN.ne⟩ ⟨HN.a, HN.k⟩).mono ?_; rintro e AY ⟨Ao, mo, Bn, lo, ko, rfl, Mj, RN, Mi, KR⟩; have EO := iD (Fg.later KR); have NU := iD (Et.below KR); have Fx := iD (tX Mi Mj); clear Mj Mi KR Fg Et NL; go_simp)
  refine hK _ _ (fun _ => ⟨⟨⟨EO.bx.bn.cell 0, EO.bx.bn.cell 1⟩, EO.bx.bo.cell 0⟩, EO.bx.bo.cell 1⟩) fun p => (fun AA => ?_) (p rfl)
  clear p hK K;(try dsimp only at AA);refine tk 9 64 (mf 16 10) AA ?_;refine tk 10 74 (mf 16 11) AA ?_;refine tk 11 75 (mf 16 12) AA ?_;refine tk 12 76 (mf 16 13) AA ?_;refine tk 13 13 (mf 16 14) AA ?_;refine tk 14 14 (mf 16 15) AA ?_;refine tk 15 15 (mf 16 16) AA ?_;refine tK ?_;have e3 := EO.bo.cell 3;have y3 := EO.bo.frozen 3;have BM : Hid (Ha w #[.slice An ns.length cn, .slice Ad nd cd] #[.int .i64 i, .int .i64 2] #[.int .i64 co, .slice Al nl cl, .slice Ap np cp] #[.string nm, .int .i64 kd, .int .i64 a, .int .i64 b, .int .i64 BR] #[.bool false, .bool (du == 4), .bool (yV kd 2 du (Cv (zW ns.length ds s) ⟨nm, kd, a, b, BR⟩)), .bool (yR ns ds s (zX s i 2)), .bool (zi ls i), .bool false, .bool (BR != co), .bool false, .bool false] _) := EO.set 3 (.bool (yR ns ds s (zX s i 2)));rw [← Fx.out] at BM;go_upto_region 13 with (fail);clear e3 y3 EO RN;rw [Fx.out] at BM ⊢;clear Fx
  generalize World.setCell AY _ _ = TK at *;rcases Ol : (kd == 4) with _ | _
  ·have SH : Hid (decide (kd = 4) = false) := Ol;obtain ⟨o0, o1⟩ := BM.bx.bo.d2;obtain ⟨g0, g1, g2⟩ := BM.bx.bg.d3;have d1 := BM.bd.cell 1;have d2 := BM.bd.cell 2;have d4 := BM.bd.cell 4;have e5 := BM.bo.cell 5;have y5 := BM.bo.frozen 5;have AX : Hid (Ha w #[.slice An ns.length cn, .slice Ad nd cd] #[.int .i64 i, .int .i64 2] #[.int .i64 co, .slice Al nl cl, .slice Ap np cp] #[.string nm, .int .i64 kd, .int .i64 a, .int .i64 b, .int .i64 BR] #[.bool false, .bool (du == 4), .bool (yV kd 2 du (Cv (zW ns.length ds s) ⟨nm, kd, a, b, BR⟩)), .bool (yR ns ds s (zX s i 2)), .bool (zi ls i), .bool false, .bool (BR != co), .bool false, .bool false] _) := BM.set 5 (.bool (false));go_upto_region 14 with (fail);clear e5 y5 o0 o1 g0 g1 g2 d1 d2 d4 BM NU;generalize World.setCell TK _ _ = Qq at *;have e0 := AX.bo.cell 0;have r0 := AX.br.cell 0;have y0 := AX.br.frozen 0;have e1 := AX.bo.cell 1
   have r1 := AX.br.cell 1;have y1 := AX.br.frozen 1;have e2 := AX.bo.cell 2;have r2 := AX.br.cell 2;have y2 := AX.br.frozen 2;have e3 := AX.bo.cell 3;have r3 := AX.br.cell 3;have y3 := AX.br.frozen 3;have e4 := AX.bo.cell 4;have r4 := AX.br.cell 4;have y4 := AX.br.frozen 4;have e5 := AX.bo.cell 5;have r5 := AX.br.cell 5;have y5 := AX.br.frozen 5;have e6 := AX.bo.cell 6;have r6 := AX.br.cell 6;have y6 := AX.br.frozen 6;have e7 := AX.bo.cell 7;have r7 := AX.br.cell 7;have y7 := AX.br.frozen 7;have e8 := AX.bo.cell 8;have r8 := AX.br.cell 8;have y8 := AX.br.frozen 8
   have HX : Hid (Below w.heap.size w (((((((((Qq.setCell ⟨w.heap.size + 3, 0, none⟩ (.bool (false))).setCell ⟨w.heap.size + 3, 1, none⟩ (.bool (du == 4))).setCell ⟨w.heap.size + 3, 2, none⟩ (.bool (yV kd 2 du (Cv (zW ns.length ds s) ⟨nm, kd, a, b, BR⟩)))).setCell ⟨w.heap.size + 3, 3, none⟩ (.bool (yR ns ds s (zX s i 2)))).setCell ⟨w.heap.size + 3, 4, none⟩ (.bool (zi ls i))).setCell ⟨w.heap.size + 3, 5, none⟩ (.bool (false))).setCell ⟨w.heap.size + 3, 6, none⟩ (.bool (BR != co))).setCell ⟨w.heap.size + 3, 7, none⟩ (.bool (false))).setCell ⟨w.heap.size + 3, 8, none⟩ (.bool (false)))) := (((((((((AX.bx.bl.setCell (p := ⟨w.heap.size + 3, 0, none⟩) (by simp) (.bool (false))).setCell (p := ⟨w.heap.size + 3, 1, none⟩) (by simp) (.bool (du == 4))).setCell (p := ⟨w.heap.size + 3, 2, none⟩) (by simp) (.bool (yV kd 2 du (Cv (zW ns.length ds s) ⟨nm, kd, a, b, BR⟩)))).setCell (p := ⟨w.heap.size + 3, 3, none⟩) (by simp) (.bool (yR ns ds s (zX s i 2)))).setCell (p := ⟨w.heap.size + 3, 4, none⟩) (by simp) (.bool (zi ls i))).setCell (p := ⟨w.heap.size + 3, 5, none⟩) (by simp) (.bool (false))).setCell (p := ⟨w.heap.size + 3, 6, none⟩) (by simp) (.bool (BR != co))).setCell (p := ⟨w.heap.size + 3, 7, none⟩) (by simp) (.bool (false))).setCell (p := ⟨w.heap.size + 3, 8, none⟩) (by simp) (.bool (false)))
   have HR : Hid (KI ns.length ns ds s i 2 co ls pr ⟨nm, kd, a, b, BR⟩ = [false, du == 4, yV kd 2 du (Cv (zW ns.length ds s) ⟨nm, kd, a, b, BR⟩), yR ns ds s (zX s i 2), zi ls i, false, BR != co, false, false]) := by
    unfold Hid;rw [HF.out s, if_neg AH.out, MO.symm, SH.out]; rfl
   generalize (du == 4) = v1 at *;generalize (yV kd 2 du (Cv (zW ns.length ds s) ⟨nm, kd, a, b, BR⟩)) = v2 at *;generalize (yR ns ds s (zX s i 2)) = v3 at *;generalize (zi ls i) = v4 at *;generalize (BR != co) = v6 at *
   go_wp2_with fail
   exact bodyPost_ret (v := .agg #[.bool false, .bool v1, .bool v2, .bool v3, .bool v4, .bool false, .bool v6, .bool false, .bool false]) (by simp [results, results66, go_sem, r0, r1, r2, r3, r4, r5, r6, r7, r8]) rfl ⟨by rw [HR.out]; rfl, HX⟩
  ·have SH : Hid (decide (kd = 4) = true) := Ol;obtain ⟨o0, o1⟩ := BM.bx.bo.d2;obtain ⟨g0, g1, g2⟩ := BM.bx.bg.d3;have d1 := BM.bd.cell 1;have d2 := BM.bd.cell 2;have d4 := BM.bd.cell 4;have e5 := BM.bo.cell 5;have y5 := BM.bo.frozen 5
   go_wp2_with fail
   clear o0 o1 g0 g1 g2 d1 d2 d4 e5 y5;refine (nB Ap np cp pr a TK (HH.below BM.bx.bl).hp).mono ?_;rintro e Bp ⟨rfl, rfl⟩;have e5 := BM.bo.cell 5;have y5 := BM.bo.frozen 5;have AX : Hid (Ha w #[.slice An ns.length cn, .slice Ad nd cd] #[.int .i64 i, .int .i64 2] #[.int .i64 co, .slice Al nl cl, .slice Ap np cp] #[.string nm, .int .i64 kd, .int .i64 a, .int .i64 b, .int .i64 BR] #[.bool false, .bool (du == 4), .bool (yV kd 2 du (Cv (zW ns.length ds s) ⟨nm, kd, a, b, BR⟩)), .bool (yR ns ds s (zX s i 2)), .bool (zi ls i), .bool (!(decide ((a : Int) ∈ pr))), .bool (BR != co), .bool false, .bool false] _) := BM.set 5 (.bool (!(decide ((a : Int) ∈ pr))));go_upto_region 14 with (fail);clear e5 y5 BM NU;generalize World.setCell TK _ _ = Qq at *;have e0 := AX.bo.cell 0;have r0 := AX.br.cell 0;have y0 := AX.br.frozen 0;have e1 := AX.bo.cell 1;have r1 := AX.br.cell 1;have y1 := AX.br.frozen 1
   have e2 := AX.bo.cell 2;have r2 := AX.br.cell 2;have y2 := AX.br.frozen 2;have e3 := AX.bo.cell 3;have r3 := AX.br.cell 3;have y3 := AX.br.frozen 3;have e4 := AX.bo.cell 4;have r4 := AX.br.cell 4;have y4 := AX.br.frozen 4;have e5 := AX.bo.cell 5;have r5 := AX.br.cell 5;have y5 := AX.br.frozen 5;have e6 := AX.bo.cell 6;have r6 := AX.br.cell 6;have y6 := AX.br.frozen 6;have e7 := AX.bo.cell 7;have r7 := AX.br.cell 7;have y7 := AX.br.frozen 7;have e8 := AX.bo.cell 8;have r8 := AX.br.cell 8;have y8 := AX.br.frozen 8
   have HX : Hid (Below w.heap.size w (((((((((Qq.setCell ⟨w.heap.size + 3, 0, none⟩ (.bool (false))).setCell ⟨w.heap.size + 3, 1, none⟩ (.bool (du == 4))).setCell ⟨w.heap.size + 3, 2, none⟩ (.bool (yV kd 2 du (Cv (zW ns.length ds s) ⟨nm, kd, a, b, BR⟩)))).setCell ⟨w.heap.size + 3, 3, none⟩ (.bool (yR ns ds s (zX s i 2)))).setCell ⟨w.heap.size + 3, 4, none⟩ (.bool (zi ls i))).setCell ⟨w.heap.size + 3, 5, none⟩ (.bool (!(decide ((a : Int) ∈ pr))))).setCell ⟨w.heap.size + 3, 6, none⟩ (.bool (BR != co))).setCell ⟨w.heap.size + 3, 7, none⟩ (.bool (false))).setCell ⟨w.heap.size + 3, 8, none⟩ (.bool (false)))) := (((((((((AX.bx.bl.setCell (p := ⟨w.heap.size + 3, 0, none⟩) (by simp) (.bool (false))).setCell (p := ⟨w.heap.size + 3, 1, none⟩) (by simp) (.bool (du == 4))).setCell (p := ⟨w.heap.size + 3, 2, none⟩) (by simp) (.bool (yV kd 2 du (Cv (zW ns.length ds s) ⟨nm, kd, a, b, BR⟩)))).setCell (p := ⟨w.heap.size + 3, 3, none⟩) (by simp) (.bool (yR ns ds s (zX s i 2)))).setCell (p := ⟨w.heap.size + 3, 4, none⟩) (by simp) (.bool (zi ls i))).setCell (p := ⟨w.heap.size + 3, 5, none⟩) (by simp) (.bool (!(decide ((a : Int) ∈ pr))))).setCell (p := ⟨w.heap.size + 3, 6, none⟩) (by simp) (.bool (BR != co))).setCell (p := ⟨w.heap.size + 3, 7, none⟩) (by simp) (.bool (false))).setCell (p := ⟨w.heap.size + 3, 8, none⟩) (by simp) (.bool (false)))
   have HR : Hid (KI ns.length ns ds s i 2 co ls pr ⟨nm, kd, a, b, BR⟩ = [false, du == 4, yV kd 2 du (Cv (zW ns.length ds s) ⟨nm, kd, a, b, BR⟩), yR ns ds s (zX s i 2), zi ls i, !(decide ((a : Int) ∈ pr)), BR != co, false, false]) := by
    unfold Hid;rw [HF.out s, if_neg AH.out, MO.symm, SH.out, ix]; rfl
   generalize (du == 4) = v1 at *;generalize (yV kd 2 du (Cv (zW ns.length ds s) ⟨nm, kd, a, b, BR⟩)) = v2 at *;generalize (yR ns ds s (zX s i 2)) = v3 at *;generalize (zi ls i) = v4 at *;generalize (!(decide ((a : Int) ∈ pr))) = v5 at *;generalize (BR != co) = v6 at *
   go_wp2_with fail
   exact bodyPost_ret (v := .agg #[.bool false, .bool v1, .bool v2, .bool v3, .bool v4, .bool v5, .bool v6, .bool false, .bool false]) (by simp [results, results66, go_sem, r0, r1, r2, r3, r4, r5, r6, r7, r8]) rfl ⟨by rw [HR.out]; rfl, HX⟩
theorem nine {l : List Bool} (h : l.length = 9) : ∃ b0 b1 b2 b3 b4 b5 b6 b7 b8, l = [b0, b1, b2, b3, b4, b5, b6, b7, b8] := by
 rcases l with _ | ⟨b0, _ | ⟨b1, _ | ⟨b2, _ | ⟨b3, _ | ⟨b4, _ | ⟨b5, _ | ⟨b6, _ | ⟨b7, _ | ⟨b8, _ | ⟨b9, l⟩⟩⟩⟩⟩⟩⟩⟩⟩⟩
 all_goals first | exact ⟨_, _, _, _, _, _, _, _, _, rfl⟩ | (simp at h)
theorem jz (An Ad As Al Ap : Option Addr) (nn cn nd cd n c nl cl np cp : Nat) (ns : List Nd) (ds : List Dv) (m : List Int) (ls : List Lk) (pr : List Int) (d p co : Int) (w : World) (h : yc w An Ad As Al Ap nn cn nd cd n c nl cl np cp ns ds m ls pr) :
 Calls prog 65 #[.agg #[.slice An nn cn, .slice Ad nd cd], .slice As n c, .agg #[.int .i64 d, .int .i64 p], .agg #[.int .i64 co, .slice Al nl cl, .slice Ap np cp]] w (kU w ns ds m d p co) := by
 obtain ⟨Da, Hl, ES⟩ := h.ln;have RI := h.hd.le;have HB := iD (IK.new w #[.slice An nn cn, .slice Ad nd cd] #[.int .i64 d, .int .i64 p] #[.int .i64 co, .slice Al nl cl, .slice Ap np cp]);have HH := iD h;clear h;have Ph : Hid (zy ns ds m d p co = if zU ns ds m = 0 then (if yS nd d p co = 0 then yG m else yS nd d p co) else zU ns ds m) := by unfold Hid zy; rw [Hl]
 go_enter func65, ntmps65
 go_wp2_with fail
 generalize World.alloc (World.alloc (World.alloc w _) _) _ = W at *;have HM := iD (HH.below HB.bl);have HC := iD (nC An Ad As nn cn nd cd n c W.heap.size W.heap.size W.heap.size ns ds m W HM.hn HM.hd HM.hs lR lR lR HM.sn HM.sd);refine HC.mono ?_;rintro e w1 ⟨rfl, AV⟩;have AQ := iD (HB.later AV);clear AV HC HM HB;by_cases h0 : zU ns ds m = 0; rotate_left
 ·have q : (zU ns ds m == 0) = false := by simpa using h0
  have q2 : (zU ns ds m != 0) = true := by simpa using h0
  have HR : Hid (zy ns ds m d p co = zU ns ds m) := by unfold Hid; rw [Ph.out, if_neg h0]
  have H0 := iD h0;clear h0 Ph
  go_wp2_with fail
  go_ret2;exact ⟨.inl ⟨by rw [HR.out]; exact H0, by rw [HR.out]; rfl⟩, AQ.bl⟩
 have HR : Hid (zy ns ds m d p co = if yS nd d p co = 0 then yG m else yS nd d p co) := by unfold Hid; rw [Ph.out, if_pos h0]
 have H0 := iD h0;clear Ph;rw [h0];clear h0;obtain ⟨⟨k0, k1⟩, ⟨o0, o1⟩, g0, g1, g2⟩ := AQ.cells
 go_wp2_with fail
 clear k0 k1 o0 o1 g0 g1 g2;refine (lJ An Ad Al Ap nn cn nd cd nl cl np cp d p co w1 (by omega)).mono ?_;rintro e w2 ⟨rfl, AZ⟩;have Ai := iD (AQ.later AZ);clear AZ AQ;by_cases he : yS nd d p co = 0; rotate_left
 ·have q : (yS nd d p co != 0) = true := by simpa using he
  have HE := iD he;have FJ : Hid (zy ns ds m d p co = yS nd d p co) := by unfold Hid; rw [HR.out, if_neg he]
  clear he HR
  go_wp2_with fail
  go_ret2;exact ⟨.inl ⟨by rw [FJ.out]; exact HE, by rw [FJ.out]; rfl⟩, Ai.bl⟩
 have FJ : Hid (zy ns ds m d p co = yG m) := by unfold Hid; rw [HR.out, if_pos he]
 rw [he];clear he HR
 have RJ : m.length ≤ 1000 := by
  obtain ⟨h1, h2, _⟩ := zS H0.out;have := (xk.of h1).dl;omega
 subst ES
 go_wp2_with fail
 refine (iE As c w2.heap.size m w2 (HH.below Ai.bl).hs lR RJ).mono ?_;rintro e w3 ⟨⟨h1, rfl⟩ | ⟨h1, A, k, ca, rfl, hR⟩, BX⟩
 ·have H1 := iD h1;clear h1
  go_wp2_with fail
  go_ret2;exact ⟨.inl ⟨by rw [FJ.out]; exact H1, by rw [FJ.out]; rfl⟩, Ai.bl.trans (BX.mono Ai.bl.size)⟩
 ·have H1 := iD h1;clear h1
  go_wp2_with fail
  go_ret2;exact ⟨.inr ⟨by rw [FJ.out]; exact H1, A, k, ca, rfl, hR⟩, Ai.bl.trans (BX.mono Ai.bl.size)⟩
def gW (w0 : World) (x7 : Nat) (u0 u1 u2 u3 u4 u5 u6 u7 u8 : Bool) : World := (((((((((w0.setCell ⟨x7, 0, none⟩ (.bool u0)).setCell ⟨x7, 1, none⟩ (.bool u1)).setCell ⟨x7, 2, none⟩ (.bool u2)).setCell ⟨x7, 3, none⟩ (.bool u3)).setCell ⟨x7, 4, none⟩ (.bool u4)).setCell ⟨x7, 5, none⟩ (.bool u5)).setCell ⟨x7, 6, none⟩ (.bool u6)).setCell ⟨x7, 7, none⟩ (.bool u7)).setCell ⟨x7, 8, none⟩ (.bool u8))
theorem rT (ρ : Operand → Value) (o : Oper) (x y : Operand) (w0 : World) (x7 : Nat) (u0 u1 u2 u3 u4 u5 u6 u7 u8 : Bool) (ho : o.op = .store 114 x y) (e7 : ρ x = .pointer (some ⟨x7, 0, none⟩)) (Rk : ρ y = .agg #[.bool u0, .bool u1, .bool u2, .bool u3, .bool u4, .bool u5, .bool u6, .bool u7, .bool u8])
 (h : AJ w0 x7 114 #[.bool false, .bool false, .bool false, .bool false, .bool false, .bool false, .bool false, .bool false, .bool false]) :
 (execOp ρ o).run prog w0 = .ok .skip (gW w0 x7 u0 u1 u2 u3 u4 u5 u6 u7 u8) := by
 have a0 := h.c0;have f0 := h.frozen 0;have a1 := h.c1;have f1 := h.frozen 1;have a2 := h.c2;have f2 := h.frozen 2;have a3 := h.c3;have f3 := h.frozen 3;have a4 := h.c4;have f4 := h.frozen 4;have a5 := h.c5;have f5 := h.frozen 5;have a6 := h.c6;have f6 := h.frozen 6;have a7 := h.c7;have f7 := h.frozen 7;have a8 := h.c8;have f8 := h.frozen 8;clear h;unfold execOp;rw [ho];simp only [e7, Rk]
 go_simp
 rfl
theorem jt {w0 : World} {x7 : Nat} {t : TypeId} (h : AJ w0 x7 t #[.bool false, .bool false, .bool false, .bool false, .bool false, .bool false, .bool false, .bool false, .bool false]) (u0 u1 u2 u3 u4 u5 u6 u7 u8 : Bool) : AJ (gW w0 x7 u0 u1 u2 u3 u4 u5 u6 u7 u8) x7 t #[.bool u0, .bool u1, .bool u2, .bool u3, .bool u4, .bool u5, .bool u6, .bool u7, .bool u8] := by
 have h9 := (((((((((h.set 0 (.bool u0)).set 1 (.bool u1)).set 2 (.bool u2)).set 3 (.bool u3)).set 4 (.bool u4)).set 5 (.bool u5)).set 6 (.bool u6)).set 7 (.bool u7)).set 8 (.bool u8));simp only [List.setIfInBounds_toArray, List.set_cons_zero, List.set_cons_succ] at h9;exact h9
theorem mh {B : Nat} {w0 : World} {x7 : Nat} (h : Below B w w0) (hx : B ≤ x7) (u0 u1 u2 u3 u4 u5 u6 u7 u8 : Bool) : Below B w (gW w0 x7 u0 u1 u2 u3 u4 u5 u6 u7 u8) :=
 (((((((((h.setCell (p := ⟨x7, 0, none⟩) hx _).setCell (p := ⟨x7, 1, none⟩) hx _).setCell (p := ⟨x7, 2, none⟩) hx _).setCell (p := ⟨x7, 3, none⟩) hx _).setCell (p := ⟨x7, 4, none⟩) hx _).setCell (p := ⟨x7, 5, none⟩) hx _).setCell (p := ⟨x7, 6, none⟩) hx _).setCell (p := ⟨x7, 7, none⟩) hx _).setCell (p := ⟨x7, 8, none⟩) hx _)
def QT (W : World) (v : Value) : List Value → World → Prop
 | [], W' => bW W W'
 | [u], W' => u = v ∧ bW W W'
 | _, _ => False
theorem QT.base {W' : World} {v : Value} : ∀ {vs : List Value}, QT W v vs W' → bW W W'
 | [], h => h
 | [_], h => h.2
 | _ :: _ :: _, h => h.elim
theorem QT.alloc {W' : World} {v : Value} : ∀ {vs : List Value} (o : Obj), QT W v vs W' → QT W v vs (W'.alloc o)
 | [], o, h => Below.alloc h (Below.size h) o
 | [_], o, h => ⟨h.1, h.2.alloc h.2.size o⟩
 | _ :: _ :: _, _, h => h.elim
theorem tC {l : List Bool} {j : Nat} {b : Bool} (h : l[j]? = some b) : (yY l).toArray[j]? = some (.bool b) := by
 rw [List.getElem?_toArray, wI, List.getElem?_map, h]; rfl
theorem si (l : List Bool) (j : Nat) (b : Bool) : (yY l).toArray.setIfInBounds j (.bool b) = (yY (l.set j b)).toArray := by
 rw [List.setIfInBounds_toArray, qI]
def RmR (w w1 : World) (ab : Nat) (nt op gr : Array Value) (F : List Int → List Bool) (rows : List (List Int)) (n gk : Nat) (nv iv : Value) (wr : World) : Prop := ∃ (k : Nat) (S : List Bool) (nb : Bool), iv = .int .i64 k ∧ nv = .bool nb ∧ k ≤ n ∧ gk = n - k ∧ Hid (qR F rows k S nb) ∧ Hid (IK w nt op gr wr) ∧ Hid (AJ wr ab 114 (yY S).toArray) ∧ Hid (bW w1 wr)
def RmS (w w1 : World) (ab x7 : Nat) (nt op gr : Array Value) (F : List Int → List Bool) (rows : List (List Int)) (k : Nat) (s : List Int) (gk : Nat) (iv : Value) (wr : World) : Prop := ∃ (j : Nat) (S : List Bool), iv = .int .i64 j ∧ j ≤ 9 ∧ gk = 9 - j ∧ Hid (lg F rows k s j S) ∧ Hid (IK w nt op gr wr) ∧ Hid (AJ wr ab 114 (yY S).toArray) ∧ Hid (AJ wr x7 114 (yY (F s)).toArray) ∧ Hid (bW w1 wr)
theorem iH (An Ad As Al Ap : Option Addr) (nn cn nd cd n c nl cl np cp : Nat) (ns : List Nd) (ds : List Dv) (m : List Int) (ls : List Lk) (pr : List Int) (d p co : Int) (w : World) (h : yc w An Ad As Al Ap nn cn nd cd n c nl cl np cp ns ds m ls pr) :
 Calls prog 37 #[.agg #[.slice An nn cn, .slice Ad nd cd], .slice As n c, .agg #[.int .i64 d, .int .i64 p], .agg #[.int .i64 co, .slice Al nl cl, .slice Ap np cp]] w (oR w ns ds m d p co ls pr) := by
 obtain ⟨Da, Hl, ES⟩ := h.ln;subst Da;have HB := iD (IK.new w #[.slice An ns.length cn, .slice Ad nd cd] #[.int .i64 d, .int .i64 p] #[.int .i64 co, .slice Al nl cl, .slice Ap np cp]);have HH := iD h;clear h
 go_enter func37, ntmps37
 go_wp2_with fail
 generalize World.alloc (World.alloc (World.alloc w _) _) _ = W at *;have HM := iD (HH.below HB.bl);refine (jz An Ad As Al Ap ns.length cn nd cd n c nl cl np cp ns ds m ls pr d p co W HM).mono ?_;rintro e w1 ⟨⟨h1, rfl⟩ | ⟨h1, AR, kR, cR, rfl, hR⟩, AV⟩
 ·have H1 := iD h1;have q : (zy ns ds m d p co != 0) = true := by simpa using h1
  have AQ := iD (HB.later AV);clear h1 AV HB HM
  go_wp2_with fail
  go_ret2;exact ⟨.inl ⟨H1, rfl⟩, AQ.bl⟩
 have AQ := iD (HB.later AV);have H1 := iD h1;have Bo := iD hR.len;have CB := hR.le;obtain ⟨FX, TL, hce⟩ := tw h1;obtain ⟨hd, hp, DT⟩ := rq TL;have Qe := iD FX;have PT := iD hp;obtain ⟨k, rfl⟩ := Int.eq_ofNat_of_zero_le hd.1;have hk : k < ds.length := by omega
 have BV : k < m.length := by have := (zS FX).2.1; omega
 obtain ⟨x, hx⟩ : ∃ x, ds[k]? = some x := ⟨_, List.getElem?_eq_getElem hk⟩
 have HX := iD hx;have HR := iD hR.out;clear HB HM AV hce FX TL hx h1 hp hd hR;go_upto_region 5 with (fail);have Ar := iD (AJ.new w1 114 #[.bool false, .bool false, .bool false, .bool false, .bool false, .bool false, .bool false, .bool false, .bool false]);have Sz : Hid (Below w1.heap.size w1 (w1.alloc (.cells #[.bool false, .bool false, .bool false, .bool false, .bool false, .bool false, .bool false, .bool false, .bool false] 114))) := (Below.refl _ _).alloc lR _;have Ai := iD (AQ.later Sz);generalize World.alloc w1 _ = w2 at *;have Bb : w.heap.size + 3 ≤ w1.heap.size := by have := AQ.bg.lt; omega
 obtain ⟨ab, Oy⟩ := eX w1.heap.size;rw [← Oy] at Ar ⊢;obtain ⟨F, hF⟩ : ∃ F : List Int → List Bool, F = fun s => KI ns.length ns ds s k p co ls pr x := ⟨_, rfl⟩
 have Na := iD hF;have BK : Hid (∀ s, (F s).length = 9) := fun s => by rw [hF]; exact gw ..
 have Ag : Hid (∀ S nb, qR F (yp m) (yp m).length S nb → fO ns ds m k p co ls pr x (yC 0 (S.set 7 nb))) := fun S nb h => by rw [hF] at h; exact iV BV PT h
 clear hF AQ;have BQ : ab ≤ w1.heap.size := by omega
 have FZ : w1.heap.size ≤ ab := by omega
 clear Oy
 go_wp2_with fail
 go_loopg [13, 14] kR (RmR w w1 ab #[.slice An ns.length cn, .slice Ad nd cd] #[.int .i64 k, .int .i64 p] #[.int .i64 co, .slice Al nl cl, .slice Ap np cp] F (yp m) kR)
 case atStart => exact ⟨0, List.replicate 9 false, true, rfl, rfl, Nat.zero_le _, rfl, qR.start, Ai, Ar, Sz⟩
 case round =>
  clear Ai Ar Sz;obtain ⟨k2, S, nb, rfl, rfl, Bw, rfl, Ti, Du, hA, AU⟩ := hrel;by_cases hlt : k2 < kR
  ·obtain ⟨br, Qt, s, Qo, Nw, rfl, Ba, hs, Av, Uc⟩ := (HR.below AU lR).at hlt;have Hd : Hid (zQ ns ds s = 0) := uh Qe (List.mem_of_getElem? hs);have HS := iD hs;have SA := iD (Uc.more AU.size);have NT := iD (HH.below Du.bl);obtain ⟨u0, u1, u2, u3, u4, u5, u6, u7, u8, AG⟩ := nine (BK s);have Aj := iD AG
   have Lf : Hid (∀ W', Below wr.heap.size wr W' → Calls prog 66 #[.agg #[.slice An ns.length cn, .slice Ad nd cd], .slice Qo s.length Nw, .agg #[.int .i64 k, .int .i64 p], .agg #[.int .i64 co, .slice Al nl cl, .slice Ap np cp]] W' fun e w' => e = .returned (.agg #[.bool u0, .bool u1, .bool u2, .bool u3, .bool u4, .bool u5, .bool u6, .bool u7, .bool u8]) ∧ Below W'.heap.size W' w') := fun W' hb => by
    have HM' := NT.below hb;refine (gZ An Ad Qo Al Ap ns.length cn nd cd s.length Nw nl cl np cp k ns ds s ls pr p co x W' ⟨HM'.hn, HM'.hd, (SA.below hb lR).more hb.size, HM'.hl, HM'.hp, HM'.la, HM'.sn, HM'.sd⟩ Hd HX PT).mono ?_;rintro e w' ⟨rfl, hb'⟩;rw [Na.out] at AG;rw [show KI ns.length ns ds s k p co ls pr x = _ from AG];exact ⟨rfl, hb'⟩
   have hz := AU.size;have Ab : br < wr.heap.size := by omega
   have Bt : w.heap.size < wr.heap.size := by omega
   have Bs : w.heap.size + 1 < wr.heap.size := by omega
   have Br : w.heap.size + 2 < wr.heap.size := by omega
   have HC : Hid (∀ W', Below wr.heap.size wr W' → ((W'.cell? ⟨w.heap.size, 0, none⟩ = some (.slice An ns.length cn) ∧ W'.cell? ⟨w.heap.size, 1, none⟩ = some (.slice Ad nd cd)) ∧ (W'.cell? ⟨w.heap.size + 1, 0, none⟩ = some (.int .i64 k) ∧ W'.cell? ⟨w.heap.size + 1, 1, none⟩ = some (.int .i64 p)) ∧ W'.cell? ⟨w.heap.size + 2, 0, none⟩ = some (.int .i64 co) ∧ W'.cell? ⟨w.heap.size + 2, 1, none⟩ = some (.slice Al nl cl) ∧ W'.cell? ⟨w.heap.size + 2, 2, none⟩ = some (.slice Ap np cp)) ∧ W'.cell? ⟨br, Qt + k2, none⟩ = some (.slice Qo s.length Nw)) := fun W' hb => ⟨(Du.later hb).cells, (hb.cell (p := ⟨br, Qt + k2, none⟩) Ab).trans Av⟩
   clear hs Uc Av Ba NT SA AG;go_upto_region 9 with (fail);refine uf (S := fun W' => Below wr.heap.size wr W') (J := []) (n := _) ((1, true) :: (2, true) :: (3, true) :: (0, true) :: (4, true) :: (5, true) :: (6, true) :: []) ((9, false) :: []) [7] [8] #[true, true, true, true, true, true, true, false, false, false] #[true, true, true, true, true, true, true, true, true, false] (by as_aux_lemma => kernel_rfl) (by rfl) (xg (k := 10) (by go_simp; rfl) (xg (k := 14) (by go_simp; rfl) (xg (k := 4) (by go_simp; rfl) (xg (k := 6) (by go_simp; rfl) (xg (k := 7) (by go_simp; rfl) mM))))) ?_ (fun _ _ _ _ _ h => h) (fun Q2 A hsz CR QB AA => ?_)
   ·exact (Below.refl _ _).drew
   try dsimp only at AA
   obtain ⟨BD, BA, b4, b6, b7, -⟩ := CR;refine ⟨qT A [(40, .agg #[.int .i64 co, .slice Al nl cl, .slice Ap np cp]), (39, .agg #[.int .i64 k, .int .i64 p]), (38, .slice Qo s.length Nw), (34, .agg #[.slice An ns.length cn, .slice Ad nd cd]), (37, .pointer (some ⟨br, Qt + k2, none⟩)), (36, .int .i64 k2), (35, .slice (some ⟨br, Qt, none⟩) kR cR)] 8 15 wr.heap.size 114 #[.bool false, .bool false, .bool false, .bool false, .bool false, .bool false, .bool false, .bool false, .bool false] [(7, 41)] (QT wr (.agg #[.bool u0, .bool u1, .bool u2, .bool u3, .bool u4, .bool u5, .bool u6, .bool u7, .bool u8])), ?_, ?_, ?_, ?_⟩
   ·refine oM 1 35 ?_ rfl rfl rfl (zd rfl) AA (fun ρ AB => ?_) ?_;rotate_left
    ·(have Bm := tm AB hsz 10 rfl (xV BD); exact Bm)
    refine oM 2 36 ?_ rfl rfl rfl (zd rfl) AA (fun ρ AB => ?_) ?_;rotate_left
    ·(have Bl := tm AB hsz 14 rfl (zx rfl (xV BA)); exact Bl)
    refine oT 3 37 ?_ rfl rfl (zd rfl) AA (fun ρ AB w AL => ?_) ?_;rotate_left
    ·(have CJ := tm AB hsz 35 rfl (zx rfl ya); have CH := tm AB hsz 36 rfl ya; clear AB; (try dsimp only at AL); go_simp; try with_reducible rfl)
    refine oT 0 34 ?_ rfl rfl (zd rfl) AA (fun ρ AB w AL => ?_) ?_;rotate_left
    ·(have e4 := tm AB hsz 4 rfl (zx rfl (zx rfl (zx rfl (xV b4)))); clear AB; (try dsimp only at AL); have q := HC _ AL; have k0 := q.1.1.1; have k1 := q.1.1.2; clear q AL; go_simp; try with_reducible rfl)
    refine oT 4 38 ?_ rfl rfl (zd rfl) AA (fun ρ AB w AL => ?_) ?_;rotate_left
    ·(have CG := tm AB hsz 37 rfl (zx rfl ya); clear AB; (try dsimp only at AL); have q := HC _ AL; have k0 := q.2; clear q AL; go_simp; try with_reducible rfl)
    refine oT 5 39 ?_ rfl rfl (zd rfl) AA (fun ρ AB w AL => ?_) ?_;rotate_left
    ·(have e6 := tm AB hsz 6 rfl (iU rfl rfl rfl rfl (zx rfl (xV b6))); clear AB; (try dsimp only at AL); have q := HC _ AL; have k0 := q.1.2.1.1; have k1 := q.1.2.1.2; clear q AL; go_simp; try with_reducible rfl)
    refine oT 6 40 ?_ rfl rfl (zd rfl) AA (fun ρ AB w AL => ?_) ?_;rotate_left
    ·(have e7 := tm AB hsz 7 rfl (iU rfl rfl rfl rfl (zx rfl (zx rfl (xV b7)))); clear AB; (try dsimp only at AL); have q := HC _ AL; have k0 := q.1.2.2.1; have k1 := q.1.2.2.2.1; have k2 := q.1.2.2.2.2; clear q AL; go_simp; try with_reducible rfl)
    exact lz ⟨[], 0, rfl, by decide, by decide, rfl, (Below.refl _ _).drew, (show yi wr.heap.size _ _ _ _ _ from yi.start wr.drew 0)⟩
   ·intro c cs D a w0 h;obtain ⟨vs, x7, hC, BP, Bd, rfl, hf, hm⟩ := h;rcases vs with _ | ⟨v1, _⟩
    ·obtain ⟨rfl, rfl⟩ : c = 7 ∧ cs = [] := by simpa using hC
     refine rk (d := 41) (vs := #[.agg #[.slice An ns.length cn, .slice Ad nd cd], .slice Qo s.length Nw, .agg #[.int .i64 k, .int .i64 p], .agg #[.int .i64 co, .slice Al nl cl, .slice Ap np cp]]) rfl rfl rfl rfl (fun ρ AB => ?_) ?_ ?_
     ·(have Bi := tm AB hsz 34 rfl (xU rfl (zx rfl (zx rfl (zx rfl ya)))); have Bh := tm AB hsz 38 rfl (xU rfl (zx rfl (zx rfl ya))); have Rk := tm AB hsz 39 rfl (xU rfl (zx rfl ya)); have Bg := tm AB hsz 40 rfl (xU rfl ya); simp only [List.map_toArray, List.map_cons, List.map_nil, Bi, Bh, Rk, Bg])
     ·(intro w; go_simp)
     refine (Lf w0 hf).mono ?_;rintro e w6 ⟨rfl, Db⟩;have DZ : Below wr.heap.size wr w6 := Below.trans hf (Below.mono Db (Below.size hf));refine ⟨_, rfl, fun _ => ?_, [.agg #[.bool u0, .bool u1, .bool u2, .bool u3, .bool u4, .bool u5, .bool u6, .bool u7, .bool u8]], x7, rfl, BP, Bd, sI A (by decide), ?_, hm.later Db⟩
     ·exact DZ
     ·exact ⟨rfl, DZ⟩
    ·simp at hC
   ·exact fun C D i a w0 hi h => wpOp_mono (fun a1 w1 h1 => ⟨fun _ => (by obtain ⟨Bq, _, _, _, _, _, BZ, _⟩ := h1; exact QT.base BZ), h1⟩) (qT.alloc (fun vs w2 o h => QT.alloc o h) rfl rfl rfl (fun ρ w2 => by go_simp; rfl) i hi h)
   ·intro a w0 h;obtain ⟨vs, x7, hC, -, -, rfl, hf, hm⟩ := h;rcases vs with _ | ⟨v1, _ | ⟨v2, _⟩⟩
    ·simp at hC
    rotate_left
    ·exact hf.elim
    clear hC;obtain ⟨rfl, hB⟩ := hf;have h7 := (hm.m7 rfl).1;have MV := (hm.m7 rfl).2;have Sd := iD h7;have Tt := iD (jt h7 u0 u1 u2 u3 u4 u5 u6 u7 u8);have Df := iD (mh hB MV u0 u1 u2 u3 u4 u5 u6 u7 u8);have Uz := MV;clear hm h7 MV hB
    show Ch _ _ _ _ _ _ (yJ A [(15, ptr x7), (41, .agg #[.bool u0, .bool u1, .bool u2, .bool u3, .bool u4, .bool u5, .bool u6, .bool u7, .bool u8]), (40, .agg #[.int .i64 co, .slice Al nl cl, .slice Ap np cp]), (39, .agg #[.int .i64 k, .int .i64 p]), (38, .slice Qo s.length Nw), (34, .agg #[.slice An ns.length cn, .slice Ad nd cd]), (37, .pointer (some ⟨br, Qt + k2, none⟩)), (36, .int .i64 k2), (35, .slice (some ⟨br, Qt, none⟩) kR cR)]) _
    refine pC (i := 9) (w' := ?_) rfl rfl (zd rfl) (fun ρ AB => ?_) (fun _ => ?_) ?_;rotate_left
    ·(have Bj := tm AB hsz 15 rfl ya; have Bf := tm AB hsz 41 rfl (zx rfl ya); refine (rT ρ _ _ _ _ x7 u0 u1 u2 u3 u4 u5 u6 u7 u8 ?_ Bj Bf Sd); rfl)
    ·exact Df.out
    refine nI QB ?_;clear QB BD BA b4 b6 b7 hsz A Q2;simp only [nE, qz, lp, fU, fV, ptr];clear Sd HC Lf;generalize gW _ _ _ _ _ _ _ _ _ _ _ = WS at *;have UH := iD (hA.below Df hA.lt);have Wn := iD (Du.later Df);have Wo := iD (AU.trans (Df.mono AU.size));have hne : x7 ≠ ab := by have := hA.lt; omega
    have Fh := iD (fun hb : (F s)[7]? = some u7 => Ti.nothing HS hb);have H7 : Hid ((F s)[7]? = some u7) := by unfold Hid; rw [Aj.out]; rfl
    have NK := iD (Ti.two (s := s));have Lj : Hid (AJ WS x7 114 (yY (F s)).toArray) := by unfold Hid; rw [Aj.out]; exact Tt.out
    have BO := Tt.c7;clear hA Du AU Df Tt Ti Aj;rcases nb with _ | _
    all_goals
     go_wp2_with fail
     clear BO
     go_loopg [16] 9 (RmS w w1 ab x7 #[.slice An ns.length cn, .slice Ad nd cd] #[.int .i64 k, .int .i64 p] #[.int .i64 co, .slice Al nl cl, .slice Ap np cp] F (yp m) k2 s)
     case atStart => exact ⟨0, S, rfl, Nat.zero_le _, rfl, NK, Wn, UH, Lj, Wo⟩
     case round =>
      clear NK Wn UH Lj Wo;obtain ⟨j, S2, rfl, hj, rfl, AE, Du, hA, hX, AU⟩ := hrel;by_cases RS : j < 9
      ·obtain ⟨a, ha⟩ : ∃ a, S2[j]? = some a := ⟨_, List.getElem?_eq_getElem (by rw [AE.1]; exact RS)⟩
       obtain ⟨b, hb⟩ : ∃ b, (F s)[j]? = some b := ⟨_, List.getElem?_eq_getElem (by rw [BK.out]; exact RS)⟩
       have ea := (hA.cell j).trans (tC ha);have eb := (hX.cell j).trans (tC hb);have fa := hA.frozen j;have AW := iD (AE.step RS ha hb);have FV : Hid (AJ (wr.setCell ⟨ab, j, none⟩ (.bool (a || b))) ab 114 (yY (S2.set j (a || b))).toArray) := by unfold Hid; rw [← si]; exact hA.set j _
       have QW := iD (hX.far (p := ⟨ab, j, none⟩) hne (.bool (a || b)));have CO := iD (Du.far (p := ⟨ab, j, none⟩) (by simp; omega) (.bool (a || b)));have Jh := iD (AU.setCell (p := ⟨ab, j, none⟩) (by simp; omega) (.bool (a || b)));have Bz : (j : Int) < 9 := by omega
       clear ha hb AE Du hA hX AU;rcases a with _ | _
       ·simp only [Bool.false_or] at FV QW CO Jh AW
        go_wp2_with fail
        go_roundg (9 - (j + 1))
        ·exact ⟨j + 1, _, by go_num, by omega, rfl, AW, CO, FV, QW, Jh⟩
        omega
       ·simp only [Bool.true_or] at FV QW CO Jh AW
        go_wp2_with fail
        go_roundg (9 - (j + 1))
        ·exact ⟨j + 1, _, by go_num, by omega, rfl, AW, CO, FV, QW, Jh⟩
        omega
      ·obtain rfl : j = 9 := by omega
       have Cw : decide ((9 : Int) < 9) = false := by decide
       have Dq := iD (AE.done HS (Fh H7))
       go_wp2_with fail
       go_roundg (kR - (k2 + 1))
       ·exact ⟨k2 + 1, _, _, by go_num, rfl, by omega, rfl, Dq, Du, hA, AU⟩
       omega
  ·obtain rfl : k2 = kR := by omega
   have Cw : decide (k2 < k2) = false := by simp
   have Ac := Ti.1;have HO := iD (Ag S nb (by rw [Bo.out]; exact Ti));have FV : Hid (AJ (wr.setCell ⟨ab, 7, none⟩ (.bool nb)) ab 114 (yY (S.set 7 nb)).toArray) := by unfold Hid; rw [← si]; exact hA.set 7 _
   have Jh := iD (Du.bl.setCell (p := ⟨ab, 7, none⟩) (by simp; omega) (.bool nb))
   have ea : ∃ v, wr.cell? ⟨ab, 7, none⟩ = some v := by
    obtain ⟨a, ha⟩ : ∃ a, S[7]? = some a := ⟨_, List.getElem?_eq_getElem (by rw [Ac]; decide)⟩
    exact ⟨_, (hA.cell 7).trans (tC ha)⟩
   obtain ⟨va, ea⟩ := ea;have fa := hA.frozen 7;obtain ⟨u0, u1, u2, u3, u4, u5, u6, u7, u8, h9⟩ := nine (show (S.set 7 nb).length = 9 by rw [List.length_set]; exact Ac);rw [h9] at FV HO;clear h9 Ac Ti hA Du;go_upto_region 16 with (fail);generalize World.setCell wr _ _ = wf at *;have e0 : wf.cell? ⟨ab, 0, none⟩ = some (.bool u0) := FV.cell 0;have e1 : wf.cell? ⟨ab, 1, none⟩ = some (.bool u1) := FV.cell 1;have e2 : wf.cell? ⟨ab, 2, none⟩ = some (.bool u2) := FV.cell 2;have e3 : wf.cell? ⟨ab, 3, none⟩ = some (.bool u3) := FV.cell 3;have e4 : wf.cell? ⟨ab, 4, none⟩ = some (.bool u4) := FV.cell 4;have e5 : wf.cell? ⟨ab, 5, none⟩ = some (.bool u5) := FV.cell 5;have e6 : wf.cell? ⟨ab, 6, none⟩ = some (.bool u6) := FV.cell 6;have e7 : wf.cell? ⟨ab, 7, none⟩ = some (.bool u7) := FV.cell 7;have e8 : wf.cell? ⟨ab, 8, none⟩ = some (.bool u8) := FV.cell 8
   go_wp2_with fail
   refine (kr u0 u1 u2 u3 u4 u5 u6 u7 u8 wf).mono ?_;rintro e w9 ⟨A, ca, rfl, hO, Gz⟩
   go_wp2_with fail
   go_ret2;exact ⟨.inr ⟨H1, A, _, ca, x, _, HX, rfl, hO.mono Jh.size, HO⟩, Jh.trans (Gz.mono Jh.size)⟩
end Go.Proofs.YtkkobemhbicjgaaGreatDoor
