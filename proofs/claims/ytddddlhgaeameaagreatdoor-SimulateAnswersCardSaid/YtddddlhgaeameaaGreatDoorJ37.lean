import Derived.Test.YtddddlhgaeameaaGreatDoorJ36
import Derived.Test.YtddddlhgaeameaaGreatDoorJ22
set_option maxRecDepth 100000
set_option maxHeartbeats 32000000
namespace Go.Proofs.YtddddlhgaeameaaGreatDoor
open Go.RowKit Tryz
variable {W W' w w' : World} {c1 c2 cl cp g n1 n2 nl np x : Nat} {A1 A2 Al Ap : Option Addr} {ls : List Lk} {pr : List Int} {co : Int} {o : List Fn} {t : Sm}
theorem pN (ρ : Operand → Value) (o : Oper) (x y : Operand) (w0 : World) (x7 : Nat) (co : Int) (Ag Ap : Option Addr) (mg cg np cp : Nat) (ho : o.op = .store 29 x y) (e7 : ρ x = .pointer (some ⟨x7, 0, none⟩)) (Cq : ρ y = .agg #[.int .i64 co, .slice Ag mg cg, .slice Ap np cp])
 (h : AJ w0 x7 29 #[.int .i64 0, .slice none 0 0, .slice none 0 0]) :
 (execOp ρ o).run prog w0 = .ok .skip (((w0.setCell ⟨x7, 0, none⟩ (.int .i64 co)).setCell ⟨x7, 1, none⟩ (.slice Ag mg cg)).setCell ⟨x7, 2, none⟩ (.slice Ap np cp)) := by
 obtain ⟨a0, a1, a2⟩ := h.d3;obtain ⟨a3, a4, a5⟩ := h.e3;clear h;unfold execOp;rw [ho];simp only [e7, Cq]
 go_simp
theorem rI {base size n c : Nat} {e T : TypeId} {A : Option Addr} {xs : List Value} {cs : Array Value} (h : w.ownsRow base e size (.slice A n c) n xs) (hb : AJ w x T cs) (hne : e ≠ T) : ∀ b, (Value.slice A n c).ownBlock = some b → b ≠ x := by
 intro b hv IP;subst IP;rcases h.2 with ⟨h0, _⟩ | ⟨g, cap, cur, h0, _, hh, _⟩
 ·injection h0 with h1; subst h1; cases hv
 ·injection h0 with h1; subst h1;have : g = b := by injection hv
  subst this;unfold AJ at hb;rw [hh] at hb;injection hb with hb;injection hb with _ hb;exact hne hb
def Ka (W : World) (g : Nat) (W' : World) : Prop := zP W' g ∧ W.grownBy W' (some g)
def Qj (W : World) (g : Nat) : List Value → World → Prop
 | [], W' => Ka W g W'
 | [v1], W' => Ka W g W' ∧ ∃ (Ag : Option Addr) (mg cg : Nat) (ls : List Lk), v1 = .slice Ag mg cg ∧ ze W' W.heap.size Ag mg cg ls
 | [v1, v2], W' => Ka W g W' ∧ ∃ (Ag : Option Addr) (mg cg : Nat) (ls : List Lk) (co : Int) (Ap : Option Addr) (np cp : Nat) (pr : List Int), v1 = .slice Ag mg cg ∧ v2 = .agg #[.int .i64 co, .slice Ag mg cg, .slice Ap np cp] ∧ (0 ≤ co ∧ co ≤ 7) ∧ ze W' W.heap.size Ag mg cg ls ∧ zN W' W.heap.size Ap np cp pr
 | _, _ => False
theorem Ka.alloc (h : Ka W g W') (o : Obj) : Ka W g (W'.alloc o) := ⟨h.1.alloc o, zJ h.2 (zI ((Below.refl _ _).alloc lR o) _)⟩
theorem Qj.base : ∀ {vs : List Value}, Qj W g vs W' → Ka W g W'
 | [], h => h
 | [_], h => h.1
 | [_, _], h => h.1
 | _ :: _ :: _ :: _, h => h.elim
theorem Qj.alloc : ∀ {vs : List Value} (o : Obj), Qj W g vs W' → Qj W g vs (W'.alloc o)
 | [], o, h => Ka.alloc h o
 | [_], o, ⟨h, Ag, mg, cg, ls, e, h1⟩ => ⟨h.alloc o, Ag, mg, cg, ls, e, World.ownsRow.alloc h1 o⟩
 | [_, _], o, ⟨h, Ag, mg, cg, ls, co, Ap, np, cp, pr, e1, e2, hc, h1, h2⟩ => ⟨h.alloc o, Ag, mg, cg, ls, co, Ap, np, cp, pr, e1, e2, hc, World.ownsRow.alloc h1 o, World.ownsRow.alloc h2 o⟩
 | _ :: _ :: _ :: _, _, h => h.elim
theorem Ka.set (h : Ka W g W') (hg : g < W.heap.size) (hx : W.heap.size ≤ x) (i : Nat) (u : Value) : Ka W g (W'.setCell ⟨x, i, none⟩ u) :=
 ⟨h.1.setCell (by simp only; omega) u, zr h.2 (by simp only; omega) u⟩
theorem uK {base size n c : Nat} {e : TypeId} {A : Option Addr} {xs : List Value} (h : w.ownsRow base e size (.slice A n c) n xs) (hne : ∀ b, (Value.slice A n c).ownBlock = some b → b ≠ x) (i : Nat) (u : Value) : (w.setCell ⟨x, i, none⟩ u).ownsRow base e size (.slice A n c) n xs :=
 h.kept (zo _ _ _) (zj hne)
def set3 (w : World) (x : Nat) (u0 u1 u2 : Value) : World := ((w.setCell ⟨x, 0, none⟩ u0).setCell ⟨x, 1, none⟩ u1).setCell ⟨x, 2, none⟩ u2
structure gH (W : World) (g x7 : Nat) (Ag : Option Addr) (mg cg : Nat) (ls : List Lk) (co : Int) (Ap : Option Addr) (np cp : Nat) (pr : List Int) (W' : World) : Prop where
 b : Ka W g W'
 b7 : AJ W' x7 29 #[.int .i64 co, .slice Ag mg cg, .slice Ap np cp]
 hl : ze W' W.heap.size Ag mg cg ls
 hp : zN W' W.heap.size Ap np cp pr
theorem gH.of {x7 mg cg : Nat} {Ag : Option Addr} (hB : Ka W g W') (h7 : AJ W' x7 29 #[.int .i64 0, .slice none 0 0, .slice none 0 0]) (SE : W.heap.size ≤ x7) (hg : g < W.heap.size)
 (hO : ze W' W.heap.size Ag mg cg ls) (De : zN W' W.heap.size Ap np cp pr) (co : Int) : gH W g x7 Ag mg cg ls co Ap np cp pr (set3 W' x7 (.int .i64 co) (.slice Ag mg cg) (.slice Ap np cp)) := by
 have n7 := rI hO h7 (by decide);have p7 := rI De h7 (by decide);unfold set3;exact ⟨(((hB.set hg SE _ _).set hg SE _ _).set hg SE _ _), ((h7.set 0 _).set 1 _).set 2 _, uK (uK (uK hO n7 _ _) n7 _ _) n7 _ _, uK (uK (uK De p7 _ _) p7 _ _) p7 _ _⟩
structure UA (w : World) (nt gr st pg : Array Value) (wr : World) : Prop where
 bn : AJ wr w.heap.size 26 nt
 bg : AJ wr (w.heap.size + 1) 29 gr
 bs : AJ wr (w.heap.size + 2) 31 st
 bp : AJ wr (w.heap.size + 3) 34 pg
 bl : bW w wr
theorem UA.new (w : World) (nt gr st pg : Array Value) : UA w nt gr st pg ((((w.alloc (.cells nt 26)).alloc (.cells gr 29)).alloc (.cells st 31)).alloc (.cells pg 34)) := by
 obtain ⟨h0, h1, h2, h3, h4⟩ := kF w 26 29 31 34 nt gr st pg;exact ⟨h0, h1, h2, h3, h4⟩
theorem UA.later {wr wr' : World} {nt gr st pg : Array Value} (h : UA w nt gr st pg wr) (hb : bW wr wr') : UA w nt gr st pg wr' := ⟨h.bn.below hb h.bn.lt, h.bg.below hb h.bg.lt, h.bs.below hb h.bs.lt, h.bp.below hb h.bp.lt, h.bl.trans (hb.mono h.bl.size)⟩
structure We (w : World) (A1 A2 Ao Bo Al Ap Lb : Option Addr) (n1 c1 n2 c2 no co mo KP nl cl np cp JM LD : Nat) (rs ks : List Int) (NS : List Nd) (OH : List Dv) (ls : List Lk) (pr : List Int) (Qo : List Sp) : Prop where
 r : Av w 1 A1 n1 c1 (zF rs)
 k : Av w 1 A2 n2 c2 (zF ks)
 n : Av w 3 Ao no co (NS.flatMap Nd.cells)
 d : Av w 5 Bo mo KP (OH.flatMap Dv.cells)
 l : Av w 3 Al nl cl (ls.flatMap Lk.cells)
 p : Av w 1 Ap np cp (zF pr)
 x : Av w 5 Lb JM LD (Qo.flatMap Sp.cells)
theorem We.below {Ao Bo Lb : Option Addr} {no co mo KP JM LD : Nat} {rs ks : List Int} {NS : List Nd} {OH : List Dv} {Qo : List Sp} (h : We w A1 A2 Ao Bo Al Ap Lb n1 c1 n2 c2 no co mo KP nl cl np cp JM LD rs ks NS OH ls pr Qo) (hb : bW w W) : We W A1 A2 Ao Bo Al Ap Lb n1 c1 n2 c2 no co mo KP nl cl np cp JM LD rs ks NS OH ls pr Qo :=
 ⟨(h.r.below hb lR).more hb.size, (h.k.below hb lR).more hb.size, (h.n.below hb lR).more hb.size, (h.d.below hb lR).more hb.size, (h.l.below hb lR).more hb.size, (h.p.below hb lR).more hb.size, (h.x.below hb lR).more hb.size⟩
def Uo (M : World → Prop) (n gk : Nat) (iv : Value) (wr : World) : Prop := ∃ i : Nat, iv = .int .i64 i ∧ i ≤ n ∧ gk = n - i ∧ Hid (M wr)
theorem lF {p : Prop} {i : Decidable p} (h : p) : @decide p i = true := decide_eq_true h
theorem gS {l : List Lk} {p : List Int} {i : Decidable (l = l)} : (decide (co = co) && @decide (l = l) i && decide (p = p)) = true := by simp
noncomputable def Ro (ns : List Nd) (ds : List Dv) (s : List Int) (co : Int) (ls : List Lk) (pr : List Int) (x : Sp) : So := if yE ns ds s co ls pr ⟨#[80]⟩ [x] = 0 then za ns ds co ⟨s, ls, pr⟩ x else ⟨[], ⟨[], [], []⟩, false⟩
theorem tW.two {ns : List Nd} {ds : List Dv} {s : List Int} {x : Sp} {e : Ending} (h : tW w ns ds s co ls pr x e w') : ∃ (A1 A2 Al Ap : Option Addr) (n1 c1 n2 c2 nl cl np cp : Nat), e = .returned (.tuple #[.slice A1 n1 c1, .slice A2 n2 c2, .agg #[.int .i64 (if yE ns ds s co ls pr ⟨#[80]⟩ [x] = 0 then co else 0), .slice Al nl cl, .slice Ap np cp], .bool (Ro ns ds s co ls pr x).ok, .int .i64 (yE ns ds s co ls pr ⟨#[80]⟩ [x])]) ∧ Hid (yi w' A1 A2 Al Ap n1 c1 n2 c2 nl cl np cp (Ro ns ds s co ls pr x)) ∧ Hid (bW w w') := by
 obtain ⟨⟨h1, rfl⟩ | ⟨h1, A1, A2, Al, Ap, n1, c1, n2, c2, nl, cl, np, cp, rfl, hS⟩, hb⟩ := h
 ·refine ⟨none, none, none, none, 0, 0, 0, 0, 0, 0, 0, 0, ?_, ?_, hb⟩
  ·unfold Ro; rw [if_neg h1, if_neg h1]
  ·unfold Ro; rw [if_neg h1]; exact ⟨Sl.nil _ _ _, Sl.nil _ _ _, Sl.nil _ _ _, Sl.nil _ _ _⟩
 ·refine ⟨A1, A2, Al, Ap, n1, c1, n2, c2, nl, cl, np, cp, ?_, ?_, hb⟩
  ·unfold Ro; rw [if_pos h1, if_pos h1, h1]
  ·unfold Ro; rw [if_pos h1]; exact hS
noncomputable def Qp (ns : List Nd) (ds : List Dv) (s : List Int) (co : Int) (ls : List Lk) (pr : List Int) (nm : ByteArray) (xs : List Sp) (Bw : List Int) : List Fn × Sm × Nat := if yE ns ds s co ls pr nm xs = 0 then yU ns ds co Bw 0 [] ⟨s, ls, pr⟩ xs else ([], ⟨[], [], []⟩, 0)
theorem rk.two {ns : List Nd} {ds : List Dv} {s : List Int} {nm : ByteArray} {xs : List Sp} {Bw : List Int} {e : Ending} (h : rk w ns ds s co ls pr nm xs Bw e w') : ∃ (A1 A2 Al Ap : Option Addr) (n1 c1 n2 c2 nl cl np cp : Nat), e = .returned (.tuple #[.slice A1 n1 c1, .slice A2 n2 c2, .agg #[.int .i64 (if yE ns ds s co ls pr nm xs = 0 then co else 0), .slice Al nl cl, .slice Ap np cp], .int .i64 (Qp ns ds s co ls pr nm xs Bw).2.2, .int .i64 (yE ns ds s co ls pr nm xs)]) ∧ Hid (sZ w' A1 A2 Al Ap n1 c1 n2 c2 nl cl np cp (Qp ns ds s co ls pr nm xs Bw).1 (Qp ns ds s co ls pr nm xs Bw).2.1) ∧ Hid (bW w w') := by
 obtain ⟨⟨h1, rfl⟩ | ⟨h1, A1, A2, Al, Ap, n1, c1, n2, c2, nl, cl, np, cp, rfl, hS⟩, hb⟩ := h
 ·refine ⟨none, none, none, none, 0, 0, 0, 0, 0, 0, 0, 0, ?_, ?_, hb⟩
  ·unfold Qp; rw [if_neg h1, if_neg h1]; rfl
  ·unfold Qp; rw [if_neg h1]; exact ⟨Sl.nil _ _ _, Sl.nil _ _ _, Sl.nil _ _ _, Sl.nil _ _ _⟩
 ·refine ⟨A1, A2, Al, Ap, n1, c1, n2, c2, nl, cl, np, cp, ?_, ?_, hb⟩
  ·unfold Qp; rw [if_pos h1, if_pos h1, h1]
  ·unfold Qp; rw [if_pos h1]; exact hS
structure Sz (w : World) (A1 A2 Al Ap : Option Addr) (n1 c1 n2 c2 nl cl np cp b : Nat) (co : Int) (o : So) : Prop where
 a : yi w A1 A2 Al Ap n1 c1 n2 c2 nl cl np cp o
 b : AJ w b 29 #[.int .i64 co, .slice Al nl cl, .slice Ap np cp]
theorem Sz.later {b : Nat} {o : So} (h : Sz w A1 A2 Al Ap n1 c1 n2 c2 nl cl np cp b co o) (hb : bW w w') : Sz w' A1 A2 Al Ap n1 c1 n2 c2 nl cl np cp b co o := ⟨h.a.later hb, h.b.below hb h.b.lt⟩
theorem Sz.new {o : So} (h : yi w A1 A2 Al Ap n1 c1 n2 c2 nl cl np cp o) (e : w' = w.alloc (.cells #[.int .i64 co, .slice Al nl cl, .slice Ap np cp] 29)) : Sz w' A1 A2 Al Ap n1 c1 n2 c2 nl cl np cp w.heap.size co o := by subst e; exact ⟨h.later ((Below.refl _ w).alloc lR _), AJ.new _ _ _⟩
theorem sZ.later (h : sZ w A1 A2 Al Ap n1 c1 n2 c2 nl cl np cp o t) (hb : bW w w') : sZ w' A1 A2 Al Ap n1 c1 n2 c2 nl cl np cp o t :=
 ⟨(h.o.below hb lR).more hb.size, (h.s.below hb lR).more hb.size, (h.l.below hb lR).more hb.size, (h.p.below hb lR).more hb.size⟩
structure TA (w : World) (A1 A2 Al Ap : Option Addr) (n1 c1 n2 c2 nl cl np cp b : Nat) (co : Int) (o : List Fn) (t : Sm) : Prop where
 a : sZ w A1 A2 Al Ap n1 c1 n2 c2 nl cl np cp o t
 b : AJ w b 29 #[.int .i64 co, .slice Al nl cl, .slice Ap np cp]
theorem TA.later {b : Nat} (h : TA w A1 A2 Al Ap n1 c1 n2 c2 nl cl np cp b co o t) (hb : bW w w') : TA w' A1 A2 Al Ap n1 c1 n2 c2 nl cl np cp b co o t := ⟨h.a.later hb, h.b.below hb h.b.lt⟩
theorem TA.new (h : sZ w A1 A2 Al Ap n1 c1 n2 c2 nl cl np cp o t) (e : w' = w.alloc (.cells #[.int .i64 co, .slice Al nl cl, .slice Ap np cp] 29)) : TA w' A1 A2 Al Ap n1 c1 n2 c2 nl cl np cp w.heap.size co o t := by subst e; exact ⟨h.later ((Below.refl _ w).alloc lR _), AJ.new _ _ _⟩
theorem jd {b : Bool} : (b != b) = false := by cases b <;> rfl
theorem walkH_SimulateAnswers (w : World) (hl : yr w) (A : Option Addr) (n c : Nat) (zs : List Int) (hs : Av w 1 A n c (zF zs)) (_hz : ∀ z ∈ zs, (Lit.int .i64 z).wf = true)
 (A1 : Option Addr) (n1 c1 : Nat) (rs : List Int) (BS : Av w 1 A1 n1 c1 (zF rs)) (_hz1 : ∀ z ∈ rs, (Lit.int .i64 z).wf = true)
 (A2 : Option Addr) (n2 c2 : Nat) (ks : List Int) (IK : Av w 1 A2 n2 c2 (zF ks)) (_hz2 : ∀ z ∈ ks, (Lit.int .i64 z).wf = true)
 (Ao Bo : Option Addr) (no co mo KP : Nat) (NS : List Nd) (OH : List Dv) (hno : Av w 3 Ao no co (NS.flatMap Nd.cells)) (BP : Av w 5 Bo mo KP (OH.flatMap Dv.cells)) (VR : FO NS) (VS : GH OH)
 (cg : Int) (Al Ap : Option Addr) (nl cl np cp : Nat) (ls : List Lk) (pr : List Int) (UY : Av w 3 Al nl cl (ls.flatMap Lk.cells)) (Vp : Av w 1 Ap np cp (zF pr)) (vk vd vn vp vq : Int)
 (Pg : ByteArray) (Lb : Option Addr) (JM LD : Nat) (Qo : List Sp) (Qv : Pg.size ≤ 9223372036854775807) (Ae : Av w 5 Lb JM LD (Qo.flatMap Sp.cells)) :
 Calls prog 3 #[.slice A n c, .slice A1 n1 c1, .slice A2 n2 c2, .agg #[.slice Ao no co, .slice Bo mo KP], .agg #[.int .i64 cg, .slice Al nl cl, .slice Ap np cp], .agg #[.int .i64 vk, .int .i64 vd, .int .i64 vn, .int .i64 vp, .int .i64 vq], .agg #[.string Pg, .slice Lb JM LD]] w fun e w' => e = .returned (.bool true) ∧ bW w w' := by
 have Ef := hs.le;have Cf := BS.le;have Ce := IK.le;have Cb := UY.le;have Ca := Vp.le;have CZ := Ae.le;have Bi := iD (UA.new w #[.slice Ao no co, .slice Bo mo KP] #[.int .i64 cg, .slice Al nl cl, .slice Ap np cp] #[.int .i64 vk, .int .i64 vd, .int .i64 vn, .int .i64 vp, .int .i64 vq] #[.string Pg, .slice Lb JM LD]);have Jw := iD (hl.below Bi.bl lR);have Ff := iD ((hs.below Bi.bl lR).more Bi.bl.size);have Ab := iD (We.below ⟨BS, IK, hno, BP, UY, Vp, Ae⟩ Bi.bl);have Bp := iD VR; have CF := iD VS; have BJ := iD Qv;clear hl hs _hz BS _hz1 IK _hz2 hno BP VR VS UY Vp Ae Qv
 go_enter func3, ntmps3
 go_upto_region 1 with (fail);generalize World.alloc (World.alloc (World.alloc (World.alloc w _) _) _) _ = W at *;rw [show w.heap.size + 1 + 1 = w.heap.size + 2 from rfl, show w.heap.size + 2 + 1 = w.heap.size + 3 from rfl];have HF := iD (iQ A n c W (by omega));have Fw := iD (lq Ao Bo no co mo KP W.heap.size W.heap.size NS OH W Ab.n Ab.d lR lR Bp CF);rcases hf : decide (n ≤ 400) with _ | _
 ·rw [hf] at HF;clear hf Fw
  go_wp2_with fail
  refine HF.mono ?_;rintro e w1 ⟨rfl, rfl⟩
  go_wp2_with fail
  refine (xc W Jw).mono ?_;rintro e we ⟨rfl, DZ⟩
  go_wp2_with fail
  go_ret;exact ⟨rfl, Bi.bl.trans (DZ.mono Bi.bl.size)⟩
 rw [hf] at HF;clear hf
 go_wp2_with fail
 refine HF.mono ?_;rintro e w1 ⟨rfl, rfl⟩;clear HF;by_cases hr : 100 < n1
 ·have q1 : decide (100 < n1) = true := by simpa using hr
  go_wp2_with fail
  refine (xc W Jw).mono ?_;rintro e we ⟨rfl, DZ⟩
  go_wp2_with fail
  go_ret;exact ⟨rfl, Bi.bl.trans (DZ.mono Bi.bl.size)⟩
 have q1 : decide (100 < n1) = false := by simpa using hr
 obtain ⟨k0, k1⟩ := Bi.bn.d2
 go_wp2_with fail
 clear k0 k1 q1 hr;rcases hlt : pd NS OH no mo with _ | _
 ·rw [hlt] at Fw;clear hlt;refine Fw.mono ?_;rintro e w1 ⟨rfl, AX⟩;have AL := iD (Bi.later AX);have EK := iD (Jw.below AX lR)
  go_wp2_with fail
  refine (xc w1 EK).mono ?_;rintro e we ⟨rfl, DZ⟩
  go_wp2_with fail
  go_ret;exact ⟨rfl, AL.bl.trans (DZ.mono AL.bl.size)⟩
 rw [hlt] at Fw;clear hlt;refine Fw.mono ?_;rintro e wA ⟨rfl, AX⟩;have AL := iD (Bi.later AX);have EK := iD (Jw.below AX lR);have BD := iD ((Ff.below AX lR).more AX.size);have Ri := iD (Ab.below AX);clear Bi Jw Ff Ab Fw AX;have g1 := AL.bg.c1;have g2 := AL.bg.cell 2;have g3 := AL.bp.c1;by_cases hr : 140 < nl
 ·have q1 : decide (140 < nl) = true := by simpa using hr
  go_wp2_with fail
  refine (xc wA EK).mono ?_;rintro e we ⟨rfl, DZ⟩
  go_wp2_with fail
  go_ret;exact ⟨rfl, AL.bl.trans (DZ.mono AL.bl.size)⟩
 have q1 : decide (140 < nl) = false := by simpa using hr
 by_cases Po : 60 < np
 ·have q2 : decide (60 < np) = true := by simpa using Po
  go_wp2_with fail
  refine (xc wA EK).mono ?_;rintro e we ⟨rfl, DZ⟩
  go_wp2_with fail
  go_ret;exact ⟨rfl, AL.bl.trans (DZ.mono AL.bl.size)⟩
 have q2 : decide (60 < np) = false := by simpa using Po
 by_cases PG : 12 < JM
 ·have q3 : decide (12 < JM) = true := by simpa using PG
  go_wp2_with fail
  refine (xc wA EK).mono ?_;rintro e we ⟨rfl, DZ⟩
  go_wp2_with fail
  go_ret;exact ⟨rfl, AL.bl.trans (DZ.mono AL.bl.size)⟩
 have q3 : decide (12 < JM) = false := by simpa using PG
 by_cases Ac : 40 < n2
 ·have q4 : decide (40 < n2) = true := by simpa using Ac
  go_wp2_with fail
  refine (xc wA EK).mono ?_;rintro e we ⟨rfl, DZ⟩
  go_wp2_with fail
  go_ret;exact ⟨rfl, AL.bl.trans (DZ.mono AL.bl.size)⟩
 have q4 : decide (40 < n2) = false := by simpa using Ac
 go_wp2_with fail
 clear g1 g2 g3 q1 q2 q3 q4 hr Po PG Ac;refine (iH A n c wA.heap.size zs wA BD lR).mono ?_;rintro e w1 ⟨rfl, BC, AX, BS⟩
 go_wp2_with fail
 refine (lp wA.heap.size 5 8 w1 BC (by decide) (by decide)).mono ?_;rintro e w2 ⟨An, nn, cn, ns, Ad, nd, cd, ds, rfl, Ih, Cc, VY, VZ, Gp⟩;have Aa := GI.mk0 EK AX BS Ih Cc VY VZ Gp.out;have Br := iD Aa.2.1; have Bs := iD Aa.2.2;have Io := iD Aa.1;have DW := iD Gp.out;have Af : nd ≤ 8 := by have := Gp.dm; rw [Bs.out] at this; omega
 have Vh : 1 ≤ nd := by have := Gp.d1; rw [Bs.out] at this; omega
 have Bq : nn ≤ 5 := by have := Gp.nm; rw [Br.out] at this; omega
 have Ve : 2 ≤ nn := by have := Gp.n2; rw [Br.out] at this; omega
 have Gg := iD DW.names;clear Aa BC AX BS Ih Cc VY VZ Gp BD
 go_wp2_with fail
 generalize World.alloc _ _ = w3 at *;obtain ⟨nb, CP⟩ := eX w2.heap.size;rw [← CP] at Io ⊢;clear CP;refine (oZ wA.heap.size An Ad nn cn nd cd ds w3 Io.dk Io.hd (by omega)).mono ?_;rintro e w5 ⟨As, cs, s, rfl, Vu, JQ, Ev, -⟩;have CY : wA.heap.size < w3.heap.size := Io.dk.lt;have BK := iD (Io.grown EK JQ Vu);have Bj : Hid (EI w5 wA.heap.size 1 As nd cs (zF s)) := EI.of_own Ev (by omega);have UZ : wA.heap.size < w5.heap.size := Vu.lt;clear Vu JQ Ev Io CY;go_upto_region 6 with (fail);obtain ⟨M, hM⟩ : ∃ M : World → Prop, M = fun W' => GI wA nb An nn cn ns Ad nd cd ds W' ∧ EI W' wA.heap.size 1 As nd cs (zF s) := ⟨_, rfl⟩
 have BL : Hid (yY wA.heap.size M) := by unfold Hid; rw [hM]; exact (yY.lwn EK).and yY.slx
 have KD : Hid (∀ W', M W' → GI wA nb An nn cn ns Ad nd cd ds W' ∧ EI W' wA.heap.size 1 As nd cs (zF s)) := fun W' h => by rw [hM] at h; exact h
 have DU : Hid (M w5) := by unfold Hid; rw [hM]; exact ⟨BK, Bj⟩
 have CB := iD BK.dk;have KW : Hid (∀ W', Ka w5 wA.heap.size W' → M W') := fun W' h => BL.grown DU h.2 h.1
 clear hM BK Bj;refine rp (S := fun W' => W'.cell? ⟨nb, 0, none⟩ = some (.slice An nn cn) ∧ W'.cell? ⟨nb, 1, none⟩ = some (.slice Ad nd cd)) (J := []) (n := _) ((0, true) :: (1, true) :: (2, true) :: (3, true) :: (4, true) :: []) ((8, false) :: []) [5, 6] [7] #[true, true, true, true, true, false, false, false, false] #[true, true, true, true, true, true, true, true, false] (by as_aux_lemma => kernel_rfl) (by rfl) (wZ (k := 15) (by go_simp; rfl) (wZ (k := 16) (by go_simp; rfl) (wZ (k := 17) (by go_simp; rfl) nO))) ?_ (fun _ _ _ _ _ h => h) (fun Q2 A hsz CX Qw AA => ?_)
 ·exact ⟨(KD _ DU).1.bx.cell 0, (KD _ DU).1.bx.cell 1⟩
 try dsimp only at AA
 obtain ⟨Uk, Uj, BX, -⟩ := CX;refine ⟨nR A [(100, .slice As nd cs), (99, .agg #[.slice An nn cn, .slice Ad nd cd]), (98, .pointer (some ⟨wA.heap.size, 0, none⟩)), (97, .agg #[.slice An nn cn, .slice Ad nd cd]), (96, .pointer (some ⟨wA.heap.size, 0, none⟩))] 7 18 w5.heap.size 29 #[.int .i64 0, .slice none 0 0, .slice none 0 0] [(5, 101), (6, 102)] (Qj w5 wA.heap.size), ?_, ?_, ?_, ?_⟩
 ·refine oM 0 96 ?_ rfl rfl rfl (zg rfl) AA (fun ρ AB => ?_) ?_;rotate_left
  ·(have WW := tm AB hsz 15 rfl (wK Uk); exact WW)
  refine oT 1 97 ?_ rfl rfl (zg rfl) AA (fun ρ AB w AR => ?_) ?_;rotate_left
  ·(have BW := tm AB hsz 16 rfl (yd rfl (wK Uj)); clear AB; (try dsimp only at AR); go_simp; try with_reducible rfl)
  refine oM 2 98 ?_ rfl rfl rfl (zg rfl) AA (fun ρ AB => ?_) ?_;rotate_left
  ·(have WW := tm AB hsz 15 rfl (yd rfl (yd rfl (wK Uk))); exact WW)
  refine oT 3 99 ?_ rfl rfl (zg rfl) AA (fun ρ AB w AR => ?_) ?_;rotate_left
  ·(have BW := tm AB hsz 16 rfl (yd rfl (yd rfl (yd rfl (wK Uj)))); clear AB; (try dsimp only at AR); go_simp; try with_reducible rfl)
  refine oM 4 100 ?_ rfl rfl rfl (zg rfl) AA (fun ρ AB => ?_) ?_;rotate_left
  ·(have Cu := tm AB hsz 17 rfl (ie rfl rfl rfl rfl (wK BX)); exact Cu)
  exact iI ⟨[], 0, rfl, by decide, by decide, rfl, ⟨CB.drew, rV (xF _ _)⟩, (show xB w5.heap.size _ _ _ _ _ from xB.start w5.drew 0)⟩
 ·intro c cs D a w0 h;obtain ⟨vs, x7, hC, Af, BV, rfl, hf, hm⟩ := h;rcases vs with _ | ⟨v1, _ | ⟨v2, _⟩⟩
  ·obtain ⟨rfl, rfl⟩ : c = 5 ∧ cs = [6] := by simpa using hC
   have MM := KW _ hf;have hle := hm.le;refine ol (d := 101) (vs := #[.pointer (some ⟨wA.heap.size, 0, none⟩), .agg #[.slice An nn cn, .slice Ad nd cd], .slice As nd cs, .int .i64 3]) rfl rfl rfl rfl (fun ρ AB => ?_) ?_ ?_
   ·(have hc := AB.const; have Cn := tm AB hsz 98 rfl (vN rfl (yd rfl (yd rfl xL))); have Cm := tm AB hsz 99 rfl (vN rfl (yd rfl xL)); have Aw := tm AB hsz 100 rfl (vN rfl xL); simp only [List.map_toArray, List.map_cons, List.map_nil, Cn, Cm, Aw, hc])
   ·(intro w; go_simp)
   refine (oc wA.heap.size An Ad As nn cn nd cd nd cs 3 ns ds s w0 hf.1 (KD _ MM).1.hn (KD _ MM).1.hd (KD _ MM).2 (by omega) (by decide) Gg.1 Gg.2).mono ?_;rintro e w6 ⟨Ag, mg, IU, Rv, rfl, Kt, Jj, Ug, -⟩;have Dh : Ka w5 wA.heap.size w6 := ⟨Kt, zJ hf.2 Jj⟩;refine ⟨_, rfl, fun _ => ?_, [.slice Ag mg IU], x7, rfl, Af, BV, qV A (by decide), ?_, hm.grown Jj UZ⟩
   ·exact ⟨(KD _ (KW _ Dh)).1.bx.cell 0, (KD _ (KW _ Dh)).1.bx.cell 1⟩
   ·exact ⟨Dh, Ag, mg, IU, Rv, rfl, World.ownsRow.mono Ug (by omega)⟩
  ·obtain ⟨rfl, rfl⟩ : c = 6 ∧ cs = [] := by simpa using hC
   obtain ⟨hB, Ag, mg, IU, Rv, rfl, hO⟩ := hf;have hle := hm.le;refine ol (d := 102) (vs := #[.pointer (some ⟨wA.heap.size, 0, none⟩), .agg #[.slice An nn cn, .slice Ad nd cd], .slice Ag mg IU]) rfl rfl rfl rfl (fun ρ AB => ?_) ?_ ?_
   ·(have Cp := tm AB hsz 96 rfl (vN rfl (yd rfl (yd rfl (yd rfl (yd rfl (yd rfl xL)))))); have Co := tm AB hsz 97 rfl (vN rfl (yd rfl (yd rfl (yd rfl (yd rfl xL))))); have Au := tm AB hsz 101 rfl (vN rfl xL); simp only [List.map_toArray, List.map_cons, List.map_nil, Cp, Co, Au])
   ·(intro w; go_simp)
   refine (pX wA.heap.size An Ad Ag nn cn nd cd mg IU w0 hB.1 (by omega)).mono ?_;rintro e w6 ⟨MV, MC, Le, Ls, VJ, rfl, FT, Kt, Jj, Ug, -⟩;have Dh : Ka w5 wA.heap.size w6 := ⟨Kt, zJ hB.2 Jj⟩;refine ⟨_, rfl, fun _ => ?_, [.slice Ag mg IU, .agg #[.int .i64 MV, .slice Ag mg IU, .slice MC Le Ls]], x7, rfl, Af, BV, qV A (by decide), ?_, hm.grown Jj UZ⟩
   ·exact ⟨(KD _ (KW _ Dh)).1.bx.cell 0, (KD _ (KW _ Dh)).1.bx.cell 1⟩
   ·exact ⟨Dh, Ag, mg, IU, Rv, MV, MC, Le, Ls, VJ, rfl, rfl, FT, World.ownsRow.kept hO Jj (zj fun b e => by have := (World.ownsRow.lt hO b e).1; omega), Ug.mono hle⟩
  ·simp at hC
 ·exact fun C D i a w0 hi h => wpOp_mono (fun a1 w1 h1 => ⟨fun _ => (by obtain ⟨DX, _, _, _, _, _, BO, _⟩ := h1; exact ⟨(KD _ (KW _ (Qj.base BO))).1.bx.cell 0, (KD _ (KW _ (Qj.base BO))).1.bx.cell 1⟩), h1⟩) (nR.alloc (fun vs w2 o h => Qj.alloc o h) rfl rfl rfl (fun ρ w2 => by go_simp; rfl) i hi h)
 ·intro a w0 h;obtain ⟨vs, x7, hC, -, -, rfl, hf, hm⟩ := h;rcases vs with _ | ⟨v1, _ | ⟨v2, _ | ⟨v3, _⟩⟩⟩
  ·simp at hC
  ·simp at hC
  rotate_left
  ·exact hf.elim
  clear hC;obtain ⟨hB, Ag, mg, IU, Rv, MV, MC, Le, Ls, VJ, rfl, rfl, FT, hO, De⟩ := hf;have h7 := (hm.m7 rfl).1;have SE := (hm.m7 rfl).2;have HX := iD (gH.of hB h7 SE UZ hO De MV);have Bv := iD h7;have DI := iD SE;clear hm hO De h7 SE
  show CO _ _ _ _ _ _ (yB A [(18, ptr x7), (102, .agg #[.int .i64 MV, .slice Ag mg IU, .slice MC Le Ls]), (101, .slice Ag mg IU), (100, .slice As nd cs), (99, .agg #[.slice An nn cn, .slice Ad nd cd]), (98, .pointer (some ⟨wA.heap.size, 0, none⟩)), (97, .agg #[.slice An nn cn, .slice Ad nd cd]), (96, .pointer (some ⟨wA.heap.size, 0, none⟩))]) _
  refine li (i := 8) (w' := ?_) rfl rfl (zg rfl) (fun ρ AB => ?_) (fun _ => ?_) ?_;rotate_left
  ·(have Cr := tm AB hsz 18 rfl xL; have Ar := tm AB hsz 102 rfl (yd rfl xL); refine (pN ρ _ _ _ _ x7 MV Ag MC mg IU Le Ls ?_ Cr Ar Bv); rfl)
  ·exact ⟨(KD _ (KW _ HX.b)).1.bx.cell 0, (KD _ (KW _ HX.b)).1.bx.cell 1⟩
  refine oS Qw ?_;clear Qw Uk Uj BX hsz A Q2;simp only [oO, qS, mm, ia, ib, ptr];have hX := HX.out;unfold set3 at hX;clear HX Bv hB;generalize World.setCell _ _ _ = WS at *;have Ah : w5.heap.size ≤ x7 := DI.out;obtain ⟨M0, AZ⟩ : ∃ M0 : World → Prop, M0 = fun W' => M W' ∧ AJ W' x7 29 #[.int .i64 MV, .slice Ag mg IU, .slice MC Le Ls] ∧ EI W' wA.heap.size 3 Ag mg IU (Rv.flatMap Lk.cells) ∧ EI W' wA.heap.size 1 MC Le Ls (zF VJ) := ⟨_, rfl⟩
  have GY : Hid (yY wA.heap.size M0) := by unfold Hid; rw [AZ]; exact BL.and ((yY.blk (by omega)).and (yY.slx.and yY.slx))
  have OX : Hid (∀ W', M0 W' → M W' ∧ AJ W' x7 29 #[.int .i64 MV, .slice Ag mg IU, .slice MC Le Ls] ∧ EI W' wA.heap.size 3 Ag mg IU (Rv.flatMap Lk.cells) ∧ EI W' wA.heap.size 1 MC Le Ls (zF VJ)) := fun W' h => by rw [AZ] at h; exact h
  have NJ : Hid (M0 WS) := by unfold Hid; rw [AZ]; exact ⟨KW _ hX.b, hX.b7, EI.of_own hX.hl UZ, EI.of_own hX.hp UZ⟩
  have TQ : Hid (∀ W', M0 W' → We W' A1 A2 Ao Bo Al Ap Lb n1 c1 n2 c2 no co mo KP nl cl np cp JM LD rs ks NS OH ls pr Qo) := fun W' h => Ri.below (KD _ (OX _ h).1).1.bl
  have PY : Hid (∀ W', M0 W' → UA w #[.slice Ao no co, .slice Bo mo KP] #[.int .i64 cg, .slice Al nl cl, .slice Ap np cp] #[.int .i64 vk, .int .i64 vd, .int .i64 vn, .int .i64 vp, .int .i64 vq] #[.string Pg, .slice Lb JM LD] W') := fun W' h => AL.later (KD _ (OX _ h).1).1.bl
  have RZ : Hid (∀ W', M0 W' → GI wA nb An nn cn ns Ad nd cd ds W') := fun W' h => (KD _ (OX _ h).1).1
  have DL : Hid (∀ W', M0 W' → Sl W' W'.heap.size 1 As nd cs (zF s)) := fun W' h => (KD _ (OX _ h).1).2.1
  have Sb : wA.heap.size < x7 := by omega
  clear AZ KW BL DU CB hX UZ Ah;have Bn : Hid (∀ W', M0 W' → GI wA nb An nn cn ns Ad nd cd ds W' ∧ M0 W') := fun W' h => ⟨RZ _ h, h⟩
  obtain ⟨k0, k1⟩ := (RZ _ NJ).bx.d2
  go_wp2_with fail
  clear k0 k1;refine (mD wA.heap.size An Ad nn cn nd cd 7 WS (RZ _ NJ).dk (by omega) (by omega) (by omega) (by omega) (by decide)).mono ?_;rintro e w8 ⟨NV, Aq, nq, cq, AE, rfl, Ef, -, BU, BR, BN⟩
  have DT : Hid (NV.size ≤ 9223372036854775807) := by
   have h := Ef.out;unfold yI at h;simp only [Bool.and_eq_true, decide_eq_true_eq] at h;have h2 := h.2;rw [tC] at h2; unfold Hid; omega
  have XQ : Hid (EI w8 wA.heap.size 5 Aq nq cq (AE.flatMap Sp.cells)) := EI.of_own BU (RZ _ NJ).dk.lt;have XG := iD (GY.grown NJ BN BR);clear NJ Ef BU BR BN;have NJ := XG;clear XG;go_upto_region 8 with (fail);have HV := iD (AJ.new w8 34 #[.string NV, .slice Aq nq cq]);have Ec := iD (GY.later NJ ((Below.refl _ w8).alloc lR (.cells #[.string NV, .slice Aq nq cq] 34)));have hne : w8.heap.size ≠ wA.heap.size := by have := (Bn _ NJ).1; have := this.dk.lt; omega
  have Tj := iD (yY.later (yY.slx (g := wA.heap.size)) XQ ((Below.refl _ _).alloc lR (.cells #[.string NV, .slice Aq nq cq] 34)));clear NJ;obtain ⟨x8, DK⟩ := eX w8.heap.size;rw [← DK] at HV hne ⊢;clear DK;generalize World.alloc w8 _ = W8 at *;obtain ⟨M1, AY⟩ : ∃ M1 : World → Prop, M1 = fun W' => M0 W' ∧ AJ W' x8 34 #[.string NV, .slice Aq nq cq] ∧ EI W' wA.heap.size 5 Aq nq cq (AE.flatMap Sp.cells) := ⟨_, rfl⟩
  have DV : Hid (yY wA.heap.size M1) := by unfold Hid; rw [AY]; exact GY.and ((yY.blk hne).and yY.slx)
  have Qa : Hid (∀ W', M1 W' → M0 W' ∧ AJ W' x8 34 #[.string NV, .slice Aq nq cq] ∧ EI W' wA.heap.size 5 Aq nq cq (AE.flatMap Sp.cells)) := fun W' h => by rw [AY] at h; exact h
  have Eo : Hid (∀ W', M1 W' → GI wA nb An nn cn ns Ad nd cd ds W' ∧ M0 W') := fun W' h => Bn _ (Qa _ h).1
  have ED : Hid (M1 W8) := by unfold Hid; rw [AY]; exact ⟨Ec, HV, Tj⟩
  clear AY Ec HV hne Tj XQ;obtain ⟨k0, k1⟩ := (Eo _ ED).1.bx.d2;obtain ⟨b0, b1⟩ := (PY _ (Eo _ ED).2).bn.d2;go_upto_region 9 with (fail);clear k0 k1 b0 b1;have HV := iD (AJ.new W8 26 #[.slice An nn cn, .slice Ad nd cd, .slice Ao no co, .slice Bo mo KP]);have Ec := iD (DV.later ED ((Below.refl _ W8).alloc lR (.cells #[.slice An nn cn, .slice Ad nd cd, .slice Ao no co, .slice Bo mo KP] 26)));have hne : W8.heap.size ≠ wA.heap.size := by have := (Eo _ ED).1; have := this.dk.lt; omega
  clear ED;obtain ⟨sb, DK⟩ := eX W8.heap.size;rw [← DK] at HV hne ⊢;clear DK;generalize World.alloc W8 _ = W9 at *;obtain ⟨M2, AW⟩ : ∃ M2 : World → Prop, M2 = fun W' => M1 W' ∧ AJ W' sb 26 #[.slice An nn cn, .slice Ad nd cd, .slice Ao no co, .slice Bo mo KP] := ⟨_, rfl⟩
  have EE : Hid (yY wA.heap.size M2) := by unfold Hid; rw [AW]; exact DV.and (yY.blk hne)
  have Fv : Hid (∀ W', M2 W' → M1 W' ∧ AJ W' sb 26 #[.slice An nn cn, .slice Ad nd cd, .slice Ao no co, .slice Bo mo KP]) := fun W' h => by rw [AW] at h; exact h
  have Ct : Hid (∀ W', M2 W' → GI wA nb An nn cn ns Ad nd cd ds W' ∧ M0 W') := fun W' h => Eo _ (Fv _ h).1
  have CG : Hid (M2 W9) := by unfold Hid; rw [AW]; exact ⟨Ec, HV⟩
  clear AW Ec HV hne;refine zm [(13, 0), (0, 1), (5, 0), (0, 1), (0, 0), (0, 1), (0, 0), (0, 1), (0, 0), (10, 1), (0, 0), (0, 1), (0, 0), (10, 1), (57, 0), (0, 2), (150, 1), (0, 0)] 110 (2) (Uo M2 2) (by (try dsimp only [gt]); exact ⟨0, rfl, Nat.zero_le _, rfl, CG⟩) (by kernel_rfl) ?_;intro u1 CU gk wa a hrel ha J1 K1 Dk Ky;dsimp only [zY, Go.Proofs.YtddddlhgaeameaaGreatDoor.v1, Nat.reduceAdd] at ha;subst ha;clear CG W9;obtain ⟨i, rfl, hi, rfl, CG⟩ := hrel;by_cases Dm : i < 2; rotate_left
  ·obtain rfl : i = 2 := by omega
   go_wp2_with fail
   refine (xc wa (Ct _ CG).1.la).mono ?_;rintro e we ⟨rfl, DZ⟩
   go_wp2_with fail
   go_ret;exact ⟨rfl, (PY _ (Ct _ CG).2).bl.trans (DZ.mono (PY _ (Ct _ CG).2).bl.size)⟩
  have Dl : (i : Int) < 2 := by omega
  obtain ⟨Ax, nx, cx, Bx, mx, KO, Kk, LB, Na, Di, IB⟩ : ∃ (Ax : Option Addr) (nx cx : Nat) (Bx : Option Addr) (mx KO : Nat) (Kk : List Nd) (LB : List Dv), wa.cell? ⟨sb, i * 2, none⟩ = some (.slice Ax nx cx) ∧ wa.cell? ⟨sb, i * 2 + 1, none⟩ = some (.slice Bx mx KO) ∧ Hid ((∀ W', M0 W' → Sl W' W'.heap.size 3 Ax nx cx (Kk.flatMap Nd.cells) ∧ Sl W' W'.heap.size 5 Bx mx KO (LB.flatMap Dv.cells)) ∧ FO Kk ∧ (∀ x ∈ LB, x.name.size ≤ 9223372036854775807)) := by
   rcases (show i = 0 ∨ i = 1 by omega) with rfl | rfl
   ·exact ⟨An, nn, cn, Ad, nd, cd, ns, ds, (Fv _ CG).2.cell 0, (Fv _ CG).2.cell 1, ⟨fun W' h => ⟨(RZ _ h).hn.1, (RZ _ h).hd.1⟩, Gg.1, Gg.2⟩⟩
   ·exact ⟨Ao, no, co, Bo, mo, KP, NS, OH, (Fv _ CG).2.cell 2, (Fv _ CG).2.cell 3, ⟨fun W' h => ⟨(TQ _ h).n, (TQ _ h).d⟩, Bp, CF⟩⟩
  go_upto_region 11 with (fail);clear Na Di;have HV := iD (AJ.new wa 26 #[.slice Ax nx cx, .slice Bx mx KO]);have Ec := iD (EE.later CG ((Below.refl _ wa).alloc lR (.cells #[.slice Ax nx cx, .slice Bx mx KO] 26)));have hne : wa.heap.size ≠ wA.heap.size := by have := (Ct _ CG).1; have := this.dk.lt; omega
  clear CG;obtain ⟨xb, DK⟩ := eX wa.heap.size;rw [← DK] at HV hne ⊢;clear DK;generalize World.alloc wa _ = Um at *;obtain ⟨M3, AV⟩ : ∃ M3 : World → Prop, M3 = fun W' => M2 W' ∧ AJ W' xb 26 #[.slice Ax nx cx, .slice Bx mx KO] := ⟨_, rfl⟩
  have EL : Hid (yY wA.heap.size M3) := by unfold Hid; rw [AV]; exact EE.and (yY.blk hne)
  have Uw : Hid (∀ W', M3 W' → M2 W' ∧ AJ W' xb 26 #[.slice Ax nx cx, .slice Bx mx KO]) := fun W' h => by rw [AV] at h; exact h
  have JB : Hid (∀ W', M3 W' → GI wA nb An nn cn ns Ad nd cd ds W' ∧ M0 W') := fun W' h => Ct _ (Uw _ h).1
  have FZ : Hid (M3 Um) := by unfold Hid; rw [AV]; exact ⟨Ec, HV⟩
  clear AV Ec HV hne;go_upto_region 12 with (fail);have HV := iD (AJ.new Um 22 #[.slice As nd cs, .slice A1 n1 c1]);have Ec := iD (EL.later FZ ((Below.refl _ Um).alloc lR (.cells #[.slice As nd cs, .slice A1 n1 c1] 22)));have hne : Um.heap.size ≠ wA.heap.size := by have := (JB _ FZ).1; have := this.dk.lt; omega
  clear FZ;obtain ⟨yb, DK⟩ := eX Um.heap.size;rw [← DK] at HV hne ⊢;clear DK;generalize World.alloc Um _ = Bg at *;obtain ⟨M4, AU⟩ : ∃ M4 : World → Prop, M4 = fun W' => M3 W' ∧ AJ W' yb 22 #[.slice As nd cs, .slice A1 n1 c1] := ⟨_, rfl⟩
  have Ee : Hid (yY wA.heap.size M4) := by unfold Hid; rw [AU]; exact EL.and (yY.blk hne)
  have TT : Hid (∀ W', M4 W' → M3 W' ∧ AJ W' yb 22 #[.slice As nd cs, .slice A1 n1 c1]) := fun W' h => by rw [AU] at h; exact h
  have Uq : Hid (∀ W', M4 W' → GI wA nb An nn cn ns Ad nd cd ds W' ∧ M0 W') := fun W' h => JB _ (TT _ h).1
  have IW : Hid (M4 Bg) := by unfold Hid; rw [AU]; exact ⟨Ec, HV⟩
  clear AU Ec HV hne;refine zm [(13, 0), (0, 1), (7, 0), (0, 1), (0, 0), (0, 1), (0, 0), (10, 1), (0, 0), (0, 1), (0, 0), (10, 1), (65, 0), (0, 2), (141, 1), (1, 0)] 118 (2) (Uo M4 2) (by (try dsimp only [gt]); exact ⟨0, rfl, Nat.zero_le _, rfl, IW⟩) (by kernel_rfl) ?_;intro u2 CS gk wb a hrel ha J2 K2 Cl Dt;dsimp only [zY, Go.Proofs.YtddddlhgaeameaaGreatDoor.v1, Nat.reduceAdd] at ha;subst ha;clear IW Bg;obtain ⟨j, rfl, hj, rfl, IW⟩ := hrel;by_cases Dj : j < 2; rotate_left
  ·obtain rfl : j = 2 := by omega
   have Oa := iD (Uw _ (TT _ IW).1).1
   go_wp2_with fail
   refine Handed.intro (2 - (i + 1)) (by omega) (Dk _ _ _ (xQ.back 110 ?_ (by kernel_rfl)));dsimp only [gt];exact ⟨i + 1, by go_num, by omega, rfl, Oa⟩
  have Dg : (j : Int) < 2 := by omega
  obtain ⟨Az, nz, cz, zl, NZ, DG⟩ : ∃ (Az : Option Addr) (nz cz : Nat) (zl : List Int), wb.cell? ⟨yb, j, none⟩ = some (.slice Az nz cz) ∧ Hid (∀ W', M0 W' → Sl W' W'.heap.size 1 Az nz cz (zF zl)) := by
   have hc := (TT _ IW).2;rcases (show j = 0 ∨ j = 1 by omega) with rfl | rfl
   ·exact ⟨As, nd, cs, s, hc.cell 0, fun W' h => DL _ h⟩
   ·exact ⟨A1, n1, c1, rs, hc.cell 1, fun W' h => (TQ _ h).r⟩
  obtain ⟨g0, g1, g2⟩ := (OX _ (Uq _ IW).2).2.1.d3;obtain ⟨b0, b1, b2⟩ := (PY _ (Uq _ IW).2).bg.d3;go_upto_region 15 with (fail);clear NZ g0 g1 g2 b0 b1 b2;have HV := iD (AJ.new wb 29 #[.int .i64 MV, .slice Ag mg IU, .slice MC Le Ls, .int .i64 cg, .slice Al nl cl, .slice Ap np cp]);have Ec := iD (Ee.later IW ((Below.refl _ wb).alloc lR (.cells #[.int .i64 MV, .slice Ag mg IU, .slice MC Le Ls, .int .i64 cg, .slice Al nl cl, .slice Ap np cp] 29)));have hne : wb.heap.size ≠ wA.heap.size := by have := (Uq _ IW).1; have := this.dk.lt; omega
  clear IW;obtain ⟨zb, DK⟩ := eX wb.heap.size;rw [← DK] at HV hne ⊢;clear DK;generalize World.alloc wb _ = Bf at *;obtain ⟨M5, AP⟩ : ∃ M5 : World → Prop, M5 = fun W' => M4 W' ∧ AJ W' zb 29 #[.int .i64 MV, .slice Ag mg IU, .slice MC Le Ls, .int .i64 cg, .slice Al nl cl, .slice Ap np cp] := ⟨_, rfl⟩
  have LV : Hid (yY wA.heap.size M5) := by unfold Hid; rw [AP]; exact Ee.and (yY.blk hne)
  have TS : Hid (∀ W', M5 W' → M4 W' ∧ AJ W' zb 29 #[.int .i64 MV, .slice Ag mg IU, .slice MC Le Ls, .int .i64 cg, .slice Al nl cl, .slice Ap np cp]) := fun W' h => by rw [AP] at h; exact h
  have OV : Hid (∀ W', M5 W' → GI wA nb An nn cn ns Ad nd cd ds W' ∧ M0 W') := fun W' h => Uq _ (TS _ h).1
  have IE : Hid (M5 Bf) := by unfold Hid; rw [AP]; exact ⟨Ec, HV⟩
  clear AP Ec HV hne;refine zm [(13, 0), (0, 1), (9, 0), (0, 1), (0, 0), (10, 1), (0, 0), (0, 1), (0, 0), (10, 1), (73, 0), (0, 2), (132, 1), (2, 0)] 126 (2) (Uo M5 2) (by (try dsimp only [gt]); exact ⟨0, rfl, Nat.zero_le _, rfl, IE⟩) (by kernel_rfl) ?_;intro u3 CQ gk wc a hrel ha J3 K3 Ck Dr;dsimp only [zY, Go.Proofs.YtddddlhgaeameaaGreatDoor.v1, Nat.reduceAdd] at ha;subst ha;clear IE Bf;obtain ⟨z, rfl, hz, rfl, IE⟩ := hrel;by_cases GD : z < 2; rotate_left
  ·obtain rfl : z = 2 := by omega
   have Oa := iD (TS _ IE).1
   go_wp2_with fail
   refine Handed.intro (2 - (j + 1)) (by omega) (Cl _ _ _ (xQ.back 118 ?_ (by kernel_rfl)));dsimp only [gt];exact ⟨j + 1, by go_num, by omega, rfl, Oa⟩
  have DY : (z : Int) < 2 := by omega
  obtain ⟨IR, Kh, KG, clz, Lg, Kg, KF, KN, Ld, Cg, Am, Cc, Bz⟩ : ∃ (IR : Int) (Kh : Option Addr) (KG clz : Nat) (Lg : List Lk) (Kg : Option Addr) (KF KN : Nat) (Ld : List Int), wc.cell? ⟨zb, z * 3, none⟩ = some (.int .i64 IR) ∧ wc.cell? ⟨zb, z * 3 + 1, none⟩ = some (.slice Kh KG clz) ∧ wc.cell? ⟨zb, z * 3 + 2, none⟩ = some (.slice Kg KF KN) ∧ Hid (∀ W', M0 W' → Sl W' W'.heap.size 3 Kh KG clz (Lg.flatMap Lk.cells) ∧ Sl W' W'.heap.size 1 Kg KF KN (zF Ld)) := by
   have hc := (TS _ IE).2;rcases (show z = 0 ∨ z = 1 by omega) with rfl | rfl
   ·exact ⟨MV, Ag, mg, IU, Rv, MC, Le, Ls, VJ, hc.cell 0, hc.cell 1, hc.cell 2, fun W' h => ⟨(OX _ h).2.2.1.1, (OX _ h).2.2.2.1⟩⟩
   ·exact ⟨cg, Al, nl, cl, ls, Ap, np, cp, pr, hc.cell 3, hc.cell 4, hc.cell 5, fun W' h => ⟨(TQ _ h).l, (TQ _ h).p⟩⟩
  go_upto_region 17 with (fail);clear Cg Am Cc;have HV := iD (AJ.new wc 29 #[.int .i64 IR, .slice Kh KG clz, .slice Kg KF KN]);have Ec := iD (LV.later IE ((Below.refl _ wc).alloc lR (.cells #[.int .i64 IR, .slice Kh KG clz, .slice Kg KF KN] 29)));have hne : wc.heap.size ≠ wA.heap.size := by have := (OV _ IE).1; have := this.dk.lt; omega
  clear IE;obtain ⟨zx, DK⟩ := eX wc.heap.size;rw [← DK] at HV hne ⊢;clear DK;generalize World.alloc wc _ = BI at *;obtain ⟨M6, AO⟩ : ∃ M6 : World → Prop, M6 = fun W' => M5 W' ∧ AJ W' zx 29 #[.int .i64 IR, .slice Kh KG clz, .slice Kg KF KN] := ⟨_, rfl⟩
  have IY : Hid (yY wA.heap.size M6) := by unfold Hid; rw [AO]; exact LV.and (yY.blk hne)
  have QZ : Hid (∀ W', M6 W' → M5 W' ∧ AJ W' zx 29 #[.int .i64 IR, .slice Kh KG clz, .slice Kg KF KN]) := fun W' h => by rw [AO] at h; exact h
  have Ij : Hid (∀ W', M6 W' → GI wA nb An nn cn ns Ad nd cd ds W' ∧ M0 W') := fun W' h => OV _ (QZ _ h).1
  have Ey : Hid (M6 BI) := by unfold Hid; rw [AO]; exact ⟨Ec, HV⟩
  clear AO Ec HV hne;have HZ : Hid (∀ W', M6 W' → yp W' Ax Bx Az Kh Kg nx cx mx KO nz cz KG clz KF KN Kk LB zl Lg Ld) := fun W' h => ⟨(IB.1 _ (Ij _ h).2).1, (IB.1 _ (Ij _ h).2).2, DG _ (Ij _ h).2, (Bz _ (Ij _ h).2).1, (Bz _ (Ij _ h).2).2, (Ij _ h).1.la, IB.2.1, IB.2.2⟩
  have CJ : Hid (∀ W', M6 W' → (W'.cell? ⟨xb, 0, none⟩ = some (.slice Ax nx cx) ∧ W'.cell? ⟨xb, 1, none⟩ = some (.slice Bx mx KO)) ∧ W'.cell? ⟨zx, 0, none⟩ = some (.int .i64 IR) ∧ W'.cell? ⟨zx, 1, none⟩ = some (.slice Kh KG clz) ∧ W'.cell? ⟨zx, 2, none⟩ = some (.slice Kg KF KN)) := fun W' h => ⟨⟨(Uw _ (TT _ (TS _ (QZ _ h).1).1).1).2.cell 0, (Uw _ (TT _ (TS _ (QZ _ h).1).1).1).2.cell 1⟩, (QZ _ h).2.cell 0, (QZ _ h).2.cell 1, (QZ _ h).2.cell 2⟩
  have XZ : Hid (∀ W', M6 W' → (W'.cell? ⟨nb, 0, none⟩ = some (.slice An nn cn) ∧ W'.cell? ⟨nb, 1, none⟩ = some (.slice Ad nd cd)) ∧ W'.cell? ⟨w.heap.size + 2, 0, none⟩ = some (.int .i64 vk) ∧ W'.cell? ⟨w.heap.size + 2, 1, none⟩ = some (.int .i64 vd) ∧ W'.cell? ⟨w.heap.size + 2, 2, none⟩ = some (.int .i64 vn) ∧ W'.cell? ⟨w.heap.size + 2, 3, none⟩ = some (.int .i64 vp) ∧ W'.cell? ⟨w.heap.size + 2, 4, none⟩ = some (.int .i64 vq)) := fun W' h => ⟨⟨(Ij _ h).1.bx.cell 0, (Ij _ h).1.bx.cell 1⟩, (PY _ (Ij _ h).2).bs.cell 0, (PY _ (Ij _ h).2).bs.cell 1, (PY _ (Ij _ h).2).bs.cell 2, (PY _ (Ij _ h).2).bs.cell 3, (PY _ (Ij _ h).2).bs.cell 4⟩
  have KW := iD (yY.drew IY Ey);clear Ey;refine ro (S := M6) (J := []) (n := _) ((0, true) :: (1, true) :: (2, true) :: (6, true) :: (3, false) :: (4, false) :: (5, true) :: []) (by as_aux_lemma => kernel_rfl) (by rfl) (wZ (k := 12) (by go_simp; rfl) (wZ (k := 15) (by go_simp; rfl) (wZ (k := 16) (by go_simp; rfl) nO))) ?_ (fun _ _ _ _ _ h => h) (fun Q2 A hsz CX Qw AA => ?_)
  ·exact KW.out
  try dsimp only at AA
  obtain ⟨BZ, Uk, Uj, -⟩ := CX;refine oT 0 130 ?_ rfl rfl (zg rfl) AA (fun ρ AB w AR => ?_) ?_;rotate_left
  ·(have Du := tm AB hsz 12 rfl (wK BZ); clear AB; (try dsimp only at AR); have q := (XZ _ AR).2; have o0 := q.1; have o1 := q.2.1; have o2 := q.2.2.1; have o3 := q.2.2.2.1; have o4 := q.2.2.2.2; clear q AR; go_simp; try with_reducible rfl)
  refine oM 1 131 ?_ rfl rfl rfl (zg rfl) AA (fun ρ AB => ?_) ?_;rotate_left
  ·(have WW := tm AB hsz 15 rfl (yd rfl (wK Uk)); exact WW)
  refine oT 2 132 ?_ rfl rfl (zg rfl) AA (fun ρ AB w AR => ?_) ?_;rotate_left
  ·(have BW := tm AB hsz 16 rfl (yd rfl (yd rfl (wK Uj))); clear AB; (try dsimp only at AR); have q := (XZ _ AR).1; have o0 := q.1; have o1 := q.2; clear q AR; go_simp; try with_reducible rfl)
  refine oM 6 136 ?_ rfl rfl rfl (zg rfl) AA (fun ρ AB => ?_) ?_;rotate_left
  ·exact AB.const _
  refine ky (i := 3) (d := 133) (vs := ?_) rfl rfl rfl (zg rfl) (fun ρ AB => ?_) ?_ ?_;rotate_left
  ·(have Aj := tm AB hsz 131 rfl (yd rfl (yd rfl xL)); have Ai := tm AB hsz 132 rfl (yd rfl xL); simp only [List.map_toArray, List.map_cons, List.map_nil, Aj, Ai]; try with_reducible rfl)
  ·(intro w; go_simp)
  refine (rN wA.heap.size An Ad nn cn nd cd BI.drew (Ij _ KW).1.dk (by omega) (by omega) (by omega) (by omega)).mono ?_;rintro e ME ⟨mk, md, mn, mp, mq, rfl, -, BC, Am⟩;have Ey := iD (IY.grown KW Am BC);clear BC Am KW;refine ⟨_, rfl, fun _ => ?_, fun AA' => ?_⟩
  ·exact Ey.out
  replace AA := AA' rfl;clear AA';(try dsimp only at AA);refine iC (i := 4) (d := 134) (v := ?_) (w' := ?_) rfl rfl (zg rfl) (fun ρ AB => ?_) ?_ ?_;rotate_left 2
  ·(have Cx := tm AB hsz 130 rfl (ie rfl rfl rfl rfl xL); have Cw := tm AB hsz 133 rfl xL; clear AB; go_simp; first | with_reducible rfl | (constructor <;> with_reducible rfl))
  ·refine fun _ => ?_
   exact IY.later Ey ((Below.refl _ _).alloc lR _)
  intro AA';replace AA := AA' rfl;clear AA';(try dsimp only at AA);refine oT 5 135 ?_ rfl rfl (zg rfl) AA (fun ρ AB w AR => ?_) ?_;rotate_left
  ·(have Cv := tm AB hsz 134 rfl xL; clear AB; (try dsimp only at AR); go_simp; try with_reducible rfl)
  refine oS Qw ?_;clear AA Qw BZ Uk Uj hsz A Q2;simp only [oO, qS, mm, ia, ib];go_upto_region 18 with (fail);have HV := iD (AJ.new ME 31 #[.int .i64 vk, .int .i64 vd, .int .i64 vn, .int .i64 vp, .int .i64 vq, .int .i64 mk, .int .i64 md, .int .i64 mn, .int .i64 mp, .int .i64 mq]);have Ec := iD (IY.later Ey ((Below.refl _ ME).alloc lR (.cells #[.int .i64 vk, .int .i64 vd, .int .i64 vn, .int .i64 vp, .int .i64 vq, .int .i64 mk, .int .i64 md, .int .i64 mn, .int .i64 mp, .int .i64 mq] 31)));have hne : ME.heap.size ≠ wA.heap.size := by have := (Ij _ Ey).1; have := this.dk.lt; omega
  clear Ey;obtain ⟨tb, DK⟩ := eX ME.heap.size;rw [← DK] at HV hne ⊢;clear DK;generalize World.alloc ME _ = Be at *;obtain ⟨M7, AK⟩ : ∃ M7 : World → Prop, M7 = fun W' => M6 W' ∧ AJ W' tb 31 #[.int .i64 vk, .int .i64 vd, .int .i64 vn, .int .i64 vp, .int .i64 vq, .int .i64 mk, .int .i64 md, .int .i64 mn, .int .i64 mp, .int .i64 mq] := ⟨_, rfl⟩
  have Te : Hid (yY wA.heap.size M7) := by unfold Hid; rw [AK]; exact IY.and (yY.blk hne)
  have Uv : Hid (∀ W', M7 W' → M6 W' ∧ AJ W' tb 31 #[.int .i64 vk, .int .i64 vd, .int .i64 vn, .int .i64 vp, .int .i64 vq, .int .i64 mk, .int .i64 md, .int .i64 mn, .int .i64 mp, .int .i64 mq]) := fun W' h => by rw [AK] at h; exact h
  have Bm : Hid (∀ W', M7 W' → GI wA nb An nn cn ns Ad nd cd ds W' ∧ M0 W') := fun W' h => Ij _ (Uv _ h).1
  have Fh : Hid (M7 Be) := by unfold Hid; rw [AK]; exact ⟨Ec, HV⟩
  clear AK Ec HV hne;refine zm [(13, 0), (0, 1), (11, 0), (10, 1), (97, 0), (0, 2), (51, 1), (73, 0)] 136 (2) (Uo M7 2) (by (try dsimp only [gt]); exact ⟨0, rfl, Nat.zero_le _, rfl, Fh⟩) (by kernel_rfl) ?_;intro u4 CN gk wd a hrel ha J4 K4 Cj Dq;dsimp only [zY, Go.Proofs.YtddddlhgaeameaaGreatDoor.v1, Nat.reduceAdd] at ha;subst ha;clear Fh Be BI;obtain ⟨q, rfl, hq, rfl, Fh⟩ := hrel;by_cases Va : q < 2
  ·have Df : (q : Int) < 2 := by omega
   obtain ⟨ek, ed, en, ep, eq, h0, h1, h2, h3, h4⟩ : ∃ ek ed en ep eq : Int, wd.cell? ⟨tb, q * 5, none⟩ = some (.int .i64 ek) ∧ wd.cell? ⟨tb, q * 5 + 1, none⟩ = some (.int .i64 ed) ∧ wd.cell? ⟨tb, q * 5 + 2, none⟩ = some (.int .i64 en) ∧ wd.cell? ⟨tb, q * 5 + 3, none⟩ = some (.int .i64 ep) ∧ wd.cell? ⟨tb, q * 5 + 4, none⟩ = some (.int .i64 eq) := by
    have hc := (Uv _ Fh).2;rcases (show q = 0 ∨ q = 1 by omega) with rfl | rfl
    ·exact ⟨vk, vd, vn, vp, vq, hc.cell 0, hc.cell 1, hc.cell 2, hc.cell 3, hc.cell 4⟩
    ·exact ⟨mk, md, mn, mp, mq, hc.cell 5, hc.cell 6, hc.cell 7, hc.cell 8, hc.cell 9⟩
   go_upto_region 20 with (fail);clear h0 h1 h2 h3 h4;have HV := iD (AJ.new wd 31 #[.int .i64 ek, .int .i64 ed, .int .i64 en, .int .i64 ep, .int .i64 eq]);have Ec := iD (Te.later Fh ((Below.refl _ wd).alloc lR (.cells #[.int .i64 ek, .int .i64 ed, .int .i64 en, .int .i64 ep, .int .i64 eq] 31)));have hne : wd.heap.size ≠ wA.heap.size := by have := (Bm _ Fh).1; have := this.dk.lt; omega
   clear Fh;obtain ⟨tx, DK⟩ := eX wd.heap.size;rw [← DK] at HV hne ⊢;clear DK;generalize World.alloc wd _ = Bd at *;obtain ⟨M8, AH⟩ : ∃ M8 : World → Prop, M8 = fun W' => M7 W' ∧ AJ W' tx 31 #[.int .i64 ek, .int .i64 ed, .int .i64 en, .int .i64 ep, .int .i64 eq] := ⟨_, rfl⟩
   have IX : Hid (yY wA.heap.size M8) := by unfold Hid; rw [AH]; exact Te.and (yY.blk hne)
   have Pb : Hid (∀ W', M8 W' → M7 W' ∧ AJ W' tx 31 #[.int .i64 ek, .int .i64 ed, .int .i64 en, .int .i64 ep, .int .i64 eq]) := fun W' h => by rw [AH] at h; exact h
   have Dy : Hid (∀ W', M8 W' → GI wA nb An nn cn ns Ad nd cd ds W' ∧ M0 W') := fun W' h => Bm _ (Pb _ h).1
   have TY : Hid (M8 Bd) := by unfold Hid; rw [AH]; exact ⟨Ec, HV⟩
   clear AH Ec HV hne;have CH : Hid (∀ W', M8 W' → ((W'.cell? ⟨xb, 0, none⟩ = some (.slice Ax nx cx) ∧ W'.cell? ⟨xb, 1, none⟩ = some (.slice Bx mx KO)) ∧ W'.cell? ⟨zx, 0, none⟩ = some (.int .i64 IR) ∧ W'.cell? ⟨zx, 1, none⟩ = some (.slice Kh KG clz) ∧ W'.cell? ⟨zx, 2, none⟩ = some (.slice Kg KF KN)) ∧ W'.cell? ⟨tx, 0, none⟩ = some (.int .i64 ek) ∧ W'.cell? ⟨tx, 1, none⟩ = some (.int .i64 ed) ∧ W'.cell? ⟨tx, 2, none⟩ = some (.int .i64 en) ∧ W'.cell? ⟨tx, 3, none⟩ = some (.int .i64 ep) ∧ W'.cell? ⟨tx, 4, none⟩ = some (.int .i64 eq)) := fun W' h => ⟨CJ _ (Uv _ (Pb _ h).1).1, (Pb _ h).2.cell 0, (Pb _ h).2.cell 1, (Pb _ h).2.cell 2, (Pb _ h).2.cell 3, (Pb _ h).2.cell 4⟩
   obtain ⟨eI, WM⟩ := eX (yE Kk LB zl IR Lg Ld ⟨#[80]⟩ [⟨ek, ed, en, ep, eq⟩]);obtain ⟨eC, WN⟩ := eX ((if eI = 0 then IR else 0));obtain ⟨eO, WL⟩ := eX (Ro Kk LB zl IR Lg Ld ⟨ek, ed, en, ep, eq⟩)
   have BB : Hid (∀ {w e w'}, tW w Kk LB zl IR Lg Ld ⟨ek, ed, en, ep, eq⟩ e w' → ∃ (A1 A2 Al Ap : Option Addr) (n1 c1 n2 c2 nl cl np cp : Nat), e = .returned (.tuple #[.slice A1 n1 c1, .slice A2 n2 c2, .agg #[.int .i64 eC, .slice Al nl cl, .slice Ap np cp], .bool eO.ok, .int .i64 eI]) ∧ Hid (yi w' A1 A2 Al Ap n1 c1 n2 c2 nl cl np cp eO) ∧ Hid (Below w.heap.size w w')) := by
    intro w e w' h; rw [WN, WM, WL]; exact h.two
   clear WM WN WL;have DU := TY;clear TY;obtain ⟨⟨⟨k0, k1⟩, g0, g1, g2⟩, s0, s1, s2, s3, s4⟩ := CH _ DU.out
   go_wp2_with fail
   clear k0 k1 g0 g1 g2 s0 s1 s2 s3 s4;refine (jh Ax Bx Az Kh Kg nx cx mx KO nz cz KG clz KF KN Kk LB zl Lg Ld IR ek ed en ep eq Bd (HZ _ (Uv _ (Pb _ DU).1).1)).mono ?_;intro e wy EN;obtain ⟨UH, UF, Ow, Ou, Ru, Sy, Rs, Su, NY, OO, NU, OL, rfl, hS, hb⟩ := BB EN;go_upto_region 21 with (fail);have AQ := hb.alloc hb.size (.cells #[.int .i64 eC, .slice Ow NY OO, .slice Ou NU OL] 29);have FC := iD (Sz.new (co := eC) hS rfl);have Hm := iD (IX.later DU AQ);clear EN hS hb AQ DU;have DU := Hm;clear Hm;generalize World.alloc wy _ = DF at *;generalize wy.heap.size = ba at *;obtain ⟨⟨⟨k0, k1⟩, g0, g1, g2⟩, s0, s1, s2, s3, s4⟩ := CH _ DU.out
   go_wp2_with fail
   clear k0 k1 g0 g1 g2 s0 s1 s2 s3 s4;refine (lZ Ax Bx Az Kh Kg nx cx mx KO nz cz KG clz KF KN Kk LB zl Lg Ld IR ek ed en ep eq DF (HZ _ (Uv _ (Pb _ DU).1).1)).mono ?_;intro e wy EN;obtain ⟨UG, UE, Ov, Ot, Rt, Sw, Rq, Sr, NW, OM, NT, OJ, rfl, hS, hb⟩ := BB EN;go_upto_region 22 with (fail);have AQ := hb.alloc hb.size (.cells #[.int .i64 eC, .slice Ov NW OM, .slice Ot NT OJ] 29);have GX := iD (Sz.new (co := eC) hS rfl);have Hm := iD (IX.later DU AQ);have Ed := iD (FC.later AQ);clear FC;clear EN hS hb AQ DU;have DU := Hm;clear Hm;have FC := Ed;clear Ed;generalize World.alloc wy _ = BH at *;generalize wy.heap.size = bb at *;have qI : (eI != eI) = false := by simp
   have qB : (eO.ok != eO.ok) = false := jd
   go_wp2_with fail
   refine (vO UH UG Ru Sy Rt Sw BH.heap.size BH.heap.size eO.h eO.h BH (FC.a.h) (GX.a.h) lR lR).mono ?_;rintro e BG ⟨rfl, hb'⟩;rw [lF rfl];have Hm := iD (IX.later DU hb');have Ed := iD (FC.later hb'); have Ho := iD (GX.later hb');clear hb' DU FC GX;have DU := Hm; have FC := Ed; have GX := Ho;clear Hm Ed Ho
   go_wp2_with fail
   refine (vO UF UE Rs Su Rq Sr BG.heap.size BG.heap.size eO.t.s eO.t.s BG (FC.a.s) (GX.a.s) lR lR).mono ?_;rintro e DC ⟨rfl, hb'⟩;rw [lF rfl];have Hm := iD (IX.later DU hb');have Ed := iD (FC.later hb'); have Ho := iD (GX.later hb');clear hb' DU FC GX;have DU := Hm; have FC := Ed; have GX := Ho;clear Hm Ed Ho;obtain ⟨p0, p1, p2⟩ := FC.b.d3;obtain ⟨r0, r1, r2⟩ := GX.b.d3
   go_wp2_with fail
   clear p0 p1 p2 r0 r1 r2 qI qB;refine (qK Ow Ou Ov Ot NY OO NU OL NW OM NT OJ eC eC eO.t.ls eO.t.ls eO.t.pr eO.t.pr DC FC.a.l FC.a.p GX.a.l GX.a.p).mono ?_;rintro e Dx ⟨rfl, hb'⟩;rw [gS];have Oa := iD (Pb _ (IX.later DU hb')).1;clear hb' FC GX DU
   go_wp2_with fail
   refine Handed.intro (2 - (q + 1)) (by omega) (Cj _ _ _ (xQ.back 136 ?_ (by kernel_rfl)));dsimp only [gt];exact ⟨q + 1, by go_num, by omega, rfl, Oa⟩
  obtain rfl : q = 2 := by omega
  have Ey := iD (Uv _ Fh).1;clear Fh;obtain ⟨k0, k1⟩ := (PY _ (Ij _ Ey).2).bp.d2;obtain ⟨k2, k3⟩ := (Qa _ (Fv _ (Uw _ (TT _ (TS _ (QZ _ Ey).1).1).1).1).1).2.1.d2;go_upto_region 26 with (fail);clear k0 k1 k2 k3;have HV := iD (AJ.new wd 34 #[.string Pg, .slice Lb JM LD, .string NV, .slice Aq nq cq]);have Ec := iD (IY.later Ey ((Below.refl _ wd).alloc lR (.cells #[.string Pg, .slice Lb JM LD, .string NV, .slice Aq nq cq] 34)));have hne : wd.heap.size ≠ wA.heap.size := by have := (Ij _ Ey).1; have := this.dk.lt; omega
  clear Ey;obtain ⟨pb, DK⟩ := eX wd.heap.size;rw [← DK] at HV hne ⊢;clear DK;generalize World.alloc wd _ = Bc at *;obtain ⟨M9, AG⟩ : ∃ M9 : World → Prop, M9 = fun W' => M6 W' ∧ AJ W' pb 34 #[.string Pg, .slice Lb JM LD, .string NV, .slice Aq nq cq] := ⟨_, rfl⟩
  have Bu : Hid (yY wA.heap.size M9) := by unfold Hid; rw [AG]; exact IY.and (yY.blk hne)
  have Uu : Hid (∀ W', M9 W' → M6 W' ∧ AJ W' pb 34 #[.string Pg, .slice Lb JM LD, .string NV, .slice Aq nq cq]) := fun W' h => by rw [AG] at h; exact h
  have Bl : Hid (∀ W', M9 W' → GI wA nb An nn cn ns Ad nd cd ds W' ∧ M0 W') := fun W' h => Ij _ (Uu _ h).1
  have Gh : Hid (M9 Bc) := by unfold Hid; rw [AG]; exact ⟨Ec, HV⟩
  clear AG Ec HV hne;refine zm [(13, 0), (0, 1), (23, 0), (0, 1), (0, 0), (10, 1), (140, 0), (0, 2), (64, 1), (3, 0)] 193 (2) (Uo M9 2) (by (try dsimp only [gt]); exact ⟨0, rfl, Nat.zero_le _, rfl, Gh⟩) (by kernel_rfl) ?_;intro u5 CM gk we a hrel ha J5 K5 Ci Dp;dsimp only [zY, Go.Proofs.YtddddlhgaeameaaGreatDoor.v1, Nat.reduceAdd] at ha;subst ha;clear Gh Bc;obtain ⟨u, rfl, hu, rfl, Gh⟩ := hrel;by_cases Dd : u < 2; rotate_left
  ·obtain rfl : u = 2 := by omega
   have Oa := iD (QZ _ (Uu _ Gh).1).1
   go_wp2_with fail
   refine Handed.intro (2 - (z + 1)) (by omega) (Ck _ _ _ (xQ.back 126 ?_ (by kernel_rfl)));dsimp only [gt];exact ⟨z + 1, by go_num, by omega, rfl, Oa⟩
  have Dc : (u : Int) < 2 := by omega
  obtain ⟨Lf, Ay, ny, cy, Qn, CW, CV, DN, DR⟩ : ∃ (Lf : ByteArray) (Ay : Option Addr) (ny cy : Nat) (Qn : List Sp), we.cell? ⟨pb, u * 2, none⟩ = some (.string Lf) ∧ we.cell? ⟨pb, u * 2 + 1, none⟩ = some (.slice Ay ny cy) ∧ Hid (∀ W', M6 W' → Sl W' W'.heap.size 5 Ay ny cy (Qn.flatMap Sp.cells)) ∧ Hid (Lf.size ≤ 9223372036854775807) := by
   have hc := (Uu _ Gh).2;rcases (show u = 0 ∨ u = 1 by omega) with rfl | rfl
   ·exact ⟨Pg, Lb, JM, LD, Qo, hc.cell 0, hc.cell 1, fun W' h => (TQ _ (Ij _ h).2).x, BJ⟩
   ·exact ⟨NV, Aq, nq, cq, AE, hc.cell 2, hc.cell 3, fun W' h => (Qa _ (Fv _ (Uw _ (TT _ (TS _ (QZ _ h).1).1).1).1).1).2.2.1, DT⟩
  go_upto_region 28 with (fail);clear CW CV;have HV := iD (AJ.new we 34 #[.string Lf, .slice Ay ny cy]);have Ec := iD (Bu.later Gh ((Below.refl _ we).alloc lR (.cells #[.string Lf, .slice Ay ny cy] 34)));have hne : we.heap.size ≠ wA.heap.size := by have := (Bl _ Gh).1; have := this.dk.lt; omega
  clear Gh;obtain ⟨px, DK⟩ := eX we.heap.size;rw [← DK] at HV hne ⊢;clear DK;generalize World.alloc we _ = Bb at *;obtain ⟨RP, QK⟩ : ∃ RP : World → Prop, RP = fun W' => M9 W' ∧ AJ W' px 34 #[.string Lf, .slice Ay ny cy] := ⟨_, rfl⟩
  have Tf : Hid (yY wA.heap.size RP) := by unfold Hid; rw [QK]; exact Bu.and (yY.blk hne)
  have LP : Hid (∀ W', RP W' → M9 W' ∧ AJ W' px 34 #[.string Lf, .slice Ay ny cy]) := fun W' h => by rw [QK] at h; exact h
  have TF : Hid (∀ W', RP W' → GI wA nb An nn cn ns Ad nd cd ds W' ∧ M0 W') := fun W' h => Bl _ (LP _ h).1
  have LU : Hid (RP Bb) := by unfold Hid; rw [QK]; exact ⟨Ec, HV⟩
  clear QK Ec HV hne
  go_wp2_with fail
  refine (zS wA.heap.size 8 Bb (TF _ LU).1.dk (by decide)).mono ?_;rintro e Rm ⟨r, rfl, -, -, -, BQ, BM, -⟩;have XG := iD (Tf.grown LU BM BQ);clear LU BQ BM;have LU := XG;clear XG;go_upto_region 29 with (fail);have XM : (Rm.alloc (.cells #[.int .i64 r] 3)).heap.size = Rm.heap.size + 1 := by simp
  rw [← XM];clear XM;have HV := iD (AJ.new Rm 3 #[.int .i64 r]);have Ec := iD (Tf.later LU ((Below.refl _ Rm).alloc lR (.cells #[.int .i64 r] 3)));have hne : Rm.heap.size ≠ wA.heap.size := by have := (TF _ LU).1; have := this.dk.lt; omega
  clear LU;obtain ⟨jb, DK⟩ := eX Rm.heap.size;rw [← DK] at HV hne ⊢;clear DK;generalize World.alloc Rm _ = Ul at *;obtain ⟨QO, QJ⟩ : ∃ QO : World → Prop, QO = fun W' => RP W' ∧ AJ W' jb 3 #[.int .i64 r] := ⟨_, rfl⟩
  have XL : Hid (yY wA.heap.size QO) := by unfold Hid; rw [QJ]; exact Tf.and (yY.blk hne)
  have Ju : Hid (∀ W', QO W' → RP W' ∧ AJ W' jb 3 #[.int .i64 r]) := fun W' h => by rw [QJ] at h; exact h
  have TE : Hid (∀ W', QO W' → GI wA nb An nn cn ns Ad nd cd ds W' ∧ M0 W') := fun W' h => TF _ (Ju _ h).1
  have TZ : Hid (QO Ul) := by unfold Hid; rw [QJ]; exact ⟨Ec, HV⟩
  clear QJ Ec HV hne;have HV := iD (AJ.new Ul 22 #[.slice A2 n2 c2, .slice none 0 0, .slice (some ⟨jb, 0, none⟩) 1 1]);have Ec := iD (XL.later TZ ((Below.refl _ Ul).alloc lR (.cells #[.slice A2 n2 c2, .slice none 0 0, .slice (some ⟨jb, 0, none⟩) 1 1] 22)));have hne : Ul.heap.size ≠ wA.heap.size := by have := (TE _ TZ).1; have := this.dk.lt; omega
  clear TZ;obtain ⟨qb, DK⟩ := eX Ul.heap.size;rw [← DK] at HV hne ⊢;clear DK;generalize World.alloc Ul _ = Ba at *;obtain ⟨QN, QI⟩ : ∃ QN : World → Prop, QN = fun W' => QO W' ∧ AJ W' qb 22 #[.slice A2 n2 c2, .slice none 0 0, .slice (some ⟨jb, 0, none⟩) 1 1] := ⟨_, rfl⟩
  have Od : Hid (yY wA.heap.size QN) := by unfold Hid; rw [QI]; exact XL.and (yY.blk hne)
  have IV : Hid (∀ W', QN W' → QO W' ∧ AJ W' qb 22 #[.slice A2 n2 c2, .slice none 0 0, .slice (some ⟨jb, 0, none⟩) 1 1]) := fun W' h => by rw [QI] at h; exact h
  have DJ : Hid (∀ W', QN W' → GI wA nb An nn cn ns Ad nd cd ds W' ∧ M0 W') := fun W' h => TE _ (IV _ h).1
  have FB : Hid (QN Ba) := by unfold Hid; rw [QI]; exact ⟨Ec, HV⟩
  clear QI Ec HV hne;refine zm [(13, 0), (0, 1), (25, 0), (10, 1), (150, 0), (0, 2), (53, 1), (4, 0)] 203 (3) (Uo QN 3) (by (try dsimp only [gt]); exact ⟨0, rfl, Nat.zero_le _, rfl, FB⟩) (by kernel_rfl) ?_;intro u6 CL gk wf a hrel ha J6 K6 Ch Dn;dsimp only [zY, Go.Proofs.YtddddlhgaeameaaGreatDoor.v1, Nat.reduceAdd] at ha;subst ha;clear FB Ba;obtain ⟨v, rfl, hv, rfl, FB⟩ := hrel;by_cases Db : v < 3; rotate_left
  ·obtain rfl : v = 3 := by omega
   have Oa := iD (LP _ (Ju _ (IV _ FB).1).1).1
   go_wp2_with fail
   refine Handed.intro (2 - (u + 1)) (by omega) (Ci _ _ _ (xQ.back 193 ?_ (by kernel_rfl)));dsimp only [gt];exact ⟨u + 1, by go_num, by omega, rfl, Oa⟩
  have Da : (v : Int) < 3 := by omega
  obtain ⟨Ak, nk, ck, kl, Qy, Bt⟩ : ∃ (Ak : Option Addr) (nk ck : Nat) (kl : List Int), wf.cell? ⟨qb, v, none⟩ = some (.slice Ak nk ck) ∧ Hid (∀ W', QO W' → Sl W' W'.heap.size 1 Ak nk ck (zF kl)) := by
   have hc := (IV _ FB).2;rcases (show v = 0 ∨ v = 1 ∨ v = 2 by omega) with rfl | rfl | rfl
   ·exact ⟨A2, n2, c2, ks, hc.cell 0, fun W' h => (TQ _ (TE _ h).2).k⟩
   ·exact ⟨none, 0, 0, [], hc.cell 1, fun W' h => Sl.nil _ _ _⟩
   ·exact ⟨some ⟨jb, 0, none⟩, 1, 1, [r], hc.cell 2, fun W' h => xe (Ju _ h).2⟩
  go_upto_region 31 with (fail);clear Qy;have Xa : Hid (∀ W', QN W' → ((W'.cell? ⟨xb, 0, none⟩ = some (.slice Ax nx cx) ∧ W'.cell? ⟨xb, 1, none⟩ = some (.slice Bx mx KO)) ∧ W'.cell? ⟨zx, 0, none⟩ = some (.int .i64 IR) ∧ W'.cell? ⟨zx, 1, none⟩ = some (.slice Kh KG clz) ∧ W'.cell? ⟨zx, 2, none⟩ = some (.slice Kg KF KN)) ∧ W'.cell? ⟨px, 0, none⟩ = some (.string Lf) ∧ W'.cell? ⟨px, 1, none⟩ = some (.slice Ay ny cy)) := fun W' h => ⟨CJ _ (Uu _ (LP _ (Ju _ (IV _ h).1).1).1).1, (LP _ (Ju _ (IV _ h).1).1).2.cell 0, (LP _ (Ju _ (IV _ h).1).1).2.cell 1⟩
  have Bh : Hid (∀ W', QN W' → uf W' Ax Bx Az Kh Kg Ay nx cx mx KO nz cz KG clz KF KN ny cy Kk LB zl Lg Ld Lf Qn) := fun W' h => ⟨HZ _ (Uu _ (LP _ (Ju _ (IV _ h).1).1).1).1, DN _ (Uu _ (LP _ (Ju _ (IV _ h).1).1).1).1, DR⟩
  obtain ⟨eI, WM⟩ := eX (yE Kk LB zl IR Lg Ld Lf Qn);obtain ⟨eC, WN⟩ := eX ((if eI = 0 then IR else 0));obtain ⟨⟨eF, eT, eN⟩, WL⟩ : ∃ x, x = Qp Kk LB zl IR Lg Ld Lf Qn kl := ⟨_, rfl⟩
  have Ws : Hid (∀ {w e w'}, rk w Kk LB zl IR Lg Ld Lf Qn kl e w' → ∃ (A1 A2 Al Ap : Option Addr) (n1 c1 n2 c2 nl cl np cp : Nat), e = .returned (.tuple #[.slice A1 n1 c1, .slice A2 n2 c2, .agg #[.int .i64 eC, .slice Al nl cl, .slice Ap np cp], .int .i64 eN, .int .i64 eI]) ∧ Hid (sZ w' A1 A2 Al Ap n1 c1 n2 c2 nl cl np cp eF eT) ∧ Hid (Below w.heap.size w w')) := by
   intro w e w' h;have h2 := h.two;rw [← WL, ← WM, ← WN] at h2;exact h2
  clear WM WN WL;have DU := FB;clear FB;obtain ⟨⟨⟨k0, k1⟩, g0, g1, g2⟩, s0, s1⟩ := Xa _ DU.out
  go_wp2_with fail
  clear k0 k1 g0 g1 g2 s0 s1;refine (pn Ax Bx Az Kh Kg Ay Ak nx cx mx KO nz cz KG clz KF KN ny cy nk ck Kk LB zl Lg Ld IR Lf Qn kl wf (Bh _ DU) (Bt _ (IV _ DU).1)).mono ?_;intro e wy EN;obtain ⟨UH, UF, Ow, Ou, Ru, Sy, Rs, Su, NY, OO, NU, OL, rfl, hS, hb⟩ := Ws EN;go_upto_region 32 with (fail);have AQ := hb.alloc hb.size (.cells #[.int .i64 eC, .slice Ow NY OO, .slice Ou NU OL] 29);have FC := iD (TA.new (co := eC) hS rfl);have Hm := iD (Od.later DU AQ);clear EN hS hb AQ DU;have DU := Hm;clear Hm;generalize World.alloc wy _ = Cz at *;generalize wy.heap.size = ba at *;obtain ⟨⟨⟨k0, k1⟩, g0, g1, g2⟩, s0, s1⟩ := Xa _ DU.out
  go_wp2_with fail
  clear k0 k1 g0 g1 g2 s0 s1;refine (kj Ax Bx Az Kh Kg Ay Ak nx cx mx KO nz cz KG clz KF KN ny cy nk ck Kk LB zl Lg Ld IR Lf Qn kl Cz (Bh _ DU) (Bt _ (IV _ DU).1)).mono ?_;intro e wy EN;obtain ⟨UG, UE, Ov, Ot, Rt, Sw, Rq, Sr, NW, OM, NT, OJ, rfl, hS, hb⟩ := Ws EN;go_upto_region 33 with (fail);have AQ := hb.alloc hb.size (.cells #[.int .i64 eC, .slice Ov NW OM, .slice Ot NT OJ] 29);have GX := iD (TA.new (co := eC) hS rfl);have Hm := iD (Od.later DU AQ);have Ed := iD (FC.later AQ);clear FC;clear EN hS hb AQ DU;have DU := Hm;clear Hm;have FC := Ed;clear Ed;generalize World.alloc wy _ = BF at *;generalize wy.heap.size = bb at *;have qI : (eI != eI) = false := by simp
  have qN : ((eN : Int) != (eN : Int)) = false := by simp
  have CK : (eN != eN) = false := by simp
  go_wp2_with fail
  refine (lW UH UG Ru Sy Rt Sw BF.heap.size BF.heap.size eF eF BF FC.a.o GX.a.o lR lR).mono ?_;rintro e BA ⟨rfl, hb'⟩;rw [lF rfl];have Hm := iD (Od.later DU hb');have Ed := iD (FC.later hb'); have Ho := iD (GX.later hb');clear hb' DU FC GX;have DU := Hm; have FC := Ed; have GX := Ho;clear Hm Ed Ho
  go_wp2_with fail
  refine (vO UF UE Rs Su Rq Sr BA.heap.size BA.heap.size eT.s eT.s BA (FC.a.s) (GX.a.s) lR lR).mono ?_;rintro e Cy ⟨rfl, hb'⟩;rw [lF rfl];have Hm := iD (Od.later DU hb');have Ed := iD (FC.later hb'); have Ho := iD (GX.later hb');clear hb' DU FC GX;have DU := Hm; have FC := Ed; have GX := Ho;clear Hm Ed Ho;obtain ⟨p0, p1, p2⟩ := FC.b.d3;obtain ⟨r0, r1, r2⟩ := GX.b.d3
  go_wp2_with fail
  clear p0 p1 p2 r0 r1 r2 qI qN CK;refine (qK Ow Ou Ov Ot NY OO NU OL NW OM NT OJ eC eC eT.ls eT.ls eT.pr eT.pr Cy FC.a.l FC.a.p GX.a.l GX.a.p).mono ?_;rintro e Dw ⟨rfl, hb'⟩;rw [gS];have Oa := iD (Od.later DU hb');clear hb' FC GX DU
  go_wp2_with fail
  refine Handed.intro (3 - (v + 1)) (by omega) (Ch _ _ _ (xQ.back 203 ?_ (by kernel_rfl)));dsimp only [gt];exact ⟨v + 1, by go_num, by omega, rfl, Oa⟩
end Go.Proofs.YtddddlhgaeameaaGreatDoor
