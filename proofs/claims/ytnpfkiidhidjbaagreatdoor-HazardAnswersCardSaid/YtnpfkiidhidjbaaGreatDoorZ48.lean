import Derived.Test.YtnpfkiidhidjbaaGreatDoorZ39
import Derived.Test.YtnpfkiidhidjbaaGreatDoorZ40
import Derived.Test.YtnpfkiidhidjbaaGreatDoorZ43
import Derived.Test.YtnpfkiidhidjbaaGreatDoorZ46
import Derived.Test.YtnpfkiidhidjbaaGreatDoorZ37
import Derived.Test.YtnpfkiidhidjbaaGreatDoorZ17
import Derived.Test.YtnpfkiidhidjbaaGreatDoorZ47
/-
 HazardAnswers: its walk.
-/
namespace Go.Proofs.YtnpfkiidhidjbaaGreatDoor
open Go.RowKit
theorem run_store_gr (ρ : Operand → Value) (o : Oper) (x y : Operand) (w0 : World) (x7 : Nat) (co : Int) (Ag Ap : Option Addr) (mg cg np cp : Nat) (ho : o.op = .store 31 x y) (e7 : ρ x = .pointer (some ⟨x7, 0, none⟩)) (e39 : ρ y = .agg #[.int .i64 co, .slice Ag mg cg, .slice Ap np cp])
  (h : Blk w0 x7 31 #[.int .i64 0, .slice none 0 0, .slice none 0 0]) :
  (execOp ρ o).run Tryz.prog w0 = .ok .skip (((w0.setCell ⟨x7, 0, none⟩ (.int .i64 co)).setCell ⟨x7, 1, none⟩ (.slice Ag mg cg)).setCell ⟨x7, 2, none⟩ (.slice Ap np cp)) := by
 have a0 : w0.cell? ⟨x7, 0, none⟩ = some (.int .i64 0) := h.cell 0
 have a1 : w0.cell? ⟨x7, 1, none⟩ = some (.slice none 0 0) := h.cell 1
 have a2 : w0.cell? ⟨x7, 2, none⟩ = some (.slice none 0 0) := h.cell 2
 have a3 := h.frozen 0; have a4 := h.frozen 1; have a5 := h.frozen 2
 clear h
 unfold execOp
 rw [ho]
 simp only [e7, e39]
 go_simp
theorem own_ne_blk {w : World} {base size n c x : Nat} {e T : TypeId} {A : Option Addr} {xs : List Value} {cs : Array Value} (h : w.ownsRow base e size (.slice A n c) n xs) (hb : Blk w x T cs) (hne : e ≠ T) : ∀ b, (Value.slice A n c).ownBlock = some b → b ≠ x := by
 intro b hv hbx
 subst hbx
 rcases h.2 with ⟨h0, _⟩ | ⟨g, cap, cur, h0, _, hh, _⟩
 ·injection h0 with h1; subst h1; cases hv
 ·injection h0 with h1; subst h1
  have : g = b := by injection hv
  subst this
  unfold Blk at hb
  rw [hh] at hb
  injection hb with hb
  injection hb with _ hb
  exact hne hb
def GrB (W : World) (g : Nat) (W' : World) : Prop := DeckAt W' g ∧ W.grownBy W' (some g)
/-- What the calls gave: the locks, the ground with locks. -/
def GrF (W : World) (g : Nat) : List Value → World → Prop
 | [], W' => GrB W g W'
 | [v1], W' => GrB W g W' ∧ ∃ (Ag : Option Addr) (mg cg : Nat) (ls : List Lk), v1 = .slice Ag mg cg ∧ LocksO W' W.heap.size Ag mg cg ls
 | [v1, v2], W' => GrB W g W' ∧ ∃ (Ag : Option Addr) (mg cg : Nat) (ls : List Lk) (co : Int) (Ap : Option Addr) (np cp : Nat) (pr : List Int), v1 = .slice Ag mg cg ∧ v2 = .agg #[.int .i64 co, .slice Ag mg cg, .slice Ap np cp] ∧ (0 ≤ co ∧ co ≤ 7) ∧ LocksO W' W.heap.size Ag mg cg ls ∧ IntsO W' W.heap.size Ap np cp pr
 | _, _ => False
theorem GrB.alloc {W W' : World} {g : Nat} (h : GrB W g W') (o : Obj) : GrB W g (W'.alloc o) := ⟨h.1.alloc o, grown_trans h.2 (grown_of_below ((Below.refl _ _).alloc (Nat.le_refl _) o) _)⟩
theorem GrF.base {W W' : World} {g : Nat} : ∀ {vs : List Value}, GrF W g vs W' → GrB W g W'
 | [], h => h
 | [_], h => h.1
 | [_, _], h => h.1
 | _ :: _ :: _ :: _, h => h.elim
theorem GrF.alloc {W W' : World} {g : Nat} : ∀ {vs : List Value} (o : Obj), GrF W g vs W' → GrF W g vs (W'.alloc o)
 | [], o, h => GrB.alloc h o
 | [_], o, ⟨h, Ag, mg, cg, ls, e, h1⟩ => ⟨h.alloc o, Ag, mg, cg, ls, e, World.ownsRow.alloc h1 o⟩
 | [_, _], o, ⟨h, Ag, mg, cg, ls, co, Ap, np, cp, pr, e1, e2, hc, h1, h2⟩ => ⟨h.alloc o, Ag, mg, cg, ls, co, Ap, np, cp, pr, e1, e2, hc, World.ownsRow.alloc h1 o, World.ownsRow.alloc h2 o⟩
 | _ :: _ :: _ :: _, _, h => h.elim
theorem GrB.set {W W' : World} {g x : Nat} (h : GrB W g W') (hg : g < W.heap.size) (hx : W.heap.size ≤ x) (i : Nat) (u : Value) : GrB W g (W'.setCell ⟨x, i, none⟩ u) :=
 ⟨h.1.setCell (by simp only; omega) u, grown_set h.2 (by simp only; omega) u⟩
theorem own_set {w : World} {base size n c x : Nat} {e : TypeId} {A : Option Addr} {xs : List Value} (h : w.ownsRow base e size (.slice A n c) n xs) (hne : ∀ b, (Value.slice A n c).ownBlock = some b → b ≠ x) (i : Nat) (u : Value) : (w.setCell ⟨x, i, none⟩ u).ownsRow base e size (.slice A n c) n xs :=
 h.kept (grown_cell _ _ _) (ne_row hne)
def set3 (w : World) (x : Nat) (u0 u1 u2 : Value) : World := ((w.setCell ⟨x, 0, none⟩ u0).setCell ⟨x, 1, none⟩ u1).setCell ⟨x, 2, none⟩ u2
/-- The ground is laid into its box. -/
structure GrX1 (W : World) (g x7 : Nat) (Ag : Option Addr) (mg cg : Nat) (ls : List Lk) (co : Int) (Ap : Option Addr) (np cp : Nat) (pr : List Int) (W' : World) : Prop where
 b : GrB W g W'
 b7 : Blk W' x7 31 #[.int .i64 co, .slice Ag mg cg, .slice Ap np cp]
 hl : LocksO W' W.heap.size Ag mg cg ls
 hp : IntsO W' W.heap.size Ap np cp pr
theorem GrX1.of {W W' : World} {g x7 mg cg np cp : Nat} {Ag Ap : Option Addr} {ls : List Lk} {pr : List Int} (hB : GrB W g W') (h7 : Blk W' x7 31 #[.int .i64 0, .slice none 0 0, .slice none 0 0]) (hx7 : W.heap.size ≤ x7) (hg : g < W.heap.size)
  (hO : LocksO W' W.heap.size Ag mg cg ls) (hO2 : IntsO W' W.heap.size Ap np cp pr) (co : Int) : GrX1 W g x7 Ag mg cg ls co Ap np cp pr (set3 W' x7 (.int .i64 co) (.slice Ag mg cg) (.slice Ap np cp)) := by
 have n7 := own_ne_blk hO h7 (by decide)
 have p7 := own_ne_blk hO2 h7 (by decide)
 unfold set3
 exact ⟨(((hB.set hg hx7 _ _).set hg hx7 _ _).set hg hx7 _ _), ((h7.set 0 _).set 1 _).set 2 _, own_set (own_set (own_set hO n7 _ _) n7 _ _) n7 _ _, own_set (own_set (own_set hO2 p7 _ _) p7 _ _) p7 _ _⟩
/-- What the arguments are, in memory. -/
structure HaA (w : World) (A1 Ao Bo Al Ap A6 : Option Addr) (n1 c1 no co mo cbo nl cl np cp n6 c6 : Nat) (rs : List Int) (nso : List Nd) (dso : List Dv) (ls : List Lk) (pr bs : List Int) : Prop where
 r : Sl w w.heap.size 1 A1 n1 c1 (intsV rs)
 n : Sl w w.heap.size 3 Ao no co (nso.flatMap Nd.cells)
 d : Sl w w.heap.size 5 Bo mo cbo (dso.flatMap Dv.cells)
 l : Sl w w.heap.size 3 Al nl cl (ls.flatMap Lk.cells)
 p : Sl w w.heap.size 1 Ap np cp (intsV pr)
 b : Sl w w.heap.size 1 A6 n6 c6 (intsV bs)
theorem HaA.below {w W : World} {A1 Ao Bo Al Ap A6 : Option Addr} {n1 c1 no co mo cbo nl cl np cp n6 c6 : Nat} {rs : List Int} {nso : List Nd} {dso : List Dv} {ls : List Lk} {pr bs : List Int} (h : HaA w A1 Ao Bo Al Ap A6 n1 c1 no co mo cbo nl cl np cp n6 c6 rs nso dso ls pr bs) (hb : Below w.heap.size w W) : HaA W A1 Ao Bo Al Ap A6 n1 c1 no co mo cbo nl cl np cp n6 c6 rs nso dso ls pr bs :=
 ⟨(h.r.below hb (Nat.le_refl _)).more hb.size, (h.n.below hb (Nat.le_refl _)).more hb.size, (h.d.below hb (Nat.le_refl _)).more hb.size, (h.l.below hb (Nat.le_refl _)).more hb.size, (h.p.below hb (Nat.le_refl _)).more hb.size, (h.b.below hb (Nat.le_refl _)).more hb.size⟩
def HnR (M : World → Prop) (n gk : Nat) (iv : Value) (wr : World) : Prop := ∃ i : Nat, iv = .int .i64 i ∧ i ≤ n ∧ gk = n - i ∧ Hid (M wr)
theorem SlX.of_sl {w : World} {g size n c : Nat} {A : Option Addr} {xs : List Value} (h : Sl w g size A n c xs) (hg : g ≤ w.heap.size) (hn : 0 < n) : SlX w g size A n c xs :=
 ⟨h.more hg, fun b off e => by obtain ⟨b', off', e', hb, _⟩ := h.2.2.2.2 hn; rw [e] at e'; injection e' with e'; injection e' with e1 e2; omega⟩
set_option maxRecDepth 100000 in
set_option maxHeartbeats 4000000 in
theorem mkstate_nil (g : Nat) (An Ad : Option Addr) (nn cn cd : Nat) (w : World) (hd : DeckAt w g) :
  Calls Tryz.prog 13 #[.pointer (some ⟨g, 0, none⟩), .agg #[.slice An nn cn, .slice Ad 0 cd]] w (StatePost w g 0) := by
 have HD0 := Lib.hid (hd.alloc (.cells #[.slice An nn cn, .slice Ad 0 cd] 26))
 have HK0 := Lib.hid (Blk.new w 26 #[.slice An nn cn, .slice Ad 0 cd])
 have HB0 : Hid (w.grownBy (w.alloc (.cells #[.slice An nn cn, .slice Ad 0 cd] 26)) (some g)) := grown_of_below ((Below.refl _ _).alloc (Nat.le_refl _) _) _
 clear hd
 go_enter Tryz.func13, Tryz.ntmps13
 go_wp2_with fail
 generalize World.alloc _ _ = W at *
 go_loopg [5, 6] 0 (fun gk (ov iv : Value) wr => ov = .slice none 0 0 ∧ iv = .int .i64 0 ∧ gk = 0 ∧ wr = W)
 case atStart => exact ⟨rfl, rfl, rfl, rfl⟩
 case round =>
  obtain ⟨rfl, rfl, rfl, rfl⟩ := hrel
  have k1 : wr.cell? ⟨w.heap.size, 1, none⟩ = some (.slice Ad 0 cd) := HK0.out.cell 1
  go_wp2_with fail
  go_ret
  exact ⟨none, 0, [], rfl, HD0, HB0, World.ownsRow_nil _ _ _ _, fun p hp => by simp at hp⟩
theorem oddst_any (g : Nat) (An Ad : Option Addr) (nn cn nd cd : Nat) (ds : List Dv) (w : World) (hd : DeckAt w g) (hx : Sl w g 5 Ad nd cd (ds.flatMap Dv.cells)) (hnd : nd ≤ 1000) :
  Calls Tryz.prog 13 #[.pointer (some ⟨g, 0, none⟩), .agg #[.slice An nn cn, .slice Ad nd cd]] w (StatePost w g nd) := by
 rcases Nat.eq_zero_or_pos nd with rfl | h0
 ·exact mkstate_nil g An Ad nn cn cd w hd
 ·exact mkstate_any g An Ad nn cn nd cd ds w hd (SlX.of_sl hx (Nat.le_of_lt hd.lt) h0) hnd
set_option maxRecDepth 100000 in
set_option maxHeartbeats 32000000 in
theorem walkH_HazardAnswers (w : World) (hl : Laid w) (A : Option Addr) (n c : Nat) (zs : List Int) (hs : Sl w w.heap.size 1 A n c (intsV zs)) (_hz : ∀ z ∈ zs, (Lit.int .i64 z).wf = true)
  (A1 : Option Addr) (n1 c1 : Nat) (rs : List Int) (hs1 : Sl w w.heap.size 1 A1 n1 c1 (intsV rs)) (_hz1 : ∀ z ∈ rs, (Lit.int .i64 z).wf = true)
  (Ao Bo : Option Addr) (no co mo cbo : Nat) (nso : List Nd) (dso : List Dv) (hno : Sl w w.heap.size 3 Ao no co (nso.flatMap Nd.cells)) (hdo : Sl w w.heap.size 5 Bo mo cbo (dso.flatMap Dv.cells)) (hson : ∀ x ∈ nso, x.name.size ≤ 9223372036854775807) (hsod : ∀ x ∈ dso, x.name.size ≤ 9223372036854775807)
  (d p cg : Int) (Al Ap : Option Addr) (nl cl np cp : Nat) (ls : List Lk) (pr : List Int) (hgl : Sl w w.heap.size 3 Al nl cl (ls.flatMap Lk.cells)) (hgp : Sl w w.heap.size 1 Ap np cp (intsV pr)) (k : Int)
  (A6 : Option Addr) (n6 c6 : Nat) (bs : List Int) (hs6 : Sl w w.heap.size 1 A6 n6 c6 (intsV bs)) :
  Calls Tryz.prog 3 #[.slice A n c, .slice A1 n1 c1, .agg #[.slice Ao no co, .slice Bo mo cbo], .agg #[.int .i64 d, .int .i64 p], .agg #[.int .i64 cg, .slice Al nl cl, .slice Ap np cp], .int .i64 k, .slice A6 n6 c6] w fun e w' => e = .returned (.bool true) ∧ Below w.heap.size w w' := by
 have hnm := hs.le
 have hnm1 := hs1.le
 have hnml := hgl.le
 have hnmp := hgp.le
 have hnm6 := hs6.le
 have HB0 := Lib.hid (Bx3.new w #[.slice Ao no co, .slice Bo mo cbo] #[.int .i64 d, .int .i64 p] #[.int .i64 cg, .slice Al nl cl, .slice Ap np cp])
 have HLB := Lib.hid (hl.below HB0.out.bl (Nat.le_refl _))
 have HSB := Lib.hid ((hs.below HB0.out.bl (Nat.le_refl _)).more HB0.out.bl.size)
 have HAB := Lib.hid (HaA.below ⟨hs1, hno, hdo, hgl, hgp, hs6⟩ HB0.out.bl)
 have HNS := Lib.hid hson; have HDS := Lib.hid hsod
 have hz3 : (((w.alloc (.cells #[.slice Ao no co, .slice Bo mo cbo] 26)).alloc (.cells #[.int .i64 d, .int .i64 p] 28)).alloc (.cells #[.int .i64 cg, .slice Al nl cl, .slice Ap np cp] 31)).heap.size = w.heap.size + 3 := by simp
 clear hl hs _hz hs1 _hz1 hno hdo hson hsod hgl hgp hs6
 go_enter Tryz.func3, Tryz.ntmps3
 go_upto_region 1 with (fail)
 generalize World.alloc (World.alloc (World.alloc w _) _) _ = W at *
 have HF := Lib.hid (few_any A n c W (by omega))
 have HLT := Lib.hid (light_any Ao Bo no co mo cbo W.heap.size W.heap.size nso dso W HAB.out.n HAB.out.d (Nat.le_refl _) (Nat.le_refl _) HNS.out HDS.out)
 rcases hf : decide (n ≤ 400) with _ | _
 ·rw [hf] at HF
  clear hf HLT
  go_wp2_with fail
  refine HF.out.mono ?_
  rintro e w1 ⟨rfl, rfl⟩
  go_wp2_with fail
  refine (awake_any W HLB.out).mono ?_
  rintro e we ⟨rfl, hbe⟩
  go_wp2_with fail
  go_ret
  exact ⟨rfl, HB0.out.bl.trans (hbe.mono HB0.out.bl.size)⟩
 rw [hf] at HF
 clear hf
 go_wp2_with fail
 refine HF.out.mono ?_
 rintro e w1 ⟨rfl, rfl⟩
 clear HF
 by_cases hr : 100 < n1
 ·have q1 : decide (100 < n1) = true := by simpa using hr
  go_wp2_with fail
  refine (awake_any W HLB.out).mono ?_
  rintro e we ⟨rfl, hbe⟩
  go_wp2_with fail
  go_ret
  exact ⟨rfl, HB0.out.bl.trans (hbe.mono HB0.out.bl.size)⟩
 have q1 : decide (100 < n1) = false := by simpa using hr
 have k0 : W.cell? ⟨w.heap.size, 0, none⟩ = some (.slice Ao no co) := HB0.out.bn.cell 0
 have k1 : W.cell? ⟨w.heap.size, 1, none⟩ = some (.slice Bo mo cbo) := HB0.out.bn.cell 1
 go_wp2_with fail
 clear k0 k1 q1 hr
 rcases hlt : lightB nso dso no mo with _ | _
 ·rw [hlt] at HLT
  clear hlt
  refine HLT.out.mono ?_
  rintro e w1 ⟨rfl, hb1⟩
  have HB1 := Lib.hid (HB0.out.later hb1)
  have HL1 := Lib.hid (HLB.out.below hb1 (Nat.le_refl _))
  go_wp2_with fail
  refine (awake_any w1 HL1.out).mono ?_
  rintro e we ⟨rfl, hbe⟩
  go_wp2_with fail
  go_ret
  exact ⟨rfl, HB1.out.bl.trans (hbe.mono HB1.out.bl.size)⟩
 have hmo2 := lightB_le hlt
 rw [hlt] at HLT
 clear hlt
 refine HLT.out.mono ?_
 rintro e wA ⟨rfl, hb1⟩
 have HB1 := Lib.hid (HB0.out.later hb1)
 have HL1 := Lib.hid (HLB.out.below hb1 (Nat.le_refl _))
 have HS1 := Lib.hid ((HSB.out.below hb1 (Nat.le_refl _)).more hb1.size)
 have HA1 := Lib.hid (HAB.out.below hb1)
 clear HB0 HLB HSB HAB HLT hb1 hz3
 have g1 : wA.cell? ⟨w.heap.size + 2, 1, none⟩ = some (.slice Al nl cl) := HB1.out.bg.cell 1
 have g2 : wA.cell? ⟨w.heap.size + 2, 2, none⟩ = some (.slice Ap np cp) := HB1.out.bg.cell 2
 by_cases hr : 20 < nl
 ·have q1 : decide (20 < nl) = true := by simpa using hr
  go_wp2_with fail
  refine (awake_any wA HL1.out).mono ?_
  rintro e we ⟨rfl, hbe⟩
  go_wp2_with fail
  go_ret
  exact ⟨rfl, HB1.out.bl.trans (hbe.mono HB1.out.bl.size)⟩
 have q1 : decide (20 < nl) = false := by simpa using hr
 by_cases hr2 : 60 < np
 ·have q2 : decide (60 < np) = true := by simpa using hr2
  go_wp2_with fail
  refine (awake_any wA HL1.out).mono ?_
  rintro e we ⟨rfl, hbe⟩
  go_wp2_with fail
  go_ret
  exact ⟨rfl, HB1.out.bl.trans (hbe.mono HB1.out.bl.size)⟩
 have q2 : decide (60 < np) = false := by simpa using hr2
 by_cases hr3 : 20 < n6
 ·have q3 : decide (20 < n6) = true := by simpa using hr3
  go_wp2_with fail
  refine (awake_any wA HL1.out).mono ?_
  rintro e we ⟨rfl, hbe⟩
  go_wp2_with fail
  go_ret
  exact ⟨rfl, HB1.out.bl.trans (hbe.mono HB1.out.bl.size)⟩
 have q3 : decide (20 < n6) = false := by simpa using hr3
 go_wp2_with fail
 clear g1 g2 q1 q2 q3 hr hr2 hr3
 refine (new_any A n c wA.heap.size zs wA HS1.out (Nat.le_refl _)).mono ?_
 rintro e w1 ⟨rfl, hd1, hb1, hs1⟩
 go_wp2_with fail
 refine (mknet_any wA.heap.size 6 9 w1 hd1.out (by decide) (by decide)).mono ?_
 rintro e w2 ⟨An, nn, cn, ns, Ad, nd, cd, ds, rfl, hd2, hg2, hrn, hrd, hmade⟩
 have HMK := LwN.mk0 HL1.out hb1.out hs1.out hd2.out hg2.out hrn.out hrd.out hmade.out
 have HNN := Lib.hid HMK.2.1; have HND := Lib.hid HMK.2.2
 have HN3 := Lib.hid HMK.1
 have HMA := Lib.hid hmade.out
 have hnd : nd ≤ 9 := by have := hmade.out.dm; rw [HND.out] at this; omega
 have hnd1 : 1 ≤ nd := by have := hmade.out.d1; rw [HND.out] at this; omega
 have hnn : nn ≤ 6 := by have := hmade.out.nm; rw [HNN.out] at this; omega
 have HNM := Lib.hid HMA.out.names
 clear HMK hd1 hb1 hs1 hd2 hg2 hrn hrd hmade HS1
 go_wp2_with fail
 generalize World.alloc _ _ = w3 at *
 obtain ⟨nb, hnb⟩ : ∃ nb, nb = w2.heap.size := ⟨_, rfl⟩
 rw [← hnb] at HN3 ⊢
 clear hnb
 refine (mkmasks_any wA.heap.size An Ad nn cn nd cd 4 ds w3 HN3.out.dk HN3.out.hd (by omega) (by decide)).mono ?_
 rintro e w4 ⟨Am, cm, m, rfl, hd4, hg4, hO4, -, -⟩
 have HN4 := Lib.hid (HN3.out.grown HL1.out hg4.out hd4.out)
 have HX4 : Hid (SlX w4 wA.heap.size 1 Am nd cm (intsV m)) := SlX.of_own hO4.out (by have := HN3.out.bl.size; have := HN3.out.bx.lt; have := HN3.out.ge; omega)
 clear hd4 hg4 hO4 HN3
 go_wp2_with fail
 refine (within_any wA.heap.size Am nd cm m w4 HN4.out.dk HX4.out (by omega)).mono ?_
 rintro e w5 ⟨As, cs, s, rfl, hd5, hg5, hO5, -, -⟩
 have HN5 := Lib.hid (HN4.out.grown HL1.out hg5.out hd5.out)
 have HX5 := Lib.hid (HX4.out.grown hg5.out)
 have hw4 : wA.heap.size < w4.heap.size := HN4.out.dk.lt
 have HY5 : Hid (SlX w5 wA.heap.size 1 As nd cs (intsV s)) := SlX.of_own hO5.out hw4
 have hgW : wA.heap.size < w5.heap.size := hd5.out.lt
 clear hd5 hg5 hO5 HN4 HX4 hw4
 go_upto_region 7 with (fail)
 obtain ⟨M, hM⟩ : ∃ M : World → Prop, M = fun W' => (LwN wA nb An nn cn ns Ad nd cd ds W' ∧ SlX W' wA.heap.size 1 As nd cs (intsV s)) ∧ SlX W' wA.heap.size 1 Am nd cm (intsV m) := ⟨_, rfl⟩
 have HKM : Hid (Keep wA.heap.size M) := by unfold Hid; rw [hM]; exact ((Keep.lwn HL1.out).and Keep.slx).and Keep.slx
 have HAM : Hid (∀ W', M W' → (LwN wA nb An nn cn ns Ad nd cd ds W' ∧ SlX W' wA.heap.size 1 As nd cs (intsV s)) ∧ SlX W' wA.heap.size 1 Am nd cm (intsV m)) := fun W' h => by rw [hM] at h; exact h
 have HMW : Hid (M w5) := by unfold Hid; rw [hM]; exact ⟨⟨HN5.out, HY5.out⟩, HX5.out⟩
 have HDW := Lib.hid HN5.out.dk
 have HMD : Hid (∀ W', GrB w5 wA.heap.size W' → M W') := fun W' h => HKM.out.grown HMW.out h.2 h.1
 clear hM HN5 HX5 HY5
 refine wp_region_lat (S := fun W' => W'.cell? ⟨nb, 0, none⟩ = some (.slice An nn cn) ∧ W'.cell? ⟨nb, 1, none⟩ = some (.slice Ad nd cd)) (J := []) (n := _) ((0, true) :: (1, true) :: (2, true) :: (3, true) :: (4, true) :: []) ((8, false) :: []) [5, 6] [7] #[true, true, true, true, true, false, false, false, false] #[true, true, true, true, true, true, true, true, false] (by as_aux_lemma => kernel_rfl) (by rfl) (base_cons (k := 15) (by go_simp; rfl) (base_cons (k := 16) (by go_simp; rfl) (base_cons (k := 18) (by go_simp; rfl) base_nil))) ?_ (fun _ _ _ _ _ h => h) (fun Q2 A hsz hbase hn2 hHeld => ?_)
 ·exact ⟨(HAM.out _ HMW.out).1.1.bx.cell 0, (HAM.out _ HMW.out).1.1.bx.cell 1⟩
 try dsimp only at hHeld
 obtain ⟨b15, b16, b18, -⟩ := hbase
 refine ⟨LatP1 A [(95, .slice As nd cs), (94, .agg #[.slice An nn cn, .slice Ad nd cd]), (93, .pointer (some ⟨wA.heap.size, 0, none⟩)), (92, .agg #[.slice An nn cn, .slice Ad nd cd]), (91, .pointer (some ⟨wA.heap.size, 0, none⟩))] 7 19 w5.heap.size 31 #[.int .i64 0, .slice none 0 0, .slice none 0 0] [(5, 96), (6, 97)] (GrF w5 wA.heap.size), ?_, ?_, ?_, ?_⟩
 ·refine ord_move (i := 0) (d := 91) (v := ?_) rfl rfl rfl (wanted_none rfl) hHeld (fun ρ hρ => ?_) ?_
  rotate_left
  ·(have e15 := Eq.trans (hρ.tmp hsz 15 rfl) (lkp_base b15); exact e15)
  show wpOrd _ _ _ _ _ _ _ _
  refine ord_take (i := 1) (d := 92) (v := ?_) rfl rfl (wanted_none rfl) hHeld (fun ρ hρ w hSw => ?_) ?_
  rotate_left
  ·(have e16 := Eq.trans (hρ.tmp hsz 16 rfl) (miss1 rfl (lkp_base b16)); clear hρ; (try dsimp only at hSw); go_simp; try with_reducible rfl)
  show wpOrd _ _ _ _ _ _ _ _
  refine ord_move (i := 2) (d := 93) (v := ?_) rfl rfl rfl (wanted_none rfl) hHeld (fun ρ hρ => ?_) ?_
  rotate_left
  ·(have e15 := Eq.trans (hρ.tmp hsz 15 rfl) (miss1 rfl (miss1 rfl (lkp_base b15))); exact e15)
  show wpOrd _ _ _ _ _ _ _ _
  refine ord_take (i := 3) (d := 94) (v := ?_) rfl rfl (wanted_none rfl) hHeld (fun ρ hρ w hSw => ?_) ?_
  rotate_left
  ·(have e16 := Eq.trans (hρ.tmp hsz 16 rfl) (miss1 rfl (miss1 rfl (miss1 rfl (lkp_base b16)))); clear hρ; (try dsimp only at hSw); go_simp; try with_reducible rfl)
  show wpOrd _ _ _ _ _ _ _ _
  refine ord_move (i := 4) (d := 95) (v := ?_) rfl rfl rfl (wanted_none rfl) hHeld (fun ρ hρ => ?_) ?_
  rotate_left
  ·(have e18 := Eq.trans (hρ.tmp hsz 18 rfl) (miss4 rfl rfl rfl rfl (lkp_base b18)); exact e18)
  show wpOrd _ _ _ _ _ _ _ _
  exact lat_pre ⟨[], 0, rfl, by decide, by decide, rfl, ⟨HDW.out.drew, grown_drew (grown_refl _ _)⟩, (show LatMem1 w5.heap.size _ _ _ _ _ from LatMem1.start w5.drew 0)⟩
 ·intro c cs D a w0 h
  obtain ⟨vs, x7, hC, hnd, hDD, rfl, hf, hm⟩ := h
  rcases vs with _ | ⟨v1, _ | ⟨v2, _⟩⟩
  ·obtain ⟨rfl, rfl⟩ : c = 5 ∧ cs = [6] := by simpa using hC
   have hm0 := HMD.out _ hf
   have hle := hm.le
   refine lat_call (d := 96) (vs := #[.pointer (some ⟨wA.heap.size, 0, none⟩), .agg #[.slice An nn cn, .slice Ad nd cd], .slice As nd cs, .int .i64 3]) rfl rfl rfl rfl (fun ρ hρ => ?_) ?_ ?_
   ·(have hc := hρ.const; have e93 := Eq.trans (hρ.tmp hsz 93 rfl) (miss_opt rfl (miss1 rfl (miss1 rfl lkp_hit))); have e94 := Eq.trans (hρ.tmp hsz 94 rfl) (miss_opt rfl (miss1 rfl lkp_hit)); have e95 := Eq.trans (hρ.tmp hsz 95 rfl) (miss_opt rfl lkp_hit); simp only [List.map_toArray, List.map_cons, List.map_nil, e93, e94, e95, hc])
   ·(intro w; go_simp)
   refine (mklocks_any wA.heap.size An Ad As nn cn nd cd nd cs 3 ns ds s w0 hf.1 (HAM.out _ hm0).1.1.hn (HAM.out _ hm0).1.1.hd (HAM.out _ hm0).1.2 (by omega) (by decide) HNM.out.1 HNM.out.2).mono ?_
   rintro e w6 ⟨Ag, mg, cg2, lsg, rfl, hd6, hg6, hO6, -⟩
   have HB6 : GrB w5 wA.heap.size w6 := ⟨hd6.out, grown_trans hf.2 hg6.out⟩
   refine ⟨_, rfl, fun _ => ?_, [.slice Ag mg cg2], x7, rfl, hnd, hDD, lat_push1 A (by decide), ?_, hm.grown hg6.out hgW⟩
   ·exact ⟨(HAM.out _ (HMD.out _ HB6)).1.1.bx.cell 0, (HAM.out _ (HMD.out _ HB6)).1.1.bx.cell 1⟩
   ·exact ⟨HB6, Ag, mg, cg2, lsg, rfl, World.ownsRow.mono hO6.out (by omega)⟩
  ·obtain ⟨rfl, rfl⟩ : c = 6 ∧ cs = [] := by simpa using hC
   obtain ⟨hB, Ag, mg, cg2, lsg, rfl, hO⟩ := hf
   have hle := hm.le
   refine lat_call (d := 97) (vs := #[.pointer (some ⟨wA.heap.size, 0, none⟩), .agg #[.slice An nn cn, .slice Ad nd cd], .slice Ag mg cg2]) rfl rfl rfl rfl (fun ρ hρ => ?_) ?_ ?_
   ·(have e91 := Eq.trans (hρ.tmp hsz 91 rfl) (miss_opt rfl (miss1 rfl (miss1 rfl (miss1 rfl (miss1 rfl (miss1 rfl lkp_hit)))))); have e92 := Eq.trans (hρ.tmp hsz 92 rfl) (miss_opt rfl (miss1 rfl (miss1 rfl (miss1 rfl (miss1 rfl lkp_hit))))); have e96 := Eq.trans (hρ.tmp hsz 96 rfl) (miss_opt rfl lkp_hit); simp only [List.map_toArray, List.map_cons, List.map_nil, e91, e92, e96])
   ·(intro w; go_simp)
   refine (mkground_any wA.heap.size An Ad Ag nn cn nd cd mg cg2 w0 hB.1 (by omega)).mono ?_
   rintro e w6 ⟨gco, Ap2, np2, cp2, prg, rfl, hco, hd6, hg6, hO6, -⟩
   have HB6 : GrB w5 wA.heap.size w6 := ⟨hd6.out, grown_trans hB.2 hg6.out⟩
   refine ⟨_, rfl, fun _ => ?_, [.slice Ag mg cg2, .agg #[.int .i64 gco, .slice Ag mg cg2, .slice Ap2 np2 cp2]], x7, rfl, hnd, hDD, lat_push1 A (by decide), ?_, hm.grown hg6.out hgW⟩
   ·exact ⟨(HAM.out _ (HMD.out _ HB6)).1.1.bx.cell 0, (HAM.out _ (HMD.out _ HB6)).1.1.bx.cell 1⟩
   ·exact ⟨HB6, Ag, mg, cg2, lsg, gco, Ap2, np2, cp2, prg, rfl, rfl, hco, World.ownsRow.kept hO hg6.out (ne_row fun b e => by have := (World.ownsRow.lt hO b e).1; omega), hO6.out.mono hle⟩
  ·simp at hC
 ·exact fun C D i a w0 hi h => wpOp_mono (fun a1 w1 h1 => ⟨fun _ => (by obtain ⟨vs1, _, _, _, _, _, hf1, _⟩ := h1; exact ⟨(HAM.out _ (HMD.out _ (GrF.base hf1))).1.1.bx.cell 0, (HAM.out _ (HMD.out _ (GrF.base hf1))).1.1.bx.cell 1⟩), h1⟩) (LatP1.alloc (fun vs w2 o h => GrF.alloc o h) rfl rfl rfl (fun ρ w2 => by go_simp; rfl) i hi h)
 ·intro a w0 h
  obtain ⟨vs, x7, hC, -, -, rfl, hf, hm⟩ := h
  rcases vs with _ | ⟨v1, _ | ⟨v2, _ | ⟨v3, _⟩⟩⟩
  ·simp at hC
  ·simp at hC
  rotate_left
  ·exact hf.elim
  clear hC
  obtain ⟨hB, Ag, mg, cg2, lsg, gco, Ap2, np2, cp2, prg, rfl, rfl, hco, hO, hO2⟩ := hf
  have h7 := (hm.m7 rfl).1
  have hx7 := (hm.m7 rfl).2
  have HX := Lib.hid (GrX1.of hB h7 hx7 hgW hO hO2 gco)
  have HH7 := Lib.hid h7
  have HX7 := Lib.hid hx7
  clear hm hO hO2 h7 hx7
  show wpOrd _ _ _ _ _ _ (puts A [(19, ptr x7), (97, .agg #[.int .i64 gco, .slice Ag mg cg2, .slice Ap2 np2 cp2]), (96, .slice Ag mg cg2), (95, .slice As nd cs), (94, .agg #[.slice An nn cn, .slice Ad nd cd]), (93, .pointer (some ⟨wA.heap.size, 0, none⟩)), (92, .agg #[.slice An nn cn, .slice Ad nd cd]), (91, .pointer (some ⟨wA.heap.size, 0, none⟩))]) _
  refine ord_store (i := 8) (w' := ?_) rfl rfl (wanted_none rfl) (fun ρ hρ => ?_) (fun _ => ?_) ?_
  rotate_left
  ·(have e19 := Eq.trans (hρ.tmp hsz 19 rfl) lkp_hit; have e97 := Eq.trans (hρ.tmp hsz 97 rfl) (miss1 rfl lkp_hit); refine (run_store_gr ρ _ _ _ _ x7 gco Ag Ap2 mg cg2 np2 cp2 ?_ e19 e97 HH7.out); rfl)
  ·exact ⟨(HAM.out _ (HMD.out _ HX.out.b)).1.1.bx.cell 0, (HAM.out _ (HMD.out _ HX.out.b)).1.1.bx.cell 1⟩
  show wpOrd _ _ _ _ _ _ _ _
  refine ord_done hn2 ?_
  clear hn2 b15 b16 b18 hsz A Q2
  simp only [puts_nil, puts_cons, put_lit, set_1, set_0, ptr]
  have hX := HX.out
  unfold set3 at hX
  clear HX HH7 hB
  generalize World.setCell _ _ _ = WS at *
  have hge7 : w5.heap.size ≤ x7 := HX7.out
  obtain ⟨M0, hM0⟩ : ∃ M0 : World → Prop, M0 = fun W' => M W' ∧ Blk W' x7 31 #[.int .i64 gco, .slice Ag mg cg2, .slice Ap2 np2 cp2] ∧ SlX W' wA.heap.size 3 Ag mg cg2 (lsg.flatMap Lk.cells) ∧ SlX W' wA.heap.size 1 Ap2 np2 cp2 (intsV prg) := ⟨_, rfl⟩
  have HK0 : Hid (Keep wA.heap.size M0) := by unfold Hid; rw [hM0]; exact HKM.out.and ((Keep.blk (by omega)).and (Keep.slx.and Keep.slx))
  have HP0 : Hid (∀ W', M0 W' → M W' ∧ Blk W' x7 31 #[.int .i64 gco, .slice Ag mg cg2, .slice Ap2 np2 cp2] ∧ SlX W' wA.heap.size 3 Ag mg cg2 (lsg.flatMap Lk.cells) ∧ SlX W' wA.heap.size 1 Ap2 np2 cp2 (intsV prg)) := fun W' h => by rw [hM0] at h; exact h
  have HM0 : Hid (M0 WS) := by unfold Hid; rw [hM0]; exact ⟨HMD.out _ hX.b, hX.b7, SlX.of_own hX.hl hgW, SlX.of_own hX.hp hgW⟩
  have HQA : Hid (∀ W', M0 W' → HaA W' A1 Ao Bo Al Ap A6 n1 c1 no co mo cbo nl cl np cp n6 c6 rs nso dso ls pr bs) := fun W' h => HA1.out.below (HAM.out _ (HP0.out _ h).1).1.1.bl
  have HQB : Hid (∀ W', M0 W' → Bx3 w #[.slice Ao no co, .slice Bo mo cbo] #[.int .i64 d, .int .i64 p] #[.int .i64 cg, .slice Al nl cl, .slice Ap np cp] W') := fun W' h => HB1.out.later (HAM.out _ (HP0.out _ h).1).1.1.bl
  have HQN : Hid (∀ W', M0 W' → LwN wA nb An nn cn ns Ad nd cd ds W') := fun W' h => (HAM.out _ (HP0.out _ h).1).1.1
  have HQM : Hid (∀ W', M0 W' → Sl W' W'.heap.size 1 Am nd cm (intsV m)) := fun W' h => (HAM.out _ (HP0.out _ h).1).2.1
  have HQS : Hid (∀ W', M0 W' → Sl W' W'.heap.size 1 As nd cs (intsV s)) := fun W' h => (HAM.out _ (HP0.out _ h).1).1.2.1
  have hge : wA.heap.size < x7 := by omega
  clear hM0 HMD HKM HMW HDW hX hgW hge7
  have k0 : WS.cell? ⟨nb, 0, none⟩ = some (.slice An nn cn) := (HQN.out _ HM0.out).bx.cell 0
  have k1 : WS.cell? ⟨nb, 1, none⟩ = some (.slice Ad nd cd) := (HQN.out _ HM0.out).bx.cell 1
  have b0 : WS.cell? ⟨w.heap.size, 0, none⟩ = some (.slice Ao no co) := (HQB.out _ HM0.out).bn.cell 0
  have b1 : WS.cell? ⟨w.heap.size, 1, none⟩ = some (.slice Bo mo cbo) := (HQB.out _ HM0.out).bn.cell 1
  go_upto_region 9 with (fail)
  clear k0 k1 b0 b1
  have HU0 : Hid (∀ W', M0 W' → LwN wA nb An nn cn ns Ad nd cd ds W' ∧ M0 W') := fun W' h => ⟨HQN.out _ h, h⟩
  have HV := Lib.hid (Blk.new WS 26 #[.slice An nn cn, .slice Ad nd cd, .slice Ao no co, .slice Bo mo cbo])
  have HMv := Lib.hid (HK0.out.later HM0.out ((Below.refl _ _).alloc (Nat.le_refl _) (.cells #[.slice An nn cn, .slice Ad nd cd, .slice Ao no co, .slice Bo mo cbo] 26)))
  have hne : WS.heap.size ≠ wA.heap.size := by have := (HU0.out _ HM0.out).1; have := this.dk.lt; omega
  clear HM0
  obtain ⟨sb, hbn⟩ : ∃ x, x = WS.heap.size := ⟨_, rfl⟩
  rw [← hbn] at HV hne ⊢
  clear hbn
  generalize World.alloc WS _ = W9 at *
  obtain ⟨M1, hM1⟩ : ∃ M1 : World → Prop, M1 = fun W' => M0 W' ∧ Blk W' sb 26 #[.slice An nn cn, .slice Ad nd cd, .slice Ao no co, .slice Bo mo cbo] := ⟨_, rfl⟩
  have HK1 : Hid (Keep wA.heap.size M1) := by unfold Hid; rw [hM1]; exact HK0.out.and (Keep.blk hne)
  have HP1 : Hid (∀ W', M1 W' → M0 W' ∧ Blk W' sb 26 #[.slice An nn cn, .slice Ad nd cd, .slice Ao no co, .slice Bo mo cbo]) := fun W' h => by rw [hM1] at h; exact h
  have HU1 : Hid (∀ W', M1 W' → LwN wA nb An nn cn ns Ad nd cd ds W' ∧ M0 W') := fun W' h => HU0.out _ (HP1.out _ h).1
  have HM1 : Hid (M1 W9) := by unfold Hid; rw [hM1]; exact ⟨HMv.out, HV.out⟩
  clear hM1 HMv HV hne
  refine wp_loop_u1 [(13, 0), (0, 1), (5, 0), (0, 1), (0, 0), (0, 1), (0, 0), (0, 1), (0, 0), (22, 1), (51, 0), (0, 2), (181, 1), (0, 0)] 102 (2) (HnR M1 2) (by (try dsimp only [gt]); exact ⟨0, rfl, Nat.zero_le _, rfl, HM1⟩) (by kernel_rfl) ?_
  intro u1 p102 gk wa a hrel ha J1 K1 hJ1 hK1
  dsimp only [relaxR, Go.Proofs.YtnpfkiidhidjbaaGreatDoor.v1, Nat.reduceAdd] at ha
  subst ha
  clear HM1 W9
  obtain ⟨i, rfl, hi, rfl, HM1⟩ := hrel
  by_cases hi2 : i < 2; rotate_left
  ·obtain rfl : i = 2 := by omega
   go_wp2_with fail
   refine (awake_any wa (HU1.out _ HM1.out).1.la).mono ?_
   rintro e we ⟨rfl, hbe⟩
   go_wp2_with fail
   go_ret
   exact ⟨rfl, (HQB.out _ (HU1.out _ HM1.out).2).bl.trans (hbe.mono (HQB.out _ (HU1.out _ HM1.out).2).bl.size)⟩
  have hiI : (i : Int) < 2 := by omega
  obtain ⟨Ax, nx, cx, Bx, mx, cbx, nsx, dsx, hx0, hx1, HNX, HNT⟩ : ∃ (Ax : Option Addr) (nx cx : Nat) (Bx : Option Addr) (mx cbx : Nat) (nsx : List Nd) (dsx : List Dv), wa.cell? ⟨sb, i * 2, none⟩ = some (.slice Ax nx cx) ∧ wa.cell? ⟨sb, i * 2 + 1, none⟩ = some (.slice Bx mx cbx) ∧ Hid ((∀ W', M0 W' → Sl W' W'.heap.size 3 Ax nx cx (nsx.flatMap Nd.cells) ∧ Sl W' W'.heap.size 5 Bx mx cbx (dsx.flatMap Dv.cells)) ∧ (∀ x ∈ nsx, x.name.size ≤ 9223372036854775807) ∧ (∀ x ∈ dsx, x.name.size ≤ 9223372036854775807)) ∧ Hid (∀ W', M0 W' → Calls Tryz.prog 13 #[.pointer (some ⟨wA.heap.size, 0, none⟩), .agg #[.slice Ax nx cx, .slice Bx mx cbx]] W' (StatePost W' wA.heap.size mx)) := by
   rcases (show i = 0 ∨ i = 1 by omega) with rfl | rfl
   ·exact ⟨An, nn, cn, Ad, nd, cd, ns, ds, (HP1.out _ HM1.out).2.cell 0, (HP1.out _ HM1.out).2.cell 1, ⟨fun W' h => ⟨(HQN.out _ h).hn.1, (HQN.out _ h).hd.1⟩, HNM.out.1, HNM.out.2⟩, fun W' h => mkstate_any wA.heap.size An Ad nn cn nd cd ds W' (HQN.out _ h).dk (HQN.out _ h).hd (by omega)⟩
   ·exact ⟨Ao, no, co, Bo, mo, cbo, nso, dso, (HP1.out _ HM1.out).2.cell 2, (HP1.out _ HM1.out).2.cell 3, ⟨fun W' h => ⟨(HQA.out _ h).n, (HQA.out _ h).d⟩, HNS.out, HDS.out⟩, fun W' h => oddst_any wA.heap.size Ao Bo no co mo cbo dso W' (HQN.out _ h).dk (HA1.out.d.below (HQN.out _ h).bl (Nat.le_refl _)) (by omega)⟩
  go_upto_region 11 with (fail)
  clear hx0 hx1
  have HV := Lib.hid (Blk.new wa 26 #[.slice Ax nx cx, .slice Bx mx cbx])
  have HMv := Lib.hid (HK1.out.later HM1.out ((Below.refl _ _).alloc (Nat.le_refl _) (.cells #[.slice Ax nx cx, .slice Bx mx cbx] 26)))
  have hne : wa.heap.size ≠ wA.heap.size := by have := (HU1.out _ HM1.out).1; have := this.dk.lt; omega
  clear HM1
  obtain ⟨xb, hbn⟩ : ∃ x, x = wa.heap.size := ⟨_, rfl⟩
  rw [← hbn] at HV hne ⊢
  clear hbn
  generalize World.alloc wa _ = W10 at *
  obtain ⟨M2, hM2⟩ : ∃ M2 : World → Prop, M2 = fun W' => M1 W' ∧ Blk W' xb 26 #[.slice Ax nx cx, .slice Bx mx cbx] := ⟨_, rfl⟩
  have HK2 : Hid (Keep wA.heap.size M2) := by unfold Hid; rw [hM2]; exact HK1.out.and (Keep.blk hne)
  have HP2 : Hid (∀ W', M2 W' → M1 W' ∧ Blk W' xb 26 #[.slice Ax nx cx, .slice Bx mx cbx]) := fun W' h => by rw [hM2] at h; exact h
  have HU2 : Hid (∀ W', M2 W' → LwN wA nb An nn cn ns Ad nd cd ds W' ∧ M0 W') := fun W' h => HU1.out _ (HP2.out _ h).1
  have HM2 : Hid (M2 W10) := by unfold Hid; rw [hM2]; exact ⟨HMv.out, HV.out⟩
  clear hM2 HMv HV hne
  have k0 : W10.cell? ⟨xb, 0, none⟩ = some (.slice Ax nx cx) := (HP2.out _ HM2.out).2.cell 0
  have k1 : W10.cell? ⟨xb, 1, none⟩ = some (.slice Bx mx cbx) := (HP2.out _ HM2.out).2.cell 1
  go_wp2_with fail
  clear k0 k1
  refine (HNT.out _ (HU2.out _ HM2.out).2).mono ?_
  rintro e W11 ⟨Ay, cy, sy, rfl, hdy, hgy, hOy, -⟩
  have HEX0 : Hid (SlX W11 wA.heap.size 1 Ay mx cy (intsV sy)) := SlX.of_own hOy.out (by have := (HU2.out _ HM2.out).1.dk.lt; omega)
  have HMg := Lib.hid (HK2.out.grown HM2.out hgy.out hdy.out)
  clear HM2 hdy hgy hOy HNT
  have HM2 := HMg
  clear HMg
  go_upto_region 12 with (fail)
  have HV := Lib.hid (Blk.new W11 22 #[.slice Am nd cm, .slice As nd cs, .slice A1 n1 c1, .slice Ay mx cy])
  have HMv := Lib.hid (HK2.out.later HM2.out ((Below.refl _ _).alloc (Nat.le_refl _) (.cells #[.slice Am nd cm, .slice As nd cs, .slice A1 n1 c1, .slice Ay mx cy] 22)))
  have hne : W11.heap.size ≠ wA.heap.size := by have := (HU2.out _ HM2.out).1; have := this.dk.lt; omega
  have HEX := Lib.hid (Keep.later (Keep.slx (g := wA.heap.size)) HEX0.out ((Below.refl _ _).alloc (Nat.le_refl _) (.cells #[.slice Am nd cm, .slice As nd cs, .slice A1 n1 c1, .slice Ay mx cy] 22)))
  clear HM2
  obtain ⟨yb, hbn⟩ : ∃ x, x = W11.heap.size := ⟨_, rfl⟩
  rw [← hbn] at HV hne ⊢
  clear hbn
  generalize World.alloc W11 _ = W12 at *
  obtain ⟨M3, hM3⟩ : ∃ M3 : World → Prop, M3 = fun W' => M2 W' ∧ Blk W' yb 22 #[.slice Am nd cm, .slice As nd cs, .slice A1 n1 c1, .slice Ay mx cy] ∧ SlX W' wA.heap.size 1 Ay mx cy (intsV sy) := ⟨_, rfl⟩
  have HK3 : Hid (Keep wA.heap.size M3) := by unfold Hid; rw [hM3]; exact HK2.out.and ((Keep.blk hne).and Keep.slx)
  have HP3 : Hid (∀ W', M3 W' → M2 W' ∧ Blk W' yb 22 #[.slice Am nd cm, .slice As nd cs, .slice A1 n1 c1, .slice Ay mx cy] ∧ SlX W' wA.heap.size 1 Ay mx cy (intsV sy)) := fun W' h => by rw [hM3] at h; exact h
  have HU3 : Hid (∀ W', M3 W' → LwN wA nb An nn cn ns Ad nd cd ds W' ∧ M0 W') := fun W' h => HU2.out _ (HP3.out _ h).1
  have HM3 : Hid (M3 W12) := by unfold Hid; rw [hM3]; exact ⟨HMv.out, HV.out, HEX.out⟩
  clear hM3 HMv HV hne HEX HEX0
  refine wp_loop_u1 [(13, 0), (0, 1), (7, 0), (0, 1), (0, 0), (0, 1), (0, 0), (22, 1), (63, 0), (0, 2), (168, 1), (1, 0)] 114 (4) (HnR M3 4) (by (try dsimp only [gt]); exact ⟨0, rfl, Nat.zero_le _, rfl, HM3⟩) (by kernel_rfl) ?_
  intro u2 p114 gk wb a hrel ha J2 K2 hJ2 hK2
  dsimp only [relaxR, Go.Proofs.YtnpfkiidhidjbaaGreatDoor.v1, Nat.reduceAdd] at ha
  subst ha
  clear HM3 W12
  obtain ⟨j, rfl, hj, rfl, HM3⟩ := hrel
  by_cases hj2 : j < 4; rotate_left
  ·obtain rfl : j = 4 := by omega
   have HMb := Lib.hid (HP2.out _ (HP3.out _ HM3.out).1).1
   go_wp2_with fail
   refine Handed.intro (2 - (i + 1)) (by omega) (hJ1 _ _ _ (LpI1.back 102 ?_ (by kernel_rfl)))
   dsimp only [gt]
   exact ⟨i + 1, by go_num, by omega, rfl, HMb⟩
  have hjI : (j : Int) < 4 := by omega
  obtain ⟨Az, nz, cz, zl, hz0, HZL⟩ : ∃ (Az : Option Addr) (nz cz : Nat) (zl : List Int), wb.cell? ⟨yb, j, none⟩ = some (.slice Az nz cz) ∧ Hid (∀ W', M3 W' → Sl W' W'.heap.size 1 Az nz cz (intsV zl)) := by
   have hc := (HP3.out _ HM3.out).2.1
   rcases (show j = 0 ∨ j = 1 ∨ j = 2 ∨ j = 3 by omega) with rfl | rfl | rfl | rfl
   ·exact ⟨Am, nd, cm, m, hc.cell 0, fun W' h => HQM.out _ (HU3.out _ h).2⟩
   ·exact ⟨As, nd, cs, s, hc.cell 1, fun W' h => HQS.out _ (HU3.out _ h).2⟩
   ·exact ⟨A1, n1, c1, rs, hc.cell 2, fun W' h => (HQA.out _ (HU3.out _ h).2).r⟩
   ·exact ⟨Ay, mx, cy, sy, hc.cell 3, fun W' h => (HP3.out _ h).2.2.1⟩
  go_upto_region 14 with (fail)
  clear hz0
  have HC3 : Hid (∀ W', M3 W' → (W'.cell? ⟨w.heap.size + 1, 0, none⟩ = some (.int .i64 d) ∧ W'.cell? ⟨w.heap.size + 1, 1, none⟩ = some (.int .i64 p)) ∧ W'.cell? ⟨nb, 0, none⟩ = some (.slice An nn cn) ∧ W'.cell? ⟨nb, 1, none⟩ = some (.slice Ad nd cd)) := fun W' h => ⟨⟨(HQB.out _ (HU3.out _ h).2).bo.cell 0, (HQB.out _ (HU3.out _ h).2).bo.cell 1⟩, (HU3.out _ h).1.bx.cell 0, (HU3.out _ h).1.bx.cell 1⟩
  have HMD := Lib.hid (Keep.drew HK3.out HM3.out)
  clear HM3
  refine wp_region_ord (S := M3) (J := []) (n := _) ((0, true) :: (1, true) :: (2, true) :: (4, true) :: (5, true) :: (9, true) :: (3, false) :: (6, false) :: (7, false) :: (8, true) :: []) (by as_aux_lemma => kernel_rfl) (by rfl) (base_cons (k := 10) (by go_simp; rfl) (base_cons (k := 15) (by go_simp; rfl) (base_cons (k := 16) (by go_simp; rfl) base_nil))) ?_ (fun _ _ _ _ _ h => h) (fun Q2 A hsz hbase hn2 hHeld => ?_)
  ·exact HMD.out
  try dsimp only at hHeld
  obtain ⟨b10, b15, b16, -⟩ := hbase
  refine ord_take (i := 0) (d := 118) (v := ?_) rfl rfl (wanted_none rfl) hHeld (fun ρ hρ w hSw => ?_) ?_
  rotate_left
  ·(have e10 := Eq.trans (hρ.tmp hsz 10 rfl) (lkp_base b10); clear hρ; (try dsimp only at hSw); have q := HC3.out _ hSw; have o0 := q.1.1; have o1 := q.1.2; clear q hSw; go_simp; try with_reducible rfl)
  show wpOrd _ _ _ _ _ _ _ _
  refine ord_move (i := 1) (d := 119) (v := ?_) rfl rfl rfl (wanted_none rfl) hHeld (fun ρ hρ => ?_) ?_
  rotate_left
  ·(have e15 := Eq.trans (hρ.tmp hsz 15 rfl) (miss1 rfl (lkp_base b15)); exact e15)
  show wpOrd _ _ _ _ _ _ _ _
  refine ord_take (i := 2) (d := 120) (v := ?_) rfl rfl (wanted_none rfl) hHeld (fun ρ hρ w hSw => ?_) ?_
  rotate_left
  ·(have e16 := Eq.trans (hρ.tmp hsz 16 rfl) (miss1 rfl (miss1 rfl (lkp_base b16))); clear hρ; (try dsimp only at hSw); have q := HC3.out _ hSw; have o0 := q.2.1; have o1 := q.2.2; clear q hSw; go_simp; try with_reducible rfl)
  show wpOrd _ _ _ _ _ _ _ _
  refine ord_move (i := 4) (d := 122) (v := ?_) rfl rfl rfl (wanted_none rfl) hHeld (fun ρ hρ => ?_) ?_
  rotate_left
  ·(have e15 := Eq.trans (hρ.tmp hsz 15 rfl) (miss1 rfl (miss1 rfl (miss1 rfl (lkp_base b15)))); exact e15)
  show wpOrd _ _ _ _ _ _ _ _
  refine ord_take (i := 5) (d := 123) (v := ?_) rfl rfl (wanted_none rfl) hHeld (fun ρ hρ w hSw => ?_) ?_
  rotate_left
  ·(have e16 := Eq.trans (hρ.tmp hsz 16 rfl) (miss4 rfl rfl rfl rfl (lkp_base b16)); clear hρ; (try dsimp only at hSw); have q := HC3.out _ hSw; have o0 := q.2.1; have o1 := q.2.2; clear q hSw; go_simp; try with_reducible rfl)
  show wpOrd _ _ _ _ _ _ _ _
  refine ord_move (i := 9) (d := 127) (v := ?_) rfl rfl rfl (wanted_none rfl) hHeld (fun ρ hρ => ?_) ?_
  rotate_left
  ·exact hρ.const _
  show wpOrd _ _ _ _ _ _ _ _
  refine ord_call (i := 3) (d := 121) (vs := ?_) rfl rfl rfl (wanted_none rfl) (fun ρ hρ => ?_) ?_ ?_
  rotate_left
  ·(have e119 := Eq.trans (hρ.tmp hsz 119 rfl) (miss4 rfl rfl rfl rfl lkp_hit); have e120 := Eq.trans (hρ.tmp hsz 120 rfl) (miss1 rfl (miss1 rfl (miss1 rfl lkp_hit))); simp only [List.map_toArray, List.map_cons, List.map_nil, e119, e120]; try with_reducible rfl)
  ·(intro w; go_simp)
  refine (mkop_any wA.heap.size An Ad nn cn nd cd wb.drew (HU3.out _ HMD.out).1.dk (by omega) (by omega)).mono ?_
  rintro e w14 ⟨d1, p1, rfl, -, -, hd1, hg1⟩
  have HM14 := Lib.hid (HK3.out.grown HMD.out hg1.out hd1.out)
  clear hd1 hg1 HMD
  refine ⟨_, rfl, fun _ => ?_, fun hHeld' => ?_⟩
  ·exact HM14.out
  replace hHeld := hHeld' rfl
  clear hHeld'
  try dsimp only at hHeld
  show wpOrd _ _ _ _ _ _ _ _
  refine ord_call (i := 6) (d := 124) (vs := ?_) rfl rfl rfl (wanted_none rfl) (fun ρ hρ => ?_) ?_ ?_
  rotate_left
  ·(have e122 := Eq.trans (hρ.tmp hsz 122 rfl) (miss1 rfl (miss1 rfl (miss1 rfl lkp_hit))); have e123 := Eq.trans (hρ.tmp hsz 123 rfl) (miss1 rfl (miss1 rfl lkp_hit)); simp only [List.map_toArray, List.map_cons, List.map_nil, e122, e123]; try with_reducible rfl)
  ·(intro w; go_simp)
  refine (mkop_any wA.heap.size An Ad nn cn nd cd w14 (HU3.out _ HM14.out).1.dk (by omega) (by omega)).mono ?_
  rintro e w15 ⟨d2, p2, rfl, -, -, hd1, hg1⟩
  have HM3 := Lib.hid (HK3.out.grown HM14.out hg1.out hd1.out)
  clear hd1 hg1 HM14
  refine ⟨_, rfl, fun _ => ?_, fun hHeld' => ?_⟩
  ·exact HM3.out
  replace hHeld := hHeld' rfl
  clear hHeld'
  try dsimp only at hHeld
  show wpOrd _ _ _ _ _ _ _ _
  refine ord_run (i := 7) (d := 125) (v := ?_) (w' := ?_) rfl rfl (wanted_none rfl) (fun ρ hρ => ?_) ?_ ?_
  rotate_left 2
  ·(have e118 := Eq.trans (hρ.tmp hsz 118 rfl) (miss4 rfl rfl rfl rfl (miss1 rfl (miss1 rfl (miss1 rfl lkp_hit)))); have e121 := Eq.trans (hρ.tmp hsz 121 rfl) (miss1 rfl lkp_hit); have e124 := Eq.trans (hρ.tmp hsz 124 rfl) lkp_hit; clear hρ; go_simp; first | with_reducible rfl | (constructor <;> with_reducible rfl))
  ·refine fun _ => ?_
   exact HK3.out.later HM3.out ((Below.refl _ _).alloc (Nat.le_refl _) _)
  intro hHeld'
  replace hHeld := hHeld' rfl
  clear hHeld'
  try dsimp only at hHeld
  show wpOrd _ _ _ _ _ _ _ _
  refine ord_take (i := 8) (d := 126) (v := ?_) rfl rfl (wanted_none rfl) hHeld (fun ρ hρ w hSw => ?_) ?_
  rotate_left
  ·(have e125 := Eq.trans (hρ.tmp hsz 125 rfl) lkp_hit; clear hρ; (try dsimp only at hSw); go_simp; try with_reducible rfl)
  show wpOrd _ _ _ _ _ _ _ _
  refine ord_done hn2 ?_
  clear hHeld hn2 b10 b15 b16 hsz A Q2
  simp only [puts_nil, puts_cons, put_lit, set_1, set_0]
  go_upto_region 15 with (fail)
  have HV := Lib.hid (Blk.new w15 28 #[.int .i64 d, .int .i64 p, .int .i64 d1, .int .i64 p1, .int .i64 d2, .int .i64 p2])
  have HMv := Lib.hid (HK3.out.later HM3.out ((Below.refl _ _).alloc (Nat.le_refl _) (.cells #[.int .i64 d, .int .i64 p, .int .i64 d1, .int .i64 p1, .int .i64 d2, .int .i64 p2] 28)))
  have hne : w15.heap.size ≠ wA.heap.size := by have := (HU3.out _ HM3.out).1; have := this.dk.lt; omega
  clear HM3
  obtain ⟨ob, hbn⟩ : ∃ x, x = w15.heap.size := ⟨_, rfl⟩
  rw [← hbn] at HV hne ⊢
  clear hbn
  generalize World.alloc w15 _ = W16 at *
  obtain ⟨M4, hM4⟩ : ∃ M4 : World → Prop, M4 = fun W' => M3 W' ∧ Blk W' ob 28 #[.int .i64 d, .int .i64 p, .int .i64 d1, .int .i64 p1, .int .i64 d2, .int .i64 p2] := ⟨_, rfl⟩
  have HK4 : Hid (Keep wA.heap.size M4) := by unfold Hid; rw [hM4]; exact HK3.out.and (Keep.blk hne)
  have HP4 : Hid (∀ W', M4 W' → M3 W' ∧ Blk W' ob 28 #[.int .i64 d, .int .i64 p, .int .i64 d1, .int .i64 p1, .int .i64 d2, .int .i64 p2]) := fun W' h => by rw [hM4] at h; exact h
  have HU4 : Hid (∀ W', M4 W' → LwN wA nb An nn cn ns Ad nd cd ds W' ∧ M0 W') := fun W' h => HU3.out _ (HP4.out _ h).1
  have HM4 : Hid (M4 W16) := by unfold Hid; rw [hM4]; exact ⟨HMv.out, HV.out⟩
  clear hM4 HMv HV hne
  refine wp_loop_u1 [(13, 0), (0, 1), (9, 0), (0, 1), (0, 0), (22, 1), (76, 0), (0, 2), (154, 1), (2, 0)] 127 (3) (HnR M4 3) (by (try dsimp only [gt]); exact ⟨0, rfl, Nat.zero_le _, rfl, HM4⟩) (by kernel_rfl) ?_
  intro u3 p127 gk wc a hrel ha J3 K3 hJ3 hK3
  dsimp only [relaxR, Go.Proofs.YtnpfkiidhidjbaaGreatDoor.v1, Nat.reduceAdd] at ha
  subst ha
  clear HM4 W16
  obtain ⟨q, rfl, hq, rfl, HM4⟩ := hrel
  by_cases hq2 : q < 3; rotate_left
  ·obtain rfl : q = 3 := by omega
   have HMb := Lib.hid (HP4.out _ HM4.out).1
   go_wp2_with fail
   refine Handed.intro (4 - (j + 1)) (by omega) (hJ2 _ _ _ (LpI1.back 114 ?_ (by kernel_rfl)))
   dsimp only [gt]
   exact ⟨j + 1, by go_num, by omega, rfl, HMb⟩
  have hqI : (q : Int) < 3 := by omega
  obtain ⟨dx, px, hd0, hp0⟩ : ∃ dx px : Int, wc.cell? ⟨ob, q * 2, none⟩ = some (.int .i64 dx) ∧ wc.cell? ⟨ob, q * 2 + 1, none⟩ = some (.int .i64 px) := by
   have hc := (HP4.out _ HM4.out).2
   rcases (show q = 0 ∨ q = 1 ∨ q = 2 by omega) with rfl | rfl | rfl
   ·exact ⟨d, p, hc.cell 0, hc.cell 1⟩
   ·exact ⟨d1, p1, hc.cell 2, hc.cell 3⟩
   ·exact ⟨d2, p2, hc.cell 4, hc.cell 5⟩
  go_upto_region 17 with (fail)
  clear hd0 hp0
  have HV := Lib.hid (Blk.new wc 28 #[.int .i64 dx, .int .i64 px])
  have HMv := Lib.hid (HK4.out.later HM4.out ((Below.refl _ _).alloc (Nat.le_refl _) (.cells #[.int .i64 dx, .int .i64 px] 28)))
  have hne : wc.heap.size ≠ wA.heap.size := by have := (HU4.out _ HM4.out).1; have := this.dk.lt; omega
  clear HM4
  obtain ⟨o2, hbn⟩ : ∃ x, x = wc.heap.size := ⟨_, rfl⟩
  rw [← hbn] at HV hne ⊢
  clear hbn
  generalize World.alloc wc _ = W17 at *
  obtain ⟨M5, hM5⟩ : ∃ M5 : World → Prop, M5 = fun W' => M4 W' ∧ Blk W' o2 28 #[.int .i64 dx, .int .i64 px] := ⟨_, rfl⟩
  have HK5 : Hid (Keep wA.heap.size M5) := by unfold Hid; rw [hM5]; exact HK4.out.and (Keep.blk hne)
  have HP5 : Hid (∀ W', M5 W' → M4 W' ∧ Blk W' o2 28 #[.int .i64 dx, .int .i64 px]) := fun W' h => by rw [hM5] at h; exact h
  have HU5 : Hid (∀ W', M5 W' → LwN wA nb An nn cn ns Ad nd cd ds W' ∧ M0 W') := fun W' h => HU4.out _ (HP5.out _ h).1
  have HM5 : Hid (M5 W17) := by unfold Hid; rw [hM5]; exact ⟨HMv.out, HV.out⟩
  clear hM5 HMv HV hne
  have g0 : W17.cell? ⟨x7, 0, none⟩ = some (.int .i64 gco) := (HP0.out _ (HU5.out _ HM5.out).2).2.1.cell 0
  have g1 : W17.cell? ⟨x7, 1, none⟩ = some (.slice Ag mg cg2) := (HP0.out _ (HU5.out _ HM5.out).2).2.1.cell 1
  have g2 : W17.cell? ⟨x7, 2, none⟩ = some (.slice Ap2 np2 cp2) := (HP0.out _ (HU5.out _ HM5.out).2).2.1.cell 2
  have b0 : W17.cell? ⟨w.heap.size + 2, 0, none⟩ = some (.int .i64 cg) := (HQB.out _ (HU5.out _ HM5.out).2).bg.cell 0
  have b1 : W17.cell? ⟨w.heap.size + 2, 1, none⟩ = some (.slice Al nl cl) := (HQB.out _ (HU5.out _ HM5.out).2).bg.cell 1
  have b2 : W17.cell? ⟨w.heap.size + 2, 2, none⟩ = some (.slice Ap np cp) := (HQB.out _ (HU5.out _ HM5.out).2).bg.cell 2
  go_upto_region 18 with (fail)
  clear g0 g1 g2 b0 b1 b2
  have HV := Lib.hid (Blk.new W17 31 #[.int .i64 gco, .slice Ag mg cg2, .slice Ap2 np2 cp2, .int .i64 cg, .slice Al nl cl, .slice Ap np cp])
  have HMv := Lib.hid (HK5.out.later HM5.out ((Below.refl _ _).alloc (Nat.le_refl _) (.cells #[.int .i64 gco, .slice Ag mg cg2, .slice Ap2 np2 cp2, .int .i64 cg, .slice Al nl cl, .slice Ap np cp] 31)))
  have hne : W17.heap.size ≠ wA.heap.size := by have := (HU5.out _ HM5.out).1; have := this.dk.lt; omega
  clear HM5
  obtain ⟨zb, hbn⟩ : ∃ x, x = W17.heap.size := ⟨_, rfl⟩
  rw [← hbn] at HV hne ⊢
  clear hbn
  generalize World.alloc W17 _ = W18 at *
  obtain ⟨M6, hM6⟩ : ∃ M6 : World → Prop, M6 = fun W' => M5 W' ∧ Blk W' zb 31 #[.int .i64 gco, .slice Ag mg cg2, .slice Ap2 np2 cp2, .int .i64 cg, .slice Al nl cl, .slice Ap np cp] := ⟨_, rfl⟩
  have HK6 : Hid (Keep wA.heap.size M6) := by unfold Hid; rw [hM6]; exact HK5.out.and (Keep.blk hne)
  have HP6 : Hid (∀ W', M6 W' → M5 W' ∧ Blk W' zb 31 #[.int .i64 gco, .slice Ag mg cg2, .slice Ap2 np2 cp2, .int .i64 cg, .slice Al nl cl, .slice Ap np cp]) := fun W' h => by rw [hM6] at h; exact h
  have HU6 : Hid (∀ W', M6 W' → LwN wA nb An nn cn ns Ad nd cd ds W' ∧ M0 W') := fun W' h => HU5.out _ (HP6.out _ h).1
  have HM6 : Hid (M6 W18) := by unfold Hid; rw [hM6]; exact ⟨HMv.out, HV.out⟩
  clear hM6 HMv HV hne
  refine wp_loop_u1 [(13, 0), (0, 1), (11, 0), (18, 1), (88, 0), (0, 2), (121, 1), (27, 0)] 135 (2) (HnR M6 2) (by (try dsimp only [gt]); exact ⟨0, rfl, Nat.zero_le _, rfl, HM6⟩) (by kernel_rfl) ?_
  intro u4 p135 gk wd a hrel ha J4 K4 hJ4 hK4
  dsimp only [relaxR, Go.Proofs.YtnpfkiidhidjbaaGreatDoor.v1, Nat.reduceAdd] at ha
  subst ha
  clear HM6 W18
  obtain ⟨z, rfl, hz, rfl, HM6⟩ := hrel
  by_cases hz2 : z < 2; rotate_left
  ·obtain rfl : z = 2 := by omega
   have HZ : Hid (∀ W', M6 W' → HzMem W' Ax Bx Az none none nx cx mx cbx nz cz 0 0 0 0 nsx dsx zl [] []) := fun W' h => ⟨(HNX.out.1 _ (HU6.out _ h).2).1, (HNX.out.1 _ (HU6.out _ h).2).2, HZL.out _ (HP4.out _ (HP5.out _ (HP6.out _ h).1).1).1, Sl.nil _ _ _, Sl.nil _ _ _, (HU6.out _ h).1.la, HNX.out.2.1, HNX.out.2.2⟩
   have HC6 : Hid (∀ W', M6 W' → (W'.cell? ⟨xb, 0, none⟩ = some (.slice Ax nx cx) ∧ W'.cell? ⟨xb, 1, none⟩ = some (.slice Bx mx cbx)) ∧ W'.cell? ⟨o2, 0, none⟩ = some (.int .i64 dx)) := fun W' h => ⟨⟨(HP2.out _ (HP3.out _ (HP4.out _ (HP5.out _ (HP6.out _ h).1).1).1).1).2.cell 0, (HP2.out _ (HP3.out _ (HP4.out _ (HP5.out _ (HP6.out _ h).1).1).1).1).2.cell 1⟩, (HP5.out _ (HP6.out _ h).1).2.cell 0⟩
   obtain ⟨⟨k0, k1⟩, o0⟩ := HC6.out _ HM6.out
   go_wp2_with fail
   clear k0 k1 o0
   refine (Fault_any Ax Bx Az nx cx mx cbx nz cz nsx dsx zl dx wd (HZ.out _ HM6.out)).mono ?_
   intro e W33 hpost
   obtain ⟨ba, ea, rfl, hL, hb⟩ := FaultPost.two hpost
   have HMW := Lib.hid (HK6.out.later HM6.out hb.out)
   have HLf := hL
   clear HM6 hpost hL hb
   obtain ⟨⟨k0, k1⟩, o0⟩ := HC6.out _ HMW.out
   go_wp2_with fail
   clear k0 k1 o0
   refine (rFault_any Ax Bx Az nx cx mx cbx nz cz nsx dsx zl dx W33 (HZ.out _ HMW.out)).mono ?_
   intro e W34 hpost
   obtain ⟨bb, eb, rfl, hL, hb⟩ := FaultPost.two hpost
   obtain ⟨rfl, rfl⟩ := FaQ.same HLf.out hL.out
   have HMb := Lib.hid (HP5.out _ (HP6.out _ (HK6.out.later HMW.out hb.out)).1).1
   clear HMW hpost hL hb HLf
   have qS : (ba != ba) = false := by simp
   have qM : (ea != ea) = false := by simp
   go_wp2_with fail
   refine Handed.intro (3 - (q + 1)) (by omega) (hJ3 _ _ _ (LpI1.back 127 ?_ (by kernel_rfl)))
   dsimp only [gt]
   exact ⟨q + 1, by go_num, by omega, rfl, HMb⟩
  have hzI : (z : Int) < 2 := by omega
  obtain ⟨cz0, Alz, nlz, clz, lsz, Apz, npz, cpz, prz, hg0, hg1, hg2, HGZ⟩ : ∃ (cz0 : Int) (Alz : Option Addr) (nlz clz : Nat) (lsz : List Lk) (Apz : Option Addr) (npz cpz : Nat) (prz : List Int), wd.cell? ⟨zb, z * 3, none⟩ = some (.int .i64 cz0) ∧ wd.cell? ⟨zb, z * 3 + 1, none⟩ = some (.slice Alz nlz clz) ∧ wd.cell? ⟨zb, z * 3 + 2, none⟩ = some (.slice Apz npz cpz) ∧ Hid (∀ W', M0 W' → Sl W' W'.heap.size 3 Alz nlz clz (lsz.flatMap Lk.cells) ∧ Sl W' W'.heap.size 1 Apz npz cpz (intsV prz)) := by
   have hc := (HP6.out _ HM6.out).2
   rcases (show z = 0 ∨ z = 1 by omega) with rfl | rfl
   ·exact ⟨gco, Ag, mg, cg2, lsg, Ap2, np2, cp2, prg, hc.cell 0, hc.cell 1, hc.cell 2, fun W' h => ⟨(HP0.out _ h).2.2.1.1, (HP0.out _ h).2.2.2.1⟩⟩
   ·exact ⟨cg, Al, nl, cl, ls, Ap, np, cp, pr, hc.cell 3, hc.cell 4, hc.cell 5, fun W' h => ⟨(HQA.out _ h).l, (HQA.out _ h).p⟩⟩
  go_upto_region 20 with (fail)
  clear hg0 hg1 hg2
  have HV := Lib.hid (Blk.new wd 31 #[.int .i64 cz0, .slice Alz nlz clz, .slice Apz npz cpz])
  have HMv := Lib.hid (HK6.out.later HM6.out ((Below.refl _ _).alloc (Nat.le_refl _) (.cells #[.int .i64 cz0, .slice Alz nlz clz, .slice Apz npz cpz] 31)))
  have hne : wd.heap.size ≠ wA.heap.size := by have := (HU6.out _ HM6.out).1; have := this.dk.lt; omega
  clear HM6
  obtain ⟨zx, hbn⟩ : ∃ x, x = wd.heap.size := ⟨_, rfl⟩
  rw [← hbn] at HV hne ⊢
  clear hbn
  generalize World.alloc wd _ = W20 at *
  obtain ⟨M7, hM7⟩ : ∃ M7 : World → Prop, M7 = fun W' => M6 W' ∧ Blk W' zx 31 #[.int .i64 cz0, .slice Alz nlz clz, .slice Apz npz cpz] := ⟨_, rfl⟩
  have HK7 : Hid (Keep wA.heap.size M7) := by unfold Hid; rw [hM7]; exact HK6.out.and (Keep.blk hne)
  have HP7 : Hid (∀ W', M7 W' → M6 W' ∧ Blk W' zx 31 #[.int .i64 cz0, .slice Alz nlz clz, .slice Apz npz cpz]) := fun W' h => by rw [hM7] at h; exact h
  have HU7 : Hid (∀ W', M7 W' → LwN wA nb An nn cn ns Ad nd cd ds W' ∧ M0 W') := fun W' h => HU6.out _ (HP7.out _ h).1
  have HM7 : Hid (M7 W20) := by unfold Hid; rw [hM7]; exact ⟨HMv.out, HV.out⟩
  clear hM7 HMv HV hne
  have HZ : Hid (∀ W', M7 W' → HzMem W' Ax Bx Az Alz Apz nx cx mx cbx nz cz nlz clz npz cpz nsx dsx zl lsz prz) := fun W' h => ⟨(HNX.out.1 _ (HU7.out _ h).2).1, (HNX.out.1 _ (HU7.out _ h).2).2, HZL.out _ (HP4.out _ (HP5.out _ (HP6.out _ (HP7.out _ h).1).1).1).1, (HGZ.out _ (HU7.out _ h).2).1, (HGZ.out _ (HU7.out _ h).2).2, (HU7.out _ h).1.la, HNX.out.2.1, HNX.out.2.2⟩
  have HC7 : Hid (∀ W', M7 W' → (W'.cell? ⟨xb, 0, none⟩ = some (.slice Ax nx cx) ∧ W'.cell? ⟨xb, 1, none⟩ = some (.slice Bx mx cbx)) ∧ (W'.cell? ⟨o2, 0, none⟩ = some (.int .i64 dx) ∧ W'.cell? ⟨o2, 1, none⟩ = some (.int .i64 px)) ∧ W'.cell? ⟨zx, 0, none⟩ = some (.int .i64 cz0) ∧ W'.cell? ⟨zx, 1, none⟩ = some (.slice Alz nlz clz) ∧ W'.cell? ⟨zx, 2, none⟩ = some (.slice Apz npz cpz)) := fun W' h => ⟨⟨(HP2.out _ (HP3.out _ (HP4.out _ (HP5.out _ (HP6.out _ (HP7.out _ h).1).1).1).1).1).2.cell 0, (HP2.out _ (HP3.out _ (HP4.out _ (HP5.out _ (HP6.out _ (HP7.out _ h).1).1).1).1).1).2.cell 1⟩, ⟨(HP5.out _ (HP6.out _ (HP7.out _ h).1).1).2.cell 0, (HP5.out _ (HP6.out _ (HP7.out _ h).1).1).2.cell 1⟩, (HP7.out _ h).2.cell 0, (HP7.out _ h).2.cell 1, (HP7.out _ h).2.cell 2⟩
  have HMW := HM7
  clear HM7
  obtain ⟨⟨k0, k1⟩, ⟨o0, o1⟩, g0, g1, g2⟩ := HC7.out _ HMW.out
  go_wp2_with fail
  clear k0 k1 o0 o1 g0 g1 g2
  refine (In_any Ax Bx Az Alz Apz nx cx mx cbx nz cz nlz clz npz cpz nsx dsx zl lsz prz dx px cz0 W20 (HZ.out _ HMW.out)).mono ?_
  intro e W21 hpost
  obtain ⟨Aia, nia, cia, lia, rfl, hS, hL, hb⟩ := InPost.two hpost
  have HMn := Lib.hid (HK7.out.later HMW.out hb.out)
  clear HMW hb
  have HMW := HMn
  clear HMn
  have HSia := hS
  clear hS
  have HLia := hL
  clear hL
  obtain ⟨⟨k0, k1⟩, ⟨o0, o1⟩, g0, g1, g2⟩ := HC7.out _ HMW.out
  go_wp2_with fail
  clear k0 k1 o0 o1 g0 g1 g2
  refine (rIn_any Ax Bx Az Alz Apz nx cx mx cbx nz cz nlz clz npz cpz nsx dsx zl lsz prz dx px cz0 W21 (HZ.out _ HMW.out)).mono ?_
  intro e W22 hpost
  obtain ⟨Aib, nib, cib, lib, rfl, hS, hL, hb⟩ := InPost.two hpost
  have HMn := Lib.hid (HK7.out.later HMW.out hb.out)
  have HSian := Lib.hid ((HSia.out.below hb.out (Nat.le_refl _)).more hb.out.size)
  clear HMW hb HSia
  have HMW := HMn
  clear HMn
  have HSia := HSian
  clear HSian
  have HSib := hS
  clear hS
  obtain rfl := InQ.same HLia.out hL.out
  clear HLia hL
  obtain ⟨⟨k0, k1⟩, ⟨o0, o1⟩, g0, g1, g2⟩ := HC7.out _ HMW.out
  go_wp2_with fail
  clear k0 k1 o0 o1 g0 g1 g2
  refine (May_any Ax Bx Az Alz Apz nx cx mx cbx nz cz nlz clz npz cpz nsx dsx zl lsz prz dx px cz0 W22 (HZ.out _ HMW.out)).mono ?_
  intro e W23 hpost
  obtain ⟨Ama, nma, cma, lma, rfl, hS, hL, hb⟩ := MayPost.two hpost
  have HMn := Lib.hid (HK7.out.later HMW.out hb.out)
  have HSian := Lib.hid ((HSia.out.below hb.out (Nat.le_refl _)).more hb.out.size)
  have HSibn := Lib.hid ((HSib.out.below hb.out (Nat.le_refl _)).more hb.out.size)
  clear HMW hb HSia HSib
  have HMW := HMn
  clear HMn
  have HSia := HSian
  clear HSian
  have HSib := HSibn
  clear HSibn
  have HSma := hS
  clear hS
  have HLma := hL
  clear hL
  obtain ⟨⟨k0, k1⟩, ⟨o0, o1⟩, g0, g1, g2⟩ := HC7.out _ HMW.out
  go_wp2_with fail
  clear k0 k1 o0 o1 g0 g1 g2
  refine (rMay_any Ax Bx Az Alz Apz nx cx mx cbx nz cz nlz clz npz cpz nsx dsx zl lsz prz dx px cz0 W23 (HZ.out _ HMW.out)).mono ?_
  intro e W24 hpost
  obtain ⟨Amb, nmb, cmb, lmb, rfl, hS, hL, hb⟩ := MayPost.two hpost
  have HMn := Lib.hid (HK7.out.later HMW.out hb.out)
  have HSian := Lib.hid ((HSia.out.below hb.out (Nat.le_refl _)).more hb.out.size)
  have HSibn := Lib.hid ((HSib.out.below hb.out (Nat.le_refl _)).more hb.out.size)
  have HSman := Lib.hid ((HSma.out.below hb.out (Nat.le_refl _)).more hb.out.size)
  clear HMW hb HSia HSib HSma
  have HMW := HMn
  clear HMn
  have HSia := HSian
  clear HSian
  have HSib := HSibn
  clear HSibn
  have HSma := HSman
  clear HSman
  have HSmb := hS
  clear hS
  obtain rfl := MayQ.same HLma.out hL.out
  clear HLma hL
  obtain ⟨⟨k0, k1⟩, ⟨o0, o1⟩, g0, g1, g2⟩ := HC7.out _ HMW.out
  go_wp2_with fail
  clear k0 k1 o0 o1 g0 g1 g2
  refine (Safe_any Ax Bx Az Alz Apz A6 nx cx mx cbx nz cz nlz clz npz cpz n6 c6 nsx dsx zl lsz prz bs dx px cz0 W24 (HZ.out _ HMW.out) (HQA.out _ (HU7.out _ HMW.out).2).b).mono ?_
  intro e W25 hpost
  obtain ⟨sa, rfl, hL, hb⟩ := SafePost.two hpost
  have HMn := Lib.hid (HK7.out.later HMW.out hb.out)
  have HSian := Lib.hid ((HSia.out.below hb.out (Nat.le_refl _)).more hb.out.size)
  have HSibn := Lib.hid ((HSib.out.below hb.out (Nat.le_refl _)).more hb.out.size)
  have HSman := Lib.hid ((HSma.out.below hb.out (Nat.le_refl _)).more hb.out.size)
  have HSmbn := Lib.hid ((HSmb.out.below hb.out (Nat.le_refl _)).more hb.out.size)
  clear HMW hb HSia HSib HSma HSmb
  have HMW := HMn
  clear HMn
  have HSia := HSian
  clear HSian
  have HSib := HSibn
  clear HSibn
  have HSma := HSman
  clear HSman
  have HSmb := HSmbn
  clear HSmbn
  have HLs := hL
  clear hL
  obtain ⟨⟨k0, k1⟩, ⟨o0, o1⟩, g0, g1, g2⟩ := HC7.out _ HMW.out
  go_wp2_with fail
  clear k0 k1 o0 o1 g0 g1 g2
  refine (rSafe_any Ax Bx Az Alz Apz A6 nx cx mx cbx nz cz nlz clz npz cpz n6 c6 nsx dsx zl lsz prz bs dx px cz0 W25 (HZ.out _ HMW.out) (HQA.out _ (HU7.out _ HMW.out).2).b).mono ?_
  intro e W26 hpost
  obtain ⟨sq, rfl, hL, hb⟩ := SafePost.two hpost
  have HMn := Lib.hid (HK7.out.later HMW.out hb.out)
  have HSian := Lib.hid ((HSia.out.below hb.out (Nat.le_refl _)).more hb.out.size)
  have HSibn := Lib.hid ((HSib.out.below hb.out (Nat.le_refl _)).more hb.out.size)
  have HSman := Lib.hid ((HSma.out.below hb.out (Nat.le_refl _)).more hb.out.size)
  have HSmbn := Lib.hid ((HSmb.out.below hb.out (Nat.le_refl _)).more hb.out.size)
  clear HMW hb HSia HSib HSma HSmb
  have HMW := HMn
  clear HMn
  have HSia := HSian
  clear HSian
  have HSib := HSibn
  clear HSibn
  have HSma := HSman
  clear HSman
  have HSmb := HSmbn
  clear HSmbn
  obtain rfl := SafeQ.same HLs.out hL.out
  clear HLs hL
  obtain ⟨eI, hEI⟩ : ∃ x, x = inErr nsx dsx zl dx px cz0 := ⟨_, rfl⟩
  obtain ⟨eM, hEM⟩ : ∃ x, x = stsErr nsx dsx zl dx px cz0 := ⟨_, rfl⟩
  rw [← hEI, ← hEM]
  have HEM := Lib.hid hEM
  clear hEI hEM
  have qI : (eI != eI) = false := by simp
  have qM : (eM != eM) = false := by simp
  have qS : (sa != sa) = false := by simp
  go_wp2_with fail
  clear qI qS
  refine (ints_any Aia Aib nia cia nib cib W26.heap.size W26.heap.size lia lia W26 HSia.out HSib.out (Nat.le_refl _) (Nat.le_refl _)).mono ?_
  rintro e W27 ⟨rfl, hb'⟩
  have hb := Lib.hid hb'
  clear hb'
  clear HSia HSib
  have HMn := Lib.hid (HK7.out.later HMW.out hb.out)
  have HSman := Lib.hid ((HSma.out.below hb.out (Nat.le_refl _)).more hb.out.size)
  have HSmbn := Lib.hid ((HSmb.out.below hb.out (Nat.le_refl _)).more hb.out.size)
  clear HMW hb HSma HSmb
  have HMW := HMn
  clear HMn
  have HSma := HSman
  clear HSman
  have HSmb := HSmbn
  clear HSmbn
  rw [decide_eq_true rfl]
  go_wp2_with fail
  refine (ints_any Ama Amb nma cma nmb cmb W27.heap.size W27.heap.size lma lma W27 HSma.out HSmb.out (Nat.le_refl _) (Nat.le_refl _)).mono ?_
  rintro e W28 ⟨rfl, hb'⟩
  have hb := Lib.hid hb'
  clear hb' HSma HSmb
  have HMn := Lib.hid (HK7.out.later HMW.out hb.out)
  clear HMW hb
  have HMW := HMn
  clear HMn
  rw [decide_eq_true rfl]
  go_upto_region 28 with (fail)
  have HMD := Lib.hid (Keep.drew HK7.out HMW.out)
  clear HMW
  refine wp_region_ord (S := M7) (J := []) (n := _) ((0, true) :: (1, true) :: (2, true) :: (3, true) :: (4, true) :: (5, false) :: (6, true) :: (7, false) :: (8, true) :: (9, true) :: (10, true) :: (11, true) :: (12, true) :: (13, true) :: (14, true) :: []) (by as_aux_lemma => kernel_rfl) (by rfl) (base_cons (k := 21) (by go_simp; rfl) (base_cons (k := 23) (by go_simp; rfl) (base_cons (k := 25) (by go_simp; rfl) (base_cons (k := 27) (by go_simp; rfl) (base_cons (k := 5) (by go_simp; rfl) base_nil))))) ?_ (fun _ _ _ _ _ h => h) (fun Q2 A hsz hbase hn2 hHeld => ?_)
  ·exact HMD.out
  try dsimp only at hHeld
  obtain ⟨b21, b23, b25, b27, b5, -⟩ := hbase
  refine ord_take (i := 0) (d := 220) (v := ?_) rfl rfl (wanted_none rfl) hHeld (fun ρ hρ w hSw => ?_) ?_
  rotate_left
  ·(have e21 := Eq.trans (hρ.tmp hsz 21 rfl) (lkp_base b21); clear hρ; (try dsimp only at hSw); have q := (HC7.out _ hSw).1; have k0 := q.1; have k1 := q.2; clear q hSw; go_simp; try with_reducible rfl)
  show wpOrd _ _ _ _ _ _ _ _
  refine ord_move (i := 1) (d := 221) (v := ?_) rfl rfl rfl (wanted_none rfl) hHeld (fun ρ hρ => ?_) ?_
  rotate_left
  ·(have e23 := Eq.trans (hρ.tmp hsz 23 rfl) (miss1 rfl (lkp_base b23)); exact e23)
  show wpOrd _ _ _ _ _ _ _ _
  refine ord_take (i := 2) (d := 222) (v := ?_) rfl rfl (wanted_none rfl) hHeld (fun ρ hρ w hSw => ?_) ?_
  rotate_left
  ·(have e25 := Eq.trans (hρ.tmp hsz 25 rfl) (miss1 rfl (miss1 rfl (lkp_base b25))); clear hρ; (try dsimp only at hSw); have q := (HC7.out _ hSw).2.1; have k0 := q.1; have k1 := q.2; clear q hSw; go_simp; try with_reducible rfl)
  show wpOrd _ _ _ _ _ _ _ _
  refine ord_take (i := 3) (d := 223) (v := ?_) rfl rfl (wanted_none rfl) hHeld (fun ρ hρ w hSw => ?_) ?_
  rotate_left
  ·(have e27 := Eq.trans (hρ.tmp hsz 27 rfl) (miss1 rfl (miss1 rfl (miss1 rfl (lkp_base b27)))); clear hρ; (try dsimp only at hSw); have q := (HC7.out _ hSw).2.2; have k0 := q.1; have k1 := q.2.1; have k2 := q.2.2; clear q hSw; go_simp; try with_reducible rfl)
  show wpOrd _ _ _ _ _ _ _ _
  refine ord_move (i := 4) (d := 224) (v := ?_) rfl rfl rfl (wanted_none rfl) hHeld (fun ρ hρ => ?_) ?_
  rotate_left
  ·(have e5 := Eq.trans (hρ.tmp hsz 5 rfl) (miss4 rfl rfl rfl rfl (lkp_base b5)); exact e5)
  show wpOrd _ _ _ _ _ _ _ _
  refine ord_call (i := 5) (d := 225) (vs := ?_) rfl rfl rfl (wanted_none rfl) (fun ρ hρ => ?_) ?_ ?_
  rotate_left
  ·(have hc := hρ.const; have e224 := Eq.trans (hρ.tmp hsz 224 rfl) lkp_hit; simp only [List.map_toArray, List.map_cons, List.map_nil, e224, hc]; try with_reducible rfl)
  ·(intro w; go_simp)
  refine (mod_is k 11 W28.drew (by decide) (by decide)).mono ?_
  rintro e w29 ⟨rfl, rfl⟩
  refine ⟨_, rfl, fun _ => ?_, fun hHeld' => ?_⟩
  ·exact HMD.out
  replace hHeld := hHeld' rfl
  clear hHeld'
  try dsimp only at hHeld
  show wpOrd _ _ _ _ _ _ _ _
  refine ord_take (i := 6) (d := 226) (v := ?_) rfl rfl (wanted_none rfl) hHeld (fun ρ hρ w hSw => ?_) ?_
  rotate_left
  ·(have hc := hρ.const; have e225 := Eq.trans (hρ.tmp hsz 225 rfl) lkp_hit; clear hρ; (try dsimp only at hSw); clear hSw; go_simp; try with_reducible rfl)
  show wpOrd _ _ _ _ _ _ _ _
  refine ord_call (i := 7) (d := 227) (vs := ?_) rfl rfl rfl (wanted_none rfl) (fun ρ hρ => ?_) ?_ ?_
  rotate_left
  ·(have e220 := Eq.trans (hρ.tmp hsz 220 rfl) (miss4 rfl rfl rfl rfl (miss1 rfl (miss1 rfl lkp_hit))); have e221 := Eq.trans (hρ.tmp hsz 221 rfl) (miss4 rfl rfl rfl rfl (miss1 rfl lkp_hit)); have e222 := Eq.trans (hρ.tmp hsz 222 rfl) (miss4 rfl rfl rfl rfl lkp_hit); have e223 := Eq.trans (hρ.tmp hsz 223 rfl) (miss1 rfl (miss1 rfl (miss1 rfl lkp_hit))); have e226 := Eq.trans (hρ.tmp hsz 226 rfl) lkp_hit; simp only [List.map_toArray, List.map_cons, List.map_nil, e220, e221, e222, e223, e226]; try with_reducible rfl)
  ·(intro w; go_simp)
  refine (Witness_any Ax Bx Az Alz Apz nx cx mx cbx nz cz nlz clz npz cpz nsx dsx zl lsz prz dx px cz0 _ W28.drew (HZ.out _ HMD.out)).mono ?_
  intro e W29 hpost
  obtain ⟨Awa, nwa, cwa, lwa, bwa, rfl, hS, hL, hb⟩ := WitPost.three hpost
  have HMW := Lib.hid (HK7.out.later HMD.out hb.out)
  have HSwa := hS
  have HLw := hL
  clear hS hL hb hpost HMD
  refine ⟨_, rfl, fun _ => ?_, fun hHeld' => ?_⟩
  ·exact HMW.out
  replace hHeld := hHeld' rfl
  clear hHeld'
  try dsimp only at hHeld
  show wpOrd _ _ _ _ _ _ _ _
  refine ord_move (i := 8) (d := 219) (v := ?_) rfl rfl rfl (wanted_none rfl) hHeld (fun ρ hρ => ?_) ?_
  rotate_left
  ·(have e227 := Eq.trans (hρ.tmp hsz 227 rfl) lkp_hit; exact e227)
  show wpOrd _ _ _ _ _ _ _ _
  refine ord_take (i := 9) (d := 228) (v := ?_) rfl rfl (wanted_none rfl) hHeld (fun ρ hρ w hSw => ?_) ?_
  rotate_left
  ·(have e219 := Eq.trans (hρ.tmp hsz 219 rfl) lkp_hit; clear hρ; (try dsimp only at hSw); go_simp; try with_reducible rfl)
  show wpOrd _ _ _ _ _ _ _ _
  refine ord_take (i := 10) (d := 229) (v := ?_) rfl rfl (wanted_none rfl) hHeld (fun ρ hρ w hSw => ?_) ?_
  rotate_left
  ·(have e219 := Eq.trans (hρ.tmp hsz 219 rfl) (miss1 rfl lkp_hit); clear hρ; (try dsimp only at hSw); go_simp; try with_reducible rfl)
  show wpOrd _ _ _ _ _ _ _ _
  refine ord_take (i := 11) (d := 230) (v := ?_) rfl rfl (wanted_none rfl) hHeld (fun ρ hρ w hSw => ?_) ?_
  rotate_left
  ·(have e219 := Eq.trans (hρ.tmp hsz 219 rfl) (miss1 rfl (miss1 rfl lkp_hit)); clear hρ; (try dsimp only at hSw); go_simp; try with_reducible rfl)
  show wpOrd _ _ _ _ _ _ _ _
  refine ord_take (i := 12) (d := 40) (v := ?_) rfl rfl (wanted_none rfl) hHeld (fun ρ hρ w hSw => ?_) ?_
  rotate_left
  ·(have e228 := Eq.trans (hρ.tmp hsz 228 rfl) (miss1 rfl (miss1 rfl lkp_hit)); clear hρ; (try dsimp only at hSw); go_simp; try with_reducible rfl)
  show wpOrd _ _ _ _ _ _ _ _
  refine ord_take (i := 13) (d := 41) (v := ?_) rfl rfl (wanted_none rfl) hHeld (fun ρ hρ w hSw => ?_) ?_
  rotate_left
  ·(have e229 := Eq.trans (hρ.tmp hsz 229 rfl) (miss1 rfl (miss1 rfl lkp_hit)); clear hρ; (try dsimp only at hSw); go_simp; try with_reducible rfl)
  show wpOrd _ _ _ _ _ _ _ _
  refine ord_take (i := 14) (d := 42) (v := ?_) rfl rfl (wanted_none rfl) hHeld (fun ρ hρ w hSw => ?_) ?_
  rotate_left
  ·(have e230 := Eq.trans (hρ.tmp hsz 230 rfl) (miss1 rfl (miss1 rfl lkp_hit)); clear hρ; (try dsimp only at hSw); go_simp; try with_reducible rfl)
  show wpOrd _ _ _ _ _ _ _ _
  refine ord_done hn2 ?_
  clear hHeld hn2 b21 b23 b25 b27 b5 hsz A Q2
  simp only [puts_nil, puts_cons, put_lit, set_1, set_0]
  go_upto_region 29 with (fail)
  have HMD := Lib.hid (Keep.drew HK7.out HMW.out)
  have HSwd : Hid (Sl W29.drew W29.drew.heap.size 1 Awa nwa cwa (intsV lwa)) := HSwa.out
  clear HMW HSwa
  refine wp_region_ord (S := M7) (J := []) (n := _) ((0, true) :: (1, true) :: (2, true) :: (3, true) :: (4, true) :: (5, false) :: (6, true) :: (7, false) :: (8, true) :: (9, true) :: (10, true) :: (11, true) :: (12, true) :: (13, true) :: (14, true) :: []) (by as_aux_lemma => kernel_rfl) (by rfl) (base_cons (k := 21) (by go_simp; rfl) (base_cons (k := 23) (by go_simp; rfl) (base_cons (k := 25) (by go_simp; rfl) (base_cons (k := 27) (by go_simp; rfl) (base_cons (k := 5) (by go_simp; rfl) base_nil))))) ?_ (fun _ _ _ _ _ h => h) (fun Q2 A hsz hbase hn2 hHeld => ?_)
  ·exact HMD.out
  try dsimp only at hHeld
  obtain ⟨b21, b23, b25, b27, b5, -⟩ := hbase
  refine ord_take (i := 0) (d := 232) (v := ?_) rfl rfl (wanted_none rfl) hHeld (fun ρ hρ w hSw => ?_) ?_
  rotate_left
  ·(have e21 := Eq.trans (hρ.tmp hsz 21 rfl) (lkp_base b21); clear hρ; (try dsimp only at hSw); have q := (HC7.out _ hSw).1; have k0 := q.1; have k1 := q.2; clear q hSw; go_simp; try with_reducible rfl)
  show wpOrd _ _ _ _ _ _ _ _
  refine ord_move (i := 1) (d := 233) (v := ?_) rfl rfl rfl (wanted_none rfl) hHeld (fun ρ hρ => ?_) ?_
  rotate_left
  ·(have e23 := Eq.trans (hρ.tmp hsz 23 rfl) (miss1 rfl (lkp_base b23)); exact e23)
  show wpOrd _ _ _ _ _ _ _ _
  refine ord_take (i := 2) (d := 234) (v := ?_) rfl rfl (wanted_none rfl) hHeld (fun ρ hρ w hSw => ?_) ?_
  rotate_left
  ·(have e25 := Eq.trans (hρ.tmp hsz 25 rfl) (miss1 rfl (miss1 rfl (lkp_base b25))); clear hρ; (try dsimp only at hSw); have q := (HC7.out _ hSw).2.1; have k0 := q.1; have k1 := q.2; clear q hSw; go_simp; try with_reducible rfl)
  show wpOrd _ _ _ _ _ _ _ _
  refine ord_take (i := 3) (d := 235) (v := ?_) rfl rfl (wanted_none rfl) hHeld (fun ρ hρ w hSw => ?_) ?_
  rotate_left
  ·(have e27 := Eq.trans (hρ.tmp hsz 27 rfl) (miss1 rfl (miss1 rfl (miss1 rfl (lkp_base b27)))); clear hρ; (try dsimp only at hSw); have q := (HC7.out _ hSw).2.2; have k0 := q.1; have k1 := q.2.1; have k2 := q.2.2; clear q hSw; go_simp; try with_reducible rfl)
  show wpOrd _ _ _ _ _ _ _ _
  refine ord_move (i := 4) (d := 236) (v := ?_) rfl rfl rfl (wanted_none rfl) hHeld (fun ρ hρ => ?_) ?_
  rotate_left
  ·(have e5 := Eq.trans (hρ.tmp hsz 5 rfl) (miss4 rfl rfl rfl rfl (lkp_base b5)); exact e5)
  show wpOrd _ _ _ _ _ _ _ _
  refine ord_call (i := 5) (d := 237) (vs := ?_) rfl rfl rfl (wanted_none rfl) (fun ρ hρ => ?_) ?_ ?_
  rotate_left
  ·(have hc := hρ.const; have e236 := Eq.trans (hρ.tmp hsz 236 rfl) lkp_hit; simp only [List.map_toArray, List.map_cons, List.map_nil, e236, hc]; try with_reducible rfl)
  ·(intro w; go_simp)
  refine (mod_is k 11 W29.drew (by decide) (by decide)).mono ?_
  rintro e w29 ⟨rfl, rfl⟩
  refine ⟨_, rfl, fun _ => ?_, fun hHeld' => ?_⟩
  ·exact HMD.out
  replace hHeld := hHeld' rfl
  clear hHeld'
  try dsimp only at hHeld
  show wpOrd _ _ _ _ _ _ _ _
  refine ord_take (i := 6) (d := 238) (v := ?_) rfl rfl (wanted_none rfl) hHeld (fun ρ hρ w hSw => ?_) ?_
  rotate_left
  ·(have hc := hρ.const; have e237 := Eq.trans (hρ.tmp hsz 237 rfl) lkp_hit; clear hρ; (try dsimp only at hSw); clear hSw; go_simp; try with_reducible rfl)
  show wpOrd _ _ _ _ _ _ _ _
  refine ord_call (i := 7) (d := 239) (vs := ?_) rfl rfl rfl (wanted_none rfl) (fun ρ hρ => ?_) ?_ ?_
  rotate_left
  ·(have e232 := Eq.trans (hρ.tmp hsz 232 rfl) (miss4 rfl rfl rfl rfl (miss1 rfl (miss1 rfl lkp_hit))); have e233 := Eq.trans (hρ.tmp hsz 233 rfl) (miss4 rfl rfl rfl rfl (miss1 rfl lkp_hit)); have e234 := Eq.trans (hρ.tmp hsz 234 rfl) (miss4 rfl rfl rfl rfl lkp_hit); have e235 := Eq.trans (hρ.tmp hsz 235 rfl) (miss1 rfl (miss1 rfl (miss1 rfl lkp_hit))); have e238 := Eq.trans (hρ.tmp hsz 238 rfl) lkp_hit; simp only [List.map_toArray, List.map_cons, List.map_nil, e232, e233, e234, e235, e238]; try with_reducible rfl)
  ·(intro w; go_simp)
  refine (rWit_any Ax Bx Az Alz Apz nx cx mx cbx nz cz nlz clz npz cpz nsx dsx zl lsz prz dx px cz0 _ W29.drew (HZ.out _ HMD.out)).mono ?_
  intro e W30 hpost
  obtain ⟨Awb, nwb, cwb, lwb, bwb, rfl, hS, hL, hb⟩ := WitPost.three hpost
  have HMW := Lib.hid (HK7.out.later HMD.out hb.out)
  have HSwb := hS
  obtain ⟨rfl, rfl⟩ := WitQ.same HLw.out hL.out
  have HSwan := Lib.hid ((HSwd.out.below hb.out (Nat.le_refl _)).more hb.out.size)
  clear hS hL hb hpost HMD HLw HSwd
  refine ⟨_, rfl, fun _ => ?_, fun hHeld' => ?_⟩
  ·exact HMW.out
  replace hHeld := hHeld' rfl
  clear hHeld'
  try dsimp only at hHeld
  show wpOrd _ _ _ _ _ _ _ _
  refine ord_move (i := 8) (d := 231) (v := ?_) rfl rfl rfl (wanted_none rfl) hHeld (fun ρ hρ => ?_) ?_
  rotate_left
  ·(have e239 := Eq.trans (hρ.tmp hsz 239 rfl) lkp_hit; exact e239)
  show wpOrd _ _ _ _ _ _ _ _
  refine ord_take (i := 9) (d := 240) (v := ?_) rfl rfl (wanted_none rfl) hHeld (fun ρ hρ w hSw => ?_) ?_
  rotate_left
  ·(have e231 := Eq.trans (hρ.tmp hsz 231 rfl) lkp_hit; clear hρ; (try dsimp only at hSw); go_simp; try with_reducible rfl)
  show wpOrd _ _ _ _ _ _ _ _
  refine ord_take (i := 10) (d := 241) (v := ?_) rfl rfl (wanted_none rfl) hHeld (fun ρ hρ w hSw => ?_) ?_
  rotate_left
  ·(have e231 := Eq.trans (hρ.tmp hsz 231 rfl) (miss1 rfl lkp_hit); clear hρ; (try dsimp only at hSw); go_simp; try with_reducible rfl)
  show wpOrd _ _ _ _ _ _ _ _
  refine ord_take (i := 11) (d := 242) (v := ?_) rfl rfl (wanted_none rfl) hHeld (fun ρ hρ w hSw => ?_) ?_
  rotate_left
  ·(have e231 := Eq.trans (hρ.tmp hsz 231 rfl) (miss1 rfl (miss1 rfl lkp_hit)); clear hρ; (try dsimp only at hSw); go_simp; try with_reducible rfl)
  show wpOrd _ _ _ _ _ _ _ _
  refine ord_take (i := 12) (d := 43) (v := ?_) rfl rfl (wanted_none rfl) hHeld (fun ρ hρ w hSw => ?_) ?_
  rotate_left
  ·(have e240 := Eq.trans (hρ.tmp hsz 240 rfl) (miss1 rfl (miss1 rfl lkp_hit)); clear hρ; (try dsimp only at hSw); go_simp; try with_reducible rfl)
  show wpOrd _ _ _ _ _ _ _ _
  refine ord_take (i := 13) (d := 44) (v := ?_) rfl rfl (wanted_none rfl) hHeld (fun ρ hρ w hSw => ?_) ?_
  rotate_left
  ·(have e241 := Eq.trans (hρ.tmp hsz 241 rfl) (miss1 rfl (miss1 rfl lkp_hit)); clear hρ; (try dsimp only at hSw); go_simp; try with_reducible rfl)
  show wpOrd _ _ _ _ _ _ _ _
  refine ord_take (i := 14) (d := 45) (v := ?_) rfl rfl (wanted_none rfl) hHeld (fun ρ hρ w hSw => ?_) ?_
  rotate_left
  ·(have e242 := Eq.trans (hρ.tmp hsz 242 rfl) (miss1 rfl (miss1 rfl lkp_hit)); clear hρ; (try dsimp only at hSw); go_simp; try with_reducible rfl)
  show wpOrd _ _ _ _ _ _ _ _
  refine ord_done hn2 ?_
  clear hHeld hn2 b21 b23 b25 b27 b5 hsz A Q2
  simp only [puts_nil, puts_cons, put_lit, set_1, set_0]
  rw [← HEM.out]
  have qS : (bwa != bwa) = false := by simp
  go_wp2_with fail
  clear qM qS
  refine (ints_any Awa Awb nwa cwa nwb cwb W30.heap.size W30.heap.size lwa lwa W30 HSwan.out HSwb.out (Nat.le_refl _) (Nat.le_refl _)).mono ?_
  rintro e W31 ⟨rfl, hb'⟩
  have HMb := Lib.hid (HP7.out _ (HK7.out.later HMW.out hb')).1
  clear hb' HSwan HSwb HMW
  rw [decide_eq_true rfl]
  go_wp2_with fail
  refine Handed.intro (2 - (z + 1)) (by omega) (hJ4 _ _ _ (LpI1.back 135 ?_ (by kernel_rfl)))
  dsimp only [gt]
  exact ⟨z + 1, by go_num, by omega, rfl, HMb⟩
end Go.Proofs.YtnpfkiidhidjbaaGreatDoor
