import Derived.Test.YtbjndpjligpjaaaDoorZ30
import Derived.Test.YtbjndpjligpjaaaDoorZ28
import Derived.Test.YtbjndpjligpjaaaDoorZ14
import Derived.Test.YtbjndpjligpjaaaDoorZ18
import Derived.Test.YtbjndpjligpjaaaDoorZ29
import Derived.Test.YtbjndpjligpjaaaDoorZ20
/-
  LocksetAnswers: the program's layer 14 answers as the reference does.
-/

namespace Go.Proofs.YtbjndpjligpjaaaDoor
open Go.RowKit
def AnCut (w w6 : World) (Ab : Option Addr) (mg cb : Nat) (wc : World) : Prop := ∃ bs : List Lk, Hid (DeckAt wc w.heap.size) ∧ Hid (w6.grownBy wc (some w.heap.size)) ∧ Hid (LocksO wc w6.heap.size Ab mg cb bs)
/-- A network and locks, as the law's loops pick them. -/
structure Pick (P : World → Prop) (Ax : Option Addr) (nx cx : Nat) (nsx : List Nd) (Dx : Option Addr) (mx dx : Nat) (dsx : List Dv) : Prop where
  n : ∀ {wr : World}, P wr → Sl wr wr.heap.size 3 Ax nx cx (nsx.flatMap Nd.cells)
  d : ∀ {wr : World}, P wr → Sl wr wr.heap.size 5 Dx mx dx (dsx.flatMap Dv.cells)
  la : ∀ {wr : World}, P wr → Laid wr
  sn : ∀ x ∈ nsx, x.name.size ≤ 9223372036854775807
  sd : ∀ x ∈ dsx, x.name.size ≤ 9223372036854775807
  le : mx ≤ 1000
def PickL (P : World → Prop) (Ay : Option Addr) (my cy : Nat) (lsy : List Lk) : Prop := ∀ wr : World, P wr → Sl wr wr.heap.size 3 Ay my cy (lsy.flatMap Lk.cells)
def PlR2 (M : World → Prop) (n gk : Nat) (iv : Value) (wr : World) : Prop := ∃ i : Nat, iv = .int .i64 i ∧ i ≤ n ∧ gk = n - i ∧ Hid (M wr)
theorem net_two {wr : World} {xb : Nat} {A B C D : Option Addr} {a1 a2 b1 b2 c1 c2 d1 d2 : Nat} (h : Blk wr xb 27 #[.slice A a1 a2, .slice B b1 b2, .slice C c1 c2, .slice D d1 d2]) :
    (wr.cell? ⟨xb, 0, none⟩ = some (.slice A a1 a2) ∧ wr.cell? ⟨xb, 1, none⟩ = some (.slice B b1 b2)) ∧ wr.cell? ⟨xb, 2, none⟩ = some (.slice C c1 c2) ∧ wr.cell? ⟨xb, 3, none⟩ = some (.slice D d1 d2) := ⟨⟨h.cell 0, h.cell 1⟩, h.cell 2, h.cell 3⟩
theorem row_three {wr : World} {yb : Nat} {A B C : Option Addr} {a1 a2 b1 b2 c1 c2 : Nat} (h : Blk wr yb 23 #[.slice A a1 a2, .slice B b1 b2, .slice C c1 c2]) :
    wr.cell? ⟨yb, 0, none⟩ = some (.slice A a1 a2) ∧ wr.cell? ⟨yb, 1, none⟩ = some (.slice B b1 b2) ∧ wr.cell? ⟨yb, 2, none⟩ = some (.slice C c1 c2) := ⟨h.cell 0, h.cell 1, h.cell 2⟩
theorem lock_three {wr : World} {b : Nat} {d p q : Int} (h : Blk wr b 29 #[.int .i64 d, .int .i64 p, .int .i64 q]) :
    wr.cell? ⟨b, 0, none⟩ = some (.int .i64 d) ∧ wr.cell? ⟨b, 1, none⟩ = some (.int .i64 p) ∧ wr.cell? ⟨b, 2, none⟩ = some (.int .i64 q) := ⟨h.cell 0, h.cell 1, h.cell 2⟩
theorem lock_nine {wr : World} {b i : Nat} {d1 p1 q1 d2 p2 q2 d3 p3 q3 : Int} (h : Blk wr b 29 #[.int .i64 d1, .int .i64 p1, .int .i64 q1, .int .i64 d2, .int .i64 p2, .int .i64 q2, .int .i64 d3, .int .i64 p3, .int .i64 q3]) (hi : i < 3) :
    ∃ d p q : Int, wr.cell? ⟨b, i * 3, none⟩ = some (.int .i64 d) ∧ wr.cell? ⟨b, i * 3 + 1, none⟩ = some (.int .i64 p) ∧ wr.cell? ⟨b, i * 3 + 2, none⟩ = some (.int .i64 q) := by
  rcases (show i = 0 ∨ i = 1 ∨ i = 2 by omega) with rfl | rfl | rfl
  · exact ⟨_, _, _, h.cell 0, h.cell 1, h.cell 2⟩
  · exact ⟨_, _, _, h.cell 3, h.cell 4, h.cell 5⟩
  · exact ⟨_, _, _, h.cell 6, h.cell 7, h.cell 8⟩
theorem radd_at (An Ad Al : Option Addr) (nn cn nd cd m c Bn Bd Bl : Nat) (ns : List Nd) (ds : List Dv) (ls : List Lk) (d p q : Int) (w : World) (hm : ls.length = m) (hn : Sl w Bn 3 An nn cn (ns.flatMap Nd.cells)) (hd : Sl w Bd 5 Ad nd cd (ds.flatMap Dv.cells)) (hs : Sl w Bl 3 Al m c (ls.flatMap Lk.cells)) (hBn : Bn ≤ w.heap.size) (hBd : Bd ≤ w.heap.size) (hBl : Bl ≤ w.heap.size)
    (hsn : ∀ x ∈ ns, x.name.size ≤ 9223372036854775807) (hsd : ∀ x ∈ ds, x.name.size ≤ 9223372036854775807) :
    Calls Tryd.prog 22 #[.agg #[.slice An nn cn, .slice Ad nd cd], .slice Al m c, .agg #[.int .i64 d, .int .i64 p, .int .i64 q]] w (LkAddPost w ns ds ls ⟨d, p, q⟩) := by
  subst hm
  exact radd_any An Ad Al nn cn nd cd c Bn Bd Bl ns ds ls d p q w hn hd hs hBn hBd hBl hsn hsd
theorem AnCut.store {w w6 wr : World} {b o : Nat} {u : Value} (hd : DeckAt wr w.heap.size) (hg : w6.grownBy wr (some w.heap.size)) (hge : w6.heap.size ≤ b) (hlt : w.heap.size < w6.heap.size) : DeckAt (wr.setCell ⟨b, o, none⟩ u) w.heap.size ∧ w6.grownBy (wr.setCell ⟨b, o, none⟩ u) (some w.heap.size) :=
  ⟨hd.setCell (by simp only; omega) u, grown_set hg hge u⟩
set_option maxRecDepth 100000 in
set_option maxHeartbeats 16000000 in
theorem walk_LocksetAnswers (w : World) (hl : Laid w) (A : Option Addr) (n c : Nat) (zs : List Int) (hs : Sl w w.heap.size 1 A n c (intsV zs)) (_hz : ∀ z ∈ zs, (Lit.int .i64 z).wf = true) (rw : SlV Lk) (hrw : Sl w w.heap.size 3 rw.A rw.n rw.c (rw.l.flatMap Lk.cells)) (od : SlV Nd × SlV Dv) (hod : NetIn w od) (kk : Lk) (_hk : True) (dv : Int) (_hdv : (Lit.int .i64 dv).wf = true) (ky : Int) (_hky : (Lit.int .i64 ky).wf = true) :
    Calls Tryd.prog 3 #[.slice A n c, .slice rw.A rw.n rw.c, .agg #[.slice od.1.A od.1.n od.1.c, .slice od.2.A od.2.n od.2.c], .agg #[.int .i64 kk.dev, .int .i64 kk.pos, .int .i64 kk.key], .int .i64 dv, .int .i64 ky] w fun e w' => e = .returned (.bool true) ∧ Below w.heap.size w w' := by
  have hnm := hs.le
  have hrl := hrw.le
  obtain ⟨hon, hoD, HNS, HDS⟩ := hod
  have HNS := Lib.hid HNS; have HDS := Lib.hid HDS
  have HB0 : Hid (Below w.heap.size w ((w.alloc (.cells #[.slice od.1.A od.1.n od.1.c, .slice od.2.A od.2.n od.2.c] 27)).alloc (.cells #[.int .i64 kk.dev, .int .i64 kk.pos, .int .i64 kk.key] 29))) := ((Below.refl _ _).alloc (Nat.le_refl _) _).alloc (by simp) _
  have HBO : Hid (Blk ((w.alloc (.cells #[.slice od.1.A od.1.n od.1.c, .slice od.2.A od.2.n od.2.c] 27)).alloc (.cells #[.int .i64 kk.dev, .int .i64 kk.pos, .int .i64 kk.key] 29)) w.heap.size 27 #[.slice od.1.A od.1.n od.1.c, .slice od.2.A od.2.n od.2.c]) := (Blk.new _ _ _).alloc _
  have HBK : Hid (Blk ((w.alloc (.cells #[.slice od.1.A od.1.n od.1.c, .slice od.2.A od.2.n od.2.c] 27)).alloc (.cells #[.int .i64 kk.dev, .int .i64 kk.pos, .int .i64 kk.key] 29)) (w.heap.size + 1) 29 #[.int .i64 kk.dev, .int .i64 kk.pos, .int .i64 kk.key]) := by
    have := Blk.new (w.alloc (.cells #[.slice od.1.A od.1.n od.1.c, .slice od.2.A od.2.n od.2.c] 27)) 29 #[.int .i64 kk.dev, .int .i64 kk.pos, .int .i64 kk.key]
    unfold Hid; simpa using this
  have HL := Lib.hid (hl.below HB0.out (Nat.le_refl _))
  have HS := Lib.hid (hs.below HB0.out (Nat.le_refl _)); have HR := Lib.hid (hrw.below HB0.out (Nat.le_refl _)); have HON := Lib.hid (hon.below HB0.out (Nat.le_refl _)); have HOD := Lib.hid (hoD.below HB0.out (Nat.le_refl _))
  have hsz : ((w.alloc (.cells #[.slice od.1.A od.1.n od.1.c, .slice od.2.A od.2.n od.2.c] 27)).alloc (.cells #[.int .i64 kk.dev, .int .i64 kk.pos, .int .i64 kk.key] 29)).heap.size = w.heap.size + 2 := by simp
  have HSZ := Lib.hid hsz
  clear hl hs hrw hon hoD _hz hsz
  obtain ⟨W, hW⟩ : ∃ W, W = (w.alloc (.cells #[.slice od.1.A od.1.n od.1.c, .slice od.2.A od.2.n od.2.c] 27)).alloc (.cells #[.int .i64 kk.dev, .int .i64 kk.pos, .int .i64 kk.key] 29) := ⟨_, rfl⟩
  rw [← hW] at HB0 HBO HBK HL HS HR HON HOD HSZ
  have HWE := Lib.hid hW
  clear hW
  have HF := Lib.hid (few_any A n c W (by omega))
  rcases hf : decide (n ≤ 400) with _ | _
  · rw [hf] at HF
    clear hf
    go_enter Tryd.func3, Tryd.ntmps3
    go_wp2_with fail
    rw [← HWE.out]
    refine HF.out.mono ?_
    rintro e w1 ⟨rfl, rfl⟩
    go_wp2_with fail
    refine (awake_any W HL.out).mono ?_
    rintro e w1 ⟨rfl, hb⟩
    go_wp2_with fail
    go_ret
    exact ⟨rfl, HB0.out.trans (hb.mono HB0.out.size)⟩
  rw [hf] at HF
  clear hf
  by_cases hr140 : 140 < rw.n
  · have q1 : decide ((140 : Int) < (rw.n : Int)) = true := by simp; omega
    have q2 : decide (140 < rw.n) = true := by simpa using hr140
    clear hr140
    go_enter Tryd.func3, Tryd.ntmps3
    go_wp2_with fail
    rw [← HWE.out]
    refine HF.out.mono ?_
    rintro e w1 ⟨rfl, rfl⟩
    go_wp2_with fail
    refine (awake_any W HL.out).mono ?_
    rintro e w1 ⟨rfl, hb⟩
    go_wp2_with fail
    go_ret
    exact ⟨rfl, HB0.out.trans (hb.mono HB0.out.size)⟩
  have q1 : decide ((140 : Int) < (rw.n : Int)) = false := by simp; omega
  have q2 : decide (140 < rw.n) = false := by simpa using hr140
  have HLT := Lib.hid (light_any od.1.A od.2.A od.1.n od.1.c od.2.n od.2.c w.heap.size w.heap.size od.1.l od.2.l W HON.out HOD.out HB0.out.size HB0.out.size HNS.out HDS.out)
  have k0 : W.cell? ⟨w.heap.size, 0, none⟩ = some (.slice od.1.A od.1.n od.1.c) := HBO.out.cell 0
  have k1 : W.cell? ⟨w.heap.size, 1, none⟩ = some (.slice od.2.A od.2.n od.2.c) := HBO.out.cell 1
  rcases hlt : lightB od.1.l od.2.l od.1.n od.2.n with _ | _
  · rw [hlt] at HLT
    clear hlt
    go_enter Tryd.func3, Tryd.ntmps3
    go_wp2_with fail
    rw [← HWE.out]
    refine HF.out.mono ?_
    rintro e w1 ⟨rfl, rfl⟩
    go_wp2_with fail
    refine HLT.out.mono ?_
    rintro e w1 ⟨rfl, hb1⟩
    have HB1 := Lib.hid (HB0.out.trans (hb1.mono HB0.out.size))
    have HL1 := Lib.hid (HL.out.below hb1 (Nat.le_refl _))
    clear hb1
    go_wp2_with fail
    refine (awake_any w1 HL1.out).mono ?_
    rintro e w2 ⟨rfl, hb⟩
    go_wp2_with fail
    go_ret
    exact ⟨rfl, HB1.out.trans (hb.mono HB1.out.size)⟩
  have hnd2 := lightB_le hlt
  rw [hlt] at HLT
  clear hlt
  go_enter Tryd.func3, Tryd.ntmps3
  go_wp2_with fail
  rw [← HWE.out]
  refine HF.out.mono ?_
  rintro e w1 ⟨rfl, rfl⟩
  go_wp2_with fail
  clear k0 k1 q1 q2
  refine HLT.out.mono ?_
  rintro e wl ⟨rfl, hbl⟩
  have HBL := Lib.hid (HB0.out.trans (hbl.mono HB0.out.size))
  have HLL := Lib.hid (HL.out.below hbl (Nat.le_refl _))
  have HSL := Lib.hid (HS.out.below hbl HB0.out.size)
  have HRL := Lib.hid (HR.out.below hbl HB0.out.size)
  have HONL := Lib.hid (HON.out.below hbl HB0.out.size)
  have HODL := Lib.hid (HOD.out.below hbl HB0.out.size)
  have HBOL := Lib.hid (HBO.out.below hbl HBO.out.lt)
  have HBKL := Lib.hid (HBK.out.below hbl HBK.out.lt)
  have hbig : w.heap.size + 2 ≤ wl.heap.size := by have := hbl.size; rw [HSZ.out] at this; exact this
  clear hbl HLT HF HL HS HR HON HOD HBO HBK HB0 HSZ HWE
  go_wp2_with fail
  refine (new_any A n c w.heap.size zs wl HSL.out (by omega)).mono ?_
  rintro e w1 ⟨rfl, hd1, hb1, hs1⟩
  go_wp2_with fail
  refine (mknet_any wl.heap.size 6 9 w1 hd1.out (by decide) (by decide)).mono ?_
  rintro e w2 ⟨An, nn, cn, ns, Ad, nd, cd, ds, rfl, hd2, hg2, hrn, hrd, hmade⟩
  have HMK := LwN.mk0 HLL.out hb1.out hs1.out hd2.out hg2.out hrn.out hrd.out hmade.out
  have HND := Lib.hid HMK.2.2
  have HN3 := Lib.hid HMK.1
  have HMA := Lib.hid hmade.out
  have hnd : nd ≤ 9 := by have := hmade.out.dm; rw [HND.out] at this; omega
  have hnd1 : 1 ≤ nd := by have := hmade.out.d1; rw [HND.out] at this; omega
  have HNM := Lib.hid HMA.out.names
  clear HMK hd1 hb1 hs1 hd2 hg2 hrn hrd hmade HSL
  go_wp2_with fail
  generalize World.alloc _ _ = w3 at *
  obtain ⟨nb, hnb⟩ : ∃ nb, nb = w2.heap.size := ⟨_, rfl⟩
  rw [← hnb] at HN3 ⊢
  clear hnb
  refine (mkstate_any wl.heap.size An Ad nn cn nd cd ds w3 HN3.out.dk HN3.out.hd (by omega)).mono ?_
  rintro e w5 ⟨As, cs, s, rfl, hd5, hg5, hO5, hpos⟩
  have HN5 := Lib.hid (HN3.out.grown HLL.out hg5.out hd5.out)
  have HX5 : Hid (SlX w5 wl.heap.size 1 As nd cs (intsV s)) := SlX.of_own hO5.out (by have := HN3.out.bl.size; have := HN3.out.bx.lt; have := HN3.out.ge; omega)
  clear hd5 hg5 hO5 hpos HN3
  have k0 : w5.cell? ⟨nb, 0, none⟩ = some (.slice An nn cn) := HN5.out.bx.cell 0
  have k1 : w5.cell? ⟨nb, 1, none⟩ = some (.slice Ad nd cd) := HN5.out.bx.cell 1
  go_wp2_with fail
  clear k0 k1
  refine (mklocks_any wl.heap.size An Ad As nn cn nd cd nd cs 6 ns ds s w5 HN5.out.dk HN5.out.hn HN5.out.hd HX5.out (by omega) (by decide) HNM.out.1 HNM.out.2).mono ?_
  rintro e w6 ⟨Ag, mg, cg, ls, rfl, hd6, hg6, hO6, hmk⟩
  have HN6 := Lib.hid (HN5.out.grown HLL.out hg6.out hd6.out)
  have HB6 := HN6.out.bl
  have hge : wl.heap.size < w6.heap.size := by have := HN6.out.bx.lt; have := HN6.out.ge; omega
  have HLG := Lib.hid (LocksO.len hO6.out)
  have hmg : mg ≤ 6 := by have := hmk.out.2.1; have := HLG.out; omega
  have HM6 : Hid (AnM wl nb An nn cn ns Ad nd cd ds w.heap.size (w.heap.size + 1) od kk rw Ag mg cg ls w6) := ⟨HN6.out, HBOL.out.below HB6 (by omega), HBKL.out.below HB6 (by omega),
    HONL.out.below HB6 (by omega), HODL.out.below HB6 (by omega), HRL.out.below HB6 (by omega), SlX.of_own hO6.out (by have := HN5.out.bl.size; have := HN5.out.bx.lt; have := HN5.out.ge; omega), by omega⟩
  have hcg := hO6.out.sl.le
  clear hd6 hg6 hO6 hmk HN5 HX5 HN6 HB6 HONL HODL HRL HBOL HBKL
  go_upto_if 80 with (at_builtin; go_must (refine wpList_app rfl _ (.tmp 76) rfl el_lock (by rfl) (World.ownsRow_nil _ w6.heap.size _ _) (by rfl) HM6.out.sg.1 (locks_one _) (by omega) (by omega) (by omega) ?_; intro Ab cb w7 hown7 hgr7 hat7; simp only [Nat.zero_add, List.nil_append] at hown7 hgr7 ⊢; have HO7 := Lib.hid hown7; have HG7 := Lib.hid hgr7; clear hown7 hgr7 hat7))
  have hb7 := below_none HG7.out
  have HD7 : Hid (DeckAt w7 wl.heap.size) := (HM6.out.later hb7).n.dk
  have HGG7 : Hid (w6.grownBy w7 (some wl.heap.size)) := grown_of_below hb7 _
  clear hb7 HG7
  refine wp_cut_u1 [(17, 0), (0, 2), (31, 0), (101, 1), (2, 0), (5, 1), (2, 0), (93, 1), (2, 0), (56, 1), (2, 0), (35, 1)] (fun _ wc => AnCut wl w6 Ab mg cb wc) ?rest0 ?first0
  case first0 =>
    intro Jc0 Kc0 hJc0 hKc0
    by_cases hmg0 : 0 < mg; rotate_left
    · have q0 : decide (0 < mg) = false := by simpa using hmg0
      go_wp2_with fail
      refine Met.intro (hJc0 _ _ (CtI1.back 18 ?_ (by kernel_rfl)))
      try dsimp only [gt]
      exact ⟨ls, HD7, HGG7, HO7⟩
    have q0 : decide (0 < mg) = true := by simpa using hmg0
    go_wp2_with fail
    refine (next_any wl.heap.size (mg : Int) w7 HD7.out (by omega)).mono ?_
    rintro e w8 ⟨v1, rfl, hv0, _, hv1, hd8, hg8, hs8⟩
    have hv1n := hv1.out (by omega)
    obtain ⟨i, rfl⟩ := Int.eq_ofNat_of_zero_le hv0
    have him : i < mg := by omega
    have himI : (i : Int) < (mg : Int) := hv1n
    have HO8 : Hid (LocksO w8 w6.heap.size Ab mg cb ls) := HO7.out.kept hg8.out (ne_row fun b e => by have := (HO7.out.lt b e).1; omega)
    have HGG8 := Lib.hid (grown_trans HGG7.out hg8.out)
    clear hv0 hv1 hv1n hg8 hs8 HO7 HGG7 HD7
    go_wp2_with fail
    refine (next_any wl.heap.size 6 w8 hd8.out (by decide)).mono ?_
    rintro e w9 ⟨v2, rfl, hv0, _, hv1, hd9, hg9, hs9⟩
    have hv2n := hv1.out (by decide)
    have HO9 : Hid (LocksO w9 w6.heap.size Ab mg cb ls) := HO8.out.kept hg9.out (ne_row fun b e => by have := (HO8.out.lt b e).1; omega)
    have HGG9 := Lib.hid (grown_trans HGG8.out hg9.out)
    clear hv1 hg9 hs9 HO8 HGG8 hd8
    obtain ⟨g, d, p, q, rfl, hg0, hg1, hx, ⟨c0, c1, c2⟩, hfz, hp0, hp1, hp2⟩ := LocksO.put HO9.out him
    have HFZ := Lib.hid hfz; have HP0 := Lib.hid hp0; have HP1 := Lib.hid hp1; have HP2 := Lib.hid hp2
    have HC0 := Lib.hid c0; have HC1 := Lib.hid c1; have HC2 := Lib.hid c2
    clear hx hfz hp0 hp1 hp2 c0 c1 c2
    rcases (show v2 = 0 ∨ v2 = 1 ∨ v2 = 2 ∨ v2 = 3 ∨ v2 = 4 ∨ v2 = 5 by omega) with rfl | rfl | rfl | rfl | rfl | rfl
    · have c1 := HC1.out
      have f1 := HFZ.out (i * 3 + 1)
      go_wp2_with fail
      refine Met.intro (hJc0 _ _ (CtI1.back 18 ?_ (by kernel_rfl)))
      try dsimp only [gt]
      exact ⟨_, (AnCut.store hd9.out HGG9.out hg0 hge).1, (AnCut.store hd9.out HGG9.out hg0 hge).2, HP1.out _⟩
    · obtain ⟨g', d', p', q', hge', _, _, _, ⟨_, _, e2⟩, _⟩ := LocksO.put HO9.out hmg0
      injection hge' with hge'; injection hge' with hge'; subst hge'
      rw [Nat.zero_mul, Nat.zero_add] at e2
      have f2 := HFZ.out (i * 3 + 2)
      have c2 := HC2.out
      go_wp2_with fail
      refine Met.intro (hJc0 _ _ (CtI1.back 18 ?_ (by kernel_rfl)))
      try dsimp only [gt]
      exact ⟨_, (AnCut.store hd9.out HGG9.out hg0 hge).1, (AnCut.store hd9.out HGG9.out hg0 hge).2, HP2.out _⟩
    · have k1 : w9.cell? ⟨nb, 1, none⟩ = some (.slice Ad nd cd) := (HM6.out.grown HLL.out HGG9.out hd9.out).n.bx.cell 1
      go_wp2_with fail
      clear k1
      refine (next_any wl.heap.size ((nd : Int) + 2) w9 hd9.out (by omega)).mono ?_
      rintro e w10 ⟨v3, rfl, _, _, _, hd10, hg10, _⟩
      have HO10 : Hid (LocksO w10 w6.heap.size (some ⟨g, 0, none⟩) mg cb ls) := HO9.out.kept hg10.out (ne_row fun b e => by have := (HO9.out.lt b e).1; omega)
      have HGG10 := Lib.hid (grown_trans HGG9.out hg10.out)
      obtain ⟨g', d', p', q', hge', _, _, _, ⟨e0, _, _⟩, hf', hp0, _, _⟩ := LocksO.put HO10.out him
      injection hge' with hge'; injection hge' with hge'; subst hge'
      have f0 := hf' (i * 3)
      have HP0' := Lib.hid hp0
      clear hf' hp0 hg10 HP0 HC0 HFZ
      go_wp2_with fail
      refine Met.intro (hJc0 _ _ (CtI1.back 18 ?_ (by kernel_rfl)))
      try dsimp only [gt]
      exact ⟨_, (AnCut.store hd10.out HGG10.out hg0 hge).1, (AnCut.store hd10.out HGG10.out hg0 hge).2, HP0'.out _⟩
    · obtain ⟨g', d', p', q', hge', _, _, _, ⟨e0, e1, e2⟩, _⟩ := LocksO.put HO9.out hmg0
      injection hge' with hge'; injection hge' with hge'; subst hge'
      rw [Nat.zero_mul] at e0 e1 e2
      rw [Nat.zero_add] at e1 e2
      have HE : Hid (w9.cell? ⟨g, 0, none⟩ = some (.int .i64 d') ∧ w9.cell? ⟨g, 1, none⟩ = some (.int .i64 p') ∧ w9.cell? ⟨g, 2, none⟩ = some (.int .i64 q')) := ⟨e0, e1, e2⟩
      have HSW : Hid (∀ W : World, DeckAt W wl.heap.size → w6.grownBy W (some wl.heap.size) → ∀ l1, LocksO W w6.heap.size (some ⟨g, 0, none⟩) mg cb l1 → ∀ (j : Nat) (_ : j < mg) (a b c : Int), DeckAt (((W.setCell ⟨g, j * 3, none⟩ (.int .i64 a)).setCell ⟨g, j * 3 + 1, none⟩ (.int .i64 b)).setCell ⟨g, j * 3 + 2, none⟩ (.int .i64 c)) wl.heap.size ∧ w6.grownBy (((W.setCell ⟨g, j * 3, none⟩ (.int .i64 a)).setCell ⟨g, j * 3 + 1, none⟩ (.int .i64 b)).setCell ⟨g, j * 3 + 2, none⟩ (.int .i64 c)) (some wl.heap.size) ∧ ∃ l2, LocksO (((W.setCell ⟨g, j * 3, none⟩ (.int .i64 a)).setCell ⟨g, j * 3 + 1, none⟩ (.int .i64 b)).setCell ⟨g, j * 3 + 2, none⟩ (.int .i64 c)) w6.heap.size (some ⟨g, 0, none⟩) mg cb l2) := by
        intro W hd hg l1 hO j hj a b c
        obtain ⟨gg, _, _, _, h1, _, _, _, _, _, hp, _, _⟩ := LocksO.put hO hj
        injection h1 with h1; injection h1 with h1; subst h1
        obtain ⟨gg, _, _, _, h1, _, _, _, _, _, _, hp2, _⟩ := LocksO.put (hp a) hj
        injection h1 with h1; injection h1 with h1; subst h1
        obtain ⟨gg, _, _, _, h1, _, _, _, _, _, _, _, hp3⟩ := LocksO.put (hp2 b) hj
        injection h1 with h1; injection h1 with h1; subst h1
        have s1 := AnCut.store (o := j * 3) (u := .int .i64 a) hd hg hg0 hge
        have s2 := AnCut.store (o := j * 3 + 1) (u := .int .i64 b) s1.1 s1.2 hg0 hge
        have s3 := AnCut.store (o := j * 3 + 2) (u := .int .i64 c) s2.1 s2.2 hg0 hge
        exact ⟨s3.1, s3.2, _, hp3 c⟩
      have HEND : Hid (∀ a b c a' b' c' : Int, AnCut wl w6 (some ⟨g, 0, none⟩) mg cb (((((((w9.setCell ⟨g, 0, none⟩ (.int .i64 a)).setCell ⟨g, 1, none⟩ (.int .i64 b)).setCell ⟨g, 2, none⟩ (.int .i64 c)).setCell ⟨g, i * 3, none⟩ (.int .i64 a')).setCell ⟨g, i * 3 + 1, none⟩ (.int .i64 b')).setCell ⟨g, i * 3 + 2, none⟩ (.int .i64 c')).drew)) := by
        intro a b c a' b' c'
        obtain ⟨h1, h2, l2, h3⟩ := HSW.out w9 hd9.out HGG9.out ls HO9.out 0 hmg0 a b c
        rw [Nat.zero_mul, Nat.zero_add, Nat.zero_add] at h1 h2 h3
        obtain ⟨k1, k2, l3, k3⟩ := HSW.out _ h1 h2 l2 h3 i him a' b' c'
        exact ⟨l3, k1.drew, grown_drew k2, LocksO.drew k3⟩
      have hfz0 := HFZ.out
      have c0 := HC0.out
      have c1 := HC1.out
      have c2 := HC2.out
      clear HP0 HP1 HP2 HSW HE
      go_upto_region 19 with (fail)
      by_cases hi0 : i = 0
      · subst hi0
        rw [Nat.zero_mul] at c0 c1 c2 HEND
        rw [Nat.zero_add] at c1 c2 HEND
        rw [Nat.zero_add] at HEND
        go_region
        go_wp2_with fail
        refine Met.intro (hJc0 _ _ (CtI1.back 18 ?_ (by kernel_rfl)))
        try dsimp only [gt]
        exact HEND.out _ _ _ _ _ _
      · go_region
        go_wp2_with fail
        refine Met.intro (hJc0 _ _ (CtI1.back 18 ?_ (by kernel_rfl)))
        try dsimp only [gt]
        exact HEND.out _ _ _ _ _ _
    · have HBI : Hid (Blk (w9.alloc (.cells #[.int .i64 (-1), .int .i64 65536, .int .i64 65537] 3)) w9.heap.size 3 #[.int .i64 (-1), .int .i64 65536, .int .i64 65537]) := Blk.new _ _ _
      have HO9a : Hid (LocksO (w9.alloc (.cells #[.int .i64 (-1), .int .i64 65536, .int .i64 65537] 3)) w6.heap.size (some ⟨g, 0, none⟩) mg cb ls) := World.ownsRow.alloc HO9.out _
      have HD9a := Lib.hid (hd9.out.alloc (.cells #[.int .i64 (-1), .int .i64 65536, .int .i64 65537] 3))
      have HGG9a := Lib.hid (grown_alloc HGG9.out (.cells #[.int .i64 (-1), .int .i64 65536, .int .i64 65537] 3))
      have hdl := hd9.out.lt
      go_wp2_with fail
      generalize World.alloc w9 _ = w9a at *
      refine (next_any wl.heap.size 3 w9a HD9a.out (by decide)).mono ?_
      rintro e w10 ⟨v3, rfl, hv0, _, hv1, hd10, hg10, _⟩
      have hv3n := hv1.out (by decide)
      have HO10 : Hid (LocksO w10 w6.heap.size (some ⟨g, 0, none⟩) mg cb ls) := HO9a.out.kept hg10.out (ne_row fun b e => by have := (HO9a.out.lt b e).1; omega)
      have HGG10 := Lib.hid (grown_trans HGG9a.out hg10.out)
      have HBI10 := Lib.hid (HBI.out.grown hg10.out (fun e => by injection e with e; omega))
      obtain ⟨g', d', p', q', hge', _, _, _, ⟨_, _, e2⟩, hf', _, _, hp2⟩ := LocksO.put HO10.out him
      injection hge' with hge'; injection hge' with hge'; subst hge'
      have f2 := hf' (i * 3 + 2)
      have HP2' := Lib.hid hp2
      clear hf' hp2 hg10 HP2 HC2 HFZ HBI HO9a HD9a HGG9a hv1
      rcases (show v3 = 0 ∨ v3 = 1 ∨ v3 = 2 by omega) with rfl | rfl | rfl
      · have b0 : w10.cell? ⟨w9.heap.size, 0, none⟩ = some (.int .i64 (-1)) := HBI10.out.cell 0
        go_wp2_with fail
        refine Met.intro (hJc0 _ _ (CtI1.back 18 ?_ (by kernel_rfl)))
        try dsimp only [gt]
        exact ⟨_, (AnCut.store hd10.out HGG10.out hg0 hge).1, (AnCut.store hd10.out HGG10.out hg0 hge).2, HP2'.out _⟩
      · have b0 : w10.cell? ⟨w9.heap.size, 1, none⟩ = some (.int .i64 65536) := HBI10.out.cell 1
        go_wp2_with fail
        refine Met.intro (hJc0 _ _ (CtI1.back 18 ?_ (by kernel_rfl)))
        try dsimp only [gt]
        exact ⟨_, (AnCut.store hd10.out HGG10.out hg0 hge).1, (AnCut.store hd10.out HGG10.out hg0 hge).2, HP2'.out _⟩
      · have b0 : w10.cell? ⟨w9.heap.size, 2, none⟩ = some (.int .i64 65537) := HBI10.out.cell 2
        go_wp2_with fail
        refine Met.intro (hJc0 _ _ (CtI1.back 18 ?_ (by kernel_rfl)))
        try dsimp only [gt]
        exact ⟨_, (AnCut.store hd10.out HGG10.out hg0 hge).1, (AnCut.store hd10.out HGG10.out hg0 hge).2, HP2'.out _⟩
    · have c1 := HC1.out
      have f1 := HFZ.out (i * 3 + 1)
      go_wp2_with fail
      refine Met.intro (hJc0 _ _ (CtI1.back 18 ?_ (by kernel_rfl)))
      try dsimp only [gt]
      exact ⟨_, (AnCut.store hd9.out HGG9.out hg0 hge).1, (AnCut.store hd9.out HGG9.out hg0 hge).2, HP1.out _⟩
  case rest0 =>
    intro uc0 p18 wc a hcut ha
    dsimp only [relaxR, Go.Proofs.YtbjndpjligpjaaaDoor.v1, Nat.reduceAdd] at ha
    subst ha
    obtain ⟨bs, hdc, hgc, hOc⟩ := hcut
    have HMc := Lib.hid (HM6.out.grown HLL.out hgc.out hdc.out)
    have HXb : Hid (SlX wc wl.heap.size 3 Ab mg cb (bs.flatMap Lk.cells)) := SlX.of_own hOc.out hge
    have hgec : wl.heap.size < wc.heap.size := hdc.out.lt
    clear hdc hgc hOc HM6 HD7 HGG7 HO7 hge
    have k0 : wc.cell? ⟨nb, 0, none⟩ = some (.slice An nn cn) := HMc.out.n.bx.cell 0
    have k1 : wc.cell? ⟨nb, 1, none⟩ = some (.slice Ad nd cd) := HMc.out.n.bx.cell 1
    have o0 : wc.cell? ⟨w.heap.size, 0, none⟩ = some (.slice od.1.A od.1.n od.1.c) := HMc.out.bo.cell 0
    have o1 : wc.cell? ⟨w.heap.size, 1, none⟩ = some (.slice od.2.A od.2.n od.2.c) := HMc.out.bo.cell 1
    go_upto_region 23 with (fail)
    clear k0 k1 o0 o1
    obtain ⟨M1, hM1⟩ : ∃ M : World → Prop, M = fun wr => AnM wl nb An nn cn ns Ad nd cd ds w.heap.size (w.heap.size + 1) od kk rw Ag mg cg ls wr ∧ SlX wr wl.heap.size 3 Ab mg cb (bs.flatMap Lk.cells) ∧ Blk wr wc.heap.size 27 #[.slice An nn cn, .slice Ad nd cd, .slice od.1.A od.1.n od.1.c, .slice od.2.A od.2.n od.2.c] := ⟨_, rfl⟩
    have HK1 : Hid (Keep wl.heap.size M1) := by unfold Hid; rw [hM1]; exact (Keep.anm HLL.out).and (Keep.slx.and (Keep.blk (by omega)))
    have HA1 : Hid (∀ wr, M1 wr → AnM wl nb An nn cn ns Ad nd cd ds w.heap.size (w.heap.size + 1) od kk rw Ag mg cg ls wr ∧ SlX wr wl.heap.size 3 Ab mg cb (bs.flatMap Lk.cells) ∧ Blk wr wc.heap.size 27 #[.slice An nn cn, .slice Ad nd cd, .slice od.1.A od.1.n od.1.c, .slice od.2.A od.2.n od.2.c]) := fun wr h => by rw [hM1] at h; exact h
    have HM1 : Hid (M1 (wc.alloc (.cells #[.slice An nn cn, .slice Ad nd cd, .slice od.1.A od.1.n od.1.c, .slice od.2.A od.2.n od.2.c] 27))) := by
      unfold Hid; rw [hM1]
      exact ⟨HMc.out.later ((Below.refl _ _).alloc (Nat.le_refl _) _), HXb.out.alloc _, Blk.new _ _ _⟩
    clear hM1 HMc HXb
    generalize World.alloc wc _ = W1 at *
    refine wp_loop_u1 [(11, 0), (0, 1), (6, 0), (0, 1), (0, 0), (12, 1), (0, 0), (8, 1), (0, 0), (4, 1), (103, 0), (0, 2), (200, 1), (0, 0)] 155 (2) (PlR2 M1 2) (by (try dsimp only [gt]); exact ⟨0, rfl, Nat.zero_le _, rfl, HM1⟩) (by kernel_rfl) ?_
    intro u1 p155 gk wr a hrel ha J1 K1 hJ1 hK1
    dsimp only [relaxR, Go.Proofs.YtbjndpjligpjaaaDoor.v1, Nat.reduceAdd] at ha
    subst ha
    clear HM1
    obtain ⟨i, rfl, hi, rfl, hM⟩ := hrel
    by_cases hi2 : i < 2; rotate_left
    · obtain rfl : i = 2 := by omega
      go_wp2_with fail
      refine (awake_any wr (HA1.out _ hM.out).1.n.la).mono ?_
      rintro e w17 ⟨rfl, hb17⟩
      have HM17 := Lib.hid (HK1.out.later hM.out hb17)
      clear hb17 hM
      go_wp2_with fail
      go_ret
      exact ⟨rfl, HBL.out.trans ((HA1.out _ HM17.out).1.n.bl.mono HBL.out.size)⟩
    have hpick : ∃ (Ax : Option Addr) (nx cx : Nat) (nsx : List Nd) (Dx : Option Addr) (mx dx : Nat) (dsx : List Dv), Pick M1 Ax nx cx nsx Dx mx dx dsx ∧ wr.cell? ⟨wc.heap.size, i * 2, none⟩ = some (.slice Ax nx cx) ∧ wr.cell? ⟨wc.heap.size, i * 2 + 1, none⟩ = some (.slice Dx mx dx) := by
      have hcs := net_two (HA1.out _ hM.out).2.2
      rcases (show i = 0 ∨ i = 1 by omega) with rfl | rfl
      · exact ⟨An, nn, cn, ns, Ad, nd, cd, ds, ⟨fun h => (HA1.out _ h).1.n.hn.1, fun h => (HA1.out _ h).1.n.hd.1, fun h => (HA1.out _ h).1.n.la, HNM.out.1, HNM.out.2, by omega⟩, hcs.1.1, hcs.1.2⟩
      · exact ⟨od.1.A, od.1.n, od.1.c, od.1.l, od.2.A, od.2.n, od.2.c, od.2.l, ⟨fun h => (HA1.out _ h).1.sn.more (Nat.le_of_lt (HA1.out _ h).1.bo.lt), fun h => (HA1.out _ h).1.sd.more (Nat.le_of_lt (HA1.out _ h).1.bo.lt), fun h => (HA1.out _ h).1.n.la, HNS.out, HDS.out, by omega⟩, hcs.2.1, hcs.2.2⟩
    obtain ⟨Ax, nx, cx, nsx, Dx, mx, dx, dsx, hPX, x0, x1⟩ := hpick
    have HPX := Lib.hid hPX
    clear hPX
    have hi2I : (i : Int) < 2 := by omega
    go_upto_region 26 with (fail)
    clear x0 x1
    obtain ⟨xb, hxb⟩ : ∃ x, x = wr.heap.size := ⟨_, rfl⟩
    have hgx : wl.heap.size < xb := by rw [hxb]; exact (HA1.out _ hM.out).1.n.dk.lt
    obtain ⟨M2, hM2⟩ : ∃ M : World → Prop, M = fun w' => M1 w' ∧ Blk w' xb 27 #[.slice Ax nx cx, .slice Dx mx dx] ∧ Blk w' (xb + 1) 23 #[.slice Ag mg cg, .slice Ab mg cb, .slice rw.A rw.n rw.c] := ⟨_, rfl⟩
    have HK2 : Hid (Keep wl.heap.size M2) := by unfold Hid; rw [hM2]; exact HK1.out.and ((Keep.blk (by omega)).and (Keep.blk (by omega)))
    have HA2 : Hid (∀ w', M2 w' → M1 w' ∧ Blk w' xb 27 #[.slice Ax nx cx, .slice Dx mx dx] ∧ Blk w' (xb + 1) 23 #[.slice Ag mg cg, .slice Ab mg cb, .slice rw.A rw.n rw.c]) := fun w' h => by rw [hM2] at h; exact h
    have HM2 : Hid (M2 ((wr.alloc (.cells #[.slice Ax nx cx, .slice Dx mx dx] 27)).alloc (.cells #[.slice Ag mg cg, .slice Ab mg cb, .slice rw.A rw.n rw.c] 23))) := by
      unfold Hid; rw [hM2, hxb]
      refine ⟨HK1.out.later hM.out (((Below.refl _ _).alloc (Nat.le_refl _) _).alloc (by simp) _), (Blk.new _ _ _).alloc _, ?_⟩
      have := Blk.new (wr.alloc (.cells #[.slice Ax nx cx, .slice Dx mx dx] 27)) 23 #[.slice Ag mg cg, .slice Ab mg cb, .slice rw.A rw.n rw.c]
      simpa using this
    have HPX2 : Hid (Pick M2 Ax nx cx nsx Dx mx dx dsx) := ⟨fun h => HPX.out.n (HA2.out _ h).1, fun h => HPX.out.d (HA2.out _ h).1, fun h => HPX.out.la (HA2.out _ h).1, HPX.out.sn, HPX.out.sd, HPX.out.le⟩
    have HD2 : Hid (∀ w', M2 w' → wl.heap.size < w'.heap.size) := fun w' h => (HA1.out _ (HA2.out _ h).1).1.n.dk.lt
    rw [← hxb]
    clear hM2 hxb hM HPX
    generalize World.alloc (World.alloc wr _) _ = W2 at *
    clear wr
    refine wp_loop_u1 [(11, 0), (0, 1), (8, 0), (12, 1), (0, 0), (8, 1), (0, 0), (4, 1), (112, 0), (0, 2), (190, 1), (1, 0)] 164 (3) (PlR2 M2 3) (by (try dsimp only [gt]); exact ⟨0, rfl, Nat.zero_le _, rfl, HM2⟩) (by kernel_rfl) ?_
    intro u2 p164 gk wr a hrel ha J2 K2 hJ2 hK2
    dsimp only [relaxR, Go.Proofs.YtbjndpjligpjaaaDoor.v1, Nat.reduceAdd] at ha
    subst ha
    clear HM2
    obtain ⟨j, rfl, hj, rfl, hM2⟩ := hrel
    by_cases hj3 : j < 3; rotate_left
    · obtain rfl : j = 3 := by omega
      go_wp2_with fail
      refine Handed.intro (2 - (i + 1)) (by omega) (hJ1 _ _ _ (LpI1.back 155 ?_ (by kernel_rfl)))
      dsimp only [gt]
      exact ⟨i + 1, by go_num, by omega, rfl, (HA2.out _ hM2.out).1⟩
    have hpickl : ∃ (Ay : Option Addr) (my cy : Nat) (lsy : List Lk), PickL M2 Ay my cy lsy ∧ wr.cell? ⟨xb + 1, j, none⟩ = some (.slice Ay my cy) := by
      have hcs := row_three (HA2.out _ hM2.out).2.2
      rcases (show j = 0 ∨ j = 1 ∨ j = 2 by omega) with rfl | rfl | rfl
      · exact ⟨Ag, mg, cg, ls, fun _ h => (HA1.out _ (HA2.out _ h).1).1.sg.1, hcs.1⟩
      · exact ⟨Ab, mg, cb, bs, fun _ h => (HA1.out _ (HA2.out _ h).1).2.1.1, hcs.2.1⟩
      · exact ⟨rw.A, rw.n, rw.c, rw.l, fun _ h => (HA1.out _ (HA2.out _ h).1).1.sr.more (Nat.le_of_lt (HA1.out _ (HA2.out _ h).1).1.bo.lt), hcs.2.2⟩
    obtain ⟨Ay, my, cy, lsy, hPL, y0⟩ := hpickl
    have HPL := Lib.hid hPL
    clear hPL
    have HLY : Hid (lsy.length = my) := (HPL.out _ hM2.out).len (fun _ => rfl) (by decide)
    have hmx := HPX2.out.le
    have hj3I : (j : Int) < 3 := by omega
    have k0 : wr.cell? ⟨xb, 0, none⟩ = some (.slice Ax nx cx) := (HA2.out _ hM2.out).2.1.cell 0
    have k1 : wr.cell? ⟨xb, 1, none⟩ = some (.slice Dx mx dx) := (HA2.out _ hM2.out).2.1.cell 1
    go_wp2_with fail
    clear k0 k1 y0
    refine (gaps_any Ax Dx Ay nx cx mx dx my cy wr.heap.size wr.heap.size wr.heap.size nsx dsx lsy wr (HPX2.out.la hM2.out) (HPX2.out.n hM2.out) (HPX2.out.d hM2.out) (HPL.out _ hM2.out) (Nat.le_refl _) (Nat.le_refl _) (Nat.le_refl _) HPX2.out.le HPX2.out.sn HPX2.out.sd).mono ?_
    intro e v1 hpost
    obtain ⟨E1, m1, c1, rfl, hO, hb⟩ := hpost.any
    have hz := HD2.out _ hM2.out
    have HMv1 := Lib.hid (HK2.out.later hM2.out hb.out)
    have HE1_1 := Lib.hid (SlX.of_own (g := wl.heap.size) hO.out (by omega))
    clear hpost hO hb hz hM2
    have k0 : v1.cell? ⟨xb, 0, none⟩ = some (.slice Ax nx cx) := (HA2.out _ HMv1.out).2.1.cell 0
    have k1 : v1.cell? ⟨xb, 1, none⟩ = some (.slice Dx mx dx) := (HA2.out _ HMv1.out).2.1.cell 1
    go_wp2_with fail
    clear k0 k1
    refine (rgaps_any Ax Dx Ay nx cx mx dx my cy v1.heap.size v1.heap.size v1.heap.size nsx dsx lsy v1 (HPX2.out.n HMv1.out) (HPX2.out.d HMv1.out) (HPL.out _ HMv1.out) (Nat.le_refl _) (Nat.le_refl _) (Nat.le_refl _) HPX2.out.le HPX2.out.sn HPX2.out.sd).mono ?_
    intro e v2 hpost
    obtain ⟨E2, m2, c2, rfl, hO, hb⟩ := hpost.any
    have hz := HD2.out _ HMv1.out
    have HMv2 := Lib.hid (HK2.out.later HMv1.out hb.out)
    have HE1_2 := Lib.hid (HE1_1.out.below hb.out)
    have HE2_2 := Lib.hid (SlX.of_own (g := wl.heap.size) hO.out (by omega))
    clear hpost hO hb hz HMv1 HE1_1
    have k0 : v2.cell? ⟨xb, 0, none⟩ = some (.slice Ax nx cx) := (HA2.out _ HMv2.out).2.1.cell 0
    have k1 : v2.cell? ⟨xb, 1, none⟩ = some (.slice Dx mx dx) := (HA2.out _ HMv2.out).2.1.cell 1
    go_wp2_with fail
    clear k0 k1
    refine (earths_any Ax Dx Ay nx cx mx dx my cy v2.heap.size v2.heap.size v2.heap.size nsx dsx lsy v2 (HPX2.out.la HMv2.out) (HPX2.out.n HMv2.out) (HPX2.out.d HMv2.out) (HPL.out _ HMv2.out) (Nat.le_refl _) (Nat.le_refl _) (Nat.le_refl _) HPX2.out.le HPX2.out.sn HPX2.out.sd).mono ?_
    intro e v3 hpost
    obtain ⟨E3, m3, c3, rfl, hO, hb⟩ := hpost.any
    have hz := HD2.out _ HMv2.out
    have HMv3 := Lib.hid (HK2.out.later HMv2.out hb.out)
    have HE1_3 := Lib.hid (HE1_2.out.below hb.out)
    have HE2_3 := Lib.hid (HE2_2.out.below hb.out)
    have HE3_3 := Lib.hid (SlX.of_own (g := wl.heap.size) hO.out (by omega))
    clear hpost hO hb hz HMv2 HE1_2 HE2_2
    have k0 : v3.cell? ⟨xb, 0, none⟩ = some (.slice Ax nx cx) := (HA2.out _ HMv3.out).2.1.cell 0
    have k1 : v3.cell? ⟨xb, 1, none⟩ = some (.slice Dx mx dx) := (HA2.out _ HMv3.out).2.1.cell 1
    go_wp2_with fail
    clear k0 k1
    refine (rearths_any Ax Dx Ay nx cx mx dx my cy v3.heap.size v3.heap.size v3.heap.size nsx dsx lsy v3 (HPX2.out.n HMv3.out) (HPX2.out.d HMv3.out) (HPL.out _ HMv3.out) (Nat.le_refl _) (Nat.le_refl _) (Nat.le_refl _) HPX2.out.le HPX2.out.sn HPX2.out.sd).mono ?_
    intro e v4 hpost
    obtain ⟨E4, m4, c4, rfl, hO, hb⟩ := hpost.any
    have hz := HD2.out _ HMv3.out
    have HMv4 := Lib.hid (HK2.out.later HMv3.out hb.out)
    have HE1_4 := Lib.hid (HE1_3.out.below hb.out)
    have HE2_4 := Lib.hid (HE2_3.out.below hb.out)
    have HE3_4 := Lib.hid (HE3_3.out.below hb.out)
    have HE4_4 := Lib.hid (SlX.of_own (g := wl.heap.size) hO.out (by omega))
    clear hpost hO hb hz HMv3 HE1_3 HE2_3 HE3_3
    have k0 : v4.cell? ⟨xb, 0, none⟩ = some (.slice Ax nx cx) := (HA2.out _ HMv4.out).2.1.cell 0
    have k1 : v4.cell? ⟨xb, 1, none⟩ = some (.slice Dx mx dx) := (HA2.out _ HMv4.out).2.1.cell 1
    go_wp2_with fail
    clear k0 k1
    refine (worst_any Ax Dx Ay nx cx mx dx my cy v4.heap.size v4.heap.size v4.heap.size nsx dsx lsy v4 (HPX2.out.la HMv4.out) (HPX2.out.n HMv4.out) (HPX2.out.d HMv4.out) (HPL.out _ HMv4.out) (Nat.le_refl _) (Nat.le_refl _) (Nat.le_refl _) HPX2.out.le HPX2.out.sn HPX2.out.sd).mono ?_
    intro e v5 hpost
    obtain ⟨E5, m5, c5, rfl, hO, hb⟩ := hpost.any
    have hz := HD2.out _ HMv4.out
    have HMv5 := Lib.hid (HK2.out.later HMv4.out hb.out)
    have HE1_5 := Lib.hid (HE1_4.out.below hb.out)
    have HE2_5 := Lib.hid (HE2_4.out.below hb.out)
    have HE3_5 := Lib.hid (HE3_4.out.below hb.out)
    have HE4_5 := Lib.hid (HE4_4.out.below hb.out)
    have HE5_5 := Lib.hid (SlX.of_own (g := wl.heap.size) hO.out (by omega))
    clear hpost hO hb hz HMv4 HE1_4 HE2_4 HE3_4 HE4_4
    have k0 : v5.cell? ⟨xb, 0, none⟩ = some (.slice Ax nx cx) := (HA2.out _ HMv5.out).2.1.cell 0
    have k1 : v5.cell? ⟨xb, 1, none⟩ = some (.slice Dx mx dx) := (HA2.out _ HMv5.out).2.1.cell 1
    go_wp2_with fail
    clear k0 k1
    refine (rworst_any Ax Dx Ay nx cx mx dx my cy v5.heap.size v5.heap.size v5.heap.size nsx dsx lsy v5 (HPX2.out.n HMv5.out) (HPX2.out.d HMv5.out) (HPL.out _ HMv5.out) (Nat.le_refl _) (Nat.le_refl _) (Nat.le_refl _) HPX2.out.le HPX2.out.sn HPX2.out.sd).mono ?_
    intro e v6 hpost
    obtain ⟨E6, m6, c6, rfl, hO, hb⟩ := hpost.any
    have hz := HD2.out _ HMv5.out
    have HMv6 := Lib.hid (HK2.out.later HMv5.out hb.out)
    have HE1_6 := Lib.hid (HE1_5.out.below hb.out)
    have HE2_6 := Lib.hid (HE2_5.out.below hb.out)
    have HE3_6 := Lib.hid (HE3_5.out.below hb.out)
    have HE4_6 := Lib.hid (HE4_5.out.below hb.out)
    have HE5_6 := Lib.hid (HE5_5.out.below hb.out)
    have HE6_6 := Lib.hid (SlX.of_own (g := wl.heap.size) hO.out (by omega))
    clear hpost hO hb hz HMv5 HE1_5 HE2_5 HE3_5 HE4_5 HE5_5
    obtain ⟨M3, hM3⟩ : ∃ M : World → Prop, M = fun w' => M2 w' ∧ SlX w' wl.heap.size 1 E1 m1 c1 (intsV (resI (locksErr nsx dsx lsy) (thoTo dsx lsy 1 gapB mx))) ∧ SlX w' wl.heap.size 1 E2 m2 c2 (intsV (resI (locksErr nsx dsx lsy) (thoTo dsx lsy 1 gapB mx))) ∧ SlX w' wl.heap.size 1 E3 m3 c3 (intsV (resI (locksErr nsx dsx lsy) (thoTo dsx lsy 2 (fun k => k == 4) mx))) ∧ SlX w' wl.heap.size 1 E4 m4 c4 (intsV (resI (locksErr nsx dsx lsy) (thoTo dsx lsy 2 (fun k => k == 4) mx))) ∧ SlX w' wl.heap.size 1 E5 m5 c5 (intsV (resI (locksErr nsx dsx lsy) (wrsTo dsx lsy mx))) ∧ SlX w' wl.heap.size 1 E6 m6 c6 (intsV (resI (locksErr nsx dsx lsy) (wrsTo dsx lsy mx))) := ⟨_, rfl⟩
    have HK3 : Hid (Keep wl.heap.size M3) := by unfold Hid; rw [hM3]; exact HK2.out.and (Keep.slx.and (Keep.slx.and (Keep.slx.and (Keep.slx.and (Keep.slx.and Keep.slx)))))
    have HA3 : Hid (∀ w', M3 w' → M2 w' ∧ SlX w' wl.heap.size 1 E1 m1 c1 (intsV (resI (locksErr nsx dsx lsy) (thoTo dsx lsy 1 gapB mx))) ∧ SlX w' wl.heap.size 1 E2 m2 c2 (intsV (resI (locksErr nsx dsx lsy) (thoTo dsx lsy 1 gapB mx))) ∧ SlX w' wl.heap.size 1 E3 m3 c3 (intsV (resI (locksErr nsx dsx lsy) (thoTo dsx lsy 2 (fun k => k == 4) mx))) ∧ SlX w' wl.heap.size 1 E4 m4 c4 (intsV (resI (locksErr nsx dsx lsy) (thoTo dsx lsy 2 (fun k => k == 4) mx))) ∧ SlX w' wl.heap.size 1 E5 m5 c5 (intsV (resI (locksErr nsx dsx lsy) (wrsTo dsx lsy mx))) ∧ SlX w' wl.heap.size 1 E6 m6 c6 (intsV (resI (locksErr nsx dsx lsy) (wrsTo dsx lsy mx)))) := fun w' h => by rw [hM3] at h; exact h
    have HM3 : Hid (M3 v6.drew) := by unfold Hid; rw [hM3]; exact ⟨HK2.out.later HMv6.out (Below.refl _ _).drew, HE1_6.out.below (Below.refl _ _).drew, HE2_6.out.below (Below.refl _ _).drew, HE3_6.out.below (Below.refl _ _).drew, HE4_6.out.below (Below.refl _ _).drew, HE5_6.out.below (Below.refl _ _).drew, HE6_6.out.below (Below.refl _ _).drew⟩
    clear hM3 HMv6 HE1_6 HE2_6 HE3_6 HE4_6 HE5_6 HE6_6
    have k0 : v6.cell? ⟨xb, 0, none⟩ = some (.slice Ax nx cx) := (HA2.out _ (HA3.out _ HM3.out).1).2.1.cell 0
    have k1 : v6.cell? ⟨xb, 1, none⟩ = some (.slice Dx mx dx) := (HA2.out _ (HA3.out _ HM3.out).1).2.1.cell 1
    have HCS := Lib.hid (And.intro k0 k1)
    obtain ⟨er, her⟩ : ∃ er, locksErr nsx dsx lsy = er := ⟨_, rfl⟩
    rw [her] at HA3 ⊢
    have HER := Lib.hid her
    clear her k0 k1
    have q0 : (er != er) = false := by simp
    go_upto_region 34 with (fail)
    refine wp_region_ord (S := fun W' => W'.cell? ⟨xb, 0, none⟩ = some (.slice Ax nx cx) ∧ W'.cell? ⟨xb, 1, none⟩ = some (.slice Dx mx dx)) (J := []) (n := _) ((0, true) :: (1, true) :: (3, true) :: (4, true) :: (2, false) :: (5, false) :: (6, true) :: (7, true) :: (8, true) :: (9, true) :: (10, true) :: (11, true) :: (12, true) :: (13, true) :: (14, true) :: (15, true) :: (16, true) :: (17, true) :: (18, true) :: (19, true) :: (20, true) :: (21, true) :: (22, true) :: (23, true) :: (24, true) :: (25, false) :: (26, true) :: (27, true) :: (28, true) :: (29, true) :: (30, true) :: (31, false) :: (32, true) :: (33, true) :: (34, true) :: (35, true) :: (36, true) :: (37, false) :: (38, true) :: (39, true) :: []) (by as_aux_lemma => kernel_rfl) (by rfl) (base_cons (k := 20) (by go_simp; rfl) (base_cons (k := 22) (by go_simp; rfl) (base_cons (k := 24) (by go_simp; rfl) (base_cons (k := 26) (by go_simp; rfl) (base_cons (k := 28) (by go_simp; rfl) (base_cons (k := 30) (by go_simp; rfl) (base_cons (k := 32) (by go_simp; rfl) (base_cons (k := 34) (by go_simp; rfl) (base_cons (k := 23) (by go_simp; rfl) (base_cons (k := 25) (by go_simp; rfl) (base_cons (k := 27) (by go_simp; rfl) (base_cons (k := 29) (by go_simp; rfl) (base_cons (k := 31) (by go_simp; rfl) (base_cons (k := 33) (by go_simp; rfl) base_nil)))))))))))))) ?_ (fun _ _ _ _ _ h => h) (fun Q2 A hsz hbase hn2 hHeld => ?_)
    · exact HCS.out
    try dsimp only at hHeld
    obtain ⟨b20, b22, b24, b26, b28, b30, b32, b34, b23, b25, b27, b29, b31, b33, -⟩ := hbase
    refine ord_take (i := 0) (d := 204) (v := ?_) rfl rfl (wanted_none rfl) hHeld (fun ρ hρ w hSw => ?_) ?_
    rotate_left
    · (have e20 := Eq.trans (hρ.tmp hsz 20 rfl) (lkp_base b20); clear hρ; (try dsimp only at hSw); go_simp; try with_reducible rfl)
    show wpOrd _ _ _ _ _ _ _ _
    refine ord_move (i := 1) (d := 205) (v := ?_) rfl rfl rfl (wanted_none rfl) hHeld (fun ρ hρ => ?_) ?_
    rotate_left
    · (have e22 := Eq.trans (hρ.tmp hsz 22 rfl) (miss1 rfl (lkp_base b22)); exact e22)
    show wpOrd _ _ _ _ _ _ _ _
    refine ord_take (i := 3) (d := 207) (v := ?_) rfl rfl (wanted_none rfl) hHeld (fun ρ hρ w hSw => ?_) ?_
    rotate_left
    · (have e20 := Eq.trans (hρ.tmp hsz 20 rfl) (miss1 rfl (miss1 rfl (lkp_base b20))); clear hρ; (try dsimp only at hSw); go_simp; try with_reducible rfl)
    show wpOrd _ _ _ _ _ _ _ _
    refine ord_move (i := 4) (d := 208) (v := ?_) rfl rfl rfl (wanted_none rfl) hHeld (fun ρ hρ => ?_) ?_
    rotate_left
    · (have e22 := Eq.trans (hρ.tmp hsz 22 rfl) (miss1 rfl (miss1 rfl (miss1 rfl (lkp_base b22)))); exact e22)
    show wpOrd _ _ _ _ _ _ _ _
    refine ord_call (i := 2) (d := 206) (vs := ?_) rfl rfl rfl (wanted_none rfl) (fun ρ hρ => ?_) ?_ ?_
    rotate_left
    · (have e204 := Eq.trans (hρ.tmp hsz 204 rfl) (miss1 rfl (miss1 rfl (miss1 rfl lkp_hit))); have e205 := Eq.trans (hρ.tmp hsz 205 rfl) (miss1 rfl (miss1 rfl lkp_hit)); simp only [List.map_toArray, List.map_cons, List.map_nil, e204, e205]; try with_reducible rfl)
    · (intro w; go_simp)
    refine (lcheck_any Ax Dx Ay nx cx mx dx my cy v6.drew.heap.size v6.drew.heap.size v6.drew.heap.size nsx dsx lsy v6.drew (HPX2.out.la (HA3.out _ HM3.out).1) (HPX2.out.n (HA3.out _ HM3.out).1) (HPX2.out.d (HA3.out _ HM3.out).1) (HPL.out _ (HA3.out _ HM3.out).1) (Nat.le_refl _) (Nat.le_refl _) (Nat.le_refl _) HPX2.out.sn HPX2.out.sd).mono ?_
    rintro e u1 ⟨rfl, hb⟩
    rw [HER.out]
    have HM_u1 := Lib.hid (HK3.out.later HM3.out hb)
    clear hb
    refine ⟨_, rfl, fun _ => ?_, fun hHeld' => ?_⟩
    · exact ⟨(HA2.out _ (HA3.out _ HM_u1.out).1).2.1.cell 0, (HA2.out _ (HA3.out _ HM_u1.out).1).2.1.cell 1⟩
    replace hHeld := hHeld' rfl
    clear hHeld'
    try dsimp only at hHeld
    show wpOrd _ _ _ _ _ _ _ _
    refine ord_call (i := 5) (d := 209) (vs := ?_) rfl rfl rfl (wanted_none rfl) (fun ρ hρ => ?_) ?_ ?_
    rotate_left
    · (have e207 := Eq.trans (hρ.tmp hsz 207 rfl) (miss1 rfl (miss1 rfl lkp_hit)); have e208 := Eq.trans (hρ.tmp hsz 208 rfl) (miss1 rfl lkp_hit); simp only [List.map_toArray, List.map_cons, List.map_nil, e207, e208]; try with_reducible rfl)
    · (intro w; go_simp)
    refine (rlcheck_any Ax Dx Ay nx cx mx dx my cy u1.heap.size u1.heap.size u1.heap.size nsx dsx lsy u1 (HPX2.out.n (HA3.out _ HM_u1.out).1) (HPX2.out.d (HA3.out _ HM_u1.out).1) (HPL.out _ (HA3.out _ HM_u1.out).1) (Nat.le_refl _) (Nat.le_refl _) (Nat.le_refl _) HPX2.out.sn HPX2.out.sd).mono ?_
    rintro e u2 ⟨rfl, hb⟩
    rw [HER.out]
    have HM_u2 := Lib.hid (HK3.out.later HM_u1.out hb)
    clear hb
    refine ⟨_, rfl, fun _ => ?_, fun hHeld' => ?_⟩
    · exact ⟨(HA2.out _ (HA3.out _ HM_u2.out).1).2.1.cell 0, (HA2.out _ (HA3.out _ HM_u2.out).1).2.1.cell 1⟩
    replace hHeld := hHeld' rfl
    clear hHeld'
    try dsimp only at hHeld
    show wpOrd _ _ _ _ _ _ _ _
    refine ord_take (i := 6) (d := 210) (v := ?_) rfl rfl (wanted_none rfl) hHeld (fun ρ hρ w hSw => ?_) ?_
    rotate_left
    · (have e206 := Eq.trans (hρ.tmp hsz 206 rfl) (miss1 rfl lkp_hit); have e209 := Eq.trans (hρ.tmp hsz 209 rfl) lkp_hit; clear hρ; (try dsimp only at hSw); go_simp; try with_reducible rfl)
    show wpOrd _ _ _ _ _ _ _ _
    refine ord_move (i := 7) (d := 211) (v := ?_) rfl rfl rfl (wanted_none rfl) hHeld (fun ρ hρ => ?_) ?_
    rotate_left
    · (have e210 := Eq.trans (hρ.tmp hsz 210 rfl) lkp_hit; exact e210)
    show wpOrd _ _ _ _ _ _ _ _
    refine ord_move (i := 8) (d := 212) (v := ?_) rfl rfl rfl (wanted_yes (j := 7) (dj := 211) (b := false) rfl hsz rfl rfl rfl lkp_hit) hHeld (fun ρ hρ => ?_) ?_
    rotate_left
    · (have e24 := Eq.trans (hρ.tmp hsz 24 rfl) (miss4 rfl rfl rfl rfl (miss4 rfl rfl rfl rfl (lkp_base b24))); exact e24)
    show wpOrd _ _ _ _ _ _ _ _
    refine ord_move (i := 9) (d := 213) (v := ?_) rfl rfl rfl (wanted_yes (j := 7) (dj := 211) (b := false) rfl hsz rfl rfl rfl (miss1 rfl lkp_hit)) hHeld (fun ρ hρ => ?_) ?_
    rotate_left
    · (have e26 := Eq.trans (hρ.tmp hsz 26 rfl) (miss4 rfl rfl rfl rfl (miss4 rfl rfl rfl rfl (miss1 rfl (lkp_base b26)))); exact e26)
    show wpOrd _ _ _ _ _ _ _ _
    refine ord_take (i := 10) (d := 214) (v := ?_) rfl rfl (wanted_yes (j := 7) (dj := 211) (b := false) rfl hsz rfl rfl rfl (miss1 rfl (miss1 rfl lkp_hit))) hHeld (fun ρ hρ w hSw => ?_) ?_
    rotate_left
    · (have e212 := Eq.trans (hρ.tmp hsz 212 rfl) (miss1 rfl lkp_hit); have e213 := Eq.trans (hρ.tmp hsz 213 rfl) lkp_hit; clear hρ; (try dsimp only at hSw); go_simp; try with_reducible rfl)
    show wpOrd _ _ _ _ _ _ _ _
    refine ord_take (i := 11) (d := 215) (v := ?_) rfl rfl (wanted_none rfl) hHeld (fun ρ hρ w hSw => ?_) ?_
    rotate_left
    · (have hc := hρ.const; have e211 := Eq.trans (hρ.tmp hsz 211 rfl) (miss1 rfl (miss1 rfl (miss1 rfl lkp_hit))); have e214 := Eq.trans (hρ.tmp hsz 214 rfl) lkp_hit; clear hρ; (try dsimp only at hSw); go_simp; try with_reducible rfl)
    show wpOrd _ _ _ _ _ _ _ _
    refine ord_move (i := 12) (d := 216) (v := ?_) rfl rfl rfl (wanted_none rfl) hHeld (fun ρ hρ => ?_) ?_
    rotate_left
    · (have e215 := Eq.trans (hρ.tmp hsz 215 rfl) lkp_hit; exact e215)
    show wpOrd _ _ _ _ _ _ _ _
    refine ord_move (i := 13) (d := 217) (v := ?_) rfl rfl rfl (wanted_yes (j := 12) (dj := 216) (b := false) rfl hsz rfl rfl rfl lkp_hit) hHeld (fun ρ hρ => ?_) ?_
    rotate_left
    · (have e28 := Eq.trans (hρ.tmp hsz 28 rfl) (miss4 rfl rfl rfl rfl (miss4 rfl rfl rfl rfl (miss4 rfl rfl rfl rfl (miss1 rfl (lkp_base b28))))); exact e28)
    show wpOrd _ _ _ _ _ _ _ _
    refine ord_move (i := 14) (d := 218) (v := ?_) rfl rfl rfl (wanted_yes (j := 12) (dj := 216) (b := false) rfl hsz rfl rfl rfl (miss1 rfl lkp_hit)) hHeld (fun ρ hρ => ?_) ?_
    rotate_left
    · (have e30 := Eq.trans (hρ.tmp hsz 30 rfl) (miss4 rfl rfl rfl rfl (miss4 rfl rfl rfl rfl (miss4 rfl rfl rfl rfl (miss1 rfl (miss1 rfl (lkp_base b30)))))); exact e30)
    show wpOrd _ _ _ _ _ _ _ _
    refine ord_take (i := 15) (d := 219) (v := ?_) rfl rfl (wanted_yes (j := 12) (dj := 216) (b := false) rfl hsz rfl rfl rfl (miss1 rfl (miss1 rfl lkp_hit))) hHeld (fun ρ hρ w hSw => ?_) ?_
    rotate_left
    · (have e217 := Eq.trans (hρ.tmp hsz 217 rfl) (miss1 rfl lkp_hit); have e218 := Eq.trans (hρ.tmp hsz 218 rfl) lkp_hit; clear hρ; (try dsimp only at hSw); go_simp; try with_reducible rfl)
    show wpOrd _ _ _ _ _ _ _ _
    refine ord_take (i := 16) (d := 220) (v := ?_) rfl rfl (wanted_none rfl) hHeld (fun ρ hρ w hSw => ?_) ?_
    rotate_left
    · (have hc := hρ.const; have e216 := Eq.trans (hρ.tmp hsz 216 rfl) (miss1 rfl (miss1 rfl (miss1 rfl lkp_hit))); have e219 := Eq.trans (hρ.tmp hsz 219 rfl) lkp_hit; clear hρ; (try dsimp only at hSw); go_simp; try with_reducible rfl)
    show wpOrd _ _ _ _ _ _ _ _
    refine ord_move (i := 17) (d := 221) (v := ?_) rfl rfl rfl (wanted_none rfl) hHeld (fun ρ hρ => ?_) ?_
    rotate_left
    · (have e220 := Eq.trans (hρ.tmp hsz 220 rfl) lkp_hit; exact e220)
    show wpOrd _ _ _ _ _ _ _ _
    refine ord_move (i := 18) (d := 222) (v := ?_) rfl rfl rfl (wanted_yes (j := 17) (dj := 221) (b := false) rfl hsz rfl rfl rfl lkp_hit) hHeld (fun ρ hρ => ?_) ?_
    rotate_left
    · (have e32 := Eq.trans (hρ.tmp hsz 32 rfl) (miss4 rfl rfl rfl rfl (miss4 rfl rfl rfl rfl (miss4 rfl rfl rfl rfl (miss4 rfl rfl rfl rfl (miss1 rfl (miss1 rfl (lkp_base b32))))))); exact e32)
    show wpOrd _ _ _ _ _ _ _ _
    refine ord_move (i := 19) (d := 223) (v := ?_) rfl rfl rfl (wanted_yes (j := 17) (dj := 221) (b := false) rfl hsz rfl rfl rfl (miss1 rfl lkp_hit)) hHeld (fun ρ hρ => ?_) ?_
    rotate_left
    · (have e34 := Eq.trans (hρ.tmp hsz 34 rfl) (miss4 rfl rfl rfl rfl (miss4 rfl rfl rfl rfl (miss4 rfl rfl rfl rfl (miss4 rfl rfl rfl rfl (miss1 rfl (miss1 rfl (miss1 rfl (lkp_base b34)))))))); exact e34)
    show wpOrd _ _ _ _ _ _ _ _
    refine ord_take (i := 20) (d := 224) (v := ?_) rfl rfl (wanted_yes (j := 17) (dj := 221) (b := false) rfl hsz rfl rfl rfl (miss1 rfl (miss1 rfl lkp_hit))) hHeld (fun ρ hρ w hSw => ?_) ?_
    rotate_left
    · (have e222 := Eq.trans (hρ.tmp hsz 222 rfl) (miss1 rfl lkp_hit); have e223 := Eq.trans (hρ.tmp hsz 223 rfl) lkp_hit; clear hρ; (try dsimp only at hSw); go_simp; try with_reducible rfl)
    show wpOrd _ _ _ _ _ _ _ _
    refine ord_take (i := 21) (d := 225) (v := ?_) rfl rfl (wanted_none rfl) hHeld (fun ρ hρ w hSw => ?_) ?_
    rotate_left
    · (have hc := hρ.const; have e221 := Eq.trans (hρ.tmp hsz 221 rfl) (miss1 rfl (miss1 rfl (miss1 rfl lkp_hit))); have e224 := Eq.trans (hρ.tmp hsz 224 rfl) lkp_hit; clear hρ; (try dsimp only at hSw); go_simp; try with_reducible rfl)
    show wpOrd _ _ _ _ _ _ _ _
    refine ord_move (i := 22) (d := 226) (v := ?_) rfl rfl rfl (wanted_none rfl) hHeld (fun ρ hρ => ?_) ?_
    rotate_left
    · (have e225 := Eq.trans (hρ.tmp hsz 225 rfl) lkp_hit; exact e225)
    show wpOrd _ _ _ _ _ _ _ _
    refine ord_move (i := 23) (d := 227) (v := ?_) rfl rfl rfl (wanted_yes (j := 22) (dj := 226) (b := false) rfl hsz rfl rfl rfl lkp_hit) hHeld (fun ρ hρ => ?_) ?_
    rotate_left
    · (have e23 := Eq.trans (hρ.tmp hsz 23 rfl) (miss4 rfl rfl rfl rfl (miss4 rfl rfl rfl rfl (miss4 rfl rfl rfl rfl (miss4 rfl rfl rfl rfl (miss4 rfl rfl rfl rfl (miss1 rfl (miss1 rfl (miss1 rfl (lkp_base b23))))))))); exact e23)
    show wpOrd _ _ _ _ _ _ _ _
    refine ord_move (i := 24) (d := 228) (v := ?_) rfl rfl rfl (wanted_yes (j := 22) (dj := 226) (b := false) rfl hsz rfl rfl rfl (miss1 rfl lkp_hit)) hHeld (fun ρ hρ => ?_) ?_
    rotate_left
    · (have e25 := Eq.trans (hρ.tmp hsz 25 rfl) (miss4 rfl rfl rfl rfl (miss4 rfl rfl rfl rfl (miss4 rfl rfl rfl rfl (miss4 rfl rfl rfl rfl (miss4 rfl rfl rfl rfl (miss4 rfl rfl rfl rfl (lkp_base b25))))))); exact e25)
    show wpOrd _ _ _ _ _ _ _ _
    refine ord_call (i := 25) (d := 229) (vs := ?_) rfl rfl rfl (wanted_yes (j := 22) (dj := 226) (b := false) rfl hsz rfl rfl rfl (miss1 rfl (miss1 rfl lkp_hit))) (fun ρ hρ => ?_) ?_ ?_
    rotate_left
    · (have e227 := Eq.trans (hρ.tmp hsz 227 rfl) (miss1 rfl lkp_hit); have e228 := Eq.trans (hρ.tmp hsz 228 rfl) lkp_hit; simp only [List.map_toArray, List.map_cons, List.map_nil, e227, e228]; try with_reducible rfl)
    · (intro w; go_simp)
    refine (ints_true E1 E2 m1 c1 m2 c2 u2.heap.size u2.heap.size _ u2 (HA3.out _ HM_u2.out).2.1.1 (HA3.out _ HM_u2.out).2.2.1.1 (Nat.le_refl _) (Nat.le_refl _)).mono ?_
    rintro e u3 ⟨rfl, hb⟩
    have HM_u3 := Lib.hid (HK3.out.later HM_u2.out hb)
    clear hb
    refine ⟨_, rfl, fun _ => ?_, fun hHeld' => ?_⟩
    · exact ⟨(HA2.out _ (HA3.out _ HM_u3.out).1).2.1.cell 0, (HA2.out _ (HA3.out _ HM_u3.out).1).2.1.cell 1⟩
    replace hHeld := hHeld' rfl
    clear hHeld'
    try dsimp only at hHeld
    show wpOrd _ _ _ _ _ _ _ _
    refine ord_take (i := 26) (d := 230) (v := ?_) rfl rfl (wanted_yes (j := 22) (dj := 226) (b := false) rfl hsz rfl rfl rfl (miss1 rfl (miss1 rfl (miss1 rfl lkp_hit)))) hHeld (fun ρ hρ w hSw => ?_) ?_
    rotate_left
    · (have e229 := Eq.trans (hρ.tmp hsz 229 rfl) lkp_hit; clear hρ; (try dsimp only at hSw); go_simp; try with_reducible rfl)
    show wpOrd _ _ _ _ _ _ _ _
    refine ord_take (i := 27) (d := 231) (v := ?_) rfl rfl (wanted_none rfl) hHeld (fun ρ hρ w hSw => ?_) ?_
    rotate_left
    · (have hc := hρ.const; have e226 := Eq.trans (hρ.tmp hsz 226 rfl) (miss4 rfl rfl rfl rfl lkp_hit); have e230 := Eq.trans (hρ.tmp hsz 230 rfl) lkp_hit; clear hρ; (try dsimp only at hSw); go_simp; try with_reducible rfl)
    show wpOrd _ _ _ _ _ _ _ _
    refine ord_move (i := 28) (d := 232) (v := ?_) rfl rfl rfl (wanted_none rfl) hHeld (fun ρ hρ => ?_) ?_
    rotate_left
    · (have e231 := Eq.trans (hρ.tmp hsz 231 rfl) lkp_hit; exact e231)
    show wpOrd _ _ _ _ _ _ _ _
    refine ord_move (i := 29) (d := 233) (v := ?_) rfl rfl rfl (wanted_yes (j := 28) (dj := 232) (b := false) rfl hsz rfl rfl rfl lkp_hit) hHeld (fun ρ hρ => ?_) ?_
    rotate_left
    · (have e27 := Eq.trans (hρ.tmp hsz 27 rfl) (miss4 rfl rfl rfl rfl (miss4 rfl rfl rfl rfl (miss4 rfl rfl rfl rfl (miss4 rfl rfl rfl rfl (miss4 rfl rfl rfl rfl (miss4 rfl rfl rfl rfl (miss4 rfl rfl rfl rfl (miss1 rfl (lkp_base b27))))))))); exact e27)
    show wpOrd _ _ _ _ _ _ _ _
    refine ord_move (i := 30) (d := 234) (v := ?_) rfl rfl rfl (wanted_yes (j := 28) (dj := 232) (b := false) rfl hsz rfl rfl rfl (miss1 rfl lkp_hit)) hHeld (fun ρ hρ => ?_) ?_
    rotate_left
    · (have e29 := Eq.trans (hρ.tmp hsz 29 rfl) (miss4 rfl rfl rfl rfl (miss4 rfl rfl rfl rfl (miss4 rfl rfl rfl rfl (miss4 rfl rfl rfl rfl (miss4 rfl rfl rfl rfl (miss4 rfl rfl rfl rfl (miss4 rfl rfl rfl rfl (miss1 rfl (miss1 rfl (lkp_base b29)))))))))); exact e29)
    show wpOrd _ _ _ _ _ _ _ _
    refine ord_call (i := 31) (d := 235) (vs := ?_) rfl rfl rfl (wanted_yes (j := 28) (dj := 232) (b := false) rfl hsz rfl rfl rfl (miss1 rfl (miss1 rfl lkp_hit))) (fun ρ hρ => ?_) ?_ ?_
    rotate_left
    · (have e233 := Eq.trans (hρ.tmp hsz 233 rfl) (miss1 rfl lkp_hit); have e234 := Eq.trans (hρ.tmp hsz 234 rfl) lkp_hit; simp only [List.map_toArray, List.map_cons, List.map_nil, e233, e234]; try with_reducible rfl)
    · (intro w; go_simp)
    refine (ints_true E3 E4 m3 c3 m4 c4 u3.heap.size u3.heap.size _ u3 (HA3.out _ HM_u3.out).2.2.2.1.1 (HA3.out _ HM_u3.out).2.2.2.2.1.1 (Nat.le_refl _) (Nat.le_refl _)).mono ?_
    rintro e u4 ⟨rfl, hb⟩
    have HM_u4 := Lib.hid (HK3.out.later HM_u3.out hb)
    clear hb
    refine ⟨_, rfl, fun _ => ?_, fun hHeld' => ?_⟩
    · exact ⟨(HA2.out _ (HA3.out _ HM_u4.out).1).2.1.cell 0, (HA2.out _ (HA3.out _ HM_u4.out).1).2.1.cell 1⟩
    replace hHeld := hHeld' rfl
    clear hHeld'
    try dsimp only at hHeld
    show wpOrd _ _ _ _ _ _ _ _
    refine ord_take (i := 32) (d := 236) (v := ?_) rfl rfl (wanted_yes (j := 28) (dj := 232) (b := false) rfl hsz rfl rfl rfl (miss1 rfl (miss1 rfl (miss1 rfl lkp_hit)))) hHeld (fun ρ hρ w hSw => ?_) ?_
    rotate_left
    · (have e235 := Eq.trans (hρ.tmp hsz 235 rfl) lkp_hit; clear hρ; (try dsimp only at hSw); go_simp; try with_reducible rfl)
    show wpOrd _ _ _ _ _ _ _ _
    refine ord_take (i := 33) (d := 237) (v := ?_) rfl rfl (wanted_none rfl) hHeld (fun ρ hρ w hSw => ?_) ?_
    rotate_left
    · (have hc := hρ.const; have e232 := Eq.trans (hρ.tmp hsz 232 rfl) (miss4 rfl rfl rfl rfl lkp_hit); have e236 := Eq.trans (hρ.tmp hsz 236 rfl) lkp_hit; clear hρ; (try dsimp only at hSw); go_simp; try with_reducible rfl)
    show wpOrd _ _ _ _ _ _ _ _
    refine ord_move (i := 34) (d := 238) (v := ?_) rfl rfl rfl (wanted_none rfl) hHeld (fun ρ hρ => ?_) ?_
    rotate_left
    · (have e237 := Eq.trans (hρ.tmp hsz 237 rfl) lkp_hit; exact e237)
    show wpOrd _ _ _ _ _ _ _ _
    refine ord_move (i := 35) (d := 239) (v := ?_) rfl rfl rfl (wanted_yes (j := 34) (dj := 238) (b := false) rfl hsz rfl rfl rfl lkp_hit) hHeld (fun ρ hρ => ?_) ?_
    rotate_left
    · (have e31 := Eq.trans (hρ.tmp hsz 31 rfl) (miss4 rfl rfl rfl rfl (miss4 rfl rfl rfl rfl (miss4 rfl rfl rfl rfl (miss4 rfl rfl rfl rfl (miss4 rfl rfl rfl rfl (miss4 rfl rfl rfl rfl (miss4 rfl rfl rfl rfl (miss4 rfl rfl rfl rfl (miss1 rfl (miss1 rfl (miss1 rfl (lkp_base b31)))))))))))); exact e31)
    show wpOrd _ _ _ _ _ _ _ _
    refine ord_move (i := 36) (d := 240) (v := ?_) rfl rfl rfl (wanted_yes (j := 34) (dj := 238) (b := false) rfl hsz rfl rfl rfl (miss1 rfl lkp_hit)) hHeld (fun ρ hρ => ?_) ?_
    rotate_left
    · (have e33 := Eq.trans (hρ.tmp hsz 33 rfl) (miss4 rfl rfl rfl rfl (miss4 rfl rfl rfl rfl (miss4 rfl rfl rfl rfl (miss4 rfl rfl rfl rfl (miss4 rfl rfl rfl rfl (miss4 rfl rfl rfl rfl (miss4 rfl rfl rfl rfl (miss4 rfl rfl rfl rfl (miss4 rfl rfl rfl rfl (lkp_base b33)))))))))); exact e33)
    show wpOrd _ _ _ _ _ _ _ _
    refine ord_call (i := 37) (d := 241) (vs := ?_) rfl rfl rfl (wanted_yes (j := 34) (dj := 238) (b := false) rfl hsz rfl rfl rfl (miss1 rfl (miss1 rfl lkp_hit))) (fun ρ hρ => ?_) ?_ ?_
    rotate_left
    · (have e239 := Eq.trans (hρ.tmp hsz 239 rfl) (miss1 rfl lkp_hit); have e240 := Eq.trans (hρ.tmp hsz 240 rfl) lkp_hit; simp only [List.map_toArray, List.map_cons, List.map_nil, e239, e240]; try with_reducible rfl)
    · (intro w; go_simp)
    refine (ints_true E5 E6 m5 c5 m6 c6 u4.heap.size u4.heap.size _ u4 (HA3.out _ HM_u4.out).2.2.2.2.2.1.1 (HA3.out _ HM_u4.out).2.2.2.2.2.2.1 (Nat.le_refl _) (Nat.le_refl _)).mono ?_
    rintro e u5 ⟨rfl, hb⟩
    have HM_u5 := Lib.hid (HK3.out.later HM_u4.out hb)
    clear hb
    refine ⟨_, rfl, fun _ => ?_, fun hHeld' => ?_⟩
    · exact ⟨(HA2.out _ (HA3.out _ HM_u5.out).1).2.1.cell 0, (HA2.out _ (HA3.out _ HM_u5.out).1).2.1.cell 1⟩
    replace hHeld := hHeld' rfl
    clear hHeld'
    try dsimp only at hHeld
    show wpOrd _ _ _ _ _ _ _ _
    refine ord_take (i := 38) (d := 242) (v := ?_) rfl rfl (wanted_yes (j := 34) (dj := 238) (b := false) rfl hsz rfl rfl rfl (miss1 rfl (miss1 rfl (miss1 rfl lkp_hit)))) hHeld (fun ρ hρ w hSw => ?_) ?_
    rotate_left
    · (have e241 := Eq.trans (hρ.tmp hsz 241 rfl) lkp_hit; clear hρ; (try dsimp only at hSw); go_simp; try with_reducible rfl)
    show wpOrd _ _ _ _ _ _ _ _
    refine ord_take (i := 39) (d := 243) (v := ?_) rfl rfl (wanted_none rfl) hHeld (fun ρ hρ w hSw => ?_) ?_
    rotate_left
    · (have hc := hρ.const; have e238 := Eq.trans (hρ.tmp hsz 238 rfl) (miss4 rfl rfl rfl rfl lkp_hit); have e242 := Eq.trans (hρ.tmp hsz 242 rfl) lkp_hit; clear hρ; (try dsimp only at hSw); go_simp; try with_reducible rfl)
    show wpOrd _ _ _ _ _ _ _ _
    refine ord_done hn2 ?_
    clear hHeld hn2 b20 b22 b24 b26 b28 b30 b32 b34 b23 b25 b27 b29 b31 b33 hsz A Q2
    simp only [puts_nil, puts_cons, put_lit, set_1, set_0]
    have HMr := Lib.hid (HA3.out _ HM_u5.out).1
    clear HM_u1 HM_u2 HM_u3 HM_u4 HM_u5 HM3 HA3 HK3 HCS q0 HER
    have HMd : Hid (M2 u5.drew) := HK2.out.later HMr.out (Below.refl _ _).drew
    have HCS := Lib.hid (lock_three (HA1.out _ (HA2.out _ HMr.out).1).1.bk)
    clear HMr
    go_upto_region 36 with (fail)
    refine wp_region_ord (S := fun W' => W'.cell? ⟨w.heap.size + 1, 0, none⟩ = some (.int .i64 kk.dev) ∧ W'.cell? ⟨w.heap.size + 1, 1, none⟩ = some (.int .i64 kk.pos) ∧ W'.cell? ⟨w.heap.size + 1, 2, none⟩ = some (.int .i64 kk.key)) (J := []) (n := _) ((0, true) :: (1, true) :: (3, true) :: (6, true) :: (9, true) :: (11, true) :: (17, true) :: (2, false) :: (4, false) :: (5, true) :: (7, false) :: (8, true) :: (10, false) :: (12, false) :: (13, true) :: (14, true) :: (15, false) :: (16, true) :: []) (by as_aux_lemma => kernel_rfl) (by rfl) (base_cons (k := 9) (by go_simp; rfl) (base_cons (k := 13) (by go_simp; rfl) base_nil)) ?_ (fun _ _ _ _ _ h => h) (fun Q2 A hsz hbase hn2 hHeld => ?_)
    · exact HCS.out
    try dsimp only at hHeld
    obtain ⟨b9, b13, -⟩ := hbase
    refine ord_take (i := 0) (d := 244) (v := ?_) rfl rfl (wanted_none rfl) hHeld (fun ρ hρ w hSw => ?_) ?_
    rotate_left
    · (have e9 := Eq.trans (hρ.tmp hsz 9 rfl) (lkp_base b9); clear hρ; (try dsimp only at hSw); go_simp; try with_reducible rfl)
    show wpOrd _ _ _ _ _ _ _ _
    refine ord_move (i := 1) (d := 245) (v := ?_) rfl rfl rfl (wanted_none rfl) hHeld (fun ρ hρ => ?_) ?_
    rotate_left
    · (have e13 := Eq.trans (hρ.tmp hsz 13 rfl) (miss1 rfl (lkp_base b13)); exact e13)
    show wpOrd _ _ _ _ _ _ _ _
    refine ord_move (i := 3) (d := 247) (v := ?_) rfl rfl rfl (wanted_none rfl) hHeld (fun ρ hρ => ?_) ?_
    rotate_left
    · (have e13 := Eq.trans (hρ.tmp hsz 13 rfl) (miss1 rfl (miss1 rfl (lkp_base b13))); exact e13)
    show wpOrd _ _ _ _ _ _ _ _
    refine ord_move (i := 6) (d := 250) (v := ?_) rfl rfl rfl (wanted_none rfl) hHeld (fun ρ hρ => ?_) ?_
    rotate_left
    · (have e13 := Eq.trans (hρ.tmp hsz 13 rfl) (miss1 rfl (miss1 rfl (miss1 rfl (lkp_base b13)))); exact e13)
    show wpOrd _ _ _ _ _ _ _ _
    refine ord_move (i := 9) (d := 253) (v := ?_) rfl rfl rfl (wanted_none rfl) hHeld (fun ρ hρ => ?_) ?_
    rotate_left
    · (have e13 := Eq.trans (hρ.tmp hsz 13 rfl) (miss4 rfl rfl rfl rfl (lkp_base b13)); exact e13)
    show wpOrd _ _ _ _ _ _ _ _
    refine ord_move (i := 11) (d := 255) (v := ?_) rfl rfl rfl (wanted_none rfl) hHeld (fun ρ hρ => ?_) ?_
    rotate_left
    · (have e13 := Eq.trans (hρ.tmp hsz 13 rfl) (miss4 rfl rfl rfl rfl (miss1 rfl (lkp_base b13))); exact e13)
    show wpOrd _ _ _ _ _ _ _ _
    refine ord_move (i := 17) (d := 261) (v := ?_) rfl rfl rfl (wanted_none rfl) hHeld (fun ρ hρ => ?_) ?_
    rotate_left
    · exact hρ.const _
    show wpOrd _ _ _ _ _ _ _ _
    refine ord_call (i := 2) (d := 246) (vs := ?_) rfl rfl rfl (wanted_none rfl) (fun ρ hρ => ?_) ?_ ?_
    rotate_left
    · (have hc := hρ.const; have e245 := Eq.trans (hρ.tmp hsz 245 rfl) (miss4 rfl rfl rfl rfl (miss1 rfl lkp_hit)); simp only [List.map_toArray, List.map_cons, List.map_nil, e245, hc]; try with_reducible rfl)
    · (intro w; go_simp)
    refine (next_any wl.heap.size 10 u5.drew (HA1.out _ (HA2.out _ HMd.out).1).1.n.dk (by decide)).mono ?_
    rintro e t1 ⟨r1, rfl, -, -, -, hd, hg, -⟩
    have HM_t1 := Lib.hid (HK2.out.grown HMd.out hg.out hd.out)
    clear hd hg
    refine ⟨_, rfl, fun _ => ?_, fun hHeld' => ?_⟩
    · exact lock_three (HA1.out _ (HA2.out _ HM_t1.out).1).1.bk
    replace hHeld := hHeld' rfl
    clear hHeld'
    try dsimp only at hHeld
    show wpOrd _ _ _ _ _ _ _ _
    refine ord_call (i := 4) (d := 248) (vs := ?_) rfl rfl rfl (wanted_none rfl) (fun ρ hρ => ?_) ?_ ?_
    rotate_left
    · (have hc := hρ.const; have e247 := Eq.trans (hρ.tmp hsz 247 rfl) (miss4 rfl rfl rfl rfl (miss1 rfl lkp_hit)); simp only [List.map_toArray, List.map_cons, List.map_nil, e247, hc]; try with_reducible rfl)
    · (intro w; go_simp)
    refine (next_any wl.heap.size 2 t1 (HA1.out _ (HA2.out _ HM_t1.out).1).1.n.dk (by decide)).mono ?_
    rintro e t2 ⟨r2, rfl, -, -, -, hd, hg, -⟩
    have HM_t2 := Lib.hid (HK2.out.grown HM_t1.out hg.out hd.out)
    clear hd hg
    refine ⟨_, rfl, fun _ => ?_, fun hHeld' => ?_⟩
    · exact lock_three (HA1.out _ (HA2.out _ HM_t2.out).1).1.bk
    replace hHeld := hHeld' rfl
    clear hHeld'
    try dsimp only at hHeld
    show wpOrd _ _ _ _ _ _ _ _
    refine ord_take (i := 5) (d := 249) (v := ?_) rfl rfl (wanted_none rfl) hHeld (fun ρ hρ w hSw => ?_) ?_
    rotate_left
    · (have hc := hρ.const; have e248 := Eq.trans (hρ.tmp hsz 248 rfl) lkp_hit; clear hρ; (try dsimp only at hSw); go_simp; try with_reducible rfl)
    show wpOrd _ _ _ _ _ _ _ _
    refine ord_call (i := 7) (d := 251) (vs := ?_) rfl rfl rfl (wanted_none rfl) (fun ρ hρ => ?_) ?_ ?_
    rotate_left
    · (have hc := hρ.const; have e250 := Eq.trans (hρ.tmp hsz 250 rfl) (miss4 rfl rfl rfl rfl (miss1 rfl (miss1 rfl lkp_hit))); simp only [List.map_toArray, List.map_cons, List.map_nil, e250, hc]; try with_reducible rfl)
    · (intro w; go_simp)
    refine (next_any wl.heap.size 40 t2 (HA1.out _ (HA2.out _ HM_t2.out).1).1.n.dk (by decide)).mono ?_
    rintro e t3 ⟨r3, rfl, -, -, -, hd, hg, -⟩
    have HM_t3 := Lib.hid (HK2.out.grown HM_t2.out hg.out hd.out)
    clear hd hg
    refine ⟨_, rfl, fun _ => ?_, fun hHeld' => ?_⟩
    · exact lock_three (HA1.out _ (HA2.out _ HM_t3.out).1).1.bk
    replace hHeld := hHeld' rfl
    clear hHeld'
    try dsimp only at hHeld
    show wpOrd _ _ _ _ _ _ _ _
    refine ord_take (i := 8) (d := 252) (v := ?_) rfl rfl (wanted_none rfl) hHeld (fun ρ hρ w hSw => ?_) ?_
    rotate_left
    · (have e246 := Eq.trans (hρ.tmp hsz 246 rfl) (miss1 rfl (miss1 rfl (miss1 rfl lkp_hit))); have e249 := Eq.trans (hρ.tmp hsz 249 rfl) (miss1 rfl lkp_hit); have e251 := Eq.trans (hρ.tmp hsz 251 rfl) lkp_hit; clear hρ; (try dsimp only at hSw); go_simp; try with_reducible rfl)
    show wpOrd _ _ _ _ _ _ _ _
    refine ord_call (i := 10) (d := 254) (vs := ?_) rfl rfl rfl (wanted_none rfl) (fun ρ hρ => ?_) ?_ ?_
    rotate_left
    · (have hc := hρ.const; have e253 := Eq.trans (hρ.tmp hsz 253 rfl) (miss4 rfl rfl rfl rfl (miss1 rfl (miss1 rfl (miss1 rfl lkp_hit)))); simp only [List.map_toArray, List.map_cons, List.map_nil, e253, hc]; try with_reducible rfl)
    · (intro w; go_simp)
    refine (next_any wl.heap.size 9 t3 (HA1.out _ (HA2.out _ HM_t3.out).1).1.n.dk (by decide)).mono ?_
    rintro e t4 ⟨r4, rfl, -, -, -, hd, hg, -⟩
    have HM_t4 := Lib.hid (HK2.out.grown HM_t3.out hg.out hd.out)
    clear hd hg
    refine ⟨_, rfl, fun _ => ?_, fun hHeld' => ?_⟩
    · exact lock_three (HA1.out _ (HA2.out _ HM_t4.out).1).1.bk
    replace hHeld := hHeld' rfl
    clear hHeld'
    try dsimp only at hHeld
    show wpOrd _ _ _ _ _ _ _ _
    refine ord_call (i := 12) (d := 256) (vs := ?_) rfl rfl rfl (wanted_none rfl) (fun ρ hρ => ?_) ?_ ?_
    rotate_left
    · (have hc := hρ.const; have e255 := Eq.trans (hρ.tmp hsz 255 rfl) (miss4 rfl rfl rfl rfl (miss1 rfl (miss1 rfl (miss1 rfl lkp_hit)))); simp only [List.map_toArray, List.map_cons, List.map_nil, e255, hc]; try with_reducible rfl)
    · (intro w; go_simp)
    refine (next_any wl.heap.size 2 t4 (HA1.out _ (HA2.out _ HM_t4.out).1).1.n.dk (by decide)).mono ?_
    rintro e t5 ⟨r5, rfl, -, -, -, hd, hg, -⟩
    have HM_t5 := Lib.hid (HK2.out.grown HM_t4.out hg.out hd.out)
    clear hd hg
    refine ⟨_, rfl, fun _ => ?_, fun hHeld' => ?_⟩
    · exact lock_three (HA1.out _ (HA2.out _ HM_t5.out).1).1.bk
    replace hHeld := hHeld' rfl
    clear hHeld'
    try dsimp only at hHeld
    show wpOrd _ _ _ _ _ _ _ _
    refine ord_take (i := 13) (d := 257) (v := ?_) rfl rfl (wanted_none rfl) hHeld (fun ρ hρ w hSw => ?_) ?_
    rotate_left
    · (have hc := hρ.const; have e256 := Eq.trans (hρ.tmp hsz 256 rfl) lkp_hit; clear hρ; (try dsimp only at hSw); go_simp; try with_reducible rfl)
    show wpOrd _ _ _ _ _ _ _ _
    refine ord_take (i := 14) (d := 258) (v := ?_) rfl rfl (wanted_none rfl) hHeld (fun ρ hρ w hSw => ?_) ?_
    rotate_left
    · (have hc := hρ.const; have e254 := Eq.trans (hρ.tmp hsz 254 rfl) (miss1 rfl (miss1 rfl lkp_hit)); have e257 := Eq.trans (hρ.tmp hsz 257 rfl) lkp_hit; clear hρ; (try dsimp only at hSw); go_simp; try with_reducible rfl)
    show wpOrd _ _ _ _ _ _ _ _
    refine ord_run (i := 15) (d := 259) (v := ?_) (w' := ?_) rfl rfl (wanted_none rfl) (fun ρ hρ => ?_) ?_ ?_
    rotate_left 2
    · (have e244 := Eq.trans (hρ.tmp hsz 244 rfl) (miss4 rfl rfl rfl rfl (miss4 rfl rfl rfl rfl (miss4 rfl rfl rfl rfl (miss1 rfl (miss1 rfl (miss1 rfl lkp_hit)))))); have e252 := Eq.trans (hρ.tmp hsz 252 rfl) (miss4 rfl rfl rfl rfl lkp_hit); have e258 := Eq.trans (hρ.tmp hsz 258 rfl) lkp_hit; clear hρ; go_simp; first | with_reducible rfl | (constructor <;> with_reducible rfl))
    · refine fun _ => ?_
      exact lock_three (HA1.out _ (HA2.out _ (HK2.out.later HM_t5.out ((Below.refl _ _).alloc (Nat.le_refl _) _))).1).1.bk
    intro hHeld'
    replace hHeld := hHeld' rfl
    clear hHeld'
    try dsimp only at hHeld
    show wpOrd _ _ _ _ _ _ _ _
    refine ord_take (i := 16) (d := 260) (v := ?_) rfl rfl (wanted_none rfl) hHeld (fun ρ hρ w hSw => ?_) ?_
    rotate_left
    · (have e259 := Eq.trans (hρ.tmp hsz 259 rfl) lkp_hit; clear hρ; (try dsimp only at hSw); go_simp; try with_reducible rfl)
    show wpOrd _ _ _ _ _ _ _ _
    refine ord_done hn2 ?_
    clear hHeld hn2 b9 b13 hsz A Q2
    simp only [puts_nil, puts_cons, put_lit, set_1, set_0]
    clear HCS HMd HM_t1 HM_t2 HM_t3 HM_t4
    obtain ⟨lb, hlb⟩ : ∃ x, x = t5.heap.size := ⟨_, rfl⟩
    have hgl : wl.heap.size < lb := by rw [hlb]; exact HD2.out _ HM_t5.out
    rw [← hlb]
    generalize hW4 : World.alloc t5 _ = W4 at *
    have HMw : Hid (M2 W4) := by rw [← hW4]; exact HK2.out.later HM_t5.out ((Below.refl _ _).alloc (Nat.le_refl _) _)
    obtain ⟨v2, v5, hB9⟩ : ∃ v2 v5 : Int, Blk W4 lb 29 #[.int .i64 kk.dev, .int .i64 kk.pos, .int .i64 kk.key, .int .i64 r1, .int .i64 (v2), .int .i64 r3, .int .i64 r4, .int .i64 1, .int .i64 (v5)] := ⟨_, _, by rw [← hW4, hlb]; exact Blk.new _ _ _⟩
    have HB9 := Lib.hid hB9
    have HK4 : Hid (Keep wl.heap.size fun w' => M2 w' ∧ Blk w' lb 29 #[.int .i64 kk.dev, .int .i64 kk.pos, .int .i64 kk.key, .int .i64 r1, .int .i64 (v2), .int .i64 r3, .int .i64 r4, .int .i64 1, .int .i64 (v5)]) := HK2.out.and (Keep.blk (by omega))
    obtain ⟨M4, hM4⟩ : ∃ M : World → Prop, M = fun w' => M2 w' ∧ Blk w' lb 29 #[.int .i64 kk.dev, .int .i64 kk.pos, .int .i64 kk.key, .int .i64 r1, .int .i64 (v2), .int .i64 r3, .int .i64 r4, .int .i64 1, .int .i64 (v5)] := ⟨_, rfl⟩
    rw [← hM4] at HK4
    have HA4 : Hid (∀ w', M4 w' → M2 w' ∧ Blk w' lb 29 #[.int .i64 kk.dev, .int .i64 kk.pos, .int .i64 kk.key, .int .i64 r1, .int .i64 (v2), .int .i64 r3, .int .i64 r4, .int .i64 1, .int .i64 (v5)]) := fun w' h => by rw [hM4] at h; exact h
    have HM4 : Hid (M4 W4) := by unfold Hid; rw [hM4]; exact ⟨HMw.out, HB9.out⟩
    clear hM4 hlb HM_t5 HMw HB9 hB9 hW4 t5
    go_wp2_with fail
    refine wp_loop_u1 [(11, 0), (0, 1), (22, 0), (8, 1), (215, 0), (0, 2), (50, 1), (44, 0)] 261 (3) (PlR2 M4 3) (by (try dsimp only [gt]); exact ⟨0, rfl, Nat.zero_le _, rfl, HM4⟩) (by kernel_rfl) ?_
    intro u3 p261 gk wr a hrel ha J3 K3 hJ3 hK3
    dsimp only [relaxR, Go.Proofs.YtbjndpjligpjaaaDoor.v1, Nat.reduceAdd] at ha
    subst ha
    clear HM4
    obtain ⟨t, rfl, ht, rfl, hM4⟩ := hrel
    by_cases ht3 : t < 3
    · obtain ⟨d, p, q, z0, z1, z2⟩ := lock_nine (HA4.out _ hM4.out).2 ht3
      have ht3I : (t : Int) < 3 := by omega
      go_upto_region 39 with (fail)
      clear z0 z1 z2 ht3I
      obtain ⟨zb, hzb⟩ : ∃ x, x = wr.heap.size := ⟨_, rfl⟩
      have HZ : Hid (Blk (wr.alloc (.cells #[.int .i64 d, .int .i64 p, .int .i64 q] 29)) zb 29 #[.int .i64 d, .int .i64 p, .int .i64 q]) := by rw [hzb]; exact Blk.new _ _ _
      have HM := Lib.hid (HK4.out.later hM4.out ((Below.refl wr.heap.size wr).alloc (Nat.le_refl _) (.cells #[.int .i64 d, .int .i64 p, .int .i64 q] 29)))
      rw [← hzb]
      clear hzb hM4
      generalize World.alloc wr _ = y0 at *
      clear wr
      have k0 : y0.cell? ⟨xb, 0, none⟩ = some (.slice Ax nx cx) := (HA2.out _ (HA4.out _ HM.out).1).2.1.cell 0
      have k1 : y0.cell? ⟨xb, 1, none⟩ = some (.slice Dx mx dx) := (HA2.out _ (HA4.out _ HM.out).1).2.1.cell 1
      obtain ⟨z0, z1, z2⟩ := lock_three HZ.out
      go_wp2_with fail
      clear k0 k1 z0 z1 z2
      refine (ladd_at Ax Dx Ay nx cx mx dx my cy y0.heap.size y0.heap.size y0.heap.size nsx dsx lsy d p q y0 HLY.out (HPX2.out.la (HA4.out _ HM.out).1) (HPX2.out.n (HA4.out _ HM.out).1) (HPX2.out.d (HA4.out _ HM.out).1) (HPL.out _ (HA4.out _ HM.out).1) (Nat.le_refl _) (Nat.le_refl _) (Nat.le_refl _) HPX2.out.sn HPX2.out.sd).mono ?_
      intro e y1 hpost
      obtain ⟨G1, g1, h1, rfl, hO, hb⟩ := hpost.any
      have hz := HD2.out _ (HA4.out _ HM.out).1
      have HG1_1 := Lib.hid (SlX.of_own (g := wl.heap.size) hO.out (by omega))
      have hb := hb.out
      have HMy1 := Lib.hid (HK4.out.later HM.out hb)
      have HZ1 := Lib.hid (HZ.out.below hb HZ.out.lt)
      clear hpost hO hb hz HM HZ
      have k0 : y1.cell? ⟨xb, 0, none⟩ = some (.slice Ax nx cx) := (HA2.out _ (HA4.out _ HMy1.out).1).2.1.cell 0
      have k1 : y1.cell? ⟨xb, 1, none⟩ = some (.slice Dx mx dx) := (HA2.out _ (HA4.out _ HMy1.out).1).2.1.cell 1
      obtain ⟨z0, z1, z2⟩ := lock_three HZ1.out
      go_wp2_with fail
      clear k0 k1 z0 z1 z2
      refine (radd_at Ax Dx Ay nx cx mx dx my cy y1.heap.size y1.heap.size y1.heap.size nsx dsx lsy d p q y1 HLY.out (HPX2.out.n (HA4.out _ HMy1.out).1) (HPX2.out.d (HA4.out _ HMy1.out).1) (HPL.out _ (HA4.out _ HMy1.out).1) (Nat.le_refl _) (Nat.le_refl _) (Nat.le_refl _) HPX2.out.sn HPX2.out.sd).mono ?_
      intro e y2 hpost
      obtain ⟨G2, g2, h2, rfl, hO, hb⟩ := hpost.any
      have hz := HD2.out _ (HA4.out _ HMy1.out).1
      have HG2_2 := Lib.hid (SlX.of_own (g := wl.heap.size) hO.out (by omega))
      have hb := hb.out
      have HMy2 := Lib.hid (HK4.out.later HMy1.out hb)
      have HZ2 := Lib.hid (HZ1.out.below hb HZ1.out.lt)
      have HG1_2 := Lib.hid (HG1_1.out.below hb)
      clear hpost hO hb hz HMy1 HZ1 HG1_1
      obtain ⟨z0, z1, z2⟩ := lock_three HZ2.out
      go_wp2_with fail
      clear z0 z1 z2
      refine (locked_any Ay my cy y2.heap.size lsy d y2 (HPL.out _ (HA4.out _ HMy2.out).1) (Nat.le_refl _)).mono ?_
      rintro e y3 ⟨rfl, hb⟩
      unfold lckE
      have HMy3 := Lib.hid (HK4.out.later HMy2.out hb)
      have HZ3 := Lib.hid (HZ2.out.below hb HZ2.out.lt)
      have HG1_3 := Lib.hid (HG1_2.out.below hb)
      have HG2_3 := Lib.hid (HG2_2.out.below hb)
      clear hb HMy2 HZ2 HG1_2 HG2_2
      obtain ⟨z0, z1, z2⟩ := lock_three HZ3.out
      go_wp2_with fail
      clear z0 z1 z2
      refine (rlocked_any Ay my cy y3.heap.size lsy d y3 (HPL.out _ (HA4.out _ HMy3.out).1) (Nat.le_refl _)).mono ?_
      rintro e y4 ⟨rfl, hb⟩
      unfold lckE
      have HMy4 := Lib.hid (HK4.out.later HMy3.out hb)
      have HZ4 := Lib.hid (HZ3.out.below hb HZ3.out.lt)
      have HG1_4 := Lib.hid (HG1_3.out.below hb)
      have HG2_4 := Lib.hid (HG2_3.out.below hb)
      clear hb HMy3 HZ3 HG1_3 HG2_3
      have q0 : (addErr nsx dsx lsy ⟨d, p, q⟩ != addErr nsx dsx lsy ⟨d, p, q⟩) = false := by simp
      have q1 : ((lckL lsy d).getD 0 != (lckL lsy d).getD 0) = false := by simp
      have q2 : ((lckL lsy d).isSome != (lckL lsy d).isSome) = false := by simp
      generalize addErr nsx dsx lsy ⟨d, p, q⟩ = er at *
      generalize (lckL lsy d).getD 0 = lk at *
      generalize (lckL lsy d).isSome = ok at *
      go_wp2_with fail
      clear q0
      refine (same_true2 G1 G2 g1 h1 g2 h2 y4.heap.size y4.heap.size _ y4 HG1_4.out.1 HG2_4.out.1 (Nat.le_refl _) (Nat.le_refl _)).mono ?_
      rintro e y5 ⟨rfl, hb⟩
      have HMy5 := Lib.hid (HK4.out.later HMy4.out hb)
      clear hb HMy4 HZ4 HG1_4 HG2_4
      go_wp2_with fail
      clear q1 q2
      refine Handed.intro (3 - (t + 1)) (by omega) (hJ3 _ _ _ (LpI1.back 261 ?_ (by kernel_rfl)))
      dsimp only [gt]
      exact ⟨t + 1, by go_num, by omega, rfl, HMy5⟩
    obtain rfl : t = 3 := by omega
    have HMt := Lib.hid (HA4.out _ hM4.out).1
    clear hM4 HA4 HK4 ht3
    obtain ⟨z0, z1, z2⟩ := lock_three (HA1.out _ (HA2.out _ HMt.out).1).1.bk
    obtain ⟨m5, hm5⟩ : ∃ x, 2 + mg = x := ⟨_, rfl⟩
    have hgt := HD2.out _ HMt.out
    have HOW : Hid ((wr.alloc (.cells #[.int .i64 dv, .int .i64 0, .int .i64 ky, .int .i64 kk.dev, .int .i64 kk.pos, .int .i64 kk.key] 29)).ownsRow wr.heap.size 29 3 (.slice (some ⟨wr.heap.size, 0, none⟩) 2 2) 2 (Array.toList #[.int .i64 dv, .int .i64 0, .int .i64 ky, .int .i64 kk.dev, .int .i64 kk.pos, .int .i64 kk.key])) := World.ownsRow_lit wr _ 2 (Nat.le_refl _) (by decide) rfl
    have HSG : Hid (Sl (wr.alloc (.cells #[.int .i64 dv, .int .i64 0, .int .i64 ky, .int .i64 kk.dev, .int .i64 kk.pos, .int .i64 kk.key] 29)) wr.heap.size 3 Ag mg cg (ls.flatMap Lk.cells)) := (HA1.out _ (HA2.out _ HMt.out).1).1.sg.1.alloc (Nat.le_refl _) _
    go_upto_region 47 with (at_builtin; go_must (refine wpList_app rfl (.tmp 317) (.tmp 318) rfl el_lock (by rfl) HOW.out (by rfl) HSG.out (locks_one _) (by omega) (by omega) (by simp) ?_; intro A5 c5 w5 hown5 hgr5 hat5; rw [hm5] at hown5 ⊢; have HO5 := Lib.hid hown5; have HG5 := Lib.hid hgr5; clear hown5 hgr5 hat5))
    have hm58 : m5 ≤ 8 := by omega
    have HM5Q := Lib.hid hm5
    clear hm5
    clear z0 z1 z2 HOW HSG
    have hb5 : Below wr.heap.size wr w5 := ((Below.refl _ _).alloc (Nat.le_refl _) _).grown HG5.out (by simp) (by intro k hk; simp [Value.ownBlock] at hk; omega)
    have HM5 := Lib.hid (HK2.out.later HMt.out hb5)
    obtain ⟨L, hL⟩ : ∃ L : List Lk, L = [⟨dv, 0, ky⟩, kk] ++ ls := ⟨_, rfl⟩
    have hLc : Array.toList #[.int .i64 dv, .int .i64 0, .int .i64 ky, .int .i64 kk.dev, .int .i64 kk.pos, .int .i64 kk.key] ++ ls.flatMap Lk.cells = L.flatMap Lk.cells := by rw [hL]; rfl
    have HX5 : Hid (SlX w5 wl.heap.size 3 A5 m5 c5 (L.flatMap Lk.cells)) := SlX.of_own (by rw [← hLc]; exact HO5.out) (by omega)
    clear hL hLc hb5 HG5 HO5 HMt hgt
    obtain ⟨M6, hM6⟩ : ∃ M : World → Prop, M = fun w' => M2 w' ∧ SlX w' wl.heap.size 3 A5 m5 c5 (L.flatMap Lk.cells) := ⟨_, rfl⟩
    have HK6 : Hid (Keep wl.heap.size M6) := by unfold Hid; rw [hM6]; exact HK2.out.and Keep.slx
    have HA6 : Hid (∀ w', M6 w' → M2 w' ∧ SlX w' wl.heap.size 3 A5 m5 c5 (L.flatMap Lk.cells)) := fun w' h => by rw [hM6] at h; exact h
    have HM6 : Hid (M6 w5) := by unfold Hid; rw [hM6]; exact ⟨HM5.out, HX5.out⟩
    clear hM6 HM5 HX5
    refine wp_loop_u1 [(11, 0), (0, 1), (32, 0), (4, 1), (269, 0), (0, 2), (32, 1), (2, 0)] 321 (m5) (PlR2 M6 m5) (by (try dsimp only [gt]); exact ⟨0, rfl, Nat.zero_le _, rfl, HM6⟩) (by kernel_rfl) ?_
    intro u4 p321 gk wr a hrel ha J4 K4 hJ4 hK4
    dsimp only [relaxR, Go.Proofs.YtbjndpjligpjaaaDoor.v1, Nat.reduceAdd] at ha
    subst ha
    clear HM6
    obtain ⟨t, rfl, ht, rfl, hM6⟩ := hrel
    by_cases htm : t < m5; rotate_left
    · obtain rfl : t = m5 := by omega
      go_wp2_with fail
      refine Handed.intro (3 - (j + 1)) (by omega) (hJ2 _ _ _ (LpI1.back 164 ?_ (by kernel_rfl)))
      dsimp only [gt]
      exact ⟨j + 1, by go_num, by omega, rfl, (HA6.out _ hM6.out).1⟩
    obtain ⟨b, off, d, p, q, rfl, -, -, z0, z1, z2⟩ := (HA6.out _ hM6.out).2.1.lock htm
    have htI : (t : Int) < (m5 : Int) := by omega
    go_upto_region 49 with (fail)
    clear z0 z1 z2 htI
    obtain ⟨zb, hzb⟩ : ∃ x, x = wr.heap.size := ⟨_, rfl⟩
    have HZ : Hid (Blk (wr.alloc (.cells #[.int .i64 d, .int .i64 p, .int .i64 q] 29)) zb 29 #[.int .i64 d, .int .i64 p, .int .i64 q]) := by rw [hzb]; exact Blk.new _ _ _
    have HM := Lib.hid (HK6.out.later hM6.out ((Below.refl wr.heap.size wr).alloc (Nat.le_refl _) (.cells #[.int .i64 d, .int .i64 p, .int .i64 q] 29)))
    rw [← hzb]
    clear hzb hM6
    generalize World.alloc wr _ = y0 at *
    clear wr
    have k0 : y0.cell? ⟨xb, 0, none⟩ = some (.slice Ax nx cx) := (HA2.out _ (HA6.out _ HM.out).1).2.1.cell 0
    have k1 : y0.cell? ⟨xb, 1, none⟩ = some (.slice Dx mx dx) := (HA2.out _ (HA6.out _ HM.out).1).2.1.cell 1
    obtain ⟨z0, z1, z2⟩ := lock_three HZ.out
    go_wp2_with fail
    clear k0 k1 z0 z1 z2
    refine (lremove_at Ax Dx Ay nx cx mx dx my cy y0.heap.size y0.heap.size y0.heap.size nsx dsx lsy d q y0 HLY.out (HPX2.out.la (HA6.out _ HM.out).1) (HPX2.out.n (HA6.out _ HM.out).1) (HPX2.out.d (HA6.out _ HM.out).1) (HPL.out _ (HA6.out _ HM.out).1) (Nat.le_refl _) (Nat.le_refl _) (Nat.le_refl _) HPX2.out.sn HPX2.out.sd).mono ?_
    intro e y1 hpost
    obtain ⟨G1, g1, h1, rfl, hO, hb⟩ := hpost.any
    have hz := HD2.out _ (HA6.out _ HM.out).1
    have HG1_1 := Lib.hid (SlX.of_own (g := wl.heap.size) hO.out (by omega))
    have hb := hb.out
    have HMy1 := Lib.hid (HK6.out.later HM.out hb)
    have HZ1 := Lib.hid (HZ.out.below hb HZ.out.lt)
    clear hpost hO hb hz HM HZ
    have k0 : y1.cell? ⟨xb, 0, none⟩ = some (.slice Ax nx cx) := (HA2.out _ (HA6.out _ HMy1.out).1).2.1.cell 0
    have k1 : y1.cell? ⟨xb, 1, none⟩ = some (.slice Dx mx dx) := (HA2.out _ (HA6.out _ HMy1.out).1).2.1.cell 1
    obtain ⟨z0, z1, z2⟩ := lock_three HZ1.out
    go_wp2_with fail
    clear k0 k1 z0 z1 z2
    refine (rremove_any Ax Dx Ay nx cx mx dx my cy y1.heap.size y1.heap.size y1.heap.size nsx dsx lsy d q y1 HLY.out (HPX2.out.n (HA6.out _ HMy1.out).1) (HPX2.out.d (HA6.out _ HMy1.out).1) (HPL.out _ (HA6.out _ HMy1.out).1) (Nat.le_refl _) (Nat.le_refl _) (Nat.le_refl _) HPX2.out.sn HPX2.out.sd).mono ?_
    intro e y2 hpost
    obtain ⟨G2, g2, h2, rfl, hO, hb⟩ := hpost.any
    have hz := HD2.out _ (HA6.out _ HMy1.out).1
    have HG2_2 := Lib.hid (SlX.of_own (g := wl.heap.size) hO.out (by omega))
    have hb := hb.out
    have HMy2 := Lib.hid (HK6.out.later HMy1.out hb)
    have HZ2 := Lib.hid (HZ1.out.below hb HZ1.out.lt)
    have HG1_2 := Lib.hid (HG1_1.out.below hb)
    clear hpost hO hb hz HMy1 HZ1 HG1_1
    have q0 : (remErr nsx dsx lsy d q != remErr nsx dsx lsy d q) = false := by simp
    generalize remErr nsx dsx lsy d q = er at *
    go_wp2_with fail
    clear q0
    refine (same_true2 G1 G2 g1 h1 g2 h2 y2.heap.size y2.heap.size _ y2 HG1_2.out.1 HG2_2.out.1 (Nat.le_refl _) (Nat.le_refl _)).mono ?_
    rintro e y3 ⟨rfl, hb⟩
    have HMy3 := Lib.hid (HK6.out.later HMy2.out hb)
    clear hb HMy2 HZ2 HG1_2 HG2_2
    go_wp2_with fail
    refine Handed.intro (m5 - (t + 1)) (by omega) (hJ4 _ _ _ (LpI1.back 321 ?_ (by kernel_rfl)))
    dsimp only [gt]
    exact ⟨t + 1, by go_num, by omega, rfl, HMy3⟩
end Go.Proofs.YtbjndpjligpjaaaDoor
