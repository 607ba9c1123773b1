import Derived.Test.YtfaknfmndafllaaGreatDoorV36
import Derived.Test.YtfaknfmndafllaaGreatDoorV38
import Derived.Test.YtfaknfmndafllaaGreatDoorV15
set_option maxRecDepth 100000
set_option maxHeartbeats 16000000
namespace Go.Proofs.YtfaknfmndafllaaGreatDoor
open Go.RowKit
structure LwC (w : World) (nb : Nat) (An : Option Addr) (cn : Nat) (ns : List Nd) (Ad : Option Addr) (nd cd : Nat) (ds : List Dv) (As : Option Addr) (cs : Nat) (s : List Int) (B : Nat) (wr : World) : Prop where
 dk : DeckAt wr w.heap.size
 bx : Blk wr nb 30 #[.slice An 6 cn, .slice Ad nd cd]
 nB : nb < B
 hn : Sl wr B 3 An 6 cn (ns.flatMap Nd.cells)
 hd : Sl wr B 5 Ad nd cd (ds.flatMap Dv.cells)
 hs : Sl wr B 1 As nd cs (intsV s)
 xn : ∀ b off, An = some ⟨b, off, none⟩ → b ≠ w.heap.size
 xd : ∀ b off, Ad = some ⟨b, off, none⟩ → b ≠ w.heap.size
 xs : ∀ b off, As = some ⟨b, off, none⟩ → b ≠ w.heap.size
 bl : Below w.heap.size w wr
 gn : w.heap.size < nb
 le : B ≤ wr.heap.size
 la : Laid wr
section
variable {w wr wr' : World} {nb cn nd cd cs B : Nat} {An Ad As : Option Addr} {ns : List Nd} {ds : List Dv} {s : List Int}
theorem LwC.b (h : LwC w nb An cn ns Ad nd cd ds As cs s B wr) : LwB w nb An cn ns Ad nd cd ds As cs s wr :=
 ⟨⟨h.dk, h.bx, ⟨h.hn.more h.le, h.xn⟩, ⟨h.hd.more h.le, h.xd⟩, h.bl, h.gn, h.la⟩, ⟨h.hs.more h.le, h.xs⟩⟩
theorem LwB.c (h : LwB w nb An cn ns Ad nd cd ds As cs s wr) : LwC w nb An cn ns Ad nd cd ds As cs s wr.heap.size wr :=
 ⟨h.n.dk, h.n.bx, h.n.bx.lt, h.n.hn.1, h.n.hd.1, h.s.1, h.n.hn.2, h.n.hd.2, h.s.2, h.n.bl, h.n.ge, Nat.le_refl _, h.n.la⟩
theorem LwC.low (h : LwC w nb An cn ns Ad nd cd ds As cs s B wr) (hl : Laid w) (hb : Below B wr wr') : LwC w nb An cn ns Ad nd cd ds As cs s B wr' := by
 have h1 := h.gn; have h2 := h.nB
 refine ⟨h.dk.keep fun i hi => hb.block i (by omega), h.bx.below hb h.nB, h.nB, h.hn.below hb (Nat.le_refl _), h.hd.below hb (Nat.le_refl _), h.hs.below hb (Nat.le_refl _), h.xn, h.xd, h.xs, h.bl.trans (hb.mono (by omega)), h.gn, Nat.le_trans h.le hb.size, hl.below (h.bl.trans (hb.mono (by omega))) (Nat.le_refl _)⟩
theorem sl_far {g size n c : Nat} {A : Option Addr} {xs : List Value} (h : Sl wr B size A n c xs) (hx : ∀ b off, A = some ⟨b, off, none⟩ → b ≠ g) (hB : B ≤ wr.heap.size) (hg : wr.grownBy wr' (some g)) : Sl wr' B size A n c xs := by
 obtain ⟨h1, h2, h3, h4, h5⟩ := h
 refine ⟨h1, h2, h3, h4, fun hn => ?_⟩
 obtain ⟨b, off, e, hb, hc⟩ := h5 hn
 refine ⟨b, off, e, hb, fun j u hu => ?_⟩
 exact (World.cell?_of_block (hg.block b (by show b < _; omega) (fun e' => hx b off e (by injection e')))).trans (hc j u hu)
theorem LwC.grown (h : LwC w nb An cn ns Ad nd cd ds As cs s B wr) (hl : Laid w) (hg : wr.grownBy wr' (some w.heap.size)) (hd : DeckAt wr' w.heap.size) : LwC w nb An cn ns Ad nd cd ds As cs s B wr' :=
 ⟨hd, h.bx.grown hg (fun e => by have := h.gn; injection e; omega), h.nB, sl_far h.hn h.xn h.le hg, sl_far h.hd h.xd h.le hg, sl_far h.hs h.xs h.le hg, h.xn, h.xd, h.xs, h.bl.trans (below_of_grown hg (Nat.le_refl _) h.bl.size), h.gn, Nat.le_trans h.le hg.size, h.la.grown hl hg (Nat.le_refl _)⟩
end
theorem ints_gr {wr wr' : World} {g B n c : Nat} {A : Option Addr} {t : List Int} (h : IntsO wr B A n c t) (hg : wr.grownBy wr' (some g)) (hB : g < B) : IntsO wr' B A n c t := h.kept hg (ne_row fun b e => by have := (h.lt b e).1; omega)
def WtR (w : World) (nb : Nat) (An : Option Addr) (cn : Nat) (ns : List Nd) (Ad : Option Addr) (nd cd : Nat) (ds : List Dv) (As : Option Addr) (cs : Nat) (s : List Int) (B : Nat) (A6 : Option Addr) (c6 : Nat) (K gk : Nat) (kv : Value) (wr : World) : Prop :=
 ∃ t : List Int, kv = .int .i64 gk ∧ gk ≤ K ∧ Hid (LwC w nb An cn ns Ad nd cd ds As cs s B wr) ∧ Hid (IntsO wr B A6 nd c6 t) ∧ Hid (stateErr ns ds t = 0)
theorem walk_RestoreLeast (w : World) (hl : Laid w) (A : Option Addr) (n c : Nat) (zs : List Int) (hs : Sl w w.heap.size 1 A n c (intsV zs)) (_hz : ∀ z ∈ zs, (Lit.int .i64 z).wf = true) :
 Calls Tryz.prog 3 #[.slice A n c] w fun e w' => e = .returned (.bool true) ∧ Below w.heap.size w w' := by
 have hnm := hs.le
 have HL := Lib.hid hl; have HS := Lib.hid hs
 clear hl hs _hz
 have HF := Lib.hid (few_any A n c w (by omega))
 rcases hf : decide (n ≤ 400) with _ | _
 ·rw [hf] at HF
  clear hf
  go_enter Tryz.func3, Tryz.ntmps3
  go_wp2_with fail
  refine HF.out.mono ?_
  rintro e w1 ⟨rfl, rfl⟩
  go_wp2_with fail
  refine (awake_any w HL.out).mono ?_
  rintro e w1 ⟨rfl, hb⟩
  go_wp2_with fail
  go_ret
  exact ⟨rfl, hb⟩
 rw [hf] at HF
 clear hf
 go_enter Tryz.func3, Tryz.ntmps3
 go_wp2_with fail
 refine HF.out.mono ?_
 rintro e w1 ⟨rfl, rfl⟩
 go_wp2_with fail
 refine (new_any A n c w.heap.size zs w HS.out (Nat.le_refl _)).mono ?_
 rintro e w1 ⟨rfl, hd1, hb1, hs1⟩
 go_wp2_with fail
 refine (mkbay_any w.heap.size w1 hd1.out).mono ?_
 rintro e w2 ⟨An, cn, ns, Ad, nd, cd, ds, As, cs, s, rfl, hd2, hg2, hrn, hrd, hrs, hok⟩
 have HMK := LwB.mk0 HL.out hb1.out hs1.out hd2.out hg2.out hrn.out hrd.out hrs.out
 have HND := Lib.hid HMK.2
 have HN3 := Lib.hid HMK.1
 have HOK := Lib.hid hok.out
 have hnd : nd ≤ 9 := by have := hok.out.dl; rw [HND.out] at this; exact this
 clear HMK hd1 hb1 hs1 hd2 hg2 hrn hrd hrs hok HS HF
 go_upto_region 5 with (fail)
 generalize World.alloc _ _ = w3 at *
 obtain ⟨nb, hnb⟩ : ∃ nb, nb = w2.heap.size := ⟨_, rfl⟩
 rw [← hnb] at HN3 ⊢
 clear hnb
 have HSL := Lib.hid HN3.out.s.1
 have HLNS := Lib.hid (HSL.out.len (fun _ => rfl) (by decide))
 obtain ⟨B, hB⟩ : ∃ B, B = w3.heap.size := ⟨_, rfl⟩
 have HC3 := Lib.hid HN3.out.c
 rw [← hB] at HC3 HSL
 have HBE := Lib.hid hB
 clear hB
 go_upto_region 6 with (at_builtin; go_must (refine wpList_app rfl _ (.tmp 26) rfl el_int (by rfl) (World.ownsRow_nil _ w3.heap.size _ _) (by rfl) HSL.out (ints_one s) (by omega) (by omega) (Nat.le_refl _) ?_; intro A6 c6 w4 hown4 hgr4 hat4; simp only [Nat.zero_add, List.nil_append] at hown4 hgr4 ⊢; have HO4 : Hid (IntsO w4 w3.heap.size A6 nd c6 s) := hown4; have HB4 : Hid (Below w3.heap.size w3 w4) := below_none hgr4; clear hown4 hgr4 hat4))
 rw [← HBE.out] at HO4 HB4
 have HC4 := Lib.hid (HC3.out.low HL.out HB4.out)
 have HST : Hid (stateErr ns ds s = 0) := HOK.out.state
 clear HB4 HC3 HN3 HSL HBE
 go_wp2_with fail
 refine (next_any w.heap.size 4 w4 HC4.out.dk (by decide)).mono ?_
 rintro e w5 ⟨r, rfl, hr0, -, hr1, hd5, hg5, -⟩
 obtain ⟨K, rfl⟩ := Int.eq_ofNat_of_zero_le hr0
 have hK : K < 4 := by have := hr1.out (by decide); omega
 have HC5 := Lib.hid (HC4.out.grown HL.out hg5.out hd5.out)
 have HO5 := Lib.hid (ints_gr HO4.out hg5.out (Nat.lt_trans HC4.out.gn HC4.out.nB))
 clear hr0 hr1 hd5 hg5 HC4 HO4
 go_wp2_with fail
 refine wp_loop_u1 [(6, 0), (0, 2), (0, 1), (20, 0), (15, 1), (76, 0)] 7 (K) (WtR w nb An cn ns Ad nd cd ds As cs s B A6 c6 K) (by (try dsimp only [gt]); exact ⟨s, rfl, Nat.le_refl _, HC5.out, HO5.out, HST.out⟩) (by kernel_rfl) ?_
 intro u1 p7 gk wr a hrel ha J1 K1 hJ1 hK1
 dsimp only [relaxR, Go.Proofs.YtfaknfmndafllaaGreatDoor.v1, Nat.reduceAdd] at ha
 subst ha
 obtain ⟨t, rfl, hk, hC, hO, hT⟩ := hrel
 have HC := Lib.hid hC.out; have HO := Lib.hid hO.out; have HT := Lib.hid hT.out
 clear hC hO hT HC5 HO5
 by_cases hlt : 0 < gk
 ·have q1 : decide ((0 : Int) < (gk : Int)) = true := by simpa using hlt
  go_wp2_with fail
  refine (next_any w.heap.size nd wr HC.out.dk (by omega)).mono ?_
  rintro e w6 ⟨r, rfl, hr0, -, hr1, hd6, hg6, -⟩
  obtain ⟨i, rfl⟩ := Int.eq_ofNat_of_zero_le hr0
  have hnd1 : 1 ≤ nd := by
   obtain ⟨kk, hkk⟩ := HOK.out.dv
   rw [← HND.out, hkk]; simp [bayD]
  have hi : i < nd := by have := hr1.out (by omega); omega
  have HC6 := Lib.hid (HC.out.grown HL.out hg6.out hd6.out)
  have HO6 := Lib.hid (ints_gr HO.out hg6.out (Nat.lt_trans HC.out.gn HC.out.nB))
  clear hr0 hr1 hd6 hg6 HC HO
  obtain ⟨b, x, rfl, hb1, hb2, hx, hcell, hfz, hst⟩ := HO6.out.at hi
  have hx3 := HT.out
  have hxp : 1 ≤ x ∧ x ≤ 2 := (stateErr_pos HT.out).get hx
  have HTT : Hid (stateErr ns ds (t.set i (3 - x)) = 0) := by unfold Hid; rw [toggle_set hx]; exact stateErr_tog HT.out i
  have HO7 := Lib.hid (hst (3 - x))
  have HC7 := Lib.hid (HC6.out.low HL.out ((Below.refl B w6).setCell (p := ⟨b, i, none⟩) hb1 (.int .i64 (3 - x))))
  have hw3 : IntKind.i64.wrap (3 - x) = 3 - x := IntWalk.i64_in _ (by omega)
  have hwk : IntKind.i64.wrap ((gk : Int) - 1) = ((gk - 1 : Nat) : Int) := by rw [IntWalk.i64_in _ (by omega)]; omega
  clear hx hst hx3 HC6 HO6
  go_wp2_with fail
  refine Handed.intro (gk - 1) (by omega) (hJ1 _ _ _ (LpI1.back 7 ?_ (by kernel_rfl)))
  dsimp only [gt]
  exact ⟨_, rfl, by omega, HC7.out, HO7.out, HTT.out⟩
 have q1 : decide (0 < gk) = false := by simpa using hlt
 have HTL : Hid (s.length = nd ∧ t.length = nd) := ⟨HLNS.out, HO.out.len⟩
 have HBW := Lib.hid HC.out.b
 have HOS := Lib.hid HO.out.sl
 have HM : Hid (HzMem wr An Ad As none none 6 cn nd cd nd cs 0 0 0 0 ns ds s [] []) := ⟨HBW.out.n.hn.1, HBW.out.n.hd.1, HBW.out.s.1, Sl.nil _ _ _, Sl.nil _ _ _, HBW.out.n.la, HOK.out.names.1, HOK.out.names.2⟩
 have n0 := HBW.out.n.bx.cell 0; have n1 := HBW.out.n.bx.cell 1
 clear HC HO hlt
 go_wp2_with fail
 refine (rsearch_any An Ad As none none A6 6 cn nd cd nd cs 0 0 0 0 nd c6 ns ds s t [] [] 0 wr HM.out HOS.out).mono ?_
 rintro e w7 ⟨hp, hb7⟩
 have HSRE : Hid (srErr ns ds s t 0 [] [] = 0) := HOK.out.search HT.out (HOK.out.ground ⟨by simp, by simp, List.Pairwise.nil⟩)
 have HKEY : ∃ (A9 : Option Addr) (np c9 : Nat) (er : Int), e = .returned (.tuple #[.slice A9 np c9, .int .i64 er]) ∧ np ≤ 1024 ∧ (er = 15 ∧ NoneIs (stS (permB ns ds 0 [] [] [5]) (mvF ds [] 0) (mvS ds [] 0 ds.length).length) s (goalT t) ∨ er = 0 ∧ ∃ p, SomeIs (stS (permB ns ds 0 [] [] [5]) (mvF ds [] 0) (mvS ds [] 0 ds.length).length) s (goalT t) p ∧ p.length = np) := by
  rcases hp with ⟨h1, -⟩ | ⟨-, ⟨h1, rfl⟩ | ⟨p, A9, c9, h1, h2, rfl, -⟩⟩
  ·exact absurd HSRE.out h1
  ·exact ⟨none, 0, 0, 15, rfl, by omega, .inl ⟨rfl, h1⟩⟩
  ·exact ⟨A9, p.length, c9, 0, rfl, h2, .inr ⟨rfl, p, h1, rfl⟩⟩
 obtain ⟨A9, np, c9, er, rfl, hnp, hkey⟩ := HKEY
 have HKY := Lib.hid hkey
 have HB7 := Lib.hid (HBW.out.later hb7.out)
 have HT7 := Lib.hid ((HOS.out.below hb7.out (Nat.le_refl _)).more hb7.out.size)
 have HSZ := Lib.hid hb7.out.size
 clear hkey hp hb7 HSRE HM HBW HOS n0 n1 q1
 go_wp2_with fail
 refine (rsdiff_any As A6 nd cs nd c6 w7.heap.size w7.heap.size s t w7 HB7.out.s.1 HT7.out (Nat.le_refl _) (Nat.le_refl _) (by omega)).mono ?_
 rintro e w8 ⟨A11, c11, rfl, ho8, hb8⟩
 have hmn : min s.length t.length = ds.length := by rw [HTL.out.1, HTL.out.2, HND.out]; simp
 rw [hmn] at ho8 ⊢
 obtain ⟨D, hD⟩ : ∃ D, D = dfL s t ds.length := ⟨_, rfl⟩
 rw [← hD] at ho8 ⊢
 have HDD := Lib.hid hD
 have hDl : D.length ≤ 9 := by rw [hD]; exact Nat.le_trans (dfL_len _ _ _) HOK.out.dl
 have HO8 : Hid (Sl w8 w8.heap.size 1 A11 D.length c11 (intsV (D.map fun i : Nat => (i : Int)))) := by
  have := Sl.of_own ho8.out
  rw [natsV_int] at this; exact this
 have HDM : Hid (∀ d ∈ D, d < ds.length) := fun d hd => by rw [hD] at hd; exact (dfL_mem.1 hd).1
 have HB8 := Lib.hid (HB7.out.later hb8.out)
 have HT8 := Lib.hid ((HT7.out.below hb8.out (Nat.le_refl _)).more hb8.out.size)
 clear hD hmn ho8 hb8 HB7 HT7 HSZ
 have HM : Hid (HzMem w8 An Ad As none none 6 cn nd cd nd cs 0 0 0 0 ns ds s [] []) := ⟨HB8.out.n.hn.1, HB8.out.n.hd.1, HB8.out.s.1, Sl.nil _ _ _, Sl.nil _ _ _, HB8.out.n.la, HOK.out.names.1, HOK.out.names.2⟩
 have n0 := HB8.out.n.bx.cell 0; have n1 := HB8.out.n.bx.cell 1
 go_wp2_with fail
 refine (rsearch_any An Ad As none none As 6 cn nd cd nd cs 0 0 0 0 nd cs ns ds s s [] [] 0 w8 HM.out HB8.out.s.1).mono ?_
 rintro e w9 ⟨hp, hb9⟩
 have HKEY : ∃ (A9 : Option Addr) (c9 : Nat), e = .returned (.tuple #[.slice A9 0 c9, .int .i64 0]) := by
  have hsr : srErr ns ds s s 0 [] [] = 0 := HOK.out.search HST.out (HOK.out.ground ⟨by simp, by simp, List.Pairwise.nil⟩)
  rcases hp with ⟨h1, -⟩ | ⟨-, ⟨h1, -⟩ | ⟨p, A9, c9, h1, h2, rfl, -⟩⟩
  ·exact absurd hsr h1
  ·exact (stay_none h1).elim
  ·have := stay_some h1
   subst this
   exact ⟨A9, c9, rfl⟩
 obtain ⟨A12, c12, rfl⟩ := HKEY
 have HB9 := Lib.hid (HB8.out.later hb9.out)
 have HT9 := Lib.hid ((HT8.out.below hb9.out (Nat.le_refl _)).more hb9.out.size)
 have HO9 := Lib.hid ((HO8.out.below hb9.out (Nat.le_refl _)).more hb9.out.size)
 clear hp hb9 HM HB8 HT8 HO8 n0 n1
 have HM : Hid (HzMem w9 An Ad As none none 6 cn nd cd nd cs 0 0 0 0 ns ds s [] []) := ⟨HB9.out.n.hn.1, HB9.out.n.hd.1, HB9.out.s.1, Sl.nil _ _ _, Sl.nil _ _ _, HB9.out.n.la, HOK.out.names.1, HOK.out.names.2⟩
 have n0 := HB9.out.n.bx.cell 0; have n1 := HB9.out.n.bx.cell 1
 have HOC := Lib.hid (ordr_any D.length An Ad As A11 6 cn nd cd nd cs c11 ns ds s D w9 rfl (by omega) HM.out HO9.out HST.out HDM.out)
 obtain ⟨b, hb⟩ : ∃ b, ordF (permB ns ds 0 [] [] [5]) (badK ds) D.length s D = b := ⟨_, rfl⟩
 rw [hb] at HOC
 have HLAW := Lib.hid (order_law HOK.out HT.out (by rw [HTL.out.2, HND.out]))
 rw [← HDD.out, hb] at HLAW
 clear hb HM HO9
 rcases HKY.out with ⟨rfl, hno⟩ | ⟨rfl, p, hso, hpl⟩
 ·have hbf : b = false := HLAW.out.1 hno
  subst hbf
  clear hno HKY HLAW
  go_wp2_with fail
  refine HOC.out.mono ?_
  rintro e w10 ⟨rfl, hb10⟩
  have HB10 := Lib.hid (HB9.out.later hb10)
  clear HOC hb10 n0 n1
  go_wp2_with fail
  refine (awake_any w10 HB10.out.n.la).mono ?_
  rintro e w11 ⟨rfl, hb11⟩
  have HE := Lib.hid (HB10.out.n.bl.trans (hb11.mono HB10.out.n.bl.size))
  go_wp2_with fail
  go_ret
  exact ⟨rfl, HE.out⟩
 ·obtain ⟨a1, a2, a3⟩ := HLAW.out.2 p hso
  rw [hpl] at a1 a2 a3
  have q4 : decide (D.length ≤ np) = true := by simpa using a1
  have q5 : ((np : Int) == (D.length : Int)) = b := by rw [← a3, Bool.eq_iff_iff, beq_iff_eq, decide_eq_true_eq]; omega
  have q7 : IntKind.i64.wrap ((np : Int) - (D.length : Int)) = ((np - D.length : Nat) : Int) := by rw [IntWalk.i64_in _ (by omega)]; omega
  have q8 : ((np - D.length : Nat) : Int).tmod 2 = 0 := by rw [Int.tmod_eq_emod_of_nonneg (by omega)]; omega
  clear hso hpl a1 a2 a3 HKY HLAW
  go_wp2_with fail
  refine HOC.out.mono ?_
  rintro e w10 ⟨rfl, hb10⟩
  have HB10 := Lib.hid (HB9.out.later hb10)
  have HT10 := Lib.hid ((HT9.out.below hb10 (Nat.le_refl _)).more hb10.size)
  clear HOC hb10 n0 n1
  have n0 := HB10.out.n.bx.cell 0; have n1 := HB10.out.n.bx.cell 1
  go_wp2_with fail
  refine (rstate_any An Ad A6 6 cn nd cd nd c6 w10.heap.size w10.heap.size w10.heap.size ns ds t w10 HB10.out.n.hn.1 HB10.out.n.hd.1 HT10.out (Nat.le_refl _) (Nat.le_refl _) (Nat.le_refl _) HOK.out.names.1 HOK.out.names.2).mono ?_
  rintro e w11 ⟨rfl, hb11⟩
  have HB11 := Lib.hid (HB10.out.later hb11)
  clear hb11 n0 n1
  rw [HT.out]
  go_wp2_with fail
  refine (awake_any w11 HB11.out.n.la).mono ?_
  rintro e w12 ⟨rfl, hb12⟩
  have HE := Lib.hid (HB11.out.n.bl.trans (hb12.mono HB11.out.n.bl.size))
  go_wp2_with fail
  go_ret
  exact ⟨rfl, HE.out⟩
end Go.Proofs.YtfaknfmndafllaaGreatDoor
