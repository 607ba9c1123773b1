import Derived.Test.YtfaknfmndafllaaGreatDoorW34
import Derived.Test.YtfaknfmndafllaaGreatDoorW36
import Derived.Test.YtfaknfmndafllaaGreatDoorW38
import Derived.Test.YtfaknfmndafllaaGreatDoorW27
set_option maxRecDepth 100000
set_option maxHeartbeats 16000000
namespace Go.Proofs.YtfaknfmndafllaaGreatDoor
open Go.RowKit
section
variable {ns : List Nd} {ds : List Dv} {s t : List Int}
theorem BayOk.at (h : BayOk ns ds s) (ht : stateErr ns ds t = 0) (hl : t.length = ds.length) : BayOk ns ds t := ⟨h.n6, h.nok, h.dv, hl, fun p hp => by have := stateErr_pos ht p hp; simp [posB]; omega⟩
theorem BayOk.plan (h : BayOk ns ds s) {z : List Int} (hz : 0 < z.length) (hr : risL 6 (-1) z = true) : plErr ns ds s 0 [] [] z = 0 := by
 unfold plErr
 rw [if_neg (by rw [h.state]; simp), if_neg (by rw [h.problem (h.ground (ls := []) ⟨by simp, by simp, List.Pairwise.nil⟩) rfl]; simp)]
 unfold zoneErr
 rw [if_neg (by rw [h.check]; simp), if_neg (by omega), h.n6, if_neg (by rw [show ((6 : Nat) : Int) = 6 from rfl, hr]; simp)]
theorem opsP_take (M : Nat → Nat) : ∀ (p : List Nat) (s : List Int) (k : Nat), (opsP M s p).take k = opsP M s (p.take k)
 | [], _, k => by simp [opsP]
 | _ :: _, _, 0 => rfl
 | i :: p, s, k + 1 => by
  show _ :: (opsP M (tog s (M i)) p).take k = _
  rw [opsP_take M p _ k]; rfl
theorem way_next {perm : List Int → Nat → Bool} {M : Nat → Nat} {m : Nat} {p : List Nat} {σ t : List Int} {j i : Nat} (h : wk (stS perm M m) s p = some t) (hj : wk (stS perm M m) s (p.take j) = some σ) (hi : p[j]? = some i) : i < m ∧ perm σ (M i) = true ∧ wk (stS perm M m) s (p.take (j + 1)) = some (tog σ (M i)) ∧ (opsP M s p)[j]? = some ((M i : Int), 3 - σ.getD (M i) 0) := by
 have h1 : wk (stS perm M m) s (p.take (j + 1)) ≠ none := fun e => by
  have h2 := wk_app (stS perm M m) (p.take (j + 1)) (p.drop (j + 1)) s
  rw [List.take_append_drop, h, e] at h2; cases h2
 rw [take_snoc hi] at h1 ⊢
 rw [wk_app, hj] at h1 ⊢
 obtain ⟨u, hu⟩ := Option.ne_none_iff_exists'.1 h1
 obtain ⟨u', h3, h4⟩ := Option.bind_eq_some_iff.1 (show (stS perm M m σ i).bind (fun b => wk (stS perm M m) b []) = some u from hu)
 obtain ⟨⟨h5, h6⟩, rfl⟩ := stS_some.1 h3
 refine ⟨h5, h6, ?_, ?_⟩
 ·show (stS perm M m σ i).bind (fun b => wk (stS perm M m) b []) = some (tog σ (M i))
  rw [h3]; rfl
 ·have h7 := opsP_snoc (perm := perm) (m := m) i (p.take j) s σ hj
  rw [← take_snoc hi] at h7
  have h8 : (opsP M s p).take (j + 1) = opsP M s (p.take (j + 1)) := opsP_take M p s (j + 1)
  have h9 : (opsP M s p)[j]? = ((opsP M s p).take (j + 1))[j]? := by rw [List.getElem?_take, if_pos (by omega)]
  rw [h9, h8, h7, List.getElem?_append_right (by rw [opsP_len, List.length_take]; omega), opsP_len, List.length_take]
  have : j < p.length := (List.getElem?_eq_some_iff.1 hi).1
  rw [Nat.min_eq_left (by omega)]; simp
theorem undW_next {perm : List Int → Nat → Bool} {M : Nat → Nat} {m : Nat} : ∀ (q : List Nat) (s σ : List Int) (i : Nat), wk (stS perm M m) s q = some σ → UndW ns ds M s q → UndC ns ds σ (M i) → UndW ns ds M s (q ++ [i])
 | [], s, σ, i, h, _, hc => by
  injection h with h
  subst h
  exact ⟨hc, trivial⟩
 | x :: q, s, σ, i, h, hw, hc => by
  obtain ⟨s', h1, h2⟩ := Option.bind_eq_some_iff.1 (show (stS perm M m s x).bind (fun b => wk (stS perm M m) b q) = some σ from h)
  obtain ⟨-, rfl⟩ := stS_some.1 h1
  exact ⟨hw.1, undW_next q _ σ i h2 hw.2 hc⟩
end
def UdR (z : World) (ns : List Nd) (ds : List Dv) (s : List Int) (p : List Nat) (nd m gk : Nat) (v9 iv : Value) (wr : World) : Prop :=
 ∃ (j c9 : Nat) (A9 : Option Addr) (σ : List Int), v9 = .slice A9 nd c9 ∧ iv = .int .i64 j ∧ j ≤ m ∧ gk = m - j ∧ Hid (wk (plSt ns ds 0 [] []) s (p.take j) = some σ) ∧ Hid (UndW ns ds (mvF ds [] 0) s (p.take j)) ∧ Hid (Sl wr wr.heap.size 1 A9 nd c9 (intsV σ)) ∧ Hid (stateErr ns ds σ = 0) ∧ Hid (Below z.heap.size z wr)
theorem walk_RestoreUndoes (w : World) (hl : Laid w) (A : Option Addr) (n c : Nat) (zs : List Int) (hs : Sl w w.heap.size 1 A n c (intsV zs)) (_hz : ∀ z ∈ zs, (Lit.int .i64 z).wf = true) :
 Calls Tryz.prog 6 #[.slice A n c] w fun e w' => e = .returned (.bool true) ∧ Below w.heap.size w w' := by
 have hnm := hs.le
 have HL := Lib.hid hl; have HS := Lib.hid hs
 clear hl hs _hz
 have HF := Lib.hid (few_any A n c w (by omega))
 rcases hf : decide (n ≤ 400) with _ | _
 ·rw [hf] at HF
  clear hf
  go_enter Tryz.func6, Tryz.ntmps6
  go_wp2_with fail
  refine HF.out.mono ?_
  rintro e w1 ⟨rfl, rfl⟩
  go_wp2_with fail
  refine (awake_any w HL.out).mono ?_
  rintro e w1 ⟨rfl, hb⟩
  go_wp2_with fail
  go_ret
  exact ⟨rfl, hb⟩
 rw [hf] at HF
 clear hf
 go_enter Tryz.func6, Tryz.ntmps6
 go_wp2_with fail
 refine HF.out.mono ?_
 rintro e w1 ⟨rfl, rfl⟩
 go_wp2_with fail
 refine (new_any A n c w.heap.size zs w HS.out (Nat.le_refl _)).mono ?_
 rintro e w1 ⟨rfl, hd1, hb1, hs1⟩
 go_wp2_with fail
 refine (mkbay_any w.heap.size w1 hd1.out).mono ?_
 rintro e w2 ⟨An, cn, ns, Ad, nd, cd, ds, As, cs, s, rfl, hd2, hg2, hrn, hrd, hrs, hok⟩
 have HMK := LwB.mk0 HL.out hb1.out hs1.out hd2.out hg2.out hrn.out hrd.out hrs.out
 have HND := Lib.hid HMK.2
 have HN3 := Lib.hid HMK.1
 have HOK := Lib.hid hok.out
 have hnd : nd ≤ 9 := by have := hok.out.dl; rw [HND.out] at this; exact this
 clear HMK hd1 hb1 hs1 hd2 hg2 hrn hrd hrs hok HS HF
 go_upto_region 5 with (fail)
 generalize World.alloc _ _ = w3 at *
 obtain ⟨nb, hnb⟩ : ∃ nb, nb = w2.heap.size := ⟨_, rfl⟩
 rw [← hnb] at HN3 ⊢
 clear hnb
 have n0 := HN3.out.n.bx.cell 0; have n1 := HN3.out.n.bx.cell 1
 go_wp2_with fail
 refine (mkzone_any w.heap.size An Ad 6 cn nd cd w3 HN3.out.n.dk (by decide) (by decide)).mono ?_
 rintro e w4 ⟨Az, kz, cz, z, rfl, hd4, hg4, hO4, hzz⟩
 have HN4 := Lib.hid (HN3.out.grown HL.out hg4.out hd4.out)
 have HZ4 := Lib.hid hO4.out.sl
 have HZL : Hid (z.length = kz) := hO4.out.len
 have hkz : 0 < kz ∧ kz ≤ 6 := ⟨hzz.out.1, hzz.out.2.1⟩
 have HPE : Hid (plErr ns ds s 0 [] [] z = 0) := HOK.out.plan (by rw [HZL.out]; exact hkz.1) hzz.out.2.2
 clear hd4 hg4 hO4 hzz HN3 n0 n1
 have HM4 : Hid (HzMem w4 An Ad As none none 6 cn nd cd nd cs 0 0 0 0 ns ds s [] []) := ⟨HN4.out.n.hn.1, HN4.out.n.hd.1, HN4.out.s.1, Sl.nil _ _ _, Sl.nil _ _ _, HN4.out.n.la, HOK.out.names.1, HOK.out.names.2⟩
 have n0 := HN4.out.n.bx.cell 0; have n1 := HN4.out.n.bx.cell 1
 go_wp2_with fail
 refine (psearch_any An Ad As none none Az 6 cn nd cd nd cs 0 0 0 0 kz cz ns ds s z [] [] 0 w4 HM4.out HZ4.out (by omega)).mono ?_
 rintro e w5 ⟨hp, hb5⟩
 have HN5 := Lib.hid (HN4.out.later hb5.out)
 clear hb5 HN4 HM4 HZ4 n0 n1
 rcases hp with ⟨h1, -⟩ | ⟨-, ⟨-, rfl⟩ | ⟨p, A7, c7, hso, hpl, rfl, hown⟩⟩
 ·exact absurd HPE.out h1
 ·go_wp2_with fail
  refine (awake_any w5 HN5.out.n.la).mono ?_
  rintro e w6 ⟨rfl, hb6⟩
  have HE := Lib.hid (HN5.out.n.bl.trans (hb6.mono HN5.out.n.bl.size))
  go_wp2_with fail
  go_ret
  exact ⟨rfl, HE.out⟩
 obtain ⟨t, cst, hwk, -, -⟩ := hso
 have HWK : Hid (wk (plSt ns ds 0 [] []) s p = some t) := hwk
 obtain ⟨m, hm⟩ : ∃ m, m = p.length := ⟨_, rfl⟩
 have HPL := Lib.hid hm
 rw [← hm] at hpl hown ⊢
 have HOP : Hid (Sl w5 w5.heap.size 2 A7 m c7 (opsV (opsP (mvF ds [] 0) s p))) := Sl.of_own hown
 clear hm hwk hown HPE
 have HSR := Lib.hid HN5.out.s.1
 have hm63 : m ≤ 9223372036854775807 := by omega
 go_upto_region 10 with (at_builtin; go_must (refine wpList_app rfl _ (.tmp 54) rfl el_int (by rfl) (World.ownsRow_nil _ w5.heap.size _ _) (by rfl) HSR.out (ints_one s) (by omega) (by omega) (Nat.le_refl _) ?_; intro A9 c9 z0 hown4 hgr4 hat4; simp only [Nat.zero_add, List.nil_append] at hown4 hgr4 ⊢; have HO6 : Hid (IntsO z0 w5.heap.size A9 nd c9 s) := hown4; have HB6 : Hid (Below w5.heap.size w5 z0) := below_none hgr4; clear hown4 hgr4 hat4))
 have HNz := Lib.hid (HN5.out.later HB6.out)
 have HOz := Lib.hid ((HOP.out.below HB6.out (Nat.le_refl _)).more HB6.out.size)
 have HSz := Lib.hid HO6.out.sl
 clear HO6 HB6 HSR HN5 HOP
 go_wp2_with fail
 refine wp_loop_u2 [(1, 0), (0, 1), (5, 0), (0, 2), (0, 0), (11, 1), (34, 0), (0, 3), (83, 1), (26, 0)] 9 58 (m) (UdR z0 ns ds s p nd m) (by (try dsimp only [gt]); exact ⟨0, c9, A9, s, rfl, rfl, Nat.zero_le _, rfl, rfl, trivial, HSz, HOK.out.state, Below.refl _ _⟩) (by kernel_rfl) ?_
 intro u1 p9 p58 gk wr a hrel ha J1 K1 hJ1 hK1
 dsimp only [relaxR, Go.Proofs.YtfaknfmndafllaaGreatDoor.v2, Nat.reduceAdd] at ha
 subst ha
 obtain ⟨j, c9', A9', σ, rfl, rfl, hj, rfl, hwkj, huw, hsl, hse, hbz⟩ := hrel
 have HWJ := Lib.hid hwkj.out; have HUW := Lib.hid huw.out; have HSJ := Lib.hid hsl.out; have HSE := Lib.hid hse.out; have HBZ := Lib.hid hbz.out
 clear hwkj huw hsl hse hbz HSz
 have HNr := Lib.hid (HNz.out.later HBZ.out)
 have HSL : Hid (σ.length = nd) := HSJ.out.len (fun _ => rfl) (by decide)
 by_cases hlt : j < m; rotate_left
 ·have q1 : decide (j < m) = false := by simpa using hlt
  have hjm : p.take j = p := List.take_of_length_le (by have := HPL.out; omega)
  rw [hjm] at HWJ HUW
  have hst : σ = t := by have := HWK.out; rw [HWJ.out] at this; injection this
  subst hst
  obtain ⟨hte, hnn, hq⟩ := undo_law HOK.out HWK.out HUW.out
  have HQ := Lib.hid hq; have HNN := Lib.hid hnn
  clear hte hnn hq hjm
  have HM : Hid (HzMem wr An Ad A9' none none 6 cn nd cd nd c9' 0 0 0 0 ns ds σ [] []) := ⟨HNr.out.n.hn.1, HNr.out.n.hd.1, HSJ.out, Sl.nil _ _ _, Sl.nil _ _ _, HNr.out.n.la, HOK.out.names.1, HOK.out.names.2⟩
  have HOK2 : Hid (BayOk ns ds σ) := HOK.out.at HSE.out (by rw [HSL.out, HND.out])
  have n0 := HNr.out.n.bx.cell 0; have n1 := HNr.out.n.bx.cell 1
  go_wp2_with fail
  refine (rsearch_any An Ad A9' none none As 6 cn nd cd nd c9' 0 0 0 0 nd cs ns ds σ s [] [] 0 wr HM.out HNr.out.s.1).mono ?_
  rintro e w6 ⟨hp, hb6⟩
  have HSRE : Hid (srErr ns ds σ s 0 [] [] = 0) := HOK2.out.search HOK.out.state (HOK2.out.ground ⟨by simp, by simp, List.Pairwise.nil⟩)
  have HN6 := Lib.hid (HNr.out.later hb6.out)
  have HS6 := Lib.hid ((HSJ.out.below hb6.out (Nat.le_refl _)).more hb6.out.size)
  rcases hp with ⟨h1, -⟩ | ⟨-, ⟨h1, -⟩ | ⟨q, A23, c23, h1, h2, rfl, hown⟩⟩
  ·exact absurd HSRE.out h1
  ·exact absurd h1 HNN.out
  obtain ⟨h3, h4⟩ := HQ.out q h1
  have HAF : Hid (aftL σ (opsP (mvF ds [] 0) σ q) = s) := aft_way (k := ds.length) (fun i hi => mvF_lt hi) q σ s (by rw [HSL.out, HND.out]) h4
  have HOQ : Hid (Sl w6 w6.heap.size 2 A23 q.length c23 (opsV (opsP (mvF ds [] 0) σ q))) := Sl.of_own hown
  have q4 : decide (q.length ≤ m) = true := by have := HPL.out; simpa using (by omega : q.length ≤ m)
  have hq63 : q.length ≤ 1024 := h2
  clear hb6 h1 h2 h3 h4 hown HSRE HM HQ HNN n0 n1 q1
  have HCA := Lib.hid (after_any A9' A23 nd c9' q.length c23 σ (opsP (mvF ds [] 0) σ q) w6 HS6.out HOQ.out (by omega) (by omega))
  rw [HAF.out] at HCA
  go_wp2_with fail
  refine HCA.out.mono ?_
  rintro e w7 ⟨A24, c24, rfl, hO7, hb7⟩
  have HN7 := Lib.hid (HN6.out.later hb7)
  have HO7 := Lib.hid hO7.sl
  clear HCA hO7 hb7
  go_wp2_with fail
  refine (ints_any A24 As s.length c24 nd cs w7.heap.size w7.heap.size s s w7 HO7.out HN7.out.s.1 (Nat.le_refl _) (Nat.le_refl _)).mono ?_
  rintro e w8 ⟨rfl, hb8⟩
  have HN8 := Lib.hid (HN7.out.later hb8)
  clear hb8
  rw [show decide (s = s) = true from decide_eq_true rfl]
  go_wp2_with fail
  refine (awake_any w8 HN8.out.n.la).mono ?_
  rintro e w9 ⟨rfl, hb9⟩
  have HE := Lib.hid (HN8.out.n.bl.trans (hb9.mono HN8.out.n.bl.size))
  go_wp2_with fail
  go_ret
  exact ⟨rfl, HE.out⟩
 have q1 : decide (j < m) = true := by simpa using hlt
 obtain ⟨i, hpi⟩ : ∃ i, p[j]? = some i := ⟨_, List.getElem?_eq_getElem (by have := HPL.out; omega)⟩
 obtain ⟨hi, hperm, hw1, hop⟩ := way_next (perm := permB ns ds 0 [] [] [3, 5]) (M := mvF ds [] 0) (m := (mvS ds [] 0 ds.length).length) HWK.out HWJ.out hpi
 have HUN := Lib.hid (undW_next (perm := permB ns ds 0 [] [] [3, 5]) (M := mvF ds [] 0) (m := (mvS ds [] 0 ds.length).length) (ns := ns) (ds := ds) (p.take j) s σ i HWJ.out HUW.out)
 rw [← take_snoc hpi] at HUN
 obtain ⟨d, hdd⟩ : ∃ d, d = mvF ds [] 0 i := ⟨_, rfl⟩
 have hdn : d < nd := by have := mvF_lt hi; rw [hdd, ← HND.out]; exact this
 rw [← hdd] at hw1 hop HUN
 have HWN := Lib.hid hw1
 clear hi hperm hw1 hpi hdd
 obtain ⟨b1, o1, a1, p1, rfl, hb1, hx1, e0, e1⟩ := op_at (HOz.out.below HBZ.out (Nat.le_refl _)) hlt
 obtain ⟨b2, o2, sv, rfl, hb2, hsv, e2⟩ := HSJ.out.at1 hdn
 have hgd : σ.getD d 0 = sv := by rw [List.getD_eq_getElem?_getD, hsv]; rfl
 rw [hgd] at hop
 obtain ⟨rfl, rfl⟩ : a1 = (d : Int) ∧ p1 = 3 - sv := by
  rw [hop] at hx1
  injection hx1 with h
  injection h with h1 h2
  exact ⟨h1.symm, h2.symm⟩
 have hsp : 1 ≤ sv ∧ sv ≤ 2 := (stateErr_pos HSE.out).get hsv
 have HTG : Hid (σ.set d (3 - sv) = tog σ d) := by unfold Hid; rw [tog_is, List.getD_eq_getElem?_getD, hsv]; rfl
 have HTE : Hid (stateErr ns ds (tog σ d) = 0) := stateErr_tog HSE.out d
 have hjj : IntKind.i64.wrap ((j : Int) + 1) = (j : Int) + 1 := IntWalk.i64_in _ (by omega)
 clear hop hx1 hgd hsv
 go_upto_region 13 with (fail)
 have HOB := Lib.hid (Blk.new wr 62 #[.int .i64 (d : Int), .int .i64 (3 - sv)])
 have HBV : Hid (Below wr.heap.size wr (wr.alloc (.cells #[.int .i64 (d : Int), .int .i64 (3 - sv)] 62))) := (Below.refl _ _).alloc (Nat.le_refl _) _
 have e3 := (HBV.out.cell (p := ⟨b2, o2 + d, none⟩) hb2).trans e2
 clear q1 e0 e1 e2
 generalize World.alloc wr _ = V at *
 obtain ⟨ob, hob⟩ : ∃ ob, ob = wr.heap.size := ⟨_, rfl⟩
 rw [← hob] at HOB ⊢
 clear hob
 have HCS : Hid (V.cell? ⟨ob, 0, none⟩ = some (.int .i64 (d : Int)) ∧ V.cell? ⟨ob, 1, none⟩ = some (.int .i64 (3 - sv)) ∧ V.cell? ⟨b2, o2 + d, none⟩ = some (.int .i64 sv)) := ⟨HOB.out.cell 0, HOB.out.cell 1, e3⟩
 have f1 : decide ((d : Int) < 0) = false := by simp
 have f2 : decide (nd ≤ d) = false := by simpa using hdn
 have f3 : (sv == 3 - sv) = false := by simp; omega
 have f4 : (0 : Int) ≤ (d : Int) := Int.natCast_nonneg _
 have f5 : (d : Int) < (nd : Int) := by omega
 clear e3
 refine wp_region_J (S := fun W' => W'.cell? ⟨ob, 0, none⟩ = some (.int .i64 (d : Int)) ∧ W'.cell? ⟨ob, 1, none⟩ = some (.int .i64 (3 - sv)) ∧ W'.cell? ⟨b2, o2 + d, none⟩ = some (.int .i64 sv)) (J := []) (by kernel_rfl) ?_ (fun hHeld => ?_)
 ·exact HCS.out
 try dsimp only at hHeld
 refine tk 0 62 (mf 20 1) hHeld ?_
 refine wpAnyJ_takeL (i := 1) (d := some 63) (v := ?_) (mf 20 2) (by kernel_rfl) rfl rfl (by kernel_rfl) (by kernel_rfl) (by kernel_rfl) (by kernel_rfl) (by kernel_rfl) (fun _ _ _ h => h) (Or.inl ⟨by rfl, ?_⟩) hHeld ?_
 rotate_left
 ·(intro w hSw; (try dsimp only at hSw); have u0 := hSw.1; go_simp; try with_reducible rfl)
 try simp only [Act.put, sA, sB, sC]
 refine tk 2 64 (mf 20 3) hHeld ?_
 refine tk 3 65 (mf 20 4) hHeld ?_
 refine tk 4 66 (mf 20 5) hHeld ?_
 refine wpAnyJ_takeL (i := 5) (d := some 67) (v := ?_) (mf 20 6) (by kernel_rfl) rfl rfl (by kernel_rfl) (by kernel_rfl) (by kernel_rfl) (by kernel_rfl) (by kernel_rfl) (fun _ _ _ h => h) (Or.inl ⟨by rfl, ?_⟩) hHeld ?_
 rotate_left
 ·(intro w hSw; (try dsimp only at hSw); have u0 := hSw.1; go_simp; try with_reducible rfl)
 try simp only [Act.put, sA, sB, sC]
 refine tk 6 68 (mf 20 7) hHeld ?_
 refine tk 7 69 (mf 20 8) hHeld ?_
 refine tk 8 70 (mf 20 9) hHeld ?_
 refine tk 9 71 (mf 20 10) hHeld ?_
 refine tk 10 72 (mf 20 11) hHeld ?_
 refine tk 11 73 (mf 20 12) hHeld ?_
 refine tk 12 74 (mf 20 13) hHeld ?_
 refine wpAnyJ_takeL (i := 13) (d := some 75) (v := ?_) (mf 20 14) (by kernel_rfl) rfl rfl (by kernel_rfl) (by kernel_rfl) (by kernel_rfl) (by kernel_rfl) (by kernel_rfl) (fun _ _ _ h => h) (Or.inl ⟨by rfl, ?_⟩) hHeld ?_
 rotate_left
 ·(intro w hSw; (try dsimp only at hSw); have u0 := hSw.1; go_simp; try with_reducible rfl)
 try simp only [Act.put, sA, sB, sC]
 refine tk 14 76 (mf 20 15) hHeld ?_
 refine wpAnyJ_takeL (i := 15) (d := some 77) (v := ?_) (mf 20 16) (by kernel_rfl) rfl rfl (by kernel_rfl) (by kernel_rfl) (by kernel_rfl) (by kernel_rfl) (by kernel_rfl) (fun _ _ _ h => h) (Or.inl ⟨by rfl, ?_⟩) hHeld ?_
 rotate_left
 ·(intro w hSw; (try dsimp only at hSw); have u0 := hSw.2.2; go_simp; try with_reducible rfl)
 try simp only [Act.put, sA, sB, sC]
 refine tk 16 78 (mf 20 17) hHeld ?_
 refine wpAnyJ_takeL (i := 17) (d := some 79) (v := ?_) (mf 20 18) (by kernel_rfl) rfl rfl (by kernel_rfl) (by kernel_rfl) (by kernel_rfl) (by kernel_rfl) (by kernel_rfl) (fun _ _ _ h => h) (Or.inl ⟨by rfl, ?_⟩) hHeld ?_
 rotate_left
 ·(intro w hSw; (try dsimp only at hSw); have u0 := hSw.2.1; go_simp; try with_reducible rfl)
 try simp only [Act.put, sA, sB, sC]
 refine tk 18 80 (mf 20 19) hHeld ?_
 refine tk 19 81 (mf 20 20) hHeld ?_
 refine wpAnyJ_done (by kernel_rfl) ?_ _
 clear hHeld HCS f1 f2 f3
 have HBD : Hid (Below wr.heap.size wr V.drew) := HBV.out.drew
 have HOD := Lib.hid (HOB.out.below (Below.refl V.heap.size V).drew HOB.out.lt)
 clear HOB HBV
 generalize World.drew V = U at *
 have HNU := Lib.hid (HNr.out.later HBD.out)
 have HSU := Lib.hid ((HSJ.out.below HBD.out (Nat.le_refl _)).more HBD.out.size)
 have HBU := Lib.hid (HBZ.out.trans (HBD.out.mono HBZ.out.size))
 clear HBD HNr HSJ HBZ
 go_upto_region 16 with (at_builtin; go_must (refine wpList_app rfl _ (.tmp 82) rfl el_int (by rfl) (World.ownsRow_nil _ U.heap.size _ _) (by rfl) HSU.out (ints_one σ) (by omega) (by omega) (Nat.le_refl _) ?_; intro A12 c12 w6 hown4 hgr4 hat4; simp only [Nat.zero_add, List.nil_append] at hown4 hgr4 ⊢; have HO6 : Hid (IntsO w6 U.heap.size A12 nd c12 σ) := hown4; have HB6 : Hid (Below U.heap.size U w6) := below_none hgr4; clear hown4 hgr4 hat4))
 obtain ⟨g, x, rfl, hg1, hg2, hx, hcell, hfz, hst⟩ := HO6.out.at hdn
 have HO7 := Lib.hid (hst (3 - sv))
 rw [HTG.out] at HO7
 have HB7 : Hid (Below U.heap.size U (w6.setCell ⟨g, d, none⟩ (.int .i64 (3 - sv)))) := HB6.out.setCell hg1 _
 have o0 := (HOD.out.below HB6.out HOD.out.lt).cell 0; have o1 := (HOD.out.below HB6.out HOD.out.lt).cell 1
 clear hst hx HO6
 go_upto_region 17 with (fail)
 clear o0 o1 hcell hfz
 generalize World.setCell w6 _ _ = w7 at *
 have HN7 := Lib.hid (HNU.out.later HB7.out)
 have HS7 := Lib.hid ((HSU.out.below HB7.out (Nat.le_refl _)).more HB7.out.size)
 have HR7 := Lib.hid HO7.out.sl
 have HB7z := Lib.hid (HBU.out.trans (HB7.out.mono HBU.out.size))
 have HD7 := Lib.hid (HOD.out.below HB7.out HOD.out.lt)
 clear HNU HSU HBU HOD HO7 HB7 HB6
 have HEA : Hid ((EndsOk 6 ds ∧ ∀ x ∈ ds, joinsB x.kind = true → x.b ≠ x.a) ∧ (AOk 6 ds ∧ ∀ x ∈ ds, 1 ≤ x.kind ∧ x.kind ≤ 6)) := by
  have h := NetOk.of HOK.out.check
  have h6 := HOK.out.n6
  exact ⟨⟨by rw [← h6]; exact h.e, h.ne⟩, ⟨by rw [← h6]; exact h.a, h.k⟩⟩
 have n0 := HN7.out.n.bx.cell 0; have n1 := HN7.out.n.bx.cell 1
 go_wp2_with fail
 refine (rlost_any An Ad (some ⟨b2, o2, none⟩) (some ⟨g, 0, none⟩) 6 cn nd cd nd c9' nd c12 ns ds σ (tog σ d) w7 HN7.out.n.hn.1 HN7.out.n.hd.1 HS7.out HR7.out HOK.out.names.1 HOK.out.names.2 (by decide) HSE.out HTE.out (Nat.le_refl _) (Nat.le_refl _) HEA.out.1 HEA.out.2).mono ?_
 rintro e w8 ⟨A13, m1, c13, l1, _, rfl, hl1, hm1, hL1, hb8⟩
 have hm1' : m1 ≤ 6 := hm1.out
 clear hl1 hL1 hm1
 have HN8 := Lib.hid (HN7.out.later hb8.out)
 have HS8 := Lib.hid ((HS7.out.below hb8.out (Nat.le_refl _)).more hb8.out.size)
 have HR8 := Lib.hid ((HR7.out.below hb8.out (Nat.le_refl _)).more hb8.out.size)
 have HB8z := Lib.hid (HB7z.out.trans (hb8.out.mono HB7z.out.size))
 have HD8 := Lib.hid (HD7.out.below hb8.out HD7.out.lt)
 clear hb8 HN7 HS7 HR7 HB7z HD7 n0 n1
 have n0 := HN8.out.n.bx.cell 0; have n1 := HN8.out.n.bx.cell 1
 go_wp2_with fail
 refine (rlost_any An Ad (some ⟨g, 0, none⟩) (some ⟨b2, o2, none⟩) 6 cn nd cd nd c12 nd c9' ns ds (tog σ d) σ w8 HN8.out.n.hn.1 HN8.out.n.hd.1 HR8.out HS8.out HOK.out.names.1 HOK.out.names.2 (by decide) HTE.out HSE.out (Nat.le_refl _) (Nat.le_refl _) HEA.out.1 HEA.out.2).mono ?_
 rintro e w9 ⟨A16, m2, c16, l2, _, rfl, hl2, hm2, hL2, hb9⟩
 have hm2' : m2 ≤ 6 := hm2.out
 have HL2 := Lib.hid hL2.out; have HM2 := Lib.hid hl2.out
 clear hl2 hL2 hm2
 have HN9 := Lib.hid (HN8.out.later hb9.out)
 have HS9 := Lib.hid ((HS8.out.below hb9.out (Nat.le_refl _)).more hb9.out.size)
 have HR9 := Lib.hid ((HR8.out.below hb9.out (Nat.le_refl _)).more hb9.out.size)
 have HB9z := Lib.hid (HB8z.out.trans (hb9.out.mono HB8z.out.size))
 have HD9 := Lib.hid (HD8.out.below hb9.out HD8.out.lt)
 clear hb9 HN8 HS8 HR8 HB8z HD8 n0 n1
 have n0 := HN9.out.n.bx.cell 0; have n1 := HN9.out.n.bx.cell 1
 go_wp2_with fail
 refine (rfaults_any An Ad (some ⟨b2, o2, none⟩) 6 cn nd cd nd c9' ns ds σ w9 HN9.out.n.hn.1 HN9.out.n.hd.1 HS9.out HOK.out.names.1 HOK.out.names.2 (by decide) HSE.out ⟨Nat.le_refl _, HEA.out.1⟩ HEA.out.2).mono ?_
 rintro e w10 ⟨A19, m3, c19, l3, rfl, hO3, hF3, hb10⟩
 have HL3 := Lib.hid hF3.out.1; have HM3 := Lib.hid hO3.out.len
 have hm3' : m3 ≤ 6 := by have := hF3.out.2; rw [HM3.out] at this; exact this
 clear hO3 hF3
 have HN10 := Lib.hid (HN9.out.later hb10.out)
 have HS10 := Lib.hid ((HS9.out.below hb10.out (Nat.le_refl _)).more hb10.out.size)
 have HR10 := Lib.hid ((HR9.out.below hb10.out (Nat.le_refl _)).more hb10.out.size)
 have HB10z := Lib.hid (HB9z.out.trans (hb10.out.mono HB9z.out.size))
 have HD10 := Lib.hid (HD9.out.below hb10.out HD9.out.lt)
 clear hb10 HN9 HS9 HR9 HB9z HD9 n0 n1
 have n0 := HN10.out.n.bx.cell 0; have n1 := HN10.out.n.bx.cell 1
 go_wp2_with fail
 refine (rfaults_any An Ad (some ⟨g, 0, none⟩) 6 cn nd cd nd c12 ns ds (tog σ d) w10 HN10.out.n.hn.1 HN10.out.n.hd.1 HR10.out HOK.out.names.1 HOK.out.names.2 (by decide) HTE.out ⟨Nat.le_refl _, HEA.out.1⟩ HEA.out.2).mono ?_
 rintro e w11 ⟨A21, m4, c21, l4, rfl, hO4, hF4, hb11⟩
 have HL4 := Lib.hid hF4.out.1; have HM4 := Lib.hid hO4.out.len
 have hm4' : m4 ≤ 6 := by have := hF4.out.2; rw [HM4.out] at this; exact this
 clear hO4 hF4
 have HN11 := Lib.hid (HN10.out.later hb11.out)
 have HS11 := Lib.hid ((HS10.out.below hb11.out (Nat.le_refl _)).more hb11.out.size)
 have HR11 := Lib.hid ((HR10.out.below hb11.out (Nat.le_refl _)).more hb11.out.size)
 have HB11z := Lib.hid (HB10z.out.trans (hb11.out.mono HB10z.out.size))
 have HD11 := Lib.hid (HD10.out.below hb11.out HD10.out.lt)
 clear hb11 HN10 HS10 HR10 HB10z HD10 n0 n1
 have n0 := HN11.out.n.bx.cell 0; have n1 := HN11.out.n.bx.cell 1
 have t1 : IntKind.i64.wrap ((m1 : Int) + (m2 : Int)) = (m1 : Int) + (m2 : Int) := IntWalk.i64_in _ (by omega)
 have t2 : IntKind.i64.wrap ((m1 : Int) + (m2 : Int) + (m3 : Int)) = (m1 : Int) + (m2 : Int) + (m3 : Int) := IntWalk.i64_in _ (by omega)
 have t3 : IntKind.i64.wrap ((m1 : Int) + (m2 : Int) + (m3 : Int) + (m4 : Int)) = (m1 : Int) + (m2 : Int) + (m3 : Int) + (m4 : Int) := IntWalk.i64_in _ (by omega)
 by_cases hz : 0 < m1 + m2 + m3 + m4
 ·have q2 : decide ((0 : Int) < (m1 : Int) + (m2 : Int) + (m3 : Int) + (m4 : Int)) = true := decide_eq_true (by omega)
  go_wp2_with fail
  refine (awake_any w11 HN11.out.n.la).mono ?_
  rintro e w12 ⟨rfl, hb12⟩
  have HE := Lib.hid (HN11.out.n.bl.trans (hb12.mono HN11.out.n.bl.size))
  go_wp2_with fail
  go_ret
  exact ⟨rfl, HE.out⟩
 have q2 : decide ((0 : Int) < (m1 : Int) + (m2 : Int) + (m3 : Int) + (m4 : Int)) = false := decide_eq_false (by omega)
 obtain ⟨b5, o5, x5, rfl, hb5, hx5, hc5⟩ := HN11.out.n.hd.1.at (fun _ => rfl) (by decide) hdn
 obtain ⟨nm, kd, xa, xb, xc⟩ := x5
 have u1' : w11.cell? ⟨b5, o5 + d * 5 + 1, none⟩ = some (.int .i64 kd) := hc5 1 _ rfl
 have d0 := HD11.out.cell 0
 have HUC : Hid (kd ≠ 6 → UndC ns ds σ d) := fun hk => by
  have e2 : l2 = [] := List.eq_nil_of_length_eq_zero (by rw [HM2.out]; omega)
  have e3 : l3 = [] := List.eq_nil_of_length_eq_zero (by rw [HM3.out]; omega)
  have e4 : l4 = [] := List.eq_nil_of_length_eq_zero (by rw [HM4.out]; omega)
  refine ⟨?_, fun k hk2 e => ?_, fun k hk2 e => ?_, fun x hx => ?_⟩
  ·rintro ⟨k, y, hy, hc, h1, h2⟩
   have := (HL2.out k).2 ⟨k, y, rfl, hy, hc, h1, h2⟩
   rw [e2] at this; cases this
  ·have := (HL3.out k).2 ⟨k, by rw [← HOK.out.n6]; exact hk2, rfl, e⟩
   rw [e3] at this; cases this
  ·have := (HL4.out k).2 ⟨k, by rw [← HOK.out.n6]; exact hk2, rfl, e⟩
   rw [e4] at this; cases this
  ·rw [hx5] at hx; injection hx with hx; subst hx; exact hk
 clear hx5 hc5 hz HL2 HL3 HL4 HM2 HM3 HM4
 by_cases h6 : kd = 6
 ·have q3 : (kd == 6) = true := by simpa using h6
  clear h6
  go_wp2_with fail
  refine (awake_any w11 HN11.out.n.la).mono ?_
  rintro e w12 ⟨rfl, hb12⟩
  have HE := Lib.hid (HN11.out.n.bl.trans (hb12.mono HN11.out.n.bl.size))
  go_wp2_with fail
  go_ret
  exact ⟨rfl, HE.out⟩
 have q3 : (kd == 6) = false := by simpa using h6
 have HUJ := Lib.hid (HUN.out (HUC.out h6))
 clear h6
 go_wp2_with fail
 refine Handed.intro (m - (j + 1)) (by omega) (hJ1 _ _ _ (LpI2.back 9 58 ?_ (by kernel_rfl)))
 dsimp only [gt]
 exact ⟨j + 1, c12, some ⟨g, 0, none⟩, tog σ d, rfl, by go_num, by omega, rfl, HWN.out, HUJ.out, HR11.out, HTE.out, HB11z.out⟩
end Go.Proofs.YtfaknfmndafllaaGreatDoor
