import Derived.Test.YtfaknfmndafllaaGreatDoorV30
import Derived.Test.YtfaknfmndafllaaGreatDoorV34
import Derived.Test.YtfaknfmndafllaaGreatDoorV03
import Derived.Test.YtfaknfmndafllaaGreatDoorV04
import Derived.Test.YtfaknfmndafllaaGreatDoorV35
set_option maxRecDepth 100000
set_option maxHeartbeats 8000000
namespace Go.Proofs.YtfaknfmndafllaaGreatDoor
open Go.RowKit
def OrdC (N : Nat) : Prop := ∀ (An Ad As Al : Option Addr) (nn cn nd cd n c cl : Nat) (ns : List Nd) (ds : List Dv) (s : List Int) (l : List Nat) (w : World), l.length = N → N ≤ 64 → HzMem w An Ad As none none nn cn nd cd n c 0 0 0 0 ns ds s [] [] → Sl w w.heap.size 1 Al N cl (intsV (l.map fun i : Nat => (i : Int))) → stateErr ns ds s = 0 → (∀ d ∈ l, d < ds.length) →
 Calls Tryz.prog 15 #[.agg #[.slice An nn cn, .slice Ad nd cd], .slice As n c, .slice Al N cl] w fun e w' => e = .returned (.bool (ordF (permB ns ds 0 [] [] [5]) (badK ds) N s l)) ∧ Below w.heap.size w w'
def OrdR (W : World) (ns : List Nd) (ds : List Dv) (k : Nat) (s : List Int) (l : List Nat) (N gk : Nat) (iv : Value) (wr : World) : Prop :=
 ∃ j : Nat, iv = .int .i64 j ∧ j ≤ N ∧ gk = N - j ∧ Hid (scanF (permB ns ds 0 [] [] [5]) (badK ds) (ordF (permB ns ds 0 [] [] [5]) (badK ds) k) s l (List.range N) = scanF (permB ns ds 0 [] [] [5]) (badK ds) (ordF (permB ns ds 0 [] [] [5]) (badK ds) k) s l ((List.range N).drop j)) ∧ Hid (Below W.heap.size W wr)
def OrhR (W : World) (h : List Int) (m gk : Nat) (fv iv : Value) (wr : World) : Prop :=
 ∃ i : Nat, fv = .bool ((h.take i).all (hasB [5])) ∧ iv = .int .i64 i ∧ i ≤ m ∧ gk = m - i ∧ Hid (Below W.heap.size W wr)
theorem perm_at {ns : List Nd} {ds : List Dv} {s : List Int} {d : Nat} {x : Dv} (hx : ds[d]? = some x) : permB ns ds 0 [] [] [5] s d = (hzAt ns.length ns ds s d (3 - s.getD d 0) 0 [] [] x).all (hasB [5]) := by
 unfold permB hzD
 rw [Int.toNat_natCast, hx]
theorem has5 (y : Int) : hasB [5] y = (y == 5) := by
 unfold hasB; rw [Bool.eq_iff_iff]; simp
theorem range_drop {N j : Nat} (h : j < N) : (List.range N).drop j = j :: (List.range N).drop (j + 1) := by
 rw [List.drop_eq_getElem_cons (by simpa using h)]; simp
theorem badK_at {ds : List Dv} {d : Nat} {x : Dv} (hx : ds[d]? = some x) : badK ds d = (x.kind == 1 || x.kind == 5) := by unfold badK; rw [hx]
theorem rin_ok {An Ad As : Option Addr} {nn cn nd cd n c : Nat} {ns : List Nd} {ds : List Dv} {s : List Int} {d : Nat} {p : Int} {x : Dv} {w : World} (h : HzMem w An Ad As none none nn cn nd cd n c 0 0 0 0 ns ds s [] []) (h0 : stateErr ns ds s = 0) (hx : ds[d]? = some x) (hp : p = 1 ∨ p = 2) :
 Calls Tryz.prog 42 #[.agg #[.slice An nn cn, .slice Ad nd cd], .slice As n c, .agg #[.int .i64 (d : Int), .int .i64 p], .agg #[.int .i64 0, .slice none 0 0, .slice none 0 0]] w fun e w' => ∃ A k co, e = .returned (.tuple #[.slice A k co, .int .i64 0]) ∧ Hid (IntsO w' w.heap.size A k co (hzAt ns.length ns ds s d p 0 [] [] x)) ∧ Hid (Below w.heap.size w w') := by
 have he : inErr ns ds s d p 0 = 0 := by
  have := (List.getElem?_eq_some_iff.1 hx).1
  unfold inErr hzErr
  rw [if_pos h0, if_neg (by omega), if_neg (by omega), if_neg (by omega), if_neg (by omega), if_neg (by omega)]
 refine (rIn_any An Ad As none none nn cn nd cd n c 0 0 0 0 ns ds s [] [] d p 0 w h).mono ?_
 rintro e w' ⟨h1 | ⟨-, A, k, co, y, hy, rfl, hO⟩, hb⟩
 ·exact absurd he h1.1
 ·rw [Int.toNat_natCast, hx] at hy
  injection hy with hy
  subst hy
  exact ⟨A, k, co, rfl, by rw [Int.toNat_natCast] at hO; exact hO, hb⟩
theorem all_next {h : List Int} {i : Nat} {y : Int} (hy : h[i]? = some y) : (h.take (i + 1)).all (hasB [5]) = ((h.take i).all (hasB [5]) && (y == 5)) := by
 rw [take_snoc hy, List.all_append, ← has5]; simp
theorem era_cut (l : List Nat) (j : Nat) : ((l.map fun i : Nat => (i : Int)).take j ++ (l.map fun i : Nat => (i : Int)).drop (j + 1)) = (l.eraseIdx j).map fun i : Nat => (i : Int) := by
 rw [List.eraseIdx_eq_take_drop_succ, List.map_append, List.map_take, List.map_drop]
theorem toggle_set {t : List Int} {i : Nat} {x : Int} (hx : t[i]? = some x) : t.set i (3 - x) = tog t i := by
 rw [tog_is, List.getD_eq_getElem?_getD, hx]; rfl
theorem order_step (k : Nat) (ih : OrdC k) : OrdC (k + 1) := by
 intro An Ad As Al nn cn nd cd n c cl ns ds s l w hll hN hM hl hse hld
 have HIH := Lib.hid ih; have HLL := Lib.hid hll; have HMM := Lib.hid hM; have HSL := Lib.hid hl; have HSE := Lib.hid hse; have HLD := Lib.hid hld
 obtain ⟨hln, hdn, hsn⟩ := hM.ln
 have HDN := Lib.hid hdn; have HSN := Lib.hid hsn; have HLN := Lib.hid hln
 have HCK := Lib.hid (stateErr_net hse)
 have HOK := Lib.hid (NetOk.of (stateErr_net hse).1)
 have hnd : nd ≤ 64 := by have := HOK.out.dl; rw [HDN.out] at this; exact this
 have hnn1 : n ≤ nd ∧ nd ≤ n := by have := HCK.out.2; rw [HSN.out, HDN.out] at this; omega
 have hlm := hl.le
 have HPO := Lib.hid (state_p12 hse rfl)
 clear ih hM hl hse hld hln hdn hsn
 have HFE : Hid (ordF (permB ns ds 0 [] [] [5]) (badK ds) (k + 1) s l = scanF (permB ns ds 0 [] [] [5]) (badK ds) (ordF (permB ns ds 0 [] [] [5]) (badK ds) k) s l (List.range (k + 1))) := by
  unfold Hid
  rw [ordF, HLL.out]
  have : l.isEmpty = false := by
   cases l with
   | nil => have := HLL.out; simp at this
   | cons => rfl
  rw [this, Bool.false_or]
 clear hll
 obtain ⟨N, hNk⟩ : ∃ N, N = k + 1 := ⟨_, rfl⟩
 rw [← hNk] at HFE HSL hlm hN ⊢
 have HNK := Lib.hid hNk
 have hN0 : 0 < N := by omega
 have q0 : ((N : Int) == 0) = false := by simp; omega
 have hN63 : N ≤ 9223372036854775807 := by omega
 clear hNk
 have HB := Lib.hid (Blk.new w 30 #[.slice An nn cn, .slice Ad nd cd])
 have HW : Hid (Below w.heap.size w (w.alloc (.cells #[.slice An nn cn, .slice Ad nd cd] 30))) := (Below.refl _ _).alloc (Nat.le_refl _) _
 go_enter Tryz.func15, Tryz.ntmps15
 go_upto_region 1 with (fail)
 generalize World.alloc _ _ = W at *
 obtain ⟨nb, hnb⟩ : ∃ nb, nb = w.heap.size := ⟨_, rfl⟩
 rw [← hnb] at HB ⊢
 have HNB := Lib.hid hnb
 clear hnb
 go_wp2_with fail
 clear q0
 refine wp_loop_u1 [(5, 0), (6, 1), (0, 0), (1, 1), (4, 0), (0, 2), (67, 1)] 21 (N) (OrdR W ns ds k s l N) (by (try dsimp only [gt]); exact ⟨0, rfl, Nat.zero_le _, rfl, rfl, Below.refl _ _⟩) (by kernel_rfl) ?_
 intro u1 p21 gk wr a hrel ha J1 K1 hJ1 hK1
 dsimp only [relaxR, Go.Proofs.YtfaknfmndafllaaGreatDoor.v1, Nat.reduceAdd] at ha
 subst ha
 obtain ⟨j, rfl, hj, rfl, hsc, hbl⟩ := hrel
 have HBL := Lib.hid (HW.out.trans (hbl.out.mono HW.out.size))
 have HBX := Lib.hid (HB.out.below hbl.out HB.out.lt)
 have HBR := Lib.hid hbl.out
 have HSC := Lib.hid hsc.out
 clear hbl hsc
 by_cases hlt : j < N; rotate_left
 ·have q1 : decide (j < N) = false := by simpa using hlt
  have HR : Hid (ordF (permB ns ds 0 [] [] [5]) (badK ds) N s l = false) := by
   unfold Hid
   rw [HFE.out, HSC.out, List.drop_eq_nil_of_le (by simp; omega)]; rfl
  go_wp2_with fail
  go_ret
  exact ⟨ret_bool HR.out.symm, HBL.out⟩
 have q1 : decide (j < N) = true := by simpa using hlt
 have hjl : j < l.length := by rw [HLL.out, ← HNK.out]; exact hlt
 obtain ⟨d, hd⟩ : ∃ d, l[j]? = some d := ⟨_, List.getElem?_eq_getElem hjl⟩
 obtain ⟨bl, ol, y, rfl, hbl, hy, cl0⟩ := (HSL.out.below HBL.out (Nat.le_refl _)).at1 hlt
 obtain rfl : y = (d : Int) := by rw [List.getElem?_map, hd] at hy; injection hy with hy; exact hy.symm
 have hdn : d < nd := by have := HLD.out d (List.mem_of_getElem? hd); rw [HDN.out] at this; exact this
 obtain ⟨b2, o2, x, rfl, hb2, hx, hc2⟩ := (HMM.out.hd.below HBL.out (Nat.le_refl _)).at (fun _ => rfl) (by decide) hdn
 have HX := Lib.hid hx
 have HD := Lib.hid hd
 have HGD : Hid (l.getD j 0 = d) := by unfold Hid; rw [List.getD_eq_getElem?_getD, hd]; rfl
 obtain ⟨nm, kd, xa, xb, xc⟩ := x
 have u0 : wr.cell? ⟨b2, o2 + d * 5, none⟩ = some (.string nm) := hc2 0 _ rfl
 have u1 : wr.cell? ⟨b2, o2 + d * 5 + 1, none⟩ = some (.int .i64 kd) := hc2 1 _ rfl
 have u2 : wr.cell? ⟨b2, o2 + d * 5 + 2, none⟩ = some (.int .i64 xa) := hc2 2 _ rfl
 have u3 : wr.cell? ⟨b2, o2 + d * 5 + 3, none⟩ = some (.int .i64 xb) := hc2 3 _ rfl
 have u4 : wr.cell? ⟨b2, o2 + d * 5 + 4, none⟩ = some (.int .i64 xc) := hc2 4 _ rfl
 have n1 := HBX.out.cell 1
 have hkk : IntKind.i64.wrap ((j : Int) + 1) = (j : Int) + 1 := IntWalk.i64_in _ (by omega)
 clear hc2 hx hy hd
 go_upto_region 7 with (fail)
 clear u0 u1 u2 u3 u4 q1 n1 cl0
 have HDB := Lib.hid (Blk.new wr 68 #[.string nm, .int .i64 kd, .int .i64 xa, .int .i64 xb, .int .i64 xc])
 have HBV : Hid (Below wr.heap.size wr (wr.alloc (.cells #[.string nm, .int .i64 kd, .int .i64 xa, .int .i64 xb, .int .i64 xc] 68))) := (Below.refl _ _).alloc (Nat.le_refl _) _
 generalize World.alloc wr _ = V at *
 obtain ⟨db, hdb⟩ : ∃ db, db = wr.heap.size := ⟨_, rfl⟩
 rw [← hdb] at HDB ⊢
 clear hdb
 have HBLV := Lib.hid (HBL.out.trans (HBV.out.mono HBL.out.size))
 have HBRV := Lib.hid (HBR.out.trans (HBV.out.mono HBR.out.size))
 have HBXV := Lib.hid (HBX.out.below HBV.out HBX.out.lt)
 have HBK := Lib.hid (badK_at HX.out)
 have HSCJ : Hid (scanF (permB ns ds 0 [] [] [5]) (badK ds) (ordF (permB ns ds 0 [] [] [5]) (badK ds) k) s l (List.range N) = if badK ds d = true then false else if (permB ns ds 0 [] [] [5] s d && ordF (permB ns ds 0 [] [] [5]) (badK ds) k (tog s d) (l.eraseIdx j)) = true then true else scanF (permB ns ds 0 [] [] [5]) (badK ds) (ordF (permB ns ds 0 [] [] [5]) (badK ds) k) s l ((List.range N).drop (j + 1))) := by
  unfold Hid
  rw [HSC.out, range_drop hlt, scanF, HGD.out]
 have d1 := HDB.out.cell 1
 clear HSC HDB HBL HBX HBR HBV HGD
 by_cases h1 : kd = 1
 ·have q2 : (kd == 1) = true := by simpa using h1
  have HR : Hid (ordF (permB ns ds 0 [] [] [5]) (badK ds) N s l = false) := by
   unfold Hid
   rw [HFE.out, HSCJ.out, if_pos (by rw [HBK.out]; simp [h1])]
  clear h1
  go_wp2_with fail
  go_ret
  exact ⟨ret_bool HR.out.symm, HBLV.out⟩
 have q2 : (kd == 1) = false := by simpa using h1
 by_cases h5 : kd = 5
 ·have q3 : (kd == 5) = true := by simpa using h5
  have HR : Hid (ordF (permB ns ds 0 [] [] [5]) (badK ds) N s l = false) := by
   unfold Hid
   rw [HFE.out, HSCJ.out, if_pos (by rw [HBK.out]; simp [h5])]
  clear h1 h5
  go_wp2_with fail
  go_ret
  exact ⟨ret_bool HR.out.symm, HBLV.out⟩
 have q3 : (kd == 5) = false := by simpa using h5
 have HBF : Hid (badK ds d = false) := by unfold Hid; rw [HBK.out]; simp [h1, h5]
 rw [HBF.out, if_neg (by simp)] at HSCJ
 clear h1 h5 HBK
 have HMV := Lib.hid (HMM.out.below HBLV.out)
 have hdn2 : d < n := by omega
 obtain ⟨bs, os, sv, rfl, hbs, hsv, cs⟩ := (HMV.out.hs).at1 hdn2
 have HSV : Hid (s.getD d 0 = sv) := by unfold Hid; rw [List.getD_eq_getElem?_getD, hsv]; rfl
 have hsp : sv = 1 ∨ sv = 2 := by have := HPO.out d (by rw [HSN.out]; exact hdn2); rw [HSV.out] at this; exact this
 have h3w : IntKind.i64.wrap (3 - sv) = 3 - sv := IntWalk.i64_in _ (by omega)
 have HIN := Lib.hid (rin_ok (HMM.out.below HBLV.out.drew) HSE.out HX.out (p := 3 - sv) (by omega))
 have HPM : Hid (permB ns ds 0 [] [] [5] s d = (hzAt ns.length ns ds s d (3 - sv) 0 [] [] ⟨nm, kd, xa, xb, xc⟩).all (hasB [5])) := by unfold Hid; rw [perm_at HX.out, HSV.out]
 obtain ⟨H, hH⟩ : ∃ H, H = hzAt ns.length ns ds s d (3 - sv) 0 [] [] ⟨nm, kd, xa, xb, xc⟩ := ⟨_, rfl⟩
 rw [← hH] at HIN HPM
 have hHl : H.length ≤ 7 := by rw [hH]; exact hzAt_len _ _ _ _ _ _ _ _ _ _
 clear hH
 have HCS : Hid (V.cell? ⟨nb, 0, none⟩ = some (.slice An nn cn) ∧ V.cell? ⟨nb, 1, none⟩ = some (.slice (some ⟨b2, o2, none⟩) nd cd) ∧ V.cell? ⟨bs, os + d, none⟩ = some (.int .i64 sv)) := ⟨HBXV.out.cell 0, HBXV.out.cell 1, cs⟩
 have hd0 : (0 : Int) ≤ (d : Int) := Int.natCast_nonneg _
 have hdn3 : (d : Int) < (n : Int) := by omega
 have HCV := Lib.hid cs
 have HSX := Lib.hid hsv
 clear hsv cs
 go_upto_region 9 with (fail)
 clear q2 q3
 refine wp_region_J (S := fun W' => W'.cell? ⟨nb, 0, none⟩ = some (.slice An nn cn) ∧ W'.cell? ⟨nb, 1, none⟩ = some (.slice (some ⟨b2, o2, none⟩) nd cd) ∧ W'.cell? ⟨bs, os + d, none⟩ = some (.int .i64 sv)) (J := []) (by kernel_rfl) ?_ (fun hHeld => ?_)
 ·exact HCS.out
 try dsimp only at hHeld
 refine wpAnyJ_takeL (i := 0) (d := some 40) (v := ?_) (mf 16 1) (by kernel_rfl) rfl rfl (by kernel_rfl) (by kernel_rfl) (by kernel_rfl) (by kernel_rfl) (by kernel_rfl) (fun _ _ _ h => h) (Or.inl ⟨by rfl, ?_⟩) hHeld ?_
 rotate_left
 ·(intro w hSw; (try dsimp only at hSw); have u0 := hSw.1; have u1 := hSw.2.1; go_simp; try with_reducible rfl)
 try simp only [Act.put, sA, sB, sC]
 refine tk 1 41 (mf 16 2) hHeld ?_
 refine tk 2 42 (mf 16 3) hHeld ?_
 refine tk 3 43 (mf 16 4) hHeld ?_
 refine tk 4 44 (mf 16 5) hHeld ?_
 refine tk 5 45 (mf 16 6) hHeld ?_
 refine wpAnyJ_takeL (i := 6) (d := some 46) (v := ?_) (mf 16 7) (by kernel_rfl) rfl rfl (by kernel_rfl) (by kernel_rfl) (by kernel_rfl) (by kernel_rfl) (by kernel_rfl) (fun _ _ _ h => h) (Or.inl ⟨by rfl, ?_⟩) hHeld ?_
 rotate_left
 ·(intro w hSw; (try dsimp only at hSw); have u0 := hSw.2.2; go_simp; try with_reducible rfl)
 try simp only [Act.put, sA, sB, sC]
 refine tk 7 47 (mf 16 8) hHeld ?_
 refine tk 8 48 (mf 16 9) hHeld ?_
 refine tk 9 49 (mf 16 10) hHeld ?_
 refine wpAnyJ_oneL (k := 10) (mf 16 11) (by kernel_rfl) (by kernel_rfl) rfl (fun K hK => ?_)
 (go_simp; refine HIN.out.mono ?_; rintro e w3 ⟨Ah, kh, ch, rfl, hOh, hbh⟩; have HBH : Hid (Below V.heap.size V w3) := (Below.refl V.heap.size V).drew.trans hbh.out; go_simp)
 refine hK.out _ _ (fun _ => ?_) (fun hHeld' => ?_)
 ·exact ⟨keep_cell HBH.out HCS.out.1, keep_cell HBH.out HCS.out.2.1, keep_cell HBH.out HCS.out.2.2⟩
 replace hHeld := hHeld' rfl
 clear hHeld' hK K
 try dsimp only at hHeld
 refine tk 11 39 (mf 16 12) hHeld ?_
 refine tk 12 51 (mf 16 13) hHeld ?_
 refine tk 13 52 (mf 16 14) hHeld ?_
 refine tk 14 10 (mf 16 15) hHeld ?_
 refine tk 15 11 (mf 16 16) hHeld ?_
 refine wpAnyJ_done (by kernel_rfl) ?_ _
 have HOH := Lib.hid hOh.out
 clear hHeld
 have HKH := Lib.hid HOH.out.len
 clear hOh hbh HIN HCS HMV
 have hkh : kh ≤ 7 := by have := HKH.out; omega
 go_wp2_with fail
 refine wp_loop_u2 [(11, 0), (0, 2), (0, 0), (0, 1), (39, 0), (0, 3), (8, 1), (24, 0)] 12 55 (kh) (OrhR w3 H kh) (by (try dsimp only [gt]); exact ⟨0, rfl, rfl, Nat.zero_le _, rfl, Below.refl _ _⟩) (by kernel_rfl) ?_
 intro u2 p12 p55 gk wr a hrel ha J2 K2 hJ2 hK2
 dsimp only [relaxR, Go.Proofs.YtfaknfmndafllaaGreatDoor.v2, Nat.reduceAdd] at ha
 subst ha
 obtain ⟨i, rfl, rfl, hi, rfl, hb2l⟩ := hrel
 have HB2L := Lib.hid hb2l.out
 clear hb2l
 by_cases hlt2 : i < kh
 ·have q1 : decide (i < kh) = true := by simpa using hlt2
  obtain ⟨g, y, rfl, hg1, hg2, hy, hcy, -⟩ := (HOH.out.later HB2L.out).at hlt2
  have HAN := Lib.hid (all_next hy)
  have hii : IntKind.i64.wrap ((i : Int) + 1) = (i : Int) + 1 := IntWalk.i64_in _ (by omega)
  clear hy
  rcases hb : (H.take i).all (hasB [5]) with _ | _
  ·rw [hb] at HAN
   clear hb
   go_wp2_with fail
   refine Handed.intro (kh - (i + 1)) (by omega) (hJ2 _ _ _ (LpI2.back 12 55 ?_ (by kernel_rfl)))
   dsimp only [gt]
   exact ⟨i + 1, by rw [HAN.out]; rfl, by go_num, by omega, rfl, HB2L.out⟩
  ·rw [hb, Bool.true_and] at HAN
   clear hb
   go_wp2_with fail
   refine Handed.intro (kh - (i + 1)) (by omega) (hJ2 _ _ _ (LpI2.back 12 55 ?_ (by kernel_rfl)))
   dsimp only [gt]
   exact ⟨i + 1, by rw [HAN.out], by go_num, by omega, rfl, HB2L.out⟩
 have q1 : decide (i < kh) = false := by simpa using hlt2
 have hHi : (H.take i).all (hasB [5]) = permB ns ds 0 [] [] [5] s d := by rw [HPM.out, List.take_of_length_le (by have := HKH.out; omega)]
 have HBL3 := Lib.hid (HBLV.out.trans ((HBH.out.trans (HB2L.out.mono HBH.out.size)).mono HBLV.out.size))
 have HBR3 := Lib.hid (HBRV.out.trans ((HBH.out.trans (HB2L.out.mono HBH.out.size)).mono HBRV.out.size))
 have HBX3 := Lib.hid (HBXV.out.below (HBH.out.trans (HB2L.out.mono HBH.out.size)) HBXV.out.lt)
 rw [hHi]
 have HCSR : Hid (wr.cell? ⟨bs, os + d, none⟩ = some (.int .i64 sv)) := ((HBH.out.trans (HB2L.out.mono HBH.out.size)).cell (p := ⟨bs, os + d, none⟩) hbs).trans HCV.out
 have hbsr : bs < wr.heap.size := Nat.lt_of_lt_of_le hbs (Nat.le_trans HBH.out.size HB2L.out.size)
 clear hHi HBH HB2L HOH HKH HBLV HBRV HBXV HPM HCV
 rcases hpm : permB ns ds 0 [] [] [5] s d with _ | _
 ·have HSC2 : Hid (scanF (permB ns ds 0 [] [] [5]) (badK ds) (ordF (permB ns ds 0 [] [] [5]) (badK ds) k) s l (List.range N) = scanF (permB ns ds 0 [] [] [5]) (badK ds) (ordF (permB ns ds 0 [] [] [5]) (badK ds) k) s l ((List.range N).drop (j + 1))) := by unfold Hid; rw [HSCJ.out, hpm, Bool.false_and, if_neg (by simp)]
  clear hpm
  go_wp2_with fail
  refine Handed.intro (N - (j + 1)) (by omega) (hJ1 _ _ _ (LpI1.back 21 ?_ (by kernel_rfl)))
  dsimp only [gt]
  exact ⟨j + 1, by go_num, by omega, rfl, HSC2.out, HBR3.out⟩
 have HSCK : Hid (scanF (permB ns ds 0 [] [] [5]) (badK ds) (ordF (permB ns ds 0 [] [] [5]) (badK ds) k) s l (List.range N) = if ordF (permB ns ds 0 [] [] [5]) (badK ds) k (tog s d) (l.eraseIdx j) = true then true else scanF (permB ns ds 0 [] [] [5]) (badK ds) (ordF (permB ns ds 0 [] [] [5]) (badK ds) k) s l ((List.range N).drop (j + 1))) := by unfold Hid; rw [HSCJ.out, hpm, Bool.true_and]
 clear hpm HSCJ
 have HM3 := Lib.hid (HMM.out.below HBL3.out)
 have HS3 := Lib.hid HM3.out.hs
 have hn63 : n ≤ 9223372036854775807 := by omega
 go_upto_region 18 with (at_builtin; go_must (refine wpList_app rfl _ (.tmp 67) rfl el_int (by rfl) (World.ownsRow_nil _ wr.heap.size _ _) (by rfl) HS3.out (ints_one s) (by omega) (by omega) (Nat.le_refl _) ?_; intro A7 c7 w7 hown7 hgr7 hat7; simp only [Nat.zero_add, List.nil_append] at hown7 hgr7 ⊢; have HO7 : Hid (IntsO w7 wr.heap.size A7 n c7 s) := hown7; have HB7 : Hid (Below wr.heap.size wr w7) := below_none hgr7; clear hown7 hgr7 hat7))
 obtain ⟨g7, x7, rfl, hg7, hg7', hx7, hc7, hf7, hst7⟩ := HO7.out.at hdn2
 obtain rfl : sv = x7 := by have := HSX.out; rw [hx7] at this; injection this with this; exact this.symm
 have e7 : w7.cell? ⟨bs, os + d, none⟩ = some (.int .i64 sv) := (HB7.out.cell (p := ⟨bs, os + d, none⟩) hbsr).trans HCSR.out
 have hts : s.set d (3 - sv) = tog s d := toggle_set hx7
 have HO8 := Lib.hid (hst7 (3 - sv))
 rw [hts] at HO8
 have HB8 : Hid (Below wr.heap.size wr (w7.setCell ⟨g7, d, none⟩ (.int .i64 (3 - sv)))) := HB7.out.setCell hg7 _
 clear hx7 hst7 hts HO7 HB7 HS3 HM3
 go_upto_region 19 with (fail)
 clear e7 hc7 hf7
 generalize World.setCell w7 _ _ = w8 at *
 have HBL8 := Lib.hid (HBL3.out.trans (HB8.out.mono HBL3.out.size))
 have HBR8 := Lib.hid (HBR3.out.trans (HB8.out.mono HBR3.out.size))
 have HBX8 := Lib.hid (HBX3.out.below HB8.out HBX3.out.lt)
 have HL8 := Lib.hid (HSL.out.below HBL8.out (Nat.le_refl _))
 have hzw := HBL8.out.size
 have HSK := Lib.hid (HL8.out.takeI (k := j) (by omega))
 have HSD := Lib.hid (HL8.out.dropI (k := j + 1) (by omega))
 have hcut : ∀ W, (Instr.sliceAt 22 (.slice (some ⟨bl, ol, none⟩) N cl) (some (.int .i64 ((j : Int) + 1))) none none).run Tryz.prog W = .ok (.slice (cutA (some ⟨bl, ol, none⟩) cl (j + 1)) (N - (j + 1)) (cl - (j + 1))) W := fun W => by
  have := run_from_int W (some ⟨bl, ol, none⟩) N cl (j + 1) (by omega)
  rw [← this]; rfl
 obtain ⟨Ad2, hAd2⟩ : ∃ Ad2, cutA (some (⟨bl, ol, none⟩ : Addr)) cl (j + 1) = Ad2 := ⟨_, rfl⟩
 rw [hAd2] at hcut HSD
 clear hAd2
 have HCS : Hid (w8.cell? ⟨nb, 0, none⟩ = some (.slice An nn cn) ∧ w8.cell? ⟨nb, 1, none⟩ = some (.slice (some ⟨b2, o2, none⟩) nd cd)) := ⟨HBX8.out.cell 0, HBX8.out.cell 1⟩
 have hjc : j ≤ cl := by omega
 have HEL : Hid ((l.eraseIdx j).length = k) := by unfold Hid; have := HNK.out; rw [List.length_eraseIdx_of_lt (by rw [HLL.out]; omega), HLL.out]; omega
 have hNj : j + (N - (j + 1)) = k := by have := HNK.out; omega
 have HIHH := Lib.hid HIH.out
 obtain ⟨bo, hbo⟩ : ∃ bo, ordF (permB ns ds 0 [] [] [5]) (badK ds) k (tog s d) (l.eraseIdx j) = bo := ⟨_, rfl⟩
 have HBO := Lib.hid hbo
 clear hbo
 refine wp_region_J (S := fun W' => W'.cell? ⟨nb, 0, none⟩ = some (.slice An nn cn) ∧ W'.cell? ⟨nb, 1, none⟩ = some (.slice (some ⟨b2, o2, none⟩) nd cd)) (J := [11]) (by kernel_rfl) ?_ (fun hHeld => ?_)
 ·exact HCS.out
 try dsimp only at hHeld
 refine wpAnyJ_takeL (i := 0) (d := some 77) (v := ?_) (mf 12 1) (by kernel_rfl) rfl rfl (by kernel_rfl) (by kernel_rfl) (by kernel_rfl) (by kernel_rfl) (by kernel_rfl) (fun _ _ _ h => h) (Or.inl ⟨by rfl, ?_⟩) hHeld ?_
 rotate_left
 ·(intro w hSw; (try dsimp only at hSw); have u0 := hSw.1; have u1 := hSw.2; go_simp; try with_reducible rfl)
 try simp only [Act.put, sA, sB, sC]
 refine tk 1 78 (mf 12 2) hHeld ?_
 refine tk 2 79 (mf 12 3) hHeld ?_
 refine tk 3 80 (mf 12 4) hHeld ?_
 refine tk 4 81 (mf 12 5) hHeld ?_
 refine tk 6 83 #[tt, tt, tt, tt, tt, ff, tt, ff, ff, ff, ff, ff] hHeld ?_
 refine tk 7 84 #[tt, tt, tt, tt, tt, ff, tt, tt, ff, ff, ff, ff] hHeld ?_
 refine tk 8 85 #[tt, tt, tt, tt, tt, ff, tt, tt, tt, ff, ff, ff] hHeld ?_
 refine tk 9 86 #[tt, tt, tt, tt, tt, ff, tt, tt, tt, tt, ff, ff] hHeld ?_
 refine wpAnyJ_oneL (k := 5) (mf 12 10) (by kernel_rfl) (by kernel_rfl) rfl (fun K hK => ?_)
 (refine step_app_d (d := some 82) (by rfl) (by rfl) _ (.tmp 81) (by rfl) el_int (by rfl) (World.ownsRow_nil _ w8.heap.size _ _) (by rfl) HSK.out (ints_one _) (by omega) (by omega) (Nat.le_refl _) ?_; intro A9 c9 w9 hown9 hgr9 hat9; simp only [Nat.zero_add, List.nil_append] at hown9 hgr9 hat9 ⊢; have HB9 : Hid (Below w8.heap.size w8 w9) := (Below.refl _ _).drew.trans (below_none hgr9))
 refine hK.out _ _ (fun _ => ?_) (fun hHeld' => ?_)
 ·exact ⟨keep_cell HB9.out HCS.out.1, keep_cell HB9.out HCS.out.2⟩
 replace hHeld := hHeld' rfl
 clear hHeld' hK K
 try dsimp only at hHeld
 refine wpAnyJ_oneL (k := 10) (mf 12 11) (by kernel_rfl) (by kernel_rfl) rfl (fun K hK => ?_)
 (refine step_app_d (d := some 87) (by rfl) (by rfl) (.tmp 82) (.tmp 86) (by rfl) el_int (by rfl) hown9 (by rfl) (HSD.out.below HB9.out hzw) (ints_one _) (by omega) (by omega) HB9.out.size ?_; intro A10 c10 w10 hown10 hgr10 hat10; have HB10 : Hid (Below w8.heap.size w8 w10) := HB9.out.trans ⟨hgr10.os, hgr10.tape, hgr10.output, hgr10.size, fun q hq => hgr10.block q (Nat.lt_of_lt_of_le hq HB9.out.size) (fun e => by have := (hown9.lt q e.symm).1; omega)⟩)
 refine hK.out _ _ (fun _ => ?_) (fun hHeld' => ?_)
 ·exact ⟨keep_cell HB10.out HCS.out.1, keep_cell HB10.out HCS.out.2⟩
 replace hHeld := hHeld' rfl
 clear hHeld' hK K
 try dsimp only at hHeld
 refine wpAnyJ_oneL (k := 11) (mf 12 12) (by kernel_rfl) (by kernel_rfl) rfl (fun K hK => ?_)
 (go_simp; have HM10 : Hid (HzMem w10 An (some ⟨b2, o2, none⟩) (some ⟨g7, 0, none⟩) none none nn cn nd cd n c7 0 0 0 0 ns ds (tog s d) [] []) := (by have h := HMM.out.below (HBL8.out.trans (HB10.out.mono hzw)); exact ⟨h.hn, h.hd, (HO8.out.later HB10.out).sl, Sl.nil _ _ _, Sl.nil _ _ _, h.la, h.sn, h.sd⟩); have HS10 : Hid (Sl w10 w10.heap.size 1 A10 k c10 (intsV ((l.eraseIdx j).map fun i : Nat => (i : Int)))) := (by have h := Sl.of_own hown10; rw [hNj, ← intsV_append, era_cut] at h; exact h); refine (HIHH.out An (some ⟨b2, o2, none⟩) (some ⟨g7, 0, none⟩) A10 nn cn nd cd n c7 c10 ns ds (tog s d) (l.eraseIdx j) w10 HEL.out (by omega) HM10.out HS10.out (stateErr_tog HSE.out d) (fun x hx => HLD.out x (List.mem_of_mem_eraseIdx hx))).mono ?_; rintro e w11 ⟨rfl, hb11⟩; rw [HBO.out]; go_simp)
 refine hK.out _ _ (fun h => by cases h) (fun _ => ?_)
 try clear hHeld
 clear hK K
 refine wpAnyJ_done (by kernel_rfl) ?_ _
 have HB11 : Hid (Below w8.heap.size w8 w11) := HB10.out.trans (hb11.mono HB10.out.size)
 have HBR11 := Lib.hid (HBR8.out.trans (HB11.out.mono HBR8.out.size))
 have HBL11 := Lib.hid (HBL8.out.trans (HB11.out.mono hzw))
 clear hb11 hown10 hgr10 hat10 hown9 hgr9 hat9 HB9 HB10 hNj hcut
 rcases bo with _ | _
 ·have HSC2 : Hid (scanF (permB ns ds 0 [] [] [5]) (badK ds) (ordF (permB ns ds 0 [] [] [5]) (badK ds) k) s l (List.range N) = scanF (permB ns ds 0 [] [] [5]) (badK ds) (ordF (permB ns ds 0 [] [] [5]) (badK ds) k) s l ((List.range N).drop (j + 1))) := by unfold Hid; rw [HSCK.out, HBO.out, if_neg (by simp)]
  go_wp2_with fail
  refine Handed.intro (N - (j + 1)) (by omega) (hJ1 _ _ _ (LpI1.back 21 ?_ (by kernel_rfl)))
  dsimp only [gt]
  exact ⟨j + 1, by go_num, by omega, rfl, HSC2.out, HBR11.out⟩
 ·have HR : Hid (ordF (permB ns ds 0 [] [] [5]) (badK ds) N s l = true) := by unfold Hid; rw [HFE.out, HSCK.out, HBO.out, if_pos rfl]
  go_wp2_with fail
  go_ret
  exact ⟨ret_bool HR.out.symm, HBL11.out⟩
theorem order_nil : OrdC 0 := by
 intro An Ad As Al nn cn nd cd n c cl ns ds s l w hll hN hM hl hse hld
 obtain rfl : l = [] := List.eq_nil_of_length_eq_zero hll
 have HW : Hid (Below w.heap.size w (w.alloc (.cells #[.slice An nn cn, .slice Ad nd cd] 30))) := (Below.refl _ _).alloc (Nat.le_refl _) _
 clear hM hl hse hld hll hN
 go_enter Tryz.func15, Tryz.ntmps15
 go_wp2_with fail
 go_ret
 exact ⟨rfl, HW.out⟩
theorem ordr_any : ∀ N, OrdC N
 | 0 => order_nil
 | k + 1 => order_step k (ordr_any k)
end Go.Proofs.YtfaknfmndafllaaGreatDoor
