import Derived.Test.YtlcaebfjdhgcfaaDoorZ42
import Derived.Test.YtlcaebfjdhgcfaaDoorZ28
import Derived.Test.YtlcaebfjdhgcfaaDoorZ36
import Derived.Test.YtlcaebfjdhgcfaaDoorZ19
/-
  FieldLocked: its walk.
-/
namespace Go.Proofs.YtlcaebfjdhgcfaaDoor
open Go.RowKit
set_option maxRecDepth 100000 in
set_option maxHeartbeats 16000000 in
theorem walk_FieldLocked (w : World) (hl : Laid w) (A : Option Addr) (n c : Nat) (zs : List Int) (hs : Sl w w.heap.size 1 A n c (intsV zs)) (_hz : ∀ z ∈ zs, (Lit.int .i64 z).wf = true) :
    Calls Tryd.prog 3 #[.slice A n c] w fun e w' => e = .returned (.bool true) ∧ Below w.heap.size w w' := by
  have hnm := hs.le
  have HL0 := Lib.hid hl; have HS0 := Lib.hid hs
  clear hl hs _hz
  go_enter Tryd.func3, Tryd.ntmps3
  go_wp2_with fail
  refine (awake_any w HL0.out).mono ?_
  rintro e w1 ⟨rfl, hb1⟩
  have HB0 := Lib.hid hb1
  have HL := Lib.hid (HL0.out.below hb1 (Nat.le_refl _))
  have HS := Lib.hid (HS0.out.below hb1 (Nat.le_refl _))
  have hsz := hb1.size
  clear hb1 HL0 HS0
  have HF := Lib.hid (few_any A n c w1 (by omega))
  rcases hf : decide (n ≤ 400) with _ | _
  · rw [hf] at HF
    clear hf
    go_wp2_with fail
    refine HF.out.mono ?_
    rintro e w2 ⟨rfl, rfl⟩
    go_wp2_with fail
    refine (awake_any w1 HL.out).mono ?_
    rintro e w2 ⟨rfl, hb⟩
    go_wp2_with fail
    go_ret
    exact ⟨rfl, HB0.out.trans (hb.mono hsz)⟩
  rw [hf] at HF
  clear hf
  go_wp2_with fail
  refine HF.out.mono ?_
  rintro e w2 ⟨rfl, rfl⟩
  clear HF
  go_wp2_with fail
  refine (new_any A n c w.heap.size zs w1 HS.out hsz).mono ?_
  rintro e w2 ⟨rfl, hd2, hb2, hs2⟩
  go_wp2_with fail
  refine (start_any w1.heap.size w2 w1 hd2.out (HL.out.below hb2.out (Nat.le_refl _)) HL.out (Nat.le_refl _)).mono ?_
  rintro e w3 ⟨An, Ad, As, Al, At, cn, nd, cd, n0, c0, nl, cl, nt, ct, ns, ds, F, rfl, hg3, hX3, hF3, hn3, hL3⟩
  have HM4 := Lib.hid (FlM.mk0 hb2.out hs2.out hg3.out hX3.out)
  have HF4 := Lib.hid hF3.out
  have HK4 := Lib.hid hL3.out
  obtain ⟨hnd9, hnd10⟩ := hn3.out
  clear hd2 hb2 hs2 hg3 hX3 hF3 hn3 hL3 HS
  go_upto_region 5 with (fail)
  obtain ⟨nb, hnb⟩ : ∃ x, x = w3.heap.size := ⟨_, rfl⟩
  rw [← hnb] at HM4 ⊢
  clear hnb
  generalize World.alloc (World.alloc w3 _) _ = w4 at *
  go_upto_region 6 with (fail)
  refine wp_loop_u1 [(1, 0), (0, 1), (2, 0), (0, 2), (2, 1), (0, 0), (3, 1), (14, 0), (96, 1)] 6 (20) (FlR w1 nb An Ad cn nd cd ns ds (fun _ => True)) (by (try dsimp only [gt]); exact ⟨0, _, _, _, _, _, _, _, _, _, F, rfl, Nat.zero_le _, rfl, HM4, HF4, trivial⟩) (by kernel_rfl) ?_
  intro u1 p6 gk wr a hrel ha J1 K1 hJ1 hK1
  dsimp only [relaxR, Go.Proofs.YtlcaebfjdhgcfaaDoor.v1, Nat.reduceAdd] at ha
  subst ha
  clear HM4 HF4 HK4 w4
  obtain ⟨i, n, c, nl, cl, nt, ct, As, Al, At, F, rfl, hi, rfl, HM, HF, -⟩ := hrel
  by_cases hi2 : i < 20; rotate_left
  · obtain rfl : i = 20 := by omega
    go_wp2_with fail
    go_ret
    exact ⟨rfl, HB0.out.trans (HM.out.bl.mono hsz)⟩
  have hiI : (i : Int) < 20 := by omega
  have k0 : wr.cell? ⟨nb, 0, none⟩ = some (.slice An 6 cn) := HM.out.bn.cell 0
  have k1 : wr.cell? ⟨nb, 1, none⟩ = some (.slice Ad nd cd) := HM.out.bn.cell 1
  go_wp2_with fail
  clear k0 k1
  refine (event_any w1.heap.size An Ad 6 cn nd cd wr HM.out.x.dk (by omega)).mono ?_
  rintro e w5 ⟨k, d, p, q, rfl, -, hd5, hg5⟩
  have HM5 := Lib.hid (HM.out.grown HL.out hg5.out hd5.out)
  have HE6 := Lib.hid (Blk.new w5 37 #[.int .i64 k, .int .i64 d, .int .i64 p, .int .i64 q])
  have HM6 := Lib.hid (HM5.out.later ((Below.refl _ _).alloc (Nat.le_refl _) (.cells #[.int .i64 k, .int .i64 d, .int .i64 p, .int .i64 q] 37)))
  clear hd5 hg5 HM5
  go_upto_region 9 with (fail)
  obtain ⟨eb, heb⟩ : ∃ x, x = w5.heap.size := ⟨_, rfl⟩
  rw [← heb] at HE6 ⊢
  clear heb
  generalize World.alloc w5 _ = w6 at *
  have k0 : w6.cell? ⟨nb, 0, none⟩ = some (.slice An 6 cn) := HM6.out.bn.cell 0
  have k1 : w6.cell? ⟨nb, 1, none⟩ = some (.slice Ad nd cd) := HM6.out.bn.cell 1
  have kf0 : w6.cell? ⟨nb + 1, 0, none⟩ = some (.slice As n c) := HM6.out.bf.cell 0
  have kf1 : w6.cell? ⟨nb + 1, 1, none⟩ = some (.slice Al nl cl) := HM6.out.bf.cell 1
  have kf2 : w6.cell? ⟨nb + 1, 2, none⟩ = some (.slice At nt ct) := HM6.out.bf.cell 2
  have e0 : w6.cell? ⟨eb, 0, none⟩ = some (.int .i64 k) := HE6.out.cell 0
  have e1 : w6.cell? ⟨eb, 1, none⟩ = some (.int .i64 d) := HE6.out.cell 1
  have e2 : w6.cell? ⟨eb, 2, none⟩ = some (.int .i64 p) := HE6.out.cell 2
  have e3 : w6.cell? ⟨eb, 3, none⟩ = some (.int .i64 q) := HE6.out.cell 3
  go_wp2_with fail
  clear k0 k1 kf0 kf1 kf2 e0 e1 e2 e3
  refine (fstep_any An Ad As Al At 6 cn nd cd n c nl cl nt ct ns ds F k d p q w6 HM6.out.x.fdm).mono ?_
  intro e w7 hpost
  by_cases hE : stpErr ns ds F k d p q = 0; rotate_left
  · obtain ⟨rfl, hb7⟩ := hpost.err hE
    have q0 : (stpErr ns ds F k d p q != 0) = true := by simpa using hE
    have HM8 := Lib.hid ((HM6.out.later hb7.out).later ((Below.refl _ _).alloc (Nat.le_refl _) (.cells #[.slice none 0 0, .slice none 0 0, .slice none 0 0] 33)))
    generalize stpErr ns ds F k d p q = er at *
    clear hpost hE hb7 HM6 HE6 HM
    go_wp2_with fail
    refine Handed.intro (20 - (i + 1)) (by omega) (hJ1 _ _ _ (LpI1.back 6 ?_ (by kernel_rfl)))
    dsimp only [gt]
    exact ⟨i + 1, _, _, _, _, _, _, _, _, _, F, by go_num, by omega, rfl, HM8, HF, trivial⟩
  obtain ⟨A1, A2, A3, n1, c1, n2, c2, n3, c3, rfl, hi1, hi2, hi3, hb7⟩ := hpost.ok hE
  have HEZ := Lib.hid hE
  have HFN := Lib.hid (evTo_ok hE)
  have HY := Lib.hid (HM6.out.step hb7.out hi1.out hi2.out hi3.out)
  have HB8 : Hid (FlB w1 nb eb w7.heap.size An Ad As Al At A1 A2 A3 cn nd cd n c nl cl nt ct n1 c1 n2 c2 n3 c3 ns ds F (evTo ds F k d p q) k d p q (w7.alloc (.cells #[.slice A1 n1 c1, .slice A2 n2 c2, .slice A3 n3 c3] 33))) :=
    ⟨(HM6.out.later hb7.out).later ((Below.refl _ _).alloc (Nat.le_refl _) _), (HE6.out.below hb7.out HE6.out.lt).alloc _, Blk.new _ _ _, HY.out.alloc _⟩
  clear hpost hE hb7 hi1 hi2 hi3 HY HE6 HM6 HM
  go_upto_region 10 with (fail)
  obtain ⟨xb, hxb⟩ : ∃ x, x = w7.heap.size := ⟨_, rfl⟩
  rw [← hxb] at HB8 ⊢
  clear hxb
  generalize World.alloc w7 _ = w8 at *
  have x1 : w8.cell? ⟨xb, 1, none⟩ = some (.slice A2 n2 c2) := HB8.out.f.cell 1
  go_upto_region 12 with (fail)
  clear x1
  have HLN := Lib.hid HB8.out.y.fdm.ln
  have HLF := Lib.hid HB8.out.m.ln
  have hle2 := HB8.out.y.hl.1.le
  have hle1 := HB8.out.m.x.hs.1.le
  refine wp_loop_u1 [(1, 0), (0, 1), (7, 0), (0, 1), (36, 0), (0, 2), (12, 1), (63, 0)] 49 (n2) (FlI (FlB w1 nb eb xb An Ad As Al At A1 A2 A3 cn nd cd n c nl cl nt ct n1 c1 n2 c2 n3 c3 ns ds F (evTo ds F k d p q) k d p q) n2) (by (try dsimp only [gt]); exact ⟨0, rfl, Nat.zero_le _, rfl, HB8⟩) (by kernel_rfl) ?_
  intro u2 p49 gk wr a hrel ha J2 K2 hJ2 hK2
  dsimp only [relaxR, Go.Proofs.YtlcaebfjdhgcfaaDoor.v1, Nat.reduceAdd] at ha
  subst ha
  clear HB8
  obtain ⟨j, rfl, hj, rfl, HB⟩ := hrel
  by_cases hj2 : j < n2
  · obtain ⟨b, off, d', p', q', hA, hbb, hx, l0, l1, l2⟩ := HB.out.y.fdm.hl.lock hj2
    subst hA
    have hxm := List.mem_of_getElem? hx
    obtain ⟨hd0, hd1, -⟩ := lkErr_dev ((locks_good (fdErr_zero HFN.out).2.1).2.1 _ hxm)
    have hpos := (fdErr_zero HFN.out).2.2.1 _ hxm
    simp only at hd0 hd1 hpos
    obtain ⟨d', rfl⟩ := Int.eq_ofNat_of_zero_le hd0
    have hdn : d' < n1 := by have h1 := (stateErr_len (fdErr_zero HFN.out).1).2.1; have h2 := HLN.out; omega
    obtain ⟨bs, os, sv, hAs, hbs, hsv, hcs⟩ := HB.out.y.fdm.hs.at1 hdn
    subst hAs
    rw [Int.toNat_natCast, getDf hsv] at hpos
    have q1 : (sv != p') = false := by simpa using hpos
    clear hx hsv hd0 hd1 hpos hxm
    go_upto_region 14 with (fail)
    have HBE : Hid (Below wr.heap.size wr (wr.alloc (.cells #[.int .i64 (d' : Int), .int .i64 p', .int .i64 q'] 43))) := (Below.refl _ _).alloc (Nat.le_refl _) _
    have HBL := Lib.hid (Blk.new wr 43 #[.int .i64 (d' : Int), .int .i64 p', .int .i64 q'])
    have HBN := Lib.hid (HB.out.later HBE.out)
    replace hcs := (HBE.out.cell (p := ⟨bs, os + d', none⟩) hbs).trans hcs
    clear HB HBE l0 l1 l2
    generalize World.alloc wr _ = W at *
    obtain ⟨lb, hlb⟩ : ∃ x, x = wr.heap.size := ⟨_, rfl⟩
    rw [← hlb] at HBL ⊢
    clear hlb hbs hbb
    have f0 : W.cell? ⟨xb, 0, none⟩ = some (.slice (some ⟨bs, os, none⟩) n1 c1) := HBN.out.f.cell 0
    have l0 : W.cell? ⟨lb, 0, none⟩ = some (.int .i64 (d' : Int)) := HBL.out.cell 0
    have l1 : W.cell? ⟨lb, 1, none⟩ = some (.int .i64 p') := HBL.out.cell 1
    clear HBL
    go_quiet (fail)
    go_wp2_with fail
    refine Handed.intro (n2 - (j + 1)) (by omega) (hJ2 _ _ _ (LpI1.back 49 ?_ (by kernel_rfl)))
    dsimp only [gt]
    exact ⟨j + 1, by go_num, by omega, rfl, HBN.out.later (below_drewN (Below.refl _ _) _)⟩
  obtain rfl : j = n2 := by omega
  have f0 : wr.cell? ⟨nb + 1, 0, none⟩ = some (.slice As n c) := HB.out.m.bf.cell 0
  go_upto_region 18 with (fail)
  clear f0
  refine wp_loop_u1 [(1, 0), (0, 1), (8, 0), (2, 1), (50, 0), (0, 2), (35, 1), (23, 0)] 66 (n) (FlI (FlB w1 nb eb xb An Ad As Al At A1 A2 A3 cn nd cd n c nl cl nt ct n1 c1 j c2 n3 c3 ns ds F (evTo ds F k d p q) k d p q) n) (by (try dsimp only [gt]); exact ⟨0, rfl, Nat.zero_le _, rfl, HB⟩) (by kernel_rfl) ?_
  intro u3 p66 gk wq a hrel ha J3 K3 hJ3 hK3
  dsimp only [relaxR, Go.Proofs.YtlcaebfjdhgcfaaDoor.v1, Nat.reduceAdd] at ha
  subst ha
  clear HB wr
  obtain ⟨t, rfl, ht, rfl, HB⟩ := hrel
  by_cases ht2 : t < n
  · have f1 : wq.cell? ⟨nb + 1, 1, none⟩ = some (.slice Al nl cl) := HB.out.m.bf.cell 1
    go_wp2_with fail
    clear f1
    refine (rlocked_any Al nl cl wq.heap.size F.ls (t : Int) wq HB.out.m.x.fdm.hl (Nat.le_refl _)).mono ?_
    rintro e w9 ⟨rfl, hb9⟩
    have HB9 := Lib.hid (HB.out.later hb9)
    clear hb9 HB
    unfold lckE
    obtain ⟨bs, os, sv, hAs, hbs, hsv, hcs⟩ := HB9.out.m.x.fdm.hs.at1 ht2
    subst hAs
    have ht1 : t < n1 := by have h1 := HLN.out.2.2.1; have h2 := HLF.out.2.2.1; rw [evTo_slen] at h1; omega
    obtain ⟨bs1, os1, sv1, hA1, hbs1, hsv1, hcs1⟩ := HB9.out.y.fdm.hs.at1 ht1
    subst hA1
    have f0 : w9.cell? ⟨nb + 1, 0, none⟩ = some (.slice (some ⟨bs, os, none⟩) n c) := HB9.out.m.bf.cell 0
    have f2 : w9.cell? ⟨nb + 1, 2, none⟩ = some (.slice At nt ct) := HB9.out.m.bf.cell 2
    have g0 : w9.cell? ⟨xb, 0, none⟩ = some (.slice (some ⟨bs1, os1, none⟩) n1 c1) := HB9.out.f.cell 0
    have e1 : w9.cell? ⟨eb, 1, none⟩ = some (.int .i64 d) := HB9.out.e.cell 1
    clear hbs hbs1
    by_cases hv : sv = sv1
    · have q1 : (sv != sv1) = false := by simpa using hv
      clear hv hsv hsv1
      generalize (lckL F.ls (t : Int)).isSome = lb at *
      go_upto_region 21 with (fail)
      go_quiet (fail)
      go_wp2_with fail
      refine Handed.intro (n - (t + 1)) (by omega) (hJ3 _ _ _ (LpI1.back 66 ?_ (by kernel_rfl)))
      dsimp only [gt]
      exact ⟨t + 1, by go_num, by omega, rfl, HB9.out.later (below_drewN (Below.refl _ _) _)⟩
    · have q1 : (sv != sv1) = true := by simpa using hv
      obtain ⟨m1, m2, m3⟩ := evTo_moves (i := t) (ns := ns) HEZ.out (fun e => by rw [hsv, hsv1] at e; exact hv (by injection e))
      clear hv hsv hsv1
      rw [m1]
      have q2 : ((t : Int) != d) = false := by simpa using m2
      have HP : Hid (∀ N, Calls Tryd.prog 13 #[.slice At nt ct, .int .i64 (t : Int)] (w9.drewN N) fun e w' => e = .returned (.bool false) ∧ w9.drewN N = w') := fun N => by
        have h1 := rhas_any At nt ct F.st (t : Int) (w9.drewN N) HB9.out.m.x.fdm.ht
        rwa [decide_eq_false m3] at h1
      clear m1 m2 m3
      go_upto_region 21 with (fail)
      go_quiet ((go_at_call 13; exact quiet_eq (HP.out _)))
      go_wp2_with fail
      refine Handed.intro (n - (t + 1)) (by omega) (hJ3 _ _ _ (LpI1.back 66 ?_ (by kernel_rfl)))
      dsimp only [gt]
      exact ⟨t + 1, by go_num, by omega, rfl, HB9.out.later (below_drewN (Below.refl _ _) _)⟩
  obtain rfl : t = n := by omega
  by_cases hll : j = nl
  · have q1 : ((j : Int) != (nl : Int)) = false := by simp; omega
    have e0 : wq.cell? ⟨eb, 0, none⟩ = some (.int .i64 k) := HB.out.e.cell 0
    clear hll
    have k0 : wq.cell? ⟨nb, 0, none⟩ = some (.slice An 6 cn) := HB.out.m.bn.cell 0
    have k1 : wq.cell? ⟨nb, 1, none⟩ = some (.slice Ad nd cd) := HB.out.m.bn.cell 1
    have g0 : wq.cell? ⟨xb, 0, none⟩ = some (.slice A1 n1 c1) := HB.out.f.cell 0
    have g1 : wq.cell? ⟨xb, 1, none⟩ = some (.slice A2 j c2) := HB.out.f.cell 1
    have g2 : wq.cell? ⟨xb, 2, none⟩ = some (.slice A3 n3 c3) := HB.out.f.cell 2
    have f1 : wq.cell? ⟨nb + 1, 1, none⟩ = some (.slice Al nl cl) := HB.out.m.bf.cell 1
    go_wp2_with fail
    clear k0 k1 g0 g1 g2 f1 e0
    refine (fcheck_any An Ad A1 A2 A3 6 cn nd cd n1 c1 j c2 n3 c3 ns ds _ wq HB.out.y.fdm).mono ?_
    rintro e w10 ⟨rfl, hb10⟩
    rw [HFN.out]
    have HB10 := Lib.hid (HB.out.later hb10)
    have HMN := Lib.hid (HB10.out.m.take HL.out HB10.out.y)
    have g0 : w10.cell? ⟨xb, 0, none⟩ = some (.slice A1 n1 c1) := HB10.out.f.cell 0
    have g1 : w10.cell? ⟨xb, 1, none⟩ = some (.slice A2 j c2) := HB10.out.f.cell 1
    have g2 : w10.cell? ⟨xb, 2, none⟩ = some (.slice A3 n3 c3) := HB10.out.f.cell 2
    have d0 := HB10.out.m.bf.cell 0
    have d1 := HB10.out.m.bf.cell 1
    have d2 := HB10.out.m.bf.cell 2
    have y0 := HB10.out.m.bf.frozen 0
    have y1 := HB10.out.m.bf.frozen 1
    have y2 := HB10.out.m.bf.frozen 2
    clear hb10 HB HB10
    go_wp2_with fail
    clear g0 g1 g2 d0 d1 d2 y0 y1 y2
    generalize World.setCell (World.setCell (World.setCell w10 _ _) _ _) _ _ = w11 at *
    refine Handed.intro (20 - (i + 1)) (by omega) (hJ1 _ _ _ (LpI1.back 6 ?_ (by kernel_rfl)))
    dsimp only [gt]
    exact ⟨i + 1, _, _, _, _, _, _, _, _, _, _, by go_num, by omega, rfl, HMN, HFN, trivial⟩
  have q1 : ((j : Int) != (nl : Int)) = true := by simp; omega
  have hk67 := evTo_locks (ds := ds) (F := F) (k := k) (d := d) (p := p) (q := q) (fun e => hll (by have h1 := HLN.out.2.2.2.1; have h2 := HLF.out.2.2.2.1; omega))
  clear hll
  rcases hk67 with rfl | rfl
  · have e0 : wq.cell? ⟨eb, 0, none⟩ = some (.int .i64 6) := HB.out.e.cell 0
    have k0 : wq.cell? ⟨nb, 0, none⟩ = some (.slice An 6 cn) := HB.out.m.bn.cell 0
    have k1 : wq.cell? ⟨nb, 1, none⟩ = some (.slice Ad nd cd) := HB.out.m.bn.cell 1
    have g0 : wq.cell? ⟨xb, 0, none⟩ = some (.slice A1 n1 c1) := HB.out.f.cell 0
    have g1 : wq.cell? ⟨xb, 1, none⟩ = some (.slice A2 j c2) := HB.out.f.cell 1
    have g2 : wq.cell? ⟨xb, 2, none⟩ = some (.slice A3 n3 c3) := HB.out.f.cell 2
    have f1 : wq.cell? ⟨nb + 1, 1, none⟩ = some (.slice Al nl cl) := HB.out.m.bf.cell 1
    go_wp2_with fail
    clear k0 k1 g0 g1 g2 f1 e0
    refine (fcheck_any An Ad A1 A2 A3 6 cn nd cd n1 c1 j c2 n3 c3 ns ds _ wq HB.out.y.fdm).mono ?_
    rintro e w10 ⟨rfl, hb10⟩
    rw [HFN.out]
    have HB10 := Lib.hid (HB.out.later hb10)
    have HMN := Lib.hid (HB10.out.m.take HL.out HB10.out.y)
    have g0 : w10.cell? ⟨xb, 0, none⟩ = some (.slice A1 n1 c1) := HB10.out.f.cell 0
    have g1 : w10.cell? ⟨xb, 1, none⟩ = some (.slice A2 j c2) := HB10.out.f.cell 1
    have g2 : w10.cell? ⟨xb, 2, none⟩ = some (.slice A3 n3 c3) := HB10.out.f.cell 2
    have d0 := HB10.out.m.bf.cell 0
    have d1 := HB10.out.m.bf.cell 1
    have d2 := HB10.out.m.bf.cell 2
    have y0 := HB10.out.m.bf.frozen 0
    have y1 := HB10.out.m.bf.frozen 1
    have y2 := HB10.out.m.bf.frozen 2
    clear hb10 HB HB10
    go_wp2_with fail
    clear g0 g1 g2 d0 d1 d2 y0 y1 y2
    generalize World.setCell (World.setCell (World.setCell w10 _ _) _ _) _ _ = w11 at *
    refine Handed.intro (20 - (i + 1)) (by omega) (hJ1 _ _ _ (LpI1.back 6 ?_ (by kernel_rfl)))
    dsimp only [gt]
    exact ⟨i + 1, _, _, _, _, _, _, _, _, _, _, by go_num, by omega, rfl, HMN, HFN, trivial⟩
  · have e0 : wq.cell? ⟨eb, 0, none⟩ = some (.int .i64 7) := HB.out.e.cell 0
    have k0 : wq.cell? ⟨nb, 0, none⟩ = some (.slice An 6 cn) := HB.out.m.bn.cell 0
    have k1 : wq.cell? ⟨nb, 1, none⟩ = some (.slice Ad nd cd) := HB.out.m.bn.cell 1
    have g0 : wq.cell? ⟨xb, 0, none⟩ = some (.slice A1 n1 c1) := HB.out.f.cell 0
    have g1 : wq.cell? ⟨xb, 1, none⟩ = some (.slice A2 j c2) := HB.out.f.cell 1
    have g2 : wq.cell? ⟨xb, 2, none⟩ = some (.slice A3 n3 c3) := HB.out.f.cell 2
    have f1 : wq.cell? ⟨nb + 1, 1, none⟩ = some (.slice Al nl cl) := HB.out.m.bf.cell 1
    go_wp2_with fail
    clear k0 k1 g0 g1 g2 f1 e0
    refine (fcheck_any An Ad A1 A2 A3 6 cn nd cd n1 c1 j c2 n3 c3 ns ds _ wq HB.out.y.fdm).mono ?_
    rintro e w10 ⟨rfl, hb10⟩
    rw [HFN.out]
    have HB10 := Lib.hid (HB.out.later hb10)
    have HMN := Lib.hid (HB10.out.m.take HL.out HB10.out.y)
    have g0 : w10.cell? ⟨xb, 0, none⟩ = some (.slice A1 n1 c1) := HB10.out.f.cell 0
    have g1 : w10.cell? ⟨xb, 1, none⟩ = some (.slice A2 j c2) := HB10.out.f.cell 1
    have g2 : w10.cell? ⟨xb, 2, none⟩ = some (.slice A3 n3 c3) := HB10.out.f.cell 2
    have d0 := HB10.out.m.bf.cell 0
    have d1 := HB10.out.m.bf.cell 1
    have d2 := HB10.out.m.bf.cell 2
    have y0 := HB10.out.m.bf.frozen 0
    have y1 := HB10.out.m.bf.frozen 1
    have y2 := HB10.out.m.bf.frozen 2
    clear hb10 HB HB10
    go_wp2_with fail
    clear g0 g1 g2 d0 d1 d2 y0 y1 y2
    generalize World.setCell (World.setCell (World.setCell w10 _ _) _ _) _ _ = w11 at *
    refine Handed.intro (20 - (i + 1)) (by omega) (hJ1 _ _ _ (LpI1.back 6 ?_ (by kernel_rfl)))
    dsimp only [gt]
    exact ⟨i + 1, _, _, _, _, _, _, _, _, _, _, by go_num, by omega, rfl, HMN, HFN, trivial⟩
end Go.Proofs.YtlcaebfjdhgcfaaDoor
