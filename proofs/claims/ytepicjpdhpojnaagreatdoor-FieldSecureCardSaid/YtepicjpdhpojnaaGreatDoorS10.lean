import Derived.Test.YtepicjpdhpojnaaGreatDoorS08
import Derived.Test.YtepicjpdhpojnaaGreatDoorS09
import Derived.Test.YtepicjpdhpojnaaGreatDoorS07
import Derived.Deep.QuietTactic
import Derived.Test.YtepicjpdhpojnaaGreatDoorS02
import Derived.Test.YtepicjpdhpojnaaGreatDoorS03
import Derived.Test.YtepicjpdhpojnaaGreatDoorProg
import Derived.Test.YtepicjpdhpojnaaGreatDoorS00
import Derived.Outline
import Derived.BigQuiet
import Derived.Laws.Pointers
set_option maxRecDepth 100000
set_option maxHeartbeats 8000000
namespace Go.Proofs.YtepicjpdhpojnaaGreatDoor
open Go.RowKit
def FcR1 (w : World) (cn cf : Array Value) (s : List Int) (ls : List Lk) (n gk : Nat) (iv : Value) (wr : World) : Prop := ∃ i : Nat, iv = .int .i64 i ∧ i ≤ n ∧ gk = n - i ∧ Hid (LsOk s (ls.take i)) ∧ Hid (Bx2f w cn cf wr)
def FcR2 (w : World) (cn cf : Array Value) (nd : Nat) (st : List Int) (n gk : Nat) (iv : Value) (wr : World) : Prop := ∃ i : Nat, iv = .int .i64 i ∧ i ≤ n ∧ gk = n - i ∧ Hid (∀ j, j < i → stkE nd st j = false) ∧ Hid (Bx2f w cn cf wr)
theorem LsOk.snoc {s : List Int} {ls : List Lk} {i : Nat} {k : Lk} (h : LsOk s (ls.take i)) (hk : ls[i]? = some k) (he : s.getD k.dev.toNat 0 = k.pos) : LsOk s (ls.take (i + 1)) := by
 rw [take_snoc hk]
 intro x hx
 rcases List.mem_append.1 hx with h1 | h1
 ·exact h x h1
 ·rw [List.mem_singleton.1 h1]; exact he
theorem LsOk.not {s : List Int} {ls : List Lk} {i : Nat} {k : Lk} (hk : ls[i]? = some k) (he : s.getD k.dev.toNat 0 ≠ k.pos) : ¬ LsOk s ls := fun h => he (h k (List.mem_of_getElem? hk))
theorem stk_not {nd : Nat} {st : List Int} {i : Nat} (hi : i < st.length) (h : stkE nd st i = true) : ¬ StkOk nd st := fun k => by rw [k i hi] at h; cases h
theorem stk_snoc {nd : Nat} {st : List Int} {i : Nat} (h : ∀ j, j < i → stkE nd st j = false) (hi : stkE nd st i = false) : ∀ j, j < i + 1 → stkE nd st j = false := fun j hj => by
 rcases Nat.lt_succ_iff_lt_or_eq.1 hj with h1 | rfl
 ·exact h j h1
 ·exact hi
theorem fcheck_any (An Ad As Al At : Option Addr) (nn cn nd cd n c nl cl nt ct : Nat) (ns : List Nd) (ds : List Dv) (F : Fd) (w : World) (h : FdM w An Ad As Al At nn cn nd cd n c nl cl nt ct ns ds F) :
 Calls Tryz.prog 27 #[.agg #[.slice An nn cn, .slice Ad nd cd], .agg #[.slice As n c, .slice Al nl cl, .slice At nt ct]] w fun e w' => e = .returned (.int .i64 (fdErr ns ds F)) ∧ Below w.heap.size w w' := by
 obtain ⟨-, hl2, hl3, hl4, hl5⟩ := h.ln
 have HL2 := Lib.hid hl2; have HL3 := Lib.hid hl3; have HL4 := Lib.hid hl4; have HL5 := Lib.hid hl5
 have hlm := h.hl.le; have htm := h.ht.le; have hsm := h.hs.le; have hdm := h.hd.le
 have HB := Lib.hid (Bx2f.new w #[.slice An nn cn, .slice Ad nd cd] #[.slice As n c, .slice Al nl cl, .slice At nt ct])
 have HH := Lib.hid h
 clear h hl2 hl3 hl4 hl5
 go_enter Tryz.func27, Tryz.ntmps27
 go_upto_region 1 with (fail)
 generalize World.alloc _ _ = w1 at *
 have HM1 := Lib.hid (HH.out.later HB.out.bl)
 have k0 : w1.cell? ⟨w.heap.size, 0, none⟩ = some (.slice An nn cn) := HB.out.b0.cell 0
 have k1 : w1.cell? ⟨w.heap.size, 1, none⟩ = some (.slice Ad nd cd) := HB.out.b0.cell 1
 have f0 : w1.cell? ⟨w.heap.size + 1, 0, none⟩ = some (.slice As n c) := HB.out.b1.cell 0
 go_wp2_with fail
 clear k0 k1 f0
 refine (mstate_any An Ad As nn cn nd cd n c _ _ _ ns ds F.s w1 HM1.out.la HM1.out.hn HM1.out.hd HM1.out.hs (Nat.le_refl _) (Nat.le_refl _) (Nat.le_refl _) HM1.out.sn HM1.out.sd).mono ?_
 rintro e w2 ⟨rfl, hb2⟩
 have HB2 := Lib.hid (HB.out.later hb2)
 have HM2 := Lib.hid (HM1.out.later hb2)
 clear hb2 HB HM1
 by_cases hE : stateErr ns ds F.s = 0; rotate_left
 ·have q0 : (stateErr ns ds F.s != 0) = true := by simpa using hE
  have HR := Lib.hid (fdErr_state hE)
  clear hE
  go_wp2_with fail
  go_ret
  exact ⟨ret_int HR.out.symm, HB2.out.bl⟩
 have HSE := Lib.hid hE
 rw [hE]
 clear hE
 have k0 : w2.cell? ⟨w.heap.size, 0, none⟩ = some (.slice An nn cn) := HB2.out.b0.cell 0
 have k1 : w2.cell? ⟨w.heap.size, 1, none⟩ = some (.slice Ad nd cd) := HB2.out.b0.cell 1
 have f1 : w2.cell? ⟨w.heap.size + 1, 1, none⟩ = some (.slice Al nl cl) := HB2.out.b1.cell 1
 go_wp2_with fail
 clear k0 k1 f1
 refine (lcheck_any An Ad Al nn cn nd cd nl cl _ _ _ ns ds F.ls w2 HM2.out.la HM2.out.hn HM2.out.hd HM2.out.hl (Nat.le_refl _) (Nat.le_refl _) (Nat.le_refl _) HM2.out.sn HM2.out.sd).mono ?_
 rintro e w3 ⟨rfl, hb3⟩
 have HB3 := Lib.hid (HB2.out.later hb3)
 clear hb3 HB2 HM2
 by_cases hE : locksErr ns ds F.ls = 0; rotate_left
 ·have q0 : (locksErr ns ds F.ls != 0) = true := by simpa using hE
  have HR := Lib.hid (fdErr_locks HSE.out hE)
  clear hE
  go_wp2_with fail
  go_ret
  exact ⟨ret_int HR.out.symm, HB3.out.bl⟩
 have HLE := Lib.hid hE
 rw [hE]
 clear hE
 have f1 : w3.cell? ⟨w.heap.size + 1, 1, none⟩ = some (.slice Al nl cl) := HB3.out.b1.cell 1
 go_wp2_with fail
 clear f1
 refine wp_loop_u1 [(3, 0), (0, 1), (2, 0), (0, 1), (18, 0), (0, 2), (12, 1), (31, 0)] 28 (nl) (FcR1 w #[.slice An nn cn, .slice Ad nd cd] #[.slice As n c, .slice Al nl cl, .slice At nt ct] F.s F.ls nl) (by dsimp only [gt]; exact ⟨0, rfl, Nat.zero_le _, rfl, fun _ hk => by simp at hk, HB3⟩) (by kernel_rfl) ?_
 intro u1 p28 gk wr a hrel ha J1 K1 hJ1 hK1
 dsimp only [relaxR, v1, Nat.reduceAdd] at ha
 subst ha
 clear HB3
 obtain ⟨i, rfl, hi, rfl, hLS, hB⟩ := hrel
 have HM := Lib.hid (HH.out.later hB.out.bl)
 by_cases hlt : i < nl
 ·obtain ⟨b, off, d, p, q, hA, hbb, hx, c0, c1, c2⟩ := HM.out.hl.lock hlt
  subst hA
  have HX := Lib.hid hx
  obtain ⟨hd0, hd1, -⟩ := lkErr_dev ((locks_good HLE.out).2.1 _ (List.mem_of_getElem? hx))
  simp only at hd0 hd1
  obtain ⟨d, rfl⟩ := Int.eq_ofNat_of_zero_le hd0
  have hdn : d < n := by have := (stateErr_len HSE.out).2.1; rw [HL3.out] at this; omega
  obtain ⟨bs, os, sv, hAs, hbs, hsv, hcs⟩ := HM.out.hs.at1 hdn
  subst hAs
  have HSV := Lib.hid (getDf hsv)
  clear hx hsv hd0 hd1
  go_upto_region 10 with (fail)
  have HBE : Hid (Below wr.heap.size wr (wr.alloc (.cells #[.int .i64 (d : Int), .int .i64 p, .int .i64 q] 46))) := (Below.refl _ _).alloc (Nat.le_refl _) _
  have HBL := Lib.hid (Blk.new wr 46 #[.int .i64 (d : Int), .int .i64 p, .int .i64 q])
  have HBN := Lib.hid (hB.out.later HBE.out)
  replace hcs := (HBE.out.cell (p := ⟨bs, os + d, none⟩) hbs).trans hcs
  clear hB HM HBE c0 c1 c2
  generalize World.alloc wr _ = W at *
  obtain ⟨lb, hlb⟩ : ∃ x, x = wr.heap.size := ⟨_, rfl⟩
  rw [← hlb] at HBL ⊢
  clear hlb hbs hbb
  have f0 : W.cell? ⟨w.heap.size + 1, 0, none⟩ = some (.slice (some ⟨bs, os, none⟩) n c) := HBN.out.b1.cell 0
  have l0 : W.cell? ⟨lb, 0, none⟩ = some (.int .i64 (d : Int)) := HBL.out.cell 0
  have l1 : W.cell? ⟨lb, 1, none⟩ = some (.int .i64 p) := HBL.out.cell 1
  clear HBL
  by_cases hp : sv = p
  ·have q1 : (sv != p) = false := by simpa using hp
   have HN := Lib.hid (hLS.out.snoc HX.out (by simp only [Int.toNat_natCast]; rw [HSV.out, hp]))
   clear hp
   go_quiet (fail)
   go_wp2_with fail
   refine Handed.intro (nl - (i + 1)) (by omega) (hJ1 _ _ _ (LpI1.back 28 ?_ (by kernel_rfl)))
   dsimp only [gt]
   exact ⟨i + 1, by go_num, by omega, rfl, HN, HBN.out.drewN _⟩
  ·have q1 : (sv != p) = true := by simpa using hp
   have q2 : (sv == p) = false := by simpa using hp
   have HR := Lib.hid (fdErr_ls HSE.out HLE.out (LsOk.not HX.out (by simp only [Int.toNat_natCast]; rw [HSV.out]; exact hp)))
   clear hp
   go_quiet (fail)
   go_wp2_with fail
   go_ret
   exact ⟨ret_int HR.out.symm, (HBN.out.drewN _).bl⟩
 ·obtain rfl : i = nl := by omega
  have hii : decide (i < i) = false := by simp
  have HLS : Hid (LsOk F.s F.ls) := by have := hLS.out; rwa [List.take_of_length_le (by rw [HL4.out]; exact Nat.le_refl _)] at this
  have f2 : wr.cell? ⟨w.heap.size + 1, 2, none⟩ = some (.slice At nt ct) := hB.out.b1.cell 2
  clear hLS HM
  go_wp2_with fail
  clear f2
  refine wp_loop_u1 [(3, 0), (0, 1), (3, 0), (1, 1), (33, 0), (0, 2), (27, 1)] 45 (nt) (FcR2 w #[.slice An nn cn, .slice Ad nd cd] #[.slice As n c, .slice Al i cl, .slice At nt ct] nd F.st nt) (by dsimp only [gt]; exact ⟨0, rfl, Nat.zero_le _, rfl, fun _ hk => by omega, hB⟩) (by kernel_rfl) ?_
  intro u2 p45 gk wq a hrel ha J2 K2 hJ2 hK2
  dsimp only [relaxR, v1, Nat.reduceAdd] at ha
  subst ha
  clear hB
  obtain ⟨j, rfl, hj, rfl, hSt, hB⟩ := hrel
  have HM := Lib.hid (HH.out.later hB.out.bl)
  by_cases hlt : j < nt
  ·obtain ⟨bt, ot, tv, hAt, hbt, htv, hct⟩ := HM.out.ht.at1 hlt
   subst hAt
   have k1 : wq.cell? ⟨w.heap.size, 1, none⟩ = some (.slice Ad nd cd) := hB.out.b0.cell 1
   have f2 : wq.cell? ⟨w.heap.size + 1, 2, none⟩ = some (.slice (some ⟨bt, ot, none⟩) nt ct) := hB.out.b1.cell 2
   have HTV := Lib.hid htv
   have HJL : Hid (j < F.st.length) := by unfold Hid; rw [HL5.out]; exact hlt
   by_cases h0 : tv < 0
   ·have q0 : decide (tv < 0) = true := by simpa using h0
    have HR := Lib.hid (fdErr_st HSE.out HLE.out HLS.out (stk_not HJL.out (by rw [HL2.out]; unfold stkE; rw [HTV.out]; simp [h0])))
    clear h0 htv
    go_wp2_with fail
    go_ret
    exact ⟨ret_int HR.out.symm, hB.out.bl⟩
   ·have q0 : decide (tv < 0) = false := by simpa using h0
    by_cases h1 : (nd : Int) ≤ tv
    ·have q1 : decide ((nd : Int) ≤ tv) = true := by simpa using h1
     have HR := Lib.hid (fdErr_st HSE.out HLE.out HLS.out (stk_not HJL.out (by rw [HL2.out]; unfold stkE; rw [HTV.out]; simp [h1])))
     clear h0 h1 htv
     go_wp2_with fail
     go_ret
     exact ⟨ret_int HR.out.symm, hB.out.bl⟩
    ·have q1 : decide ((nd : Int) ≤ tv) = false := by simpa using h1
     by_cases hj0 : j = 0
     ·have q2 : decide (0 < (j : Int)) = false := by simp; omega
      have q2n : decide (0 < j) = false := by simp; omega
      have HN := Lib.hid (stk_snoc hSt.out (by unfold stkE; rw [HTV.out]; simp [h0, h1, hj0]))
      clear h0 h1 hj0 htv
      go_wp2_with fail
      refine Handed.intro (nt - (j + 1)) (by omega) (hJ2 _ _ _ (LpI1.back 45 ?_ (by kernel_rfl)))
      dsimp only [gt]
      exact ⟨j + 1, by go_num, by omega, rfl, HN, hB⟩
     ·obtain ⟨m, hm⟩ : ∃ m, m = j - 1 := ⟨_, rfl⟩
      have hmt : m < nt := by omega
      have e1 : (j : Int) - 1 = (m : Int) := by omega
      have q2 : decide (0 < (j : Int)) = true := by simp; omega
      have q2n : decide (0 < j) = true := by simp; omega
      obtain ⟨bt2, ot2, pv, hAt, -, hpv, hcp⟩ := HM.out.ht.at1 hmt
      injection hAt with hAt
      injection hAt with hA1 hA2
      subst hA1 hA2
      have HPV : Hid (F.st.getD (j - 1) 0 = pv) := by unfold Hid; rw [← hm]; exact getDf hpv
      by_cases h2 : tv ≤ pv
      ·have q3 : decide (tv ≤ pv) = true := by simpa using h2
       have HR := Lib.hid (fdErr_st HSE.out HLE.out HLS.out (stk_not HJL.out (by rw [HL2.out]; unfold stkE; rw [HTV.out]; simp only; rw [HPV.out, q2n, q3]; simp)))
       clear h0 h1 h2 hj0 htv hpv hm
       go_wp2_with fail
       go_ret
       exact ⟨ret_int HR.out.symm, hB.out.bl⟩
      ·have q3 : decide (tv ≤ pv) = false := by simpa using h2
       have HN := Lib.hid (stk_snoc hSt.out (by unfold stkE; rw [HTV.out]; simp only; rw [HPV.out, q0, q1, q3]; simp))
       clear h0 h1 h2 hj0 htv hpv hm
       go_wp2_with fail
       refine Handed.intro (nt - (j + 1)) (by omega) (hJ2 _ _ _ (LpI1.back 45 ?_ (by kernel_rfl)))
       dsimp only [gt]
       exact ⟨j + 1, by go_num, by omega, rfl, HN, hB⟩
  ·obtain rfl : j = nt := by omega
   have hjj : decide (j < j) = false := by simp
   have HR := Lib.hid (fdErr_ok HSE.out HLE.out HLS.out (fun j hj => by rw [HL2.out]; exact hSt.out j (by rw [HL5.out] at hj; exact hj)))
   go_wp2_with fail
   go_ret
   exact ⟨ret_int HR.out.symm, hB.out.bl⟩
theorem rfcheck_any (An Ad As Al At : Option Addr) (nn cn nd cd n c nl cl nt ct : Nat) (ns : List Nd) (ds : List Dv) (F : Fd) (w : World) (h : FdM w An Ad As Al At nn cn nd cd n c nl cl nt ct ns ds F) :
 Calls Tryz.prog 28 #[.agg #[.slice An nn cn, .slice Ad nd cd], .agg #[.slice As n c, .slice Al nl cl, .slice At nt ct]] w fun e w' => e = .returned (.int .i64 (fdErr ns ds F)) ∧ Below w.heap.size w w' := by
 obtain ⟨-, hl2, hl3, hl4, hl5⟩ := h.ln
 have HL2 := Lib.hid hl2; have HL3 := Lib.hid hl3; have HL4 := Lib.hid hl4; have HL5 := Lib.hid hl5
 have hlm := h.hl.le; have htm := h.ht.le; have hsm := h.hs.le; have hdm := h.hd.le
 have HB := Lib.hid (Bx2f.new w #[.slice An nn cn, .slice Ad nd cd] #[.slice As n c, .slice Al nl cl, .slice At nt ct])
 have HH := Lib.hid h
 clear h hl2 hl3 hl4 hl5
 go_enter Tryz.func28, Tryz.ntmps28
 go_upto_region 1 with (fail)
 generalize World.alloc _ _ = w1 at *
 have HM1 := Lib.hid (HH.out.later HB.out.bl)
 have k0 : w1.cell? ⟨w.heap.size, 0, none⟩ = some (.slice An nn cn) := HB.out.b0.cell 0
 have k1 : w1.cell? ⟨w.heap.size, 1, none⟩ = some (.slice Ad nd cd) := HB.out.b0.cell 1
 have f0 : w1.cell? ⟨w.heap.size + 1, 0, none⟩ = some (.slice As n c) := HB.out.b1.cell 0
 go_wp2_with fail
 clear k0 k1 f0
 refine (rstate_any An Ad As nn cn nd cd n c _ _ _ ns ds F.s w1 HM1.out.hn HM1.out.hd HM1.out.hs (Nat.le_refl _) (Nat.le_refl _) (Nat.le_refl _) HM1.out.sn HM1.out.sd).mono ?_
 rintro e w2 ⟨rfl, hb2⟩
 have HB2 := Lib.hid (HB.out.later hb2)
 have HM2 := Lib.hid (HM1.out.later hb2)
 clear hb2 HB HM1
 by_cases hE : stateErr ns ds F.s = 0; rotate_left
 ·have q0 : (stateErr ns ds F.s != 0) = true := by simpa using hE
  have HR := Lib.hid (fdErr_state hE)
  clear hE
  go_wp2_with fail
  go_ret
  exact ⟨ret_int HR.out.symm, HB2.out.bl⟩
 have HSE := Lib.hid hE
 rw [hE]
 clear hE
 have k0 : w2.cell? ⟨w.heap.size, 0, none⟩ = some (.slice An nn cn) := HB2.out.b0.cell 0
 have k1 : w2.cell? ⟨w.heap.size, 1, none⟩ = some (.slice Ad nd cd) := HB2.out.b0.cell 1
 have f1 : w2.cell? ⟨w.heap.size + 1, 1, none⟩ = some (.slice Al nl cl) := HB2.out.b1.cell 1
 go_wp2_with fail
 clear k0 k1 f1
 refine (rlcheck_any An Ad Al nn cn nd cd nl cl _ _ _ ns ds F.ls w2 HM2.out.hn HM2.out.hd HM2.out.hl (Nat.le_refl _) (Nat.le_refl _) (Nat.le_refl _) HM2.out.sn HM2.out.sd).mono ?_
 rintro e w3 ⟨rfl, hb3⟩
 have HB3 := Lib.hid (HB2.out.later hb3)
 clear hb3 HB2 HM2
 by_cases hE : locksErr ns ds F.ls = 0; rotate_left
 ·have q0 : (locksErr ns ds F.ls != 0) = true := by simpa using hE
  have HR := Lib.hid (fdErr_locks HSE.out hE)
  clear hE
  go_wp2_with fail
  go_ret
  exact ⟨ret_int HR.out.symm, HB3.out.bl⟩
 have HLE := Lib.hid hE
 rw [hE]
 clear hE
 go_wp2_with fail
 refine wp_loop_u1 [(3, 0), (0, 1), (1, 0), (0, 2), (14, 0), (23, 1), (41, 0)] 7 (nl) (FcR1 w #[.slice An nn cn, .slice Ad nd cd] #[.slice As n c, .slice Al nl cl, .slice At nt ct] F.s F.ls nl) (by dsimp only [gt]; exact ⟨0, rfl, Nat.zero_le _, rfl, fun _ hk => by simp at hk, HB3⟩) (by kernel_rfl) ?_
 intro u1 p7 gk wr a hrel ha J1 K1 hJ1 hK1
 dsimp only [relaxR, v1, Nat.reduceAdd] at ha
 subst ha
 clear HB3
 obtain ⟨i, rfl, hi, rfl, hLS, hB⟩ := hrel
 have HM := Lib.hid (HH.out.later hB.out.bl)
 have f0 : wr.cell? ⟨w.heap.size + 1, 0, none⟩ = some (.slice As n c) := hB.out.b1.cell 0
 have f1 : wr.cell? ⟨w.heap.size + 1, 1, none⟩ = some (.slice Al nl cl) := hB.out.b1.cell 1
 by_cases hlt : i < nl
 ·obtain ⟨b, off, d, p, q, hA, hbb, hx, c0, c1, c2⟩ := HM.out.hl.lock hlt
  subst hA
  have HX := Lib.hid hx
  obtain ⟨hd0, hd1, -⟩ := lkErr_dev ((locks_good HLE.out).2.1 _ (List.mem_of_getElem? hx))
  simp only at hd0 hd1
  obtain ⟨d, rfl⟩ := Int.eq_ofNat_of_zero_le hd0
  have hdn : d < n := by have := (stateErr_len HSE.out).2.1; rw [HL3.out] at this; omega
  obtain ⟨bs, os, sv, hAs, hbs, hsv, hcs⟩ := HM.out.hs.at1 hdn
  subst hAs
  have HSV := Lib.hid (getDf hsv)
  clear hx hsv hd0 hd1
  by_cases hp : sv = p
  ·have q1 : (sv != p) = false := by simpa using hp
   have HN := Lib.hid (hLS.out.snoc HX.out (by simp only [Int.toNat_natCast]; rw [HSV.out, hp]))
   clear hp
   go_wp2_with fail
   go_quiet (fail)
   go_wp2_with fail
   refine Handed.intro (nl - (i + 1)) (by omega) (hJ1 _ _ _ (LpI1.back 7 ?_ (by kernel_rfl)))
   dsimp only [gt]
   exact ⟨i + 1, by go_num, by omega, rfl, HN, hB.out.drewN _⟩
  ·have q1 : (sv != p) = true := by simpa using hp
   have HR := Lib.hid (fdErr_ls HSE.out HLE.out (LsOk.not HX.out (by simp only [Int.toNat_natCast]; rw [HSV.out]; exact hp)))
   clear hp
   go_wp2_with fail
   go_quiet (fail)
   go_wp2_with fail
   go_ret
   exact ⟨ret_int HR.out.symm, (hB.out.drewN _).bl⟩
 ·obtain rfl : i = nl := by omega
  have hii : decide (i < i) = false := by simp
  have HLS : Hid (LsOk F.s F.ls) := by have := hLS.out; rwa [List.take_of_length_le (by rw [HL4.out]; exact Nat.le_refl _)] at this
  clear hLS HM
  go_wp2_with fail
  clear f0 f1
  refine wp_loop_u1 [(3, 0), (0, 1), (2, 0), (0, 2), (37, 0), (41, 1)] 8 (nt) (FcR2 w #[.slice An nn cn, .slice Ad nd cd] #[.slice As n c, .slice Al i cl, .slice At nt ct] nd F.st nt) (by dsimp only [gt]; exact ⟨0, rfl, Nat.zero_le _, rfl, fun _ hk => by omega, hB⟩) (by kernel_rfl) ?_
  intro u2 p8 gk wq a hrel ha J2 K2 hJ2 hK2
  dsimp only [relaxR, v1, Nat.reduceAdd] at ha
  subst ha
  clear hB
  obtain ⟨j, rfl, hj, rfl, hSt, hB⟩ := hrel
  have HM := Lib.hid (HH.out.later hB.out.bl)
  have f2 : wq.cell? ⟨w.heap.size + 1, 2, none⟩ = some (.slice At nt ct) := hB.out.b1.cell 2
  by_cases hlt : j < nt
  ·obtain ⟨bt, ot, tv, hAt, hbt, htv, hct⟩ := HM.out.ht.at1 hlt
   subst hAt
   have k1 : wq.cell? ⟨w.heap.size, 1, none⟩ = some (.slice Ad nd cd) := hB.out.b0.cell 1
   have HTV := Lib.hid htv
   have HJL : Hid (j < F.st.length) := by unfold Hid; rw [HL5.out]; exact hlt
   by_cases h0 : tv < 0
   ·have q0 : decide (tv < 0) = true := by simpa using h0
    have HR := Lib.hid (fdErr_st HSE.out HLE.out HLS.out (stk_not HJL.out (by rw [HL2.out]; unfold stkE; rw [HTV.out]; simp [h0])))
    clear h0 htv
    go_wp2_with fail
    go_quiet (fail)
    go_wp2_with fail
    go_ret
    exact ⟨ret_int HR.out.symm, (hB.out.drewN _).bl⟩
   ·have q0 : decide (tv < 0) = false := by simpa using h0
    by_cases h1 : (nd : Int) ≤ tv
    ·have q1 : decide ((nd : Int) ≤ tv) = true := by simpa using h1
     have HR := Lib.hid (fdErr_st HSE.out HLE.out HLS.out (stk_not HJL.out (by rw [HL2.out]; unfold stkE; rw [HTV.out]; simp [h1])))
     clear h0 h1 htv
     go_wp2_with fail
     go_quiet (fail)
     go_wp2_with fail
     go_ret
     exact ⟨ret_int HR.out.symm, (hB.out.drewN _).bl⟩
    ·have q1 : decide ((nd : Int) ≤ tv) = false := by simpa using h1
     by_cases hj0 : j = 0
     ·have q2 : decide (0 < (j : Int)) = false := by simp; omega
      have q2n : decide (0 < j) = false := by simp; omega
      have HN := Lib.hid (stk_snoc hSt.out (by unfold stkE; rw [HTV.out]; simp [h0, h1, hj0]))
      clear h0 h1 hj0 htv
      go_wp2_with fail
      go_quiet (fail)
      go_wp2_with fail
      refine Handed.intro (nt - (j + 1)) (by omega) (hJ2 _ _ _ (LpI1.back 8 ?_ (by kernel_rfl)))
      dsimp only [gt]
      exact ⟨j + 1, by go_num, by omega, rfl, HN, hB.out.drewN _⟩
     ·obtain ⟨m, hm⟩ : ∃ m, m = j - 1 := ⟨_, rfl⟩
      have hmt : m < nt := by omega
      have e1 : (j : Int) - 1 = (m : Int) := by omega
      have q2 : decide (0 < (j : Int)) = true := by simp; omega
      have q2n : decide (0 < j) = true := by simp; omega
      obtain ⟨bt2, ot2, pv, hAt, -, hpv, hcp⟩ := HM.out.ht.at1 hmt
      injection hAt with hAt
      injection hAt with hA1 hA2
      subst hA1 hA2
      have HPV : Hid (F.st.getD (j - 1) 0 = pv) := by unfold Hid; rw [← hm]; exact getDf hpv
      by_cases h2 : tv ≤ pv
      ·have q3 : decide (tv ≤ pv) = true := by simpa using h2
       have HR := Lib.hid (fdErr_st HSE.out HLE.out HLS.out (stk_not HJL.out (by rw [HL2.out]; unfold stkE; rw [HTV.out]; simp only; rw [HPV.out, q2n, q3]; simp)))
       clear h0 h1 h2 hj0 htv hpv hm
       go_wp2_with fail
       go_quiet (fail)
       go_wp2_with fail
       go_ret
       exact ⟨ret_int HR.out.symm, (hB.out.drewN _).bl⟩
      ·have q3 : decide (tv ≤ pv) = false := by simpa using h2
       have HN := Lib.hid (stk_snoc hSt.out (by unfold stkE; rw [HTV.out]; simp only; rw [HPV.out, q0, q1, q3]; simp))
       clear h0 h1 h2 hj0 htv hpv hm
       go_wp2_with fail
       go_quiet (fail)
       go_wp2_with fail
       refine Handed.intro (nt - (j + 1)) (by omega) (hJ2 _ _ _ (LpI1.back 8 ?_ (by kernel_rfl)))
       dsimp only [gt]
       exact ⟨j + 1, by go_num, by omega, rfl, HN, hB.out.drewN _⟩
  ·obtain rfl : j = nt := by omega
   have hjj : decide (j < j) = false := by simp
   have HR := Lib.hid (fdErr_ok HSE.out HLE.out HLS.out (fun j hj => by rw [HL2.out]; exact hSt.out j (by rw [HL5.out] at hj; exact hj)))
   go_wp2_with fail
   go_ret
   exact ⟨ret_int HR.out.symm, hB.out.bl⟩
end Go.Proofs.YtepicjpdhpojnaaGreatDoor
namespace Go.Proofs.YtepicjpdhpojnaaGreatDoor
open Go.RowKit
def acrB (x : Dv) (v : Int) : Int := if joinsB x.kind = false then -1 else if x.a = v then x.b else if x.b = v then x.a else -1
theorem across_any (nm : ByteArray) (kind a b comp v : Int) (w : World) : Calls Tryz.prog 144 #[.agg #[.string nm, .int .i64 kind, .int .i64 a, .int .i64 b, .int .i64 comp], .int .i64 v] w fun e w' => e = .returned (.int .i64 (acrB ⟨nm, kind, a, b, comp⟩ v)) ∧ Below w.heap.size w w' := by
 have HE : Hid (acrB ⟨nm, kind, a, b, comp⟩ v = if joinsB kind = false then -1 else if a = v then b else if b = v then a else -1) := rfl
 have HJ2 := Lib.hid (joins_any kind)
 rcases hj : joinsB kind with _ | _
 ·rw [hj] at HJ2
  have HJ := Lib.hid hj; clear hj
  go_enter Tryz.func144, Tryz.ntmps144
  go_wp2_with fail
  refine (HJ2.out _).mono ?_
  rintro e w1 ⟨rfl, rfl⟩
  go_wp2_with fail
  go_ret
  exact ⟨ret_int (by rw [HE.out, if_pos HJ.out]), (Below.refl _ _).alloc (Nat.le_refl _) _⟩
 ·rw [hj] at HJ2
  have HJ := Lib.hid hj; clear hj
  by_cases h1 : a = v
  ·subst h1
   have q : (a == a) = true := by simp
   go_enter Tryz.func144, Tryz.ntmps144
   go_wp2_with fail
   refine (HJ2.out _).mono ?_
   rintro e w1 ⟨rfl, rfl⟩
   go_wp2_with fail
   go_ret
   exact ⟨ret_int (by rw [HE.out, if_neg (by rw [HJ.out]; simp)]; simp), (Below.refl _ _).alloc (Nat.le_refl _) _⟩
  ·have q : (a == v) = false := by simpa using h1
   by_cases h2 : b = v
   ·subst h2
    have q2 : (b == b) = true := by simp
    go_enter Tryz.func144, Tryz.ntmps144
    go_wp2_with fail
    refine (HJ2.out _).mono ?_
    rintro e w1 ⟨rfl, rfl⟩
    go_wp2_with fail
    go_ret
    exact ⟨ret_int (by rw [HE.out, if_neg (by rw [HJ.out]; simp), if_neg h1]; simp), (Below.refl _ _).alloc (Nat.le_refl _) _⟩
   ·have q2 : (b == v) = false := by simpa using h2
    go_enter Tryz.func144, Tryz.ntmps144
    go_wp2_with fail
    refine (HJ2.out _).mono ?_
    rintro e w1 ⟨rfl, rfl⟩
    go_wp2_with fail
    go_ret
    exact ⟨ret_int (by rw [HE.out, if_neg (by rw [HJ.out]; simp), if_neg h1, if_neg h2]), (Below.refl _ _).alloc (Nat.le_refl _) _⟩
def IntsPost (w : World) (l : List Int) (e : Ending) (w' : World) : Prop := ∃ (A : Option Addr) (c : Nat), e = .returned (.slice A l.length c) ∧ Hid (IntsO w' w.heap.size A l.length c l) ∧ Hid (Below w.heap.size w w')
theorem run_isnil (A : Option Addr) (n c : Nat) (w : World) : (binOp BinOp.eql 22 (.slice A n c) (.slice none 0 0)).run Tryz.prog w = .ok (.bool A.isNone) w := by
 cases A <;> kernel_rfl
theorem clone_any (A : Option Addr) (n c B : Nat) (l : List Int) (w : World) (hs : Sl w B 1 A n c (intsV l)) (hB : B ≤ w.heap.size) (hn : n ≤ 1000000) : Calls Tryz.prog 80 #[.slice A n c] w (IntsPost w l) := by
 have hl := hs.len (fun _ => rfl) (by decide)
 have HL := Lib.hid hl; clear hl
 cases A with
 | none =>
  have h0 : n = 0 := by have := hs.2.2.2.1 rfl; have := hs.le; omega
  subst h0
  have hl0 : l = [] := List.eq_nil_of_length_eq_zero HL.out
  subst hl0
  clear hs HL
  have hnil := run_isnil none 0 c w
  simp only [Option.isNone_none] at hnil
  go_enter Tryz.func80, Tryz.ntmps80
  go_wp2_with fail
  go_ret
  exact ⟨none, 0, rfl, World.ownsRow_nil _ _ _ _, Below.refl _ _⟩
 | some a =>
  have HS := Lib.hid hs
  have hH := hs.le
  clear hs
  have hnil := run_isnil (some a) n c w
  simp only [Option.isNone_some] at hnil
  go_enter Tryz.func80, Tryz.ntmps80
  have h1 : ∀ u ∈ intsV l, u.oneCell' = true := ints_one l
  have HS1 := Lib.hid (HS.out.alloc hB (.cells #[] 3))
  go_wp2_with (at_builtin; go_must (refine wpList_app rfl (.tmp 5) (.tmp 6) rfl el_int (base := w.heap.size) (n := 0) (xs := []) (by rfl) (own_new (xs := []) (Nat.le_refl _) (by decide) rfl) (by rfl) HS1.out h1 (by omega) (by omega) (by simp) ?_; intro A' cap' w2 hown2 hgr2 hat2; simp only [Nat.zero_add, List.nil_append] at hown2 hgr2; have HO := Lib.hid hown2; have HG := Lib.hid hgr2; clear hown2 hgr2 hat2))
  go_ret
  obtain rfl : l.length = n := HL.out
  exact ⟨A', cap', rfl, HO.out, ((Below.refl _ _).alloc (Nat.le_refl _) _).trans (below_of_grown HG.out (Nat.le_refl _) (by simp))⟩
end Go.Proofs.YtepicjpdhpojnaaGreatDoor
namespace Go.Proofs.YtepicjpdhpojnaaGreatDoor
open Go.RowKit
theorem few_any (A : Option Addr) (n c : Nat) (w : World) (hn : n ≤ 9223372036854775807) : Calls Tryz.prog 8 #[.slice A n c] w fun e w' => e = .returned (.bool (decide (n ≤ 400))) ∧ w = w' := by
 go_enter Tryz.func8, Tryz.ntmps8
 go_wp2
 go_ret
 exact ⟨ret_bool (by simp; omega), rfl⟩
def DeckAt (w : World) (g : Nat) : Prop :=
 ∃ (A : Option Addr) (n c k : Nat) (l : List Int) (s : Int), w.heap[g]? = some (.cells #[.slice A n c, .int .i64 k, .int .u64 s] 77 (0, 0)) ∧ Sl w g 1 A n c (intsV l) ∧ k ≤ n ∧ 0 ≤ s ∧ s < 18446744073709551616
theorem DeckAt.lt {w : World} {g : Nat} (h : DeckAt w g) : g < w.heap.size := by
 obtain ⟨A, n, c, k, l, s, hh, _⟩ := h
 exact (Array.getElem?_eq_some_iff.1 hh).1
theorem DeckAt.keep {w w' : World} {g : Nat} (h : DeckAt w g) (hk : ∀ i, i ≤ g → w'.heap[i]? = w.heap[i]?) : DeckAt w' g := by
 obtain ⟨A, n, c, k, l, s, hh, hs, h1, h2, h3⟩ := h
 exact ⟨A, n, c, k, l, s, (hk g (Nat.le_refl _)).trans hh, hs.keep fun p hp => World.cell?_of_block (hk p.block (by omega)), h1, h2, h3⟩
theorem DeckAt.below {w w' : World} {g B : Nat} (h : DeckAt w g) (hb : Below B w w') (hg : g < B) : DeckAt w' g := h.keep fun i hi => hb.block i (by omega)
theorem DeckAt.alloc {w : World} {g : Nat} (h : DeckAt w g) (o : Obj) : DeckAt (w.alloc o) g := h.keep fun i hi => Below.heap_alloc w o i (by have := h.lt; omega)
theorem DeckAt.drewN {w : World} {g : Nat} (h : DeckAt w g) (n : Nat) : DeckAt (w.drewN n) g := h
theorem DeckAt.drew {w : World} {g : Nat} (h : DeckAt w g) : DeckAt w.drew g := h
theorem DeckAt.setCell {w : World} {g : Nat} (h : DeckAt w g) {p : Addr} (hp : g < p.block) (u : Value) : DeckAt (w.setCell p u) g := h.keep fun i hi => Below.heap_setCell w p u i (by omega)
theorem DeckAt.grown {w w' : World} {g : Nat} (h : DeckAt w g) {row : Option Nat} (hg : w.grownBy w' row) (hr : ∀ k, row = some k → g < k) : DeckAt w' g :=
 h.keep fun i hi => hg.block i (by have := h.lt; omega) (fun e => by have := hr _ e.symm; omega)
theorem new_any (A : Option Addr) (n c B : Nat) (l : List Int) (w : World) (hr : Sl w B 1 A n c (intsV l)) (hB : B ≤ w.heap.size) :
 Calls Tryz.prog 9 #[.slice A n c] w fun e w' => e = .returned (.pointer (some ⟨w.heap.size, 0, none⟩)) ∧ Hid (DeckAt w' w.heap.size) ∧ Hid (Below w.heap.size w w') ∧ Hid (w'.heap.size = w.heap.size + 1) := by
 go_enter Tryz.func9, Tryz.ntmps9
 go_wp2
 go_ret
 refine ⟨rfl, ⟨A, n, c, 0, l, 88172645463325252, heap_alloc_new w _, (hr.more hB).alloc (Nat.le_refl _) _, Nat.zero_le _, by decide, by decide⟩, (Below.refl _ _).alloc (Nat.le_refl _) _, by unfold Hid; simp⟩
theorem wrap_u64_in (t : Int) : 0 ≤ IntKind.u64.wrap t ∧ IntKind.u64.wrap t < 18446744073709551616 := by
 have : IntKind.u64.wrap t = t % 18446744073709551616 := by simp [IntKind.wrap, IntKind.bits, IntKind.signed]
 omega
theorem next_rem (t n : Int) (hn : 1 ≤ n) : 0 ≤ wrap64 ((IntKind.u64.wrap t / 8589934592).tmod n) ∧ wrap64 ((IntKind.u64.wrap t / 8589934592).tmod n) < n := by
 obtain ⟨h0, h1⟩ := wrap_u64_in t
 generalize IntKind.u64.wrap t = q at *
 have hq : 0 ≤ q / 8589934592 ∧ q / 8589934592 ≤ 2147483647 := by omega
 generalize q / 8589934592 = z at *
 rw [Int.tmod_eq_emod_of_nonneg hq.1]
 have h2 := Int.emod_nonneg z (show n ≠ 0 by omega)
 have h3 := Int.emod_lt_of_pos z (show 0 < n by omega)
 have h4 : z % n ≤ z := by
  rcases Int.lt_or_le z n with h | h
  ·rw [Int.emod_eq_of_lt hq.1 h]; exact Int.le_refl _
  ·omega
 rw [IntWalk.wrap64_in _ ⟨by omega, by omega⟩]
 omega
section
variable {w : World} {g m c k : Nat} {A : Option Addr} {s : Int} {l : List Int}
theorem only_one (w : World) (g d : Nat) (u : Value) :
 w.grownBy ((w.drewN d).setCell ⟨g, 2, none⟩ u) (some g) ∧ ((w.drewN d).setCell ⟨g, 2, none⟩ u).heap.size = w.heap.size :=
 ⟨⟨rfl, rfl, rfl, by simp [World.setCell], fun i _ hi => Below.heap_setCell (w.drewN d) _ u i (fun e => hi (by rw [e]))⟩, by simp [World.setCell]⟩
theorem only_two (w : World) (g d : Nat) (u v : Value) :
 w.grownBy (((w.drewN d).setCell ⟨g, 1, none⟩ u).setCell ⟨g, 2, none⟩ v) (some g) ∧ (((w.drewN d).setCell ⟨g, 1, none⟩ u).setCell ⟨g, 2, none⟩ v).heap.size = w.heap.size :=
 ⟨⟨rfl, rfl, rfl, by simp [World.setCell], fun i _ hi => (Below.heap_setCell _ _ v i (fun e => hi (by rw [e]))).trans (Below.heap_setCell (w.drewN d) _ u i (fun e => hi (by rw [e])))⟩, by simp [World.setCell]⟩
theorem deck_one (hh : w.heap[g]? = some (.cells #[.slice A m c, .int .i64 k, .int .u64 s] 77 (0, 0))) (hs : Sl w g 1 A m c (intsV l)) (hk : k ≤ m) (t : Int) :
 DeckAt (w.setCell ⟨g, 2, none⟩ (.int .u64 (IntKind.u64.wrap t))) g := by
 refine ⟨A, m, c, k, l, IntKind.u64.wrap t, ?_, hs.setCell (Nat.le_refl _) _, hk, wrap_u64_in t⟩
 simp [World.setCell, Array.getElem?_modify, hh]
theorem deck_two (hh : w.heap[g]? = some (.cells #[.slice A m c, .int .i64 k, .int .u64 s] 77 (0, 0))) (hs : Sl w g 1 A m c (intsV l)) (hk : k < m) (t : Int) :
 DeckAt ((w.setCell ⟨g, 1, none⟩ (.int .i64 ((k : Int) + 1))).setCell ⟨g, 2, none⟩ (.int .u64 (IntKind.u64.wrap t))) g := by
 refine ⟨A, m, c, k + 1, l, IntKind.u64.wrap t, ?_, (hs.setCell (Nat.le_refl _) _).setCell (Nat.le_refl _) _, hk, wrap_u64_in t⟩
 simp [World.setCell, Array.getElem?_modify, hh]
end
def NextPost (w : World) (g : Nat) (n : Int) (e : Ending) (w' : World) : Prop :=
 ∃ r : Int, e = .returned (.int .i64 r) ∧ 0 ≤ r ∧ Hid (n < 1 → r = 0) ∧ Hid (1 ≤ n → r < n) ∧ Hid (DeckAt w' g) ∧ Hid (w.grownBy w' (some g)) ∧ Hid (w'.heap.size = w.heap.size)
theorem next_any (g : Nat) (n : Int) (w : World) (hd : DeckAt w g) (hn : n ≤ 9223372036854775807) : Calls Tryz.prog 25 #[.pointer (some ⟨g, 0, none⟩), .int .i64 n] w (NextPost w g n) := by
 have hlt := hd.lt
 obtain ⟨A, m, c, k, l, s, hh, hs, h1, h2, h3⟩ := hd
 obtain ⟨hmc, hcm⟩ := hs.le
 have c0 : w.cell? ⟨g, 0, none⟩ = some (.slice A m c) := cell_of_row w g 0 _ _ _ hh
 have c1 : w.cell? ⟨g, 1, none⟩ = some (.int .i64 k) := cell_of_row w g 1 _ _ _ hh
 have c2 : w.cell? ⟨g, 2, none⟩ = some (.int .u64 s) := cell_of_row w g 2 _ _ _ hh
 have f0 : ∀ j, w.frozen? ⟨g, j, none⟩ = false := fun j => by simp [World.frozen?, hh]
 have f1 := f0 1
 have f2 := f0 2
 have HH := Lib.hid hh; have HS := Lib.hid hs
 clear hh hs f0
 have H3 := Lib.hid h3; clear h3
 by_cases hk : k < m
 ·obtain ⟨b, off, x, rfl, hb, hx, hcell⟩ := HS.out.at1 hk
  clear hx
  have hki : (k : Int) < (m : Int) := by omega
  go_enter Tryz.func25, Tryz.ntmps25
  go_wp2_with fail
  go_quiet (fail)
  go_wp2_with fail
  go_quiet (fail)
  go_wp2_with fail
  ·go_ret
   exact ⟨_, rfl, Int.le_refl _, fun _ => rfl, fun h => absurd h (by omega), deck_two HH.out HS.out hk _, only_two w g _ _ _⟩
  ·go_ret
   have hr := next_rem (IntKind.u64.wrap (IntKind.u64.wrap (s * 6364136223846793005) + IntKind.u64.wrap x) + 1442695040888963407) n (by omega)
   exact ⟨_, rfl, hr.1, fun h => absurd h (by omega), fun _ => hr.2, deck_two HH.out HS.out hk _, only_two w g _ _ _⟩
 ·have hki : decide ((k : Int) < (m : Int)) = false := by simp; omega
  go_enter Tryz.func25, Tryz.ntmps25
  go_wp2_with fail
  go_quiet (fail)
  go_wp2_with fail
  ·go_ret
   exact ⟨_, rfl, Int.le_refl _, fun _ => rfl, fun h => absurd h (by omega), deck_one HH.out HS.out h1 _, only_one w g _ _⟩
  ·go_ret
   have hr := next_rem (IntKind.u64.wrap (IntKind.u64.wrap (s * 6364136223846793005)) + 1442695040888963407) n (by omega)
   exact ⟨_, rfl, hr.1, fun h => absurd h (by omega), fun _ => hr.2, deck_one HH.out HS.out h1 _, only_one w g _ _⟩
end Go.Proofs.YtepicjpdhpojnaaGreatDoor
namespace Go.Proofs.YtepicjpdhpojnaaGreatDoor
open Go.RowKit
def nm2 (l : List UInt8) (k : Nat) : List UInt8 := l ++ [UInt8.ofNat (48 + k / 10), UInt8.ofNat (48 + k % 10)]
end Go.Proofs.YtepicjpdhpojnaaGreatDoor
