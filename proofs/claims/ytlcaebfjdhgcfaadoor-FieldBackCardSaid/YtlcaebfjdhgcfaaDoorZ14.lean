import Derived.Test.YtlcaebfjdhgcfaaDoorZ11
import Derived.Test.YtlcaebfjdhgcfaaDoorZ12
import Derived.Test.YtlcaebfjdhgcfaaDoorZ08
import Derived.Test.YtlcaebfjdhgcfaaDoorZ13
import Derived.Deep.QuietTactic
/-
  A field's Check: the program's, and the reference's.
-/
namespace Go.Proofs.YtlcaebfjdhgcfaaDoor
open Go.RowKit
def FcR1 (w : World) (cn cf : Array Value) (s : List Int) (ls : List Lk) (n gk : Nat) (iv : Value) (wr : World) : Prop := ∃ i : Nat, iv = .int .i64 i ∧ i ≤ n ∧ gk = n - i ∧ Hid (LsOk s (ls.take i)) ∧ Hid (Bx2f w cn cf wr)
def FcR2 (w : World) (cn cf : Array Value) (nd : Nat) (st : List Int) (n gk : Nat) (iv : Value) (wr : World) : Prop := ∃ i : Nat, iv = .int .i64 i ∧ i ≤ n ∧ gk = n - i ∧ Hid (∀ j, j < i → stkE nd st j = false) ∧ Hid (Bx2f w cn cf wr)
theorem LsOk.snoc {s : List Int} {ls : List Lk} {i : Nat} {k : Lk} (h : LsOk s (ls.take i)) (hk : ls[i]? = some k) (he : s.getD k.dev.toNat 0 = k.pos) : LsOk s (ls.take (i + 1)) := by
  rw [take_snoc hk]
  intro x hx
  rcases List.mem_append.1 hx with h1 | h1
  · exact h x h1
  · rw [List.mem_singleton.1 h1]; exact he
theorem LsOk.not {s : List Int} {ls : List Lk} {i : Nat} {k : Lk} (hk : ls[i]? = some k) (he : s.getD k.dev.toNat 0 ≠ k.pos) : ¬ LsOk s ls := fun h => he (h k (List.mem_of_getElem? hk))
theorem stk_not {nd : Nat} {st : List Int} {i : Nat} (hi : i < st.length) (h : stkE nd st i = true) : ¬ StkOk nd st := fun k => by rw [k i hi] at h; cases h
theorem stk_snoc {nd : Nat} {st : List Int} {i : Nat} (h : ∀ j, j < i → stkE nd st j = false) (hi : stkE nd st i = false) : ∀ j, j < i + 1 → stkE nd st j = false := fun j hj => by
  rcases Nat.lt_succ_iff_lt_or_eq.1 hj with h1 | rfl
  · exact h j h1
  · exact hi
set_option maxRecDepth 100000 in
set_option maxHeartbeats 8000000 in
theorem fcheck_any (An Ad As Al At : Option Addr) (nn cn nd cd n c nl cl nt ct : Nat) (ns : List Nd) (ds : List Dv) (F : Fd) (w : World) (h : FdM w An Ad As Al At nn cn nd cd n c nl cl nt ct ns ds F) :
    Calls Tryd.prog 14 #[.agg #[.slice An nn cn, .slice Ad nd cd], .agg #[.slice As n c, .slice Al nl cl, .slice At nt ct]] w fun e w' => e = .returned (.int .i64 (fdErr ns ds F)) ∧ Below w.heap.size w w' := by
  obtain ⟨-, hl2, hl3, hl4, hl5⟩ := h.ln
  have HL2 := Lib.hid hl2; have HL3 := Lib.hid hl3; have HL4 := Lib.hid hl4; have HL5 := Lib.hid hl5
  have hlm := h.hl.le; have htm := h.ht.le; have hsm := h.hs.le; have hdm := h.hd.le
  have HB := Lib.hid (Bx2f.new w #[.slice An nn cn, .slice Ad nd cd] #[.slice As n c, .slice Al nl cl, .slice At nt ct])
  have HH := Lib.hid h
  clear h hl2 hl3 hl4 hl5
  go_enter Tryd.func14, Tryd.ntmps14
  go_upto_region 1 with (fail)
  generalize World.alloc _ _ = w1 at *
  have HM1 := Lib.hid (HH.out.later HB.out.bl)
  have k0 : w1.cell? ⟨w.heap.size, 0, none⟩ = some (.slice An nn cn) := HB.out.b0.cell 0
  have k1 : w1.cell? ⟨w.heap.size, 1, none⟩ = some (.slice Ad nd cd) := HB.out.b0.cell 1
  have f0 : w1.cell? ⟨w.heap.size + 1, 0, none⟩ = some (.slice As n c) := HB.out.b1.cell 0
  go_wp2_with fail
  clear k0 k1 f0
  refine (mstate_any An Ad As nn cn nd cd n c _ _ _ ns ds F.s w1 HM1.out.la HM1.out.hn HM1.out.hd HM1.out.hs (Nat.le_refl _) (Nat.le_refl _) (Nat.le_refl _) HM1.out.sn HM1.out.sd).mono ?_
  rintro e w2 ⟨rfl, hb2⟩
  have HB2 := Lib.hid (HB.out.later hb2)
  have HM2 := Lib.hid (HM1.out.later hb2)
  clear hb2 HB HM1
  by_cases hE : stateErr ns ds F.s = 0; rotate_left
  · have q0 : (stateErr ns ds F.s != 0) = true := by simpa using hE
    have HR := Lib.hid (fdErr_state hE)
    clear hE
    go_wp2_with fail
    go_ret
    exact ⟨ret_int HR.out.symm, HB2.out.bl⟩
  have HSE := Lib.hid hE
  rw [hE]
  clear hE
  have k0 : w2.cell? ⟨w.heap.size, 0, none⟩ = some (.slice An nn cn) := HB2.out.b0.cell 0
  have k1 : w2.cell? ⟨w.heap.size, 1, none⟩ = some (.slice Ad nd cd) := HB2.out.b0.cell 1
  have f1 : w2.cell? ⟨w.heap.size + 1, 1, none⟩ = some (.slice Al nl cl) := HB2.out.b1.cell 1
  go_wp2_with fail
  clear k0 k1 f1
  refine (lcheck_any An Ad Al nn cn nd cd nl cl _ _ _ ns ds F.ls w2 HM2.out.la HM2.out.hn HM2.out.hd HM2.out.hl (Nat.le_refl _) (Nat.le_refl _) (Nat.le_refl _) HM2.out.sn HM2.out.sd).mono ?_
  rintro e w3 ⟨rfl, hb3⟩
  have HB3 := Lib.hid (HB2.out.later hb3)
  clear hb3 HB2 HM2
  by_cases hE : locksErr ns ds F.ls = 0; rotate_left
  · have q0 : (locksErr ns ds F.ls != 0) = true := by simpa using hE
    have HR := Lib.hid (fdErr_locks HSE.out hE)
    clear hE
    go_wp2_with fail
    go_ret
    exact ⟨ret_int HR.out.symm, HB3.out.bl⟩
  have HLE := Lib.hid hE
  rw [hE]
  clear hE
  have f1 : w3.cell? ⟨w.heap.size + 1, 1, none⟩ = some (.slice Al nl cl) := HB3.out.b1.cell 1
  go_wp2_with fail
  clear f1
  refine wp_loop_u1 [(3, 0), (0, 1), (2, 0), (0, 1), (18, 0), (0, 2), (12, 1), (31, 0)] 28 (nl) (FcR1 w #[.slice An nn cn, .slice Ad nd cd] #[.slice As n c, .slice Al nl cl, .slice At nt ct] F.s F.ls nl) (by dsimp only [gt]; exact ⟨0, rfl, Nat.zero_le _, rfl, fun _ hk => by simp at hk, HB3⟩) (by kernel_rfl) ?_
  intro u1 p28 gk wr a hrel ha J1 K1 hJ1 hK1
  dsimp only [relaxR, v1, Nat.reduceAdd] at ha
  subst ha
  clear HB3
  obtain ⟨i, rfl, hi, rfl, hLS, hB⟩ := hrel
  have HM := Lib.hid (HH.out.later hB.out.bl)
  by_cases hlt : i < nl
  · obtain ⟨b, off, d, p, q, hA, hbb, hx, c0, c1, c2⟩ := HM.out.hl.lock hlt
    subst hA
    have HX := Lib.hid hx
    obtain ⟨hd0, hd1, -⟩ := lkErr_dev ((locks_good HLE.out).2.1 _ (List.mem_of_getElem? hx))
    simp only at hd0 hd1
    obtain ⟨d, rfl⟩ := Int.eq_ofNat_of_zero_le hd0
    have hdn : d < n := by have := (stateErr_len HSE.out).2.1; rw [HL3.out] at this; omega
    obtain ⟨bs, os, sv, hAs, hbs, hsv, hcs⟩ := HM.out.hs.at1 hdn
    subst hAs
    have HSV := Lib.hid (getDf hsv)
    clear hx hsv hd0 hd1
    go_upto_region 10 with (fail)
    have HBE : Hid (Below wr.heap.size wr (wr.alloc (.cells #[.int .i64 (d : Int), .int .i64 p, .int .i64 q] 43))) := (Below.refl _ _).alloc (Nat.le_refl _) _
    have HBL := Lib.hid (Blk.new wr 43 #[.int .i64 (d : Int), .int .i64 p, .int .i64 q])
    have HBN := Lib.hid (hB.out.later HBE.out)
    replace hcs := (HBE.out.cell (p := ⟨bs, os + d, none⟩) hbs).trans hcs
    clear hB HM HBE c0 c1 c2
    generalize World.alloc wr _ = W at *
    obtain ⟨lb, hlb⟩ : ∃ x, x = wr.heap.size := ⟨_, rfl⟩
    rw [← hlb] at HBL ⊢
    clear hlb hbs hbb
    have f0 : W.cell? ⟨w.heap.size + 1, 0, none⟩ = some (.slice (some ⟨bs, os, none⟩) n c) := HBN.out.b1.cell 0
    have l0 : W.cell? ⟨lb, 0, none⟩ = some (.int .i64 (d : Int)) := HBL.out.cell 0
    have l1 : W.cell? ⟨lb, 1, none⟩ = some (.int .i64 p) := HBL.out.cell 1
    clear HBL
    by_cases hp : sv = p
    · have q1 : (sv != p) = false := by simpa using hp
      have HN := Lib.hid (hLS.out.snoc HX.out (by simp only [Int.toNat_natCast]; rw [HSV.out, hp]))
      clear hp
      go_quiet (fail)
      go_wp2_with fail
      refine Handed.intro (nl - (i + 1)) (by omega) (hJ1 _ _ _ (LpI1.back 28 ?_ (by kernel_rfl)))
      dsimp only [gt]
      exact ⟨i + 1, by go_num, by omega, rfl, HN, HBN.out.drewN _⟩
    · have q1 : (sv != p) = true := by simpa using hp
      have q2 : (sv == p) = false := by simpa using hp
      have HR := Lib.hid (fdErr_ls HSE.out HLE.out (LsOk.not HX.out (by simp only [Int.toNat_natCast]; rw [HSV.out]; exact hp)))
      clear hp
      go_quiet (fail)
      go_wp2_with fail
      go_ret
      exact ⟨ret_int HR.out.symm, (HBN.out.drewN _).bl⟩
  · obtain rfl : i = nl := by omega
    have hii : decide (i < i) = false := by simp
    have HLS : Hid (LsOk F.s F.ls) := by have := hLS.out; rwa [List.take_of_length_le (by rw [HL4.out]; exact Nat.le_refl _)] at this
    have f2 : wr.cell? ⟨w.heap.size + 1, 2, none⟩ = some (.slice At nt ct) := hB.out.b1.cell 2
    clear hLS HM
    go_wp2_with fail
    clear f2
    refine wp_loop_u1 [(3, 0), (0, 1), (3, 0), (1, 1), (33, 0), (0, 2), (27, 1)] 45 (nt) (FcR2 w #[.slice An nn cn, .slice Ad nd cd] #[.slice As n c, .slice Al i cl, .slice At nt ct] nd F.st nt) (by dsimp only [gt]; exact ⟨0, rfl, Nat.zero_le _, rfl, fun _ hk => by omega, hB⟩) (by kernel_rfl) ?_
    intro u2 p45 gk wq a hrel ha J2 K2 hJ2 hK2
    dsimp only [relaxR, v1, Nat.reduceAdd] at ha
    subst ha
    clear hB
    obtain ⟨j, rfl, hj, rfl, hSt, hB⟩ := hrel
    have HM := Lib.hid (HH.out.later hB.out.bl)
    by_cases hlt : j < nt
    · obtain ⟨bt, ot, tv, hAt, hbt, htv, hct⟩ := HM.out.ht.at1 hlt
      subst hAt
      have k1 : wq.cell? ⟨w.heap.size, 1, none⟩ = some (.slice Ad nd cd) := hB.out.b0.cell 1
      have f2 : wq.cell? ⟨w.heap.size + 1, 2, none⟩ = some (.slice (some ⟨bt, ot, none⟩) nt ct) := hB.out.b1.cell 2
      have HTV := Lib.hid htv
      have HJL : Hid (j < F.st.length) := by unfold Hid; rw [HL5.out]; exact hlt
      by_cases h0 : tv < 0
      · have q0 : decide (tv < 0) = true := by simpa using h0
        have HR := Lib.hid (fdErr_st HSE.out HLE.out HLS.out (stk_not HJL.out (by rw [HL2.out]; unfold stkE; rw [HTV.out]; simp [h0])))
        clear h0 htv
        go_wp2_with fail
        go_ret
        exact ⟨ret_int HR.out.symm, hB.out.bl⟩
      · have q0 : decide (tv < 0) = false := by simpa using h0
        by_cases h1 : (nd : Int) ≤ tv
        · have q1 : decide ((nd : Int) ≤ tv) = true := by simpa using h1
          have HR := Lib.hid (fdErr_st HSE.out HLE.out HLS.out (stk_not HJL.out (by rw [HL2.out]; unfold stkE; rw [HTV.out]; simp [h1])))
          clear h0 h1 htv
          go_wp2_with fail
          go_ret
          exact ⟨ret_int HR.out.symm, hB.out.bl⟩
        · have q1 : decide ((nd : Int) ≤ tv) = false := by simpa using h1
          by_cases hj0 : j = 0
          · have q2 : decide (0 < (j : Int)) = false := by simp; omega
            have q2n : decide (0 < j) = false := by simp; omega
            have HN := Lib.hid (stk_snoc hSt.out (by unfold stkE; rw [HTV.out]; simp [h0, h1, hj0]))
            clear h0 h1 hj0 htv
            go_wp2_with fail
            refine Handed.intro (nt - (j + 1)) (by omega) (hJ2 _ _ _ (LpI1.back 45 ?_ (by kernel_rfl)))
            dsimp only [gt]
            exact ⟨j + 1, by go_num, by omega, rfl, HN, hB⟩
          · obtain ⟨m, hm⟩ : ∃ m, m = j - 1 := ⟨_, rfl⟩
            have hmt : m < nt := by omega
            have e1 : (j : Int) - 1 = (m : Int) := by omega
            have q2 : decide (0 < (j : Int)) = true := by simp; omega
            have q2n : decide (0 < j) = true := by simp; omega
            obtain ⟨bt2, ot2, pv, hAt, -, hpv, hcp⟩ := HM.out.ht.at1 hmt
            injection hAt with hAt
            injection hAt with hA1 hA2
            subst hA1 hA2
            have HPV : Hid (F.st.getD (j - 1) 0 = pv) := by unfold Hid; rw [← hm]; exact getDf hpv
            by_cases h2 : tv ≤ pv
            · have q3 : decide (tv ≤ pv) = true := by simpa using h2
              have HR := Lib.hid (fdErr_st HSE.out HLE.out HLS.out (stk_not HJL.out (by rw [HL2.out]; unfold stkE; rw [HTV.out]; simp only; rw [HPV.out, q2n, q3]; simp)))
              clear h0 h1 h2 hj0 htv hpv hm
              go_wp2_with fail
              go_ret
              exact ⟨ret_int HR.out.symm, hB.out.bl⟩
            · have q3 : decide (tv ≤ pv) = false := by simpa using h2
              have HN := Lib.hid (stk_snoc hSt.out (by unfold stkE; rw [HTV.out]; simp only; rw [HPV.out, q0, q1, q3]; simp))
              clear h0 h1 h2 hj0 htv hpv hm
              go_wp2_with fail
              refine Handed.intro (nt - (j + 1)) (by omega) (hJ2 _ _ _ (LpI1.back 45 ?_ (by kernel_rfl)))
              dsimp only [gt]
              exact ⟨j + 1, by go_num, by omega, rfl, HN, hB⟩
    · obtain rfl : j = nt := by omega
      have hjj : decide (j < j) = false := by simp
      have HR := Lib.hid (fdErr_ok HSE.out HLE.out HLS.out (fun j hj => by rw [HL2.out]; exact hSt.out j (by rw [HL5.out] at hj; exact hj)))
      go_wp2_with fail
      go_ret
      exact ⟨ret_int HR.out.symm, hB.out.bl⟩
set_option maxRecDepth 100000 in
set_option maxHeartbeats 8000000 in
theorem rfcheck_any (An Ad As Al At : Option Addr) (nn cn nd cd n c nl cl nt ct : Nat) (ns : List Nd) (ds : List Dv) (F : Fd) (w : World) (h : FdM w An Ad As Al At nn cn nd cd n c nl cl nt ct ns ds F) :
    Calls Tryd.prog 31 #[.agg #[.slice An nn cn, .slice Ad nd cd], .agg #[.slice As n c, .slice Al nl cl, .slice At nt ct]] w fun e w' => e = .returned (.int .i64 (fdErr ns ds F)) ∧ Below w.heap.size w w' := by
  obtain ⟨-, hl2, hl3, hl4, hl5⟩ := h.ln
  have HL2 := Lib.hid hl2; have HL3 := Lib.hid hl3; have HL4 := Lib.hid hl4; have HL5 := Lib.hid hl5
  have hlm := h.hl.le; have htm := h.ht.le; have hsm := h.hs.le; have hdm := h.hd.le
  have HB := Lib.hid (Bx2f.new w #[.slice An nn cn, .slice Ad nd cd] #[.slice As n c, .slice Al nl cl, .slice At nt ct])
  have HH := Lib.hid h
  clear h hl2 hl3 hl4 hl5
  go_enter Tryd.func31, Tryd.ntmps31
  go_upto_region 1 with (fail)
  generalize World.alloc _ _ = w1 at *
  have HM1 := Lib.hid (HH.out.later HB.out.bl)
  have k0 : w1.cell? ⟨w.heap.size, 0, none⟩ = some (.slice An nn cn) := HB.out.b0.cell 0
  have k1 : w1.cell? ⟨w.heap.size, 1, none⟩ = some (.slice Ad nd cd) := HB.out.b0.cell 1
  have f0 : w1.cell? ⟨w.heap.size + 1, 0, none⟩ = some (.slice As n c) := HB.out.b1.cell 0
  go_wp2_with fail
  clear k0 k1 f0
  refine (rstate_any An Ad As nn cn nd cd n c _ _ _ ns ds F.s w1 HM1.out.hn HM1.out.hd HM1.out.hs (Nat.le_refl _) (Nat.le_refl _) (Nat.le_refl _) HM1.out.sn HM1.out.sd).mono ?_
  rintro e w2 ⟨rfl, hb2⟩
  have HB2 := Lib.hid (HB.out.later hb2)
  have HM2 := Lib.hid (HM1.out.later hb2)
  clear hb2 HB HM1
  by_cases hE : stateErr ns ds F.s = 0; rotate_left
  · have q0 : (stateErr ns ds F.s != 0) = true := by simpa using hE
    have HR := Lib.hid (fdErr_state hE)
    clear hE
    go_wp2_with fail
    go_ret
    exact ⟨ret_int HR.out.symm, HB2.out.bl⟩
  have HSE := Lib.hid hE
  rw [hE]
  clear hE
  have k0 : w2.cell? ⟨w.heap.size, 0, none⟩ = some (.slice An nn cn) := HB2.out.b0.cell 0
  have k1 : w2.cell? ⟨w.heap.size, 1, none⟩ = some (.slice Ad nd cd) := HB2.out.b0.cell 1
  have f1 : w2.cell? ⟨w.heap.size + 1, 1, none⟩ = some (.slice Al nl cl) := HB2.out.b1.cell 1
  go_wp2_with fail
  clear k0 k1 f1
  refine (rlcheck_any An Ad Al nn cn nd cd nl cl _ _ _ ns ds F.ls w2 HM2.out.hn HM2.out.hd HM2.out.hl (Nat.le_refl _) (Nat.le_refl _) (Nat.le_refl _) HM2.out.sn HM2.out.sd).mono ?_
  rintro e w3 ⟨rfl, hb3⟩
  have HB3 := Lib.hid (HB2.out.later hb3)
  clear hb3 HB2 HM2
  by_cases hE : locksErr ns ds F.ls = 0; rotate_left
  · have q0 : (locksErr ns ds F.ls != 0) = true := by simpa using hE
    have HR := Lib.hid (fdErr_locks HSE.out hE)
    clear hE
    go_wp2_with fail
    go_ret
    exact ⟨ret_int HR.out.symm, HB3.out.bl⟩
  have HLE := Lib.hid hE
  rw [hE]
  clear hE
  go_wp2_with fail
  refine wp_loop_u1 [(3, 0), (0, 1), (1, 0), (0, 2), (14, 0), (23, 1), (41, 0)] 7 (nl) (FcR1 w #[.slice An nn cn, .slice Ad nd cd] #[.slice As n c, .slice Al nl cl, .slice At nt ct] F.s F.ls nl) (by dsimp only [gt]; exact ⟨0, rfl, Nat.zero_le _, rfl, fun _ hk => by simp at hk, HB3⟩) (by kernel_rfl) ?_
  intro u1 p7 gk wr a hrel ha J1 K1 hJ1 hK1
  dsimp only [relaxR, v1, Nat.reduceAdd] at ha
  subst ha
  clear HB3
  obtain ⟨i, rfl, hi, rfl, hLS, hB⟩ := hrel
  have HM := Lib.hid (HH.out.later hB.out.bl)
  have f0 : wr.cell? ⟨w.heap.size + 1, 0, none⟩ = some (.slice As n c) := hB.out.b1.cell 0
  have f1 : wr.cell? ⟨w.heap.size + 1, 1, none⟩ = some (.slice Al nl cl) := hB.out.b1.cell 1
  by_cases hlt : i < nl
  · obtain ⟨b, off, d, p, q, hA, hbb, hx, c0, c1, c2⟩ := HM.out.hl.lock hlt
    subst hA
    have HX := Lib.hid hx
    obtain ⟨hd0, hd1, -⟩ := lkErr_dev ((locks_good HLE.out).2.1 _ (List.mem_of_getElem? hx))
    simp only at hd0 hd1
    obtain ⟨d, rfl⟩ := Int.eq_ofNat_of_zero_le hd0
    have hdn : d < n := by have := (stateErr_len HSE.out).2.1; rw [HL3.out] at this; omega
    obtain ⟨bs, os, sv, hAs, hbs, hsv, hcs⟩ := HM.out.hs.at1 hdn
    subst hAs
    have HSV := Lib.hid (getDf hsv)
    clear hx hsv hd0 hd1
    by_cases hp : sv = p
    · have q1 : (sv != p) = false := by simpa using hp
      have HN := Lib.hid (hLS.out.snoc HX.out (by simp only [Int.toNat_natCast]; rw [HSV.out, hp]))
      clear hp
      go_wp2_with fail
      go_quiet (fail)
      go_wp2_with fail
      refine Handed.intro (nl - (i + 1)) (by omega) (hJ1 _ _ _ (LpI1.back 7 ?_ (by kernel_rfl)))
      dsimp only [gt]
      exact ⟨i + 1, by go_num, by omega, rfl, HN, hB.out.drewN _⟩
    · have q1 : (sv != p) = true := by simpa using hp
      have HR := Lib.hid (fdErr_ls HSE.out HLE.out (LsOk.not HX.out (by simp only [Int.toNat_natCast]; rw [HSV.out]; exact hp)))
      clear hp
      go_wp2_with fail
      go_quiet (fail)
      go_wp2_with fail
      go_ret
      exact ⟨ret_int HR.out.symm, (hB.out.drewN _).bl⟩
  · obtain rfl : i = nl := by omega
    have hii : decide (i < i) = false := by simp
    have HLS : Hid (LsOk F.s F.ls) := by have := hLS.out; rwa [List.take_of_length_le (by rw [HL4.out]; exact Nat.le_refl _)] at this
    clear hLS HM
    go_wp2_with fail
    clear f0 f1
    refine wp_loop_u1 [(3, 0), (0, 1), (2, 0), (0, 2), (37, 0), (41, 1)] 8 (nt) (FcR2 w #[.slice An nn cn, .slice Ad nd cd] #[.slice As n c, .slice Al i cl, .slice At nt ct] nd F.st nt) (by dsimp only [gt]; exact ⟨0, rfl, Nat.zero_le _, rfl, fun _ hk => by omega, hB⟩) (by kernel_rfl) ?_
    intro u2 p8 gk wq a hrel ha J2 K2 hJ2 hK2
    dsimp only [relaxR, v1, Nat.reduceAdd] at ha
    subst ha
    clear hB
    obtain ⟨j, rfl, hj, rfl, hSt, hB⟩ := hrel
    have HM := Lib.hid (HH.out.later hB.out.bl)
    have f2 : wq.cell? ⟨w.heap.size + 1, 2, none⟩ = some (.slice At nt ct) := hB.out.b1.cell 2
    by_cases hlt : j < nt
    · obtain ⟨bt, ot, tv, hAt, hbt, htv, hct⟩ := HM.out.ht.at1 hlt
      subst hAt
      have k1 : wq.cell? ⟨w.heap.size, 1, none⟩ = some (.slice Ad nd cd) := hB.out.b0.cell 1
      have HTV := Lib.hid htv
      have HJL : Hid (j < F.st.length) := by unfold Hid; rw [HL5.out]; exact hlt
      by_cases h0 : tv < 0
      · have q0 : decide (tv < 0) = true := by simpa using h0
        have HR := Lib.hid (fdErr_st HSE.out HLE.out HLS.out (stk_not HJL.out (by rw [HL2.out]; unfold stkE; rw [HTV.out]; simp [h0])))
        clear h0 htv
        go_wp2_with fail
        go_quiet (fail)
        go_wp2_with fail
        go_ret
        exact ⟨ret_int HR.out.symm, (hB.out.drewN _).bl⟩
      · have q0 : decide (tv < 0) = false := by simpa using h0
        by_cases h1 : (nd : Int) ≤ tv
        · have q1 : decide ((nd : Int) ≤ tv) = true := by simpa using h1
          have HR := Lib.hid (fdErr_st HSE.out HLE.out HLS.out (stk_not HJL.out (by rw [HL2.out]; unfold stkE; rw [HTV.out]; simp [h1])))
          clear h0 h1 htv
          go_wp2_with fail
          go_quiet (fail)
          go_wp2_with fail
          go_ret
          exact ⟨ret_int HR.out.symm, (hB.out.drewN _).bl⟩
        · have q1 : decide ((nd : Int) ≤ tv) = false := by simpa using h1
          by_cases hj0 : j = 0
          · have q2 : decide (0 < (j : Int)) = false := by simp; omega
            have q2n : decide (0 < j) = false := by simp; omega
            have HN := Lib.hid (stk_snoc hSt.out (by unfold stkE; rw [HTV.out]; simp [h0, h1, hj0]))
            clear h0 h1 hj0 htv
            go_wp2_with fail
            go_quiet (fail)
            go_wp2_with fail
            refine Handed.intro (nt - (j + 1)) (by omega) (hJ2 _ _ _ (LpI1.back 8 ?_ (by kernel_rfl)))
            dsimp only [gt]
            exact ⟨j + 1, by go_num, by omega, rfl, HN, hB.out.drewN _⟩
          · obtain ⟨m, hm⟩ : ∃ m, m = j - 1 := ⟨_, rfl⟩
            have hmt : m < nt := by omega
            have e1 : (j : Int) - 1 = (m : Int) := by omega
            have q2 : decide (0 < (j : Int)) = true := by simp; omega
            have q2n : decide (0 < j) = true := by simp; omega
            obtain ⟨bt2, ot2, pv, hAt, -, hpv, hcp⟩ := HM.out.ht.at1 hmt
            injection hAt with hAt
            injection hAt with hA1 hA2
            subst hA1 hA2
            have HPV : Hid (F.st.getD (j - 1) 0 = pv) := by unfold Hid; rw [← hm]; exact getDf hpv
            by_cases h2 : tv ≤ pv
            · have q3 : decide (tv ≤ pv) = true := by simpa using h2
              have HR := Lib.hid (fdErr_st HSE.out HLE.out HLS.out (stk_not HJL.out (by rw [HL2.out]; unfold stkE; rw [HTV.out]; simp only; rw [HPV.out, q2n, q3]; simp)))
              clear h0 h1 h2 hj0 htv hpv hm
              go_wp2_with fail
              go_quiet (fail)
              go_wp2_with fail
              go_ret
              exact ⟨ret_int HR.out.symm, (hB.out.drewN _).bl⟩
            · have q3 : decide (tv ≤ pv) = false := by simpa using h2
              have HN := Lib.hid (stk_snoc hSt.out (by unfold stkE; rw [HTV.out]; simp only; rw [HPV.out, q0, q1, q3]; simp))
              clear h0 h1 h2 hj0 htv hpv hm
              go_wp2_with fail
              go_quiet (fail)
              go_wp2_with fail
              refine Handed.intro (nt - (j + 1)) (by omega) (hJ2 _ _ _ (LpI1.back 8 ?_ (by kernel_rfl)))
              dsimp only [gt]
              exact ⟨j + 1, by go_num, by omega, rfl, HN, hB.out.drewN _⟩
    · obtain rfl : j = nt := by omega
      have hjj : decide (j < j) = false := by simp
      have HR := Lib.hid (fdErr_ok HSE.out HLE.out HLS.out (fun j hj => by rw [HL2.out]; exact hSt.out j (by rw [HL5.out] at hj; exact hj)))
      go_wp2_with fail
      go_ret
      exact ⟨ret_int HR.out.symm, hB.out.bl⟩
end Go.Proofs.YtlcaebfjdhgcfaaDoor
