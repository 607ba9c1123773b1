/-
  Walks of the reference of layer 32: Read.
-/
import Derived.Test.YtmcedodejnnkmaaJourR2
namespace Go.Proofs.Ytmcedodejnnkmaa
open Go.RowKit

set_option maxRecDepth 100000 in
set_option maxHeartbeats 4000000 in
theorem rread_any (s : ByteArray) (w : World) (hs : s.size ≤ 1000000000) : Calls Try.prog 20 #[.string s] w (RetRead3 w (readJ (toL s))) := by
  have hsl := toL_len s
  have HSL := Lib.hid hsl; clear hsl
  go_enter Try.func20, Try.ntmps20
  go_wp2
  go_loopw [5, 6, 7] (fun v a m wr => ∃ (at_ cap : Nat) (Av : Option Addr) (sum : BitVec 64) (done : List Rec), at_ ≤ s.size ∧ 28 * done.length ≤ at_ ∧ a = .int .i64 at_ ∧ m = .int .u64 sum.toNat ∧ v = .slice Av done.length cap ∧ Hid (ReadAt (toL s) done at_ sum) ∧
    Hid (wr.ownsRow w.heap.size 43 3 (.slice Av done.length cap) done.length (done.flatMap Rec.cells)) ∧ Hid (Below w.heap.size w wr)) (fun _ a _ _ => s.size - (intOf a).toNat)
  case atStart => exact ⟨0, 0, none, 0#64, [], Nat.zero_le _, Nat.le_refl _, rfl, rfl, rfl, readAt_start _, World.ownsRow_nil _ _ _ _, Below.refl _ _⟩
  case round =>
    obtain ⟨at_, cap, Av, sum, done, hat, hdn, rfl, rfl, rfl, hra, hown, hbl⟩ := hrel
    have hsz := hbl.out.size
    have HSU := Lib.hid sum.isLt
    by_cases hlt : at_ < s.size; rotate_left
    · have HRJ := Lib.hid (readAt_end hra.out (by rw [HSL.out]; omega))
      generalize hd : done.length = k at *
      have HD := Lib.hid hd; clear hd
      go_wp2_with fail
      go_ret3
      rw [HRJ.out]
      refine ⟨Av, cap, by rw [HD.out]; rfl, by rw [HD.out]; exact hown.out, hbl.out⟩
    have htl : toL (s.extract at_ s.size) = (toL s).drop at_ := by rw [toL_extract, List.take_of_length_le (by rw [List.length_drop, HSL.out]; omega)]
    have hRn : (s.extract at_ s.size).size = s.size - at_ := by rw [← toL_len, htl, List.length_drop, HSL.out]
    have HRB := Lib.hid (fun he => readAt_bad hra.out (by rw [HSL.out]; exact hlt) he)
    have HRS := Lib.hid (fun he => readAt_step hra.out (by rw [HSL.out]; exact hlt) he)
    generalize hd : done.length = k at *
    have HD := Lib.hid hd; clear hd
    rw [← htl] at HRB HRS
    obtain ⟨n, hn⟩ : ∃ n, s.size - at_ = n := ⟨_, rfl⟩
    have HTL := Lib.hid htl; clear htl
    have HRn := Lib.hid hRn; clear hRn
    have hn1 : n + at_ = s.size := by omega
    have HN1 := Lib.hid hn1; clear hn1
    have hnb : n ≤ 1000000000 := by omega
    by_cases h1 : k = 1024
    · have HY : Hid (readJ (toL s) = ⟨done, at_, sum, 1⟩) := by
        have he : nextE k sum (toL (s.extract at_ s.size)) = 1 := by rw [nextE, if_pos h1]
        have := HRB.out (by rw [he]; decide)
        rwa [he] at this
      have q1 : ((k : Int) == 1024) = true := by simpa using by omega
      clear h1
      go_wp2_with fail
      go_ret3
      rw [HY.out]
      exact ⟨Av, cap, by rw [HD.out]; rfl, by rw [HD.out]; exact hown.out, hbl.out⟩
    have q1 : ((k : Int) == 1024) = false := by simpa using by omega
    by_cases h2 : n < 20
    · have HY : Hid (readJ (toL s) = ⟨done, at_, sum, 13⟩) := by
        have he : nextE k sum (toL (s.extract at_ s.size)) = 13 := by rw [nextE, if_neg h1, if_pos (by rw [toL_len, HRn.out]; omega)]
        have := HRB.out (by rw [he]; decide)
        rwa [he] at this
      have q2 : decide ((n : Int) < 20) = true := by simp; omega
      go_wp2_with fail
      go_ret3
      rw [HY.out]
      exact ⟨Av, cap, by rw [HD.out]; rfl, by rw [HD.out]; exact hown.out, hbl.out⟩
    have q2 : decide ((n : Int) < 20) = false := by simp; omega
    have h20 : (20 : Int) ≤ (n : Int) := by omega
    go_wp2_with fail
    rw [hn] at HRn
    generalize s.extract at_ s.size = R at *
    have hRn := HRn.out
    have HL := Lib.hid hn; clear hn
    have hlong : (numJ (toL (R.extract 16 20))).toNat = longJ (toL R) := by rw [toL_extract, longJ]
    refine (get_any _ _ (by simp; omega)).mono ?_
    rintro e w1 ⟨rfl, rfl⟩
    rw [hlong]
    clear hlong
    generalize hlg : longJ (toL R) = lg at *
    have HLG := Lib.hid hlg; clear hlg
    by_cases h3 : 16384 < lg
    · have HY : Hid (readJ (toL s) = ⟨done, at_, sum, 1⟩) := by
        have he : nextE k sum (toL R) = 1 := by rw [nextE, if_neg h1, toL_len, if_neg (by omega), HLG.out, if_pos h3]
        have := HRB.out (by rw [he]; decide)
        rwa [he] at this
      have q3 : decide ((16384 : Int) < (lg : Int)) = true := by simp; omega
      go_wp2_with fail
      go_ret3
      rw [HY.out]
      exact ⟨Av, cap, by rw [HD.out]; rfl, by rw [HD.out]; exact hown.out, hbl.out⟩
    have q3 : decide ((16384 : Int) < (lg : Int)) = false := by simp; omega
    by_cases h4 : n < 28 + lg
    · have HY : Hid (readJ (toL s) = ⟨done, at_, sum, 13⟩) := by
        have he : nextE k sum (toL R) = 13 := by rw [nextE, if_neg h1, toL_len, if_neg (by omega), HLG.out, if_neg h3, if_pos (by omega)]
        have := HRB.out (by rw [he]; decide)
        rwa [he] at this
      have q4 : decide ((n : Int) < 20 + (lg : Int) + 8) = true := by simp; omega
      go_wp2_with fail
      go_ret3
      rw [HY.out]
      exact ⟨Av, cap, by rw [HD.out]; rfl, by rw [HD.out]; exact hown.out, hbl.out⟩
    have q4 : decide ((n : Int) < 20 + (lg : Int) + 8) = false := by simp; omega
    go_wp2_with fail
    have hA : numJ (toL (R.extract (20 + lg) (20 + lg + 8))) = numJ (((toL R).drop (20 + lg)).take 8) := by rw [toL_extract, Nat.add_sub_cancel_left]
    have hB : sumJ (toL (R.extract 0 (20 + lg))) = sumJ ((toL R).take (20 + lg)) := by rw [toL_extract, List.drop_zero, Nat.sub_zero]
    have hC : numJ (toL (R.extract 0 8)) = numJ ((toL R).take 8) := by rw [toL_extract, List.drop_zero, Nat.sub_zero]
    have hDd : numJ (toL (R.extract 8 16)) = numJ (((toL R).drop 8).take 8) := by rw [toL_extract]
    have hbase : nextE k sum (toL R) = if numJ (((toL R).drop (20 + lg)).take 8) ≠ sumJ ((toL R).take (20 + lg)) then 12 else if (numJ ((toL R).take 8)).toNat ≠ k + 1 then 46 else if numJ (((toL R).drop 8).take 8) ≠ sum then 46 else 0 := by
      rw [nextE, if_neg h1, toL_len, if_neg (by omega), HLG.out, if_neg h3, if_neg (by omega)]
    have hpay : mkS (payJ (toL R)) = R.extract 20 (20 + lg) := by rw [extract_mk, payJ, HLG.out, Nat.add_sub_cancel_left]
    have hlast : lastJ (toL R) = numJ (((toL R).drop (20 + lg)).take 8) := by rw [lastJ, HLG.out]
    generalize numJ (((toL R).drop (20 + lg)).take 8) = va at *
    generalize sumJ ((toL R).take (20 + lg)) = vb at *
    generalize numJ ((toL R).take 8) = vc at *
    generalize numJ (((toL R).drop 8).take 8) = vd at *
    have HA := Lib.hid hA; have HB := Lib.hid hB; have HC := Lib.hid hC; have HDd := Lib.hid hDd; have HBA := Lib.hid hbase; have HPA := Lib.hid hpay; have HLA := Lib.hid hlast
    clear hA hB hC hDd hbase hpay hlast
    refine (rsum_any _ _ (by simp; omega)).mono ?_
    rintro e w1 ⟨rfl, rfl⟩
    rw [HB.out]
    go_wp2_with fail
    refine (get_any _ _ (by simp; omega)).mono ?_
    rintro e w1 ⟨rfl, rfl⟩
    rw [HA.out]
    by_cases h5 : va = vb; rotate_left
    · have HY : Hid (readJ (toL s) = ⟨done, at_, sum, 12⟩) := by
        have he : nextE k sum (toL R) = 12 := by rw [HBA.out, if_pos h5]
        have := HRB.out (by rw [he]; decide)
        rwa [he] at this
      have q5 : ((va.toNat : Int) != (vb.toNat : Int)) = true := by
        have : va.toNat ≠ vb.toNat := fun e => h5 (BitVec.eq_of_toNat_eq e)
        simpa using by omega
      clear h5
      go_wp2_with fail
      go_ret3
      rw [HY.out]
      exact ⟨Av, cap, by rw [HD.out]; rfl, by rw [HD.out]; exact hown.out, hbl.out⟩
    subst h5
    have q5 : ((va.toNat : Int) != (va.toNat : Int)) = false := by simp
    go_wp2_with fail
    refine (get_any _ _ (by simp; omega)).mono ?_
    rintro e w1 ⟨rfl, rfl⟩
    rw [HC.out]
    by_cases h6 : vc.toNat = k + 1; rotate_left
    · have HY : Hid (readJ (toL s) = ⟨done, at_, sum, 46⟩) := by
        have he : nextE k sum (toL R) = 46 := by rw [HBA.out, if_neg (by simp), if_pos h6]
        have := HRB.out (by rw [he]; decide)
        rwa [he] at this
      have q6 : ((vc.toNat : Int) != (k : Int) + 1) = true := by simpa using by omega
      clear h6
      go_wp2_with fail
      go_ret3
      rw [HY.out]
      exact ⟨Av, cap, by rw [HD.out]; rfl, by rw [HD.out]; exact hown.out, hbl.out⟩
    have q6 : ((vc.toNat : Int) != (k : Int) + 1) = false := by simpa using by omega
    have H6 := Lib.hid h6; clear h6
    go_wp2_with fail
    refine (get_any _ _ (by simp; omega)).mono ?_
    rintro e w1 ⟨rfl, rfl⟩
    rw [HDd.out]
    by_cases h7 : vd = sum; rotate_left
    · have HY : Hid (readJ (toL s) = ⟨done, at_, sum, 46⟩) := by
        have he : nextE k sum (toL R) = 46 := by rw [HBA.out, if_neg (by simp), if_neg (by simpa using H6.out), if_pos h7]
        have := HRB.out (by rw [he]; decide)
        rwa [he] at this
      have q7 : ((vd.toNat : Int) != (sum.toNat : Int)) = true := by
        have : vd.toNat ≠ sum.toNat := fun e => h7 (BitVec.eq_of_toNat_eq e)
        simpa using by omega
      clear h7
      go_wp2_with fail
      go_ret3
      rw [HY.out]
      exact ⟨Av, cap, by rw [HD.out]; rfl, by rw [HD.out]; exact hown.out, hbl.out⟩
    subst h7
    have q7 : ((vd.toNat : Int) != (vd.toNat : Int)) = false := by simp
    have HNX := Lib.hid (HRS.out (by rw [HBA.out, if_neg (by simp), if_neg (by simpa using H6.out), if_neg (by simp)]))
    go_wp2_with (at_builtin; go_must (refine wpList_app rfl (.tmp 77) (.tmp 86) rfl el_rec (by rfl) (hown.out.alloc _) (by rfl) (Sl.newest (n := 1) rfl (by rfl) (by decide)) (by simp [Value.oneCell']) (by omega) (by omega) (by simp; omega) ?_; intro A' cap' w2 hown2 hgr2 hat2))

    go_roundw
    case rel =>
      have hn1 := HN1.out
      rw [HLA.out] at HNX
      refine ⟨at_ + (28 + lg), cap', A', va, done ++ [⟨k + 1, vd, payJ (toL R)⟩], by omega, ?_, by congr 1; omega, rfl, ?_, HNX, ?_, ?_⟩
      · rw [List.length_append, HD.out, List.length_singleton]; omega
      · rw [List.length_append, HD.out, List.length_singleton]
      · unfold Hid
        rw [List.length_append, HD.out, List.length_singleton, List.flatMap_append]
        have e : [(⟨k + 1, vd, payJ (toL R)⟩ : Rec)].flatMap Rec.cells = [.int .i64 ((k : Int) + 1), .int .u64 vd.toNat, .string (R.extract 20 (20 + lg))] := by
          simp [Rec.cells, HPA.out]
        rw [e]; exact hown2
      · exact (hbl.out.alloc hsz _).grown hgr2 (by simp; omega) fun g hg => (own_lt hown.out g hg).1
    case measure =>
      have hn1 := HN1.out
      simp [intOf]; omega
end Go.Proofs.Ytmcedodejnnkmaa
