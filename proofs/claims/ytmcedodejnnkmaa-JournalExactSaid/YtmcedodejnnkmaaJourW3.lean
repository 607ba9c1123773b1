/-
  Walks of layer 32: next.
-/
import Derived.Test.YtmcedodejnnkmaaJourW1
import Derived.Test.YtmcedodejnnkmaaJourN
import Derived.Test.YtmcedodejnnkmaaQuiet
import Derived.Deep.RegionWith
namespace Go.Proofs.Ytmcedodejnnkmaa
open Go.RowKit

/-- A record, a size and an error are returned. -/
def RetNext (w : World) (num : Int) (before : Int) (p : ByteArray) (size er : Int) (e : Ending) (w' : World) : Prop :=
  e = .returned (.tuple #[.agg #[.int .i64 num, .int .u64 before, .string p], .int .i64 size, .int .i64 er]) ∧ Below w.heap.size w w'

set_option maxHeartbeats 2000000 in
theorem next_bad (s : ByteArray) (A : Option Addr) (k c : Nat) (sum : BitVec 64) (w : World) (hs : s.size ≤ 1000000000) (hk : k ≤ 1000000000) (he : nextE k sum (toL s) ≠ 0) :
    Calls Try.prog 34 #[.string s, .slice A k c, .int .u64 sum.toNat] w (RetNext w 0 0 ⟨#[]⟩ 0 (nextE k sum (toL s))) := by
  have HNE := Lib.hid he; clear he
  have HS := Lib.hid sum.isLt
  have hsl := toL_len s
  by_cases h1 : k = 1024
  · have HE : Hid (nextE k sum (toL s) = 1) := by unfold Hid; rw [nextE, if_pos h1]
    subst h1
    go_enter Try.func34, Try.ntmps34
    go_wp2_with fail
    refine bodyPost_ret (v := .tuple #[.agg #[.int .i64 0, .int .u64 0, .string ⟨#[]⟩], .int .i64 0, .int .i64 1]) (by simp [results, Try.results34, go_sem]) rfl ?_
    exact ⟨by rw [HE.out], (Below.refl _ _).alloc (Nat.le_refl _) _⟩
  have q1 : ((k : Int) == 1024) = false := by simpa using by omega
  by_cases h2 : s.size < 20
  · have HE : Hid (nextE k sum (toL s) = 13) := by unfold Hid; rw [nextE, if_neg h1, if_pos (by omega)]
    have q2 : decide ((s.size : Int) < 20) = true := by simp; omega
    clear hsl
    go_enter Try.func34, Try.ntmps34
    go_wp2_with fail
    refine bodyPost_ret (v := .tuple #[.agg #[.int .i64 0, .int .u64 0, .string ⟨#[]⟩], .int .i64 0, .int .i64 13]) (by simp [results, Try.results34, go_sem]) rfl ?_
    exact ⟨by rw [HE.out], (Below.refl _ _).alloc (Nat.le_refl _) _⟩
  have q2 : decide ((s.size : Int) < 20) = false := by simp; omega
  have hlong : (numJ (toL (s.extract 16 20))).toNat = longJ (toL s) := by rw [toL_extract, longJ]
  have HLO := Lib.hid hlong; clear hlong
  generalize hlg : longJ (toL s) = lg at *
  have HLG := Lib.hid hlg; clear hlg
  by_cases h3 : 16384 < lg
  · have HE : Hid (nextE k sum (toL s) = 1) := by unfold Hid; rw [nextE, if_neg h1, if_neg (by omega), HLG.out, if_pos h3]
    have q3 : decide ((16384 : Int) < (lg : Int)) = true := by simp; omega
    clear hsl
    go_enter Try.func34, Try.ntmps34
    go_wp2_with fail
    refine (number_any _ _ (by simp; omega)).mono ?_
    rintro e w1 ⟨rfl, rfl⟩
    rw [HLO.out]
    go_wp2_with fail
    refine bodyPost_ret (v := .tuple #[.agg #[.int .i64 0, .int .u64 0, .string ⟨#[]⟩], .int .i64 0, .int .i64 1]) (by simp [results, Try.results34, go_sem]) rfl ?_
    exact ⟨by rw [HE.out], (Below.refl _ _).alloc (Nat.le_refl _) _⟩
  have q3 : decide ((16384 : Int) < (lg : Int)) = false := by simp; omega
  by_cases h4 : s.size < 28 + lg
  · have HE : Hid (nextE k sum (toL s) = 13) := by unfold Hid; rw [nextE, if_neg h1, if_neg (by omega), HLG.out, if_neg h3, if_pos (by omega)]
    have q4 : decide ((s.size : Int) < 20 + (lg : Int) + 8) = true := by simp; omega
    clear hsl
    go_enter Try.func34, Try.ntmps34
    go_wp2_with fail
    refine (number_any _ _ (by simp; omega)).mono ?_
    rintro e w1 ⟨rfl, rfl⟩
    rw [HLO.out]
    go_wp2_with fail
    refine bodyPost_ret (v := .tuple #[.agg #[.int .i64 0, .int .u64 0, .string ⟨#[]⟩], .int .i64 0, .int .i64 13]) (by simp [results, Try.results34, go_sem]) rfl ?_
    exact ⟨by rw [HE.out], (Below.refl _ _).alloc (Nat.le_refl _) _⟩
  have q4 : decide ((s.size : Int) < 20 + (lg : Int) + 8) = false := by simp; omega
  have hA : numJ (toL (s.extract (20 + lg) (20 + lg + 8))) = numJ (((toL s).drop (20 + lg)).take 8) := by rw [toL_extract, Nat.add_sub_cancel_left]
  have hB : sumJ (toL (s.extract 0 (20 + lg))) = sumJ ((toL s).take (20 + lg)) := by rw [toL_extract, List.drop_zero, Nat.sub_zero]
  have HA := Lib.hid hA; have HB := Lib.hid hB; clear hA hB
  generalize hva : numJ (((toL s).drop (20 + lg)).take 8) = va at *
  generalize hvb : sumJ ((toL s).take (20 + lg)) = vb at *
  have HVA := Lib.hid hva; have HVB := Lib.hid hvb; clear hva hvb
  obtain ⟨en, hen⟩ : ∃ en : Nat, en = 20 + lg := ⟨_, rfl⟩
  have hz : (20 + (lg : Int)) = (en : Int) := by omega
  rw [← hen] at HA HB
  have f1 : IntKind.i64.wrap ((en : Int) + 8) = (en : Int) + 8 := IntWalk.i64_in _ (by omega)
  have f2 : ((en : Int) + 8).toNat = en + 8 := by omega
  have f3 : (en : Int) ≤ (en : Int) + 8 := by omega
  have f4 : (en : Int) + 8 ≤ (s.size : Int) := by omega
  have f5 : (en : Int) ≤ (s.size : Int) := by omega
  have f6 : (0 : Int) ≤ (en : Int) + 8 := by omega
  have HEN := Lib.hid hen; clear hen
  have NA : Hid (∀ W : World, Calls Try.prog 35 #[.string (s.extract en (en + 8))] W fun e w' => e = .returned (.int .u64 va.toNat) ∧ W = w') := fun W => by rw [← HA.out]; exact number_any _ _ (by simp; omega)
  have NB : Hid (∀ W : World, Calls Try.prog 25 #[.string (s.extract 0 en)] W fun e w' => e = .returned (.int .u64 vb.toNat) ∧ W = w') := fun W => by rw [← HB.out]; exact sum_any _ _ (by simp; omega)
  by_cases h5 : va = vb; rotate_left
  · have HE : Hid (nextE k sum (toL s) = 12) := by unfold Hid; rw [nextE, if_neg h1, if_neg (by omega), HLG.out, if_neg h3, if_neg (by omega), HVA.out, HVB.out, if_pos h5]
    have q5 : ((va.toNat : Int) != (vb.toNat : Int)) = true := by
      have : va.toNat ≠ vb.toNat := fun e => h5 (BitVec.eq_of_toNat_eq e)
      simpa using by omega
    clear hsl h5
    go_enter Try.func34, Try.ntmps34
    go_wp2_with fail
    refine (number_any _ _ (by simp; omega)).mono ?_
    rintro e w1 ⟨rfl, rfl⟩
    rw [HLO.out]
    go_wp2_with fail
    generalize (20 + (lg : Int)) = z at *
    subst hz
    go_quiet ((first | (go_at_call 35; exact quiet_eq (NA.out _)) | (go_at_call 25; exact quiet_eq (NB.out _))))
    go_wp2_with fail
    refine bodyPost_ret (v := .tuple #[.agg #[.int .i64 0, .int .u64 0, .string ⟨#[]⟩], .int .i64 0, .int .i64 12]) (by simp [results, Try.results34, go_sem]) rfl ?_
    exact ⟨by rw [HE.out], (((below_drewN ((Below.refl _ _).alloc (Nat.le_refl _) _) _).setCell (Nat.le_refl _) _).setCell (Nat.le_refl _) _).setCell (Nat.le_refl _) _⟩
  subst h5
  have q5 : ((va.toNat : Int) != (va.toNat : Int)) = false := by simp
  have hC : numJ (toL (s.extract 0 8)) = numJ ((toL s).take 8) := by rw [toL_extract, List.drop_zero, Nat.sub_zero]
  have hD : numJ (toL (s.extract 8 16)) = numJ (((toL s).drop 8).take 8) := by rw [toL_extract]
  generalize hvc : numJ ((toL s).take 8) = vc at *
  generalize hvd : numJ (((toL s).drop 8).take 8) = vd at *
  have HVC := Lib.hid hvc; have HVD := Lib.hid hvd; have HC := Lib.hid hC; have HD := Lib.hid hD; clear hvc hvd hC hD
  by_cases h6 : vc.toNat = k + 1; rotate_left
  · have HE : Hid (nextE k sum (toL s) = 46) := by unfold Hid; rw [nextE, if_neg h1, if_neg (by omega), HLG.out, if_neg h3, if_neg (by omega), HVA.out, HVB.out, if_neg (by simp), HVC.out, if_pos h6]
    have q6 : ((vc.toNat : Int) != (k : Int) + 1) = true := by simpa using by omega
    clear hsl h6
    go_enter Try.func34, Try.ntmps34
    go_wp2_with fail
    refine (number_any _ _ (by simp; omega)).mono ?_
    rintro e w1 ⟨rfl, rfl⟩
    rw [HLO.out]
    go_wp2_with fail
    generalize (20 + (lg : Int)) = z at *
    subst hz
    go_quiet ((first | (go_at_call 35; exact quiet_eq (NA.out _)) | (go_at_call 25; exact quiet_eq (NB.out _))))
    go_wp2_with fail
    refine (number_any _ _ (by simp; omega)).mono ?_
    rintro e w1 ⟨rfl, rfl⟩
    rw [HC.out]
    go_wp2_with fail
    refine bodyPost_ret (v := .tuple #[.agg #[.int .i64 0, .int .u64 0, .string ⟨#[]⟩], .int .i64 0, .int .i64 46]) (by simp [results, Try.results34, go_sem]) rfl ?_
    exact ⟨by rw [HE.out], (((below_drewN ((Below.refl _ _).alloc (Nat.le_refl _) _) _).setCell (Nat.le_refl _) _).setCell (Nat.le_refl _) _).setCell (Nat.le_refl _) _⟩
  have q6 : ((vc.toNat : Int) != (k : Int) + 1) = false := by simpa using by omega
  by_cases h7 : vd = sum
  · refine absurd ?_ HNE.out
    rw [nextE, if_neg h1, if_neg (by omega), HLG.out, if_neg h3, if_neg (by omega), HVA.out, HVB.out, if_neg (by simp), HVC.out, if_neg (by omega), HVD.out, if_neg (by simpa using h7)]
  have HE : Hid (nextE k sum (toL s) = 46) := by unfold Hid; rw [nextE, if_neg h1, if_neg (by omega), HLG.out, if_neg h3, if_neg (by omega), HVA.out, HVB.out, if_neg (by simp), HVC.out, if_neg (by omega), HVD.out, if_pos h7]
  have q7 : ((vd.toNat : Int) != (sum.toNat : Int)) = true := by
    have : vd.toNat ≠ sum.toNat := fun e => h7 (BitVec.eq_of_toNat_eq e)
    simpa using by omega
  clear hsl h6 h7
  go_enter Try.func34, Try.ntmps34
  go_wp2_with fail
  refine (number_any _ _ (by simp; omega)).mono ?_
  rintro e w1 ⟨rfl, rfl⟩
  rw [HLO.out]
  go_wp2_with fail
  generalize (20 + (lg : Int)) = z at *
  subst hz
  go_quiet ((first | (go_at_call 35; exact quiet_eq (NA.out _)) | (go_at_call 25; exact quiet_eq (NB.out _))))
  go_wp2_with fail
  refine (number_any _ _ (by simp; omega)).mono ?_
  rintro e w1 ⟨rfl, rfl⟩
  rw [HC.out]
  go_wp2_with fail
  refine (number_any _ _ (by simp; omega)).mono ?_
  rintro e w1 ⟨rfl, rfl⟩
  rw [HD.out]
  go_wp2_with fail
  refine bodyPost_ret (v := .tuple #[.agg #[.int .i64 0, .int .u64 0, .string ⟨#[]⟩], .int .i64 0, .int .i64 46]) (by simp [results, Try.results34, go_sem]) rfl ?_
  exact ⟨by rw [HE.out], (((below_drewN ((Below.refl _ _).alloc (Nat.le_refl _) _) _).setCell (Nat.le_refl _) _).setCell (Nat.le_refl _) _).setCell (Nat.le_refl _) _⟩
end Go.Proofs.Ytmcedodejnnkmaa
