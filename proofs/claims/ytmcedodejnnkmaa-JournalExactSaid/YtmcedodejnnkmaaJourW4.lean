/-
  Walks of layer 32: next, where there is a record.
-/
import Derived.Test.YtmcedodejnnkmaaJourW3
import Derived.Test.YtmcedodejnnkmaaJourN
import Derived.Test.YtmcedodejnnkmaaQuiet
import Derived.Deep.RegionWith
namespace Go.Proofs.Ytmcedodejnnkmaa
open Go.RowKit

set_option maxHeartbeats 2000000 in
theorem next_ok (s : ByteArray) (A : Option Addr) (k c : Nat) (sum : BitVec 64) (w : World) (hs : s.size ≤ 1000000000) (hk : k ≤ 1000000000) (he : nextE k sum (toL s) = 0) :
    Calls Try.prog 34 #[.string s, .slice A k c, .int .u64 sum.toNat] w (RetNext w (k + 1) sum.toNat (mkS (payJ (toL s))) (28 + longJ (toL s)) 0) := by
  obtain ⟨h1, h3, h4, h5, h6, h7⟩ := nextE_ok he
  clear he
  have HS := Lib.hid sum.isLt
  have hsl := toL_len s
  rw [hsl] at h4
  have q1 : ((k : Int) == 1024) = false := by simpa using by omega
  have hlong : (numJ (toL (s.extract 16 20))).toNat = longJ (toL s) := by rw [toL_extract, longJ]
  have HLO := Lib.hid hlong; clear hlong
  have hpay : mkS (payJ (toL s)) = s.extract 20 (20 + longJ (toL s)) := by rw [extract_mk, payJ, Nat.add_sub_cancel_left]
  unfold lastJ at h5
  generalize hlg : longJ (toL s) = lg at *
  clear hlg
  have q2 : decide ((s.size : Int) < 20) = false := by simp; omega
  have q3 : decide ((16384 : Int) < (lg : Int)) = false := by simp; omega
  have q4 : decide ((s.size : Int) < 20 + (lg : Int) + 8) = false := by simp; omega
  have hA : numJ (toL (s.extract (20 + lg) (20 + lg + 8))) = numJ (((toL s).drop (20 + lg)).take 8) := by rw [toL_extract, Nat.add_sub_cancel_left]
  have hB : sumJ (toL (s.extract 0 (20 + lg))) = numJ (((toL s).drop (20 + lg)).take 8) := by rw [toL_extract, List.drop_zero, Nat.sub_zero, h5]
  have hC : numJ (toL (s.extract 0 8)) = numJ ((toL s).take 8) := by rw [toL_extract, List.drop_zero, Nat.sub_zero]
  have hD : numJ (toL (s.extract 8 16)) = sum := by rw [toL_extract, h7]
  clear h5 h7
  generalize numJ (((toL s).drop (20 + lg)).take 8) = va at *
  generalize numJ ((toL s).take 8) = vc at *
  have q5 : ((va.toNat : Int) != (va.toNat : Int)) = false := by simp
  have q6 : ((vc.toNat : Int) != (k : Int) + 1) = false := by simpa using by omega
  have q7 : ((sum.toNat : Int) != (sum.toNat : Int)) = false := by simp
  obtain ⟨en, hen⟩ : ∃ en : Nat, en = 20 + lg := ⟨_, rfl⟩
  have hz : (20 + (lg : Int)) = (en : Int) := by omega
  rw [← hen] at hA hB hpay
  have HA := Lib.hid hA; have HB := Lib.hid hB; have HC := Lib.hid hC; have HD := Lib.hid hD; have HP := Lib.hid hpay; clear hA hB hC hD hpay
  have f1 : IntKind.i64.wrap ((en : Int) + 8) = (en : Int) + 8 := IntWalk.i64_in _ (by omega)
  have f2 : ((en : Int) + 8).toNat = en + 8 := by omega
  have f3 : (en : Int) ≤ (en : Int) + 8 := by omega
  have f4 : (en : Int) + 8 ≤ (s.size : Int) := by omega
  have f5 : (en : Int) ≤ (s.size : Int) := by omega
  have f6 : (0 : Int) ≤ (en : Int) + 8 := by omega
  have f7 : (20 : Int) ≤ (en : Int) := by omega
  have HEN := Lib.hid hen; clear hen
  have NA : Hid (∀ W : World, Calls Try.prog 35 #[.string (s.extract en (en + 8))] W fun e w' => e = .returned (.int .u64 va.toNat) ∧ W = w') := fun W => by rw [← HA.out]; exact number_any _ _ (by simp; omega)
  have NB : Hid (∀ W : World, Calls Try.prog 25 #[.string (s.extract 0 en)] W fun e w' => e = .returned (.int .u64 va.toNat) ∧ W = w') := fun W => by rw [← HB.out]; exact sum_any _ _ (by simp; omega)
  have H6 := Lib.hid h6
  clear hsl h6
  go_enter Try.func34, Try.ntmps34
  go_wp2_with fail
  refine (number_any _ _ (by simp; omega)).mono ?_
  rintro e w1 ⟨rfl, rfl⟩
  rw [HLO.out]
  go_wp2_with fail
  generalize (20 + (lg : Int)) = z at *
  subst hz
  go_quiet ((first | (go_at_call 35; exact quiet_eq (NA.out _)) | (go_at_call 25; exact quiet_eq (NB.out _))))
  go_wp2_with fail
  refine (number_any _ _ (by simp; omega)).mono ?_
  rintro e w1 ⟨rfl, rfl⟩
  rw [HC.out]
  go_wp2_with fail
  refine (number_any _ _ (by simp; omega)).mono ?_
  rintro e w1 ⟨rfl, rfl⟩
  rw [HD.out]
  go_wp2_with fail
  refine bodyPost_ret (v := .tuple #[.agg #[.int .i64 ((k : Int) + 1), .int .u64 sum.toNat, .string (s.extract 20 en)], .int .i64 ((en : Int) + 8), .int .i64 0]) (by simp [results, Try.results34, go_sem]) rfl ?_
  refine ⟨?_, (((below_drewN ((Below.refl _ _).alloc (Nat.le_refl _) _) _).setCell (Nat.le_refl _) _).setCell (Nat.le_refl _) _).setCell (Nat.le_refl _) _⟩
  rw [HP.out, show (28 + (lg : Int)) = (en : Int) + 8 from by have := HEN.out; omega]
end Go.Proofs.Ytmcedodejnnkmaa
