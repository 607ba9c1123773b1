import Derived.Test.YtepicjpdhpojnaaGreatDoorX02
set_option maxHeartbeats 1000000
namespace Go.Proofs.YtepicjpdhpojnaaGreatDoor
open Go.RowKit
def rr (b : Int) : Bool := (decide (65 ≤ b) && decide (b ≤ 90)) || (decide (97 ≤ b) && decide (b ≤ 122))
def nB (b : Int) : Bool := decide (48 ≤ b) && decide (b ≤ 57)
theorem tV (b : Int) (w : World) : Calls Tryz.prog 139 #[.int .u8 b] w fun e w' => e = .returned (.bool (rr b)) ∧ w = w' := by
 by_cases h1 : 65 ≤ b
 ·by_cases h2 : b ≤ 90
  ·go_enter Tryz.func139, Tryz.ntmps139
   go_wp2
   go_ret
   exact ⟨zP (by simp [rr, h1, h2]), rfl⟩
  ·have h2' : decide (b ≤ 90) = false := by simpa using h2
   by_cases h3 : 97 ≤ b
   ·go_enter Tryz.func139, Tryz.ntmps139
    go_wp2
    go_ret
    exact ⟨zP (by simp [rr, h2', h3]), rfl⟩
   ·have h3' : decide (97 ≤ b) = false := by simpa using h3
    go_enter Tryz.func139, Tryz.ntmps139
    go_wp2
    go_ret
    exact ⟨zP (by simp [rr, h2', h3']), rfl⟩
 ·have h1' : decide (65 ≤ b) = false := by simpa using h1
  have h3' : decide (97 ≤ b) = false := by simp; omega
  go_enter Tryz.func139, Tryz.ntmps139
  go_wp2
  go_ret
  exact ⟨zP (by simp [rr, h1', h3']), rfl⟩
theorem lV (b : Int) (w : World) : Calls Tryz.prog 140 #[.int .u8 b] w fun e w' => e = .returned (.bool (nB b)) ∧ w = w' := by
 by_cases h1 : 48 ≤ b
 ·go_enter Tryz.func140, Tryz.ntmps140
  go_wp2
  go_ret
  exact ⟨zP (by simp [nB, h1]), rfl⟩
 ·have h1' : decide (48 ≤ b) = false := by simpa using h1
  go_enter Tryz.func140, Tryz.ntmps140
  go_wp2
  go_ret
  exact ⟨zP (by simp [nB, h1']), rfl⟩
theorem sR (b : Int) : vn b true = rr b := by
 unfold vn rr
 by_cases h1 : 65 ≤ b ∧ b ≤ 90
 ·simp [h1]
 ·by_cases h2 : 97 ≤ b ∧ b ≤ 122
  ·simp [h2]
  ·rw [if_neg h1, if_neg h2]
   have : (decide (65 ≤ b) && decide (b ≤ 90)) = false := by simpa using h1
   have h2' : (decide (97 ≤ b) && decide (b ≤ 122)) = false := by simpa using h2
   rw [this, h2']
   split
   ·rfl
   ·split <;> rfl
theorem pA (b : Int) : vn b false = (rr b || nB b || decide (b = 95)) := by
 unfold vn rr nB
 by_cases h1 : 65 ≤ b ∧ b ≤ 90
 ·simp [h1]
 ·by_cases h2 : 97 ≤ b ∧ b ≤ 122
  ·simp [h2]
  ·rw [if_neg h1, if_neg h2]
   have : (decide (65 ≤ b) && decide (b ≤ 90)) = false := by simpa using h1
   have h2' : (decide (97 ≤ b) && decide (b ≤ 122)) = false := by simpa using h2
   rw [this, h2']
   by_cases h3 : 48 ≤ b ∧ b ≤ 57
   ·simp [h3]
   ·have h3' : (decide (48 ≤ b) && decide (b ≤ 57)) = false := by simpa using h3
    rw [if_neg h3, h3']
    by_cases h4 : b = 95 <;> simp [h4]
theorem qZ (s : ByteArray) (w : World) (hs : s.size ≤ 9223372036854775807) : Calls Tryz.prog 122 #[.string s] w fun e w' => e = .returned (.bool (xK (toL s))) ∧ w = w' := by
 have HN : Hid (xK (toL s) = (decide (∀ i, i < s.size → vn ((toL s).getD i 0).toNat (i == 0) = true) && decide (1 ≤ s.size) && decide (s.size ≤ 12))) := by unfold Hid; rw [xK, sy]
 by_cases h1 : s.size < 1
 ·have q1 : decide ((s.size : Int) < 1) = true := by simp; omega
  go_enter Tryz.func122, Tryz.ntmps122
  go_wp2_with fail
  go_ret
  exact ⟨zP (by rw [HN.out, decide_eq_false (show ¬ 1 ≤ s.size by omega)]; simp), rfl⟩
 have q1 : decide ((s.size : Int) < 1) = false := by simp; omega
 by_cases h2 : 12 < s.size
 ·have q2 : decide ((12 : Int) < (s.size : Int)) = true := by simp; omega
  go_enter Tryz.func122, Tryz.ntmps122
  go_wp2_with fail
  go_ret
  exact ⟨zP (by rw [HN.out, decide_eq_false (show ¬ s.size ≤ 12 by omega)]; simp), rfl⟩
 have q2 : decide ((12 : Int) < (s.size : Int)) = false := by simp; omega
 have hg : ∀ i (h : i < s.size), (toL s).getD i 0 = s[i] := fun i h => by rw [List.getD_eq_getElem?_getD, List.getElem?_eq_getElem (by rw [sy]; exact h)]; rfl
 have hs0 : 0 < s.size := by omega
 have H0 : Hid ((toL s).getD 0 0 = s[0]) := hg 0 hs0
 have HG := iD hg; clear hg
 rcases hl0 : rr ((s[0]).toNat : Int) with _ | _
 ·have HL := iD (tV ((s[0]).toNat : Int))
  rw [hl0] at HL
  have HR : Hid (xK (toL s) = false) := by
   unfold Hid
   rw [HN.out, decide_eq_false (fun h => by have := h 0 hs0; rw [H0.out] at this; simp only [beq_self_eq_true] at this; rw [sR, hl0] at this; cases this)]
   rfl
  clear hl0
  go_enter Tryz.func122, Tryz.ntmps122
  go_wp2_with fail
  refine (HL.out _).mono ?_
  rintro e w1 ⟨rfl, rfl⟩
  go_wp2_with fail
  go_ret
  exact ⟨zP (by rw [HR.out]), rfl⟩
 ·have HL := iD (tV ((s[0]).toNat : Int))
  rw [hl0] at HL
  have HL0 := iD hl0
  clear hl0
  go_enter Tryz.func122, Tryz.ntmps122
  go_wp2_with fail
  refine (HL.out _).mono ?_
  rintro e w1 ⟨rfl, rfl⟩
  clear q1 q2
  go_wp2_with fail
  go_loopg [3] s.size (fun gk iv wr => ∃ i : Nat, iv = .int .i64 i ∧ i ≤ s.size ∧ gk = s.size - i ∧ Hid (∀ j, j < i → vn ((toL s).getD j 0).toNat false = true) ∧ Hid (w = wr))
  case atStart => exact ⟨0, rfl, Nat.zero_le _, rfl, fun j hj => absurd hj (by omega), rfl⟩
  case round =>
   obtain ⟨i, rfl, hi, rfl, hok, hw⟩ := hrel
   obtain rfl := hw.out
   clear hw
   by_cases hlt : i < s.size
   ·have HGI := iD (HG.out i hlt)
    have hfl := pA ((s[i]).toNat : Int)
    have HLI := iD (tV ((s[i]).toNat : Int))
    have HDI := iD (lV ((s[i]).toNat : Int))
    rcases hl : rr ((s[i]).toNat : Int) with _ | _
    ·rcases hd : nB ((s[i]).toNat : Int) with _ | _
     ·rw [hl] at HLI
      rw [hd] at HDI
      rw [hl, hd] at hfl
      by_cases h95 : ((s[i]).toNat : Int) = 95
      ·have q95 : (((s[i]).toNat : Int) != 95) = false := by simpa using h95
       have HOK : Hid (vn ((toL s).getD i 0).toNat false = true) := by unfold Hid; rw [HGI.out, hfl]; simpa using h95
       clear hfl hl hd h95
       go_wp2_with fail
       refine (HLI.out _).mono ?_
       rintro e w1 ⟨rfl, rfl⟩
       go_wp2_with fail
       refine (HDI.out _).mono ?_
       rintro e w1 ⟨rfl, rfl⟩
       go_wp2_with fail
       go_roundg (s.size - (i + 1))
       case rel => exact ⟨i + 1, by go_num, by omega, rfl, fun j hj => by
        rcases Nat.lt_succ_iff_lt_or_eq.1 hj with h | h
        ·exact hok.out j h
        ·rw [h]; exact HOK.out, rfl⟩
       case measure => omega
      ·have q95 : (((s[i]).toNat : Int) != 95) = true := by simpa using h95
       have HR : Hid (xK (toL s) = false) := by
        unfold Hid
        rw [HN.out, decide_eq_false (fun h => by
         have := h i hlt
         rw [HGI.out] at this
         rcases hb : (i == 0) with _ | _
         ·rw [hb, hfl] at this; simp [h95] at this
         ·rw [hb, sR, hl] at this; cases this)]
        rfl
       clear hfl hl hd h95
       go_wp2_with fail
       refine (HLI.out _).mono ?_
       rintro e w1 ⟨rfl, rfl⟩
       go_wp2_with fail
       refine (HDI.out _).mono ?_
       rintro e w1 ⟨rfl, rfl⟩
       go_wp2_with fail
       go_ret
       exact ⟨zP (by rw [HR.out]), rfl⟩
     ·rw [hl] at HLI
      rw [hd] at HDI
      have HOK : Hid (vn ((toL s).getD i 0).toNat false = true) := by unfold Hid; rw [HGI.out, hfl, hl, hd]; rfl
      clear hfl hl hd
      go_wp2_with fail
      refine (HLI.out _).mono ?_
      rintro e w1 ⟨rfl, rfl⟩
      go_wp2_with fail
      refine (HDI.out _).mono ?_
      rintro e w1 ⟨rfl, rfl⟩
      go_wp2_with fail
      go_roundg (s.size - (i + 1))
      case rel => exact ⟨i + 1, by go_num, by omega, rfl, fun j hj => by
       rcases Nat.lt_succ_iff_lt_or_eq.1 hj with h | h
       ·exact hok.out j h
       ·rw [h]; exact HOK.out, rfl⟩
      case measure => omega
    ·rw [hl] at HLI
     have HOK : Hid (vn ((toL s).getD i 0).toNat false = true) := by unfold Hid; rw [HGI.out, hfl, hl]; rfl
     clear hfl hl
     go_wp2_with fail
     refine (HLI.out _).mono ?_
     rintro e w1 ⟨rfl, rfl⟩
     go_wp2_with fail
     go_roundg (s.size - (i + 1))
     case rel => exact ⟨i + 1, by go_num, by omega, rfl, fun j hj => by
      rcases Nat.lt_succ_iff_lt_or_eq.1 hj with h | h
      ·exact hok.out j h
      ·rw [h]; exact HOK.out, rfl⟩
     case measure => omega
   ·obtain rfl : i = s.size := by omega
    have hii : decide (s.size < s.size) = false := by simp
    have HR : Hid (xK (toL s) = true) := by
     unfold Hid
     rw [HN.out, decide_eq_true (show 1 ≤ s.size by omega), decide_eq_true (show s.size ≤ 12 by omega), decide_eq_true (fun j hj => by
      cases j with
      | zero => rw [H0.out]; simp only [beq_self_eq_true]; rw [sR]; exact HL0.out
      | succ j => have := hok.out (j + 1) hj; simpa using this)]
     rfl
    go_wp2_with fail
    go_ret
    exact ⟨zP (by rw [HR.out]), rfl⟩
end Go.Proofs.YtepicjpdhpojnaaGreatDoor
