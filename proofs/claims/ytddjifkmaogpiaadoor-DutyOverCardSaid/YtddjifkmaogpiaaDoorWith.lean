/-
  Layer 12: walk of With.
-/
import Derived.Test.YtddjifkmaogpiaaDoorAcross
namespace Go.Proofs.YtddjifkmaogpiaaDoor
open Go.RowKit
def withL (l : List Int) (d p : Int) : List Int := if 0 ≤ d ∧ d < l.length then l.set d.toNat p else l
theorem withL_len (l : List Int) (d p : Int) : (withL l d p).length = l.length := by unfold withL; split <;> simp
theorem intsPost_mk {w w' : World} {l : List Int} {A : Option Addr} {n c : Nat} (hl : l.length = n) (h : IntsO w' w.heap.size A n c l) (hb : Below w.heap.size w w') : IntsPost w l (.returned (.slice A n c)) w' := by subst hl; exact ⟨A, c, rfl, h, hb⟩
set_option maxRecDepth 100000 in
set_option maxHeartbeats 1000000 in
theorem with_any (A : Option Addr) (n c B : Nat) (l : List Int) (d p : Int) (w : World) (hs : Sl w B 1 A n c (intsV l)) (hB : B ≤ w.heap.size) (hn : n ≤ 1000000) : Calls Tryd.prog 13 #[.slice A n c, .int .i64 d, .int .i64 p] w (IntsPost w (withL l d p)) := by
  have HL := Lib.hid (hs.len (fun _ => rfl) (by decide))
  have HC := Lib.hid (clone_any A n c B l w hs hB hn)
  clear hs
  by_cases h0 : 0 ≤ d
  · by_cases h1 : d < n
    · obtain ⟨k, rfl⟩ := Int.eq_ofNat_of_zero_le h0
      have HW : Hid (withL l k p = l.set k p) := by unfold Hid withL; rw [if_pos ⟨h0, by rw [HL.out]; exact h1⟩]; rfl
      go_enter Tryd.func13, Tryd.ntmps13
      go_wp2_with fail
      refine HC.out.mono ?_
      rintro e w1 ⟨A1, c1, rfl, hO, hb⟩
      rw [HL.out] at hO ⊢
      obtain ⟨g, x, rfl, hg1, hg2, hx, hcell, hfz, hst⟩ := hO.out.at (i := k) (by omega)
      have HST := Lib.hid (hst p)
      clear hst hx
      have hnn : n ≤ 9223372036854775807 := by omega
      have hkn : k < n := by omega
      go_wp2_with fail
      go_ret
      exact intsPost_mk (by rw [HW.out, List.length_set, HL.out]) (by rw [HW.out]; exact HST.out) (hb.out.setCell hg1 _)
    · have q1 : decide (d < (n : Int)) = false := by simpa using h1
      have HW : Hid (withL l d p = l) := by unfold Hid withL; rw [if_neg (by rw [HL.out]; omega)]
      go_enter Tryd.func13, Tryd.ntmps13
      go_wp2_with fail
      refine HC.out.mono ?_
      rintro e w1 ⟨A1, c1, rfl, hO, hb⟩
      rw [HL.out] at hO ⊢
      have hnn : n ≤ 9223372036854775807 := by omega
      go_wp2_with fail
      go_ret
      exact intsPost_mk (by rw [HW.out, HL.out]) (by rw [HW.out]; exact hO.out) hb.out
  · have q0 : decide (0 ≤ d) = false := by simpa using h0
    have HW : Hid (withL l d p = l) := by unfold Hid withL; rw [if_neg (by omega)]
    go_enter Tryd.func13, Tryd.ntmps13
    go_wp2_with fail
    refine HC.out.mono ?_
    rintro e w1 ⟨A1, c1, rfl, hO, hb⟩
    rw [HL.out] at hO ⊢
    go_wp2_with fail
    go_ret
    exact intsPost_mk (by rw [HW.out, HL.out]) (by rw [HW.out]; exact hO.out) hb.out
end Go.Proofs.YtddjifkmaogpiaaDoor
