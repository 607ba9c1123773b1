/-
  Walks of the reference of layer 32: Write, last.
-/
import Derived.Test.YtmcedodejnnkmaaJourR1
namespace Go.Proofs.Ytmcedodejnnkmaa
open Go.RowKit
attribute [local go_sem ↓] Go.wp_at_zero Go.wp_at_succ

set_option maxHeartbeats 2000000 in
theorem rwrite_ok (num : Nat) (before : BitVec 64) (p : ByteArray) (w : World) (hn1 : 1 ≤ num) (hn2 : num ≤ 1024) (hp : p.size ≤ 16384) :
    Calls Try.prog 28 #[.agg #[.int .i64 num, .int .u64 before.toNat, .string p]] w fun e w' => e = .returned (.tuple #[.string (mkS (recJ num before (toL p))), .int .i64 0]) ∧ Below w.heap.size w w' := by
  have HBF := Lib.hid before.isLt
  have q1 : decide ((num : Int) < 1) = false := by simp; omega
  have q2 : decide ((1024 : Int) < (num : Int)) = false := by simp; omega
  have q3 : decide ((16384 : Int) < (p.size : Int)) = false := by simp; omega
  have en : IntKind.u64.wrap (num : Int) = (num : Int) := by rw [wrap_u64]; omega
  have ep : IntKind.u64.wrap (p.size : Int) = (p.size : Int) := by rw [wrap_u64]; omega
  have h20 : ¬ 9223372036854775807 < 20 + p.size := by omega
  have z1 : (mkS (beB num 8)).size = 8 := by rw [size_mk, beB_len]
  have z2 : (mkS (beB before.toNat 8)).size = 8 := by rw [size_mk, beB_len]
  have z3 : (mkS (beB p.size 4)).size = 4 := by rw [size_mk, beB_len]
  go_enter Try.func28, Try.ntmps28
  go_wp2_with fail
  generalize hW : w.alloc (.cells #[.int .i64 num, .int .u64 before.toNat, .string p] 43) = W
  have hbx : Blk W w.heap.size 43 #[.int .i64 num, .int .u64 before.toNat, .string p] := hW ▸ Blk.new _ _ _
  have hbl : Below w.heap.size w W := hW ▸ (Below.refl _ _).alloc (Nat.le_refl _) _
  have hWs : W.heap.size = w.heap.size + 1 := by rw [← hW]; simp
  have c0 : W.cell? ⟨w.heap.size, 0, none⟩ = some (.int .i64 num) := hbx.cell 0
  have c1 : W.cell? ⟨w.heap.size, 1, none⟩ = some (.int .u64 before.toNat) := hbx.cell 1
  have c2 : W.cell? ⟨w.heap.size, 2, none⟩ = some (.string p) := hbx.cell 2
  have hw1 : w.heap.size < W.heap.size := by omega
  have HBX := Lib.hid hbx; have HBL := Lib.hid hbl; clear hbx hbl hWs hW
  go_region_held3 (fun w' => w'.cell? ⟨w.heap.size, 0, none⟩ = some (.int .i64 num) ∧ w'.cell? ⟨w.heap.size, 1, none⟩ = some (.int .u64 before.toNat) ∧ w'.cell? ⟨w.heap.size, 2, none⟩ = some (.string p))
    (first | go_keep | exact ⟨hba.out.cell 0, hba.out.cell 1, hba.out.cell 2⟩ | exact ⟨hbb.out.cell 0, hbb.out.cell 1, hbb.out.cell 2⟩ | exact ⟨hbc.out.cell 0, hbc.out.cell 1, hbc.out.cell 2⟩)
    (first
      | (go_at_call_of 33 (Value.int .u64 (num : Int)); refine (put_any num 8 _ (by omega) (by decide)).mono ?_; rintro e wa ⟨rfl, hla⟩; have hla' := Lib.hid hla; clear hla; have hba := Lib.hid (Blk.below (w := W.drew) HBX.out hla'.out hw1); have hza : W.heap.size ≤ wa.heap.size := hla'.out.size)
      | (go_at_call_of 33 (Value.int .u64 (before.toNat : Int)); refine (put_any before.toNat 8 _ HBF.out (by decide)).mono ?_; rintro e wb ⟨rfl, hlb⟩; have hlb' := Lib.hid hlb; clear hlb; have hbb := Lib.hid (hba.out.below (w' := wb) hlb'.out (by omega)); have hzb : W.heap.size ≤ wb.heap.size := Nat.le_trans hza hlb'.out.size)
      | (go_at_call_of 33 (Value.int .u64 (p.size : Int)); refine (put_any p.size 4 _ (by omega) (by decide)).mono ?_; rintro e wc ⟨rfl, hlc⟩; have hlc' := Lib.hid hlc; clear hlc; have hbc := Lib.hid (hbb.out.below (w' := wc) hlc'.out (by omega)); have hzc : W.heap.size ≤ wc.heap.size := Nat.le_trans hzb hlc'.out.size))
  clear h20
  have hhd : mkS (beB num 8) ++ mkS (beB before.toNat 8) ++ mkS (beB p.size 4) ++ p = mkS (headJ num before (toL p)) := by
    apply toL_inj
    rw [toL_append, toL_append, toL_append, toL_mk, toL_mk, toL_mk, toL_mk, headJ, toL_len]
  go_wp2_with fail
  rw [hhd]
  have hhl : (headJ num before (toL p)).length = 20 + p.size := by
    simp only [headJ, List.length_append, beB_len, toL_len]
  clear z1 z2 z3 hhd en ep
  refine (rsum_any _ _ (by rw [size_mk, hhl]; omega)).mono ?_
  rintro e w5 ⟨rfl, rfl⟩
  rw [toL_mk]
  have z4 : (mkS (headJ num before (toL p))).size + (mkS (beB (sumJ (headJ num before (toL p))).toNat 8)).size ≤ 9223372036854775807 := by rw [size_mk, size_mk, beB_len, hhl]; omega
  clear hhl
  go_wp2_with fail
  refine (put_any _ 8 _ (BitVec.isLt _) (by decide)).mono ?_
  rintro e w6 ⟨rfl, hl6⟩
  go_wp2_with fail
  go_ret2
  refine ⟨?_, ?_⟩
  · rw [recJ, ← toL_mk (headJ num before (toL p) ++ beB (sumJ (headJ num before (toL p))).toNat 8)]
    have : mkS (headJ num before (toL p)) ++ mkS (beB (sumJ (headJ num before (toL p))).toNat 8) = mkS (toL (mkS (headJ num before (toL p) ++ beB (sumJ (headJ num before (toL p))).toNat 8))) := by
      apply toL_inj
      rw [toL_append, toL_mk, toL_mk, toL_mk, toL_mk]
    rw [← this]; rfl
  · exact (((HBL.out.drew.trans (hla'.out.mono (Nat.le_of_lt hw1))).trans (hlb'.out.mono (by omega))).trans (hlc'.out.mono (by omega))).trans (hl6.mono (by omega))

def lastS (l : List UInt8) : BitVec 64 := if l.length < 8 then 0#64 else numJ (l.drop (l.length - 8))
theorem last_any (s : ByteArray) (w : World) (hs : s.size ≤ 1000000000) : Calls Try.prog 32 #[.string s] w fun e w' => e = .returned (.int .u64 (lastS (toL s)).toNat) ∧ w = w' := by
  by_cases h : s.size < 8
  · have HE : Hid (lastS (toL s) = 0#64) := if_pos (by rw [toL_len]; exact h)
    go_enter Try.func32, Try.ntmps32
    go_wp2_with fail
    go_ret
    exact ⟨by rw [HE.out]; rfl, rfl⟩
  · have HE : Hid (lastS (toL s) = numJ ((toL s).drop (s.size - 8))) := by unfold Hid; rw [lastS, toL_len, if_neg h]
    go_enter Try.func32, Try.ntmps32
    go_wp2_with fail
    refine (get_any _ _ (by simp; omega)).mono ?_
    rintro e w1 ⟨rfl, rfl⟩
    rw [toL_extract, List.take_of_length_le (by rw [List.length_drop, toL_len]; omega)]
    go_wp2_with fail
    go_ret
    exact ⟨by rw [HE.out]; rfl, rfl⟩
end Go.Proofs.Ytmcedodejnnkmaa
