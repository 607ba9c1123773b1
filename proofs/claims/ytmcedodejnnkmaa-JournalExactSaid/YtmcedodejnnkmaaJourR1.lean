/-
  Walks of the reference of layer 32: Sum, get, put, last.
-/
import Derived.Test.YtmcedodejnnkmaaJourW6
namespace Go.Proofs.Ytmcedodejnnkmaa
open Go.RowKit
set_option maxHeartbeats 400000 in
theorem rsum_any (s : ByteArray) (w : World) (hs : s.size ≤ 9223372036854775807) : Calls Try.prog 26 #[.string s] w fun e w' => e = .returned (.int .u64 (sumJ (toL s)).toNat) ∧ w = w' := by
  go_enter Try.func26, Try.ntmps26
  go_wp2
  go_loop [3, 4] (fun h i => ∃ k : Nat, k ≤ s.size ∧ i = .int .i64 k ∧ h = .int .u64 (sumJ ((toL s).take k)).toNat) (fun _ i => s.size - (intOf i).toNat)
  case atStart => exact ⟨0, Nat.zero_le _, rfl, rfl⟩
  case round =>
    obtain ⟨k, hk, rfl, rfl⟩ := hrel
    by_cases hlt : k < s.size
    · have HN : Hid (sumJ ((toL s).take (k + 1)) = fnvStep (sumJ ((toL s).take k)) s[k]) := by
        unfold Hid; rw [toL_take_snoc s k hlt, sumJ, List.foldl_append]; rfl
      generalize sumJ ((toL s).take k) = h at *
      go_wp2
      go_round
      case rel => exact ⟨k + 1, by omega, by go_num, by rw [HN.out, wrap_byte, fnv_xor, fnv_mul]; rfl⟩
      case measure => simp [intOf]; omega
    · go_wp2
      go_ret
      exact ⟨ret_int (by rw [List.take_of_length_le (by rw [toL_len]; omega)]), rfl⟩
theorem num_add (n : BitVec 64) (x : UInt8) : IntKind.u64.wrap (IntKind.u64.wrap ((n.toNat : Int) * 256) + (x.toNat : Int)) = ((numStep n x).toNat : Int) := by
  have hx : x.toNat < 256 := x.toNat_lt
  rw [wrap_u64, wrap_u64, numStep, BitVec.toNat_or, BitVec.toNat_shiftLeft, BitVec.toNat_ofNat, Nat.shiftLeft_eq, Nat.mod_eq_of_lt (show x.toNat < 2 ^ 64 by omega), nat_join 8 _ _ (by omega) (by omega)]
  omega
set_option maxHeartbeats 400000 in
theorem get_any (s : ByteArray) (w : World) (hs : s.size ≤ 9223372036854775807) : Calls Try.prog 31 #[.string s] w fun e w' => e = .returned (.int .u64 (numJ (toL s)).toNat) ∧ w = w' := by
  go_enter Try.func31, Try.ntmps31
  go_wp2
  go_loop [3, 4] (fun h i => ∃ k : Nat, k ≤ s.size ∧ i = .int .i64 k ∧ h = .int .u64 (numJ ((toL s).take k)).toNat) (fun _ i => s.size - (intOf i).toNat)
  case atStart => exact ⟨0, Nat.zero_le _, rfl, rfl⟩
  case round =>
    obtain ⟨k, hk, rfl, rfl⟩ := hrel
    by_cases hlt : k < s.size
    · have HN : Hid (numJ ((toL s).take (k + 1)) = numStep (numJ ((toL s).take k)) s[k]) := by
        unfold Hid; rw [toL_take_snoc s k hlt, numJ, List.foldl_append]; rfl
      generalize numJ ((toL s).take k) = h at *
      go_wp2
      go_round
      case rel => exact ⟨k + 1, by omega, by go_num, by rw [HN.out, wrap_byte, num_add]⟩
      case measure => simp [intOf]; omega
    · go_wp2
      go_ret
      exact ⟨ret_int (by rw [List.take_of_length_le (by rw [toL_len]; omega)]), rfl⟩

theorem run_one (W : World) (y : Int) (h0 : 0 ≤ y) (h1 : y < 256) : (convert 31 9 (.slice (some ⟨W.heap.size, 0, none⟩) 1 1)).run Try.prog (W.alloc (.cells #[.int .u8 y] 5)) = .ok (.string (mkS [UInt8.ofNat y.toNat])) (W.alloc (.cells #[.int .u8 y] 5)) := by
  refine run_string_of (l := [UInt8.ofNat y.toNat]) Try.underlying31 Try.underlying5 Try.underlying9 (B := W.heap.size + 1) ?_
  have h := Sl.newest (w := W) (cs := #[.int .u8 y]) (T := 5) (fr := (0, 0)) (n := 1) (size := 1) rfl rfl (by decide)
  have e : bytesV [UInt8.ofNat y.toNat] = [.int .u8 y] := by
    simp [bytesV]; omega
  rw [e]; exact h
set_option maxHeartbeats 1000000 in
theorem put_any (N k : Nat) (w : World) (hN : N < 18446744073709551616) (hk : k ≤ 8) : Calls Try.prog 33 #[.int .u64 N, .int .i64 k] w fun e w' => e = .returned (.string (mkS (beB N k))) ∧ Below w.heap.size w w' := by
  have HN := Lib.hid hN; clear hN
  go_enter Try.func33, Try.ntmps33
  go_wp2
  go_loopw [0, 5, 6] (fun n s i wr => ∃ (j m : Nat) (S : ByteArray), j ≤ k ∧ i = .int .i64 j ∧ n = .int .u64 m ∧ s = .string S ∧ S.size ≤ 8 ∧ Hid (S = mkS (beB N j)) ∧ Hid (m = N / 2 ^ (8 * j)) ∧ Hid (Below w.heap.size w wr)) (fun _ _ i _ => k - (intOf i).toNat)
  case atStart => exact ⟨0, N, ⟨#[]⟩, Nat.zero_le _, rfl, rfl, rfl, by decide, rfl, by unfold Hid; simp, Below.refl _ _⟩
  case round =>
    obtain ⟨j, m, S, hj, rfl, rfl, rfl, hS8, hS, hm, hbl⟩ := hrel
    have hsz := hbl.out.size
    by_cases hlt : j < k
    · have hcv := run_one wr ((m : Int) % 256) (by omega) (by omega)
      have hsz2 : (mkS [UInt8.ofNat (m % 256)]).size + S.size ≤ 9223372036854775807 := by rw [size_mk, List.length_singleton]; omega
      have hsz3 : S.size = j := by rw [hS.out, size_mk, beB_len]
      have HS3 := Lib.hid hsz3; clear hsz3
      go_wp2
      go_roundw
      case rel =>
        have hm64 : m < 18446744073709551616 := by
          have := Nat.div_le_self N (2 ^ (8 * j)); rw [← hm.out] at this; have := HN.out; omega
        refine ⟨j + 1, m / 256, _, by omega, by go_num, by rw [wrap_u64]; congr 1; omega, rfl, ?_, ?_, ?_, hbl.out.alloc hsz _⟩
        · rw [← toL_len, toL_append, List.length_append, toL_len, toL_len, HS3.out, size_mk, List.length_singleton]; omega
        · unfold Hid
          apply toL_inj
          rw [toL_append, hS.out, toL_mk, toL_mk, toL_mk, beB, List.singleton_append, hm.out]
        · unfold Hid
          rw [hm.out, Nat.div_div_eq_div_mul, show 8 * (j + 1) = 8 * j + 8 from by omega, Nat.pow_add]
      case measure => simp [intOf]; omega
    · obtain rfl : j = k := by omega
      go_wp2
      go_ret
      exact ⟨by rw [← hS.out]; rfl, hbl.out⟩
end Go.Proofs.Ytmcedodejnnkmaa
