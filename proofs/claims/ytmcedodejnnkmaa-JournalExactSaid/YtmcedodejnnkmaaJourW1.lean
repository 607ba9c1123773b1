/-
  Walks of layer 32: Sum, number, add.
-/
import Derived.Test.YtmcedodejnnkmaaProg
import Derived.Test.YtmcedodejnnkmaaJourM
import Derived.Outline
namespace Go.Proofs.Ytmcedodejnnkmaa
open Go.RowKit
theorem el_u8 : ElemI Try.prog 31 5 1 1 := ElemI.mk' (z := .int .u8 0) Try.underlying31 (by kernel_rfl) rfl (by decide)
theorem bytesV_append (a b : List UInt8) : bytesV (a ++ b) = bytesV a ++ bytesV b := by simp [bytesV]
theorem bytesV_one (l : List UInt8) : ∀ u ∈ bytesV l, u.oneCell' = true := by
  intro u hu
  obtain ⟨x, _, hx⟩ := List.mem_flatMap.1 hu
  rw [List.mem_singleton.1 hx]; rfl

theorem wrap_byte (x : UInt8) : IntKind.u64.wrap (x.toNat : Int) = (x.toNat : Int) := by
  have : x.toNat < 256 := x.toNat_lt
  rw [wrap_u64]; omega
set_option maxHeartbeats 400000 in
theorem sum_any (s : ByteArray) (w : World) (hs : s.size ≤ 9223372036854775807) : Calls Try.prog 25 #[.string s] w fun e w' => e = .returned (.int .u64 (sumJ (toL s)).toNat) ∧ w = w' := by
  go_enter Try.func25, Try.ntmps25
  go_wp2
  go_loop [3, 7] (fun h i => ∃ k : Nat, k ≤ s.size ∧ i = .int .i64 k ∧ h = .int .u64 (sumJ ((toL s).take k)).toNat) (fun _ i => s.size - (intOf i).toNat)
  case atStart => exact ⟨0, Nat.zero_le _, rfl, rfl⟩
  case round =>
    obtain ⟨k, hk, rfl, rfl⟩ := hrel
    by_cases hlt : k < s.size
    · have HN : Hid (sumJ ((toL s).take (k + 1)) = fnvStep (sumJ ((toL s).take k)) s[k]) := by
        unfold Hid; rw [toL_take_snoc s k hlt, sumJ, List.foldl_append]; rfl
      generalize sumJ ((toL s).take k) = h at *
      go_wp2
      go_round
      case rel => exact ⟨k + 1, by omega, by go_num, by rw [HN.out, wrap_byte, fnv_xor, fnv_mul]; rfl⟩
      case measure => simp [intOf]; omega
    · go_wp2
      go_ret
      exact ⟨ret_int (by rw [List.take_of_length_le (by rw [toL_len]; omega)]), rfl⟩

set_option maxHeartbeats 400000 in
theorem number_any (s : ByteArray) (w : World) (hs : s.size ≤ 9223372036854775807) : Calls Try.prog 35 #[.string s] w fun e w' => e = .returned (.int .u64 (numJ (toL s)).toNat) ∧ w = w' := by
  go_enter Try.func35, Try.ntmps35
  go_wp2
  go_loop [3, 7] (fun h i => ∃ k : Nat, k ≤ s.size ∧ i = .int .i64 k ∧ h = .int .u64 (numJ ((toL s).take k)).toNat) (fun _ i => s.size - (intOf i).toNat)
  case atStart => exact ⟨0, Nat.zero_le _, rfl, rfl⟩
  case round =>
    obtain ⟨k, hk, rfl, rfl⟩ := hrel
    by_cases hlt : k < s.size
    · have HN : Hid (numJ ((toL s).take (k + 1)) = numStep (numJ ((toL s).take k)) s[k]) := by
        unfold Hid; rw [toL_take_snoc s k hlt, numJ, List.foldl_append]; rfl
      generalize numJ ((toL s).take k) = h at *
      go_wp2
      go_round
      case rel => exact ⟨k + 1, by omega, by go_num, by rw [HN.out, wrap_byte, num_step]⟩
      case measure => simp [intOf]; omega
    · go_wp2
      go_ret
      exact ⟨ret_int (by rw [List.take_of_length_le (by rw [toL_len]; omega)]), rfl⟩

theorem grown_at {a b c : World} {row row' : Option Nat} (h : a.grownBy b row) (k : b.grownBy c row') (hr : row' = row ∨ ∃ g, row' = some g ∧ a.heap.size ≤ g) : a.grownBy c row := by
  rcases hr with rfl | ⟨g, rfl, hg⟩
  · exact grown_trans h k
  · exact grown_new h k (fun g' e => by injection e with e; omega)
/-- A slice of bytes of the call's own: l; only the row of v, and what is new, has changed. -/
def RetRow (w : World) (base : Nat) (v : Value) (n : Nat) (l : List UInt8) (e : Ending) (w' : World) : Prop :=
  ∃ A c, e = .returned (.slice A n c) ∧ Hid (w'.ownsRow base 5 1 (.slice A n c) n (bytesV l)) ∧ Hid (w.grownBy w' v.ownBlock) ∧ Hid ((Value.slice A n c).ownBlock = v.ownBlock ∨ ∃ g, (Value.slice A n c).ownBlock = some g ∧ w.heap.size ≤ g)
theorem beB_take (n k i : Nat) (hi : i < k) : (beB n k).take (i + 1) = (beB n k).take i ++ [UInt8.ofNat (n / 2 ^ (8 * (k - 1 - i)) % 256)] := by
  induction k generalizing i with
  | zero => omega
  | succ k ih =>
    rw [beB]
    cases i with
    | zero => simp
    | succ i => rw [List.take_succ_cons, List.take_succ_cons, ih i (by omega), show k + 1 - 1 - (i + 1) = k - 1 - i from by omega]; rfl
set_option maxHeartbeats 1000000 in
theorem add_any (A : Option Addr) (m c base : Nat) (l : List UInt8) (n : BitVec 64) (k : Nat) (w : World) (hown : w.ownsRow base 5 1 (.slice A m c) m (bytesV l)) (hbase : base ≤ w.heap.size) (hk : k ≤ 8) (hm : m ≤ 1000000000) :
    Calls Try.prog 36 #[.slice A m c, .int .u64 n.toNat, .int .i64 k] w (RetRow w base (.slice A m c) (m + k) (l ++ beB n.toNat k)) := by
  have HO := Lib.hid hown; clear hown
  have HL := Lib.hid ((Sl.of_own HO.out).len (fun _ => rfl) (by decide))
  have hn := n.isLt
  obtain ⟨N, hN⟩ : ∃ N, n.toNat = N := ⟨_, rfl⟩
  rw [hN] at hn ⊢
  clear hN
  have HN := Lib.hid hn; clear hn
  go_enter Try.func36, Try.ntmps36
  go_wp2
  go_loopw [0, 7] (fun v i wr => ∃ (j cc : Nat) (Av : Option Addr), j ≤ k ∧ i = .int .i64 (8 * (j : Int) - 8) ∧ v = .slice Av (m + (k - j)) cc ∧ Hid (wr.ownsRow base 5 1 (.slice Av (m + (k - j)) cc) (m + (k - j)) (bytesV (l ++ (beB N k).take (k - j)))) ∧ Hid (w.grownBy wr (Value.slice A m c).ownBlock) ∧
      Hid ((Value.slice Av (m + (k - j)) cc).ownBlock = (Value.slice A m c).ownBlock ∨ ∃ g, (Value.slice Av (m + (k - j)) cc).ownBlock = some g ∧ w.heap.size ≤ g)) (fun _ i _ => (intOf i + 8).toNat)
  case atStart =>
    refine ⟨k, c, A, Nat.le_refl _, ?_, by rw [Nat.sub_self, Nat.add_zero], ?_, grown_refl _ _, ?_⟩
    · congr 1; omega
    · rw [Nat.sub_self, Nat.add_zero, List.take_zero, List.append_nil]; exact HO
    · rw [Nat.sub_self, Nat.add_zero]; exact .inl rfl
  case round =>
    obtain ⟨j, cc, Av, hj, rfl, rfl, hown, hgr, hat⟩ := hrel
    cases j with
    | zero =>
      go_wp2
      go_ret
      refine ⟨Av, cc, rfl, ?_, hgr, hat⟩
      have := hown.out
      rwa [List.take_of_length_le (by rw [beB_len]; omega)] at this
    | succ j =>
      have hsz := hgr.out.size
      have e8 : (8 * ((j + 1 : Nat) : Int) - 8) = ((8 * j : Nat) : Int) := by omega
      rw [e8]
      clear e8
      have hj8 : 8 * j ≤ 56 := by omega
      go_wp2_with (at_builtin; go_must (refine wpList_app rfl (.tmp 15) (.tmp 20) rfl el_u8 (by rfl) (hown.out.alloc _) (by rfl) (Sl.newest (n := 1) rfl (by rfl) (by decide)) (by simp [Value.oneCell']) (by omega) (by omega) (by simp; omega) ?_; intro A' c' w2 hown2 hgr2 hat2))
      go_wp2
      go_roundw
      case rel =>
        have hkj : k - j = k - (j + 1) + 1 := by omega
        have hmj : m + (k - (j + 1)) + 1 = m + (k - j) := by omega
        rw [hmj] at hown2 hat2
        refine ⟨j, c', A', by omega, rfl, by rw [hmj], ?_, ?_, ?_⟩
        · unfold Hid
          have e : bytesV (l ++ (beB N k).take (k - j)) = bytesV (l ++ (beB N k).take (k - (j + 1))) ++ [.int .u8 ((N : Int) / 2 ^ (8 * j) % 256)] := by
            rw [hkj, beB_take _ _ _ (by omega), ← List.append_assoc, bytesV_append]
            congr 1
            rw [show k - 1 - (k - (j + 1)) = j from by omega]
            simp [bytesV]
          rw [e]
          exact hown2
        · exact grown_at (grown_alloc hgr.out _) hgr2 hat.out
        · rcases hat2 with h | h
          · rw [h]; exact hat
          · exact .inr ⟨_, h, by simp; omega⟩
      case measure => simp [intOf]; omega
end Go.Proofs.Ytmcedodejnnkmaa
