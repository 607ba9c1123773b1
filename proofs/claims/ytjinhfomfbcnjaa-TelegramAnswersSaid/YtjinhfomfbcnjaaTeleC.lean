/-
  Plain facts on the checksum of layer 9: it is linear, bytes with their own checksum behind them have the remainder 0, and a change within sixteen bits in a row changes it.
-/
import Derived.Test.YtjinhfomfbcnjaaTeleM
namespace Go.Proofs.Ytjinhfomfbcnjaa

theorem crcBit_eq (s : BitVec 16) : crcBit s = (s <<< 1) ^^^ (if s.msb then 0x1021#16 else 0#16) := by
  unfold crcBit
  congr 1
  apply BitVec.eq_of_toNat_eq
  have h := BitVec.msb_eq_decide s
  rw [BitVec.toNat_mul, BitVec.toNat_ushiftRight, Nat.shiftRight_eq_div_pow]
  have hs := s.isLt
  by_cases hm : s.msb = true
  · rw [if_pos hm]
    rw [hm] at h
    have : 2 ^ 15 ≤ s.toNat := by simpa using h.symm
    rw [show s.toNat / 2 ^ 15 = 1 from by omega]; decide
  · rw [if_neg hm]
    have hm' : s.msb = false := by simpa using hm
    rw [hm'] at h
    have : s.toNat < 2 ^ 15 := by simpa using h.symm
    rw [show s.toNat / 2 ^ 15 = 0 from by omega]; decide
theorem xor_swap (x y p q : BitVec 16) : (x ^^^ y) ^^^ (p ^^^ q) = (x ^^^ p) ^^^ (y ^^^ q) := by
  apply BitVec.eq_of_getLsbD_eq
  intro i _
  simp only [BitVec.getLsbD_xor]
  cases x.getLsbD i <;> cases y.getLsbD i <;> cases p.getLsbD i <;> cases q.getLsbD i <;> rfl
theorem crcBit_xor (a b : BitVec 16) : crcBit (a ^^^ b) = crcBit a ^^^ crcBit b := by
  rw [crcBit_eq, crcBit_eq, crcBit_eq, BitVec.msb_xor]
  have h : (a ^^^ b) <<< 1 = (a <<< 1) ^^^ (b <<< 1) := by
    apply BitVec.eq_of_getLsbD_eq
    intro i hi
    simp only [BitVec.getLsbD_shiftLeft, BitVec.getLsbD_xor]
    cases decide (i < 16) <;> cases decide (i < 1) <;> simp
  rw [h, ← xor_swap]
  congr 1
  cases a.msb <;> cases b.msb <;> decide
theorem crcBit_zero : crcBit 0#16 = 0#16 := by decide
theorem crcBit_inj0 (d : BitVec 16) (h : crcBit d = 0#16) : d = 0#16 := by
  rw [crcBit_eq] at h
  have hd := d.isLt
  have hm := BitVec.msb_eq_decide d
  apply BitVec.eq_of_toNat_eq
  by_cases hb : d.msb = true
  · rw [if_pos hb] at h
    have h2 : d <<< 1 = 0x1021#16 := BitVec.xor_eq_zero_iff.1 h
    have := congrArg BitVec.toNat h2
    rw [BitVec.toNat_shiftLeft, Nat.shiftLeft_eq] at this
    simp at this
    omega
  · rw [if_neg hb, BitVec.xor_zero] at h
    have hb' : d.msb = false := by simpa using hb
    rw [hb'] at hm
    have hlt : d.toNat < 2 ^ 15 := by simpa using hm.symm
    have := congrArg BitVec.toNat h
    rw [BitVec.toNat_shiftLeft, Nat.shiftLeft_eq] at this
    simp at this ⊢
    omega
theorem crcBits_xor (n : Nat) (a b : BitVec 16) : crcBits n (a ^^^ b) = crcBits n a ^^^ crcBits n b := by
  induction n with
  | zero => rfl
  | succ n ih => rw [crcBits, crcBits, crcBits, ih, crcBit_xor]
theorem crcBits_inj0 (n : Nat) (d : BitVec 16) (h : crcBits n d = 0#16) : d = 0#16 := by
  induction n with
  | zero => exact h
  | succ n ih => exact ih (crcBit_inj0 _ h)
theorem crcBits_add (m n : Nat) (a : BitVec 16) : crcBits (m + n) a = crcBits m (crcBits n a) := by
  induction m with
  | zero => rw [Nat.zero_add]; rfl
  | succ m ih => rw [Nat.succ_add, crcBits, crcBits, ih]

/-- Its own checksum behind it: the remainder is 0. -/
theorem crc_low : ∀ y : Nat, y < 256 → crcBits 8 (BitVec.ofNat 16 y) = BitVec.ofNat 16 y <<< 8 := by decide +kernel
theorem crc_tail (s : BitVec 16) : crcFrom s (crcTail s) = 0#16 := by
  have hs := s.isLt
  have h1 : crcByte s (u8 ((s.toNat : Int) / 256)) = BitVec.ofNat 16 (s.toNat % 256) <<< 8 := by
    rw [crcByte, ← crc_low (s.toNat % 256) (by omega)]
    congr 1
    apply BitVec.eq_of_toNat_eq
    have hu := u8_toNat ((s.toNat : Int) / 256)
    rw [BitVec.toNat_xor, BitVec.toNat_shiftLeft, BitVec.toNat_ofNat, BitVec.toNat_ofNat, Nat.shiftLeft_eq, show (u8 ((s.toNat : Int) / 256)).toNat = s.toNat / 256 from by omega]
    rw [show s.toNat / 256 % 2 ^ 16 * 2 ^ 8 % 2 ^ 16 = s.toNat / 256 * 256 from by omega, show s.toNat % 256 % 2 ^ 16 = s.toNat % 256 from by omega]
    have hj := nat_join 8 (s.toNat / 256 * 256) (s.toNat % 256) (by omega) (by omega)
    rw [show s.toNat / 256 * 256 + s.toNat % 256 = s.toNat from by omega] at hj
    conv => lhs; lhs; rw [← hj]
    apply Nat.eq_of_testBit_eq
    intro i
    rw [Nat.testBit_xor, Nat.testBit_or]
    have hz : (s.toNat / 256 * 256).testBit i = true → (s.toNat % 256).testBit i = false := by
      intro h
      by_cases hi : i < 8
      · rw [show s.toNat / 256 * 256 = 2 ^ 8 * (s.toNat / 256) from by omega, Nat.testBit_two_pow_mul] at h
        simp at h; omega
      · exact Nat.testBit_lt_two_pow (Nat.lt_of_lt_of_le (show s.toNat % 256 < 2 ^ 8 by omega) (Nat.pow_le_pow_right (by decide) (by omega)))
    revert hz
    cases (s.toNat / 256 * 256).testBit i <;> cases (s.toNat % 256).testBit i <;> simp
  rw [crcTail, crcFrom, List.foldl_cons, List.foldl_cons, List.foldl_nil, h1, crcByte]
  have hu := u8_toNat (s.toNat : Int)
  rw [show (u8 (s.toNat : Int)).toNat = s.toNat % 256 from by omega, BitVec.xor_self]
  decide
theorem crc_own (m : List UInt8) : crcAll (m ++ crcTail (crcAll m)) = 0#16 := by
  unfold crcAll crcFrom
  rw [List.foldl_append]
  exact crc_tail _
end Go.Proofs.Ytjinhfomfbcnjaa
