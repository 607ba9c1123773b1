/-
  Plain: the two bytes of a checksum are the only ones behind which the remainder is nothing.
-/
import Derived.Test.YtjinhfomfbcnjaaTeleS
namespace Go.Proofs.Ytjinhfomfbcnjaa
open Go.RowKit
theorem hi_xor (x y : UInt8) : (BitVec.ofNat 16 x.toNat <<< 8) ^^^ (BitVec.ofNat 16 y.toNat <<< 8) = BitVec.ofNat 16 (x ^^^ y).toNat <<< 8 := by
  rw [← BitVec.shiftLeft_xor_distrib, UInt8.toNat_xor, BitVec.ofNat_xor]
theorem tail_inj (s : BitVec 16) (x y x' y' : UInt8) (h : crcFrom s [x, y] = 0#16) (h' : crcFrom s [x', y'] = 0#16) : x = x' ∧ y = y' := by
  have e : ∀ a b : UInt8, crcFrom s [a, b] = crcBits 8 (crcBits 8 (s ^^^ (BitVec.ofNat 16 a.toNat <<< 8)) ^^^ (BitVec.ofNat 16 b.toNat <<< 8)) := fun a b => rfl
  rw [e] at h h'
  replace h := crcBits_inj0 8 _ h
  replace h' := crcBits_inj0 8 _ h'
  have h1 : (crcBits 8 (s ^^^ (BitVec.ofNat 16 x.toNat <<< 8)) ^^^ (BitVec.ofNat 16 y.toNat <<< 8)) ^^^ (crcBits 8 (s ^^^ (BitVec.ofNat 16 x'.toNat <<< 8)) ^^^ (BitVec.ofNat 16 y'.toNat <<< 8)) = 0#16 := by rw [h, h']; rfl
  rw [xor_swap, ← crcBits_xor, xor_swap, BitVec.xor_self, BitVec.zero_xor, hi_xor, hi_xor, ← crc_low (y ^^^ y').toNat (UInt8.toNat_lt _), ← crcBits_xor] at h1
  replace h1 := crcBits_inj0 8 _ h1
  have hx : (x ^^^ x').toNat < 256 := UInt8.toNat_lt _
  have hy : (y ^^^ y').toNat < 256 := UInt8.toNat_lt _
  have h2 : BitVec.ofNat 16 (x ^^^ x').toNat <<< 8 = BitVec.ofNat 16 (y ^^^ y').toNat := by
    have := congrArg (· ^^^ BitVec.ofNat 16 (y ^^^ y').toNat) h1
    simp only [BitVec.xor_assoc, BitVec.xor_self, BitVec.xor_zero, BitVec.zero_xor] at this
    exact this
  have h3 := congrArg BitVec.toNat h2
  rw [BitVec.toNat_shiftLeft, BitVec.toNat_ofNat, BitVec.toNat_ofNat, Nat.shiftLeft_eq] at h3
  have hx0 : (x ^^^ x').toNat = 0 := by omega
  have hy0 : (y ^^^ y').toNat = 0 := by omega
  exact ⟨UInt8.xor_eq_zero_iff.1 (UInt8.toNat_inj.1 hx0), UInt8.xor_eq_zero_iff.1 (UInt8.toNat_inj.1 hy0)⟩
/-- The remainder is nothing exactly if the last two bytes are the checksum of those before. -/
theorem crc_last {l : List UInt8} {n : Nat} (hn : l.length = n + 2) : crcAll l = 0 ↔ l.getD n 0 = u8 (((crcAll (l.take n)).toNat : Int) / 256) ∧ l.getD (n + 1) 0 = u8 ((crcAll (l.take n)).toNat : Int) := by
  have hl : l = l.take n ++ [l.getD n 0, l.getD (n + 1) 0] := by
    have h1 : l.drop n = [l.getD n 0, l.getD (n + 1) 0] := by
      rw [List.drop_eq_getElem_cons (by omega), List.drop_eq_getElem_cons (by omega), List.drop_eq_nil_of_le (by omega), List.getD_eq_getElem?_getD, List.getD_eq_getElem?_getD, List.getElem?_eq_getElem (by omega), List.getElem?_eq_getElem (by omega)]
      rfl
    rw [← h1, List.take_append_drop]
  have hc : crcAll l = crcFrom (crcAll (l.take n)) [l.getD n 0, l.getD (n + 1) 0] := by
    conv => lhs; rw [hl]
    rw [crcAll, crcFrom, List.foldl_append]; rfl
  rw [hc]
  have ht := crc_tail (crcAll (l.take n))
  constructor
  · intro h
    exact tail_inj _ _ _ _ _ h ht
  · rintro ⟨h1, h2⟩
    rw [h1, h2]; exact ht
end Go.Proofs.Ytjinhfomfbcnjaa
