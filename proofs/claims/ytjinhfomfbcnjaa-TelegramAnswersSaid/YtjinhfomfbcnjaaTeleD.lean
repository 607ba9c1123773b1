/-
  Plain functions of layer 9: what bytes decode to.
-/
import Derived.Test.YtjinhfomfbcnjaaTeleW5
namespace Go.Proofs.Ytjinhfomfbcnjaa
open Go.RowKit

def byteI (l : List UInt8) (i : Nat) : Int := ((l.getD i 0).toNat : Int)
theorem byteI_in (l : List UInt8) (i : Nat) : 0 ≤ byteI l i ∧ byteI l i < 256 := by
  have : (l.getD i 0).toNat < 256 := (l.getD i 0).toNat_lt
  unfold byteI; omega
def decItem (l : List UInt8) (i : Nat) : Item :=
  ⟨byteI l (4 + 5 * i), byteI l (4 + 5 * i + 1) % 4, decide (128 ≤ byteI l (4 + 5 * i + 1)), byteI l (4 + 5 * i + 2) * 65536 + byteI l (4 + 5 * i + 3) * 256 + byteI l (4 + 5 * i + 4)⟩
def decItemErr (l : List UInt8) (i : Nat) : Int := if 64 ≤ byteI l (4 + 5 * i) then 8 else if byteI l (4 + 5 * i + 1) % 128 / 4 ≠ 0 then 14 else 0
def firstI (f : Nat → Int) : Nat → Int
  | 0 => 0
  | k + 1 => if firstI f k = 0 then f k else firstI f k
theorem firstI_of (f : Nat → Int) {k n : Nat} (h : ∀ j, j < k → f j = 0) (hk : k < n) (hf : f k ≠ 0) : firstI f n = f k := by
  have h0 : ∀ m, m ≤ k → firstI f m = 0 := by
    intro m
    induction m with
    | zero => intro _; rfl
    | succ m ih => intro hm; rw [firstI, if_pos (ih (by omega)), h m (by omega)]
  have : ∀ d, firstI f (k + 1 + d) = f k := by
    intro d
    induction d with
    | zero => rw [Nat.add_zero, firstI, if_pos (h0 k (Nat.le_refl _))]
    | succ d ih => rw [← Nat.add_assoc, firstI, ih, if_neg hf]
  have := this (n - (k + 1))
  rwa [show k + 1 + (n - (k + 1)) = n from by omega] at this
theorem firstI_zero (f : Nat → Int) {n : Nat} (h : ∀ j, j < n → f j = 0) : firstI f n = 0 := by
  induction n with
  | zero => rfl
  | succ n ih => rw [firstI, if_pos (ih fun j hj => h j (by omega)), h n (by omega)]
theorem firstI_all (f : Nat → Int) {n : Nat} (h : firstI f n = 0) : ∀ j, j < n → f j = 0 := by
  induction n with
  | zero => intro j hj; omega
  | succ n ih =>
    rw [firstI] at h
    split at h
    · next h0 =>
      intro j hj
      rcases Nat.lt_succ_iff_lt_or_eq.1 hj with h1 | h1
      · exact ih h0 j h1
      · rw [h1]; exact h
    · contradiction
def countT (l : List UInt8) : Nat := (l.getD 3 0).toNat
def decErr (l : List UInt8) : Int :=
  if l.length < 6 then 13 else if sizeT l = 0 then 14 else if l.length < sizeT l then 13 else if sizeT l < l.length then 14 else if crcAll l ≠ 0 then 12 else firstI (decItemErr l) (countT l)
def decItems (l : List UInt8) (k : Nat) : List Item := (List.range k).map (decItem l)
theorem decItems_len (l : List UInt8) (k : Nat) : (decItems l k).length = k := by simp [decItems]
theorem decItems_succ (l : List UInt8) (k : Nat) : decItems l (k + 1) = decItems l k ++ [decItem l k] := by simp [decItems, List.range_succ]
def decSt (l : List UInt8) : Int := if decErr l = 0 then byteI l 1 else 0
def decSq (l : List UInt8) : Int := if decErr l = 0 then byteI l 2 else 0
def decL (l : List UInt8) : List Item := if decErr l = 0 then decItems l (countT l) else []

theorem and3 (x : Int) (h0 : 0 ≤ x) (h1 : x < 256) : bits .and .u8 x 3 = x % 4 := by
  rw [u8_and x 3 h0 h1 (by decide) (by decide)]
  rw [show ((3 : Int).toNat) = 3 from rfl, nat_mask2]; omega
theorem and128 (x : Int) (h0 : 0 ≤ x) (h1 : x < 256) : (bits .and .u8 x 128 != 0) = decide (128 ≤ x) := by
  rw [u8_and x 128 h0 h1 (by decide) (by decide)]
  rw [show ((128 : Int).toNat) = 2 ^ 7 from rfl, nat_bit]
  rw [Bool.eq_iff_iff]
  simp
  omega
theorem andNot131 (x : Int) (h0 : 0 ≤ x) (h1 : x < 256) : bits .andNot .u8 x 131 = x % 128 / 4 * 4 := by
  rw [u8_andNot x 131 h0 h1 (by decide) (by decide)]
  obtain ⟨n, rfl⟩ := Int.eq_ofNat_of_zero_le h0
  rw [Int.toNat_natCast, show (255 - (131 : Int).toNat) = 124 from rfl]
  have hn : n < 256 := by omega
  have : ∀ m : Nat, m < 256 → m &&& 124 = m % 128 / 4 * 4 := by decide +kernel
  rw [this n hn]; omega
theorem or24 (a b c : Int) (ha : 0 ≤ a ∧ a < 256) (hb : 0 ≤ b ∧ b < 256) (hc : 0 ≤ c ∧ c < 256) : bits .or .i64 (bits .or .i64 (a * 65536) (b * 256)) c = a * 65536 + b * 256 + c := by
  obtain ⟨x, rfl⟩ := Int.eq_ofNat_of_zero_le ha.1
  obtain ⟨y, rfl⟩ := Int.eq_ofNat_of_zero_le hb.1
  obtain ⟨z, rfl⟩ := Int.eq_ofNat_of_zero_le hc.1
  have ofI : ∀ n : Nat, n < 9223372036854775808 → (BitVec.ofInt 64 (n : Int)).toNat = n := fun n h => by
    rw [BitVec.ofInt_natCast, BitVec.toNat_ofNat]; exact Nat.mod_eq_of_lt (by omega)
  have orN : ∀ m n : Nat, m < 16777216 → n < 16777216 → bits .or .i64 (m : Int) (n : Int) = ((m ||| n : Nat) : Int) := by
    intro m n hm hn
    have hx : m ||| n < 2 ^ 24 := Nat.or_lt_two_pow (by omega) (by omega)
    show IntKind.i64.wrap ((BitVec.ofInt 64 (m : Int) ||| BitVec.ofInt 64 (n : Int)).toNat : Int) = _
    rw [BitVec.toNat_or, ofI m (by omega), ofI n (by omega), IntKind.wrap_i64]
    omega
  rw [show ((x : Int) * 65536) = ((x * 65536 : Nat) : Int) from by omega, show ((y : Int) * 256) = ((y * 256 : Nat) : Int) from by omega, orN _ _ (by omega) (by omega)]
  rw [nat_join 16 (x * 65536) (y * 256) (by omega) (by omega)]
  rw [orN _ _ (by omega) (by omega), nat_join 8 (x * 65536 + y * 256) z (by omega) (by omega)]
  omega
end Go.Proofs.Ytjinhfomfbcnjaa
