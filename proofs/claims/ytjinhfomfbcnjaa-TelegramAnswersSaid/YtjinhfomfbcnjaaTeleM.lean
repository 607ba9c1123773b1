/-
  Plain functions of layer 9 (telegrams): the checksum, valid telegrams, frames. No program is in sight here.
-/
import Derived.Test.YtjinhfomfbcnjaaBase
namespace Go.Proofs.Ytjinhfomfbcnjaa
open Go.RowKit

def octB (n : Int) : Bool := decide (0 ≤ n) && decide (n ≤ 255)
def crcBit (s : BitVec 16) : BitVec 16 := (s <<< 1) ^^^ ((s >>> 15) * 0x1021#16)
def crcBits : Nat → BitVec 16 → BitVec 16
  | 0, s => s
  | k + 1, s => crcBit (crcBits k s)
def crcByte (s : BitVec 16) (x : UInt8) : BitVec 16 := crcBits 8 (s ^^^ (BitVec.ofNat 16 x.toNat <<< 8))
def crcFrom (s : BitVec 16) (l : List UInt8) : BitVec 16 := l.foldl crcByte s

theorem crc_in (s : BitVec 16) (x : UInt8) : bits .xor .u16 (s.toNat : Int) ((x.toNat : Int) * 256) = ((crcBits 0 (s ^^^ (BitVec.ofNat 16 x.toNat <<< 8))).toNat : Int) := by
  have hx : x.toNat < 256 := x.toNat_lt
  rw [u16_xor _ _ (by omega) (by have := s.isLt; omega) (by omega) (by omega)]
  simp only [crcBits, BitVec.toNat_xor, BitVec.toNat_shiftLeft, BitVec.toNat_ofNat, Int.toNat_natCast]
  rw [show ((x.toNat : Int) * 256).toNat = x.toNat * 256 from by omega, Nat.shiftLeft_eq]
  rw [show x.toNat % 2 ^ 16 * 2 ^ 8 % 2 ^ 16 = x.toNat * 256 from by omega]
theorem crc_step (c : BitVec 16) : bits .xor .u16 (IntKind.u16.wrap ((c.toNat : Int) * 2)) ((c.toNat : Int) / 32768 * 4129) = ((crcBit c).toNat : Int) := by
  have hc := c.isLt
  rw [IntKind.wrap_u16, u16_xor _ _ (by omega) (by omega) (by omega) (by omega)]
  simp only [crcBit, BitVec.toNat_xor, BitVec.toNat_shiftLeft, BitVec.toNat_mul, BitVec.toNat_ushiftRight, BitVec.toNat_ofNat]
  rw [Nat.shiftLeft_eq, Nat.shiftRight_eq_div_pow]
  rw [show ((c.toNat : Int) * 2 % 65536).toNat = c.toNat * 2 ^ 1 % 2 ^ 16 from by omega, show ((c.toNat : Int) / 32768 * 4129).toNat = c.toNat / 2 ^ 15 * (4129 % 2 ^ 16) % 2 ^ 16 from by omega]

structure Item where
  device : Int
  point : Int
  invalid : Bool
  time : Int
def Item.cells (x : Item) : List Value := [.int .i64 x.device, .int .i64 x.point, .bool x.invalid, .int .i64 x.time]
def itemErr (x : Item) : Int := if x.device < 0 ∨ 64 ≤ x.device then 8 else if x.point < 0 ∨ 3 < x.point then 5 else if x.time < 0 ∨ 16777216 ≤ x.time then 11 else 0
def firstErr : List Item → Int
  | [] => 0
  | x :: l => if itemErr x = 0 then firstErr l else itemErr x
def checkT (st sq : Int) (l : List Item) : Int := if octB st = false then 5 else if octB sq = false then 5 else if 32 < l.length then 1 else firstErr l
theorem firstErr_skip : ∀ (l : List Item) (k : Nat), (∀ x ∈ l.take k, itemErr x = 0) → firstErr l = firstErr (l.drop k)
  | [], k, _ => by simp
  | x :: l, 0, _ => rfl
  | x :: l, k + 1, h => by
    simp only [List.take_succ_cons, List.mem_cons] at h
    rw [firstErr, if_pos (h x (.inl rfl)), List.drop_succ_cons]
    exact firstErr_skip l k fun y hy => h y (.inr hy)
theorem firstErr_at {l : List Item} {k : Nat} {x : Item} (h : ∀ y ∈ l.take k, itemErr y = 0) (hx : l[k]? = some x) (hne : itemErr x ≠ 0) : firstErr l = itemErr x := by
  rw [firstErr_skip l k h]
  obtain ⟨hk, rfl⟩ := List.getElem?_eq_some_iff.1 hx
  rw [List.drop_eq_getElem_cons hk, firstErr, if_neg hne]
theorem firstErr_all {l : List Item} (h : ∀ y ∈ l, itemErr y = 0) : firstErr l = 0 := by
  induction l with
  | nil => rfl
  | cons x l ih => rw [firstErr, if_pos (h x (by simp))]; exact ih fun y hy => h y (by simp [hy])
theorem firstErr_zero {l : List Item} (h : firstErr l = 0) : ∀ y ∈ l, itemErr y = 0 := by
  induction l with
  | nil => simp
  | cons x l ih =>
    rw [firstErr] at h
    split at h
    · next hx => intro y hy; exact (List.mem_cons.1 hy).elim (fun e => e ▸ hx) (ih h y)
    · contradiction

def u8 (n : Int) : UInt8 := UInt8.ofNat (n % 256).toNat
theorem u8_toNat (n : Int) : ((u8 n).toNat : Int) = n % 256 := by
  unfold u8
  rw [UInt8.toNat_ofNat']
  omega
def Item.flag (x : Item) : UInt8 := if x.invalid then u8 x.point ||| 128 else u8 x.point
def Item.bytes (x : Item) : List UInt8 := [u8 x.device, x.flag, u8 (x.time / 65536), u8 (x.time / 256), u8 x.time]
def headT (st sq n : Int) : List UInt8 := [104, u8 st, u8 sq, u8 n]
def bodyT (st sq : Int) (l : List Item) : List UInt8 := headT st sq l.length ++ l.flatMap Item.bytes
def crcTail (s : BitVec 16) : List UInt8 := [u8 ((s.toNat : Int) / 256), u8 s.toNat]
def crcAll (l : List UInt8) : BitVec 16 := crcFrom 65535#16 l
def frameT (st sq : Int) (l : List Item) : List UInt8 := bodyT st sq l ++ crcTail (crcAll (bodyT st sq l))
end Go.Proofs.Ytjinhfomfbcnjaa
