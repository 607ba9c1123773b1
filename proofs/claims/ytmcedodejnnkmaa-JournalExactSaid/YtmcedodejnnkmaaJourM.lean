/-
  Plain functions of layer 32 (the journal): sums, numbers, records, what bytes are read as. No program is in sight here.
-/
import Derived.Test.YtmcedodejnnkmaaStr
namespace Go.Proofs.Ytmcedodejnnkmaa
open Go.RowKit

def fnvStep (h : BitVec 64) (x : UInt8) : BitVec 64 := (h ^^^ BitVec.ofNat 64 x.toNat) * 1099511628211#64
def sumJ (l : List UInt8) : BitVec 64 := l.foldl fnvStep 14695981039346656037#64
def numStep (n : BitVec 64) (x : UInt8) : BitVec 64 := (n <<< 8) ||| BitVec.ofNat 64 x.toNat
def numJ (l : List UInt8) : BitVec 64 := l.foldl numStep 0#64

theorem wrap_u64 (n : Int) : IntKind.u64.wrap n = n % 18446744073709551616 := by simp [IntKind.wrap, IntKind.bits, IntKind.signed]
theorem fnv_xor (h : BitVec 64) (x : UInt8) : bits .xor .u64 (h.toNat : Int) (x.toNat : Int) = ((h ^^^ BitVec.ofNat 64 x.toNat).toNat : Int) := by
  have hx : x.toNat < 256 := x.toNat_lt
  rw [u64_xor_nat _ _ h.isLt (by omega), BitVec.toNat_xor, BitVec.toNat_ofNat, Nat.mod_eq_of_lt (by omega)]
theorem fnv_mul (h : BitVec 64) : IntKind.u64.wrap ((h.toNat : Int) * 1099511628211) = ((h * 1099511628211#64).toNat : Int) := by
  rw [wrap_u64, BitVec.toNat_mul]
  simp
theorem num_step (n : BitVec 64) (x : UInt8) : bits .or .u64 (IntKind.u64.wrap ((n.toNat : Int) * 256)) (x.toNat : Int) = ((numStep n x).toNat : Int) := by
  have hx : x.toNat < 256 := x.toNat_lt
  have e : IntKind.u64.wrap ((n.toNat : Int) * 256) = ((n.toNat * 256 % 18446744073709551616 : Nat) : Int) := by rw [wrap_u64]; omega
  rw [e, u64_or_nat _ _ (Nat.mod_lt _ (by decide)) (by omega), numStep, BitVec.toNat_or, BitVec.toNat_shiftLeft, BitVec.toNat_ofNat, Nat.shiftLeft_eq, Nat.mod_eq_of_lt (show x.toNat < 2 ^ 64 by omega)]

/-- A number as k bytes, the highest first. -/
def beB (n : Nat) : Nat → List UInt8
  | 0 => []
  | k + 1 => UInt8.ofNat (n / 2 ^ (8 * k) % 256) :: beB n k
theorem beB_len (n k : Nat) : (beB n k).length = k := by
  induction k with
  | zero => rfl
  | succ k ih => rw [beB, List.length_cons, ih]
def headJ (num : Nat) (before : BitVec 64) (p : List UInt8) : List UInt8 := beB num 8 ++ beB before.toNat 8 ++ beB p.length 4 ++ p
def recJ (num : Nat) (before : BitVec 64) (p : List UInt8) : List UInt8 := headJ num before p ++ beB (sumJ (headJ num before p)).toNat 8
end Go.Proofs.Ytmcedodejnnkmaa
