/-
  Plain functions of layer 32: the record with which bytes begin; what is read of bytes.
-/
import Derived.Test.YtmcedodejnnkmaaJourM
namespace Go.Proofs.Ytmcedodejnnkmaa

def longJ (l : List UInt8) : Nat := (numJ ((l.drop 16).take 4)).toNat
def nextE (k : Nat) (sum : BitVec 64) (l : List UInt8) : Int :=
  if k = 1024 then 1 else if l.length < 20 then 13 else if 16384 < longJ l then 1 else if l.length < 28 + longJ l then 13 else
  if numJ ((l.drop (20 + longJ l)).take 8) ≠ sumJ (l.take (20 + longJ l)) then 12 else if (numJ (l.take 8)).toNat ≠ k + 1 then 46 else if numJ ((l.drop 8).take 8) ≠ sum then 46 else 0
structure Rec where
  number : Nat
  before : BitVec 64
  payload : List UInt8
def payJ (l : List UInt8) : List UInt8 := (l.drop 20).take (longJ l)
def lastJ (l : List UInt8) : BitVec 64 := numJ ((l.drop (20 + longJ l)).take 8)
/-- What is read of bytes behind k records, the sum of the last one: the records, how many bytes they have, the sum of the last one, the error of what follows. -/
structure Read where
  recs : List Rec
  size : Nat
  sum : BitVec 64
  err : Int
def readF : Nat → Nat → BitVec 64 → List UInt8 → Read
  | 0, _, sum, _ => ⟨[], 0, sum, 0⟩
  | f + 1, k, sum, l =>
    if l.length = 0 then ⟨[], 0, sum, 0⟩ else
    if nextE k sum l ≠ 0 then ⟨[], 0, sum, nextE k sum l⟩ else
    let r := readF f (k + 1) (lastJ l) (l.drop (28 + longJ l))
    ⟨⟨k + 1, sum, payJ l⟩ :: r.recs, 28 + longJ l + r.size, r.sum, r.err⟩
def readJ (l : List UInt8) : Read := readF (l.length + 1) 0 0#64 l
theorem nextE_ok {k : Nat} {sum : BitVec 64} {l : List UInt8} (h : nextE k sum l = 0) : k ≠ 1024 ∧ longJ l ≤ 16384 ∧ 28 + longJ l ≤ l.length ∧ lastJ l = sumJ (l.take (20 + longJ l)) ∧ (numJ (l.take 8)).toNat = k + 1 ∧ numJ ((l.drop 8).take 8) = sum := by
  unfold nextE at h
  unfold lastJ
  split at h; · contradiction
  split at h; · contradiction
  split at h; · contradiction
  split at h; · contradiction
  split at h; · contradiction
  split at h; · contradiction
  split at h; · contradiction
  next h1 _ h3 h4 h5 h6 h7 => exact ⟨h1, by omega, by omega, by simpa using h5, by omega, by simpa using h7⟩
/-- More fuel than bytes changes nothing. -/
theorem readF_fuel : ∀ (f g k : Nat) (sum : BitVec 64) (l : List UInt8), l.length < f → l.length < g → readF f k sum l = readF g k sum l
  | 0, _, _, _, _, h, _ => absurd h (by omega)
  | _ + 1, 0, _, _, _, _, h => absurd h (by omega)
  | f + 1, g + 1, k, sum, l, hf, hg => by
    rw [readF, readF]
    split
    · rfl
    split
    · rfl
    next h0 he =>
      have := (nextE_ok (by simpa using he)).2.2.1
      rw [readF_fuel f g _ _ _ (by rw [List.length_drop]; omega) (by rw [List.length_drop]; omega)]
theorem readF_len : ∀ (f k : Nat) (sum : BitVec 64) (l : List UInt8), k ≤ 1024 → k + (readF f k sum l).recs.length ≤ 1024
  | 0, k, sum, l, h => by simpa [readF] using h
  | f + 1, k, sum, l, h => by
    rw [readF]
    split
    · simpa using h
    split
    · simpa using h
    next h0 he =>
      have := (nextE_ok (by simpa using he)).1
      have := readF_len f (k + 1) (lastJ l) (l.drop (28 + longJ l)) (by omega)
      simp only [List.length_cons]
      omega
theorem readJ_len (l : List UInt8) : (readJ l).recs.length ≤ 1024 := by
  have := readF_len (l.length + 1) 0 0#64 l (by decide)
  unfold readJ; omega
theorem readF_size : ∀ (f k : Nat) (sum : BitVec 64) (l : List UInt8), (readF f k sum l).size ≤ l.length
  | 0, k, sum, l => by simp [readF]
  | f + 1, k, sum, l => by
    rw [readF]
    split
    · simp
    split
    · simp
    next h0 he =>
      have h1 := (nextE_ok (by simpa using he)).2.2.1
      have h2 := readF_size f (k + 1) (lastJ l) (l.drop (28 + longJ l))
      rw [List.length_drop] at h2
      simp only
      omega
theorem readJ_size (l : List UInt8) : (readJ l).size ≤ l.length := readF_size _ _ _ _
end Go.Proofs.Ytmcedodejnnkmaa
