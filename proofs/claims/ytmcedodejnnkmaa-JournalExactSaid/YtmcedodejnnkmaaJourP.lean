/-
  Plain laws of layer 32: records that were written are read back.
-/
import Derived.Test.YtmcedodejnnkmaaJourN
namespace Go.Proofs.Ytmcedodejnnkmaa

theorem numStep_nat (n : BitVec 64) (x : UInt8) : (numStep n x).toNat = (n.toNat * 256 + x.toNat) % 18446744073709551616 := by
  have hx : x.toNat < 256 := x.toNat_lt
  have hn := n.isLt
  rw [numStep, BitVec.toNat_or, BitVec.toNat_shiftLeft, BitVec.toNat_ofNat, Nat.shiftLeft_eq, Nat.mod_eq_of_lt (show x.toNat < 2 ^ 64 by omega), nat_join 8 _ _ (by omega) (by omega)]
  omega
theorem num_beB (N k : Nat) (s : BitVec 64) (h : s.toNat * 2 ^ (8 * k) + N % 2 ^ (8 * k) < 2 ^ 64) : ((beB N k).foldl numStep s).toNat = s.toNat * 2 ^ (8 * k) + N % 2 ^ (8 * k) := by
  induction k generalizing s with
  | zero => simp [beB, Nat.mod_one]
  | succ k ih =>
    rw [beB, List.foldl_cons]
    have hb : (UInt8.ofNat (N / 2 ^ (8 * k) % 256)).toNat = N / 2 ^ (8 * k) % 256 := by
      rw [UInt8.toNat_ofNat']; exact Nat.mod_eq_of_lt (Nat.mod_lt _ (by decide))
    have hpw : 2 ^ (8 * (k + 1)) = 2 ^ (8 * k) * 256 := by rw [show 8 * (k + 1) = 8 * k + 8 from by omega, Nat.pow_add]
    have hmod : N % 2 ^ (8 * (k + 1)) = N / 2 ^ (8 * k) % 256 * 2 ^ (8 * k) + N % 2 ^ (8 * k) := by
      rw [hpw, Nat.mod_mul, Nat.mul_comm (2 ^ (8 * k)), Nat.add_comm]
    have hle : s.toNat * 256 + N / 2 ^ (8 * k) % 256 < 18446744073709551616 := by
      have hp : 0 < 2 ^ (8 * k) := Nat.pos_of_ne_zero (by simp)
      have h1 : (s.toNat * 256 + N / 2 ^ (8 * k) % 256) * 2 ^ (8 * k) ≤ s.toNat * 2 ^ (8 * (k + 1)) + N % 2 ^ (8 * (k + 1)) := by
        rw [hmod, hpw, Nat.add_mul, Nat.mul_assoc, Nat.mul_comm 256]; omega
      have h2 := Nat.le_mul_of_pos_right (s.toNat * 256 + N / 2 ^ (8 * k) % 256) hp
      omega
    have hst : (numStep s (UInt8.ofNat (N / 2 ^ (8 * k) % 256))).toNat = s.toNat * 256 + N / 2 ^ (8 * k) % 256 := by
      rw [numStep_nat, hb]; exact Nat.mod_eq_of_lt hle
    have hfin : (s.toNat * 256 + N / 2 ^ (8 * k) % 256) * 2 ^ (8 * k) + N % 2 ^ (8 * k) = s.toNat * 2 ^ (8 * (k + 1)) + N % 2 ^ (8 * (k + 1)) := by
      rw [hmod, hpw, Nat.add_mul, Nat.mul_assoc, Nat.mul_comm 256]; omega
    rw [ih _ (by rw [hst, hfin]; exact h), hst, hfin]
theorem num8 (N : Nat) (h : N < 2 ^ 64) : (numJ (beB N 8)).toNat = N := by
  have := num_beB N 8 0#64 (by simp; omega)
  rw [numJ, this]; simp; omega
theorem num8_bv (b : BitVec 64) : numJ (beB b.toNat 8) = b := BitVec.eq_of_toNat_eq (num8 _ b.isLt)
theorem num4 (N : Nat) (h : N < 2 ^ 32) : (numJ (beB N 4)).toNat = N := by
  have := num_beB N 4 0#64 (by simp; omega)
  rw [numJ, this]; simp; omega

section
variable (n : Nat) (b : BitVec 64) (p rest : List UInt8)
theorem head_len : (headJ n b p).length = 20 + p.length := by simp only [headJ, List.length_append, beB_len]
theorem rec_len : (recJ n b p).length = 28 + p.length := by simp only [recJ, List.length_append, head_len, beB_len]; omega
theorem rec_take8 : (recJ n b p ++ rest).take 8 = beB n 8 := by
  simp only [recJ, headJ, List.append_assoc]
  rw [List.take_left' (beB_len _ _)]
theorem rec_before : ((recJ n b p ++ rest).drop 8).take 8 = beB b.toNat 8 := by
  simp only [recJ, headJ, List.append_assoc]
  rw [List.drop_left' (beB_len _ _), List.take_left' (beB_len _ _)]
theorem rec_long4 : ((recJ n b p ++ rest).drop 16).take 4 = beB p.length 4 := by
  simp only [recJ, headJ, List.append_assoc]
  rw [show (16 : Nat) = 8 + 8 from rfl, ← List.drop_drop, List.drop_left' (beB_len _ _), List.drop_left' (beB_len _ _), List.take_left' (beB_len _ _)]
theorem rec_long (hp : p.length < 2 ^ 32) : longJ (recJ n b p ++ rest) = p.length := by rw [longJ, rec_long4, num4 _ hp]
theorem rec_head : (recJ n b p ++ rest).take (20 + p.length) = headJ n b p := by
  rw [recJ, List.append_assoc, List.take_left' (head_len n b p)]
theorem rec_sum : ((recJ n b p ++ rest).drop (20 + p.length)).take 8 = beB (sumJ (headJ n b p)).toNat 8 := by
  rw [recJ, List.append_assoc, List.drop_left' (head_len n b p), List.take_left' (beB_len _ _)]
theorem rec_pay : ((recJ n b p ++ rest).drop 20).take p.length = p := by
  have : recJ n b p ++ rest = (beB n 8 ++ beB b.toNat 8 ++ beB p.length 4) ++ (p ++ (beB (sumJ (headJ n b p)).toNat 8 ++ rest)) := by
    simp only [recJ, headJ, List.append_assoc]
  rw [this, List.drop_left' (by simp only [List.length_append, beB_len]), List.take_left' rfl]
theorem rec_rest : (recJ n b p ++ rest).drop (28 + p.length) = rest := List.drop_left' (rec_len n b p)
end
/-- A record that fits is read. -/
theorem nextE_rec (k : Nat) (b : BitVec 64) (p rest : List UInt8) (hk : k < 1024) (hp : p.length ≤ 16384) : nextE k b (recJ (k + 1) b p ++ rest) = 0 := by
  have hl := rec_long (k + 1) b p rest (by omega)
  rw [nextE, if_neg (by omega), hl, if_neg (by rw [List.length_append, rec_len]; omega), if_neg (by omega), if_neg (by rw [List.length_append, rec_len]; omega), rec_sum, rec_head, num8_bv, if_neg (by simp), rec_take8, num8 _ (by omega), if_neg (by simp), rec_before, num8_bv, if_neg (by simp)]
/-- A record of another place, or behind another sum, is none of the chain. -/
theorem nextE_other (k n : Nat) (b b' : BitVec 64) (p rest : List UInt8) (hk : k < 1024) (hn : n ≤ 2000) (hp : p.length ≤ 16384) (hne : n ≠ k + 1) : nextE k b (recJ n b' p ++ rest) = 46 := by
  have hl := rec_long n b' p rest (by omega)
  rw [nextE, if_neg (by omega), hl, if_neg (by rw [List.length_append, rec_len]; omega), if_neg (by omega), if_neg (by rw [List.length_append, rec_len]; omega), rec_sum, rec_head, num8_bv, if_neg (by simp), rec_take8, num8 _ (by omega), if_pos hne]

/-- The journal of payloads behind k records, the sum of the last one. -/
def chain : Nat → BitVec 64 → List (List UInt8) → List UInt8
  | _, _, [] => []
  | k, b, p :: ps => recJ (k + 1) b p ++ chain (k + 1) (sumJ (headJ (k + 1) b p)) ps
def recsOf : Nat → BitVec 64 → List (List UInt8) → List Rec
  | _, _, [] => []
  | k, b, p :: ps => ⟨k + 1, b, p⟩ :: recsOf (k + 1) (sumJ (headJ (k + 1) b p)) ps
def endSum : Nat → BitVec 64 → List (List UInt8) → BitVec 64
  | _, b, [] => b
  | k, b, p :: ps => endSum (k + 1) (sumJ (headJ (k + 1) b p)) ps
theorem recsOf_len : ∀ (k : Nat) (b : BitVec 64) (ps : List (List UInt8)), (recsOf k b ps).length = ps.length
  | _, _, [] => rfl
  | k, b, p :: ps => by rw [recsOf, List.length_cons, recsOf_len, List.length_cons]
theorem recsOf_pay : ∀ (k : Nat) (b : BitVec 64) (ps : List (List UInt8)), (recsOf k b ps).map (·.payload) = ps
  | _, _, [] => rfl
  | k, b, p :: ps => by rw [recsOf, List.map_cons, recsOf_pay]
theorem recsOf_num : ∀ (k : Nat) (b : BitVec 64) (ps : List (List UInt8)) (i : Nat) (r : Rec), (recsOf k b ps)[i]? = some r → r.number = k + i + 1
  | _, _, [], i, r, h => by simp [recsOf] at h
  | k, b, p :: ps, 0, r, h => by simp [recsOf] at h; rw [← h]
  | k, b, p :: ps, i + 1, r, h => by
    rw [recsOf, List.getElem?_cons_succ] at h
    have := recsOf_num _ _ ps i r h
    omega
theorem chain_append : ∀ (k : Nat) (b : BitVec 64) (ps qs : List (List UInt8)), chain k b (ps ++ qs) = chain k b ps ++ chain (k + ps.length) (endSum k b ps) qs
  | k, b, [], qs => by simp [chain, endSum]
  | k, b, p :: ps, qs => by
    rw [List.cons_append, chain, chain, chain_append, endSum, List.append_assoc, List.length_cons, show k + 1 + ps.length = k + (ps.length + 1) from by omega]
theorem endSum_append : ∀ (k : Nat) (b : BitVec 64) (ps qs : List (List UInt8)), endSum k b (ps ++ qs) = endSum (k + ps.length) (endSum k b ps) qs
  | k, b, [], qs => by simp [endSum]
  | k, b, p :: ps, qs => by
    rw [List.cons_append, endSum, endSum_append, endSum, List.length_cons, show k + 1 + ps.length = k + (ps.length + 1) from by omega]
theorem recsOf_append : ∀ (k : Nat) (b : BitVec 64) (ps qs : List (List UInt8)), recsOf k b (ps ++ qs) = recsOf k b ps ++ recsOf (k + ps.length) (endSum k b ps) qs
  | k, b, [], qs => by simp [recsOf, endSum]
  | k, b, p :: ps, qs => by
    rw [List.cons_append, recsOf, recsOf, recsOf_append, endSum, List.length_cons, show k + 1 + ps.length = k + (ps.length + 1) from by omega]; rfl
def Small (ps : List (List UInt8)) : Prop := ∀ p ∈ ps, p.length ≤ 16384
/-- The records of a chain are read; what follows is read behind them. -/
theorem read_chain : ∀ (ps : List (List UInt8)) (k : Nat) (b : BitVec 64) (rest : List UInt8) (f : Nat), Small ps → k + ps.length ≤ 1024 → (chain k b ps ++ rest).length < f →
    readF f k b (chain k b ps ++ rest) = ⟨recsOf k b ps ++ (readF (rest.length + 1) (k + ps.length) (endSum k b ps) rest).recs, (chain k b ps).length + (readF (rest.length + 1) (k + ps.length) (endSum k b ps) rest).size, (readF (rest.length + 1) (k + ps.length) (endSum k b ps) rest).sum, (readF (rest.length + 1) (k + ps.length) (endSum k b ps) rest).err⟩
  | [], k, b, rest, f, _, _, hf => by
    simp only [chain, recsOf, endSum, List.nil_append, List.length_nil, Nat.add_zero, Nat.zero_add] at hf ⊢
    rw [readF_fuel f (rest.length + 1) _ _ _ hf (by omega)]
  | p :: ps, k, b, rest, 0, _, _, hf => by omega
  | p :: ps, k, b, rest, f + 1, hs, hk, hf => by
    simp only [List.length_cons] at hk
    have hp : p.length ≤ 16384 := hs p (by simp)
    have hrl := rec_len (k + 1) b p
    rw [chain, List.append_assoc] at hf ⊢
    have hlo := rec_long (k + 1) b p (chain (k + 1) (sumJ (headJ (k + 1) b p)) ps ++ rest) (by omega)
    rw [readF, if_neg (by rw [List.length_append, hrl]; omega), if_neg (by rw [nextE_rec k b p _ (by omega) hp]; simp), hlo, rec_rest]
    have hla : lastJ (recJ (k + 1) b p ++ (chain (k + 1) (sumJ (headJ (k + 1) b p)) ps ++ rest)) = sumJ (headJ (k + 1) b p) := by rw [lastJ, hlo, rec_sum, num8_bv]
    have hpa : payJ (recJ (k + 1) b p ++ (chain (k + 1) (sumJ (headJ (k + 1) b p)) ps ++ rest)) = p := by rw [payJ, hlo, rec_pay]
    rw [hla, hpa]
    rw [List.length_append, hrl] at hf
    rw [read_chain ps (k + 1) _ rest f (fun q hq => hs q (by simp [hq])) (by omega) (by omega)]
    rw [recsOf, endSum, List.length_cons, List.length_append, hrl, show k + 1 + ps.length = k + (ps.length + 1) from by omega]
    simp only [List.cons_append, Nat.add_assoc]
theorem readJ_chain (ps : List (List UInt8)) (hs : Small ps) (hk : ps.length ≤ 1024) : readJ (chain 0 0#64 ps) = ⟨recsOf 0 0#64 ps, (chain 0 0#64 ps).length, endSum 0 0#64 ps, 0⟩ := by
  have := read_chain ps 0 0#64 [] ((chain 0 0#64 ps).length + 1) hs (by omega) (by simp)
  rw [List.append_nil] at this
  rw [readJ, this]
  simp [readF]
theorem chain_len : ∀ (k : Nat) (b : BitVec 64) (ps : List (List UInt8)), (chain k b ps).length = (ps.map fun p => 28 + p.length).sum
  | _, _, [] => rfl
  | k, b, p :: ps => by rw [chain, List.length_append, rec_len, chain_len, List.map_cons, List.sum_cons]
end Go.Proofs.Ytmcedodejnnkmaa
