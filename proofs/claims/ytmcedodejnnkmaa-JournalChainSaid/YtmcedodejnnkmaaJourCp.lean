/-
  Plain law of JournalChain: records that were exchanged, left out or repeated.
-/
import Derived.Test.YtmcedodejnnkmaaJourBk
namespace Go.Proofs.Ytmcedodejnnkmaa

/-- The records' bytes, one by one. -/
def recB : Nat → BitVec 64 → List (List UInt8) → List (List UInt8)
  | _, _, [] => []
  | k, b, p :: ps => recJ (k + 1) b p :: recB (k + 1) (sumJ (headJ (k + 1) b p)) ps
theorem recB_flat : ∀ (k : Nat) (b : BitVec 64) (ps : List (List UInt8)), (recB k b ps).flatten = chain k b ps
  | _, _, [] => rfl
  | k, b, p :: ps => by rw [recB, chain, List.flatten_cons, recB_flat]
theorem recB_len : ∀ (k : Nat) (b : BitVec 64) (ps : List (List UInt8)), (recB k b ps).length = ps.length
  | _, _, [] => rfl
  | k, b, p :: ps => by rw [recB, List.length_cons, recB_len, List.length_cons]
theorem recB_append : ∀ (k : Nat) (b : BitVec 64) (ps qs : List (List UInt8)), recB k b (ps ++ qs) = recB k b ps ++ recB (k + ps.length) (endSum k b ps) qs
  | k, b, [], qs => by simp [recB, endSum]
  | k, b, p :: ps, qs => by
    rw [List.cons_append, recB, recB, recB_append, endSum, List.length_cons, List.cons_append, show k + 1 + ps.length = k + (ps.length + 1) by omega]
theorem recB_take (ps : List (List UInt8)) (m : Nat) (hm : m ≤ ps.length) : (recB 0 0#64 ps).take m = recB 0 0#64 (ps.take m) := by
  conv => lhs; rw [← List.take_append_drop m ps, recB_append]
  rw [List.take_append_of_le_length (by rw [recB_len, List.length_take]; omega), List.take_of_length_le (by rw [recB_len, List.length_take]; omega)]
theorem recB_at {ps : List (List UInt8)} {j : Nat} {p : List UInt8} (h : ps[j]? = some p) : (recB 0 0#64 ps)[j]? = some (recJ (j + 1) (endSum 0 0#64 (ps.take j)) p) := by
  have hj : j < ps.length := (List.getElem?_eq_some_iff.1 h).1
  have hl : (ps.take j).length = j := by rw [List.length_take]; omega
  conv => lhs; rw [split_at h, recB_append]
  rw [List.getElem?_append_right (by rw [recB_len, hl]; omega), recB_len, hl, Nat.sub_self, recB]
  simp
/-- The bytes behind the records so far. -/
theorem recB_rest {ps : List (List UInt8)} {i : Nat} {p : List UInt8} (h : ps[i]? = some p) : (chain 0 0#64 (ps.take (i + 1))).drop (pfx ps i) = recJ (i + 1) (endSum 0 0#64 (ps.take i)) p := by
  have hi : i < ps.length := (List.getElem?_eq_some_iff.1 h).1
  rw [take_snoc h, chain_append, pfx, List.drop_left', chain, chain, List.append_nil, List.length_take, Nat.min_eq_left (by omega), Nat.zero_add]
  rfl
theorem recB_snoc {ps : List (List UInt8)} {i : Nat} {p : List UInt8} (h : ps[i]? = some p) : recB 0 0#64 (ps.take (i + 1)) = recB 0 0#64 (ps.take i) ++ [recJ (i + 1) (endSum 0 0#64 (ps.take i)) p] := by
  have hi : i < ps.length := (List.getElem?_eq_some_iff.1 h).1
  rw [take_snoc h, recB_append, recB, recB, List.length_take, Nat.min_eq_left (by omega), Nat.zero_add]
/-- A list of records that are those of the chain up to place m, where another one stands. -/
theorem bent_read (ps : List (List UInt8)) (R : List (List UInt8)) (m n : Nat) (b : BitVec 64) (q : List UInt8) (hs : Small ps) (hn : ps.length ≤ 1000) (hm : m ≤ ps.length) (ht : R.take m = (recB 0 0#64 ps).take m) (hr : R[m]? = some (recJ n b q)) (hnm : n ≠ m + 1) (hn2 : n ≤ 2000) (hq : q ∈ ps) :
    (readJ R.flatten).recs.length = m ∧ (readJ R.flatten).err = 46 := by
  have hml : m < R.length := (List.getElem?_eq_some_iff.1 hr).1
  have hrm : R[m] = recJ n b q := (List.getElem?_eq_some_iff.1 hr).2
  have hR : R = recB 0 0#64 (ps.take m) ++ recJ n b q :: R.drop (m + 1) := by
    conv => lhs; rw [← List.take_append_drop m R, ht, recB_take ps m hm, List.drop_eq_getElem_cons hml, hrm]
  have hfl : R.flatten = chain 0 0#64 (ps.take m) ++ (recJ n b q ++ (R.drop (m + 1)).flatten) := by
    conv => lhs; rw [hR]
    rw [List.flatten_append, List.flatten_cons, recB_flat]
  have hl : (ps.take m).length = m := by rw [List.length_take]; omega
  have hqs := hs q hq
  have hne := nextE_other (0 + m) n (endSum 0 0#64 (ps.take m)) b q (R.drop (m + 1)).flatten (by omega) hn2 hqs (by omega)
  rw [hfl, readJ, read_chain (ps.take m) 0 0#64 _ _ (fun x hx => hs x (List.mem_of_mem_take hx)) (by omega) (by omega), hl]
  rw [readF, if_neg (by rw [List.length_append, rec_len]; omega), if_pos (by rw [hne]; decide), hne]
  simp [recsOf_len, hl]
end Go.Proofs.Ytmcedodejnnkmaa
