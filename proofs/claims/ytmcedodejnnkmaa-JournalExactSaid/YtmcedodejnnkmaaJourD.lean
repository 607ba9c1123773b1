/-
  Plain laws of damage: one changed byte of a record is noticed. And '[]byte(s)'.
-/
import Derived.Test.YtmcedodejnnkmaaJourMade
namespace Go.Proofs.Ytmcedodejnnkmaa
open Go.RowKit

theorem mul_inj {a b : BitVec 64} (h : a * 1099511628211#64 = b * 1099511628211#64) : a = b := by
  have e : 1099511628211#64 * 14886173955864302971#64 = 1#64 := by decide
  have := congrArg (· * 14886173955864302971#64) h
  simp only [BitVec.mul_assoc, e, BitVec.mul_one] at this
  exact this
theorem xor_inj_l {a b c : BitVec 64} (h : a ^^^ c = b ^^^ c) : a = b := by
  have := congrArg (· ^^^ c) h
  simpa [BitVec.xor_assoc] using this
theorem fnv_state {a b : BitVec 64} {x : UInt8} (h : fnvStep a x = fnvStep b x) : a = b := xor_inj_l (mul_inj h)
theorem fnv_byte {a : BitVec 64} {x y : UInt8} (h : fnvStep a x = fnvStep a y) : x = y := by
  have h1 := mul_inj h
  have h2 : BitVec.ofNat 64 x.toNat = BitVec.ofNat 64 y.toNat := by
    rw [BitVec.xor_comm a, BitVec.xor_comm a] at h1
    exact xor_inj_l h1
  have h3 := congrArg BitVec.toNat h2
  have hx := x.toNat_lt
  have hy := y.toNat_lt
  rw [BitVec.toNat_ofNat, BitVec.toNat_ofNat, Nat.mod_eq_of_lt (by omega), Nat.mod_eq_of_lt (by omega)] at h3
  exact UInt8.toNat_inj.1 h3
theorem fnv_fold {l : List UInt8} : ∀ {a b : BitVec 64}, l.foldl fnvStep a = l.foldl fnvStep b → a = b := by
  induction l with
  | nil => intro a b h; exact h
  | cons x l ih => intro a b h; exact fnv_state (ih h)
theorem fnv_set {x : UInt8} : ∀ {l : List UInt8} {i : Nat} {a : BitVec 64} (hi : i < l.length), (l.set i x).foldl fnvStep a = l.foldl fnvStep a → x = l[i]
  | y :: l, 0, a, _, h => fnv_byte (fnv_fold h)
  | y :: l, i + 1, a, hi, h => by
    simp only [List.set_cons_succ, List.foldl_cons] at h
    simpa using fnv_set (by simpa using hi) h
theorem sum_set {x : UInt8} {l : List UInt8} {i : Nat} (hi : i < l.length) (hx : x ≠ l[i]) : sumJ (l.set i x) ≠ sumJ l := fun h => hx (fnv_set hi h)
/-- The number that bytes are, the highest first. -/
def valB : List UInt8 → Nat
  | [] => 0
  | x :: l => x.toNat * 256 ^ l.length + valB l
theorem valB_lt : ∀ l : List UInt8, valB l < 256 ^ l.length
  | [] => by simp [valB]
  | x :: l => by
    have := valB_lt l
    have hx := x.toNat_lt
    rw [valB, List.length_cons, Nat.pow_succ]
    have : x.toNat * 256 ^ l.length ≤ 255 * 256 ^ l.length := Nat.mul_le_mul_right _ (by omega)
    omega
theorem num_val : ∀ (l : List UInt8) (s : BitVec 64), (l.foldl numStep s).toNat = (s.toNat * 256 ^ l.length + valB l) % 18446744073709551616
  | [], s => by
    have := s.isLt
    simp [valB]; omega
  | x :: l, s => by
    rw [List.foldl_cons, num_val l, numStep_nat, valB, List.length_cons, Nat.pow_succ, Nat.mod_add_mod_mul]
where
  Nat.mod_add_mod_mul {s x q v : Nat} : ((s * 256 + x) % 18446744073709551616 * q + v) % 18446744073709551616 = (s * (q * 256) + (x * q + v)) % 18446744073709551616 := by
    rw [Nat.add_mod, Nat.mod_mul_mod, ← Nat.add_mod]
    congr 1
    rw [Nat.add_mul, Nat.mul_assoc, Nat.mul_comm 256 q]; omega
theorem num_eq {l : List UInt8} (h : l.length = 8) : (numJ l).toNat = valB l := by
  have := valB_lt l
  rw [numJ, num_val, h]
  rw [h] at this
  simp
  omega
theorem val_set {x : UInt8} : ∀ {l : List UInt8} {i : Nat} (hi : i < l.length), valB (l.set i x) = valB l → x = l[i]
  | y :: l, 0, _, h => by
    simp only [List.set_cons_zero, valB] at h
    have hp : 0 < 256 ^ l.length := Nat.pow_pos (by decide)
    have := Nat.eq_of_mul_eq_mul_right hp (Nat.add_right_cancel h)
    exact UInt8.toNat_inj.1 this
  | y :: l, i + 1, hi, h => by
    simp only [List.set_cons_succ, valB, List.length_set] at h
    have := Nat.add_left_cancel h
    simpa using val_set (by simpa using hi) this
theorem num_set {x : UInt8} {l : List UInt8} {i : Nat} (hl : l.length = 8) (hi : i < l.length) (hx : x ≠ l[i]) : numJ (l.set i x) ≠ numJ l := fun h => by
  have := congrArg BitVec.toNat h
  rw [num_eq (by simpa using hl), num_eq hl] at this
  exact hx (val_set hi this)

/-- A record with one byte changed, that is none of the four of the length, is no record. -/
theorem nextE_set (k : Nat) (b : BitVec 64) (p rest : List UInt8) (o : Nat) (x : UInt8) (hp : p.length ≤ 16384) (ho : o < (recJ (k + 1) b p).length) (hno : ¬ (16 ≤ o ∧ o < 20)) (hx : x ≠ (recJ (k + 1) b p)[o]) :
    nextE k b ((recJ (k + 1) b p).set o x ++ rest) ≠ 0 := by
  intro h0
  have hok := nextE_ok h0
  have hrl := rec_len (k + 1) b p
  have hll : longJ ((recJ (k + 1) b p).set o x ++ rest) = p.length := by
    rw [← rec_long (k + 1) b p rest (by omega), longJ, longJ]
    congr 2
    rw [← List.set_append_left _ _ ho, List.drop_set]
    split
    · rfl
    · rw [List.take_set, List.set_eq_of_length_le]
      rw [List.length_take, List.length_drop, List.length_append]; omega
  have hs := hok.2.2.2.1
  rw [lastJ, hll] at hs
  by_cases hh : o < 20 + p.length
  · have e1 : (((recJ (k + 1) b p).set o x ++ rest).drop (20 + p.length)).take 8 = beB (sumJ (headJ (k + 1) b p)).toNat 8 := by
      rw [← List.set_append_left _ _ ho, List.drop_set_of_lt hh, rec_sum]
    have e2 : ((recJ (k + 1) b p).set o x ++ rest).take (20 + p.length) = (headJ (k + 1) b p).set o x := by
      rw [← List.set_append_left _ _ ho, List.take_set, rec_head]
    rw [e1, e2, num8_bv] at hs
    refine sum_set (by rw [head_len]; exact hh) ?_ hs.symm
    intro e; apply hx; rw [e]
    simp only [recJ]
    rw [List.getElem_append_left]
  · have e1 : (((recJ (k + 1) b p).set o x ++ rest).drop (20 + p.length)).take 8 = (beB (sumJ (headJ (k + 1) b p)).toNat 8).set (o - (20 + p.length)) x := by
      rw [← List.set_append_left _ _ ho, List.drop_set, if_neg hh, List.take_set, rec_sum]
    have e2 : ((recJ (k + 1) b p).set o x ++ rest).take (20 + p.length) = headJ (k + 1) b p := by
      rw [← List.set_append_left _ _ ho, List.take_set, rec_head, List.set_eq_of_length_le (by rw [head_len]; omega)]
    rw [e1, e2] at hs
    have hs' := hs.trans (num8_bv (sumJ (headJ (k + 1) b p))).symm
    refine num_set (beB_len _ 8) (by rw [beB_len]; omega) ?_ hs'
    intro e; apply hx; rw [e]
    simp only [recJ]
    rw [List.getElem_append_right (by rw [head_len]; omega)]
    simp only [head_len]
/-- A journal with one byte changed. -/
theorem read_damage (ps qs : List (List UInt8)) (p : List UInt8) (o : Nat) (x : UInt8) (hs : Small (ps ++ p :: qs)) (hk : (ps ++ p :: qs).length ≤ 1024) (ho : o < 28 + p.length) (hno : ¬ (16 ≤ o ∧ o < 20))
    (hx : (chain 0 0#64 (ps ++ p :: qs))[(chain 0 0#64 ps).length + o]? ≠ some x) :
    (readJ ((chain 0 0#64 (ps ++ p :: qs)).set ((chain 0 0#64 ps).length + o) x)).err ≠ 0 ∧ (readJ ((chain 0 0#64 (ps ++ p :: qs)).set ((chain 0 0#64 ps).length + o) x)).recs.length = ps.length := by
  have hrl := rec_len (0 + ps.length + 1) (endSum 0 0#64 ps) p
  rw [chain_append, chain] at hx ⊢
  rw [List.getElem?_append_right (by omega), Nat.add_sub_cancel_left, List.getElem?_append_left (by omega), List.getElem?_eq_getElem (by omega)] at hx
  rw [List.set_append_right _ _ (by omega), Nat.add_sub_cancel_left, List.set_append_left _ _ (by omega)]
  rw [List.length_append, List.length_cons] at hk
  have hn := nextE_set (0 + ps.length) (endSum 0 0#64 ps) p (chain (0 + ps.length + 1) (sumJ (headJ (0 + ps.length + 1) (endSum 0 0#64 ps) p)) qs) o x (hs p (by simp)) (by omega) hno (fun e => hx (by rw [e]))
  rw [readJ, read_chain ps 0 0#64 _ _ (fun q hq => hs q (by simp [hq])) (by omega) (by omega)]
  simp only
  rw [readF, if_neg (by rw [List.length_append, List.length_set]; omega), if_pos hn]
  exact ⟨hn, by simp [recsOf_len]⟩

/-- '[]byte(s)': a new row of the string's bytes. -/
theorem run_bytes_ex (w : World) (s : ByteArray) (hs : s.size ≤ 1000000000) : ∃ (c : Nat) (W : World), (convert 9 31 (.string s)).run Try.prog w = .ok (.slice (some ⟨w.heap.size, 0, none⟩) s.size c) W ∧ s.size ≤ c ∧ c ≤ 9223372036854775807 ∧ Below w.heap.size w W ∧ W.heap.size = w.heap.size + 1 ∧
    (∀ i x, (toL s)[i]? = some x → W.cell? ⟨w.heap.size, i, none⟩ = some (.int .u8 x.toNat) ∧ W.frozen? ⟨w.heap.size, i, none⟩ = false) := by
  refine ⟨_, _, run_bytes_of_string w 9 31 5 s Try.underlying9 Try.underlying31 Try.underlying5, grownCap_ge _ _ _ _, grownCap_le_maxLen _ _ _ _ (by show s.size ≤ 9223372036854775807; omega), (Below.drew (Below.refl _ _)).alloc (Nat.le_refl _) _, by simp, ?_⟩
  intro i x hx
  have hi : i < s.data.size := by
    have := (List.getElem?_eq_some_iff.1 hx).1
    simpa [toL] using this
  have hxx : s.data[i] = x := by
    have := (List.getElem?_eq_some_iff.1 hx).2
    simpa [toL] using this
  have hh := heap_alloc_new w.drew (.cells (bytesRow s (grownCap w s.size 0 5)) 5 ((bytesRow s (grownCap w s.size 0 5)).size, (bytesRow s (grownCap w s.size 0 5)).size + 1))
  constructor
  · refine (cell_of_row _ _ _ _ _ _ hh).trans ?_
    rw [bytesRow, Array.getElem?_append_left (by simpa using hi)]
    rw [Array.getElem?_map, Array.getElem?_eq_getElem hi, hxx]; rfl
  · have hlt : i < (bytesRow s (grownCap w s.size 0 5)).size := by rw [bytesRow, Array.size_append, Array.size_map]; omega
    have hh' : (w.drew.alloc (.cells (bytesRow s (grownCap w s.size 0 5)) 5 ((bytesRow s (grownCap w s.size 0 5)).size, (bytesRow s (grownCap w s.size 0 5)).size + 1))).heap[w.heap.size]? = _ := hh
    simp only [World.frozen?, hh']
    simp; omega
theorem Sl.set_byte {W : World} {H n c k : Nat} {l : List UInt8} {x : UInt8} (hl : l.length = n) (hc : n ≤ c) (hm : c ≤ 9223372036854775807) (hcell : ∀ i y, l[i]? = some y → W.cell? ⟨H, i, none⟩ = some (.int .u8 y.toNat)) :
    Sl (W.setCell ⟨H, k, none⟩ (.int .u8 x.toNat)) (H + 1) 1 (some ⟨H, 0, none⟩) n c (bytesV (l.set k x)) := by
  refine ⟨?_, hc, hm, fun e => by (cases e), fun _ => ⟨H, 0, rfl, by omega, fun j u hu => ?_⟩⟩
  · rw [bytesV, flat_len (size := 1) (f := fun x : UInt8 => [Value.int .u8 x.toNat]) (fun _ => rfl), List.length_set, hl]
  · rw [Nat.zero_add]
    have hm : bytesV (l.set k x) = (l.set k x).map fun x => Value.int .u8 x.toNat := by
      unfold bytesV
      induction (l.set k x) with
      | nil => rfl
      | cons x l ih => rw [List.flatMap_cons, ih]; rfl
    rw [hm, List.getElem?_map, List.getElem?_set] at hu
    by_cases hk : k = j
    · subst hk
      rw [if_pos rfl] at hu
      by_cases hlt : k < l.length
      · rw [if_pos hlt] at hu
        simp at hu
        subst hu
        exact World.cell?_setCell_same _ _ _ (hcell k _ (List.getElem?_eq_getElem hlt))
      · rw [if_neg hlt] at hu; cases hu
    · rw [if_neg hk] at hu
      rw [World.cell?_setCell_other _ _ _ _ (fun e => hk (by injection e))]
      cases hj : l[j]? with
      | none => rw [hj] at hu; cases hu
      | some y => rw [hj] at hu; simp at hu; rw [← hu]; exact hcell j y hj
end Go.Proofs.Ytmcedodejnnkmaa
