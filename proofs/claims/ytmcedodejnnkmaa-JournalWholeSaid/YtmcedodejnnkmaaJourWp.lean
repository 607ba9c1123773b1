/-
  Plain laws: the whole records of any bytes, and a record behind them.
-/
import Derived.Test.YtmcedodejnnkmaaJourTn
namespace Go.Proofs.Ytmcedodejnnkmaa

theorem part_append {α : Type} (l r : List α) (a b : Nat) (h : a + b ≤ l.length) : ((l ++ r).drop a).take b = (l.drop a).take b := by
  rw [List.drop_append_of_le_length (by omega), List.take_append_of_le_length (by rw [List.length_drop]; omega)]
theorem long_append (l r : List UInt8) (h : 20 ≤ l.length) : longJ (l ++ r) = longJ l := by rw [longJ, longJ, part_append l r 16 4 (by omega)]
theorem last_append (l r : List UInt8) (h : 28 + longJ l ≤ l.length) : lastJ (l ++ r) = lastJ l := by rw [lastJ, lastJ, long_append l r (by omega), part_append l r _ 8 (by omega)]
theorem pay_append (l r : List UInt8) (h : 28 + longJ l ≤ l.length) : payJ (l ++ r) = payJ l := by rw [payJ, payJ, long_append l r (by omega), part_append l r _ _ (by omega)]
theorem next_append (k : Nat) (s : BitVec 64) (l r : List UInt8) (h : 28 + longJ l ≤ l.length) : nextE k s (l ++ r) = nextE k s l := by
  have h8 : (l ++ r).take 8 = l.take 8 := List.take_append_of_le_length (by omega)
  have hh : (l ++ r).take (20 + longJ l) = l.take (20 + longJ l) := List.take_append_of_le_length (by omega)
  simp only [nextE]
  rw [long_append l r (by omega), part_append l r (20 + longJ l) 8 (by omega), part_append l r 8 8 (by omega), h8, hh, List.length_append]
  rw [if_neg (show ¬ (l.length + r.length < 20) by omega), if_neg (show ¬ (l.length < 20) by omega), if_neg (show ¬ (l.length + r.length < 28 + longJ l) by omega), if_neg (show ¬ (l.length < 28 + longJ l) by omega)]
theorem readF_nil (f k : Nat) (s : BitVec 64) : readF (f + 1) k s [] = ⟨[], 0, s, 0⟩ := by simp [readF]
theorem readF_go (f k : Nat) (s : BitVec 64) (l : List UInt8) (h0 : ¬ l.length = 0) (hn : nextE k s l = 0) : readF (f + 1) k s l =
    ⟨⟨k + 1, s, payJ l⟩ :: (readF f (k + 1) (lastJ l) (l.drop (28 + longJ l))).recs, 28 + longJ l + (readF f (k + 1) (lastJ l) (l.drop (28 + longJ l))).size, (readF f (k + 1) (lastJ l) (l.drop (28 + longJ l))).sum, (readF f (k + 1) (lastJ l) (l.drop (28 + longJ l))).err⟩ := by
  rw [readF, if_neg h0, if_neg (by simpa using hn)]
theorem readF_bad (f k : Nat) (s : BitVec 64) (l : List UInt8) (h0 : ¬ l.length = 0) (hn : ¬ nextE k s l = 0) : readF (f + 1) k s l = ⟨[], 0, s, nextE k s l⟩ := by
  rw [readF, if_neg h0, if_pos hn]
/-- Bytes that are whole records, and what follows. -/
theorem read_append : ∀ (f k : Nat) (sum : BitVec 64) (l rest : List UInt8) (g : Nat), (readF f k sum l).err = 0 → l.length < f → (l ++ rest).length < g →
    readF g k sum (l ++ rest) = ⟨(readF f k sum l).recs ++ (readF (rest.length + 1) (k + (readF f k sum l).recs.length) (readF f k sum l).sum rest).recs, l.length + (readF (rest.length + 1) (k + (readF f k sum l).recs.length) (readF f k sum l).sum rest).size, (readF (rest.length + 1) (k + (readF f k sum l).recs.length) (readF f k sum l).sum rest).sum, (readF (rest.length + 1) (k + (readF f k sum l).recs.length) (readF f k sum l).sum rest).err⟩
  | 0, _, _, _, _, _, _, hf, _ => by omega
  | f + 1, k, sum, l, rest, 0, _, _, hg => by omega
  | f + 1, k, sum, l, rest, g + 1, h, hf, hg => by
    by_cases h0 : l.length = 0
    · obtain rfl := List.eq_nil_of_length_eq_zero h0
      rw [readF_nil]
      simp only [List.length_nil, List.nil_append, Nat.add_zero, Nat.zero_add] at hg ⊢
      rw [readF_fuel (g + 1) (rest.length + 1) _ _ _ hg (by omega)]
    · by_cases hn : nextE k sum l = 0
      · rw [readF_go f k sum l h0 hn] at h ⊢
        simp only at h ⊢
        have hok := nextE_ok hn
        have hlo := hok.2.2.1
        rw [List.length_append] at hg
        rw [readF_go g k sum (l ++ rest) (by rw [List.length_append]; omega) (by rw [next_append k sum l rest hlo]; exact hn), last_append l rest hlo, pay_append l rest hlo, long_append l rest (by omega), List.drop_append_of_le_length (by omega)]
        have ih := read_append f (k + 1) (lastJ l) (l.drop (28 + longJ l)) rest g h (by rw [List.length_drop]; omega) (by rw [List.length_append, List.length_drop]; omega)
        rw [ih]
        generalize readF f (k + 1) (lastJ l) (l.drop (28 + longJ l)) = r at *
        simp only [List.length_cons, List.cons_append, List.length_drop, show k + 1 + r.recs.length = k + (r.recs.length + 1) by omega]
        congr 1
        omega
      · rw [readF, if_neg h0, if_pos (by simpa using hn)] at h
        exact absurd h hn
theorem readF_take : ∀ (f k : Nat) (sum : BitVec 64) (l : List UInt8) (g : Nat), l.length < f → (l.take (readF f k sum l).size).length < g →
    readF g k sum (l.take (readF f k sum l).size) = ⟨(readF f k sum l).recs, (readF f k sum l).size, (readF f k sum l).sum, 0⟩
  | 0, _, _, _, _, hf, _ => by omega
  | f + 1, k, sum, l, 0, _, hg => by omega
  | f + 1, k, sum, l, g + 1, hf, hg => by
    by_cases h0 : l.length = 0
    · obtain rfl := List.eq_nil_of_length_eq_zero h0
      rw [readF_nil, List.take_nil, readF_nil]
    · by_cases hn : nextE k sum l = 0
      · rw [readF_go f k sum l h0 hn] at hg ⊢
        simp only at hg ⊢
        have hok := nextE_ok hn
        have hlo := hok.2.2.1
        have hsz := readF_size f (k + 1) (lastJ l) (l.drop (28 + longJ l))
        rw [List.length_drop] at hsz
        generalize hr : readF f (k + 1) (lastJ l) (l.drop (28 + longJ l)) = r at *
        have hsp : l = l.take (28 + longJ l + r.size) ++ l.drop (28 + longJ l + r.size) := (List.take_append_drop _ _).symm
        have htl : (l.take (28 + longJ l + r.size)).length = 28 + longJ l + r.size := by rw [List.length_take]; omega
        have hl2 : longJ (l.take (28 + longJ l + r.size)) = longJ l := by
          conv => rhs; rw [hsp]
          rw [long_append _ _ (by rw [htl]; omega)]
        have hh : 28 + longJ (l.take (28 + longJ l + r.size)) ≤ (l.take (28 + longJ l + r.size)).length := by rw [hl2, htl]; omega
        have hn2 : nextE k sum (l.take (28 + longJ l + r.size)) = 0 := by
          rw [← next_append k sum _ (l.drop (28 + longJ l + r.size)) hh, ← hsp]; exact hn
        have hla : lastJ (l.take (28 + longJ l + r.size)) = lastJ l := by
          rw [← last_append _ (l.drop (28 + longJ l + r.size)) hh, ← hsp]
        have hpa : payJ (l.take (28 + longJ l + r.size)) = payJ l := by
          rw [← pay_append _ (l.drop (28 + longJ l + r.size)) hh, ← hsp]
        rw [htl] at hg
        have hdt : (l.take (28 + longJ l + r.size)).drop (28 + longJ l) = (l.drop (28 + longJ l)).take r.size := by
          rw [List.drop_take, show 28 + longJ l + r.size - (28 + longJ l) = r.size by omega]
        rw [readF_go g k sum _ (by rw [htl]; omega) hn2, hl2, hla, hpa, hdt]
        have ih := readF_take f (k + 1) (lastJ l) (l.drop (28 + longJ l)) g (by rw [List.length_drop]; omega)
        rw [hr] at ih
        rw [ih (by rw [List.length_take, List.length_drop]; omega)]
      · rw [readF_bad f k sum l h0 hn, List.take_zero, readF_nil]
/-- The whole records of any bytes are a journal. -/
theorem read_whole (l : List UInt8) : readJ (wholeJ l) = ⟨(readJ l).recs, (readJ l).size, (readJ l).sum, 0⟩ := by
  have := readF_take (l.length + 1) 0 0#64 l ((wholeJ l).length + 1) (by omega) (by show (wholeJ l).length < _; omega)
  exact this
theorem whole_len (l : List UInt8) : (wholeJ l).length = (readJ l).size := by
  have := readJ_size l
  rw [wholeJ, List.length_take]; omega
/-- A record is 28 bytes at least. -/
theorem recs_size : ∀ (f k : Nat) (sum : BitVec 64) (l : List UInt8), 28 * (readF f k sum l).recs.length ≤ (readF f k sum l).size
  | 0, _, _, _ => by simp [readF]
  | f + 1, k, sum, l => by
    rw [readF]
    split
    · simp
    · split
      · simp
      · have := recs_size f (k + 1) (lastJ l) (l.drop (28 + longJ l))
        simp only [List.length_cons]; omega
/-- A record that is appended to the whole records is read behind them. -/
theorem app_whole (l p : List UInt8) (hl : l.length ≤ 20000) (hp : p.length ≤ 16384) : appE (wholeJ l) p = 0 ∧ (appJ (wholeJ l) p).length ≤ l.length + 28 + p.length ∧
    (readJ (appJ (wholeJ l) p)).recs = (readJ l).recs ++ [⟨(readJ l).recs.length + 1, (readJ l).sum, p⟩] ∧ (readJ (appJ (wholeJ l) p)).err = 0 := by
  have hn : (readJ l).recs.length < 1024 := by
    have h1 := recs_size (l.length + 1) 0 0#64 l
    have h2 := readJ_size l
    have h3 : 28 * (readJ l).recs.length ≤ (readJ l).size := h1
    omega
  have hr := read_whole l
  have he : appE (wholeJ l) p = 0 := by
    rw [appE, hr]
    simp only
    rw [if_neg (by simp), if_neg (by omega), if_neg (by omega)]
  have hj : appJ (wholeJ l) p = wholeJ l ++ recJ ((readJ l).recs.length + 1) (readJ l).sum p := by
    rw [appJ, if_pos he, hr]
  have hb := whole_len l
  have hsz := readJ_size l
  have ha := read_append ((wholeJ l).length + 1) 0 0#64 (wholeJ l) (recJ ((readJ l).recs.length + 1) (readJ l).sum p) ((wholeJ l ++ recJ ((readJ l).recs.length + 1) (readJ l).sum p).length + 1) (by have := congrArg Read.err hr; exact this) (by omega) (by omega)
  have hr' : readF ((wholeJ l).length + 1) 0 0#64 (wholeJ l) = ⟨(readJ l).recs, (readJ l).size, (readJ l).sum, 0⟩ := hr
  rw [hr'] at ha
  simp only [Nat.zero_add] at ha
  have h1 := read_chain [p] (readJ l).recs.length (readJ l).sum [] ((recJ ((readJ l).recs.length + 1) (readJ l).sum p).length + 1) (fun q hq => by simp at hq; rw [hq]; exact hp) (by simp; omega) (by simp [chain])
  simp only [chain, List.append_nil, recsOf, endSum, List.length_nil, readF_nil] at h1
  rw [h1] at ha
  refine ⟨he, by rw [hj, List.length_append, rec_len]; omega, ?_, ?_⟩
  · rw [hj, readJ, ha]
  · rw [hj, readJ, ha]
end Go.Proofs.Ytmcedodejnnkmaa
