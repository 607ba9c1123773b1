/-
  Plain functions of layer 9: a frame decodes to its telegram; the telegrams among bytes.
-/
import Derived.Test.YtjinhfomfbcnjaaTeleD
import Derived.Test.YtjinhfomfbcnjaaTeleC
namespace Go.Proofs.Ytjinhfomfbcnjaa
open Go.RowKit

theorem flatB_at {α : Type} {f : α → List UInt8} {size : Nat} (hf : ∀ x, (f x).length = size) : ∀ (l : List α) (k j : Nat) (x : α), l[k]? = some x → j < size → (l.flatMap f)[k * size + j]? = (f x)[j]?
  | [], k, j, x, h, _ => by simp at h
  | y :: l, 0, j, x, h, hj => by
    simp at h; subst h
    rw [List.flatMap_cons, Nat.zero_mul, Nat.zero_add, List.getElem?_append_left (by rw [hf]; exact hj)]
  | y :: l, k + 1, j, x, h, hj => by
    simp at h
    rw [List.flatMap_cons, List.getElem?_append_right (by rw [hf, Nat.succ_mul]; omega), hf, show (k + 1) * size + j - size = k * size + j from by rw [Nat.succ_mul]; omega]
    exact flatB_at hf l k j x h hj
theorem checkT_parts {st sq : Int} {l : List Item} (h : checkT st sq l = 0) : 0 ≤ st ∧ st ≤ 255 ∧ 0 ≤ sq ∧ sq ≤ 255 ∧ l.length ≤ 32 ∧ ∀ x ∈ l, itemErr x = 0 := by
  unfold checkT at h
  split at h
  · contradiction
  split at h
  · contradiction
  split at h
  · contradiction
  next h1 h2 h3 =>
  simp [octB] at h1 h2
  exact ⟨h1.1, h1.2, h2.1, h2.2, by omega, firstErr_zero h⟩
theorem itemErr_parts {x : Item} (h : itemErr x = 0) : 0 ≤ x.device ∧ x.device < 64 ∧ 0 ≤ x.point ∧ x.point ≤ 3 ∧ 0 ≤ x.time ∧ x.time < 16777216 := by
  unfold itemErr at h
  split at h
  · contradiction
  split at h
  · contradiction
  split at h
  · contradiction
  omega
theorem or128 : ∀ m : Nat, m < 4 → (UInt8.ofNat m ||| 128).toNat = m + 128 := by decide
theorem flag_val {x : Item} (h0 : 0 ≤ x.point) (h3 : x.point ≤ 3) : (x.flag.toNat : Int) = x.point + if x.invalid then 128 else 0 := by
  unfold Item.flag
  split
  · have e : u8 x.point = UInt8.ofNat x.point.toNat := by unfold u8; rw [Int.emod_eq_of_lt h0 (by omega)]
    rw [e, or128 _ (by omega)]; omega
  · rw [u8_toNat]; omega
theorem frame_at (st sq : Int) {l : List Item} {i : Nat} {x : Item} (hx : l[i]? = some x) (j : Nat) (hj : j < 5) : (frameT st sq l)[4 + 5 * i + j]? = x.bytes[j]? := by
  have hi := (List.getElem?_eq_some_iff.1 hx).1
  have hl := items_len l
  unfold frameT bodyT headT
  rw [List.getElem?_append_left (by rw [List.length_append, hl]; simp; omega), List.getElem?_append_right (by simp; omega)]
  have := flatB_at (f := Item.bytes) (size := 5) (fun _ => rfl) l i j x hx hj
  rw [← this]
  congr 1
  simp; omega
theorem frame_byte (st sq : Int) {l : List Item} {i : Nat} {x : Item} (hx : l[i]? = some x) (j : Nat) (hj : j < 5) : byteI (frameT st sq l) (4 + 5 * i + j) = ((x.bytes.getD j 0).toNat : Int) := by
  unfold byteI
  rw [List.getD_eq_getElem?_getD, frame_at st sq hx j hj, List.getD_eq_getElem?_getD]
theorem frame_size {st sq : Int} {l : List Item} (h : checkT st sq l = 0) (rest : List UInt8) : sizeT (frameT st sq l ++ rest) = 6 + 5 * l.length := by
  obtain ⟨_, _, _, _, hl, _⟩ := checkT_parts h
  have hlen := frame_len st sq l
  have hu : ((u8 l.length).toNat : Int) = l.length := by rw [u8_toNat]; omega
  have e3 : (frameT st sq l ++ rest).getD 3 0 = u8 l.length := by simp [frameT, bodyT, headT, List.getD_eq_getElem?_getD]
  have e0 : (frameT st sq l ++ rest).getD 0 0 = 104 := by simp [frameT, bodyT, headT, List.getD_eq_getElem?_getD]
  rw [sizeT, if_neg (by rw [List.length_append]; omega), e0, e3, if_neg (by simp), if_neg (by omega)]
  omega
theorem dec_frame {st sq : Int} {l : List Item} (h : checkT st sq l = 0) : decErr (frameT st sq l) = 0 ∧ decSt (frameT st sq l) = st ∧ decSq (frameT st sq l) = sq ∧ decL (frameT st sq l) = l := by
  obtain ⟨hs0, hs1, hq0, hq1, hl, hi⟩ := checkT_parts h
  have hlen := frame_len st sq l
  have hsz := frame_size h []
  rw [List.append_nil] at hsz
  have hu : ((u8 l.length).toNat : Int) = l.length := by rw [u8_toNat]; omega
  have e3 : countT (frameT st sq l) = l.length := by
    have : (frameT st sq l).getD 3 0 = u8 l.length := by simp [frameT, bodyT, headT]
    rw [countT, this]; omega
  have it : ∀ i x, l[i]? = some x → decItemErr (frameT st sq l) i = 0 ∧ decItem (frameT st sq l) i = x := by
    intro i x hx
    obtain ⟨p1, p2, p3, p4, p5, p6⟩ := itemErr_parts (hi x (List.mem_of_getElem? hx))
    have b0 : byteI (frameT st sq l) (4 + 5 * i) = x.device := by
      have := frame_byte st sq hx 0 (by decide)
      rw [Nat.add_zero] at this
      rw [this]; simp [Item.bytes, u8_toNat]; omega
    have b1 : byteI (frameT st sq l) (4 + 5 * i + 1) = x.point + if x.invalid then 128 else 0 := by
      rw [frame_byte st sq hx 1 (by decide)]; simp [Item.bytes]; exact flag_val p3 p4
    have b2 : byteI (frameT st sq l) (4 + 5 * i + 2) = x.time / 65536 := by
      rw [frame_byte st sq hx 2 (by decide)]; simp [Item.bytes, u8_toNat]; omega
    have b3 : byteI (frameT st sq l) (4 + 5 * i + 3) = x.time / 256 % 256 := by
      rw [frame_byte st sq hx 3 (by decide)]; simp [Item.bytes, u8_toNat]
    have b4 : byteI (frameT st sq l) (4 + 5 * i + 4) = x.time % 256 := by
      rw [frame_byte st sq hx 4 (by decide)]; simp [Item.bytes, u8_toNat]
    constructor
    · rw [decItemErr, b0, b1, if_neg (by omega), if_neg (by split <;> omega)]
    · rw [decItem, b0, b1, b2, b3, b4]
      obtain ⟨dv, pt, inv, tm⟩ := x
      simp only at *
      congr 1
      · split <;> omega
      · cases inv <;> simp <;> omega
      · omega
  have herr : decErr (frameT st sq l) = 0 := by
    rw [decErr, hlen, hsz, if_neg (by omega), if_neg (by omega), if_neg (by omega), if_neg (by omega), if_neg (by rw [frameT, crc_own]; decide), e3]
    exact firstI_zero _ fun j hj => (it j _ (List.getElem?_eq_getElem hj)).1
  refine ⟨herr, ?_, ?_, ?_⟩
  · rw [decSt, if_pos herr]
    have : (frameT st sq l).getD 1 0 = u8 st := by simp [frameT, bodyT, headT]
    rw [byteI, this, u8_toNat]; omega
  · rw [decSq, if_pos herr]
    have : (frameT st sq l).getD 2 0 = u8 sq := by simp [frameT, bodyT, headT]
    rw [byteI, this, u8_toNat]; omega
  · rw [decL, if_pos herr, e3]
    refine List.ext_getElem? fun i => ?_
    rcases Nat.lt_or_ge i l.length with hlt | hge
    · rw [decItems, List.getElem?_map, List.getElem?_range hlt]
      have hx := List.getElem?_eq_getElem hlt
      rw [hx]
      show some (decItem (frameT st sq l) i) = _
      rw [(it i _ hx).2]
    · rw [List.getElem?_eq_none (by rw [decItems_len]; exact hge), List.getElem?_eq_none hge]

structure Tele where
  st : Int
  sq : Int
  items : List Item
def decTele (l : List UInt8) : Tele := ⟨decSt l, decSq l, decL l⟩
/-- There is a frame at the beginning of l that decodes. -/
def hitB (l : List UInt8) : Bool := decide (0 < sizeT l) && decide (sizeT l ≤ l.length) && decide (decErr (l.take (sizeT l)) = 0)
theorem size_pos {l : List UInt8} (h : 0 < sizeT l) : 6 ≤ sizeT l ∧ sizeT l ≤ 166 ∧ 6 ≤ l.length := by
  unfold sizeT at h ⊢
  split at h
  · omega
  split at h
  · omega
  split at h
  · omega
  rw [if_neg (by assumption), if_neg (by assumption), if_neg (by assumption)]
  omega
def scanT (l : List UInt8) : List Tele × Nat :=
  if h : l = [] then ([], 0) else
    if hitB l = true then (decTele (l.take (sizeT l)) :: (scanT (l.drop (sizeT l))).1, (scanT (l.drop (sizeT l))).2)
    else ((scanT l.tail).1, (scanT l.tail).2 + 1)
termination_by l.length
decreasing_by
  all_goals
    have := List.length_pos_iff.2 h
    first
      | (rename_i hh; simp only [hitB, Bool.and_eq_true, decide_eq_true_eq] at hh; rw [List.length_drop]; omega)
      | (simp; omega)
theorem scan_nil : scanT [] = ([], 0) := by rw [scanT]; simp
theorem scan_hit {l : List UInt8} (hl : l ≠ []) (h : hitB l = true) : scanT l = (decTele (l.take (sizeT l)) :: (scanT (l.drop (sizeT l))).1, (scanT (l.drop (sizeT l))).2) := by
  rw [scanT, dif_neg hl, if_pos h]
theorem scan_miss {x : UInt8} {l : List UInt8} (h : hitB (x :: l) = false) : scanT (x :: l) = ((scanT l).1, (scanT l).2 + 1) := by
  rw [scanT, dif_neg (by simp), if_neg (by simp [h])]; rfl
theorem scan_frame {st sq : Int} {l : List Item} (h : checkT st sq l = 0) (rest : List UInt8) : scanT (frameT st sq l ++ rest) = (⟨st, sq, l⟩ :: (scanT rest).1, (scanT rest).2) := by
  have hs := frame_size h rest
  have hlen := frame_len st sq l
  obtain ⟨d0, d1, d2, d3⟩ := dec_frame h
  have ht : (frameT st sq l ++ rest).take (sizeT (frameT st sq l ++ rest)) = frameT st sq l := by rw [hs, ← hlen, List.take_left']; rfl
  have hd : (frameT st sq l ++ rest).drop (sizeT (frameT st sq l ++ rest)) = rest := by rw [hs, ← hlen, List.drop_left']; rfl
  rw [scan_hit, ht, hd, decTele, d1, d2, d3]
  · intro e
    have := congrArg List.length e
    simp [hlen] at this
  · rw [hitB, ht, d0, hs, List.length_append, hlen]
    simp; omega
theorem scan_noise {x : UInt8} (hx : x ≠ 104) (l : List UInt8) : scanT (x :: l) = ((scanT l).1, (scanT l).2 + 1) := by
  refine scan_miss ?_
  have : sizeT (x :: l) = 0 := by
    unfold sizeT
    split
    · rfl
    · rw [if_pos (by simpa using hx)]
  simp [hitB, this]
/-- No more telegrams than bytes. -/
theorem scan_le (l : List UInt8) : (scanT l).1.length + (scanT l).2 ≤ l.length := by
  generalize hn : l.length = n
  induction n using Nat.strongRecOn generalizing l with
  | ind n ih =>
    cases l with
    | nil => rw [scan_nil]; simp
    | cons x l =>
      by_cases h : hitB (x :: l) = true
      · rw [scan_hit (by simp) h]
        have hz : 0 < sizeT (x :: l) ∧ sizeT (x :: l) ≤ (x :: l).length := by simp [hitB] at h; simp; omega
        have := ih _ (by rw [← hn, List.length_drop]; omega) ((x :: l).drop (sizeT (x :: l))) rfl
        rw [List.length_drop] at this
        simp only [List.length_cons] at *
        omega
      · rw [scan_miss (by simpa using h)]
        have := ih l.length (by rw [← hn]; simp) l rfl
        simp only [List.length_cons] at *
        omega
end Go.Proofs.Ytjinhfomfbcnjaa
