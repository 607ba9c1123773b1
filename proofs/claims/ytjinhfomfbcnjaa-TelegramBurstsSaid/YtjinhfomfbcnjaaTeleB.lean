/-
  Plain facts on the checksum of layer 9: a change of bits within sixteen in a row changes it.
-/
import Derived.Test.YtjinhfomfbcnjaaTeleC
namespace Go.Proofs.Ytjinhfomfbcnjaa

def bitAt (l : List UInt8) (m : Nat) : Bool := (l.getD (m / 8) 0).toNat.testBit (7 - m % 8)
def stepB (s : BitVec 16) (b : Bool) : BitVec 16 := crcBit (s ^^^ (if b then 0x8000#16 else 0#16))
def crcRun (s : BitVec 16) (f : Nat → Bool) : Nat → BitVec 16
  | 0 => s
  | n + 1 => stepB (crcRun s f n) (f n)
theorem run_congr {s : BitVec 16} {f g : Nat → Bool} {n : Nat} (h : ∀ i, i < n → f i = g i) : crcRun s f n = crcRun s g n := by
  induction n with
  | zero => rfl
  | succ n ih => rw [crcRun, crcRun, ih fun i hi => h i (by omega), h n (by omega)]
theorem run_add (s : BitVec 16) (f : Nat → Bool) (m n : Nat) : crcRun s f (m + n) = crcRun (crcRun s f m) (fun i => f (m + i)) n := by
  induction n with
  | zero => rfl
  | succ n ih => rw [← Nat.add_assoc, crcRun, crcRun, ih]
theorem run_xor (s : BitVec 16) (f g : Nat → Bool) (n : Nat) : crcRun s (fun i => f i ^^ g i) n = crcRun s f n ^^^ crcRun 0#16 g n := by
  induction n with
  | zero => simp [crcRun]
  | succ n ih =>
    rw [crcRun, crcRun, crcRun, ih]
    unfold stepB
    rw [← crcBit_xor, ← xor_swap]
    congr 2
    cases f n <;> cases g n <;> decide
theorem run_base (s : BitVec 16) (f : Nat → Bool) (n : Nat) : crcRun s f n = crcBits n s ^^^ crcRun 0#16 f n := by
  induction n with
  | zero => simp [crcRun, crcBits]
  | succ n ih =>
    rw [crcRun, crcRun, ih, crcBits]
    unfold stepB
    rw [← crcBit_xor, BitVec.xor_assoc]
theorem byte_zero : ∀ x : Nat, x < 256 → crcBits 8 (BitVec.ofNat 16 x <<< 8) = crcRun 0#16 (fun i => x.testBit (7 - i)) 8 := by decide +kernel
theorem byte_run (s : BitVec 16) (x : UInt8) : crcByte s x = crcRun s (fun i => x.toNat.testBit (7 - i)) 8 := by
  rw [crcByte, crcBits_xor, run_base, byte_zero _ x.toNat_lt]
theorem crc_run (s : BitVec 16) (l : List UInt8) : crcFrom s l = crcRun s (bitAt l) (8 * l.length) := by
  induction l generalizing s with
  | nil => rfl
  | cons x l ih =>
    rw [List.length_cons, show 8 * (l.length + 1) = 8 + 8 * l.length from by omega, run_add, crcFrom, List.foldl_cons]
    have h1 : crcRun s (bitAt (x :: l)) 8 = crcByte s x := by
      rw [byte_run]
      refine run_congr fun i hi => ?_
      unfold bitAt
      rw [show i / 8 = 0 from by omega, show i % 8 = i from by omega]; rfl
    rw [h1]
    have h2 := ih (crcByte s x)
    rw [crcFrom] at h2
    rw [h2]
    refine run_congr fun i _ => ?_
    unfold bitAt
    rw [show (8 + i) / 8 = i / 8 + 1 from by omega, show (8 + i) % 8 = i % 8 from by omega]; rfl

/-- The window: the bits of V, the lowest first, from bit number b on. -/
def win (V b : Nat) (i : Nat) : Bool := decide (b ≤ i) && decide (i < b + 16) && V.testBit (i - b)
def place (V : Nat) : Nat → BitVec 16
  | 0 => 0#16
  | j + 1 => place V j ^^^ (if V.testBit j then 0x8000#16 >>> j else 0#16)
theorem run_quiet {g : Nat → Bool} {n : Nat} (h : ∀ i, i < n → g i = false) (s : BitVec 16) : crcRun s g n = crcBits n s := by
  induction n with
  | zero => rfl
  | succ n ih => rw [crcRun, ih fun i hi => h i (by omega), h n (by omega), crcBits]; unfold stepB; simp
theorem bits_zero (n : Nat) : crcBits n 0#16 = 0#16 := by
  induction n with
  | zero => rfl
  | succ n ih => rw [crcBits, ih, crcBit_zero]
theorem top_down : ∀ j : Nat, j < 16 → crcBits j (0x8000#16 >>> j) = 0x8000#16 := by decide +kernel
theorem run_win (V b j : Nat) (hj : j ≤ 16) : crcRun 0#16 (win V b) (b + j) = crcBits j (place V j) := by
  induction j with
  | zero =>
    rw [Nat.add_zero, run_quiet (fun i hi => by unfold win; simp; omega), bits_zero]; rfl
  | succ j ih =>
    rw [← Nat.add_assoc, crcRun, ih (by omega), crcBits, place, crcBits_xor]
    have hw : win V b (b + j) = V.testBit j := by unfold win; rw [show b + j - b = j from by omega]; simp; omega
    rw [hw]
    unfold stepB
    congr 2
    cases V.testBit j
    · simp [bits_zero]
    · simp only [if_true]; exact (top_down j (by omega)).symm
theorem place_bit (V j : Nat) (hj : j ≤ 16) (i : Nat) (hi : i < 16) : (place V j).getLsbD (15 - i) = (decide (i < j) && V.testBit i) := by
  induction j with
  | zero => simp [place]
  | succ j ih =>
    rw [place, BitVec.getLsbD_xor, ih (by omega)]
    have h8 : ∀ a : Nat, a < 16 → ∀ b : Nat, b < 16 → (0x8000#16 >>> a).getLsbD (15 - b) = decide (b = a) := by decide +kernel
    by_cases hb : V.testBit j = true
    · rw [if_pos hb, h8 j (by omega) i hi]
      by_cases e : i = j
      · subst e; simp [hb]
      · rw [decide_eq_false e, Bool.xor_false]
        congr 1
        rw [decide_eq_decide]; omega
    · rw [if_neg hb]
      by_cases e : i = j
      · subst e
        have : V.testBit i = false := by simpa using hb
        simp [this]
      · rw [show (0#16).getLsbD (15 - i) = false from BitVec.getLsbD_zero, Bool.xor_false]
        congr 1
        rw [decide_eq_decide]; omega
theorem place_ne (V : Nat) (hV : V < 65536) (h0 : V ≠ 0) : place V 16 ≠ 0#16 := by
  intro h
  apply h0
  apply Nat.eq_of_testBit_eq
  intro i
  rw [Nat.zero_testBit]
  by_cases hi : i < 16
  · have := place_bit V 16 (Nat.le_refl _) i hi
    rw [h] at this
    simpa [hi] using this.symm
  · exact Nat.testBit_lt_two_pow (Nat.lt_of_lt_of_le hV (Nat.pow_le_pow_right (n := 2) (i := 16) (by decide) (by omega)))
theorem run_burst (V b n : Nat) (hV : V < 65536) (h0 : V ≠ 0) (hn : b + 16 ≤ n) : crcRun 0#16 (win V b) n ≠ 0#16 := by
  intro h
  rw [show n = (b + 16) + (n - (b + 16)) from by omega, run_add, run_win V b 16 (Nat.le_refl _), run_quiet (fun i _ => by unfold win; simp; omega)] at h
  exact place_ne V hV h0 (crcBits_inj0 16 _ (crcBits_inj0 _ _ h))

/-- Bit number k of the bytes is turned. -/
def flipAt (l : List UInt8) (k : Nat) : List UInt8 := l.set (k / 8) (l.getD (k / 8) 0 ^^^ UInt8.ofNat (128 / 2 ^ (k % 8)))
def burst (l : List UInt8) (V b : Nat) : Nat → List UInt8
  | 0 => l
  | j + 1 => if V.testBit j then flipAt (burst l V b j) (b + j) else burst l V b j
theorem flip_len (l : List UInt8) (k : Nat) : (flipAt l k).length = l.length := by simp [flipAt]
theorem burst_len (l : List UInt8) (V b j : Nat) : (burst l V b j).length = l.length := by
  induction j with
  | zero => rfl
  | succ j ih => rw [burst]; split <;> simp [flip_len, ih]
theorem flip_bit (l : List UInt8) (k m : Nat) (hk : k < 8 * l.length) : bitAt (flipAt l k) m = (bitAt l m ^^ decide (m = k)) := by
  unfold bitAt flipAt
  have hmask : ∀ a : Nat, a < 8 → ∀ b : Nat, b < 8 → (128 / 2 ^ a).testBit (7 - b) = decide (b = a) := by decide +kernel
  have hofn : ∀ a : Nat, a < 8 → (UInt8.ofNat (128 / 2 ^ a)).toNat = 128 / 2 ^ a := by decide +kernel
  by_cases hq : m / 8 = k / 8
  · rw [hq]
    have hlt : k / 8 < l.length := by omega
    have e1 : (l.set (k / 8) (l.getD (k / 8) 0 ^^^ UInt8.ofNat (128 / 2 ^ (k % 8)))).getD (k / 8) 0 = l.getD (k / 8) 0 ^^^ UInt8.ofNat (128 / 2 ^ (k % 8)) := by
      rw [List.getD_eq_getElem?_getD, List.getElem?_set_self (by simpa using hlt)]; rfl
    rw [e1, UInt8.toNat_xor, Nat.testBit_xor, hofn _ (by omega), hmask _ (by omega) _ (by omega)]
    congr 1
    rw [decide_eq_decide]; omega
  · have e1 : (l.set (k / 8) (l.getD (k / 8) 0 ^^^ UInt8.ofNat (128 / 2 ^ (k % 8)))).getD (m / 8) 0 = l.getD (m / 8) 0 := by
      rw [List.getD_eq_getElem?_getD, List.getElem?_set_ne (fun e => hq e.symm), ← List.getD_eq_getElem?_getD]
    rw [e1, decide_eq_false (by intro e; subst e; exact hq rfl), Bool.xor_false]
theorem burst_bit (l : List UInt8) (V b j m : Nat) (hj : j ≤ 16) (hb : b + 16 ≤ 8 * l.length) : bitAt (burst l V b j) m = (bitAt l m ^^ (decide (b ≤ m) && decide (m < b + j) && V.testBit (m - b))) := by
  induction j with
  | zero => rw [burst, show (decide (b ≤ m) && decide (m < b + 0)) = false from by simp]; simp
  | succ j ih =>
    rw [burst]
    by_cases hv : V.testBit j = true
    · rw [if_pos hv, flip_bit _ _ _ (by rw [burst_len]; omega), ih (by omega)]
      by_cases e : m = b + j
      · subst e
        rw [show b + j - b = j from by omega, hv]; simp
      · rw [decide_eq_false e, Bool.xor_false]
        congr 2
        rw [Bool.eq_iff_iff]; simp; omega
    · rw [if_neg hv, ih (by omega)]
      by_cases e : m = b + j
      · subst e
        have : V.testBit j = false := by simpa using hv
        rw [show b + j - b = j from by omega, this]; simp
      · congr 2
        rw [Bool.eq_iff_iff]; simp; omega
/-- A change of bits within sixteen in a row changes the checksum. -/
theorem crc_burst (l : List UInt8) (V b : Nat) (hV : V < 65536) (h0 : V ≠ 0) (hb : b + 16 ≤ 8 * l.length) : crcAll (burst l V b 16) ≠ crcAll l := by
  unfold crcAll
  rw [crc_run, crc_run, burst_len, run_congr (g := fun i => bitAt l i ^^ win V b i) (fun i _ => burst_bit l V b 16 i (Nat.le_refl _) hb), run_xor]
  intro h
  apply run_burst V b (8 * l.length) hV h0 hb
  have h2 := congrArg (fun z => crcRun 65535#16 (bitAt l) (8 * l.length) ^^^ z) h
  simp only [← BitVec.xor_assoc, BitVec.xor_self, BitVec.zero_xor] at h2
  exact h2
end Go.Proofs.Ytjinhfomfbcnjaa
