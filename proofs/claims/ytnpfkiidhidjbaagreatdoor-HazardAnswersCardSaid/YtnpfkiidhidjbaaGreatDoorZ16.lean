import Derived.Test.YtnpfkiidhidjbaaGreatDoorZ03
import Derived.Test.YtnpfkiidhidjbaaGreatDoorZ15
import Derived.Sort.OwnSortedInts
import Derived.Test.YtnpfkiidhidjbaaGreatDoorZ12
import Derived.Test.YtnpfkiidhidjbaaGreatDoorZ14
/-
 The library's Sort and Contains at integers, over a slice of the call's own.
-/
namespace Go.Proofs.YtnpfkiidhidjbaaGreatDoor
open Go.RowKit
def sortL (l : List Int) : List Int := l.mergeSort fun x y => decide (x ≤ y)
def hasB (l : List Int) (x : Int) : Bool := l.contains x
theorem hasB_iff (l : List Int) (x : Int) : hasB l x = true ↔ x ∈ l := by unfold hasB; simp
theorem hasB_not (l : List Int) (x : Int) : hasB l x = false ↔ x ∉ l := by rw [← hasB_iff]; simp
theorem sortL_perm (l : List Int) : (sortL l).Perm l := List.mergeSort_perm _ _
theorem sortL_mem (l : List Int) (x : Int) : x ∈ sortL l ↔ x ∈ l := (sortL_perm l).mem_iff
theorem sortL_len (l : List Int) : (sortL l).length = l.length := (sortL_perm l).length_eq
theorem sortL_sorted (l : List Int) : (sortL l).Pairwise (· ≤ ·) := by
 have h := List.pairwise_mergeSort (le := fun x y : Int => decide (x ≤ y)) (fun a b c h1 h2 => by simp at *; omega) (fun a b => by simp; omega) l
 exact h.imp (fun h => by simpa using h)
theorem sortL_nodup {l : List Int} (h : l.Nodup) : (sortL l).Nodup := (sortL_perm l).nodup_iff.2 h
theorem sort_any (A : Option Addr) (n c base : Nat) (l : List Int) (w : World) (h : IntsO w base A n c l) (hn : n ≤ 1000000) :
  Calls Tryz.prog 44 #[.slice A n c] w fun e w' => e = .returned (.tuple #[]) ∧ Hid (IntsO w' base A n c (sortL l)) ∧ Hid (w.grownBy w' (Value.slice A n c).ownBlock) := by
 have hl := h.len
 rcases h.2 with ⟨hv, h0⟩ | ⟨g, cap, cur, hv, hb, hh, hnc, hm, hs, ht⟩
 ·injection hv with h1 h2 h3
  subst h1 h3 h0
  have : l = [] := List.eq_nil_of_length_eq_zero hl
  subst this
  refine (Tryz.slices_Sort_int_none none 0 w).mono ?_
  rintro e w1 ⟨rfl, rfl⟩
  exact ⟨rfl, by unfold Hid sortL; simpa using h, grown_refl _ _⟩
 ·injection hv with h1 h2 h3
  subst h1 h3
  subst hl
  rw [Nat.mul_one, intsV_map] at ht
  refine (Tryz.slices_Sort_int g 0 c l w (holds_of_blockI hh ht) (h.lt g rfl).2 (by omega)).mono ?_
  rintro e w1 ⟨rfl, k, os, rfl⟩
  refine ⟨rfl, ?_, grownBy_sortedI _⟩
  have := ownsRow_sortedI (n := k) (os := os) (ss := l) (ts := sortL l) (sortL_len l) hb hh hnc hm hs
  unfold Hid IntsO
  rw [intsV_map]
  exact this
theorem contains_any (A : Option Addr) (n c B : Nat) (l : List Int) (x : Int) (w : World) (h : Sl w B 1 A n c (intsV l)) :
  Calls Tryz.prog 43 #[.slice A n c, .int .i64 x] w fun e w' => e = .returned (.bool (hasB l x)) ∧ w = w' := by
 have hl : l.length = n := h.len (fun _ => rfl) (by decide)
 have hle := h.le
 rcases Nat.eq_zero_or_pos n with rfl | h0
 ·have : l = [] := List.eq_nil_of_length_eq_zero hl
  subst this
  refine (Tryz.slices_Contains_int_empty A c x w).mono ?_
  rintro e w1 ⟨rfl, rfl⟩
  exact ⟨rfl, rfl⟩
 ·obtain ⟨b, off, e, hb, hc⟩ := h.2.2.2.2 h0
  subst e
  refine (Tryz.slices_Contains_int b off n c l x w (by omega) (by omega) (fun j hj => hc j _ ?_)).mono ?_
  ·have := flat_at (f := fun z => [Value.int .i64 z]) (size := 1) (fun _ => rfl) l j 0 _ (List.getElem?_eq_getElem hj) (by decide)
   rw [Nat.mul_one] at this
   rw [List.getD_eq_getElem?_getD, List.getElem?_eq_getElem hj]
   exact this
  ·rintro e w1 ⟨rfl, rfl⟩
   rw [List.take_of_length_le (by omega)]
   exact ⟨rfl, rfl⟩
end Go.Proofs.YtnpfkiidhidjbaaGreatDoor
/-
 Plain facts on masks: the unknown devices and all agreeing states.
-/
namespace Go.Proofs.YtnpfkiidhidjbaaGreatDoor
/-- The unknown devices among the first n. -/
def unkN (m : List Int) : Nat → List Nat
 | 0 => []
 | n + 1 => if m[n]? = some 3 then unkN m n ++ [n] else unkN m n
def cntN (m : List Int) (n : Nat) : Nat := (unkN m n).length
theorem cntN_le (m : List Int) (n : Nat) : cntN m n ≤ n := by
 unfold cntN
 induction n with
 | zero => exact Nat.le_refl _
 | succ n ih =>
  rw [unkN]; split
  ·simp; omega
  ·omega
theorem cntN_succ (m : List Int) (n : Nat) : cntN m (n + 1) = cntN m n + if m[n]? = some 3 then 1 else 0 := by
 unfold cntN; rw [unkN]; split <;> simp
theorem cntN_mono (m : List Int) {a b : Nat} (h : a ≤ b) : cntN m a ≤ cntN m b := by
 induction b with
 | zero => obtain rfl : a = 0 := by omega
           exact Nat.le_refl _
 | succ b ih =>
  rcases Nat.lt_or_ge a (b + 1) with h1 | h1
  ·have := ih (by omega); rw [cntN_succ]; omega
  ·obtain rfl : a = b + 1 := by omega
   exact Nat.le_refl _
theorem unkN_at (m : List Int) : ∀ (n j d : Nat), (unkN m n)[j]? = some d → m[d]? = some 3 ∧ d < n ∧ cntN m d = j
 | 0, j, d, h => by simp [unkN] at h
 | n + 1, j, d, h => by
  rw [unkN] at h
  split at h
  ·next h3 =>
   rw [List.getElem?_append] at h
   split at h
   ·have := unkN_at m n j d h; exact ⟨this.1, by omega, this.2.2⟩
   ·next hj =>
    have hz : j - (unkN m n).length = 0 := by
     rcases Nat.eq_zero_or_pos (j - (unkN m n).length) with h0 | h0
     ·exact h0
     ·rw [List.getElem?_eq_none (by simp; omega)] at h; cases h
    rw [hz] at h
    simp at h
    subst h
    exact ⟨h3, by omega, by unfold cntN; omega⟩
  ·have := unkN_at m n j d h; exact ⟨this.1, by omega, this.2.2⟩
theorem cntN_inj {m : List Int} {d e : Nat} (hd : m[d]? = some 3) (he : m[e]? = some 3) (h : cntN m d = cntN m e) : d = e := by
 rcases Nat.lt_trichotomy d e with hlt | rfl | hlt
 ·have := cntN_mono m (show d + 1 ≤ e by omega)
  rw [cntN_succ, if_pos hd] at this; omega
 ·rfl
 ·have := cntN_mono m (show e + 1 ≤ d by omega)
  rw [cntN_succ, if_pos he] at this; omega
theorem cntN_lt {m : List Int} {d n : Nat} (hd : m[d]? = some 3) (h : d < n) : cntN m d < cntN m n := by
 have := cntN_mono m (show d + 1 ≤ n by omega)
 rw [cntN_succ, if_pos hd] at this; omega
/-- The states that agree with the first n masks. -/
def nextL (x : Option Int) (o : List Int) : List (List Int) := if x = some 3 then [o ++ [1], o ++ [2]] else [o ++ [x.getD 0]]
def allN (m : List Int) : Nat → List (List Int)
 | 0 => [[]]
 | n + 1 => (allN m n).flatMap (nextL m[n]?)
def allOf (m : List Int) : List (List Int) := allN m m.length
def AgrN (m : List Int) (n : Nat) (s : List Int) : Prop := s.length = n ∧ ∀ d, d < n → (m[d]? = some 3 → s[d]? = some 1 ∨ s[d]? = some 2) ∧ (m[d]? ≠ some 3 → s[d]? = some (m.getD d 0))
theorem getD_opt (m : List Int) (d : Nat) : m[d]?.getD 0 = m.getD d 0 := by rw [List.getD_eq_getElem?_getD]
theorem mem_allN (m : List Int) : ∀ (n : Nat) (s : List Int), s ∈ allN m n ↔ AgrN m n s
 | 0, s => by
  simp only [allN, List.mem_singleton, AgrN]
  constructor
  ·rintro rfl; exact ⟨rfl, fun d hd => by omega⟩
  ·rintro ⟨h, _⟩; exact List.eq_nil_of_length_eq_zero h
 | n + 1, s => by
  simp only [allN, List.mem_flatMap]
  constructor
  ·rintro ⟨o, ho, hs⟩
   obtain ⟨hl, ha⟩ := (mem_allN m n o).1 ho
   have old : ∀ x : Int, AgrN m n o → ∀ d, d < n → (m[d]? = some 3 → (o ++ [x])[d]? = some 1 ∨ (o ++ [x])[d]? = some 2) ∧ (m[d]? ≠ some 3 → (o ++ [x])[d]? = some (m.getD d 0)) := by
    intro x _ d hd
    rw [List.getElem?_append_left (by omega)]
    exact ha d hd
   have newest : ∀ x : Int, (o ++ [x])[n]? = some x := by
    intro x; rw [List.getElem?_append_right (by omega), hl, Nat.sub_self]; rfl
   unfold nextL at hs
   split at hs
   ·next h3 =>
    simp only [List.mem_cons, List.not_mem_nil, or_false] at hs
    rcases hs with rfl | rfl
    ·refine ⟨by simp [hl], fun d hd => ?_⟩
     rcases Nat.lt_succ_iff_lt_or_eq.1 hd with h | rfl
     ·exact old 1 ⟨hl, ha⟩ d h
     ·exact ⟨fun _ => .inl (newest 1), fun h => absurd h3 h⟩
    ·refine ⟨by simp [hl], fun d hd => ?_⟩
     rcases Nat.lt_succ_iff_lt_or_eq.1 hd with h | rfl
     ·exact old 2 ⟨hl, ha⟩ d h
     ·exact ⟨fun _ => .inr (newest 2), fun h => absurd h3 h⟩
   ·next h3 =>
    simp only [List.mem_cons, List.not_mem_nil, or_false] at hs
    subst hs
    refine ⟨by simp [hl], fun d hd => ?_⟩
    rcases Nat.lt_succ_iff_lt_or_eq.1 hd with h | rfl
    ·exact old _ ⟨hl, ha⟩ d h
    ·exact ⟨fun h => absurd h h3, fun _ => by rw [newest, getD_opt]⟩
  ·rintro ⟨hl, ha⟩
   have e : s = s.take n ++ [s.getD n 0] := by
    have h1 : s.take (n + 1) = s := List.take_of_length_le (by omega)
    rw [List.take_add_one, List.getElem?_eq_getElem (by omega)] at h1
    rw [List.getD_eq_getElem?_getD, List.getElem?_eq_getElem (by omega)]
    exact h1.symm
   refine ⟨s.take n, (mem_allN m n _).2 ⟨by simp; omega, fun d hd => ?_⟩, ?_⟩
   ·rw [List.getElem?_take, if_pos hd]; exact ha d (by omega)
   ·have hn := ha n (by omega)
    unfold nextL
    split
    ·next h3 =>
     rcases hn.1 h3 with h | h
     ·rw [show s.getD n 0 = 1 by rw [List.getD_eq_getElem?_getD, h]; rfl] at e
      rw [← e]; simp
     ·rw [show s.getD n 0 = 2 by rw [List.getD_eq_getElem?_getD, h]; rfl] at e
      rw [← e]; simp
    ·next h3 =>
     have h := hn.2 h3
     rw [show s.getD n 0 = m.getD n 0 by rw [List.getD_eq_getElem?_getD, h]; rfl] at e
     rw [getD_opt, ← e]; simp
/-- The k-th of these states, by the bits of k. -/
def valN (m : List Int) (n k d : Nat) : Int := if m[d]? = some 3 then 1 + ((k >>> (cntN m n - 1 - cntN m d)) % 2 : Nat) else m.getD d 0
def stN (m : List Int) (n k : Nat) : List Int := (List.range n).map (valN m n k)
theorem range_two (n : Nat) : List.range (2 * n) = (List.range n).flatMap fun k => [2 * k, 2 * k + 1] := by
 induction n with
 | zero => rfl
 | succ n ih =>
  rw [show 2 * (n + 1) = 2 * n + 1 + 1 by omega, List.range_succ, List.range_succ, ih, List.range_succ, List.flatMap_append]
  simp
theorem allN_eq (m : List Int) : ∀ n, allN m n = (List.range (2 ^ cntN m n)).map (stN m n)
 | 0 => by simp [allN, cntN, unkN, stN]
 | n + 1 => by
  rw [allN, allN_eq m n, List.flatMap_map]
  by_cases h3 : m[n]? = some 3
  ·have hc : cntN m (n + 1) = cntN m n + 1 := by rw [cntN_succ, if_pos h3]
   rw [hc, Nat.pow_succ, Nat.mul_comm, range_two, List.map_flatMap]
   congr 1
   funext k
   have step : ∀ b, b < 2 → stN m (n + 1) (2 * k + b) = stN m n k ++ [1 + (b : Int)] := by
    intro b hb
    unfold stN
    rw [List.range_succ, List.map_append]
    congr 1
    ·apply List.map_congr_left
     intro d hd
     have hd := List.mem_range.1 hd
     unfold valN
     split
     ·next h =>
      have := cntN_lt h hd
      rw [hc, show cntN m n + 1 - 1 - cntN m d = (cntN m n - 1 - cntN m d) + 1 by omega, Nat.shiftRight_add, Nat.shiftRight_eq_div_pow, Nat.shiftRight_eq_div_pow, Nat.shiftRight_eq_div_pow]
      rw [Nat.div_div_eq_div_mul, Nat.mul_comm (2 ^ _) (2 ^ 1), ← Nat.div_div_eq_div_mul, show (2 * k + b) / 2 ^ 1 = k by omega]
     ·rfl
    ·simp only [List.map_cons, List.map_nil, valN, if_pos h3, hc]
     rw [show cntN m n + 1 - 1 - cntN m n = 0 by omega, Nat.shiftRight_zero, show (2 * k + b) % 2 = b by omega]
   simp only [nextL, h3, if_true, List.map_cons, List.map_nil]
   rw [show 2 * k = 2 * k + 0 from rfl, step 0 (by omega), step 1 (by omega)]
   rfl
  ·have hc : cntN m (n + 1) = cntN m n := by rw [cntN_succ, if_neg h3]; rfl
   rw [hc]
   simp only [nextL, if_neg h3]
   rw [← List.map_eq_flatMap]
   apply List.map_congr_left
   intro k _
   unfold stN
   rw [List.range_succ, List.map_append]
   congr 1
   ·apply List.map_congr_left
    intro d _
    unfold valN; rw [hc]
   ·simp only [List.map_cons, List.map_nil, valN, if_neg h3, getD_opt]
theorem allN_len (m : List Int) (n : Nat) : (allN m n).length = 2 ^ cntN m n := by rw [allN_eq]; simp
theorem allN_get (m : List Int) {n k : Nat} (hk : k < 2 ^ cntN m n) : (allN m n)[k]? = some (stN m n k) := by rw [allN_eq, List.getElem?_map, List.getElem?_range hk]; rfl
/-- What mask.All has laid behind j of the unknown ones. -/
def Filled (m : List Int) (k j : Nat) (l : List Int) : Prop := l.length = m.length ∧ ∀ d, d < m.length → l[d]? = some (if m[d]? = some 3 ∧ cntN m d < j then valN m m.length k d else m.getD d 0)
theorem Filled.start (m : List Int) (k : Nat) : Filled m k 0 m := ⟨rfl, fun d hd => by rw [if_neg (by omega), List.getD_eq_getElem?_getD, List.getElem?_eq_getElem hd]; rfl⟩
theorem Filled.step {m l : List Int} {k j d : Nat} (h : Filled m k j l) (hd : (unkN m m.length)[j]? = some d) : Filled m k (j + 1) (l.set d (1 + ((k >>> (cntN m m.length - 1 - j)) % 2 : Nat))) := by
 obtain ⟨h3, hlt, hc⟩ := unkN_at m _ _ _ hd
 refine ⟨by simp [h.1], fun e he => ?_⟩
 rw [List.getElem?_set]
 by_cases hde : d = e
 ·subst hde
  rw [if_pos rfl, if_pos (by rw [h.1]; exact he), if_pos ⟨h3, by omega⟩]
  unfold valN; rw [if_pos h3, hc]
 ·rw [if_neg hde, h.2 e he]
  congr 1
  by_cases h3e : m[e]? = some 3
  ·have : cntN m e ≠ j := fun hh => hde (cntN_inj h3 h3e (by omega))
   by_cases hlt2 : cntN m e < j
   ·rw [if_pos ⟨h3e, hlt2⟩, if_pos ⟨h3e, by omega⟩]
   ·rw [if_neg (fun x => hlt2 x.2), if_neg (fun x => by omega)]
  ·rw [if_neg (fun x => h3e x.1), if_neg (fun x => h3e x.1)]
theorem Filled.done {m l : List Int} {k : Nat} (h : Filled m k (cntN m m.length) l) : l = stN m m.length k := by
 apply List.ext_getElem?
 intro d
 by_cases hd : d < m.length
 ·rw [h.2 d hd]
  unfold stN
  rw [List.getElem?_map, List.getElem?_range hd]
  simp only [Option.map_some, Option.some.injEq]
  by_cases h3 : m[d]? = some 3
  ·rw [if_pos ⟨h3, cntN_lt h3 hd⟩]
  ·rw [if_neg (fun x => h3 x.1)]; unfold valN; rw [if_neg h3]
 ·rw [List.getElem?_eq_none (by rw [h.1]; omega), List.getElem?_eq_none (by unfold stN; simp; omega)]
end Go.Proofs.YtnpfkiidhidjbaaGreatDoor
/-
 Layer 13, plain: the hazards of an operation.
-/
namespace Go.Proofs.YtnpfkiidhidjbaaGreatDoor
open Go.RowKit
theorem sortL_is {a l : List Int} (h : l.Perm a) (hs : l.Pairwise (· ≤ ·)) : sortL a = l :=
 List.Perm.eq_of_pairwise (le := fun x y : Int => x ≤ y) (fun _ _ _ _ h1 h2 => Int.le_antisymm h1 h2) (sortL_sorted a) hs ((sortL_perm a).trans h.symm)
def lockB (ls : List Lk) (d : Int) : Bool := ls.any fun k => decide (k.dev = d)
/-- An end of a line is live. -/
def lvE (c : List Int) (x : Dv) : Bool := liveB (bits .or .i64 (c.getD x.a.toNat 0) (c.getD x.b.toNat 0))
/-- A device of a kind may not do an operation with a duty. -/
def badB (kd p du : Int) (lv : Bool) : Bool := if kd = 3 then decide (du = 2) || decide (du = 3) || decide (du = 4) else if kd = 1 then lv else if kd = 4 then decide (p = 1) && decide (du = 4) else if kd = 6 then decide (p = 2) && decide (du = 3) else decide (kd = 5)
def LostP (ns : List Nd) (ds : List Dv) (s s2 : List Int) : Prop := ∃ (k : Nat) (y : Nd), ns[k]? = some y ∧ 0 < y.cust ∧ Sup ds s k ∧ ¬ Sup ds s2 k
open Classical in
noncomputable def lostB (ns : List Nd) (ds : List Dv) (s s2 : List Int) : Bool := decide (LostP ns ds s s2)
def pickH (b : Bool) (h : Int) : List Int := if b = true then [h] else []
/-- The hazards, ascending. -/
def hzL (f1 f2 f3 f4 f5 f6 f7 : Bool) : List Int := pickH f1 1 ++ pickH f2 2 ++ pickH f3 3 ++ pickH f4 4 ++ pickH f5 5 ++ pickH f6 6 ++ pickH f7 7
theorem pickH_mem (b : Bool) (h x : Int) : x ∈ pickH b h ↔ x = h ∧ b = true := by cases b <;> simp [pickH]
theorem hzL_mem (f1 f2 f3 f4 f5 f6 f7 : Bool) (x : Int) : x ∈ hzL f1 f2 f3 f4 f5 f6 f7 ↔ x = 1 ∧ f1 = true ∨ x = 2 ∧ f2 = true ∨ x = 3 ∧ f3 = true ∨ x = 4 ∧ f4 = true ∨ x = 5 ∧ f5 = true ∨ x = 6 ∧ f6 = true ∨ x = 7 ∧ f7 = true := by
 simp only [hzL, List.mem_append, pickH_mem, or_assoc]
theorem hzL_range {f1 f2 f3 f4 f5 f6 f7 : Bool} {x : Int} (h : x ∈ hzL f1 f2 f3 f4 f5 f6 f7) : 1 ≤ x ∧ x ≤ 7 := by
 rw [hzL_mem] at h; omega
theorem pickH_len (b : Bool) (h : Int) : (pickH b h).length ≤ 1 := by cases b <;> simp [pickH]
theorem hzL_len (f1 f2 f3 f4 f5 f6 f7 : Bool) : (hzL f1 f2 f3 f4 f5 f6 f7).length ≤ 7 := by
 have h1 := pickH_len f1 1; have h2 := pickH_len f2 2; have h3 := pickH_len f3 3; have h4 := pickH_len f4 4; have h5 := pickH_len f5 5; have h6 := pickH_len f6 6; have h7 := pickH_len f7 7
 simp only [hzL, List.length_append]; omega
/-- What a list of found hazards says. -/
def fndL (fs : List (Int × Bool)) : List Int := (fs.filter (·.2)).map (·.1)
theorem fnd3 (a b c : Bool) : sortL (fndL [(4, a), (6, b), (7, c)]) = hzL false false false a false b c := by
 cases a <;> cases b <;> cases c <;> exact sortL_is (by decide) (by decide)
theorem fnd6 (a b c d e f : Bool) : sortL (fndL [(4, a), (6, b), (1, c), (2, d), (3, e), (5, f)]) = hzL c d e a f b false := by
 cases a <;> cases b <;> cases c <;> cases d <;> cases e <;> cases f <;> exact sortL_is (by decide) (by decide)
/-- The hazards of an operation in a valid state. -/
noncomputable def hzAt (nn : Nat) (ns : List Nd) (ds : List Dv) (s : List Int) (d : Nat) (p co : Int) (ls : List Lk) (pr : List Int) (x : Dv) : List Int :=
 if s.getD d 0 = p then hzL false false false (lockB ls d) false ((x.comp != co)) true
 else hzL (decide (p = 2) && decide (dutyAt nn ns ds s d x = 4)) (badB x.kind p (dutyAt nn ns ds s d x) (lvE (colsOf nn ds s) x)) (lostB ns ds s (withL s d p)) (lockB ls d) (decide (p = 2) && decide (x.kind = 4) && !hasB pr x.a) ((x.comp != co)) false
theorem hzAt_range {nn : Nat} {ns : List Nd} {ds : List Dv} {s : List Int} {d : Nat} {p co : Int} {ls : List Lk} {pr : List Int} {x : Dv} {h : Int} (hh : h ∈ hzAt nn ns ds s d p co ls pr x) : 1 ≤ h ∧ h ≤ 7 := by
 unfold hzAt at hh; split at hh <;> exact hzL_range hh
theorem hzAt_len (nn : Nat) (ns : List Nd) (ds : List Dv) (s : List Int) (d : Nat) (p co : Int) (ls : List Lk) (pr : List Int) (x : Dv) : (hzAt nn ns ds s d p co ls pr x).length ≤ 7 := by
 unfold hzAt; split <;> exact hzL_len _ _ _ _ _ _ _
/-- The hazards over masks: ascending, each once. -/
def MayP (nn : Nat) (ns : List Nd) (ds : List Dv) (l : List (List Int)) (md : Int) (d : Nat) (p co : Int) (ls : List Lk) (pr : List Int) (x : Dv) (h : Int) : Prop := ∃ s ∈ l, h ∈ hzAt nn ns ds s d p co ls pr x ∧ (h ≠ 7 ∨ md = p)
def SetL (F : Int → Prop) (out : List Int) : Prop := out.Nodup ∧ out.Pairwise (· ≤ ·) ∧ ∀ h : Int, h ∈ out ↔ F h
theorem SetL.unique {F : Int → Prop} {a b : List Int} (h : SetL F a) (k : SetL F b) : a = b := by
 rw [← sortL_is (List.Perm.refl a) h.2.1]
 exact sortL_is ((List.perm_ext_iff_of_nodup k.1 h.1).2 fun x => (k.2.2 x).trans (h.2.2 x).symm) k.2.1
end Go.Proofs.YtnpfkiidhidjbaaGreatDoor
