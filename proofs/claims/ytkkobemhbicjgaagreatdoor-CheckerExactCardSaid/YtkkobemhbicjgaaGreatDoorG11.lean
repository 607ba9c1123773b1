import Derived.Test.YtkkobemhbicjgaaGreatDoorG03
import Derived.Lib.Hide
import Derived.Test.YtkkobemhbicjgaaGreatDoorG02
import Derived.Deep.LoopGhost
namespace Go.Proofs.YtkkobemhbicjgaaGreatDoor
def unkN (m : List Int) : Nat → List Nat
 | 0 => []
 | n + 1 => if m[n]? = some 3 then unkN m n ++ [n] else unkN m n
def cntN (m : List Int) (n : Nat) : Nat := (unkN m n).length
theorem cntN_le (m : List Int) (n : Nat) : cntN m n ≤ n := by
 unfold cntN
 induction n with
 | zero => exact Nat.le_refl _
 | succ n ih =>
  rw [unkN]; split
  ·simp; omega
  ·omega
theorem cntN_succ (m : List Int) (n : Nat) : cntN m (n + 1) = cntN m n + if m[n]? = some 3 then 1 else 0 := by
 unfold cntN; rw [unkN]; split <;> simp
theorem cntN_mono (m : List Int) {a b : Nat} (h : a ≤ b) : cntN m a ≤ cntN m b := by
 induction b with
 | zero => obtain rfl : a = 0 := by omega
           exact Nat.le_refl _
 | succ b ih =>
  rcases Nat.lt_or_ge a (b + 1) with h1 | h1
  ·have := ih (by omega); rw [cntN_succ]; omega
  ·obtain rfl : a = b + 1 := by omega
   exact Nat.le_refl _
theorem unkN_at (m : List Int) : ∀ (n j d : Nat), (unkN m n)[j]? = some d → m[d]? = some 3 ∧ d < n ∧ cntN m d = j
 | 0, j, d, h => by simp [unkN] at h
 | n + 1, j, d, h => by
  rw [unkN] at h
  split at h
  ·next h3 =>
   rw [List.getElem?_append] at h
   split at h
   ·have := unkN_at m n j d h; exact ⟨this.1, by omega, this.2.2⟩
   ·next hj =>
    have hz : j - (unkN m n).length = 0 := by
     rcases Nat.eq_zero_or_pos (j - (unkN m n).length) with h0 | h0
     ·exact h0
     ·rw [List.getElem?_eq_none (by simp; omega)] at h; cases h
    rw [hz] at h
    simp at h
    subst h
    exact ⟨h3, by omega, by unfold cntN; omega⟩
  ·have := unkN_at m n j d h; exact ⟨this.1, by omega, this.2.2⟩
theorem cntN_inj {m : List Int} {d e : Nat} (hd : m[d]? = some 3) (he : m[e]? = some 3) (h : cntN m d = cntN m e) : d = e := by
 rcases Nat.lt_trichotomy d e with hlt | rfl | hlt
 ·have := cntN_mono m (show d + 1 ≤ e by omega)
  rw [cntN_succ, if_pos hd] at this; omega
 ·rfl
 ·have := cntN_mono m (show e + 1 ≤ d by omega)
  rw [cntN_succ, if_pos he] at this; omega
theorem cntN_lt {m : List Int} {d n : Nat} (hd : m[d]? = some 3) (h : d < n) : cntN m d < cntN m n := by
 have := cntN_mono m (show d + 1 ≤ n by omega)
 rw [cntN_succ, if_pos hd] at this; omega
def nextL (x : Option Int) (o : List Int) : List (List Int) := if x = some 3 then [o ++ [1], o ++ [2]] else [o ++ [x.getD 0]]
def allN (m : List Int) : Nat → List (List Int)
 | 0 => [[]]
 | n + 1 => (allN m n).flatMap (nextL m[n]?)
def allOf (m : List Int) : List (List Int) := allN m m.length
def AgrN (m : List Int) (n : Nat) (s : List Int) : Prop := s.length = n ∧ ∀ d, d < n → (m[d]? = some 3 → s[d]? = some 1 ∨ s[d]? = some 2) ∧ (m[d]? ≠ some 3 → s[d]? = some (m.getD d 0))
theorem getD_opt (m : List Int) (d : Nat) : m[d]?.getD 0 = m.getD d 0 := by rw [List.getD_eq_getElem?_getD]
theorem mem_allN (m : List Int) : ∀ (n : Nat) (s : List Int), s ∈ allN m n ↔ AgrN m n s
 | 0, s => by
  simp only [allN, List.mem_singleton, AgrN]
  constructor
  ·rintro rfl; exact ⟨rfl, fun d hd => by omega⟩
  ·rintro ⟨h, _⟩; exact List.eq_nil_of_length_eq_zero h
 | n + 1, s => by
  simp only [allN, List.mem_flatMap]
  constructor
  ·rintro ⟨o, ho, hs⟩
   obtain ⟨hl, ha⟩ := (mem_allN m n o).1 ho
   have old : ∀ x : Int, AgrN m n o → ∀ d, d < n → (m[d]? = some 3 → (o ++ [x])[d]? = some 1 ∨ (o ++ [x])[d]? = some 2) ∧ (m[d]? ≠ some 3 → (o ++ [x])[d]? = some (m.getD d 0)) := by
    intro x _ d hd
    rw [List.getElem?_append_left (by omega)]
    exact ha d hd
   have newest : ∀ x : Int, (o ++ [x])[n]? = some x := by
    intro x; rw [List.getElem?_append_right (by omega), hl, Nat.sub_self]; rfl
   unfold nextL at hs
   split at hs
   ·next h3 =>
    simp only [List.mem_cons, List.not_mem_nil, or_false] at hs
    rcases hs with rfl | rfl
    ·refine ⟨by simp [hl], fun d hd => ?_⟩
     rcases Nat.lt_succ_iff_lt_or_eq.1 hd with h | rfl
     ·exact old 1 ⟨hl, ha⟩ d h
     ·exact ⟨fun _ => .inl (newest 1), fun h => absurd h3 h⟩
    ·refine ⟨by simp [hl], fun d hd => ?_⟩
     rcases Nat.lt_succ_iff_lt_or_eq.1 hd with h | rfl
     ·exact old 2 ⟨hl, ha⟩ d h
     ·exact ⟨fun _ => .inr (newest 2), fun h => absurd h3 h⟩
   ·next h3 =>
    simp only [List.mem_cons, List.not_mem_nil, or_false] at hs
    subst hs
    refine ⟨by simp [hl], fun d hd => ?_⟩
    rcases Nat.lt_succ_iff_lt_or_eq.1 hd with h | rfl
    ·exact old _ ⟨hl, ha⟩ d h
    ·exact ⟨fun h => absurd h h3, fun _ => by rw [newest, getD_opt]⟩
  ·rintro ⟨hl, ha⟩
   have e : s = s.take n ++ [s.getD n 0] := by
    have h1 : s.take (n + 1) = s := List.take_of_length_le (by omega)
    rw [List.take_add_one, List.getElem?_eq_getElem (by omega)] at h1
    rw [List.getD_eq_getElem?_getD, List.getElem?_eq_getElem (by omega)]
    exact h1.symm
   refine ⟨s.take n, (mem_allN m n _).2 ⟨by simp; omega, fun d hd => ?_⟩, ?_⟩
   ·rw [List.getElem?_take, if_pos hd]; exact ha d (by omega)
   ·have hn := ha n (by omega)
    unfold nextL
    split
    ·next h3 =>
     rcases hn.1 h3 with h | h
     ·rw [show s.getD n 0 = 1 by rw [List.getD_eq_getElem?_getD, h]; rfl] at e
      rw [← e]; simp
     ·rw [show s.getD n 0 = 2 by rw [List.getD_eq_getElem?_getD, h]; rfl] at e
      rw [← e]; simp
    ·next h3 =>
     have h := hn.2 h3
     rw [show s.getD n 0 = m.getD n 0 by rw [List.getD_eq_getElem?_getD, h]; rfl] at e
     rw [getD_opt, ← e]; simp
def valN (m : List Int) (n k d : Nat) : Int := if m[d]? = some 3 then 1 + ((k >>> (cntN m n - 1 - cntN m d)) % 2 : Nat) else m.getD d 0
def stN (m : List Int) (n k : Nat) : List Int := (List.range n).map (valN m n k)
theorem range_two (n : Nat) : List.range (2 * n) = (List.range n).flatMap fun k => [2 * k, 2 * k + 1] := by
 induction n with
 | zero => rfl
 | succ n ih =>
  rw [show 2 * (n + 1) = 2 * n + 1 + 1 by omega, List.range_succ, List.range_succ, ih, List.range_succ, List.flatMap_append]
  simp
theorem allN_eq (m : List Int) : ∀ n, allN m n = (List.range (2 ^ cntN m n)).map (stN m n)
 | 0 => by simp [allN, cntN, unkN, stN]
 | n + 1 => by
  rw [allN, allN_eq m n, List.flatMap_map]
  by_cases h3 : m[n]? = some 3
  ·have hc : cntN m (n + 1) = cntN m n + 1 := by rw [cntN_succ, if_pos h3]
   rw [hc, Nat.pow_succ, Nat.mul_comm, range_two, List.map_flatMap]
   congr 1
   funext k
   have step : ∀ b, b < 2 → stN m (n + 1) (2 * k + b) = stN m n k ++ [1 + (b : Int)] := by
    intro b hb
    unfold stN
    rw [List.range_succ, List.map_append]
    congr 1
    ·apply List.map_congr_left
     intro d hd
     have hd := List.mem_range.1 hd
     unfold valN
     split
     ·next h =>
      have := cntN_lt h hd
      rw [hc, show cntN m n + 1 - 1 - cntN m d = (cntN m n - 1 - cntN m d) + 1 by omega, Nat.shiftRight_add, Nat.shiftRight_eq_div_pow, Nat.shiftRight_eq_div_pow, Nat.shiftRight_eq_div_pow]
      rw [Nat.div_div_eq_div_mul, Nat.mul_comm (2 ^ _) (2 ^ 1), ← Nat.div_div_eq_div_mul, show (2 * k + b) / 2 ^ 1 = k by omega]
     ·rfl
    ·simp only [List.map_cons, List.map_nil, valN, if_pos h3, hc]
     rw [show cntN m n + 1 - 1 - cntN m n = 0 by omega, Nat.shiftRight_zero, show (2 * k + b) % 2 = b by omega]
   simp only [nextL, h3, if_true, List.map_cons, List.map_nil]
   rw [show 2 * k = 2 * k + 0 from rfl, step 0 (by omega), step 1 (by omega)]
   rfl
  ·have hc : cntN m (n + 1) = cntN m n := by rw [cntN_succ, if_neg h3]; rfl
   rw [hc]
   simp only [nextL, if_neg h3]
   rw [← List.map_eq_flatMap]
   apply List.map_congr_left
   intro k _
   unfold stN
   rw [List.range_succ, List.map_append]
   congr 1
   ·apply List.map_congr_left
    intro d _
    unfold valN; rw [hc]
   ·simp only [List.map_cons, List.map_nil, valN, if_neg h3, getD_opt]
theorem allN_len (m : List Int) (n : Nat) : (allN m n).length = 2 ^ cntN m n := by rw [allN_eq]; simp
theorem allN_get (m : List Int) {n k : Nat} (hk : k < 2 ^ cntN m n) : (allN m n)[k]? = some (stN m n k) := by rw [allN_eq, List.getElem?_map, List.getElem?_range hk]; rfl
def Filled (m : List Int) (k j : Nat) (l : List Int) : Prop := l.length = m.length ∧ ∀ d, d < m.length → l[d]? = some (if m[d]? = some 3 ∧ cntN m d < j then valN m m.length k d else m.getD d 0)
theorem Filled.start (m : List Int) (k : Nat) : Filled m k 0 m := ⟨rfl, fun d hd => by rw [if_neg (by omega), List.getD_eq_getElem?_getD, List.getElem?_eq_getElem hd]; rfl⟩
theorem Filled.step {m l : List Int} {k j d : Nat} (h : Filled m k j l) (hd : (unkN m m.length)[j]? = some d) : Filled m k (j + 1) (l.set d (1 + ((k >>> (cntN m m.length - 1 - j)) % 2 : Nat))) := by
 obtain ⟨h3, hlt, hc⟩ := unkN_at m _ _ _ hd
 refine ⟨by simp [h.1], fun e he => ?_⟩
 rw [List.getElem?_set]
 by_cases hde : d = e
 ·subst hde
  rw [if_pos rfl, if_pos (by rw [h.1]; exact he), if_pos ⟨h3, by omega⟩]
  unfold valN; rw [if_pos h3, hc]
 ·rw [if_neg hde, h.2 e he]
  congr 1
  by_cases h3e : m[e]? = some 3
  ·have : cntN m e ≠ j := fun hh => hde (cntN_inj h3 h3e (by omega))
   by_cases hlt2 : cntN m e < j
   ·rw [if_pos ⟨h3e, hlt2⟩, if_pos ⟨h3e, by omega⟩]
   ·rw [if_neg (fun x => hlt2 x.2), if_neg (fun x => by omega)]
  ·rw [if_neg (fun x => h3e x.1), if_neg (fun x => h3e x.1)]
theorem Filled.done {m l : List Int} {k : Nat} (h : Filled m k (cntN m m.length) l) : l = stN m m.length k := by
 apply List.ext_getElem?
 intro d
 by_cases hd : d < m.length
 ·rw [h.2 d hd]
  unfold stN
  rw [List.getElem?_map, List.getElem?_range hd]
  simp only [Option.map_some, Option.some.injEq]
  by_cases h3 : m[d]? = some 3
  ·rw [if_pos ⟨h3, cntN_lt h3 hd⟩]
  ·rw [if_neg (fun x => h3 x.1)]; unfold valN; rw [if_neg h3]
 ·rw [List.getElem?_eq_none (by rw [h.1]; omega), List.getElem?_eq_none (by unfold stN; simp; omega)]
end Go.Proofs.YtkkobemhbicjgaaGreatDoor
namespace Go.Proofs.YtkkobemhbicjgaaGreatDoor
section
variable {P : Program} {ops : Array Oper} {Q : Exit → Act → World → Prop} {S : World → Prop} {J : List Nat}
end
end Go.Proofs.YtkkobemhbicjgaaGreatDoor
namespace Go.Proofs.YtkkobemhbicjgaaGreatDoor
open Go.RowKit
def lkp : List (Nat × Value) → Nat → Value → Value
 | [], _, d => d
 | (k, v) :: L, n, d => if n = k then v else lkp L n d
theorem lkp_hit {k : Nat} {v d : Value} {L : List (Nat × Value)} : lkp ((k, v) :: L) k d = v := if_pos rfl
theorem lkp_base {k : Nat} {u d : Value} (h : d = u) : lkp [] k d = u := h
theorem miss1 {n k : Nat} {u v d : Value} {L : List (Nat × Value)} (h : Nat.beq n k = false) (r : lkp L n d = u) : lkp ((k, v) :: L) n d = u := (if_neg (fun e => by rw [e, Nat.beq_refl] at h; cases h)).trans r
theorem miss4 {n k1 k2 k3 k4 : Nat} {u v1 v2 v3 v4 d : Value} {L : List (Nat × Value)} (h1 : Nat.beq n k1 = false) (h2 : Nat.beq n k2 = false) (h3 : Nat.beq n k3 = false) (h4 : Nat.beq n k4 = false) (r : lkp L n d = u) : lkp ((k1, v1) :: (k2, v2) :: (k3, v3) :: (k4, v4) :: L) n d = u := miss1 h1 (miss1 h2 (miss1 h3 (miss1 h4 r)))
def puts (A : Act) : List (Nat × Value) → Act
 | [] => A
 | (k, v) :: L => (puts A L).put (some k) v
theorem puts_nil (A : Act) : puts A [] = A := by cases A <;> rfl
theorem puts_cons (A : Act) (k : Nat) (v : Value) (L : List (Nat × Value)) : puts A ((k, v) :: L) = (puts A L).put (some k) v := by cases L <;> rfl
theorem put_lit (xs : List Value) (ds : List Deferred) (k : Nat) (v : Value) : (Act.mk xs.toArray ds).put (some k) v = Act.mk (xs.set k v).toArray ds := by simp [Act.put]
theorem set_0 (x v : Value) (t : List Value) : (x :: t).set 0 v = v :: t := by cases t <;> rfl
theorem set_1 (x v : Value) (t : List Value) (n : Nat) : (x :: t).set (n + 1) v = x :: t.set n v := by cases t <;> rfl
theorem puts_size (A : Act) : ∀ L : List (Nat × Value), (puts A L).tmps.size = A.tmps.size
 | [] => rfl
 | (k, v) :: L => by simp [puts, Act.put, puts_size A L]
theorem eval_puts (A : Act) (k : Nat) (hk : k < A.tmps.size) : ∀ L : List (Nat × Value), (puts A L).eval (.tmp k) = lkp L k (A.eval (.tmp k))
 | [] => rfl
 | (j, v) :: L => by
  have ih := eval_puts A k hk L
  have hs := puts_size A L
  unfold lkp
  split
  ·next h =>
   subst h
   simp [puts, Act.put, Act.eval, Array.getD, hs, hk]
  ·next h =>
   rw [← ih]
   simp only [puts, Act.put, Act.eval]
   rw [Array.getD_eq_getD_getElem?, Array.getD_eq_getD_getElem?, Array.getElem?_setIfInBounds_ne (Ne.symm h)]
def BaseOk (A : Act) : List (Nat × Value) → Prop
 | [] => True
 | (k, v) :: r => A.eval (.tmp k) = v ∧ BaseOk A r
theorem base_nil {A : Act} : BaseOk A [] := trivial
theorem base_cons {A : Act} {k : Nat} {v : Value} {r : List (Nat × Value)} (h : A.eval (.tmp k) = v) (hr : BaseOk A r) : BaseOk A ((k, v) :: r) := ⟨h, hr⟩
def Rd (A : Act) (L : List (Nat × Value)) (ρ : Operand → Value) : Prop := ρ = (puts A L).eval
theorem Rd.tmp {A : Act} {L : List (Nat × Value)} {ρ : Operand → Value} (h : Rd A L ρ) {n : Nat} (hn : A.tmps.size = n) (k : Nat) (hk : Nat.blt k n = true) : ρ (.tmp k) = lkp L k (A.eval (.tmp k)) := by
 unfold Rd at h; rw [h]; exact eval_puts A k (by rw [hn]; simpa [Nat.blt_eq] using hk) L
theorem Rd.const {A : Act} {L : List (Nat × Value)} {ρ : Operand → Value} (h : Rd A L ρ) (v : Value) : ρ (.const v) = v := by unfold Rd at h; rw [h]; rfl
theorem Rd.func {A : Act} {L : List (Nat × Value)} {ρ : Operand → Value} (h : Rd A L ρ) (f : FuncId) : ρ (.func f) = .func (.func f) #[] #[] := by unfold Rd at h; rw [h]; rfl
section
variable {P : Program} {ops : Array Oper} {Q : Exit → Act → World → Prop} {md : Region.Mode} {S : World → Prop} {J : List Nat}
def wpOrd' (P : Program) (ops : Array Oper) (Q : Exit → Act → World → Prop) (S : World → Prop) (J : List Nat) : List (Nat × Bool) → Act → World → Prop
 | [], a, w => Q .normal a w
 | (i, true) :: r, a, w => S w ∧ ∃ oi v, ops[i]? = some oi ∧ YieldsIf P ops S oi v a ∧ wpOrd' P ops Q S J r (a.put oi.dst v) w
 | (i, false) :: r, a, w => wpOp P ops Q i (fun a' w' => (J.contains i = false → S w') ∧ wpOrd' P ops Q S J r a' w') a w
structure wpOrd (P : Program) (ops : Array Oper) (Q : Exit → Act → World → Prop) (S : World → Prop) (J : List Nat) (tk : List (Nat × Bool)) (a : Act) (w : World) : Prop where
 out : wpOrd' P ops Q S J tk a w
def chkOrd (md : Region.Mode) (ops : Array Oper) (J : List Nat) : List (Nat × Bool) → Array Bool → Bool
 | [], listed => (Region.ready md ops listed).isEmpty
 | (i, true) :: r, listed => Region.free md ops listed i && (Region.ready md ops listed).contains i && closedB md ops listed && J.all (ancB md ops i ops.size) && chkOrd md ops J r (listed.setIfInBounds i true)
 | (i, false) :: r, listed => Region.ready md ops listed == [i] && chkOrd md ops J r (listed.setIfInBounds i true)
theorem wpAnyJ_of_ord (hs : Region.noSelect ops = true) (hQ : ∀ c a d v w, Q (.panic c) (a.put (some d) v) w → Q (.panic c) a w) : ∀ (tk : List (Nat × Bool)) (m : Nat) (listed : Array Bool) (a : Act) (w : World),
 chkOrd md ops J tk listed = true → wpOrd' P ops Q S J tk a w → wpAnyJ P md ops Q S J (tk.length + m) listed a w
 | [], m, listed, a, w, hc, h => wpAnyJ_done (List.isEmpty_iff.1 hc) h _
 | (i, true) :: r, m, listed, a, w, hc, h => by
  simp only [chkOrd, Bool.and_eq_true] at hc
  obtain ⟨⟨⟨⟨h1, h2⟩, h3⟩, h4⟩, h5⟩ := hc
  obtain ⟨hS, oi, v, hoi, hy, hr⟩ := h
  rw [List.length_cons, Nat.add_right_comm]
  exact wpAnyJ_take hoi rfl hs h1 h2 h3 h4 (fun c a w q => by cases hd : oi.dst with | none => rw [hd] at q; exact q | some d => rw [hd] at q; exact hQ c a d v w q) hy hS (wpAnyJ_of_ord hs hQ r m _ _ _ h5 hr)
 | (i, false) :: r, m, listed, a, w, hc, h => by
  simp only [chkOrd, Bool.and_eq_true, beq_iff_eq] at hc
  rw [List.length_cons, Nat.add_right_comm]
  refine ⟨fun h0 => (by rw [hc.1] at h0; cases h0), fun j hj => ?_⟩
  rw [hc.1] at hj
  obtain rfl := List.mem_singleton.1 hj
  exact wpOp_mono (fun a' w' h' => ⟨h'.1, wpAnyJ_of_ord hs hQ r m _ _ _ hc.2 h'.2⟩) h
def ordOk (P : Program) (ops : Array Oper) (J : List Nat) (tk : List (Nat × Bool)) : Bool := P.follows .mixedOrders && Region.noSelect ops && tk.length == ops.size && chkOrd .any ops J tk (Array.replicate ops.size false)
theorem wp_region_ord {id : Nat} {a : Act} {w : World} {base : List (Nat × Value)} {n : Nat} (tk : List (Nat × Bool)) (hk : ordOk P ops J tk = true) (hn : a.tmps.size = n) (hb : BaseOk a base) (hS : S w.drew) (hq : ∀ c a d v w, Q (.panic c) (a.put (some d) v) w → Q (.panic c) a w)
 (h : ∀ (Q2 : Exit → Act → World → Prop) (A : Act), A.tmps.size = n → BaseOk A base → Hid (∀ L w', Q .normal (puts a L) w' → Q2 .normal (puts A L) w') → S w.drew → wpOrd P ops Q2 S J tk (puts A []) w.drew) : (Code.region id ops true).wp P Q a w := by
 simp only [ordOk, Bool.and_eq_true, beq_iff_eq] at hk
 obtain ⟨⟨⟨h1, h2⟩, h3⟩, h4⟩ := hk
 refine wp_region_J (J := J) h1 hS (fun hS => ?_)
 have := wpAnyJ_of_ord (P := P) h2 hq tk 0 _ _ _ h4 (h Q a hn hb (fun L w' h => h) hS).out
 rw [Nat.add_zero, h3] at this
 exact this
theorem ord_done {A a : Act} {L : List (Nat × Value)} {w : World} {Q2 : Exit → Act → World → Prop} (hn : Hid (∀ L w', Q .normal (puts a L) w' → Q2 .normal (puts A L) w')) (h : Q .normal (puts a L) w) : wpOrd P ops Q2 S J [] (puts A L) w := ⟨hn.out L w h⟩
section
variable {A : Act} {L : List (Nat × Value)} {w : World} {n i d : Nat} {oi : Oper} {r : List (Nat × Bool)} {v : Value}
theorem wanted_none {y : Nat → Option Bool} (hg : oi.guard = none) : Region.wanted oi y = true := by unfold Region.wanted; rw [hg]
theorem yielded_at {j dj : Nat} {oj : Oper} {b : Bool} (hn : A.tmps.size = n) (hj : ops[j]? = some oj) (hd : oj.dst = some dj) (hdn : Nat.blt dj n = true) (hv : lkp L dj (A.eval (.tmp dj)) = .bool b) : yielded ops (puts A L).tmps j = some b := by
 have hlt : dj < A.tmps.size := by rw [hn]; simpa [Nat.blt_eq] using hdn
 have he := eval_puts A dj hlt L
 rw [hv] at he
 have hlt' : dj < (puts A L).tmps.size := by rw [puts_size]; exact hlt
 unfold yielded
 rw [hj]
 simp only [Option.bind_some, hd]
 simp only [Act.eval, Array.getD_eq_getD_getElem?, Array.getElem?_eq_getElem hlt', Option.getD_some] at he
 rw [Array.getElem?_eq_getElem hlt', he]
theorem wanted_yes {j dj : Nat} {oj : Oper} {b : Bool} (hg : oi.guard = some (j, b)) (hn : A.tmps.size = n) (hj : ops[j]? = some oj) (hd : oj.dst = some dj) (hdn : Nat.blt dj n = true) (hv : lkp L dj (A.eval (.tmp dj)) = .bool b) : Region.wanted oi (yielded ops (puts A L).tmps) = true := by
 unfold Region.wanted; rw [hg]; simp only [yielded_at hn hj hd hdn hv]; simp
theorem wanted_no {j dj : Nat} {oj : Oper} {b b' : Bool} (hg : oi.guard = some (j, b)) (hn : A.tmps.size = n) (hj : ops[j]? = some oj) (hd : oj.dst = some dj) (hdn : Nat.blt dj n = true) (hv : lkp L dj (A.eval (.tmp dj)) = .bool b') (hb : (b' == b) = false) : Region.wanted oi (yielded ops (puts A L).tmps) = false := by
 unfold Region.wanted; rw [hg]; simp only [yielded_at hn hj hd hdn hv]; simpa using hb
theorem ord_take (hi : ops[i]? = some oi) (hd : oi.dst = some d) (hw : Region.wanted oi (yielded ops (puts A L).tmps) = true) (hS : S w)
 (hv : ∀ ρ : Operand → Value, Rd A L ρ → ∀ w, S w → (execOp ρ oi).run P w = .ok (.value v) w) (h : wpOrd P ops Q S J r (puts A ((d, v) :: L)) w) : wpOrd P ops Q S J ((i, true) :: r) (puts A L) w :=
 ⟨⟨hS, oi, v, hi, Or.inl ⟨hw, fun w hw => hv _ rfl w hw⟩, by rw [hd]; exact h.out⟩⟩
theorem ord_skip (hi : ops[i]? = some oi) (hd : oi.dst = some d) (hw : Region.wanted oi (yielded ops (puts A L).tmps) = false) (hS : S w)
 (h : wpOrd P ops Q S J r (puts A ((d, undef) :: L)) w) : wpOrd P ops Q S J ((i, true) :: r) (puts A L) w :=
 ⟨⟨hS, oi, undef, hi, Or.inr ⟨hw, rfl⟩, by rw [hd]; exact h.out⟩⟩
theorem ord_move {x : Operand} (hi : ops[i]? = some oi) (hd : oi.dst = some d) (ho : oi.op = .move x) (hw : Region.wanted oi (yielded ops (puts A L).tmps) = true) (hS : S w)
 (hv : ∀ ρ : Operand → Value, Rd A L ρ → ρ x = v) (h : wpOrd P ops Q S J r (puts A ((d, v) :: L)) w) : wpOrd P ops Q S J ((i, true) :: r) (puts A L) w :=
 ord_take hi hd hw hS (fun ρ hρ w _ => by unfold execOp; rw [ho]; simp only [hv ρ hρ]; rfl) h
theorem ord_call {f : FuncId} {xs : Array Operand} {ats : Array TypeId} {vs : Array Value} (hi : ops[i]? = some oi) (hd : oi.dst = some d) (ho : oi.op = .call { callee := .value (.func f), args := xs, argTypes := ats }) (hw : Region.wanted oi (yielded ops (puts A L).tmps) = true)
 (hx : ∀ ρ : Operand → Value, Rd A L ρ → xs.map ρ = vs) (hf : ∀ w, (callFunc f vs).run P w = .ok (.enter f vs) w)
 (h : Calls P f vs w (fun e w' => ∃ v, e = .returned v ∧ (J.contains i = false → S w') ∧ ((J.contains i = false → S w') → wpOrd P ops Q S J r (puts A ((d, v) :: L)) w'))) : wpOrd P ops Q S J ((i, false) :: r) (puts A L) w := by
 refine ⟨?_⟩
 simp only [wpOrd', wpOp, hi, hw, if_true]
 refine .inl ?_
 have he : (execOp (puts A L).eval oi).run P w = .ok (.enter f vs) w := by
  have := hf w
  rw [← hx _ rfl] at this ⊢
  unfold execOp
  rw [ho]
  rw [← this]
  have e0 : (#[] ++ xs.map (puts A L).eval ++ #[] : Array Value) = xs.map (puts A L).eval := by simp
  conv => rhs; rw [← e0]
  rfl
 rw [Oper.wp, he, Oper.upon_enter]
 refine h.mono ?_
 rintro e w' ⟨v, rfl, h1, h2⟩
 simp only [hd]
 exact ⟨h1, (h2 h1).out⟩
end
end
end Go.Proofs.YtkkobemhbicjgaaGreatDoor
namespace Go.Proofs.YtkkobemhbicjgaaGreatDoor
open Go.RowKit
def letC (b : Int) : Bool := (decide (65 ≤ b) && decide (b ≤ 90)) || (decide (97 ≤ b) && decide (b ≤ 122))
def digC (b : Int) : Bool := decide (48 ≤ b) && decide (b ≤ 57)
theorem fit_later (b : Int) : fitC b false = (letC b || digC b || decide (b = 95)) := by
 unfold fitC letC digC
 by_cases h1 : 65 ≤ b ∧ b ≤ 90
 ·simp [h1]
 ·by_cases h2 : 97 ≤ b ∧ b ≤ 122
  ·simp [h2]
  ·rw [if_neg h1, if_neg h2]
   have : (decide (65 ≤ b) && decide (b ≤ 90)) = false := by simpa using h1
   have h2' : (decide (97 ≤ b) && decide (b ≤ 122)) = false := by simpa using h2
   rw [this, h2']
   by_cases h3 : 48 ≤ b ∧ b ≤ 57
   ·simp [h3]
   ·have h3' : (decide (48 ≤ b) && decide (b ≤ 57)) = false := by simpa using h3
    rw [if_neg h3, h3']
    by_cases h4 : b = 95 <;> simp [h4]
end Go.Proofs.YtkkobemhbicjgaaGreatDoor
