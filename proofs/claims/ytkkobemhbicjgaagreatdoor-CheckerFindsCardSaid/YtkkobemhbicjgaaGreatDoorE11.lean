import Derived.Test.YtkkobemhbicjgaaGreatDoorE03
namespace Go.Proofs.YtkkobemhbicjgaaGreatDoor
section
def xO (m : List Int) : Nat → List Nat
 | 0 => []
 | n + 1 => if m[n]? = some 3 then xO m n ++ [n] else xO m n
def zl (m : List Int) (n : Nat) : Nat := (xO m n).length
theorem mT (m : List Int) (n : Nat) : zl m n ≤ n := by
 unfold zl
 induction n with
 | zero => exact Nat.le_refl _
 | succ n ih =>
  rw [xO]; split
  ·simp; omega
  ·omega
theorem yY (m : List Int) (n : Nat) : zl m (n + 1) = zl m n + if m[n]? = some 3 then 1 else 0 := by
 unfold zl; rw [xO]; split <;> simp
theorem vn (m : List Int) {a b : Nat} (h : a ≤ b) : zl m a ≤ zl m b := by
 induction b with
 | zero => obtain rfl : a = 0 := by omega
           exact Nat.le_refl _
 | succ b ih =>
  rcases Nat.lt_or_ge a (b + 1) with h1 | h1
  ·have := ih (by omega); rw [yY]; omega
  ·obtain rfl : a = b + 1 := by omega
   exact Nat.le_refl _
theorem ve (m : List Int) : ∀ (n j d : Nat), (xO m n)[j]? = some d → m[d]? = some 3 ∧ d < n ∧ zl m d = j
 | 0, j, d, h => by simp [xO] at h
 | n + 1, j, d, h => by
  rw [xO] at h
  split at h
  ·next h3 =>
   rw [List.getElem?_append] at h
   split at h
   ·have := ve m n j d h; exact ⟨this.1, by omega, this.2.2⟩
   ·next hj =>
    have hz : j - (xO m n).length = 0 := by
     rcases Nat.eq_zero_or_pos (j - (xO m n).length) with h0 | h0
     ·exact h0
     ·rw [List.getElem?_eq_none (by simp; omega)] at h; cases h
    rw [hz] at h
    simp at h
    subst h
    exact ⟨h3, by omega, by unfold zl; omega⟩
  ·have := ve m n j d h; exact ⟨this.1, by omega, this.2.2⟩
theorem px {m : List Int} {d e : Nat} (hd : m[d]? = some 3) (he : m[e]? = some 3) (h : zl m d = zl m e) : d = e := by
 rcases Nat.lt_trichotomy d e with hlt | rfl | hlt
 ·have := vn m (show d + 1 ≤ e by omega)
  rw [yY, if_pos hd] at this; omega
 ·rfl
 ·have := vn m (show e + 1 ≤ d by omega)
  rw [yY, if_pos he] at this; omega
theorem qV {m : List Int} {d n : Nat} (hd : m[d]? = some 3) (h : d < n) : zl m d < zl m n := by
 have := vn m (show d + 1 ≤ n by omega)
 rw [yY, if_pos hd] at this; omega
def xM (x : Option Int) (o : List Int) : List (List Int) := if x = some 3 then [o ++ [1], o ++ [2]] else [o ++ [x.getD 0]]
def xe (m : List Int) : Nat → List (List Int)
 | 0 => [[]]
 | n + 1 => (xe m n).flatMap (xM m[n]?)
def yM (m : List Int) : List (List Int) := xe m m.length
def gB (m : List Int) (n : Nat) (s : List Int) : Prop := s.length = n ∧ ∀ d, d < n → (m[d]? = some 3 → s[d]? = some 1 ∨ s[d]? = some 2) ∧ (m[d]? ≠ some 3 → s[d]? = some (m.getD d 0))
theorem sU (m : List Int) (d : Nat) : m[d]?.getD 0 = m.getD d 0 := by rw [List.getD_eq_getElem?_getD]
theorem xr (m : List Int) : ∀ (n : Nat) (s : List Int), s ∈ xe m n ↔ gB m n s
 | 0, s => by
  simp only [xe, List.mem_singleton, gB]
  constructor
  ·rintro rfl; exact ⟨rfl, fun d hd => by omega⟩
  ·rintro ⟨h, _⟩; exact List.eq_nil_of_length_eq_zero h
 | n + 1, s => by
  simp only [xe, List.mem_flatMap]
  constructor
  ·rintro ⟨o, ho, hs⟩
   obtain ⟨hl, ha⟩ := (xr m n o).1 ho
   have old : ∀ x : Int, gB m n o → ∀ d, d < n → (m[d]? = some 3 → (o ++ [x])[d]? = some 1 ∨ (o ++ [x])[d]? = some 2) ∧ (m[d]? ≠ some 3 → (o ++ [x])[d]? = some (m.getD d 0)) := by
    intro x _ d hd
    rw [List.getElem?_append_left (by omega)]
    exact ha d hd
   have newest : ∀ x : Int, (o ++ [x])[n]? = some x := by
    intro x; rw [List.getElem?_append_right (by omega), hl, Nat.sub_self]; rfl
   unfold xM at hs
   split at hs
   ·next h3 =>
    simp only [List.mem_cons, List.not_mem_nil, or_false] at hs
    rcases hs with rfl | rfl
    ·refine ⟨by simp [hl], fun d hd => ?_⟩
     rcases Nat.lt_succ_iff_lt_or_eq.1 hd with h | rfl
     ·exact old 1 ⟨hl, ha⟩ d h
     ·exact ⟨fun _ => .inl (newest 1), fun h => absurd h3 h⟩
    ·refine ⟨by simp [hl], fun d hd => ?_⟩
     rcases Nat.lt_succ_iff_lt_or_eq.1 hd with h | rfl
     ·exact old 2 ⟨hl, ha⟩ d h
     ·exact ⟨fun _ => .inr (newest 2), fun h => absurd h3 h⟩
   ·next h3 =>
    simp only [List.mem_cons, List.not_mem_nil, or_false] at hs
    subst hs
    refine ⟨by simp [hl], fun d hd => ?_⟩
    rcases Nat.lt_succ_iff_lt_or_eq.1 hd with h | rfl
    ·exact old _ ⟨hl, ha⟩ d h
    ·exact ⟨fun h => absurd h h3, fun _ => by rw [newest, sU]⟩
  ·rintro ⟨hl, ha⟩
   have e : s = s.take n ++ [s.getD n 0] := by
    have h1 : s.take (n + 1) = s := List.take_of_length_le (by omega)
    rw [List.take_add_one, List.getElem?_eq_getElem (by omega)] at h1
    rw [List.getD_eq_getElem?_getD, List.getElem?_eq_getElem (by omega)]
    exact h1.symm
   refine ⟨s.take n, (xr m n _).2 ⟨by simp; omega, fun d hd => ?_⟩, ?_⟩
   ·rw [List.getElem?_take, if_pos hd]; exact ha d (by omega)
   ·have hn := ha n (by omega)
    unfold xM
    split
    ·next h3 =>
     rcases hn.1 h3 with h | h
     ·rw [show s.getD n 0 = 1 by rw [List.getD_eq_getElem?_getD, h]; rfl] at e
      rw [← e]; simp
     ·rw [show s.getD n 0 = 2 by rw [List.getD_eq_getElem?_getD, h]; rfl] at e
      rw [← e]; simp
    ·next h3 =>
     have h := hn.2 h3
     rw [show s.getD n 0 = m.getD n 0 by rw [List.getD_eq_getElem?_getD, h]; rfl] at e
     rw [sU, ← e]; simp
def qo (m : List Int) (n k d : Nat) : Int := if m[d]? = some 3 then 1 + ((k >>> (zl m n - 1 - zl m d)) % 2 : Nat) else m.getD d 0
def stN (m : List Int) (n k : Nat) : List Int := (List.range n).map (qo m n k)
theorem my (n : Nat) : List.range (2 * n) = (List.range n).flatMap fun k => [2 * k, 2 * k + 1] := by
 induction n with
 | zero => rfl
 | succ n ih =>
  rw [show 2 * (n + 1) = 2 * n + 1 + 1 by omega, List.range_succ, List.range_succ, ih, List.range_succ, List.flatMap_append]
  simp
theorem qb (m : List Int) : ∀ n, xe m n = (List.range (2 ^ zl m n)).map (stN m n)
 | 0 => by simp [xe, zl, xO, stN]
 | n + 1 => by
  rw [xe, qb m n, List.flatMap_map]
  by_cases h3 : m[n]? = some 3
  ·have hc : zl m (n + 1) = zl m n + 1 := by rw [yY, if_pos h3]
   rw [hc, Nat.pow_succ, Nat.mul_comm, my, List.map_flatMap]
   congr 1
   funext k
   have step : ∀ b, b < 2 → stN m (n + 1) (2 * k + b) = stN m n k ++ [1 + (b : Int)] := by
    intro b hb
    unfold stN
    rw [List.range_succ, List.map_append]
    congr 1
    ·apply List.map_congr_left
     intro d hd
     have hd := List.mem_range.1 hd
     unfold qo
     split
     ·next h =>
      have := qV h hd
      rw [hc, show zl m n + 1 - 1 - zl m d = (zl m n - 1 - zl m d) + 1 by omega, Nat.shiftRight_add, Nat.shiftRight_eq_div_pow, Nat.shiftRight_eq_div_pow, Nat.shiftRight_eq_div_pow]
      rw [Nat.div_div_eq_div_mul, Nat.mul_comm (2 ^ _) (2 ^ 1), ← Nat.div_div_eq_div_mul, show (2 * k + b) / 2 ^ 1 = k by omega]
     ·rfl
    ·simp only [List.map_cons, List.map_nil, qo, if_pos h3, hc]
     rw [show zl m n + 1 - 1 - zl m n = 0 by omega, Nat.shiftRight_zero, show (2 * k + b) % 2 = b by omega]
   simp only [xM, h3, if_true, List.map_cons, List.map_nil]
   rw [show 2 * k = 2 * k + 0 from rfl, step 0 (by omega), step 1 (by omega)]
   rfl
  ·have hc : zl m (n + 1) = zl m n := by rw [yY, if_neg h3]; rfl
   rw [hc]
   simp only [xM, if_neg h3]
   rw [← List.map_eq_flatMap]
   apply List.map_congr_left
   intro k _
   unfold stN
   rw [List.range_succ, List.map_append]
   congr 1
   ·apply List.map_congr_left
    intro d _
    unfold qo; rw [hc]
   ·simp only [List.map_cons, List.map_nil, qo, if_neg h3, sU]
theorem uq (m : List Int) (n : Nat) : (xe m n).length = 2 ^ zl m n := by rw [qb]; simp
theorem jm (m : List Int) {n k : Nat} (hk : k < 2 ^ zl m n) : (xe m n)[k]? = some (stN m n k) := by rw [qb, List.getElem?_map, List.getElem?_range hk]; rfl
def wv (m : List Int) (k j : Nat) (l : List Int) : Prop := l.length = m.length ∧ ∀ d, d < m.length → l[d]? = some (if m[d]? = some 3 ∧ zl m d < j then qo m m.length k d else m.getD d 0)
theorem wv.start (m : List Int) (k : Nat) : wv m k 0 m := ⟨rfl, fun d hd => by rw [if_neg (by omega), List.getD_eq_getElem?_getD, List.getElem?_eq_getElem hd]; rfl⟩
theorem wv.step {m l : List Int} {k j d : Nat} (h : wv m k j l) (hd : (xO m m.length)[j]? = some d) : wv m k (j + 1) (l.set d (1 + ((k >>> (zl m m.length - 1 - j)) % 2 : Nat))) := by
 obtain ⟨h3, hlt, hc⟩ := ve m _ _ _ hd
 refine ⟨by simp [h.1], fun e he => ?_⟩
 rw [List.getElem?_set]
 by_cases hde : d = e
 ·subst hde
  rw [if_pos rfl, if_pos (by rw [h.1]; exact he), if_pos ⟨h3, by omega⟩]
  unfold qo; rw [if_pos h3, hc]
 ·rw [if_neg hde, h.2 e he]
  congr 1
  by_cases h3e : m[e]? = some 3
  ·have : zl m e ≠ j := fun hh => hde (px h3 h3e (by omega))
   by_cases hlt2 : zl m e < j
   ·rw [if_pos ⟨h3e, hlt2⟩, if_pos ⟨h3e, by omega⟩]
   ·rw [if_neg (fun x => hlt2 x.2), if_neg (fun x => by omega)]
  ·rw [if_neg (fun x => h3e x.1), if_neg (fun x => h3e x.1)]
theorem wv.done {m l : List Int} {k : Nat} (h : wv m k (zl m m.length) l) : l = stN m m.length k := by
 apply List.ext_getElem?
 intro d
 by_cases hd : d < m.length
 ·rw [h.2 d hd]
  unfold stN
  rw [List.getElem?_map, List.getElem?_range hd]
  simp only [Option.map_some, Option.some.injEq]
  by_cases h3 : m[d]? = some 3
  ·rw [if_pos ⟨h3, qV h3 hd⟩]
  ·rw [if_neg (fun x => h3 x.1)]; unfold qo; rw [if_neg h3]
 ·rw [List.getElem?_eq_none (by rw [h.1]; omega), List.getElem?_eq_none (by unfold stN; simp; omega)]
end
section
section
variable {P : Program} {ops : Array Oper} {Q : Exit → Act → World → Prop} {S : World → Prop} {J : List Nat}
end
end
section
open Go.RowKit
def lkp : List (Nat × Value) → Nat → Value → Value
 | [], _, d => d
 | (k, v) :: L, n, d => if n = k then v else lkp L n d
theorem zB {k : Nat} {v d : Value} {L : List (Nat × Value)} : lkp ((k, v) :: L) k d = v := if_pos rfl
theorem zY {k : Nat} {u d : Value} (h : d = u) : lkp [] k d = u := h
theorem zF {n k : Nat} {u v d : Value} {L : List (Nat × Value)} (h : Nat.beq n k = false) (r : lkp L n d = u) : lkp ((k, v) :: L) n d = u := (if_neg (fun e => by rw [e, Nat.beq_refl] at h; cases h)).trans r
theorem zI {n k1 k2 k3 k4 : Nat} {u v1 v2 v3 v4 d : Value} {L : List (Nat × Value)} (h1 : Nat.beq n k1 = false) (h2 : Nat.beq n k2 = false) (h3 : Nat.beq n k3 = false) (h4 : Nat.beq n k4 = false) (r : lkp L n d = u) : lkp ((k1, v1) :: (k2, v2) :: (k3, v3) :: (k4, v4) :: L) n d = u := zF h1 (zF h2 (zF h3 (zF h4 r)))
def yF (A : Act) : List (Nat × Value) → Act
 | [] => A
 | (k, v) :: L => (yF A L).put (some k) v
theorem ud (A : Act) : yF A [] = A := by cases A <;> rfl
theorem vf (A : Act) (k : Nat) (v : Value) (L : List (Nat × Value)) : yF A ((k, v) :: L) = (yF A L).put (some k) v := by cases L <;> rfl
theorem tc (xs : List Value) (ds : List Deferred) (k : Nat) (v : Value) : (Act.mk xs.toArray ds).put (some k) v = Act.mk (xs.set k v).toArray ds := by simp [Act.put]
theorem nz (x v : Value) (t : List Value) : (x :: t).set 0 v = v :: t := by cases t <;> rfl
theorem ny (x v : Value) (t : List Value) (n : Nat) : (x :: t).set (n + 1) v = x :: t.set n v := by cases t <;> rfl
theorem ux (A : Act) : ∀ L : List (Nat × Value), (yF A L).tmps.size = A.tmps.size
 | [] => rfl
 | (k, v) :: L => by simp [yF, Act.put, ux A L]
theorem tB (A : Act) (k : Nat) (hk : k < A.tmps.size) : ∀ L : List (Nat × Value), (yF A L).eval (.tmp k) = lkp L k (A.eval (.tmp k))
 | [] => rfl
 | (j, v) :: L => by
  have ih := tB A k hk L
  have hs := ux A L
  unfold lkp
  split
  ·next h =>
   subst h
   simp [yF, Act.put, Act.eval, Array.getD, hs, hk]
  ·next h =>
   rw [← ih]
   simp only [yF, Act.put, Act.eval]
   rw [Array.getD_eq_getD_getElem?, Array.getD_eq_getD_getElem?, Array.getElem?_setIfInBounds_ne (Ne.symm h)]
def tL (A : Act) : List (Nat × Value) → Prop
 | [] => True
 | (k, v) :: r => A.eval (.tmp k) = v ∧ tL A r
theorem un {A : Act} : tL A [] := trivial
theorem yR {A : Act} {k : Nat} {v : Value} {r : List (Nat × Value)} (h : A.eval (.tmp k) = v) (hr : tL A r) : tL A ((k, v) :: r) := ⟨h, hr⟩
def Rd (A : Act) (L : List (Nat × Value)) (ρ : Operand → Value) : Prop := ρ = (yF A L).eval
theorem Rd.tmp {A : Act} {L : List (Nat × Value)} {ρ : Operand → Value} (h : Rd A L ρ) {n : Nat} (hn : A.tmps.size = n) (k : Nat) (hk : Nat.blt k n = true) : ρ (.tmp k) = lkp L k (A.eval (.tmp k)) := by
 unfold Rd at h; rw [h]; exact tB A k (by rw [hn]; simpa [Nat.blt_eq] using hk) L
theorem Rd.const {A : Act} {L : List (Nat × Value)} {ρ : Operand → Value} (h : Rd A L ρ) (v : Value) : ρ (.const v) = v := by unfold Rd at h; rw [h]; rfl
theorem Rd.func {A : Act} {L : List (Nat × Value)} {ρ : Operand → Value} (h : Rd A L ρ) (f : FuncId) : ρ (.func f) = .func (.func f) #[] #[] := by unfold Rd at h; rw [h]; rfl
section
variable {P : Program} {ops : Array Oper} {Q : Exit → Act → World → Prop} {md : Region.Mode} {S : World → Prop} {J : List Nat}
def rr (P : Program) (ops : Array Oper) (Q : Exit → Act → World → Prop) (S : World → Prop) (J : List Nat) : List (Nat × Bool) → Act → World → Prop
 | [], a, w => Q .normal a w
 | (i, true) :: r, a, w => S w ∧ ∃ oi v, ops[i]? = some oi ∧ YieldsIf P ops S oi v a ∧ rr P ops Q S J r (a.put oi.dst v) w
 | (i, false) :: r, a, w => wpOp P ops Q i (fun a' w' => (J.contains i = false → S w') ∧ rr P ops Q S J r a' w') a w
structure wpOrd (P : Program) (ops : Array Oper) (Q : Exit → Act → World → Prop) (S : World → Prop) (J : List Nat) (tk : List (Nat × Bool)) (a : Act) (w : World) : Prop where
 out : rr P ops Q S J tk a w
def tE (md : Region.Mode) (ops : Array Oper) (J : List Nat) : List (Nat × Bool) → Array Bool → Bool
 | [], listed => (Region.ready md ops listed).isEmpty
 | (i, true) :: r, listed => Region.free md ops listed i && (Region.ready md ops listed).contains i && xX md ops listed && J.all (vY md ops i ops.size) && tE md ops J r (listed.setIfInBounds i true)
 | (i, false) :: r, listed => Region.ready md ops listed == [i] && tE md ops J r (listed.setIfInBounds i true)
theorem wL (hs : Region.noSelect ops = true) (hQ : ∀ c a d v w, Q (.panic c) (a.put (some d) v) w → Q (.panic c) a w) : ∀ (tk : List (Nat × Bool)) (m : Nat) (listed : Array Bool) (a : Act) (w : World),
 tE md ops J tk listed = true → rr P ops Q S J tk a w → zb P md ops Q S J (tk.length + m) listed a w
 | [], m, listed, a, w, hc, h => zA (List.isEmpty_iff.1 hc) h _
 | (i, true) :: r, m, listed, a, w, hc, h => by
  simp only [tE, Bool.and_eq_true] at hc
  obtain ⟨⟨⟨⟨h1, h2⟩, h3⟩, h4⟩, h5⟩ := hc
  obtain ⟨hS, oi, v, hoi, hy, hr⟩ := h
  rw [List.length_cons, Nat.add_right_comm]
  exact tO hoi rfl hs h1 h2 h3 h4 (fun c a w q => by cases hd : oi.dst with | none => rw [hd] at q; exact q | some d => rw [hd] at q; exact hQ c a d v w q) hy hS (wL hs hQ r m _ _ _ h5 hr)
 | (i, false) :: r, m, listed, a, w, hc, h => by
  simp only [tE, Bool.and_eq_true, beq_iff_eq] at hc
  rw [List.length_cons, Nat.add_right_comm]
  refine ⟨fun h0 => (by rw [hc.1] at h0; cases h0), fun j hj => ?_⟩
  rw [hc.1] at hj
  obtain rfl := List.mem_singleton.1 hj
  exact wpOp_mono (fun a' w' h' => ⟨h'.1, wL hs hQ r m _ _ _ hc.2 h'.2⟩) h
def gH (P : Program) (ops : Array Oper) (J : List Nat) (tk : List (Nat × Bool)) : Bool := P.follows .mixedOrders && Region.noSelect ops && tk.length == ops.size && tE .any ops J tk (Array.replicate ops.size false)
theorem xV {id : Nat} {a : Act} {w : World} {base : List (Nat × Value)} {n : Nat} (tk : List (Nat × Bool)) (hk : gH P ops J tk = true) (hn : a.tmps.size = n) (hb : tL a base) (hS : S w.drew) (hq : ∀ c a d v w, Q (.panic c) (a.put (some d) v) w → Q (.panic c) a w)
 (h : ∀ (Q2 : Exit → Act → World → Prop) (A : Act), A.tmps.size = n → tL A base → Hid (∀ L w', Q .normal (yF a L) w' → Q2 .normal (yF A L) w') → S w.drew → wpOrd P ops Q2 S J tk (yF A []) w.drew) : (Code.region id ops true).wp P Q a w := by
 simp only [gH, Bool.and_eq_true, beq_iff_eq] at hk
 obtain ⟨⟨⟨h1, h2⟩, h3⟩, h4⟩ := hk
 refine zC (J := J) h1 hS (fun hS => ?_)
 have := wL (P := P) h2 hq tk 0 _ _ _ h4 (h Q a hn hb (fun L w' h => h) hS).out
 rw [Nat.add_zero, h3] at this
 exact this
theorem uf {A a : Act} {L : List (Nat × Value)} {w : World} {Q2 : Exit → Act → World → Prop} (hn : Hid (∀ L w', Q .normal (yF a L) w' → Q2 .normal (yF A L) w')) (h : Q .normal (yF a L) w) : wpOrd P ops Q2 S J [] (yF A L) w := ⟨hn.out L w h⟩
section
variable {A : Act} {L : List (Nat × Value)} {w : World} {n i d : Nat} {oi : Oper} {r : List (Nat × Bool)} {v : Value}
theorem zH {y : Nat → Option Bool} (hg : oi.guard = none) : Region.wanted oi y = true := by unfold Region.wanted; rw [hg]
theorem tq {j dj : Nat} {oj : Oper} {b : Bool} (hn : A.tmps.size = n) (hj : ops[j]? = some oj) (hd : oj.dst = some dj) (hdn : Nat.blt dj n = true) (hv : lkp L dj (A.eval (.tmp dj)) = .bool b) : yielded ops (yF A L).tmps j = some b := by
 have hlt : dj < A.tmps.size := by rw [hn]; simpa [Nat.blt_eq] using hdn
 have he := tB A dj hlt L
 rw [hv] at he
 have hlt' : dj < (yF A L).tmps.size := by rw [ux]; exact hlt
 unfold yielded
 rw [hj]
 simp only [Option.bind_some, hd]
 simp only [Act.eval, Array.getD_eq_getD_getElem?, Array.getElem?_eq_getElem hlt', Option.getD_some] at he
 rw [Array.getElem?_eq_getElem hlt', he]
theorem oP {j dj : Nat} {oj : Oper} {b : Bool} (hg : oi.guard = some (j, b)) (hn : A.tmps.size = n) (hj : ops[j]? = some oj) (hd : oj.dst = some dj) (hdn : Nat.blt dj n = true) (hv : lkp L dj (A.eval (.tmp dj)) = .bool b) : Region.wanted oi (yielded ops (yF A L).tmps) = true := by
 unfold Region.wanted; rw [hg]; simp only [tq hn hj hd hdn hv]; simp
theorem mj {j dj : Nat} {oj : Oper} {b b' : Bool} (hg : oi.guard = some (j, b)) (hn : A.tmps.size = n) (hj : ops[j]? = some oj) (hd : oj.dst = some dj) (hdn : Nat.blt dj n = true) (hv : lkp L dj (A.eval (.tmp dj)) = .bool b') (hb : (b' == b) = false) : Region.wanted oi (yielded ops (yF A L).tmps) = false := by
 unfold Region.wanted; rw [hg]; simp only [tq hn hj hd hdn hv]; simpa using hb
theorem pN (hi : ops[i]? = some oi) (hd : oi.dst = some d) (hw : Region.wanted oi (yielded ops (yF A L).tmps) = true) (hS : S w)
 (hv : ∀ ρ : Operand → Value, Rd A L ρ → ∀ w, S w → (execOp ρ oi).run P w = .ok (.value v) w) (h : wpOrd P ops Q S J r (yF A ((d, v) :: L)) w) : wpOrd P ops Q S J ((i, true) :: r) (yF A L) w :=
 ⟨⟨hS, oi, v, hi, Or.inl ⟨hw, fun w hw => hv _ rfl w hw⟩, by rw [hd]; exact h.out⟩⟩
theorem ki (hi : ops[i]? = some oi) (hd : oi.dst = some d) (hw : Region.wanted oi (yielded ops (yF A L).tmps) = false) (hS : S w)
 (h : wpOrd P ops Q S J r (yF A ((d, undef) :: L)) w) : wpOrd P ops Q S J ((i, true) :: r) (yF A L) w :=
 ⟨⟨hS, oi, undef, hi, Or.inr ⟨hw, rfl⟩, by rw [hd]; exact h.out⟩⟩
theorem kj {x : Operand} (hi : ops[i]? = some oi) (hd : oi.dst = some d) (ho : oi.op = .move x) (hw : Region.wanted oi (yielded ops (yF A L).tmps) = true) (hS : S w)
 (hv : ∀ ρ : Operand → Value, Rd A L ρ → ρ x = v) (h : wpOrd P ops Q S J r (yF A ((d, v) :: L)) w) : wpOrd P ops Q S J ((i, true) :: r) (yF A L) w :=
 pN hi hd hw hS (fun ρ AB w _ => by unfold execOp; rw [ho]; simp only [hv ρ AB]; rfl) h
theorem oT (i d : Nat) (v : Value) (hi : ops[i]? = some oi) (hd : oi.dst = some d) (hw : Region.wanted oi (yielded ops (yF A L).tmps) = true) (hS : S w)
 (hv : ∀ ρ : Operand → Value, Rd A L ρ → ∀ w, S w → (execOp ρ oi).run P w = .ok (.value v) w) (h : wpOrd P ops Q S J r (yF A ((d, v) :: L)) w) : wpOrd P ops Q S J ((i, true) :: r) (yF A L) w := pN hi hd hw hS hv h
theorem oS (i d : Nat) (hi : ops[i]? = some oi) (hd : oi.dst = some d) (hw : Region.wanted oi (yielded ops (yF A L).tmps) = false) (hS : S w)
 (h : wpOrd P ops Q S J r (yF A ((d, undef) :: L)) w) : wpOrd P ops Q S J ((i, true) :: r) (yF A L) w := ki hi hd hw hS h
theorem oM (i d : Nat) (v : Value) {x : Operand} (hi : ops[i]? = some oi) (hd : oi.dst = some d) (ho : oi.op = .move x) (hw : Region.wanted oi (yielded ops (yF A L).tmps) = true) (hS : S w)
 (hv : ∀ ρ : Operand → Value, Rd A L ρ → ρ x = v) (h : wpOrd P ops Q S J r (yF A ((d, v) :: L)) w) : wpOrd P ops Q S J ((i, true) :: r) (yF A L) w := kj hi hd ho hw hS hv h
theorem wY (j dj : Nat) (b : Bool) {oj : Oper} (hg : oi.guard = some (j, b)) (hn : A.tmps.size = n) (hj : ops[j]? = some oj) (hd : oj.dst = some dj) (hdn : Nat.blt dj n = true) (hv : lkp L dj (A.eval (.tmp dj)) = .bool b) : Region.wanted oi (yielded ops (yF A L).tmps) = true := oP hg hn hj hd hdn hv
theorem wN (j dj : Nat) (b b' : Bool) {oj : Oper} (hg : oi.guard = some (j, b)) (hn : A.tmps.size = n) (hj : ops[j]? = some oj) (hd : oj.dst = some dj) (hdn : Nat.blt dj n = true) (hv : lkp L dj (A.eval (.tmp dj)) = .bool b') (hb : (b' == b) = false) : Region.wanted oi (yielded ops (yF A L).tmps) = false := mj hg hn hj hd hdn hv hb
theorem tm {ρ : Operand → Value} {x : Value} (h : Rd A L ρ) (hn : A.tmps.size = n) (k : Nat) (hk : Nat.blt k n = true) (e : lkp L k (A.eval (.tmp k)) = x) : ρ (.tmp k) = x := (h.tmp hn k hk).trans e
end
end
end
section
open Go.RowKit
def fH (b : Int) : Bool := (decide (65 ≤ b) && decide (b ≤ 90)) || (decide (97 ≤ b) && decide (b ≤ 122))
def ie (b : Int) : Bool := decide (48 ≤ b) && decide (b ≤ 57)
theorem lY (b : Int) : tA b false = (fH b || ie b || decide (b = 95)) := by
 unfold tA fH ie
 by_cases h1 : 65 ≤ b ∧ b ≤ 90
 ·simp [h1]
 ·by_cases h2 : 97 ≤ b ∧ b ≤ 122
  ·simp [h2]
  ·rw [if_neg h1, if_neg h2]
   have : (decide (65 ≤ b) && decide (b ≤ 90)) = false := by simpa using h1
   have h2' : (decide (97 ≤ b) && decide (b ≤ 122)) = false := by simpa using h2
   rw [this, h2']
   by_cases h3 : 48 ≤ b ∧ b ≤ 57
   ·simp [h3]
   ·have h3' : (decide (48 ≤ b) && decide (b ≤ 57)) = false := by simpa using h3
    rw [if_neg h3, h3']
    by_cases h4 : b = 95 <;> simp [h4]
end
end Go.Proofs.YtkkobemhbicjgaaGreatDoor
