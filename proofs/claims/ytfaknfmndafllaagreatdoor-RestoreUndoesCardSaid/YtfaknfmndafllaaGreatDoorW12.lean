import Derived.Test.YtfaknfmndafllaaGreatDoorW04
import Derived.Lib.Hide
import Derived.Test.YtfaknfmndafllaaGreatDoorW03
import Derived.Deep.LoopGhost
set_option maxHeartbeats 1000000
namespace Go.Proofs.YtfaknfmndafllaaGreatDoor
def unkN (m : List Int) : Nat → List Nat
 | 0 => []
 | n + 1 => if m[n]? = some 3 then unkN m n ++ [n] else unkN m n
def cntN (m : List Int) (n : Nat) : Nat := (unkN m n).length
theorem cntN_succ (m : List Int) (n : Nat) : cntN m (n + 1) = cntN m n + if m[n]? = some 3 then 1 else 0 := by
 unfold cntN; rw [unkN]; split <;> simp
theorem cntN_mono (m : List Int) {a b : Nat} (h : a ≤ b) : cntN m a ≤ cntN m b := by
 induction b with
 | zero => obtain rfl : a = 0 := by omega
           exact Nat.le_refl _
 | succ b ih =>
  rcases Nat.lt_or_ge a (b + 1) with h1 | h1
  ·have := ih (by omega); rw [cntN_succ]; omega
  ·obtain rfl : a = b + 1 := by omega
   exact Nat.le_refl _
theorem unkN_at (m : List Int) : ∀ (n j d : Nat), (unkN m n)[j]? = some d → m[d]? = some 3 ∧ d < n ∧ cntN m d = j
 | 0, j, d, h => by simp [unkN] at h
 | n + 1, j, d, h => by
  rw [unkN] at h
  split at h
  ·next h3 =>
   rw [List.getElem?_append] at h
   split at h
   ·have := unkN_at m n j d h; exact ⟨this.1, by omega, this.2.2⟩
   ·next hj =>
    have hz : j - (unkN m n).length = 0 := by
     rcases Nat.eq_zero_or_pos (j - (unkN m n).length) with h0 | h0
     ·exact h0
     ·rw [List.getElem?_eq_none (by simp; omega)] at h; cases h
    rw [hz] at h
    simp at h
    subst h
    exact ⟨h3, by omega, by unfold cntN; omega⟩
  ·have := unkN_at m n j d h; exact ⟨this.1, by omega, this.2.2⟩
theorem cntN_inj {m : List Int} {d e : Nat} (hd : m[d]? = some 3) (he : m[e]? = some 3) (h : cntN m d = cntN m e) : d = e := by
 rcases Nat.lt_trichotomy d e with hlt | rfl | hlt
 ·have := cntN_mono m (show d + 1 ≤ e by omega)
  rw [cntN_succ, if_pos hd] at this; omega
 ·rfl
 ·have := cntN_mono m (show e + 1 ≤ d by omega)
  rw [cntN_succ, if_pos he] at this; omega
theorem cntN_lt {m : List Int} {d n : Nat} (hd : m[d]? = some 3) (h : d < n) : cntN m d < cntN m n := by
 have := cntN_mono m (show d + 1 ≤ n by omega)
 rw [cntN_succ, if_pos hd] at this; omega
def valN (m : List Int) (n k d : Nat) : Int := if m[d]? = some 3 then 1 + ((k >>> (cntN m n - 1 - cntN m d)) % 2 : Nat) else m.getD d 0
def stN (m : List Int) (n k : Nat) : List Int := (List.range n).map (valN m n k)
def Filled (m : List Int) (k j : Nat) (l : List Int) : Prop := l.length = m.length ∧ ∀ d, d < m.length → l[d]? = some (if m[d]? = some 3 ∧ cntN m d < j then valN m m.length k d else m.getD d 0)
theorem Filled.start (m : List Int) (k : Nat) : Filled m k 0 m := ⟨rfl, fun d hd => by rw [if_neg (by omega), List.getD_eq_getElem?_getD, List.getElem?_eq_getElem hd]; rfl⟩
theorem Filled.step {m l : List Int} {k j d : Nat} (h : Filled m k j l) (hd : (unkN m m.length)[j]? = some d) : Filled m k (j + 1) (l.set d (1 + ((k >>> (cntN m m.length - 1 - j)) % 2 : Nat))) := by
 obtain ⟨h3, hlt, hc⟩ := unkN_at m _ _ _ hd
 refine ⟨by simp [h.1], fun e he => ?_⟩
 rw [List.getElem?_set]
 by_cases hde : d = e
 ·subst hde
  rw [if_pos rfl, if_pos (by rw [h.1]; exact he), if_pos ⟨h3, by omega⟩]
  unfold valN; rw [if_pos h3, hc]
 ·rw [if_neg hde, h.2 e he]
  congr 1
  by_cases h3e : m[e]? = some 3
  ·have : cntN m e ≠ j := fun hh => hde (cntN_inj h3 h3e (by omega))
   by_cases hlt2 : cntN m e < j
   ·rw [if_pos ⟨h3e, hlt2⟩, if_pos ⟨h3e, by omega⟩]
   ·rw [if_neg (fun x => hlt2 x.2), if_neg (fun x => by omega)]
  ·rw [if_neg (fun x => h3e x.1), if_neg (fun x => h3e x.1)]
theorem Filled.done {m l : List Int} {k : Nat} (h : Filled m k (cntN m m.length) l) : l = stN m m.length k := by
 apply List.ext_getElem?
 intro d
 by_cases hd : d < m.length
 ·rw [h.2 d hd]
  unfold stN
  rw [List.getElem?_map, List.getElem?_range hd]
  simp only [Option.map_some, Option.some.injEq]
  by_cases h3 : m[d]? = some 3
  ·rw [if_pos ⟨h3, cntN_lt h3 hd⟩]
  ·rw [if_neg (fun x => h3 x.1)]; unfold valN; rw [if_neg h3]
 ·rw [List.getElem?_eq_none (by rw [h.1]; omega), List.getElem?_eq_none (by unfold stN; simp; omega)]
end Go.Proofs.YtfaknfmndafllaaGreatDoor
namespace Go.Proofs.YtfaknfmndafllaaGreatDoor
section
variable {P : Program} {ops : Array Oper} {Q : Exit → Act → World → Prop} {S : World → Prop} {J : List Nat}
end
end Go.Proofs.YtfaknfmndafllaaGreatDoor
namespace Go.Proofs.YtfaknfmndafllaaGreatDoor
open Go.RowKit
def lkp : List (Nat × Value) → Nat → Value → Value
 | [], _, d => d
 | (k, v) :: L, n, d => if n = k then v else lkp L n d
theorem lkp_hit {k : Nat} {v d : Value} {L : List (Nat × Value)} : lkp ((k, v) :: L) k d = v := if_pos rfl
theorem lkp_base {k : Nat} {u d : Value} (h : d = u) : lkp [] k d = u := h
theorem miss1 {n k : Nat} {u v d : Value} {L : List (Nat × Value)} (h : Nat.beq n k = false) (r : lkp L n d = u) : lkp ((k, v) :: L) n d = u := (if_neg (fun e => by rw [e, Nat.beq_refl] at h; cases h)).trans r
theorem miss4 {n k1 k2 k3 k4 : Nat} {u v1 v2 v3 v4 d : Value} {L : List (Nat × Value)} (h1 : Nat.beq n k1 = false) (h2 : Nat.beq n k2 = false) (h3 : Nat.beq n k3 = false) (h4 : Nat.beq n k4 = false) (r : lkp L n d = u) : lkp ((k1, v1) :: (k2, v2) :: (k3, v3) :: (k4, v4) :: L) n d = u := miss1 h1 (miss1 h2 (miss1 h3 (miss1 h4 r)))
def puts (A : Act) : List (Nat × Value) → Act
 | [] => A
 | (k, v) :: L => (puts A L).put (some k) v
theorem puts_nil (A : Act) : puts A [] = A := by cases A <;> rfl
theorem puts_cons (A : Act) (k : Nat) (v : Value) (L : List (Nat × Value)) : puts A ((k, v) :: L) = (puts A L).put (some k) v := by cases L <;> rfl
theorem put_lit (xs : List Value) (ds : List Deferred) (k : Nat) (v : Value) : (Act.mk xs.toArray ds).put (some k) v = Act.mk (xs.set k v).toArray ds := by simp [Act.put]
theorem set_0 (x v : Value) (t : List Value) : (x :: t).set 0 v = v :: t := by cases t <;> rfl
theorem set_1 (x v : Value) (t : List Value) (n : Nat) : (x :: t).set (n + 1) v = x :: t.set n v := by cases t <;> rfl
theorem puts_size (A : Act) : ∀ L : List (Nat × Value), (puts A L).tmps.size = A.tmps.size
 | [] => rfl
 | (k, v) :: L => by simp [puts, Act.put, puts_size A L]
theorem eval_puts (A : Act) (k : Nat) (hk : k < A.tmps.size) : ∀ L : List (Nat × Value), (puts A L).eval (.tmp k) = lkp L k (A.eval (.tmp k))
 | [] => rfl
 | (j, v) :: L => by
  have ih := eval_puts A k hk L
  have hs := puts_size A L
  unfold lkp
  split
  ·next h =>
   subst h
   simp [puts, Act.put, Act.eval, Array.getD, hs, hk]
  ·next h =>
   rw [← ih]
   simp only [puts, Act.put, Act.eval]
   rw [Array.getD_eq_getD_getElem?, Array.getD_eq_getD_getElem?, Array.getElem?_setIfInBounds_ne (Ne.symm h)]
def BaseOk (A : Act) : List (Nat × Value) → Prop
 | [] => True
 | (k, v) :: r => A.eval (.tmp k) = v ∧ BaseOk A r
theorem base_nil {A : Act} : BaseOk A [] := trivial
theorem base_cons {A : Act} {k : Nat} {v : Value} {r : List (Nat × Value)} (h : A.eval (.tmp k) = v) (hr : BaseOk A r) : BaseOk A ((k, v) :: r) := ⟨h, hr⟩
def Rd (A : Act) (L : List (Nat × Value)) (ρ : Operand → Value) : Prop := ρ = (puts A L).eval
theorem Rd.tmp {A : Act} {L : List (Nat × Value)} {ρ : Operand → Value} (h : Rd A L ρ) {n : Nat} (hn : A.tmps.size = n) (k : Nat) (hk : Nat.blt k n = true) : ρ (.tmp k) = lkp L k (A.eval (.tmp k)) := by
 unfold Rd at h; rw [h]; exact eval_puts A k (by rw [hn]; simpa [Nat.blt_eq] using hk) L
theorem Rd.const {A : Act} {L : List (Nat × Value)} {ρ : Operand → Value} (h : Rd A L ρ) (v : Value) : ρ (.const v) = v := by unfold Rd at h; rw [h]; rfl
theorem Rd.func {A : Act} {L : List (Nat × Value)} {ρ : Operand → Value} (h : Rd A L ρ) (f : FuncId) : ρ (.func f) = .func (.func f) #[] #[] := by unfold Rd at h; rw [h]; rfl
section
variable {P : Program} {ops : Array Oper} {Q : Exit → Act → World → Prop} {md : Region.Mode} {S : World → Prop} {J : List Nat}
def wpOrd' (P : Program) (ops : Array Oper) (Q : Exit → Act → World → Prop) (S : World → Prop) (J : List Nat) : List (Nat × Bool) → Act → World → Prop
 | [], a, w => Q .normal a w
 | (i, true) :: r, a, w => S w ∧ ∃ oi v, ops[i]? = some oi ∧ YieldsIf P ops S oi v a ∧ wpOrd' P ops Q S J r (a.put oi.dst v) w
 | (i, false) :: r, a, w => wpOp P ops Q i (fun a' w' => (J.contains i = false → S w') ∧ wpOrd' P ops Q S J r a' w') a w
structure wpOrd (P : Program) (ops : Array Oper) (Q : Exit → Act → World → Prop) (S : World → Prop) (J : List Nat) (tk : List (Nat × Bool)) (a : Act) (w : World) : Prop where
 out : wpOrd' P ops Q S J tk a w
def chkOrd (md : Region.Mode) (ops : Array Oper) (J : List Nat) : List (Nat × Bool) → Array Bool → Bool
 | [], listed => (Region.ready md ops listed).isEmpty
 | (i, true) :: r, listed => Region.free md ops listed i && (Region.ready md ops listed).contains i && closedB md ops listed && J.all (ancB md ops i ops.size) && chkOrd md ops J r (listed.setIfInBounds i true)
 | (i, false) :: r, listed => Region.ready md ops listed == [i] && chkOrd md ops J r (listed.setIfInBounds i true)
theorem wpAnyJ_of_ord (hs : Region.noSelect ops = true) (hQ : ∀ c a d v w, Q (.panic c) (a.put (some d) v) w → Q (.panic c) a w) : ∀ (tk : List (Nat × Bool)) (m : Nat) (listed : Array Bool) (a : Act) (w : World),
 chkOrd md ops J tk listed = true → wpOrd' P ops Q S J tk a w → wpAnyJ P md ops Q S J (tk.length + m) listed a w
 | [], m, listed, a, w, hc, h => wpAnyJ_done (List.isEmpty_iff.1 hc) h _
 | (i, true) :: r, m, listed, a, w, hc, h => by
  simp only [chkOrd, Bool.and_eq_true] at hc
  obtain ⟨⟨⟨⟨h1, h2⟩, h3⟩, h4⟩, h5⟩ := hc
  obtain ⟨hS, oi, v, hoi, hy, hr⟩ := h
  rw [List.length_cons, Nat.add_right_comm]
  exact wpAnyJ_take hoi rfl hs h1 h2 h3 h4 (fun c a w q => by cases hd : oi.dst with | none => rw [hd] at q; exact q | some d => rw [hd] at q; exact hQ c a d v w q) hy hS (wpAnyJ_of_ord hs hQ r m _ _ _ h5 hr)
 | (i, false) :: r, m, listed, a, w, hc, h => by
  simp only [chkOrd, Bool.and_eq_true, beq_iff_eq] at hc
  rw [List.length_cons, Nat.add_right_comm]
  refine ⟨fun h0 => (by rw [hc.1] at h0; cases h0), fun j hj => ?_⟩
  rw [hc.1] at hj
  obtain rfl := List.mem_singleton.1 hj
  exact wpOp_mono (fun a' w' h' => ⟨h'.1, wpAnyJ_of_ord hs hQ r m _ _ _ hc.2 h'.2⟩) h
def ordOk (P : Program) (ops : Array Oper) (J : List Nat) (tk : List (Nat × Bool)) : Bool := P.follows .mixedOrders && Region.noSelect ops && tk.length == ops.size && chkOrd .any ops J tk (Array.replicate ops.size false)
theorem wp_region_ord {id : Nat} {a : Act} {w : World} {base : List (Nat × Value)} {n : Nat} (tk : List (Nat × Bool)) (hk : ordOk P ops J tk = true) (hn : a.tmps.size = n) (hb : BaseOk a base) (hS : S w.drew) (hq : ∀ c a d v w, Q (.panic c) (a.put (some d) v) w → Q (.panic c) a w)
 (h : ∀ (Q2 : Exit → Act → World → Prop) (A : Act), A.tmps.size = n → BaseOk A base → Hid (∀ L w', Q .normal (puts a L) w' → Q2 .normal (puts A L) w') → S w.drew → wpOrd P ops Q2 S J tk (puts A []) w.drew) : (Code.region id ops true).wp P Q a w := by
 simp only [ordOk, Bool.and_eq_true, beq_iff_eq] at hk
 obtain ⟨⟨⟨h1, h2⟩, h3⟩, h4⟩ := hk
 refine wp_region_J (J := J) h1 hS (fun hS => ?_)
 have := wpAnyJ_of_ord (P := P) h2 hq tk 0 _ _ _ h4 (h Q a hn hb (fun L w' h => h) hS).out
 rw [Nat.add_zero, h3] at this
 exact this
theorem ord_done {A a : Act} {L : List (Nat × Value)} {w : World} {Q2 : Exit → Act → World → Prop} (hn : Hid (∀ L w', Q .normal (puts a L) w' → Q2 .normal (puts A L) w')) (h : Q .normal (puts a L) w) : wpOrd P ops Q2 S J [] (puts A L) w := ⟨hn.out L w h⟩
section
variable {A : Act} {L : List (Nat × Value)} {w : World} {n i d : Nat} {oi : Oper} {r : List (Nat × Bool)} {v : Value}
theorem wanted_none {y : Nat → Option Bool} (hg : oi.guard = none) : Region.wanted oi y = true := by unfold Region.wanted; rw [hg]
theorem ord_take (hi : ops[i]? = some oi) (hd : oi.dst = some d) (hw : Region.wanted oi (yielded ops (puts A L).tmps) = true) (hS : S w)
 (hv : ∀ ρ : Operand → Value, Rd A L ρ → ∀ w, S w → (execOp ρ oi).run P w = .ok (.value v) w) (h : wpOrd P ops Q S J r (puts A ((d, v) :: L)) w) : wpOrd P ops Q S J ((i, true) :: r) (puts A L) w :=
 ⟨⟨hS, oi, v, hi, Or.inl ⟨hw, fun w hw => hv _ rfl w hw⟩, by rw [hd]; exact h.out⟩⟩
theorem ord_move {x : Operand} (hi : ops[i]? = some oi) (hd : oi.dst = some d) (ho : oi.op = .move x) (hw : Region.wanted oi (yielded ops (puts A L).tmps) = true) (hS : S w)
 (hv : ∀ ρ : Operand → Value, Rd A L ρ → ρ x = v) (h : wpOrd P ops Q S J r (puts A ((d, v) :: L)) w) : wpOrd P ops Q S J ((i, true) :: r) (puts A L) w :=
 ord_take hi hd hw hS (fun ρ hρ w _ => by unfold execOp; rw [ho]; simp only [hv ρ hρ]; rfl) h
theorem ord_call {f : FuncId} {xs : Array Operand} {ats : Array TypeId} {vs : Array Value} (hi : ops[i]? = some oi) (hd : oi.dst = some d) (ho : oi.op = .call { callee := .value (.func f), args := xs, argTypes := ats }) (hw : Region.wanted oi (yielded ops (puts A L).tmps) = true)
 (hx : ∀ ρ : Operand → Value, Rd A L ρ → xs.map ρ = vs) (hf : ∀ w, (callFunc f vs).run P w = .ok (.enter f vs) w)
 (h : Calls P f vs w (fun e w' => ∃ v, e = .returned v ∧ (J.contains i = false → S w') ∧ ((J.contains i = false → S w') → wpOrd P ops Q S J r (puts A ((d, v) :: L)) w'))) : wpOrd P ops Q S J ((i, false) :: r) (puts A L) w := by
 refine ⟨?_⟩
 simp only [wpOrd', wpOp, hi, hw, if_true]
 refine .inl ?_
 have he : (execOp (puts A L).eval oi).run P w = .ok (.enter f vs) w := by
  have := hf w
  rw [← hx _ rfl] at this ⊢
  unfold execOp
  rw [ho]
  rw [← this]
  have e0 : (#[] ++ xs.map (puts A L).eval ++ #[] : Array Value) = xs.map (puts A L).eval := by simp
  conv => rhs; rw [← e0]
  rfl
 rw [Oper.wp, he, Oper.upon_enter]
 refine h.mono ?_
 rintro e w' ⟨v, rfl, h1, h2⟩
 simp only [hd]
 exact ⟨h1, (h2 h1).out⟩
end
end
end Go.Proofs.YtfaknfmndafllaaGreatDoor
namespace Go.Proofs.YtfaknfmndafllaaGreatDoor
open Go.RowKit
def letC (b : Int) : Bool := (decide (65 ≤ b) && decide (b ≤ 90)) || (decide (97 ≤ b) && decide (b ≤ 122))
def digC (b : Int) : Bool := decide (48 ≤ b) && decide (b ≤ 57)
theorem letter_any (b : Int) (w : World) : Calls Tryz.prog 82 #[.int .u8 b] w fun e w' => e = .returned (.bool (letC b)) ∧ w = w' := by
 by_cases h1 : 65 ≤ b
 ·by_cases h2 : b ≤ 90
  ·go_enter Tryz.func82, Tryz.ntmps82
   go_wp2
   go_ret
   exact ⟨ret_bool (by simp [letC, h1, h2]), rfl⟩
  ·have h2' : decide (b ≤ 90) = false := by simpa using h2
   by_cases h3 : 97 ≤ b
   ·go_enter Tryz.func82, Tryz.ntmps82
    go_wp2
    go_ret
    exact ⟨ret_bool (by simp [letC, h2', h3]), rfl⟩
   ·have h3' : decide (97 ≤ b) = false := by simpa using h3
    go_enter Tryz.func82, Tryz.ntmps82
    go_wp2
    go_ret
    exact ⟨ret_bool (by simp [letC, h2', h3']), rfl⟩
 ·have h1' : decide (65 ≤ b) = false := by simpa using h1
  have h3' : decide (97 ≤ b) = false := by simp; omega
  go_enter Tryz.func82, Tryz.ntmps82
  go_wp2
  go_ret
  exact ⟨ret_bool (by simp [letC, h1', h3']), rfl⟩
theorem digit_any (b : Int) (w : World) : Calls Tryz.prog 83 #[.int .u8 b] w fun e w' => e = .returned (.bool (digC b)) ∧ w = w' := by
 by_cases h1 : 48 ≤ b
 ·go_enter Tryz.func83, Tryz.ntmps83
  go_wp2
  go_ret
  exact ⟨ret_bool (by simp [digC, h1]), rfl⟩
 ·have h1' : decide (48 ≤ b) = false := by simpa using h1
  go_enter Tryz.func83, Tryz.ntmps83
  go_wp2
  go_ret
  exact ⟨ret_bool (by simp [digC, h1']), rfl⟩
theorem fit_first (b : Int) : fitC b true = letC b := by
 unfold fitC letC
 by_cases h1 : 65 ≤ b ∧ b ≤ 90
 ·simp [h1]
 ·by_cases h2 : 97 ≤ b ∧ b ≤ 122
  ·simp [h2]
  ·rw [if_neg h1, if_neg h2]
   have : (decide (65 ≤ b) && decide (b ≤ 90)) = false := by simpa using h1
   have h2' : (decide (97 ≤ b) && decide (b ≤ 122)) = false := by simpa using h2
   rw [this, h2']
   split
   ·rfl
   ·split <;> rfl
theorem fit_later (b : Int) : fitC b false = (letC b || digC b || decide (b = 95)) := by
 unfold fitC letC digC
 by_cases h1 : 65 ≤ b ∧ b ≤ 90
 ·simp [h1]
 ·by_cases h2 : 97 ≤ b ∧ b ≤ 122
  ·simp [h2]
  ·rw [if_neg h1, if_neg h2]
   have : (decide (65 ≤ b) && decide (b ≤ 90)) = false := by simpa using h1
   have h2' : (decide (97 ≤ b) && decide (b ≤ 122)) = false := by simpa using h2
   rw [this, h2']
   by_cases h3 : 48 ≤ b ∧ b ≤ 57
   ·simp [h3]
   ·have h3' : (decide (48 ≤ b) && decide (b ≤ 57)) = false := by simpa using h3
    rw [if_neg h3, h3']
    by_cases h4 : b = 95 <;> simp [h4]
theorem rname_any (s : ByteArray) (w : World) (hs : s.size ≤ 9223372036854775807) : Calls Tryz.prog 44 #[.string s] w fun e w' => e = .returned (.bool (nameB (toL s))) ∧ w = w' := by
 have HN : Hid (nameB (toL s) = (decide (∀ i, i < s.size → fitC ((toL s).getD i 0).toNat (i == 0) = true) && decide (1 ≤ s.size) && decide (s.size ≤ 12))) := by unfold Hid; rw [nameB, toL_len]
 by_cases h1 : s.size < 1
 ·have q1 : decide ((s.size : Int) < 1) = true := by simp; omega
  go_enter Tryz.func44, Tryz.ntmps44
  go_wp2_with fail
  go_ret
  exact ⟨ret_bool (by rw [HN.out, decide_eq_false (show ¬ 1 ≤ s.size by omega)]; simp), rfl⟩
 have q1 : decide ((s.size : Int) < 1) = false := by simp; omega
 by_cases h2 : 12 < s.size
 ·have q2 : decide ((12 : Int) < (s.size : Int)) = true := by simp; omega
  go_enter Tryz.func44, Tryz.ntmps44
  go_wp2_with fail
  go_ret
  exact ⟨ret_bool (by rw [HN.out, decide_eq_false (show ¬ s.size ≤ 12 by omega)]; simp), rfl⟩
 have q2 : decide ((12 : Int) < (s.size : Int)) = false := by simp; omega
 have hg : ∀ i (h : i < s.size), (toL s).getD i 0 = s[i] := fun i h => by rw [List.getD_eq_getElem?_getD, List.getElem?_eq_getElem (by rw [toL_len]; exact h)]; rfl
 have hs0 : 0 < s.size := by omega
 have H0 : Hid ((toL s).getD 0 0 = s[0]) := hg 0 hs0
 have HG := Lib.hid hg; clear hg
 rcases hl0 : letC ((s[0]).toNat : Int) with _ | _
 ·have HL := Lib.hid (letter_any ((s[0]).toNat : Int))
  rw [hl0] at HL
  have HR : Hid (nameB (toL s) = false) := by
   unfold Hid
   rw [HN.out, decide_eq_false (fun h => by have := h 0 hs0; rw [H0.out] at this; simp only [beq_self_eq_true] at this; rw [fit_first, hl0] at this; cases this)]
   rfl
  clear hl0
  go_enter Tryz.func44, Tryz.ntmps44
  go_wp2_with fail
  refine (HL.out _).mono ?_
  rintro e w1 ⟨rfl, rfl⟩
  go_wp2_with fail
  go_ret
  exact ⟨ret_bool (by rw [HR.out]), rfl⟩
 ·have HL := Lib.hid (letter_any ((s[0]).toNat : Int))
  rw [hl0] at HL
  have HL0 := Lib.hid hl0
  clear hl0
  go_enter Tryz.func44, Tryz.ntmps44
  go_wp2_with fail
  refine (HL.out _).mono ?_
  rintro e w1 ⟨rfl, rfl⟩
  clear q1 q2
  go_wp2_with fail
  go_loopg [3] s.size (fun gk iv wr => ∃ i : Nat, iv = .int .i64 i ∧ i ≤ s.size ∧ gk = s.size - i ∧ Hid (∀ j, j < i → fitC ((toL s).getD j 0).toNat false = true) ∧ Hid (w = wr))
  case atStart => exact ⟨0, rfl, Nat.zero_le _, rfl, fun j hj => absurd hj (by omega), rfl⟩
  case round =>
   obtain ⟨i, rfl, hi, rfl, hok, hw⟩ := hrel
   obtain rfl := hw.out
   clear hw
   by_cases hlt : i < s.size
   ·have HGI := Lib.hid (HG.out i hlt)
    have hfl := fit_later ((s[i]).toNat : Int)
    have HLI := Lib.hid (letter_any ((s[i]).toNat : Int))
    have HDI := Lib.hid (digit_any ((s[i]).toNat : Int))
    rcases hl : letC ((s[i]).toNat : Int) with _ | _
    ·rcases hd : digC ((s[i]).toNat : Int) with _ | _
     ·rw [hl] at HLI
      rw [hd] at HDI
      rw [hl, hd] at hfl
      by_cases h95 : ((s[i]).toNat : Int) = 95
      ·have q95 : (((s[i]).toNat : Int) != 95) = false := by simpa using h95
       have HOK : Hid (fitC ((toL s).getD i 0).toNat false = true) := by unfold Hid; rw [HGI.out, hfl]; simpa using h95
       clear hfl hl hd h95
       go_wp2_with fail
       refine (HLI.out _).mono ?_
       rintro e w1 ⟨rfl, rfl⟩
       go_wp2_with fail
       refine (HDI.out _).mono ?_
       rintro e w1 ⟨rfl, rfl⟩
       go_wp2_with fail
       go_roundg (s.size - (i + 1))
       case rel => exact ⟨i + 1, by go_num, by omega, rfl, fun j hj => by
        rcases Nat.lt_succ_iff_lt_or_eq.1 hj with h | h
        ·exact hok.out j h
        ·rw [h]; exact HOK.out, rfl⟩
       case measure => omega
      ·have q95 : (((s[i]).toNat : Int) != 95) = true := by simpa using h95
       have HR : Hid (nameB (toL s) = false) := by
        unfold Hid
        rw [HN.out, decide_eq_false (fun h => by
         have := h i hlt
         rw [HGI.out] at this
         rcases hb : (i == 0) with _ | _
         ·rw [hb, hfl] at this; simp [h95] at this
         ·rw [hb, fit_first, hl] at this; cases this)]
        rfl
       clear hfl hl hd h95
       go_wp2_with fail
       refine (HLI.out _).mono ?_
       rintro e w1 ⟨rfl, rfl⟩
       go_wp2_with fail
       refine (HDI.out _).mono ?_
       rintro e w1 ⟨rfl, rfl⟩
       go_wp2_with fail
       go_ret
       exact ⟨ret_bool (by rw [HR.out]), rfl⟩
     ·rw [hl] at HLI
      rw [hd] at HDI
      have HOK : Hid (fitC ((toL s).getD i 0).toNat false = true) := by unfold Hid; rw [HGI.out, hfl, hl, hd]; rfl
      clear hfl hl hd
      go_wp2_with fail
      refine (HLI.out _).mono ?_
      rintro e w1 ⟨rfl, rfl⟩
      go_wp2_with fail
      refine (HDI.out _).mono ?_
      rintro e w1 ⟨rfl, rfl⟩
      go_wp2_with fail
      go_roundg (s.size - (i + 1))
      case rel => exact ⟨i + 1, by go_num, by omega, rfl, fun j hj => by
       rcases Nat.lt_succ_iff_lt_or_eq.1 hj with h | h
       ·exact hok.out j h
       ·rw [h]; exact HOK.out, rfl⟩
      case measure => omega
    ·rw [hl] at HLI
     have HOK : Hid (fitC ((toL s).getD i 0).toNat false = true) := by unfold Hid; rw [HGI.out, hfl, hl]; rfl
     clear hfl hl
     go_wp2_with fail
     refine (HLI.out _).mono ?_
     rintro e w1 ⟨rfl, rfl⟩
     go_wp2_with fail
     go_roundg (s.size - (i + 1))
     case rel => exact ⟨i + 1, by go_num, by omega, rfl, fun j hj => by
      rcases Nat.lt_succ_iff_lt_or_eq.1 hj with h | h
      ·exact hok.out j h
      ·rw [h]; exact HOK.out, rfl⟩
     case measure => omega
   ·obtain rfl : i = s.size := by omega
    have hii : decide (s.size < s.size) = false := by simp
    have HR : Hid (nameB (toL s) = true) := by
     unfold Hid
     rw [HN.out, decide_eq_true (show 1 ≤ s.size by omega), decide_eq_true (show s.size ≤ 12 by omega), decide_eq_true (fun j hj => by
      cases j with
      | zero => rw [H0.out]; simp only [beq_self_eq_true]; rw [fit_first]; exact HL0.out
      | succ j => have := hok.out (j + 1) hj; simpa using this)]
     rfl
    go_wp2_with fail
    go_ret
    exact ⟨ret_bool (by rw [HR.out]), rfl⟩
end Go.Proofs.YtfaknfmndafllaaGreatDoor
