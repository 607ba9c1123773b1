import Derived.Test.YtepicjpdhpojnaaGreatDoorS04
import Derived.Lib.Hide
namespace Go.Proofs.YtepicjpdhpojnaaGreatDoor
section
variable {P : Program} {ops : Array Oper} {Q : Exit → Act → World → Prop} {S : World → Prop} {J : List Nat}
end
end Go.Proofs.YtepicjpdhpojnaaGreatDoor
namespace Go.Proofs.YtepicjpdhpojnaaGreatDoor
open Go.RowKit
def lkp : List (Nat × Value) → Nat → Value → Value
 | [], _, d => d
 | (k, v) :: L, n, d => if n = k then v else lkp L n d
theorem lkp_hit {k : Nat} {v d : Value} {L : List (Nat × Value)} : lkp ((k, v) :: L) k d = v := if_pos rfl
theorem lkp_base {k : Nat} {u d : Value} (h : d = u) : lkp [] k d = u := h
theorem miss1 {n k : Nat} {u v d : Value} {L : List (Nat × Value)} (h : Nat.beq n k = false) (r : lkp L n d = u) : lkp ((k, v) :: L) n d = u := (if_neg (fun e => by rw [e, Nat.beq_refl] at h; cases h)).trans r
theorem miss4 {n k1 k2 k3 k4 : Nat} {u v1 v2 v3 v4 d : Value} {L : List (Nat × Value)} (h1 : Nat.beq n k1 = false) (h2 : Nat.beq n k2 = false) (h3 : Nat.beq n k3 = false) (h4 : Nat.beq n k4 = false) (r : lkp L n d = u) : lkp ((k1, v1) :: (k2, v2) :: (k3, v3) :: (k4, v4) :: L) n d = u := miss1 h1 (miss1 h2 (miss1 h3 (miss1 h4 r)))
def puts (A : Act) : List (Nat × Value) → Act
 | [] => A
 | (k, v) :: L => (puts A L).put (some k) v
theorem puts_nil (A : Act) : puts A [] = A := by cases A <;> rfl
theorem puts_cons (A : Act) (k : Nat) (v : Value) (L : List (Nat × Value)) : puts A ((k, v) :: L) = (puts A L).put (some k) v := by cases L <;> rfl
theorem put_lit (xs : List Value) (ds : List Deferred) (k : Nat) (v : Value) : (Act.mk xs.toArray ds).put (some k) v = Act.mk (xs.set k v).toArray ds := by simp [Act.put]
theorem set_0 (x v : Value) (t : List Value) : (x :: t).set 0 v = v :: t := by cases t <;> rfl
theorem set_1 (x v : Value) (t : List Value) (n : Nat) : (x :: t).set (n + 1) v = x :: t.set n v := by cases t <;> rfl
theorem puts_size (A : Act) : ∀ L : List (Nat × Value), (puts A L).tmps.size = A.tmps.size
 | [] => rfl
 | (k, v) :: L => by simp [puts, Act.put, puts_size A L]
theorem eval_puts (A : Act) (k : Nat) (hk : k < A.tmps.size) : ∀ L : List (Nat × Value), (puts A L).eval (.tmp k) = lkp L k (A.eval (.tmp k))
 | [] => rfl
 | (j, v) :: L => by
  have ih := eval_puts A k hk L
  have hs := puts_size A L
  unfold lkp
  split
  ·next h =>
   subst h
   simp [puts, Act.put, Act.eval, Array.getD, hs, hk]
  ·next h =>
   rw [← ih]
   simp only [puts, Act.put, Act.eval]
   rw [Array.getD_eq_getD_getElem?, Array.getD_eq_getD_getElem?, Array.getElem?_setIfInBounds_ne (Ne.symm h)]
def BaseOk (A : Act) : List (Nat × Value) → Prop
 | [] => True
 | (k, v) :: r => A.eval (.tmp k) = v ∧ BaseOk A r
theorem base_nil {A : Act} : BaseOk A [] := trivial
theorem base_cons {A : Act} {k : Nat} {v : Value} {r : List (Nat × Value)} (h : A.eval (.tmp k) = v) (hr : BaseOk A r) : BaseOk A ((k, v) :: r) := ⟨h, hr⟩
def Rd (A : Act) (L : List (Nat × Value)) (ρ : Operand → Value) : Prop := ρ = (puts A L).eval
theorem Rd.tmp {A : Act} {L : List (Nat × Value)} {ρ : Operand → Value} (h : Rd A L ρ) {n : Nat} (hn : A.tmps.size = n) (k : Nat) (hk : Nat.blt k n = true) : ρ (.tmp k) = lkp L k (A.eval (.tmp k)) := by
 unfold Rd at h; rw [h]; exact eval_puts A k (by rw [hn]; simpa [Nat.blt_eq] using hk) L
theorem Rd.const {A : Act} {L : List (Nat × Value)} {ρ : Operand → Value} (h : Rd A L ρ) (v : Value) : ρ (.const v) = v := by unfold Rd at h; rw [h]; rfl
theorem Rd.func {A : Act} {L : List (Nat × Value)} {ρ : Operand → Value} (h : Rd A L ρ) (f : FuncId) : ρ (.func f) = .func (.func f) #[] #[] := by unfold Rd at h; rw [h]; rfl
section
variable {P : Program} {ops : Array Oper} {Q : Exit → Act → World → Prop} {md : Region.Mode} {S : World → Prop} {J : List Nat}
def wpOrd' (P : Program) (ops : Array Oper) (Q : Exit → Act → World → Prop) (S : World → Prop) (J : List Nat) : List (Nat × Bool) → Act → World → Prop
 | [], a, w => Q .normal a w
 | (i, true) :: r, a, w => S w ∧ ∃ oi v, ops[i]? = some oi ∧ YieldsIf P ops S oi v a ∧ wpOrd' P ops Q S J r (a.put oi.dst v) w
 | (i, false) :: r, a, w => wpOp P ops Q i (fun a' w' => (J.contains i = false → S w') ∧ wpOrd' P ops Q S J r a' w') a w
structure wpOrd (P : Program) (ops : Array Oper) (Q : Exit → Act → World → Prop) (S : World → Prop) (J : List Nat) (tk : List (Nat × Bool)) (a : Act) (w : World) : Prop where
 out : wpOrd' P ops Q S J tk a w
def chkOrd (md : Region.Mode) (ops : Array Oper) (J : List Nat) : List (Nat × Bool) → Array Bool → Bool
 | [], listed => (Region.ready md ops listed).isEmpty
 | (i, true) :: r, listed => Region.free md ops listed i && (Region.ready md ops listed).contains i && closedB md ops listed && J.all (ancB md ops i ops.size) && chkOrd md ops J r (listed.setIfInBounds i true)
 | (i, false) :: r, listed => Region.ready md ops listed == [i] && chkOrd md ops J r (listed.setIfInBounds i true)
theorem wpAnyJ_of_ord (hs : Region.noSelect ops = true) (hQ : ∀ c a d v w, Q (.panic c) (a.put (some d) v) w → Q (.panic c) a w) : ∀ (tk : List (Nat × Bool)) (m : Nat) (listed : Array Bool) (a : Act) (w : World),
 chkOrd md ops J tk listed = true → wpOrd' P ops Q S J tk a w → wpAnyJ P md ops Q S J (tk.length + m) listed a w
 | [], m, listed, a, w, hc, h => wpAnyJ_done (List.isEmpty_iff.1 hc) h _
 | (i, true) :: r, m, listed, a, w, hc, h => by
  simp only [chkOrd, Bool.and_eq_true] at hc
  obtain ⟨⟨⟨⟨h1, h2⟩, h3⟩, h4⟩, h5⟩ := hc
  obtain ⟨hS, oi, v, hoi, hy, hr⟩ := h
  rw [List.length_cons, Nat.add_right_comm]
  exact wpAnyJ_take hoi rfl hs h1 h2 h3 h4 (fun c a w q => by cases hd : oi.dst with | none => rw [hd] at q; exact q | some d => rw [hd] at q; exact hQ c a d v w q) hy hS (wpAnyJ_of_ord hs hQ r m _ _ _ h5 hr)
 | (i, false) :: r, m, listed, a, w, hc, h => by
  simp only [chkOrd, Bool.and_eq_true, beq_iff_eq] at hc
  rw [List.length_cons, Nat.add_right_comm]
  refine ⟨fun h0 => (by rw [hc.1] at h0; cases h0), fun j hj => ?_⟩
  rw [hc.1] at hj
  obtain rfl := List.mem_singleton.1 hj
  exact wpOp_mono (fun a' w' h' => ⟨h'.1, wpAnyJ_of_ord hs hQ r m _ _ _ hc.2 h'.2⟩) h
def ordOk (P : Program) (ops : Array Oper) (J : List Nat) (tk : List (Nat × Bool)) : Bool := P.follows .mixedOrders && Region.noSelect ops && tk.length == ops.size && chkOrd .any ops J tk (Array.replicate ops.size false)
theorem wp_region_ord {id : Nat} {a : Act} {w : World} {base : List (Nat × Value)} {n : Nat} (tk : List (Nat × Bool)) (hk : ordOk P ops J tk = true) (hn : a.tmps.size = n) (hb : BaseOk a base) (hS : S w.drew) (hq : ∀ c a d v w, Q (.panic c) (a.put (some d) v) w → Q (.panic c) a w)
 (h : ∀ (Q2 : Exit → Act → World → Prop) (A : Act), A.tmps.size = n → BaseOk A base → Hid (∀ L w', Q .normal (puts a L) w' → Q2 .normal (puts A L) w') → S w.drew → wpOrd P ops Q2 S J tk (puts A []) w.drew) : (Code.region id ops true).wp P Q a w := by
 simp only [ordOk, Bool.and_eq_true, beq_iff_eq] at hk
 obtain ⟨⟨⟨h1, h2⟩, h3⟩, h4⟩ := hk
 refine wp_region_J (J := J) h1 hS (fun hS => ?_)
 have := wpAnyJ_of_ord (P := P) h2 hq tk 0 _ _ _ h4 (h Q a hn hb (fun L w' h => h) hS).out
 rw [Nat.add_zero, h3] at this
 exact this
theorem ord_done {A a : Act} {L : List (Nat × Value)} {w : World} {Q2 : Exit → Act → World → Prop} (hn : Hid (∀ L w', Q .normal (puts a L) w' → Q2 .normal (puts A L) w')) (h : Q .normal (puts a L) w) : wpOrd P ops Q2 S J [] (puts A L) w := ⟨hn.out L w h⟩
section
variable {A : Act} {L : List (Nat × Value)} {w : World} {n i d : Nat} {oi : Oper} {r : List (Nat × Bool)} {v : Value}
theorem wanted_none {y : Nat → Option Bool} (hg : oi.guard = none) : Region.wanted oi y = true := by unfold Region.wanted; rw [hg]
theorem yielded_at {j dj : Nat} {oj : Oper} {b : Bool} (hn : A.tmps.size = n) (hj : ops[j]? = some oj) (hd : oj.dst = some dj) (hdn : Nat.blt dj n = true) (hv : lkp L dj (A.eval (.tmp dj)) = .bool b) : yielded ops (puts A L).tmps j = some b := by
 have hlt : dj < A.tmps.size := by rw [hn]; simpa [Nat.blt_eq] using hdn
 have he := eval_puts A dj hlt L
 rw [hv] at he
 have hlt' : dj < (puts A L).tmps.size := by rw [puts_size]; exact hlt
 unfold yielded
 rw [hj]
 simp only [Option.bind_some, hd]
 simp only [Act.eval, Array.getD_eq_getD_getElem?, Array.getElem?_eq_getElem hlt', Option.getD_some] at he
 rw [Array.getElem?_eq_getElem hlt', he]
theorem wanted_yes {j dj : Nat} {oj : Oper} {b : Bool} (hg : oi.guard = some (j, b)) (hn : A.tmps.size = n) (hj : ops[j]? = some oj) (hd : oj.dst = some dj) (hdn : Nat.blt dj n = true) (hv : lkp L dj (A.eval (.tmp dj)) = .bool b) : Region.wanted oi (yielded ops (puts A L).tmps) = true := by
 unfold Region.wanted; rw [hg]; simp only [yielded_at hn hj hd hdn hv]; simp
theorem wanted_no {j dj : Nat} {oj : Oper} {b b' : Bool} (hg : oi.guard = some (j, b)) (hn : A.tmps.size = n) (hj : ops[j]? = some oj) (hd : oj.dst = some dj) (hdn : Nat.blt dj n = true) (hv : lkp L dj (A.eval (.tmp dj)) = .bool b') (hb : (b' == b) = false) : Region.wanted oi (yielded ops (puts A L).tmps) = false := by
 unfold Region.wanted; rw [hg]; simp only [yielded_at hn hj hd hdn hv]; simpa using hb
theorem ord_take (hi : ops[i]? = some oi) (hd : oi.dst = some d) (hw : Region.wanted oi (yielded ops (puts A L).tmps) = true) (hS : S w)
 (hv : ∀ ρ : Operand → Value, Rd A L ρ → ∀ w, S w → (execOp ρ oi).run P w = .ok (.value v) w) (h : wpOrd P ops Q S J r (puts A ((d, v) :: L)) w) : wpOrd P ops Q S J ((i, true) :: r) (puts A L) w :=
 ⟨⟨hS, oi, v, hi, Or.inl ⟨hw, fun w hw => hv _ rfl w hw⟩, by rw [hd]; exact h.out⟩⟩
theorem ord_skip (hi : ops[i]? = some oi) (hd : oi.dst = some d) (hw : Region.wanted oi (yielded ops (puts A L).tmps) = false) (hS : S w)
 (h : wpOrd P ops Q S J r (puts A ((d, undef) :: L)) w) : wpOrd P ops Q S J ((i, true) :: r) (puts A L) w :=
 ⟨⟨hS, oi, undef, hi, Or.inr ⟨hw, rfl⟩, by rw [hd]; exact h.out⟩⟩
theorem ord_move {x : Operand} (hi : ops[i]? = some oi) (hd : oi.dst = some d) (ho : oi.op = .move x) (hw : Region.wanted oi (yielded ops (puts A L).tmps) = true) (hS : S w)
 (hv : ∀ ρ : Operand → Value, Rd A L ρ → ρ x = v) (h : wpOrd P ops Q S J r (puts A ((d, v) :: L)) w) : wpOrd P ops Q S J ((i, true) :: r) (puts A L) w :=
 ord_take hi hd hw hS (fun ρ hρ w _ => by unfold execOp; rw [ho]; simp only [hv ρ hρ]; rfl) h
theorem ord_run {w' : World} (hi : ops[i]? = some oi) (hd : oi.dst = some d) (hw : Region.wanted oi (yielded ops (puts A L).tmps) = true)
 (hv : ∀ ρ : Operand → Value, Rd A L ρ → (execOp ρ oi).run P w = .ok (.value v) w') (hS : J.contains i = false → S w') (h : (J.contains i = false → S w') → wpOrd P ops Q S J r (puts A ((d, v) :: L)) w') : wpOrd P ops Q S J ((i, false) :: r) (puts A L) w := by
 refine ⟨?_⟩
 simp only [wpOrd', wpOp, hi, hw, if_true]
 refine .inl ?_
 rw [Oper.wp, hv _ rfl, Oper.upon_value, hd]
 exact ⟨hS, (h hS).out⟩
theorem ord_call {f : FuncId} {xs : Array Operand} {ats : Array TypeId} {vs : Array Value} (hi : ops[i]? = some oi) (hd : oi.dst = some d) (ho : oi.op = .call { callee := .value (.func f), args := xs, argTypes := ats }) (hw : Region.wanted oi (yielded ops (puts A L).tmps) = true)
 (hx : ∀ ρ : Operand → Value, Rd A L ρ → xs.map ρ = vs) (hf : ∀ w, (callFunc f vs).run P w = .ok (.enter f vs) w)
 (h : Calls P f vs w (fun e w' => ∃ v, e = .returned v ∧ (J.contains i = false → S w') ∧ ((J.contains i = false → S w') → wpOrd P ops Q S J r (puts A ((d, v) :: L)) w'))) : wpOrd P ops Q S J ((i, false) :: r) (puts A L) w := by
 refine ⟨?_⟩
 simp only [wpOrd', wpOp, hi, hw, if_true]
 refine .inl ?_
 have he : (execOp (puts A L).eval oi).run P w = .ok (.enter f vs) w := by
  have := hf w
  rw [← hx _ rfl] at this ⊢
  unfold execOp
  rw [ho]
  rw [← this]
  have e0 : (#[] ++ xs.map (puts A L).eval ++ #[] : Array Value) = xs.map (puts A L).eval := by simp
  conv => rhs; rw [← e0]
  rfl
 rw [Oper.wp, he, Oper.upon_enter]
 refine h.mono ?_
 rintro e w' ⟨v, rfl, h1, h2⟩
 simp only [hd]
 exact ⟨h1, (h2 h1).out⟩
end
end
end Go.Proofs.YtepicjpdhpojnaaGreatDoor
namespace Go.Proofs.YtepicjpdhpojnaaGreatDoor
open Go.RowKit
section
variable {P : Program} {ops : Array Oper} {Q : Exit → Act → World → Prop} {md : Region.Mode} {S : World → Prop} {J : List Nat}
def chkPre (md : Region.Mode) (ops : Array Oper) (J : List Nat) (fin : Array Bool) : List (Nat × Bool) → Array Bool → Bool
 | [], listed => listed == fin
 | (i, true) :: r, listed => Region.free md ops listed i && (Region.ready md ops listed).contains i && closedB md ops listed && J.all (ancB md ops i ops.size) && chkPre md ops J fin r (listed.setIfInBounds i true)
 | (_, false) :: _, _ => false
def QR (Q : Exit → Act → World → Prop) (R : Act → World → Prop) : Exit → Act → World → Prop := fun ex a w => match ex with
 | .normal => R a w
 | ex => Q ex a w
theorem wpAnyJ_of_pre {R : Act → World → Prop} {m : Nat} {fin : Array Bool} (hs : Region.noSelect ops = true) (hQ : ∀ c a d v w, Q (.panic c) (a.put (some d) v) w → Q (.panic c) a w) (hR : ∀ a w, R a w → wpAnyJ P md ops Q S J m fin a w) :
 ∀ (tk : List (Nat × Bool)) (listed : Array Bool) (a : Act) (w : World), chkPre md ops J fin tk listed = true → wpOrd' P ops (QR Q R) S J tk a w → wpAnyJ P md ops Q S J (tk.length + m) listed a w
 | [], listed, a, w, hc, h => by
  have : listed = fin := by simpa [chkPre] using hc
  subst this
  rw [List.length_nil, Nat.zero_add]
  exact hR a w h
 | (i, true) :: r, listed, a, w, hc, h => by
  simp only [chkPre, Bool.and_eq_true] at hc
  obtain ⟨⟨⟨⟨h1, h2⟩, h3⟩, h4⟩, h5⟩ := hc
  obtain ⟨hS, oi, v, hoi, hy, hr⟩ := h
  rw [List.length_cons, Nat.add_right_comm]
  exact wpAnyJ_take hoi rfl hs h1 h2 h3 h4 (fun c a w q => by cases hd : oi.dst with | none => rw [hd] at q; exact q | some d => rw [hd] at q; exact hQ c a d v w q) hy hS (wpAnyJ_of_pre hs hQ hR r _ _ _ h5 hr)
 | (_, false) :: _, _, _, _, hc, _ => by cases hc
theorem lat_pre {R : Act → World → Prop} {a : Act} {w : World} (h : R a w) : wpOrd P ops (QR Q R) S J [] a w := ⟨h⟩
section
variable {A : Act} {L : List (Nat × Value)} {w : World} {n i d : Nat} {oi : Oper} {v : Value} {R : Act → World → Prop}
theorem lat_call {f : FuncId} {xs : Array Operand} {ats : Array TypeId} {vs : Array Value} (hi : ops[i]? = some oi) (hd : oi.dst = some d) (ho : oi.op = .call { callee := .value (.func f), args := xs, argTypes := ats }) (hg : oi.guard = none)
 (hx : ∀ ρ : Operand → Value, Rd A L ρ → xs.map ρ = vs) (hf : ∀ w, (callFunc f vs).run P w = .ok (.enter f vs) w)
 (h : Calls P f vs w (fun e w' => ∃ v, e = .returned v ∧ R (puts A ((d, v) :: L)) w')) : wpOp P ops Q i R (puts A L) w := by
 simp only [wpOp, hi, wanted_none hg, if_true]
 refine .inl ?_
 have he : (execOp (puts A L).eval oi).run P w = .ok (.enter f vs) w := by
  have := hf w
  rw [← hx _ rfl] at this ⊢
  unfold execOp
  rw [ho]
  rw [← this]
  have e0 : (#[] ++ xs.map (puts A L).eval ++ #[] : Array Value) = xs.map (puts A L).eval := by simp
  conv => rhs; rw [← e0]
  rfl
 rw [Oper.wp, he, Oper.upon_enter]
 refine h.mono ?_
 rintro e w' ⟨v, rfl, h1⟩
 simp only [hd]
 exact h1
theorem lat_run {w' : World} (hi : ops[i]? = some oi) (hd : oi.dst = some d) (hg : oi.guard = none)
 (hv : ∀ ρ : Operand → Value, Rd A L ρ → (execOp ρ oi).run P w = .ok (.value v) w') (h : R (puts A ((d, v) :: L)) w') : wpOp P ops Q i R (puts A L) w := by
 simp only [wpOp, hi, wanted_none hg, if_true]
 refine .inl ?_
 rw [Oper.wp, hv _ rfl, Oper.upon_value, hd]
 exact h
theorem ord_store {w' : World} {r : List (Nat × Bool)} (hi : ops[i]? = some oi) (hd : oi.dst = none) (hw : Region.wanted oi (yielded ops (puts A L).tmps) = true)
 (hv : ∀ ρ : Operand → Value, Rd A L ρ → (execOp ρ oi).run P w = .ok .skip w') (hS : J.contains i = false → S w') (h : wpOrd P ops Q S J r (puts A L) w') : wpOrd P ops Q S J ((i, false) :: r) (puts A L) w := by
 refine ⟨?_⟩
 simp only [wpOrd', wpOp, hi, hw, if_true]
 refine .inl ?_
 rw [Oper.wp, hv _ rfl, Oper.upon_skip, hd]
 exact ⟨hS, h.out⟩
def optE (b : Bool) (k : Nat) (v : Value) : List (Nat × Value) := if b = true then [(k, v)] else []
theorem miss_opt {b : Bool} {n k : Nat} {u v d : Value} {L : List (Nat × Value)} (h : Nat.beq n k = false) (r : lkp L n d = u) : lkp (optE b k v ++ L) n d = u := by
 cases b
 ·exact r
 ·exact miss1 h r
theorem hit_opt {k : Nat} {v d : Value} {L : List (Nat × Value)} : lkp (optE true k v ++ L) k d = v := lkp_hit
theorem put_comm (a : Act) {k1 k2 : Nat} (h : k1 ≠ k2) (v1 v2 : Value) : (a.put (some k1) v1).put (some k2) v2 = (a.put (some k2) v2).put (some k1) v1 := by
 simp only [Act.put]
 rw [Array.setIfInBounds_comm _ _ h]
theorem puts_swap (A : Act) (L : List (Nat × Value)) {k1 k2 : Nat} (h : k1 ≠ k2) (v1 v2 : Value) : puts A ((k1, v1) :: (k2, v2) :: L) = puts A ((k2, v2) :: (k1, v1) :: L) := by
 simp only [puts]
 exact put_comm _ (Ne.symm h) _ _
theorem puts_cong (A : Act) {L L' : List (Nat × Value)} (h : puts A L = puts A L') (k : Nat) (v : Value) : puts A ((k, v) :: L) = puts A ((k, v) :: L') := by
 simp only [puts, h]
theorem puts_opt (A : Act) (L : List (Nat × Value)) {k1 k2 : Nat} (h : k1 ≠ k2) (b : Bool) (v1 v2 : Value) : puts A ((k1, v1) :: (optE b k2 v2 ++ L)) = puts A (optE b k2 v2 ++ ((k1, v1) :: L)) := by
 cases b
 ·rfl
 ·exact puts_swap A L h v1 v2
theorem puts_optc (A : Act) {L L' : List (Nat × Value)} (h : puts A L = puts A L') (b : Bool) (k : Nat) (v : Value) : puts A (optE b k v ++ L) = puts A (optE b k v ++ L') := by
 cases b
 ·exact h
 ·exact puts_cong A h k v
end
def ptr (x : Nat) : Value := .pointer (some ⟨x, 0, none⟩)
structure LatMem (H : Nat) (T7 T8 : TypeId) (z7 z8 : Array Value) (b7 b8 : Bool) (x7 x8 : Nat) (w : World) : Prop where
 le : H ≤ w.heap.size
 m7 : b7 = true → Blk w x7 T7 z7 ∧ H ≤ x7
 m8 : b8 = true → Blk w x8 T8 z8 ∧ H ≤ x8
 ne : b7 = true → b8 = true → x7 ≠ x8
section
variable {H x7 x8 g : Nat} {T7 T8 : TypeId} {z7 z8 : Array Value} {b7 b8 : Bool} {w w' : World}
theorem LatMem.later (h : LatMem H T7 T8 z7 z8 b7 b8 x7 x8 w) (hb : Below w.heap.size w w') : LatMem H T7 T8 z7 z8 b7 b8 x7 x8 w' :=
 ⟨Nat.le_trans h.le hb.size, fun e => ⟨(h.m7 e).1.below hb (h.m7 e).1.lt, (h.m7 e).2⟩, fun e => ⟨(h.m8 e).1.below hb (h.m8 e).1.lt, (h.m8 e).2⟩, h.ne⟩
theorem LatMem.grown (h : LatMem H T7 T8 z7 z8 b7 b8 x7 x8 w) (hg : w.grownBy w' (some g)) (hl : g < H) : LatMem H T7 T8 z7 z8 b7 b8 x7 x8 w' :=
 ⟨Nat.le_trans h.le hg.size, fun e => ⟨(h.m7 e).1.grown hg (fun e2 => by have := (h.m7 e).2; injection e2 with e2; omega), (h.m7 e).2⟩, fun e => ⟨(h.m8 e).1.grown hg (fun e2 => by have := (h.m8 e).2; injection e2 with e2; omega), (h.m8 e).2⟩, h.ne⟩
theorem LatMem.start (w : World) (x7 x8 : Nat) : LatMem w.heap.size T7 T8 z7 z8 false false x7 x8 w := ⟨Nat.le_refl _, fun e => (by cases e), fun e => (by cases e), fun e => (by cases e)⟩
theorem LatMem.one7 (h : LatMem H T7 T8 z7 z8 b7 b8 x7 x8 w) : LatMem H T7 T8 z7 z8 true b8 w.heap.size x8 (w.alloc (.cells z7 T7)) :=
 ⟨by have := h.le; simp; omega, fun _ => ⟨Blk.new _ _ _, h.le⟩, fun e => ⟨(h.m8 e).1.alloc _, (h.m8 e).2⟩, fun _ e => by have := (h.m8 e).1.lt; omega⟩
theorem LatMem.one8 (h : LatMem H T7 T8 z7 z8 b7 b8 x7 x8 w) : LatMem H T7 T8 z7 z8 b7 true x7 w.heap.size (w.alloc (.cells z8 T8)) :=
 ⟨by have := h.le; simp; omega, fun e => ⟨(h.m7 e).1.alloc _, (h.m7 e).2⟩, fun _ => ⟨Blk.new _ _ _, h.le⟩, fun e _ => by have := (h.m7 e).1.lt; omega⟩
end
def ents : List (Nat × Nat) → List Value → List (Nat × Value)
 | c :: cs, v :: vs => ents cs vs ++ [(c.2, v)]
 | _, _ => []
def LatP (A : Act) (L0 : List (Nat × Value)) (i7 i8 d7 d8 H : Nat) (T7 T8 : TypeId) (z7 z8 : Array Value) (Cs : List (Nat × Nat)) (F : List Value → World → Prop) (C D : List Nat) (a : Act) (w : World) : Prop :=
 ∃ (vs : List Value) (x7 x8 : Nat), C = (Cs.drop vs.length).map (·.1) ∧ D.Nodup ∧ (∀ i ∈ D, i = i7 ∨ i = i8) ∧ a = puts A (optE (!D.contains i8) d8 (ptr x8) ++ (optE (!D.contains i7) d7 (ptr x7) ++ (ents Cs vs ++ L0))) ∧ F vs w ∧ LatMem H T7 T8 z7 z8 (!D.contains i7) (!D.contains i8) x7 x8 w
section
variable {A : Act} {L0 : List (Nat × Value)} {i7 i8 d7 d8 H n : Nat} {T7 T8 : TypeId} {z7 z8 : Array Value} {Cs : List (Nat × Nat)} {F : List Value → World → Prop} {C D : List Nat} {a : Act} {w : World} {o7 o8 : Oper}
theorem erase_self {D : List Nat} (h : D.Nodup) (i : Nat) : (D.erase i).contains i = false := by
 rw [← Bool.not_eq_true, List.contains_iff_mem]; exact h.not_mem_erase
theorem erase_other {D : List Nat} {i j : Nat} (h : j ≠ i) : (D.erase i).contains j = D.contains j := by
 rw [Bool.eq_iff_iff, List.contains_iff_mem, List.contains_iff_mem, List.mem_erase_of_ne h]
theorem LatP.alloc (hF : ∀ vs w o, F vs w → F vs (w.alloc o)) (h78 : i7 ≠ i8) (hd : d7 ≠ d8) (h7 : ops[i7]? = some o7) (h8 : ops[i8]? = some o8) (hd7 : o7.dst = some d7) (hd8 : o8.dst = some d8) (hg7 : o7.guard = none) (hg8 : o8.guard = none)
 (hr7 : ∀ ρ : Operand → Value, ∀ w, (execOp ρ o7).run P w = .ok (.value (ptr w.heap.size)) (w.alloc (.cells z7 T7))) (hr8 : ∀ ρ : Operand → Value, ∀ w, (execOp ρ o8).run P w = .ok (.value (ptr w.heap.size)) (w.alloc (.cells z8 T8)))
 (i : Nat) (hi : i ∈ D) (h : LatP A L0 i7 i8 d7 d8 H T7 T8 z7 z8 Cs F C D a w) : wpOp P ops Q i (fun a' w' => LatP A L0 i7 i8 d7 d8 H T7 T8 z7 z8 Cs F C (D.erase i) a' w') a w := by
 obtain ⟨vs, x7, x8, hC, hn, hD, rfl, hf, hm⟩ := h
 have hc : D.contains i = true := by rw [List.contains_iff_mem]; exact hi
 rcases hD i hi with rfl | rfl
 ·refine lat_run h7 hd7 hg7 (fun ρ _ => hr7 ρ w) ?_
  refine ⟨vs, w.heap.size, x8, hC, hn.erase _, fun j hj => hD j (List.mem_of_mem_erase hj), ?_, hF _ _ _ hf, ?_⟩
  ·rw [erase_self hn, erase_other (Ne.symm h78), hc]
   exact puts_opt A _ hd _ _ _
  ·rw [erase_self hn, erase_other (Ne.symm h78)]
   exact hm.one7
 ·refine lat_run h8 hd8 hg8 (fun ρ _ => hr8 ρ w) ?_
  refine ⟨vs, x7, w.heap.size, hC, hn.erase _, fun j hj => hD j (List.mem_of_mem_erase hj), ?_, hF _ _ _ hf, ?_⟩
  ·rw [erase_self hn, erase_other h78, hc]
   rfl
  ·rw [erase_self hn, erase_other h78]
   exact hm.one8
end
end
end Go.Proofs.YtepicjpdhpojnaaGreatDoor
namespace Go.Proofs.YtepicjpdhpojnaaGreatDoor
open Go.RowKit
section
variable {P : Program} {ops : Array Oper} {Q : Exit → Act → World → Prop} {md : Region.Mode} {S : World → Prop} {J : List Nat}
def phiOk (md : Region.Mode) (ops : Array Oper) (g : Nat → Array Bool → Bool) (fin : Array Bool) : Nat → Array Bool → Bool
 | 0, listed => listed == fin
 | n + 1, listed => !(Region.ready md ops listed).isEmpty && (Region.ready md ops listed).all (fun i => g i listed && phiOk md ops g fin n (listed.setIfInBounds i true))
theorem wpAnyJ_phi {g : Nat → Array Bool → Bool} {Φ : Array Bool → Act → World → Prop} {m : Nat} {fin : Array Bool}
 (hs : ∀ listed i a w, g i listed = true → Φ listed a w → wpOp P ops Q i (fun a' w' => (J.contains i = false → S w') ∧ Φ (listed.setIfInBounds i true) a' w') a w)
 (he : ∀ a w, Φ fin a w → wpAnyJ P md ops Q S J m fin a w) :
 ∀ (n : Nat) (listed : Array Bool) (a : Act) (w : World), phiOk md ops g fin n listed = true → Φ listed a w → wpAnyJ P md ops Q S J (n + m) listed a w
 | 0, listed, a, w, hk, h => by
  have : listed = fin := by simpa [phiOk] using hk
  subst this
  rw [Nat.zero_add]
  exact he a w h
 | n + 1, listed, a, w, hk, h => by
  simp only [phiOk, Bool.and_eq_true] at hk
  obtain ⟨h1, h2⟩ := hk
  rw [Nat.add_right_comm]
  refine ⟨fun h0 => (by rw [h0] at h1; cases h1), fun j hj => ?_⟩
  have h5 := List.all_eq_true.1 h2 j hj
  rw [Bool.and_eq_true] at h5
  exact wpOp_mono (fun a' w' h' => ⟨h'.1, wpAnyJ_phi hs he n _ a' w' h5.2 h'.2⟩) (hs listed j a w h5.1 h)
def phiReg (P : Program) (ops : Array Oper) (J : List Nat) (pre : List (Nat × Bool)) (g : Nat → Array Bool → Bool) (k : Nat) (post : List (Nat × Bool)) (f0 f1 : Array Bool) : Bool :=
 P.follows .mixedOrders && Region.noSelect ops && pre.length + (k + post.length) == ops.size && chkPre .any ops J f0 pre (Array.replicate ops.size false) && phiOk .any ops g f1 k f0 && chkOrd .any ops J post f1
theorem wp_region_phi {id : Nat} {a : Act} {w : World} {base : List (Nat × Value)} {n : Nat} (pre post : List (Nat × Bool)) (g : Nat → Array Bool → Bool) (k : Nat) (f0 f1 : Array Bool) (hk : phiReg P ops J pre g k post f0 f1 = true) (hn : a.tmps.size = n) (hb : BaseOk a base) (hS : S w.drew) (hq : ∀ c a d v w, Q (.panic c) (a.put (some d) v) w → Q (.panic c) a w)
 (h : ∀ (Q2 : Exit → Act → World → Prop) (A : Act), A.tmps.size = n → BaseOk A base → Hid (∀ L w', Q .normal (puts a L) w' → Q2 .normal (puts A L) w') → S w.drew →
  ∃ Φ : Array Bool → Act → World → Prop, wpOrd P ops (QR Q2 (Φ f0)) S J pre (puts A []) w.drew ∧
   (∀ listed i a w, g i listed = true → Φ listed a w → wpOp P ops Q2 i (fun a' w' => (J.contains i = false → S w') ∧ Φ (listed.setIfInBounds i true) a' w') a w) ∧
   (∀ a w, Φ f1 a w → wpOrd P ops Q2 S J post a w)) : (Code.region id ops true).wp P Q a w := by
 simp only [phiReg, Bool.and_eq_true, beq_iff_eq] at hk
 obtain ⟨⟨⟨⟨⟨h1, h2⟩, h3⟩, h4⟩, h5⟩, h6⟩ := hk
 refine wp_region_J (J := J) h1 hS (fun hS => ?_)
 obtain ⟨Φ, k1, k2, k4⟩ := h Q a hn hb (fun L w' h => h) hS
 have e : ∀ a w, Φ f1 a w → wpAnyJ P .any ops Q S J post.length f1 a w := fun a w hΦ => by
  have := wpAnyJ_of_ord (P := P) h2 hq post 0 _ _ _ h6 (k4 a w hΦ).out
  rwa [Nat.add_zero] at this
 have l : ∀ a w, Φ f0 a w → wpAnyJ P .any ops Q S J (k + post.length) f0 a w := fun a w hΦ => wpAnyJ_phi k2 e k f0 a w h5 hΦ
 have := wpAnyJ_of_pre (P := P) h2 hq l pre _ _ _ h4 k1.out
 rw [h3] at this
 exact this
end
def flag (listed : Array Bool) (i : Nat) : Bool := listed.getD i false
theorem flag_same {l : Array Bool} {i : Nat} (h : i < l.size) : flag (l.setIfInBounds i true) i = true := by simp [flag, Array.getD, h]
theorem flag_ne {l : Array Bool} {i j : Nat} (h : j ≠ i) : flag (l.setIfInBounds i true) j = flag l j := by
 unfold flag
 rw [Array.getD_eq_getD_getElem?, Array.getD_eq_getD_getElem?, Array.getElem?_setIfInBounds_ne (Ne.symm h)]
def updV (vs : Nat → Value) (i : Nat) (v : Value) : Nat → Value := fun j => if j = i then v else vs j
theorem updV_same (vs : Nat → Value) (i : Nat) (v : Value) : updV vs i v i = v := if_pos rfl
theorem updV_ne {vs : Nat → Value} {i j : Nat} {v : Value} (h : j ≠ i) : updV vs i v j = vs j := if_neg h
def slots : List (Nat × Nat) → Array Bool → (Nat → Value) → List (Nat × Value)
 | [], _, _ => []
 | (i, d) :: r, l, vs => optE (flag l i) d (vs i) ++ slots r l vs
theorem slots_eq {i : Nat} {v : Value} {l : Array Bool} {vs : Nat → Value} : ∀ D : List (Nat × Nat), i ∉ D.map (·.1) → slots D (l.setIfInBounds i true) (updV vs i v) = slots D l vs
 | [], _ => rfl
 | (j, d) :: r, h => by
  have hj : j ≠ i := fun e => h (by simp [e])
  simp only [slots]
  rw [flag_ne hj, updV_ne hj, slots_eq r (fun h2 => h (by simp only [List.map_cons, List.mem_cons]; exact .inr h2))]
theorem slots_put (A : Act) (Y : List (Nat × Value)) {i d : Nat} {v : Value} {l : Array Bool} {vs : Nat → Value} (hi : i < l.size) (hf : flag l i = false) :
 ∀ D : List (Nat × Nat), (i, d) ∈ D → (D.map (·.1)).Nodup → (D.map (·.2)).Nodup → puts A ((d, v) :: (slots D l vs ++ Y)) = puts A (slots D (l.setIfInBounds i true) (updV vs i v) ++ Y)
 | [], h, _, _ => by cases h
 | (j, e) :: r, h, n1, n2 => by
  simp only [List.map_cons, List.nodup_cons] at n1 n2
  simp only [slots]
  by_cases hj : j = i
  ·subst hj
   have hd : e = d := by
    rcases List.mem_cons.1 h with h | h
    ·injection h with _ h; exact h.symm
    ·exact absurd (List.mem_map.2 ⟨_, h, rfl⟩) n1.1
   subst hd
   rw [slots_eq r n1.1, flag_same hi, hf, updV_same]
   rfl
  ·have hm : (i, d) ∈ r := by
    rcases List.mem_cons.1 h with h | h
    ·injection h with h _; exact absurd h.symm hj
    ·exact h
   have hd : d ≠ e := fun h2 => n2.1 (by rw [← h2]; exact List.mem_map.2 ⟨_, hm, rfl⟩)
   rw [flag_ne hj, updV_ne hj, List.append_assoc, List.append_assoc]
   exact (puts_opt A _ hd _ v _).trans (puts_optc A (slots_put A Y hi hf r hm n1.2 n2.2) _ _ _)
theorem beqF {k e : Nat} (h : k ≠ e) : Nat.beq k e = false := by
 rw [← Bool.not_eq_true]
 exact fun h2 => h (Nat.eq_of_beq_eq_true h2)
theorem slots_miss {k : Nat} {z u : Value} {Y : List (Nat × Value)} {l : Array Bool} {vs : Nat → Value} : ∀ D : List (Nat × Nat), (D.map (·.2)).contains k = false → lkp Y k z = u → lkp (slots D l vs ++ Y) k z = u
 | [], _, h => h
 | (j, e) :: r, hk, h => by
  simp only [List.map_cons, List.contains_cons, Bool.or_eq_false_iff] at hk
  simp only [slots]
  rw [List.append_assoc]
  exact miss_opt (beqF (by have := hk.1; simpa using this)) (slots_miss r hk.2 h)
theorem slots_get {i d : Nat} {z : Value} {Y : List (Nat × Value)} {l : Array Bool} {vs : Nat → Value} (hf : flag l i = true) : ∀ D : List (Nat × Nat), (i, d) ∈ D → (D.map (·.2)).Nodup → lkp (slots D l vs ++ Y) d z = vs i
 | [], h, _ => by cases h
 | (j, e) :: r, h, n2 => by
  simp only [List.map_cons, List.nodup_cons] at n2
  simp only [slots]
  rw [List.append_assoc]
  rcases List.mem_cons.1 h with h | h
  ·injection h with h1 h2
   subst h1 h2
   rw [hf]
   exact hit_opt
  ·have hd : d ≠ e := fun h2 => n2.1 (by rw [← h2]; exact List.mem_map.2 ⟨_, h, rfl⟩)
   exact miss_opt (beqF hd) (slots_get hf r h n2.2)
def Phi {α : Type} (A : Act) (D : List (Nat × Nat)) (L0 : List (Nat × Value)) (N : Nat) (B : World → Prop) (G : Nat → α → Value → World → Prop) (l : Array Bool) (a : Act) (w : World) : Prop :=
 ∃ (vs : Nat → Value) (γ : α), l.size = N ∧ a = puts A (slots D l vs ++ L0) ∧ B w ∧ ∀ j, flag l j = true → j ∈ D.map (·.1) → G j γ (vs j) w
theorem phi_step {α : Type} {A : Act} {D : List (Nat × Nat)} {L0 : List (Nat × Value)} {N : Nat} {B : World → Prop} {G : Nat → α → Value → World → Prop} {l : Array Bool} {i d : Nat} {v : Value} {vs : Nat → Value} {γ γ' : α} {w w' : World} (hn : (D.map (·.1)).Nodup ∧ (D.map (·.2)).Nodup) (hm : (i, d) ∈ D) (hl : l.size = N) (hi : i < N) (hf : flag l i = false)
 (hB : B w') (ho : ∀ j, flag l j = true → j ∈ D.map (·.1) → G j γ (vs j) w) (hk : ∀ j u, flag l j = true → j ∈ D.map (·.1) → G j γ u w → G j γ' u w') (hv : G i γ' v w') : Phi A D L0 N B G (l.setIfInBounds i true) (puts A ((d, v) :: (slots D l vs ++ L0))) w' := by
 refine ⟨updV vs i v, γ', by simpa using hl, slots_put A L0 (by omega) hf D hm hn.1 hn.2, hB, fun j hj hjm => ?_⟩
 by_cases hji : j = i
 ·subst hji
  rw [updV_same]
  exact hv
 ·rw [flag_ne hji] at hj
  rw [updV_ne hji]
  exact hk j _ hj hjm (ho j hj hjm)
theorem slots_none {l : Array Bool} {vs : Nat → Value} : ∀ D : List (Nat × Nat), D.all (fun p => !flag l p.1) = true → slots D l vs = []
 | [], _ => rfl
 | (i, d) :: r, h => by
  simp only [List.all_cons, Bool.and_eq_true, Bool.not_eq_true'] at h
  rw [slots, h.1, slots_none r h.2]
  rfl
theorem phi_start {α : Type} {A : Act} {D : List (Nat × Nat)} {L0 : List (Nat × Value)} {N : Nat} {B : World → Prop} {G : Nat → α → Value → World → Prop} {l : Array Bool} {w : World} (γ : α) (h0 : D.all (fun p => !flag l p.1) = true) (hl : l.size = N) (hB : B w) : Phi A D L0 N B G l (puts A L0) w :=
 ⟨fun _ => undef, γ, hl, by rw [slots_none D h0]; rfl, hB, fun j hj hm => by
  obtain ⟨⟨j', d⟩, h1, rfl⟩ := List.mem_map.1 hm
  have := List.all_eq_true.1 h0 _ h1
  simp only [hj] at this
  cases this⟩
def phiG (E : List (Nat × List Nat)) (i : Nat) (l : Array Bool) : Bool := !flag l i && E.any fun p => p.1 == i && p.2.all (flag l)
theorem phiG_out {E : List (Nat × List Nat)} {i : Nat} {l : Array Bool} (h : phiG E i l = true) : flag l i = false ∧ ∃ ds, (i, ds) ∈ E ∧ ∀ j ∈ ds, flag l j = true := by
 unfold phiG at h
 simp only [Bool.and_eq_true, Bool.not_eq_true', List.any_eq_true] at h
 obtain ⟨h1, ⟨i', ds⟩, h2, h3⟩ := h
 simp only [beq_iff_eq] at h3
 obtain ⟨rfl, h3⟩ := h3
 exact ⟨h1, ds, h2, List.all_eq_true.1 h3⟩
end Go.Proofs.YtepicjpdhpojnaaGreatDoor
