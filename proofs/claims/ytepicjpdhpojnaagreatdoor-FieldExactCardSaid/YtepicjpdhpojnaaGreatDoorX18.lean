import Derived.Test.YtepicjpdhpojnaaGreatDoorX11
set_option maxRecDepth 100000
set_option maxHeartbeats 8000000
namespace Go.Proofs.YtepicjpdhpojnaaGreatDoor
section
section
variable {P : Program} {ops : Array Oper} {Q : Exit → Act → World → Prop} {S : World → Prop} {J : List Nat}
end
end
section
open Go.RowKit
def lkp : List (Nat × Value) → Nat → Value → Value
 | [], _, d => d
 | (k, v) :: L, n, d => if n = k then v else lkp L n d
theorem zA {k : Nat} {v d : Value} {L : List (Nat × Value)} : lkp ((k, v) :: L) k d = v := if_pos rfl
theorem zF {k : Nat} {u d : Value} (h : d = u) : lkp [] k d = u := h
theorem zC {n k : Nat} {u v d : Value} {L : List (Nat × Value)} (h : Nat.beq n k = false) (r : lkp L n d = u) : lkp ((k, v) :: L) n d = u := (if_neg (fun e => by rw [e, Nat.beq_refl] at h; cases h)).trans r
theorem zD {n k1 k2 k3 k4 : Nat} {u v1 v2 v3 v4 d : Value} {L : List (Nat × Value)} (h1 : Nat.beq n k1 = false) (h2 : Nat.beq n k2 = false) (h3 : Nat.beq n k3 = false) (h4 : Nat.beq n k4 = false) (r : lkp L n d = u) : lkp ((k1, v1) :: (k2, v2) :: (k3, v3) :: (k4, v4) :: L) n d = u := zC h1 (zC h2 (zC h3 (zC h4 r)))
def ze (A : Act) : List (Nat × Value) → Act
 | [] => A
 | (k, v) :: L => (ze A L).put (some k) v
theorem yF (A : Act) : ze A [] = A := by cases A <;> rfl
theorem zu (A : Act) (k : Nat) (v : Value) (L : List (Nat × Value)) : ze A ((k, v) :: L) = (ze A L).put (some k) v := by cases L <;> rfl
theorem yQ (xs : List Value) (ds : List Deferred) (k : Nat) (v : Value) : (Act.mk xs.toArray ds).put (some k) v = Act.mk (xs.set k v).toArray ds := by simp [Act.put]
theorem xP (x v : Value) (t : List Value) : (x :: t).set 0 v = v :: t := by cases t <;> rfl
theorem xO (x v : Value) (t : List Value) (n : Nat) : (x :: t).set (n + 1) v = x :: t.set n v := by cases t <;> rfl
theorem ur (A : Act) : ∀ L : List (Nat × Value), (ze A L).tmps.size = A.tmps.size
 | [] => rfl
 | (k, v) :: L => by simp [ze, Act.put, ur A L]
theorem uz (A : Act) (k : Nat) (hk : k < A.tmps.size) : ∀ L : List (Nat × Value), (ze A L).eval (.tmp k) = lkp L k (A.eval (.tmp k))
 | [] => rfl
 | (j, v) :: L => by
  have ih := uz A k hk L
  have hs := ur A L
  unfold lkp
  split
  ·next h =>
   subst h
   simp [ze, Act.put, Act.eval, Array.getD, hs, hk]
  ·next h =>
   rw [← ih]
   simp only [ze, Act.put, Act.eval]
   rw [Array.getD_eq_getD_getElem?, Array.getD_eq_getD_getElem?, Array.getElem?_setIfInBounds_ne (Ne.symm h)]
def um (A : Act) : List (Nat × Value) → Prop
 | [] => True
 | (k, v) :: r => A.eval (.tmp k) = v ∧ um A r
theorem yH {A : Act} : um A [] := trivial
theorem zM {A : Act} {k : Nat} {v : Value} {r : List (Nat × Value)} (h : A.eval (.tmp k) = v) (hr : um A r) : um A ((k, v) :: r) := ⟨h, hr⟩
def Rd (A : Act) (L : List (Nat × Value)) (ρ : Operand → Value) : Prop := ρ = (ze A L).eval
theorem Rd.tmp {A : Act} {L : List (Nat × Value)} {ρ : Operand → Value} (h : Rd A L ρ) {n : Nat} (hn : A.tmps.size = n) (k : Nat) (hk : Nat.blt k n = true) : ρ (.tmp k) = lkp L k (A.eval (.tmp k)) := by
 unfold Rd at h; rw [h]; exact uz A k (by rw [hn]; simpa [Nat.blt_eq] using hk) L
theorem Rd.const {A : Act} {L : List (Nat × Value)} {ρ : Operand → Value} (h : Rd A L ρ) (v : Value) : ρ (.const v) = v := by unfold Rd at h; rw [h]; rfl
theorem Rd.func {A : Act} {L : List (Nat × Value)} {ρ : Operand → Value} (h : Rd A L ρ) (f : FuncId) : ρ (.func f) = .func (.func f) #[] #[] := by unfold Rd at h; rw [h]; rfl
section
variable {P : Program} {ops : Array Oper} {Q : Exit → Act → World → Prop} {md : Region.Mode} {S : World → Prop} {J : List Nat}
def uR (P : Program) (ops : Array Oper) (Q : Exit → Act → World → Prop) (S : World → Prop) (J : List Nat) : List (Nat × Bool) → Act → World → Prop
 | [], a, w => Q .normal a w
 | (i, true) :: r, a, w => S w ∧ ∃ oi v, ops[i]? = some oi ∧ YieldsIf P ops S oi v a ∧ uR P ops Q S J r (a.put oi.dst v) w
 | (i, false) :: r, a, w => wpOp P ops Q i (fun a' w' => (J.contains i = false → S w') ∧ uR P ops Q S J r a' w') a w
structure wpOrd (P : Program) (ops : Array Oper) (Q : Exit → Act → World → Prop) (S : World → Prop) (J : List Nat) (tk : List (Nat × Bool)) (a : Act) (w : World) : Prop where
 out : uR P ops Q S J tk a w
def tY (md : Region.Mode) (ops : Array Oper) (J : List Nat) : List (Nat × Bool) → Array Bool → Bool
 | [], listed => (Region.ready md ops listed).isEmpty
 | (i, true) :: r, listed => Region.free md ops listed i && (Region.ready md ops listed).contains i && xI md ops listed && J.all (uO md ops i ops.size) && tY md ops J r (listed.setIfInBounds i true)
 | (i, false) :: r, listed => Region.ready md ops listed == [i] && tY md ops J r (listed.setIfInBounds i true)
theorem wD (hs : Region.noSelect ops = true) (hQ : ∀ c a d v w, Q (.panic c) (a.put (some d) v) w → Q (.panic c) a w) : ∀ (tk : List (Nat × Bool)) (m : Nat) (listed : Array Bool) (a : Act) (w : World),
 tY md ops J tk listed = true → uR P ops Q S J tk a w → z6 P md ops Q S J (tk.length + m) listed a w
 | [], m, listed, a, w, hc, h => zH (List.isEmpty_iff.1 hc) h _
 | (i, true) :: r, m, listed, a, w, hc, h => by
  simp only [tY, Bool.and_eq_true] at hc
  obtain ⟨⟨⟨⟨h1, h2⟩, h3⟩, h4⟩, h5⟩ := hc
  obtain ⟨hS, oi, v, hoi, hy, hr⟩ := h
  rw [List.length_cons, Nat.add_right_comm]
  exact uS hoi rfl hs h1 h2 h3 h4 (fun c a w q => by cases hd : oi.dst with | none => rw [hd] at q; exact q | some d => rw [hd] at q; exact hQ c a d v w q) hy hS (wD hs hQ r m _ _ _ h5 hr)
 | (i, false) :: r, m, listed, a, w, hc, h => by
  simp only [tY, Bool.and_eq_true, beq_iff_eq] at hc
  rw [List.length_cons, Nat.add_right_comm]
  refine ⟨fun h0 => (by rw [hc.1] at h0; cases h0), fun j hj => ?_⟩
  rw [hc.1] at hj
  obtain rfl := List.mem_singleton.1 hj
  exact wpOp_mono (fun a' w' h' => ⟨h'.1, wD hs hQ r m _ _ _ hc.2 h'.2⟩) h
def jg (P : Program) (ops : Array Oper) (J : List Nat) (tk : List (Nat × Bool)) : Bool := P.follows .mixedOrders && Region.noSelect ops && tk.length == ops.size && tY .any ops J tk (Array.replicate ops.size false)
theorem za {id : Nat} {a : Act} {w : World} {base : List (Nat × Value)} {n : Nat} (tk : List (Nat × Bool)) (hk : jg P ops J tk = true) (hn : a.tmps.size = n) (hb : um a base) (hS : S w.drew) (hq : ∀ c a d v w, Q (.panic c) (a.put (some d) v) w → Q (.panic c) a w)
 (h : ∀ (Q2 : Exit → Act → World → Prop) (A : Act), A.tmps.size = n → um A base → Hid (∀ L w', Q .normal (ze a L) w' → Q2 .normal (ze A L) w') → S w.drew → wpOrd P ops Q2 S J tk (ze A []) w.drew) : (Code.region id ops true).wp P Q a w := by
 simp only [jg, Bool.and_eq_true, beq_iff_eq] at hk
 obtain ⟨⟨⟨h1, h2⟩, h3⟩, h4⟩ := hk
 refine zJ (J := J) h1 hS (fun hS => ?_)
 have := wD (P := P) h2 hq tk 0 _ _ _ h4 (h Q a hn hb (fun L w' h => h) hS).out
 rw [Nat.add_zero, h3] at this
 exact this
theorem yG {A a : Act} {L : List (Nat × Value)} {w : World} {Q2 : Exit → Act → World → Prop} (hn : Hid (∀ L w', Q .normal (ze a L) w' → Q2 .normal (ze A L) w')) (h : Q .normal (ze a L) w) : wpOrd P ops Q2 S J [] (ze A L) w := ⟨hn.out L w h⟩
section
variable {A : Act} {L : List (Nat × Value)} {w : World} {n i d : Nat} {oi : Oper} {r : List (Nat × Bool)} {v : Value}
theorem zB {y : Nat → Option Bool} (hg : oi.guard = none) : Region.wanted oi y = true := by unfold Region.wanted; rw [hg]
theorem rG {j dj : Nat} {oj : Oper} {b : Bool} (hn : A.tmps.size = n) (hj : ops[j]? = some oj) (hd : oj.dst = some dj) (hdn : Nat.blt dj n = true) (hv : lkp L dj (A.eval (.tmp dj)) = .bool b) : yielded ops (ze A L).tmps j = some b := by
 have hlt : dj < A.tmps.size := by rw [hn]; simpa [Nat.blt_eq] using hdn
 have he := uz A dj hlt L
 rw [hv] at he
 have hlt' : dj < (ze A L).tmps.size := by rw [ur]; exact hlt
 unfold yielded
 rw [hj]
 simp only [Option.bind_some, hd]
 simp only [Act.eval, Array.getD_eq_getD_getElem?, Array.getElem?_eq_getElem hlt', Option.getD_some] at he
 rw [Array.getElem?_eq_getElem hlt', he]
theorem nW {j dj : Nat} {oj : Oper} {b : Bool} (hg : oi.guard = some (j, b)) (hn : A.tmps.size = n) (hj : ops[j]? = some oj) (hd : oj.dst = some dj) (hdn : Nat.blt dj n = true) (hv : lkp L dj (A.eval (.tmp dj)) = .bool b) : Region.wanted oi (yielded ops (ze A L).tmps) = true := by
 unfold Region.wanted; rw [hg]; simp only [rG hn hj hd hdn hv]; simp
theorem mz {j dj : Nat} {oj : Oper} {b b' : Bool} (hg : oi.guard = some (j, b)) (hn : A.tmps.size = n) (hj : ops[j]? = some oj) (hd : oj.dst = some dj) (hdn : Nat.blt dj n = true) (hv : lkp L dj (A.eval (.tmp dj)) = .bool b') (hb : (b' == b) = false) : Region.wanted oi (yielded ops (ze A L).tmps) = false := by
 unfold Region.wanted; rw [hg]; simp only [rG hn hj hd hdn hv]; simpa using hb
theorem oQ (hi : ops[i]? = some oi) (hd : oi.dst = some d) (hw : Region.wanted oi (yielded ops (ze A L).tmps) = true) (hS : S w)
 (hv : ∀ ρ : Operand → Value, Rd A L ρ → ∀ w, S w → (execOp ρ oi).run P w = .ok (.value v) w) (h : wpOrd P ops Q S J r (ze A ((d, v) :: L)) w) : wpOrd P ops Q S J ((i, true) :: r) (ze A L) w :=
 ⟨⟨hS, oi, v, hi, Or.inl ⟨hw, fun w hw => hv _ rfl w hw⟩, by rw [hd]; exact h.out⟩⟩
theorem kD (hi : ops[i]? = some oi) (hd : oi.dst = some d) (hw : Region.wanted oi (yielded ops (ze A L).tmps) = false) (hS : S w)
 (h : wpOrd P ops Q S J r (ze A ((d, undef) :: L)) w) : wpOrd P ops Q S J ((i, true) :: r) (ze A L) w :=
 ⟨⟨hS, oi, undef, hi, Or.inr ⟨hw, rfl⟩, by rw [hd]; exact h.out⟩⟩
theorem kE {x : Operand} (hi : ops[i]? = some oi) (hd : oi.dst = some d) (ho : oi.op = .move x) (hw : Region.wanted oi (yielded ops (ze A L).tmps) = true) (hS : S w)
 (hv : ∀ ρ : Operand → Value, Rd A L ρ → ρ x = v) (h : wpOrd P ops Q S J r (ze A ((d, v) :: L)) w) : wpOrd P ops Q S J ((i, true) :: r) (ze A L) w :=
 oQ hi hd hw hS (fun ρ AB w _ => by unfold execOp; rw [ho]; simp only [hv ρ AB]; rfl) h
theorem oT (i d : Nat) (v : Value) (hi : ops[i]? = some oi) (hd : oi.dst = some d) (hw : Region.wanted oi (yielded ops (ze A L).tmps) = true) (hS : S w)
 (hv : ∀ ρ : Operand → Value, Rd A L ρ → ∀ w, S w → (execOp ρ oi).run P w = .ok (.value v) w) (h : wpOrd P ops Q S J r (ze A ((d, v) :: L)) w) : wpOrd P ops Q S J ((i, true) :: r) (ze A L) w := oQ hi hd hw hS hv h
theorem oS (i d : Nat) (hi : ops[i]? = some oi) (hd : oi.dst = some d) (hw : Region.wanted oi (yielded ops (ze A L).tmps) = false) (hS : S w)
 (h : wpOrd P ops Q S J r (ze A ((d, undef) :: L)) w) : wpOrd P ops Q S J ((i, true) :: r) (ze A L) w := kD hi hd hw hS h
theorem oM (i d : Nat) (v : Value) {x : Operand} (hi : ops[i]? = some oi) (hd : oi.dst = some d) (ho : oi.op = .move x) (hw : Region.wanted oi (yielded ops (ze A L).tmps) = true) (hS : S w)
 (hv : ∀ ρ : Operand → Value, Rd A L ρ → ρ x = v) (h : wpOrd P ops Q S J r (ze A ((d, v) :: L)) w) : wpOrd P ops Q S J ((i, true) :: r) (ze A L) w := kE hi hd ho hw hS hv h
theorem wY (j dj : Nat) (b : Bool) {oj : Oper} (hg : oi.guard = some (j, b)) (hn : A.tmps.size = n) (hj : ops[j]? = some oj) (hd : oj.dst = some dj) (hdn : Nat.blt dj n = true) (hv : lkp L dj (A.eval (.tmp dj)) = .bool b) : Region.wanted oi (yielded ops (ze A L).tmps) = true := nW hg hn hj hd hdn hv
theorem wN (j dj : Nat) (b b' : Bool) {oj : Oper} (hg : oi.guard = some (j, b)) (hn : A.tmps.size = n) (hj : ops[j]? = some oj) (hd : oj.dst = some dj) (hdn : Nat.blt dj n = true) (hv : lkp L dj (A.eval (.tmp dj)) = .bool b') (hb : (b' == b) = false) : Region.wanted oi (yielded ops (ze A L).tmps) = false := mz hg hn hj hd hdn hv hb
theorem tm {ρ : Operand → Value} {x : Value} (h : Rd A L ρ) (hn : A.tmps.size = n) (k : Nat) (hk : Nat.blt k n = true) (e : lkp L k (A.eval (.tmp k)) = x) : ρ (.tmp k) = x := (h.tmp hn k hk).trans e
theorem mW {w' : World} (hi : ops[i]? = some oi) (hd : oi.dst = some d) (hw : Region.wanted oi (yielded ops (ze A L).tmps) = true)
 (hv : ∀ ρ : Operand → Value, Rd A L ρ → (execOp ρ oi).run P w = .ok (.value v) w') (hS : J.contains i = false → S w') (h : (J.contains i = false → S w') → wpOrd P ops Q S J r (ze A ((d, v) :: L)) w') : wpOrd P ops Q S J ((i, false) :: r) (ze A L) w := by
 refine ⟨?_⟩
 simp only [uR, wpOp, hi, hw, if_true]
 refine .inl ?_
 rw [Oper.wp, hv _ rfl, Oper.upon_value, hd]
 exact ⟨hS, (h hS).out⟩
theorem yR {f : FuncId} {xs : Array Operand} {ats : Array TypeId} {vs : Array Value} (hi : ops[i]? = some oi) (hd : oi.dst = some d) (ho : oi.op = .call { callee := .value (.func f), args := xs, argTypes := ats }) (hw : Region.wanted oi (yielded ops (ze A L).tmps) = true)
 (hx : ∀ ρ : Operand → Value, Rd A L ρ → xs.map ρ = vs) (hf : ∀ w, (callFunc f vs).run P w = .ok (.enter f vs) w)
 (h : Calls P f vs w (fun e w' => ∃ v, e = .returned v ∧ (J.contains i = false → S w') ∧ ((J.contains i = false → S w') → wpOrd P ops Q S J r (ze A ((d, v) :: L)) w'))) : wpOrd P ops Q S J ((i, false) :: r) (ze A L) w := by
 refine ⟨?_⟩
 simp only [uR, wpOp, hi, hw, if_true]
 refine .inl ?_
 have he : (execOp (ze A L).eval oi).run P w = .ok (.enter f vs) w := by
  have := hf w
  rw [← hx _ rfl] at this ⊢
  unfold execOp
  rw [ho]
  rw [← this]
  have e0 : (#[] ++ xs.map (ze A L).eval ++ #[] : Array Value) = xs.map (ze A L).eval := by simp
  conv => rhs; rw [← e0]
  rfl
 rw [Oper.wp, he, Oper.upon_enter]
 refine h.mono ?_
 rintro e w' ⟨v, rfl, h1, h2⟩
 simp only [hd]
 exact ⟨h1, (h2 h1).out⟩
end
end
end
section
open Go.RowKit
section
variable {P : Program} {ops : Array Oper} {A : Act} {L : List (Nat × Value)} {n : Nat} {oi : Oper}
theorem nX {j dj : Nat} {oj : Oper} {b : Bool} (hg : oi.guard = some (j, b)) (hn : A.tmps.size = n) (hj : ops[j]? = some oj) (hd : oj.dst = some dj) (hdn : Nat.blt dj n = true) (hv : lkp L dj (A.eval (.tmp dj)) = undef) : Region.wanted oi (yielded ops (ze A L).tmps) = false := by
 have hlt : dj < A.tmps.size := by rw [hn]; simpa [Nat.blt_eq] using hdn
 have he := uz A dj hlt L
 rw [hv] at he
 have hlt' : dj < (ze A L).tmps.size := by rw [ur]; exact hlt
 have hy : yielded ops (ze A L).tmps j = none := by
  unfold yielded
  rw [hj]
  simp only [Option.bind_some, hd]
  simp only [Act.eval, Array.getD_eq_getD_getElem?, Array.getElem?_eq_getElem hlt', Option.getD_some] at he
  rw [Array.getElem?_eq_getElem hlt', he]
  rfl
 unfold Region.wanted; rw [hg]; simp only [hy]; rfl
theorem wU (j dj : Nat) (b : Bool) {oj : Oper} (hg : oi.guard = some (j, b)) (hn : A.tmps.size = n) (hj : ops[j]? = some oj) (hd : oj.dst = some dj) (hdn : Nat.blt dj n = true) (hv : lkp L dj (A.eval (.tmp dj)) = undef) : Region.wanted oi (yielded ops (ze A L).tmps) = false := nX hg hn hj hd hdn hv
end
end
section
open Go.RowKit
def ye (u : Int) : Int → List Int → Bool
 | _, [] => true
 | p, x :: t => decide (p < x) && decide (x < u) && ye u x t
def xr : Int → List Int → Int
 | p, [] => p
 | _, x :: t => xr x t
theorem ve (u x : Int) : ∀ (p : Int) (l : List Int), ye u p (l ++ [x]) = (ye u p l && decide (xr p l < x) && decide (x < u))
 | p, [] => by
  show (decide (p < x) && decide (x < u) && true) = (true && decide (p < x) && decide (x < u))
  rw [Bool.and_true, Bool.true_and]
 | p, y :: t => by rw [List.cons_append, ye, ve u x y t, ye, xr]; simp only [Bool.and_assoc]
theorem sK {u : Int} : ∀ {p : Int} {l : List Int} (i : Nat), ye u p l = true → ye u p (l.take i) = true
 | _, [], i, _ => by simp [ye]
 | _, x :: t, 0, _ => by simp [ye]
 | p, x :: t, i + 1, h => by
  rw [ye, Bool.and_eq_true] at h
  rw [List.take_succ_cons, ye, h.1, sK i h.2]; rfl
theorem uE (x : Int) : ∀ (p : Int) (l : List Int), xr p (l ++ [x]) = x
 | _, [] => rfl
 | _, y :: t => uE x y t
theorem tW {l : List Int} {i : Nat} {x p : Int} (h : l[i]? = some x) : xr p (l.take (i + 1)) = x := by rw [zt h, uE]
theorem uV {u x : Int} {l : List Int} {i : Nat} (hx : l[i]? = some x) (h : xr (-1) (l.take i) < x → x < u → False) : ye u (-1) l = false := by
 rw [Bool.eq_false_iff]
 intro e
 have := sK (i + 1) e
 rw [zt hx, ve, Bool.and_eq_true, Bool.and_eq_true] at this
 exact h (by simpa using this.1.2) (by simpa using this.2)
theorem rc {u x : Int} {l : List Int} {i : Nat} (hx : l[i]? = some x) (hp : ye u (-1) (l.take i) = true) (h1 : xr (-1) (l.take i) < x) (h2 : x < u) : ye u (-1) (l.take (i + 1)) = true := by
 rw [zt hx, ve, hp, decide_eq_true h1, decide_eq_true h2]; rfl
theorem ly {u : Int} : ∀ {p : Int} {l : List Int}, ye u p l = true → p ≤ xr p l
 | p, [], _ => Int.le_refl _
 | p, x :: t, h => by
  rw [ye, Bool.and_eq_true, Bool.and_eq_true] at h
  have := ly h.2
  have h1 : p < x := by simpa using h.1.1
  rw [xr]; omega
def iP (w : World) (l : List Int) (u : Int) (n gk : Nat) (lv iv : Value) (wr : World) : Prop := ∃ i : Nat, lv = .int .i64 (xr (-1) (l.take i)) ∧ iv = .int .i64 i ∧ i ≤ n ∧ gk = n - i ∧ wr = w ∧ Hid (ye u (-1) (l.take i) = true)
theorem rZ (A : Option Addr) (n c B : Nat) (l : List Int) (u : Int) (w : World) (hs : Sl w B 1 A n c (zK l)) :
 Calls Tryz.prog 87 #[.slice A n c, .int .i64 u] w fun e w' => e = .returned (.bool (ye u (-1) l)) ∧ w = w' := by
 have hle := hs.le
 have HL := iD (hs.len (fun _ => rfl) (by decide))
 have HS := iD hs
 clear hs
 go_enter Tryz.func87, Tryz.ntmps87
 go_wp2_with fail
 go_loopg [5, 11] n (iP w l u n)
 case atStart => exact ⟨0, rfl, rfl, Nat.zero_le _, rfl, rfl, rfl⟩
 case round =>
  obtain ⟨i, rfl, rfl, hi, rfl, rfl, hR⟩ := hrel
  by_cases hlt : i < n
  ·obtain ⟨b, off, x, rfl, hb, hx, hc⟩ := HS.out.at1 hlt
   have HX := iD hx
   have HT : Hid (xr (-1) (l.take (i + 1)) = x) := tW hx
   obtain ⟨la, hla⟩ : ∃ la, la = xr (-1) (l.take i) := ⟨_, rfl⟩
   rw [← hla]
   have HLA := iD hla
   clear hx hla
   by_cases h1 : x ≤ la
   ·have q1 : decide (x ≤ la) = true := by simpa using h1
    have HF : Hid (ye u (-1) l = false) := uV HX.out fun h _ => by rw [← HLA.out] at h; omega
    clear h1
    go_wp2_with fail
    go_ret
    exact ⟨zP HF.out.symm, rfl⟩
   have q1 : decide (x ≤ la) = false := by simpa using h1
   by_cases h2 : u ≤ x
   ·have q2 : decide (u ≤ x) = true := by simpa using h2
    have HF : Hid (ye u (-1) l = false) := uV HX.out fun _ h => by omega
    clear h1 h2
    go_wp2_with fail
    go_ret
    exact ⟨zP HF.out.symm, rfl⟩
   have q2 : decide (u ≤ x) = false := by simpa using h2
   have HN : Hid (ye u (-1) (l.take (i + 1)) = true) := rc HX.out hR.out (by rw [← HLA.out]; omega) (by omega)
   clear h1 h2
   go_wp2_with fail
   go_roundg (n - (i + 1))
   case rel => exact ⟨i + 1, by rw [HT.out], by go_num, by omega, rfl, rfl, HN⟩
   case measure => omega
  ·obtain rfl : i = n := by omega
   have hii : decide (i < i) = false := by simp
   have HF : Hid (ye u (-1) l = true) := by have := hR.out; rw [List.take_of_length_le (by rw [HL.out]; exact Nat.le_refl _)] at this; exact this
   go_wp2_with fail
   go_ret
   exact ⟨zP HF.out.symm, rfl⟩
def iO (w : World) (l : List Int) (u : Int) (n gk : Nat) (iv : Value) (wr : World) : Prop := ∃ (i q : Nat), iv = .int .i64 i ∧ i ≤ n ∧ gk = n - i ∧ wr = w.drewN q ∧ Hid (ye u (-1) (l.take i) = true)
theorem lw (A : Option Addr) (n c B : Nat) (l : List Int) (u : Int) (w : World) (hs : Sl w B 1 A n c (zK l)) :
 Calls Tryz.prog 101 #[.slice A n c, .int .i64 u] w fun e w' => e = .returned (.bool (ye u (-1) l)) ∧ ∃ q, w' = w.drewN q := by
 have hle := hs.le
 have HL := iD (hs.len (fun _ => rfl) (by decide))
 have HS := iD hs
 clear hs
 go_enter Tryz.func101, Tryz.ntmps101
 go_wp2_with fail
 go_loopg [5] n (iO w l u n)
 case atStart => exact ⟨0, 0, rfl, Nat.zero_le _, rfl, rfl, rfl⟩
 case round =>
  obtain ⟨i, nq, rfl, hi, rfl, rfl, hR⟩ := hrel
  by_cases hlt : i < n
  ·obtain ⟨b, off, x, rfl, hb, hx, hc⟩ := HS.out.at1 hlt
   have HX := iD hx
   have HT : Hid (xr (-1) (l.take (i + 1)) = x) := tW hx
   have HC : Hid ((w.drewN nq).cell? ⟨b, off + i, none⟩ = some (.int .i64 x)) := hc
   have hnn : n ≤ 9223372036854775807 := by omega
   clear hx hc
   go_upto_region 4 with (fail)
   by_cases h0 : x < 0
   ·have q0 : decide (x < 0) = true := by simpa using h0
    have HF : Hid (ye u (-1) l = false) := uV HX.out fun h _ => by have := ly hR.out; omega
    clear h0
    refine za (S := fun W' => W'.cell? ⟨b, off + i, none⟩ = some (.int .i64 x)) (J := []) (n := _) ((0, true) :: (1, true) :: (2, true) :: (3, true) :: (4, true) :: (5, true) :: (6, true) :: (7, true) :: (8, true) :: (9, true) :: (10, true) :: (11, true) :: (12, true) :: (13, true) :: (14, true) :: (15, true) :: (16, true) :: (17, true) :: (18, true) :: (19, true) :: (20, true) :: (21, true) :: (22, true) :: (23, true) :: (24, true) :: (25, true) :: (26, true) :: (27, true) :: (28, true) :: []) (by as_aux_lemma => kernel_rfl) (by rfl) (zM (k := 0) (by go_simp; rfl) (zM (k := 5) (by go_simp; rfl) yH)) ?_ (fun _ _ _ _ _ h => h) (fun Q2 A hsz hbase hn2 AA => ?_)
    ·exact HC.out
    try dsimp only at AA
    obtain ⟨b0, b5, -⟩ := hbase
    refine oM 0 12 ?_ rfl rfl rfl (zB rfl) AA (fun ρ AB => ?_) ?_
    rotate_left
    ·(have e0 := tm AB hsz 0 rfl (zF b0); exact e0)
    refine oM 1 13 ?_ rfl rfl rfl (zB rfl) AA (fun ρ AB => ?_) ?_
    rotate_left
    ·(have e5 := tm AB hsz 5 rfl (zC rfl (zF b5)); exact e5)
    refine oT 2 14 ?_ rfl rfl (zB rfl) AA (fun ρ AB w hSw => ?_) ?_
    rotate_left
    ·(have e12 := tm AB hsz 12 rfl (zC rfl zA); have e13 := tm AB hsz 13 rfl zA; clear AB; (try dsimp only at hSw); go_simp; try with_reducible rfl)
    refine oT 3 15 ?_ rfl rfl (zB rfl) AA (fun ρ AB w hSw => ?_) ?_
    rotate_left
    ·(have e14 := tm AB hsz 14 rfl zA; clear AB; (try dsimp only at hSw); have hx := hSw; clear hSw; go_simp; try with_reducible rfl)
    refine oT 4 16 ?_ rfl rfl (zB rfl) AA (fun ρ AB w hSw => ?_) ?_
    rotate_left
    ·(have hc := AB.const; have e15 := tm AB hsz 15 rfl zA; clear AB; (try dsimp only at hSw); go_simp; try with_reducible rfl)
    refine oM 5 17 ?_ rfl rfl rfl (zB rfl) AA (fun ρ AB => ?_) ?_
    rotate_left
    ·(have e16 := tm AB hsz 16 rfl zA; exact e16)
    refine oS 6 18 rfl rfl (wN 5 17 false true rfl hsz rfl rfl rfl zA rfl) AA ?_
    refine oS 7 19 rfl rfl (wN 5 17 false true rfl hsz rfl rfl rfl (zC rfl zA) rfl) AA ?_
    refine oS 8 20 rfl rfl (wN 5 17 false true rfl hsz rfl rfl rfl (zC rfl (zC rfl zA)) rfl) AA ?_
    refine oS 9 21 rfl rfl (wN 5 17 false true rfl hsz rfl rfl rfl (zC rfl (zC rfl (zC rfl zA))) rfl) AA ?_
    refine oS 10 22 rfl rfl (wN 5 17 false true rfl hsz rfl rfl rfl (zD rfl rfl rfl rfl zA) rfl) AA ?_
    refine oS 11 23 rfl rfl (wN 5 17 false true rfl hsz rfl rfl rfl (zD rfl rfl rfl rfl (zC rfl zA)) rfl) AA ?_
    refine oT 12 24 ?_ rfl rfl (zB rfl) AA (fun ρ AB w hSw => ?_) ?_
    rotate_left
    ·(have hc := AB.const; have e17 := tm AB hsz 17 rfl (zD rfl rfl rfl rfl (zC rfl (zC rfl zA))); have e23 := tm AB hsz 23 rfl zA; clear AB; (try dsimp only at hSw); go_simp; try with_reducible rfl)
    refine oM 13 25 ?_ rfl rfl rfl (zB rfl) AA (fun ρ AB => ?_) ?_
    rotate_left
    ·(have e24 := tm AB hsz 24 rfl zA; exact e24)
    refine oS 14 26 rfl rfl (wN 13 25 false true rfl hsz rfl rfl rfl zA rfl) AA ?_
    refine oS 15 27 rfl rfl (wN 13 25 false true rfl hsz rfl rfl rfl (zC rfl zA) rfl) AA ?_
    refine oS 16 28 rfl rfl (wN 13 25 false true rfl hsz rfl rfl rfl (zC rfl (zC rfl zA)) rfl) AA ?_
    refine oS 17 29 rfl rfl (wU 16 28 true rfl hsz rfl rfl rfl zA) AA ?_
    refine oS 18 30 rfl rfl (wU 16 28 true rfl hsz rfl rfl rfl (zC rfl zA)) AA ?_
    refine oS 19 31 rfl rfl (wU 16 28 true rfl hsz rfl rfl rfl (zC rfl (zC rfl zA))) AA ?_
    refine oS 20 32 rfl rfl (wU 16 28 true rfl hsz rfl rfl rfl (zC rfl (zC rfl (zC rfl zA)))) AA ?_
    refine oS 21 33 rfl rfl (wU 16 28 true rfl hsz rfl rfl rfl (zD rfl rfl rfl rfl zA)) AA ?_
    refine oS 22 34 rfl rfl (wU 16 28 true rfl hsz rfl rfl rfl (zD rfl rfl rfl rfl (zC rfl zA))) AA ?_
    refine oS 23 35 rfl rfl (wU 16 28 true rfl hsz rfl rfl rfl (zD rfl rfl rfl rfl (zC rfl (zC rfl zA)))) AA ?_
    refine oS 24 36 rfl rfl (wU 16 28 true rfl hsz rfl rfl rfl (zD rfl rfl rfl rfl (zC rfl (zC rfl (zC rfl zA))))) AA ?_
    refine oS 25 37 rfl rfl (wU 16 28 true rfl hsz rfl rfl rfl (zD rfl rfl rfl rfl (zD rfl rfl rfl rfl zA))) AA ?_
    refine oS 26 38 rfl rfl (wU 16 28 true rfl hsz rfl rfl rfl (zD rfl rfl rfl rfl (zD rfl rfl rfl rfl (zC rfl zA)))) AA ?_
    refine oS 27 39 rfl rfl (wN 13 25 false true rfl hsz rfl rfl rfl (zD rfl rfl rfl rfl (zD rfl rfl rfl rfl (zD rfl rfl rfl rfl (zC rfl zA)))) rfl) AA ?_
    refine oT 28 40 ?_ rfl rfl (zB rfl) AA (fun ρ AB w hSw => ?_) ?_
    rotate_left
    ·(have hc := AB.const; have e25 := tm AB hsz 25 rfl (zD rfl rfl rfl rfl (zD rfl rfl rfl rfl (zD rfl rfl rfl rfl (zC rfl (zC rfl zA))))); have e39 := tm AB hsz 39 rfl zA; clear AB; (try dsimp only at hSw); go_simp; try with_reducible rfl)
    refine yG hn2 ?_
    clear AA hn2 b0 b5 hsz A Q2
    simp only [yF, zu, yQ, xO, xP]
    go_wp2_with fail
    go_ret
    exact ⟨zP HF.out.symm, nq + 1, rfl⟩
   have q0 : decide (x < 0) = false := by simpa using h0
   by_cases h1 : u ≤ x
   ·have q1 : decide (u ≤ x) = true := by simpa using h1
    have HF : Hid (ye u (-1) l = false) := uV HX.out fun _ h => by omega
    clear h0 h1
    refine za (S := fun W' => W'.cell? ⟨b, off + i, none⟩ = some (.int .i64 x)) (J := []) (n := _) ((0, true) :: (1, true) :: (2, true) :: (3, true) :: (4, true) :: (5, true) :: (6, true) :: (7, true) :: (8, true) :: (9, true) :: (10, true) :: (11, true) :: (12, true) :: (13, true) :: (14, true) :: (15, true) :: (16, true) :: (17, true) :: (18, true) :: (19, true) :: (20, true) :: (21, true) :: (22, true) :: (23, true) :: (24, true) :: (25, true) :: (26, true) :: (27, true) :: (28, true) :: []) (by as_aux_lemma => kernel_rfl) (by rfl) (zM (k := 0) (by go_simp; rfl) (zM (k := 5) (by go_simp; rfl) (zM (k := 1) (by go_simp; rfl) yH))) ?_ (fun _ _ _ _ _ h => h) (fun Q2 A hsz hbase hn2 AA => ?_)
    ·exact HC.out
    try dsimp only at AA
    obtain ⟨b0, b5, b1, -⟩ := hbase
    refine oM 0 12 ?_ rfl rfl rfl (zB rfl) AA (fun ρ AB => ?_) ?_
    rotate_left
    ·(have e0 := tm AB hsz 0 rfl (zF b0); exact e0)
    refine oM 1 13 ?_ rfl rfl rfl (zB rfl) AA (fun ρ AB => ?_) ?_
    rotate_left
    ·(have e5 := tm AB hsz 5 rfl (zC rfl (zF b5)); exact e5)
    refine oT 2 14 ?_ rfl rfl (zB rfl) AA (fun ρ AB w hSw => ?_) ?_
    rotate_left
    ·(have e12 := tm AB hsz 12 rfl (zC rfl zA); have e13 := tm AB hsz 13 rfl zA; clear AB; (try dsimp only at hSw); go_simp; try with_reducible rfl)
    refine oT 3 15 ?_ rfl rfl (zB rfl) AA (fun ρ AB w hSw => ?_) ?_
    rotate_left
    ·(have e14 := tm AB hsz 14 rfl zA; clear AB; (try dsimp only at hSw); have hx := hSw; clear hSw; go_simp; try with_reducible rfl)
    refine oT 4 16 ?_ rfl rfl (zB rfl) AA (fun ρ AB w hSw => ?_) ?_
    rotate_left
    ·(have hc := AB.const; have e15 := tm AB hsz 15 rfl zA; clear AB; (try dsimp only at hSw); go_simp; try with_reducible rfl)
    refine oM 5 17 ?_ rfl rfl rfl (zB rfl) AA (fun ρ AB => ?_) ?_
    rotate_left
    ·(have e16 := tm AB hsz 16 rfl zA; exact e16)
    refine oM 6 18 ?_ rfl rfl rfl (wY 5 17 false rfl hsz rfl rfl rfl zA) AA (fun ρ AB => ?_) ?_
    rotate_left
    ·(have e0 := tm AB hsz 0 rfl (zD rfl rfl rfl rfl (zC rfl (zC rfl (zF b0)))); exact e0)
    refine oM 7 19 ?_ rfl rfl rfl (wY 5 17 false rfl hsz rfl rfl rfl (zC rfl zA)) AA (fun ρ AB => ?_) ?_
    rotate_left
    ·(have e5 := tm AB hsz 5 rfl (zD rfl rfl rfl rfl (zC rfl (zC rfl (zC rfl (zF b5))))); exact e5)
    refine oT 8 20 ?_ rfl rfl (wY 5 17 false rfl hsz rfl rfl rfl (zC rfl (zC rfl zA))) AA (fun ρ AB w hSw => ?_) ?_
    rotate_left
    ·(have e18 := tm AB hsz 18 rfl (zC rfl zA); have e19 := tm AB hsz 19 rfl zA; clear AB; (try dsimp only at hSw); go_simp; try with_reducible rfl)
    refine oT 9 21 ?_ rfl rfl (wY 5 17 false rfl hsz rfl rfl rfl (zC rfl (zC rfl (zC rfl zA)))) AA (fun ρ AB w hSw => ?_) ?_
    rotate_left
    ·(have e20 := tm AB hsz 20 rfl zA; clear AB; (try dsimp only at hSw); have hx := hSw; clear hSw; go_simp; try with_reducible rfl)
    refine oM 10 22 ?_ rfl rfl rfl (wY 5 17 false rfl hsz rfl rfl rfl (zD rfl rfl rfl rfl zA)) AA (fun ρ AB => ?_) ?_
    rotate_left
    ·(have e1 := tm AB hsz 1 rfl (zD rfl rfl rfl rfl (zD rfl rfl rfl rfl (zC rfl (zC rfl (zF b1))))); exact e1)
    refine oT 11 23 ?_ rfl rfl (wY 5 17 false rfl hsz rfl rfl rfl (zD rfl rfl rfl rfl (zC rfl zA))) AA (fun ρ AB w hSw => ?_) ?_
    rotate_left
    ·(have e21 := tm AB hsz 21 rfl (zC rfl zA); have e22 := tm AB hsz 22 rfl zA; clear AB; (try dsimp only at hSw); go_simp; try with_reducible rfl)
    refine oT 12 24 ?_ rfl rfl (zB rfl) AA (fun ρ AB w hSw => ?_) ?_
    rotate_left
    ·(have hc := AB.const; have e17 := tm AB hsz 17 rfl (zD rfl rfl rfl rfl (zC rfl (zC rfl zA))); have e23 := tm AB hsz 23 rfl zA; clear AB; (try dsimp only at hSw); go_simp; try with_reducible rfl)
    refine oM 13 25 ?_ rfl rfl rfl (zB rfl) AA (fun ρ AB => ?_) ?_
    rotate_left
    ·(have e24 := tm AB hsz 24 rfl zA; exact e24)
    refine oS 14 26 rfl rfl (wN 13 25 false true rfl hsz rfl rfl rfl zA rfl) AA ?_
    refine oS 15 27 rfl rfl (wN 13 25 false true rfl hsz rfl rfl rfl (zC rfl zA) rfl) AA ?_
    refine oS 16 28 rfl rfl (wN 13 25 false true rfl hsz rfl rfl rfl (zC rfl (zC rfl zA)) rfl) AA ?_
    refine oS 17 29 rfl rfl (wU 16 28 true rfl hsz rfl rfl rfl zA) AA ?_
    refine oS 18 30 rfl rfl (wU 16 28 true rfl hsz rfl rfl rfl (zC rfl zA)) AA ?_
    refine oS 19 31 rfl rfl (wU 16 28 true rfl hsz rfl rfl rfl (zC rfl (zC rfl zA))) AA ?_
    refine oS 20 32 rfl rfl (wU 16 28 true rfl hsz rfl rfl rfl (zC rfl (zC rfl (zC rfl zA)))) AA ?_
    refine oS 21 33 rfl rfl (wU 16 28 true rfl hsz rfl rfl rfl (zD rfl rfl rfl rfl zA)) AA ?_
    refine oS 22 34 rfl rfl (wU 16 28 true rfl hsz rfl rfl rfl (zD rfl rfl rfl rfl (zC rfl zA))) AA ?_
    refine oS 23 35 rfl rfl (wU 16 28 true rfl hsz rfl rfl rfl (zD rfl rfl rfl rfl (zC rfl (zC rfl zA)))) AA ?_
    refine oS 24 36 rfl rfl (wU 16 28 true rfl hsz rfl rfl rfl (zD rfl rfl rfl rfl (zC rfl (zC rfl (zC rfl zA))))) AA ?_
    refine oS 25 37 rfl rfl (wU 16 28 true rfl hsz rfl rfl rfl (zD rfl rfl rfl rfl (zD rfl rfl rfl rfl zA))) AA ?_
    refine oS 26 38 rfl rfl (wU 16 28 true rfl hsz rfl rfl rfl (zD rfl rfl rfl rfl (zD rfl rfl rfl rfl (zC rfl zA)))) AA ?_
    refine oS 27 39 rfl rfl (wN 13 25 false true rfl hsz rfl rfl rfl (zD rfl rfl rfl rfl (zD rfl rfl rfl rfl (zD rfl rfl rfl rfl (zC rfl zA)))) rfl) AA ?_
    refine oT 28 40 ?_ rfl rfl (zB rfl) AA (fun ρ AB w hSw => ?_) ?_
    rotate_left
    ·(have hc := AB.const; have e25 := tm AB hsz 25 rfl (zD rfl rfl rfl rfl (zD rfl rfl rfl rfl (zD rfl rfl rfl rfl (zC rfl (zC rfl zA))))); have e39 := tm AB hsz 39 rfl zA; clear AB; (try dsimp only at hSw); go_simp; try with_reducible rfl)
    refine yG hn2 ?_
    clear AA hn2 b0 b5 b1 hsz A Q2
    simp only [yF, zu, yQ, xO, xP]
    go_wp2_with fail
    go_ret
    exact ⟨zP HF.out.symm, nq + 1, rfl⟩
   have q1 : decide (u ≤ x) = false := by simpa using h1
   by_cases hi0 : 0 < i; rotate_left
   ·have HN : Hid (ye u (-1) (l.take (i + 1)) = true) := rc HX.out hR.out (by rw [show i = 0 by omega]; simp [xr]; omega) (by omega)
    have hz : decide ((0 : Int) < (i : Int)) = false := by simp; omega
    have hz2 : decide (0 < i) = false := by simp; omega
    clear h0 h1
    refine za (S := fun W' => W'.cell? ⟨b, off + i, none⟩ = some (.int .i64 x)) (J := []) (n := _) ((0, true) :: (1, true) :: (2, true) :: (3, true) :: (4, true) :: (5, true) :: (6, true) :: (7, true) :: (8, true) :: (9, true) :: (10, true) :: (11, true) :: (12, true) :: (13, true) :: (14, true) :: (15, true) :: (16, true) :: (17, true) :: (18, true) :: (19, true) :: (20, true) :: (21, true) :: (22, true) :: (23, true) :: (24, true) :: (25, true) :: (26, true) :: (27, true) :: (28, true) :: []) (by as_aux_lemma => kernel_rfl) (by rfl) (zM (k := 0) (by go_simp; rfl) (zM (k := 5) (by go_simp; rfl) (zM (k := 1) (by go_simp; rfl) yH))) ?_ (fun _ _ _ _ _ h => h) (fun Q2 A hsz hbase hn2 AA => ?_)
    ·exact HC.out
    try dsimp only at AA
    obtain ⟨b0, b5, b1, -⟩ := hbase
    refine oM 0 12 ?_ rfl rfl rfl (zB rfl) AA (fun ρ AB => ?_) ?_
    rotate_left
    ·(have e0 := tm AB hsz 0 rfl (zF b0); exact e0)
    refine oM 1 13 ?_ rfl rfl rfl (zB rfl) AA (fun ρ AB => ?_) ?_
    rotate_left
    ·(have e5 := tm AB hsz 5 rfl (zC rfl (zF b5)); exact e5)
    refine oT 2 14 ?_ rfl rfl (zB rfl) AA (fun ρ AB w hSw => ?_) ?_
    rotate_left
    ·(have e12 := tm AB hsz 12 rfl (zC rfl zA); have e13 := tm AB hsz 13 rfl zA; clear AB; (try dsimp only at hSw); go_simp; try with_reducible rfl)
    refine oT 3 15 ?_ rfl rfl (zB rfl) AA (fun ρ AB w hSw => ?_) ?_
    rotate_left
    ·(have e14 := tm AB hsz 14 rfl zA; clear AB; (try dsimp only at hSw); have hx := hSw; clear hSw; go_simp; try with_reducible rfl)
    refine oT 4 16 ?_ rfl rfl (zB rfl) AA (fun ρ AB w hSw => ?_) ?_
    rotate_left
    ·(have hc := AB.const; have e15 := tm AB hsz 15 rfl zA; clear AB; (try dsimp only at hSw); go_simp; try with_reducible rfl)
    refine oM 5 17 ?_ rfl rfl rfl (zB rfl) AA (fun ρ AB => ?_) ?_
    rotate_left
    ·(have e16 := tm AB hsz 16 rfl zA; exact e16)
    refine oM 6 18 ?_ rfl rfl rfl (wY 5 17 false rfl hsz rfl rfl rfl zA) AA (fun ρ AB => ?_) ?_
    rotate_left
    ·(have e0 := tm AB hsz 0 rfl (zD rfl rfl rfl rfl (zC rfl (zC rfl (zF b0)))); exact e0)
    refine oM 7 19 ?_ rfl rfl rfl (wY 5 17 false rfl hsz rfl rfl rfl (zC rfl zA)) AA (fun ρ AB => ?_) ?_
    rotate_left
    ·(have e5 := tm AB hsz 5 rfl (zD rfl rfl rfl rfl (zC rfl (zC rfl (zC rfl (zF b5))))); exact e5)
    refine oT 8 20 ?_ rfl rfl (wY 5 17 false rfl hsz rfl rfl rfl (zC rfl (zC rfl zA))) AA (fun ρ AB w hSw => ?_) ?_
    rotate_left
    ·(have e18 := tm AB hsz 18 rfl (zC rfl zA); have e19 := tm AB hsz 19 rfl zA; clear AB; (try dsimp only at hSw); go_simp; try with_reducible rfl)
    refine oT 9 21 ?_ rfl rfl (wY 5 17 false rfl hsz rfl rfl rfl (zC rfl (zC rfl (zC rfl zA)))) AA (fun ρ AB w hSw => ?_) ?_
    rotate_left
    ·(have e20 := tm AB hsz 20 rfl zA; clear AB; (try dsimp only at hSw); have hx := hSw; clear hSw; go_simp; try with_reducible rfl)
    refine oM 10 22 ?_ rfl rfl rfl (wY 5 17 false rfl hsz rfl rfl rfl (zD rfl rfl rfl rfl zA)) AA (fun ρ AB => ?_) ?_
    rotate_left
    ·(have e1 := tm AB hsz 1 rfl (zD rfl rfl rfl rfl (zD rfl rfl rfl rfl (zC rfl (zC rfl (zF b1))))); exact e1)
    refine oT 11 23 ?_ rfl rfl (wY 5 17 false rfl hsz rfl rfl rfl (zD rfl rfl rfl rfl (zC rfl zA))) AA (fun ρ AB w hSw => ?_) ?_
    rotate_left
    ·(have e21 := tm AB hsz 21 rfl (zC rfl zA); have e22 := tm AB hsz 22 rfl zA; clear AB; (try dsimp only at hSw); go_simp; try with_reducible rfl)
    refine oT 12 24 ?_ rfl rfl (zB rfl) AA (fun ρ AB w hSw => ?_) ?_
    rotate_left
    ·(have hc := AB.const; have e17 := tm AB hsz 17 rfl (zD rfl rfl rfl rfl (zC rfl (zC rfl zA))); have e23 := tm AB hsz 23 rfl zA; clear AB; (try dsimp only at hSw); go_simp; try with_reducible rfl)
    refine oM 13 25 ?_ rfl rfl rfl (zB rfl) AA (fun ρ AB => ?_) ?_
    rotate_left
    ·(have e24 := tm AB hsz 24 rfl zA; exact e24)
    refine oM 14 26 ?_ rfl rfl rfl (wY 13 25 false rfl hsz rfl rfl rfl zA) AA (fun ρ AB => ?_) ?_
    rotate_left
    ·(have e5 := tm AB hsz 5 rfl (zD rfl rfl rfl rfl (zD rfl rfl rfl rfl (zD rfl rfl rfl rfl (zC rfl (zC rfl (zF b5)))))); exact e5)
    refine oT 15 27 ?_ rfl rfl (wY 13 25 false rfl hsz rfl rfl rfl (zC rfl zA)) AA (fun ρ AB w hSw => ?_) ?_
    rotate_left
    ·(have hc := AB.const; have e26 := tm AB hsz 26 rfl zA; clear AB; (try dsimp only at hSw); go_simp; try with_reducible rfl)
    refine oM 16 28 ?_ rfl rfl rfl (wY 13 25 false rfl hsz rfl rfl rfl (zC rfl (zC rfl zA))) AA (fun ρ AB => ?_) ?_
    rotate_left
    ·(have e27 := tm AB hsz 27 rfl zA; exact e27)
    refine oS 17 29 rfl rfl (wN 16 28 true false rfl hsz rfl rfl rfl zA rfl) AA ?_
    refine oS 18 30 rfl rfl (wN 16 28 true false rfl hsz rfl rfl rfl (zC rfl zA) rfl) AA ?_
    refine oS 19 31 rfl rfl (wN 16 28 true false rfl hsz rfl rfl rfl (zC rfl (zC rfl zA)) rfl) AA ?_
    refine oS 20 32 rfl rfl (wN 16 28 true false rfl hsz rfl rfl rfl (zC rfl (zC rfl (zC rfl zA))) rfl) AA ?_
    refine oS 21 33 rfl rfl (wN 16 28 true false rfl hsz rfl rfl rfl (zD rfl rfl rfl rfl zA) rfl) AA ?_
    refine oS 22 34 rfl rfl (wN 16 28 true false rfl hsz rfl rfl rfl (zD rfl rfl rfl rfl (zC rfl zA)) rfl) AA ?_
    refine oS 23 35 rfl rfl (wN 16 28 true false rfl hsz rfl rfl rfl (zD rfl rfl rfl rfl (zC rfl (zC rfl zA))) rfl) AA ?_
    refine oS 24 36 rfl rfl (wN 16 28 true false rfl hsz rfl rfl rfl (zD rfl rfl rfl rfl (zC rfl (zC rfl (zC rfl zA)))) rfl) AA ?_
    refine oS 25 37 rfl rfl (wN 16 28 true false rfl hsz rfl rfl rfl (zD rfl rfl rfl rfl (zD rfl rfl rfl rfl zA)) rfl) AA ?_
    refine oS 26 38 rfl rfl (wN 16 28 true false rfl hsz rfl rfl rfl (zD rfl rfl rfl rfl (zD rfl rfl rfl rfl (zC rfl zA))) rfl) AA ?_
    refine oT 27 39 ?_ rfl rfl (wY 13 25 false rfl hsz rfl rfl rfl (zD rfl rfl rfl rfl (zD rfl rfl rfl rfl (zD rfl rfl rfl rfl (zC rfl zA))))) AA (fun ρ AB w hSw => ?_) ?_
    rotate_left
    ·(have hc := AB.const; have e28 := tm AB hsz 28 rfl (zD rfl rfl rfl rfl (zD rfl rfl rfl rfl (zC rfl (zC rfl zA)))); have e38 := tm AB hsz 38 rfl zA; clear AB; (try dsimp only at hSw); go_simp; try with_reducible rfl)
    refine oT 28 40 ?_ rfl rfl (zB rfl) AA (fun ρ AB w hSw => ?_) ?_
    rotate_left
    ·(have hc := AB.const; have e25 := tm AB hsz 25 rfl (zD rfl rfl rfl rfl (zD rfl rfl rfl rfl (zD rfl rfl rfl rfl (zC rfl (zC rfl zA))))); have e39 := tm AB hsz 39 rfl zA; clear AB; (try dsimp only at hSw); go_simp; try with_reducible rfl)
    refine yG hn2 ?_
    clear AA hn2 b0 b5 b1 hsz A Q2
    simp only [yF, zu, yQ, xO, xP]
    go_wp2_with fail
    go_roundg (n - (i + 1))
    case rel => exact ⟨i + 1, nq + 1, by go_num, by omega, rfl, rfl, HN⟩
    case measure => omega
   obtain ⟨b2, off2, y, e2, hb2, hy, hcy⟩ := HS.out.at1 (k := i - 1) (by omega)
   injection e2 with e2; injection e2 with e2 e3; subst e2 e3
   have HC2 : Hid ((w.drewN nq).cell? ⟨b, off + i, none⟩ = some (.int .i64 x) ∧ (w.drewN nq).cell? ⟨b, off + (i - 1), none⟩ = some (.int .i64 y)) := ⟨HC.out, hcy⟩
   have HLY : Hid (xr (-1) (l.take i) = y) := by have := tW (p := -1) hy; rwa [show i - 1 + 1 = i by omega] at this
   have hz : decide ((0 : Int) < (i : Int)) = true := by simpa using hi0
   have hz2 : decide (0 < i) = true := by simpa using hi0
   have hsub : IntKind.wrap .i64 ((i : Int) - 1) = ((i - 1 : Nat) : Int) := by rw [IntKind.wrap_i64]; omega
   have hin1 : i - 1 < n := by omega
   clear hy hcy HC
   by_cases h2 : x ≤ y
   ·have q2 : decide (x ≤ y) = true := by simpa using h2
    have HF : Hid (ye u (-1) l = false) := uV HX.out fun h _ => by rw [HLY.out] at h; omega
    clear h0 h1 h2
    refine za (S := fun W' => W'.cell? ⟨b, off + i, none⟩ = some (.int .i64 x) ∧ W'.cell? ⟨b, off + (i - 1), none⟩ = some (.int .i64 y)) (J := []) (n := _) ((0, true) :: (1, true) :: (2, true) :: (3, true) :: (4, true) :: (5, true) :: (6, true) :: (7, true) :: (8, true) :: (9, true) :: (10, true) :: (11, true) :: (12, true) :: (13, true) :: (14, true) :: (15, true) :: (16, true) :: (17, true) :: (18, true) :: (19, true) :: (20, true) :: (21, true) :: (22, true) :: (23, true) :: (24, true) :: (25, true) :: (26, true) :: (27, true) :: (28, true) :: []) (by as_aux_lemma => kernel_rfl) (by rfl) (zM (k := 0) (by go_simp; rfl) (zM (k := 5) (by go_simp; rfl) (zM (k := 1) (by go_simp; rfl) yH))) ?_ (fun _ _ _ _ _ h => h) (fun Q2 A hsz hbase hn2 AA => ?_)
    ·exact HC2.out
    try dsimp only at AA
    obtain ⟨b0, b5, b1, -⟩ := hbase
    refine oM 0 12 ?_ rfl rfl rfl (zB rfl) AA (fun ρ AB => ?_) ?_
    rotate_left
    ·(have e0 := tm AB hsz 0 rfl (zF b0); exact e0)
    refine oM 1 13 ?_ rfl rfl rfl (zB rfl) AA (fun ρ AB => ?_) ?_
    rotate_left
    ·(have e5 := tm AB hsz 5 rfl (zC rfl (zF b5)); exact e5)
    refine oT 2 14 ?_ rfl rfl (zB rfl) AA (fun ρ AB w hSw => ?_) ?_
    rotate_left
    ·(have e12 := tm AB hsz 12 rfl (zC rfl zA); have e13 := tm AB hsz 13 rfl zA; clear AB; (try dsimp only at hSw); go_simp; try with_reducible rfl)
    refine oT 3 15 ?_ rfl rfl (zB rfl) AA (fun ρ AB w hSw => ?_) ?_
    rotate_left
    ·(have e14 := tm AB hsz 14 rfl zA; clear AB; (try dsimp only at hSw); have hx := hSw.1; clear hSw; go_simp; try with_reducible rfl)
    refine oT 4 16 ?_ rfl rfl (zB rfl) AA (fun ρ AB w hSw => ?_) ?_
    rotate_left
    ·(have hc := AB.const; have e15 := tm AB hsz 15 rfl zA; clear AB; (try dsimp only at hSw); go_simp; try with_reducible rfl)
    refine oM 5 17 ?_ rfl rfl rfl (zB rfl) AA (fun ρ AB => ?_) ?_
    rotate_left
    ·(have e16 := tm AB hsz 16 rfl zA; exact e16)
    refine oM 6 18 ?_ rfl rfl rfl (wY 5 17 false rfl hsz rfl rfl rfl zA) AA (fun ρ AB => ?_) ?_
    rotate_left
    ·(have e0 := tm AB hsz 0 rfl (zD rfl rfl rfl rfl (zC rfl (zC rfl (zF b0)))); exact e0)
    refine oM 7 19 ?_ rfl rfl rfl (wY 5 17 false rfl hsz rfl rfl rfl (zC rfl zA)) AA (fun ρ AB => ?_) ?_
    rotate_left
    ·(have e5 := tm AB hsz 5 rfl (zD rfl rfl rfl rfl (zC rfl (zC rfl (zC rfl (zF b5))))); exact e5)
    refine oT 8 20 ?_ rfl rfl (wY 5 17 false rfl hsz rfl rfl rfl (zC rfl (zC rfl zA))) AA (fun ρ AB w hSw => ?_) ?_
    rotate_left
    ·(have e18 := tm AB hsz 18 rfl (zC rfl zA); have e19 := tm AB hsz 19 rfl zA; clear AB; (try dsimp only at hSw); go_simp; try with_reducible rfl)
    refine oT 9 21 ?_ rfl rfl (wY 5 17 false rfl hsz rfl rfl rfl (zC rfl (zC rfl (zC rfl zA)))) AA (fun ρ AB w hSw => ?_) ?_
    rotate_left
    ·(have e20 := tm AB hsz 20 rfl zA; clear AB; (try dsimp only at hSw); have hx := hSw.1; clear hSw; go_simp; try with_reducible rfl)
    refine oM 10 22 ?_ rfl rfl rfl (wY 5 17 false rfl hsz rfl rfl rfl (zD rfl rfl rfl rfl zA)) AA (fun ρ AB => ?_) ?_
    rotate_left
    ·(have e1 := tm AB hsz 1 rfl (zD rfl rfl rfl rfl (zD rfl rfl rfl rfl (zC rfl (zC rfl (zF b1))))); exact e1)
    refine oT 11 23 ?_ rfl rfl (wY 5 17 false rfl hsz rfl rfl rfl (zD rfl rfl rfl rfl (zC rfl zA))) AA (fun ρ AB w hSw => ?_) ?_
    rotate_left
    ·(have e21 := tm AB hsz 21 rfl (zC rfl zA); have e22 := tm AB hsz 22 rfl zA; clear AB; (try dsimp only at hSw); go_simp; try with_reducible rfl)
    refine oT 12 24 ?_ rfl rfl (zB rfl) AA (fun ρ AB w hSw => ?_) ?_
    rotate_left
    ·(have hc := AB.const; have e17 := tm AB hsz 17 rfl (zD rfl rfl rfl rfl (zC rfl (zC rfl zA))); have e23 := tm AB hsz 23 rfl zA; clear AB; (try dsimp only at hSw); go_simp; try with_reducible rfl)
    refine oM 13 25 ?_ rfl rfl rfl (zB rfl) AA (fun ρ AB => ?_) ?_
    rotate_left
    ·(have e24 := tm AB hsz 24 rfl zA; exact e24)
    refine oM 14 26 ?_ rfl rfl rfl (wY 13 25 false rfl hsz rfl rfl rfl zA) AA (fun ρ AB => ?_) ?_
    rotate_left
    ·(have e5 := tm AB hsz 5 rfl (zD rfl rfl rfl rfl (zD rfl rfl rfl rfl (zD rfl rfl rfl rfl (zC rfl (zC rfl (zF b5)))))); exact e5)
    refine oT 15 27 ?_ rfl rfl (wY 13 25 false rfl hsz rfl rfl rfl (zC rfl zA)) AA (fun ρ AB w hSw => ?_) ?_
    rotate_left
    ·(have hc := AB.const; have e26 := tm AB hsz 26 rfl zA; clear AB; (try dsimp only at hSw); go_simp; try with_reducible rfl)
    refine oM 16 28 ?_ rfl rfl rfl (wY 13 25 false rfl hsz rfl rfl rfl (zC rfl (zC rfl zA))) AA (fun ρ AB => ?_) ?_
    rotate_left
    ·(have e27 := tm AB hsz 27 rfl zA; exact e27)
    refine oM 17 29 ?_ rfl rfl rfl (wY 16 28 true rfl hsz rfl rfl rfl zA) AA (fun ρ AB => ?_) ?_
    rotate_left
    ·(have e0 := tm AB hsz 0 rfl (zD rfl rfl rfl rfl (zD rfl rfl rfl rfl (zD rfl rfl rfl rfl (zD rfl rfl rfl rfl (zC rfl (zF b0)))))); exact e0)
    refine oM 18 30 ?_ rfl rfl rfl (wY 16 28 true rfl hsz rfl rfl rfl (zC rfl zA)) AA (fun ρ AB => ?_) ?_
    rotate_left
    ·(have e5 := tm AB hsz 5 rfl (zD rfl rfl rfl rfl (zD rfl rfl rfl rfl (zD rfl rfl rfl rfl (zD rfl rfl rfl rfl (zC rfl (zC rfl (zF b5))))))); exact e5)
    refine oT 19 31 ?_ rfl rfl (wY 16 28 true rfl hsz rfl rfl rfl (zC rfl (zC rfl zA))) AA (fun ρ AB w hSw => ?_) ?_
    rotate_left
    ·(have e29 := tm AB hsz 29 rfl (zC rfl zA); have e30 := tm AB hsz 30 rfl zA; clear AB; (try dsimp only at hSw); go_simp; try with_reducible rfl)
    refine oT 20 32 ?_ rfl rfl (wY 16 28 true rfl hsz rfl rfl rfl (zC rfl (zC rfl (zC rfl zA)))) AA (fun ρ AB w hSw => ?_) ?_
    rotate_left
    ·(have e31 := tm AB hsz 31 rfl zA; clear AB; (try dsimp only at hSw); have hx := hSw.1; clear hSw; go_simp; try with_reducible rfl)
    refine oM 21 33 ?_ rfl rfl rfl (wY 16 28 true rfl hsz rfl rfl rfl (zD rfl rfl rfl rfl zA)) AA (fun ρ AB => ?_) ?_
    rotate_left
    ·(have e0 := tm AB hsz 0 rfl (zD rfl rfl rfl rfl (zD rfl rfl rfl rfl (zD rfl rfl rfl rfl (zD rfl rfl rfl rfl (zD rfl rfl rfl rfl (zC rfl (zF b0))))))); exact e0)
    refine oM 22 34 ?_ rfl rfl rfl (wY 16 28 true rfl hsz rfl rfl rfl (zD rfl rfl rfl rfl (zC rfl zA))) AA (fun ρ AB => ?_) ?_
    rotate_left
    ·(have e5 := tm AB hsz 5 rfl (zD rfl rfl rfl rfl (zD rfl rfl rfl rfl (zD rfl rfl rfl rfl (zD rfl rfl rfl rfl (zD rfl rfl rfl rfl (zC rfl (zC rfl (zF b5)))))))); exact e5)
    refine oT 23 35 ?_ rfl rfl (wY 16 28 true rfl hsz rfl rfl rfl (zD rfl rfl rfl rfl (zC rfl (zC rfl zA)))) AA (fun ρ AB w hSw => ?_) ?_
    rotate_left
    ·(have hc := AB.const; have e34 := tm AB hsz 34 rfl zA; clear AB; (try dsimp only at hSw); go_simp; try with_reducible rfl)
    refine oT 24 36 ?_ rfl rfl (wY 16 28 true rfl hsz rfl rfl rfl (zD rfl rfl rfl rfl (zC rfl (zC rfl (zC rfl zA))))) AA (fun ρ AB w hSw => ?_) ?_
    rotate_left
    ·(have e33 := tm AB hsz 33 rfl (zC rfl (zC rfl zA)); have e35 := tm AB hsz 35 rfl zA; clear AB; (try dsimp only at hSw); go_simp; try with_reducible rfl)
    refine oT 25 37 ?_ rfl rfl (wY 16 28 true rfl hsz rfl rfl rfl (zD rfl rfl rfl rfl (zD rfl rfl rfl rfl zA))) AA (fun ρ AB w hSw => ?_) ?_
    rotate_left
    ·(have e36 := tm AB hsz 36 rfl zA; clear AB; (try dsimp only at hSw); have hx := hSw.2; clear hSw; go_simp; try with_reducible rfl)
    refine oT 26 38 ?_ rfl rfl (wY 16 28 true rfl hsz rfl rfl rfl (zD rfl rfl rfl rfl (zD rfl rfl rfl rfl (zC rfl zA)))) AA (fun ρ AB w hSw => ?_) ?_
    rotate_left
    ·(have e32 := tm AB hsz 32 rfl (zD rfl rfl rfl rfl (zC rfl zA)); have e37 := tm AB hsz 37 rfl zA; clear AB; (try dsimp only at hSw); go_simp; try with_reducible rfl)
    refine oT 27 39 ?_ rfl rfl (wY 13 25 false rfl hsz rfl rfl rfl (zD rfl rfl rfl rfl (zD rfl rfl rfl rfl (zD rfl rfl rfl rfl (zC rfl zA))))) AA (fun ρ AB w hSw => ?_) ?_
    rotate_left
    ·(have hc := AB.const; have e28 := tm AB hsz 28 rfl (zD rfl rfl rfl rfl (zD rfl rfl rfl rfl (zC rfl (zC rfl zA)))); have e38 := tm AB hsz 38 rfl zA; clear AB; (try dsimp only at hSw); go_simp; try with_reducible rfl)
    refine oT 28 40 ?_ rfl rfl (zB rfl) AA (fun ρ AB w hSw => ?_) ?_
    rotate_left
    ·(have hc := AB.const; have e25 := tm AB hsz 25 rfl (zD rfl rfl rfl rfl (zD rfl rfl rfl rfl (zD rfl rfl rfl rfl (zC rfl (zC rfl zA))))); have e39 := tm AB hsz 39 rfl zA; clear AB; (try dsimp only at hSw); go_simp; try with_reducible rfl)
    refine yG hn2 ?_
    clear AA hn2 b0 b5 b1 hsz A Q2
    simp only [yF, zu, yQ, xO, xP]
    go_wp2_with fail
    go_ret
    exact ⟨zP HF.out.symm, nq + 1, rfl⟩
   have q2 : decide (x ≤ y) = false := by simpa using h2
   have HN : Hid (ye u (-1) (l.take (i + 1)) = true) := rc HX.out hR.out (by rw [HLY.out]; omega) (by omega)
   clear h0 h1 h2
   refine za (S := fun W' => W'.cell? ⟨b, off + i, none⟩ = some (.int .i64 x) ∧ W'.cell? ⟨b, off + (i - 1), none⟩ = some (.int .i64 y)) (J := []) (n := _) ((0, true) :: (1, true) :: (2, true) :: (3, true) :: (4, true) :: (5, true) :: (6, true) :: (7, true) :: (8, true) :: (9, true) :: (10, true) :: (11, true) :: (12, true) :: (13, true) :: (14, true) :: (15, true) :: (16, true) :: (17, true) :: (18, true) :: (19, true) :: (20, true) :: (21, true) :: (22, true) :: (23, true) :: (24, true) :: (25, true) :: (26, true) :: (27, true) :: (28, true) :: []) (by as_aux_lemma => kernel_rfl) (by rfl) (zM (k := 0) (by go_simp; rfl) (zM (k := 5) (by go_simp; rfl) (zM (k := 1) (by go_simp; rfl) yH))) ?_ (fun _ _ _ _ _ h => h) (fun Q2 A hsz hbase hn2 AA => ?_)
   ·exact HC2.out
   try dsimp only at AA
   obtain ⟨b0, b5, b1, -⟩ := hbase
   refine oM 0 12 ?_ rfl rfl rfl (zB rfl) AA (fun ρ AB => ?_) ?_
   rotate_left
   ·(have e0 := tm AB hsz 0 rfl (zF b0); exact e0)
   refine oM 1 13 ?_ rfl rfl rfl (zB rfl) AA (fun ρ AB => ?_) ?_
   rotate_left
   ·(have e5 := tm AB hsz 5 rfl (zC rfl (zF b5)); exact e5)
   refine oT 2 14 ?_ rfl rfl (zB rfl) AA (fun ρ AB w hSw => ?_) ?_
   rotate_left
   ·(have e12 := tm AB hsz 12 rfl (zC rfl zA); have e13 := tm AB hsz 13 rfl zA; clear AB; (try dsimp only at hSw); go_simp; try with_reducible rfl)
   refine oT 3 15 ?_ rfl rfl (zB rfl) AA (fun ρ AB w hSw => ?_) ?_
   rotate_left
   ·(have e14 := tm AB hsz 14 rfl zA; clear AB; (try dsimp only at hSw); have hx := hSw.1; clear hSw; go_simp; try with_reducible rfl)
   refine oT 4 16 ?_ rfl rfl (zB rfl) AA (fun ρ AB w hSw => ?_) ?_
   rotate_left
   ·(have hc := AB.const; have e15 := tm AB hsz 15 rfl zA; clear AB; (try dsimp only at hSw); go_simp; try with_reducible rfl)
   refine oM 5 17 ?_ rfl rfl rfl (zB rfl) AA (fun ρ AB => ?_) ?_
   rotate_left
   ·(have e16 := tm AB hsz 16 rfl zA; exact e16)
   refine oM 6 18 ?_ rfl rfl rfl (wY 5 17 false rfl hsz rfl rfl rfl zA) AA (fun ρ AB => ?_) ?_
   rotate_left
   ·(have e0 := tm AB hsz 0 rfl (zD rfl rfl rfl rfl (zC rfl (zC rfl (zF b0)))); exact e0)
   refine oM 7 19 ?_ rfl rfl rfl (wY 5 17 false rfl hsz rfl rfl rfl (zC rfl zA)) AA (fun ρ AB => ?_) ?_
   rotate_left
   ·(have e5 := tm AB hsz 5 rfl (zD rfl rfl rfl rfl (zC rfl (zC rfl (zC rfl (zF b5))))); exact e5)
   refine oT 8 20 ?_ rfl rfl (wY 5 17 false rfl hsz rfl rfl rfl (zC rfl (zC rfl zA))) AA (fun ρ AB w hSw => ?_) ?_
   rotate_left
   ·(have e18 := tm AB hsz 18 rfl (zC rfl zA); have e19 := tm AB hsz 19 rfl zA; clear AB; (try dsimp only at hSw); go_simp; try with_reducible rfl)
   refine oT 9 21 ?_ rfl rfl (wY 5 17 false rfl hsz rfl rfl rfl (zC rfl (zC rfl (zC rfl zA)))) AA (fun ρ AB w hSw => ?_) ?_
   rotate_left
   ·(have e20 := tm AB hsz 20 rfl zA; clear AB; (try dsimp only at hSw); have hx := hSw.1; clear hSw; go_simp; try with_reducible rfl)
   refine oM 10 22 ?_ rfl rfl rfl (wY 5 17 false rfl hsz rfl rfl rfl (zD rfl rfl rfl rfl zA)) AA (fun ρ AB => ?_) ?_
   rotate_left
   ·(have e1 := tm AB hsz 1 rfl (zD rfl rfl rfl rfl (zD rfl rfl rfl rfl (zC rfl (zC rfl (zF b1))))); exact e1)
   refine oT 11 23 ?_ rfl rfl (wY 5 17 false rfl hsz rfl rfl rfl (zD rfl rfl rfl rfl (zC rfl zA))) AA (fun ρ AB w hSw => ?_) ?_
   rotate_left
   ·(have e21 := tm AB hsz 21 rfl (zC rfl zA); have e22 := tm AB hsz 22 rfl zA; clear AB; (try dsimp only at hSw); go_simp; try with_reducible rfl)
   refine oT 12 24 ?_ rfl rfl (zB rfl) AA (fun ρ AB w hSw => ?_) ?_
   rotate_left
   ·(have hc := AB.const; have e17 := tm AB hsz 17 rfl (zD rfl rfl rfl rfl (zC rfl (zC rfl zA))); have e23 := tm AB hsz 23 rfl zA; clear AB; (try dsimp only at hSw); go_simp; try with_reducible rfl)
   refine oM 13 25 ?_ rfl rfl rfl (zB rfl) AA (fun ρ AB => ?_) ?_
   rotate_left
   ·(have e24 := tm AB hsz 24 rfl zA; exact e24)
   refine oM 14 26 ?_ rfl rfl rfl (wY 13 25 false rfl hsz rfl rfl rfl zA) AA (fun ρ AB => ?_) ?_
   rotate_left
   ·(have e5 := tm AB hsz 5 rfl (zD rfl rfl rfl rfl (zD rfl rfl rfl rfl (zD rfl rfl rfl rfl (zC rfl (zC rfl (zF b5)))))); exact e5)
   refine oT 15 27 ?_ rfl rfl (wY 13 25 false rfl hsz rfl rfl rfl (zC rfl zA)) AA (fun ρ AB w hSw => ?_) ?_
   rotate_left
   ·(have hc := AB.const; have e26 := tm AB hsz 26 rfl zA; clear AB; (try dsimp only at hSw); go_simp; try with_reducible rfl)
   refine oM 16 28 ?_ rfl rfl rfl (wY 13 25 false rfl hsz rfl rfl rfl (zC rfl (zC rfl zA))) AA (fun ρ AB => ?_) ?_
   rotate_left
   ·(have e27 := tm AB hsz 27 rfl zA; exact e27)
   refine oM 17 29 ?_ rfl rfl rfl (wY 16 28 true rfl hsz rfl rfl rfl zA) AA (fun ρ AB => ?_) ?_
   rotate_left
   ·(have e0 := tm AB hsz 0 rfl (zD rfl rfl rfl rfl (zD rfl rfl rfl rfl (zD rfl rfl rfl rfl (zD rfl rfl rfl rfl (zC rfl (zF b0)))))); exact e0)
   refine oM 18 30 ?_ rfl rfl rfl (wY 16 28 true rfl hsz rfl rfl rfl (zC rfl zA)) AA (fun ρ AB => ?_) ?_
   rotate_left
   ·(have e5 := tm AB hsz 5 rfl (zD rfl rfl rfl rfl (zD rfl rfl rfl rfl (zD rfl rfl rfl rfl (zD rfl rfl rfl rfl (zC rfl (zC rfl (zF b5))))))); exact e5)
   refine oT 19 31 ?_ rfl rfl (wY 16 28 true rfl hsz rfl rfl rfl (zC rfl (zC rfl zA))) AA (fun ρ AB w hSw => ?_) ?_
   rotate_left
   ·(have e29 := tm AB hsz 29 rfl (zC rfl zA); have e30 := tm AB hsz 30 rfl zA; clear AB; (try dsimp only at hSw); go_simp; try with_reducible rfl)
   refine oT 20 32 ?_ rfl rfl (wY 16 28 true rfl hsz rfl rfl rfl (zC rfl (zC rfl (zC rfl zA)))) AA (fun ρ AB w hSw => ?_) ?_
   rotate_left
   ·(have e31 := tm AB hsz 31 rfl zA; clear AB; (try dsimp only at hSw); have hx := hSw.1; clear hSw; go_simp; try with_reducible rfl)
   refine oM 21 33 ?_ rfl rfl rfl (wY 16 28 true rfl hsz rfl rfl rfl (zD rfl rfl rfl rfl zA)) AA (fun ρ AB => ?_) ?_
   rotate_left
   ·(have e0 := tm AB hsz 0 rfl (zD rfl rfl rfl rfl (zD rfl rfl rfl rfl (zD rfl rfl rfl rfl (zD rfl rfl rfl rfl (zD rfl rfl rfl rfl (zC rfl (zF b0))))))); exact e0)
   refine oM 22 34 ?_ rfl rfl rfl (wY 16 28 true rfl hsz rfl rfl rfl (zD rfl rfl rfl rfl (zC rfl zA))) AA (fun ρ AB => ?_) ?_
   rotate_left
   ·(have e5 := tm AB hsz 5 rfl (zD rfl rfl rfl rfl (zD rfl rfl rfl rfl (zD rfl rfl rfl rfl (zD rfl rfl rfl rfl (zD rfl rfl rfl rfl (zC rfl (zC rfl (zF b5)))))))); exact e5)
   refine oT 23 35 ?_ rfl rfl (wY 16 28 true rfl hsz rfl rfl rfl (zD rfl rfl rfl rfl (zC rfl (zC rfl zA)))) AA (fun ρ AB w hSw => ?_) ?_
   rotate_left
   ·(have hc := AB.const; have e34 := tm AB hsz 34 rfl zA; clear AB; (try dsimp only at hSw); go_simp; try with_reducible rfl)
   refine oT 24 36 ?_ rfl rfl (wY 16 28 true rfl hsz rfl rfl rfl (zD rfl rfl rfl rfl (zC rfl (zC rfl (zC rfl zA))))) AA (fun ρ AB w hSw => ?_) ?_
   rotate_left
   ·(have e33 := tm AB hsz 33 rfl (zC rfl (zC rfl zA)); have e35 := tm AB hsz 35 rfl zA; clear AB; (try dsimp only at hSw); go_simp; try with_reducible rfl)
   refine oT 25 37 ?_ rfl rfl (wY 16 28 true rfl hsz rfl rfl rfl (zD rfl rfl rfl rfl (zD rfl rfl rfl rfl zA))) AA (fun ρ AB w hSw => ?_) ?_
   rotate_left
   ·(have e36 := tm AB hsz 36 rfl zA; clear AB; (try dsimp only at hSw); have hx := hSw.2; clear hSw; go_simp; try with_reducible rfl)
   refine oT 26 38 ?_ rfl rfl (wY 16 28 true rfl hsz rfl rfl rfl (zD rfl rfl rfl rfl (zD rfl rfl rfl rfl (zC rfl zA)))) AA (fun ρ AB w hSw => ?_) ?_
   rotate_left
   ·(have e32 := tm AB hsz 32 rfl (zD rfl rfl rfl rfl (zC rfl zA)); have e37 := tm AB hsz 37 rfl zA; clear AB; (try dsimp only at hSw); go_simp; try with_reducible rfl)
   refine oT 27 39 ?_ rfl rfl (wY 13 25 false rfl hsz rfl rfl rfl (zD rfl rfl rfl rfl (zD rfl rfl rfl rfl (zD rfl rfl rfl rfl (zC rfl zA))))) AA (fun ρ AB w hSw => ?_) ?_
   rotate_left
   ·(have hc := AB.const; have e28 := tm AB hsz 28 rfl (zD rfl rfl rfl rfl (zD rfl rfl rfl rfl (zC rfl (zC rfl zA)))); have e38 := tm AB hsz 38 rfl zA; clear AB; (try dsimp only at hSw); go_simp; try with_reducible rfl)
   refine oT 28 40 ?_ rfl rfl (zB rfl) AA (fun ρ AB w hSw => ?_) ?_
   rotate_left
   ·(have hc := AB.const; have e25 := tm AB hsz 25 rfl (zD rfl rfl rfl rfl (zD rfl rfl rfl rfl (zD rfl rfl rfl rfl (zC rfl (zC rfl zA))))); have e39 := tm AB hsz 39 rfl zA; clear AB; (try dsimp only at hSw); go_simp; try with_reducible rfl)
   refine yG hn2 ?_
   clear AA hn2 b0 b5 b1 hsz A Q2
   simp only [yF, zu, yQ, xO, xP]
   go_wp2_with fail
   go_roundg (n - (i + 1))
   case rel => exact ⟨i + 1, nq + 1, by go_num, by omega, rfl, rfl, HN⟩
   case measure => omega
  ·obtain rfl : i = n := by omega
   have hii : decide (i < i) = false := by simp
   have HF : Hid (ye u (-1) l = true) := by have := hR.out; rw [List.take_of_length_le (by rw [HL.out]; exact Nat.le_refl _)] at this; exact this
   go_wp2_with fail
   go_ret
   exact ⟨zP HF.out.symm, nq, rfl⟩
def zd (ns : List Nd) (ds : List Dv) (z : List Int) : Int := if zX ns ds ≠ 0 then zX ns ds else if z.length = 0 then 16 else if ye ns.length (-1) z = false then 7 else 0
theorem y5 {ns : List Nd} {ds : List Dv} {z : List Int} (h : zd ns ds z = 0) : zX ns ds = 0 ∧ 0 < z.length ∧ ye ns.length (-1) z = true := by
 unfold zd at h
 split at h
 ·next h1 => exact absurd h h1
 next h1 =>
 split at h
 ·cases h
 next h2 =>
 split at h
 ·cases h
 next h3 => exact ⟨by simpa using h1, by omega, by simpa using h3⟩
theorem vP {u : Int} : ∀ {p : Int} {l : List Int}, ye u p l = true → ∀ x ∈ l, p < x ∧ x < u
 | _, [], _, x, hx => by cases hx
 | p, y :: t, h, x, hx => by
  rw [ye, Bool.and_eq_true, Bool.and_eq_true] at h
  have h1 : p < y := by simpa using h.1.1
  rcases List.mem_cons.1 hx with rfl | hx
  ·exact ⟨h1, by simpa using h.1.2⟩
  ·have := vP h.2 x hx; exact ⟨by omega, this.2⟩
theorem rF (An Ad Az : Option Addr) (nn cn nd cd n c : Nat) (ns : List Nd) (ds : List Dv) (z : List Int) (w : World) (hl : Laid w) (hn : Sl w w.heap.size 3 An nn cn (ns.flatMap Nd.cells)) (hd : Sl w w.heap.size 5 Ad nd cd (ds.flatMap Dv.cells)) (hs : Sl w w.heap.size 1 Az n c (zK z))
 (hsn : ∀ x ∈ ns, x.name.size ≤ 9223372036854775807) (hsd : ∀ x ∈ ds, x.name.size ≤ 9223372036854775807) :
 Calls Tryz.prog 50 #[.agg #[.slice An nn cn, .slice Ad nd cd], .slice Az n c] w fun e w' => e = .returned (.int .i64 (zd ns ds z)) ∧ Below w.heap.size w w' := by
 have HLZ := iD (hs.len (fun _ => rfl) (by decide))
 have HLN := iD (hn.len (fun _ => rfl) (by decide))
 have hle := hs.le
 have hln := hn.le
 have HE : Hid (zd ns ds z = if zX ns ds ≠ 0 then zX ns ds else if n = 0 then 16 else if ye nn (-1) z = false then 7 else 0) := by unfold Hid zd; rw [HLN.out, HLZ.out]
 have HB : Hid (Below w.heap.size w (w.alloc (.cells #[.slice An nn cn, .slice Ad nd cd] 30))) := (Below.refl _ _).alloc lR _
 have HK := iD (Blk.new w 30 #[.slice An nn cn, .slice Ad nd cd])
 have HC := iD (tS An Ad nn cn nd cd _ _ ns ds (w.alloc (.cells #[.slice An nn cn, .slice Ad nd cd] 30)) (hl.alloc _) (hn.below HB.out lR) (hd.below HB.out lR) HB.out.size HB.out.size hsn hsd)
 have HS := iD hs
 clear hn hd hs hsn hsd hl
 go_enter Tryz.func50, Tryz.ntmps50
 go_wp2_with fail
 generalize World.alloc w _ = W at *
 refine HC.out.mono ?_
 rintro e w1 ⟨rfl, hb1⟩
 have HB1 := iD (HB.out.trans (hb1.mono HB.out.size))
 have HK1 := iD (HK.out.below hb1 HK.out.lt)
 have HS1 := iD ((HS.out.below HB1.out lR).more HB1.out.size)
 clear hb1 HC HB HK HS
 obtain ⟨er, her⟩ : ∃ x, x = zX ns ds := ⟨_, rfl⟩
 rw [← her] at HE ⊢
 clear her
 by_cases he : er = 0; rotate_left
 ·have q : (er != 0) = true := by simpa using he
  have HR : Hid (zd ns ds z = er) := by unfold Hid; rw [HE.out, if_pos he]
  clear he HE
  go_wp2_with fail
  go_ret
  exact ⟨zI HR.out.symm, HB1.out⟩
 subst he
 rcases Nat.eq_zero_or_pos n with rfl | h0
 ·have HR : Hid (zd ns ds z = 16) := by unfold Hid; rw [HE.out, if_neg (by simp), if_pos rfl]
  clear HE
  go_wp2_with fail
  go_ret
  exact ⟨zI HR.out.symm, HB1.out⟩
 have q0 : ((n : Int) == 0) = false := by simp; omega
 have q1 : (n == 0) = false := by simp; omega
 have k0 : w1.cell? ⟨w.heap.size, 0, none⟩ = some (.slice An nn cn) := HK1.out.cell 0
 go_wp2_with fail
 clear k0
 refine (rZ Az n c w1.heap.size z nn w1 HS1.out).mono ?_
 rintro e w2 ⟨rfl, rfl⟩
 rcases hr : ye nn (-1) z with _ | _
 ·have HR : Hid (zd ns ds z = 7) := by unfold Hid; rw [HE.out, if_neg (by simp), if_neg (by omega), if_pos hr]
  clear HE hr
  go_wp2_with fail
  go_ret
  exact ⟨zI HR.out.symm, HB1.out⟩
 ·have HR : Hid (zd ns ds z = 0) := by unfold Hid; rw [HE.out, if_neg (by simp), if_neg (by omega), if_neg (by rw [hr]; simp)]
  clear HE hr
  go_wp2_with fail
  go_ret
  exact ⟨zI HR.out.symm, HB1.out⟩
theorem so (An Ad Az : Option Addr) (nn cn nd cd n c : Nat) (ns : List Nd) (ds : List Dv) (z : List Int) (w : World) (hn : Sl w w.heap.size 3 An nn cn (ns.flatMap Nd.cells)) (hd : Sl w w.heap.size 5 Ad nd cd (ds.flatMap Dv.cells)) (hs : Sl w w.heap.size 1 Az n c (zK z))
 (hsn : ∀ x ∈ ns, x.name.size ≤ 9223372036854775807) (hsd : ∀ x ∈ ds, x.name.size ≤ 9223372036854775807) :
 Calls Tryz.prog 67 #[.agg #[.slice An nn cn, .slice Ad nd cd], .slice Az n c] w fun e w' => e = .returned (.int .i64 (zd ns ds z)) ∧ Below w.heap.size w w' := by
 have HLZ := iD (hs.len (fun _ => rfl) (by decide))
 have HLN := iD (hn.len (fun _ => rfl) (by decide))
 have hle := hs.le
 have hln := hn.le
 have HE : Hid (zd ns ds z = if zX ns ds ≠ 0 then zX ns ds else if n = 0 then 16 else if ye nn (-1) z = false then 7 else 0) := by unfold Hid zd; rw [HLN.out, HLZ.out]
 have HB : Hid (Below w.heap.size w (w.alloc (.cells #[.slice An nn cn, .slice Ad nd cd] 30))) := (Below.refl _ _).alloc lR _
 have HK := iD (Blk.new w 30 #[.slice An nn cn, .slice Ad nd cd])
 have HC := iD (tO An Ad nn cn nd cd _ _ ns ds (w.alloc (.cells #[.slice An nn cn, .slice Ad nd cd] 30)) (hn.below HB.out lR) (hd.below HB.out lR) HB.out.size HB.out.size hsn hsd)
 have HS := iD hs
 clear hn hd hs hsn hsd
 go_enter Tryz.func67, Tryz.ntmps67
 go_wp2_with fail
 generalize World.alloc w _ = W at *
 refine HC.out.mono ?_
 rintro e w1 ⟨rfl, hb1⟩
 have HB1 := iD (HB.out.trans (hb1.mono HB.out.size))
 have HK1 := iD (HK.out.below hb1 HK.out.lt)
 have HS1 := iD ((HS.out.below HB1.out lR).more HB1.out.size)
 clear hb1 HC HB HK HS
 obtain ⟨er, her⟩ : ∃ x, x = zX ns ds := ⟨_, rfl⟩
 rw [← her] at HE ⊢
 clear her
 by_cases he : er = 0; rotate_left
 ·have q : (er != 0) = true := by simpa using he
  have HR : Hid (zd ns ds z = er) := by unfold Hid; rw [HE.out, if_pos he]
  clear he HE
  go_wp2_with fail
  go_ret
  exact ⟨zI HR.out.symm, HB1.out⟩
 subst he
 rcases Nat.eq_zero_or_pos n with rfl | h0
 ·have HR : Hid (zd ns ds z = 16) := by unfold Hid; rw [HE.out, if_neg (by simp), if_pos rfl]
  clear HE
  go_wp2_with fail
  go_ret
  exact ⟨zI HR.out.symm, HB1.out⟩
 have q0 : ((n : Int) == 0) = false := by simp; omega
 have q1 : (n == 0) = false := by simp; omega
 have k0 : w1.cell? ⟨w.heap.size, 0, none⟩ = some (.slice An nn cn) := HK1.out.cell 0
 go_wp2_with fail
 clear k0
 refine (lw Az n c w1.heap.size z nn w1 HS1.out).mono ?_
 rintro e w2 ⟨rfl, q, rfl⟩
 rcases hr : ye nn (-1) z with _ | _
 ·have HR : Hid (zd ns ds z = 7) := by unfold Hid; rw [HE.out, if_neg (by simp), if_neg (by omega), if_pos hr]
  clear HE hr
  go_wp2_with fail
  go_ret
  exact ⟨zI HR.out.symm, below_drewN HB1.out q⟩
 ·have HR : Hid (zd ns ds z = 0) := by unfold Hid; rw [HE.out, if_neg (by simp), if_neg (by omega), if_neg (by rw [hr]; simp)]
  clear HE hr
  go_wp2_with fail
  go_ret
  exact ⟨zI HR.out.symm, below_drewN HB1.out q⟩
end
end Go.Proofs.YtepicjpdhpojnaaGreatDoor
