import Derived.Lib.Hide
import Derived.Test.YtbjndpjligpjaaaDoorZ19
import Derived.Test.YtbjndpjligpjaaaDoorProg
import Derived.Test.YtbjndpjligpjaaaDoorZ00
import Derived.Outline
import Derived.Deep.QuietTactic
import Derived.BigQuiet
import Derived.Laws.Pointers
/-
  A region that draws its order, walked in one order of the text: the order is checked by one closed equation, the frame is a variable, what the region has written is a list of slots and values.
-/
namespace Go.Proofs.YtbjndpjligpjaaaDoor
open Go.RowKit
/-- What slot n holds behind the writes L (the last one first), if it held d ahead of them. -/
def lkp : List (Nat × Value) → Nat → Value → Value
  | [], _, d => d
  | (k, v) :: L, n, d => if n = k then v else lkp L n d
theorem lkp_hit {k : Nat} {v d : Value} {L : List (Nat × Value)} : lkp ((k, v) :: L) k d = v := if_pos rfl
theorem lkp_base {k : Nat} {u d : Value} (h : d = u) : lkp [] k d = u := h
theorem miss1 {n k : Nat} {u v d : Value} {L : List (Nat × Value)} (h : Nat.beq n k = false) (r : lkp L n d = u) : lkp ((k, v) :: L) n d = u := (if_neg (fun e => by rw [e, Nat.beq_refl] at h; cases h)).trans r
theorem miss4 {n k1 k2 k3 k4 : Nat} {u v1 v2 v3 v4 d : Value} {L : List (Nat × Value)} (h1 : Nat.beq n k1 = false) (h2 : Nat.beq n k2 = false) (h3 : Nat.beq n k3 = false) (h4 : Nat.beq n k4 = false) (r : lkp L n d = u) : lkp ((k1, v1) :: (k2, v2) :: (k3, v3) :: (k4, v4) :: L) n d = u := miss1 h1 (miss1 h2 (miss1 h3 (miss1 h4 r)))
def puts (A : Act) : List (Nat × Value) → Act
  | [] => A
  | (k, v) :: L => (puts A L).put (some k) v
/-! Writing a frame out: by laws whose proofs are no 'rfl' (else the elaborator's own look at an auxiliary lemma evaluates all of it at once). -/
theorem puts_nil (A : Act) : puts A [] = A := by cases A <;> rfl
theorem puts_cons (A : Act) (k : Nat) (v : Value) (L : List (Nat × Value)) : puts A ((k, v) :: L) = (puts A L).put (some k) v := by cases L <;> rfl
theorem put_lit (xs : List Value) (ds : List Deferred) (k : Nat) (v : Value) : (Act.mk xs.toArray ds).put (some k) v = Act.mk (xs.set k v).toArray ds := by simp [Act.put]
theorem set_0 (x v : Value) (t : List Value) : (x :: t).set 0 v = v :: t := by cases t <;> rfl
theorem set_1 (x v : Value) (t : List Value) (n : Nat) : (x :: t).set (n + 1) v = x :: t.set n v := by cases t <;> rfl
theorem set_8 (x0 x1 x2 x3 x4 x5 x6 x7 v : Value) (t : List Value) (n : Nat) : (x0 :: x1 :: x2 :: x3 :: x4 :: x5 :: x6 :: x7 :: t).set (n + 8) v = x0 :: x1 :: x2 :: x3 :: x4 :: x5 :: x6 :: x7 :: t.set n v := by cases t <;> rfl
theorem puts_size (A : Act) : ∀ L : List (Nat × Value), (puts A L).tmps.size = A.tmps.size
  | [] => rfl
  | (k, v) :: L => by simp [puts, Act.put, puts_size A L]
theorem eval_puts (A : Act) (k : Nat) (hk : k < A.tmps.size) : ∀ L : List (Nat × Value), (puts A L).eval (.tmp k) = lkp L k (A.eval (.tmp k))
  | [] => rfl
  | (j, v) :: L => by
    have ih := eval_puts A k hk L
    have hs := puts_size A L
    unfold lkp
    split
    · next h =>
      subst h
      simp [puts, Act.put, Act.eval, Array.getD, hs, hk]
    · next h =>
      rw [← ih]
      simp only [puts, Act.put, Act.eval]
      rw [Array.getD_eq_getD_getElem?, Array.getD_eq_getD_getElem?, Array.getElem?_setIfInBounds_ne (Ne.symm h)]
/-- What a frame holds in some slots. -/
def BaseOk (A : Act) : List (Nat × Value) → Prop
  | [] => True
  | (k, v) :: r => A.eval (.tmp k) = v ∧ BaseOk A r
theorem base_nil {A : Act} : BaseOk A [] := trivial
theorem base_cons {A : Act} {k : Nat} {v : Value} {r : List (Nat × Value)} (h : A.eval (.tmp k) = v) (hr : BaseOk A r) : BaseOk A ((k, v) :: r) := ⟨h, hr⟩
/-- A reading of the frame A behind the writes L. -/
def Rd (A : Act) (L : List (Nat × Value)) (ρ : Operand → Value) : Prop := ρ = (puts A L).eval
theorem Rd.tmp {A : Act} {L : List (Nat × Value)} {ρ : Operand → Value} (h : Rd A L ρ) {n : Nat} (hn : A.tmps.size = n) (k : Nat) (hk : Nat.blt k n = true) : ρ (.tmp k) = lkp L k (A.eval (.tmp k)) := by
  unfold Rd at h; rw [h]; exact eval_puts A k (by rw [hn]; simpa [Nat.blt_eq] using hk) L
theorem Rd.const {A : Act} {L : List (Nat × Value)} {ρ : Operand → Value} (h : Rd A L ρ) (v : Value) : ρ (.const v) = v := by unfold Rd at h; rw [h]; rfl
theorem Rd.global {A : Act} {L : List (Nat × Value)} {ρ : Operand → Value} (h : Rd A L ρ) (g : Nat) : ρ (.global g) = .pointer (some ⟨g, 0, none⟩) := by unfold Rd at h; rw [h]; rfl
theorem Rd.func {A : Act} {L : List (Nat × Value)} {ρ : Operand → Value} (h : Rd A L ρ) (f : FuncId) : ρ (.func f) = .func (.func f) #[] #[] := by unfold Rd at h; rw [h]; rfl
section
variable {P : Program} {ops : Array Oper} {Q : Exit → Act → World → Prop} {md : Region.Mode} {S : World → Prop} {J : List Nat}
/-- The operations in one order: 'true': it is taken first (it yields its value in every world of S); 'false': it is the one that may come up, and is carried out. -/
def wpOrd' (P : Program) (ops : Array Oper) (Q : Exit → Act → World → Prop) (S : World → Prop) (J : List Nat) : List (Nat × Bool) → Act → World → Prop
  | [], a, w => Q .normal a w
  | (i, true) :: r, a, w => S w ∧ ∃ oi v, ops[i]? = some oi ∧ YieldsIf P ops S oi v a ∧ wpOrd' P ops Q S J r (a.put oi.dst v) w
  | (i, false) :: r, a, w => wpOp P ops Q i (fun a' w' => (J.contains i = false → S w') ∧ wpOrd' P ops Q S J r a' w') a w
/-- The same behind a name that nothing unfolds. -/
structure wpOrd (P : Program) (ops : Array Oper) (Q : Exit → Act → World → Prop) (S : World → Prop) (J : List Nat) (tk : List (Nat × Bool)) (a : Act) (w : World) : Prop where
  out : wpOrd' P ops Q S J tk a w
def chkOrd (md : Region.Mode) (ops : Array Oper) (J : List Nat) : List (Nat × Bool) → Array Bool → Bool
  | [], listed => (Region.ready md ops listed).isEmpty
  | (i, true) :: r, listed => Region.free md ops listed i && (Region.ready md ops listed).contains i && closedB md ops listed && J.all (ancB md ops i ops.size) && chkOrd md ops J r (listed.setIfInBounds i true)
  | (i, false) :: r, listed => Region.ready md ops listed == [i] && chkOrd md ops J r (listed.setIfInBounds i true)
theorem wpAnyJ_of_ord (hs : Region.noSelect ops = true) (hQ : ∀ c a d v w, Q (.panic c) (a.put (some d) v) w → Q (.panic c) a w) : ∀ (tk : List (Nat × Bool)) (m : Nat) (listed : Array Bool) (a : Act) (w : World),
    chkOrd md ops J tk listed = true → wpOrd' P ops Q S J tk a w → wpAnyJ P md ops Q S J (tk.length + m) listed a w
  | [], m, listed, a, w, hc, h => wpAnyJ_done (List.isEmpty_iff.1 hc) h _
  | (i, true) :: r, m, listed, a, w, hc, h => by
    simp only [chkOrd, Bool.and_eq_true] at hc
    obtain ⟨⟨⟨⟨h1, h2⟩, h3⟩, h4⟩, h5⟩ := hc
    obtain ⟨hS, oi, v, hoi, hy, hr⟩ := h
    rw [List.length_cons, Nat.add_right_comm]
    exact wpAnyJ_take hoi rfl hs h1 h2 h3 h4 (fun c a w q => by cases hd : oi.dst with | none => rw [hd] at q; exact q | some d => rw [hd] at q; exact hQ c a d v w q) hy hS (wpAnyJ_of_ord hs hQ r m _ _ _ h5 hr)
  | (i, false) :: r, m, listed, a, w, hc, h => by
    simp only [chkOrd, Bool.and_eq_true, beq_iff_eq] at hc
    rw [List.length_cons, Nat.add_right_comm]
    refine ⟨fun h0 => (by rw [hc.1] at h0; cases h0), fun j hj => ?_⟩
    rw [hc.1] at hj
    obtain rfl := List.mem_singleton.1 hj
    exact wpOp_mono (fun a' w' h' => ⟨h'.1, wpAnyJ_of_ord hs hQ r m _ _ _ hc.2 h'.2⟩) h
def ordOk (P : Program) (ops : Array Oper) (J : List Nat) (tk : List (Nat × Bool)) : Bool := P.follows .mixedOrders && Region.noSelect ops && tk.length == ops.size && chkOrd .any ops J tk (Array.replicate ops.size false)
/-- The region: its frame becomes a variable of which the slots of 'base' are known. -/
theorem wp_region_ord {id : Nat} {a : Act} {w : World} {base : List (Nat × Value)} {n : Nat} (tk : List (Nat × Bool)) (hk : ordOk P ops J tk = true) (hn : a.tmps.size = n) (hb : BaseOk a base) (hS : S w.drew) (hq : ∀ c a d v w, Q (.panic c) (a.put (some d) v) w → Q (.panic c) a w)
    (h : ∀ (Q2 : Exit → Act → World → Prop) (A : Act), A.tmps.size = n → BaseOk A base → Hid (∀ L w', Q .normal (puts a L) w' → Q2 .normal (puts A L) w') → S w.drew → wpOrd P ops Q2 S J tk (puts A []) w.drew) : (Code.region id ops true).wp P Q a w := by
  simp only [ordOk, Bool.and_eq_true, beq_iff_eq] at hk
  obtain ⟨⟨⟨h1, h2⟩, h3⟩, h4⟩ := hk
  refine wp_region_J (J := J) h1 hS (fun hS => ?_)
  have := wpAnyJ_of_ord (P := P) h2 hq tk 0 _ _ _ h4 (h Q a hn hb (fun L w' h => h) hS).out
  rw [Nat.add_zero, h3] at this
  exact this
theorem ord_put {A : Act} {L : List (Nat × Value)} {w : World} {d : Nat} {v : Value} {r : List (Nat × Bool)} (h : wpOrd P ops Q S J r (puts A ((d, v) :: L)) w) : wpOrd P ops Q S J r ((puts A L).put (some d) v) w := h
theorem ord_done {A a : Act} {L : List (Nat × Value)} {w : World} {Q2 : Exit → Act → World → Prop} (hn : Hid (∀ L w', Q .normal (puts a L) w' → Q2 .normal (puts A L) w')) (h : Q .normal (puts a L) w) : wpOrd P ops Q2 S J [] (puts A L) w := ⟨hn.out L w h⟩
section
variable {A : Act} {L : List (Nat × Value)} {w : World} {n i d : Nat} {oi : Oper} {r : List (Nat × Bool)} {v : Value}
theorem wanted_none {y : Nat → Option Bool} (hg : oi.guard = none) : Region.wanted oi y = true := by unfold Region.wanted; rw [hg]
/-- The guard of an operation, read off the writes. -/
theorem yielded_at {j dj : Nat} {oj : Oper} {b : Bool} (hn : A.tmps.size = n) (hj : ops[j]? = some oj) (hd : oj.dst = some dj) (hdn : Nat.blt dj n = true) (hv : lkp L dj (A.eval (.tmp dj)) = .bool b) : yielded ops (puts A L).tmps j = some b := by
  have hlt : dj < A.tmps.size := by rw [hn]; simpa [Nat.blt_eq] using hdn
  have he := eval_puts A dj hlt L
  rw [hv] at he
  have hlt' : dj < (puts A L).tmps.size := by rw [puts_size]; exact hlt
  unfold yielded
  rw [hj]
  simp only [Option.bind_some, hd]
  simp only [Act.eval, Array.getD_eq_getD_getElem?, Array.getElem?_eq_getElem hlt', Option.getD_some] at he
  rw [Array.getElem?_eq_getElem hlt', he]
theorem wanted_yes {j dj : Nat} {oj : Oper} {b : Bool} (hg : oi.guard = some (j, b)) (hn : A.tmps.size = n) (hj : ops[j]? = some oj) (hd : oj.dst = some dj) (hdn : Nat.blt dj n = true) (hv : lkp L dj (A.eval (.tmp dj)) = .bool b) : Region.wanted oi (yielded ops (puts A L).tmps) = true := by
  unfold Region.wanted; rw [hg]; simp only [yielded_at hn hj hd hdn hv]; simp
theorem wanted_no {j dj : Nat} {oj : Oper} {b b' : Bool} (hg : oi.guard = some (j, b)) (hn : A.tmps.size = n) (hj : ops[j]? = some oj) (hd : oj.dst = some dj) (hdn : Nat.blt dj n = true) (hv : lkp L dj (A.eval (.tmp dj)) = .bool b') (hb : (b' == b) = false) : Region.wanted oi (yielded ops (puts A L).tmps) = false := by
  unfold Region.wanted; rw [hg]; simp only [yielded_at hn hj hd hdn hv]; simpa using hb
theorem ord_take (hi : ops[i]? = some oi) (hd : oi.dst = some d) (hw : Region.wanted oi (yielded ops (puts A L).tmps) = true) (hS : S w)
    (hv : ∀ ρ : Operand → Value, Rd A L ρ → ∀ w, S w → (execOp ρ oi).run P w = .ok (.value v) w) (h : wpOrd P ops Q S J r (puts A ((d, v) :: L)) w) : wpOrd P ops Q S J ((i, true) :: r) (puts A L) w :=
  ⟨⟨hS, oi, v, hi, Or.inl ⟨hw, fun w hw => hv _ rfl w hw⟩, by rw [hd]; exact h.out⟩⟩
theorem ord_skip (hi : ops[i]? = some oi) (hd : oi.dst = some d) (hw : Region.wanted oi (yielded ops (puts A L).tmps) = false) (hS : S w)
    (h : wpOrd P ops Q S J r (puts A ((d, undef) :: L)) w) : wpOrd P ops Q S J ((i, true) :: r) (puts A L) w :=
  ⟨⟨hS, oi, undef, hi, Or.inr ⟨hw, rfl⟩, by rw [hd]; exact h.out⟩⟩
theorem ord_move {x : Operand} (hi : ops[i]? = some oi) (hd : oi.dst = some d) (ho : oi.op = .move x) (hw : Region.wanted oi (yielded ops (puts A L).tmps) = true) (hS : S w)
    (hv : ∀ ρ : Operand → Value, Rd A L ρ → ρ x = v) (h : wpOrd P ops Q S J r (puts A ((d, v) :: L)) w) : wpOrd P ops Q S J ((i, true) :: r) (puts A L) w :=
  ord_take hi hd hw hS (fun ρ hρ w _ => by unfold execOp; rw [ho]; simp only [hv ρ hρ]; rfl) h
/-- An operation that is carried out and leaves a value. -/
theorem ord_run {w' : World} (hi : ops[i]? = some oi) (hd : oi.dst = some d) (hw : Region.wanted oi (yielded ops (puts A L).tmps) = true)
    (hv : ∀ ρ : Operand → Value, Rd A L ρ → (execOp ρ oi).run P w = .ok (.value v) w') (hS : J.contains i = false → S w') (h : (J.contains i = false → S w') → wpOrd P ops Q S J r (puts A ((d, v) :: L)) w') : wpOrd P ops Q S J ((i, false) :: r) (puts A L) w := by
  refine ⟨?_⟩
  simp only [wpOrd', wpOp, hi, hw, if_true]
  refine .inl ?_
  rw [Oper.wp, hv _ rfl, Oper.upon_value, hd]
  exact ⟨hS, (h hS).out⟩
theorem ord_run0 {w' : World} (hi : ops[i]? = some oi) (hd : oi.dst = none) (hw : Region.wanted oi (yielded ops (puts A L).tmps) = true)
    (hv : ∀ ρ : Operand → Value, Rd A L ρ → (execOp ρ oi).run P w = .ok (.value v) w') (hS : J.contains i = false → S w') (h : (J.contains i = false → S w') → wpOrd P ops Q S J r (puts A L) w') : wpOrd P ops Q S J ((i, false) :: r) (puts A L) w := by
  refine ⟨?_⟩
  simp only [wpOrd', wpOp, hi, hw, if_true]
  refine .inl ?_
  rw [Oper.wp, hv _ rfl, Oper.upon_value, hd]
  exact ⟨hS, (h hS).out⟩
/-- A call of a Go function. -/
theorem ord_call {f : FuncId} {xs : Array Operand} {ats : Array TypeId} {vs : Array Value} (hi : ops[i]? = some oi) (hd : oi.dst = some d) (ho : oi.op = .call { callee := .value (.func f), args := xs, argTypes := ats }) (hw : Region.wanted oi (yielded ops (puts A L).tmps) = true)
    (hx : ∀ ρ : Operand → Value, Rd A L ρ → xs.map ρ = vs) (hf : ∀ w, (callFunc f vs).run P w = .ok (.enter f vs) w)
    (h : Calls P f vs w (fun e w' => ∃ v, e = .returned v ∧ (J.contains i = false → S w') ∧ ((J.contains i = false → S w') → wpOrd P ops Q S J r (puts A ((d, v) :: L)) w'))) : wpOrd P ops Q S J ((i, false) :: r) (puts A L) w := by
  refine ⟨?_⟩
  simp only [wpOrd', wpOp, hi, hw, if_true]
  refine .inl ?_
  have he : (execOp (puts A L).eval oi).run P w = .ok (.enter f vs) w := by
    have := hf w
    rw [← hx _ rfl] at this ⊢
    unfold execOp
    rw [ho]
    rw [← this]
    have e0 : (#[] ++ xs.map (puts A L).eval ++ #[] : Array Value) = xs.map (puts A L).eval := by simp
    conv => rhs; rw [← e0]
    rfl
  rw [Oper.wp, he, Oper.upon_enter]
  refine h.mono ?_
  rintro e w' ⟨v, rfl, h1, h2⟩
  simp only [hd]
  exact ⟨h1, (h2 h1).out⟩
/-- Any other law at an operation that is carried out (an append, ..). -/
theorem ord_wp (hi : ops[i]? = some oi)
    (h : ∀ K' : Act → World → Prop, Shut (∀ a w, (J.contains i = false → S w) → ((J.contains i = false → S w) → wpOrd P ops Q S J r a w) → K' a w) → if Region.wanted oi (yielded ops (puts A L).tmps) = true then Oper.wp P oi (puts A L) w K' Q else K' ((puts A L).put oi.dst undef) w) :
    wpOrd P ops Q S J ((i, false) :: r) (puts A L) w :=
  ⟨wpOp_step hi (fun K' hK => h K' (fun a w hS hW => hK a w ⟨hS, (hW hS).out⟩))⟩
end
end
end Go.Proofs.YtbjndpjligpjaaaDoor
/-
  Walks of the statements' own makers: Few, New, Next.
-/
namespace Go.Proofs.YtbjndpjligpjaaaDoor
open Go.RowKit

theorem few_any (A : Option Addr) (n c : Nat) (w : World) (hn : n ≤ 9223372036854775807) : Calls Tryd.prog 4 #[.slice A n c] w fun e w' => e = .returned (.bool (decide (n ≤ 400))) ∧ w = w' := by
  go_enter Tryd.func4, Tryd.ntmps4
  go_wp2
  go_ret
  exact ⟨ret_bool (by simp; omega), rfl⟩

/-- Block g is a deck: its list lies below it. -/
def DeckAt (w : World) (g : Nat) : Prop :=
  ∃ (A : Option Addr) (n c k : Nat) (l : List Int) (s : Int), w.heap[g]? = some (.cells #[.slice A n c, .int .i64 k, .int .u64 s] 60 (0, 0)) ∧ Sl w g 1 A n c (intsV l) ∧ k ≤ n ∧ 0 ≤ s ∧ s < 18446744073709551616
theorem DeckAt.lt {w : World} {g : Nat} (h : DeckAt w g) : g < w.heap.size := by
  obtain ⟨A, n, c, k, l, s, hh, _⟩ := h
  exact (Array.getElem?_eq_some_iff.1 hh).1
theorem DeckAt.keep {w w' : World} {g : Nat} (h : DeckAt w g) (hk : ∀ i, i ≤ g → w'.heap[i]? = w.heap[i]?) : DeckAt w' g := by
  obtain ⟨A, n, c, k, l, s, hh, hs, h1, h2, h3⟩ := h
  exact ⟨A, n, c, k, l, s, (hk g (Nat.le_refl _)).trans hh, hs.keep fun p hp => World.cell?_of_block (hk p.block (by omega)), h1, h2, h3⟩
theorem DeckAt.below {w w' : World} {g B : Nat} (h : DeckAt w g) (hb : Below B w w') (hg : g < B) : DeckAt w' g := h.keep fun i hi => hb.block i (by omega)
theorem DeckAt.alloc {w : World} {g : Nat} (h : DeckAt w g) (o : Obj) : DeckAt (w.alloc o) g := h.keep fun i hi => Below.heap_alloc w o i (by have := h.lt; omega)
theorem DeckAt.drewN {w : World} {g : Nat} (h : DeckAt w g) (n : Nat) : DeckAt (w.drewN n) g := h
theorem DeckAt.drew {w : World} {g : Nat} (h : DeckAt w g) : DeckAt w.drew g := h
theorem DeckAt.setCell {w : World} {g : Nat} (h : DeckAt w g) {p : Addr} (hp : g < p.block) (u : Value) : DeckAt (w.setCell p u) g := h.keep fun i hi => Below.heap_setCell w p u i (by omega)
theorem DeckAt.grown {w w' : World} {g : Nat} (h : DeckAt w g) {row : Option Nat} (hg : w.grownBy w' row) (hr : ∀ k, row = some k → g < k) : DeckAt w' g :=
  h.keep fun i hi => hg.block i (by have := h.lt; omega) (fun e => by have := hr _ e.symm; omega)

theorem new_any (A : Option Addr) (n c B : Nat) (l : List Int) (w : World) (hr : Sl w B 1 A n c (intsV l)) (hB : B ≤ w.heap.size) :
    Calls Tryd.prog 7 #[.slice A n c] w fun e w' => e = .returned (.pointer (some ⟨w.heap.size, 0, none⟩)) ∧ Hid (DeckAt w' w.heap.size) ∧ Hid (Below w.heap.size w w') ∧ Hid (w'.heap.size = w.heap.size + 1) := by
  go_enter Tryd.func7, Tryd.ntmps7
  go_wp2
  go_ret
  refine ⟨rfl, ⟨A, n, c, 0, l, 88172645463325252, heap_alloc_new w _, (hr.more hB).alloc (Nat.le_refl _) _, Nat.zero_le _, by decide, by decide⟩, (Below.refl _ _).alloc (Nat.le_refl _) _, by unfold Hid; simp⟩

theorem wrap_u64_in (t : Int) : 0 ≤ IntKind.u64.wrap t ∧ IntKind.u64.wrap t < 18446744073709551616 := by
  have : IntKind.u64.wrap t = t % 18446744073709551616 := by simp [IntKind.wrap, IntKind.bits, IntKind.signed]
  omega
theorem next_rem (t n : Int) (hn : 1 ≤ n) : 0 ≤ wrap64 ((IntKind.u64.wrap t / 8589934592).tmod n) ∧ wrap64 ((IntKind.u64.wrap t / 8589934592).tmod n) < n := by
  obtain ⟨h0, h1⟩ := wrap_u64_in t
  generalize IntKind.u64.wrap t = q at *
  have hq : 0 ≤ q / 8589934592 ∧ q / 8589934592 ≤ 2147483647 := by omega
  generalize q / 8589934592 = z at *
  rw [Int.tmod_eq_emod_of_nonneg hq.1]
  have h2 := Int.emod_nonneg z (show n ≠ 0 by omega)
  have h3 := Int.emod_lt_of_pos z (show 0 < n by omega)
  have h4 : z % n ≤ z := by
    rcases Int.lt_or_le z n with h | h
    · rw [Int.emod_eq_of_lt hq.1 h]; exact Int.le_refl _
    · omega
  rw [IntWalk.wrap64_in _ ⟨by omega, by omega⟩]
  omega
section
variable {w : World} {g m c k : Nat} {A : Option Addr} {s : Int} {l : List Int}
theorem only_one (w : World) (g d : Nat) (u : Value) :
    w.grownBy ((w.drewN d).setCell ⟨g, 2, none⟩ u) (some g) ∧ ((w.drewN d).setCell ⟨g, 2, none⟩ u).heap.size = w.heap.size :=
  ⟨⟨rfl, rfl, rfl, by simp [World.setCell], fun i _ hi => Below.heap_setCell (w.drewN d) _ u i (fun e => hi (by rw [e]))⟩, by simp [World.setCell]⟩
theorem only_two (w : World) (g d : Nat) (u v : Value) :
    w.grownBy (((w.drewN d).setCell ⟨g, 1, none⟩ u).setCell ⟨g, 2, none⟩ v) (some g) ∧ (((w.drewN d).setCell ⟨g, 1, none⟩ u).setCell ⟨g, 2, none⟩ v).heap.size = w.heap.size :=
  ⟨⟨rfl, rfl, rfl, by simp [World.setCell], fun i _ hi => (Below.heap_setCell _ _ v i (fun e => hi (by rw [e]))).trans (Below.heap_setCell (w.drewN d) _ u i (fun e => hi (by rw [e])))⟩, by simp [World.setCell]⟩
theorem deck_one (hh : w.heap[g]? = some (.cells #[.slice A m c, .int .i64 k, .int .u64 s] 60 (0, 0))) (hs : Sl w g 1 A m c (intsV l)) (hk : k ≤ m) (t : Int) :
    DeckAt (w.setCell ⟨g, 2, none⟩ (.int .u64 (IntKind.u64.wrap t))) g := by
  refine ⟨A, m, c, k, l, IntKind.u64.wrap t, ?_, hs.setCell (Nat.le_refl _) _, hk, wrap_u64_in t⟩
  simp [World.setCell, Array.getElem?_modify, hh]
theorem deck_two (hh : w.heap[g]? = some (.cells #[.slice A m c, .int .i64 k, .int .u64 s] 60 (0, 0))) (hs : Sl w g 1 A m c (intsV l)) (hk : k < m) (t : Int) :
    DeckAt ((w.setCell ⟨g, 1, none⟩ (.int .i64 ((k : Int) + 1))).setCell ⟨g, 2, none⟩ (.int .u64 (IntKind.u64.wrap t))) g := by
  refine ⟨A, m, c, k + 1, l, IntKind.u64.wrap t, ?_, (hs.setCell (Nat.le_refl _) _).setCell (Nat.le_refl _) _, hk, wrap_u64_in t⟩
  simp [World.setCell, Array.getElem?_modify, hh]
end

/-- A number below n is returned (0 if n is less than 1); only the deck has changed. -/
def NextPost (w : World) (g : Nat) (n : Int) (e : Ending) (w' : World) : Prop :=
  ∃ r : Int, e = .returned (.int .i64 r) ∧ 0 ≤ r ∧ Hid (n < 1 → r = 0) ∧ Hid (1 ≤ n → r < n) ∧ Hid (DeckAt w' g) ∧ Hid (w.grownBy w' (some g)) ∧ Hid (w'.heap.size = w.heap.size)

set_option maxHeartbeats 1000000 in
theorem next_any (g : Nat) (n : Int) (w : World) (hd : DeckAt w g) (hn : n ≤ 9223372036854775807) : Calls Tryd.prog 11 #[.pointer (some ⟨g, 0, none⟩), .int .i64 n] w (NextPost w g n) := by
  have hlt := hd.lt
  obtain ⟨A, m, c, k, l, s, hh, hs, h1, h2, h3⟩ := hd
  obtain ⟨hmc, hcm⟩ := hs.le
  have c0 : w.cell? ⟨g, 0, none⟩ = some (.slice A m c) := cell_of_row w g 0 _ _ _ hh
  have c1 : w.cell? ⟨g, 1, none⟩ = some (.int .i64 k) := cell_of_row w g 1 _ _ _ hh
  have c2 : w.cell? ⟨g, 2, none⟩ = some (.int .u64 s) := cell_of_row w g 2 _ _ _ hh
  have f0 : ∀ j, w.frozen? ⟨g, j, none⟩ = false := fun j => by simp [World.frozen?, hh]
  have f1 := f0 1
  have f2 := f0 2
  have HH := Lib.hid hh; have HS := Lib.hid hs
  clear hh hs f0
  have H3 := Lib.hid h3; clear h3
  by_cases hk : k < m
  · obtain ⟨b, off, x, rfl, hb, hx, hcell⟩ := HS.out.at1 hk
    clear hx
    have hki : (k : Int) < (m : Int) := by omega
    go_enter Tryd.func11, Tryd.ntmps11
    go_wp2_with fail
    go_quiet (fail)
    go_wp2_with fail
    go_quiet (fail)
    go_wp2_with fail
    · go_ret
      exact ⟨_, rfl, Int.le_refl _, fun _ => rfl, fun h => absurd h (by omega), deck_two HH.out HS.out hk _, only_two w g _ _ _⟩
    · go_ret
      have hr := next_rem (IntKind.u64.wrap (IntKind.u64.wrap (s * 6364136223846793005) + IntKind.u64.wrap x) + 1442695040888963407) n (by omega)
      exact ⟨_, rfl, hr.1, fun h => absurd h (by omega), fun _ => hr.2, deck_two HH.out HS.out hk _, only_two w g _ _ _⟩
  · have hki : decide ((k : Int) < (m : Int)) = false := by simp; omega
    go_enter Tryd.func11, Tryd.ntmps11
    go_wp2_with fail
    go_quiet (fail)
    go_wp2_with fail
    · go_ret
      exact ⟨_, rfl, Int.le_refl _, fun _ => rfl, fun h => absurd h (by omega), deck_one HH.out HS.out h1 _, only_one w g _ _⟩
    · go_ret
      have hr := next_rem (IntKind.u64.wrap (IntKind.u64.wrap (s * 6364136223846793005)) + 1442695040888963407) n (by omega)
      exact ⟨_, rfl, hr.1, fun h => absurd h (by omega), fun _ => hr.2, deck_one HH.out HS.out h1 _, only_one w g _ _⟩

end Go.Proofs.YtbjndpjligpjaaaDoor
