import Derived.Test.YtnpfkiidhidjbaaGreatDoorZ04
import Derived.Lib.Hide
import Derived.Test.YtnpfkiidhidjbaaGreatDoorZ16
import Derived.Test.YtnpfkiidhidjbaaGreatDoorZ10
/-
 A region that draws its order, with what comes behind it as a variable.
-/
namespace Go.Proofs.YtnpfkiidhidjbaaGreatDoor
section
variable {P : Program} {ops : Array Oper} {Q : Exit → Act → World → Prop} {S : World → Prop} {J : List Nat}
end
end Go.Proofs.YtnpfkiidhidjbaaGreatDoor
/-
 A region that draws its order, walked in one order of the text: the order is checked by one closed equation, the frame is a variable, what the region has written is a list of slots and values.
-/
namespace Go.Proofs.YtnpfkiidhidjbaaGreatDoor
open Go.RowKit
/-- What slot n holds behind the writes L (the last one first), if it held d ahead of them. -/
def lkp : List (Nat × Value) → Nat → Value → Value
 | [], _, d => d
 | (k, v) :: L, n, d => if n = k then v else lkp L n d
theorem lkp_hit {k : Nat} {v d : Value} {L : List (Nat × Value)} : lkp ((k, v) :: L) k d = v := if_pos rfl
theorem lkp_base {k : Nat} {u d : Value} (h : d = u) : lkp [] k d = u := h
theorem miss1 {n k : Nat} {u v d : Value} {L : List (Nat × Value)} (h : Nat.beq n k = false) (r : lkp L n d = u) : lkp ((k, v) :: L) n d = u := (if_neg (fun e => by rw [e, Nat.beq_refl] at h; cases h)).trans r
theorem miss4 {n k1 k2 k3 k4 : Nat} {u v1 v2 v3 v4 d : Value} {L : List (Nat × Value)} (h1 : Nat.beq n k1 = false) (h2 : Nat.beq n k2 = false) (h3 : Nat.beq n k3 = false) (h4 : Nat.beq n k4 = false) (r : lkp L n d = u) : lkp ((k1, v1) :: (k2, v2) :: (k3, v3) :: (k4, v4) :: L) n d = u := miss1 h1 (miss1 h2 (miss1 h3 (miss1 h4 r)))
def puts (A : Act) : List (Nat × Value) → Act
 | [] => A
 | (k, v) :: L => (puts A L).put (some k) v
/-! Writing a frame out: by laws whose proofs are no 'rfl' (else the elaborator's own look at an auxiliary lemma evaluates all of it at once). -/
theorem puts_nil (A : Act) : puts A [] = A := by cases A <;> rfl
theorem puts_cons (A : Act) (k : Nat) (v : Value) (L : List (Nat × Value)) : puts A ((k, v) :: L) = (puts A L).put (some k) v := by cases L <;> rfl
theorem put_lit (xs : List Value) (ds : List Deferred) (k : Nat) (v : Value) : (Act.mk xs.toArray ds).put (some k) v = Act.mk (xs.set k v).toArray ds := by simp [Act.put]
theorem set_0 (x v : Value) (t : List Value) : (x :: t).set 0 v = v :: t := by cases t <;> rfl
theorem set_1 (x v : Value) (t : List Value) (n : Nat) : (x :: t).set (n + 1) v = x :: t.set n v := by cases t <;> rfl
theorem puts_size (A : Act) : ∀ L : List (Nat × Value), (puts A L).tmps.size = A.tmps.size
 | [] => rfl
 | (k, v) :: L => by simp [puts, Act.put, puts_size A L]
theorem eval_puts (A : Act) (k : Nat) (hk : k < A.tmps.size) : ∀ L : List (Nat × Value), (puts A L).eval (.tmp k) = lkp L k (A.eval (.tmp k))
 | [] => rfl
 | (j, v) :: L => by
  have ih := eval_puts A k hk L
  have hs := puts_size A L
  unfold lkp
  split
  ·next h =>
   subst h
   simp [puts, Act.put, Act.eval, Array.getD, hs, hk]
  ·next h =>
   rw [← ih]
   simp only [puts, Act.put, Act.eval]
   rw [Array.getD_eq_getD_getElem?, Array.getD_eq_getD_getElem?, Array.getElem?_setIfInBounds_ne (Ne.symm h)]
/-- What a frame holds in some slots. -/
def BaseOk (A : Act) : List (Nat × Value) → Prop
 | [] => True
 | (k, v) :: r => A.eval (.tmp k) = v ∧ BaseOk A r
theorem base_nil {A : Act} : BaseOk A [] := trivial
theorem base_cons {A : Act} {k : Nat} {v : Value} {r : List (Nat × Value)} (h : A.eval (.tmp k) = v) (hr : BaseOk A r) : BaseOk A ((k, v) :: r) := ⟨h, hr⟩
/-- A reading of the frame A behind the writes L. -/
def Rd (A : Act) (L : List (Nat × Value)) (ρ : Operand → Value) : Prop := ρ = (puts A L).eval
theorem Rd.tmp {A : Act} {L : List (Nat × Value)} {ρ : Operand → Value} (h : Rd A L ρ) {n : Nat} (hn : A.tmps.size = n) (k : Nat) (hk : Nat.blt k n = true) : ρ (.tmp k) = lkp L k (A.eval (.tmp k)) := by
 unfold Rd at h; rw [h]; exact eval_puts A k (by rw [hn]; simpa [Nat.blt_eq] using hk) L
theorem Rd.const {A : Act} {L : List (Nat × Value)} {ρ : Operand → Value} (h : Rd A L ρ) (v : Value) : ρ (.const v) = v := by unfold Rd at h; rw [h]; rfl
theorem Rd.func {A : Act} {L : List (Nat × Value)} {ρ : Operand → Value} (h : Rd A L ρ) (f : FuncId) : ρ (.func f) = .func (.func f) #[] #[] := by unfold Rd at h; rw [h]; rfl
section
variable {P : Program} {ops : Array Oper} {Q : Exit → Act → World → Prop} {md : Region.Mode} {S : World → Prop} {J : List Nat}
/-- The operations in one order: 'true': it is taken first (it yields its value in every world of S); 'false': it is the one that may come up, and is carried out. -/
def wpOrd' (P : Program) (ops : Array Oper) (Q : Exit → Act → World → Prop) (S : World → Prop) (J : List Nat) : List (Nat × Bool) → Act → World → Prop
 | [], a, w => Q .normal a w
 | (i, true) :: r, a, w => S w ∧ ∃ oi v, ops[i]? = some oi ∧ YieldsIf P ops S oi v a ∧ wpOrd' P ops Q S J r (a.put oi.dst v) w
 | (i, false) :: r, a, w => wpOp P ops Q i (fun a' w' => (J.contains i = false → S w') ∧ wpOrd' P ops Q S J r a' w') a w
/-- The same behind a name that nothing unfolds. -/
structure wpOrd (P : Program) (ops : Array Oper) (Q : Exit → Act → World → Prop) (S : World → Prop) (J : List Nat) (tk : List (Nat × Bool)) (a : Act) (w : World) : Prop where
 out : wpOrd' P ops Q S J tk a w
def chkOrd (md : Region.Mode) (ops : Array Oper) (J : List Nat) : List (Nat × Bool) → Array Bool → Bool
 | [], listed => (Region.ready md ops listed).isEmpty
 | (i, true) :: r, listed => Region.free md ops listed i && (Region.ready md ops listed).contains i && closedB md ops listed && J.all (ancB md ops i ops.size) && chkOrd md ops J r (listed.setIfInBounds i true)
 | (i, false) :: r, listed => Region.ready md ops listed == [i] && chkOrd md ops J r (listed.setIfInBounds i true)
theorem wpAnyJ_of_ord (hs : Region.noSelect ops = true) (hQ : ∀ c a d v w, Q (.panic c) (a.put (some d) v) w → Q (.panic c) a w) : ∀ (tk : List (Nat × Bool)) (m : Nat) (listed : Array Bool) (a : Act) (w : World),
  chkOrd md ops J tk listed = true → wpOrd' P ops Q S J tk a w → wpAnyJ P md ops Q S J (tk.length + m) listed a w
 | [], m, listed, a, w, hc, h => wpAnyJ_done (List.isEmpty_iff.1 hc) h _
 | (i, true) :: r, m, listed, a, w, hc, h => by
  simp only [chkOrd, Bool.and_eq_true] at hc
  obtain ⟨⟨⟨⟨h1, h2⟩, h3⟩, h4⟩, h5⟩ := hc
  obtain ⟨hS, oi, v, hoi, hy, hr⟩ := h
  rw [List.length_cons, Nat.add_right_comm]
  exact wpAnyJ_take hoi rfl hs h1 h2 h3 h4 (fun c a w q => by cases hd : oi.dst with | none => rw [hd] at q; exact q | some d => rw [hd] at q; exact hQ c a d v w q) hy hS (wpAnyJ_of_ord hs hQ r m _ _ _ h5 hr)
 | (i, false) :: r, m, listed, a, w, hc, h => by
  simp only [chkOrd, Bool.and_eq_true, beq_iff_eq] at hc
  rw [List.length_cons, Nat.add_right_comm]
  refine ⟨fun h0 => (by rw [hc.1] at h0; cases h0), fun j hj => ?_⟩
  rw [hc.1] at hj
  obtain rfl := List.mem_singleton.1 hj
  exact wpOp_mono (fun a' w' h' => ⟨h'.1, wpAnyJ_of_ord hs hQ r m _ _ _ hc.2 h'.2⟩) h
def ordOk (P : Program) (ops : Array Oper) (J : List Nat) (tk : List (Nat × Bool)) : Bool := P.follows .mixedOrders && Region.noSelect ops && tk.length == ops.size && chkOrd .any ops J tk (Array.replicate ops.size false)
/-- The region: its frame becomes a variable of which the slots of 'base' are known. -/
theorem wp_region_ord {id : Nat} {a : Act} {w : World} {base : List (Nat × Value)} {n : Nat} (tk : List (Nat × Bool)) (hk : ordOk P ops J tk = true) (hn : a.tmps.size = n) (hb : BaseOk a base) (hS : S w.drew) (hq : ∀ c a d v w, Q (.panic c) (a.put (some d) v) w → Q (.panic c) a w)
  (h : ∀ (Q2 : Exit → Act → World → Prop) (A : Act), A.tmps.size = n → BaseOk A base → Hid (∀ L w', Q .normal (puts a L) w' → Q2 .normal (puts A L) w') → S w.drew → wpOrd P ops Q2 S J tk (puts A []) w.drew) : (Code.region id ops true).wp P Q a w := by
 simp only [ordOk, Bool.and_eq_true, beq_iff_eq] at hk
 obtain ⟨⟨⟨h1, h2⟩, h3⟩, h4⟩ := hk
 refine wp_region_J (J := J) h1 hS (fun hS => ?_)
 have := wpAnyJ_of_ord (P := P) h2 hq tk 0 _ _ _ h4 (h Q a hn hb (fun L w' h => h) hS).out
 rw [Nat.add_zero, h3] at this
 exact this
theorem ord_done {A a : Act} {L : List (Nat × Value)} {w : World} {Q2 : Exit → Act → World → Prop} (hn : Hid (∀ L w', Q .normal (puts a L) w' → Q2 .normal (puts A L) w')) (h : Q .normal (puts a L) w) : wpOrd P ops Q2 S J [] (puts A L) w := ⟨hn.out L w h⟩
section
variable {A : Act} {L : List (Nat × Value)} {w : World} {n i d : Nat} {oi : Oper} {r : List (Nat × Bool)} {v : Value}
theorem wanted_none {y : Nat → Option Bool} (hg : oi.guard = none) : Region.wanted oi y = true := by unfold Region.wanted; rw [hg]
/-- The guard of an operation, read off the writes. -/
theorem yielded_at {j dj : Nat} {oj : Oper} {b : Bool} (hn : A.tmps.size = n) (hj : ops[j]? = some oj) (hd : oj.dst = some dj) (hdn : Nat.blt dj n = true) (hv : lkp L dj (A.eval (.tmp dj)) = .bool b) : yielded ops (puts A L).tmps j = some b := by
 have hlt : dj < A.tmps.size := by rw [hn]; simpa [Nat.blt_eq] using hdn
 have he := eval_puts A dj hlt L
 rw [hv] at he
 have hlt' : dj < (puts A L).tmps.size := by rw [puts_size]; exact hlt
 unfold yielded
 rw [hj]
 simp only [Option.bind_some, hd]
 simp only [Act.eval, Array.getD_eq_getD_getElem?, Array.getElem?_eq_getElem hlt', Option.getD_some] at he
 rw [Array.getElem?_eq_getElem hlt', he]
theorem wanted_yes {j dj : Nat} {oj : Oper} {b : Bool} (hg : oi.guard = some (j, b)) (hn : A.tmps.size = n) (hj : ops[j]? = some oj) (hd : oj.dst = some dj) (hdn : Nat.blt dj n = true) (hv : lkp L dj (A.eval (.tmp dj)) = .bool b) : Region.wanted oi (yielded ops (puts A L).tmps) = true := by
 unfold Region.wanted; rw [hg]; simp only [yielded_at hn hj hd hdn hv]; simp
theorem wanted_no {j dj : Nat} {oj : Oper} {b b' : Bool} (hg : oi.guard = some (j, b)) (hn : A.tmps.size = n) (hj : ops[j]? = some oj) (hd : oj.dst = some dj) (hdn : Nat.blt dj n = true) (hv : lkp L dj (A.eval (.tmp dj)) = .bool b') (hb : (b' == b) = false) : Region.wanted oi (yielded ops (puts A L).tmps) = false := by
 unfold Region.wanted; rw [hg]; simp only [yielded_at hn hj hd hdn hv]; simpa using hb
theorem ord_take (hi : ops[i]? = some oi) (hd : oi.dst = some d) (hw : Region.wanted oi (yielded ops (puts A L).tmps) = true) (hS : S w)
  (hv : ∀ ρ : Operand → Value, Rd A L ρ → ∀ w, S w → (execOp ρ oi).run P w = .ok (.value v) w) (h : wpOrd P ops Q S J r (puts A ((d, v) :: L)) w) : wpOrd P ops Q S J ((i, true) :: r) (puts A L) w :=
 ⟨⟨hS, oi, v, hi, Or.inl ⟨hw, fun w hw => hv _ rfl w hw⟩, by rw [hd]; exact h.out⟩⟩
theorem ord_skip (hi : ops[i]? = some oi) (hd : oi.dst = some d) (hw : Region.wanted oi (yielded ops (puts A L).tmps) = false) (hS : S w)
  (h : wpOrd P ops Q S J r (puts A ((d, undef) :: L)) w) : wpOrd P ops Q S J ((i, true) :: r) (puts A L) w :=
 ⟨⟨hS, oi, undef, hi, Or.inr ⟨hw, rfl⟩, by rw [hd]; exact h.out⟩⟩
theorem ord_move {x : Operand} (hi : ops[i]? = some oi) (hd : oi.dst = some d) (ho : oi.op = .move x) (hw : Region.wanted oi (yielded ops (puts A L).tmps) = true) (hS : S w)
  (hv : ∀ ρ : Operand → Value, Rd A L ρ → ρ x = v) (h : wpOrd P ops Q S J r (puts A ((d, v) :: L)) w) : wpOrd P ops Q S J ((i, true) :: r) (puts A L) w :=
 ord_take hi hd hw hS (fun ρ hρ w _ => by unfold execOp; rw [ho]; simp only [hv ρ hρ]; rfl) h
/-- An operation that is carried out and leaves a value. -/
theorem ord_run {w' : World} (hi : ops[i]? = some oi) (hd : oi.dst = some d) (hw : Region.wanted oi (yielded ops (puts A L).tmps) = true)
  (hv : ∀ ρ : Operand → Value, Rd A L ρ → (execOp ρ oi).run P w = .ok (.value v) w') (hS : J.contains i = false → S w') (h : (J.contains i = false → S w') → wpOrd P ops Q S J r (puts A ((d, v) :: L)) w') : wpOrd P ops Q S J ((i, false) :: r) (puts A L) w := by
 refine ⟨?_⟩
 simp only [wpOrd', wpOp, hi, hw, if_true]
 refine .inl ?_
 rw [Oper.wp, hv _ rfl, Oper.upon_value, hd]
 exact ⟨hS, (h hS).out⟩
/-- A call of a Go function. -/
theorem ord_call {f : FuncId} {xs : Array Operand} {ats : Array TypeId} {vs : Array Value} (hi : ops[i]? = some oi) (hd : oi.dst = some d) (ho : oi.op = .call { callee := .value (.func f), args := xs, argTypes := ats }) (hw : Region.wanted oi (yielded ops (puts A L).tmps) = true)
  (hx : ∀ ρ : Operand → Value, Rd A L ρ → xs.map ρ = vs) (hf : ∀ w, (callFunc f vs).run P w = .ok (.enter f vs) w)
  (h : Calls P f vs w (fun e w' => ∃ v, e = .returned v ∧ (J.contains i = false → S w') ∧ ((J.contains i = false → S w') → wpOrd P ops Q S J r (puts A ((d, v) :: L)) w'))) : wpOrd P ops Q S J ((i, false) :: r) (puts A L) w := by
 refine ⟨?_⟩
 simp only [wpOrd', wpOp, hi, hw, if_true]
 refine .inl ?_
 have he : (execOp (puts A L).eval oi).run P w = .ok (.enter f vs) w := by
  have := hf w
  rw [← hx _ rfl] at this ⊢
  unfold execOp
  rw [ho]
  rw [← this]
  have e0 : (#[] ++ xs.map (puts A L).eval ++ #[] : Array Value) = xs.map (puts A L).eval := by simp
  conv => rhs; rw [← e0]
  rfl
 rw [Oper.wp, he, Oper.upon_enter]
 refine h.mono ?_
 rintro e w' ⟨v, rfl, h1, h2⟩
 simp only [hd]
 exact ⟨h1, (h2 h1).out⟩
end
end
end Go.Proofs.YtnpfkiidhidjbaaGreatDoor
/-
 The program's layer 13: walks of list, lives, bad.
-/
namespace Go.Proofs.YtnpfkiidhidjbaaGreatDoor
open Go.RowKit
def fnC (f : Int × Bool) : List Value := [.int .i64 f.1, .bool f.2]
theorem fnd_snoc {fs : List (Int × Bool)} {i : Nat} {h : Int} {b : Bool} (hx : fs[i]? = some (h, b)) : fndL (fs.take (i + 1)) = fndL (fs.take i) ++ pickH b h := by
 unfold fndL
 rw [take_snoc hx, List.filter_append, List.map_append]
 cases b <;> rfl
theorem fnd_len : ∀ fs : List (Int × Bool), (fndL fs).length ≤ fs.length := fun fs => by
 unfold fndL; rw [List.length_map]; exact List.length_filter_le _ _
def LsR (w : World) (fs : List (Int × Bool)) (n gk : Nat) (ov iv : Value) (wr : World) : Prop := ∃ (i m co : Nat) (Ao : Option Addr), iv = .int .i64 i ∧ ov = .slice Ao m co ∧ i ≤ n ∧ gk = n - i ∧ Hid (IntsO wr w.heap.size Ao m co (fndL (fs.take i))) ∧ Hid (Below w.heap.size w wr)
set_option maxRecDepth 100000 in
set_option maxHeartbeats 4000000 in
theorem list_any (A : Option Addr) (n c B : Nat) (fs : List (Int × Bool)) (w : World) (hs : Sl w B 2 A n c (fs.flatMap fnC)) (hB : B ≤ w.heap.size) (hn : n ≤ 1000) :
  Calls Tryz.prog 64 #[.slice A n c] w (IntsPost w (sortL (fndL fs))) := by
 have HLN := Lib.hid (hs.len (fun _ => rfl) (by decide)); have HS := Lib.hid hs
 have hle := hs.le
 clear hs
 go_enter Tryz.func64, Tryz.ntmps64
 go_wp2_with fail
 go_loopg [3, 8] n (LsR w fs n)
 case atStart => exact ⟨0, 0, 0, none, rfl, rfl, Nat.zero_le _, rfl, World.ownsRow_nil _ _ _ _, Below.refl _ _⟩
 case round =>
  obtain ⟨i, m, co, Ao, rfl, rfl, hi, rfl, hO, hbl⟩ := hrel
  by_cases hlt : i < n
  ·obtain ⟨b, off, f, rfl, hb, hf, hc⟩ := (HS.out.below hbl.out hB).at (fun _ => rfl) (by decide) hlt
   obtain ⟨h, t⟩ := f
   have c0 : wr.cell? ⟨b, off + i * 2, none⟩ = some (.int .i64 h) := hc 0 _ rfl
   have c1 : wr.cell? ⟨b, off + i * 2 + 1, none⟩ = some (.bool t) := hc 1 _ rfl
   have HF := Lib.hid (fnd_snoc hf)
   have HBA : Hid (Below w.heap.size w (wr.alloc (.cells #[.int .i64 h, .bool t] 103))) := hbl.out.alloc hbl.out.size _
   have HOA : Hid (IntsO (wr.alloc (.cells #[.int .i64 h, .bool t] 103)) w.heap.size Ao m co (fndL (fs.take i))) := hO.out.alloc _
   have hml : m ≤ i := by have h1 := fnd_len (fs.take i); have h2 := hO.out.len; rw [List.length_take] at h1; omega
   clear hc hf
   rcases t with _ | _
   ·have HO1 : Hid (IntsO (wr.alloc (.cells #[.int .i64 h, .bool false] 103)) w.heap.size Ao m co (fndL (fs.take (i + 1)))) := by
     unfold Hid; rw [HF.out, show pickH false h = [] from rfl, List.append_nil]; exact HOA.out
    go_wp2_with fail
    go_roundg (n - (i + 1))
    case rel => exact ⟨i + 1, m, co, Ao, by go_num, rfl, by omega, rfl, HO1, HBA⟩
    case measure => omega
   ·have hzz := HBA.out.size
    have HCX : Hid ((wr.alloc (.cells #[.int .i64 h, .bool true] 103)).cell? ⟨wr.heap.size, 0, none⟩ = some (.int .i64 h)) := (Blk.new wr 103 #[.int .i64 h, .bool true]).cell 0
    go_upto_region 6 with (fail)
    generalize World.alloc wr _ = wq at *
    clear c0 c1
    have k0 := HCX.out
    go_wp2_with (at_builtin; go_must (refine wpList_app rfl (.tmp 14) (.tmp 17) rfl el_int (by rfl) (HOA.out.alloc _) (by rfl) (Sl.newest (n := 1) (by simp) (by rfl) (by decide)) (by simp [Value.oneCell']) (by omega) (by omega) (by simp; omega) ?_; intro A' cap' w3 hown3 hgr3 hat3; have HO3 := Lib.hid hown3; have HG3 := Lib.hid hgr3; clear hown3 hgr3 hat3))
    go_roundg (n - (i + 1))
    case rel =>
     refine ⟨i + 1, m + 1, cap', A', by go_num, rfl, by omega, rfl, ?_, ?_⟩
     ·have := HO3.out
      unfold Hid IntsO
      rw [HF.out, show pickH true h = [h] from rfl, intsV_append]
      exact this
     ·refine (HBA.out.alloc HBA.out.size _).trans ⟨HG3.out.os, HG3.out.tape, HG3.out.output, HG3.out.size, fun i hi => HG3.out.block i (by simp; omega) (fun e => ?_)⟩
      have := (HOA.out.lt i e.symm).1
      omega
    case measure => omega
  ·obtain rfl : i = n := by omega
   have hii : decide (i < i) = false := by simp
   have hml : m ≤ i := by have h1 := fnd_len (fs.take i); have h2 := hO.out.len; rw [List.length_take] at h1; omega
   have HT : Hid (fs.take i = fs) := List.take_of_length_le (by rw [HLN.out]; exact Nat.le_refl _)
   rw [HT.out] at hO
   have HLS : Hid ((sortL (fndL fs)).length = m) := by unfold Hid; rw [sortL_len]; exact hO.out.len
   clear HS
   go_wp2_with fail
   refine (sort_any Ao m co w.heap.size (fndL fs) wr hO.out (by omega)).mono ?_
   rintro e w5 ⟨rfl, hO5, hg5⟩
   go_wp2_with fail
   go_ret
   refine ⟨Ao, co, by rw [HLS.out]; rfl, by unfold Hid; rw [HLS.out]; exact hO5.out, hbl.out.trans ⟨hg5.out.os, hg5.out.tape, hg5.out.output, hg5.out.size, fun q hq => hg5.out.block q (by have := hbl.out.size; omega) (fun e => by have := (hO.out.lt q e.symm).1; omega)⟩⟩
set_option maxRecDepth 100000 in
set_option maxHeartbeats 4000000 in
theorem hzlives_any (An Ad As : Option Addr) (nn cn nd cd n c Bd Bs i : Nat) (ds : List Dv) (s : List Int) (x : Dv) (w : World) (hd : Sl w Bd 5 Ad nd cd (ds.flatMap Dv.cells)) (hBd : Bd ≤ w.heap.size) (hs : Sl w Bs 1 As n c (intsV s)) (hBs : Bs ≤ w.heap.size)
  (hnn : nn ≤ 10000) (hnd : nd ≤ 10000) (hl : nd ≤ n) (hends : EndsOk nn ds) (hA : AOk nn ds) (hi : i < nd) (hx : ds[i]? = some x) (hk : joinsB x.kind = true) :
  Calls Tryz.prog 95 #[.agg #[.slice An nn cn, .slice Ad nd cd], .slice As n c, .int .i64 i] w fun e w' => e = .returned (.bool (lvE (colsOf nn ds s) x)) ∧ Below w.heap.size w w' := by
 have HCK := Lib.hid (both_any An Ad As nn cn nd cd n c Bd Bs ds s (w.alloc (.cells #[.slice An nn cn, .slice Ad nd cd] 26)) (hd.alloc hBd _) (by simp; omega) (hs.alloc hBs _) (by simp; omega) hnn hnd hl hends hA)
 have HD := Lib.hid hd; have HX := Lib.hid hx
 have hdl := hd.le
 have HEX := Lib.hid (hends x (List.mem_of_getElem? hx) hk)
 have HB := Lib.hid (Blk.new w 26 #[.slice An nn cn, .slice Ad nd cd])
 have HW : Hid (Below w.heap.size w (w.alloc (.cells #[.slice An nn cn, .slice Ad nd cd] 26))) := (Below.refl _ _).alloc (Nat.le_refl _) _
 clear hd hs hends hA hx hk
 go_enter Tryz.func95, Tryz.ntmps95
 go_wp2_with fail
 generalize World.alloc _ _ = w1 at *
 obtain ⟨nb, hnb⟩ : ∃ nb, nb = w.heap.size := ⟨_, rfl⟩
 rw [← hnb] at HB ⊢
 clear hnb
 refine HCK.out.mono ?_
 rintro e w2 ⟨A1, A2, P, C, rfl, _, hOc, _, hIC, hb2⟩
 have HBX := Lib.hid (HB.out.below hb2.out HB.out.lt)
 have HBW := Lib.hid (HW.out.trans (hb2.out.mono HW.out.size))
 have HCE : Hid (colsOf nn ds s = C) := colsOf_eq hIC.out
 have HSC := Lib.hid hOc.out.sl
 clear HCK HB HW hb2 hOc
 obtain ⟨b0, off, x', rfl, hb, hx', hc⟩ := (HD.out.below HBW.out hBd).at (fun _ => rfl) (by decide) hi
 obtain rfl : x = x' := by have := HX.out; rw [this] at hx'; exact Option.some.inj hx'
 obtain ⟨nm, kd, a, b, co⟩ := x
 obtain ⟨⟨ha0, ha1⟩, hb0, hb1⟩ := HEX.out
 simp only at ha0 ha1 hb0 hb1
 obtain ⟨ka, rfl⟩ := Int.eq_ofNat_of_zero_le ha0
 obtain ⟨kb, rfl⟩ := Int.eq_ofNat_of_zero_le hb0
 obtain ⟨b2, of2, va, e2, hb2, hva, hca⟩ := HSC.out.at1 (k := ka) (by omega)
 subst e2
 obtain ⟨b3, of3, vb, e3, hb3, hvb, hcb⟩ := HSC.out.at1 (k := kb) (by omega)
 injection e3 with e3; injection e3 with e3 e4; subst e3 e4
 have hscl := HSC.out.le
 have HLV : Hid (lvE C ⟨nm, kd, ka, kb, co⟩ = liveB (bits .or .i64 va vb)) := by
  unfold Hid lvE; simp only [Int.toNat_natCast]; rw [getD_of hva, getD_of hvb]
 have c0 : w2.cell? ⟨b0, off + i * 5, none⟩ = some (.string nm) := hc 0 _ rfl
 have c1 : w2.cell? ⟨b0, off + i * 5 + 1, none⟩ = some (.int .i64 kd) := hc 1 _ rfl
 have c2 : w2.cell? ⟨b0, off + i * 5 + 2, none⟩ = some (.int .i64 ka) := hc 2 _ rfl
 have c3 : w2.cell? ⟨b0, off + i * 5 + 3, none⟩ = some (.int .i64 kb) := hc 3 _ rfl
 have c4 : w2.cell? ⟨b0, off + i * 5 + 4, none⟩ = some (.int .i64 co) := hc 4 _ rfl
 have k1 : w2.cell? ⟨nb, 1, none⟩ = some (.slice (some ⟨b0, off, none⟩) nd cd) := HBX.out.cell 1
 have HBV : Hid (Below w.heap.size w (w2.alloc (.cells #[.string nm, .int .i64 kd, .int .i64 ka, .int .i64 kb, .int .i64 co] 63))) := HBW.out.alloc HBW.out.size _
 have HDV := Lib.hid (Blk.new w2 63 #[.string nm, .int .i64 kd, .int .i64 ka, .int .i64 kb, .int .i64 co])
 have HCA : Hid ((w2.alloc (.cells #[.string nm, .int .i64 kd, .int .i64 ka, .int .i64 kb, .int .i64 co] 63)).cell? ⟨b2, of2 + ka, none⟩ = some (.int .i64 va) ∧ (w2.alloc (.cells #[.string nm, .int .i64 kd, .int .i64 ka, .int .i64 kb, .int .i64 co] 63)).cell? ⟨b2, of2 + kb, none⟩ = some (.int .i64 vb)) := ⟨cell_al _ hca, cell_al _ hcb⟩
 clear hc hx' hca hcb hva hvb HSC HBX
 go_upto_region 3 with (fail)
 generalize World.alloc w2 _ = W at *
 obtain ⟨vb0, hvb0⟩ : ∃ x, x = w2.heap.size := ⟨_, rfl⟩
 rw [← hvb0] at HDV ⊢
 clear c0 c1 c2 c3 c4 k1 hvb0
 have HCS : Hid ((W.cell? ⟨vb0, 2, none⟩ = some (.int .i64 ka) ∧ W.cell? ⟨vb0, 3, none⟩ = some (.int .i64 kb)) ∧ W.cell? ⟨b2, of2 + ka, none⟩ = some (.int .i64 va) ∧ W.cell? ⟨b2, of2 + kb, none⟩ = some (.int .i64 vb)) := ⟨⟨HDV.out.cell 2, HDV.out.cell 3⟩, HCA.out⟩
 have hka : ka < nn := by omega
 have hkb : kb < nn := by omega
 refine wp_region_ord (S := fun W' => (W'.cell? ⟨vb0, 2, none⟩ = some (.int .i64 ka) ∧ W'.cell? ⟨vb0, 3, none⟩ = some (.int .i64 kb)) ∧ W'.cell? ⟨b2, of2 + ka, none⟩ = some (.int .i64 va) ∧ W'.cell? ⟨b2, of2 + kb, none⟩ = some (.int .i64 vb)) (J := []) (n := _) ((0, true) :: (1, true) :: (2, true) :: (3, true) :: (4, true) :: (5, true) :: (6, true) :: (7, true) :: (8, true) :: (9, true) :: (10, true) :: (11, true) :: (12, true) :: (13, true) :: []) (by as_aux_lemma => kernel_rfl) (by rfl) (base_cons (k := 8) (by go_simp; rfl) (base_cons (k := 9) (by go_simp; rfl) base_nil)) ?_ (fun _ _ _ _ _ h => h) (fun Q2 A hsz hbase hn2 hHeld => ?_)
 ·exact HCS.out
 try dsimp only at hHeld
 obtain ⟨b8, b9, -⟩ := hbase
 refine ord_move (i := 0) (d := 21) (v := ?_) rfl rfl rfl (wanted_none rfl) hHeld (fun ρ hρ => ?_) ?_
 rotate_left
 ·(have e8 := Eq.trans (hρ.tmp hsz 8 rfl) (lkp_base b8); exact e8)
 show wpOrd _ _ _ _ _ _ _ _
 refine ord_take (i := 1) (d := 22) (v := ?_) rfl rfl (wanted_none rfl) hHeld (fun ρ hρ w hSw => ?_) ?_
 rotate_left
 ·(have e9 := Eq.trans (hρ.tmp hsz 9 rfl) (miss1 rfl (lkp_base b9)); clear hρ; (try dsimp only at hSw); go_simp; try with_reducible rfl)
 show wpOrd _ _ _ _ _ _ _ _
 refine ord_take (i := 2) (d := 23) (v := ?_) rfl rfl (wanted_none rfl) hHeld (fun ρ hρ w hSw => ?_) ?_
 rotate_left
 ·(have e22 := Eq.trans (hρ.tmp hsz 22 rfl) lkp_hit; clear hρ; (try dsimp only at hSw); go_simp; try with_reducible rfl)
 show wpOrd _ _ _ _ _ _ _ _
 refine ord_take (i := 3) (d := 24) (v := ?_) rfl rfl (wanted_none rfl) hHeld (fun ρ hρ w hSw => ?_) ?_
 rotate_left
 ·(have e21 := Eq.trans (hρ.tmp hsz 21 rfl) (miss1 rfl (miss1 rfl lkp_hit)); have e23 := Eq.trans (hρ.tmp hsz 23 rfl) lkp_hit; clear hρ; (try dsimp only at hSw); go_simp; try with_reducible rfl)
 show wpOrd _ _ _ _ _ _ _ _
 refine ord_take (i := 4) (d := 25) (v := ?_) rfl rfl (wanted_none rfl) hHeld (fun ρ hρ w hSw => ?_) ?_
 rotate_left
 ·(have e24 := Eq.trans (hρ.tmp hsz 24 rfl) lkp_hit; clear hρ; (try dsimp only at hSw); go_simp; try with_reducible rfl)
 show wpOrd _ _ _ _ _ _ _ _
 refine ord_move (i := 5) (d := 26) (v := ?_) rfl rfl rfl (wanted_none rfl) hHeld (fun ρ hρ => ?_) ?_
 rotate_left
 ·(have e8 := Eq.trans (hρ.tmp hsz 8 rfl) (miss4 rfl rfl rfl rfl (miss1 rfl (lkp_base b8))); exact e8)
 show wpOrd _ _ _ _ _ _ _ _
 refine ord_take (i := 6) (d := 27) (v := ?_) rfl rfl (wanted_none rfl) hHeld (fun ρ hρ w hSw => ?_) ?_
 rotate_left
 ·(have e9 := Eq.trans (hρ.tmp hsz 9 rfl) (miss4 rfl rfl rfl rfl (miss1 rfl (miss1 rfl (lkp_base b9)))); clear hρ; (try dsimp only at hSw); go_simp; try with_reducible rfl)
 show wpOrd _ _ _ _ _ _ _ _
 refine ord_take (i := 7) (d := 28) (v := ?_) rfl rfl (wanted_none rfl) hHeld (fun ρ hρ w hSw => ?_) ?_
 rotate_left
 ·(have e27 := Eq.trans (hρ.tmp hsz 27 rfl) lkp_hit; clear hρ; (try dsimp only at hSw); go_simp; try with_reducible rfl)
 show wpOrd _ _ _ _ _ _ _ _
 refine ord_take (i := 8) (d := 29) (v := ?_) rfl rfl (wanted_none rfl) hHeld (fun ρ hρ w hSw => ?_) ?_
 rotate_left
 ·(have e26 := Eq.trans (hρ.tmp hsz 26 rfl) (miss1 rfl (miss1 rfl lkp_hit)); have e28 := Eq.trans (hρ.tmp hsz 28 rfl) lkp_hit; clear hρ; (try dsimp only at hSw); go_simp; try with_reducible rfl)
 show wpOrd _ _ _ _ _ _ _ _
 refine ord_take (i := 9) (d := 30) (v := ?_) rfl rfl (wanted_none rfl) hHeld (fun ρ hρ w hSw => ?_) ?_
 rotate_left
 ·(have e29 := Eq.trans (hρ.tmp hsz 29 rfl) lkp_hit; clear hρ; (try dsimp only at hSw); go_simp; try with_reducible rfl)
 show wpOrd _ _ _ _ _ _ _ _
 refine ord_take (i := 10) (d := 31) (v := ?_) rfl rfl (wanted_none rfl) hHeld (fun ρ hρ w hSw => ?_) ?_
 rotate_left
 ·(have e25 := Eq.trans (hρ.tmp hsz 25 rfl) (miss4 rfl rfl rfl rfl (miss1 rfl lkp_hit)); have e30 := Eq.trans (hρ.tmp hsz 30 rfl) lkp_hit; clear hρ; (try dsimp only at hSw); go_simp; try with_reducible rfl)
 show wpOrd _ _ _ _ _ _ _ _
 refine ord_take (i := 11) (d := 32) (v := ?_) rfl rfl (wanted_none rfl) hHeld (fun ρ hρ w hSw => ?_) ?_
 rotate_left
 ·(have hc := hρ.const; have e31 := Eq.trans (hρ.tmp hsz 31 rfl) lkp_hit; clear hρ; (try dsimp only at hSw); go_simp; try with_reducible rfl)
 show wpOrd _ _ _ _ _ _ _ _
 refine ord_take (i := 12) (d := 33) (v := ?_) rfl rfl (wanted_none rfl) hHeld (fun ρ hρ w hSw => ?_) ?_
 rotate_left
 ·(have hc := hρ.const; have e32 := Eq.trans (hρ.tmp hsz 32 rfl) lkp_hit; clear hρ; (try dsimp only at hSw); go_simp; try with_reducible rfl)
 show wpOrd _ _ _ _ _ _ _ _
 refine ord_take (i := 13) (d := 6) (v := ?_) rfl rfl (wanted_none rfl) hHeld (fun ρ hρ w hSw => ?_) ?_
 rotate_left
 ·(have e33 := Eq.trans (hρ.tmp hsz 33 rfl) lkp_hit; clear hρ; (try dsimp only at hSw); go_simp; try with_reducible rfl)
 show wpOrd _ _ _ _ _ _ _ _
 refine ord_done hn2 ?_
 clear hHeld hn2 b8 b9 hsz A Q2
 simp only [puts_nil, puts_cons, put_lit, set_1, set_0]
 go_wp2_with fail
 go_ret
 exact ⟨ret_bool (by rw [HCE.out, HLV.out]; rfl), HBV.out.drew⟩
set_option maxRecDepth 100000 in
set_option maxHeartbeats 4000000 in
theorem bad_any (An Ad As : Option Addr) (nn cn nd cd n c Bd Bs i : Nat) (p du kd : Int) (ds : List Dv) (s : List Int) (x : Dv) (w : World) (hd : Sl w Bd 5 Ad nd cd (ds.flatMap Dv.cells)) (hBd : Bd ≤ w.heap.size) (hs : Sl w Bs 1 As n c (intsV s)) (hBs : Bs ≤ w.heap.size)
  (hnn : nn ≤ 10000) (hnd : nd ≤ 10000) (hl : nd ≤ n) (hends : EndsOk nn ds) (hA : AOk nn ds) (hi : i < nd) (hx : ds[i]? = some x) (hk : x.kind = kd) (hk6 : 1 ≤ kd ∧ kd ≤ 6) :
  Calls Tryz.prog 67 #[.agg #[.slice An nn cn, .slice Ad nd cd], .slice As n c, .agg #[.int .i64 i, .int .i64 p], .int .i64 kd, .int .i64 du] w fun e w' => e = .returned (.bool (badB kd p du (lvE (colsOf nn ds s) x))) ∧ Below w.heap.size w w' := by
 have HB : Hid (Below w.heap.size w ((w.alloc (.cells #[.slice An nn cn, .slice Ad nd cd] 26)).alloc (.cells #[.int .i64 i, .int .i64 p] 28))) := ((Below.refl _ _).alloc (Nat.le_refl _) _).alloc (by simp) _
 rcases (show kd = 1 ∨ kd = 2 ∨ kd = 3 ∨ kd = 4 ∨ kd = 5 ∨ kd = 6 by omega) with rfl | rfl | rfl | rfl | rfl | rfl
 ·have HC := Lib.hid (hzlives_any An Ad As nn cn nd cd n c Bd Bs i ds s x _ (hd.below HB.out hBd) (by have := HB.out.size; omega) (hs.below HB.out hBs) (by have := HB.out.size; omega) hnn hnd hl hends hA hi hx (by rw [hk]; decide))
  have HR : Hid (badB 1 p du (lvE (colsOf nn ds s) x) = lvE (colsOf nn ds s) x) := rfl
  clear hd hs hends hA
  go_enter Tryz.func67, Tryz.ntmps67
  go_wp2_with fail
  refine HC.out.mono ?_
  rintro e w1 ⟨rfl, hb⟩
  go_wp2_with fail
  go_ret
  exact ⟨ret_bool HR.out.symm, HB.out.trans (hb.mono HB.out.size)⟩
 ·clear hd hs hends hA
  go_enter Tryz.func67, Tryz.ntmps67
  go_wp2_with fail
  go_ret
  exact ⟨rfl, HB.out⟩
 ·clear hd hs hends hA
  by_cases h2 : du = 2
  ·subst h2
   go_enter Tryz.func67, Tryz.ntmps67
   go_wp2_with fail
   go_ret
   exact ⟨rfl, HB.out⟩
  by_cases h3 : du = 3
  ·subst h3
   go_enter Tryz.func67, Tryz.ntmps67
   go_wp2_with fail
   go_ret
   exact ⟨rfl, HB.out⟩
  have q2 : (du == 2) = false := by simpa using h2
  have q3 : (du == 3) = false := by simpa using h3
  have HR : Hid (badB 3 p du (lvE (colsOf nn ds s) x) = (du == 4)) := by
   unfold Hid badB; rw [if_pos rfl]; simp [h2, h3]; rfl
  go_enter Tryz.func67, Tryz.ntmps67
  go_wp2_with fail
  go_ret
  exact ⟨ret_bool HR.out.symm, HB.out⟩
 ·clear hd hs hends hA
  by_cases h1 : p = 1
  ·subst h1
   have HR : Hid (badB 4 1 du (lvE (colsOf nn ds s) x) = (du == 4)) := by unfold Hid badB; simp; rfl
   go_enter Tryz.func67, Tryz.ntmps67
   go_wp2_with fail
   go_ret
   exact ⟨ret_bool HR.out.symm, HB.out⟩
  ·have q1 : (p == 1) = false := by simpa using h1
   have HR : Hid (badB 4 p du (lvE (colsOf nn ds s) x) = false) := by unfold Hid badB; simp [h1]
   go_enter Tryz.func67, Tryz.ntmps67
   go_wp2_with fail
   go_ret
   exact ⟨ret_bool HR.out.symm, HB.out⟩
 ·clear hd hs hends hA
  go_enter Tryz.func67, Tryz.ntmps67
  go_wp2_with fail
  go_ret
  exact ⟨rfl, HB.out⟩
 ·clear hd hs hends hA
  by_cases h1 : p = 2
  ·subst h1
   have HR : Hid (badB 6 2 du (lvE (colsOf nn ds s) x) = (du == 3)) := by unfold Hid badB; simp; rfl
   go_enter Tryz.func67, Tryz.ntmps67
   go_wp2_with fail
   go_ret
   exact ⟨ret_bool HR.out.symm, HB.out⟩
  ·have q1 : (p == 2) = false := by simpa using h1
   have HR : Hid (badB 6 p du (lvE (colsOf nn ds s) x) = false) := by unfold Hid badB; simp [h1]
   go_enter Tryz.func67, Tryz.ntmps67
   go_wp2_with fail
   go_ret
   exact ⟨ret_bool HR.out.symm, HB.out⟩
end Go.Proofs.YtnpfkiidhidjbaaGreatDoor
