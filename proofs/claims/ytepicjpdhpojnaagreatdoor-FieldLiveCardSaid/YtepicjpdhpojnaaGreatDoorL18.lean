import Derived.Test.YtepicjpdhpojnaaGreatDoorL04
import Derived.Lib.Hide
import Derived.Test.YtepicjpdhpojnaaGreatDoorL11
import Derived.Test.YtepicjpdhpojnaaGreatDoorL10
import Derived.Deep.DeepCutAuto
set_option maxRecDepth 100000
set_option maxHeartbeats 4000000
namespace Go.Proofs.YtepicjpdhpojnaaGreatDoor
section
variable {P : Program} {ops : Array Oper} {Q : Exit → Act → World → Prop} {S : World → Prop} {J : List Nat}
end
end Go.Proofs.YtepicjpdhpojnaaGreatDoor
namespace Go.Proofs.YtepicjpdhpojnaaGreatDoor
open Go.RowKit
def lkp : List (Nat × Value) → Nat → Value → Value
 | [], _, d => d
 | (k, v) :: L, n, d => if n = k then v else lkp L n d
theorem lkp_hit {k : Nat} {v d : Value} {L : List (Nat × Value)} : lkp ((k, v) :: L) k d = v := if_pos rfl
theorem lkp_base {k : Nat} {u d : Value} (h : d = u) : lkp [] k d = u := h
theorem miss1 {n k : Nat} {u v d : Value} {L : List (Nat × Value)} (h : Nat.beq n k = false) (r : lkp L n d = u) : lkp ((k, v) :: L) n d = u := (if_neg (fun e => by rw [e, Nat.beq_refl] at h; cases h)).trans r
theorem miss4 {n k1 k2 k3 k4 : Nat} {u v1 v2 v3 v4 d : Value} {L : List (Nat × Value)} (h1 : Nat.beq n k1 = false) (h2 : Nat.beq n k2 = false) (h3 : Nat.beq n k3 = false) (h4 : Nat.beq n k4 = false) (r : lkp L n d = u) : lkp ((k1, v1) :: (k2, v2) :: (k3, v3) :: (k4, v4) :: L) n d = u := miss1 h1 (miss1 h2 (miss1 h3 (miss1 h4 r)))
def puts (A : Act) : List (Nat × Value) → Act
 | [] => A
 | (k, v) :: L => (puts A L).put (some k) v
theorem puts_nil (A : Act) : puts A [] = A := by cases A <;> rfl
theorem puts_cons (A : Act) (k : Nat) (v : Value) (L : List (Nat × Value)) : puts A ((k, v) :: L) = (puts A L).put (some k) v := by cases L <;> rfl
theorem put_lit (xs : List Value) (ds : List Deferred) (k : Nat) (v : Value) : (Act.mk xs.toArray ds).put (some k) v = Act.mk (xs.set k v).toArray ds := by simp [Act.put]
theorem set_0 (x v : Value) (t : List Value) : (x :: t).set 0 v = v :: t := by cases t <;> rfl
theorem set_1 (x v : Value) (t : List Value) (n : Nat) : (x :: t).set (n + 1) v = x :: t.set n v := by cases t <;> rfl
theorem puts_size (A : Act) : ∀ L : List (Nat × Value), (puts A L).tmps.size = A.tmps.size
 | [] => rfl
 | (k, v) :: L => by simp [puts, Act.put, puts_size A L]
theorem eval_puts (A : Act) (k : Nat) (hk : k < A.tmps.size) : ∀ L : List (Nat × Value), (puts A L).eval (.tmp k) = lkp L k (A.eval (.tmp k))
 | [] => rfl
 | (j, v) :: L => by
  have ih := eval_puts A k hk L
  have hs := puts_size A L
  unfold lkp
  split
  ·next h =>
   subst h
   simp [puts, Act.put, Act.eval, Array.getD, hs, hk]
  ·next h =>
   rw [← ih]
   simp only [puts, Act.put, Act.eval]
   rw [Array.getD_eq_getD_getElem?, Array.getD_eq_getD_getElem?, Array.getElem?_setIfInBounds_ne (Ne.symm h)]
def BaseOk (A : Act) : List (Nat × Value) → Prop
 | [] => True
 | (k, v) :: r => A.eval (.tmp k) = v ∧ BaseOk A r
theorem base_nil {A : Act} : BaseOk A [] := trivial
theorem base_cons {A : Act} {k : Nat} {v : Value} {r : List (Nat × Value)} (h : A.eval (.tmp k) = v) (hr : BaseOk A r) : BaseOk A ((k, v) :: r) := ⟨h, hr⟩
def Rd (A : Act) (L : List (Nat × Value)) (ρ : Operand → Value) : Prop := ρ = (puts A L).eval
theorem Rd.tmp {A : Act} {L : List (Nat × Value)} {ρ : Operand → Value} (h : Rd A L ρ) {n : Nat} (hn : A.tmps.size = n) (k : Nat) (hk : Nat.blt k n = true) : ρ (.tmp k) = lkp L k (A.eval (.tmp k)) := by
 unfold Rd at h; rw [h]; exact eval_puts A k (by rw [hn]; simpa [Nat.blt_eq] using hk) L
theorem Rd.const {A : Act} {L : List (Nat × Value)} {ρ : Operand → Value} (h : Rd A L ρ) (v : Value) : ρ (.const v) = v := by unfold Rd at h; rw [h]; rfl
theorem Rd.func {A : Act} {L : List (Nat × Value)} {ρ : Operand → Value} (h : Rd A L ρ) (f : FuncId) : ρ (.func f) = .func (.func f) #[] #[] := by unfold Rd at h; rw [h]; rfl
section
variable {P : Program} {ops : Array Oper} {Q : Exit → Act → World → Prop} {md : Region.Mode} {S : World → Prop} {J : List Nat}
def wpOrd' (P : Program) (ops : Array Oper) (Q : Exit → Act → World → Prop) (S : World → Prop) (J : List Nat) : List (Nat × Bool) → Act → World → Prop
 | [], a, w => Q .normal a w
 | (i, true) :: r, a, w => S w ∧ ∃ oi v, ops[i]? = some oi ∧ YieldsIf P ops S oi v a ∧ wpOrd' P ops Q S J r (a.put oi.dst v) w
 | (i, false) :: r, a, w => wpOp P ops Q i (fun a' w' => (J.contains i = false → S w') ∧ wpOrd' P ops Q S J r a' w') a w
structure wpOrd (P : Program) (ops : Array Oper) (Q : Exit → Act → World → Prop) (S : World → Prop) (J : List Nat) (tk : List (Nat × Bool)) (a : Act) (w : World) : Prop where
 out : wpOrd' P ops Q S J tk a w
def chkOrd (md : Region.Mode) (ops : Array Oper) (J : List Nat) : List (Nat × Bool) → Array Bool → Bool
 | [], listed => (Region.ready md ops listed).isEmpty
 | (i, true) :: r, listed => Region.free md ops listed i && (Region.ready md ops listed).contains i && closedB md ops listed && J.all (ancB md ops i ops.size) && chkOrd md ops J r (listed.setIfInBounds i true)
 | (i, false) :: r, listed => Region.ready md ops listed == [i] && chkOrd md ops J r (listed.setIfInBounds i true)
theorem wpAnyJ_of_ord (hs : Region.noSelect ops = true) (hQ : ∀ c a d v w, Q (.panic c) (a.put (some d) v) w → Q (.panic c) a w) : ∀ (tk : List (Nat × Bool)) (m : Nat) (listed : Array Bool) (a : Act) (w : World),
 chkOrd md ops J tk listed = true → wpOrd' P ops Q S J tk a w → wpAnyJ P md ops Q S J (tk.length + m) listed a w
 | [], m, listed, a, w, hc, h => wpAnyJ_done (List.isEmpty_iff.1 hc) h _
 | (i, true) :: r, m, listed, a, w, hc, h => by
  simp only [chkOrd, Bool.and_eq_true] at hc
  obtain ⟨⟨⟨⟨h1, h2⟩, h3⟩, h4⟩, h5⟩ := hc
  obtain ⟨hS, oi, v, hoi, hy, hr⟩ := h
  rw [List.length_cons, Nat.add_right_comm]
  exact wpAnyJ_take hoi rfl hs h1 h2 h3 h4 (fun c a w q => by cases hd : oi.dst with | none => rw [hd] at q; exact q | some d => rw [hd] at q; exact hQ c a d v w q) hy hS (wpAnyJ_of_ord hs hQ r m _ _ _ h5 hr)
 | (i, false) :: r, m, listed, a, w, hc, h => by
  simp only [chkOrd, Bool.and_eq_true, beq_iff_eq] at hc
  rw [List.length_cons, Nat.add_right_comm]
  refine ⟨fun h0 => (by rw [hc.1] at h0; cases h0), fun j hj => ?_⟩
  rw [hc.1] at hj
  obtain rfl := List.mem_singleton.1 hj
  exact wpOp_mono (fun a' w' h' => ⟨h'.1, wpAnyJ_of_ord hs hQ r m _ _ _ hc.2 h'.2⟩) h
def ordOk (P : Program) (ops : Array Oper) (J : List Nat) (tk : List (Nat × Bool)) : Bool := P.follows .mixedOrders && Region.noSelect ops && tk.length == ops.size && chkOrd .any ops J tk (Array.replicate ops.size false)
theorem wp_region_ord {id : Nat} {a : Act} {w : World} {base : List (Nat × Value)} {n : Nat} (tk : List (Nat × Bool)) (hk : ordOk P ops J tk = true) (hn : a.tmps.size = n) (hb : BaseOk a base) (hS : S w.drew) (hq : ∀ c a d v w, Q (.panic c) (a.put (some d) v) w → Q (.panic c) a w)
 (h : ∀ (Q2 : Exit → Act → World → Prop) (A : Act), A.tmps.size = n → BaseOk A base → Hid (∀ L w', Q .normal (puts a L) w' → Q2 .normal (puts A L) w') → S w.drew → wpOrd P ops Q2 S J tk (puts A []) w.drew) : (Code.region id ops true).wp P Q a w := by
 simp only [ordOk, Bool.and_eq_true, beq_iff_eq] at hk
 obtain ⟨⟨⟨h1, h2⟩, h3⟩, h4⟩ := hk
 refine wp_region_J (J := J) h1 hS (fun hS => ?_)
 have := wpAnyJ_of_ord (P := P) h2 hq tk 0 _ _ _ h4 (h Q a hn hb (fun L w' h => h) hS).out
 rw [Nat.add_zero, h3] at this
 exact this
theorem ord_done {A a : Act} {L : List (Nat × Value)} {w : World} {Q2 : Exit → Act → World → Prop} (hn : Hid (∀ L w', Q .normal (puts a L) w' → Q2 .normal (puts A L) w')) (h : Q .normal (puts a L) w) : wpOrd P ops Q2 S J [] (puts A L) w := ⟨hn.out L w h⟩
section
variable {A : Act} {L : List (Nat × Value)} {w : World} {n i d : Nat} {oi : Oper} {r : List (Nat × Bool)} {v : Value}
theorem wanted_none {y : Nat → Option Bool} (hg : oi.guard = none) : Region.wanted oi y = true := by unfold Region.wanted; rw [hg]
theorem ord_take (hi : ops[i]? = some oi) (hd : oi.dst = some d) (hw : Region.wanted oi (yielded ops (puts A L).tmps) = true) (hS : S w)
 (hv : ∀ ρ : Operand → Value, Rd A L ρ → ∀ w, S w → (execOp ρ oi).run P w = .ok (.value v) w) (h : wpOrd P ops Q S J r (puts A ((d, v) :: L)) w) : wpOrd P ops Q S J ((i, true) :: r) (puts A L) w :=
 ⟨⟨hS, oi, v, hi, Or.inl ⟨hw, fun w hw => hv _ rfl w hw⟩, by rw [hd]; exact h.out⟩⟩
theorem ord_move {x : Operand} (hi : ops[i]? = some oi) (hd : oi.dst = some d) (ho : oi.op = .move x) (hw : Region.wanted oi (yielded ops (puts A L).tmps) = true) (hS : S w)
 (hv : ∀ ρ : Operand → Value, Rd A L ρ → ρ x = v) (h : wpOrd P ops Q S J r (puts A ((d, v) :: L)) w) : wpOrd P ops Q S J ((i, true) :: r) (puts A L) w :=
 ord_take hi hd hw hS (fun ρ hρ w _ => by unfold execOp; rw [ho]; simp only [hv ρ hρ]; rfl) h
theorem ord_run {w' : World} (hi : ops[i]? = some oi) (hd : oi.dst = some d) (hw : Region.wanted oi (yielded ops (puts A L).tmps) = true)
 (hv : ∀ ρ : Operand → Value, Rd A L ρ → (execOp ρ oi).run P w = .ok (.value v) w') (hS : J.contains i = false → S w') (h : (J.contains i = false → S w') → wpOrd P ops Q S J r (puts A ((d, v) :: L)) w') : wpOrd P ops Q S J ((i, false) :: r) (puts A L) w := by
 refine ⟨?_⟩
 simp only [wpOrd', wpOp, hi, hw, if_true]
 refine .inl ?_
 rw [Oper.wp, hv _ rfl, Oper.upon_value, hd]
 exact ⟨hS, (h hS).out⟩
theorem ord_call {f : FuncId} {xs : Array Operand} {ats : Array TypeId} {vs : Array Value} (hi : ops[i]? = some oi) (hd : oi.dst = some d) (ho : oi.op = .call { callee := .value (.func f), args := xs, argTypes := ats }) (hw : Region.wanted oi (yielded ops (puts A L).tmps) = true)
 (hx : ∀ ρ : Operand → Value, Rd A L ρ → xs.map ρ = vs) (hf : ∀ w, (callFunc f vs).run P w = .ok (.enter f vs) w)
 (h : Calls P f vs w (fun e w' => ∃ v, e = .returned v ∧ (J.contains i = false → S w') ∧ ((J.contains i = false → S w') → wpOrd P ops Q S J r (puts A ((d, v) :: L)) w'))) : wpOrd P ops Q S J ((i, false) :: r) (puts A L) w := by
 refine ⟨?_⟩
 simp only [wpOrd', wpOp, hi, hw, if_true]
 refine .inl ?_
 have he : (execOp (puts A L).eval oi).run P w = .ok (.enter f vs) w := by
  have := hf w
  rw [← hx _ rfl] at this ⊢
  unfold execOp
  rw [ho]
  rw [← this]
  have e0 : (#[] ++ xs.map (puts A L).eval ++ #[] : Array Value) = xs.map (puts A L).eval := by simp
  conv => rhs; rw [← e0]
  rfl
 rw [Oper.wp, he, Oper.upon_enter]
 refine h.mono ?_
 rintro e w' ⟨v, rfl, h1, h2⟩
 simp only [hd]
 exact ⟨h1, (h2 h1).out⟩
end
end
end Go.Proofs.YtepicjpdhpojnaaGreatDoor
namespace Go.Proofs.YtepicjpdhpojnaaGreatDoor
open Go.RowKit
section
variable {P : Program} {ops : Array Oper} {A : Act} {L : List (Nat × Value)} {n : Nat} {oi : Oper}
end
end Go.Proofs.YtepicjpdhpojnaaGreatDoor
namespace Go.Proofs.YtepicjpdhpojnaaGreatDoor
open Go.RowKit
def risL (u : Int) : Int → List Int → Bool
 | _, [] => true
 | p, x :: t => decide (p < x) && decide (x < u) && risL u x t
def lastD : Int → List Int → Int
 | p, [] => p
 | _, x :: t => lastD x t
theorem risL_snoc (u x : Int) : ∀ (p : Int) (l : List Int), risL u p (l ++ [x]) = (risL u p l && decide (lastD p l < x) && decide (x < u))
 | p, [] => by
  show (decide (p < x) && decide (x < u) && true) = (true && decide (p < x) && decide (x < u))
  rw [Bool.and_true, Bool.true_and]
 | p, y :: t => by rw [List.cons_append, risL, risL_snoc u x y t, risL, lastD]; simp only [Bool.and_assoc]
theorem risL_take {u : Int} : ∀ {p : Int} {l : List Int} (i : Nat), risL u p l = true → risL u p (l.take i) = true
 | _, [], i, _ => by simp [risL]
 | _, x :: t, 0, _ => by simp [risL]
 | p, x :: t, i + 1, h => by
  rw [risL, Bool.and_eq_true] at h
  rw [List.take_succ_cons, risL, h.1, risL_take i h.2]; rfl
theorem lastD_snoc (x : Int) : ∀ (p : Int) (l : List Int), lastD p (l ++ [x]) = x
 | _, [] => rfl
 | _, y :: t => lastD_snoc x y t
theorem lastD_take {l : List Int} {i : Nat} {x p : Int} (h : l[i]? = some x) : lastD p (l.take (i + 1)) = x := by rw [take_snoc h, lastD_snoc]
theorem ris_stop {u x : Int} {l : List Int} {i : Nat} (hx : l[i]? = some x) (h : lastD (-1) (l.take i) < x → x < u → False) : risL u (-1) l = false := by
 rw [Bool.eq_false_iff]
 intro e
 have := risL_take (i + 1) e
 rw [take_snoc hx, risL_snoc, Bool.and_eq_true, Bool.and_eq_true] at this
 exact h (by simpa using this.1.2) (by simpa using this.2)
theorem ris_step {u x : Int} {l : List Int} {i : Nat} (hx : l[i]? = some x) (hp : risL u (-1) (l.take i) = true) (h1 : lastD (-1) (l.take i) < x) (h2 : x < u) : risL u (-1) (l.take (i + 1)) = true := by
 rw [take_snoc hx, risL_snoc, hp, decide_eq_true h1, decide_eq_true h2]; rfl
def RsgR (w : World) (l : List Int) (u : Int) (n gk : Nat) (lv iv : Value) (wr : World) : Prop := ∃ i : Nat, lv = .int .i64 (lastD (-1) (l.take i)) ∧ iv = .int .i64 i ∧ i ≤ n ∧ gk = n - i ∧ wr = w ∧ Hid (risL u (-1) (l.take i) = true)
theorem rising_any (A : Option Addr) (n c B : Nat) (l : List Int) (u : Int) (w : World) (hs : Sl w B 1 A n c (intsV l)) :
 Calls Tryz.prog 87 #[.slice A n c, .int .i64 u] w fun e w' => e = .returned (.bool (risL u (-1) l)) ∧ w = w' := by
 have hle := hs.le
 have HL := Lib.hid (hs.len (fun _ => rfl) (by decide))
 have HS := Lib.hid hs
 clear hs
 go_enter Tryz.func87, Tryz.ntmps87
 go_wp2_with fail
 go_loopg [5, 11] n (RsgR w l u n)
 case atStart => exact ⟨0, rfl, rfl, Nat.zero_le _, rfl, rfl, rfl⟩
 case round =>
  obtain ⟨i, rfl, rfl, hi, rfl, rfl, hR⟩ := hrel
  by_cases hlt : i < n
  ·obtain ⟨b, off, x, rfl, hb, hx, hc⟩ := HS.out.at1 hlt
   have HX := Lib.hid hx
   have HT : Hid (lastD (-1) (l.take (i + 1)) = x) := lastD_take hx
   obtain ⟨la, hla⟩ : ∃ la, la = lastD (-1) (l.take i) := ⟨_, rfl⟩
   rw [← hla]
   have HLA := Lib.hid hla
   clear hx hla
   by_cases h1 : x ≤ la
   ·have q1 : decide (x ≤ la) = true := by simpa using h1
    have HF : Hid (risL u (-1) l = false) := ris_stop HX.out fun h _ => by rw [← HLA.out] at h; omega
    clear h1
    go_wp2_with fail
    go_ret
    exact ⟨ret_bool HF.out.symm, rfl⟩
   have q1 : decide (x ≤ la) = false := by simpa using h1
   by_cases h2 : u ≤ x
   ·have q2 : decide (u ≤ x) = true := by simpa using h2
    have HF : Hid (risL u (-1) l = false) := ris_stop HX.out fun _ h => by omega
    clear h1 h2
    go_wp2_with fail
    go_ret
    exact ⟨ret_bool HF.out.symm, rfl⟩
   have q2 : decide (u ≤ x) = false := by simpa using h2
   have HN : Hid (risL u (-1) (l.take (i + 1)) = true) := ris_step HX.out hR.out (by rw [← HLA.out]; omega) (by omega)
   clear h1 h2
   go_wp2_with fail
   go_roundg (n - (i + 1))
   case rel => exact ⟨i + 1, by rw [HT.out], by go_num, by omega, rfl, rfl, HN⟩
   case measure => omega
  ·obtain rfl : i = n := by omega
   have hii : decide (i < i) = false := by simp
   have HF : Hid (risL u (-1) l = true) := by have := hR.out; rw [List.take_of_length_le (by rw [HL.out]; exact Nat.le_refl _)] at this; exact this
   go_wp2_with fail
   go_ret
   exact ⟨ret_bool HF.out.symm, rfl⟩
def zoneErr (ns : List Nd) (ds : List Dv) (z : List Int) : Int := if checkN ns ds ≠ 0 then checkN ns ds else if z.length = 0 then 16 else if risL ns.length (-1) z = false then 7 else 0
theorem zoneErr_zero {ns : List Nd} {ds : List Dv} {z : List Int} (h : zoneErr ns ds z = 0) : checkN ns ds = 0 ∧ 0 < z.length ∧ risL ns.length (-1) z = true := by
 unfold zoneErr at h
 split at h
 ·next h1 => exact absurd h h1
 next h1 =>
 split at h
 ·cases h
 next h2 =>
 split at h
 ·cases h
 next h3 => exact ⟨by simpa using h1, by omega, by simpa using h3⟩
theorem ris_mem {u : Int} : ∀ {p : Int} {l : List Int}, risL u p l = true → ∀ x ∈ l, p < x ∧ x < u
 | _, [], _, x, hx => by cases hx
 | p, y :: t, h, x, hx => by
  rw [risL, Bool.and_eq_true, Bool.and_eq_true] at h
  have h1 : p < y := by simpa using h.1.1
  rcases List.mem_cons.1 hx with rfl | hx
  ·exact ⟨h1, by simpa using h.1.2⟩
  ·have := ris_mem h.2 x hx; exact ⟨by omega, this.2⟩
theorem zcheck_any (An Ad Az : Option Addr) (nn cn nd cd n c : Nat) (ns : List Nd) (ds : List Dv) (z : List Int) (w : World) (hl : Laid w) (hn : Sl w w.heap.size 3 An nn cn (ns.flatMap Nd.cells)) (hd : Sl w w.heap.size 5 Ad nd cd (ds.flatMap Dv.cells)) (hs : Sl w w.heap.size 1 Az n c (intsV z))
 (hsn : ∀ x ∈ ns, x.name.size ≤ 9223372036854775807) (hsd : ∀ x ∈ ds, x.name.size ≤ 9223372036854775807) :
 Calls Tryz.prog 50 #[.agg #[.slice An nn cn, .slice Ad nd cd], .slice Az n c] w fun e w' => e = .returned (.int .i64 (zoneErr ns ds z)) ∧ Below w.heap.size w w' := by
 have HLZ := Lib.hid (hs.len (fun _ => rfl) (by decide))
 have HLN := Lib.hid (hn.len (fun _ => rfl) (by decide))
 have hle := hs.le
 have hln := hn.le
 have HE : Hid (zoneErr ns ds z = if checkN ns ds ≠ 0 then checkN ns ds else if n = 0 then 16 else if risL nn (-1) z = false then 7 else 0) := by unfold Hid zoneErr; rw [HLN.out, HLZ.out]
 have HB : Hid (Below w.heap.size w (w.alloc (.cells #[.slice An nn cn, .slice Ad nd cd] 30))) := (Below.refl _ _).alloc (Nat.le_refl _) _
 have HK := Lib.hid (Blk.new w 30 #[.slice An nn cn, .slice Ad nd cd])
 have HC := Lib.hid (ncheck_any An Ad nn cn nd cd _ _ ns ds (w.alloc (.cells #[.slice An nn cn, .slice Ad nd cd] 30)) (hl.alloc _) (hn.below HB.out (Nat.le_refl _)) (hd.below HB.out (Nat.le_refl _)) HB.out.size HB.out.size hsn hsd)
 have HS := Lib.hid hs
 clear hn hd hs hsn hsd hl
 go_enter Tryz.func50, Tryz.ntmps50
 go_wp2_with fail
 generalize World.alloc w _ = W at *
 refine HC.out.mono ?_
 rintro e w1 ⟨rfl, hb1⟩
 have HB1 := Lib.hid (HB.out.trans (hb1.mono HB.out.size))
 have HK1 := Lib.hid (HK.out.below hb1 HK.out.lt)
 have HS1 := Lib.hid ((HS.out.below HB1.out (Nat.le_refl _)).more HB1.out.size)
 clear hb1 HC HB HK HS
 obtain ⟨er, her⟩ : ∃ x, x = checkN ns ds := ⟨_, rfl⟩
 rw [← her] at HE ⊢
 clear her
 by_cases he : er = 0; rotate_left
 ·have q : (er != 0) = true := by simpa using he
  have HR : Hid (zoneErr ns ds z = er) := by unfold Hid; rw [HE.out, if_pos he]
  clear he HE
  go_wp2_with fail
  go_ret
  exact ⟨ret_int HR.out.symm, HB1.out⟩
 subst he
 rcases Nat.eq_zero_or_pos n with rfl | h0
 ·have HR : Hid (zoneErr ns ds z = 16) := by unfold Hid; rw [HE.out, if_neg (by simp), if_pos rfl]
  clear HE
  go_wp2_with fail
  go_ret
  exact ⟨ret_int HR.out.symm, HB1.out⟩
 have q0 : ((n : Int) == 0) = false := by simp; omega
 have q1 : (n == 0) = false := by simp; omega
 have k0 : w1.cell? ⟨w.heap.size, 0, none⟩ = some (.slice An nn cn) := HK1.out.cell 0
 go_wp2_with fail
 clear k0
 refine (rising_any Az n c w1.heap.size z nn w1 HS1.out).mono ?_
 rintro e w2 ⟨rfl, rfl⟩
 rcases hr : risL nn (-1) z with _ | _
 ·have HR : Hid (zoneErr ns ds z = 7) := by unfold Hid; rw [HE.out, if_neg (by simp), if_neg (by omega), if_pos hr]
  clear HE hr
  go_wp2_with fail
  go_ret
  exact ⟨ret_int HR.out.symm, HB1.out⟩
 ·have HR : Hid (zoneErr ns ds z = 0) := by unfold Hid; rw [HE.out, if_neg (by simp), if_neg (by omega), if_neg (by rw [hr]; simp)]
  clear HE hr
  go_wp2_with fail
  go_ret
  exact ⟨ret_int HR.out.symm, HB1.out⟩
end Go.Proofs.YtepicjpdhpojnaaGreatDoor
