import Derived.Test.YtddddlhgaeameaaGreatDoorJ03
set_option maxHeartbeats 1000000
namespace Go.Proofs.YtddddlhgaeameaaGreatDoor
open Go.RowKit Tryz
variable {m : List Int} {d u v : Value} {k n : Nat} {A : Act}
def sy (m : List Int) : Nat → List Nat
 | 0 => []
 | n + 1 => if m[n]? = some 3 then sy m n ++ [n] else sy m n
def vB (m : List Int) (n : Nat) : Nat := (sy m n).length
theorem uS (m : List Int) (n : Nat) : vB m (n + 1) = vB m n + if m[n]? = some 3 then 1 else 0 := by
 unfold vB; rw [sy]; split <;> simp
theorem tu (m : List Int) {a b : Nat} (h : a ≤ b) : vB m a ≤ vB m b := by
 induction b with
 | zero => obtain rfl : a = 0 := by omega
           exact Nat.le_refl _
 | succ b ih =>
  rcases Nat.lt_or_ge a (b + 1) with h1 | h1
  ·have := ih (by omega); rw [uS]; omega
  ·obtain rfl : a = b + 1 := by omega
   exact Nat.le_refl _
theorem sc (m : List Int) : ∀ (n j d : Nat), (sy m n)[j]? = some d → m[d]? = some 3 ∧ d < n ∧ vB m d = j
 | 0, j, d, h => by simp [sy] at h
 | n + 1, j, d, h => by
  rw [sy] at h;split at h
  ·next h3 =>
   rw [List.getElem?_append] at h;split at h
   ·have := sc m n j d h; exact ⟨this.1, by omega, this.2.2⟩
   ·next hj =>
    have hz : j - (sy m n).length = 0 := by
     rcases Nat.eq_zero_or_pos (j - (sy m n).length) with h0 | h0
     ·exact h0
     ·rw [List.getElem?_eq_none (by simp; omega)] at h; cases h
    rw [hz] at h;simp at h;subst h;exact ⟨h3, by omega, by unfold vB; omega⟩
  ·have := sc m n j d h; exact ⟨this.1, by omega, this.2.2⟩
theorem nI {d e : Nat} (hd : m[d]? = some 3) (he : m[e]? = some 3) (h : vB m d = vB m e) : d = e := by
 rcases Nat.lt_trichotomy d e with hlt | rfl | hlt
 ·have := tu m (show d + 1 ≤ e by omega);rw [uS, if_pos hd] at this; omega
 ·rfl
 ·have := tu m (show e + 1 ≤ d by omega);rw [uS, if_pos he] at this; omega
theorem lH {d : Nat} (hd : m[d]? = some 3) (h : d < n) : vB m d < vB m n := by
 have := tu m (show d + 1 ≤ n by omega);rw [uS, if_pos hd] at this; omega
def jt (m : List Int) (n k d : Nat) : Int := if m[d]? = some 3 then 1 + ((k >>> (vB m n - 1 - vB m d)) % 2 : Nat) else m.getD d 0
def VI (m : List Int) (n k : Nat) : List Int := (List.range n).map (jt m n k)
def uz (m : List Int) (k j : Nat) (l : List Int) : Prop := l.length = m.length ∧ ∀ d, d < m.length → l[d]? = some (if m[d]? = some 3 ∧ vB m d < j then jt m m.length k d else m.getD d 0)
theorem uz.start (m : List Int) (k : Nat) : uz m k 0 m := ⟨rfl, fun d hd => by rw [if_neg (by omega), List.getD_eq_getElem?_getD, List.getElem?_eq_getElem hd]; rfl⟩
theorem uz.step {l : List Int} {j d : Nat} (h : uz m k j l) (hd : (sy m m.length)[j]? = some d) : uz m k (j + 1) (l.set d (1 + ((k >>> (vB m m.length - 1 - j)) % 2 : Nat))) := by
 obtain ⟨h3, hlt, hc⟩ := sc m _ _ _ hd;refine ⟨by simp [h.1], fun e he => ?_⟩;rw [List.getElem?_set];by_cases Sd : d = e
 ·subst Sd;rw [if_pos rfl, if_pos (by rw [h.1]; exact he), if_pos ⟨h3, by omega⟩];unfold jt; rw [if_pos h3, hc]
 ·rw [if_neg Sd, h.2 e he]
  congr 1
  by_cases OG : m[e]? = some 3
  ·have : vB m e ≠ j := fun hh => Sd (nI h3 OG (by omega))
   by_cases Gq : vB m e < j
   ·rw [if_pos ⟨OG, Gq⟩, if_pos ⟨OG, by omega⟩]
   ·rw [if_neg (fun x => Gq x.2), if_neg (fun x => by omega)]
  ·rw [if_neg (fun x => OG x.1), if_neg (fun x => OG x.1)]
theorem uz.done {l : List Int} (h : uz m k (vB m m.length) l) : l = VI m m.length k := by
 apply List.ext_getElem?
 intro d;by_cases hd : d < m.length
 ·rw [h.2 d hd];unfold VI;rw [List.getElem?_map, List.getElem?_range hd];simp only [Option.map_some, Option.some.injEq];by_cases h3 : m[d]? = some 3
  ·rw [if_pos ⟨h3, lH h3 hd⟩]
  ·rw [if_neg (fun x => h3 x.1)]; unfold jt; rw [if_neg h3]
 ·rw [List.getElem?_eq_none (by rw [h.1]; omega), List.getElem?_eq_none (by unfold VI; simp; omega)]
section
variable {P : Program} {ops : Array Oper} {Q : Exit → Act → World → Prop} {S : World → Prop} {J : List Nat}
end
def MG : List (Nat × Value) → Nat → Value → Value
 | [], _, d => d
 | (k, v) :: L, n, d => if n = k then v else MG L n d
theorem xL {L : List (Nat × Value)} : MG ((k, v) :: L) k d = v := if_pos rfl
theorem wK (h : d = u) : MG [] k d = u := h
theorem yd {L : List (Nat × Value)} (h : Nat.beq n k = false) (r : MG L n d = u) : MG ((k, v) :: L) n d = u := (if_neg (fun e => by rw [e, Nat.beq_refl] at h; cases h)).trans r
theorem ie {k1 k2 k3 k4 : Nat} {v1 v2 v3 v4 : Value} {L : List (Nat × Value)} (h1 : Nat.beq n k1 = false) (h2 : Nat.beq n k2 = false) (h3 : Nat.beq n k3 = false) (h4 : Nat.beq n k4 = false) (r : MG L n d = u) : MG ((k1, v1) :: (k2, v2) :: (k3, v3) :: (k4, v4) :: L) n d = u := yd h1 (yd h2 (yd h3 (yd h4 r)))
def yB (A : Act) : List (Nat × Value) → Act
 | [] => A
 | (k, v) :: L => (yB A L).put (some k) v
theorem oO (A : Act) : yB A [] = A := by cases A <;> rfl
theorem qS (A : Act) (k : Nat) (v : Value) (L : List (Nat × Value)) : yB A ((k, v) :: L) = (yB A L).put (some k) v := by cases L <;> rfl
theorem mm (xs : List Value) (ds : List Deferred) (k : Nat) (v : Value) : (Act.mk xs.toArray ds).put (some k) v = Act.mk (xs.set k v).toArray ds := by simp [Act.put]
theorem ib (x v : Value) (t : List Value) : (x :: t).set 0 v = v :: t := by cases t <;> rfl
theorem ia (x v : Value) (t : List Value) (n : Nat) : (x :: t).set (n + 1) v = x :: t.set n v := by cases t <;> rfl
theorem qR (A : Act) : ∀ L : List (Nat × Value), (yB A L).tmps.size = A.tmps.size
 | [] => rfl
 | (k, v) :: L => by simp [yB, Act.put, qR A L]
theorem qh (A : Act) (k : Nat) (hk : k < A.tmps.size) : ∀ L : List (Nat × Value), (yB A L).eval (.tmp k) = MG L k (A.eval (.tmp k))
 | [] => rfl
 | (j, v) :: L => by
  have ih := qh A k hk L;have hs := qR A L;unfold MG;split
  ·next h =>
   subst h;simp [yB, Act.put, Act.eval, Array.getD, hs, hk]
  ·next h =>
   rw [← ih];simp only [yB, Act.put, Act.eval];rw [Array.getD_eq_getD_getElem?, Array.getD_eq_getD_getElem?, Array.getElem?_setIfInBounds_ne (Ne.symm h)]
def uJ (A : Act) : List (Nat × Value) → Prop
 | [] => True
 | (k, v) :: r => A.eval (.tmp k) = v ∧ uJ A r
theorem nO : uJ A [] := trivial
theorem wZ {r : List (Nat × Value)} (h : A.eval (.tmp k) = v) (hr : uJ A r) : uJ A ((k, v) :: r) := ⟨h, hr⟩
def Rd (A : Act) (L : List (Nat × Value)) (ρ : Operand → Value) : Prop := ρ = (yB A L).eval
theorem Rd.tmp {L : List (Nat × Value)} {ρ : Operand → Value} (h : Rd A L ρ) (hn : A.tmps.size = n) (k : Nat) (hk : Nat.blt k n = true) : ρ (.tmp k) = MG L k (A.eval (.tmp k)) := by
 unfold Rd at h; rw [h]; exact qh A k (by rw [hn]; simpa [Nat.blt_eq] using hk) L
theorem Rd.const {L : List (Nat × Value)} {ρ : Operand → Value} (h : Rd A L ρ) (v : Value) : ρ (.const v) = v := by unfold Rd at h; rw [h]; rfl
theorem Rd.func {L : List (Nat × Value)} {ρ : Operand → Value} (h : Rd A L ρ) (f : FuncId) : ρ (.func f) = .func (.func f) #[] #[] := by unfold Rd at h; rw [h]; rfl
section
variable {P : Program} {ops : Array Oper} {Q : Exit → Act → World → Prop} {md : Region.Mode} {S : World → Prop} {J : List Nat}
def vu (P : Program) (ops : Array Oper) (Q : Exit → Act → World → Prop) (S : World → Prop) (J : List Nat) : List (Nat × Bool) → Act → World → Prop
 | [], a, w => Q .normal a w
 | (i, true) :: r, a, w => S w ∧ ∃ oi v, ops[i]? = some oi ∧ YieldsIf P ops S oi v a ∧ vu P ops Q S J r (a.put oi.dst v) w
 | (i, false) :: r, a, w => wpOp P ops Q i (fun a' w' => (J.contains i = false → S w') ∧ vu P ops Q S J r a' w') a w
structure CO (P : Program) (ops : Array Oper) (Q : Exit → Act → World → Prop) (S : World → Prop) (J : List Nat) (tk : List (Nat × Bool)) (a : Act) (w : World) : Prop where
 out : vu P ops Q S J tk a w
def uv (md : Region.Mode) (ops : Array Oper) (J : List Nat) : List (Nat × Bool) → Array Bool → Bool
 | [], listed => (Region.ready md ops listed).isEmpty
 | (i, true) :: r, listed => Region.free md ops listed i && (Region.ready md ops listed).contains i && xl md ops listed && J.all (vr md ops i ops.size) && uv md ops J r (listed.setIfInBounds i true)
 | (i, false) :: r, listed => Region.ready md ops listed == [i] && uv md ops J r (listed.setIfInBounds i true)
theorem wG (hs : Region.noSelect ops = true) (hQ : ∀ c a d v w, Q (.panic c) (a.put (some d) v) w → Q (.panic c) a w) : ∀ (tk : List (Nat × Bool)) (m : Nat) (listed : Array Bool) (a : Act) (w : World),
 uv md ops J tk listed = true → vu P ops Q S J tk a w → zZ P md ops Q S J (tk.length + m) listed a w
 | [], m, listed, a, w, hc, h => zA (List.isEmpty_iff.1 hc) h _
 | (i, true) :: r, m, listed, a, w, hc, h => by
  simp only [uv, Bool.and_eq_true] at hc;obtain ⟨⟨⟨⟨h1, h2⟩, h3⟩, h4⟩, h5⟩ := hc;obtain ⟨hS, oi, v, Pv, hy, hr⟩ := h;rw [List.length_cons, Nat.add_right_comm];exact vv Pv rfl hs h1 h2 h3 h4 (fun c a w q => by cases hd : oi.dst with | none => rw [hd] at q; exact q | some d => rw [hd] at q; exact hQ c a d v w q) hy hS (wG hs hQ r m _ _ _ h5 hr)
 | (i, false) :: r, m, listed, a, w, hc, h => by
  simp only [uv, Bool.and_eq_true, beq_iff_eq] at hc;rw [List.length_cons, Nat.add_right_comm];refine ⟨fun h0 => (by rw [hc.1] at h0; cases h0), fun j hj => ?_⟩;rw [hc.1] at hj;obtain rfl := List.mem_singleton.1 hj;exact wpOp_mono (fun a' w' h' => ⟨h'.1, wG hs hQ r m _ _ _ hc.2 h'.2⟩) h
def ic (P : Program) (ops : Array Oper) (J : List Nat) (tk : List (Nat × Bool)) : Bool := P.follows .mixedOrders && Region.noSelect ops && tk.length == ops.size && uv .any ops J tk (Array.replicate ops.size false)
theorem ro {id : Nat} {a : Act} {w : World} {base : List (Nat × Value)} (tk : List (Nat × Bool)) (hk : ic P ops J tk = true) (hn : a.tmps.size = n) (hb : uJ a base) (hS : S w.drew) (hq : ∀ c a d v w, Q (.panic c) (a.put (some d) v) w → Q (.panic c) a w)
 (h : ∀ (Q2 : Exit → Act → World → Prop) (A : Act), A.tmps.size = n → uJ A base → Hid (∀ L w', Q .normal (yB a L) w' → Q2 .normal (yB A L) w') → S w.drew → CO P ops Q2 S J tk (yB A []) w.drew) : (Code.region id ops true).wp P Q a w := by
 simp only [ic, Bool.and_eq_true, beq_iff_eq] at hk;obtain ⟨⟨⟨h1, h2⟩, h3⟩, h4⟩ := hk;refine zB (J := J) h1 hS (fun hS => ?_);have := wG (P := P) h2 hq tk 0 _ _ _ h4 (h Q a hn hb (fun L w' h => h) hS).out;rw [Nat.add_zero, h3] at this;exact this
theorem oS {a : Act} {L : List (Nat × Value)} {w : World} {Q2 : Exit → Act → World → Prop} (hn : Hid (∀ L w', Q .normal (yB a L) w' → Q2 .normal (yB A L) w')) (h : Q .normal (yB a L) w) : CO P ops Q2 S J [] (yB A L) w := ⟨hn.out L w h⟩
section
variable {A : Act} {L : List (Nat × Value)} {w : World} {n i d : Nat} {oi : Oper} {r : List (Nat × Bool)} {v : Value}
theorem zg {y : Nat → Option Bool} (hg : oi.guard = none) : Region.wanted oi y = true := by unfold Region.wanted; rw [hg]
theorem oR (hi : ops[i]? = some oi) (hd : oi.dst = some d) (hw : Region.wanted oi (yielded ops (yB A L).tmps) = true) (hS : S w)
 (hv : ∀ ρ : Operand → Value, Rd A L ρ → ∀ w, S w → (execOp ρ oi).run P w = .ok (.value v) w) (h : CO P ops Q S J r (yB A ((d, v) :: L)) w) : CO P ops Q S J ((i, true) :: r) (yB A L) w :=
 ⟨⟨hS, oi, v, hi, Or.inl ⟨hw, fun w hw => hv _ rfl w hw⟩, by rw [hd]; exact h.out⟩⟩
theorem kx {x : Operand} (hi : ops[i]? = some oi) (hd : oi.dst = some d) (ho : oi.op = .move x) (hw : Region.wanted oi (yielded ops (yB A L).tmps) = true) (hS : S w)
 (hv : ∀ ρ : Operand → Value, Rd A L ρ → ρ x = v) (h : CO P ops Q S J r (yB A ((d, v) :: L)) w) : CO P ops Q S J ((i, true) :: r) (yB A L) w :=
 oR hi hd hw hS (fun ρ AB w _ => by unfold execOp; rw [ho]; simp only [hv ρ AB]; rfl) h
theorem oT (i d : Nat) (v : Value) (hi : ops[i]? = some oi) (hd : oi.dst = some d) (hw : Region.wanted oi (yielded ops (yB A L).tmps) = true) (hS : S w)
 (hv : ∀ ρ : Operand → Value, Rd A L ρ → ∀ w, S w → (execOp ρ oi).run P w = .ok (.value v) w) (h : CO P ops Q S J r (yB A ((d, v) :: L)) w) : CO P ops Q S J ((i, true) :: r) (yB A L) w := oR hi hd hw hS hv h
theorem oM (i d : Nat) (v : Value) {x : Operand} (hi : ops[i]? = some oi) (hd : oi.dst = some d) (ho : oi.op = .move x) (hw : Region.wanted oi (yielded ops (yB A L).tmps) = true) (hS : S w)
 (hv : ∀ ρ : Operand → Value, Rd A L ρ → ρ x = v) (h : CO P ops Q S J r (yB A ((d, v) :: L)) w) : CO P ops Q S J ((i, true) :: r) (yB A L) w := kx hi hd ho hw hS hv h
theorem tm {ρ : Operand → Value} {x : Value} (h : Rd A L ρ) (hn : A.tmps.size = n) (k : Nat) (hk : Nat.blt k n = true) (e : MG L k (A.eval (.tmp k)) = x) : ρ (.tmp k) = x := (h.tmp hn k hk).trans e
theorem iC {w' : World} (hi : ops[i]? = some oi) (hd : oi.dst = some d) (hw : Region.wanted oi (yielded ops (yB A L).tmps) = true)
 (hv : ∀ ρ : Operand → Value, Rd A L ρ → (execOp ρ oi).run P w = .ok (.value v) w') (hS : J.contains i = false → S w') (h : (J.contains i = false → S w') → CO P ops Q S J r (yB A ((d, v) :: L)) w') : CO P ops Q S J ((i, false) :: r) (yB A L) w := by
 refine ⟨?_⟩;simp only [vu, wpOp, hi, hw, if_true];refine .inl ?_;rw [Oper.wp, hv _ rfl, Oper.upon_value, hd];exact ⟨hS, (h hS).out⟩
theorem ky {f : FuncId} {xs : Array Operand} {ats : Array TypeId} {vs : Array Value} (hi : ops[i]? = some oi) (hd : oi.dst = some d) (ho : oi.op = .call { callee := .value (.func f), args := xs, argTypes := ats }) (hw : Region.wanted oi (yielded ops (yB A L).tmps) = true)
 (hx : ∀ ρ : Operand → Value, Rd A L ρ → xs.map ρ = vs) (hf : ∀ w, (callFunc f vs).run P w = .ok (.enter f vs) w)
 (h : Calls P f vs w (fun e w' => ∃ v, e = .returned v ∧ (J.contains i = false → S w') ∧ ((J.contains i = false → S w') → CO P ops Q S J r (yB A ((d, v) :: L)) w'))) : CO P ops Q S J ((i, false) :: r) (yB A L) w := by
 refine ⟨?_⟩;simp only [vu, wpOp, hi, hw, if_true];refine .inl ?_
 have he : (execOp (yB A L).eval oi).run P w = .ok (.enter f vs) w := by
  have := hf w;rw [← hx _ rfl] at this ⊢;unfold execOp;rw [ho];rw [← this];have e0 : (#[] ++ xs.map (yB A L).eval ++ #[] : Array Value) = xs.map (yB A L).eval := by simp
  conv => rhs; rw [← e0]
  rfl
 rw [Oper.wp, he, Oper.upon_enter];refine h.mono ?_;rintro e w' ⟨v, rfl, h1, h2⟩;simp only [hd];exact ⟨h1, (h2 h1).out⟩
end
end
def rP (b : Int) : Bool := (decide (65 ≤ b) && decide (b ≤ 90)) || (decide (97 ≤ b) && decide (b ≤ 122))
def nC (b : Int) : Bool := decide (48 ≤ b) && decide (b ≤ 57)
theorem un (b : Int) (w : World) : Calls prog 77 #[.int .u8 b] w fun e w' => e = .returned (.bool (rP b)) ∧ w = w' := by
 by_cases h1 : 65 ≤ b
 ·by_cases h2 : b ≤ 90
  ·go_enter func77, ntmps77
   go_wp2
   go_ret;exact ⟨zE (by simp [rP, h1, h2]), rfl⟩
  ·have h2' : decide (b ≤ 90) = false := by simpa using h2
   by_cases h3 : 97 ≤ b
   ·go_enter func77, ntmps77
    go_wp2
    go_ret;exact ⟨zE (by simp [rP, h2', h3]), rfl⟩
   ·have h3' : decide (97 ≤ b) = false := by simpa using h3
    go_enter func77, ntmps77
    go_wp2
    go_ret;exact ⟨zE (by simp [rP, h2', h3']), rfl⟩
 ·have h1' : decide (65 ≤ b) = false := by simpa using h1
  have h3' : decide (97 ≤ b) = false := by simp; omega
  go_enter func77, ntmps77
  go_wp2
  go_ret;exact ⟨zE (by simp [rP, h1', h3']), rfl⟩
theorem kA (b : Int) (w : World) : Calls prog 78 #[.int .u8 b] w fun e w' => e = .returned (.bool (nC b)) ∧ w = w' := by
 by_cases h1 : 48 ≤ b
 ·go_enter func78, ntmps78
  go_wp2
  go_ret;exact ⟨zE (by simp [nC, h1]), rfl⟩
 ·have h1' : decide (48 ≤ b) = false := by simpa using h1
  go_enter func78, ntmps78
  go_wp2
  go_ret;exact ⟨zE (by simp [nC, h1']), rfl⟩
theorem tn (b : Int) : vQ b true = rP b := by
 unfold vQ rP;by_cases h1 : 65 ≤ b ∧ b ≤ 90
 ·simp [h1]
 ·by_cases h2 : 97 ≤ b ∧ b ≤ 122
  ·simp [h2]
  ·rw [if_neg h1, if_neg h2];have : (decide (65 ≤ b) && decide (b ≤ 90)) = false := by simpa using h1
   have h2' : (decide (97 ≤ b) && decide (b ≤ 122)) = false := by simpa using h2
   rw [this, h2'];split
   ·rfl
   ·split <;> rfl
theorem qg (b : Int) : vQ b false = (rP b || nC b || decide (b = 95)) := by
 unfold vQ rP nC;by_cases h1 : 65 ≤ b ∧ b ≤ 90
 ·simp [h1]
 ·by_cases h2 : 97 ≤ b ∧ b ≤ 122
  ·simp [h2]
  ·rw [if_neg h1, if_neg h2];have : (decide (65 ≤ b) && decide (b ≤ 90)) = false := by simpa using h1
   have h2' : (decide (97 ≤ b) && decide (b ≤ 122)) = false := by simpa using h2
   rw [this, h2'];by_cases h3 : 48 ≤ b ∧ b ≤ 57
   ·simp [h3]
   ·have h3' : (decide (48 ≤ b) && decide (b ≤ 57)) = false := by simpa using h3
    rw [if_neg h3, h3'];by_cases h4 : b = 95 <;> simp [h4]
theorem te (s : ByteArray) (w : World) (hs : s.size ≤ 9223372036854775807) : Calls prog 52 #[.string s] w fun e w' => e = .returned (.bool (yI (BA s))) ∧ w = w' := by
 have HN : Hid (yI (BA s) = (decide (∀ i, i < s.size → vQ ((BA s).getD i 0).toNat (i == 0) = true) && decide (1 ≤ s.size) && decide (s.size ≤ 12))) := by unfold Hid; rw [yI, tC]
 by_cases h1 : s.size < 1
 ·have q1 : decide ((s.size : Int) < 1) = true := by simp; omega
  go_enter func52, ntmps52
  go_wp2_with fail
  go_ret;exact ⟨zE (by rw [HN.out, decide_eq_false (show ¬ 1 ≤ s.size by omega)]; simp), rfl⟩
 have q1 : decide ((s.size : Int) < 1) = false := by simp; omega
 by_cases h2 : 12 < s.size
 ·have q2 : decide ((12 : Int) < (s.size : Int)) = true := by simp; omega
  go_enter func52, ntmps52
  go_wp2_with fail
  go_ret;exact ⟨zE (by rw [HN.out, decide_eq_false (show ¬ s.size ≤ 12 by omega)]; simp), rfl⟩
 have q2 : decide ((12 : Int) < (s.size : Int)) = false := by simp; omega
 have hg : ∀ i (h : i < s.size), (BA s).getD i 0 = s[i] := fun i h => by rw [List.getD_eq_getElem?_getD, List.getElem?_eq_getElem (by rw [tC]; exact h)]; rfl
 have AE : 0 < s.size := by omega
 have H0 : Hid ((BA s).getD 0 0 = s[0]) := hg 0 AE;have HG := iD hg; clear hg;rcases PN : rP ((s[0]).toNat : Int) with _ | _
 ·have HL := iD (un ((s[0]).toNat : Int));rw [PN] at HL
  have HR : Hid (yI (BA s) = false) := by
   unfold Hid;rw [HN.out, decide_eq_false (fun h => by have := h 0 AE; rw [H0.out] at this; simp only [beq_self_eq_true] at this; rw [tn, PN] at this; cases this)];rfl
  clear PN
  go_enter func52, ntmps52
  go_wp2_with fail
  refine (HL.out _).mono ?_;rintro e w1 ⟨rfl, rfl⟩
  go_wp2_with fail
  go_ret;exact ⟨zE (by rw [HR.out]), rfl⟩
 ·have HL := iD (un ((s[0]).toNat : Int));rw [PN] at HL;have JW := iD PN;clear PN
  go_enter func52, ntmps52
  go_wp2_with fail
  refine (HL.out _).mono ?_;rintro e w1 ⟨rfl, rfl⟩;clear q1 q2
  go_wp2_with fail
  go_loopg [3] s.size (fun gk iv wr => ∃ i : Nat, iv = .int .i64 i ∧ i ≤ s.size ∧ gk = s.size - i ∧ Hid (∀ j, j < i → vQ ((BA s).getD j 0).toNat false = true) ∧ Hid (w = wr))
  case atStart => exact ⟨0, rfl, Nat.zero_le _, rfl, fun j hj => absurd hj (by omega), rfl⟩
  case round =>
   obtain ⟨i, rfl, hi, rfl, CB, hw⟩ := hrel;obtain rfl := hw.out;clear hw;by_cases hlt : i < s.size
   ·have AA := iD (HG.out i hlt);have Mq := qg ((s[i]).toNat : Int);have Pd := iD (un ((s[i]).toNat : Int));have XU := iD (kA ((s[i]).toNat : Int));rcases hl : rP ((s[i]).toNat : Int) with _ | _
    ·rcases hd : nC ((s[i]).toNat : Int) with _ | _
     ·rw [hl] at Pd;rw [hd] at XU;rw [hl, hd] at Mq;by_cases Ui : ((s[i]).toNat : Int) = 95
      ·have AG : (((s[i]).toNat : Int) != 95) = false := by simpa using Ui
       have BR : Hid (vQ ((BA s).getD i 0).toNat false = true) := by unfold Hid; rw [AA.out, Mq]; simpa using Ui
       clear Mq hl hd Ui
       go_wp2_with fail
       refine (Pd.out _).mono ?_;rintro e w1 ⟨rfl, rfl⟩
       go_wp2_with fail
       refine (XU.out _).mono ?_;rintro e w1 ⟨rfl, rfl⟩
       go_wp2_with fail
       go_roundg (s.size - (i + 1))
       case rel => exact ⟨i + 1, by go_num, by omega, rfl, fun j hj => by
        rcases Nat.lt_succ_iff_lt_or_eq.1 hj with h | h
        ·exact CB.out j h
        ·rw [h]; exact BR.out, rfl⟩
       case measure => omega
      ·have AG : (((s[i]).toNat : Int) != 95) = true := by simpa using Ui
       have HR : Hid (yI (BA s) = false) := by
        unfold Hid
        rw [HN.out, decide_eq_false (fun h => by
         have := h i hlt;rw [AA.out] at this;rcases hb : (i == 0) with _ | _
         ·rw [hb, Mq] at this; simp [Ui] at this
         ·rw [hb, tn, hl] at this; cases this)]
        rfl
       clear Mq hl hd Ui
       go_wp2_with fail
       refine (Pd.out _).mono ?_;rintro e w1 ⟨rfl, rfl⟩
       go_wp2_with fail
       refine (XU.out _).mono ?_;rintro e w1 ⟨rfl, rfl⟩
       go_wp2_with fail
       go_ret;exact ⟨zE (by rw [HR.out]), rfl⟩
     ·rw [hl] at Pd;rw [hd] at XU;have BR : Hid (vQ ((BA s).getD i 0).toNat false = true) := by unfold Hid; rw [AA.out, Mq, hl, hd]; rfl
      clear Mq hl hd
      go_wp2_with fail
      refine (Pd.out _).mono ?_;rintro e w1 ⟨rfl, rfl⟩
      go_wp2_with fail
      refine (XU.out _).mono ?_;rintro e w1 ⟨rfl, rfl⟩
      go_wp2_with fail
      go_roundg (s.size - (i + 1))
      case rel => exact ⟨i + 1, by go_num, by omega, rfl, fun j hj => by
       rcases Nat.lt_succ_iff_lt_or_eq.1 hj with h | h
       ·exact CB.out j h
       ·rw [h]; exact BR.out, rfl⟩
      case measure => omega
    ·rw [hl] at Pd;have BR : Hid (vQ ((BA s).getD i 0).toNat false = true) := by unfold Hid; rw [AA.out, Mq, hl]; rfl
     clear Mq hl
     go_wp2_with fail
     refine (Pd.out _).mono ?_;rintro e w1 ⟨rfl, rfl⟩
     go_wp2_with fail
     go_roundg (s.size - (i + 1))
     case rel => exact ⟨i + 1, by go_num, by omega, rfl, fun j hj => by
      rcases Nat.lt_succ_iff_lt_or_eq.1 hj with h | h
      ·exact CB.out j h
      ·rw [h]; exact BR.out, rfl⟩
     case measure => omega
   ·obtain rfl : i = s.size := by omega
    have Ck : decide (s.size < s.size) = false := by simp
    have HR : Hid (yI (BA s) = true) := by
     unfold Hid
     rw [HN.out, decide_eq_true (show 1 ≤ s.size by omega), decide_eq_true (show s.size ≤ 12 by omega), decide_eq_true (fun j hj => by
      cases j with
      | zero => rw [H0.out]; simp only [beq_self_eq_true]; rw [tn]; exact JW.out
      | succ j => have := CB.out (j + 1) hj; simpa using this)]
     rfl
    go_wp2_with fail
    go_ret;exact ⟨zE (by rw [HR.out]), rfl⟩
end Go.Proofs.YtddddlhgaeameaaGreatDoor
