import Derived.Test.YtdpmfdcackoegaaGreatDoorZ23
import Derived.Test.YtdpmfdcackoegaaGreatDoorZ41
import Derived.Test.YtdpmfdcackoegaaGreatDoorZ42
import Derived.Test.YtdpmfdcackoegaaGreatDoorZ45
import Derived.Test.YtdpmfdcackoegaaGreatDoorZ48
/-
 A drawn region in which some operations (allocs) may come anywhere beside a chain of calls: what holds is said by what is left to do.
-/
namespace Go.Proofs.YtdpmfdcackoegaaGreatDoor
open Go.RowKit
section
variable {P : Program} {ops : Array Oper} {Q : Exit → Act → World → Prop} {md : Region.Mode} {S : World → Prop} {J : List Nat}
/-- What is left: the calls C, in their order, and D, which may come anywhere. -/
def latOk (md : Region.Mode) (ops : Array Oper) (fin : Array Bool) : Nat → List Nat → List Nat → Array Bool → Bool
 | 0, C, D, listed => C.isEmpty && D.isEmpty && listed == fin
 | n + 1, C, D, listed => !(Region.ready md ops listed).isEmpty && (Region.ready md ops listed).all (fun i => C.head? == some i || D.contains i) &&
   (match C with | c :: cs => latOk md ops fin n cs D (listed.setIfInBounds c true) | [] => true) && D.all (fun i => latOk md ops fin n C (D.erase i) (listed.setIfInBounds i true))
theorem wpAnyJ_lat {Φ : List Nat → List Nat → Act → World → Prop} {m : Nat} {fin : Array Bool}
  (hc : ∀ c cs D a w, Φ (c :: cs) D a w → wpOp P ops Q c (fun a' w' => (J.contains c = false → S w') ∧ Φ cs D a' w') a w)
  (hd : ∀ C D i a w, i ∈ D → Φ C D a w → wpOp P ops Q i (fun a' w' => (J.contains i = false → S w') ∧ Φ C (D.erase i) a' w') a w)
  (he : ∀ a w, Φ [] [] a w → wpAnyJ P md ops Q S J m fin a w) :
  ∀ (n : Nat) (C D : List Nat) (listed : Array Bool) (a : Act) (w : World), latOk md ops fin n C D listed = true → Φ C D a w → wpAnyJ P md ops Q S J (n + m) listed a w
 | 0, C, D, listed, a, w, hk, h => by
  simp only [latOk, Bool.and_eq_true, List.isEmpty_iff, beq_iff_eq] at hk
  obtain ⟨⟨rfl, rfl⟩, rfl⟩ := hk
  rw [Nat.zero_add]
  exact he a w h
 | n + 1, C, D, listed, a, w, hk, h => by
  simp only [latOk, Bool.and_eq_true] at hk
  obtain ⟨⟨⟨h1, h2⟩, h3⟩, h4⟩ := hk
  rw [Nat.add_right_comm]
  refine ⟨fun h0 => (by rw [h0] at h1; cases h1), fun j hj => ?_⟩
  have h5 := List.all_eq_true.1 h2 j hj
  rw [Bool.or_eq_true] at h5
  rcases h5 with h5 | h5
  ·rcases C with _ | ⟨c, cs⟩
   ·cases h5
   ·simp only [List.head?_cons, beq_iff_eq, Option.some.injEq] at h5
    subst h5
    exact wpOp_mono (fun a' w' h' => ⟨h'.1, wpAnyJ_lat hc hd he n cs D _ a' w' h3 h'.2⟩) (hc _ _ _ _ _ h)
  ·have hj' : j ∈ D := by simpa using h5
   exact wpOp_mono (fun a' w' h' => ⟨h'.1, wpAnyJ_lat hc hd he n C (D.erase j) _ a' w' (List.all_eq_true.1 h4 j hj') h'.2⟩) (hd _ _ _ _ _ hj' h)
def chkPre (md : Region.Mode) (ops : Array Oper) (J : List Nat) (fin : Array Bool) : List (Nat × Bool) → Array Bool → Bool
 | [], listed => listed == fin
 | (i, true) :: r, listed => Region.free md ops listed i && (Region.ready md ops listed).contains i && closedB md ops listed && J.all (ancB md ops i ops.size) && chkPre md ops J fin r (listed.setIfInBounds i true)
 | (_, false) :: _, _ => false
/-- What comes behind the operations that are taken first. -/
def QR (Q : Exit → Act → World → Prop) (R : Act → World → Prop) : Exit → Act → World → Prop := fun ex a w => match ex with
 | .normal => R a w
 | ex => Q ex a w
theorem wpAnyJ_of_pre {R : Act → World → Prop} {m : Nat} {fin : Array Bool} (hs : Region.noSelect ops = true) (hQ : ∀ c a d v w, Q (.panic c) (a.put (some d) v) w → Q (.panic c) a w) (hR : ∀ a w, R a w → wpAnyJ P md ops Q S J m fin a w) :
  ∀ (tk : List (Nat × Bool)) (listed : Array Bool) (a : Act) (w : World), chkPre md ops J fin tk listed = true → wpOrd' P ops (QR Q R) S J tk a w → wpAnyJ P md ops Q S J (tk.length + m) listed a w
 | [], listed, a, w, hc, h => by
  have : listed = fin := by simpa [chkPre] using hc
  subst this
  rw [List.length_nil, Nat.zero_add]
  exact hR a w h
 | (i, true) :: r, listed, a, w, hc, h => by
  simp only [chkPre, Bool.and_eq_true] at hc
  obtain ⟨⟨⟨⟨h1, h2⟩, h3⟩, h4⟩, h5⟩ := hc
  obtain ⟨hS, oi, v, hoi, hy, hr⟩ := h
  rw [List.length_cons, Nat.add_right_comm]
  exact wpAnyJ_take hoi rfl hs h1 h2 h3 h4 (fun c a w q => by cases hd : oi.dst with | none => rw [hd] at q; exact q | some d => rw [hd] at q; exact hQ c a d v w q) hy hS (wpAnyJ_of_pre hs hQ hR r _ _ _ h5 hr)
 | (_, false) :: _, _, _, _, hc, _ => by cases hc
def latReg (P : Program) (ops : Array Oper) (J : List Nat) (pre : List (Nat × Bool)) (C D : List Nat) (post : List (Nat × Bool)) (f0 f1 : Array Bool) : Bool :=
 P.follows .mixedOrders && Region.noSelect ops && pre.length + ((C.length + D.length) + post.length) == ops.size && chkPre .any ops J f0 pre (Array.replicate ops.size false) && latOk .any ops f1 (C.length + D.length) C D f0 && chkOrd .any ops J post f1
/-- The region: the operations 'pre' are taken first; then the calls C in their order and D anywhere; then 'post'. -/
theorem wp_region_lat {id : Nat} {a : Act} {w : World} {base : List (Nat × Value)} {n : Nat} (pre post : List (Nat × Bool)) (C D : List Nat) (f0 f1 : Array Bool) (hk : latReg P ops J pre C D post f0 f1 = true) (hn : a.tmps.size = n) (hb : BaseOk a base) (hS : S w.drew) (hq : ∀ c a d v w, Q (.panic c) (a.put (some d) v) w → Q (.panic c) a w)
  (h : ∀ (Q2 : Exit → Act → World → Prop) (A : Act), A.tmps.size = n → BaseOk A base → Hid (∀ L w', Q .normal (puts a L) w' → Q2 .normal (puts A L) w') → S w.drew →
   ∃ Φ : List Nat → List Nat → Act → World → Prop, wpOrd P ops (QR Q2 (Φ C D)) S J pre (puts A []) w.drew ∧
    (∀ c cs D a w, Φ (c :: cs) D a w → wpOp P ops Q2 c (fun a' w' => (J.contains c = false → S w') ∧ Φ cs D a' w') a w) ∧
    (∀ C D i a w, i ∈ D → Φ C D a w → wpOp P ops Q2 i (fun a' w' => (J.contains i = false → S w') ∧ Φ C (D.erase i) a' w') a w) ∧
    (∀ a w, Φ [] [] a w → wpOrd P ops Q2 S J post a w)) : (Code.region id ops true).wp P Q a w := by
 simp only [latReg, Bool.and_eq_true, beq_iff_eq] at hk
 obtain ⟨⟨⟨⟨⟨h1, h2⟩, h3⟩, h4⟩, h5⟩, h6⟩ := hk
 refine wp_region_J (J := J) h1 hS (fun hS => ?_)
 obtain ⟨Φ, k1, k2, k3, k4⟩ := h Q a hn hb (fun L w' h => h) hS
 have e : ∀ a w, Φ [] [] a w → wpAnyJ P .any ops Q S J post.length f1 a w := fun a w hΦ => by
  have := wpAnyJ_of_ord (P := P) h2 hq post 0 _ _ _ h6 (k4 a w hΦ).out
  rwa [Nat.add_zero] at this
 have l : ∀ a w, Φ C D a w → wpAnyJ P .any ops Q S J ((C.length + D.length) + post.length) f0 a w := fun a w hΦ => wpAnyJ_lat k2 k3 e _ C D f0 a w h5 hΦ
 have := wpAnyJ_of_pre (P := P) h2 hq l pre _ _ _ h4 k1.out
 rw [h3] at this
 exact this
/-- The end of the operations that are taken first. -/
theorem lat_pre {R : Act → World → Prop} {a : Act} {w : World} (h : R a w) : wpOrd P ops (QR Q R) S J [] a w := ⟨h⟩
section
variable {A : Act} {L : List (Nat × Value)} {w : World} {n i d : Nat} {oi : Oper} {v : Value} {R : Act → World → Prop}
theorem lat_call {f : FuncId} {xs : Array Operand} {ats : Array TypeId} {vs : Array Value} (hi : ops[i]? = some oi) (hd : oi.dst = some d) (ho : oi.op = .call { callee := .value (.func f), args := xs, argTypes := ats }) (hg : oi.guard = none)
  (hx : ∀ ρ : Operand → Value, Rd A L ρ → xs.map ρ = vs) (hf : ∀ w, (callFunc f vs).run P w = .ok (.enter f vs) w)
  (h : Calls P f vs w (fun e w' => ∃ v, e = .returned v ∧ R (puts A ((d, v) :: L)) w')) : wpOp P ops Q i R (puts A L) w := by
 simp only [wpOp, hi, wanted_none hg, if_true]
 refine .inl ?_
 have he : (execOp (puts A L).eval oi).run P w = .ok (.enter f vs) w := by
  have := hf w
  rw [← hx _ rfl] at this ⊢
  unfold execOp
  rw [ho]
  rw [← this]
  have e0 : (#[] ++ xs.map (puts A L).eval ++ #[] : Array Value) = xs.map (puts A L).eval := by simp
  conv => rhs; rw [← e0]
  rfl
 rw [Oper.wp, he, Oper.upon_enter]
 refine h.mono ?_
 rintro e w' ⟨v, rfl, h1⟩
 simp only [hd]
 exact h1
theorem lat_run {w' : World} (hi : ops[i]? = some oi) (hd : oi.dst = some d) (hg : oi.guard = none)
  (hv : ∀ ρ : Operand → Value, Rd A L ρ → (execOp ρ oi).run P w = .ok (.value v) w') (h : R (puts A ((d, v) :: L)) w') : wpOp P ops Q i R (puts A L) w := by
 simp only [wpOp, hi, wanted_none hg, if_true]
 refine .inl ?_
 rw [Oper.wp, hv _ rfl, Oper.upon_value, hd]
 exact h
/-- A store. -/
theorem ord_store {w' : World} {r : List (Nat × Bool)} (hi : ops[i]? = some oi) (hd : oi.dst = none) (hw : Region.wanted oi (yielded ops (puts A L).tmps) = true)
  (hv : ∀ ρ : Operand → Value, Rd A L ρ → (execOp ρ oi).run P w = .ok .skip w') (hS : J.contains i = false → S w') (h : wpOrd P ops Q S J r (puts A L) w') : wpOrd P ops Q S J ((i, false) :: r) (puts A L) w := by
 refine ⟨?_⟩
 simp only [wpOrd', wpOp, hi, hw, if_true]
 refine .inl ?_
 rw [Oper.wp, hv _ rfl, Oper.upon_skip, hd]
 exact ⟨hS, h.out⟩
/-- An entry that may be there. -/
def optE (b : Bool) (k : Nat) (v : Value) : List (Nat × Value) := if b = true then [(k, v)] else []
theorem miss_opt {b : Bool} {n k : Nat} {u v d : Value} {L : List (Nat × Value)} (h : Nat.beq n k = false) (r : lkp L n d = u) : lkp (optE b k v ++ L) n d = u := by
 cases b
 ·exact r
 ·exact miss1 h r
theorem hit_opt {k : Nat} {v d : Value} {L : List (Nat × Value)} : lkp (optE true k v ++ L) k d = v := lkp_hit
theorem put_comm (a : Act) {k1 k2 : Nat} (h : k1 ≠ k2) (v1 v2 : Value) : (a.put (some k1) v1).put (some k2) v2 = (a.put (some k2) v2).put (some k1) v1 := by
 simp only [Act.put]
 rw [Array.setIfInBounds_comm _ _ h]
theorem puts_swap (A : Act) (L : List (Nat × Value)) {k1 k2 : Nat} (h : k1 ≠ k2) (v1 v2 : Value) : puts A ((k1, v1) :: (k2, v2) :: L) = puts A ((k2, v2) :: (k1, v1) :: L) := by
 simp only [puts]
 exact put_comm _ (Ne.symm h) _ _
theorem puts_cong (A : Act) {L L' : List (Nat × Value)} (h : puts A L = puts A L') (k : Nat) (v : Value) : puts A ((k, v) :: L) = puts A ((k, v) :: L') := by
 simp only [puts, h]
theorem puts_opt (A : Act) (L : List (Nat × Value)) {k1 k2 : Nat} (h : k1 ≠ k2) (b : Bool) (v1 v2 : Value) : puts A ((k1, v1) :: (optE b k2 v2 ++ L)) = puts A (optE b k2 v2 ++ ((k1, v1) :: L)) := by
 cases b
 ·rfl
 ·exact puts_swap A L h v1 v2
theorem puts_optc (A : Act) {L L' : List (Nat × Value)} (h : puts A L = puts A L') (b : Bool) (k : Nat) (v : Value) : puts A (optE b k v ++ L) = puts A (optE b k v ++ L') := by
 cases b
 ·exact h
 ·exact puts_cong A h k v
end
theorem lat_push (A : Act) {d d7 d8 : Nat} {v v7 v8 : Value} {b7 b8 : Bool} {Y : List (Nat × Value)} (h7 : d ≠ d7) (h8 : d ≠ d8) : puts A ((d, v) :: (optE b8 d8 v8 ++ (optE b7 d7 v7 ++ Y))) = puts A (optE b8 d8 v8 ++ (optE b7 d7 v7 ++ ((d, v) :: Y))) :=
 (puts_opt A _ h8 b8 v v8).trans (puts_optc A (puts_opt A Y h7 b7 v v7) b8 d8 v8)
def ptr (x : Nat) : Value := .pointer (some ⟨x, 0, none⟩)
/-- Two blocks that may have been laid. -/
structure LatMem (H : Nat) (T7 T8 : TypeId) (z7 z8 : Array Value) (b7 b8 : Bool) (x7 x8 : Nat) (w : World) : Prop where
 le : H ≤ w.heap.size
 m7 : b7 = true → Blk w x7 T7 z7 ∧ H ≤ x7
 m8 : b8 = true → Blk w x8 T8 z8 ∧ H ≤ x8
 ne : b7 = true → b8 = true → x7 ≠ x8
section
variable {H x7 x8 g : Nat} {T7 T8 : TypeId} {z7 z8 : Array Value} {b7 b8 : Bool} {w w' : World}
theorem LatMem.later (h : LatMem H T7 T8 z7 z8 b7 b8 x7 x8 w) (hb : Below w.heap.size w w') : LatMem H T7 T8 z7 z8 b7 b8 x7 x8 w' :=
 ⟨Nat.le_trans h.le hb.size, fun e => ⟨(h.m7 e).1.below hb (h.m7 e).1.lt, (h.m7 e).2⟩, fun e => ⟨(h.m8 e).1.below hb (h.m8 e).1.lt, (h.m8 e).2⟩, h.ne⟩
theorem LatMem.grown (h : LatMem H T7 T8 z7 z8 b7 b8 x7 x8 w) (hg : w.grownBy w' (some g)) (hl : g < H) : LatMem H T7 T8 z7 z8 b7 b8 x7 x8 w' :=
 ⟨Nat.le_trans h.le hg.size, fun e => ⟨(h.m7 e).1.grown hg (fun e2 => by have := (h.m7 e).2; injection e2 with e2; omega), (h.m7 e).2⟩, fun e => ⟨(h.m8 e).1.grown hg (fun e2 => by have := (h.m8 e).2; injection e2 with e2; omega), (h.m8 e).2⟩, h.ne⟩
theorem LatMem.start (w : World) (x7 x8 : Nat) : LatMem w.heap.size T7 T8 z7 z8 false false x7 x8 w := ⟨Nat.le_refl _, fun e => (by cases e), fun e => (by cases e), fun e => (by cases e)⟩
theorem LatMem.one7 (h : LatMem H T7 T8 z7 z8 b7 b8 x7 x8 w) : LatMem H T7 T8 z7 z8 true b8 w.heap.size x8 (w.alloc (.cells z7 T7)) :=
 ⟨by have := h.le; simp; omega, fun _ => ⟨Blk.new _ _ _, h.le⟩, fun e => ⟨(h.m8 e).1.alloc _, (h.m8 e).2⟩, fun _ e => by have := (h.m8 e).1.lt; omega⟩
theorem LatMem.one8 (h : LatMem H T7 T8 z7 z8 b7 b8 x7 x8 w) : LatMem H T7 T8 z7 z8 b7 true x7 w.heap.size (w.alloc (.cells z8 T8)) :=
 ⟨by have := h.le; simp; omega, fun e => ⟨(h.m7 e).1.alloc _, (h.m7 e).2⟩, fun _ => ⟨Blk.new _ _ _, h.le⟩, fun e _ => by have := (h.m7 e).1.lt; omega⟩
end
def ents : List (Nat × Nat) → List Value → List (Nat × Value)
 | c :: cs, v :: vs => ents cs vs ++ [(c.2, v)]
 | _, _ => []
/-- The frame and the memory at a point of the region: vs: what the calls so far gave. -/
def LatP (A : Act) (L0 : List (Nat × Value)) (i7 i8 d7 d8 H : Nat) (T7 T8 : TypeId) (z7 z8 : Array Value) (Cs : List (Nat × Nat)) (F : List Value → World → Prop) (C D : List Nat) (a : Act) (w : World) : Prop :=
 ∃ (vs : List Value) (x7 x8 : Nat), C = (Cs.drop vs.length).map (·.1) ∧ D.Nodup ∧ (∀ i ∈ D, i = i7 ∨ i = i8) ∧ a = puts A (optE (!D.contains i8) d8 (ptr x8) ++ (optE (!D.contains i7) d7 (ptr x7) ++ (ents Cs vs ++ L0))) ∧ F vs w ∧ LatMem H T7 T8 z7 z8 (!D.contains i7) (!D.contains i8) x7 x8 w
section
variable {A : Act} {L0 : List (Nat × Value)} {i7 i8 d7 d8 H n : Nat} {T7 T8 : TypeId} {z7 z8 : Array Value} {Cs : List (Nat × Nat)} {F : List Value → World → Prop} {C D : List Nat} {a : Act} {w : World} {o7 o8 : Oper}
theorem erase_self {D : List Nat} (h : D.Nodup) (i : Nat) : (D.erase i).contains i = false := by
 rw [← Bool.not_eq_true, List.contains_iff_mem]; exact h.not_mem_erase
theorem erase_other {D : List Nat} {i j : Nat} (h : j ≠ i) : (D.erase i).contains j = D.contains j := by
 rw [Bool.eq_iff_iff, List.contains_iff_mem, List.contains_iff_mem, List.mem_erase_of_ne h]
theorem LatP.alloc (hF : ∀ vs w o, F vs w → F vs (w.alloc o)) (h78 : i7 ≠ i8) (hd : d7 ≠ d8) (h7 : ops[i7]? = some o7) (h8 : ops[i8]? = some o8) (hd7 : o7.dst = some d7) (hd8 : o8.dst = some d8) (hg7 : o7.guard = none) (hg8 : o8.guard = none)
  (hr7 : ∀ ρ : Operand → Value, ∀ w, (execOp ρ o7).run P w = .ok (.value (ptr w.heap.size)) (w.alloc (.cells z7 T7))) (hr8 : ∀ ρ : Operand → Value, ∀ w, (execOp ρ o8).run P w = .ok (.value (ptr w.heap.size)) (w.alloc (.cells z8 T8)))
  (i : Nat) (hi : i ∈ D) (h : LatP A L0 i7 i8 d7 d8 H T7 T8 z7 z8 Cs F C D a w) : wpOp P ops Q i (fun a' w' => LatP A L0 i7 i8 d7 d8 H T7 T8 z7 z8 Cs F C (D.erase i) a' w') a w := by
 obtain ⟨vs, x7, x8, hC, hn, hD, rfl, hf, hm⟩ := h
 have hc : D.contains i = true := by rw [List.contains_iff_mem]; exact hi
 rcases hD i hi with rfl | rfl
 ·refine lat_run h7 hd7 hg7 (fun ρ _ => hr7 ρ w) ?_
  refine ⟨vs, w.heap.size, x8, hC, hn.erase _, fun j hj => hD j (List.mem_of_mem_erase hj), ?_, hF _ _ _ hf, ?_⟩
  ·rw [erase_self hn, erase_other (Ne.symm h78), hc]
   exact puts_opt A _ hd _ _ _
  ·rw [erase_self hn, erase_other (Ne.symm h78)]
   exact hm.one7
 ·refine lat_run h8 hd8 hg8 (fun ρ _ => hr8 ρ w) ?_
  refine ⟨vs, x7, w.heap.size, hC, hn.erase _, fun j hj => hD j (List.mem_of_mem_erase hj), ?_, hF _ _ _ hf, ?_⟩
  ·rw [erase_self hn, erase_other h78, hc]
   rfl
  ·rw [erase_self hn, erase_other h78]
   exact hm.one8
end
end
end Go.Proofs.YtdpmfdcackoegaaGreatDoor
/-
 HazardGround: what a ground changes.
-/
namespace Go.Proofs.YtdpmfdcackoegaaGreatDoor
open Go.RowKit
section
variable {nn : Nat} {ns : List Nd} {ds : List Dv} {s : List Int} {d : Nat} {p co co2 : Int} {ls ls2 : List Lk} {pr pr2 : List Int} {x : Dv} {h : Int}
theorem grd_same (h4 : h ≠ 4) (h5 : h ≠ 5) (h6 : h ≠ 6) : hasB (hzAt nn ns ds s d p co ls pr x) h = hasB (hzAt nn ns ds s d p co2 ls2 pr2 x) h := by
 rw [Bool.eq_iff_iff, hasB_iff, hasB_iff]
 unfold hzAt
 by_cases e : s.getD d 0 = p
 ·rw [if_pos e, if_pos e, hzL_mem, hzL_mem]
  simp only [h4, h5, h6, false_and, false_or]
 ·rw [if_neg e, if_neg e, hzL_mem, hzL_mem]
  simp only [h4, h5, h6, false_and, false_or]
theorem grd_lock : hasB (hzAt nn ns ds s d p co ls pr x) 4 = lockB ls d := by
 rw [Bool.eq_iff_iff, hasB_iff]
 unfold hzAt
 by_cases e : s.getD d 0 = p
 ·rw [if_pos e, hzL_mem]; simp
 ·rw [if_neg e, hzL_mem]; simp
theorem grd_foreign : hasB (hzAt nn ns ds s d p co ls pr x) 6 = (x.comp != co) := by
 rw [Bool.eq_iff_iff, hasB_iff]
 unfold hzAt
 by_cases e : s.getD d 0 = p
 ·rw [if_pos e, hzL_mem]; simp
 ·rw [if_neg e, hzL_mem]; simp
/-- An earth that is closed at a node that was not proved. -/
def unpB (kd p sd : Int) (pr : List Int) (a : Int) : Bool := (kd == 4) && (p == 2) && (sd == 1) && !hasB pr a
theorem grd_unproved {sd : Int} (hs : s[d]? = some sd) (hsd : sd = 1 ∨ sd = 2) : hasB (hzAt nn ns ds s d p co ls pr x) 5 = unpB x.kind p sd pr x.a := by
 have hg : s.getD d 0 = sd := by rw [List.getD_eq_getElem?_getD, hs]; rfl
 rw [Bool.eq_iff_iff, hasB_iff]
 unfold hzAt unpB
 rw [hg]
 by_cases e : sd = p
 ·rw [if_pos e, hzL_mem]
  simp
  intro _ h2 h3
  omega
 ·rw [if_neg e, hzL_mem]
  simp
  intro _
  constructor
  ·rintro ⟨h1, h2⟩
   exact ⟨⟨h2, h1⟩, by omega⟩
  ·rintro ⟨⟨h1, h2⟩, _⟩
   exact ⟨h2, h1⟩
end
theorem stateErr_zero {ns : List Nd} {ds : List Dv} {s : List Int} (hc : checkN ns ds = 0) (hl : s.length = ds.length) (hp : ∀ p ∈ s, posB p = true) : stateErr ns ds s = 0 := by
 unfold stateErr; rw [if_neg (by simp [hc]), if_neg (by omega), if_pos hp]
theorem hzErr_zero {nd : Nat} {d p co : Int} (h0 : 0 ≤ d) (h1 : d < nd) (hp : p = 1 ∨ p = 2) (h2 : 0 ≤ co) (h3 : co ≤ 7) : hzErr nd d p co = 0 := by
 unfold hzErr
 rw [if_neg (by omega), if_neg (by omega), if_neg (by omega), if_neg (by omega), if_neg (by omega)]
theorem run_store_gr (ρ : Operand → Value) (o : Oper) (x y : Operand) (w0 : World) (x7 : Nat) (co : Int) (Ag Ap : Option Addr) (mg cg np cp : Nat) (ho : o.op = .store 51 x y) (e7 : ρ x = .pointer (some ⟨x7, 0, none⟩)) (e39 : ρ y = .agg #[.int .i64 co, .slice Ag mg cg, .slice Ap np cp])
  (h : Blk w0 x7 51 #[.int .i64 0, .slice none 0 0, .slice none 0 0]) :
  (execOp ρ o).run Tryz.prog w0 = .ok .skip (((w0.setCell ⟨x7, 0, none⟩ (.int .i64 co)).setCell ⟨x7, 1, none⟩ (.slice Ag mg cg)).setCell ⟨x7, 2, none⟩ (.slice Ap np cp)) := by
 have a0 : w0.cell? ⟨x7, 0, none⟩ = some (.int .i64 0) := h.cell 0
 have a1 : w0.cell? ⟨x7, 1, none⟩ = some (.slice none 0 0) := h.cell 1
 have a2 : w0.cell? ⟨x7, 2, none⟩ = some (.slice none 0 0) := h.cell 2
 have a3 := h.frozen 0; have a4 := h.frozen 1; have a5 := h.frozen 2
 clear h
 unfold execOp
 rw [ho]
 simp only [e7, e39]
 go_simp
theorem own_ne_blk {w : World} {base size n c x : Nat} {e T : TypeId} {A : Option Addr} {xs : List Value} {cs : Array Value} (h : w.ownsRow base e size (.slice A n c) n xs) (hb : Blk w x T cs) (hne : e ≠ T) : ∀ b, (Value.slice A n c).ownBlock = some b → b ≠ x := by
 intro b hv hbx
 subst hbx
 rcases h.2 with ⟨h0, _⟩ | ⟨g, cap, cur, h0, _, hh, _⟩
 ·injection h0 with h1; subst h1; cases hv
 ·injection h0 with h1; subst h1
  have : g = b := by injection hv
  subst this
  unfold Blk at hb
  rw [hh] at hb
  injection hb with hb
  injection hb with _ hb
  exact hne hb
def GrB (W : World) (g : Nat) (W' : World) : Prop := DeckAt W' g ∧ W.grownBy W' (some g)
/-- What the calls gave: the locks, the ground with locks, the ground without. -/
def GrF (W : World) (g : Nat) : List Value → World → Prop
 | [], W' => GrB W g W'
 | [v1], W' => GrB W g W' ∧ ∃ (Ag : Option Addr) (mg cg : Nat) (ls : List Lk), v1 = .slice Ag mg cg ∧ LocksO W' W.heap.size Ag mg cg ls
 | [v1, v2], W' => GrB W g W' ∧ ∃ (Ag : Option Addr) (mg cg : Nat) (ls : List Lk) (co : Int) (Ap : Option Addr) (np cp : Nat) (pr : List Int), v1 = .slice Ag mg cg ∧ v2 = .agg #[.int .i64 co, .slice Ag mg cg, .slice Ap np cp] ∧ (0 ≤ co ∧ co ≤ 7) ∧ LocksO W' W.heap.size Ag mg cg ls ∧ IntsO W' W.heap.size Ap np cp pr
 | [v1, v2, v3], W' => GrB W g W' ∧ ∃ (Ag : Option Addr) (mg cg : Nat) (ls : List Lk) (co : Int) (Ap : Option Addr) (np cp : Nat) (pr : List Int) (co2 : Int) (Ap2 : Option Addr) (np2 cp2 : Nat) (pr2 : List Int), v1 = .slice Ag mg cg ∧ v2 = .agg #[.int .i64 co, .slice Ag mg cg, .slice Ap np cp] ∧ v3 = .agg #[.int .i64 co2, .slice none 0 0, .slice Ap2 np2 cp2] ∧ ((0 ≤ co ∧ co ≤ 7) ∧ 0 ≤ co2 ∧ co2 ≤ 7) ∧ LocksO W' W.heap.size Ag mg cg ls ∧ IntsO W' W.heap.size Ap np cp pr ∧ IntsO W' W.heap.size Ap2 np2 cp2 pr2
 | _, _ => False
theorem GrB.alloc {W W' : World} {g : Nat} (h : GrB W g W') (o : Obj) : GrB W g (W'.alloc o) := ⟨h.1.alloc o, grown_trans h.2 (grown_of_below ((Below.refl _ _).alloc (Nat.le_refl _) o) _)⟩
theorem GrF.base {W W' : World} {g : Nat} : ∀ {vs : List Value}, GrF W g vs W' → GrB W g W'
 | [], h => h
 | [_], h => h.1
 | [_, _], h => h.1
 | [_, _, _], h => h.1
 | _ :: _ :: _ :: _ :: _, h => h.elim
theorem GrF.alloc {W W' : World} {g : Nat} : ∀ {vs : List Value} (o : Obj), GrF W g vs W' → GrF W g vs (W'.alloc o)
 | [], o, h => GrB.alloc h o
 | [_], o, ⟨h, Ag, mg, cg, ls, e, h1⟩ => ⟨h.alloc o, Ag, mg, cg, ls, e, World.ownsRow.alloc h1 o⟩
 | [_, _], o, ⟨h, Ag, mg, cg, ls, co, Ap, np, cp, pr, e1, e2, hc, h1, h2⟩ => ⟨h.alloc o, Ag, mg, cg, ls, co, Ap, np, cp, pr, e1, e2, hc, World.ownsRow.alloc h1 o, World.ownsRow.alloc h2 o⟩
 | [_, _, _], o, ⟨h, Ag, mg, cg, ls, co, Ap, np, cp, pr, co2, Ap2, np2, cp2, pr2, e1, e2, e3, hc, h1, h2, h3⟩ => ⟨h.alloc o, Ag, mg, cg, ls, co, Ap, np, cp, pr, co2, Ap2, np2, cp2, pr2, e1, e2, e3, hc, World.ownsRow.alloc h1 o, World.ownsRow.alloc h2 o, World.ownsRow.alloc h3 o⟩
 | _ :: _ :: _ :: _ :: _, _, h => h.elim
def GrR1 (w1 : World) (n gk : Nat) (iv : Value) (wr : World) : Prop := ∃ i : Nat, iv = .int .i64 i ∧ 1 ≤ i ∧ i ≤ n ∧ gk = n - i ∧ wr = w1
def GrR2 (M : World → Prop) (ls : List Lk) (d : Nat) (n gk : Nat) (bv iv : Value) (wr : World) : Prop := ∃ (i : Nat) (acc : Bool), iv = .int .i64 i ∧ bv = .bool acc ∧ i ≤ n ∧ gk = n - i ∧ acc = lockB (ls.take i) d ∧ Hid (M wr)
def set3 (w : World) (x : Nat) (u0 u1 u2 : Value) : World := ((w.setCell ⟨x, 0, none⟩ u0).setCell ⟨x, 1, none⟩ u1).setCell ⟨x, 2, none⟩ u2
/-- The grounds are laid into their boxes. -/
structure GrX (W : World) (g x7 x8 : Nat) (Ag : Option Addr) (mg cg : Nat) (ls : List Lk) (co : Int) (Ap : Option Addr) (np cp : Nat) (pr : List Int) (co2 : Int) (Ap2 : Option Addr) (np2 cp2 : Nat) (pr2 : List Int) (W' : World) : Prop where
 b : GrB W g W'
 b7 : Blk W' x7 51 #[.int .i64 co, .slice Ag mg cg, .slice Ap np cp]
 b8 : Blk W' x8 51 #[.int .i64 co2, .slice none 0 0, .slice Ap2 np2 cp2]
 hl : LocksO W' W.heap.size Ag mg cg ls
 hp : IntsO W' W.heap.size Ap np cp pr
 hp2 : IntsO W' W.heap.size Ap2 np2 cp2 pr2
theorem GrB.set {W W' : World} {g x : Nat} (h : GrB W g W') (hg : g < W.heap.size) (hx : W.heap.size ≤ x) (i : Nat) (u : Value) : GrB W g (W'.setCell ⟨x, i, none⟩ u) :=
 ⟨h.1.setCell (by simp only; omega) u, grown_set h.2 (by simp only; omega) u⟩
theorem own_set {w : World} {base size n c x : Nat} {e : TypeId} {A : Option Addr} {xs : List Value} (h : w.ownsRow base e size (.slice A n c) n xs) (hne : ∀ b, (Value.slice A n c).ownBlock = some b → b ≠ x) (i : Nat) (u : Value) : (w.setCell ⟨x, i, none⟩ u).ownsRow base e size (.slice A n c) n xs :=
 h.kept (grown_cell _ _ _) (ne_row hne)
theorem GrX.of {W W' : World} {g x7 x8 mg cg np cp np2 cp2 : Nat} {Ag Ap Ap2 : Option Addr} {ls : List Lk} {pr pr2 : List Int} (hB : GrB W g W') (h7 : Blk W' x7 51 #[.int .i64 0, .slice none 0 0, .slice none 0 0]) (h8 : Blk W' x8 51 #[.int .i64 0, .slice none 0 0, .slice none 0 0]) (hne : x7 ≠ x8) (hx7 : W.heap.size ≤ x7) (hx8 : W.heap.size ≤ x8) (hg : g < W.heap.size)
  (hO : LocksO W' W.heap.size Ag mg cg ls) (hO2 : IntsO W' W.heap.size Ap np cp pr) (hO3 : IntsO W' W.heap.size Ap2 np2 cp2 pr2) (co co2 : Int) : GrX W g x7 x8 Ag mg cg ls co Ap np cp pr co2 Ap2 np2 cp2 pr2 (set3 (set3 W' x7 (.int .i64 co) (.slice Ag mg cg) (.slice Ap np cp)) x8 (.int .i64 co2) (.slice none 0 0) (.slice Ap2 np2 cp2)) := by
 have n7 := own_ne_blk hO h7 (by decide); have n8 := own_ne_blk hO h8 (by decide)
 have p7 := own_ne_blk hO2 h7 (by decide); have p8 := own_ne_blk hO2 h8 (by decide)
 have q7 := own_ne_blk hO3 h7 (by decide); have q8 := own_ne_blk hO3 h8 (by decide)
 unfold set3
 refine ⟨((((((hB.set hg hx7 _ _).set hg hx7 _ _).set hg hx7 _ _).set hg hx8 _ _).set hg hx8 _ _).set hg hx8 _ _), ?_, ?_, ?_, ?_, ?_⟩
 ·exact ((((((h7.set 0 _).set 1 _).set 2 _).far (p := ⟨x8, 0, none⟩) hne _).far (p := ⟨x8, 1, none⟩) hne _).far (p := ⟨x8, 2, none⟩) hne _)
 ·exact ((((((h8.far (p := ⟨x7, 0, none⟩) (Ne.symm hne) _).far (p := ⟨x7, 1, none⟩) (Ne.symm hne) _).far (p := ⟨x7, 2, none⟩) (Ne.symm hne) _).set 0 _).set 1 _).set 2 _)
 ·exact own_set (own_set (own_set (own_set (own_set (own_set hO n7 _ _) n7 _ _) n7 _ _) n8 _ _) n8 _ _) n8 _ _
 ·exact own_set (own_set (own_set (own_set (own_set (own_set hO2 p7 _ _) p7 _ _) p7 _ _) p8 _ _) p8 _ _) p8 _ _
 ·exact own_set (own_set (own_set (own_set (own_set (own_set hO3 q7 _ _) q7 _ _) q7 _ _) q8 _ _) q8 _ _) q8 _ _
set_option maxRecDepth 100000 in
set_option maxHeartbeats 8000000 in
theorem walk_HazardGround (w : World) (hl : Laid w) (A : Option Addr) (n c : Nat) (zs : List Int) (hs : Sl w w.heap.size 1 A n c (intsV zs)) (_hz : ∀ z ∈ zs, (Lit.int .i64 z).wf = true) :
  Calls Tryz.prog 5 #[.slice A n c] w fun e w' => e = .returned (.bool true) ∧ Below w.heap.size w w' := by
 have hnm := hs.le
 have HL := Lib.hid hl; have HS := Lib.hid hs
 clear hl hs _hz
 have HF := Lib.hid (few_any A n c w (by omega))
 rcases hf : decide (n ≤ 400) with _ | _
 ·rw [hf] at HF
  clear hf
  go_enter Tryz.func5, Tryz.ntmps5
  go_wp2_with fail
  refine HF.out.mono ?_
  rintro e w1 ⟨rfl, rfl⟩
  go_wp2_with fail
  refine (awake_any w HL.out).mono ?_
  rintro e w1 ⟨rfl, hb⟩
  go_wp2_with fail
  go_ret
  exact ⟨rfl, hb⟩
 rw [hf] at HF
 clear hf
 go_enter Tryz.func5, Tryz.ntmps5
 go_wp2_with fail
 refine HF.out.mono ?_
 rintro e w1 ⟨rfl, rfl⟩
 go_wp2_with fail
 refine (new_any A n c w.heap.size zs w HS.out (Nat.le_refl _)).mono ?_
 rintro e w1 ⟨rfl, hd1, hb1, hs1⟩
 go_wp2_with fail
 refine (mknet_any w.heap.size 6 9 w1 hd1.out (by decide) (by decide)).mono ?_
 rintro e w2 ⟨An, nn, cn, ns, Ad, nd, cd, ds, rfl, hd2, hg2, hrn, hrd, hmade⟩
 have HMK := LwN.mk0 HL.out hb1.out hs1.out hd2.out hg2.out hrn.out hrd.out hmade.out
 have HNN := Lib.hid HMK.2.1; have HND := Lib.hid HMK.2.2
 have HN3 := Lib.hid HMK.1
 have HMA := Lib.hid hmade.out
 have hnd : nd ≤ 9 := by have := hmade.out.dm; rw [HND.out] at this; omega
 have hnd1 : 1 ≤ nd := by have := hmade.out.d1; rw [HND.out] at this; omega
 have hnn : nn ≤ 6 := by have := hmade.out.nm; rw [HNN.out] at this; omega
 have HNM := Lib.hid HMA.out.names
 have HCK := Lib.hid (HMA.out.check (by decide) (by decide))
 clear HMK hd1 hb1 hs1 hd2 hg2 hrn hrd hmade HS HF
 go_wp2_with fail
 generalize World.alloc _ _ = w3 at *
 obtain ⟨nb, hnb⟩ : ∃ nb, nb = w2.heap.size := ⟨_, rfl⟩
 rw [← hnb] at HN3 ⊢
 clear hnb
 refine (mkstate_any w.heap.size An Ad nn cn nd cd ds w3 HN3.out.dk HN3.out.hd (by omega)).mono ?_
 rintro e w5 ⟨As, cs, s, rfl, hd5, hg5, hO5, hpos⟩
 have HN5 := Lib.hid (HN3.out.grown HL.out hg5.out hd5.out)
 have HX5 : Hid (SlX w5 w.heap.size 1 As nd cs (intsV s)) := SlX.of_own hO5.out (by have := HN3.out.bl.size; have := HN3.out.bx.lt; have := HN3.out.ge; omega)
 have HLS : Hid (s.length = nd) := hO5.out.len
 clear hd5 hg5 hO5 HN3
 have k0 : w5.cell? ⟨nb, 0, none⟩ = some (.slice An nn cn) := HN5.out.bx.cell 0
 have k1 : w5.cell? ⟨nb, 1, none⟩ = some (.slice Ad nd cd) := HN5.out.bx.cell 1
 go_wp2_with fail
 clear k0 k1
 refine (mkop_any w.heap.size An Ad nn cn nd cd w5 HN5.out.dk (by omega) (by omega)).mono ?_
 rintro e w6 ⟨d, p, rfl, hdn, hp, hd6, hg6⟩
 have HM6 : Hid (LwN w nb An nn cn ns Ad nd cd ds (w6.alloc (.cells #[.int .i64 d, .int .i64 p] 48)) ∧ SlX (w6.alloc (.cells #[.int .i64 d, .int .i64 p] 48)) w.heap.size 1 As nd cs (intsV s) ∧ Blk (w6.alloc (.cells #[.int .i64 d, .int .i64 p] 48)) w6.heap.size 48 #[.int .i64 d, .int .i64 p]) :=
  ⟨(HN5.out.grown HL.out hg6.out hd6.out).later ((Below.refl _ _).alloc (Nat.le_refl _) _), (HX5.out.grown hg6.out).alloc _, Blk.new _ _ _⟩
 have hw6 : w.heap.size < w6.heap.size := hd6.out.lt
 clear hd6 hg6 HN5 HX5
 go_upto_region 7 with (fail)
 generalize World.alloc w6 _ = W at *
 obtain ⟨ob, hob⟩ : ∃ x, x = w6.heap.size := ⟨_, rfl⟩
 rw [← hob] at HM6 hw6 ⊢
 clear hob
 obtain ⟨M, hM⟩ : ∃ M : World → Prop, M = fun W' => LwN w nb An nn cn ns Ad nd cd ds W' ∧ SlX W' w.heap.size 1 As nd cs (intsV s) ∧ Blk W' ob 48 #[.int .i64 d, .int .i64 p] := ⟨_, rfl⟩
 have HKM : Hid (Keep w.heap.size M) := by unfold Hid; rw [hM]; exact (Keep.lwn HL.out).and (Keep.slx.and (Keep.blk (by omega)))
 have HAM : Hid (∀ W', M W' → LwN w nb An nn cn ns Ad nd cd ds W' ∧ SlX W' w.heap.size 1 As nd cs (intsV s) ∧ Blk W' ob 48 #[.int .i64 d, .int .i64 p]) := fun W' h => by rw [hM] at h; exact h
 have HMW : Hid (M W) := by unfold Hid; rw [hM]; exact HM6.out
 have hgW : w.heap.size < W.heap.size := HM6.out.1.dk.lt
 have HDW := Lib.hid HM6.out.1.dk
 have HMD : Hid (∀ W', GrB W w.heap.size W' → M W') := fun W' h => HKM.out.grown HMW.out h.2 h.1
 clear hM HM6
 refine wp_region_lat (S := fun W' => W'.cell? ⟨nb, 0, none⟩ = some (.slice An nn cn) ∧ W'.cell? ⟨nb, 1, none⟩ = some (.slice Ad nd cd)) (J := []) (n := _) ((0, true) :: (1, true) :: (2, true) :: (3, true) :: (4, true) :: (7, true) :: (8, true) :: []) ((12, false) :: (13, false) :: []) [5, 6, 9] [10, 11] #[true, true, true, true, true, false, false, true, true, false, false, false, false, false] #[true, true, true, true, true, true, true, true, true, true, true, true, false, false] (by as_aux_lemma => kernel_rfl) (by rfl) (base_cons (k := 3) (by go_simp; rfl) (base_cons (k := 4) (by go_simp; rfl) (base_cons (k := 5) (by go_simp; rfl) base_nil))) ?_ (fun _ _ _ _ _ h => h) (fun Q2 A hsz hbase hn2 hHeld => ?_)
 ·exact ⟨(HAM.out _ HMW.out).1.bx.cell 0, (HAM.out _ HMW.out).1.bx.cell 1⟩
 try dsimp only at hHeld
 obtain ⟨b3, b4, b5, -⟩ := hbase
 refine ⟨LatP A [(41, .agg #[.slice An nn cn, .slice Ad nd cd]), (40, .pointer (some ⟨w.heap.size, 0, none⟩)), (37, .slice As nd cs), (36, .agg #[.slice An nn cn, .slice Ad nd cd]), (35, .pointer (some ⟨w.heap.size, 0, none⟩)), (34, .agg #[.slice An nn cn, .slice Ad nd cd]), (33, .pointer (some ⟨w.heap.size, 0, none⟩))] 10 11 7 8 W.heap.size 51 51 #[.int .i64 0, .slice none 0 0, .slice none 0 0] #[.int .i64 0, .slice none 0 0, .slice none 0 0] [(5, 38), (6, 39), (9, 42)] (GrF W w.heap.size), ?_, ?_, ?_, ?_⟩
 ·refine ord_move (i := 0) (d := 33) (v := ?_) rfl rfl rfl (wanted_none rfl) hHeld (fun ρ hρ => ?_) ?_
  rotate_left
  ·(have e3 := Eq.trans (hρ.tmp hsz 3 rfl) (lkp_base b3); exact e3)
  show wpOrd _ _ _ _ _ _ _ _
  refine ord_take (i := 1) (d := 34) (v := ?_) rfl rfl (wanted_none rfl) hHeld (fun ρ hρ w hSw => ?_) ?_
  rotate_left
  ·(have e4 := Eq.trans (hρ.tmp hsz 4 rfl) (miss1 rfl (lkp_base b4)); clear hρ; (try dsimp only at hSw); go_simp; try with_reducible rfl)
  show wpOrd _ _ _ _ _ _ _ _
  refine ord_move (i := 2) (d := 35) (v := ?_) rfl rfl rfl (wanted_none rfl) hHeld (fun ρ hρ => ?_) ?_
  rotate_left
  ·(have e3 := Eq.trans (hρ.tmp hsz 3 rfl) (miss1 rfl (miss1 rfl (lkp_base b3))); exact e3)
  show wpOrd _ _ _ _ _ _ _ _
  refine ord_take (i := 3) (d := 36) (v := ?_) rfl rfl (wanted_none rfl) hHeld (fun ρ hρ w hSw => ?_) ?_
  rotate_left
  ·(have e4 := Eq.trans (hρ.tmp hsz 4 rfl) (miss1 rfl (miss1 rfl (miss1 rfl (lkp_base b4)))); clear hρ; (try dsimp only at hSw); go_simp; try with_reducible rfl)
  show wpOrd _ _ _ _ _ _ _ _
  refine ord_move (i := 4) (d := 37) (v := ?_) rfl rfl rfl (wanted_none rfl) hHeld (fun ρ hρ => ?_) ?_
  rotate_left
  ·(have e5 := Eq.trans (hρ.tmp hsz 5 rfl) (miss4 rfl rfl rfl rfl (lkp_base b5)); exact e5)
  show wpOrd _ _ _ _ _ _ _ _
  refine ord_move (i := 7) (d := 40) (v := ?_) rfl rfl rfl (wanted_none rfl) hHeld (fun ρ hρ => ?_) ?_
  rotate_left
  ·(have e3 := Eq.trans (hρ.tmp hsz 3 rfl) (miss4 rfl rfl rfl rfl (miss1 rfl (lkp_base b3))); exact e3)
  show wpOrd _ _ _ _ _ _ _ _
  refine ord_take (i := 8) (d := 41) (v := ?_) rfl rfl (wanted_none rfl) hHeld (fun ρ hρ w hSw => ?_) ?_
  rotate_left
  ·(have e4 := Eq.trans (hρ.tmp hsz 4 rfl) (miss4 rfl rfl rfl rfl (miss1 rfl (miss1 rfl (lkp_base b4)))); clear hρ; (try dsimp only at hSw); go_simp; try with_reducible rfl)
  show wpOrd _ _ _ _ _ _ _ _
  exact lat_pre ⟨[], 0, 0, rfl, by decide, by decide, rfl, ⟨HDW.out.drew, grown_drew (grown_refl _ _)⟩, (show LatMem W.heap.size _ _ _ _ _ _ _ _ _ from LatMem.start W.drew 0 0)⟩
 ·intro c cs D a w0 h
  obtain ⟨vs, x7, x8, hC, hnd, hDD, rfl, hf, hm⟩ := h
  rcases vs with _ | ⟨v1, _ | ⟨v2, _ | ⟨v3, _⟩⟩⟩
  ·obtain ⟨rfl, rfl⟩ : c = 5 ∧ cs = [6, 9] := by simpa using hC
   have hm0 := HMD.out _ hf
   have hle := hm.le
   refine lat_call (d := 38) (vs := #[.pointer (some ⟨w.heap.size, 0, none⟩), .agg #[.slice An nn cn, .slice Ad nd cd], .slice As nd cs, .int .i64 3]) rfl rfl rfl rfl (fun ρ hρ => ?_) ?_ ?_
   ·(have hc := hρ.const; have e35 := Eq.trans (hρ.tmp hsz 35 rfl) (miss_opt rfl (miss_opt rfl (miss1 rfl (miss1 rfl (miss1 rfl (miss1 rfl lkp_hit)))))); have e36 := Eq.trans (hρ.tmp hsz 36 rfl) (miss_opt rfl (miss_opt rfl (miss1 rfl (miss1 rfl (miss1 rfl lkp_hit))))); have e37 := Eq.trans (hρ.tmp hsz 37 rfl) (miss_opt rfl (miss_opt rfl (miss1 rfl (miss1 rfl lkp_hit)))); simp only [List.map_toArray, List.map_cons, List.map_nil, e35, e36, e37, hc])
   ·(intro w; go_simp)
   refine (mklocks_any w.heap.size An Ad As nn cn nd cd nd cs 3 ns ds s w0 hf.1 (HAM.out _ hm0).1.hn (HAM.out _ hm0).1.hd (HAM.out _ hm0).2.1 (by omega) (by decide) HNM.out.1 HNM.out.2).mono ?_
   rintro e w6 ⟨Ag, mg, cg, ls, rfl, hd6, hg6, hO6, -⟩
   have HB6 : GrB W w.heap.size w6 := ⟨hd6.out, grown_trans hf.2 hg6.out⟩
   refine ⟨_, rfl, fun _ => ?_, [.slice Ag mg cg], x7, x8, rfl, hnd, hDD, lat_push A (by decide) (by decide), ?_, hm.grown hg6.out hgW⟩
   ·exact ⟨(HAM.out _ (HMD.out _ HB6)).1.bx.cell 0, (HAM.out _ (HMD.out _ HB6)).1.bx.cell 1⟩
   ·exact ⟨HB6, Ag, mg, cg, ls, rfl, World.ownsRow.mono hO6.out (by omega)⟩
  ·obtain ⟨rfl, rfl⟩ : c = 6 ∧ cs = [9] := by simpa using hC
   obtain ⟨hB, Ag, mg, cg, ls, rfl, hO⟩ := hf
   have hle := hm.le
   refine lat_call (d := 39) (vs := #[.pointer (some ⟨w.heap.size, 0, none⟩), .agg #[.slice An nn cn, .slice Ad nd cd], .slice Ag mg cg]) rfl rfl rfl rfl (fun ρ hρ => ?_) ?_ ?_
   ·(have e33 := Eq.trans (hρ.tmp hsz 33 rfl) (miss_opt rfl (miss_opt rfl (miss1 rfl (miss1 rfl (miss1 rfl (miss1 rfl (miss1 rfl (miss1 rfl (miss1 rfl lkp_hit))))))))); have e34 := Eq.trans (hρ.tmp hsz 34 rfl) (miss_opt rfl (miss_opt rfl (miss1 rfl (miss1 rfl (miss1 rfl (miss1 rfl (miss1 rfl (miss1 rfl lkp_hit)))))))); have e38 := Eq.trans (hρ.tmp hsz 38 rfl) (miss_opt rfl (miss_opt rfl lkp_hit)); simp only [List.map_toArray, List.map_cons, List.map_nil, e33, e34, e38])
   ·(intro w; go_simp)
   refine (mkground_any w.heap.size An Ad Ag nn cn nd cd mg cg w0 hB.1 (by omega)).mono ?_
   rintro e w6 ⟨co, Ap, np, cp, pr, rfl, hco, hd6, hg6, hO6, -⟩
   have HB6 : GrB W w.heap.size w6 := ⟨hd6.out, grown_trans hB.2 hg6.out⟩
   refine ⟨_, rfl, fun _ => ?_, [.slice Ag mg cg, .agg #[.int .i64 co, .slice Ag mg cg, .slice Ap np cp]], x7, x8, rfl, hnd, hDD, lat_push A (by decide) (by decide), ?_, hm.grown hg6.out hgW⟩
   ·exact ⟨(HAM.out _ (HMD.out _ HB6)).1.bx.cell 0, (HAM.out _ (HMD.out _ HB6)).1.bx.cell 1⟩
   ·exact ⟨HB6, Ag, mg, cg, ls, co, Ap, np, cp, pr, rfl, rfl, hco, World.ownsRow.kept hO hg6.out (ne_row fun b e => by have := (World.ownsRow.lt hO b e).1; omega), hO6.out.mono hle⟩
  ·obtain ⟨rfl, rfl⟩ : c = 9 ∧ cs = [] := by simpa using hC
   obtain ⟨hB, Ag, mg, cg, ls, co, Ap, np, cp, pr, rfl, rfl, hco, hO, hO2⟩ := hf
   have hle := hm.le
   refine lat_call (d := 42) (vs := #[.pointer (some ⟨w.heap.size, 0, none⟩), .agg #[.slice An nn cn, .slice Ad nd cd], .slice none 0 0]) rfl rfl rfl rfl (fun ρ hρ => ?_) ?_ ?_
   ·(have hc := hρ.const; have e40 := Eq.trans (hρ.tmp hsz 40 rfl) (miss_opt rfl (miss_opt rfl (miss1 rfl (miss1 rfl (miss1 rfl lkp_hit))))); have e41 := Eq.trans (hρ.tmp hsz 41 rfl) (miss_opt rfl (miss_opt rfl (miss1 rfl (miss1 rfl lkp_hit)))); simp only [List.map_toArray, List.map_cons, List.map_nil, e40, e41, hc])
   ·(intro w; go_simp)
   refine (mkground_any w.heap.size An Ad none nn cn nd cd 0 0 w0 hB.1 (by omega)).mono ?_
   rintro e w6 ⟨co2, Ap2, np2, cp2, pr2, rfl, hco2, hd6, hg6, hO6, -⟩
   have HB6 : GrB W w.heap.size w6 := ⟨hd6.out, grown_trans hB.2 hg6.out⟩
   refine ⟨_, rfl, fun _ => ?_, [.slice Ag mg cg, .agg #[.int .i64 co, .slice Ag mg cg, .slice Ap np cp], .agg #[.int .i64 co2, .slice none 0 0, .slice Ap2 np2 cp2]], x7, x8, rfl, hnd, hDD, lat_push A (by decide) (by decide), ?_, hm.grown hg6.out hgW⟩
   ·exact ⟨(HAM.out _ (HMD.out _ HB6)).1.bx.cell 0, (HAM.out _ (HMD.out _ HB6)).1.bx.cell 1⟩
   ·exact ⟨HB6, Ag, mg, cg, ls, co, Ap, np, cp, pr, co2, Ap2, np2, cp2, pr2, rfl, rfl, rfl, ⟨hco, hco2⟩, World.ownsRow.kept hO hg6.out (ne_row fun b e => by have := (World.ownsRow.lt hO b e).1; omega), hO2.kept hg6.out (ne_row fun b e => by have := (hO2.lt b e).1; omega), hO6.out.mono hle⟩
  ·simp at hC
 ·exact fun C D i a w0 hi h => wpOp_mono (fun a1 w1 h1 => ⟨fun _ => (by obtain ⟨vs1, _, _, _, _, _, _, hf1, _⟩ := h1; exact ⟨(HAM.out _ (HMD.out _ (GrF.base hf1))).1.bx.cell 0, (HAM.out _ (HMD.out _ (GrF.base hf1))).1.bx.cell 1⟩), h1⟩) (LatP.alloc (fun vs w2 o h => GrF.alloc o h) (by decide) (by decide) rfl rfl rfl rfl rfl rfl (fun ρ w2 => by go_simp; rfl) (fun ρ w2 => by go_simp; rfl) i hi h)
 ·intro a w0 h
  obtain ⟨vs, x7, x8, hC, -, -, rfl, hf, hm⟩ := h
  rcases vs with _ | ⟨v1, _ | ⟨v2, _ | ⟨v3, _ | ⟨v4, _⟩⟩⟩⟩
  ·simp at hC
  ·simp at hC
  ·simp at hC
  rotate_left
  ·exact hf.elim
  clear hC
  obtain ⟨hB, Ag, mg, cg, ls, co, Ap, np, cp, pr, co2, Ap2, np2, cp2, pr2, rfl, rfl, rfl, ⟨hco, hco2⟩, hO, hO2, hO3⟩ := hf
  have h7 := (hm.m7 rfl).1; have h8 := (hm.m8 rfl).1; have hne := hm.ne rfl rfl
  have hx7 := (hm.m7 rfl).2; have hx8 := (hm.m8 rfl).2
  have HX := Lib.hid (GrX.of hB h7 h8 hne hx7 hx8 hgW hO hO2 hO3 co co2)
  have HH7 := Lib.hid h7
  have HB7 := Lib.hid (((hB.set hgW hx7 0 (.int .i64 co)).set hgW hx7 1 (.slice Ag mg cg)).set hgW hx7 2 (.slice Ap np cp))
  have HH8 := Lib.hid (((h8.far (p := ⟨x7, 0, none⟩) (Ne.symm hne) (.int .i64 co)).far (p := ⟨x7, 1, none⟩) (Ne.symm hne) (.slice Ag mg cg)).far (p := ⟨x7, 2, none⟩) (Ne.symm hne) (.slice Ap np cp))
  have HX7 := Lib.hid hx7; have HX8 := Lib.hid hx8
  clear hm hO hO2 hO3 h7 h8 hne hx7 hx8
  show wpOrd _ _ _ _ _ _ (puts A [(8, ptr x8), (7, ptr x7), (42, .agg #[.int .i64 co2, .slice none 0 0, .slice Ap2 np2 cp2]), (39, .agg #[.int .i64 co, .slice Ag mg cg, .slice Ap np cp]), (38, .slice Ag mg cg), (41, .agg #[.slice An nn cn, .slice Ad nd cd]), (40, .pointer (some ⟨w.heap.size, 0, none⟩)), (37, .slice As nd cs), (36, .agg #[.slice An nn cn, .slice Ad nd cd]), (35, .pointer (some ⟨w.heap.size, 0, none⟩)), (34, .agg #[.slice An nn cn, .slice Ad nd cd]), (33, .pointer (some ⟨w.heap.size, 0, none⟩))]) _
  refine ord_store (i := 12) (w' := ?_) rfl rfl (wanted_none rfl) (fun ρ hρ => ?_) (fun _ => ?_) ?_
  rotate_left
  ·(have e7 := Eq.trans (hρ.tmp hsz 7 rfl) (miss1 rfl lkp_hit); have e39 := Eq.trans (hρ.tmp hsz 39 rfl) (miss1 rfl (miss1 rfl (miss1 rfl lkp_hit))); refine (run_store_gr ρ _ _ _ _ x7 co Ag Ap mg cg np cp ?_ e7 e39 HH7.out); rfl)
  ·exact ⟨(HAM.out _ (HMD.out _ (HB7.out))).1.bx.cell 0, (HAM.out _ (HMD.out _ HB7.out)).1.bx.cell 1⟩
  show wpOrd _ _ _ _ _ _ _ _
  refine ord_store (i := 13) (w' := ?_) rfl rfl (wanted_none rfl) (fun ρ hρ => ?_) (fun _ => ?_) ?_
  rotate_left
  ·(have e8 := Eq.trans (hρ.tmp hsz 8 rfl) lkp_hit; have e42 := Eq.trans (hρ.tmp hsz 42 rfl) (miss1 rfl (miss1 rfl lkp_hit)); refine (run_store_gr ρ _ _ _ _ x8 co2 none Ap2 0 0 np2 cp2 ?_ e8 e42 HH8.out); rfl)
  ·exact ⟨(HAM.out _ (HMD.out _ HX.out.b)).1.bx.cell 0, (HAM.out _ (HMD.out _ HX.out.b)).1.bx.cell 1⟩
  show wpOrd _ _ _ _ _ _ _ _
  refine ord_done hn2 ?_
  clear hn2 b3 b4 b5 hsz A Q2
  simp only [puts_nil, puts_cons, put_lit, set_1, set_0, ptr]
  have hX := HX.out
  unfold set3 at hX
  clear HX HH7 HH8 HB7 hB
  generalize World.setCell _ _ _ = WS at *
  have hge7 : W.heap.size ≤ x7 := HX7.out
  have hge8 : W.heap.size ≤ x8 := HX8.out
  obtain ⟨M3, hM3⟩ : ∃ M3 : World → Prop, M3 = fun W' => (LwN w nb An nn cn ns Ad nd cd ds W' ∧ SlX W' w.heap.size 1 As nd cs (intsV s) ∧ Blk W' ob 48 #[.int .i64 d, .int .i64 p]) ∧ Blk W' x7 51 #[.int .i64 co, .slice Ag mg cg, .slice Ap np cp] ∧ Blk W' x8 51 #[.int .i64 co2, .slice none 0 0, .slice Ap2 np2 cp2] ∧ SlX W' w.heap.size 3 Ag mg cg (ls.flatMap Lk.cells) ∧ SlX W' w.heap.size 1 Ap np cp (intsV pr) ∧ SlX W' w.heap.size 1 Ap2 np2 cp2 (intsV pr2) := ⟨_, rfl⟩
  have HK3 : Hid (Keep w.heap.size M3) := by unfold Hid; rw [hM3]; exact ((Keep.lwn HL.out).and (Keep.slx.and (Keep.blk (by omega)))).and ((Keep.blk (by omega)).and ((Keep.blk (by omega)).and (Keep.slx.and (Keep.slx.and Keep.slx))))
  have HA3 : Hid (∀ W', M3 W' → (LwN w nb An nn cn ns Ad nd cd ds W' ∧ SlX W' w.heap.size 1 As nd cs (intsV s) ∧ Blk W' ob 48 #[.int .i64 d, .int .i64 p]) ∧ Blk W' x7 51 #[.int .i64 co, .slice Ag mg cg, .slice Ap np cp] ∧ Blk W' x8 51 #[.int .i64 co2, .slice none 0 0, .slice Ap2 np2 cp2] ∧ SlX W' w.heap.size 3 Ag mg cg (ls.flatMap Lk.cells) ∧ SlX W' w.heap.size 1 Ap np cp (intsV pr) ∧ SlX W' w.heap.size 1 Ap2 np2 cp2 (intsV pr2)) := fun W' h => by rw [hM3] at h; exact h
  have HMS : Hid (M3 WS) := by unfold Hid; rw [hM3]; exact ⟨HAM.out _ (HMD.out _ hX.b), hX.b7, hX.b8, SlX.of_own hX.hl hgW, SlX.of_own hX.hp hgW, SlX.of_own hX.hp2 hgW⟩
  have HZ : Hid (∀ W', M3 W' → HzMem W' An Ad As Ag Ap nn cn nd cd nd cs mg cg np cp ns ds s ls pr) := fun W' h => ⟨(HA3.out _ h).1.1.hn.1, (HA3.out _ h).1.1.hd.1, (HA3.out _ h).1.2.1.1, (HA3.out _ h).2.2.2.1.1, (HA3.out _ h).2.2.2.2.1.1, (HA3.out _ h).1.1.la, HNM.out.1, HNM.out.2⟩
  have HZ2 : Hid (∀ W', M3 W' → HzMem W' An Ad As none Ap2 nn cn nd cd nd cs 0 0 np2 cp2 ns ds s [] pr2) := fun W' h => ⟨(HA3.out _ h).1.1.hn.1, (HA3.out _ h).1.1.hd.1, (HA3.out _ h).1.2.1.1, Sl.nil _ _ _, (HA3.out _ h).2.2.2.2.2.1, (HA3.out _ h).1.1.la, HNM.out.1, HNM.out.2⟩
  have HSE : Hid (stateErr ns ds s = 0) := stateErr_zero HCK.out (by rw [HLS.out, HND.out]) hpos.out
  have HE1 : Hid (inErr ns ds s d p co = 0) := by unfold Hid inErr; rw [if_pos HSE.out]; exact hzErr_zero (by omega) (by rw [HND.out]; omega) hp hco.1 hco.2
  have HE2 : Hid (inErr ns ds s d p co2 = 0) := by unfold Hid inErr; rw [if_pos HSE.out]; exact hzErr_zero (by omega) (by rw [HND.out]; omega) hp hco2.1 hco2.2
  clear hM3 HMD HAM HKM HMW HDW hX M
  have hcs := HA3.out _ HMS.out
  have k0 : WS.cell? ⟨nb, 0, none⟩ = some (.slice An nn cn) := hcs.1.1.bx.cell 0
  have k1 : WS.cell? ⟨nb, 1, none⟩ = some (.slice Ad nd cd) := hcs.1.1.bx.cell 1
  have o0 : WS.cell? ⟨ob, 0, none⟩ = some (.int .i64 d) := hcs.1.2.2.cell 0
  have o1 : WS.cell? ⟨ob, 1, none⟩ = some (.int .i64 p) := hcs.1.2.2.cell 1
  have g0 : WS.cell? ⟨x7, 0, none⟩ = some (.int .i64 co) := hcs.2.1.cell 0
  have g1 : WS.cell? ⟨x7, 1, none⟩ = some (.slice Ag mg cg) := hcs.2.1.cell 1
  have g2 : WS.cell? ⟨x7, 2, none⟩ = some (.slice Ap np cp) := hcs.2.1.cell 2
  clear hcs
  go_wp2_with fail
  clear k0 k1 o0 o1 g0 g1 g2
  refine (In_any An Ad As Ag Ap nn cn nd cd nd cs mg cg np cp ns ds s ls pr d p co WS (HZ.out _ HMS.out)).mono ?_
  rintro e w10 ⟨⟨h1, _⟩ | ⟨_, AX, kX, cX, x, hx, rfl, hOX⟩, hbX⟩
  ·exact absurd HE1.out h1
  have HM10 := Lib.hid (HK3.out.later HMS.out hbX.out)
  have HSX := Lib.hid hOX.out.sl
  have HXX := Lib.hid hx
  clear hx hbX hOX HMS
  have hcs := HA3.out _ HM10.out
  have k0 : w10.cell? ⟨nb, 0, none⟩ = some (.slice An nn cn) := hcs.1.1.bx.cell 0
  have k1 : w10.cell? ⟨nb, 1, none⟩ = some (.slice Ad nd cd) := hcs.1.1.bx.cell 1
  have o0 : w10.cell? ⟨ob, 0, none⟩ = some (.int .i64 d) := hcs.1.2.2.cell 0
  have o1 : w10.cell? ⟨ob, 1, none⟩ = some (.int .i64 p) := hcs.1.2.2.cell 1
  have g0 : w10.cell? ⟨x8, 0, none⟩ = some (.int .i64 co2) := hcs.2.2.1.cell 0
  have g1 : w10.cell? ⟨x8, 1, none⟩ = some (.slice none 0 0) := hcs.2.2.1.cell 1
  have g2 : w10.cell? ⟨x8, 2, none⟩ = some (.slice Ap2 np2 cp2) := hcs.2.2.1.cell 2
  clear hcs
  go_wp2_with fail
  clear k0 k1 o0 o1 g0 g1 g2
  refine (In_any An Ad As none Ap2 nn cn nd cd nd cs 0 0 np2 cp2 ns ds s [] pr2 d p co2 w10 (HZ2.out _ HM10.out)).mono ?_
  rintro e w11 ⟨⟨h1, _⟩ | ⟨_, AY, kY, cY, x', hx', rfl, hOY⟩, hbY⟩
  ·exact absurd HE2.out h1
  obtain rfl : x = x' := by have := HXX.out; rw [this] at hx'; exact Option.some.inj hx'
  have HM11 := Lib.hid (HK3.out.later HM10.out hbY.out)
  have HSX1 := Lib.hid ((HSX.out.below hbY.out (Nat.le_refl _)).more hbY.out.size)
  have HSY1 := Lib.hid hOY.out.sl
  clear hx' hbY hOY HM10 HSX HE1 HE2 HZ HZ2
  simp only [Int.toNat_natCast, HNN.out] at HSX1 HSY1 HXX
  obtain ⟨X, hXl⟩ : ∃ y, y = hzAt nn ns ds s d p co ls pr x := ⟨_, rfl⟩
  obtain ⟨Y, hYl⟩ : ∃ y, y = hzAt nn ns ds s d p co2 [] pr2 x := ⟨_, rfl⟩
  have HSM : Hid (∀ i : Int, i ≠ 4 → i ≠ 5 → i ≠ 6 → hasB Y i = hasB X i) := fun i h4 h5 h6 => by rw [hXl, hYl]; exact grd_same h4 h5 h6
  rw [← hXl] at HSX1
  rw [← hYl] at HSY1
  have HXL := Lib.hid hXl
  clear hXl hYl
  go_wp2_with fail
  go_loopg [13] 8 (GrR1 w11 9)
  case atStart => exact ⟨1, rfl, Nat.le_refl _, by decide, rfl, rfl⟩
  case round =>
   obtain ⟨i, rfl, hi1, hi9, rfl, rfl⟩ := hrel
   by_cases hi : i < 9
   ·have hiI : (i : Int) < 9 := by omega
    by_cases h456 : i = 4 ∨ i = 5 ∨ i = 6
    ·rcases h456 with rfl | rfl | rfl
     ·go_wp2_with fail
      go_roundg (9 - (4 + 1))
      case rel => exact ⟨5, rfl, by decide, by decide, rfl, rfl⟩
      case measure => decide
     ·go_wp2_with fail
      go_roundg (9 - (5 + 1))
      case rel => exact ⟨6, rfl, by decide, by decide, rfl, rfl⟩
      case measure => decide
     ·go_wp2_with fail
      go_roundg (9 - (6 + 1))
      case rel => exact ⟨7, rfl, by decide, by decide, rfl, rfl⟩
      case measure => decide
    ·have q4 : ((i : Int) == 4) = false := by simp; omega
     have q5 : ((i : Int) == 5) = false := by simp; omega
     have q6 : ((i : Int) == 6) = false := by simp; omega
     have hsm := HSM.out (i : Int) (by omega) (by omega) (by omega)
     go_wp2_with fail
     refine (rhasb_any AX kX cX X (i : Int) _ HSX1.out).mono ?_
     rintro e w12 ⟨rfl, rfl⟩
     go_wp2_with fail
     refine (rhasb_any AY kY cY Y (i : Int) _ HSY1.out).mono ?_
     rintro e w12 ⟨rfl, rfl⟩
     rw [hsm]
     clear hsm
     rcases hasB X (i : Int) with _ | _
     ·go_wp2_with fail
      go_roundg (9 - (i + 1))
      case rel => exact ⟨i + 1, by go_num, by omega, by omega, rfl, rfl⟩
      case measure => omega
     ·go_wp2_with fail
      go_roundg (9 - (i + 1))
      case rel => exact ⟨i + 1, by go_num, by omega, by omega, rfl, rfl⟩
      case measure => omega
   ·obtain rfl : i = 9 := by omega
    have hcs := HA3.out _ HM11.out
    have g1 : wr.cell? ⟨x7, 1, none⟩ = some (.slice Ag mg cg) := hcs.2.1.cell 1
    clear hcs
    go_wp2_with fail
    clear g1
    have HLG : Hid (ls.length = mg) := (HA3.out _ HM11.out).2.2.2.1.1.len (fun _ => rfl) (by decide)
    have hml := (HA3.out _ HM11.out).2.2.2.1.1.le
    go_loopg [14, 83] mg (GrR2 (fun W' => M3 W' ∧ Sl W' W'.heap.size 1 AX kX cX (intsV X)) ls d mg)
    case atStart => exact ⟨0, false, rfl, rfl, Nat.zero_le _, rfl, rfl, HM11.out, HSX1.out⟩
    case round =>
     clear HSM HSY1 HM11
     obtain ⟨j, acc, rfl, rfl, hj, rfl, hacc, hMr⟩ := hrel
     have HACC := Lib.hid hacc
     clear hacc
     by_cases hjl : j < mg
     ·obtain ⟨b, off, d1, p1, q1, rfl, hb, hxl, c0, c1, c2⟩ := (HA3.out _ hMr.out.1).2.2.2.1.1.lock hjl
      have o0 : wr.cell? ⟨ob, 0, none⟩ = some (.int .i64 d) := (HA3.out _ hMr.out.1).1.2.2.cell 0
      have HNX : Hid (M3 (wr.alloc (.cells #[.int .i64 d1, .int .i64 p1, .int .i64 q1] 58)) ∧ Sl (wr.alloc (.cells #[.int .i64 d1, .int .i64 p1, .int .i64 q1] 58)) (wr.alloc (.cells #[.int .i64 d1, .int .i64 p1, .int .i64 q1] 58)).heap.size 1 AX kX cX (intsV X)) := ⟨HK3.out.later hMr.out.1 ((Below.refl _ _).alloc (Nat.le_refl _) _), (hMr.out.2.alloc (Nat.le_refl _) _).more (by simp)⟩
      have hob1 : ob < wr.heap.size := (HA3.out _ hMr.out.1).1.2.2.lt
      have hobn : ob ≠ wr.heap.size := by omega
      have HAC2 : Hid ((acc || decide (d1 = (d : Int))) = lockB (ls.take (j + 1)) d) := by
       unfold Hid
       rw [take_snoc hxl]
       unfold lockB
       rw [List.any_append, HACC.out]
       simp [lockB]
      clear hxl hMr
      rcases acc with _ | _
      ·by_cases hd1 : d1 = (d : Int)
       ·have qd : (d1 == (d : Int)) = true := by simpa using hd1
        rw [decide_eq_true hd1] at HAC2
        clear hd1
        go_wp2_with fail
        go_roundg (mg - (j + 1))
        case rel => exact ⟨j + 1, true, by go_num, rfl, by omega, rfl, HAC2.out, HNX⟩
        case measure => omega
       ·have qd : (d1 == (d : Int)) = false := by simpa using hd1
        rw [decide_eq_false hd1] at HAC2
        clear hd1
        go_wp2_with fail
        go_roundg (mg - (j + 1))
        case rel => exact ⟨j + 1, false, by go_num, rfl, by omega, rfl, HAC2.out, HNX⟩
        case measure => omega
      ·rw [Bool.true_or] at HAC2
       go_wp2_with fail
       go_roundg (mg - (j + 1))
       case rel => exact ⟨j + 1, true, by go_num, rfl, by omega, rfl, HAC2.out, HNX⟩
       case measure => omega
     ·obtain rfl : j = mg := by omega
      have hjj : decide (j < j) = false := by simp
      rw [List.take_of_length_le (by rw [HLG.out]; exact Nat.le_refl _)] at HACC
      have hcs := HA3.out _ hMr.out.1
      obtain ⟨b0, off, x', rfl, hb, hx', hc⟩ := hcs.1.1.hd.1.at (k := d) (fun _ => rfl) (by decide) hdn
      obtain rfl : x = x' := by have := HXX.out; rw [this] at hx'; exact Option.some.inj hx'
      obtain ⟨nm, kd, xa, xb, xc⟩ := x
      obtain ⟨bs, of2, sd, rfl, hbs, hsd, hcsd⟩ := hcs.1.2.1.1.at1 (k := d) hdn
      have hsd12 : sd = 1 ∨ sd = 2 := by have := hpos.out sd (List.mem_of_getElem? hsd); simp [posB] at this; exact this
      have H4 : Hid (hasB (hzAt nn ns ds s d p co ls pr ⟨nm, kd, xa, xb, xc⟩) 4 = acc) := by unfold Hid; rw [HACC.out]; exact grd_lock
      have H6 : Hid (hasB (hzAt nn ns ds s d p co ls pr ⟨nm, kd, xa, xb, xc⟩) 6 = (xc != co)) := grd_foreign
      have H5 : Hid (hasB (hzAt nn ns ds s d p co ls pr ⟨nm, kd, xa, xb, xc⟩) 5 = unpB kd p sd pr xa) := grd_unproved hsd hsd12
      rw [HXL.out] at hMr
      have c0 : wr.cell? ⟨b0, off + d * 5, none⟩ = some (.string nm) := hc 0 _ rfl
      have c1 : wr.cell? ⟨b0, off + d * 5 + 1, none⟩ = some (.int .i64 kd) := hc 1 _ rfl
      have c2 : wr.cell? ⟨b0, off + d * 5 + 2, none⟩ = some (.int .i64 xa) := hc 2 _ rfl
      have c3 : wr.cell? ⟨b0, off + d * 5 + 3, none⟩ = some (.int .i64 xb) := hc 3 _ rfl
      have c4 : wr.cell? ⟨b0, off + d * 5 + 4, none⟩ = some (.int .i64 xc) := hc 4 _ rfl
      have k1 : wr.cell? ⟨nb, 1, none⟩ = some (.slice (some ⟨b0, off, none⟩) nd cd) := hcs.1.1.bx.cell 1
      have o0 : wr.cell? ⟨ob, 0, none⟩ = some (.int .i64 d) := hcs.1.2.2.cell 0
      have HBE : Hid (Below wr.heap.size wr (wr.alloc (.cells #[.string nm, .int .i64 kd, .int .i64 xa, .int .i64 xb, .int .i64 xc] 43))) := (Below.refl _ _).alloc (Nat.le_refl _) _
      have HME := Lib.hid (HK3.out.later hMr.out.1 HBE.out)
      have HSXE := Lib.hid ((hMr.out.2.below HBE.out (Nat.le_refl _)).more HBE.out.size)
      have HVE := Lib.hid (Blk.new wr 43 #[.string nm, .int .i64 kd, .int .i64 xa, .int .i64 xb, .int .i64 xc])
      clear hcs hc hcsd hx' hMr HBE
      go_upto_region 23 with (fail)
      clear c0 c1 c2 c3 c4 k1 o0
      generalize World.alloc wr _ = WE at *
      obtain ⟨vb, hvb⟩ : ∃ x, x = wr.heap.size := ⟨_, rfl⟩
      rw [← hvb] at HVE ⊢
      clear hvb
      have hcs := HA3.out _ HME.out
      have v1 : WE.cell? ⟨vb, 1, none⟩ = some (.int .i64 kd) := HVE.out.cell 1
      have v2 : WE.cell? ⟨vb, 2, none⟩ = some (.int .i64 xa) := HVE.out.cell 2
      have o0 : WE.cell? ⟨ob, 0, none⟩ = some (.int .i64 d) := hcs.1.2.2.cell 0
      have o1 : WE.cell? ⟨ob, 1, none⟩ = some (.int .i64 p) := hcs.1.2.2.cell 1
      have g2 : WE.cell? ⟨x7, 2, none⟩ = some (.slice Ap np cp) := hcs.2.1.cell 2
      have sdc : WE.cell? ⟨bs, of2 + d, none⟩ = some (.int .i64 sd) := by
       obtain ⟨b9, o9, s9, e9, _, hs9, hc9⟩ := hcs.1.2.1.1.at1 (k := d) hdn
       injection e9 with e9; injection e9 with e9 e10; subst e9 e10
       have : s9 = sd := by rw [hsd] at hs9; exact (Option.some.inj hs9).symm
       rw [this] at hc9; exact hc9
      have HPR : Hid (Sl WE WE.heap.size 1 Ap np cp (intsV pr)) := hcs.2.2.2.2.1.1
      have HC24 : Hid (WE.drew.cell? ⟨vb, 4, none⟩ = some (.int .i64 xc) ∧ WE.drew.cell? ⟨x7, 0, none⟩ = some (.int .i64 co)) := ⟨HVE.out.cell 4, hcs.2.1.cell 0⟩
      clear hcs hsd
      by_cases hk4 : kd = 4
      ·subst hk4
       rcases hp with rfl | rfl
       ·have hu : unpB 4 1 sd pr xa = false := by simp [unpB]
        rw [hu] at H5
        clear hu
        go_upto_region 24 with (fail)
        clear v1 v2 o0 o1 g2 sdc
        refine wp_region_ord (S := fun W' => W'.cell? ⟨vb, 4, none⟩ = some (.int .i64 xc) ∧ W'.cell? ⟨x7, 0, none⟩ = some (.int .i64 co)) (J := []) (n := _) ((0, true) :: (1, true) :: (2, true) :: (3, true) :: (4, true) :: (5, true) :: (6, true) :: (7, true) :: (9, true) :: (8, false) :: (10, true) :: (11, true) :: (12, true) :: (13, true) :: (15, true) :: (16, true) :: (17, true) :: (18, true) :: (19, true) :: (14, false) :: (20, true) :: (21, true) :: (22, true) :: (23, true) :: (25, true) :: (24, false) :: (26, true) :: (27, true) :: (28, true) :: (29, false) :: (30, true) :: (31, true) :: []) (by as_aux_lemma => kernel_rfl) (by rfl) (base_cons (k := 10) (by go_simp; rfl) (base_cons (k := 12) (by go_simp; rfl) (base_cons (k := 9) (by go_simp; rfl) (base_cons (k := 14) (by go_simp; rfl) (base_cons (k := 17) (by go_simp; rfl) (base_cons (k := 7) (by go_simp; rfl) (base_cons (k := 18) (by go_simp; rfl) base_nil))))))) ?_ (fun _ _ _ _ _ h => h) (fun Q2 A hsz hbase hn2 hHeld => ?_)
        ·exact HC24.out
        try dsimp only at hHeld
        obtain ⟨b10, b12, b9, b14, b17, b7, b18, -⟩ := hbase
        refine ord_move (i := 0) (d := 126) (v := ?_) rfl rfl rfl (wanted_none rfl) hHeld (fun ρ hρ => ?_) ?_
        rotate_left
        ·(have e10 := Eq.trans (hρ.tmp hsz 10 rfl) (lkp_base b10); exact e10)
        show wpOrd _ _ _ _ _ _ _ _
        refine ord_take (i := 1) (d := 127) (v := ?_) rfl rfl (wanted_none rfl) hHeld (fun ρ hρ w hSw => ?_) ?_
        rotate_left
        ·(have hc := hρ.const; have e126 := Eq.trans (hρ.tmp hsz 126 rfl) lkp_hit; clear hρ; (try dsimp only at hSw); go_simp; try with_reducible rfl)
        show wpOrd _ _ _ _ _ _ _ _
        refine ord_move (i := 2) (d := 128) (v := ?_) rfl rfl rfl (wanted_none rfl) hHeld (fun ρ hρ => ?_) ?_
        rotate_left
        ·(have e127 := Eq.trans (hρ.tmp hsz 127 rfl) lkp_hit; exact e127)
        show wpOrd _ _ _ _ _ _ _ _
        refine ord_move (i := 3) (d := 129) (v := ?_) rfl rfl rfl (wanted_yes (j := 2) (dj := 128) (b := true) rfl hsz rfl rfl rfl lkp_hit) hHeld (fun ρ hρ => ?_) ?_
        rotate_left
        ·(have e12 := Eq.trans (hρ.tmp hsz 12 rfl) (miss1 rfl (miss1 rfl (miss1 rfl (lkp_base b12)))); exact e12)
        show wpOrd _ _ _ _ _ _ _ _
        refine ord_take (i := 4) (d := 130) (v := ?_) rfl rfl (wanted_yes (j := 2) (dj := 128) (b := true) rfl hsz rfl rfl rfl (miss1 rfl lkp_hit)) hHeld (fun ρ hρ w hSw => ?_) ?_
        rotate_left
        ·(have hc := hρ.const; have e129 := Eq.trans (hρ.tmp hsz 129 rfl) lkp_hit; clear hρ; (try dsimp only at hSw); go_simp; try with_reducible rfl)
        show wpOrd _ _ _ _ _ _ _ _
        refine ord_take (i := 5) (d := 131) (v := ?_) rfl rfl (wanted_none rfl) hHeld (fun ρ hρ w hSw => ?_) ?_
        rotate_left
        ·(have hc := hρ.const; have e128 := Eq.trans (hρ.tmp hsz 128 rfl) (miss1 rfl (miss1 rfl lkp_hit)); have e130 := Eq.trans (hρ.tmp hsz 130 rfl) lkp_hit; clear hρ; (try dsimp only at hSw); go_simp; try with_reducible rfl)
        show wpOrd _ _ _ _ _ _ _ _
        refine ord_move (i := 6) (d := 132) (v := ?_) rfl rfl rfl (wanted_none rfl) hHeld (fun ρ hρ => ?_) ?_
        rotate_left
        ·(have e131 := Eq.trans (hρ.tmp hsz 131 rfl) lkp_hit; exact e131)
        show wpOrd _ _ _ _ _ _ _ _
        refine ord_move (i := 7) (d := 133) (v := ?_) rfl rfl rfl (wanted_yes (j := 6) (dj := 132) (b := true) rfl hsz rfl rfl rfl lkp_hit) hHeld (fun ρ hρ => ?_) ?_
        rotate_left
        ·(have e9 := Eq.trans (hρ.tmp hsz 9 rfl) (miss4 rfl rfl rfl rfl (miss1 rfl (miss1 rfl (miss1 rfl (lkp_base b9))))); exact e9)
        show wpOrd _ _ _ _ _ _ _ _
        refine ord_move (i := 9) (d := 135) (v := ?_) rfl rfl rfl (wanted_yes (j := 6) (dj := 132) (b := true) rfl hsz rfl rfl rfl (miss1 rfl lkp_hit)) hHeld (fun ρ hρ => ?_) ?_
        rotate_left
        ·(have e14 := Eq.trans (hρ.tmp hsz 14 rfl) (miss4 rfl rfl rfl rfl (miss4 rfl rfl rfl rfl (lkp_base b14))); exact e14)
        show wpOrd _ _ _ _ _ _ _ _
        refine ord_call (i := 8) (d := 134) (vs := ?_) rfl rfl rfl (wanted_yes (j := 6) (dj := 132) (b := true) rfl hsz rfl rfl rfl (miss1 rfl (miss1 rfl lkp_hit))) (fun ρ hρ => ?_) ?_ ?_
        rotate_left
        ·(have hc := hρ.const; have e133 := Eq.trans (hρ.tmp hsz 133 rfl) (miss1 rfl lkp_hit); simp only [List.map_toArray, List.map_cons, List.map_nil, e133, hc]; try with_reducible rfl)
        ·(intro w; go_simp)
        refine (rhasb_any AX kX cX (hzAt nn ns ds s d 1 co ls pr ⟨nm, 4, xa, xb, xc⟩) 4 WE.drew HSXE.out).mono ?_
        rintro e w40 ⟨rfl, rfl⟩
        rw [H4.out]
        refine ⟨_, rfl, fun _ => ?_, fun hHeld' => ?_⟩
        ·exact HC24.out
        replace hHeld := hHeld' rfl
        clear hHeld'
        try dsimp only at hHeld
        show wpOrd _ _ _ _ _ _ _ _
        refine ord_take (i := 10) (d := 136) (v := ?_) rfl rfl (wanted_yes (j := 6) (dj := 132) (b := true) rfl hsz rfl rfl rfl (miss1 rfl (miss1 rfl (miss1 rfl lkp_hit)))) hHeld (fun ρ hρ w hSw => ?_) ?_
        rotate_left
        ·(have e134 := Eq.trans (hρ.tmp hsz 134 rfl) lkp_hit; have e135 := Eq.trans (hρ.tmp hsz 135 rfl) (miss1 rfl lkp_hit); clear hρ; (try dsimp only at hSw); go_simp; try with_reducible rfl)
        show wpOrd _ _ _ _ _ _ _ _
        refine ord_take (i := 11) (d := 137) (v := ?_) rfl rfl (wanted_none rfl) hHeld (fun ρ hρ w hSw => ?_) ?_
        rotate_left
        ·(have hc := hρ.const; have e132 := Eq.trans (hρ.tmp hsz 132 rfl) (miss4 rfl rfl rfl rfl lkp_hit); have e136 := Eq.trans (hρ.tmp hsz 136 rfl) lkp_hit; clear hρ; (try dsimp only at hSw); go_simp; try with_reducible rfl)
        show wpOrd _ _ _ _ _ _ _ _
        refine ord_move (i := 12) (d := 138) (v := ?_) rfl rfl rfl (wanted_none rfl) hHeld (fun ρ hρ => ?_) ?_
        rotate_left
        ·(have e137 := Eq.trans (hρ.tmp hsz 137 rfl) lkp_hit; exact e137)
        show wpOrd _ _ _ _ _ _ _ _
        refine ord_move (i := 13) (d := 139) (v := ?_) rfl rfl rfl (wanted_yes (j := 12) (dj := 138) (b := true) rfl hsz rfl rfl rfl lkp_hit) hHeld (fun ρ hρ => ?_) ?_
        rotate_left
        ·(have e9 := Eq.trans (hρ.tmp hsz 9 rfl) (miss4 rfl rfl rfl rfl (miss4 rfl rfl rfl rfl (miss4 rfl rfl rfl rfl (miss1 rfl (lkp_base b9))))); exact e9)
        show wpOrd _ _ _ _ _ _ _ _
        refine ord_take (i := 15) (d := 141) (v := ?_) rfl rfl (wanted_yes (j := 12) (dj := 138) (b := true) rfl hsz rfl rfl rfl (miss1 rfl lkp_hit)) hHeld (fun ρ hρ w hSw => ?_) ?_
        rotate_left
        ·(have e17 := Eq.trans (hρ.tmp hsz 17 rfl) (miss4 rfl rfl rfl rfl (miss4 rfl rfl rfl rfl (miss4 rfl rfl rfl rfl (miss1 rfl (miss1 rfl (lkp_base b17)))))); clear hρ; (try dsimp only at hSw); go_simp; try with_reducible rfl)
        show wpOrd _ _ _ _ _ _ _ _
        refine ord_take (i := 16) (d := 142) (v := ?_) rfl rfl (wanted_yes (j := 12) (dj := 138) (b := true) rfl hsz rfl rfl rfl (miss1 rfl (miss1 rfl lkp_hit))) hHeld (fun ρ hρ w hSw => ?_) ?_
        rotate_left
        ·(have e141 := Eq.trans (hρ.tmp hsz 141 rfl) lkp_hit; clear hρ; (try dsimp only at hSw); go_simp; try with_reducible rfl)
        show wpOrd _ _ _ _ _ _ _ _
        refine ord_take (i := 17) (d := 143) (v := ?_) rfl rfl (wanted_yes (j := 12) (dj := 138) (b := true) rfl hsz rfl rfl rfl (miss1 rfl (miss1 rfl (miss1 rfl lkp_hit)))) hHeld (fun ρ hρ w hSw => ?_) ?_
        rotate_left
        ·(have e7 := Eq.trans (hρ.tmp hsz 7 rfl) (miss4 rfl rfl rfl rfl (miss4 rfl rfl rfl rfl (miss4 rfl rfl rfl rfl (miss4 rfl rfl rfl rfl (lkp_base b7))))); clear hρ; (try dsimp only at hSw); go_simp; try with_reducible rfl)
        show wpOrd _ _ _ _ _ _ _ _
        refine ord_take (i := 18) (d := 144) (v := ?_) rfl rfl (wanted_yes (j := 12) (dj := 138) (b := true) rfl hsz rfl rfl rfl (miss4 rfl rfl rfl rfl lkp_hit)) hHeld (fun ρ hρ w hSw => ?_) ?_
        rotate_left
        ·(have e143 := Eq.trans (hρ.tmp hsz 143 rfl) lkp_hit; clear hρ; (try dsimp only at hSw); go_simp; try with_reducible rfl)
        show wpOrd _ _ _ _ _ _ _ _
        refine ord_take (i := 19) (d := 145) (v := ?_) rfl rfl (wanted_yes (j := 12) (dj := 138) (b := true) rfl hsz rfl rfl rfl (miss4 rfl rfl rfl rfl (miss1 rfl lkp_hit))) hHeld (fun ρ hρ w hSw => ?_) ?_
        rotate_left
        ·(have e142 := Eq.trans (hρ.tmp hsz 142 rfl) (miss1 rfl (miss1 rfl lkp_hit)); have e144 := Eq.trans (hρ.tmp hsz 144 rfl) lkp_hit; clear hρ; (try dsimp only at hSw); go_simp; try with_reducible rfl)
        show wpOrd _ _ _ _ _ _ _ _
        refine ord_call (i := 14) (d := 140) (vs := ?_) rfl rfl rfl (wanted_yes (j := 12) (dj := 138) (b := true) rfl hsz rfl rfl rfl (miss4 rfl rfl rfl rfl (miss1 rfl (miss1 rfl lkp_hit)))) (fun ρ hρ => ?_) ?_ ?_
        rotate_left
        ·(have hc := hρ.const; have e139 := Eq.trans (hρ.tmp hsz 139 rfl) (miss4 rfl rfl rfl rfl (miss1 rfl lkp_hit)); simp only [List.map_toArray, List.map_cons, List.map_nil, e139, hc]; try with_reducible rfl)
        ·(intro w; go_simp)
        refine (rhasb_any AX kX cX (hzAt nn ns ds s d 1 co ls pr ⟨nm, 4, xa, xb, xc⟩) 6 WE.drew HSXE.out).mono ?_
        rintro e w40 ⟨rfl, rfl⟩
        rw [H6.out]
        refine ⟨_, rfl, fun _ => ?_, fun hHeld' => ?_⟩
        ·exact HC24.out
        replace hHeld := hHeld' rfl
        clear hHeld'
        try dsimp only at hHeld
        show wpOrd _ _ _ _ _ _ _ _
        refine ord_take (i := 20) (d := 146) (v := ?_) rfl rfl (wanted_yes (j := 12) (dj := 138) (b := true) rfl hsz rfl rfl rfl (miss4 rfl rfl rfl rfl (miss1 rfl (miss1 rfl (miss1 rfl lkp_hit))))) hHeld (fun ρ hρ w hSw => ?_) ?_
        rotate_left
        ·(have e140 := Eq.trans (hρ.tmp hsz 140 rfl) lkp_hit; have e145 := Eq.trans (hρ.tmp hsz 145 rfl) (miss1 rfl lkp_hit); clear hρ; (try dsimp only at hSw); go_simp; try with_reducible rfl)
        show wpOrd _ _ _ _ _ _ _ _
        refine ord_take (i := 21) (d := 147) (v := ?_) rfl rfl (wanted_none rfl) hHeld (fun ρ hρ w hSw => ?_) ?_
        rotate_left
        ·(have hc := hρ.const; have e138 := Eq.trans (hρ.tmp hsz 138 rfl) (miss4 rfl rfl rfl rfl (miss4 rfl rfl rfl rfl lkp_hit)); have e146 := Eq.trans (hρ.tmp hsz 146 rfl) lkp_hit; clear hρ; (try dsimp only at hSw); go_simp; try with_reducible rfl)
        show wpOrd _ _ _ _ _ _ _ _
        refine ord_move (i := 22) (d := 148) (v := ?_) rfl rfl rfl (wanted_none rfl) hHeld (fun ρ hρ => ?_) ?_
        rotate_left
        ·(have e147 := Eq.trans (hρ.tmp hsz 147 rfl) lkp_hit; exact e147)
        show wpOrd _ _ _ _ _ _ _ _
        refine ord_move (i := 23) (d := 149) (v := ?_) rfl rfl rfl (wanted_yes (j := 22) (dj := 148) (b := true) rfl hsz rfl rfl rfl lkp_hit) hHeld (fun ρ hρ => ?_) ?_
        rotate_left
        ·(have e9 := Eq.trans (hρ.tmp hsz 9 rfl) (miss4 rfl rfl rfl rfl (miss4 rfl rfl rfl rfl (miss4 rfl rfl rfl rfl (miss4 rfl rfl rfl rfl (miss4 rfl rfl rfl rfl (miss1 rfl (miss1 rfl (miss1 rfl (lkp_base b9))))))))); exact e9)
        show wpOrd _ _ _ _ _ _ _ _
        refine ord_move (i := 25) (d := 151) (v := ?_) rfl rfl rfl (wanted_yes (j := 22) (dj := 148) (b := true) rfl hsz rfl rfl rfl (miss1 rfl lkp_hit)) hHeld (fun ρ hρ => ?_) ?_
        rotate_left
        ·(have e18 := Eq.trans (hρ.tmp hsz 18 rfl) (miss4 rfl rfl rfl rfl (miss4 rfl rfl rfl rfl (miss4 rfl rfl rfl rfl (miss4 rfl rfl rfl rfl (miss4 rfl rfl rfl rfl (miss4 rfl rfl rfl rfl (lkp_base b18))))))); exact e18)
        show wpOrd _ _ _ _ _ _ _ _
        refine ord_call (i := 24) (d := 150) (vs := ?_) rfl rfl rfl (wanted_yes (j := 22) (dj := 148) (b := true) rfl hsz rfl rfl rfl (miss1 rfl (miss1 rfl lkp_hit))) (fun ρ hρ => ?_) ?_ ?_
        rotate_left
        ·(have hc := hρ.const; have e149 := Eq.trans (hρ.tmp hsz 149 rfl) (miss1 rfl lkp_hit); simp only [List.map_toArray, List.map_cons, List.map_nil, e149, hc]; try with_reducible rfl)
        ·(intro w; go_simp)
        refine (rhasb_any AX kX cX (hzAt nn ns ds s d 1 co ls pr ⟨nm, 4, xa, xb, xc⟩) 5 WE.drew HSXE.out).mono ?_
        rintro e w40 ⟨rfl, rfl⟩
        rw [H5.out]
        refine ⟨_, rfl, fun _ => ?_, fun hHeld' => ?_⟩
        ·exact HC24.out
        replace hHeld := hHeld' rfl
        clear hHeld'
        try dsimp only at hHeld
        show wpOrd _ _ _ _ _ _ _ _
        refine ord_take (i := 26) (d := 152) (v := ?_) rfl rfl (wanted_yes (j := 22) (dj := 148) (b := true) rfl hsz rfl rfl rfl (miss1 rfl (miss1 rfl (miss1 rfl lkp_hit)))) hHeld (fun ρ hρ w hSw => ?_) ?_
        rotate_left
        ·(have e150 := Eq.trans (hρ.tmp hsz 150 rfl) lkp_hit; have e151 := Eq.trans (hρ.tmp hsz 151 rfl) (miss1 rfl lkp_hit); clear hρ; (try dsimp only at hSw); go_simp; try with_reducible rfl)
        show wpOrd _ _ _ _ _ _ _ _
        refine ord_take (i := 27) (d := 153) (v := ?_) rfl rfl (wanted_none rfl) hHeld (fun ρ hρ w hSw => ?_) ?_
        rotate_left
        ·(have hc := hρ.const; have e148 := Eq.trans (hρ.tmp hsz 148 rfl) (miss4 rfl rfl rfl rfl lkp_hit); have e152 := Eq.trans (hρ.tmp hsz 152 rfl) lkp_hit; clear hρ; (try dsimp only at hSw); go_simp; try with_reducible rfl)
        show wpOrd _ _ _ _ _ _ _ _
        refine ord_move (i := 28) (d := 154) (v := ?_) rfl rfl rfl (wanted_none rfl) hHeld (fun ρ hρ => ?_) ?_
        rotate_left
        ·(have e153 := Eq.trans (hρ.tmp hsz 153 rfl) lkp_hit; exact e153)
        show wpOrd _ _ _ _ _ _ _ _
        refine ord_call (i := 29) (d := 155) (vs := ?_) rfl rfl rfl (wanted_yes (j := 28) (dj := 154) (b := true) rfl hsz rfl rfl rfl lkp_hit) (fun ρ hρ => ?_) ?_ ?_
        rotate_left
        ·(simp only [List.map_toArray, List.map_nil]; try with_reducible rfl)
        ·(intro w; go_simp)
        refine (awake_any WE.drew (HA3.out _ (HK3.out.later HME.out (Below.refl _ _).drew)).1.1.la).mono ?_
        rintro e w41 ⟨rfl, hbE⟩
        have HME2 := Lib.hid (HK3.out.later HME.out ((Below.refl _ _).drew.trans hbE))
        have HVE2 := Lib.hid (Blk.below (w := WE.drew) HVE.out hbE HVE.out.lt)
        refine ⟨_, rfl, fun _ => ?_, fun hHeld' => ?_⟩
        ·exact ⟨HVE2.out.cell 4, (HA3.out _ HME2.out).2.1.cell 0⟩
        replace hHeld := hHeld' rfl
        clear hHeld'
        try dsimp only at hHeld
        show wpOrd _ _ _ _ _ _ _ _
        refine ord_take (i := 30) (d := 156) (v := ?_) rfl rfl (wanted_none rfl) hHeld (fun ρ hρ w hSw => ?_) ?_
        rotate_left
        ·(have hc := hρ.const; have e154 := Eq.trans (hρ.tmp hsz 154 rfl) (miss1 rfl lkp_hit); have e155 := Eq.trans (hρ.tmp hsz 155 rfl) lkp_hit; clear hρ; (try dsimp only at hSw); go_simp; try with_reducible rfl)
        show wpOrd _ _ _ _ _ _ _ _
        refine ord_take (i := 31) (d := 2) (v := ?_) rfl rfl (wanted_none rfl) hHeld (fun ρ hρ w hSw => ?_) ?_
        rotate_left
        ·(have e156 := Eq.trans (hρ.tmp hsz 156 rfl) lkp_hit; clear hρ; (try dsimp only at hSw); go_simp; try with_reducible rfl)
        show wpOrd _ _ _ _ _ _ _ _
        refine ord_done hn2 ?_
        clear hHeld hn2 b10 b12 b9 b14 b17 b7 b18 hsz A Q2
        simp only [puts_nil, puts_cons, put_lit, set_1, set_0]
        go_wp2_with fail
        go_ret
        exact ⟨rfl, (HA3.out _ HME2.out).1.1.bl⟩
       ·rcases hsd12 with rfl | rfl
        ·obtain ⟨hb', hbb⟩ : ∃ y, y = hasB pr xa := ⟨_, rfl⟩
         have hu : unpB 4 2 1 pr xa = !hb' := by rw [hbb]; simp [unpB]
         rw [hu] at H5
         have HBB := Lib.hid hbb
         clear hu hbb
         go_wp2_with fail
         refine (rhasb_any Ap np cp pr xa WE HPR.out).mono ?_
         rintro e w30 ⟨rfl, rfl⟩
         rw [← HBB.out]
         go_upto_region 24 with (fail)
         clear v1 v2 o0 o1 g2 sdc
         refine wp_region_ord (S := fun W' => W'.cell? ⟨vb, 4, none⟩ = some (.int .i64 xc) ∧ W'.cell? ⟨x7, 0, none⟩ = some (.int .i64 co)) (J := []) (n := _) ((0, true) :: (1, true) :: (2, true) :: (3, true) :: (4, true) :: (5, true) :: (6, true) :: (7, true) :: (9, true) :: (8, false) :: (10, true) :: (11, true) :: (12, true) :: (13, true) :: (15, true) :: (16, true) :: (17, true) :: (18, true) :: (19, true) :: (14, false) :: (20, true) :: (21, true) :: (22, true) :: (23, true) :: (25, true) :: (24, false) :: (26, true) :: (27, true) :: (28, true) :: (29, false) :: (30, true) :: (31, true) :: []) (by as_aux_lemma => kernel_rfl) (by rfl) (base_cons (k := 10) (by go_simp; rfl) (base_cons (k := 12) (by go_simp; rfl) (base_cons (k := 9) (by go_simp; rfl) (base_cons (k := 14) (by go_simp; rfl) (base_cons (k := 17) (by go_simp; rfl) (base_cons (k := 7) (by go_simp; rfl) (base_cons (k := 18) (by go_simp; rfl) base_nil))))))) ?_ (fun _ _ _ _ _ h => h) (fun Q2 A hsz hbase hn2 hHeld => ?_)
         ·exact HC24.out
         try dsimp only at hHeld
         obtain ⟨b10, b12, b9, b14, b17, b7, b18, -⟩ := hbase
         refine ord_move (i := 0) (d := 126) (v := ?_) rfl rfl rfl (wanted_none rfl) hHeld (fun ρ hρ => ?_) ?_
         rotate_left
         ·(have e10 := Eq.trans (hρ.tmp hsz 10 rfl) (lkp_base b10); exact e10)
         show wpOrd _ _ _ _ _ _ _ _
         refine ord_take (i := 1) (d := 127) (v := ?_) rfl rfl (wanted_none rfl) hHeld (fun ρ hρ w hSw => ?_) ?_
         rotate_left
         ·(have hc := hρ.const; have e126 := Eq.trans (hρ.tmp hsz 126 rfl) lkp_hit; clear hρ; (try dsimp only at hSw); go_simp; try with_reducible rfl)
         show wpOrd _ _ _ _ _ _ _ _
         refine ord_move (i := 2) (d := 128) (v := ?_) rfl rfl rfl (wanted_none rfl) hHeld (fun ρ hρ => ?_) ?_
         rotate_left
         ·(have e127 := Eq.trans (hρ.tmp hsz 127 rfl) lkp_hit; exact e127)
         show wpOrd _ _ _ _ _ _ _ _
         refine ord_move (i := 3) (d := 129) (v := ?_) rfl rfl rfl (wanted_yes (j := 2) (dj := 128) (b := true) rfl hsz rfl rfl rfl lkp_hit) hHeld (fun ρ hρ => ?_) ?_
         rotate_left
         ·(have e12 := Eq.trans (hρ.tmp hsz 12 rfl) (miss1 rfl (miss1 rfl (miss1 rfl (lkp_base b12)))); exact e12)
         show wpOrd _ _ _ _ _ _ _ _
         refine ord_take (i := 4) (d := 130) (v := ?_) rfl rfl (wanted_yes (j := 2) (dj := 128) (b := true) rfl hsz rfl rfl rfl (miss1 rfl lkp_hit)) hHeld (fun ρ hρ w hSw => ?_) ?_
         rotate_left
         ·(have hc := hρ.const; have e129 := Eq.trans (hρ.tmp hsz 129 rfl) lkp_hit; clear hρ; (try dsimp only at hSw); go_simp; try with_reducible rfl)
         show wpOrd _ _ _ _ _ _ _ _
         refine ord_take (i := 5) (d := 131) (v := ?_) rfl rfl (wanted_none rfl) hHeld (fun ρ hρ w hSw => ?_) ?_
         rotate_left
         ·(have hc := hρ.const; have e128 := Eq.trans (hρ.tmp hsz 128 rfl) (miss1 rfl (miss1 rfl lkp_hit)); have e130 := Eq.trans (hρ.tmp hsz 130 rfl) lkp_hit; clear hρ; (try dsimp only at hSw); go_simp; try with_reducible rfl)
         show wpOrd _ _ _ _ _ _ _ _
         refine ord_move (i := 6) (d := 132) (v := ?_) rfl rfl rfl (wanted_none rfl) hHeld (fun ρ hρ => ?_) ?_
         rotate_left
         ·(have e131 := Eq.trans (hρ.tmp hsz 131 rfl) lkp_hit; exact e131)
         show wpOrd _ _ _ _ _ _ _ _
         refine ord_move (i := 7) (d := 133) (v := ?_) rfl rfl rfl (wanted_yes (j := 6) (dj := 132) (b := true) rfl hsz rfl rfl rfl lkp_hit) hHeld (fun ρ hρ => ?_) ?_
         rotate_left
         ·(have e9 := Eq.trans (hρ.tmp hsz 9 rfl) (miss4 rfl rfl rfl rfl (miss1 rfl (miss1 rfl (miss1 rfl (lkp_base b9))))); exact e9)
         show wpOrd _ _ _ _ _ _ _ _
         refine ord_move (i := 9) (d := 135) (v := ?_) rfl rfl rfl (wanted_yes (j := 6) (dj := 132) (b := true) rfl hsz rfl rfl rfl (miss1 rfl lkp_hit)) hHeld (fun ρ hρ => ?_) ?_
         rotate_left
         ·(have e14 := Eq.trans (hρ.tmp hsz 14 rfl) (miss4 rfl rfl rfl rfl (miss4 rfl rfl rfl rfl (lkp_base b14))); exact e14)
         show wpOrd _ _ _ _ _ _ _ _
         refine ord_call (i := 8) (d := 134) (vs := ?_) rfl rfl rfl (wanted_yes (j := 6) (dj := 132) (b := true) rfl hsz rfl rfl rfl (miss1 rfl (miss1 rfl lkp_hit))) (fun ρ hρ => ?_) ?_ ?_
         rotate_left
         ·(have hc := hρ.const; have e133 := Eq.trans (hρ.tmp hsz 133 rfl) (miss1 rfl lkp_hit); simp only [List.map_toArray, List.map_cons, List.map_nil, e133, hc]; try with_reducible rfl)
         ·(intro w; go_simp)
         refine (rhasb_any AX kX cX (hzAt nn ns ds s d 2 co ls pr ⟨nm, 4, xa, xb, xc⟩) 4 WE.drew HSXE.out).mono ?_
         rintro e w40 ⟨rfl, rfl⟩
         rw [H4.out]
         refine ⟨_, rfl, fun _ => ?_, fun hHeld' => ?_⟩
         ·exact HC24.out
         replace hHeld := hHeld' rfl
         clear hHeld'
         try dsimp only at hHeld
         show wpOrd _ _ _ _ _ _ _ _
         refine ord_take (i := 10) (d := 136) (v := ?_) rfl rfl (wanted_yes (j := 6) (dj := 132) (b := true) rfl hsz rfl rfl rfl (miss1 rfl (miss1 rfl (miss1 rfl lkp_hit)))) hHeld (fun ρ hρ w hSw => ?_) ?_
         rotate_left
         ·(have e134 := Eq.trans (hρ.tmp hsz 134 rfl) lkp_hit; have e135 := Eq.trans (hρ.tmp hsz 135 rfl) (miss1 rfl lkp_hit); clear hρ; (try dsimp only at hSw); go_simp; try with_reducible rfl)
         show wpOrd _ _ _ _ _ _ _ _
         refine ord_take (i := 11) (d := 137) (v := ?_) rfl rfl (wanted_none rfl) hHeld (fun ρ hρ w hSw => ?_) ?_
         rotate_left
         ·(have hc := hρ.const; have e132 := Eq.trans (hρ.tmp hsz 132 rfl) (miss4 rfl rfl rfl rfl lkp_hit); have e136 := Eq.trans (hρ.tmp hsz 136 rfl) lkp_hit; clear hρ; (try dsimp only at hSw); go_simp; try with_reducible rfl)
         show wpOrd _ _ _ _ _ _ _ _
         refine ord_move (i := 12) (d := 138) (v := ?_) rfl rfl rfl (wanted_none rfl) hHeld (fun ρ hρ => ?_) ?_
         rotate_left
         ·(have e137 := Eq.trans (hρ.tmp hsz 137 rfl) lkp_hit; exact e137)
         show wpOrd _ _ _ _ _ _ _ _
         refine ord_move (i := 13) (d := 139) (v := ?_) rfl rfl rfl (wanted_yes (j := 12) (dj := 138) (b := true) rfl hsz rfl rfl rfl lkp_hit) hHeld (fun ρ hρ => ?_) ?_
         rotate_left
         ·(have e9 := Eq.trans (hρ.tmp hsz 9 rfl) (miss4 rfl rfl rfl rfl (miss4 rfl rfl rfl rfl (miss4 rfl rfl rfl rfl (miss1 rfl (lkp_base b9))))); exact e9)
         show wpOrd _ _ _ _ _ _ _ _
         refine ord_take (i := 15) (d := 141) (v := ?_) rfl rfl (wanted_yes (j := 12) (dj := 138) (b := true) rfl hsz rfl rfl rfl (miss1 rfl lkp_hit)) hHeld (fun ρ hρ w hSw => ?_) ?_
         rotate_left
         ·(have e17 := Eq.trans (hρ.tmp hsz 17 rfl) (miss4 rfl rfl rfl rfl (miss4 rfl rfl rfl rfl (miss4 rfl rfl rfl rfl (miss1 rfl (miss1 rfl (lkp_base b17)))))); clear hρ; (try dsimp only at hSw); go_simp; try with_reducible rfl)
         show wpOrd _ _ _ _ _ _ _ _
         refine ord_take (i := 16) (d := 142) (v := ?_) rfl rfl (wanted_yes (j := 12) (dj := 138) (b := true) rfl hsz rfl rfl rfl (miss1 rfl (miss1 rfl lkp_hit))) hHeld (fun ρ hρ w hSw => ?_) ?_
         rotate_left
         ·(have e141 := Eq.trans (hρ.tmp hsz 141 rfl) lkp_hit; clear hρ; (try dsimp only at hSw); go_simp; try with_reducible rfl)
         show wpOrd _ _ _ _ _ _ _ _
         refine ord_take (i := 17) (d := 143) (v := ?_) rfl rfl (wanted_yes (j := 12) (dj := 138) (b := true) rfl hsz rfl rfl rfl (miss1 rfl (miss1 rfl (miss1 rfl lkp_hit)))) hHeld (fun ρ hρ w hSw => ?_) ?_
         rotate_left
         ·(have e7 := Eq.trans (hρ.tmp hsz 7 rfl) (miss4 rfl rfl rfl rfl (miss4 rfl rfl rfl rfl (miss4 rfl rfl rfl rfl (miss4 rfl rfl rfl rfl (lkp_base b7))))); clear hρ; (try dsimp only at hSw); go_simp; try with_reducible rfl)
         show wpOrd _ _ _ _ _ _ _ _
         refine ord_take (i := 18) (d := 144) (v := ?_) rfl rfl (wanted_yes (j := 12) (dj := 138) (b := true) rfl hsz rfl rfl rfl (miss4 rfl rfl rfl rfl lkp_hit)) hHeld (fun ρ hρ w hSw => ?_) ?_
         rotate_left
         ·(have e143 := Eq.trans (hρ.tmp hsz 143 rfl) lkp_hit; clear hρ; (try dsimp only at hSw); go_simp; try with_reducible rfl)
         show wpOrd _ _ _ _ _ _ _ _
         refine ord_take (i := 19) (d := 145) (v := ?_) rfl rfl (wanted_yes (j := 12) (dj := 138) (b := true) rfl hsz rfl rfl rfl (miss4 rfl rfl rfl rfl (miss1 rfl lkp_hit))) hHeld (fun ρ hρ w hSw => ?_) ?_
         rotate_left
         ·(have e142 := Eq.trans (hρ.tmp hsz 142 rfl) (miss1 rfl (miss1 rfl lkp_hit)); have e144 := Eq.trans (hρ.tmp hsz 144 rfl) lkp_hit; clear hρ; (try dsimp only at hSw); go_simp; try with_reducible rfl)
         show wpOrd _ _ _ _ _ _ _ _
         refine ord_call (i := 14) (d := 140) (vs := ?_) rfl rfl rfl (wanted_yes (j := 12) (dj := 138) (b := true) rfl hsz rfl rfl rfl (miss4 rfl rfl rfl rfl (miss1 rfl (miss1 rfl lkp_hit)))) (fun ρ hρ => ?_) ?_ ?_
         rotate_left
         ·(have hc := hρ.const; have e139 := Eq.trans (hρ.tmp hsz 139 rfl) (miss4 rfl rfl rfl rfl (miss1 rfl lkp_hit)); simp only [List.map_toArray, List.map_cons, List.map_nil, e139, hc]; try with_reducible rfl)
         ·(intro w; go_simp)
         refine (rhasb_any AX kX cX (hzAt nn ns ds s d 2 co ls pr ⟨nm, 4, xa, xb, xc⟩) 6 WE.drew HSXE.out).mono ?_
         rintro e w40 ⟨rfl, rfl⟩
         rw [H6.out]
         refine ⟨_, rfl, fun _ => ?_, fun hHeld' => ?_⟩
         ·exact HC24.out
         replace hHeld := hHeld' rfl
         clear hHeld'
         try dsimp only at hHeld
         show wpOrd _ _ _ _ _ _ _ _
         refine ord_take (i := 20) (d := 146) (v := ?_) rfl rfl (wanted_yes (j := 12) (dj := 138) (b := true) rfl hsz rfl rfl rfl (miss4 rfl rfl rfl rfl (miss1 rfl (miss1 rfl (miss1 rfl lkp_hit))))) hHeld (fun ρ hρ w hSw => ?_) ?_
         rotate_left
         ·(have e140 := Eq.trans (hρ.tmp hsz 140 rfl) lkp_hit; have e145 := Eq.trans (hρ.tmp hsz 145 rfl) (miss1 rfl lkp_hit); clear hρ; (try dsimp only at hSw); go_simp; try with_reducible rfl)
         show wpOrd _ _ _ _ _ _ _ _
         refine ord_take (i := 21) (d := 147) (v := ?_) rfl rfl (wanted_none rfl) hHeld (fun ρ hρ w hSw => ?_) ?_
         rotate_left
         ·(have hc := hρ.const; have e138 := Eq.trans (hρ.tmp hsz 138 rfl) (miss4 rfl rfl rfl rfl (miss4 rfl rfl rfl rfl lkp_hit)); have e146 := Eq.trans (hρ.tmp hsz 146 rfl) lkp_hit; clear hρ; (try dsimp only at hSw); go_simp; try with_reducible rfl)
         show wpOrd _ _ _ _ _ _ _ _
         refine ord_move (i := 22) (d := 148) (v := ?_) rfl rfl rfl (wanted_none rfl) hHeld (fun ρ hρ => ?_) ?_
         rotate_left
         ·(have e147 := Eq.trans (hρ.tmp hsz 147 rfl) lkp_hit; exact e147)
         show wpOrd _ _ _ _ _ _ _ _
         refine ord_move (i := 23) (d := 149) (v := ?_) rfl rfl rfl (wanted_yes (j := 22) (dj := 148) (b := true) rfl hsz rfl rfl rfl lkp_hit) hHeld (fun ρ hρ => ?_) ?_
         rotate_left
         ·(have e9 := Eq.trans (hρ.tmp hsz 9 rfl) (miss4 rfl rfl rfl rfl (miss4 rfl rfl rfl rfl (miss4 rfl rfl rfl rfl (miss4 rfl rfl rfl rfl (miss4 rfl rfl rfl rfl (miss1 rfl (miss1 rfl (miss1 rfl (lkp_base b9))))))))); exact e9)
         show wpOrd _ _ _ _ _ _ _ _
         refine ord_move (i := 25) (d := 151) (v := ?_) rfl rfl rfl (wanted_yes (j := 22) (dj := 148) (b := true) rfl hsz rfl rfl rfl (miss1 rfl lkp_hit)) hHeld (fun ρ hρ => ?_) ?_
         rotate_left
         ·(have e18 := Eq.trans (hρ.tmp hsz 18 rfl) (miss4 rfl rfl rfl rfl (miss4 rfl rfl rfl rfl (miss4 rfl rfl rfl rfl (miss4 rfl rfl rfl rfl (miss4 rfl rfl rfl rfl (miss4 rfl rfl rfl rfl (lkp_base b18))))))); exact e18)
         show wpOrd _ _ _ _ _ _ _ _
         refine ord_call (i := 24) (d := 150) (vs := ?_) rfl rfl rfl (wanted_yes (j := 22) (dj := 148) (b := true) rfl hsz rfl rfl rfl (miss1 rfl (miss1 rfl lkp_hit))) (fun ρ hρ => ?_) ?_ ?_
         rotate_left
         ·(have hc := hρ.const; have e149 := Eq.trans (hρ.tmp hsz 149 rfl) (miss1 rfl lkp_hit); simp only [List.map_toArray, List.map_cons, List.map_nil, e149, hc]; try with_reducible rfl)
         ·(intro w; go_simp)
         refine (rhasb_any AX kX cX (hzAt nn ns ds s d 2 co ls pr ⟨nm, 4, xa, xb, xc⟩) 5 WE.drew HSXE.out).mono ?_
         rintro e w40 ⟨rfl, rfl⟩
         rw [H5.out]
         refine ⟨_, rfl, fun _ => ?_, fun hHeld' => ?_⟩
         ·exact HC24.out
         replace hHeld := hHeld' rfl
         clear hHeld'
         try dsimp only at hHeld
         show wpOrd _ _ _ _ _ _ _ _
         refine ord_take (i := 26) (d := 152) (v := ?_) rfl rfl (wanted_yes (j := 22) (dj := 148) (b := true) rfl hsz rfl rfl rfl (miss1 rfl (miss1 rfl (miss1 rfl lkp_hit)))) hHeld (fun ρ hρ w hSw => ?_) ?_
         rotate_left
         ·(have e150 := Eq.trans (hρ.tmp hsz 150 rfl) lkp_hit; have e151 := Eq.trans (hρ.tmp hsz 151 rfl) (miss1 rfl lkp_hit); clear hρ; (try dsimp only at hSw); go_simp; try with_reducible rfl)
         show wpOrd _ _ _ _ _ _ _ _
         refine ord_take (i := 27) (d := 153) (v := ?_) rfl rfl (wanted_none rfl) hHeld (fun ρ hρ w hSw => ?_) ?_
         rotate_left
         ·(have hc := hρ.const; have e148 := Eq.trans (hρ.tmp hsz 148 rfl) (miss4 rfl rfl rfl rfl lkp_hit); have e152 := Eq.trans (hρ.tmp hsz 152 rfl) lkp_hit; clear hρ; (try dsimp only at hSw); go_simp; try with_reducible rfl)
         show wpOrd _ _ _ _ _ _ _ _
         refine ord_move (i := 28) (d := 154) (v := ?_) rfl rfl rfl (wanted_none rfl) hHeld (fun ρ hρ => ?_) ?_
         rotate_left
         ·(have e153 := Eq.trans (hρ.tmp hsz 153 rfl) lkp_hit; exact e153)
         show wpOrd _ _ _ _ _ _ _ _
         refine ord_call (i := 29) (d := 155) (vs := ?_) rfl rfl rfl (wanted_yes (j := 28) (dj := 154) (b := true) rfl hsz rfl rfl rfl lkp_hit) (fun ρ hρ => ?_) ?_ ?_
         rotate_left
         ·(simp only [List.map_toArray, List.map_nil]; try with_reducible rfl)
         ·(intro w; go_simp)
         refine (awake_any WE.drew (HA3.out _ (HK3.out.later HME.out (Below.refl _ _).drew)).1.1.la).mono ?_
         rintro e w41 ⟨rfl, hbE⟩
         have HME2 := Lib.hid (HK3.out.later HME.out ((Below.refl _ _).drew.trans hbE))
         have HVE2 := Lib.hid (Blk.below (w := WE.drew) HVE.out hbE HVE.out.lt)
         refine ⟨_, rfl, fun _ => ?_, fun hHeld' => ?_⟩
         ·exact ⟨HVE2.out.cell 4, (HA3.out _ HME2.out).2.1.cell 0⟩
         replace hHeld := hHeld' rfl
         clear hHeld'
         try dsimp only at hHeld
         show wpOrd _ _ _ _ _ _ _ _
         refine ord_take (i := 30) (d := 156) (v := ?_) rfl rfl (wanted_none rfl) hHeld (fun ρ hρ w hSw => ?_) ?_
         rotate_left
         ·(have hc := hρ.const; have e154 := Eq.trans (hρ.tmp hsz 154 rfl) (miss1 rfl lkp_hit); have e155 := Eq.trans (hρ.tmp hsz 155 rfl) lkp_hit; clear hρ; (try dsimp only at hSw); go_simp; try with_reducible rfl)
         show wpOrd _ _ _ _ _ _ _ _
         refine ord_take (i := 31) (d := 2) (v := ?_) rfl rfl (wanted_none rfl) hHeld (fun ρ hρ w hSw => ?_) ?_
         rotate_left
         ·(have e156 := Eq.trans (hρ.tmp hsz 156 rfl) lkp_hit; clear hρ; (try dsimp only at hSw); go_simp; try with_reducible rfl)
         show wpOrd _ _ _ _ _ _ _ _
         refine ord_done hn2 ?_
         clear hHeld hn2 b10 b12 b9 b14 b17 b7 b18 hsz A Q2
         simp only [puts_nil, puts_cons, put_lit, set_1, set_0]
         go_wp2_with fail
         go_ret
         exact ⟨rfl, (HA3.out _ HME2.out).1.1.bl⟩
        ·have hu : unpB 4 2 2 pr xa = false := by simp [unpB]
         rw [hu] at H5
         clear hu
         go_upto_region 24 with (fail)
         clear v1 v2 o0 o1 g2 sdc
         refine wp_region_ord (S := fun W' => W'.cell? ⟨vb, 4, none⟩ = some (.int .i64 xc) ∧ W'.cell? ⟨x7, 0, none⟩ = some (.int .i64 co)) (J := []) (n := _) ((0, true) :: (1, true) :: (2, true) :: (3, true) :: (4, true) :: (5, true) :: (6, true) :: (7, true) :: (9, true) :: (8, false) :: (10, true) :: (11, true) :: (12, true) :: (13, true) :: (15, true) :: (16, true) :: (17, true) :: (18, true) :: (19, true) :: (14, false) :: (20, true) :: (21, true) :: (22, true) :: (23, true) :: (25, true) :: (24, false) :: (26, true) :: (27, true) :: (28, true) :: (29, false) :: (30, true) :: (31, true) :: []) (by as_aux_lemma => kernel_rfl) (by rfl) (base_cons (k := 10) (by go_simp; rfl) (base_cons (k := 12) (by go_simp; rfl) (base_cons (k := 9) (by go_simp; rfl) (base_cons (k := 14) (by go_simp; rfl) (base_cons (k := 17) (by go_simp; rfl) (base_cons (k := 7) (by go_simp; rfl) (base_cons (k := 18) (by go_simp; rfl) base_nil))))))) ?_ (fun _ _ _ _ _ h => h) (fun Q2 A hsz hbase hn2 hHeld => ?_)
         ·exact HC24.out
         try dsimp only at hHeld
         obtain ⟨b10, b12, b9, b14, b17, b7, b18, -⟩ := hbase
         refine ord_move (i := 0) (d := 126) (v := ?_) rfl rfl rfl (wanted_none rfl) hHeld (fun ρ hρ => ?_) ?_
         rotate_left
         ·(have e10 := Eq.trans (hρ.tmp hsz 10 rfl) (lkp_base b10); exact e10)
         show wpOrd _ _ _ _ _ _ _ _
         refine ord_take (i := 1) (d := 127) (v := ?_) rfl rfl (wanted_none rfl) hHeld (fun ρ hρ w hSw => ?_) ?_
         rotate_left
         ·(have hc := hρ.const; have e126 := Eq.trans (hρ.tmp hsz 126 rfl) lkp_hit; clear hρ; (try dsimp only at hSw); go_simp; try with_reducible rfl)
         show wpOrd _ _ _ _ _ _ _ _
         refine ord_move (i := 2) (d := 128) (v := ?_) rfl rfl rfl (wanted_none rfl) hHeld (fun ρ hρ => ?_) ?_
         rotate_left
         ·(have e127 := Eq.trans (hρ.tmp hsz 127 rfl) lkp_hit; exact e127)
         show wpOrd _ _ _ _ _ _ _ _
         refine ord_move (i := 3) (d := 129) (v := ?_) rfl rfl rfl (wanted_yes (j := 2) (dj := 128) (b := true) rfl hsz rfl rfl rfl lkp_hit) hHeld (fun ρ hρ => ?_) ?_
         rotate_left
         ·(have e12 := Eq.trans (hρ.tmp hsz 12 rfl) (miss1 rfl (miss1 rfl (miss1 rfl (lkp_base b12)))); exact e12)
         show wpOrd _ _ _ _ _ _ _ _
         refine ord_take (i := 4) (d := 130) (v := ?_) rfl rfl (wanted_yes (j := 2) (dj := 128) (b := true) rfl hsz rfl rfl rfl (miss1 rfl lkp_hit)) hHeld (fun ρ hρ w hSw => ?_) ?_
         rotate_left
         ·(have hc := hρ.const; have e129 := Eq.trans (hρ.tmp hsz 129 rfl) lkp_hit; clear hρ; (try dsimp only at hSw); go_simp; try with_reducible rfl)
         show wpOrd _ _ _ _ _ _ _ _
         refine ord_take (i := 5) (d := 131) (v := ?_) rfl rfl (wanted_none rfl) hHeld (fun ρ hρ w hSw => ?_) ?_
         rotate_left
         ·(have hc := hρ.const; have e128 := Eq.trans (hρ.tmp hsz 128 rfl) (miss1 rfl (miss1 rfl lkp_hit)); have e130 := Eq.trans (hρ.tmp hsz 130 rfl) lkp_hit; clear hρ; (try dsimp only at hSw); go_simp; try with_reducible rfl)
         show wpOrd _ _ _ _ _ _ _ _
         refine ord_move (i := 6) (d := 132) (v := ?_) rfl rfl rfl (wanted_none rfl) hHeld (fun ρ hρ => ?_) ?_
         rotate_left
         ·(have e131 := Eq.trans (hρ.tmp hsz 131 rfl) lkp_hit; exact e131)
         show wpOrd _ _ _ _ _ _ _ _
         refine ord_move (i := 7) (d := 133) (v := ?_) rfl rfl rfl (wanted_yes (j := 6) (dj := 132) (b := true) rfl hsz rfl rfl rfl lkp_hit) hHeld (fun ρ hρ => ?_) ?_
         rotate_left
         ·(have e9 := Eq.trans (hρ.tmp hsz 9 rfl) (miss4 rfl rfl rfl rfl (miss1 rfl (miss1 rfl (miss1 rfl (lkp_base b9))))); exact e9)
         show wpOrd _ _ _ _ _ _ _ _
         refine ord_move (i := 9) (d := 135) (v := ?_) rfl rfl rfl (wanted_yes (j := 6) (dj := 132) (b := true) rfl hsz rfl rfl rfl (miss1 rfl lkp_hit)) hHeld (fun ρ hρ => ?_) ?_
         rotate_left
         ·(have e14 := Eq.trans (hρ.tmp hsz 14 rfl) (miss4 rfl rfl rfl rfl (miss4 rfl rfl rfl rfl (lkp_base b14))); exact e14)
         show wpOrd _ _ _ _ _ _ _ _
         refine ord_call (i := 8) (d := 134) (vs := ?_) rfl rfl rfl (wanted_yes (j := 6) (dj := 132) (b := true) rfl hsz rfl rfl rfl (miss1 rfl (miss1 rfl lkp_hit))) (fun ρ hρ => ?_) ?_ ?_
         rotate_left
         ·(have hc := hρ.const; have e133 := Eq.trans (hρ.tmp hsz 133 rfl) (miss1 rfl lkp_hit); simp only [List.map_toArray, List.map_cons, List.map_nil, e133, hc]; try with_reducible rfl)
         ·(intro w; go_simp)
         refine (rhasb_any AX kX cX (hzAt nn ns ds s d 2 co ls pr ⟨nm, 4, xa, xb, xc⟩) 4 WE.drew HSXE.out).mono ?_
         rintro e w40 ⟨rfl, rfl⟩
         rw [H4.out]
         refine ⟨_, rfl, fun _ => ?_, fun hHeld' => ?_⟩
         ·exact HC24.out
         replace hHeld := hHeld' rfl
         clear hHeld'
         try dsimp only at hHeld
         show wpOrd _ _ _ _ _ _ _ _
         refine ord_take (i := 10) (d := 136) (v := ?_) rfl rfl (wanted_yes (j := 6) (dj := 132) (b := true) rfl hsz rfl rfl rfl (miss1 rfl (miss1 rfl (miss1 rfl lkp_hit)))) hHeld (fun ρ hρ w hSw => ?_) ?_
         rotate_left
         ·(have e134 := Eq.trans (hρ.tmp hsz 134 rfl) lkp_hit; have e135 := Eq.trans (hρ.tmp hsz 135 rfl) (miss1 rfl lkp_hit); clear hρ; (try dsimp only at hSw); go_simp; try with_reducible rfl)
         show wpOrd _ _ _ _ _ _ _ _
         refine ord_take (i := 11) (d := 137) (v := ?_) rfl rfl (wanted_none rfl) hHeld (fun ρ hρ w hSw => ?_) ?_
         rotate_left
         ·(have hc := hρ.const; have e132 := Eq.trans (hρ.tmp hsz 132 rfl) (miss4 rfl rfl rfl rfl lkp_hit); have e136 := Eq.trans (hρ.tmp hsz 136 rfl) lkp_hit; clear hρ; (try dsimp only at hSw); go_simp; try with_reducible rfl)
         show wpOrd _ _ _ _ _ _ _ _
         refine ord_move (i := 12) (d := 138) (v := ?_) rfl rfl rfl (wanted_none rfl) hHeld (fun ρ hρ => ?_) ?_
         rotate_left
         ·(have e137 := Eq.trans (hρ.tmp hsz 137 rfl) lkp_hit; exact e137)
         show wpOrd _ _ _ _ _ _ _ _
         refine ord_move (i := 13) (d := 139) (v := ?_) rfl rfl rfl (wanted_yes (j := 12) (dj := 138) (b := true) rfl hsz rfl rfl rfl lkp_hit) hHeld (fun ρ hρ => ?_) ?_
         rotate_left
         ·(have e9 := Eq.trans (hρ.tmp hsz 9 rfl) (miss4 rfl rfl rfl rfl (miss4 rfl rfl rfl rfl (miss4 rfl rfl rfl rfl (miss1 rfl (lkp_base b9))))); exact e9)
         show wpOrd _ _ _ _ _ _ _ _
         refine ord_take (i := 15) (d := 141) (v := ?_) rfl rfl (wanted_yes (j := 12) (dj := 138) (b := true) rfl hsz rfl rfl rfl (miss1 rfl lkp_hit)) hHeld (fun ρ hρ w hSw => ?_) ?_
         rotate_left
         ·(have e17 := Eq.trans (hρ.tmp hsz 17 rfl) (miss4 rfl rfl rfl rfl (miss4 rfl rfl rfl rfl (miss4 rfl rfl rfl rfl (miss1 rfl (miss1 rfl (lkp_base b17)))))); clear hρ; (try dsimp only at hSw); go_simp; try with_reducible rfl)
         show wpOrd _ _ _ _ _ _ _ _
         refine ord_take (i := 16) (d := 142) (v := ?_) rfl rfl (wanted_yes (j := 12) (dj := 138) (b := true) rfl hsz rfl rfl rfl (miss1 rfl (miss1 rfl lkp_hit))) hHeld (fun ρ hρ w hSw => ?_) ?_
         rotate_left
         ·(have e141 := Eq.trans (hρ.tmp hsz 141 rfl) lkp_hit; clear hρ; (try dsimp only at hSw); go_simp; try with_reducible rfl)
         show wpOrd _ _ _ _ _ _ _ _
         refine ord_take (i := 17) (d := 143) (v := ?_) rfl rfl (wanted_yes (j := 12) (dj := 138) (b := true) rfl hsz rfl rfl rfl (miss1 rfl (miss1 rfl (miss1 rfl lkp_hit)))) hHeld (fun ρ hρ w hSw => ?_) ?_
         rotate_left
         ·(have e7 := Eq.trans (hρ.tmp hsz 7 rfl) (miss4 rfl rfl rfl rfl (miss4 rfl rfl rfl rfl (miss4 rfl rfl rfl rfl (miss4 rfl rfl rfl rfl (lkp_base b7))))); clear hρ; (try dsimp only at hSw); go_simp; try with_reducible rfl)
         show wpOrd _ _ _ _ _ _ _ _
         refine ord_take (i := 18) (d := 144) (v := ?_) rfl rfl (wanted_yes (j := 12) (dj := 138) (b := true) rfl hsz rfl rfl rfl (miss4 rfl rfl rfl rfl lkp_hit)) hHeld (fun ρ hρ w hSw => ?_) ?_
         rotate_left
         ·(have e143 := Eq.trans (hρ.tmp hsz 143 rfl) lkp_hit; clear hρ; (try dsimp only at hSw); go_simp; try with_reducible rfl)
         show wpOrd _ _ _ _ _ _ _ _
         refine ord_take (i := 19) (d := 145) (v := ?_) rfl rfl (wanted_yes (j := 12) (dj := 138) (b := true) rfl hsz rfl rfl rfl (miss4 rfl rfl rfl rfl (miss1 rfl lkp_hit))) hHeld (fun ρ hρ w hSw => ?_) ?_
         rotate_left
         ·(have e142 := Eq.trans (hρ.tmp hsz 142 rfl) (miss1 rfl (miss1 rfl lkp_hit)); have e144 := Eq.trans (hρ.tmp hsz 144 rfl) lkp_hit; clear hρ; (try dsimp only at hSw); go_simp; try with_reducible rfl)
         show wpOrd _ _ _ _ _ _ _ _
         refine ord_call (i := 14) (d := 140) (vs := ?_) rfl rfl rfl (wanted_yes (j := 12) (dj := 138) (b := true) rfl hsz rfl rfl rfl (miss4 rfl rfl rfl rfl (miss1 rfl (miss1 rfl lkp_hit)))) (fun ρ hρ => ?_) ?_ ?_
         rotate_left
         ·(have hc := hρ.const; have e139 := Eq.trans (hρ.tmp hsz 139 rfl) (miss4 rfl rfl rfl rfl (miss1 rfl lkp_hit)); simp only [List.map_toArray, List.map_cons, List.map_nil, e139, hc]; try with_reducible rfl)
         ·(intro w; go_simp)
         refine (rhasb_any AX kX cX (hzAt nn ns ds s d 2 co ls pr ⟨nm, 4, xa, xb, xc⟩) 6 WE.drew HSXE.out).mono ?_
         rintro e w40 ⟨rfl, rfl⟩
         rw [H6.out]
         refine ⟨_, rfl, fun _ => ?_, fun hHeld' => ?_⟩
         ·exact HC24.out
         replace hHeld := hHeld' rfl
         clear hHeld'
         try dsimp only at hHeld
         show wpOrd _ _ _ _ _ _ _ _
         refine ord_take (i := 20) (d := 146) (v := ?_) rfl rfl (wanted_yes (j := 12) (dj := 138) (b := true) rfl hsz rfl rfl rfl (miss4 rfl rfl rfl rfl (miss1 rfl (miss1 rfl (miss1 rfl lkp_hit))))) hHeld (fun ρ hρ w hSw => ?_) ?_
         rotate_left
         ·(have e140 := Eq.trans (hρ.tmp hsz 140 rfl) lkp_hit; have e145 := Eq.trans (hρ.tmp hsz 145 rfl) (miss1 rfl lkp_hit); clear hρ; (try dsimp only at hSw); go_simp; try with_reducible rfl)
         show wpOrd _ _ _ _ _ _ _ _
         refine ord_take (i := 21) (d := 147) (v := ?_) rfl rfl (wanted_none rfl) hHeld (fun ρ hρ w hSw => ?_) ?_
         rotate_left
         ·(have hc := hρ.const; have e138 := Eq.trans (hρ.tmp hsz 138 rfl) (miss4 rfl rfl rfl rfl (miss4 rfl rfl rfl rfl lkp_hit)); have e146 := Eq.trans (hρ.tmp hsz 146 rfl) lkp_hit; clear hρ; (try dsimp only at hSw); go_simp; try with_reducible rfl)
         show wpOrd _ _ _ _ _ _ _ _
         refine ord_move (i := 22) (d := 148) (v := ?_) rfl rfl rfl (wanted_none rfl) hHeld (fun ρ hρ => ?_) ?_
         rotate_left
         ·(have e147 := Eq.trans (hρ.tmp hsz 147 rfl) lkp_hit; exact e147)
         show wpOrd _ _ _ _ _ _ _ _
         refine ord_move (i := 23) (d := 149) (v := ?_) rfl rfl rfl (wanted_yes (j := 22) (dj := 148) (b := true) rfl hsz rfl rfl rfl lkp_hit) hHeld (fun ρ hρ => ?_) ?_
         rotate_left
         ·(have e9 := Eq.trans (hρ.tmp hsz 9 rfl) (miss4 rfl rfl rfl rfl (miss4 rfl rfl rfl rfl (miss4 rfl rfl rfl rfl (miss4 rfl rfl rfl rfl (miss4 rfl rfl rfl rfl (miss1 rfl (miss1 rfl (miss1 rfl (lkp_base b9))))))))); exact e9)
         show wpOrd _ _ _ _ _ _ _ _
         refine ord_move (i := 25) (d := 151) (v := ?_) rfl rfl rfl (wanted_yes (j := 22) (dj := 148) (b := true) rfl hsz rfl rfl rfl (miss1 rfl lkp_hit)) hHeld (fun ρ hρ => ?_) ?_
         rotate_left
         ·(have e18 := Eq.trans (hρ.tmp hsz 18 rfl) (miss4 rfl rfl rfl rfl (miss4 rfl rfl rfl rfl (miss4 rfl rfl rfl rfl (miss4 rfl rfl rfl rfl (miss4 rfl rfl rfl rfl (miss4 rfl rfl rfl rfl (lkp_base b18))))))); exact e18)
         show wpOrd _ _ _ _ _ _ _ _
         refine ord_call (i := 24) (d := 150) (vs := ?_) rfl rfl rfl (wanted_yes (j := 22) (dj := 148) (b := true) rfl hsz rfl rfl rfl (miss1 rfl (miss1 rfl lkp_hit))) (fun ρ hρ => ?_) ?_ ?_
         rotate_left
         ·(have hc := hρ.const; have e149 := Eq.trans (hρ.tmp hsz 149 rfl) (miss1 rfl lkp_hit); simp only [List.map_toArray, List.map_cons, List.map_nil, e149, hc]; try with_reducible rfl)
         ·(intro w; go_simp)
         refine (rhasb_any AX kX cX (hzAt nn ns ds s d 2 co ls pr ⟨nm, 4, xa, xb, xc⟩) 5 WE.drew HSXE.out).mono ?_
         rintro e w40 ⟨rfl, rfl⟩
         rw [H5.out]
         refine ⟨_, rfl, fun _ => ?_, fun hHeld' => ?_⟩
         ·exact HC24.out
         replace hHeld := hHeld' rfl
         clear hHeld'
         try dsimp only at hHeld
         show wpOrd _ _ _ _ _ _ _ _
         refine ord_take (i := 26) (d := 152) (v := ?_) rfl rfl (wanted_yes (j := 22) (dj := 148) (b := true) rfl hsz rfl rfl rfl (miss1 rfl (miss1 rfl (miss1 rfl lkp_hit)))) hHeld (fun ρ hρ w hSw => ?_) ?_
         rotate_left
         ·(have e150 := Eq.trans (hρ.tmp hsz 150 rfl) lkp_hit; have e151 := Eq.trans (hρ.tmp hsz 151 rfl) (miss1 rfl lkp_hit); clear hρ; (try dsimp only at hSw); go_simp; try with_reducible rfl)
         show wpOrd _ _ _ _ _ _ _ _
         refine ord_take (i := 27) (d := 153) (v := ?_) rfl rfl (wanted_none rfl) hHeld (fun ρ hρ w hSw => ?_) ?_
         rotate_left
         ·(have hc := hρ.const; have e148 := Eq.trans (hρ.tmp hsz 148 rfl) (miss4 rfl rfl rfl rfl lkp_hit); have e152 := Eq.trans (hρ.tmp hsz 152 rfl) lkp_hit; clear hρ; (try dsimp only at hSw); go_simp; try with_reducible rfl)
         show wpOrd _ _ _ _ _ _ _ _
         refine ord_move (i := 28) (d := 154) (v := ?_) rfl rfl rfl (wanted_none rfl) hHeld (fun ρ hρ => ?_) ?_
         rotate_left
         ·(have e153 := Eq.trans (hρ.tmp hsz 153 rfl) lkp_hit; exact e153)
         show wpOrd _ _ _ _ _ _ _ _
         refine ord_call (i := 29) (d := 155) (vs := ?_) rfl rfl rfl (wanted_yes (j := 28) (dj := 154) (b := true) rfl hsz rfl rfl rfl lkp_hit) (fun ρ hρ => ?_) ?_ ?_
         rotate_left
         ·(simp only [List.map_toArray, List.map_nil]; try with_reducible rfl)
         ·(intro w; go_simp)
         refine (awake_any WE.drew (HA3.out _ (HK3.out.later HME.out (Below.refl _ _).drew)).1.1.la).mono ?_
         rintro e w41 ⟨rfl, hbE⟩
         have HME2 := Lib.hid (HK3.out.later HME.out ((Below.refl _ _).drew.trans hbE))
         have HVE2 := Lib.hid (Blk.below (w := WE.drew) HVE.out hbE HVE.out.lt)
         refine ⟨_, rfl, fun _ => ?_, fun hHeld' => ?_⟩
         ·exact ⟨HVE2.out.cell 4, (HA3.out _ HME2.out).2.1.cell 0⟩
         replace hHeld := hHeld' rfl
         clear hHeld'
         try dsimp only at hHeld
         show wpOrd _ _ _ _ _ _ _ _
         refine ord_take (i := 30) (d := 156) (v := ?_) rfl rfl (wanted_none rfl) hHeld (fun ρ hρ w hSw => ?_) ?_
         rotate_left
         ·(have hc := hρ.const; have e154 := Eq.trans (hρ.tmp hsz 154 rfl) (miss1 rfl lkp_hit); have e155 := Eq.trans (hρ.tmp hsz 155 rfl) lkp_hit; clear hρ; (try dsimp only at hSw); go_simp; try with_reducible rfl)
         show wpOrd _ _ _ _ _ _ _ _
         refine ord_take (i := 31) (d := 2) (v := ?_) rfl rfl (wanted_none rfl) hHeld (fun ρ hρ w hSw => ?_) ?_
         rotate_left
         ·(have e156 := Eq.trans (hρ.tmp hsz 156 rfl) lkp_hit; clear hρ; (try dsimp only at hSw); go_simp; try with_reducible rfl)
         show wpOrd _ _ _ _ _ _ _ _
         refine ord_done hn2 ?_
         clear hHeld hn2 b10 b12 b9 b14 b17 b7 b18 hsz A Q2
         simp only [puts_nil, puts_cons, put_lit, set_1, set_0]
         go_wp2_with fail
         go_ret
         exact ⟨rfl, (HA3.out _ HME2.out).1.1.bl⟩
      ·have qk : (kd == 4) = false := by simpa using hk4
       have hu : unpB kd p sd pr xa = false := by simp [unpB, hk4]
       rw [hu] at H5
       clear hu hk4
       go_upto_region 24 with (fail)
       clear v1 v2 o0 o1 g2 sdc qk
       refine wp_region_ord (S := fun W' => W'.cell? ⟨vb, 4, none⟩ = some (.int .i64 xc) ∧ W'.cell? ⟨x7, 0, none⟩ = some (.int .i64 co)) (J := []) (n := _) ((0, true) :: (1, true) :: (2, true) :: (3, true) :: (4, true) :: (5, true) :: (6, true) :: (7, true) :: (9, true) :: (8, false) :: (10, true) :: (11, true) :: (12, true) :: (13, true) :: (15, true) :: (16, true) :: (17, true) :: (18, true) :: (19, true) :: (14, false) :: (20, true) :: (21, true) :: (22, true) :: (23, true) :: (25, true) :: (24, false) :: (26, true) :: (27, true) :: (28, true) :: (29, false) :: (30, true) :: (31, true) :: []) (by as_aux_lemma => kernel_rfl) (by rfl) (base_cons (k := 10) (by go_simp; rfl) (base_cons (k := 12) (by go_simp; rfl) (base_cons (k := 9) (by go_simp; rfl) (base_cons (k := 14) (by go_simp; rfl) (base_cons (k := 17) (by go_simp; rfl) (base_cons (k := 7) (by go_simp; rfl) (base_cons (k := 18) (by go_simp; rfl) base_nil))))))) ?_ (fun _ _ _ _ _ h => h) (fun Q2 A hsz hbase hn2 hHeld => ?_)
       ·exact HC24.out
       try dsimp only at hHeld
       obtain ⟨b10, b12, b9, b14, b17, b7, b18, -⟩ := hbase
       refine ord_move (i := 0) (d := 126) (v := ?_) rfl rfl rfl (wanted_none rfl) hHeld (fun ρ hρ => ?_) ?_
       rotate_left
       ·(have e10 := Eq.trans (hρ.tmp hsz 10 rfl) (lkp_base b10); exact e10)
       show wpOrd _ _ _ _ _ _ _ _
       refine ord_take (i := 1) (d := 127) (v := ?_) rfl rfl (wanted_none rfl) hHeld (fun ρ hρ w hSw => ?_) ?_
       rotate_left
       ·(have hc := hρ.const; have e126 := Eq.trans (hρ.tmp hsz 126 rfl) lkp_hit; clear hρ; (try dsimp only at hSw); go_simp; try with_reducible rfl)
       show wpOrd _ _ _ _ _ _ _ _
       refine ord_move (i := 2) (d := 128) (v := ?_) rfl rfl rfl (wanted_none rfl) hHeld (fun ρ hρ => ?_) ?_
       rotate_left
       ·(have e127 := Eq.trans (hρ.tmp hsz 127 rfl) lkp_hit; exact e127)
       show wpOrd _ _ _ _ _ _ _ _
       refine ord_move (i := 3) (d := 129) (v := ?_) rfl rfl rfl (wanted_yes (j := 2) (dj := 128) (b := true) rfl hsz rfl rfl rfl lkp_hit) hHeld (fun ρ hρ => ?_) ?_
       rotate_left
       ·(have e12 := Eq.trans (hρ.tmp hsz 12 rfl) (miss1 rfl (miss1 rfl (miss1 rfl (lkp_base b12)))); exact e12)
       show wpOrd _ _ _ _ _ _ _ _
       refine ord_take (i := 4) (d := 130) (v := ?_) rfl rfl (wanted_yes (j := 2) (dj := 128) (b := true) rfl hsz rfl rfl rfl (miss1 rfl lkp_hit)) hHeld (fun ρ hρ w hSw => ?_) ?_
       rotate_left
       ·(have hc := hρ.const; have e129 := Eq.trans (hρ.tmp hsz 129 rfl) lkp_hit; clear hρ; (try dsimp only at hSw); go_simp; try with_reducible rfl)
       show wpOrd _ _ _ _ _ _ _ _
       refine ord_take (i := 5) (d := 131) (v := ?_) rfl rfl (wanted_none rfl) hHeld (fun ρ hρ w hSw => ?_) ?_
       rotate_left
       ·(have hc := hρ.const; have e128 := Eq.trans (hρ.tmp hsz 128 rfl) (miss1 rfl (miss1 rfl lkp_hit)); have e130 := Eq.trans (hρ.tmp hsz 130 rfl) lkp_hit; clear hρ; (try dsimp only at hSw); go_simp; try with_reducible rfl)
       show wpOrd _ _ _ _ _ _ _ _
       refine ord_move (i := 6) (d := 132) (v := ?_) rfl rfl rfl (wanted_none rfl) hHeld (fun ρ hρ => ?_) ?_
       rotate_left
       ·(have e131 := Eq.trans (hρ.tmp hsz 131 rfl) lkp_hit; exact e131)
       show wpOrd _ _ _ _ _ _ _ _
       refine ord_move (i := 7) (d := 133) (v := ?_) rfl rfl rfl (wanted_yes (j := 6) (dj := 132) (b := true) rfl hsz rfl rfl rfl lkp_hit) hHeld (fun ρ hρ => ?_) ?_
       rotate_left
       ·(have e9 := Eq.trans (hρ.tmp hsz 9 rfl) (miss4 rfl rfl rfl rfl (miss1 rfl (miss1 rfl (miss1 rfl (lkp_base b9))))); exact e9)
       show wpOrd _ _ _ _ _ _ _ _
       refine ord_move (i := 9) (d := 135) (v := ?_) rfl rfl rfl (wanted_yes (j := 6) (dj := 132) (b := true) rfl hsz rfl rfl rfl (miss1 rfl lkp_hit)) hHeld (fun ρ hρ => ?_) ?_
       rotate_left
       ·(have e14 := Eq.trans (hρ.tmp hsz 14 rfl) (miss4 rfl rfl rfl rfl (miss4 rfl rfl rfl rfl (lkp_base b14))); exact e14)
       show wpOrd _ _ _ _ _ _ _ _
       refine ord_call (i := 8) (d := 134) (vs := ?_) rfl rfl rfl (wanted_yes (j := 6) (dj := 132) (b := true) rfl hsz rfl rfl rfl (miss1 rfl (miss1 rfl lkp_hit))) (fun ρ hρ => ?_) ?_ ?_
       rotate_left
       ·(have hc := hρ.const; have e133 := Eq.trans (hρ.tmp hsz 133 rfl) (miss1 rfl lkp_hit); simp only [List.map_toArray, List.map_cons, List.map_nil, e133, hc]; try with_reducible rfl)
       ·(intro w; go_simp)
       refine (rhasb_any AX kX cX (hzAt nn ns ds s d p co ls pr ⟨nm, kd, xa, xb, xc⟩) 4 WE.drew HSXE.out).mono ?_
       rintro e w40 ⟨rfl, rfl⟩
       rw [H4.out]
       refine ⟨_, rfl, fun _ => ?_, fun hHeld' => ?_⟩
       ·exact HC24.out
       replace hHeld := hHeld' rfl
       clear hHeld'
       try dsimp only at hHeld
       show wpOrd _ _ _ _ _ _ _ _
       refine ord_take (i := 10) (d := 136) (v := ?_) rfl rfl (wanted_yes (j := 6) (dj := 132) (b := true) rfl hsz rfl rfl rfl (miss1 rfl (miss1 rfl (miss1 rfl lkp_hit)))) hHeld (fun ρ hρ w hSw => ?_) ?_
       rotate_left
       ·(have e134 := Eq.trans (hρ.tmp hsz 134 rfl) lkp_hit; have e135 := Eq.trans (hρ.tmp hsz 135 rfl) (miss1 rfl lkp_hit); clear hρ; (try dsimp only at hSw); go_simp; try with_reducible rfl)
       show wpOrd _ _ _ _ _ _ _ _
       refine ord_take (i := 11) (d := 137) (v := ?_) rfl rfl (wanted_none rfl) hHeld (fun ρ hρ w hSw => ?_) ?_
       rotate_left
       ·(have hc := hρ.const; have e132 := Eq.trans (hρ.tmp hsz 132 rfl) (miss4 rfl rfl rfl rfl lkp_hit); have e136 := Eq.trans (hρ.tmp hsz 136 rfl) lkp_hit; clear hρ; (try dsimp only at hSw); go_simp; try with_reducible rfl)
       show wpOrd _ _ _ _ _ _ _ _
       refine ord_move (i := 12) (d := 138) (v := ?_) rfl rfl rfl (wanted_none rfl) hHeld (fun ρ hρ => ?_) ?_
       rotate_left
       ·(have e137 := Eq.trans (hρ.tmp hsz 137 rfl) lkp_hit; exact e137)
       show wpOrd _ _ _ _ _ _ _ _
       refine ord_move (i := 13) (d := 139) (v := ?_) rfl rfl rfl (wanted_yes (j := 12) (dj := 138) (b := true) rfl hsz rfl rfl rfl lkp_hit) hHeld (fun ρ hρ => ?_) ?_
       rotate_left
       ·(have e9 := Eq.trans (hρ.tmp hsz 9 rfl) (miss4 rfl rfl rfl rfl (miss4 rfl rfl rfl rfl (miss4 rfl rfl rfl rfl (miss1 rfl (lkp_base b9))))); exact e9)
       show wpOrd _ _ _ _ _ _ _ _
       refine ord_take (i := 15) (d := 141) (v := ?_) rfl rfl (wanted_yes (j := 12) (dj := 138) (b := true) rfl hsz rfl rfl rfl (miss1 rfl lkp_hit)) hHeld (fun ρ hρ w hSw => ?_) ?_
       rotate_left
       ·(have e17 := Eq.trans (hρ.tmp hsz 17 rfl) (miss4 rfl rfl rfl rfl (miss4 rfl rfl rfl rfl (miss4 rfl rfl rfl rfl (miss1 rfl (miss1 rfl (lkp_base b17)))))); clear hρ; (try dsimp only at hSw); go_simp; try with_reducible rfl)
       show wpOrd _ _ _ _ _ _ _ _
       refine ord_take (i := 16) (d := 142) (v := ?_) rfl rfl (wanted_yes (j := 12) (dj := 138) (b := true) rfl hsz rfl rfl rfl (miss1 rfl (miss1 rfl lkp_hit))) hHeld (fun ρ hρ w hSw => ?_) ?_
       rotate_left
       ·(have e141 := Eq.trans (hρ.tmp hsz 141 rfl) lkp_hit; clear hρ; (try dsimp only at hSw); go_simp; try with_reducible rfl)
       show wpOrd _ _ _ _ _ _ _ _
       refine ord_take (i := 17) (d := 143) (v := ?_) rfl rfl (wanted_yes (j := 12) (dj := 138) (b := true) rfl hsz rfl rfl rfl (miss1 rfl (miss1 rfl (miss1 rfl lkp_hit)))) hHeld (fun ρ hρ w hSw => ?_) ?_
       rotate_left
       ·(have e7 := Eq.trans (hρ.tmp hsz 7 rfl) (miss4 rfl rfl rfl rfl (miss4 rfl rfl rfl rfl (miss4 rfl rfl rfl rfl (miss4 rfl rfl rfl rfl (lkp_base b7))))); clear hρ; (try dsimp only at hSw); go_simp; try with_reducible rfl)
       show wpOrd _ _ _ _ _ _ _ _
       refine ord_take (i := 18) (d := 144) (v := ?_) rfl rfl (wanted_yes (j := 12) (dj := 138) (b := true) rfl hsz rfl rfl rfl (miss4 rfl rfl rfl rfl lkp_hit)) hHeld (fun ρ hρ w hSw => ?_) ?_
       rotate_left
       ·(have e143 := Eq.trans (hρ.tmp hsz 143 rfl) lkp_hit; clear hρ; (try dsimp only at hSw); go_simp; try with_reducible rfl)
       show wpOrd _ _ _ _ _ _ _ _
       refine ord_take (i := 19) (d := 145) (v := ?_) rfl rfl (wanted_yes (j := 12) (dj := 138) (b := true) rfl hsz rfl rfl rfl (miss4 rfl rfl rfl rfl (miss1 rfl lkp_hit))) hHeld (fun ρ hρ w hSw => ?_) ?_
       rotate_left
       ·(have e142 := Eq.trans (hρ.tmp hsz 142 rfl) (miss1 rfl (miss1 rfl lkp_hit)); have e144 := Eq.trans (hρ.tmp hsz 144 rfl) lkp_hit; clear hρ; (try dsimp only at hSw); go_simp; try with_reducible rfl)
       show wpOrd _ _ _ _ _ _ _ _
       refine ord_call (i := 14) (d := 140) (vs := ?_) rfl rfl rfl (wanted_yes (j := 12) (dj := 138) (b := true) rfl hsz rfl rfl rfl (miss4 rfl rfl rfl rfl (miss1 rfl (miss1 rfl lkp_hit)))) (fun ρ hρ => ?_) ?_ ?_
       rotate_left
       ·(have hc := hρ.const; have e139 := Eq.trans (hρ.tmp hsz 139 rfl) (miss4 rfl rfl rfl rfl (miss1 rfl lkp_hit)); simp only [List.map_toArray, List.map_cons, List.map_nil, e139, hc]; try with_reducible rfl)
       ·(intro w; go_simp)
       refine (rhasb_any AX kX cX (hzAt nn ns ds s d p co ls pr ⟨nm, kd, xa, xb, xc⟩) 6 WE.drew HSXE.out).mono ?_
       rintro e w40 ⟨rfl, rfl⟩
       rw [H6.out]
       refine ⟨_, rfl, fun _ => ?_, fun hHeld' => ?_⟩
       ·exact HC24.out
       replace hHeld := hHeld' rfl
       clear hHeld'
       try dsimp only at hHeld
       show wpOrd _ _ _ _ _ _ _ _
       refine ord_take (i := 20) (d := 146) (v := ?_) rfl rfl (wanted_yes (j := 12) (dj := 138) (b := true) rfl hsz rfl rfl rfl (miss4 rfl rfl rfl rfl (miss1 rfl (miss1 rfl (miss1 rfl lkp_hit))))) hHeld (fun ρ hρ w hSw => ?_) ?_
       rotate_left
       ·(have e140 := Eq.trans (hρ.tmp hsz 140 rfl) lkp_hit; have e145 := Eq.trans (hρ.tmp hsz 145 rfl) (miss1 rfl lkp_hit); clear hρ; (try dsimp only at hSw); go_simp; try with_reducible rfl)
       show wpOrd _ _ _ _ _ _ _ _
       refine ord_take (i := 21) (d := 147) (v := ?_) rfl rfl (wanted_none rfl) hHeld (fun ρ hρ w hSw => ?_) ?_
       rotate_left
       ·(have hc := hρ.const; have e138 := Eq.trans (hρ.tmp hsz 138 rfl) (miss4 rfl rfl rfl rfl (miss4 rfl rfl rfl rfl lkp_hit)); have e146 := Eq.trans (hρ.tmp hsz 146 rfl) lkp_hit; clear hρ; (try dsimp only at hSw); go_simp; try with_reducible rfl)
       show wpOrd _ _ _ _ _ _ _ _
       refine ord_move (i := 22) (d := 148) (v := ?_) rfl rfl rfl (wanted_none rfl) hHeld (fun ρ hρ => ?_) ?_
       rotate_left
       ·(have e147 := Eq.trans (hρ.tmp hsz 147 rfl) lkp_hit; exact e147)
       show wpOrd _ _ _ _ _ _ _ _
       refine ord_move (i := 23) (d := 149) (v := ?_) rfl rfl rfl (wanted_yes (j := 22) (dj := 148) (b := true) rfl hsz rfl rfl rfl lkp_hit) hHeld (fun ρ hρ => ?_) ?_
       rotate_left
       ·(have e9 := Eq.trans (hρ.tmp hsz 9 rfl) (miss4 rfl rfl rfl rfl (miss4 rfl rfl rfl rfl (miss4 rfl rfl rfl rfl (miss4 rfl rfl rfl rfl (miss4 rfl rfl rfl rfl (miss1 rfl (miss1 rfl (miss1 rfl (lkp_base b9))))))))); exact e9)
       show wpOrd _ _ _ _ _ _ _ _
       refine ord_move (i := 25) (d := 151) (v := ?_) rfl rfl rfl (wanted_yes (j := 22) (dj := 148) (b := true) rfl hsz rfl rfl rfl (miss1 rfl lkp_hit)) hHeld (fun ρ hρ => ?_) ?_
       rotate_left
       ·(have e18 := Eq.trans (hρ.tmp hsz 18 rfl) (miss4 rfl rfl rfl rfl (miss4 rfl rfl rfl rfl (miss4 rfl rfl rfl rfl (miss4 rfl rfl rfl rfl (miss4 rfl rfl rfl rfl (miss4 rfl rfl rfl rfl (lkp_base b18))))))); exact e18)
       show wpOrd _ _ _ _ _ _ _ _
       refine ord_call (i := 24) (d := 150) (vs := ?_) rfl rfl rfl (wanted_yes (j := 22) (dj := 148) (b := true) rfl hsz rfl rfl rfl (miss1 rfl (miss1 rfl lkp_hit))) (fun ρ hρ => ?_) ?_ ?_
       rotate_left
       ·(have hc := hρ.const; have e149 := Eq.trans (hρ.tmp hsz 149 rfl) (miss1 rfl lkp_hit); simp only [List.map_toArray, List.map_cons, List.map_nil, e149, hc]; try with_reducible rfl)
       ·(intro w; go_simp)
       refine (rhasb_any AX kX cX (hzAt nn ns ds s d p co ls pr ⟨nm, kd, xa, xb, xc⟩) 5 WE.drew HSXE.out).mono ?_
       rintro e w40 ⟨rfl, rfl⟩
       rw [H5.out]
       refine ⟨_, rfl, fun _ => ?_, fun hHeld' => ?_⟩
       ·exact HC24.out
       replace hHeld := hHeld' rfl
       clear hHeld'
       try dsimp only at hHeld
       show wpOrd _ _ _ _ _ _ _ _
       refine ord_take (i := 26) (d := 152) (v := ?_) rfl rfl (wanted_yes (j := 22) (dj := 148) (b := true) rfl hsz rfl rfl rfl (miss1 rfl (miss1 rfl (miss1 rfl lkp_hit)))) hHeld (fun ρ hρ w hSw => ?_) ?_
       rotate_left
       ·(have e150 := Eq.trans (hρ.tmp hsz 150 rfl) lkp_hit; have e151 := Eq.trans (hρ.tmp hsz 151 rfl) (miss1 rfl lkp_hit); clear hρ; (try dsimp only at hSw); go_simp; try with_reducible rfl)
       show wpOrd _ _ _ _ _ _ _ _
       refine ord_take (i := 27) (d := 153) (v := ?_) rfl rfl (wanted_none rfl) hHeld (fun ρ hρ w hSw => ?_) ?_
       rotate_left
       ·(have hc := hρ.const; have e148 := Eq.trans (hρ.tmp hsz 148 rfl) (miss4 rfl rfl rfl rfl lkp_hit); have e152 := Eq.trans (hρ.tmp hsz 152 rfl) lkp_hit; clear hρ; (try dsimp only at hSw); go_simp; try with_reducible rfl)
       show wpOrd _ _ _ _ _ _ _ _
       refine ord_move (i := 28) (d := 154) (v := ?_) rfl rfl rfl (wanted_none rfl) hHeld (fun ρ hρ => ?_) ?_
       rotate_left
       ·(have e153 := Eq.trans (hρ.tmp hsz 153 rfl) lkp_hit; exact e153)
       show wpOrd _ _ _ _ _ _ _ _
       refine ord_call (i := 29) (d := 155) (vs := ?_) rfl rfl rfl (wanted_yes (j := 28) (dj := 154) (b := true) rfl hsz rfl rfl rfl lkp_hit) (fun ρ hρ => ?_) ?_ ?_
       rotate_left
       ·(simp only [List.map_toArray, List.map_nil]; try with_reducible rfl)
       ·(intro w; go_simp)
       refine (awake_any WE.drew (HA3.out _ (HK3.out.later HME.out (Below.refl _ _).drew)).1.1.la).mono ?_
       rintro e w41 ⟨rfl, hbE⟩
       have HME2 := Lib.hid (HK3.out.later HME.out ((Below.refl _ _).drew.trans hbE))
       have HVE2 := Lib.hid (Blk.below (w := WE.drew) HVE.out hbE HVE.out.lt)
       refine ⟨_, rfl, fun _ => ?_, fun hHeld' => ?_⟩
       ·exact ⟨HVE2.out.cell 4, (HA3.out _ HME2.out).2.1.cell 0⟩
       replace hHeld := hHeld' rfl
       clear hHeld'
       try dsimp only at hHeld
       show wpOrd _ _ _ _ _ _ _ _
       refine ord_take (i := 30) (d := 156) (v := ?_) rfl rfl (wanted_none rfl) hHeld (fun ρ hρ w hSw => ?_) ?_
       rotate_left
       ·(have hc := hρ.const; have e154 := Eq.trans (hρ.tmp hsz 154 rfl) (miss1 rfl lkp_hit); have e155 := Eq.trans (hρ.tmp hsz 155 rfl) lkp_hit; clear hρ; (try dsimp only at hSw); go_simp; try with_reducible rfl)
       show wpOrd _ _ _ _ _ _ _ _
       refine ord_take (i := 31) (d := 2) (v := ?_) rfl rfl (wanted_none rfl) hHeld (fun ρ hρ w hSw => ?_) ?_
       rotate_left
       ·(have e156 := Eq.trans (hρ.tmp hsz 156 rfl) lkp_hit; clear hρ; (try dsimp only at hSw); go_simp; try with_reducible rfl)
       show wpOrd _ _ _ _ _ _ _ _
       refine ord_done hn2 ?_
       clear hHeld hn2 b10 b12 b9 b14 b17 b7 b18 hsz A Q2
       simp only [puts_nil, puts_cons, put_lit, set_1, set_0]
       go_wp2_with fail
       go_ret
       exact ⟨rfl, (HA3.out _ HME2.out).1.1.bl⟩
end Go.Proofs.YtdpmfdcackoegaaGreatDoor
