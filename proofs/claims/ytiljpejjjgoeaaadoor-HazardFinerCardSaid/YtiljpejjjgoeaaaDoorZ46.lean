import Derived.Test.YtiljpejjjgoeaaaDoorZ23
import Derived.Test.YtiljpejjjgoeaaaDoorZ00
import Derived.Deep.LoopGhost
import Derived.Deep.DeepCutAuto
/-
  A drawn region in which some operations (allocs) may come anywhere beside a chain of calls: what holds is said by what is left to do.
-/
namespace Go.Proofs.YtiljpejjjgoeaaaDoor
open Go.RowKit
section
variable {P : Program} {ops : Array Oper} {Q : Exit → Act → World → Prop} {md : Region.Mode} {S : World → Prop} {J : List Nat}
/-- What is left: the calls C, in their order, and D, which may come anywhere. -/
def latOk (md : Region.Mode) (ops : Array Oper) (fin : Array Bool) : Nat → List Nat → List Nat → Array Bool → Bool
  | 0, C, D, listed => C.isEmpty && D.isEmpty && listed == fin
  | n + 1, C, D, listed => !(Region.ready md ops listed).isEmpty && (Region.ready md ops listed).all (fun i => C.head? == some i || D.contains i) &&
      (match C with | c :: cs => latOk md ops fin n cs D (listed.setIfInBounds c true) | [] => true) && D.all (fun i => latOk md ops fin n C (D.erase i) (listed.setIfInBounds i true))
theorem wpAnyJ_lat {Φ : List Nat → List Nat → Act → World → Prop} {m : Nat} {fin : Array Bool}
    (hc : ∀ c cs D a w, Φ (c :: cs) D a w → wpOp P ops Q c (fun a' w' => (J.contains c = false → S w') ∧ Φ cs D a' w') a w)
    (hd : ∀ C D i a w, i ∈ D → Φ C D a w → wpOp P ops Q i (fun a' w' => (J.contains i = false → S w') ∧ Φ C (D.erase i) a' w') a w)
    (he : ∀ a w, Φ [] [] a w → wpAnyJ P md ops Q S J m fin a w) :
    ∀ (n : Nat) (C D : List Nat) (listed : Array Bool) (a : Act) (w : World), latOk md ops fin n C D listed = true → Φ C D a w → wpAnyJ P md ops Q S J (n + m) listed a w
  | 0, C, D, listed, a, w, hk, h => by
    simp only [latOk, Bool.and_eq_true, List.isEmpty_iff, beq_iff_eq] at hk
    obtain ⟨⟨rfl, rfl⟩, rfl⟩ := hk
    rw [Nat.zero_add]
    exact he a w h
  | n + 1, C, D, listed, a, w, hk, h => by
    simp only [latOk, Bool.and_eq_true] at hk
    obtain ⟨⟨⟨h1, h2⟩, h3⟩, h4⟩ := hk
    rw [Nat.add_right_comm]
    refine ⟨fun h0 => (by rw [h0] at h1; cases h1), fun j hj => ?_⟩
    have h5 := List.all_eq_true.1 h2 j hj
    rw [Bool.or_eq_true] at h5
    rcases h5 with h5 | h5
    · rcases C with _ | ⟨c, cs⟩
      · cases h5
      · simp only [List.head?_cons, beq_iff_eq, Option.some.injEq] at h5
        subst h5
        exact wpOp_mono (fun a' w' h' => ⟨h'.1, wpAnyJ_lat hc hd he n cs D _ a' w' h3 h'.2⟩) (hc _ _ _ _ _ h)
    · have hj' : j ∈ D := by simpa using h5
      exact wpOp_mono (fun a' w' h' => ⟨h'.1, wpAnyJ_lat hc hd he n C (D.erase j) _ a' w' (List.all_eq_true.1 h4 j hj') h'.2⟩) (hd _ _ _ _ _ hj' h)
def chkPre (md : Region.Mode) (ops : Array Oper) (J : List Nat) (fin : Array Bool) : List (Nat × Bool) → Array Bool → Bool
  | [], listed => listed == fin
  | (i, true) :: r, listed => Region.free md ops listed i && (Region.ready md ops listed).contains i && closedB md ops listed && J.all (ancB md ops i ops.size) && chkPre md ops J fin r (listed.setIfInBounds i true)
  | (_, false) :: _, _ => false
/-- What comes behind the operations that are taken first. -/
def QR (Q : Exit → Act → World → Prop) (R : Act → World → Prop) : Exit → Act → World → Prop := fun ex a w => match ex with
  | .normal => R a w
  | ex => Q ex a w
theorem wpAnyJ_of_pre {R : Act → World → Prop} {m : Nat} {fin : Array Bool} (hs : Region.noSelect ops = true) (hQ : ∀ c a d v w, Q (.panic c) (a.put (some d) v) w → Q (.panic c) a w) (hR : ∀ a w, R a w → wpAnyJ P md ops Q S J m fin a w) :
    ∀ (tk : List (Nat × Bool)) (listed : Array Bool) (a : Act) (w : World), chkPre md ops J fin tk listed = true → wpOrd' P ops (QR Q R) S J tk a w → wpAnyJ P md ops Q S J (tk.length + m) listed a w
  | [], listed, a, w, hc, h => by
    have : listed = fin := by simpa [chkPre] using hc
    subst this
    rw [List.length_nil, Nat.zero_add]
    exact hR a w h
  | (i, true) :: r, listed, a, w, hc, h => by
    simp only [chkPre, Bool.and_eq_true] at hc
    obtain ⟨⟨⟨⟨h1, h2⟩, h3⟩, h4⟩, h5⟩ := hc
    obtain ⟨hS, oi, v, hoi, hy, hr⟩ := h
    rw [List.length_cons, Nat.add_right_comm]
    exact wpAnyJ_take hoi rfl hs h1 h2 h3 h4 (fun c a w q => by cases hd : oi.dst with | none => rw [hd] at q; exact q | some d => rw [hd] at q; exact hQ c a d v w q) hy hS (wpAnyJ_of_pre hs hQ hR r _ _ _ h5 hr)
  | (_, false) :: _, _, _, _, hc, _ => by cases hc
def latReg (P : Program) (ops : Array Oper) (J : List Nat) (pre : List (Nat × Bool)) (C D : List Nat) (post : List (Nat × Bool)) (f0 f1 : Array Bool) : Bool :=
  P.follows .mixedOrders && Region.noSelect ops && pre.length + ((C.length + D.length) + post.length) == ops.size && chkPre .any ops J f0 pre (Array.replicate ops.size false) && latOk .any ops f1 (C.length + D.length) C D f0 && chkOrd .any ops J post f1
/-- The region: the operations 'pre' are taken first; then the calls C in their order and D anywhere; then 'post'. -/
theorem wp_region_lat {id : Nat} {a : Act} {w : World} {base : List (Nat × Value)} {n : Nat} (pre post : List (Nat × Bool)) (C D : List Nat) (f0 f1 : Array Bool) (hk : latReg P ops J pre C D post f0 f1 = true) (hn : a.tmps.size = n) (hb : BaseOk a base) (hS : S w.drew) (hq : ∀ c a d v w, Q (.panic c) (a.put (some d) v) w → Q (.panic c) a w)
    (h : ∀ (Q2 : Exit → Act → World → Prop) (A : Act), A.tmps.size = n → BaseOk A base → Hid (∀ L w', Q .normal (puts a L) w' → Q2 .normal (puts A L) w') → S w.drew →
      ∃ Φ : List Nat → List Nat → Act → World → Prop, wpOrd P ops (QR Q2 (Φ C D)) S J pre (puts A []) w.drew ∧
        (∀ c cs D a w, Φ (c :: cs) D a w → wpOp P ops Q2 c (fun a' w' => (J.contains c = false → S w') ∧ Φ cs D a' w') a w) ∧
        (∀ C D i a w, i ∈ D → Φ C D a w → wpOp P ops Q2 i (fun a' w' => (J.contains i = false → S w') ∧ Φ C (D.erase i) a' w') a w) ∧
        (∀ a w, Φ [] [] a w → wpOrd P ops Q2 S J post a w)) : (Code.region id ops true).wp P Q a w := by
  simp only [latReg, Bool.and_eq_true, beq_iff_eq] at hk
  obtain ⟨⟨⟨⟨⟨h1, h2⟩, h3⟩, h4⟩, h5⟩, h6⟩ := hk
  refine wp_region_J (J := J) h1 hS (fun hS => ?_)
  obtain ⟨Φ, k1, k2, k3, k4⟩ := h Q a hn hb (fun L w' h => h) hS
  have e : ∀ a w, Φ [] [] a w → wpAnyJ P .any ops Q S J post.length f1 a w := fun a w hΦ => by
    have := wpAnyJ_of_ord (P := P) h2 hq post 0 _ _ _ h6 (k4 a w hΦ).out
    rwa [Nat.add_zero] at this
  have l : ∀ a w, Φ C D a w → wpAnyJ P .any ops Q S J ((C.length + D.length) + post.length) f0 a w := fun a w hΦ => wpAnyJ_lat k2 k3 e _ C D f0 a w h5 hΦ
  have := wpAnyJ_of_pre (P := P) h2 hq l pre _ _ _ h4 k1.out
  rw [h3] at this
  exact this
/-- The end of the operations that are taken first. -/
theorem lat_pre {R : Act → World → Prop} {a : Act} {w : World} (h : R a w) : wpOrd P ops (QR Q R) S J [] a w := ⟨h⟩
section
variable {A : Act} {L : List (Nat × Value)} {w : World} {n i d : Nat} {oi : Oper} {v : Value} {R : Act → World → Prop}
theorem lat_call {f : FuncId} {xs : Array Operand} {ats : Array TypeId} {vs : Array Value} (hi : ops[i]? = some oi) (hd : oi.dst = some d) (ho : oi.op = .call { callee := .value (.func f), args := xs, argTypes := ats }) (hg : oi.guard = none)
    (hx : ∀ ρ : Operand → Value, Rd A L ρ → xs.map ρ = vs) (hf : ∀ w, (callFunc f vs).run P w = .ok (.enter f vs) w)
    (h : Calls P f vs w (fun e w' => ∃ v, e = .returned v ∧ R (puts A ((d, v) :: L)) w')) : wpOp P ops Q i R (puts A L) w := by
  simp only [wpOp, hi, wanted_none hg, if_true]
  refine .inl ?_
  have he : (execOp (puts A L).eval oi).run P w = .ok (.enter f vs) w := by
    have := hf w
    rw [← hx _ rfl] at this ⊢
    unfold execOp
    rw [ho]
    rw [← this]
    have e0 : (#[] ++ xs.map (puts A L).eval ++ #[] : Array Value) = xs.map (puts A L).eval := by simp
    conv => rhs; rw [← e0]
    rfl
  rw [Oper.wp, he, Oper.upon_enter]
  refine h.mono ?_
  rintro e w' ⟨v, rfl, h1⟩
  simp only [hd]
  exact h1
theorem lat_run {w' : World} (hi : ops[i]? = some oi) (hd : oi.dst = some d) (hg : oi.guard = none)
    (hv : ∀ ρ : Operand → Value, Rd A L ρ → (execOp ρ oi).run P w = .ok (.value v) w') (h : R (puts A ((d, v) :: L)) w') : wpOp P ops Q i R (puts A L) w := by
  simp only [wpOp, hi, wanted_none hg, if_true]
  refine .inl ?_
  rw [Oper.wp, hv _ rfl, Oper.upon_value, hd]
  exact h
/-- A store. -/
theorem ord_store {w' : World} {r : List (Nat × Bool)} (hi : ops[i]? = some oi) (hd : oi.dst = none) (hw : Region.wanted oi (yielded ops (puts A L).tmps) = true)
    (hv : ∀ ρ : Operand → Value, Rd A L ρ → (execOp ρ oi).run P w = .ok .skip w') (hS : J.contains i = false → S w') (h : wpOrd P ops Q S J r (puts A L) w') : wpOrd P ops Q S J ((i, false) :: r) (puts A L) w := by
  refine ⟨?_⟩
  simp only [wpOrd', wpOp, hi, hw, if_true]
  refine .inl ?_
  rw [Oper.wp, hv _ rfl, Oper.upon_skip, hd]
  exact ⟨hS, h.out⟩
/-- An entry that may be there. -/
def optE (b : Bool) (k : Nat) (v : Value) : List (Nat × Value) := if b = true then [(k, v)] else []
theorem miss_opt {b : Bool} {n k : Nat} {u v d : Value} {L : List (Nat × Value)} (h : Nat.beq n k = false) (r : lkp L n d = u) : lkp (optE b k v ++ L) n d = u := by
  cases b
  · exact r
  · exact miss1 h r
theorem put_comm (a : Act) {k1 k2 : Nat} (h : k1 ≠ k2) (v1 v2 : Value) : (a.put (some k1) v1).put (some k2) v2 = (a.put (some k2) v2).put (some k1) v1 := by
  simp only [Act.put]
  rw [Array.setIfInBounds_comm _ _ h]
theorem puts_swap (A : Act) (L : List (Nat × Value)) {k1 k2 : Nat} (h : k1 ≠ k2) (v1 v2 : Value) : puts A ((k1, v1) :: (k2, v2) :: L) = puts A ((k2, v2) :: (k1, v1) :: L) := by
  simp only [puts]
  exact put_comm _ (Ne.symm h) _ _
theorem puts_cong (A : Act) {L L' : List (Nat × Value)} (h : puts A L = puts A L') (k : Nat) (v : Value) : puts A ((k, v) :: L) = puts A ((k, v) :: L') := by
  simp only [puts, h]
theorem puts_opt (A : Act) (L : List (Nat × Value)) {k1 k2 : Nat} (h : k1 ≠ k2) (b : Bool) (v1 v2 : Value) : puts A ((k1, v1) :: (optE b k2 v2 ++ L)) = puts A (optE b k2 v2 ++ ((k1, v1) :: L)) := by
  cases b
  · rfl
  · exact puts_swap A L h v1 v2
theorem puts_optc (A : Act) {L L' : List (Nat × Value)} (h : puts A L = puts A L') (b : Bool) (k : Nat) (v : Value) : puts A (optE b k v ++ L) = puts A (optE b k v ++ L') := by
  cases b
  · exact h
  · exact puts_cong A h k v
end
theorem lat_push (A : Act) {d d7 d8 : Nat} {v v7 v8 : Value} {b7 b8 : Bool} {Y : List (Nat × Value)} (h7 : d ≠ d7) (h8 : d ≠ d8) : puts A ((d, v) :: (optE b8 d8 v8 ++ (optE b7 d7 v7 ++ Y))) = puts A (optE b8 d8 v8 ++ (optE b7 d7 v7 ++ ((d, v) :: Y))) :=
  (puts_opt A _ h8 b8 v v8).trans (puts_optc A (puts_opt A Y h7 b7 v v7) b8 d8 v8)
def ptr (x : Nat) : Value := .pointer (some ⟨x, 0, none⟩)
/-- Two blocks that may have been laid. -/
structure LatMem (H : Nat) (T7 T8 : TypeId) (z7 z8 : Array Value) (b7 b8 : Bool) (x7 x8 : Nat) (w : World) : Prop where
  le : H ≤ w.heap.size
  m7 : b7 = true → Blk w x7 T7 z7 ∧ H ≤ x7
  m8 : b8 = true → Blk w x8 T8 z8 ∧ H ≤ x8
  ne : b7 = true → b8 = true → x7 ≠ x8
section
variable {H x7 x8 g : Nat} {T7 T8 : TypeId} {z7 z8 : Array Value} {b7 b8 : Bool} {w w' : World}
theorem LatMem.later (h : LatMem H T7 T8 z7 z8 b7 b8 x7 x8 w) (hb : Below w.heap.size w w') : LatMem H T7 T8 z7 z8 b7 b8 x7 x8 w' :=
  ⟨Nat.le_trans h.le hb.size, fun e => ⟨(h.m7 e).1.below hb (h.m7 e).1.lt, (h.m7 e).2⟩, fun e => ⟨(h.m8 e).1.below hb (h.m8 e).1.lt, (h.m8 e).2⟩, h.ne⟩
theorem LatMem.grown (h : LatMem H T7 T8 z7 z8 b7 b8 x7 x8 w) (hg : w.grownBy w' (some g)) (hl : g < H) : LatMem H T7 T8 z7 z8 b7 b8 x7 x8 w' :=
  ⟨Nat.le_trans h.le hg.size, fun e => ⟨(h.m7 e).1.grown hg (fun e2 => by have := (h.m7 e).2; injection e2 with e2; omega), (h.m7 e).2⟩, fun e => ⟨(h.m8 e).1.grown hg (fun e2 => by have := (h.m8 e).2; injection e2 with e2; omega), (h.m8 e).2⟩, h.ne⟩
theorem LatMem.start (w : World) (x7 x8 : Nat) : LatMem w.heap.size T7 T8 z7 z8 false false x7 x8 w := ⟨Nat.le_refl _, fun e => (by cases e), fun e => (by cases e), fun e => (by cases e)⟩
theorem LatMem.one7 (h : LatMem H T7 T8 z7 z8 b7 b8 x7 x8 w) : LatMem H T7 T8 z7 z8 true b8 w.heap.size x8 (w.alloc (.cells z7 T7)) :=
  ⟨by have := h.le; simp; omega, fun _ => ⟨Blk.new _ _ _, h.le⟩, fun e => ⟨(h.m8 e).1.alloc _, (h.m8 e).2⟩, fun _ e => by have := (h.m8 e).1.lt; omega⟩
theorem LatMem.one8 (h : LatMem H T7 T8 z7 z8 b7 b8 x7 x8 w) : LatMem H T7 T8 z7 z8 b7 true x7 w.heap.size (w.alloc (.cells z8 T8)) :=
  ⟨by have := h.le; simp; omega, fun e => ⟨(h.m7 e).1.alloc _, (h.m7 e).2⟩, fun _ => ⟨Blk.new _ _ _, h.le⟩, fun e _ => by have := (h.m7 e).1.lt; omega⟩
end
def ents : List (Nat × Nat) → List Value → List (Nat × Value)
  | c :: cs, v :: vs => ents cs vs ++ [(c.2, v)]
  | _, _ => []
/-- The frame and the memory at a point of the region: vs: what the calls so far gave. -/
def LatP (A : Act) (L0 : List (Nat × Value)) (i7 i8 d7 d8 H : Nat) (T7 T8 : TypeId) (z7 z8 : Array Value) (Cs : List (Nat × Nat)) (F : List Value → World → Prop) (C D : List Nat) (a : Act) (w : World) : Prop :=
  ∃ (vs : List Value) (x7 x8 : Nat), C = (Cs.drop vs.length).map (·.1) ∧ D.Nodup ∧ (∀ i ∈ D, i = i7 ∨ i = i8) ∧ a = puts A (optE (!D.contains i8) d8 (ptr x8) ++ (optE (!D.contains i7) d7 (ptr x7) ++ (ents Cs vs ++ L0))) ∧ F vs w ∧ LatMem H T7 T8 z7 z8 (!D.contains i7) (!D.contains i8) x7 x8 w
section
variable {A : Act} {L0 : List (Nat × Value)} {i7 i8 d7 d8 H n : Nat} {T7 T8 : TypeId} {z7 z8 : Array Value} {Cs : List (Nat × Nat)} {F : List Value → World → Prop} {C D : List Nat} {a : Act} {w : World} {o7 o8 : Oper}
theorem erase_self {D : List Nat} (h : D.Nodup) (i : Nat) : (D.erase i).contains i = false := by
  rw [← Bool.not_eq_true, List.contains_iff_mem]; exact h.not_mem_erase
theorem erase_other {D : List Nat} {i j : Nat} (h : j ≠ i) : (D.erase i).contains j = D.contains j := by
  rw [Bool.eq_iff_iff, List.contains_iff_mem, List.contains_iff_mem, List.mem_erase_of_ne h]
theorem LatP.alloc (hF : ∀ vs w o, F vs w → F vs (w.alloc o)) (h78 : i7 ≠ i8) (hd : d7 ≠ d8) (h7 : ops[i7]? = some o7) (h8 : ops[i8]? = some o8) (hd7 : o7.dst = some d7) (hd8 : o8.dst = some d8) (hg7 : o7.guard = none) (hg8 : o8.guard = none)
    (hr7 : ∀ ρ : Operand → Value, ∀ w, (execOp ρ o7).run P w = .ok (.value (ptr w.heap.size)) (w.alloc (.cells z7 T7))) (hr8 : ∀ ρ : Operand → Value, ∀ w, (execOp ρ o8).run P w = .ok (.value (ptr w.heap.size)) (w.alloc (.cells z8 T8)))
    (i : Nat) (hi : i ∈ D) (h : LatP A L0 i7 i8 d7 d8 H T7 T8 z7 z8 Cs F C D a w) : wpOp P ops Q i (fun a' w' => LatP A L0 i7 i8 d7 d8 H T7 T8 z7 z8 Cs F C (D.erase i) a' w') a w := by
  obtain ⟨vs, x7, x8, hC, hn, hD, rfl, hf, hm⟩ := h
  have hc : D.contains i = true := by rw [List.contains_iff_mem]; exact hi
  rcases hD i hi with rfl | rfl
  · refine lat_run h7 hd7 hg7 (fun ρ _ => hr7 ρ w) ?_
    refine ⟨vs, w.heap.size, x8, hC, hn.erase _, fun j hj => hD j (List.mem_of_mem_erase hj), ?_, hF _ _ _ hf, ?_⟩
    · rw [erase_self hn, erase_other (Ne.symm h78), hc]
      exact puts_opt A _ hd _ _ _
    · rw [erase_self hn, erase_other (Ne.symm h78)]
      exact hm.one7
  · refine lat_run h8 hd8 hg8 (fun ρ _ => hr8 ρ w) ?_
    refine ⟨vs, x7, w.heap.size, hC, hn.erase _, fun j hj => hD j (List.mem_of_mem_erase hj), ?_, hF _ _ _ hf, ?_⟩
    · rw [erase_self hn, erase_other h78, hc]
      rfl
    · rw [erase_self hn, erase_other h78]
      exact hm.one8
end
end
end Go.Proofs.YtiljpejjjgoeaaaDoor
/-
  Loops and cuts in a great frame: the slots that are written are the values of one function, so that one 'obtain' opens the frame.
-/
namespace Go.Proofs.YtiljpejjjgoeaaaDoor
open Go.RowKit
/-- The frame: runs (n, t) of n + 1 slots: t = 0: they stay; 1: they hold anything; j + 2: one slot, the j-th of the named values. -/
def relaxR (u v : Nat → Value) : List (Nat × Nat) → Nat → List Value → List Value
  | [], _, fr => fr
  | _ :: _, _, [] => []
  | (0, 0) :: rs, i, x :: fr => x :: relaxR u v rs (i + 1) fr
  | (n + 1, 0) :: rs, i, x :: fr => x :: relaxR u v ((n, 0) :: rs) (i + 1) fr
  | (0, 1) :: rs, i, _ :: fr => u i :: relaxR u v rs (i + 1) fr
  | (n + 1, 1) :: rs, i, _ :: fr => u i :: relaxR u v ((n, 1) :: rs) (i + 1) fr
  | (_, j + 2) :: rs, i, _ :: fr => v j :: relaxR u v rs (i + 1) fr
/-- The n-th slot. -/
def gt : List Value → Nat → Value
  | [], _ => undef
  | x :: _, 0 => x
  | _ :: xs, n + 1 => gt xs n
section
variable {P : Program} {Q : Exit → Act → World → Prop} {w : World} {c : Code} {fr fr' : List Value} {k n₀ : Nat}
def v1 (p : Value) : Nat → Value := fun _ => p
def LpI1 (rel : Nat → Value → World → Prop) (rs : List (Nat × Nat)) (fr : List Value) (k : Nat) (a : Act) (w : World) : Prop := ∃ u p, rel k p w ∧ a = ⟨(relaxR u (v1 p) rs 0 fr).toArray, []⟩
theorem wp_loop_u1 (rs : List (Nat × Nat)) (s1 : Nat) (n₀ : Nat) (rel : Nat → Value → World → Prop) (h₀ : rel n₀ (gt fr s1) w) (hv : relaxR (gt fr) (v1 (gt fr s1)) rs 0 fr = fr)
    (round : ∀ u p n w a, rel n p w → a = ⟨(relaxR u (v1 p) rs 0 fr).toArray, []⟩ → ∀ (J : Nat → Act → World → Prop) (K : Act → World → Prop), (∀ k a' w', LpI1 rel rs fr k a' w' → J k a' w') → (∀ a' w', Handed J n a' w' → K a' w') → c.wp P (Exit.then K Q) a w) : (Code.loop c).wp P Q ⟨fr.toArray, []⟩ w :=
  wp_loop_ghost_k (LpI1 rel rs fr) n₀ ⟨_, _, h₀, by rw [hv]⟩ fun n a w ⟨u, p, h, ha⟩ J K hJ hK => round u p n w a h ha J K hJ hK
theorem LpI1.back {rel : Nat → Value → World → Prop} {rs : List (Nat × Nat)} (s1 : Nat) (h : rel k (gt fr' s1) w) (hv : relaxR (gt fr') (v1 (gt fr' s1)) rs 0 fr = fr') : LpI1 rel rs fr k ⟨fr'.toArray, []⟩ w := ⟨_, _, h, by rw [hv]⟩
def v2 (p q : Value) : Nat → Value
  | 0 => p
  | _ => q
def LpI2 (rel : Nat → Value → Value → World → Prop) (rs : List (Nat × Nat)) (fr : List Value) (k : Nat) (a : Act) (w : World) : Prop := ∃ u p q, rel k p q w ∧ a = ⟨(relaxR u (v2 p q) rs 0 fr).toArray, []⟩
theorem LpI2.back {rel : Nat → Value → Value → World → Prop} {rs : List (Nat × Nat)} (s1 s2 : Nat) (h : rel k (gt fr' s1) (gt fr' s2) w) (hv : relaxR (gt fr') (v2 (gt fr' s1) (gt fr' s2)) rs 0 fr = fr') : LpI2 rel rs fr k ⟨fr'.toArray, []⟩ w := ⟨_, _, _, h, by rw [hv]⟩
def v3 (p q r : Value) : Nat → Value
  | 0 => p
  | 1 => q
  | _ => r
def LpI3 (rel : Nat → Value → Value → Value → World → Prop) (rs : List (Nat × Nat)) (fr : List Value) (k : Nat) (a : Act) (w : World) : Prop := ∃ u p q r, rel k p q r w ∧ a = ⟨(relaxR u (v3 p q r) rs 0 fr).toArray, []⟩
theorem LpI3.back {rel : Nat → Value → Value → Value → World → Prop} {rs : List (Nat × Nat)} (s1 s2 s3 : Nat) (h : rel k (gt fr' s1) (gt fr' s2) (gt fr' s3) w) (hv : relaxR (gt fr') (v3 (gt fr' s1) (gt fr' s2) (gt fr' s3)) rs 0 fr = fr') : LpI3 rel rs fr k ⟨fr'.toArray, []⟩ w := ⟨_, _, _, _, h, by rw [hv]⟩
def v4 (p q r t : Value) : Nat → Value
  | 0 => p
  | 1 => q
  | 2 => r
  | _ => t
def LpI4 (rel : Nat → Value → Value → Value → Value → World → Prop) (rs : List (Nat × Nat)) (fr : List Value) (k : Nat) (a : Act) (w : World) : Prop := ∃ u p q r t, rel k p q r t w ∧ a = ⟨(relaxR u (v4 p q r t) rs 0 fr).toArray, []⟩
theorem LpI4.back {rel : Nat → Value → Value → Value → Value → World → Prop} {rs : List (Nat × Nat)} (s1 s2 s3 s4 : Nat) (h : rel k (gt fr' s1) (gt fr' s2) (gt fr' s3) (gt fr' s4) w) (hv : relaxR (gt fr') (v4 (gt fr' s1) (gt fr' s2) (gt fr' s3) (gt fr' s4)) rs 0 fr = fr') : LpI4 rel rs fr k ⟨fr'.toArray, []⟩ w := ⟨_, _, _, _, _, h, by rw [hv]⟩
def CtI1 (R : Value → World → Prop) (rs : List (Nat × Nat)) (fr : List Value) (a : Act) (w : World) : Prop := ∃ u p, R p w ∧ a = ⟨(relaxR u (v1 p) rs 0 fr).toArray, []⟩
theorem CtI1.back {R : Value → World → Prop} {rs : List (Nat × Nat)} (s1 : Nat) (h : R (gt fr' s1) w) (hv : relaxR (gt fr') (v1 (gt fr' s1)) rs 0 fr = fr') : CtI1 R rs fr ⟨fr'.toArray, []⟩ w := ⟨_, _, h, by rw [hv]⟩
def CtI2 (R : Value → Value → World → Prop) (rs : List (Nat × Nat)) (fr : List Value) (a : Act) (w : World) : Prop := ∃ u p q, R p q w ∧ a = ⟨(relaxR u (v2 p q) rs 0 fr).toArray, []⟩
theorem CtI2.back {R : Value → Value → World → Prop} {rs : List (Nat × Nat)} (s1 s2 : Nat) (h : R (gt fr' s1) (gt fr' s2) w) (hv : relaxR (gt fr') (v2 (gt fr' s1) (gt fr' s2)) rs 0 fr = fr') : CtI2 R rs fr ⟨fr'.toArray, []⟩ w := ⟨_, _, _, h, by rw [hv]⟩
def CtI3 (R : Value → Value → Value → World → Prop) (rs : List (Nat × Nat)) (fr : List Value) (a : Act) (w : World) : Prop := ∃ u p q r, R p q r w ∧ a = ⟨(relaxR u (v3 p q r) rs 0 fr).toArray, []⟩
theorem CtI3.back {R : Value → Value → Value → World → Prop} {rs : List (Nat × Nat)} (s1 s2 s3 : Nat) (h : R (gt fr' s1) (gt fr' s2) (gt fr' s3) w) (hv : relaxR (gt fr') (v3 (gt fr' s1) (gt fr' s2) (gt fr' s3)) rs 0 fr = fr') : CtI3 R rs fr ⟨fr'.toArray, []⟩ w := ⟨_, _, _, _, h, by rw [hv]⟩
def CtI4 (R : Value → Value → Value → Value → World → Prop) (rs : List (Nat × Nat)) (fr : List Value) (a : Act) (w : World) : Prop := ∃ u p q r t, R p q r t w ∧ a = ⟨(relaxR u (v4 p q r t) rs 0 fr).toArray, []⟩
theorem CtI4.back {R : Value → Value → Value → Value → World → Prop} {rs : List (Nat × Nat)} (s1 s2 s3 s4 : Nat) (h : R (gt fr' s1) (gt fr' s2) (gt fr' s3) (gt fr' s4) w) (hv : relaxR (gt fr') (v4 (gt fr' s1) (gt fr' s2) (gt fr' s3) (gt fr' s4)) rs 0 fr = fr') : CtI4 R rs fr ⟨fr'.toArray, []⟩ w := ⟨_, _, _, _, _, h, by rw [hv]⟩
end
end Go.Proofs.YtiljpejjjgoeaaaDoor
