import Derived.Test.YtlcaebfjdhgcfaaDoorZ05
/-
  A region that draws its order, with two stores: a condition S on the world holds as long as none of the operations J was carried out.
-/
namespace Go.Proofs.YtlcaebfjdhgcfaaDoor
section
variable {P : Program} {ops : Array Oper} {Q : Exit → Act → World → Prop} {md : Region.Mode} {S : World → Prop} {J : List Nat}
/-- None of J has come up. -/
def noJ (J : List Nat) (listed : Array Bool) : Bool := J.all fun j => !listed.getD j false
theorem noJ_mono {listed : Array Bool} {i : Nat} (h : noJ J (listed.setIfInBounds i true) = true) : noJ J listed = true := by
  unfold noJ at *
  rw [List.all_eq_true] at *
  intro j hj
  have := h j hj
  rcases hb : listed.getD j false with _ | _
  · rfl
  · rw [getD_set_true hb] at this; cases this
theorem noJ_set {listed : Array Bool} {i : Nat} (hi : J.contains i = false) (h : noJ J listed = true) : noJ J (listed.setIfInBounds i true) = true := by
  unfold noJ at *
  rw [List.all_eq_true] at *
  intro j hj
  have hij : i ≠ j := fun e => by subst e; simp at hi; exact hi hj
  rw [getD_set_ne false hij]
  exact h j hj
/-- Whatever order is picked from here on; S holds behind every operation that is carried out before the first of J. -/
def wpAnyK (P : Program) (md : Region.Mode) (ops : Array Oper) (Q : Exit → Act → World → Prop) (S : World → Prop) (J : List Nat) : Nat → Array Bool → Act → World → Prop
  | 0, listed, a, w => Region.ready md ops listed = [] ∧ Q .normal a w
  | fuel + 1, listed, a, w =>
    (Region.ready md ops listed = [] → Q .normal a w) ∧
    ∀ i ∈ Region.ready md ops listed, wpOp P ops Q i (fun a' w' => (noJ J (listed.setIfInBounds i true) = true → S w') ∧ wpAnyK P md ops Q S J fuel (listed.setIfInBounds i true) a' w') a w
theorem wpAny_of_K : ∀ (fuel : Nat) (listed : Array Bool) (a : Act) (w : World), wpAnyK P md ops Q S J fuel listed a w → wpAny P md ops Q fuel listed a w
  | 0, _, _, _, h => h
  | fuel + 1, _, _, _, h => ⟨h.1, fun i hi => wpOp_mono (fun a' w' h' => wpAny_of_K fuel _ a' w' h'.2) (h.2 i hi)⟩

theorem wpAnyK_first {T : World → Prop} {i : Nat} {oi : Oper} {v : Value} (hi : ops[i]? = some oi) (hsel : ∀ (j : Nat) (o : Oper) cs b, ops[j]? = some o → o.op ≠ .select cs b)
    (hQ : ∀ c a w, Q (.panic c) (a.put oi.dst v) w → Q (.panic c) a w) (hJi : J.contains i = false)
    (hT : ∀ listed w, ClosedL md ops listed → listed.getD i false = false → (noJ J listed = true → S w) → T w) :
    ∀ (fuel : Nat) (listed : Array Bool) (a : Act) (w : World), ClosedL md ops listed →
      (∀ j oj, ops[j]? = some oj → j ≠ i → listed.getD j true = false → (∀ e ∈ oj.after, Region.binds md e = true → e.on ≠ i) → oi.apart ops oj = true) →
      i ∈ Region.ready md ops listed → YieldsIf P ops T oi v a → (noJ J listed = true → S w) →
      wpAnyK P md ops Q S J fuel (listed.setIfInBounds i true) (a.put oi.dst v) w → wpAnyK P md ops Q S J (fuel + 1) listed a w := by
  intro fuel
  induction fuel with
  | zero =>
    intro listed a w hc _ hr hy hS H
    have hun : listed.getD i false = false := getD_both (mem_ready.1 hr).1
    refine ⟨fun h => (by rw [h] at hr; cases hr), fun j hj => ?_⟩
    by_cases hji : j = i
    · subst hji; exact hy.wpOp hi (hT _ _ hc hun hS) ⟨fun h => hS (noJ_mono h), H⟩
    · have := ready_mono hj hji
      rw [H.1] at this
      cases this
  | succ fuel ih =>
    intro listed a w hc hfree hr hy hS H
    have hun : listed.getD i false = false := getD_both (mem_ready.1 hr).1
    refine ⟨fun h => (by rw [h] at hr; cases hr), fun j hj => ?_⟩
    by_cases hji : j = i
    · subst hji; exact hy.wpOp hi (hT _ _ hc hun hS) ⟨fun h => hS (noJ_mono h), H⟩
    · have h1 := H.2 j (ready_mono hj hji)
      obtain ⟨hjun, oj, hoj, hall⟩ := mem_ready.1 hj
      have hnot : ∀ e ∈ oj.after, Region.binds md e = true → e.on ≠ i := fun e he hb heq => by
        have h1 := hall e he hb
        rw [heq, hun] at h1
        cases h1
      have h2 := wpOp_putIf hoj (hfree j oj hoj hji hjun hnot) (fun cs b => hsel i oi cs b hi) (fun cs b => hsel j oj cs b hoj) hQ hy h1
      have hfree' : ∀ k ok, ops[k]? = some ok → k ≠ i → (listed.setIfInBounds j true).getD k true = false →
          (∀ e ∈ ok.after, Region.binds md e = true → e.on ≠ i) → oi.apart ops ok = true := fun k ok hk hki hun hno => by
        refine hfree k ok hk hki ?_ hno
        by_cases hjk : j = k
        · subst hjk; exact hjun
        · rw [getD_set_ne true hjk] at hun; exact hun
      have hset : ∀ h : noJ J (listed.setIfInBounds j true) = true, noJ J ((listed.setIfInBounds i true).setIfInBounds j true) = true := fun h => by
        rw [Array.setIfInBounds_comm _ _ (Ne.symm hji)]
        exact noJ_set hJi h
      refine wpOp_mono (fun a' w' h3 => ⟨fun h => h3.2.1 (hset h), ih (listed.setIfInBounds j true) a' w' (closed_set hc hj) hfree' (ready_mono hr (Ne.symm hji)) h3.1 (fun h => h3.2.1 (hset h)) ?_⟩) h2
      rw [Array.setIfInBounds_comm _ _ hji]
      exact h3.2.2
/-- Take number i first: its value hangs on memory that S tells, and all of J wait for it. -/
theorem wpAnyK_take {i : Nat} {oi : Oper} {d : Option Tmp} {v : Value} {fuel : Nat} {listed : Array Bool} {a : Act} {w : World} (hi : ops[i]? = some oi) (hd : oi.dst = d)
    (hs : Region.noSelect ops = true) (hf : Region.free md ops listed i = true) (hr : (Region.ready md ops listed).contains i = true) (hc : closedB md ops listed = true) (hJ : J.all (ancB md ops i ops.size) = true) (hJi : J.contains i = false)
    (hQ : ∀ c a w, Q (.panic c) (a.put oi.dst v) w → Q (.panic c) a w) (hy : YieldsIf P ops S oi v a) (hS : S w)
    (h : wpAnyK P md ops Q S J fuel (listed.setIfInBounds i true) (a.put d v) w) : wpAnyK P md ops Q S J (fuel + 1) listed a w := by
  subst hd
  refine wpAnyK_first (T := S) hi (Region.noSelect_spec hs) hQ hJi (fun l w hc hun hS => hS ?_) fuel listed a w (closed_of_B hc) (Region.free_spec hi hf) (by simpa using hr) hy (fun _ => hS) h
  unfold noJ
  rw [List.all_eq_true] at *
  intro j hj
  rcases hb : l.getD j false with _ | _
  · rfl
  · exact (anc_listed hc hun _ j hb (hJ j hj)).elim
/-- Take number i first: its value hangs on no memory. -/
theorem wpAnyK_takeT {i : Nat} {oi : Oper} {d : Option Tmp} {v : Value} {fuel : Nat} {listed : Array Bool} {a : Act} {w : World} (hi : ops[i]? = some oi) (hd : oi.dst = d)
    (hs : Region.noSelect ops = true) (hf : Region.free md ops listed i = true) (hr : (Region.ready md ops listed).contains i = true) (hc : closedB md ops listed = true) (hJi : J.contains i = false)
    (hQ : ∀ c a w, Q (.panic c) (a.put oi.dst v) w → Q (.panic c) a w) (hy : YieldsIf P ops (fun _ => True) oi v a) (hS : S w)
    (h : wpAnyK P md ops Q S J fuel (listed.setIfInBounds i true) (a.put d v) w) : wpAnyK P md ops Q S J (fuel + 1) listed a w := by
  subst hd
  exact wpAnyK_first (T := fun _ => True) hi (Region.noSelect_spec hs) hQ hJi (fun _ _ _ _ _ => trivial) fuel listed a w (closed_of_B hc) (Region.free_spec hi hf) (by simpa using hr) hy (fun _ => hS) h
/-- Number k alone may come up: it is carried out. -/
theorem wpAnyK_one {k : Nat} {o : Oper} {fuel : Nat} {listed : Array Bool} {a : Act} {w : World} (b : Bool) (hr : Region.ready md ops listed = [k]) (hb : noJ J (listed.setIfInBounds k true) = b) (ho : ops[k]? = some o)
    (h : ∀ K' : Act → World → Prop, Shut (∀ a w, (b = true → S w) → ((b = true → S w) → wpAnyK P md ops Q S J fuel (listed.setIfInBounds k true) a w) → K' a w) → if Region.wanted o (yielded ops a.tmps) = true then Oper.wp P o a w K' Q else K' (a.put o.dst undef) w) :
    wpAnyK P md ops Q S J (fuel + 1) listed a w := by
  subst hb
  refine ⟨fun h0 => (by rw [hr] at h0; cases h0), fun i hi => ?_⟩
  rw [hr] at hi
  obtain rfl := List.mem_singleton.1 hi
  exact wpOp_step ho (fun K' hK => h K' (fun a w hS hW => hK a w ⟨hS, hW hS⟩))
theorem wpAnyK_done {listed : Array Bool} {a : Act} {w : World} (hr : Region.ready md ops listed = []) (h : Q .normal a w) : ∀ fuel, wpAnyK P md ops Q S J fuel listed a w
  | 0 => ⟨hr, h⟩
  | _ + 1 => ⟨fun _ => h, by rw [hr]; simp⟩
theorem wp_region_K {id : Nat} {a : Act} {w : World} (hm : P.follows .mixedOrders = true) (hS : S w.drew)
    (h : S w.drew → wpAnyK P .any ops Q S J ops.size (Array.replicate ops.size false) a w.drew) : (Code.region id ops true).wp P Q a w :=
  wp_region_any hm (wpAny_of_K _ _ _ _ (h hS))
end
end Go.Proofs.YtlcaebfjdhgcfaaDoor
/-
  XOrdK's laws with the marks written out.
-/
namespace Go.Proofs.YtlcaebfjdhgcfaaDoor
section
variable {P : Program} {ops : Array Oper} {Q : Exit → Act → World → Prop} {md : Region.Mode} {S : World → Prop} {J : List Nat}
theorem wpAnyK_takeL {i : Nat} {oi : Oper} {d : Option Tmp} {v : Value} {fuel : Nat} {listed : Array Bool} (L : Array Bool) {a : Act} {w : World} (hl : listed.setIfInBounds i true = L) (hi : ops[i]? = some oi) (hd : oi.dst = d)
    (hs : Region.noSelect ops = true) (hf : Region.free md ops listed i = true) (hr : (Region.ready md ops listed).contains i = true) (hc : closedB md ops listed = true) (hJ : J.all (ancB md ops i ops.size) = true) (hJi : J.contains i = false)
    (hQ : ∀ c a w, Q (.panic c) (a.put oi.dst v) w → Q (.panic c) a w) (hy : YieldsIf P ops S oi v a) (hS : S w)
    (h : wpAnyK P md ops Q S J fuel L (a.put d v) w) : wpAnyK P md ops Q S J (fuel + 1) listed a w := by
  subst hl
  exact wpAnyK_take hi hd hs hf hr hc hJ hJi hQ hy hS h
theorem wpAnyK_takeTL {i : Nat} {oi : Oper} {d : Option Tmp} {v : Value} {fuel : Nat} {listed : Array Bool} (L : Array Bool) {a : Act} {w : World} (hl : listed.setIfInBounds i true = L) (hi : ops[i]? = some oi) (hd : oi.dst = d)
    (hs : Region.noSelect ops = true) (hf : Region.free md ops listed i = true) (hr : (Region.ready md ops listed).contains i = true) (hc : closedB md ops listed = true) (hJi : J.contains i = false)
    (hQ : ∀ c a w, Q (.panic c) (a.put oi.dst v) w → Q (.panic c) a w) (hy : YieldsIf P ops (fun _ => True) oi v a) (hS : S w)
    (h : wpAnyK P md ops Q S J fuel L (a.put d v) w) : wpAnyK P md ops Q S J (fuel + 1) listed a w := by
  subst hl
  exact wpAnyK_takeT hi hd hs hf hr hc hJi hQ hy hS h
theorem wpAnyK_oneL {k : Nat} {o : Oper} {fuel : Nat} {listed : Array Bool} (L : Array Bool) {a : Act} {w : World} (b : Bool) (hl : listed.setIfInBounds k true = L) (hr : Region.ready md ops listed = [k]) (hb : noJ J L = b) (ho : ops[k]? = some o)
    (h : ∀ K' : Act → World → Prop, Shut (∀ a w, (b = true → S w) → ((b = true → S w) → wpAnyK P md ops Q S J fuel L a w) → K' a w) → if Region.wanted o (yielded ops a.tmps) = true then Oper.wp P o a w K' Q else K' (a.put o.dst undef) w) :
    wpAnyK P md ops Q S J (fuel + 1) listed a w := by
  subst hl
  exact wpAnyK_one b hr hb ho h
end
end Go.Proofs.YtlcaebfjdhgcfaaDoor
