import Derived.Test.YtbjndpjligpjaaaDoorZ06
/-
  A region that draws its order: two operations that may both come next; a stronger condition from here on.
-/
namespace Go.Proofs.YtbjndpjligpjaaaDoor
section
variable {P : Program} {ops : Array Oper} {Q : Exit → Act → World → Prop} {md : Region.Mode} {S S' : World → Prop} {J : List Nat}
theorem wpOp_of_one {k : Nat} {o : Oper} {fuel : Nat} {listed : Array Bool} {a : Act} {w : World} (ho : ops[k]? = some o)
    (h : ∀ K' : Act → World → Prop, Shut (∀ a w, (J.contains k = false → S w) → ((J.contains k = false → S w) → wpAnyJ P md ops Q S J fuel (listed.setIfInBounds k true) a w) → K' a w) → if Region.wanted o (yielded ops a.tmps) = true then Oper.wp P o a w K' Q else K' (a.put o.dst undef) w) :
    wpOp P ops Q k (fun a' w' => (J.contains k = false → S w') ∧ wpAnyJ P md ops Q S J fuel (listed.setIfInBounds k true) a' w') a w :=
  wpOp_step ho (fun K' hK => h K' (fun a w hS hW => hK a w ⟨hS, hW hS⟩))
/-- Number i or number k may come up. -/
theorem wpAnyJ_two {i k : Nat} {oi ok : Oper} {fuel : Nat} {listed : Array Bool} {a : Act} {w : World} (hr : Region.ready md ops listed = [i, k]) (hoi : ops[i]? = some oi) (hok : ops[k]? = some ok)
    (h1 : ∀ K' : Act → World → Prop, Shut (∀ a w, (J.contains i = false → S w) → ((J.contains i = false → S w) → wpAnyJ P md ops Q S J fuel (listed.setIfInBounds i true) a w) → K' a w) → if Region.wanted oi (yielded ops a.tmps) = true then Oper.wp P oi a w K' Q else K' (a.put oi.dst undef) w)
    (h2 : ∀ K' : Act → World → Prop, Shut (∀ a w, (J.contains k = false → S w) → ((J.contains k = false → S w) → wpAnyJ P md ops Q S J fuel (listed.setIfInBounds k true) a w) → K' a w) → if Region.wanted ok (yielded ops a.tmps) = true then Oper.wp P ok a w K' Q else K' (a.put ok.dst undef) w) :
    wpAnyJ P md ops Q S J (fuel + 1) listed a w := by
  refine ⟨fun h0 => (by rw [hr] at h0; cases h0), fun j hj => ?_⟩
  rw [hr] at hj
  rcases List.mem_cons.1 hj with rfl | hj
  · exact wpOp_of_one hoi h1
  · obtain rfl := List.mem_singleton.1 hj
    exact wpOp_of_one hok h2
theorem wpAnyJ_mono (hS : ∀ w, S' w → S w) : ∀ (fuel : Nat) (listed : Array Bool) (a : Act) (w : World), wpAnyJ P md ops Q S' J fuel listed a w → wpAnyJ P md ops Q S J fuel listed a w
  | 0, _, _, _, h => h
  | fuel + 1, _, _, _, h => ⟨h.1, fun i hi => wpOp_mono (fun a' w' h' => ⟨fun hj => hS _ (h'.1 hj), wpAnyJ_mono hS fuel _ a' w' h'.2⟩) (h.2 i hi)⟩
theorem wpAnyJ_more (S' : World → Prop) (hS : ∀ w, S' w → S w) {fuel : Nat} {listed : Array Bool} {a : Act} {w : World} (h0 : S' w) (h : S' w → wpAnyJ P md ops Q S' J fuel listed a w) : wpAnyJ P md ops Q S J fuel listed a w := wpAnyJ_mono hS _ _ _ _ (h h0)
/-! The same with the marks written out. -/
theorem wpAnyJ_takeL {i : Nat} {oi : Oper} {d : Option Tmp} {v : Value} {fuel : Nat} {listed : Array Bool} (L : Array Bool) {a : Act} {w : World} (hl : listed.setIfInBounds i true = L) (hi : ops[i]? = some oi) (hd : oi.dst = d)
    (hs : Region.noSelect ops = true) (hf : Region.free md ops listed i = true) (hr : (Region.ready md ops listed).contains i = true) (hc : closedB md ops listed = true) (hJ : J.all (ancB md ops i ops.size) = true)
    (hQ : ∀ c a w, Q (.panic c) (a.put oi.dst v) w → Q (.panic c) a w) (hy : YieldsIf P ops S oi v a) (hS : S w)
    (h : wpAnyJ P md ops Q S J fuel L (a.put d v) w) : wpAnyJ P md ops Q S J (fuel + 1) listed a w := by
  subst hl
  exact wpAnyJ_take hi hd hs hf hr hc hJ hQ hy hS h
theorem wpAnyJ_oneL {k : Nat} {o : Oper} {fuel : Nat} {listed : Array Bool} (L : Array Bool) {a : Act} {w : World} (hl : listed.setIfInBounds k true = L) (hr : Region.ready md ops listed = [k]) (ho : ops[k]? = some o)
    (h : ∀ K' : Act → World → Prop, Shut (∀ a w, (J.contains k = false → S w) → ((J.contains k = false → S w) → wpAnyJ P md ops Q S J fuel L a w) → K' a w) → if Region.wanted o (yielded ops a.tmps) = true then Oper.wp P o a w K' Q else K' (a.put o.dst undef) w) :
    wpAnyJ P md ops Q S J (fuel + 1) listed a w := by
  subst hl
  exact wpAnyJ_one hr ho h
theorem wpAnyJ_twoL {i k : Nat} {oi ok : Oper} {fuel : Nat} {listed : Array Bool} (L1 L2 : Array Bool) {a : Act} {w : World} (hl1 : listed.setIfInBounds i true = L1) (hl2 : listed.setIfInBounds k true = L2) (hr : Region.ready md ops listed = [i, k]) (hoi : ops[i]? = some oi) (hok : ops[k]? = some ok)
    (h1 : ∀ K' : Act → World → Prop, Shut (∀ a w, (J.contains i = false → S w) → ((J.contains i = false → S w) → wpAnyJ P md ops Q S J fuel L1 a w) → K' a w) → if Region.wanted oi (yielded ops a.tmps) = true then Oper.wp P oi a w K' Q else K' (a.put oi.dst undef) w)
    (h2 : ∀ K' : Act → World → Prop, Shut (∀ a w, (J.contains k = false → S w) → ((J.contains k = false → S w) → wpAnyJ P md ops Q S J fuel L2 a w) → K' a w) → if Region.wanted ok (yielded ops a.tmps) = true then Oper.wp P ok a w K' Q else K' (a.put ok.dst undef) w) :
    wpAnyJ P md ops Q S J (fuel + 1) listed a w := by
  subst hl1 hl2
  exact wpAnyJ_two hr hoi hok h1 h2
end
end Go.Proofs.YtbjndpjligpjaaaDoor
