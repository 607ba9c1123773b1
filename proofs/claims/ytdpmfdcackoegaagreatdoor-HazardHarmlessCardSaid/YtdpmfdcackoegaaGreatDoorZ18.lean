import Derived.Test.YtdpmfdcackoegaaGreatDoorZ17
/-
  Layer 12, plain: duties where no source is closed.
-/
namespace Go.Proofs.YtdpmfdcackoegaaGreatDoor
theorem withL_get {s : List Int} {i : Nat} {p : Int} (k : Nat) (hk : k ≠ i) : (withL s i p)[k]? = s[k]? := by
  unfold withL
  split
  · rw [Int.toNat_natCast, List.getElem?_set, if_neg (fun e => hk e.symm)]
  · rfl
theorem withL_same {s : List Int} {i : Nat} {p : Int} (h : s[i]? = some p) : withL s i p = s := by
  unfold withL
  split
  · rw [Int.toNat_natCast]
    apply List.ext_getElem?
    intro k
    rw [List.getElem?_set]
    split
    · rename_i e; subst e; rw [h, if_pos (List.getElem?_eq_some_iff.1 h).1]
    · rfl
  · rfl
theorem withL_at {s : List Int} {i : Nat} {p : Int} (h : i < s.length) : (withL s i p)[i]? = some p := by
  unfold withL
  rw [if_pos (by omega), Int.toNat_natCast, List.getElem?_set, if_pos rfl, if_pos h]
theorem shutB_get {s s' : List Int} {k : Nat} (h : s'[k]? = s[k]?) : shutB s' k = shutB s k := by
  unfold shutB
  rw [List.getD_eq_getElem?_getD, List.getD_eq_getElem?_getD, h]
/-- Two states that differ at devices that do not join have the same parts. -/
theorem conn_congr {ds : List Dv} {s s' : List Int} (h : ∀ (k : Nat) (x : Dv), ds[k]? = some x → joinsB x.kind = true → s'[k]? = s[k]?) {u v : Int} (hc : Conn ds s u v) : Conn ds s' u v := by
  unfold Conn at *
  induction hc with
  | base hv => exact .base hv
  | step hr hs hx hU h0 ih =>
    refine .step ih hs hx ?_ h0
    rw [shutB_get (h _ _ hx ?_)]
    · exact hU
    · unfold acrB at h0
      split at h0
      · omega
      · rename_i hj; simpa using hj
theorem conn_lone {ds : List Dv} {s : List Int} {i : Nat} {x : Dv} {p : Int} (hx : ds[i]? = some x) (hj : joinsB x.kind = false) (u v : Int) : Conn ds (withL s i p) u v ↔ Conn ds s u v := by
  have key : ∀ (k : Nat) (y : Dv), ds[k]? = some y → joinsB y.kind = true → (withL s i p)[k]? = s[k]? := by
    intro k y hy hjy
    refine withL_get k (fun e => ?_)
    subst e
    rw [hx] at hy
    injection hy with hy
    subst hy
    rw [hj] at hjy; cases hjy
  exact ⟨conn_congr (fun k y hy hjy => (key k y hy hjy).symm), conn_congr key⟩
/-- No source is closed. -/
def Dark (ds : List Dv) (s : List Int) : Prop := ∀ (k : Nat) (x : Dv), ds[k]? = some x → liveK x.kind → s[k]? = some 1
theorem dark_live {ds : List Dv} {s : List Int} (h : Dark ds s) (v : Int) : ¬ HasK liveK ds s v := by
  rintro ⟨k, x, hx, hs, hk, _⟩
  rw [h k x hx hk] at hs
  injection hs with hs
  omega
theorem dark_col {ds : List Dv} {s : List Int} (h : Dark ds s) (v : Int) : colV ds s v = ind (HasK (· = 4) ds s v) 2 := by unfold colV; rw [ind_neg (dark_live h v)]; omega
theorem dark_with {ds : List Dv} {s : List Int} (h : Dark ds s) {i : Nat} {x : Dv} (hx : ds[i]? = some x) (hk : ¬ liveK x.kind) (p : Int) : Dark ds (withL s i p) := by
  intro k y hy hky
  rw [withL_get k (fun e => ?_)]
  · exact h k y hy hky
  · subst e; rw [hx] at hy; injection hy with hy; subst hy; exact hk hky
section
variable {nn : Nat} {ns : List Nd} {ds : List Dv} {s : List Int} {i : Nat} {x : Dv}
theorem liveB_even : liveB 0 = false ∧ liveB 2 = false := by constructor <;> kernel_rfl
theorem cols_get {c : List Int} (hc : IsCols nn ds s c) {v : Int} (h0 : 0 ≤ v) (h1 : v < nn) : c.getD v.toNat 0 = colV ds s v := by
  obtain ⟨k, rfl⟩ := Int.eq_ofNat_of_zero_le h0
  rw [Int.toNat_natCast, getD_of (hc.2 k (by omega))]
theorem dark_lv {c : List Int} (hc : IsCols nn ds s c) (hd : Dark ds s) {v : Int} (h0 : 0 ≤ v) (h1 : v < nn) : lvB c v = false := by
  unfold lvB
  rw [cols_get hc h0 h1, dark_col hd]
  rcases ind_cases (HasK (· = 4) ds s v) 2 with ⟨_, e⟩ | ⟨_, e⟩ <;> rw [e]
  · exact liveB_even.2
  · exact liveB_even.1
/-- A device that is no source has nothing to do. -/
theorem dark_other {parts op cl : List Int} (hd : Dark ds s) (hx : ds[i]? = some x) (hk : ¬ liveK x.kind) (hkk : 1 ≤ x.kind ∧ x.kind ≤ 6) (ha : 0 ≤ x.a ∧ x.a < nn) (hb : joinsB x.kind = true → 0 ≤ x.b ∧ x.b < nn)
    (ho : IsCols nn ds (withL s i 1) op) (hc : IsCols nn ds (withL s i 2) cl) : dutyV x.kind x.a x.b ns parts op cl = 0 := by
  have d1 := dark_with hd hx hk 1
  have d2 := dark_with hd hx hk 2
  have c3 : ∀ v, 0 ≤ v → v < (nn : Int) → (cl.getD v.toNat 0 == 3) = false := by
    intro v h0 h1
    rw [cols_get hc h0 h1, dark_col d2]
    rcases ind_cases (HasK (· = 4) ds (withL s i 2) v) 2 with ⟨_, e⟩ | ⟨_, e⟩ <;> rw [e] <;> rfl
  have hf : faultB x.kind x.a x.b cl = false := by
    unfold faultB
    rw [c3 _ ha.1 ha.2]
    rcases hj : joinsB x.kind with _ | _
    · rfl
    · rw [c3 _ (hb hj).1 (hb hj).2]; rfl
  have hj4 : x.kind = 4 ∨ joinsB x.kind = true := by
    unfold liveK at hk
    by_cases h4 : x.kind = 4
    · exact .inl h4
    · right; simp [joinsB]; omega
  have hp : parB x.kind x.a x.b parts op = false ∧ dOk x.kind x.a x.b parts op = false := by
    unfold parB dOk sOk sL0 sL1
    rcases hj4 with h4 | hj
    · simp [h4]
    · have h4 : x.kind ≠ 4 := by intro e; rw [e] at hj; cases hj
      simp [h4, hj, dark_lv ho d1 ha.1 ha.2, dark_lv ho d1 (hb hj).1 (hb hj).2]
  have hl : loadB x.kind x.a x.b ns parts op = false := by unfold loadB; rw [hp.2]; rfl
  unfold dutyV
  rw [hf, hp.1, hl, hp.2]
  simp
open Classical in
/-- A source has what its node needs. -/
theorem dark_source {parts op cl : List Int} (hd : Dark ds s) (hi : i < s.length) (hx : ds[i]? = some x) (hk : liveK x.kind) (ha : 0 ≤ x.a ∧ x.a < nn)
    (ho : IsCols nn ds (withL s i 1) op) (hc : IsCols nn ds (withL s i 2) cl) :
    dutyV x.kind x.a x.b ns parts op cl = if HasK (· = 4) ds s x.a then 4 else if ∃ (v : Nat) (y : Nd), v < ns.length ∧ ns[v]? = some y ∧ 0 < y.cust ∧ parts.getD v 0 = parts.getD x.a.toNat 0 then 2 else 1 := by
  have hj : joinsB x.kind = false := by unfold liveK at hk; simp [joinsB]; omega
  have h4 : x.kind ≠ 4 := by unfold liveK at hk; omega
  have e1 : withL s i 1 = s := withL_same (hd i x hx hk)
  rw [e1] at ho
  have hlive : HasK liveK ds (withL s i 2) x.a := ⟨i, x, hx, withL_at hi, hk, Conn.refl _ _ _⟩
  have hearth : HasK (· = 4) ds (withL s i 2) x.a ↔ HasK (· = 4) ds s x.a := by
    constructor
    · rintro ⟨k, y, hy, hs, hky, hcn⟩
      refine ⟨k, y, hy, ?_, hky, (conn_lone hx hj _ _).1 hcn⟩
      rw [withL_get k (fun e => ?_)] at hs
      · exact hs
      · subst e; rw [hx] at hy; injection hy with hy; subst hy; exact h4 hky
    · rintro ⟨k, y, hy, hs, hky, hcn⟩
      refine ⟨k, y, hy, ?_, hky, (conn_lone hx hj _ _).2 hcn⟩
      rw [withL_get k (fun e => ?_)]
      · exact hs
      · subst e; rw [hx] at hy; injection hy with hy; subst hy; exact h4 hky
  have hcl : cl.getD x.a.toNat 0 = 1 + ind (HasK (· = 4) ds s x.a) 2 := by
    rw [cols_get hc ha.1 ha.2]
    unfold colV
    rw [ind_pos hlive, ind_congr hearth]
  have hok : sOk x.kind x.a x.b parts = true := by unfold sOk; rw [if_neg h4, if_pos hj]
  have h0 : sL0 x.kind x.a op = true := by unfold sL0; rw [if_neg h4, if_pos hj]
  have h1 : sL1 x.kind x.a x.b op = false := by unfold sL1; rw [if_neg h4, if_pos hj]; exact dark_lv ho hd ha.1 ha.2
  have hp : parB x.kind x.a x.b parts op = false := by unfold parB; rw [hok, h0, h1]; rfl
  have hdk : dOk x.kind x.a x.b parts op = true := by unfold dOk; rw [hok, h0, h1]; rfl
  have hdn : dN x.kind x.a x.b parts op = x.a := by unfold dN sN1; rw [if_pos hdk, if_pos h0, if_neg h4, if_pos hj]
  have hfa : faultB x.kind x.a x.b cl = decide (HasK (· = 4) ds s x.a) := by
    unfold faultB
    rw [hj, hcl]
    rcases ind_cases (HasK (· = 4) ds s x.a) 2 with ⟨h, e⟩ | ⟨h, e⟩ <;> rw [e]
    · rw [decide_eq_true h]; rfl
    · rw [decide_eq_false h]; rfl
  have hlo : loadB x.kind x.a x.b ns parts op = decide (∃ (v : Nat) (y : Nd), v < ns.length ∧ ns[v]? = some y ∧ 0 < y.cust ∧ parts.getD v 0 = parts.getD x.a.toNat 0) := by
    unfold loadB loadTo
    rw [hdk, hdn, Bool.true_and]
  unfold dutyV
  rw [hfa, hp, hlo, hdk]
  simp
end
end Go.Proofs.YtdpmfdcackoegaaGreatDoor
/-
  Layer 12, plain: what duties mean for the supply.
-/
namespace Go.Proofs.YtdpmfdcackoegaaGreatDoor
theorem least {Q : Nat → Prop} : ∀ n, Q n → ∃ m, Q m ∧ ∀ k, Q k → m ≤ k := by
  intro n
  induction n using Nat.strongRecOn with
  | ind n ih =>
    intro h
    by_cases hx : ∃ k, k < n ∧ Q k
    · obtain ⟨k, hk, hq⟩ := hx; exact ih k hk hq
    · exact ⟨n, h, fun k hk => Nat.le_of_not_lt (fun hl => hx ⟨k, hl, hk⟩)⟩
theorem partsOf_is (nn : Nat) (ds : List Dv) (s : List Int) : IsParts nn ds s (partsOf nn ds s) := by
  have h : ∀ v : Nat, ∃ p : Nat, Conn ds s p v ∧ ∀ u : Nat, Conn ds s u v → p ≤ u := fun v => least v (Conn.refl _ _ _)
  have hp : IsParts nn ds s ((List.range nn).map fun v => ((Classical.choose (h v) : Nat) : Int)) :=
    ⟨by simp, fun v hv => ⟨Classical.choose (h v), by simp [List.getElem?_range hv], (Classical.choose_spec (h v)).2 v (Conn.refl _ _ _), (Classical.choose_spec (h v)).1, fun u _ hc => (Classical.choose_spec (h v)).2 u hc⟩⟩
  rw [partsOf_eq hp]; exact hp
theorem colsOf_are (nn : Nat) (ds : List Dv) (s : List Int) : IsCols nn ds s (colsOf nn ds s) := by
  have h : IsCols nn ds s ((List.range nn).map fun v => colV ds s (v : Nat)) := ⟨by simp, fun v hv => by simp [List.getElem?_range hv]⟩
  rw [colsOf_eq h]; exact h
/-- A node is supplied as far as its colour says. -/
def Sup (ds : List Dv) (s : List Int) (v : Int) : Prop := HasK liveK ds s v ∧ ¬ HasK (· = 4) ds s v
theorem sup_col {ds : List Dv} {s : List Int} {v : Int} : colV ds s v = 1 ↔ Sup ds s v := by
  unfold colV Sup
  rcases ind_cases (HasK liveK ds s v) 1 with ⟨h, e⟩ | ⟨h, e⟩ <;> rcases ind_cases (HasK (· = 4) ds s v) 2 with ⟨h2, e2⟩ | ⟨h2, e2⟩ <;> rw [e, e2] <;> simp [h, h2]
theorem HasK.conn {K : Int → Prop} {ds : List Dv} {s : List Int} {u v : Int} (h : HasK K ds s u) (hc : Conn ds s u v) : HasK K ds s v := by
  obtain ⟨k, x, hx, hs, hk, h1⟩ := h
  exact ⟨k, x, hx, hs, hk, h1.trans hc⟩
section
variable {nn : Nat} {ns : List Nd} {ds : List Dv} {s : List Int} {i : Nat} {x : Dv}
/-- What closing a joining device does to the parts. -/
theorem conn_close (hi : i < s.length) (hx : ds[i]? = some x) (hj : joinsB x.kind = true) (ha : 0 ≤ x.a) (hb : 0 ≤ x.b) {u v : Int} :
    Conn ds (withL s i 2) u v ↔ Conn ds (withL s i 1) u v ∨ (Conn ds (withL s i 1) u x.a ∧ Conn ds (withL s i 1) x.b v) ∨ (Conn ds (withL s i 1) u x.b ∧ Conn ds (withL s i 1) x.a v) := by
  have same : ∀ k, k ≠ i → shutB (withL s i 2) k = shutB (withL s i 1) k := fun k hk => shutB_get ((withL_get k hk).trans (withL_get k hk).symm)
  have sh : shutB (withL s i 2) i = true := by unfold shutB; rw [getD_of (withL_at hi)]; rfl
  have op : shutB (withL s i 1) i = false := by unfold shutB; rw [getD_of (withL_at hi)]; rfl
  have up : ∀ {u v : Int}, Conn ds (withL s i 1) u v → Conn ds (withL s i 2) u v := by
    intro u v h
    unfold Conn at *
    induction h with
    | base hv => exact .base hv
    | step hr hs hy hU h0 ih =>
      refine .step ih hs hy ?_ h0
      rename_i k _
      rw [same k (fun e => by subst e; rw [op] at hU; cases hU)]
      exact hU
  have ab : Conn ds (withL s i 2) x.a x.b := by
    have h := Conn.edge (u := x.a) hx sh (by unfold acrB; rw [hj]; simp; exact hb)
    unfold acrB at h; rw [hj] at h; simpa using h
  constructor
  · intro h
    have key : ∀ t, Rch ds (shutB (withL s i 2)) (fun _ => false) [u] t → Conn ds (withL s i 1) u t ∨ (Conn ds (withL s i 1) u x.a ∧ Conn ds (withL s i 1) x.b t) ∨ (Conn ds (withL s i 1) u x.b ∧ Conn ds (withL s i 1) x.a t) := by
      intro t h
      induction h with
      | base hv => exact .inl (.base hv)
      | @step t k y hr hs hy hU h0 ih =>
        by_cases hk : k = i
        · subst hk
          rw [hx] at hy; injection hy with hy; subst hy
          by_cases h1 : x.a = t
          · have e : acrB x t = x.b := by unfold acrB; rw [hj]; simp [h1]
            rw [e]; rw [← h1] at ih
            rcases ih with ih | ⟨ih, _⟩ | ⟨ih, _⟩
            · exact .inr (.inl ⟨ih, Conn.refl _ _ _⟩)
            · exact .inr (.inl ⟨ih, Conn.refl _ _ _⟩)
            · exact .inl ih
          · by_cases h2 : x.b = t
            · have e : acrB x t = x.a := by unfold acrB; rw [hj]; simp [h1, h2]
              rw [e]; rw [← h2] at ih
              rcases ih with ih | ⟨ih, _⟩ | ⟨ih, _⟩
              · exact .inr (.inr ⟨ih, Conn.refl _ _ _⟩)
              · exact .inl ih
              · exact .inr (.inr ⟨ih, Conn.refl _ _ _⟩)
            · have e : acrB x t = -1 := by unfold acrB; rw [hj]; simp [h1, h2]
              omega
        · rw [same k hk] at hU
          have hst : Conn ds (withL s i 1) t (acrB y t) := Conn.edge hy hU h0
          rcases ih with ih | ⟨ih, h2⟩ | ⟨ih, h2⟩
          · exact .inl (ih.trans hst)
          · exact .inr (.inl ⟨ih, h2.trans hst⟩)
          · exact .inr (.inr ⟨ih, h2.trans hst⟩)
    exact key v h
  · rintro (h | ⟨h1, h2⟩ | ⟨h1, h2⟩)
    · exact up h
    · exact (up h1).trans (ab.trans (up h2))
    · exact (up h1).trans ((ab.sym ha).trans (up h2))
/-- .. and to what a node's part has. -/
theorem has_close {K : Int → Prop} (hK : ∀ k, K k → joinsB k = false) (hi : i < s.length) (hx : ds[i]? = some x) (hj : joinsB x.kind = true) (ha : 0 ≤ x.a) (hb : 0 ≤ x.b) {v : Int} :
    HasK K ds (withL s i 2) v ↔ HasK K ds (withL s i 1) v ∨ (HasK K ds (withL s i 1) x.a ∧ Conn ds (withL s i 1) x.b v) ∨ (HasK K ds (withL s i 1) x.b ∧ Conn ds (withL s i 1) x.a v) := by
  have ne : ∀ (k : Nat) (y : Dv), ds[k]? = some y → K y.kind → k ≠ i := by
    intro k y hy hk e
    subst e
    rw [hx] at hy; injection hy with hy; subst hy
    rw [hK _ hk] at hj; cases hj
  have st : ∀ (k : Nat), k ≠ i → (withL s i 2)[k]? = (withL s i 1)[k]? := fun k hk => (withL_get k hk).trans (withL_get k hk).symm
  constructor
  · rintro ⟨k, y, hy, hs, hk, hc⟩
    have hs' := hs
    rw [st k (ne k y hy hk)] at hs'
    rcases (conn_close hi hx hj ha hb).1 hc with h | ⟨h1, h2⟩ | ⟨h1, h2⟩
    · exact .inl ⟨k, y, hy, hs', hk, h⟩
    · exact .inr (.inl ⟨⟨k, y, hy, hs', hk, h1⟩, h2⟩)
    · exact .inr (.inr ⟨⟨k, y, hy, hs', hk, h1⟩, h2⟩)
  · rintro (⟨k, y, hy, hs, hk, h⟩ | ⟨⟨k, y, hy, hs, hk, h⟩, h2⟩ | ⟨⟨k, y, hy, hs, hk, h⟩, h2⟩)
    all_goals rw [← st k (ne k y hy hk)] at hs
    · exact ⟨k, y, hy, hs, hk, (conn_close hi hx hj ha hb).2 (.inl h)⟩
    · exact ⟨k, y, hy, hs, hk, (conn_close hi hx hj ha hb).2 (.inr (.inl ⟨h, h2⟩))⟩
    · exact ⟨k, y, hy, hs, hk, (conn_close hi hx hj ha hb).2 (.inr (.inr ⟨h, h2⟩))⟩
/-- A device that does not join: a source or an earth. -/
theorem has_lone {K : Int → Prop} (hi : i < s.length) (hx : ds[i]? = some x) (hj : joinsB x.kind = false) {v : Int} :
    HasK K ds (withL s i 2) v ↔ HasK K ds (withL s i 1) v ∨ (K x.kind ∧ Conn ds (withL s i 1) x.a v) := by
  have cc : ∀ u v, Conn ds (withL s i 2) u v ↔ Conn ds (withL s i 1) u v := fun u v => (conn_lone hx hj u v).trans (conn_lone hx hj u v).symm
  constructor
  · rintro ⟨k, y, hy, hs, hk, hc⟩
    by_cases hki : k = i
    · subst hki; rw [hx] at hy; injection hy with hy; subst hy
      exact .inr ⟨hk, (cc _ _).1 hc⟩
    · rw [withL_get k hki] at hs
      exact .inl ⟨k, y, hy, by rw [withL_get k hki]; exact hs, hk, (cc _ _).1 hc⟩
  · rintro (⟨k, y, hy, hs, hk, hc⟩ | ⟨hk, hc⟩)
    · by_cases hki : k = i
      · subst hki; rw [withL_at hi] at hs; injection hs with hs; omega
      · rw [withL_get k hki] at hs
        exact ⟨k, y, hy, by rw [withL_get k hki]; exact hs, hk, (cc _ _).2 hc⟩
    · exact ⟨i, x, hx, withL_at hi, hk, (cc _ _).2 hc⟩
/-- What the parts, the open colours and the closed colours say. -/
structure Seen (nn : Nat) (ns : List Nd) (ds : List Dv) (s : List Int) (i : Nat) (x : Dv) : Prop where
  hi : i < s.length
  hx : ds[i]? = some x
  hk : 1 ≤ x.kind ∧ x.kind ≤ 6
  ha : 0 ≤ x.a ∧ x.a < nn
  hb : joinsB x.kind = true → 0 ≤ x.b ∧ x.b < nn
  hl : ns.length = nn
theorem lvB_iff {c : List Int} (hc : IsCols nn ds s c) {v : Int} (h0 : 0 ≤ v) (h1 : v < nn) : lvB c v = true ↔ HasK liveK ds s v := by
  unfold lvB
  rw [cols_get hc h0 h1]
  unfold colV
  rcases ind_cases (HasK liveK ds s v) 1 with ⟨h, e⟩ | ⟨h, e⟩ <;> rcases ind_cases (HasK (· = 4) ds s v) 2 with ⟨h2, e2⟩ | ⟨h2, e2⟩ <;> rw [e, e2]
  · exact ⟨fun _ => h, fun _ => by kernel_rfl⟩
  · exact ⟨fun _ => h, fun _ => by kernel_rfl⟩
  · exact ⟨fun hh => absurd hh (by rw [show liveB (0 + 2) = false by kernel_rfl]; simp), fun hh => absurd hh h⟩
  · exact ⟨fun hh => absurd hh (by rw [show liveB (0 + 0) = false by kernel_rfl]; simp), fun hh => absurd hh h⟩
theorem three_iff {c : List Int} (hc : IsCols nn ds s c) {v : Int} (h0 : 0 ≤ v) (h1 : v < nn) : (c.getD v.toNat 0 == 3) = true ↔ HasK liveK ds s v ∧ HasK (· = 4) ds s v := by
  rw [cols_get hc h0 h1]
  unfold colV
  rcases ind_cases (HasK liveK ds s v) 1 with ⟨h, e⟩ | ⟨h, e⟩ <;> rcases ind_cases (HasK (· = 4) ds s v) 2 with ⟨h2, e2⟩ | ⟨h2, e2⟩ <;> rw [e, e2] <;> simp [h, h2]
theorem parts_iff {P : List Int} (hP : IsParts nn ds s P) {u v : Int} (hu : 0 ≤ u ∧ u < nn) (hv : 0 ≤ v ∧ v < nn) : P.getD u.toNat 0 = P.getD v.toNat 0 ↔ Conn ds s u v := by
  obtain ⟨a, rfl⟩ := Int.eq_ofNat_of_zero_le hu.1
  obtain ⟨b, rfl⟩ := Int.eq_ofNat_of_zero_le hv.1
  rw [Int.toNat_natCast, Int.toNat_natCast, ← hP.iff (by omega) (by omega)]
  obtain ⟨p, hp, _⟩ := hP.2 a (by omega)
  obtain ⟨q, hq, _⟩ := hP.2 b (by omega)
  rw [getD_of hp, getD_of hq, hp, hq]
  simp
/-- A live end and a dead end, joined; symmetric in the device's ends. -/
theorem merge_one {p q : Int} {o c : List Int} (_hp : 0 ≤ p) (hq : 0 ≤ q)
    (cl : ∀ K : Int → Prop, (K = liveK ∨ K = (· = 4)) → ∀ v, HasK K ds c v ↔ HasK K ds o v ∨ (HasK K ds o p ∧ Conn ds o q v) ∨ (HasK K ds o q ∧ Conn ds o p v))
    (lp : HasK liveK ds o p) (lq : ¬ HasK liveK ds o q) (nf : ¬ (HasK liveK ds c p ∧ HasK (· = 4) ds c p)) :
    (∀ v, Conn ds o q v → Sup ds c v ∧ ¬ Sup ds o v) ∧ (∀ v, ¬ Conn ds o q v → (Sup ds c v ↔ Sup ds o v)) := by
  have L := cl liveK (.inl rfl)
  have E := cl (· = 4) (.inr rfl)
  have ne : ¬ HasK (· = 4) ds c p := fun h => nf ⟨(L p).2 (.inl lp), h⟩
  have nep : ¬ HasK (· = 4) ds o p := fun h => ne ((E p).2 (.inl h))
  have neq : ¬ HasK (· = 4) ds o q := fun h => ne ((E p).2 (.inr (.inr ⟨h, Conn.refl _ _ _⟩)))
  constructor
  · intro v hv
    refine ⟨⟨(L v).2 (.inr (.inl ⟨lp, hv⟩)), fun h => ?_⟩, fun h => lq (h.1.conn (hv.sym hq))⟩
    rcases (E v).1 h with h | ⟨h, _⟩ | ⟨h, _⟩
    · exact neq (h.conn (hv.sym hq))
    · exact nep h
    · exact neq h
  · intro v hv
    unfold Sup
    have l1 : HasK liveK ds c v ↔ HasK liveK ds o v := by
      rw [L v]
      exact ⟨fun h => by rcases h with h | ⟨_, h⟩ | ⟨h, _⟩; exact h; exact absurd h hv; exact absurd h lq, .inl⟩
    have e1 : HasK (· = 4) ds c v ↔ HasK (· = 4) ds o v := by
      rw [E v]
      exact ⟨fun h => by rcases h with h | ⟨h, _⟩ | ⟨h, _⟩; exact h; exact absurd h nep; exact absurd h neq, .inl⟩
    rw [l1, e1]
def Means (ns : List Nd) (ds : List Dv) (o c : List Int) (d : Int) : Prop :=
  (d = 0 ∨ d = 1 → ∀ (v : Nat) (y : Nd), ns[v]? = some y → 0 < y.cust → (Sup ds c v ↔ Sup ds o v)) ∧
  (d = 2 → (∃ (v : Nat) (y : Nd), ns[v]? = some y ∧ 0 < y.cust ∧ Sup ds c v ∧ ¬ Sup ds o v) ∧ ∀ v : Int, Sup ds o v → Sup ds c v) ∧
  (d = 3 → ∀ v : Int, Sup ds c v ↔ Sup ds o v)
theorem Means.fault {o c : List Int} : Means ns ds o c 4 := ⟨fun h => by omega, fun h => by omega, fun h => by omega⟩
theorem Means.same {o c : List Int} {d : Int} (h : ∀ v : Int, Sup ds c v ↔ Sup ds o v) (hd : d ≠ 2) : Means ns ds o c d := ⟨fun _ v _ _ _ => h v, fun e => absurd e hd, fun _ => h⟩
open Classical in
theorem Means.one {o c P : List Int} {q : Int} (hP : IsParts nn ds o P) (hl : ns.length = nn) (hq : 0 ≤ q ∧ q < nn)
    (h1 : ∀ v, Conn ds o q v → Sup ds c v ∧ ¬ Sup ds o v) (h2 : ∀ v, ¬ Conn ds o q v → (Sup ds c v ↔ Sup ds o v)) :
    Means ns ds o c (if ∃ (v : Nat) (y : Nd), v < ns.length ∧ ns[v]? = some y ∧ 0 < y.cust ∧ P.getD v 0 = P.getD q.toNat 0 then 2 else 1) := by
  have pc : ∀ v : Nat, v < nn → (P.getD v 0 = P.getD q.toNat 0 ↔ Conn ds o q v) := by
    intro v hv
    have h := parts_iff hP (u := q) (v := v) hq ⟨by omega, by omega⟩
    rw [Int.toNat_natCast] at h
    exact ⟨fun e => h.1 e.symm, fun e => (h.2 e).symm⟩
  split
  · rename_i hx
    obtain ⟨v, y, hv, hy, hc, hp⟩ := hx
    have k := h1 v ((pc v (by omega)).1 hp)
    refine ⟨fun h => by omega, fun _ => ⟨⟨v, y, hy, hc, k.1, k.2⟩, fun u hu => ?_⟩, fun h => by omega⟩
    by_cases hcn : Conn ds o q u
    · exact (h1 u hcn).1
    · exact (h2 u hcn).2 hu
  · rename_i hx
    refine ⟨fun _ v y hy hc => h2 v (fun hcn => hx ?_), fun h => by omega, fun h => by omega⟩
    have hv := (List.getElem?_eq_some_iff.1 hy).1
    exact ⟨v, y, hv, hy, hc, (pc v (by omega)).2 hcn⟩
open Classical in
theorem duty_means (h : Seen nn ns ds s i x) : Means ns ds (withL s i 1) (withL s i 2) (dutyAt nn ns ds s i x) := by
  obtain ⟨hi, hx, hk, ha, hb, hl⟩ := h
  unfold dutyAt
  have hP := partsOf_is nn ds (withL s i 1)
  have hO := colsOf_are nn ds (withL s i 1)
  have hC := colsOf_are nn ds (withL s i 2)
  generalize partsOf nn ds (withL s i 1) = P at *
  generalize colsOf nn ds (withL s i 1) = op at *
  generalize colsOf nn ds (withL s i 2) = cl at *
  unfold dutyV
  by_cases hf : faultB x.kind x.a x.b cl = true
  · rw [if_pos hf]; exact Means.fault
  rw [if_neg hf]
  have nfa : ¬ (HasK liveK ds (withL s i 2) x.a ∧ HasK (· = 4) ds (withL s i 2) x.a) := fun hh => hf (by unfold faultB; rw [(three_iff hC ha.1 ha.2).2 hh]; rfl)
  have lva := lvB_iff hO ha.1 ha.2
  rcases hj : joinsB x.kind with _ | _
  · have cc : ∀ u v, Conn ds (withL s i 2) u v ↔ Conn ds (withL s i 1) u v := fun u v => (conn_lone hx hj u v).trans (conn_lone hx hj u v).symm
    have L := fun v => has_lone (K := liveK) hi hx hj (v := v)
    have E := fun v => has_lone (K := (· = 4)) hi hx hj (v := v)
    by_cases h4 : x.kind = 4
    · have hp : parB x.kind x.a x.b P op = false ∧ dOk x.kind x.a x.b P op = false := by unfold parB dOk sOk; simp [h4]
      have hlo : loadB x.kind x.a x.b ns P op = false := by unfold loadB; rw [hp.2]; rfl
      rw [hp.1, hp.2, hlo]
      refine Means.same (fun v => ?_) (by simp)
      have nl : ¬ liveK x.kind := by unfold liveK; omega
      have la : ¬ HasK liveK ds (withL s i 1) x.a := fun hh => nfa ⟨(L _).2 (.inl hh), (E _).2 (.inr ⟨h4, Conn.refl _ _ _⟩)⟩
      have l1 : HasK liveK ds (withL s i 2) v ↔ HasK liveK ds (withL s i 1) v := by rw [L v]; exact ⟨fun hh => hh.elim id (fun hh => absurd hh.1 nl), .inl⟩
      unfold Sup
      rw [l1]
      constructor
      · rintro ⟨h1, h2⟩; exact ⟨h1, fun hh => h2 ((E v).2 (.inl hh))⟩
      · rintro ⟨h1, h2⟩
        refine ⟨h1, fun hh => ?_⟩
        rcases (E v).1 hh with hh | hh
        · exact h2 hh
        · exact la (h1.conn (hh.2.sym ha.1))
    · have hlk : liveK x.kind := by unfold liveK; simp [joinsB] at hj; omega
      have hok : sOk x.kind x.a x.b P = true := by unfold sOk; rw [if_neg h4, if_pos hj]
      have h0 : sL0 x.kind x.a op = true := by unfold sL0; rw [if_neg h4, if_pos hj]
      have h1 : sL1 x.kind x.a x.b op = lvB op x.a := by unfold sL1; rw [if_neg h4, if_pos hj]
      have e1 : ∀ v, HasK (· = 4) ds (withL s i 2) v ↔ HasK (· = 4) ds (withL s i 1) v := fun v => by rw [E v]; exact ⟨fun hh => hh.elim id (fun hh => absurd hh.1 h4), .inl⟩
      rcases hv : lvB op x.a with _ | _
      · have nl : ¬ HasK liveK ds (withL s i 1) x.a := fun hh => by rw [lva.2 hh] at hv; cases hv
        have hp : parB x.kind x.a x.b P op = false := by unfold parB; rw [hok, h0, h1, hv]; rfl
        have hdk : dOk x.kind x.a x.b P op = true := by unfold dOk; rw [hok, h0, h1, hv]; rfl
        have hdn : dN x.kind x.a x.b P op = x.a := by unfold dN sN1; rw [if_pos hdk, if_pos h0, if_neg h4, if_pos hj]
        have key := Means.one (ns := ns) (q := x.a) hP hl ha (c := withL s i 2) (fun v hv => ⟨⟨(L v).2 (.inr ⟨hlk, hv⟩), fun hh => nfa ⟨(L _).2 (.inr ⟨hlk, Conn.refl _ _ _⟩), (e1 _).2 (((e1 v).1 hh).conn (hv.sym ha.1))⟩⟩, fun hh => nl (hh.1.conn (hv.sym ha.1))⟩) (fun v hv => by
          unfold Sup
          rw [e1 v, L v]
          exact ⟨fun hh => ⟨hh.1.elim id (fun k => absurd k.2 hv), hh.2⟩, fun hh => ⟨.inl hh.1, hh.2⟩⟩)
        have hlo : (loadB x.kind x.a x.b ns P op = true) = (∃ (v : Nat) (y : Nd), v < ns.length ∧ ns[v]? = some y ∧ 0 < y.cust ∧ P.getD v 0 = P.getD x.a.toNat 0) := by
          unfold loadB loadTo
          rw [hdk, hdn, Bool.true_and, decide_eq_true_eq]
        rw [hp, hdk, if_neg (by simp), if_pos rfl]
        simp only [hlo]
        exact key
      · have yl := lva.1 hv
        have hp : parB x.kind x.a x.b P op = true := by unfold parB; rw [hok, h0, h1, hv]; rfl
        rw [if_pos hp]
        refine Means.same (fun v => ?_) (by simp)
        unfold Sup
        rw [e1 v, L v]
        exact ⟨fun hh => ⟨hh.1.elim id (fun k => yl.conn k.2), hh.2⟩, fun hh => ⟨.inl hh.1, hh.2⟩⟩
  · have hbb := hb hj
    have h4 : x.kind ≠ 4 := by intro e; rw [e] at hj; cases hj
    have nj : ¬ joinsB x.kind = false := by rw [hj]; simp
    have nfb : ¬ (HasK liveK ds (withL s i 2) x.b ∧ HasK (· = 4) ds (withL s i 2) x.b) := fun hh => hf (by unfold faultB; rw [hj, (three_iff hC hbb.1 hbb.2).2 hh]; simp)
    have lvb := lvB_iff hO hbb.1 hbb.2
    have K1 : ∀ k, liveK k → joinsB k = false := fun k hk => by unfold liveK at hk; simp [joinsB]; omega
    have K2 : ∀ k : Int, k = 4 → joinsB k = false := fun k hk => by subst hk; rfl
    have L := fun v => has_close (K := liveK) K1 hi hx hj ha.1 hbb.1 (v := v)
    have E := fun v => has_close (K := (· = 4)) K2 hi hx hj ha.1 hbb.1 (v := v)
    have pab := parts_iff hP ha hbb
    have h0 : sL0 x.kind x.a op = lvB op x.a := by unfold sL0; rw [if_neg h4, if_neg nj]
    have h1 : sL1 x.kind x.a x.b op = lvB op x.b := by unfold sL1; rw [if_neg h4, if_neg nj]
    by_cases hab : Conn ds (withL s i 1) x.a x.b
    · have hok : sOk x.kind x.a x.b P = false := by unfold sOk; rw [if_neg h4, if_neg nj, pab.2 hab]; simp
      have hp : parB x.kind x.a x.b P op = false ∧ dOk x.kind x.a x.b P op = false := by unfold parB dOk; rw [hok]; exact ⟨rfl, rfl⟩
      have hlo : loadB x.kind x.a x.b ns P op = false := by unfold loadB; rw [hp.2]; rfl
      rw [hp.1, hp.2, hlo]
      refine Means.same (fun v => ?_) (by simp)
      have same : ∀ K : Int → Prop, (HasK K ds (withL s i 1) v ∨ (HasK K ds (withL s i 1) x.a ∧ Conn ds (withL s i 1) x.b v) ∨ (HasK K ds (withL s i 1) x.b ∧ Conn ds (withL s i 1) x.a v)) ↔ HasK K ds (withL s i 1) v := fun K =>
        ⟨fun hh => by
          rcases hh with hh | ⟨hh, k⟩ | ⟨hh, k⟩
          · exact hh
          · exact hh.conn (hab.trans k)
          · exact hh.conn ((hab.sym ha.1).trans k), .inl⟩
      unfold Sup
      rw [L v, E v, same, same]
    · have hok : sOk x.kind x.a x.b P = true := by
        unfold sOk; rw [if_neg h4, if_neg nj]
        have : ¬ P.getD x.a.toNat 0 = P.getD x.b.toNat 0 := fun e => hab (pab.1 e)
        simpa using this
      rcases hva : lvB op x.a with _ | _ <;> rcases hvb : lvB op x.b with _ | _
      · have na : ¬ HasK liveK ds (withL s i 1) x.a := fun hh => by rw [lva.2 hh] at hva; cases hva
        have nb : ¬ HasK liveK ds (withL s i 1) x.b := fun hh => by rw [lvb.2 hh] at hvb; cases hvb
        have hp : parB x.kind x.a x.b P op = false ∧ dOk x.kind x.a x.b P op = false := by unfold parB dOk; rw [hok, h0, h1, hva, hvb]; exact ⟨rfl, rfl⟩
        have hlo : loadB x.kind x.a x.b ns P op = false := by unfold loadB; rw [hp.2]; rfl
        rw [hp.1, hp.2, hlo]
        refine Means.same (fun v => ?_) (by simp)
        have l1 : HasK liveK ds (withL s i 2) v ↔ HasK liveK ds (withL s i 1) v := by
          rw [L v]
          exact ⟨fun hh => by
            rcases hh with hh | ⟨hh, _⟩ | ⟨hh, _⟩
            · exact hh
            · exact absurd hh na
            · exact absurd hh nb, .inl⟩
        unfold Sup
        rw [l1]
        constructor
        · rintro ⟨k1, k2⟩; exact ⟨k1, fun hh => k2 ((E v).2 (.inl hh))⟩
        · rintro ⟨k1, k2⟩
          refine ⟨k1, fun hh => ?_⟩
          rcases (E v).1 hh with hh | ⟨_, k⟩ | ⟨_, k⟩
          · exact k2 hh
          · exact nb (k1.conn (k.sym hbb.1))
          · exact na (k1.conn (k.sym ha.1))
      · have na : ¬ HasK liveK ds (withL s i 1) x.a := fun hh => by rw [lva.2 hh] at hva; cases hva
        have hp : parB x.kind x.a x.b P op = false := by unfold parB; rw [hok, h0, h1, hva, hvb]; rfl
        have hdk : dOk x.kind x.a x.b P op = true := by unfold dOk; rw [hok, h0, h1, hva, hvb]; rfl
        have hdn : dN x.kind x.a x.b P op = x.a := by unfold dN sN0; rw [if_pos hdk, h0, hva, if_neg (by simp), if_neg h4, if_neg nj]
        have m := merge_one (p := x.b) (q := x.a) (ds := ds) (o := withL s i 1) (c := withL s i 2) hbb.1 ha.1 (fun K hK v => by
          rcases hK with rfl | rfl
          · rw [L v]; exact or_congr_right or_comm
          · rw [E v]; exact or_congr_right or_comm) (lvb.1 hvb) na nfb
        have key := Means.one (ns := ns) (q := x.a) hP hl ha m.1 m.2
        have hlo : (loadB x.kind x.a x.b ns P op = true) = (∃ (v : Nat) (y : Nd), v < ns.length ∧ ns[v]? = some y ∧ 0 < y.cust ∧ P.getD v 0 = P.getD x.a.toNat 0) := by
          unfold loadB loadTo
          rw [hdk, hdn, Bool.true_and, decide_eq_true_eq]
        rw [hp, hdk, if_neg (by simp), if_pos rfl]
        simp only [hlo]
        exact key
      · have nb : ¬ HasK liveK ds (withL s i 1) x.b := fun hh => by rw [lvb.2 hh] at hvb; cases hvb
        have hp : parB x.kind x.a x.b P op = false := by unfold parB; rw [hok, h0, h1, hva, hvb]; rfl
        have hdk : dOk x.kind x.a x.b P op = true := by unfold dOk; rw [hok, h0, h1, hva, hvb]; rfl
        have hdn : dN x.kind x.a x.b P op = x.b := by unfold dN sN1; rw [if_pos hdk, h0, hva, if_pos rfl, if_neg h4, if_neg nj]
        have m := merge_one (p := x.a) (q := x.b) (ds := ds) (o := withL s i 1) (c := withL s i 2) ha.1 hbb.1 (fun K hK v => by
          rcases hK with rfl | rfl
          · exact L v
          · exact E v) (lva.1 hva) nb nfa
        have key := Means.one (ns := ns) (q := x.b) hP hl hbb m.1 m.2
        have hlo : (loadB x.kind x.a x.b ns P op = true) = (∃ (v : Nat) (y : Nd), v < ns.length ∧ ns[v]? = some y ∧ 0 < y.cust ∧ P.getD v 0 = P.getD x.b.toNat 0) := by
          unfold loadB loadTo
          rw [hdk, hdn, Bool.true_and, decide_eq_true_eq]
        rw [hp, hdk, if_neg (by simp), if_pos rfl]
        simp only [hlo]
        exact key
      · have ya := lva.1 hva
        have yb := lvb.1 hvb
        have hp : parB x.kind x.a x.b P op = true := by unfold parB; rw [hok, h0, h1, hva, hvb]; rfl
        rw [if_pos hp]
        refine Means.same (fun v => ?_) (by simp)
        have ne : ¬ HasK (· = 4) ds (withL s i 2) x.a := fun hh => nfa ⟨(L _).2 (.inl ya), hh⟩
        have nea : ¬ HasK (· = 4) ds (withL s i 1) x.a := fun hh => ne ((E _).2 (.inl hh))
        have neb : ¬ HasK (· = 4) ds (withL s i 1) x.b := fun hh => ne ((E _).2 (.inr (.inr ⟨hh, Conn.refl _ _ _⟩)))
        have l1 : HasK liveK ds (withL s i 2) v ↔ HasK liveK ds (withL s i 1) v := by
          rw [L v]
          exact ⟨fun hh => by
            rcases hh with hh | ⟨_, k⟩ | ⟨_, k⟩
            · exact hh
            · exact yb.conn k
            · exact ya.conn k, .inl⟩
        have e1 : HasK (· = 4) ds (withL s i 2) v ↔ HasK (· = 4) ds (withL s i 1) v := by
          rw [E v]
          exact ⟨fun hh => by
            rcases hh with hh | ⟨hh, _⟩ | ⟨hh, _⟩
            · exact hh
            · exact absurd hh nea
            · exact absurd hh neb, .inl⟩
        unfold Sup
        rw [l1, e1]
end
end Go.Proofs.YtdpmfdcackoegaaGreatDoor
