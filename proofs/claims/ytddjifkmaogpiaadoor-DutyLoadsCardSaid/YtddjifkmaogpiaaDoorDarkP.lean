/-
  Layer 12, plain: duties where no source is closed.
-/
import Derived.Test.YtddjifkmaogpiaaDoorDutyOf
namespace Go.Proofs.YtddjifkmaogpiaaDoor
theorem withL_get {s : List Int} {i : Nat} {p : Int} (k : Nat) (hk : k ≠ i) : (withL s i p)[k]? = s[k]? := by
  unfold withL
  split
  · rw [Int.toNat_natCast, List.getElem?_set, if_neg (fun e => hk e.symm)]
  · rfl
theorem withL_same {s : List Int} {i : Nat} {p : Int} (h : s[i]? = some p) : withL s i p = s := by
  unfold withL
  split
  · rw [Int.toNat_natCast]
    apply List.ext_getElem?
    intro k
    rw [List.getElem?_set]
    split
    · rename_i e; subst e; rw [h, if_pos (List.getElem?_eq_some_iff.1 h).1]
    · rfl
  · rfl
theorem withL_at {s : List Int} {i : Nat} {p : Int} (h : i < s.length) : (withL s i p)[i]? = some p := by
  unfold withL
  rw [if_pos (by omega), Int.toNat_natCast, List.getElem?_set, if_pos rfl, if_pos h]
theorem shutB_get {s s' : List Int} {k : Nat} (h : s'[k]? = s[k]?) : shutB s' k = shutB s k := by
  unfold shutB
  rw [List.getD_eq_getElem?_getD, List.getD_eq_getElem?_getD, h]
/-- Two states that differ at devices that do not join have the same parts. -/
theorem conn_congr {ds : List Dv} {s s' : List Int} (h : ∀ (k : Nat) (x : Dv), ds[k]? = some x → joinsB x.kind = true → s'[k]? = s[k]?) {u v : Int} (hc : Conn ds s u v) : Conn ds s' u v := by
  unfold Conn at *
  induction hc with
  | base hv => exact .base hv
  | step hr hs hx hU h0 ih =>
    refine .step ih hs hx ?_ h0
    rw [shutB_get (h _ _ hx ?_)]
    · exact hU
    · unfold acrB at h0
      split at h0
      · omega
      · rename_i hj; simpa using hj
theorem conn_lone {ds : List Dv} {s : List Int} {i : Nat} {x : Dv} {p : Int} (hx : ds[i]? = some x) (hj : joinsB x.kind = false) (u v : Int) : Conn ds (withL s i p) u v ↔ Conn ds s u v := by
  have key : ∀ (k : Nat) (y : Dv), ds[k]? = some y → joinsB y.kind = true → (withL s i p)[k]? = s[k]? := by
    intro k y hy hjy
    refine withL_get k (fun e => ?_)
    subst e
    rw [hx] at hy
    injection hy with hy
    subst hy
    rw [hj] at hjy; cases hjy
  exact ⟨conn_congr (fun k y hy hjy => (key k y hy hjy).symm), conn_congr key⟩
/-- No source is closed. -/
def Dark (ds : List Dv) (s : List Int) : Prop := ∀ (k : Nat) (x : Dv), ds[k]? = some x → liveK x.kind → s[k]? = some 1
theorem dark_live {ds : List Dv} {s : List Int} (h : Dark ds s) (v : Int) : ¬ HasK liveK ds s v := by
  rintro ⟨k, x, hx, hs, hk, _⟩
  rw [h k x hx hk] at hs
  injection hs with hs
  omega
theorem dark_col {ds : List Dv} {s : List Int} (h : Dark ds s) (v : Int) : colV ds s v = ind (HasK (· = 4) ds s v) 2 := by unfold colV; rw [ind_neg (dark_live h v)]; omega
theorem dark_with {ds : List Dv} {s : List Int} (h : Dark ds s) {i : Nat} {x : Dv} (hx : ds[i]? = some x) (hk : ¬ liveK x.kind) (p : Int) : Dark ds (withL s i p) := by
  intro k y hy hky
  rw [withL_get k (fun e => ?_)]
  · exact h k y hy hky
  · subst e; rw [hx] at hy; injection hy with hy; subst hy; exact hk hky
section
variable {nn : Nat} {ns : List Nd} {ds : List Dv} {s : List Int} {i : Nat} {x : Dv}
theorem liveB_even : liveB 0 = false ∧ liveB 2 = false := by constructor <;> kernel_rfl
theorem cols_get {c : List Int} (hc : IsCols nn ds s c) {v : Int} (h0 : 0 ≤ v) (h1 : v < nn) : c.getD v.toNat 0 = colV ds s v := by
  obtain ⟨k, rfl⟩ := Int.eq_ofNat_of_zero_le h0
  rw [Int.toNat_natCast, getD_of (hc.2 k (by omega))]
theorem dark_lv {c : List Int} (hc : IsCols nn ds s c) (hd : Dark ds s) {v : Int} (h0 : 0 ≤ v) (h1 : v < nn) : lvB c v = false := by
  unfold lvB
  rw [cols_get hc h0 h1, dark_col hd]
  rcases ind_cases (HasK (· = 4) ds s v) 2 with ⟨_, e⟩ | ⟨_, e⟩ <;> rw [e]
  · exact liveB_even.2
  · exact liveB_even.1
/-- A device that is no source has nothing to do. -/
theorem dark_other {parts op cl : List Int} (hd : Dark ds s) (hx : ds[i]? = some x) (hk : ¬ liveK x.kind) (hkk : 1 ≤ x.kind ∧ x.kind ≤ 6) (ha : 0 ≤ x.a ∧ x.a < nn) (hb : joinsB x.kind = true → 0 ≤ x.b ∧ x.b < nn)
    (ho : IsCols nn ds (withL s i 1) op) (hc : IsCols nn ds (withL s i 2) cl) : dutyV x.kind x.a x.b ns parts op cl = 0 := by
  have d1 := dark_with hd hx hk 1
  have d2 := dark_with hd hx hk 2
  have c3 : ∀ v, 0 ≤ v → v < (nn : Int) → (cl.getD v.toNat 0 == 3) = false := by
    intro v h0 h1
    rw [cols_get hc h0 h1, dark_col d2]
    rcases ind_cases (HasK (· = 4) ds (withL s i 2) v) 2 with ⟨_, e⟩ | ⟨_, e⟩ <;> rw [e] <;> rfl
  have hf : faultB x.kind x.a x.b cl = false := by
    unfold faultB
    rw [c3 _ ha.1 ha.2]
    rcases hj : joinsB x.kind with _ | _
    · rfl
    · rw [c3 _ (hb hj).1 (hb hj).2]; rfl
  have hj4 : x.kind = 4 ∨ joinsB x.kind = true := by
    unfold liveK at hk
    by_cases h4 : x.kind = 4
    · exact .inl h4
    · right; simp [joinsB]; omega
  have hp : parB x.kind x.a x.b parts op = false ∧ dOk x.kind x.a x.b parts op = false := by
    unfold parB dOk sOk sL0 sL1
    rcases hj4 with h4 | hj
    · simp [h4]
    · have h4 : x.kind ≠ 4 := by intro e; rw [e] at hj; cases hj
      simp [h4, hj, dark_lv ho d1 ha.1 ha.2, dark_lv ho d1 (hb hj).1 (hb hj).2]
  have hl : loadB x.kind x.a x.b ns parts op = false := by unfold loadB; rw [hp.2]; rfl
  unfold dutyV
  rw [hf, hp.1, hl, hp.2]
  simp
open Classical in
/-- A source has what its node needs. -/
theorem dark_source {parts op cl : List Int} (hd : Dark ds s) (hi : i < s.length) (hx : ds[i]? = some x) (hk : liveK x.kind) (ha : 0 ≤ x.a ∧ x.a < nn)
    (ho : IsCols nn ds (withL s i 1) op) (hc : IsCols nn ds (withL s i 2) cl) :
    dutyV x.kind x.a x.b ns parts op cl = if HasK (· = 4) ds s x.a then 4 else if ∃ (v : Nat) (y : Nd), v < ns.length ∧ ns[v]? = some y ∧ 0 < y.cust ∧ parts.getD v 0 = parts.getD x.a.toNat 0 then 2 else 1 := by
  have hj : joinsB x.kind = false := by unfold liveK at hk; simp [joinsB]; omega
  have h4 : x.kind ≠ 4 := by unfold liveK at hk; omega
  have e1 : withL s i 1 = s := withL_same (hd i x hx hk)
  rw [e1] at ho
  have hlive : HasK liveK ds (withL s i 2) x.a := ⟨i, x, hx, withL_at hi, hk, Conn.refl _ _ _⟩
  have hearth : HasK (· = 4) ds (withL s i 2) x.a ↔ HasK (· = 4) ds s x.a := by
    constructor
    · rintro ⟨k, y, hy, hs, hky, hcn⟩
      refine ⟨k, y, hy, ?_, hky, (conn_lone hx hj _ _).1 hcn⟩
      rw [withL_get k (fun e => ?_)] at hs
      · exact hs
      · subst e; rw [hx] at hy; injection hy with hy; subst hy; exact h4 hky
    · rintro ⟨k, y, hy, hs, hky, hcn⟩
      refine ⟨k, y, hy, ?_, hky, (conn_lone hx hj _ _).2 hcn⟩
      rw [withL_get k (fun e => ?_)]
      · exact hs
      · subst e; rw [hx] at hy; injection hy with hy; subst hy; exact h4 hky
  have hcl : cl.getD x.a.toNat 0 = 1 + ind (HasK (· = 4) ds s x.a) 2 := by
    rw [cols_get hc ha.1 ha.2]
    unfold colV
    rw [ind_pos hlive, ind_congr hearth]
  have hok : sOk x.kind x.a x.b parts = true := by unfold sOk; rw [if_neg h4, if_pos hj]
  have h0 : sL0 x.kind x.a op = true := by unfold sL0; rw [if_neg h4, if_pos hj]
  have h1 : sL1 x.kind x.a x.b op = false := by unfold sL1; rw [if_neg h4, if_pos hj]; exact dark_lv ho hd ha.1 ha.2
  have hp : parB x.kind x.a x.b parts op = false := by unfold parB; rw [hok, h0, h1]; rfl
  have hdk : dOk x.kind x.a x.b parts op = true := by unfold dOk; rw [hok, h0, h1]; rfl
  have hdn : dN x.kind x.a x.b parts op = x.a := by unfold dN sN1; rw [if_pos hdk, if_pos h0, if_neg h4, if_pos hj]
  have hfa : faultB x.kind x.a x.b cl = decide (HasK (· = 4) ds s x.a) := by
    unfold faultB
    rw [hj, hcl]
    rcases ind_cases (HasK (· = 4) ds s x.a) 2 with ⟨h, e⟩ | ⟨h, e⟩ <;> rw [e]
    · rw [decide_eq_true h]; rfl
    · rw [decide_eq_false h]; rfl
  have hlo : loadB x.kind x.a x.b ns parts op = decide (∃ (v : Nat) (y : Nd), v < ns.length ∧ ns[v]? = some y ∧ 0 < y.cust ∧ parts.getD v 0 = parts.getD x.a.toNat 0) := by
    unfold loadB loadTo
    rw [hdk, hdn, Bool.true_and]
  unfold dutyV
  rw [hfa, hp, hlo, hdk]
  simp
end
end Go.Proofs.YtddjifkmaogpiaaDoor
