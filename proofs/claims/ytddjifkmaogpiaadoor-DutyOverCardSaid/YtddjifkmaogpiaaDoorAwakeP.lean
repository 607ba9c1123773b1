/-
  Plain: the example of the chapter.
-/
import Derived.Test.YtddjifkmaogpiaaDoorDutyOf
import Derived.Test.YtddjifkmaogpiaaDoorRef07P
namespace Go.Proofs.YtddjifkmaogpiaaDoor
def nsA : List Nd := [⟨⟨#[65]⟩, 0, 0⟩, ⟨⟨#[66]⟩, 0, 0⟩]
def dsA : List Dv := [⟨⟨#[83]⟩, 5, 0, -1, 0⟩, ⟨⟨#[84]⟩, 5, 1, -1, 0⟩, ⟨⟨#[68]⟩, 3, 0, 1, 0⟩]
theorem dsA_cases {i : Nat} {x : Dv} (h : dsA[i]? = some x) : (i = 0 ∧ x = ⟨⟨#[83]⟩, 5, 0, -1, 0⟩) ∨ (i = 1 ∧ x = ⟨⟨#[84]⟩, 5, 1, -1, 0⟩) ∨ (i = 2 ∧ x = ⟨⟨#[68]⟩, 3, 0, 1, 0⟩) := by
  match i, h with
  | 0, h => left; exact ⟨rfl, (Option.some.inj h).symm⟩
  | 1, h => right; left; exact ⟨rfl, (Option.some.inj h).symm⟩
  | 2, h => right; right; exact ⟨rfl, (Option.some.inj h).symm⟩
  | i + 3, h => simp [dsA] at h
theorem endsA : EndsOk 2 dsA ∧ AOk 2 dsA := by
  constructor
  · intro x hx hj
    obtain ⟨i, hi⟩ := List.mem_iff_getElem?.1 hx
    rcases dsA_cases hi with ⟨_, rfl⟩ | ⟨_, rfl⟩ | ⟨_, rfl⟩
    · cases hj
    · cases hj
    · decide
  · intro x hx
    obtain ⟨i, hi⟩ := List.mem_iff_getElem?.1 hx
    rcases dsA_cases hi with ⟨_, rfl⟩ | ⟨_, rfl⟩ | ⟨_, rfl⟩ <;> decide
/-- While the disconnector is open each node is a part. -/
theorem partsA (p q : Int) : IsParts 2 dsA [p, q, 1] [0, 1] := by
  refine LInv.final ⟨rfl, fun v hv => ?_⟩ (fun i hi x hx hc hj => ?_)
  · rcases (show v = 0 ∨ v = 1 by omega) with rfl | rfl
    · exact ⟨0, rfl, Nat.le_refl _, Conn.refl _ _ _⟩
    · exact ⟨1, rfl, Nat.le_refl _, Conn.refl _ _ _⟩
  · rcases dsA_cases hx with ⟨rfl, rfl⟩ | ⟨rfl, rfl⟩ | ⟨rfl, rfl⟩
    · cases hj
    · cases hj
    · cases hc
theorem noEarth (s : List Int) (v : Int) : ¬ HasK (· = 4) dsA s v := by
  rintro ⟨i, x, hx, _, hk, _⟩
  rcases dsA_cases hx with ⟨_, rfl⟩ | ⟨_, rfl⟩ | ⟨_, rfl⟩ <;> cases hk
theorem live0 (q r : Int) : HasK liveK dsA [2, q, r] 0 := ⟨0, _, rfl, rfl, .inl rfl, Conn.refl _ _ _⟩
theorem live1 (p r : Int) : HasK liveK dsA [p, 2, r] 1 := ⟨1, _, rfl, rfl, .inl rfl, Conn.refl _ _ _⟩
theorem conn01 (p q : Int) : Conn dsA [p, q, 2] 0 1 := by
  have := Conn.edge (ds := dsA) (s := [p, q, 2]) (u := 0) (i := 2) (x := ⟨⟨#[68]⟩, 3, 0, 1, 0⟩) rfl rfl (by decide)
  exact this
theorem cols_of {s c : List Int} (x0 x1 : Int) (hc : c = [x0, x1]) (h0 : colV dsA s 0 = x0) (h1 : colV dsA s 1 = x1) : IsCols 2 dsA s c := by
  subst hc
  refine ⟨rfl, fun v hv => ?_⟩
  rcases (show v = 0 ∨ v = 1 by omega) with rfl | rfl
  · simpa using h0.symm
  · simpa using h1.symm
theorem col_live {s : List Int} {v : Int} (h : HasK liveK dsA s v) : colV dsA s v = 1 := by unfold colV; rw [ind_pos h, ind_neg (noEarth s v)]; rfl
theorem col_dead {s : List Int} {v : Int} (h : ¬ HasK liveK dsA s v) : colV dsA s v = 0 := by unfold colV; rw [ind_neg h, ind_neg (noEarth s v)]; rfl
theorem noLoad (kd a b : Int) (parts op : List Int) : loadB kd a b nsA parts op = false := by
  have h : ¬ loadTo kd a b nsA parts op nsA.length := by
    rintro ⟨i, x, _, hx, hc, _⟩
    match i, hx with
    | 0, hx => rw [← Option.some.inj hx] at hc; cases hc
    | 1, hx => rw [← Option.some.inj hx] at hc; cases hc
    | i + 2, hx => simp [nsA] at hx
  unfold loadB
  simp [h]
theorem dutyA1 : dutyAt 2 nsA dsA [2, 2, 1] ((2 : Nat) : Int) ⟨⟨#[68]⟩, 3, 0, 1, 0⟩ = 3 := by
  have e1 : withL [2, 2, 1] ((2 : Nat) : Int) 1 = [2, 2, 1] := by decide
  have e2 : withL [2, 2, 1] ((2 : Nat) : Int) 2 = [2, 2, 2] := by decide
  unfold dutyAt
  rw [e1, e2, partsOf_eq (partsA 2 2), colsOf_eq (cols_of 1 1 rfl (col_live (live0 2 1)) (col_live (live1 2 1))), colsOf_eq (cols_of 1 1 rfl (col_live (live0 2 2)) (col_live (live1 2 2)))]
  unfold dutyV
  rw [if_neg (by decide), if_pos (by decide)]
theorem dutyA2 : dutyAt 2 nsA dsA [2, 1, 2] ((2 : Nat) : Int) ⟨⟨#[68]⟩, 3, 0, 1, 0⟩ = 1 := by
  have e1 : withL [2, 1, 2] ((2 : Nat) : Int) 1 = [2, 1, 1] := by decide
  have e2 : withL [2, 1, 2] ((2 : Nat) : Int) 2 = [2, 1, 2] := by decide
  have hd : ¬ HasK liveK dsA [2, 1, 1] 1 := by
    rintro ⟨i, x, hx, hs, hk, hc⟩
    rcases dsA_cases hx with ⟨rfl, rfl⟩ | ⟨rfl, rfl⟩ | ⟨rfl, rfl⟩
    · have := ((partsA 2 1).iff (u := 0) (v := 1) (by decide) (by decide)).2 hc
      simp at this
    · simp at hs
    · simp at hs
  have hl : HasK liveK dsA [2, 1, 2] 1 := ⟨0, _, rfl, rfl, .inl rfl, conn01 2 1⟩
  unfold dutyAt
  rw [e1, e2, partsOf_eq (partsA 2 1), colsOf_eq (cols_of 1 0 rfl (col_live (live0 1 1)) (col_dead hd)), colsOf_eq (cols_of 1 1 rfl (col_live (live0 1 2)) (col_live hl))]
  unfold dutyV
  rw [if_neg (by decide), if_neg (by decide), noLoad, if_neg (by decide), if_pos (by decide)]
theorem stateA1 : stateErr nsA dsA [2, 2, 1] = 0 := by kernel_rfl
theorem stateA2 : stateErr nsA dsA [2, 1, 2] = 0 := by kernel_rfl
end Go.Proofs.YtddjifkmaogpiaaDoor
