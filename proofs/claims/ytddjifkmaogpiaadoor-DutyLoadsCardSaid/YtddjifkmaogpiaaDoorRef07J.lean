/-
  The references of layer 7: walk of Joined.
-/
import Derived.Test.YtddjifkmaogpiaaDoorRef07
import Derived.Test.YtddjifkmaogpiaaDoorDutyOf
namespace Go.Proofs.YtddjifkmaogpiaaDoor
open Go.RowKit
theorem isParts_of {nn : Nat} {ds : List Dv} {s p : List Int} (h : IsParts nn ds s p) : IsParts nn ds s (partsOf nn ds s) := by rw [partsOf_eq h]; exact h
/-- Joined, at a valid state and two nodes: whether the two have one part. -/
def JoinPost (w : World) (nn : Nat) (ds : List Dv) (s : List Int) (u v : Nat) (e : Ending) (w' : World) : Prop := e = .returned (.tuple #[.bool ((partsOf nn ds s).getD u 0 == (partsOf nn ds s).getD v 0), .int .i64 0]) ∧ Below w.heap.size w w'
theorem joined_ok (An Ad As : Option Addr) (nn cn nd cd n c Bn Bd Bs u v : Nat) (ns : List Nd) (ds : List Dv) (s : List Int) (w : World)
    (hn : Sl w Bn 3 An nn cn (ns.flatMap Nd.cells)) (hBn : Bn ≤ w.heap.size) (hd : Sl w Bd 5 Ad nd cd (ds.flatMap Dv.cells)) (hBd : Bd ≤ w.heap.size) (hs : Sl w Bs 1 As n c (intsV s)) (hBs : Bs ≤ w.heap.size) (hsn : ∀ x ∈ ns, x.name.size ≤ 9223372036854775807) (hsd : ∀ x ∈ ds, x.name.size ≤ 9223372036854775807)
    (h0 : stateErr ns ds s = 0) (hnn : nn ≤ 10000) (hnd : nd ≤ n) (hends : EndsOk nn ds) (hne : ∀ x ∈ ds, joinsB x.kind = true → x.b ≠ x.a) (hu : u < nn) (hv : v < nn) :
    Calls Tryd.prog 15 #[.agg #[.slice An nn cn, .slice Ad nd cd], .slice As n c, .int .i64 u, .int .i64 v] w (JoinPost w nn ds s u v) := by
  have HB : Hid (Below w.heap.size w (w.alloc (.cells #[.slice An nn cn, .slice Ad nd cd] 30))) := (Below.refl _ _).alloc (Nat.le_refl _) _
  have HC := Lib.hid (rparts_any An Ad As nn cn nd cd n c Bn Bd Bs ns ds s (w.alloc (.cells #[.slice An nn cn, .slice Ad nd cd] 30)) (hn.alloc hBn _) (hd.alloc hBd _) (hs.alloc hBs _) (by simp; omega) (by simp; omega) (by simp; omega) hsn hsd hnn (fun _ => ⟨hnd, hends, hne⟩))
  rw [h0] at HC
  clear hn hd hs hsn hsd h0 hends hne
  go_enter Tryd.func15, Tryd.ntmps15
  go_wp2_with fail
  generalize World.alloc _ _ = W at *
  refine HC.out.mono ?_
  rintro e w1 ⟨hb1, h | ⟨_, A, out, rfl, hO, hP⟩⟩
  · exact absurd rfl h.1
  have HB1 := Lib.hid (HB.out.trans (hb1.out.mono HB.out.size))
  have HPO := Lib.hid (partsOf_eq hP.out)
  obtain ⟨g, x, rfl, _, _, hx, hcx, _, _⟩ := hO.out.at hu
  obtain ⟨g2, y, hA2, _, _, hy, hcy, _, _⟩ := hO.out.at hv
  injection hA2 with hA2
  injection hA2 with hA2
  subst hA2
  have HR : Hid (((partsOf nn ds s).getD u 0 == (partsOf nn ds s).getD v 0) = (x == y)) := by unfold Hid; rw [HPO.out, getD_of hx, getD_of hy]
  clear hb1 HB HC hx hy hP HPO hO
  have q1 : decide ((u : Int) < 0) = false := by simp
  have q2 : decide ((v : Int) < 0) = false := by simp
  have q3 : decide (nn ≤ u) = false := by simp; omega
  have q4 : decide (nn ≤ v) = false := by simp; omega
  go_upto_region 6 with (fail)
  refine wp_region_J (S := fun W' => W'.cell? ⟨g, u, none⟩ = some (.int .i64 x) ∧ W'.cell? ⟨g, v, none⟩ = some (.int .i64 y)) (J := []) (by kernel_rfl) ?_ (fun hHeld => ?_)
  · exact ⟨hcx, hcy⟩
  try dsimp only at hHeld
  refine wpAnyJ_takeL (i := 0) (d := some 39) (v := ?_) #[true, false, false, false, false, false, false, false, false, false, false] (by kernel_rfl) rfl rfl (by kernel_rfl) (by kernel_rfl) (by kernel_rfl) (by kernel_rfl) (by kernel_rfl) (fun _ _ _ h => h) (Or.inl ⟨by rfl, ?_⟩) hHeld ?_
  rotate_left
  · (intro w hSw; (try dsimp only at hSw);  go_simp; try with_reducible rfl)
  try simp only [Act.put, List.setIfInBounds_toArray, List.set_cons_zero, List.set_cons_succ]
  refine wpAnyJ_takeL (i := 1) (d := some 40) (v := ?_) #[true, true, false, false, false, false, false, false, false, false, false] (by kernel_rfl) rfl rfl (by kernel_rfl) (by kernel_rfl) (by kernel_rfl) (by kernel_rfl) (by kernel_rfl) (fun _ _ _ h => h) (Or.inl ⟨by rfl, ?_⟩) hHeld ?_
  rotate_left
  · (intro w hSw; (try dsimp only at hSw);  go_simp; try with_reducible rfl)
  try simp only [Act.put, List.setIfInBounds_toArray, List.set_cons_zero, List.set_cons_succ]
  refine wpAnyJ_takeL (i := 2) (d := some 41) (v := ?_) #[true, true, true, false, false, false, false, false, false, false, false] (by kernel_rfl) rfl rfl (by kernel_rfl) (by kernel_rfl) (by kernel_rfl) (by kernel_rfl) (by kernel_rfl) (fun _ _ _ h => h) (Or.inl ⟨by rfl, ?_⟩) hHeld ?_
  rotate_left
  · (intro w hSw; (try dsimp only at hSw);  go_simp; try with_reducible rfl)
  try simp only [Act.put, List.setIfInBounds_toArray, List.set_cons_zero, List.set_cons_succ]
  refine wpAnyJ_takeL (i := 3) (d := some 42) (v := ?_) #[true, true, true, true, false, false, false, false, false, false, false] (by kernel_rfl) rfl rfl (by kernel_rfl) (by kernel_rfl) (by kernel_rfl) (by kernel_rfl) (by kernel_rfl) (fun _ _ _ h => h) (Or.inl ⟨by rfl, ?_⟩) hHeld ?_
  rotate_left
  · (intro w hSw; (try dsimp only at hSw);  go_simp; try with_reducible rfl)
  try simp only [Act.put, List.setIfInBounds_toArray, List.set_cons_zero, List.set_cons_succ]
  refine wpAnyJ_takeL (i := 4) (d := some 43) (v := ?_) #[true, true, true, true, true, false, false, false, false, false, false] (by kernel_rfl) rfl rfl (by kernel_rfl) (by kernel_rfl) (by kernel_rfl) (by kernel_rfl) (by kernel_rfl) (fun _ _ _ h => h) (Or.inl ⟨by rfl, ?_⟩) hHeld ?_
  rotate_left
  · (intro w hSw; (try dsimp only at hSw);  go_simp; try with_reducible rfl)
  try simp only [Act.put, List.setIfInBounds_toArray, List.set_cons_zero, List.set_cons_succ]
  refine wpAnyJ_takeL (i := 5) (d := some 44) (v := ?_) #[true, true, true, true, true, true, false, false, false, false, false] (by kernel_rfl) rfl rfl (by kernel_rfl) (by kernel_rfl) (by kernel_rfl) (by kernel_rfl) (by kernel_rfl) (fun _ _ _ h => h) (Or.inl ⟨by rfl, ?_⟩) hHeld ?_
  rotate_left
  · (intro w hSw; (try dsimp only at hSw);  go_simp; try with_reducible rfl)
  try simp only [Act.put, List.setIfInBounds_toArray, List.set_cons_zero, List.set_cons_succ]
  refine wpAnyJ_takeL (i := 6) (d := some 45) (v := ?_) #[true, true, true, true, true, true, true, false, false, false, false] (by kernel_rfl) rfl rfl (by kernel_rfl) (by kernel_rfl) (by kernel_rfl) (by kernel_rfl) (by kernel_rfl) (fun _ _ _ h => h) (Or.inl ⟨by rfl, ?_⟩) hHeld ?_
  rotate_left
  · (intro w hSw; (try dsimp only at hSw);  go_simp; try with_reducible rfl)
  try simp only [Act.put, List.setIfInBounds_toArray, List.set_cons_zero, List.set_cons_succ]
  refine wpAnyJ_takeL (i := 7) (d := some 46) (v := ?_) #[true, true, true, true, true, true, true, true, false, false, false] (by kernel_rfl) rfl rfl (by kernel_rfl) (by kernel_rfl) (by kernel_rfl) (by kernel_rfl) (by kernel_rfl) (fun _ _ _ h => h) (Or.inl ⟨by rfl, ?_⟩) hHeld ?_
  rotate_left
  · (intro w hSw; (try dsimp only at hSw);  go_simp; try with_reducible rfl)
  try simp only [Act.put, List.setIfInBounds_toArray, List.set_cons_zero, List.set_cons_succ]
  refine wpAnyJ_takeL (i := 8) (d := some 47) (v := ?_) #[true, true, true, true, true, true, true, true, true, false, false] (by kernel_rfl) rfl rfl (by kernel_rfl) (by kernel_rfl) (by kernel_rfl) (by kernel_rfl) (by kernel_rfl) (fun _ _ _ h => h) (Or.inl ⟨by rfl, ?_⟩) hHeld ?_
  rotate_left
  · (intro w hSw; (try dsimp only at hSw);  go_simp; try with_reducible rfl)
  try simp only [Act.put, List.setIfInBounds_toArray, List.set_cons_zero, List.set_cons_succ]
  refine wpAnyJ_takeL (i := 9) (d := some 8) (v := ?_) #[true, true, true, true, true, true, true, true, true, true, false] (by kernel_rfl) rfl rfl (by kernel_rfl) (by kernel_rfl) (by kernel_rfl) (by kernel_rfl) (by kernel_rfl) (fun _ _ _ h => h) (Or.inl ⟨by rfl, ?_⟩) hHeld ?_
  rotate_left
  · (intro w hSw; (try dsimp only at hSw);  go_simp; try with_reducible rfl)
  try simp only [Act.put, List.setIfInBounds_toArray, List.set_cons_zero, List.set_cons_succ]
  refine wpAnyJ_takeL (i := 10) (d := some 9) (v := ?_) #[true, true, true, true, true, true, true, true, true, true, true] (by kernel_rfl) rfl rfl (by kernel_rfl) (by kernel_rfl) (by kernel_rfl) (by kernel_rfl) (by kernel_rfl) (fun _ _ _ h => h) (Or.inl ⟨by rfl, ?_⟩) hHeld ?_
  rotate_left
  · (intro w hSw; (try dsimp only at hSw);  go_simp; try with_reducible rfl)
  try simp only [Act.put, List.setIfInBounds_toArray, List.set_cons_zero, List.set_cons_succ]
  refine wpAnyJ_done (by kernel_rfl) ?_ _
  go_wp2_with fail
  go_ret2
  exact ⟨by rw [HR.out]; rfl, HB1.out.drew⟩
end Go.Proofs.YtddjifkmaogpiaaDoor
