import Derived.Test.YtbjndpjligpjaaaDoorZ31
import Derived.Test.YtbjndpjligpjaaaDoorZ01
import Derived.Test.YtbjndpjligpjaaaDoorZ19
import Derived.Test.YtbjndpjligpjaaaDoorZ32
import Derived.Test.YtbjndpjligpjaaaDoorTie
import Derived.Test.YtbjndpjligpjaaaDoorCards
import Derived.SevenTiedAt
import Derived.ProofKit
import Derived.OpenShut
import Derived.ShutString
import Derived.ChangeOld
/-
  The statement LocksetAnswers of permitofficelaw14: for every input the law returns true, and every argument reads as it did.
-/
namespace Go.Proofs.YtbjndpjligpjaaaDoor.locksetAnswers
open Go.ChangeShapes Go.WideShapes Go.ChangeAt Go.RowKit
open Go.ChangeMaps (open_string shut_string)
set_option linter.unusedVariables false

theorem own : ownKnob Tryd.prog.godebug = none := by kernel_rfl
theorem laidOut : laidOutB Tryd.prog = true := by kernel_rfl

set_option maxRecDepth 100000 in
theorem lifted (os : Os) (started : os.Started) (H : Type) (enc : TypeId × Value → H) :
    ReturnsInHanded {} Tryd.checked os 3 .any (fun w args => (Rows.locksetAnswersSpec.pre enc Tryd.prog Tryd.f3 Rows.locksetAnswersRow.domain false w args ∧ laidMet Tryd.prog Rows.locksetAnswersRow.laid w) ∧ sizedMet enc Tryd.prog Tryd.f3 (OpenSpec.ofChange Rows.locksetAnswersSpec) false w args)
      (Rows.locksetAnswersSpec.post enc Tryd.prog Tryd.f3 false true false false) := by
  refine returnsInHanded_of_change_and (C := Tryd.checked) (X := fun w _ => laidMet Tryd.prog Rows.locksetAnswersRow.laid w) (fun _ _ _ hh h => h.of_heap hh) own started (by kernel_rfl) Tryd.func3
    (ChangeSpec.witness_at (enc := enc) (C := Tryd.checked) (os := os) (X := fun w _ => laidMet Tryd.prog Rows.locksetAnswersRow.laid w) false (laidWorld os) #[.slice none 0 0, .slice none 0 0, .agg #[.slice none 0 0, .slice none 0 0], .agg #[.int .i64 0, .int .i64 0, .int .i64 0], .int .i64 0, .int .i64 0] 8 rfl (by kernel_rfl) (by kernel_rfl) (by kernel_rfl) (by kernel_rfl) (by kernel_rfl) (laid_met os _)) ?_
  intro W base args ds gs before hval0 hW hcnd _ hL _
  have hval : ∀ (j : Nat) t v, Tryd.f3.params[j]? = some t → args[j]? = some v → Value.okWide Tryd.prog W .any base t v := hval0
  have hW' := hW
  obtain ⟨p, q, hA0, hV, rfl, hfz, hnd⟩ := hW
  have hA : DataW.TrodAll enc Tryd.prog W 0 (fun _ => true) true Tryd.f3.params.toList args.toList ds p := hA0
  rw [Tryd.params3] at hA hval
  obtain ⟨v0, vs0, d0, ds0, p0, q0, hargs, rfl, rfl, h0, r0⟩ := trodAll_cons hA
  obtain ⟨v1, vs1, d1, ds1, p1, q1, rfl, rfl, rfl, h1, r1⟩ := trodAll_cons r0
  obtain ⟨v2, vs2, d2, ds2, p2, q2, rfl, rfl, rfl, h2, r2⟩ := trodAll_cons r1
  obtain ⟨v3, vs3, d3, ds3, p3, q3, rfl, rfl, rfl, h3, r3⟩ := trodAll_cons r2
  obtain ⟨v4, vs4, d4, ds4, p4, q4, rfl, rfl, rfl, h4, r4⟩ := trodAll_cons r3
  obtain ⟨v5, vs5, d5, ds5, p5, q5, rfl, rfl, rfl, h5, r5⟩ := trodAll_cons r4
  obtain ⟨rfl, rfl, rfl⟩ := trodAll_nil r5
  obtain rfl : args = #[v0, v1, v2, v3, v4, v5] := by cases args; simp_all
  obtain ⟨rfl, rfl⟩ := trodVars_none hV
  have k0 := h0
  have lt0 : ∀ x ∈ p0, x.block < W.heap.size := by obtain ⟨m, hm⟩ := k0; exact DataW.trod_lt m _ _ _ hm
  obtain ⟨A0, n0, c0, z0, rfl, w0, b0⟩ := open_ints_Sl Tryd.underlying22 Tryd.underlying3 (by kernel_rfl) (hval 0 22 v0 rfl rfl) h0
  have k1 := h1
  have lt1 : ∀ x ∈ p1, x.block < W.heap.size := by obtain ⟨m, hm⟩ := k1; exact DataW.trod_lt m _ _ _ hm
  obtain ⟨x1, rfl, w1⟩ := open_locks (hval 1 23 v1 rfl rfl) h1
  have k2 := h2
  have lt2 : ∀ x ∈ p2, x.block < W.heap.size := by obtain ⟨m, hm⟩ := k2; exact DataW.trod_lt m _ _ _ hm
  obtain ⟨x2, rfl, w2⟩ := open_net (hval 2 27 v2 rfl rfl) h2
  have k3 := h3
  have lt3 : ∀ x ∈ p3, x.block < W.heap.size := by obtain ⟨m, hm⟩ := k3; exact DataW.trod_lt m _ _ _ hm
  obtain ⟨x3, rfl, w3⟩ := open_lock (hval 3 29 v3 rfl rfl) h3
  obtain ⟨a4, rfl, rfl, rfl, w4⟩ := open_int Tryd.underlying3 (hval 4 3 v4 rfl rfl) h4
  obtain ⟨a5, rfl, rfl, rfl, w5⟩ := open_int Tryd.underlying3 (hval 5 3 v5 rfl rfl) h5
  clear hA0 hval0
  refine (walk_LocksetAnswers W (laid_of hL) A0 n0 c0 z0 w0 b0 x1 w1 x2 w2 x3 w3 a4 w4 a5 w5).mono fun e W' ⟨he, bel⟩ => ?_
  subst he
  exact ⟨_, rfl, _, _, _, [], _, [], hW', trodAll_mk1 (shut_bool Tryd.underlying4 _), (trodAll_cons_mk (Below.trod laidOut (by kernel_rfl) (of_decide_eq_true (by kernel_rfl)) k0 bel lt0) (trodAll_cons_mk (Below.trod laidOut (by kernel_rfl) (of_decide_eq_true (by kernel_rfl)) k1 bel lt1) (trodAll_cons_mk (Below.trod laidOut (by kernel_rfl) (of_decide_eq_true (by kernel_rfl)) k2 bel lt2) (trodAll_cons_mk (Below.trod laidOut (by kernel_rfl) (of_decide_eq_true (by kernel_rfl)) k3 bel lt3) (trodAll_cons_mk (shut_int Tryd.underlying3 w4) (trodAll_cons_mk (shut_int Tryd.underlying3 w5) trodAll_mk0)))))), rfl, bel.frame _, fun h => by cases h⟩

theorem over : Rows.locksetAnswersRow.holds Tryd.pinned (OpenSpec.ofChange Rows.locksetAnswersSpec) :=
  OpenClaim.holds_of_wide 3 Tryd.f3 rfl rfl rfl rfl rfl rfl rfl ⟨rfl, rfl, rfl, rfl, rfl⟩ rfl rfl rfl rfl rfl (by kernel_rfl) Tryd.func3 (by kernel_rfl)
    (of_decide_eq_true (by kernel_rfl)) (by unfold Func.isWrapper; first | (rw [if_pos (by decide +kernel)]; kernel_rfl) | (rw [if_neg (by decide +kernel)]; exact ⟨rfl, rfl⟩))
    (fun os started H enc _ => lifted os started H enc)

set_option maxRecDepth 100000 in
theorem proved : Rows.LocksetAnswersCardSaid :=
  Claim7.holds_tied_plain_at .later [] [.data] true _ false over (fun _ h => by cases h) (by kernel_rfl) (fun _ h => by cases h) locksetAnswers_row_tie rfl ⟨rfl, rfl⟩ (by kernel_rfl) rfl
    (fun f fn hf hfn => by
      have ef : some f = some 3 := hf.symm.trans (by kernel_rfl)
      obtain rfl := Option.some.inj ef
      obtain rfl : fn = Tryd.f3 := (Option.some.inj (Tryd.func3.symm.trans hfn)).symm
      refine ⟨by kernel_rfl, fun j t ht => ?_⟩
      rw [Tryd.params3] at ht
      match j, ht with
      | 0, ht =>
        have et : t = 22 := by simpa using ht.symm
        subst et
        exact (by kernel_rfl : Tryd.pinned.checked.prog.wantsStandIn 22 = false)
      | 1, ht =>
        have et : t = 23 := by simpa using ht.symm
        subst et
        exact (by kernel_rfl : Tryd.pinned.checked.prog.wantsStandIn 23 = false)
      | 2, ht =>
        have et : t = 27 := by simpa using ht.symm
        subst et
        exact (by kernel_rfl : Tryd.pinned.checked.prog.wantsStandIn 27 = false)
      | 3, ht =>
        have et : t = 29 := by simpa using ht.symm
        subst et
        exact (by kernel_rfl : Tryd.pinned.checked.prog.wantsStandIn 29 = false)
      | 4, ht =>
        have et : t = 3 := by simpa using ht.symm
        subst et
        exact (by kernel_rfl : Tryd.pinned.checked.prog.wantsStandIn 3 = false)
      | 5, ht =>
        have et : t = 3 := by simpa using ht.symm
        subst et
        exact (by kernel_rfl : Tryd.pinned.checked.prog.wantsStandIn 3 = false)
      | j + 6, ht => simp at ht)
    (by kernel_rfl)
#print axioms proved
end Go.Proofs.YtbjndpjligpjaaaDoor.locksetAnswers
