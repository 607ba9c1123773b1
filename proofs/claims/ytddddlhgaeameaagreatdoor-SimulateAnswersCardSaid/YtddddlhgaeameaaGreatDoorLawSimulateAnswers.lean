import Derived.Test.YtddddlhgaeameaaGreatDoorJ38
import Derived.Test.YtddddlhgaeameaaGreatDoorJ39
import Derived.Test.YtddddlhgaeameaaGreatDoorTie
import Derived.Test.YtddddlhgaeameaaGreatDoorCards
import Derived.SevenTiedAt
import Derived.ShutString
import Derived.ChangeOld
set_option maxRecDepth 100000
/-
 The statement SimulateAnswers of permitofficelaw19: for every input the law returns true, and every argument reads as it did.
-/
namespace Go.Proofs.YtddddlhgaeameaaGreatDoor.simulateAnswers
open Go.ChangeShapes Go.WideShapes Go.ChangeAt Go.RowKit
open Go.ChangeMaps (open_string shut_string)
set_option linter.unusedVariables false
theorem own : ownKnob Tryz.prog.godebug = none := by kernel_rfl
theorem laidOut : laidOutB Tryz.prog = true := by kernel_rfl
theorem lifted (os : Os) (started : os.Started) (H : Type) (enc : TypeId × Value → H) :
 ReturnsInHanded {} Tryz.checked os 3 .any (fun w args => (Rows.simulateAnswersSpec.pre enc Tryz.prog Tryz.f3 Rows.simulateAnswersRow.domain false w args ∧ laidMet Tryz.prog Rows.simulateAnswersRow.laid w) ∧ sizedMet enc Tryz.prog Tryz.f3 (OpenSpec.ofChange Rows.simulateAnswersSpec) false w args)
  (Rows.simulateAnswersSpec.post enc Tryz.prog Tryz.f3 false true false false) := by
 refine returnsInHanded_of_change_and (C := Tryz.checked) (X := fun w _ => laidMet Tryz.prog Rows.simulateAnswersRow.laid w) (fun _ _ _ hh h => h.of_heap hh) own started (by kernel_rfl) Tryz.func3
  (ChangeSpec.witness_at (enc := enc) (C := Tryz.checked) (os := os) (X := fun w _ => laidMet Tryz.prog Rows.simulateAnswersRow.laid w) false (laidWorld os) #[.slice none 0 0, .slice none 0 0, .slice none 0 0, .agg #[.slice none 0 0, .slice none 0 0], .agg #[.int .i64 0, .slice none 0 0, .slice none 0 0], .agg #[.int .i64 0, .int .i64 0, .int .i64 0, .int .i64 0, .int .i64 0], .agg #[.string ⟨#[]⟩, .slice none 0 0]] 8 rfl (by kernel_rfl) (by kernel_rfl) (by kernel_rfl) (by kernel_rfl) (by kernel_rfl) (laid_met os _)) ?_
 intro W base args ds gs before hval0 hW hcnd _ hL _
 have hval : ∀ (j : Nat) t v, Tryz.f3.params[j]? = some t → args[j]? = some v → Value.okWide Tryz.prog W .any base t v := hval0
 have hW' := hW
 obtain ⟨p, q, hA0, hV, rfl, hfz, hnd⟩ := hW
 have hA : DataW.TrodAll enc Tryz.prog W 0 (fun _ => true) true Tryz.f3.params.toList args.toList ds p := hA0
 rw [Tryz.params3] at hA hval
 obtain ⟨v0, vs0, d0, ds0, p0, q0, hargs, rfl, rfl, h0, r0⟩ := trodAll_cons hA
 obtain ⟨v1, vs1, d1, ds1, p1, q1, rfl, rfl, rfl, h1, r1⟩ := trodAll_cons r0
 obtain ⟨v2, vs2, d2, ds2, p2, q2, rfl, rfl, rfl, h2, r2⟩ := trodAll_cons r1
 obtain ⟨v3, vs3, d3, ds3, p3, q3, rfl, rfl, rfl, h3, r3⟩ := trodAll_cons r2
 obtain ⟨v4, vs4, d4, ds4, p4, q4, rfl, rfl, rfl, h4, r4⟩ := trodAll_cons r3
 obtain ⟨v5, vs5, d5, ds5, p5, q5, rfl, rfl, rfl, h5, r5⟩ := trodAll_cons r4
 obtain ⟨v6, vs6, d6, ds6, p6, q6, rfl, rfl, rfl, h6, r6⟩ := trodAll_cons r5
 obtain ⟨rfl, rfl, rfl⟩ := trodAll_nil r6
 obtain rfl : args = #[v0, v1, v2, v3, v4, v5, v6] := by cases args; simp_all
 obtain ⟨rfl, rfl⟩ := trodVars_none hV
 have k0 := h0
 have lt0 : ∀ x ∈ p0, x.block < W.heap.size := by obtain ⟨m, hm⟩ := k0; exact DataW.trod_lt m _ _ _ hm
 obtain ⟨A0, n0, c0, z0, rfl, w0, b0⟩ := open_ints_Sl Tryz.underlying22 Tryz.underlying3 (by kernel_rfl) (hval 0 22 v0 rfl rfl) h0
 have k1 := h1
 have lt1 : ∀ x ∈ p1, x.block < W.heap.size := by obtain ⟨m, hm⟩ := k1; exact DataW.trod_lt m _ _ _ hm
 obtain ⟨A1, n1, c1, z1, rfl, w1, b1⟩ := open_ints_Sl Tryz.underlying22 Tryz.underlying3 (by kernel_rfl) (hval 1 22 v1 rfl rfl) h1
 have k2 := h2
 have lt2 : ∀ x ∈ p2, x.block < W.heap.size := by obtain ⟨m, hm⟩ := k2; exact DataW.trod_lt m _ _ _ hm
 obtain ⟨A2, n2, c2, z2, rfl, w2, b2⟩ := open_ints_Sl Tryz.underlying22 Tryz.underlying3 (by kernel_rfl) (hval 2 22 v2 rfl rfl) h2
 have k3 := h3
 have lt3 : ∀ x ∈ p3, x.block < W.heap.size := by obtain ⟨m, hm⟩ := k3; exact DataW.trod_lt m _ _ _ hm
 obtain ⟨x3, rfl, w3⟩ := open_net (hval 3 26 v3 rfl rfl) h3
 have k4 := h4
 have lt4 : ∀ x ∈ p4, x.block < W.heap.size := by obtain ⟨m, hm⟩ := k4; exact DataW.trod_lt m _ _ _ hm
 obtain ⟨x4, rfl, w4⟩ := open_ground (hval 4 29 v4 rfl rfl) h4
 have k5 := h5
 have lt5 : ∀ x ∈ p5, x.block < W.heap.size := by obtain ⟨m, hm⟩ := k5; exact DataW.trod_lt m _ _ _ hm
 obtain ⟨x5, rfl, w5⟩ := open_step (hval 5 31 v5 rfl rfl) h5
 have k6 := h6
 have lt6 : ∀ x ∈ p6, x.block < W.heap.size := by obtain ⟨m, hm⟩ := k6; exact DataW.trod_lt m _ _ _ hm
 obtain ⟨x6, rfl, w6⟩ := open_prog (hval 6 34 v6 rfl rfl) h6
 clear hA0 hval0
 refine (walk_SimulateAnswers W (laid_of hL) A0 n0 c0 z0 w0 b0 A1 n1 c1 z1 w1 b1 A2 n2 c2 z2 w2 b2 x3 w3 x4 w4 x5 w5 x6 w6).mono fun e W' ⟨he, bel⟩ => ?_
 subst he
 exact ⟨_, rfl, _, _, _, [], _, [], hW', trodAll_mk1 (shut_bool Tryz.underlying4 _), (trodAll_cons_mk (Below.trod laidOut (by kernel_rfl) (of_decide_eq_true (by kernel_rfl)) k0 bel lt0) (trodAll_cons_mk (Below.trod laidOut (by kernel_rfl) (of_decide_eq_true (by kernel_rfl)) k1 bel lt1) (trodAll_cons_mk (Below.trod laidOut (by kernel_rfl) (of_decide_eq_true (by kernel_rfl)) k2 bel lt2) (trodAll_cons_mk (Below.trod laidOut (by kernel_rfl) (of_decide_eq_true (by kernel_rfl)) k3 bel lt3) (trodAll_cons_mk (Below.trod laidOut (by kernel_rfl) (of_decide_eq_true (by kernel_rfl)) k4 bel lt4) (trodAll_cons_mk (Below.trod laidOut (by kernel_rfl) (of_decide_eq_true (by kernel_rfl)) k5 bel lt5) (trodAll_cons_mk (Below.trod laidOut (by kernel_rfl) (of_decide_eq_true (by kernel_rfl)) k6 bel lt6) trodAll_mk0))))))), rfl, bel.frame _, fun h => by cases h⟩
theorem over : Rows.simulateAnswersRow.holds Tryz.pinned (OpenSpec.ofChange Rows.simulateAnswersSpec) :=
 OpenClaim.holds_of_wide 3 Tryz.f3 rfl rfl rfl rfl rfl rfl rfl ⟨rfl, rfl, rfl, rfl, rfl⟩ rfl rfl rfl rfl rfl (by kernel_rfl) Tryz.func3 (by kernel_rfl)
  (of_decide_eq_true (by kernel_rfl)) (by unfold Func.isWrapper; first | (rw [if_pos (by decide +kernel)]; kernel_rfl) | (rw [if_neg (by decide +kernel)]; exact ⟨rfl, rfl⟩))
  (fun os started H enc _ => lifted os started H enc)
theorem proved : Rows.SimulateAnswersCardSaid :=
 Claim7.holds_tied_plain_at .later [] [.data, .data] true _ true over (fun _ h => by cases h) (by kernel_rfl) (fun _ h => by cases h) simulateAnswers_row_tie rfl ⟨rfl, rfl⟩ (by kernel_rfl) rfl
  (fun f fn hf hfn => by
   have ef : some f = some 3 := hf.symm.trans (by kernel_rfl)
   obtain rfl := Option.some.inj ef
   obtain rfl : fn = Tryz.f3 := (Option.some.inj (Tryz.func3.symm.trans hfn)).symm
   refine ⟨by kernel_rfl, fun j t ht => ?_⟩
   rw [Tryz.params3] at ht
   match j, ht with
   | 0, ht =>
    have et : t = 22 := by simpa using ht.symm
    subst et
    exact (by kernel_rfl : Tryz.pinned.checked.prog.wantsStandIn 22 = false)
   | 1, ht =>
    have et : t = 22 := by simpa using ht.symm
    subst et
    exact (by kernel_rfl : Tryz.pinned.checked.prog.wantsStandIn 22 = false)
   | 2, ht =>
    have et : t = 22 := by simpa using ht.symm
    subst et
    exact (by kernel_rfl : Tryz.pinned.checked.prog.wantsStandIn 22 = false)
   | 3, ht =>
    have et : t = 26 := by simpa using ht.symm
    subst et
    exact (by kernel_rfl : Tryz.pinned.checked.prog.wantsStandIn 26 = false)
   | 4, ht =>
    have et : t = 29 := by simpa using ht.symm
    subst et
    exact (by kernel_rfl : Tryz.pinned.checked.prog.wantsStandIn 29 = false)
   | 5, ht =>
    have et : t = 31 := by simpa using ht.symm
    subst et
    exact (by kernel_rfl : Tryz.pinned.checked.prog.wantsStandIn 31 = false)
   | 6, ht =>
    have et : t = 34 := by simpa using ht.symm
    subst et
    exact (by kernel_rfl : Tryz.pinned.checked.prog.wantsStandIn 34 = false)
   | j + 7, ht => simp at ht)
  (by kernel_rfl)
#print axioms proved
end Go.Proofs.YtddddlhgaeameaaGreatDoor.simulateAnswers
