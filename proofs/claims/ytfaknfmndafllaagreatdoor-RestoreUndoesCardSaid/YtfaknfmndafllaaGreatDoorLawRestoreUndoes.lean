import Derived.Test.YtfaknfmndafllaaGreatDoorRows
import Derived.Test.YtfaknfmndafllaaGreatDoorW39
import Derived.Test.YtfaknfmndafllaaGreatDoorW01
import Derived.Test.YtfaknfmndafllaaGreatDoorW40
import Derived.Test.YtfaknfmndafllaaGreatDoorTie
import Derived.Test.YtfaknfmndafllaaGreatDoorCards
import Derived.SevenTiedAt
import Derived.ProofKit
import Derived.OpenShut
import Derived.ShutString
import Derived.ChangeOld
set_option maxRecDepth 100000
/-
 The statement RestoreUndoes of permitofficelaw21: for every input the law returns true, and every argument reads as it did.
-/
namespace Go.Proofs.YtfaknfmndafllaaGreatDoor.restoreUndoes
open Go.ChangeShapes Go.WideShapes Go.ChangeAt Go.RowKit
open Go.ChangeMaps (open_string shut_string)
set_option linter.unusedVariables false
theorem own : ownKnob Tryz.prog.godebug = none := by kernel_rfl
theorem laidOut : laidOutB Tryz.prog = true := by kernel_rfl
theorem lifted (os : Os) (started : os.Started) (H : Type) (enc : TypeId × Value → H) :
 ReturnsInHanded {} Tryz.checked os 6 .any (fun w args => (Rows.restoreUndoesSpec.pre enc Tryz.prog Tryz.f6 Rows.restoreUndoesRow.domain false w args ∧ laidMet Tryz.prog Rows.restoreUndoesRow.laid w) ∧ sizedMet enc Tryz.prog Tryz.f6 (OpenSpec.ofChange Rows.restoreUndoesSpec) false w args)
  (Rows.restoreUndoesSpec.post enc Tryz.prog Tryz.f6 false true false false) := by
 refine returnsInHanded_of_change_and (C := Tryz.checked) (X := fun w _ => laidMet Tryz.prog Rows.restoreUndoesRow.laid w) (fun _ _ _ hh h => h.of_heap hh) own started (by kernel_rfl) Tryz.func6
  (ChangeSpec.witness_at (enc := enc) (C := Tryz.checked) (os := os) (X := fun w _ => laidMet Tryz.prog Rows.restoreUndoesRow.laid w) false (laidWorld os) #[.slice none 0 0] 8 rfl (by kernel_rfl) (by kernel_rfl) (by kernel_rfl) (by kernel_rfl) (by kernel_rfl) (laid_met os _)) ?_
 intro W base args ds gs before hval0 hW hcnd _ hL _
 have hval : ∀ (j : Nat) t v, Tryz.f6.params[j]? = some t → args[j]? = some v → Value.okWide Tryz.prog W .any base t v := hval0
 have hW' := hW
 obtain ⟨p, q, hA0, hV, rfl, hfz, hnd⟩ := hW
 have hA : DataW.TrodAll enc Tryz.prog W 0 (fun _ => true) true Tryz.f6.params.toList args.toList ds p := hA0
 rw [Tryz.params6] at hA hval
 obtain ⟨v0, vs0, d0, ds0, p0, q0, hargs, rfl, rfl, h0, r0⟩ := trodAll_cons hA
 obtain ⟨rfl, rfl, rfl⟩ := trodAll_nil r0
 obtain rfl : args = #[v0] := by cases args; simp_all
 obtain ⟨rfl, rfl⟩ := trodVars_none hV
 have k0 := h0
 have lt0 : ∀ x ∈ p0, x.block < W.heap.size := by obtain ⟨m, hm⟩ := k0; exact DataW.trod_lt m _ _ _ hm
 obtain ⟨A0, n0, c0, z0, rfl, w0, b0⟩ := open_ints_Sl Tryz.underlying22 Tryz.underlying3 (by kernel_rfl) (hval 0 22 v0 rfl rfl) h0
 clear hA0 hval0
 refine (walk_RestoreUndoes W (laid_of hL) A0 n0 c0 z0 w0 b0).mono fun e W' ⟨he, bel⟩ => ?_
 subst he
 exact ⟨_, rfl, _, _, _, [], _, [], hW', trodAll_mk1 (shut_bool Tryz.underlying4 _), (trodAll_cons_mk (Below.trod laidOut (by kernel_rfl) (of_decide_eq_true (by kernel_rfl)) k0 bel lt0) trodAll_mk0), rfl, bel.frame _, fun h => by cases h⟩
theorem over : Rows.restoreUndoesRow.holds Tryz.pinned (OpenSpec.ofChange Rows.restoreUndoesSpec) :=
 OpenClaim.holds_of_wide 6 Tryz.f6 rfl rfl rfl rfl rfl rfl rfl ⟨rfl, rfl, rfl, rfl, rfl⟩ rfl rfl rfl rfl rfl (by kernel_rfl) Tryz.func6 (by kernel_rfl)
  (of_decide_eq_true (by kernel_rfl)) (by unfold Func.isWrapper; first | (rw [if_pos (by decide +kernel)]; kernel_rfl) | (rw [if_neg (by decide +kernel)]; exact ⟨rfl, rfl⟩))
  (fun os started H enc _ => lifted os started H enc)
theorem proved : Rows.RestoreUndoesCardSaid :=
 Claim7.holds_tied_plain_at .later [] [.data, .data] true _ true over (fun _ h => by cases h) (by kernel_rfl) (fun _ h => by cases h) restoreUndoes_row_tie rfl ⟨rfl, rfl⟩ (by kernel_rfl) rfl
  (fun f fn hf hfn => by
   have ef : some f = some 6 := hf.symm.trans (by kernel_rfl)
   obtain rfl := Option.some.inj ef
   obtain rfl : fn = Tryz.f6 := (Option.some.inj (Tryz.func6.symm.trans hfn)).symm
   refine ⟨by kernel_rfl, fun j t ht => ?_⟩
   rw [Tryz.params6] at ht
   match j, ht with
   | 0, ht =>
    have et : t = 22 := by simpa using ht.symm
    subst et
    exact (by kernel_rfl : Tryz.pinned.checked.prog.wantsStandIn 22 = false)
   | j + 1, ht => simp at ht)
  (by kernel_rfl)
#print axioms proved
end Go.Proofs.YtfaknfmndafllaaGreatDoor.restoreUndoes
