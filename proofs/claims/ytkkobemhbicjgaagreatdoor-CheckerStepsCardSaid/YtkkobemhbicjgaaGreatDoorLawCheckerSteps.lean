import Derived.Test.YtkkobemhbicjgaaGreatDoorB43
import Derived.Test.YtkkobemhbicjgaaGreatDoorTie
import Derived.Test.YtkkobemhbicjgaaGreatDoorCards
import Derived.SevenTiedAt
import Derived.ShutString
import Derived.ChangeOld
set_option maxRecDepth 100000
/-
 For every input CheckerSteps returns true, and every argument reads as it did.
-/
namespace Go.Proofs.YtkkobemhbicjgaaGreatDoor.checkerSteps
open Go.ChangeShapes Go.WideShapes Go.ChangeAt Go.RowKit
set_option linter.unusedVariables false
theorem L(os:Os)(S:os.Started)(H:Type)(enc:TypeId×Value->H):
  ReturnsInHanded {} Tryz.checked os 7 .any (λw args=>(Rows.checkerStepsSpec.pre enc Tryz.prog Tryz.f7 Rows.checkerStepsRow.domain false w args/\laidMet Tryz.prog Rows.checkerStepsRow.laid w)/\sizedMet enc Tryz.prog Tryz.f7 (OpenSpec.ofChange Rows.checkerStepsSpec) false w args)
   (Rows.checkerStepsSpec.post enc Tryz.prog Tryz.f7 false true false false):=by
 refine returnsInHanded_of_change_and (C:=Tryz.checked) (X:=λw _=>laidMet Tryz.prog Rows.checkerStepsRow.laid w) (λ_ _ _ hh h=>h.of_heap hh) (by kernel_rfl) S (by kernel_rfl) Tryz.func7
  (ChangeSpec.witness_at (enc:=enc) (C:=Tryz.checked) (os:=os) (X:=λw _=>laidMet Tryz.prog Rows.checkerStepsRow.laid w) false (laidWorld os) #[.slice none 0 0] 8 rfl (by kernel_rfl) (by kernel_rfl) (by kernel_rfl) (by kernel_rfl) (by kernel_rfl) (laid_met os _)) ?_
 intro W base args ds gs B hval0 hW hcnd _ hL _
 have hval:∀(j:Nat) t v,Tryz.f7.params[j]?=some t->args[j]?=some v->Value.okWide Tryz.prog W .any base t v:=hval0
 have hW':=hW
 obtain⟨p,q,hA0,hV,rfl,hfz,hnd⟩:=hW
 have hA:DataW.TrodAll enc Tryz.prog W 0 (λ_=>true) true Tryz.f7.params.toList args.toList ds p:=hA0
 rw[Tryz.params7]at hA hval
 obtain⟨v0,vs0,d0,ds0,p0,q0,hargs,rfl,rfl,h0,r0⟩:=trodAll_cons hA
 obtain⟨rfl,rfl,rfl⟩:=trodAll_nil r0
 obtain rfl:args=#[v0]:=by cases args;simp_all
 obtain⟨rfl,rfl⟩:=trodVars_none hV
 have lt0:∀x∈p0,x.block < W.heap.size:=by obtain⟨m,hm⟩:=h0;exact DataW.trod_lt m _ _ _ hm
 obtain⟨A0,n0,c0,z0,rfl,w0,b0⟩:=open_ints_Sl Tryz.underlying22 Tryz.underlying3 (by kernel_rfl) (hval 0 22 v0 rfl rfl) h0
 clear hA0 hval0
 refine(walk_CheckerSteps W (laid_of hL) A0 n0 c0 z0 w0 b0).mono λe W' ⟨he,bel⟩=> ?_
 subst he
 exact⟨_,rfl,_,_,_,[],_,[],hW',trodAll_mk1 (shut_bool Tryz.underlying4 _),(trodAll_cons_mk (Below.trod (by kernel_rfl) (by kernel_rfl) (of_decide_eq_true (by kernel_rfl)) h0 bel lt0) trodAll_mk0),rfl,bel.frame _,λh=>by cases h⟩
theorem O:Rows.checkerStepsRow.holds Tryz.pinned (OpenSpec.ofChange Rows.checkerStepsSpec):=
 OpenClaim.holds_of_wide 7 Tryz.f7 rfl rfl rfl rfl rfl rfl rfl ⟨rfl,rfl,rfl,rfl,rfl⟩ rfl rfl rfl rfl rfl (by kernel_rfl) Tryz.func7 (by kernel_rfl)
  (of_decide_eq_true (by kernel_rfl)) (by unfold Func.isWrapper;first | (rw[if_pos (by decide+kernel)];kernel_rfl) | (rw[if_neg (by decide+kernel)];exact⟨rfl,rfl⟩))
  (λos S H enc _=>L os S H enc)
theorem proved:Rows.CheckerStepsCardSaid:=
 Claim7.holds_tied_plain_at .later [] [.data,.data] true _ true O (λ_ h=>by cases h) (by kernel_rfl) (λ_ h=>by cases h) checkerSteps_row_tie rfl ⟨rfl,rfl⟩ (by kernel_rfl) rfl
  (λf fn hf hfn=>by
   have ef:some f=some 7:=hf.symm.trans (by kernel_rfl)
   obtain rfl:=Option.some.inj ef
   obtain rfl:fn=Tryz.f7:=(Option.some.inj (Tryz.func7.symm.trans hfn)).symm
   refine⟨by kernel_rfl,λj t ht=> ?_⟩
   rw[Tryz.params7]at ht
   match j,ht with
   | 0,ht=>
    have et:t=22:=by simpa using ht.symm
    subst et
    exact(by kernel_rfl:Tryz.pinned.checked.prog.wantsStandIn 22=false)
   | j+1,ht=>simp at ht)
  (by kernel_rfl)
end Go.Proofs.YtkkobemhbicjgaaGreatDoor.checkerSteps
