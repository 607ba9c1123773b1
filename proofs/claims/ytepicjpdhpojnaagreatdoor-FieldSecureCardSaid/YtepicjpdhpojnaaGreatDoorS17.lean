import Derived.Test.YtepicjpdhpojnaaGreatDoorS08
import Derived.Test.YtepicjpdhpojnaaGreatDoorS11
import Derived.Test.YtepicjpdhpojnaaGreatDoorS04
import Derived.Deep.RegionLaw
import Derived.Deep.RegionWith
import Derived.Deep.DrawnRows
import Derived.Deep.DeepCutAuto
namespace Go.Proofs.YtepicjpdhpojnaaGreatDoor
open Go.RowKit
section
variable {ns : List Nd} {ds : List Dv} {F : Fd} {k d p q : Int}
theorem locks_fine {ls : List Lk} (hc : checkN ns ds = 0) (h : GoodL ds ls) : locksErr ns ds ls = 0 := by
 unfold locksErr
 rw [if_neg (by rw [hc]; simp), if_neg (by have := h.1; omega)]
 exact good_err h
theorem state_fine {s : List Int} (hc : checkN ns ds = 0) (hl : s.length = ds.length) (hp : ∀ p ∈ s, posB p = true) : stateErr ns ds s = 0 := by
 unfold stateErr
 rw [if_neg (by simp [hc]), if_neg (by simp [hl]), if_pos hp]
theorem stp_zero (h : stpErr ns ds F k d p q = 0) : fdErr ns ds F = 0 ∧ (0 ≤ d ∧ d < ds.length) ∧ unuB k p q = false ∧ evErr ns ds F k d p q = 0 := by
 unfold stpErr at h
 split at h
 ·next h1 => exact absurd h h1
 ·next h1 =>
  split at h
  ·cases h
  ·next h2 =>
   split at h
   ·cases h
   ·next h3 => exact ⟨by simpa using h1, by omega, by simpa using h3, h⟩
theorem add_zero {ls : List Lk} {x : Lk} (h : addErr ns ds ls x = 0) : locksErr ns ds ls = 0 ∧ lkErr ds x = 0 ∧ usdL ls x.key = false ∧ othL ls x = false ∧ ls.length ≠ 128 := by
 unfold addErr at h
 repeat' split at h
 all_goals first | contradiction | omega | (refine ⟨?_, ?_, ?_, ?_, ?_⟩ <;> first | assumption | simp_all)
theorem evTo_ok (h : stpErr ns ds F k d p q = 0) : fdErr ns ds (evTo ds F k d p q) = 0 := by
 obtain ⟨h0, hd, -, he⟩ := stp_zero h
 obtain ⟨hs, hl, hk, hst⟩ := fdErr_zero h0
 obtain ⟨hc, hlen, hpos⟩ := stateErr_len hs
 have hG := locks_good hl
 unfold evTo
 split
 ·next hk3 =>
  split
  ·exact h0
  ·next hno =>
   simp only [Bool.or_eq_true, not_or, Bool.not_eq_true, Option.isSome_eq_false_iff, Option.isNone_iff_eq_none] at hno
   have hp : posB (if k = 2 then 1 else p) = true := by
    rcases hk3 with rfl | rfl | rfl
    ·unfold evErr at he
     rw [if_pos rfl] at he
     rw [if_neg (by decide)]
     repeat' split at he
     all_goals first | contradiction | simp_all
    ·rw [if_pos rfl]; decide
    ·unfold evErr at he
     rw [if_neg (by decide), if_neg (by decide), if_pos rfl] at he
     rw [if_neg (by decide)]
     repeat' split at he
     all_goals first | contradiction | assumption
   refine fdErr_ok (state_fine hc (by simpa using hlen) fun y hy => ?_) hl (fun x hx => ?_) hst
   ·rcases List.mem_or_eq_of_mem_set hy with h1 | h1
    ·exact hpos y h1
    ·rw [h1]; exact hp
   ·have hne := lck_none.1 hno.1 x hx
    have hxd := lkErr_dev (hG.2.1 x hx)
    have := hk x hx
    simp only [List.getD_eq_getElem?_getD] at this ⊢
    rw [List.getElem?_set_ne (by omega)]
    exact this
 ·split
  ·exact fdErr_ok hs hl hk (stkTo_ok _ _ _ _)
  ·split
   ·next h6 =>
    subst h6
    unfold evErr at he
    rw [if_neg (by decide), if_neg (by decide), if_neg (by decide), if_neg (by decide), if_pos rfl] at he
    split at he
    ·next hp =>
     obtain ⟨-, h2, h3, h4, h5⟩ := add_zero he
     have hlt : F.ls.length < 128 := by have := hG.1; omega
     refine fdErr_ok hs (locks_fine hc (ins_good hG h2 h3 h4 hlt)) (fun x hx => ?_) hst
     rcases (ins_mem ..).1 hx with rfl | hx
     ·exact hp.2
     ·exact hk x hx
    ·cases he
   ·split
    ·cases hi : idxL d q F.ls with
     | none => exact h0
     | some i =>
      refine fdErr_ok hs (locks_fine hc ⟨?_, fun x hx => hG.2.1 x (List.mem_of_mem_eraseIdx hx), hG.2.2.sublist (List.eraseIdx_sublist ..)⟩) (fun x hx => hk x (List.mem_of_mem_eraseIdx hx)) hst
      have := List.length_eraseIdx_le F.ls i
      have := hG.1
      simp only
      omega
    ·exact h0
end
end Go.Proofs.YtepicjpdhpojnaaGreatDoor
namespace Go.Proofs.YtepicjpdhpojnaaGreatDoor
open Go.RowKit
section
variable {ns : List Nd} {ds : List Dv} {F : Fd} {k d p q : Int}
theorem stp_in (h0 : fdErr ns ds F = 0) (hd : 0 ≤ d ∧ d < ds.length) (hu : unuB k p q = false) : stpErr ns ds F k d p q = evErr ns ds F k d p q := by
 unfold stpErr
 rw [if_neg (by simp [h0]), if_neg (by omega), if_neg (by simp [hu])]
end
end Go.Proofs.YtepicjpdhpojnaaGreatDoor
namespace Go.Proofs.YtepicjpdhpojnaaGreatDoor
open Go.RowKit
attribute [local go_sem ↓] Go.wp_at_zero Go.wp_at_succ
def letterT (k : Nat) : List UInt8 := [[], [76], [81], [68], [69], [83], [71]].getD k []
section
variable {w0 w W W' : World} {g : Nat} {dmax : Int} {An Ad : Option Addr} {nn cn nd cd kind t : Nat} {ns : List Nd} {ds : List Dv} {LT : ByteArray}
theorem NetSt.nb_row (h : NetSt w0 g dmax An nn cn ns Ad nd cd ds W) (hg : W.grownBy W' (Value.slice Ad nd cd).ownBlock) : Blk W' (w0.heap.size + 3) 30 #[.slice An nn cn, .slice Ad nd cd] := h.nb.grown hg (fun e => by have := (h.rd.lt _ e.symm).1; omega)
end
end Go.Proofs.YtepicjpdhpojnaaGreatDoor
namespace Go.Proofs.YtepicjpdhpojnaaGreatDoor
open Go.RowKit
def NdOk (i : Nat) (x : Nd) : Prop := x.name = mkS (nm2 [78] i) ∧ 0 ≤ x.cust ∧ x.cust ≤ 50 ∧ 0 ≤ x.comp ∧ x.comp ≤ 2
def DvOk (k i : Nat) (x : Dv) : Prop := x.name = mkS (nm2 (letterT x.kind.toNat) i) ∧ 1 ≤ x.kind ∧ x.kind ≤ 6 ∧ endsB x.kind x.a x.b k = true ∧ 0 ≤ x.comp ∧ x.comp ≤ 2
def MadeN (ns : List Nd) : Prop := ∀ i x, ns[i]? = some x → NdOk i x
def MadeD (k : Nat) (ds : List Dv) : Prop := ∀ i x, ds[i]? = some x → DvOk k i x
theorem MadeN.snoc {ns : List Nd} (h : MadeN ns) {x : Nd} (hx : NdOk ns.length x) : MadeN (ns ++ [x]) := by
 intro i y hy
 rcases Nat.lt_trichotomy i ns.length with h1 | h1 | h1
 ·rw [List.getElem?_append_left h1] at hy; exact h i y hy
 ·subst h1; simp at hy; subst hy; exact hx
 ·rw [List.getElem?_eq_none (by simp; omega)] at hy; cases hy
theorem MadeD.snoc {k : Nat} {ds : List Dv} (h : MadeD k ds) {x : Dv} (hx : DvOk k ds.length x) : MadeD k (ds ++ [x]) := by
 intro i y hy
 rcases Nat.lt_trichotomy i ds.length with h1 | h1 | h1
 ·rw [List.getElem?_append_left h1] at hy; exact h i y hy
 ·subst h1; simp at hy; subst hy; exact hx
 ·rw [List.getElem?_eq_none (by simp; omega)] at hy; cases hy
def NetD (lo : Nat) (w0 : World) (g : Nat) (dmax : Int) (An : Option Addr) (k cn : Nat) (ns : List Nd) (w : World) : Prop :=
 ∃ (Ad : Option Addr) (nd cd : Nat) (ds : List Dv), NetSt w0 g dmax An k cn ns Ad nd cd ds w ∧ (nd : Int) ≤ dmax ∧ lo ≤ nd ∧ ds.length = nd ∧ MadeD k ds
section
variable {w0 w w' : World} {g lo k cn : Nat} {dmax : Int} {An : Option Addr} {ns : List Nd}
theorem NetD.next (h : NetD lo w0 g dmax An k cn ns w) (hd : DeckAt w' g) (hg : w.grownBy w' (some g)) : NetD lo w0 g dmax An k cn ns w' := by
 obtain ⟨Ad, nd, cd, ds, h1, h2⟩ := h
 exact ⟨Ad, nd, cd, ds, h1.next hd hg, h2⟩
theorem NetD.deck (h : NetD lo w0 g dmax An k cn ns w) : DeckAt w g := by
 obtain ⟨Ad, nd, cd, ds, h1, h2⟩ := h
 exact h1.deck
theorem NetD.pc (h : NetD lo w0 g dmax An k cn ns w) : w.cell? ⟨w0.heap.size, 0, none⟩ = some (.pointer (some ⟨g, 0, none⟩)) := by
 obtain ⟨Ad, nd, cd, ds, h1, h2⟩ := h
 exact h1.pb.cell 0
end
structure MadeNet (nodes dmax : Int) (ns : List Nd) (ds : List Dv) : Prop where
 n2 : 2 ≤ ns.length
 nm : (ns.length : Int) ≤ nodes
 d1 : 1 ≤ ds.length
 dm : (ds.length : Int) ≤ dmax
 nok : MadeN ns
 dok : MadeD ns.length ds
end Go.Proofs.YtepicjpdhpojnaaGreatDoor
