import Derived.Test.YtfaknfmndafllaaGreatDoorW36
import Derived.Test.YtfaknfmndafllaaGreatDoorW35
import Derived.Test.YtfaknfmndafllaaGreatDoorW37
import Derived.Test.YtfaknfmndafllaaGreatDoorW25
import Derived.Test.YtfaknfmndafllaaGreatDoorW26
import Derived.Test.YtfaknfmndafllaaGreatDoorW22
namespace Go.Proofs.YtfaknfmndafllaaGreatDoor
open Go.RowKit
structure LwB (w : World) (nb : Nat) (An : Option Addr) (cn : Nat) (ns : List Nd) (Ad : Option Addr) (nd cd : Nat) (ds : List Dv) (As : Option Addr) (cs : Nat) (s : List Int) (wr : World) : Prop where
 n : LwN w nb An 6 cn ns Ad nd cd ds wr
 s : SlX wr w.heap.size 1 As nd cs (intsV s)
section
variable {w wr wr' : World} {nb cn nd cd cs : Nat} {An Ad As : Option Addr} {ns : List Nd} {ds : List Dv} {s : List Int}
theorem LwB.grown (h : LwB w nb An cn ns Ad nd cd ds As cs s wr) (hl : Laid w) (hg : wr.grownBy wr' (some w.heap.size)) (hd : DeckAt wr' w.heap.size) : LwB w nb An cn ns Ad nd cd ds As cs s wr' := ⟨h.n.grown hl hg hd, h.s.grown hg⟩
theorem LwB.later (h : LwB w nb An cn ns Ad nd cd ds As cs s wr) (hb : Below wr.heap.size wr wr') : LwB w nb An cn ns Ad nd cd ds As cs s wr' := ⟨h.n.later hb, h.s.below hb⟩
theorem LwB.mk0 {w1 w2 : World} (hl : Laid w) (hb1 : Below w.heap.size w w1) (hs1 : w1.heap.size = w.heap.size + 1) (hd2 : DeckAt w2 w.heap.size) (hg2 : w1.grownBy w2 (some w.heap.size))
 (hrn : w2.ownsRow (w1.heap.size + 2) 80 3 (.slice An 6 cn) 6 (ns.flatMap Nd.cells)) (hrd : w2.ownsRow (w1.heap.size + 2) 68 5 (.slice Ad nd cd) nd (ds.flatMap Dv.cells)) (hrs : IntsO w2 (w1.heap.size + 2) As nd cs s) :
 LwB w w2.heap.size An cn ns Ad nd cd ds As cs s (w2.alloc (.cells #[.slice An 6 cn, .slice Ad nd cd] 30)) ∧ ds.length = nd := by
 have hb2 : Below w.heap.size w w2 := hb1.trans (below_of_grown hg2 (Nat.le_refl _) (by omega))
 refine ⟨⟨⟨hd2.alloc _, Blk.new _ _ _, (SlX.of_own hrn (by omega)).alloc _, (SlX.of_own hrd (by omega)).alloc _, hb2.alloc hb2.size _, ?_, (hl.below hb2 (Nat.le_refl _)).alloc _⟩, (SlX.of_own hrs (by omega)).alloc _⟩, (Sl.of_own hrd).len (fun _ => rfl) (by decide)⟩
 have := hg2.size; omega
end
theorem BayOk.ground {ns : List Nd} {ds : List Dv} {s : List Int} (h : BayOk ns ds s) {ls : List Lk} (hl : GoodL ds ls) : grErr ns ds 0 ls [] = 0 := by
 unfold grErr
 rw [if_neg (by omega), if_neg (by rw [sm_locks h.check hl]; simp), if_neg (by simp [risL])]
theorem BayOk.search {ns : List Nd} {ds : List Dv} {s : List Int} (h : BayOk ns ds s) {t : List Int} (ht : stateErr ns ds t = 0) {pr : List Int} (hg : grErr ns ds 0 [] pr = 0) : srErr ns ds s t 0 [] pr = 0 := by
 have h1 : stsE ns ds s t = 0 := by unfold stsE; rw [if_neg (by rw [h.state]; simp)]; exact ht
 unfold srErr
 rw [if_neg (by rw [h1]; simp)]
 exact h.problem hg (by rfl)
theorem BayOk.restore {ns : List Nd} {ds : List Dv} {s : List Int} (h : BayOk ns ds s) {t : List Int} (ht : stateErr ns ds t = 0) {ls : List Lk} (hl : GoodL ds ls) : rstE ns ds s t 0 ls [] = 0 := by
 have h1 : stsE ns ds s t = 0 := by unfold stsE; rw [if_neg (by rw [h.state]; simp)]; exact ht
 unfold rstE
 rw [if_neg (by rw [h1]; simp), if_neg (by rw [h.ground hl]; simp)]
 exact h.search ht (h.ground (ls := []) ⟨by simp, by simp, List.Pairwise.nil⟩)
end Go.Proofs.YtfaknfmndafllaaGreatDoor
