import Derived.Test.YtlcaebfjdhgcfaaDoorZ29
import Derived.Test.YtlcaebfjdhgcfaaDoorZ31
import Derived.Test.YtlcaebfjdhgcfaaDoorZ34
import Derived.Test.YtlcaebfjdhgcfaaDoorZ11
import Derived.Test.YtlcaebfjdhgcfaaDoorZ05
/-
  The memory of a network and a field beside a deck.
-/
namespace Go.Proofs.YtlcaebfjdhgcfaaDoor
open Go.RowKit
structure FdX (g : Nat) (An Ad As Al At : Option Addr) (nn cn nd cd n c nl cl nt ct : Nat) (ns : List Nd) (ds : List Dv) (F : Fd) (w : World) : Prop where
  dk : DeckAt w g
  hn : SlX w g 3 An nn cn (ns.flatMap Nd.cells)
  hd : SlX w g 5 Ad nd cd (ds.flatMap Dv.cells)
  hs : SlX w g 1 As n c (intsV F.s)
  hl : SlX w g 3 Al nl cl (F.ls.flatMap Lk.cells)
  ht : SlX w g 1 At nt ct (intsV F.st)
  la : Laid w
  sn : ∀ x ∈ ns, x.name.size ≤ 9223372036854775807
  sd : ∀ x ∈ ds, x.name.size ≤ 9223372036854775807
section
variable {w0 w w' : World} {g : Nat} {An Ad As Al At : Option Addr} {nn cn nd cd n c nl cl nt ct : Nat} {ns : List Nd} {ds : List Dv} {F : Fd}
theorem FdX.fdm (h : FdX g An Ad As Al At nn cn nd cd n c nl cl nt ct ns ds F w) : FdM w An Ad As Al At nn cn nd cd n c nl cl nt ct ns ds F := ⟨h.hn.1, h.hd.1, h.hs.1, h.hl.1, h.ht.1, h.la, h.sn, h.sd⟩
theorem FdX.later (h : FdX g An Ad As Al At nn cn nd cd n c nl cl nt ct ns ds F w) (hb : Below w.heap.size w w') : FdX g An Ad As Al At nn cn nd cd n c nl cl nt ct ns ds F w' :=
  ⟨h.dk.below hb h.dk.lt, h.hn.below hb, h.hd.below hb, h.hs.below hb, h.hl.below hb, h.ht.below hb, h.la.below hb (Nat.le_refl _), h.sn, h.sd⟩
theorem FdX.alloc (h : FdX g An Ad As Al At nn cn nd cd n c nl cl nt ct ns ds F w) (o : Obj) : FdX g An Ad As Al At nn cn nd cd n c nl cl nt ct ns ds F (w.alloc o) := h.later ((Below.refl _ _).alloc (Nat.le_refl _) _)
theorem FdX.grown (h : FdX g An Ad As Al At nn cn nd cd n c nl cl nt ct ns ds F w) (h0 : Laid w0) (hge : w0.heap.size ≤ g) (hd : DeckAt w' g) (hg : w.grownBy w' (some g)) : FdX g An Ad As Al At nn cn nd cd n c nl cl nt ct ns ds F w' :=
  ⟨hd, h.hn.grown hg, h.hd.grown hg, h.hs.grown hg, h.hl.grown hg, h.ht.grown hg, h.la.grown h0 hg hge, h.sn, h.sd⟩
/-- The field that an event leaves. -/
theorem FdX.new {A1 A2 A3 : Option Addr} {n1 c1 n2 c2 n3 c3 : Nat} {F' : Fd} (h : FdX g An Ad As Al At nn cn nd cd n c nl cl nt ct ns ds F w) (hb : Below w.heap.size w w') (h3 : Fd3 w' A1 n1 c1 A2 n2 c2 A3 n3 c3 F') (ha : Ap g A1 ∧ Ap g A2 ∧ Ap g A3) : FdX g An Ad A1 A2 A3 nn cn nd cd n1 c1 n2 c2 n3 c3 ns ds F' w' := by
  have h1 := h.later hb
  exact ⟨h1.dk, h1.hn, h1.hd, ⟨h3.1, ha.1⟩, ⟨h3.2.1, ha.2.1⟩, ⟨h3.2.2, ha.2.2⟩, h1.la, h1.sn, h1.sd⟩
end
/-- What Tie gives, as a field without locks. -/
theorem tie_names {ds : List Dv} {ss : List Int} (hv : TieV ds ss) : ∀ x ∈ ds, x.name.size ≤ 9223372036854775807 := by
  have h : ∀ nm ∈ ds.map Dv.name, nm.size ≤ 9223372036854775807 := by
    obtain ⟨k, c, -, -, h⟩ := hv
    rcases h with ⟨rfl, -⟩ | ⟨rfl, -⟩ | ⟨e, -, rfl, -⟩ <;> simp only [tieD, dvG, dvD, List.cons_append, List.nil_append, List.map_cons, List.map_nil] <;> decide
  exact fun x hx => h _ (List.mem_map_of_mem hx)
theorem FdX.tie {w w' : World} {g : Nat} {An Ad As : Option Addr} {cn nd cd cs : Nat} {ns : List Nd} {ds : List Dv} {ss : List Int} (hl : g < w.heap.size) (hla : Laid w') (hd : DeckAt w' g)
    (hrn : w'.ownsRow (w.heap.size + 2) 55 3 (.slice An 6 cn) 6 (ns.flatMap Nd.cells)) (hrd : w'.ownsRow (w.heap.size + 2) 52 5 (.slice Ad nd cd) nd (ds.flatMap Dv.cells)) (hrs : IntsO w' (w.heap.size + 2) As nd cs ss) (hn : TieNs ns) (hv : TieV ds ss) : FdX g An Ad As none none 6 cn nd cd nd cs 0 0 0 0 ns ds ⟨ss, [], []⟩ w' := by
  refine ⟨hd, SlX.of_own hrn (by omega), SlX.of_own hrd (by omega), SlX.of_own hrs (by omega), SlX.nil _ _ _, SlX.nil _ _ _, hla, fun x hx => ?_, tie_names hv⟩
  obtain ⟨i, hi⟩ := List.mem_iff_getElem?.1 hx
  rw [(hn i x hi).1, nm1, size_mk]
  simp
end Go.Proofs.YtlcaebfjdhgcfaaDoor
/-
  A field stays valid behind an event without error (plain).
-/
namespace Go.Proofs.YtlcaebfjdhgcfaaDoor
open Go.RowKit
section
variable {ns : List Nd} {ds : List Dv} {F : Fd} {k d p q : Int}
theorem locks_fine {ls : List Lk} (hc : checkN ns ds = 0) (h : GoodL ds ls) : locksErr ns ds ls = 0 := by
  unfold locksErr
  rw [if_neg (by rw [hc]; simp), if_neg (by have := h.1; omega)]
  exact good_err h
theorem state_fine {s : List Int} (hc : checkN ns ds = 0) (hl : s.length = ds.length) (hp : ∀ p ∈ s, posB p = true) : stateErr ns ds s = 0 := by
  unfold stateErr
  rw [if_neg (by simp [hc]), if_neg (by simp [hl]), if_pos hp]
theorem stp_zero (h : stpErr ns ds F k d p q = 0) : fdErr ns ds F = 0 ∧ (0 ≤ d ∧ d < ds.length) ∧ unuB k p q = false ∧ evErr ns ds F k d p q = 0 := by
  unfold stpErr at h
  split at h
  · next h1 => exact absurd h h1
  · next h1 =>
    split at h
    · cases h
    · next h2 =>
      split at h
      · cases h
      · next h3 => exact ⟨by simpa using h1, by omega, by simpa using h3, h⟩
theorem add_zero {ls : List Lk} {x : Lk} (h : addErr ns ds ls x = 0) : locksErr ns ds ls = 0 ∧ lkErr ds x = 0 ∧ usdL ls x.key = false ∧ othL ls x = false ∧ ls.length ≠ 128 := by
  unfold addErr at h
  repeat' split at h
  all_goals first | contradiction | omega | (refine ⟨?_, ?_, ?_, ?_, ?_⟩ <;> first | assumption | simp_all)
theorem evTo_ok (h : stpErr ns ds F k d p q = 0) : fdErr ns ds (evTo ds F k d p q) = 0 := by
  obtain ⟨h0, hd, -, he⟩ := stp_zero h
  obtain ⟨hs, hl, hk, hst⟩ := fdErr_zero h0
  obtain ⟨hc, hlen, hpos⟩ := stateErr_len hs
  have hG := locks_good hl
  unfold evTo
  split
  · next hk3 =>
    split
    · exact h0
    · next hno =>
      simp only [Bool.or_eq_true, not_or, Bool.not_eq_true, Option.isSome_eq_false_iff, Option.isNone_iff_eq_none] at hno
      have hp : posB (if k = 2 then 1 else p) = true := by
        rcases hk3 with rfl | rfl | rfl
        · unfold evErr at he
          rw [if_pos rfl] at he
          rw [if_neg (by decide)]
          repeat' split at he
          all_goals first | contradiction | simp_all
        · rw [if_pos rfl]; decide
        · unfold evErr at he
          rw [if_neg (by decide), if_neg (by decide), if_pos rfl] at he
          rw [if_neg (by decide)]
          repeat' split at he
          all_goals first | contradiction | assumption
      refine fdErr_ok (state_fine hc (by simpa using hlen) fun y hy => ?_) hl (fun x hx => ?_) hst
      · rcases List.mem_or_eq_of_mem_set hy with h1 | h1
        · exact hpos y h1
        · rw [h1]; exact hp
      · have hne := lck_none.1 hno.1 x hx
        have hxd := lkErr_dev (hG.2.1 x hx)
        have := hk x hx
        simp only [List.getD_eq_getElem?_getD] at this ⊢
        rw [List.getElem?_set_ne (by omega)]
        exact this
  · split
    · exact fdErr_ok hs hl hk (stkTo_ok _ _ _ _)
    · split
      · next h6 =>
        subst h6
        unfold evErr at he
        rw [if_neg (by decide), if_neg (by decide), if_neg (by decide), if_neg (by decide), if_pos rfl] at he
        split at he
        · next hp =>
          obtain ⟨-, h2, h3, h4, h5⟩ := add_zero he
          have hlt : F.ls.length < 128 := by have := hG.1; omega
          refine fdErr_ok hs (locks_fine hc (ins_good hG h2 h3 h4 hlt)) (fun x hx => ?_) hst
          rcases (ins_mem ..).1 hx with rfl | hx
          · exact hp.2
          · exact hk x hx
        · cases he
      · split
        · cases hi : idxL d q F.ls with
          | none => exact h0
          | some i =>
            refine fdErr_ok hs (locks_fine hc ⟨?_, fun x hx => hG.2.1 x (List.mem_of_mem_eraseIdx hx), hG.2.2.sublist (List.eraseIdx_sublist ..)⟩) (fun x hx => hk x (List.mem_of_mem_eraseIdx hx)) hst
            have := List.length_eraseIdx_le F.ls i
            have := hG.1
            simp only
            omega
        · exact h0
end
end Go.Proofs.YtlcaebfjdhgcfaaDoor
/-
  A region that draws its order, with what comes behind it as a variable.
-/
namespace Go.Proofs.YtlcaebfjdhgcfaaDoor
section
variable {P : Program} {ops : Array Oper} {Q : Exit → Act → World → Prop} {S : World → Prop} {J : List Nat}
/-- The steps see a continuation Q2 of which they know only: at a panic it does not look at the frame; at the normal end it holds where Q does. -/
theorem wp_region_JQ {id : Nat} {a : Act} {w : World} (hm : P.follows .mixedOrders = true) (hS : S w.drew) (hq : ∀ c a a' w, Q (.panic c) a w → Q (.panic c) a' w)
    (h : ∀ Q2 : Exit → Act → World → Prop, (∀ c a a' w, Q2 (.panic c) a w → Q2 (.panic c) a' w) → (∀ a w, Q .normal a w → Q2 .normal a w) → S w.drew → wpAnyJ P .any ops Q2 S J ops.size (Array.replicate ops.size false) a w.drew) : (Code.region id ops true).wp P Q a w :=
  wp_region_J hm hS (h Q hq (fun _ _ h => h))
end
end Go.Proofs.YtlcaebfjdhgcfaaDoor
