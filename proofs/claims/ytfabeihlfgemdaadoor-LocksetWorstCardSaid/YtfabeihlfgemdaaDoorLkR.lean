/-
  The program's layer 14: walk of Remove.
-/
import Derived.Test.YtfabeihlfgemdaaDoorLkD
namespace Go.Proofs.YtfabeihlfgemdaaDoor
open Go.RowKit
def LkRmPost (w : World) (ns : List Nd) (ds : List Dv) (ls : List Lk) (d q : Int) (e : Ending) (w' : World) : Prop :=
  (locksErr ns ds ls ≠ 0 ∧ e = .returned (.tuple #[.slice none 0 0, .int .i64 (locksErr ns ds ls)]) ∨ locksErr ns ds ls = 0 ∧ idxL d q ls = none ∧ e = .returned (.tuple #[.slice none 0 0, .int .i64 15]) ∨
    locksErr ns ds ls = 0 ∧ ∃ (i : Nat) (A : Option Addr) (c : Nat), idxL d q ls = some i ∧ e = .returned (.tuple #[.slice A (ls.length - 1) c, .int .i64 0]) ∧ Hid (LocksO w' w.heap.size A (ls.length - 1) c (ls.eraseIdx i))) ∧ Hid (Below w.heap.size w w')
set_option maxRecDepth 100000 in
set_option maxHeartbeats 8000000 in
theorem lremove_any (An Ad Al : Option Addr) (nn cn nd cd c Bn Bd Bl : Nat) (ns : List Nd) (ds : List Dv) (ls : List Lk) (d q : Int) (w : World) (hla : Laid w) (hn : Sl w Bn 3 An nn cn (ns.flatMap Nd.cells)) (hd : Sl w Bd 5 Ad nd cd (ds.flatMap Dv.cells)) (hs : Sl w Bl 3 Al ls.length c (ls.flatMap Lk.cells)) (hBn : Bn ≤ w.heap.size) (hBd : Bd ≤ w.heap.size) (hBl : Bl ≤ w.heap.size)
    (hsn : ∀ x ∈ ns, x.name.size ≤ 9223372036854775807) (hsd : ∀ x ∈ ds, x.name.size ≤ 9223372036854775807) :
    Calls Tryd.prog 16 #[.agg #[.slice An nn cn, .slice Ad nd cd], .slice Al ls.length c, .int .i64 d, .int .i64 q] w (LkRmPost w ns ds ls d q) := by
  have HS := Lib.hid hs
  have HST : Hid (PcSt w #[.slice An nn cn, .slice Ad nd cd] (w.alloc (.cells #[.slice An nn cn, .slice Ad nd cd] 30))) := ⟨Blk.new _ _ _, (Below.refl _ _).alloc (Nat.le_refl _) _⟩
  have HCK := Lib.hid (lcheck_any An Ad Al nn cn nd cd ls.length c Bn Bd Bl ns ds ls (w.alloc (.cells #[.slice An nn cn, .slice Ad nd cd] 30)) (hla.alloc _) (hn.below HST.out.bl hBn) (hd.below HST.out.bl hBd) (hs.below HST.out.bl hBl) (by simp; omega) (by simp; omega) (by simp; omega) hsn hsd)
  clear hn hd hs hsn hsd hla
  go_enter Tryd.func16, Tryd.ntmps16
  go_wp2_with fail
  generalize World.alloc _ _ = W at *
  refine HCK.out.mono ?_
  rintro e w1 ⟨rfl, hb1⟩
  have HS1 := Lib.hid (HST.out.later hb1)
  clear hb1 HST HCK
  by_cases h0 : locksErr ns ds ls = 0; rotate_left
  · have q0 : (locksErr ns ds ls != 0) = true := by simpa using h0
    have HNZ := Lib.hid h0
    clear h0
    go_wp2_with fail
    go_ret2
    exact ⟨.inl ⟨HNZ.out, rfl⟩, HS1.out.bl⟩
  have HG := Lib.hid (locks_good h0)
  have HZ := Lib.hid h0
  rw [h0]
  clear h0
  have hz1 := HS1.out.bl.size
  go_wp2_with fail
  refine (locked_any Al ls.length c Bl ls d w1 (HS.out.below HS1.out.bl hBl) (by omega)).mono ?_
  rintro e w2 ⟨rfl, hb2⟩
  have HS2 := Lib.hid (HS1.out.later hb2)
  clear hb2 HS1 hz1
  have hz2 := HS2.out.bl.size
  unfold lckE
  rcases hl : lckL ls d with _ | p
  · have HN : Hid (idxL d q ls = none) := idxL_none (lck_none.1 hl)
    clear hl
    simp only [Option.getD_none, Option.isSome_none]
    go_wp2_with fail
    refine (idx_any Al ls.length c Bl ls d 0 q w2 (HS.out.below HS2.out.bl hBl) (by omega)).mono ?_
    rintro e w3 ⟨rfl, hb3⟩
    have HS3 := Lib.hid (HS2.out.later hb3)
    clear hb3 HS2
    generalize optI _ = r
    go_wp2_with fail
    go_ret2
    exact ⟨.inr (.inl ⟨HZ.out, HN.out, rfl⟩), HS3.out.bl⟩
  · have HI : Hid (idxE ⟨d, p, q⟩ ls = idxL d q ls) := idxE_idxL (ds := ds) fun x hx hxd => by
      have := lck_of HG.out hx
      rw [hxd, hl] at this
      injection this with this
      exact this.symm
    clear hl
    simp only [Option.getD_some, Option.isSome_some]
    go_wp2_with fail
    refine (idx_any Al ls.length c Bl ls d p q w2 (HS.out.below HS2.out.bl hBl) (by omega)).mono ?_
    rintro e w3 ⟨rfl, hb3⟩
    have HS3 := Lib.hid (HS2.out.later hb3)
    clear hb3 HS2 hz2
    rw [HI.out]
    rcases hi : idxL d q ls with _ | i
    · have HN := Lib.hid hi
      clear hi
      simp only [optI]
      go_wp2_with fail
      go_ret2
      exact ⟨.inr (.inl ⟨HZ.out, HN.out, rfl⟩), HS3.out.bl⟩
    · have hil := idxL_lt hi
      have HN := Lib.hid hi
      have hz3 := HS3.out.bl.size
      have h128 := HG.out.1
      clear hi
      simp only [optI]
      have qi : decide ((i : Int) < 0) = false := by simp
      go_wp2_with fail
      refine (clonelk_any Al ls.length c Bl ls w3 (HS.out.below HS3.out.bl hBl) (by omega) (by omega)).mono ?_
      rintro e w4 ⟨A4, c4, rfl, hO4, hb4⟩
      have HO4 : Hid (LocksO w4 w.heap.size A4 ls.length c4 ls) := World.ownsRow.mono hO4.out (by omega)
      have HS4 := Lib.hid (HS3.out.later hb4.out)
      clear hO4 hb4 HS3
      go_wp2_with fail
      refine (dellk_any A4 ls.length c4 w.heap.size i ls w4 HO4.out hil (by omega)).mono ?_
      rintro e w5 ⟨rfl, hO5, hg5⟩
      go_wp2_with fail
      go_ret2
      refine ⟨.inr (.inr ⟨HZ.out, i, A4, c4, HN.out, rfl, hO5⟩), ?_⟩
      have h1 := HS4.out.bl
      exact h1.trans ⟨hg5.out.os, hg5.out.tape, hg5.out.output, hg5.out.size, fun t ht => hg5.out.block t (by have := h1.size; omega) (fun e => by have := (HO4.out.lt t e.symm).1; omega)⟩
end Go.Proofs.YtfabeihlfgemdaaDoor
