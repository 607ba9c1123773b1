import Derived.Test.YtlcaebfjdhgcfaaDoorZ35
import Derived.Test.YtlcaebfjdhgcfaaDoorZ27
import Derived.Test.YtlcaebfjdhgcfaaDoorZ32
import Derived.Test.YtlcaebfjdhgcfaaDoorZ41
/-
  The example of the chapter on fields.
-/
namespace Go.Proofs.YtlcaebfjdhgcfaaDoor
open Go.RowKit
def nsW : List Nd := [⟨⟨#[65]⟩, 0, 0⟩]
def dsW : List Dv := [⟨⟨#[69]⟩, 4, 0, -1, 0⟩]
theorem checkW : checkN nsW dsW = 0 := by decide
theorem namesW : (∀ x ∈ nsW, x.name.size ≤ 9223372036854775807) ∧ (∀ x ∈ dsW, x.name.size ≤ 9223372036854775807) := by
  constructor <;> intro x hx <;> simp [nsW, dsW] at hx <;> subst hx <;> decide
theorem fdW {s : Int} {ls : List Lk} (hs : posB s = true) (hl : locksErr nsW dsW ls = 0) (hk : LsOk [s] ls) : fdErr nsW dsW ⟨[s], ls, []⟩ = 0 := fdErr_ok (state_fine checkW rfl (fun p hp => by rw [List.mem_singleton.1 hp]; exact hs)) hl hk (fun i hi => absurd hi (Nat.not_lt_zero i))
theorem stpW {F : Fd} {k p q : Int} (h : fdErr nsW dsW F = 0) (hu : unuB k p q = false) : stpErr nsW dsW F k 0 p q = evErr nsW dsW F k 0 p q := by
  unfold stpErr
  rw [if_neg (by simp [h]), if_neg (by decide), if_neg (by simp [hu])]
theorem w_stp1 : stpErr nsW dsW ⟨[1], [], []⟩ 1 0 2 0 = 0 := (stpW (fdW rfl (by decide) (fun k hk => by cases hk)) (by decide)).trans (by decide)
theorem w_stp2 : stpErr nsW dsW ⟨[2], [], []⟩ 6 0 2 4 = 0 := (stpW (fdW rfl (by decide) (fun k hk => by cases hk)) (by decide)).trans (by decide)
theorem w_stp3 : stpErr nsW dsW ⟨[2], [⟨0, 2, 4⟩], []⟩ 1 0 1 0 = 18 := (stpW (fdW rfl (by decide) (fun k hk => by rw [List.mem_singleton.1 hk]; rfl)) (by decide)).trans (by decide)
theorem w_to1 : evTo dsW ⟨[1], [], []⟩ 1 0 2 0 = ⟨[2], [], []⟩ := rfl
theorem w_to2 : evTo dsW ⟨[2], [], []⟩ 6 0 2 4 = ⟨[2], [⟨0, 2, 4⟩], []⟩ := rfl
theorem StepPost.ok {w w' : World} {ns : List Nd} {ds : List Dv} {F : Fd} {k d p q : Int} {e : Ending} (h : StepPost w ns ds F k d p q e w') (h0 : stpErr ns ds F k d p q = 0) :
    ∃ (A1 A2 A3 : Option Addr) (n1 c1 n2 c2 n3 c3 : Nat), e = .returned (.tuple #[.agg #[.slice A1 n1 c1, .slice A2 n2 c2, .slice A3 n3 c3], .int .i64 0]) ∧ Hid (IntsO w' w.heap.size A1 n1 c1 (evTo ds F k d p q).s) ∧ Hid (LocksO w' w.heap.size A2 n2 c2 (evTo ds F k d p q).ls) ∧ Hid (IntsO w' w.heap.size A3 n3 c3 (evTo ds F k d p q).st) ∧ Hid (Below w.heap.size w w') := by
  obtain ⟨⟨h1, _⟩ | ⟨_, A1, A2, A3, n1, c1, n2, c2, n3, c3, h1, h2, h3, h4⟩, h5⟩ := h
  · exact absurd h0 h1
  · exact ⟨A1, A2, A3, n1, c1, n2, c2, n3, c3, h1, h2, h3, h4, h5⟩
theorem StepPost.err {w w' : World} {ns : List Nd} {ds : List Dv} {F : Fd} {k d p q : Int} {e : Ending} (h : StepPost w ns ds F k d p q e w') (h0 : stpErr ns ds F k d p q ≠ 0) :
    e = .returned (.tuple #[.agg #[.slice none 0 0, .slice none 0 0, .slice none 0 0], .int .i64 (stpErr ns ds F k d p q)]) ∧ Hid (Below w.heap.size w w') := by
  obtain ⟨⟨_, h1⟩ | ⟨h1, _⟩, h5⟩ := h
  · exact ⟨h1, h5⟩
  · exact absurd h1 h0
theorem own_far3 {w : World} {base size n c x : Nat} {e : TypeId} {A : Option Addr} {xs : List Value} {u v t : Value} (h : w.ownsRow base e size (.slice A n c) n xs) (hx : x < base) : (((w.setCell ⟨x, 0, none⟩ u).setCell ⟨x, 1, none⟩ v).setCell ⟨x, 2, none⟩ t).ownsRow base e size (.slice A n c) n xs :=
  own_far (own_far (own_far h hx) hx) hx
/-- The example's network in memory. -/
structure AwW (w wr : World) : Prop where
  bn : Blk wr (w.heap.size + 1 + 1) 30 #[.slice (some ⟨w.heap.size, 0, none⟩) 1 1, .slice (some ⟨w.heap.size + 1, 0, none⟩) 1 1]
  sn : Sl wr (w.heap.size + 1) 3 (some ⟨w.heap.size, 0, none⟩) 1 1 (nsW.flatMap Nd.cells)
  sd : Sl wr (w.heap.size + 1 + 1) 5 (some ⟨w.heap.size + 1, 0, none⟩) 1 1 (dsW.flatMap Dv.cells)
  bl : Below w.heap.size w wr
  la : Laid wr
  sz : w.heap.size + 3 ≤ wr.heap.size
section
variable {w wr wr' : World}
theorem AwW.later (h : AwW w wr) (hb : Below wr.heap.size wr wr') : AwW w wr' :=
  ⟨h.bn.below hb h.bn.lt, h.sn.below hb (by have := h.sz; omega), h.sd.below hb (by have := h.sz; omega), h.bl.trans (hb.mono h.bl.size), h.la.below hb (Nat.le_refl _), Nat.le_trans h.sz hb.size⟩
theorem AwW.set (h : AwW w wr) (hl : Laid w) {x : Nat} (hx : w.heap.size + 3 ≤ x) (i : Nat) (u : Value) : AwW w (wr.setCell ⟨x, i, none⟩ u) :=
  ⟨h.bn.far (by simp; omega) _, h.sn.setCell (by simp; omega) _, h.sd.setCell (by simp; omega) _, h.bl.setCell (by simp; omega) _, h.la.grown hl (grown_cell _ ⟨x, i, none⟩ _) (by simp; omega), by simpa using h.sz⟩
theorem AwW.mk0 (w : World) (hl : Laid w) : AwW w (((w.alloc (.cells #[.string ⟨#[65]⟩, .int .i64 0, .int .i64 0] 55)).alloc (.cells #[.string ⟨#[69]⟩, .int .i64 4, .int .i64 0, .int .i64 (-1), .int .i64 0] 52)).alloc (.cells #[.slice (some ⟨w.heap.size, 0, none⟩) 1 1, .slice (some ⟨w.heap.size + 1, 0, none⟩) 1 1] 30)) := by
  refine ⟨?_, ?_, ?_, ?_, ((hl.alloc _).alloc _).alloc _, by simp⟩
  · have := Blk.new ((w.alloc (.cells #[.string ⟨#[65]⟩, .int .i64 0, .int .i64 0] 55)).alloc (.cells #[.string ⟨#[69]⟩, .int .i64 4, .int .i64 0, .int .i64 (-1), .int .i64 0] 52)) 30 #[.slice (some ⟨w.heap.size, 0, none⟩) 1 1, .slice (some ⟨w.heap.size + 1, 0, none⟩) 1 1]
    simpa using this
  · refine Sl.alloc (Sl.alloc ?_ (by simp) _) (by simp) _
    exact Sl.newest (n := 1) (size := 3) rfl rfl (by decide)
  · refine Sl.alloc ?_ (by simp) _
    exact Sl.newest (n := 1) (size := 5) (by simp) rfl (by decide)
  · exact (((Below.refl _ _).alloc (Nat.le_refl _) _).alloc (by simp) _).alloc (by simp; omega) _
theorem AwW.fdm {As Al At : Option Addr} {n c nl cl nt ct : Nat} {F : Fd} (h : AwW w wr) (h1 : Sl wr wr.heap.size 1 As n c (intsV F.s)) (h2 : Sl wr wr.heap.size 3 Al nl cl (F.ls.flatMap Lk.cells)) (h3 : Sl wr wr.heap.size 1 At nt ct (intsV F.st)) :
    FdM wr (some ⟨w.heap.size, 0, none⟩) (some ⟨w.heap.size + 1, 0, none⟩) As Al At 1 1 1 1 n c nl cl nt ct nsW dsW F :=
  ⟨h.sn.more (by have := h.sz; omega), h.sd.more (by have := h.sz; omega), h1, h2, h3, h.la, namesW.1, namesW.2⟩
end
set_option maxRecDepth 100000 in
set_option maxHeartbeats 4000000 in
theorem awake_any (w : World) (hl : Laid w) : Calls Tryd.prog 6 #[] w fun e w' => e = .returned (.bool true) ∧ Below w.heap.size w w' := by
  have HA0 := Lib.hid (AwW.mk0 w hl)
  have HL := Lib.hid hl
  clear hl
  go_enter Tryd.func6, Tryd.ntmps6
  go_upto_region 2 with (fail)
  generalize World.alloc (World.alloc (World.alloc _ _) _) _ = w0 at *
  have hz0 := HA0.out.sz
  have HS0 : Hid (Sl (w0.alloc (.cells #[.int .i64 1] 3)) (w0.alloc (.cells #[.int .i64 1] 3)).heap.size 1 (some ⟨w0.heap.size, 0, none⟩) 1 1 (intsV [1])) := (Sl.newest (n := 1) (size := 1) rfl rfl (by decide)).more (by simp)
  have HA1 := Lib.hid (HA0.out.later ((Below.refl _ _).alloc (Nat.le_refl _) (.cells #[.int .i64 1] 3)))
  have k0 : w0.cell? ⟨w.heap.size + 1 + 1, 0, none⟩ = some (.slice (some ⟨w.heap.size, 0, none⟩) 1 1) := HA0.out.bn.cell 0
  have k1 : w0.cell? ⟨w.heap.size + 1 + 1, 1, none⟩ = some (.slice (some ⟨w.heap.size + 1, 0, none⟩) 1 1) := HA0.out.bn.cell 1
  go_wp2_with fail
  clear k0 k1
  generalize World.alloc w0 _ = w1 at *
  have hz1 := HA1.out.sz
  refine (fstep_any _ _ _ none none 1 1 1 1 1 1 0 0 0 0 nsW dsW ⟨[1], [], []⟩ 1 0 2 0 w1 (HA1.out.fdm HS0.out (Sl.nil _ _ _) (Sl.nil _ _ _))).mono ?_
  intro e w2 hpost
  obtain ⟨A1, A2, A3, n1, c1, n2, c2, n3, c3, rfl, hi1, hi2, hi3, hb2⟩ := hpost.ok w_stp1
  rw [w_to1] at hi1 hi2 hi3
  obtain rfl : 1 = n1 := hi1.out.len
  have HA2 := Lib.hid (HA1.out.later hb2.out)
  have HB2 := Lib.hid (Blk.new w2 33 #[.slice A1 1 c1, .slice A2 n2 c2, .slice A3 n3 c3])
  have HA3 := Lib.hid (HA2.out.later ((Below.refl _ _).alloc (Nat.le_refl _) (.cells #[.slice A1 1 c1, .slice A2 n2 c2, .slice A3 n3 c3] 33)))
  have HI1 := Lib.hid (hi1.out.sl.alloc (Nat.le_refl _) (.cells #[.slice A1 1 c1, .slice A2 n2 c2, .slice A3 n3 c3] 33))
  have HI2 := Lib.hid (hi2.out.sl.alloc (Nat.le_refl _) (.cells #[.slice A1 1 c1, .slice A2 n2 c2, .slice A3 n3 c3] 33))
  have HI3 := Lib.hid (hi3.out.sl.alloc (Nat.le_refl _) (.cells #[.slice A1 1 c1, .slice A2 n2 c2, .slice A3 n3 c3] 33))
  have hz2 := HA2.out.sz
  clear hpost hi1 hi2 hi3 hb2 HA1 HS0 HA0 HA2 hz1 hz0
  go_upto_region 3 with (fail)
  obtain ⟨fb, hfb⟩ : ∃ x, x = w2.heap.size := ⟨_, rfl⟩
  rw [← hfb] at HB2 hz2 HI1 HI2 HI3 ⊢
  have hfs : fb < (World.alloc w2 (.cells #[.slice A1 1 c1, .slice A2 n2 c2, .slice A3 n3 c3] 33)).heap.size := by rw [hfb]; simp
  clear hfb
  generalize World.alloc w2 _ = w3 at *
  have k0 : w3.cell? ⟨w.heap.size + 1 + 1, 0, none⟩ = some (.slice (some ⟨w.heap.size, 0, none⟩) 1 1) := HA3.out.bn.cell 0
  have k1 : w3.cell? ⟨w.heap.size + 1 + 1, 1, none⟩ = some (.slice (some ⟨w.heap.size + 1, 0, none⟩) 1 1) := HA3.out.bn.cell 1
  have f0 : w3.cell? ⟨fb, 0, none⟩ = some (.slice A1 1 c1) := HB2.out.cell 0
  have f1 : w3.cell? ⟨fb, 1, none⟩ = some (.slice A2 n2 c2) := HB2.out.cell 1
  have f2 : w3.cell? ⟨fb, 2, none⟩ = some (.slice A3 n3 c3) := HB2.out.cell 2
  go_wp2_with fail
  clear k0 k1 f0 f1 f2
  refine (fstep_any _ _ A1 A2 A3 1 1 1 1 1 c1 n2 c2 n3 c3 nsW dsW ⟨[2], [], []⟩ 6 0 2 4 w3 (HA3.out.fdm (HI1.out.more (by omega)) (HI2.out.more (by omega)) (HI3.out.more (by omega)))).mono ?_
  intro e w4 hpost
  obtain ⟨B1, B2, B3, m1, d1, m2, d2, m3, d3, rfl, hj1, hj2, hj3, hb4⟩ := hpost.ok w_stp2
  rw [w_to2] at hj1 hj2 hj3
  obtain rfl : 1 = m1 := hj1.out.len
  obtain rfl : 1 = m2 := hj2.out.len
  have HB4 := Lib.hid (HB2.out.below hb4.out HB2.out.lt)
  have HA4 := Lib.hid ((((HA3.out.later hb4.out).set HL.out (x := fb) hz2 0 (.slice B1 1 d1)).set HL.out (x := fb) hz2 1 (.slice B2 1 d2)).set HL.out (x := fb) hz2 2 (.slice B3 m3 d3))
  have HJ1 : Hid (Sl (((w4.setCell ⟨fb, 0, none⟩ (.slice B1 1 d1)).setCell ⟨fb, 1, none⟩ (.slice B2 1 d2)).setCell ⟨fb, 2, none⟩ (.slice B3 m3 d3)) w4.heap.size 1 B1 1 d1 (intsV [2])) := (Sl.of_own (own_far3 hj1.out hfs)).more (by simp)
  have HJ2 : Hid (Sl (((w4.setCell ⟨fb, 0, none⟩ (.slice B1 1 d1)).setCell ⟨fb, 1, none⟩ (.slice B2 1 d2)).setCell ⟨fb, 2, none⟩ (.slice B3 m3 d3)) w4.heap.size 3 B2 1 d2 ([(⟨0, 2, 4⟩ : Lk)].flatMap Lk.cells)) := (Sl.of_own (own_far3 hj2.out hfs)).more (by simp)
  have HJ3 : Hid (Sl (((w4.setCell ⟨fb, 0, none⟩ (.slice B1 1 d1)).setCell ⟨fb, 1, none⟩ (.slice B2 1 d2)).setCell ⟨fb, 2, none⟩ (.slice B3 m3 d3)) w4.heap.size 1 B3 m3 d3 (intsV [])) := (Sl.of_own (own_far3 hj3.out hfs)).more (by simp)
  have HF4 := Lib.hid (((HB4.out.set 0 (.slice B1 1 d1)).set 1 (.slice B2 1 d2)).set 2 (.slice B3 m3 d3))
  have c0 := HB4.out.cell 0
  have c1 := HB4.out.cell 1
  have c2 := HB4.out.cell 2
  have y0 := HB4.out.frozen 0
  have y1 := HB4.out.frozen 1
  have y2 := HB4.out.frozen 2
  have hz4 : w4.heap.size = (((w4.setCell ⟨fb, 0, none⟩ (.slice B1 1 d1)).setCell ⟨fb, 1, none⟩ (.slice B2 1 d2)).setCell ⟨fb, 2, none⟩ (.slice B3 m3 d3)).heap.size := by simp
  clear hpost hj1 hj2 hj3 hb4 HA3 HB2 HI1 HI2 HI3
  go_upto_region 4 with (fail)
  clear c0 c1 c2 y0 y1 y2 HB4
  generalize World.setCell (World.setCell (World.setCell w4 _ _) _ _) _ _ = w5 at *
  rw [hz4] at HJ1 HJ2 HJ3
  clear hz4
  have k0 : w5.cell? ⟨w.heap.size + 1 + 1, 0, none⟩ = some (.slice (some ⟨w.heap.size, 0, none⟩) 1 1) := HA4.out.bn.cell 0
  have k1 : w5.cell? ⟨w.heap.size + 1 + 1, 1, none⟩ = some (.slice (some ⟨w.heap.size + 1, 0, none⟩) 1 1) := HA4.out.bn.cell 1
  have f0 : w5.cell? ⟨fb, 0, none⟩ = some (.slice B1 1 d1) := HF4.out.cell 0
  have f1 : w5.cell? ⟨fb, 1, none⟩ = some (.slice B2 1 d2) := HF4.out.cell 1
  have f2 : w5.cell? ⟨fb, 2, none⟩ = some (.slice B3 m3 d3) := HF4.out.cell 2
  go_wp2_with fail
  clear k0 k1 f0 f1 f2
  refine (fstep_any _ _ B1 B2 B3 1 1 1 1 1 d1 1 d2 m3 d3 nsW dsW ⟨[2], [⟨0, 2, 4⟩], []⟩ 1 0 1 0 w5 (HA4.out.fdm HJ1.out HJ2.out HJ3.out)).mono ?_
  intro e w6 hpost
  obtain ⟨rfl, hb6⟩ := hpost.err (by rw [w_stp3]; decide)
  rw [w_stp3]
  have HA6 := Lib.hid (HA4.out.later hb6.out)
  have hJ6 := HJ1.out.below hb6.out (Nat.le_refl _)
  obtain ⟨bb, oo, sv, hB1, hbs, hsv, hcs⟩ := Sl.at1 (g := fun x : Int => Value.int .i64 x) (l := [2]) (k := 0) hJ6 (by decide)
  subst hB1
  obtain rfl : 2 = sv := by simpa using hsv
  replace hcs : w6.cell? ⟨bb, oo, none⟩ = some (.int .i64 2) := hcs
  have HF6 := Lib.hid (HF4.out.below hb6.out HF4.out.lt)
  have HC6 := Lib.hid (hb6.out.size)
  have hbs6 : bb < w6.heap.size := Nat.lt_of_lt_of_le hbs hb6.out.size
  have hfb6 : fb < w6.heap.size := HF6.out.lt
  have f0 : w6.cell? ⟨fb, 0, none⟩ = some (.slice (some ⟨bb, oo, none⟩) 1 d1) := HF6.out.cell 0
  have f1 : w6.cell? ⟨fb, 1, none⟩ = some (.slice B2 1 d2) := HF6.out.cell 1
  clear hpost hb6 HA4 HJ1 HJ2 HJ3 HF4 hsv
  go_wp2_with fail
  go_ret
  exact ⟨rfl, (HA6.out.bl.alloc HA6.out.bl.size _)⟩
end Go.Proofs.YtlcaebfjdhgcfaaDoor
/-
  What events leave as it is (plain).
-/
namespace Go.Proofs.YtlcaebfjdhgcfaaDoor
open Go.RowKit
section
variable {ns : List Nd} {ds : List Dv} {F : Fd} {k d p q : Int}
theorem evTo_slen : (evTo ds F k d p q).s.length = F.s.length := by
  unfold evTo
  split
  · split
    · rfl
    · exact List.length_set ..
  · split
    · rfl
    · split
      · rfl
      · split
        · rfl
        · rfl
theorem stp_ge (h : stpErr ns ds F k d p q = 0) : 0 ≤ d := (stp_zero h).2.1.1
/-- A position that changes is that of the event's device, which is neither locked nor stuck. -/
theorem evTo_moves {i : Nat} (hz : stpErr ns ds F k d p q = 0) (h : F.s[i]? ≠ (evTo ds F k d p q).s[i]?) : lckL F.ls (i : Int) = none ∧ (i : Int) = d ∧ ¬ (i : Int) ∈ F.st := by
  have hd := stp_ge hz
  unfold evTo at h
  split at h
  · split at h
    · exact absurd rfl h
    · next hno =>
      have hi : i = d.toNat := by
        by_cases e : i = d.toNat
        · exact e
        · refine absurd ?_ h
          simp only
          rw [List.getElem?_set_ne (fun e2 => e e2.symm)]
      have hd2 : (i : Int) = d := by omega
      simp only [Bool.or_eq_true, not_or, Bool.not_eq_true, Option.isSome_eq_false_iff, Option.isNone_iff_eq_none, decide_eq_false_iff_not] at hno
      rw [hd2]
      exact ⟨hno.1, rfl, hno.2⟩
  · split at h
    · exact absurd rfl h
    · split at h
      · exact absurd rfl h
      · split at h
        · exact absurd rfl h
        · exact absurd rfl h
theorem evTo_locks (h : (evTo ds F k d p q).ls.length ≠ F.ls.length) : k = 6 ∨ k = 7 := by
  unfold evTo at h
  split at h
  · split at h <;> exact absurd rfl h
  · split at h
    · exact absurd rfl h
    · split at h
      · next h6 => exact .inl h6
      · split at h
        · next h7 => exact .inr h7
        · exact absurd rfl h
/-- A device that is stuck stays where it is, and stuck, until it is free. -/
theorem evTo_stays {a : Nat} (hz : stpErr ns ds F k d p q = 0) (ha : a < ds.length) (hs : (a : Int) ∈ F.st) (hn : ¬ (k = 5 ∧ d = (a : Int))) : (a : Int) ∈ (evTo ds F k d p q).st ∧ (evTo ds F k d p q).s[a]? = F.s[a]? := by
  by_cases hm : F.s[a]? = (evTo ds F k d p q).s[a]?
  · refine ⟨?_, hm.symm⟩
    unfold evTo
    split
    · split
      · exact hs
      · exact hs
    · split
      · next h45 =>
        refine stkTo_mem.2 ⟨⟨by omega, by omega⟩, ?_⟩
        split
        · next e =>
          have : k = 4 := by
            rcases h45 with h | h
            · exact h
            · exact absurd ⟨h, e.symm⟩ hn
          simp [this]
        · exact hs
      · split
        · exact hs
        · split
          · exact hs
          · exact hs
  · exact absurd hs (evTo_moves hz hm).2.2
theorem stp_in (h0 : fdErr ns ds F = 0) (hd : 0 ≤ d ∧ d < ds.length) (hu : unuB k p q = false) : stpErr ns ds F k d p q = evErr ns ds F k d p q := by
  unfold stpErr
  rw [if_neg (by simp [h0]), if_neg (by omega), if_neg (by simp [hu])]
theorem stick_ok (h0 : fdErr ns ds F = 0) (hd : 0 ≤ d ∧ d < ds.length) : stpErr ns ds F 4 d 0 0 = 0 := (stp_in h0 hd rfl).trans rfl
theorem free_ok (h0 : fdErr ns ds F = 0) (hd : 0 ≤ d ∧ d < ds.length) : stpErr ns ds F 5 d 0 0 = 0 := (stp_in h0 hd rfl).trans rfl
theorem stick_to (hd : 0 ≤ d ∧ d < ds.length) : d ∈ (evTo ds F 4 d 0 0).st := by
  show d ∈ stkTo ds.length F.st d true
  exact stkTo_mem.2 ⟨hd, by rw [if_pos rfl]⟩
theorem free_to : ¬ d ∈ (evTo ds F 5 d 0 0).st := by
  show ¬ d ∈ stkTo ds.length F.st d false
  intro h
  have := (stkTo_mem.1 h).2
  rw [if_pos rfl] at this
  cases this
end
end Go.Proofs.YtlcaebfjdhgcfaaDoor
/-
  The memory of a law of fields: the deck, the boxes of the network, the field, an event, a new field.
-/
namespace Go.Proofs.YtlcaebfjdhgcfaaDoor
open Go.RowKit
structure FlM (w : World) (nb : Nat) (An Ad As Al At : Option Addr) (cn nd cd n c nl cl nt ct : Nat) (ns : List Nd) (ds : List Dv) (F : Fd) (wr : World) : Prop where
  x : FdX w.heap.size An Ad As Al At 6 cn nd cd n c nl cl nt ct ns ds F wr
  bn : Blk wr nb 30 #[.slice An 6 cn, .slice Ad nd cd]
  bf : Blk wr (nb + 1) 33 #[.slice As n c, .slice Al nl cl, .slice At nt ct]
  bl : Below w.heap.size w wr
  ge : w.heap.size < nb
/-- Beside it: an event's box, a new field's box. -/
structure FlB (w : World) (nb eb xb : Nat) (An Ad As Al At A1 A2 A3 : Option Addr) (cn nd cd n c nl cl nt ct n1 c1 n2 c2 n3 c3 : Nat) (ns : List Nd) (ds : List Dv) (F F' : Fd) (k d p q : Int) (wr : World) : Prop where
  m : FlM w nb An Ad As Al At cn nd cd n c nl cl nt ct ns ds F wr
  e : Blk wr eb 37 #[.int .i64 k, .int .i64 d, .int .i64 p, .int .i64 q]
  f : Blk wr xb 33 #[.slice A1 n1 c1, .slice A2 n2 c2, .slice A3 n3 c3]
  y : FdX w.heap.size An Ad A1 A2 A3 6 cn nd cd n1 c1 n2 c2 n3 c3 ns ds F' wr
def FlI (M : World → Prop) (n gk : Nat) (iv : Value) (wr : World) : Prop := ∃ i : Nat, iv = .int .i64 i ∧ i ≤ n ∧ gk = n - i ∧ Hid (M wr)
def FlR (w : World) (nb : Nat) (An Ad : Option Addr) (cn nd cd : Nat) (ns : List Nd) (ds : List Dv) (P : Fd → Prop) (gk : Nat) (iv : Value) (wr : World) : Prop :=
  ∃ (i n c nl cl nt ct : Nat) (As Al At : Option Addr) (F : Fd), iv = .int .i64 i ∧ i ≤ 20 ∧ gk = 20 - i ∧ Hid (FlM w nb An Ad As Al At cn nd cd n c nl cl nt ct ns ds F wr) ∧ Hid (fdErr ns ds F = 0) ∧ Hid (P F)
section
variable {w w2 w3 wr wr' : World} {nb eb xb : Nat} {An Ad As Al At A1 A2 A3 : Option Addr} {cn nd cd n c nl cl nt ct n1 c1 n2 c2 n3 c3 : Nat} {ns : List Nd} {ds : List Dv} {F F' : Fd} {k d p q : Int}
theorem FlM.later (h : FlM w nb An Ad As Al At cn nd cd n c nl cl nt ct ns ds F wr) (hb : Below wr.heap.size wr wr') : FlM w nb An Ad As Al At cn nd cd n c nl cl nt ct ns ds F wr' :=
  ⟨h.x.later hb, h.bn.below hb h.bn.lt, h.bf.below hb h.bf.lt, h.bl.trans (hb.mono h.bl.size), h.ge⟩
theorem FlM.grown (h : FlM w nb An Ad As Al At cn nd cd n c nl cl nt ct ns ds F wr) (hl : Laid w) (hg : wr.grownBy wr' (some w.heap.size)) (hd : DeckAt wr' w.heap.size) : FlM w nb An Ad As Al At cn nd cd n c nl cl nt ct ns ds F wr' := by
  have := h.ge
  exact ⟨h.x.grown hl (Nat.le_refl _) hd hg, h.bn.grown hg (fun e => by injection e; omega), h.bf.grown hg (fun e => by injection e; omega), h.bl.trans (below_of_grown hg (Nat.le_refl _) h.bl.size), h.ge⟩
theorem FlM.mk0 (hb2 : Below w.heap.size w w2) (hs2 : w2.heap.size = w.heap.size + 1) (hg : w2.grownBy w3 (some w.heap.size)) (hX : FdX w.heap.size An Ad As Al At 6 cn nd cd n c nl cl nt ct ns ds F w3) :
    FlM w w3.heap.size An Ad As Al At cn nd cd n c nl cl nt ct ns ds F ((w3.alloc (.cells #[.slice An 6 cn, .slice Ad nd cd] 30)).alloc (.cells #[.slice As n c, .slice Al nl cl, .slice At nt ct] 33)) := by
  have hb3 : Below w.heap.size w w3 := hb2.trans (below_of_grown hg (Nat.le_refl _) (by omega))
  have hz := hg.size
  refine ⟨(hX.alloc _).alloc _, (Blk.new _ _ _).alloc _, ?_, (hb3.alloc hb3.size _).alloc (by simp; omega) _, by omega⟩
  have := Blk.new (w3.alloc (.cells #[.slice An 6 cn, .slice Ad nd cd] 30)) 33 #[.slice As n c, .slice Al nl cl, .slice At nt ct]
  rwa [World.size_alloc] at this
theorem FlB.later (h : FlB w nb eb xb An Ad As Al At A1 A2 A3 cn nd cd n c nl cl nt ct n1 c1 n2 c2 n3 c3 ns ds F F' k d p q wr) (hb : Below wr.heap.size wr wr') : FlB w nb eb xb An Ad As Al At A1 A2 A3 cn nd cd n c nl cl nt ct n1 c1 n2 c2 n3 c3 ns ds F F' k d p q wr' :=
  ⟨h.m.later hb, h.e.below hb h.e.lt, h.f.below hb h.f.lt, h.y.later hb⟩
/-- The new field, when Step has returned. -/
theorem FlM.step (h : FlM w nb An Ad As Al At cn nd cd n c nl cl nt ct ns ds F wr) (hb : Below wr.heap.size wr wr') (hi1 : IntsO wr' wr.heap.size A1 n1 c1 F'.s) (hi2 : LocksO wr' wr.heap.size A2 n2 c2 F'.ls) (hi3 : IntsO wr' wr.heap.size A3 n3 c3 F'.st) : FdX w.heap.size An Ad A1 A2 A3 6 cn nd cd n1 c1 n2 c2 n3 c3 ns ds F' wr' := by
  have h1 := h.x.later hb
  have hg := h.x.dk.lt
  exact ⟨h1.dk, h1.hn, h1.hd, SlX.of_own hi1 hg, SlX.of_own hi2 hg, SlX.of_own hi3 hg, h1.la, h1.sn, h1.sd⟩
/-- The field's box takes the new field. -/
theorem FlM.take (h : FlM w nb An Ad As Al At cn nd cd n c nl cl nt ct ns ds F wr) (hl : Laid w) (hy : FdX w.heap.size An Ad A1 A2 A3 6 cn nd cd n1 c1 n2 c2 n3 c3 ns ds F' wr) :
    FlM w nb An Ad A1 A2 A3 cn nd cd n1 c1 n2 c2 n3 c3 ns ds F' (((wr.setCell ⟨nb + 1, 0, none⟩ (.slice A1 n1 c1)).setCell ⟨nb + 1, 1, none⟩ (.slice A2 n2 c2)).setCell ⟨nb + 1, 2, none⟩ (.slice A3 n3 c3)) := by
  have := h.ge
  exact ⟨hy.out3 h.bf (by omega) hl (by omega), ((h.bn.far (p := ⟨nb + 1, 0, none⟩) (by simp) _).far (p := ⟨nb + 1, 1, none⟩) (by simp) _).far (p := ⟨nb + 1, 2, none⟩) (by simp) _, ((h.bf.set 0 _).set 1 _).set 2 _, ((h.bl.setCell (by simp; omega) _).setCell (by simp; omega) _).setCell (by simp; omega) _, h.ge⟩
theorem FlM.ln (h : FlM w nb An Ad As Al At cn nd cd n c nl cl nt ct ns ds F wr) : ns.length = 6 ∧ ds.length = nd ∧ F.s.length = n ∧ F.ls.length = nl ∧ F.st.length = nt := h.x.fdm.ln
end
end Go.Proofs.YtlcaebfjdhgcfaaDoor
