import Derived.Test.YtbjndpjligpjaaaDoorZ26
import Derived.Test.YtbjndpjligpjaaaDoorZ27
import Derived.Test.YtbjndpjligpjaaaDoorZ19
import Derived.Test.YtbjndpjligpjaaaDoorZ18
/-
  LocksetAnswers: the law's memory; stores into locks of the call's own.
-/
namespace Go.Proofs.YtbjndpjligpjaaaDoor
open Go.RowKit
theorem flat_set {α : Type} {f : α → List Value} {size : Nat} (hf : ∀ x, (f x).length = size) : ∀ {l : List α} {i j : Nat} {x x' : α} {u : Value}, l[i]? = some x → j < size → f x' = (f x).set j u → (l.flatMap f).set (i * size + j) u = (l.set i x').flatMap f
  | [], i, j, x, x', u, h, _, _ => by simp at h
  | y :: l, 0, j, x, x', u, h, hj, he => by
    simp at h; subst h
    rw [List.flatMap_cons, Nat.zero_mul, Nat.zero_add, List.set_append_left _ _ (by rw [hf]; exact hj), List.set_cons_zero, List.flatMap_cons, he]
  | y :: l, i + 1, j, x, x', u, h, hj, he => by
    simp at h
    rw [List.flatMap_cons, List.set_append_right _ _ (by rw [hf, Nat.succ_mul]; omega), hf, show (i + 1) * size + j - size = i * size + j by rw [Nat.succ_mul]; omega, flat_set hf h hj he, List.set_cons_succ, List.flatMap_cons]
theorem LocksO.put {w : World} {base n c i : Nat} {A : Option Addr} {ls : List Lk} (h : LocksO w base A n c ls) (hi : i < n) : ∃ g d p q, A = some ⟨g, 0, none⟩ ∧ base ≤ g ∧ g < w.heap.size ∧ ls[i]? = some ⟨d, p, q⟩ ∧
    (w.cell? ⟨g, i * 3, none⟩ = some (.int .i64 d) ∧ w.cell? ⟨g, i * 3 + 1, none⟩ = some (.int .i64 p) ∧ w.cell? ⟨g, i * 3 + 2, none⟩ = some (.int .i64 q)) ∧ (∀ j, w.frozen? ⟨g, j, none⟩ = false) ∧
    (∀ v, LocksO (w.setCell ⟨g, i * 3, none⟩ (.int .i64 v)) base A n c (ls.set i ⟨v, p, q⟩)) ∧ (∀ v, LocksO (w.setCell ⟨g, i * 3 + 1, none⟩ (.int .i64 v)) base A n c (ls.set i ⟨d, v, q⟩)) ∧ (∀ v, LocksO (w.setCell ⟨g, i * 3 + 2, none⟩ (.int .i64 v)) base A n c (ls.set i ⟨d, p, v⟩)) := by
  have hl := h.len
  rcases h.2 with ⟨_, h1⟩ | ⟨g, cap, cur, hv, hb, hh, hnc, hm, hs, ht⟩
  · omega
  · injection hv with h1 h2 h3
    subst h1 h3
    have hil : i < ls.length := by omega
    obtain ⟨x, hx⟩ : ∃ x, ls[i]? = some x := ⟨_, List.getElem?_eq_getElem hil⟩
    obtain ⟨d, p, q⟩ := x
    have hc : ∀ j u, (Lk.cells ⟨d, p, q⟩)[j]? = some u → w.cell? ⟨g, i * 3 + j, none⟩ = some u := fun j u hu => by
      have hj : j < 3 := (List.getElem?_eq_some_iff.1 hu).1
      rw [h.cellAt _ (by omega), flat_at (f := Lk.cells) (size := 3) (fun _ => rfl) ls i j _ hx hj]
      exact hu
    have hst : ∀ j u x', j < 3 → Lk.cells x' = (Lk.cells ⟨d, p, q⟩).set j u → LocksO (w.setCell ⟨g, i * 3 + j, none⟩ u) base (some ⟨g, 0, none⟩) n c (ls.set i x') := fun j u x' hj he => by
      have := (h.stored (i * 3 + j) u).1
      rw [flat_set (f := Lk.cells) (size := 3) (fun _ => rfl) hx hj he] at this
      exact this
    exact ⟨g, d, p, q, rfl, hb, (h.lt g rfl).2, hx, ⟨hc 0 _ rfl, hc 1 _ rfl, hc 2 _ rfl⟩, fun j => h.frozenAt j, fun v => hst 0 _ _ (by decide) rfl, fun v => hst 1 _ _ (by decide) rfl, fun v => hst 2 _ _ (by decide) rfl⟩
theorem LocksO.drew {w : World} {base n c : Nat} {A : Option Addr} {ls : List Lk} (h : LocksO w base A n c ls) : LocksO w.drew base A n c ls := h
/-- What the law holds besides the made network: the network and the lock that came in, in their boxes; the locks that came in, and the made ones. -/
structure AnM (w : World) (nb : Nat) (An : Option Addr) (nn cn : Nat) (ns : List Nd) (Ad : Option Addr) (nd cd : Nat) (ds : List Dv) (ob kb : Nat) (od : SlV Nd × SlV Dv) (kk : Lk) (rw : SlV Lk) (Ag : Option Addr) (mg cg : Nat) (ls : List Lk) (wr : World) : Prop where
  n : LwN w nb An nn cn ns Ad nd cd ds wr
  bo : Blk wr ob 27 #[.slice od.1.A od.1.n od.1.c, .slice od.2.A od.2.n od.2.c]
  bk : Blk wr kb 29 #[.int .i64 kk.dev, .int .i64 kk.pos, .int .i64 kk.key]
  sn : Sl wr ob 3 od.1.A od.1.n od.1.c (od.1.l.flatMap Nd.cells)
  sd : Sl wr ob 5 od.2.A od.2.n od.2.c (od.2.l.flatMap Dv.cells)
  sr : Sl wr ob 3 rw.A rw.n rw.c (rw.l.flatMap Lk.cells)
  sg : SlX wr w.heap.size 3 Ag mg cg (ls.flatMap Lk.cells)
  lt : ob < w.heap.size ∧ kb < w.heap.size
section
variable {w wr wr' : World} {nb nn cn nd cd ob kb mg cg : Nat} {An Ad Ag : Option Addr} {ns : List Nd} {ds : List Dv} {od : SlV Nd × SlV Dv} {kk : Lk} {rw : SlV Lk} {ls : List Lk}
theorem AnM.later (h : AnM w nb An nn cn ns Ad nd cd ds ob kb od kk rw Ag mg cg ls wr) (hb : Below wr.heap.size wr wr') : AnM w nb An nn cn ns Ad nd cd ds ob kb od kk rw Ag mg cg ls wr' :=
  ⟨h.n.later hb, h.bo.below hb h.bo.lt, h.bk.below hb h.bk.lt, h.sn.below hb (Nat.le_of_lt h.bo.lt), h.sd.below hb (Nat.le_of_lt h.bo.lt), h.sr.below hb (Nat.le_of_lt h.bo.lt), h.sg.below hb, h.lt⟩
theorem AnM.grown (h : AnM w nb An nn cn ns Ad nd cd ds ob kb od kk rw Ag mg cg ls wr) (hl : Laid w) (hg : wr.grownBy wr' (some w.heap.size)) (hd : DeckAt wr' w.heap.size) : AnM w nb An nn cn ns Ad nd cd ds ob kb od kk rw Ag mg cg ls wr' :=
  ⟨h.n.grown hl hg hd, h.bo.grown hg (fun e => by have := h.lt.1; injection e with e; omega), h.bk.grown hg (fun e => by have := h.lt.2; injection e with e; omega), h.sn.grown hg (Nat.le_of_lt h.bo.lt) (fun k e => by have := h.lt.1; injection e with e; omega), h.sd.grown hg (Nat.le_of_lt h.bo.lt) (fun k e => by have := h.lt.1; injection e with e; omega), h.sr.grown hg (Nat.le_of_lt h.bo.lt) (fun k e => by have := h.lt.1; injection e with e; omega), h.sg.grown hg, h.lt⟩
end
end Go.Proofs.YtbjndpjligpjaaaDoor
/-
  The example of the chapter on locks.
-/
namespace Go.Proofs.YtbjndpjligpjaaaDoor
open Go.RowKit
def nsB : List Nd := [⟨⟨#[65]⟩, 0, 0⟩, ⟨⟨#[66]⟩, 0, 0⟩]
def dsB : List Dv := [⟨⟨#[68]⟩, 3, 0, 1, 0⟩]
theorem checkB : checkN nsB dsB = 0 := by decide
theorem namesB : (∀ x ∈ nsB, x.name.size ≤ 9223372036854775807) ∧ (∀ x ∈ dsB, x.name.size ≤ 9223372036854775807) := by
  constructor <;> intro x hx <;> simp [nsB, dsB] at hx
  · rcases hx with rfl | rfl <;> decide
  · subst hx; decide
theorem LkAddPost.ok {w w' : World} {ns : List Nd} {ds : List Dv} {ls : List Lk} {k : Lk} {e : Ending} (h : LkAddPost w ns ds ls k e w') (h0 : addErr ns ds ls k = 0) : ∃ (A : Option Addr) (c : Nat), e = .returned (.tuple #[.slice A (ls.length + 1) c, .int .i64 0]) ∧ Hid (LocksO w' w.heap.size A (ls.length + 1) c (insL k ls)) ∧ Hid (Below w.heap.size w w') := by
  obtain ⟨⟨h1, _⟩ | ⟨_, A, c, h1, h2⟩, h3⟩ := h
  · exact absurd h0 h1
  · exact ⟨A, c, h1, h2, h3⟩
theorem LkAddPost.err {w w' : World} {ns : List Nd} {ds : List Dv} {ls : List Lk} {k : Lk} {e : Ending} (h : LkAddPost w ns ds ls k e w') (h0 : addErr ns ds ls k ≠ 0) : e = .returned (.tuple #[.slice none 0 0, .int .i64 (addErr ns ds ls k)]) ∧ Hid (Below w.heap.size w w') := by
  obtain ⟨⟨_, h1⟩ | ⟨h1, _⟩, h3⟩ := h
  · exact ⟨h1, h3⟩
  · exact absurd h1 h0
theorem LkRmPost.ok {w w' : World} {ns : List Nd} {ds : List Dv} {ls : List Lk} {d q : Int} {e : Ending} {i : Nat} (h : LkRmPost w ns ds ls d q e w') (h0 : locksErr ns ds ls = 0) (h1 : idxL d q ls = some i) : ∃ (A : Option Addr) (c : Nat), e = .returned (.tuple #[.slice A (ls.length - 1) c, .int .i64 0]) ∧ Hid (LocksO w' w.heap.size A (ls.length - 1) c (ls.eraseIdx i)) ∧ Hid (Below w.heap.size w w') := by
  obtain ⟨⟨h2, _⟩ | ⟨_, h2, _⟩ | ⟨_, i', A, c, h2, h3, h4⟩, h5⟩ := h
  · exact absurd h0 h2
  · rw [h1] at h2; cases h2
  · rw [h1] at h2; injection h2 with h2; subst h2
    exact ⟨A, c, h3, h4, h5⟩
theorem b_add1 : addErr nsB dsB [] ⟨0, 1, 5⟩ = 0 := by decide
theorem b_add2 : addErr nsB dsB [⟨0, 1, 5⟩] ⟨0, 1, 4⟩ = 0 := by decide
theorem b_add3 : addErr nsB dsB [⟨0, 1, 4⟩, ⟨0, 1, 5⟩] ⟨0, 2, 6⟩ = 18 := by decide
theorem b_err : locksErr nsB dsB [⟨0, 1, 4⟩, ⟨0, 1, 5⟩] = 0 := by decide
theorem b_ins1 : insL ⟨0, 1, 5⟩ [] = [⟨0, 1, 5⟩] := rfl
theorem b_ins2 : insL ⟨0, 1, 4⟩ [⟨0, 1, 5⟩] = [⟨0, 1, 4⟩, ⟨0, 1, 5⟩] := by kernel_rfl
theorem b_idx : idxL 0 5 [⟨0, 1, 4⟩, ⟨0, 1, 5⟩] = some 1 := by decide
/-- The example's network in memory. -/
structure AwB (w wr : World) : Prop where
  bn : Blk wr (w.heap.size + 1 + 1) 27 #[.slice (some ⟨w.heap.size, 0, none⟩) 2 2, .slice (some ⟨w.heap.size + 1, 0, none⟩) 1 1]
  sn : Sl wr (w.heap.size + 1) 3 (some ⟨w.heap.size, 0, none⟩) 2 2 (nsB.flatMap Nd.cells)
  sd : Sl wr (w.heap.size + 1 + 1) 5 (some ⟨w.heap.size + 1, 0, none⟩) 1 1 (dsB.flatMap Dv.cells)
  bl : Below w.heap.size w wr
  la : Laid wr
  sz : w.heap.size + 3 ≤ wr.heap.size
  tb : 0 < w.heap.size
theorem AwB.later {w wr wr' : World} (h : AwB w wr) (hb : Below wr.heap.size wr wr') : AwB w wr' :=
  ⟨h.bn.below hb h.bn.lt, h.sn.below hb (by have := h.sz; omega), h.sd.below hb (by have := h.sz; omega), h.bl.trans (hb.mono h.bl.size), h.la.below hb (Nat.le_refl _), Nat.le_trans h.sz hb.size, h.tb⟩
theorem AwB.mk0 (w : World) (hl : Laid w) : AwB w (((w.alloc (.cells #[.string ⟨#[65]⟩, .int .i64 0, .int .i64 0, .string ⟨#[66]⟩, .int .i64 0, .int .i64 0] 55)).alloc (.cells #[.string ⟨#[68]⟩, .int .i64 3, .int .i64 0, .int .i64 1, .int .i64 0] 57)).alloc (.cells #[.slice (some ⟨w.heap.size, 0, none⟩) 2 2, .slice (some ⟨w.heap.size + 1, 0, none⟩) 1 1] 27)) := by
  refine ⟨?_, ?_, ?_, ?_, ((hl.alloc _).alloc _).alloc _, by simp, hl.lt⟩
  · have := Blk.new ((w.alloc (.cells #[.string ⟨#[65]⟩, .int .i64 0, .int .i64 0, .string ⟨#[66]⟩, .int .i64 0, .int .i64 0] 55)).alloc (.cells #[.string ⟨#[68]⟩, .int .i64 3, .int .i64 0, .int .i64 1, .int .i64 0] 57)) 27 #[.slice (some ⟨w.heap.size, 0, none⟩) 2 2, .slice (some ⟨w.heap.size + 1, 0, none⟩) 1 1]
    simpa using this
  · refine Sl.alloc (Sl.alloc ?_ (by simp) _) (by simp) _
    exact Sl.newest (n := 2) (size := 3) rfl rfl (by decide)
  · refine Sl.alloc ?_ (by simp) _
    exact Sl.newest (n := 1) (size := 5) (by simp) rfl (by decide)
  · exact (((Below.refl _ _).alloc (Nat.le_refl _) _).alloc (by simp) _).alloc (by simp; omega) _
set_option maxRecDepth 100000 in
set_option maxHeartbeats 4000000 in
theorem awake_any (w : World) (hl : Laid w) : Calls Tryd.prog 6 #[] w fun e w' => e = .returned (.bool true) ∧ Below w.heap.size w w' := by
  have HA0 := Lib.hid (AwB.mk0 w hl)
  clear hl
  go_enter Tryd.func6, Tryd.ntmps6
  go_upto_region 2 with (fail)
  generalize World.alloc (World.alloc (World.alloc _ _) _) _ = w0 at *
  have hz0 := HA0.out.sz
  have k0 : w0.cell? ⟨w.heap.size + 1 + 1, 0, none⟩ = some (.slice (some ⟨w.heap.size, 0, none⟩) 2 2) := HA0.out.bn.cell 0
  have k1 : w0.cell? ⟨w.heap.size + 1 + 1, 1, none⟩ = some (.slice (some ⟨w.heap.size + 1, 0, none⟩) 1 1) := HA0.out.bn.cell 1
  go_wp2_with fail
  clear k0 k1
  refine (ladd_any (some ⟨w.heap.size, 0, none⟩) (some ⟨w.heap.size + 1, 0, none⟩) none 2 2 1 1 0 (w.heap.size + 1) (w.heap.size + 1 + 1) 0 nsB dsB [] 0 1 5 w0 HA0.out.la HA0.out.sn HA0.out.sd (Sl.nil _ _ _) (by omega) (by omega) (Nat.zero_le _) namesB.1 namesB.2).mono ?_
  intro e w1 hpost
  obtain ⟨A1, c1, rfl, hO1, hb1⟩ := hpost.ok b_add1
  have HA1 := Lib.hid (HA0.out.later hb1.out)
  rw [b_ins1] at hO1
  clear hpost hb1 HA0 hz0
  have hz1 := HA1.out.sz
  have k0 : w1.cell? ⟨w.heap.size + 1 + 1, 0, none⟩ = some (.slice (some ⟨w.heap.size, 0, none⟩) 2 2) := HA1.out.bn.cell 0
  have k1 : w1.cell? ⟨w.heap.size + 1 + 1, 1, none⟩ = some (.slice (some ⟨w.heap.size + 1, 0, none⟩) 1 1) := HA1.out.bn.cell 1
  have HS1 : Hid (Sl w1 w1.heap.size 3 A1 1 c1 ([(⟨0, 1, 5⟩ : Lk)].flatMap Lk.cells)) := Sl.of_own hO1.out
  clear hO1
  go_wp2_with fail
  clear k0 k1
  refine (ladd_any (some ⟨w.heap.size, 0, none⟩) (some ⟨w.heap.size + 1, 0, none⟩) A1 2 2 1 1 c1 (w.heap.size + 1) (w.heap.size + 1 + 1) w1.heap.size nsB dsB [⟨0, 1, 5⟩] 0 1 4 w1 HA1.out.la HA1.out.sn HA1.out.sd HS1.out (by omega) (by omega) (Nat.le_refl _) namesB.1 namesB.2).mono ?_
  intro e w2 hpost
  obtain ⟨A2, c2, rfl, hO2, hb2⟩ := hpost.ok b_add2
  have HA2 := Lib.hid (HA1.out.later hb2.out)
  rw [b_ins2] at hO2
  clear hpost hb2 HA1 hz1 HS1
  have hz2 := HA2.out.sz
  have k0 : w2.cell? ⟨w.heap.size + 1 + 1, 0, none⟩ = some (.slice (some ⟨w.heap.size, 0, none⟩) 2 2) := HA2.out.bn.cell 0
  have k1 : w2.cell? ⟨w.heap.size + 1 + 1, 1, none⟩ = some (.slice (some ⟨w.heap.size + 1, 0, none⟩) 1 1) := HA2.out.bn.cell 1
  have HS2 : Hid (Sl w2 w2.heap.size 3 A2 2 c2 ([(⟨0, 1, 4⟩ : Lk), ⟨0, 1, 5⟩].flatMap Lk.cells)) := Sl.of_own hO2.out
  clear hO2
  have e2 : ([(⟨0, 1, 5⟩ : Lk)].length + 1) = 2 := rfl
  go_wp2_with fail
  clear k0 k1
  refine (ladd_any (some ⟨w.heap.size, 0, none⟩) (some ⟨w.heap.size + 1, 0, none⟩) A2 2 2 1 1 c2 (w.heap.size + 1) (w.heap.size + 1 + 1) w2.heap.size nsB dsB [⟨0, 1, 4⟩, ⟨0, 1, 5⟩] 0 2 6 w2 HA2.out.la HA2.out.sn HA2.out.sd HS2.out (by omega) (by omega) (Nat.le_refl _) namesB.1 namesB.2).mono ?_
  intro e w3 hpost
  obtain ⟨rfl, hb3⟩ := hpost.err (by rw [b_add3]; decide)
  rw [b_add3]
  have HA3 := Lib.hid (HA2.out.later hb3.out)
  have HS3 := Lib.hid (HS2.out.below hb3.out (Nat.le_refl _))
  have hz3 := hb3.out.size
  clear hpost hb3 HA2 HS2
  have k0 : w3.cell? ⟨w.heap.size + 1 + 1, 0, none⟩ = some (.slice (some ⟨w.heap.size, 0, none⟩) 2 2) := HA3.out.bn.cell 0
  have k1 : w3.cell? ⟨w.heap.size + 1 + 1, 1, none⟩ = some (.slice (some ⟨w.heap.size + 1, 0, none⟩) 1 1) := HA3.out.bn.cell 1
  go_wp2_with fail
  clear k0 k1
  refine (lremove_any (some ⟨w.heap.size, 0, none⟩) (some ⟨w.heap.size + 1, 0, none⟩) A2 2 2 1 1 c2 (w.heap.size + 1) (w.heap.size + 1 + 1) w2.heap.size nsB dsB [⟨0, 1, 4⟩, ⟨0, 1, 5⟩] 0 5 w3 HA3.out.la HA3.out.sn HA3.out.sd HS3.out (by omega) (by omega) hz3 namesB.1 namesB.2).mono ?_
  intro e w4 hpost
  obtain ⟨A4, c4, rfl, hO4, hb4⟩ := hpost.ok b_err b_idx
  have HA4 := Lib.hid (HA3.out.later hb4.out)
  clear hpost hb4 HA3 HS3 hz3
  have HS4 : Hid (Sl w4 w4.heap.size 3 A4 1 c4 ([(⟨0, 1, 4⟩ : Lk)].flatMap Lk.cells)) := Sl.of_own hO4.out
  clear hO4
  go_wp2_with fail
  refine (locked_any A4 1 c4 w4.heap.size [⟨0, 1, 4⟩] 0 w4 HS4.out (Nat.le_refl _)).mono ?_
  rintro e w5 ⟨rfl, hb5⟩
  have HA5 := Lib.hid (HA4.out.later hb5)
  clear hb5 HA4 HS4
  rw [show lckE [⟨0, 1, 4⟩] 0 = .returned (.tuple #[.int .i64 1, .bool true]) from rfl]
  go_wp2_with fail
  go_ret
  exact ⟨rfl, HA5.out.bl⟩
end Go.Proofs.YtbjndpjligpjaaaDoor
