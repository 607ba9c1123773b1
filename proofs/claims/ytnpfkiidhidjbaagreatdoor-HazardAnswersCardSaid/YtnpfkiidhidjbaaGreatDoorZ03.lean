import Derived.Test.YtnpfkiidhidjbaaGreatDoorProg
import Derived.Test.YtnpfkiidhidjbaaGreatDoorZ00
import Derived.Deep.OwnRows
import Derived.Deep.AppendSrc
import Derived.Deep.LoopGhost
import Derived.Test.YtnpfkiidhidjbaaGreatDoorZ02
/-
 Rows of the call's own: integers; made, stored into, appended to, cut at the front.
-/
namespace Go.Proofs.YtnpfkiidhidjbaaGreatDoor
open Go.RowKit
theorem el_int : ElemI Tryz.prog 22 3 1 8 := ElemI.mk' (z := .int .i64 0) Tryz.underlying22 (by kernel_rfl) rfl (by decide)
theorem flat1_map {α : Type} (f : α → Value) (l : List α) : (l.flatMap fun x => [f x]) = l.map f := by
 induction l with
 | nil => rfl
 | cons x l ih => rw [List.flatMap_cons, ih]; rfl
theorem intsV_map (l : List Int) : intsV l = l.map (Value.int .i64) := flat1_map _ _
theorem intsV_append (a b : List Int) : intsV (a ++ b) = intsV a ++ intsV b := List.flatMap_append
theorem intsV_set (l : List Int) (i : Nat) (x : Int) : (intsV l).set i (.int .i64 x) = intsV (l.set i x) := by rw [intsV_map, intsV_map, List.map_set]
theorem intsV_replicate (n : Nat) (x : Int) : List.replicate n (Value.int .i64 x) = intsV (List.replicate n x) := by rw [intsV_map, List.map_replicate]
theorem intsV_len (l : List Int) : (intsV l).length = l.length := by rw [intsV_map, List.length_map]
/-- The slice is the call's own row of these integers. -/
def IntsO (w : World) (base : Nat) (A : Option Addr) (n c : Nat) (l : List Int) : Prop := w.ownsRow base 3 1 (.slice A n c) n (intsV l)
section
variable {w w' : World} {base n c i : Nat} {A : Option Addr} {l : List Int}
theorem IntsO.len (h : IntsO w base A n c l) : l.length = n := by have := h.1; rw [intsV_len] at this; omega
theorem IntsO.sl (h : IntsO w base A n c l) : Sl w w.heap.size 1 A n c (intsV l) := Sl.of_own h
theorem own_some {e : TypeId} {xs : List Value} (h : w.ownsRow base e 1 (.slice A n c) n xs) (hi : 0 < n) : ∃ g, A = some ⟨g, 0, none⟩ ∧ base ≤ g ∧ g < w.heap.size := by
 have hl := h.lt
 rcases h.2 with ⟨hv, hn⟩ | ⟨g, cap, cur, hv, hb, _⟩
 ·omega
 ·injection hv with h1
  subst h1
  exact ⟨g, rfl, hb, (hl g rfl).2⟩
/-- What is at hand of one of its elements. -/
theorem IntsO.at (h : IntsO w base A n c l) (hi : i < n) : ∃ g x, A = some ⟨g, 0, none⟩ ∧ base ≤ g ∧ g < w.heap.size ∧ l[i]? = some x ∧ w.cell? ⟨g, i, none⟩ = some (.int .i64 x) ∧ w.frozen? ⟨g, i, none⟩ = false ∧ ∀ y, IntsO (w.setCell ⟨g, i, none⟩ (.int .i64 y)) base A n c (l.set i y) := by
 obtain ⟨g, rfl, h1, h2⟩ := own_some h (by omega)
 have hl := h.len
 refine ⟨g, l[i]'(by omega), rfl, h1, h2, List.getElem?_eq_getElem _, ?_, h.frozenAt i, fun y => ?_⟩
 ·rw [h.cellAt i (by omega), intsV_map, List.getElem?_map, List.getElem?_eq_getElem (by omega)]; rfl
 ·have := (h.stored i (.int .i64 y)).1
  rwa [intsV_set] at this
theorem own_later {e : TypeId} {size : Nat} {v : Value} {xs : List Value} (h : w.ownsRow base e size v n xs) (hb : Below w.heap.size w w') : w'.ownsRow base e size v n xs := h.kept (grown_of_below hb none) (Classical.em _)
theorem IntsO.later (h : IntsO w base A n c l) (hb : Below w.heap.size w w') : IntsO w' base A n c l := own_later h hb
/-- A store into another block. -/
theorem grown_cell (w : World) (p : Addr) (u : Value) : w.grownBy (w.setCell p u) (some p.block) := ⟨rfl, rfl, rfl, by simp [World.setCell], fun i _ hi => Below.heap_setCell w _ _ i (fun e => hi (by rw [e]))⟩
end
/-- 'make' of integers. -/
theorem run_mk_int (n : Nat) (hn : n ≤ 1000000) (w : World) : (Instr.makeSlice 22 (.int .i64 (n : Int)) (.int .i64 (n : Int))).run Tryz.prog w = .ok (.slice (some ⟨w.heap.size, 0, none⟩) n n) (w.alloc (.cells (intsV (List.replicate n 0)).toArray 3)) := by
 rw [run_make_row' 22 3 (.int .i64 0) 8 Tryz.underlying22 (by kernel_rfl) rfl .i64 .i64 n (by omega) (by omega) w]
 congr 3
 apply Array.ext'
 rw [toList_madeCells_one, intsV_replicate]
theorem own_new {w : World} {base n : Nat} {e : TypeId} {xs : List Value} (hb : base ≤ w.heap.size) (hn : n ≤ 9223372036854775807) (hl : xs.length = n) : (w.alloc (.cells xs.toArray e)).ownsRow base e 1 (.slice (some ⟨w.heap.size, 0, none⟩) n n) n xs :=
 ⟨by omega, .inr ⟨w.heap.size, n, xs.toArray, rfl, hb, heap_alloc_new w _, Nat.le_refl _, by simpa [maxLen] using hn, by simp [hl], by simp [← hl]⟩⟩
theorem ints_new {w : World} {base n : Nat} (hb : base ≤ w.heap.size) (hn : n ≤ 1000000) : IntsO (w.alloc (.cells (intsV (List.replicate n 0)).toArray 3)) base (some ⟨w.heap.size, 0, none⟩) n n (List.replicate n 0) := own_new hb (by omega) (by rw [intsV_len, List.length_replicate])
theorem ints_one (l : List Int) : ∀ u ∈ intsV l, u.oneCell' = true := by
 intro u hu
 rw [intsV_map, List.mem_map] at hu
 obtain ⟨x, _, rfl⟩ := hu
 rfl
theorem grown_undrew {w w' : World} {row : Option Nat} (h : w.drew.grownBy w' row) : w.grownBy w' row := ⟨h.os, h.tape, h.output, h.size, h.block⟩
/-! A row that is cut at the front. -/
def cutA (A : Option Addr) (c k : Nat) : Option Addr := if c = k then A else A.map (·.add k)
theorem run_from_int (w : World) (A : Option Addr) (n c k : Nat) (hk : k ≤ n) : (Instr.sliceAt 22 (.slice A n c) (some (.int .i64 (k : Int))) none none).run Tryz.prog w = .ok (.slice (cutA A c k) (n - k) (c - k)) w := by
 rw [run_sliceAt_slice _ _ _ _ _ _ (by kernel_rfl), run_slice_l _ _ _ _ _ (by kernel_rfl) _ _ (by omega) (by omega)]
 have : (sizeOf (Tryz.prog.elem 22)).run Tryz.prog w = .ok 1 w := by kernel_rfl
 rw [this]
 simp [sliced, cutA, Result.andThen]
/-- The slice reads as these cells, in memory of the call's own. -/
def Que (w : World) (base : Nat) (e : TypeId) (A : Option Addr) (n c : Nat) (xs : List Value) : Prop :=
 xs.length = n ∧ n ≤ c ∧ c ≤ 9223372036854775807 ∧ (∀ a, A = some a → base ≤ a.block ∧ a.block < w.heap.size) ∧
 (0 < c → ∃ g off cur, A = some ⟨g, off, none⟩ ∧ w.heap[g]? = some (.cells cur e (0, 0)) ∧ off + c ≤ cur.size ∧ ∀ j u, xs[j]? = some u → cur[off + j]? = some u)
section
variable {w w' : World} {base n c k : Nat} {A : Option Addr} {xs : List Value} {e : TypeId}
theorem Que.le (h : Que w base e A n c xs) : n ≤ c ∧ c ≤ 9223372036854775807 := ⟨h.2.1, h.2.2.1⟩
theorem Que.lt (h : Que w base e A n c xs) : ∀ g, (Value.slice A n c).ownBlock = some g → base ≤ g ∧ g < w.heap.size := by
 intro g hg
 cases A with
 | none => cases hg
 | some a => have := h.2.2.2.1 a rfl; simp [Value.ownBlock] at hg; subst hg; exact this
theorem Que.of_own (h : w.ownsRow base e 1 (.slice A n c) n xs) : Que w base e A n c xs := by
 have hl := h.lt
 have hx := h.1
 rcases h.2 with ⟨hv, hn⟩ | ⟨g, cap, cur, hv, hb, hh, hnc, hm, hs, ht⟩
 ·injection hv with h1 h2 h3
  subst h1 h3 hn
  exact ⟨by omega, Nat.le_refl _, by omega, (fun a e => by cases e), fun h => absurd h (by omega)⟩
 ·injection hv with h1 h2 h3
  subst h1 h3
  refine ⟨by omega, hnc, by simpa [maxLen] using hm, fun a e => ?_, fun _ => ⟨g, 0, cur, rfl, hh, by omega, fun j u hu => ?_⟩⟩
  ·injection e with e; subst e; exact hl g rfl
  ·rw [Nat.zero_add]
   have hj : j < n := by have := (List.getElem?_eq_some_iff.1 hu).1; omega
   rw [← ht, List.getElem?_take, if_pos (by omega)] at hu
   simpa using hu
theorem Que.kept (h : Que w base e A n c xs) {row : Option Nat} (hg : w.grownBy w' row) (hne : (Value.slice A n c).ownBlock = none ∨ (Value.slice A n c).ownBlock ≠ row) : Que w' base e A n c xs := by
 obtain ⟨h1, h2, h3, h4, h5⟩ := h
 refine ⟨h1, h2, h3, fun a ha => ⟨(h4 a ha).1, Nat.lt_of_lt_of_le (h4 a ha).2 hg.size⟩, fun hc => ?_⟩
 obtain ⟨g, off, cur, rfl, hh, ho, hx⟩ := h5 hc
 refine ⟨g, off, cur, rfl, (hg.block g (h4 _ rfl).2 (fun e => ?_)).trans hh, ho, hx⟩
 rcases hne with h | h
 ·simp [Value.ownBlock] at h
 ·exact h e
theorem Que.later (h : Que w base e A n c xs) (hb : Below w.heap.size w w') : Que w' base e A n c xs := h.kept (grown_of_below hb none) (Classical.em _)
theorem Que.alloc (h : Que w base e A n c xs) (o : Obj) : Que (w.alloc o) base e A n c xs := h.later ((Below.refl _ _).alloc (Nat.le_refl _) _)
theorem Que.at (h : Que w base e A n c xs) (hk : k < n) : ∃ g off u, A = some ⟨g, off, none⟩ ∧ xs[k]? = some u ∧ w.cell? ⟨g, off + k, none⟩ = some u := by
 obtain ⟨h1, h2, h3, h4, h5⟩ := h
 obtain ⟨g, off, cur, rfl, hh, ho, hx⟩ := h5 (by omega)
 have e1 : xs[k]? = some (xs[k]'(by omega)) := List.getElem?_eq_getElem (by omega)
 exact ⟨g, off, _, rfl, e1, (cell_of_row w g _ cur e (0, 0) hh).trans (hx k _ e1)⟩
theorem cutA_own (A : Option Addr) (n c n' c' k : Nat) : (Value.slice (cutA A c k) n' c').ownBlock = (Value.slice A n c).ownBlock := by
 unfold cutA
 cases A with
 | none => split <;> rfl
 | some a =>
  split
  ·rfl
  ·simp [Value.ownBlock, Addr.add]; split <;> rfl
theorem Que.cut (h : Que w base e A n c xs) (hk : k ≤ n) : Que w base e (cutA A c k) (n - k) (c - k) (xs.drop k) := by
 obtain ⟨h1, h2, h3, h4, h5⟩ := h
 refine ⟨by simp; omega, by omega, by omega, fun a ha => ?_, fun hc => ?_⟩
 ·cases A with
  | none => unfold cutA at ha; split at ha <;> cases ha
  | some b =>
   have := h4 b rfl
   have hb : a.block = b.block := by
    have := cutA_own (some b) n c n c k
    rw [ha] at this
    simpa [Value.ownBlock] using this
   rw [hb]; exact this
 ·obtain ⟨g, off, cur, rfl, hh, ho, hx⟩ := h5 (by omega)
  refine ⟨g, off + k, cur, by unfold cutA; rw [if_neg (by omega), Option.map_some, add_plain], hh, by omega, fun j u hu => ?_⟩
  rw [List.getElem?_drop] at hu
  have := hx (k + j) u hu
  rwa [show off + k + j = off + (k + j) by omega]
end
end Go.Proofs.YtnpfkiidhidjbaaGreatDoor
/-
 Layer 3: walk of across; layer 12: Clone, With.
-/
namespace Go.Proofs.YtnpfkiidhidjbaaGreatDoor
open Go.RowKit
/-- The other node of a device that joins; -1. -/
def acrB (x : Dv) (v : Int) : Int := if joinsB x.kind = false then -1 else if x.a = v then x.b else if x.b = v then x.a else -1
set_option maxHeartbeats 1000000 in
theorem across_any (nm : ByteArray) (kind a b comp v : Int) (w : World) : Calls Tryz.prog 142 #[.agg #[.string nm, .int .i64 kind, .int .i64 a, .int .i64 b, .int .i64 comp], .int .i64 v] w fun e w' => e = .returned (.int .i64 (acrB ⟨nm, kind, a, b, comp⟩ v)) ∧ Below w.heap.size w w' := by
 have HE : Hid (acrB ⟨nm, kind, a, b, comp⟩ v = if joinsB kind = false then -1 else if a = v then b else if b = v then a else -1) := rfl
 have HJ2 := Lib.hid (joins_any kind)
 rcases hj : joinsB kind with _ | _
 ·rw [hj] at HJ2
  have HJ := Lib.hid hj; clear hj
  go_enter Tryz.func142, Tryz.ntmps142
  go_wp2_with fail
  refine (HJ2.out _).mono ?_
  rintro e w1 ⟨rfl, rfl⟩
  go_wp2_with fail
  go_ret
  exact ⟨ret_int (by rw [HE.out, if_pos HJ.out]), (Below.refl _ _).alloc (Nat.le_refl _) _⟩
 ·rw [hj] at HJ2
  have HJ := Lib.hid hj; clear hj
  by_cases h1 : a = v
  ·subst h1
   have q : (a == a) = true := by simp
   go_enter Tryz.func142, Tryz.ntmps142
   go_wp2_with fail
   refine (HJ2.out _).mono ?_
   rintro e w1 ⟨rfl, rfl⟩
   go_wp2_with fail
   go_ret
   exact ⟨ret_int (by rw [HE.out, if_neg (by rw [HJ.out]; simp)]; simp), (Below.refl _ _).alloc (Nat.le_refl _) _⟩
  ·have q : (a == v) = false := by simpa using h1
   by_cases h2 : b = v
   ·subst h2
    have q2 : (b == b) = true := by simp
    go_enter Tryz.func142, Tryz.ntmps142
    go_wp2_with fail
    refine (HJ2.out _).mono ?_
    rintro e w1 ⟨rfl, rfl⟩
    go_wp2_with fail
    go_ret
    exact ⟨ret_int (by rw [HE.out, if_neg (by rw [HJ.out]; simp), if_neg h1]; simp), (Below.refl _ _).alloc (Nat.le_refl _) _⟩
   ·have q2 : (b == v) = false := by simpa using h2
    go_enter Tryz.func142, Tryz.ntmps142
    go_wp2_with fail
    refine (HJ2.out _).mono ?_
    rintro e w1 ⟨rfl, rfl⟩
    go_wp2_with fail
    go_ret
    exact ⟨ret_int (by rw [HE.out, if_neg (by rw [HJ.out]; simp), if_neg h1, if_neg h2]), (Below.refl _ _).alloc (Nat.le_refl _) _⟩
/-- A fresh slice with the same integers. -/
def IntsPost (w : World) (l : List Int) (e : Ending) (w' : World) : Prop := ∃ (A : Option Addr) (c : Nat), e = .returned (.slice A l.length c) ∧ Hid (IntsO w' w.heap.size A l.length c l) ∧ Hid (Below w.heap.size w w')
theorem run_isnil (A : Option Addr) (n c : Nat) (w : World) : (binOp BinOp.eql 22 (.slice A n c) (.slice none 0 0)).run Tryz.prog w = .ok (.bool A.isNone) w := by
 cases A <;> kernel_rfl
set_option maxRecDepth 100000 in
set_option maxHeartbeats 1000000 in
theorem clone_any (A : Option Addr) (n c B : Nat) (l : List Int) (w : World) (hs : Sl w B 1 A n c (intsV l)) (hB : B ≤ w.heap.size) (hn : n ≤ 1000000) : Calls Tryz.prog 94 #[.slice A n c] w (IntsPost w l) := by
 have hl := hs.len (fun _ => rfl) (by decide)
 have HL := Lib.hid hl; clear hl
 cases A with
 | none =>
  have h0 : n = 0 := by have := hs.2.2.2.1 rfl; have := hs.le; omega
  subst h0
  have hl0 : l = [] := List.eq_nil_of_length_eq_zero HL.out
  subst hl0
  clear hs HL
  have hnil := run_isnil none 0 c w
  simp only [Option.isNone_none] at hnil
  go_enter Tryz.func94, Tryz.ntmps94
  go_wp2_with fail
  go_ret
  exact ⟨none, 0, rfl, World.ownsRow_nil _ _ _ _, Below.refl _ _⟩
 | some a =>
  have HS := Lib.hid hs
  have hH := hs.le
  clear hs
  have hnil := run_isnil (some a) n c w
  simp only [Option.isNone_some] at hnil
  go_enter Tryz.func94, Tryz.ntmps94
  have h1 : ∀ u ∈ intsV l, u.oneCell' = true := ints_one l
  have HS1 := Lib.hid (HS.out.alloc hB (.cells #[] 3))
  go_wp2_with (at_builtin; go_must (refine wpList_app rfl (.tmp 5) (.tmp 6) rfl el_int (base := w.heap.size) (n := 0) (xs := []) (by rfl) (own_new (xs := []) (Nat.le_refl _) (by decide) rfl) (by rfl) HS1.out h1 (by omega) (by omega) (by simp) ?_; intro A' cap' w2 hown2 hgr2 hat2; simp only [Nat.zero_add, List.nil_append] at hown2 hgr2; have HO := Lib.hid hown2; have HG := Lib.hid hgr2; clear hown2 hgr2 hat2))
  go_ret
  obtain rfl : l.length = n := HL.out
  exact ⟨A', cap', rfl, HO.out, ((Below.refl _ _).alloc (Nat.le_refl _) _).trans (below_of_grown HG.out (Nat.le_refl _) (by simp))⟩
end Go.Proofs.YtnpfkiidhidjbaaGreatDoor
/-
 Layer 3, plain: which nodes a flood reaches; what holds while it works.
-/
namespace Go.Proofs.YtnpfkiidhidjbaaGreatDoor
/-- v is reached from some nodes over devices that may be used, not going on from nodes that stop. -/
inductive Rch (ds : List Dv) (U : Nat → Bool) (S : Int → Bool) (src : List Int) : Int → Prop
 | base {v : Int} : v ∈ src → Rch ds U S src v
 | step {u : Int} {i : Nat} {x : Dv} : Rch ds U S src u → S u = false → ds[i]? = some x → U i = true → 0 ≤ acrB x u → Rch ds U S src (acrB x u)
def marked (out : List Bool) (v : Int) : Prop := 0 ≤ v ∧ out[v.toNat]? = some true
def EndsOk (nn : Nat) (ds : List Dv) : Prop := ∀ x ∈ ds, joinsB x.kind = true → (0 ≤ x.a ∧ x.a < nn) ∧ (0 ≤ x.b ∧ x.b < nn)
def countF (out : List Bool) : Nat := (out.filter (fun b => !b)).length
theorem acr_lt {nn : Nat} {ds : List Dv} (h : EndsOk nn ds) {i : Nat} {x : Dv} (hx : ds[i]? = some x) (v : Int) (h0 : 0 ≤ acrB x v) : acrB x v < nn := by
 have hm := h x (List.mem_of_getElem? hx)
 unfold acrB at h0 ⊢
 split at h0
 ·omega
 ·rename_i hj
  have := hm (by simpa using hj)
  rw [if_neg hj]
  split
  ·omega
  ·split
   ·omega
   ·rename_i h1 h2; rw [if_neg h1, if_neg h2] at h0; omega
theorem marked_set {out : List Bool} {k : Nat} (hk : k < out.length) (v : Int) : marked (out.set k true) v ↔ v = k ∨ marked out v := by
 unfold marked
 rw [List.getElem?_set]
 constructor
 ·rintro ⟨h0, h1⟩
  split at h1
  ·left; omega
  ·exact .inr ⟨h0, h1⟩
 ·rintro (rfl | ⟨h0, h1⟩)
  ·exact ⟨by omega, by simp [hk]⟩
  ·refine ⟨h0, ?_⟩
   split
   ·simp
   ·exact h1
theorem countF_set : ∀ {out : List Bool} {k : Nat}, out[k]? = some false → countF (out.set k true) + 1 = countF out
 | [], k, h => by simp at h
 | b :: out, 0, h => by simp at h; subst h; simp [countF]
 | b :: out, k + 1, h => by
  simp at h
  have := countF_set h
  unfold countF at *
  rw [List.set_cons_succ, List.filter_cons, List.filter_cons]
  split <;> simp_all
theorem marked_rep (n : Nat) (v : Int) : ¬ marked (List.replicate n false) v := by
 rintro ⟨_, h⟩
 rw [List.getElem?_replicate] at h
 split at h <;> simp at h
/-- At the head of the outer loop. -/
structure BInv (ds : List Dv) (U : Nat → Bool) (S : Int → Bool) (src : List Int) (out : List Bool) (wait : List Int) : Prop where
 sound : ∀ v, marked out v → Rch ds U S src v
 waits : ∀ v ∈ wait, marked out v
 srcs : ∀ v ∈ src, marked out v
 done : ∀ u, marked out u → u ∉ wait → S u = false → ∀ i x, ds[i]? = some x → U i = true → 0 ≤ acrB x u → marked out (acrB x u)
/-- At the head of the inner loop, at device j, for the node v. -/
structure IInv (ds : List Dv) (U : Nat → Bool) (S : Int → Bool) (src : List Int) (v : Int) (j : Nat) (out : List Bool) (wait : List Int) : Prop where
 sound : ∀ v, marked out v → Rch ds U S src v
 waits : ∀ v ∈ wait, marked out v
 srcs : ∀ v ∈ src, marked out v
 done : ∀ u, marked out u → u ∉ wait → S u = false → ∀ i x, ds[i]? = some x → U i = true → 0 ≤ acrB x u → marked out (acrB x u)
 head : wait.head? = some v
 here : ∀ i x, i < j → ds[i]? = some x → U i = true → 0 ≤ acrB x v → marked out (acrB x v)
section
variable {ds : List Dv} {U : Nat → Bool} {S : Int → Bool} {src wait : List Int} {out : List Bool} {v : Int} {j : Nat}
theorem BInv.start (h : ∀ v, marked out v ↔ v ∈ src) : BInv ds U S src out src :=
 ⟨fun v hv => .base ((h v).1 hv), fun v hv => (h v).2 hv, fun v hv => (h v).2 hv, fun u hu hn => absurd ((h u).1 hu) hn⟩
theorem BInv.enter (h : BInv ds U S src out wait) (hv : wait.head? = some v) : IInv ds U S src v 0 out wait :=
 ⟨h.sound, h.waits, h.srcs, h.done, hv, fun i x hi => absurd hi (by omega)⟩
theorem BInv.stop (h : BInv ds U S src out (v :: wait)) (hs : S v = true) : BInv ds U S src out wait :=
 ⟨h.sound, fun u hu => h.waits u (List.mem_cons_of_mem _ hu), h.srcs, fun u hu hn hsu i x hx hU h0 => by
  refine h.done u hu (fun hm => ?_) hsu i x hx hU h0
  rcases List.mem_cons.1 hm with rfl | hm
  ·rw [hs] at hsu; cases hsu
  ·exact hn hm⟩
theorem IInv.leave (h : IInv ds U S src v j out (v :: wait)) (hj : ds.length ≤ j) : BInv ds U S src out wait :=
 ⟨h.sound, fun u hu => h.waits u (List.mem_cons_of_mem _ hu), h.srcs, fun u hu hn hsu i x hx hU h0 => by
  by_cases huv : u = v
  ·subst huv
   exact h.here i x (Nat.lt_of_lt_of_le (List.getElem?_eq_some_iff.1 hx).1 hj) hx hU h0
  ·refine h.done u hu (fun hm => ?_) hsu i x hx hU h0
   rcases List.mem_cons.1 hm with e | hm
   ·exact huv e
   ·exact hn hm⟩
theorem IInv.pass (h : IInv ds U S src v j out wait) {x : Dv} (hx : ds[j]? = some x) (hp : U j = true → 0 ≤ acrB x v → marked out (acrB x v)) : IInv ds U S src v (j + 1) out wait :=
 ⟨h.sound, h.waits, h.srcs, h.done, h.head, fun i y hi hy hU h0 => by
  rcases Nat.lt_succ_iff_lt_or_eq.1 hi with hi | rfl
  ·exact h.here i y hi hy hU h0
  ·obtain rfl : y = x := Option.some.inj (hy.symm.trans hx)
   exact hp hU h0⟩
theorem IInv.push (h : IInv ds U S src v j out wait) {x : Dv} (hx : ds[j]? = some x) {k : Nat} (hk : acrB x v = k) (hkl : k < out.length) (hU : U j = true) (hS : S v = false) : IInv ds U S src v (j + 1) (out.set k true) (wait ++ [(k : Int)]) := by
 have hv : marked out v := h.waits v (List.mem_of_mem_head? h.head)
 have hm := fun u => marked_set (out := out) hkl u
 refine ⟨fun u hu => ?_, fun u hu => ?_, fun u hu => (hm u).2 (.inr (h.srcs u hu)), fun u hu hn hsu i y hy hUi h0 => ?_, ?_, fun i y hi hy hUi h0 => ?_⟩
 ·rcases (hm u).1 hu with rfl | hu
  ·rw [← hk]; exact .step (h.sound v hv) hS hx hU (by omega)
  ·exact h.sound u hu
 ·rcases List.mem_append.1 hu with hu | hu
  ·exact (hm u).2 (.inr (h.waits u hu))
  ·exact (hm u).2 (.inl (List.mem_singleton.1 hu))
 ·rcases (hm u).1 hu with rfl | hu
  ·exact absurd (List.mem_append_right _ (List.mem_singleton.2 rfl)) hn
  ·exact (hm _).2 (.inr (h.done u hu (fun hw => hn (List.mem_append_left _ hw)) hsu i y hy hUi h0))
 ·have := h.head
  cases wait with
  | nil => simp at this
  | cons a l => simpa using this
 ·rcases Nat.lt_succ_iff_lt_or_eq.1 hi with hi | rfl
  ·exact (hm _).2 (.inr (h.here i y hi hy hUi h0))
  ·obtain rfl : y = x := Option.some.inj (hy.symm.trans hx)
   exact (hm _).2 (.inl hk)
theorem BInv.final (h : BInv ds U S src out []) : ∀ v, marked out v ↔ Rch ds U S src v := by
 intro v
 refine ⟨h.sound v, fun hr => ?_⟩
 induction hr with
 | base hv => exact h.srcs _ hv
 | step _ hs hx hU h0 ih => exact h.done _ ih (by simp) hs _ _ hx hU h0
end
end Go.Proofs.YtnpfkiidhidjbaaGreatDoor
