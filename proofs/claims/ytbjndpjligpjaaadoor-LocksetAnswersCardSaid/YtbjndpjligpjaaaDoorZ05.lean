import Derived.Test.YtbjndpjligpjaaaDoorProg
import Derived.Test.YtbjndpjligpjaaaDoorZ00
import Derived.Deep.OwnRows
import Derived.Deep.AppendSrc
import Derived.Deep.LoopGhost
import Derived.Test.YtbjndpjligpjaaaDoorZ04
/-
  Rows of the call's own: integers; made, stored into, appended to, cut at the front.
-/
namespace Go.Proofs.YtbjndpjligpjaaaDoor
open Go.RowKit

theorem el_int : ElemI Tryd.prog 22 3 1 8 := ElemI.mk' (z := .int .i64 0) Tryd.underlying22 (by kernel_rfl) rfl (by decide)
theorem flat1_map {α : Type} (f : α → Value) (l : List α) : (l.flatMap fun x => [f x]) = l.map f := by
  induction l with
  | nil => rfl
  | cons x l ih => rw [List.flatMap_cons, ih]; rfl
theorem intsV_map (l : List Int) : intsV l = l.map (Value.int .i64) := flat1_map _ _
theorem intsV_append (a b : List Int) : intsV (a ++ b) = intsV a ++ intsV b := List.flatMap_append
theorem intsV_set (l : List Int) (i : Nat) (x : Int) : (intsV l).set i (.int .i64 x) = intsV (l.set i x) := by rw [intsV_map, intsV_map, List.map_set]
theorem intsV_replicate (n : Nat) (x : Int) : List.replicate n (Value.int .i64 x) = intsV (List.replicate n x) := by rw [intsV_map, List.map_replicate]
theorem intsV_len (l : List Int) : (intsV l).length = l.length := by rw [intsV_map, List.length_map]
/-- The slice is the call's own row of these integers. -/
def IntsO (w : World) (base : Nat) (A : Option Addr) (n c : Nat) (l : List Int) : Prop := w.ownsRow base 3 1 (.slice A n c) n (intsV l)
section
variable {w w' : World} {base n c i : Nat} {A : Option Addr} {l : List Int}
theorem IntsO.len (h : IntsO w base A n c l) : l.length = n := by have := h.1; rw [intsV_len] at this; omega
theorem IntsO.sl (h : IntsO w base A n c l) : Sl w w.heap.size 1 A n c (intsV l) := Sl.of_own h
theorem own_some {e : TypeId} {xs : List Value} (h : w.ownsRow base e 1 (.slice A n c) n xs) (hi : 0 < n) : ∃ g, A = some ⟨g, 0, none⟩ ∧ base ≤ g ∧ g < w.heap.size := by
  have hl := h.lt
  rcases h.2 with ⟨hv, hn⟩ | ⟨g, cap, cur, hv, hb, _⟩
  · omega
  · injection hv with h1
    subst h1
    exact ⟨g, rfl, hb, (hl g rfl).2⟩
/-- What is at hand of one of its elements. -/
theorem IntsO.at (h : IntsO w base A n c l) (hi : i < n) : ∃ g x, A = some ⟨g, 0, none⟩ ∧ base ≤ g ∧ g < w.heap.size ∧ l[i]? = some x ∧ w.cell? ⟨g, i, none⟩ = some (.int .i64 x) ∧ w.frozen? ⟨g, i, none⟩ = false ∧ ∀ y, IntsO (w.setCell ⟨g, i, none⟩ (.int .i64 y)) base A n c (l.set i y) := by
  obtain ⟨g, rfl, h1, h2⟩ := own_some h (by omega)
  have hl := h.len
  refine ⟨g, l[i]'(by omega), rfl, h1, h2, List.getElem?_eq_getElem _, ?_, h.frozenAt i, fun y => ?_⟩
  · rw [h.cellAt i (by omega), intsV_map, List.getElem?_map, List.getElem?_eq_getElem (by omega)]; rfl
  · have := (h.stored i (.int .i64 y)).1
    rwa [intsV_set] at this
theorem own_later {e : TypeId} {size : Nat} {v : Value} {xs : List Value} (h : w.ownsRow base e size v n xs) (hb : Below w.heap.size w w') : w'.ownsRow base e size v n xs := h.kept (grown_of_below hb none) (Classical.em _)
theorem IntsO.later (h : IntsO w base A n c l) (hb : Below w.heap.size w w') : IntsO w' base A n c l := own_later h hb
/-- A store into another block. -/
theorem grown_cell (w : World) (p : Addr) (u : Value) : w.grownBy (w.setCell p u) (some p.block) := ⟨rfl, rfl, rfl, by simp [World.setCell], fun i _ hi => Below.heap_setCell w _ _ i (fun e => hi (by rw [e]))⟩
end
/-- 'make' of integers. -/
theorem run_mk_int (n : Nat) (hn : n ≤ 1000000) (w : World) : (Instr.makeSlice 22 (.int .i64 (n : Int)) (.int .i64 (n : Int))).run Tryd.prog w = .ok (.slice (some ⟨w.heap.size, 0, none⟩) n n) (w.alloc (.cells (intsV (List.replicate n 0)).toArray 3)) := by
  rw [run_make_row' 22 3 (.int .i64 0) 8 Tryd.underlying22 (by kernel_rfl) rfl .i64 .i64 n (by omega) (by omega) w]
  congr 3
  apply Array.ext'
  rw [toList_madeCells_one, intsV_replicate]
theorem own_new {w : World} {base n : Nat} {e : TypeId} {xs : List Value} (hb : base ≤ w.heap.size) (hn : n ≤ 9223372036854775807) (hl : xs.length = n) : (w.alloc (.cells xs.toArray e)).ownsRow base e 1 (.slice (some ⟨w.heap.size, 0, none⟩) n n) n xs :=
  ⟨by omega, .inr ⟨w.heap.size, n, xs.toArray, rfl, hb, heap_alloc_new w _, Nat.le_refl _, by simpa [maxLen] using hn, by simp [hl], by simp [← hl]⟩⟩
theorem ints_new {w : World} {base n : Nat} (hb : base ≤ w.heap.size) (hn : n ≤ 1000000) : IntsO (w.alloc (.cells (intsV (List.replicate n 0)).toArray 3)) base (some ⟨w.heap.size, 0, none⟩) n n (List.replicate n 0) := own_new hb (by omega) (by rw [intsV_len, List.length_replicate])
theorem ints_one (l : List Int) : ∀ u ∈ intsV l, u.oneCell' = true := by
  intro u hu
  rw [intsV_map, List.mem_map] at hu
  obtain ⟨x, _, rfl⟩ := hu
  rfl
theorem grown_undrew {w w' : World} {row : Option Nat} (h : w.drew.grownBy w' row) : w.grownBy w' row := ⟨h.os, h.tape, h.output, h.size, h.block⟩
/-! A row that is cut at the front. -/
def cutA (A : Option Addr) (c k : Nat) : Option Addr := if c = k then A else A.map (·.add k)
theorem run_from_int (w : World) (A : Option Addr) (n c k : Nat) (hk : k ≤ n) : (Instr.sliceAt 22 (.slice A n c) (some (.int .i64 (k : Int))) none none).run Tryd.prog w = .ok (.slice (cutA A c k) (n - k) (c - k)) w := by
  rw [run_sliceAt_slice _ _ _ _ _ _ (by kernel_rfl), run_slice_l _ _ _ _ _ (by kernel_rfl) _ _ (by omega) (by omega)]
  have : (sizeOf (Tryd.prog.elem 22)).run Tryd.prog w = .ok 1 w := by kernel_rfl
  rw [this]
  simp [sliced, cutA, Result.andThen]
/-- The slice reads as these cells, in memory of the call's own. -/
def Que (w : World) (base : Nat) (e : TypeId) (A : Option Addr) (n c : Nat) (xs : List Value) : Prop :=
  xs.length = n ∧ n ≤ c ∧ c ≤ 9223372036854775807 ∧ (∀ a, A = some a → base ≤ a.block ∧ a.block < w.heap.size) ∧
  (0 < c → ∃ g off cur, A = some ⟨g, off, none⟩ ∧ w.heap[g]? = some (.cells cur e (0, 0)) ∧ off + c ≤ cur.size ∧ ∀ j u, xs[j]? = some u → cur[off + j]? = some u)
section
variable {w w' : World} {base n c k : Nat} {A : Option Addr} {xs : List Value} {e : TypeId}
theorem Que.le (h : Que w base e A n c xs) : n ≤ c ∧ c ≤ 9223372036854775807 := ⟨h.2.1, h.2.2.1⟩
theorem Que.lt (h : Que w base e A n c xs) : ∀ g, (Value.slice A n c).ownBlock = some g → base ≤ g ∧ g < w.heap.size := by
  intro g hg
  cases A with
  | none => cases hg
  | some a => have := h.2.2.2.1 a rfl; simp [Value.ownBlock] at hg; subst hg; exact this
theorem Que.of_own (h : w.ownsRow base e 1 (.slice A n c) n xs) : Que w base e A n c xs := by
  have hl := h.lt
  have hx := h.1
  rcases h.2 with ⟨hv, hn⟩ | ⟨g, cap, cur, hv, hb, hh, hnc, hm, hs, ht⟩
  · injection hv with h1 h2 h3
    subst h1 h3 hn
    exact ⟨by omega, Nat.le_refl _, by omega, (fun a e => by cases e), fun h => absurd h (by omega)⟩
  · injection hv with h1 h2 h3
    subst h1 h3
    refine ⟨by omega, hnc, by simpa [maxLen] using hm, fun a e => ?_, fun _ => ⟨g, 0, cur, rfl, hh, by omega, fun j u hu => ?_⟩⟩
    · injection e with e; subst e; exact hl g rfl
    · rw [Nat.zero_add]
      have hj : j < n := by have := (List.getElem?_eq_some_iff.1 hu).1; omega
      rw [← ht, List.getElem?_take, if_pos (by omega)] at hu
      simpa using hu
theorem Que.kept (h : Que w base e A n c xs) {row : Option Nat} (hg : w.grownBy w' row) (hne : (Value.slice A n c).ownBlock = none ∨ (Value.slice A n c).ownBlock ≠ row) : Que w' base e A n c xs := by
  obtain ⟨h1, h2, h3, h4, h5⟩ := h
  refine ⟨h1, h2, h3, fun a ha => ⟨(h4 a ha).1, Nat.lt_of_lt_of_le (h4 a ha).2 hg.size⟩, fun hc => ?_⟩
  obtain ⟨g, off, cur, rfl, hh, ho, hx⟩ := h5 hc
  refine ⟨g, off, cur, rfl, (hg.block g (h4 _ rfl).2 (fun e => ?_)).trans hh, ho, hx⟩
  rcases hne with h | h
  · simp [Value.ownBlock] at h
  · exact h e
theorem Que.later (h : Que w base e A n c xs) (hb : Below w.heap.size w w') : Que w' base e A n c xs := h.kept (grown_of_below hb none) (Classical.em _)
theorem Que.alloc (h : Que w base e A n c xs) (o : Obj) : Que (w.alloc o) base e A n c xs := h.later ((Below.refl _ _).alloc (Nat.le_refl _) _)
theorem Que.at (h : Que w base e A n c xs) (hk : k < n) : ∃ g off u, A = some ⟨g, off, none⟩ ∧ xs[k]? = some u ∧ w.cell? ⟨g, off + k, none⟩ = some u := by
  obtain ⟨h1, h2, h3, h4, h5⟩ := h
  obtain ⟨g, off, cur, rfl, hh, ho, hx⟩ := h5 (by omega)
  have e1 : xs[k]? = some (xs[k]'(by omega)) := List.getElem?_eq_getElem (by omega)
  exact ⟨g, off, _, rfl, e1, (cell_of_row w g _ cur e (0, 0) hh).trans (hx k _ e1)⟩
theorem cutA_own (A : Option Addr) (n c n' c' k : Nat) : (Value.slice (cutA A c k) n' c').ownBlock = (Value.slice A n c).ownBlock := by
  unfold cutA
  cases A with
  | none => split <;> rfl
  | some a =>
    split
    · rfl
    · simp [Value.ownBlock, Addr.add]; split <;> rfl
theorem Que.cut (h : Que w base e A n c xs) (hk : k ≤ n) : Que w base e (cutA A c k) (n - k) (c - k) (xs.drop k) := by
  obtain ⟨h1, h2, h3, h4, h5⟩ := h
  refine ⟨by simp; omega, by omega, by omega, fun a ha => ?_, fun hc => ?_⟩
  · cases A with
    | none => unfold cutA at ha; split at ha <;> cases ha
    | some b =>
      have := h4 b rfl
      have hb : a.block = b.block := by
        have := cutA_own (some b) n c n c k
        rw [ha] at this
        simpa [Value.ownBlock] using this
      rw [hb]; exact this
  · obtain ⟨g, off, cur, rfl, hh, ho, hx⟩ := h5 (by omega)
    refine ⟨g, off + k, cur, by unfold cutA; rw [if_neg (by omega), Option.map_some, add_plain], hh, by omega, fun j u hu => ?_⟩
    rw [List.getElem?_drop] at hu
    have := hx (k + j) u hu
    rwa [show off + k + j = off + (k + j) by omega]
end
end Go.Proofs.YtbjndpjligpjaaaDoor
/-
  Memory: slices of locks.
-/
namespace Go.Proofs.YtbjndpjligpjaaaDoor
open Go.RowKit
def Lk.cells (k : Lk) : List Value := [.int .i64 k.dev, .int .i64 k.pos, .int .i64 k.key]
theorem el_lock : ElemI Tryd.prog 23 29 3 24 := ElemI.mk' (z := .agg #[.int .i64 0, .int .i64 0, .int .i64 0]) Tryd.underlying23 (by kernel_rfl) rfl (by decide)
/-- The slice is the call's own row of these locks. -/
def LocksO (w : World) (base : Nat) (A : Option Addr) (n c : Nat) (ls : List Lk) : Prop := w.ownsRow base 29 3 (.slice A n c) n (ls.flatMap Lk.cells)
section
variable {w w' : World} {base n c B : Nat} {A : Option Addr} {ls : List Lk}
theorem LocksO.sl (h : LocksO w base A n c ls) : Sl w w.heap.size 3 A n c (ls.flatMap Lk.cells) := Sl.of_own h
theorem LocksO.len (h : LocksO w base A n c ls) : ls.length = n := (Sl.of_own h).len (fun _ => rfl) (by decide)
theorem LocksO.later (h : LocksO w base A n c ls) (hb : Below w.heap.size w w') : LocksO w' base A n c ls := own_later h hb
theorem locks_one (l : List Lk) : ∀ u ∈ l.flatMap Lk.cells, u.oneCell' = true := by
  intro u hu
  rw [List.mem_flatMap] at hu
  obtain ⟨x, _, hx⟩ := hu
  simp only [Lk.cells, List.mem_cons, List.not_mem_nil, or_false] at hx
  rcases hx with rfl | rfl | rfl <;> rfl
/-- What a lock's three cells hold. -/
theorem Sl.lock {i : Nat} (h : Sl w B 3 A n c (ls.flatMap Lk.cells)) (hi : i < n) : ∃ b off d p q, A = some ⟨b, off, none⟩ ∧ b < B ∧ ls[i]? = some ⟨d, p, q⟩ ∧ w.cell? ⟨b, off + i * 3, none⟩ = some (.int .i64 d) ∧ w.cell? ⟨b, off + i * 3 + 1, none⟩ = some (.int .i64 p) ∧ w.cell? ⟨b, off + i * 3 + 2, none⟩ = some (.int .i64 q) := by
  obtain ⟨b, off, ⟨d, p, q⟩, e, hb, hx, hc⟩ := h.at (fun _ => rfl) (by decide) hi
  exact ⟨b, off, d, p, q, e, hb, hx, hc 0 _ rfl, hc 1 _ rfl, hc 2 _ rfl⟩
end
end Go.Proofs.YtbjndpjligpjaaaDoor
