/-
  'append' of one element to a row that was cut at the front.
-/
import Derived.Test.YtddjifkmaogpiaaDoorOwn
namespace Go.Proofs.YtddjifkmaogpiaaDoor
open Go.RowKit
section
variable {P : Program} {w : World} {t e : TypeId} {bytes base n c : Nat} {A : Option Addr} {xs : List Value}
theorem run_appQ (E : ElemI P t e 1 bytes) (ty : TypeId) (h : Que w base e A n c xs) (hbase : base ≤ w.heap.size) {u : Value} {ad : Addr} {cx : Nat} (hu : w.cell? ad = some u) (h1 : u.oneCell' = true) (hby : (n + 1) * bytes ≤ 140737488355328) (h63 : n + 1 ≤ 9223372036854775807) :
    ∃ A' c' w', (Builtin.append_ #[t, t] ty #[.slice A n c, .slice (some ad) 1 cx]).run P w = .ok (.slice A' (n + 1) c') w' ∧ Que w' base e A' (n + 1) c' (xs ++ [u]) ∧ w.grownBy w' (Value.slice A n c).ownBlock ∧
      ((Value.slice A' (n + 1) c').ownBlock = (Value.slice A n c).ownBlock ∨ (Value.slice A' (n + 1) c').ownBlock = some w.heap.size) := by
  obtain ⟨ht, ⟨i, z, hi, hz, hs, hb, hzc⟩, hp⟩ := E
  obtain ⟨q1, q2, q3, q4, q5⟩ := h
  have hz0 : ad.add 0 = ad := by cases ad with | mk b o s => cases s <;> simp [Addr.add]
  have hsrc : Src P i.size t (.slice (some ad) 1 cx) 1 [u] w := by
    rw [hs]
    refine Src.ofSlice w ht ad 1 cx [u] rfl (fun j v hv => ?_) (by simpa using h1)
    cases j with
    | zero => simp at hv; subst hv; rw [hz0]; exact hu
    | succ j => simp at hv
  by_cases hr : n + 1 ≤ c
  · obtain ⟨g, off, cur, rfl, hh, ho, hx⟩ := q5 (by omega)
    have hcell : ∀ k, w.cell? ⟨g, k, none⟩ = cur[k]? := fun k => cell_of_row w g k cur e (0, 0) hh
    have hrun := run_append_room_src w t t ty e i ht hi g off n c _ 1 [u] hsrc hr (fun j hj => by
      simp at hj; subst hj
      rw [hcell, hs]; simp; omega) (fun j hj => frozen_of_row w g _ cur e hh)
    rw [hs] at hrun
    simp only [Nat.mul_one, World.setCells] at hrun
    refine ⟨_, c, _, hrun, ⟨by simp [q1], hr, q3, fun a ha => ?_, fun _ => ⟨g, off, cur.setIfInBounds (off + n) u, rfl, heap_setCell_same w g _ cur e u hh, by simpa using ho, fun j v hv => ?_⟩⟩, grown_cell w _ _, .inl rfl⟩
    · have := q4 a ha
      simpa [World.setCell] using this
    · rcases Nat.lt_or_ge j n with hj | hj
      · rw [List.getElem?_append_left (by omega)] at hv
        rw [Array.getElem?_setIfInBounds, if_neg (by omega)]
        exact hx j v hv
      · have hj' : j = n := by
          have := (List.getElem?_eq_some_iff.1 hv).1
          simp at this; omega
        subst hj'
        rw [← q1] at hv
        simp at hv
        subst hv
        rw [Array.getElem?_setIfInBounds, if_pos rfl, if_pos (by omega)]
  · have hold : (Builtin.firstCells i.size n (.slice A n c)).run P w.drew = .ok xs.toArray w.drew := by
      rw [hs]
      rcases Nat.eq_zero_or_pos c with h0 | h0
      · have hn0 : n = 0 := by omega
        subst hn0
        have hx0 : xs = [] := List.eq_nil_of_length_eq_zero q1
        subst hx0
        cases A with
        | none => exact run_firstCells_none _ _ _ _ _
        | some a => exact run_firstCells_some _ _ _ a _ _ [] rfl (fun j v hv => by simp at hv)
      · obtain ⟨g, off, cur, rfl, hh, ho, hx⟩ := q5 h0
        refine run_firstCells_some _ _ _ _ _ _ xs (by omega) (fun j v hv => ?_)
        rw [add_plain]
        exact (cell_of_row w g _ cur e (0, 0) hh).trans (hx j v hv)
    have hcap := nextslicecap_le (need := n + 1) (old := c) (by omega)
    have hfit : Builtin.nextslicecap (n + 1) c * i.bytes ≤ 281474976710656 := by
      rw [hb]
      calc Builtin.nextslicecap (n + 1) c * bytes ≤ (2 * (n + 1)) * bytes := Nat.mul_le_mul_right _ hcap
        _ ≤ 281474976710656 := by rw [Nat.mul_assoc]; omega
    have hrun := run_append_grow_src w t t ty e i z ht hi hz A n c xs hold _ 1 [u] hsrc (by omega) (by omega) hfit
    have hge := grownCap_ge w (n + 1) c e
    have hle := grownCap_le_maxLen w (n + 1) c e (by simpa [maxLen] using h63)
    refine ⟨_, _, _, hrun, ⟨by simp [q1], hge, by simpa [maxLen] using hle, fun a ha => ?_, fun _ => ⟨w.heap.size, 0, _, rfl, heap_alloc_new w.drew _, ?_, fun j v hv => ?_⟩⟩, ?_, .inr rfl⟩
    · injection ha with ha
      subst ha
      exact ⟨hbase, by simp⟩
    · have hzs : (Builtin.zeroCells z.cells (grownCap w (n + 1) c e - (n + 1))).size = grownCap w (n + 1) c e - (n + 1) := by
        rw [size_zeroCells, hzc]; omega
      simp [q1, hzs]; omega
    · rw [Nat.zero_add, Array.getElem?_append_left (by have := (List.getElem?_eq_some_iff.1 hv).1; simpa using this)]
      simpa using hv
    · exact ⟨rfl, rfl, rfl, by simp, fun k hk _ => Below.heap_alloc w.drew _ k hk⟩
variable {o : Oper} {a : Act}
theorem wpList_appQ {ops : Array Oper} {rest : List Oper} {Q : Exit → Act → World → Prop} (hgd : o.guard = none) (s x : Operand) (ho : o.op = .call { callee := .builtin .append, args := #[s, x], argTypes := #[t, t] })
    (E : ElemI P t e 1 bytes) (hs : a.eval s = .slice A n c) (h : Que w base e A n c xs) (hbase : base ≤ w.heap.size) {u : Value} {ad : Addr} {cx : Nat} (hx : a.eval x = .slice (some ad) 1 cx) (hu : w.cell? ad = some u) (h1 : u.oneCell' = true) (hby : (n + 1) * bytes ≤ 140737488355328) (h63 : n + 1 ≤ 9223372036854775807)
    (hK : ∀ A' c' w', Que w' base e A' (n + 1) c' (xs ++ [u]) → w.grownBy w' (Value.slice A n c).ownBlock → ((Value.slice A' (n + 1) c').ownBlock = (Value.slice A n c).ownBlock ∨ (Value.slice A' (n + 1) c').ownBlock = some w.heap.size) → wpList P ops Q rest (a.put o.dst (.slice A' (n + 1) c')) w') : wpList P ops Q (o :: rest) a w := by
  refine wpList_plain hgd fun K hK' => ?_
  obtain ⟨A', c', w', hr, h2, h3, h4⟩ := run_appQ E o.type h hbase (cx := cx) hu h1 hby h63
  unfold Oper.wp execOp
  simp only [ho, resolve, invoke, builtin, Sem.run_bind, Sem.run_pure, Result.andThen_ok, List.map_toArray, List.map_cons, List.map_nil, hs, hx, hr]
  exact hK' _ _ (hK A' c' w' h2 h3 h4)
end
end Go.Proofs.YtddjifkmaogpiaaDoor
