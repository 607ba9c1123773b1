import Derived.Test.YtepicjpdhpojnaaGreatDoorS10
import Derived.Test.YtepicjpdhpojnaaGreatDoorS03
namespace Go.Proofs.YtepicjpdhpojnaaGreatDoor
inductive Rch (ds : List Dv) (U : Nat → Bool) (S : Int → Bool) (src : List Int) : Int → Prop
 | base {v : Int} : v ∈ src → Rch ds U S src v
 | step {u : Int} {i : Nat} {x : Dv} : Rch ds U S src u → S u = false → ds[i]? = some x → U i = true → 0 ≤ acrB x u → Rch ds U S src (acrB x u)
def marked (out : List Bool) (v : Int) : Prop := 0 ≤ v ∧ out[v.toNat]? = some true
def EndsOk (nn : Nat) (ds : List Dv) : Prop := ∀ x ∈ ds, joinsB x.kind = true → (0 ≤ x.a ∧ x.a < nn) ∧ (0 ≤ x.b ∧ x.b < nn)
def countF (out : List Bool) : Nat := (out.filter (fun b => !b)).length
theorem acr_lt {nn : Nat} {ds : List Dv} (h : EndsOk nn ds) {i : Nat} {x : Dv} (hx : ds[i]? = some x) (v : Int) (h0 : 0 ≤ acrB x v) : acrB x v < nn := by
 have hm := h x (List.mem_of_getElem? hx)
 unfold acrB at h0 ⊢
 split at h0
 ·omega
 ·rename_i hj
  have := hm (by simpa using hj)
  rw [if_neg hj]
  split
  ·omega
  ·split
   ·omega
   ·rename_i h1 h2; rw [if_neg h1, if_neg h2] at h0; omega
theorem marked_set {out : List Bool} {k : Nat} (hk : k < out.length) (v : Int) : marked (out.set k true) v ↔ v = k ∨ marked out v := by
 unfold marked
 rw [List.getElem?_set]
 constructor
 ·rintro ⟨h0, h1⟩
  split at h1
  ·left; omega
  ·exact .inr ⟨h0, h1⟩
 ·rintro (rfl | ⟨h0, h1⟩)
  ·exact ⟨by omega, by simp [hk]⟩
  ·refine ⟨h0, ?_⟩
   split
   ·simp
   ·exact h1
theorem countF_set : ∀ {out : List Bool} {k : Nat}, out[k]? = some false → countF (out.set k true) + 1 = countF out
 | [], k, h => by simp at h
 | b :: out, 0, h => by simp at h; subst h; simp [countF]
 | b :: out, k + 1, h => by
  simp at h
  have := countF_set h
  unfold countF at *
  rw [List.set_cons_succ, List.filter_cons, List.filter_cons]
  split <;> simp_all
theorem marked_rep (n : Nat) (v : Int) : ¬ marked (List.replicate n false) v := by
 rintro ⟨_, h⟩
 rw [List.getElem?_replicate] at h
 split at h <;> simp at h
structure BInv (ds : List Dv) (U : Nat → Bool) (S : Int → Bool) (src : List Int) (out : List Bool) (wait : List Int) : Prop where
 sound : ∀ v, marked out v → Rch ds U S src v
 waits : ∀ v ∈ wait, marked out v
 srcs : ∀ v ∈ src, marked out v
 done : ∀ u, marked out u → u ∉ wait → S u = false → ∀ i x, ds[i]? = some x → U i = true → 0 ≤ acrB x u → marked out (acrB x u)
structure IInv (ds : List Dv) (U : Nat → Bool) (S : Int → Bool) (src : List Int) (v : Int) (j : Nat) (out : List Bool) (wait : List Int) : Prop where
 sound : ∀ v, marked out v → Rch ds U S src v
 waits : ∀ v ∈ wait, marked out v
 srcs : ∀ v ∈ src, marked out v
 done : ∀ u, marked out u → u ∉ wait → S u = false → ∀ i x, ds[i]? = some x → U i = true → 0 ≤ acrB x u → marked out (acrB x u)
 head : wait.head? = some v
 here : ∀ i x, i < j → ds[i]? = some x → U i = true → 0 ≤ acrB x v → marked out (acrB x v)
section
variable {ds : List Dv} {U : Nat → Bool} {S : Int → Bool} {src wait : List Int} {out : List Bool} {v : Int} {j : Nat}
theorem BInv.start (h : ∀ v, marked out v ↔ v ∈ src) : BInv ds U S src out src :=
 ⟨fun v hv => .base ((h v).1 hv), fun v hv => (h v).2 hv, fun v hv => (h v).2 hv, fun u hu hn => absurd ((h u).1 hu) hn⟩
theorem BInv.enter (h : BInv ds U S src out wait) (hv : wait.head? = some v) : IInv ds U S src v 0 out wait :=
 ⟨h.sound, h.waits, h.srcs, h.done, hv, fun i x hi => absurd hi (by omega)⟩
theorem BInv.stop (h : BInv ds U S src out (v :: wait)) (hs : S v = true) : BInv ds U S src out wait :=
 ⟨h.sound, fun u hu => h.waits u (List.mem_cons_of_mem _ hu), h.srcs, fun u hu hn hsu i x hx hU h0 => by
  refine h.done u hu (fun hm => ?_) hsu i x hx hU h0
  rcases List.mem_cons.1 hm with rfl | hm
  ·rw [hs] at hsu; cases hsu
  ·exact hn hm⟩
theorem IInv.leave (h : IInv ds U S src v j out (v :: wait)) (hj : ds.length ≤ j) : BInv ds U S src out wait :=
 ⟨h.sound, fun u hu => h.waits u (List.mem_cons_of_mem _ hu), h.srcs, fun u hu hn hsu i x hx hU h0 => by
  by_cases huv : u = v
  ·subst huv
   exact h.here i x (Nat.lt_of_lt_of_le (List.getElem?_eq_some_iff.1 hx).1 hj) hx hU h0
  ·refine h.done u hu (fun hm => ?_) hsu i x hx hU h0
   rcases List.mem_cons.1 hm with e | hm
   ·exact huv e
   ·exact hn hm⟩
theorem IInv.pass (h : IInv ds U S src v j out wait) {x : Dv} (hx : ds[j]? = some x) (hp : U j = true → 0 ≤ acrB x v → marked out (acrB x v)) : IInv ds U S src v (j + 1) out wait :=
 ⟨h.sound, h.waits, h.srcs, h.done, h.head, fun i y hi hy hU h0 => by
  rcases Nat.lt_succ_iff_lt_or_eq.1 hi with hi | rfl
  ·exact h.here i y hi hy hU h0
  ·obtain rfl : y = x := Option.some.inj (hy.symm.trans hx)
   exact hp hU h0⟩
theorem IInv.push (h : IInv ds U S src v j out wait) {x : Dv} (hx : ds[j]? = some x) {k : Nat} (hk : acrB x v = k) (hkl : k < out.length) (hU : U j = true) (hS : S v = false) : IInv ds U S src v (j + 1) (out.set k true) (wait ++ [(k : Int)]) := by
 have hv : marked out v := h.waits v (List.mem_of_mem_head? h.head)
 have hm := fun u => marked_set (out := out) hkl u
 refine ⟨fun u hu => ?_, fun u hu => ?_, fun u hu => (hm u).2 (.inr (h.srcs u hu)), fun u hu hn hsu i y hy hUi h0 => ?_, ?_, fun i y hi hy hUi h0 => ?_⟩
 ·rcases (hm u).1 hu with rfl | hu
  ·rw [← hk]; exact .step (h.sound v hv) hS hx hU (by omega)
  ·exact h.sound u hu
 ·rcases List.mem_append.1 hu with hu | hu
  ·exact (hm u).2 (.inr (h.waits u hu))
  ·exact (hm u).2 (.inl (List.mem_singleton.1 hu))
 ·rcases (hm u).1 hu with rfl | hu
  ·exact absurd (List.mem_append_right _ (List.mem_singleton.2 rfl)) hn
  ·exact (hm _).2 (.inr (h.done u hu (fun hw => hn (List.mem_append_left _ hw)) hsu i y hy hUi h0))
 ·have := h.head
  cases wait with
  | nil => simp at this
  | cons a l => simpa using this
 ·rcases Nat.lt_succ_iff_lt_or_eq.1 hi with hi | rfl
  ·exact (hm _).2 (.inr (h.here i y hi hy hUi h0))
  ·obtain rfl : y = x := Option.some.inj (hy.symm.trans hx)
   exact (hm _).2 (.inl hk)
theorem BInv.final (h : BInv ds U S src out []) : ∀ v, marked out v ↔ Rch ds U S src v := by
 intro v
 refine ⟨h.sound v, fun hr => ?_⟩
 induction hr with
 | base hv => exact h.srcs _ hv
 | step _ hs hx hU h0 ih => exact h.done _ ih (by simp) hs _ _ hx hU h0
end
end Go.Proofs.YtepicjpdhpojnaaGreatDoor
namespace Go.Proofs.YtepicjpdhpojnaaGreatDoor
open Go.RowKit
section
variable {P : Program} {w : World} {t e : TypeId} {bytes base n c : Nat} {A : Option Addr} {xs : List Value}
theorem run_appQ (E : ElemI P t e 1 bytes) (ty : TypeId) (h : Que w base e A n c xs) (hbase : base ≤ w.heap.size) {u : Value} {ad : Addr} {cx : Nat} (hu : w.cell? ad = some u) (h1 : u.oneCell' = true) (hby : (n + 1) * bytes ≤ 140737488355328) (h63 : n + 1 ≤ 9223372036854775807) :
 ∃ A' c' w', (Builtin.append_ #[t, t] ty #[.slice A n c, .slice (some ad) 1 cx]).run P w = .ok (.slice A' (n + 1) c') w' ∧ Que w' base e A' (n + 1) c' (xs ++ [u]) ∧ w.grownBy w' (Value.slice A n c).ownBlock ∧
  ((Value.slice A' (n + 1) c').ownBlock = (Value.slice A n c).ownBlock ∨ (Value.slice A' (n + 1) c').ownBlock = some w.heap.size) := by
 obtain ⟨ht, ⟨i, z, hi, hz, hs, hb, hzc⟩, hp⟩ := E
 obtain ⟨q1, q2, q3, q4, q5⟩ := h
 have hz0 : ad.add 0 = ad := by cases ad with | mk b o s => cases s <;> simp [Addr.add]
 have hsrc : Src P i.size t (.slice (some ad) 1 cx) 1 [u] w := by
  rw [hs]
  refine Src.ofSlice w ht ad 1 cx [u] rfl (fun j v hv => ?_) (by simpa using h1)
  cases j with
  | zero => simp at hv; subst hv; rw [hz0]; exact hu
  | succ j => simp at hv
 by_cases hr : n + 1 ≤ c
 ·obtain ⟨g, off, cur, rfl, hh, ho, hx⟩ := q5 (by omega)
  have hcell : ∀ k, w.cell? ⟨g, k, none⟩ = cur[k]? := fun k => cell_of_row w g k cur e (0, 0) hh
  have hrun := run_append_room_src w t t ty e i ht hi g off n c _ 1 [u] hsrc hr (fun j hj => by
   simp at hj; subst hj
   rw [hcell, hs]; simp; omega) (fun j hj => frozen_of_row w g _ cur e hh)
  rw [hs] at hrun
  simp only [Nat.mul_one, World.setCells] at hrun
  refine ⟨_, c, _, hrun, ⟨by simp [q1], hr, q3, fun a ha => ?_, fun _ => ⟨g, off, cur.setIfInBounds (off + n) u, rfl, heap_setCell_same w g _ cur e u hh, by simpa using ho, fun j v hv => ?_⟩⟩, grown_cell w _ _, .inl rfl⟩
  ·have := q4 a ha
   simpa [World.setCell] using this
  ·rcases Nat.lt_or_ge j n with hj | hj
   ·rw [List.getElem?_append_left (by omega)] at hv
    rw [Array.getElem?_setIfInBounds, if_neg (by omega)]
    exact hx j v hv
   ·have hj' : j = n := by
     have := (List.getElem?_eq_some_iff.1 hv).1
     simp at this; omega
    subst hj'
    rw [← q1] at hv
    simp at hv
    subst hv
    rw [Array.getElem?_setIfInBounds, if_pos rfl, if_pos (by omega)]
 ·have hold : (Builtin.firstCells i.size n (.slice A n c)).run P w.drew = .ok xs.toArray w.drew := by
   rw [hs]
   rcases Nat.eq_zero_or_pos c with h0 | h0
   ·have hn0 : n = 0 := by omega
    subst hn0
    have hx0 : xs = [] := List.eq_nil_of_length_eq_zero q1
    subst hx0
    cases A with
    | none => exact run_firstCells_none _ _ _ _ _
    | some a => exact run_firstCells_some _ _ _ a _ _ [] rfl (fun j v hv => by simp at hv)
   ·obtain ⟨g, off, cur, rfl, hh, ho, hx⟩ := q5 h0
    refine run_firstCells_some _ _ _ _ _ _ xs (by omega) (fun j v hv => ?_)
    rw [add_plain]
    exact (cell_of_row w g _ cur e (0, 0) hh).trans (hx j v hv)
  have hcap := nextslicecap_le (need := n + 1) (old := c) (by omega)
  have hfit : Builtin.nextslicecap (n + 1) c * i.bytes ≤ 281474976710656 := by
   rw [hb]
   calc Builtin.nextslicecap (n + 1) c * bytes ≤ (2 * (n + 1)) * bytes := Nat.mul_le_mul_right _ hcap
    _ ≤ 281474976710656 := by rw [Nat.mul_assoc]; omega
  have hrun := run_append_grow_src w t t ty e i z ht hi hz A n c xs hold _ 1 [u] hsrc (by omega) (by omega) hfit
  have hge := grownCap_ge w (n + 1) c e
  have hle := grownCap_le_maxLen w (n + 1) c e (by simpa [maxLen] using h63)
  refine ⟨_, _, _, hrun, ⟨by simp [q1], hge, by simpa [maxLen] using hle, fun a ha => ?_, fun _ => ⟨w.heap.size, 0, _, rfl, heap_alloc_new w.drew _, ?_, fun j v hv => ?_⟩⟩, ?_, .inr rfl⟩
  ·injection ha with ha
   subst ha
   exact ⟨hbase, by simp⟩
  ·have hzs : (Builtin.zeroCells z.cells (grownCap w (n + 1) c e - (n + 1))).size = grownCap w (n + 1) c e - (n + 1) := by
    rw [size_zeroCells, hzc]; omega
   simp [q1, hzs]; omega
  ·rw [Nat.zero_add, Array.getElem?_append_left (by have := (List.getElem?_eq_some_iff.1 hv).1; simpa using this)]
   simpa using hv
  ·exact ⟨rfl, rfl, rfl, by simp, fun k hk _ => Below.heap_alloc w.drew _ k hk⟩
variable {o : Oper} {a : Act}
theorem wpList_appQ {ops : Array Oper} {rest : List Oper} {Q : Exit → Act → World → Prop} (hgd : o.guard = none) (s x : Operand) (ho : o.op = .call { callee := .builtin .append, args := #[s, x], argTypes := #[t, t] })
 (E : ElemI P t e 1 bytes) (hs : a.eval s = .slice A n c) (h : Que w base e A n c xs) (hbase : base ≤ w.heap.size) {u : Value} {ad : Addr} {cx : Nat} (hx : a.eval x = .slice (some ad) 1 cx) (hu : w.cell? ad = some u) (h1 : u.oneCell' = true) (hby : (n + 1) * bytes ≤ 140737488355328) (h63 : n + 1 ≤ 9223372036854775807)
 (hK : ∀ A' c' w', Que w' base e A' (n + 1) c' (xs ++ [u]) → w.grownBy w' (Value.slice A n c).ownBlock → ((Value.slice A' (n + 1) c').ownBlock = (Value.slice A n c).ownBlock ∨ (Value.slice A' (n + 1) c').ownBlock = some w.heap.size) → wpList P ops Q rest (a.put o.dst (.slice A' (n + 1) c')) w') : wpList P ops Q (o :: rest) a w := by
 refine wpList_plain hgd fun K hK' => ?_
 obtain ⟨A', c', w', hr, h2, h3, h4⟩ := run_appQ E o.type h hbase (cx := cx) hu h1 hby h63
 unfold Oper.wp execOp
 simp only [ho, resolve, invoke, builtin, Sem.run_bind, Sem.run_pure, Result.andThen_ok, List.map_toArray, List.map_cons, List.map_nil, hs, hx, hr]
 exact hK' _ _ (hK A' c' w' h2 h3 h4)
end
end Go.Proofs.YtepicjpdhpojnaaGreatDoor
namespace Go.Proofs.YtepicjpdhpojnaaGreatDoor
open Go.RowKit
def boolsV (l : List Bool) : List Value := l.flatMap fun x => [Value.bool x]
theorem boolsV_map (l : List Bool) : boolsV l = l.map Value.bool := flat1_map _ _
theorem boolsV_set (l : List Bool) (i : Nat) (x : Bool) : (boolsV l).set i (.bool x) = boolsV (l.set i x) := by rw [boolsV_map, boolsV_map, List.map_set]
theorem boolsV_replicate (n : Nat) (x : Bool) : List.replicate n (Value.bool x) = boolsV (List.replicate n x) := by rw [boolsV_map, List.map_replicate]
theorem boolsV_len (l : List Bool) : (boolsV l).length = l.length := by rw [boolsV_map, List.length_map]
def BoolsO (w : World) (base : Nat) (A : Option Addr) (n c : Nat) (l : List Bool) : Prop := w.ownsRow base 4 1 (.slice A n c) n (boolsV l)
section
variable {w w' : World} {base n c i : Nat} {A : Option Addr} {m : List Bool}
theorem BoolsO.len (h : BoolsO w base A n c m) : m.length = n := by have := h.1; rw [boolsV_len] at this; omega
theorem BoolsO.sl (h : BoolsO w base A n c m) : Sl w w.heap.size 1 A n c (boolsV m) := Sl.of_own h
theorem BoolsO.at (h : BoolsO w base A n c m) (hi : i < n) : ∃ g x, A = some ⟨g, 0, none⟩ ∧ base ≤ g ∧ g < w.heap.size ∧ m[i]? = some x ∧ w.cell? ⟨g, i, none⟩ = some (.bool x) ∧ w.frozen? ⟨g, i, none⟩ = false ∧ ∀ y, BoolsO (w.setCell ⟨g, i, none⟩ (.bool y)) base A n c (m.set i y) := by
 obtain ⟨g, rfl, h1, h2⟩ := own_some h (by omega)
 have hl := h.len
 refine ⟨g, m[i]'(by omega), rfl, h1, h2, List.getElem?_eq_getElem _, ?_, h.frozenAt i, fun y => ?_⟩
 ·rw [h.cellAt i (by omega), boolsV_map, List.getElem?_map, List.getElem?_eq_getElem (by omega)]; rfl
 ·have := (h.stored i (.bool y)).1
  rwa [boolsV_set] at this
theorem BoolsO.later (h : BoolsO w base A n c m) (hb : Below w.heap.size w w') : BoolsO w' base A n c m := own_later h hb
end
theorem run_mk_bool (n : Nat) (hn : n ≤ 1000000) (w : World) : (Instr.makeSlice 71 (.int .i64 (n : Int)) (.int .i64 (n : Int))).run Tryz.prog w = .ok (.slice (some ⟨w.heap.size, 0, none⟩) n n) (w.alloc (.cells (boolsV (List.replicate n false)).toArray 4)) := by
 rw [run_make_row' 71 4 (.bool false) 1 Tryz.underlying71 (by kernel_rfl) rfl .i64 .i64 n (by omega) (by omega) w]
 congr 3
 apply Array.ext'
 rw [toList_madeCells_one, boolsV_replicate]
theorem bools_new {w : World} {base n : Nat} (hb : base ≤ w.heap.size) (hn : n ≤ 1000000) : BoolsO (w.alloc (.cells (boolsV (List.replicate n false)).toArray 4)) base (some ⟨w.heap.size, 0, none⟩) n n (List.replicate n false) := own_new hb (by omega) (by rw [boolsV_len, List.length_replicate])
end Go.Proofs.YtepicjpdhpojnaaGreatDoor
