import Derived.Test.YtkkobemhbicjgaaGreatDoorE02
import Derived.Deep.RegionHeld
import Derived.StillTail
import Derived.Deep.QuietTactic
import Derived.BigQuiet
import Derived.Laws.Pointers
set_option maxRecDepth 100000
set_option maxHeartbeats 1000000
namespace Go.Proofs.YtkkobemhbicjgaaGreatDoor
section
inductive Rch (ds : List Dv) (U : Nat → Bool) (S : Int → Bool) (src : List Int) : Int → Prop
 | base {v : Int} : v ∈ src → Rch ds U S src v
 | step {u : Int} {i : Nat} {x : Dv} : Rch ds U S src u → S u = false → ds[i]? = some x → U i = true → 0 ≤ xJ x u → Rch ds U S src (xJ x u)
def yU (out : List Bool) (v : Int) : Prop := 0 ≤ v ∧ out[v.toNat]? = some true
def yo (nn : Nat) (ds : List Dv) : Prop := ∀ x ∈ ds, zc x.kind = true → (0 ≤ x.a ∧ x.a < nn) ∧ (0 ≤ x.b ∧ x.b < nn)
def xU (out : List Bool) : Nat := (out.filter (fun b => !b)).length
theorem jn {nn : Nat} {ds : List Dv} (h : yo nn ds) {i : Nat} {x : Dv} (hx : ds[i]? = some x) (v : Int) (h0 : 0 ≤ xJ x v) : xJ x v < nn := by
 have hm := h x (List.mem_of_getElem? hx)
 unfold xJ at h0 ⊢
 split at h0
 ·omega
 ·rename_i hj
  have := hm (by simpa using hj)
  rw [if_neg hj]
  split
  ·omega
  ·split
   ·omega
   ·rename_i h1 h2; rw [if_neg h1, if_neg h2] at h0; omega
theorem sO {out : List Bool} {k : Nat} (hk : k < out.length) (v : Int) : yU (out.set k true) v ↔ v = k ∨ yU out v := by
 unfold yU
 rw [List.getElem?_set]
 constructor
 ·rintro ⟨h0, h1⟩
  split at h1
  ·left; omega
  ·exact .inr ⟨h0, h1⟩
 ·rintro (rfl | ⟨h0, h1⟩)
  ·exact ⟨by omega, by simp [hk]⟩
  ·refine ⟨h0, ?_⟩
   split
   ·simp
   ·exact h1
theorem sZ : ∀ {out : List Bool} {k : Nat}, out[k]? = some false → xU (out.set k true) + 1 = xU out
 | [], k, h => by simp at h
 | b :: out, 0, h => by simp at h; subst h; simp [xU]
 | b :: out, k + 1, h => by
  simp at h
  have := sZ h
  unfold xU at *
  rw [List.set_cons_succ, List.filter_cons, List.filter_cons]
  split <;> simp_all
theorem nD (n : Nat) (v : Int) : ¬ yU (List.replicate n false) v := by
 rintro ⟨_, h⟩
 rw [List.getElem?_replicate] at h
 split at h <;> simp at h
structure tM (ds : List Dv) (U : Nat → Bool) (S : Int → Bool) (src : List Int) (out : List Bool) (wait : List Int) : Prop where
 sound : ∀ v, yU out v → Rch ds U S src v
 waits : ∀ v ∈ wait, yU out v
 srcs : ∀ v ∈ src, yU out v
 done : ∀ u, yU out u → u ∉ wait → S u = false → ∀ i x, ds[i]? = some x → U i = true → 0 ≤ xJ x u → yU out (xJ x u)
structure rK (ds : List Dv) (U : Nat → Bool) (S : Int → Bool) (src : List Int) (v : Int) (j : Nat) (out : List Bool) (wait : List Int) : Prop where
 sound : ∀ v, yU out v → Rch ds U S src v
 waits : ∀ v ∈ wait, yU out v
 srcs : ∀ v ∈ src, yU out v
 done : ∀ u, yU out u → u ∉ wait → S u = false → ∀ i x, ds[i]? = some x → U i = true → 0 ≤ xJ x u → yU out (xJ x u)
 head : wait.head? = some v
 here : ∀ i x, i < j → ds[i]? = some x → U i = true → 0 ≤ xJ x v → yU out (xJ x v)
section
variable {ds : List Dv} {U : Nat → Bool} {S : Int → Bool} {src wait : List Int} {out : List Bool} {v : Int} {j : Nat}
theorem tM.start (h : ∀ v, yU out v ↔ v ∈ src) : tM ds U S src out src :=
 ⟨fun v hv => .base ((h v).1 hv), fun v hv => (h v).2 hv, fun v hv => (h v).2 hv, fun u hu hn => absurd ((h u).1 hu) hn⟩
theorem tM.enter (h : tM ds U S src out wait) (hv : wait.head? = some v) : rK ds U S src v 0 out wait :=
 ⟨h.sound, h.waits, h.srcs, h.done, hv, fun i x hi => absurd hi (by omega)⟩
theorem tM.stop (h : tM ds U S src out (v :: wait)) (hs : S v = true) : tM ds U S src out wait :=
 ⟨h.sound, fun u hu => h.waits u (List.mem_cons_of_mem _ hu), h.srcs, fun u hu hn hsu i x hx hU h0 => by
  refine h.done u hu (fun hm => ?_) hsu i x hx hU h0
  rcases List.mem_cons.1 hm with rfl | hm
  ·rw [hs] at hsu; cases hsu
  ·exact hn hm⟩
theorem rK.leave (h : rK ds U S src v j out (v :: wait)) (hj : ds.length ≤ j) : tM ds U S src out wait :=
 ⟨h.sound, fun u hu => h.waits u (List.mem_cons_of_mem _ hu), h.srcs, fun u hu hn hsu i x hx hU h0 => by
  by_cases huv : u = v
  ·subst huv
   exact h.here i x (Nat.lt_of_lt_of_le (List.getElem?_eq_some_iff.1 hx).1 hj) hx hU h0
  ·refine h.done u hu (fun hm => ?_) hsu i x hx hU h0
   rcases List.mem_cons.1 hm with e | hm
   ·exact huv e
   ·exact hn hm⟩
theorem rK.pass (h : rK ds U S src v j out wait) {x : Dv} (hx : ds[j]? = some x) (hp : U j = true → 0 ≤ xJ x v → yU out (xJ x v)) : rK ds U S src v (j + 1) out wait :=
 ⟨h.sound, h.waits, h.srcs, h.done, h.head, fun i y hi hy hU h0 => by
  rcases Nat.lt_succ_iff_lt_or_eq.1 hi with hi | rfl
  ·exact h.here i y hi hy hU h0
  ·obtain rfl : y = x := Option.some.inj (hy.symm.trans hx)
   exact hp hU h0⟩
theorem rK.push (h : rK ds U S src v j out wait) {x : Dv} (hx : ds[j]? = some x) {k : Nat} (hk : xJ x v = k) (hkl : k < out.length) (hU : U j = true) (hS : S v = false) : rK ds U S src v (j + 1) (out.set k true) (wait ++ [(k : Int)]) := by
 have hv : yU out v := h.waits v (List.mem_of_mem_head? h.head)
 have hm := fun u => sO (out := out) hkl u
 refine ⟨fun u hu => ?_, fun u hu => ?_, fun u hu => (hm u).2 (.inr (h.srcs u hu)), fun u hu hn hsu i y hy hUi h0 => ?_, ?_, fun i y hi hy hUi h0 => ?_⟩
 ·rcases (hm u).1 hu with rfl | hu
  ·rw [← hk]; exact .step (h.sound v hv) hS hx hU (by omega)
  ·exact h.sound u hu
 ·rcases List.mem_append.1 hu with hu | hu
  ·exact (hm u).2 (.inr (h.waits u hu))
  ·exact (hm u).2 (.inl (List.mem_singleton.1 hu))
 ·rcases (hm u).1 hu with rfl | hu
  ·exact absurd (List.mem_append_right _ (List.mem_singleton.2 rfl)) hn
  ·exact (hm _).2 (.inr (h.done u hu (fun hw => hn (List.mem_append_left _ hw)) hsu i y hy hUi h0))
 ·have := h.head
  cases wait with
  | nil => simp at this
  | cons a l => simpa using this
 ·rcases Nat.lt_succ_iff_lt_or_eq.1 hi with hi | rfl
  ·exact (hm _).2 (.inr (h.here i y hi hy hUi h0))
  ·obtain rfl : y = x := Option.some.inj (hy.symm.trans hx)
   exact (hm _).2 (.inl hk)
theorem tM.final (h : tM ds U S src out []) : ∀ v, yU out v ↔ Rch ds U S src v := by
 intro v
 refine ⟨h.sound v, fun hr => ?_⟩
 induction hr with
 | base hv => exact h.srcs _ hv
 | step _ hs hx hU h0 ih => exact h.done _ ih (by simp) hs _ _ hx hU h0
end
end
section
open Go.RowKit
section
variable {P : Program} {w : World} {t e : TypeId} {bytes base n c : Nat} {A : Option Addr} {xs : List Value}
theorem kT (E : yg P t e 1 bytes) (ty : TypeId) (h : Que w base e A n c xs) (hbase : base ≤ w.heap.size) {u : Value} {ad : Addr} {cx : Nat} (hu : w.cell? ad = some u) (h1 : u.oneCell' = true) (hby : (n + 1) * bytes ≤ 140737488355328) (h63 : n + 1 ≤ 9223372036854775807) :
 ∃ A' c' w', (Builtin.append_ #[t, t] ty #[.slice A n c, .slice (some ad) 1 cx]).run P w = .ok (.slice A' (n + 1) c') w' ∧ Que w' base e A' (n + 1) c' (xs ++ [u]) ∧ w.grownBy w' (Value.slice A n c).ownBlock ∧
  ((Value.slice A' (n + 1) c').ownBlock = (Value.slice A n c).ownBlock ∨ (Value.slice A' (n + 1) c').ownBlock = some w.heap.size) := by
 obtain ⟨ht, ⟨i, z, hi, hz, hs, hb, hzc⟩, hp⟩ := E
 obtain ⟨q1, q2, q3, q4, q5⟩ := h
 have hz0 : ad.add 0 = ad := by cases ad with | mk b o s => cases s <;> simp [Addr.add]
 have hsrc : Src P i.size t (.slice (some ad) 1 cx) 1 [u] w := by
  rw [hs]
  refine Src.ofSlice w ht ad 1 cx [u] rfl (fun j v hv => ?_) (by simpa using h1)
  cases j with
  | zero => simp at hv; subst hv; rw [hz0]; exact hu
  | succ j => simp at hv
 by_cases hr : n + 1 ≤ c
 ·obtain ⟨g, off, cur, rfl, hh, ho, hx⟩ := q5 (by omega)
  have hcell : ∀ k, w.cell? ⟨g, k, none⟩ = cur[k]? := fun k => cell_of_row w g k cur e (0, 0) hh
  have hrun := run_append_room_src w t t ty e i ht hi g off n c _ 1 [u] hsrc hr (fun j hj => by
   simp at hj; subst hj
   rw [hcell, hs]; simp; omega) (fun j hj => frozen_of_row w g _ cur e hh)
  rw [hs] at hrun
  simp only [Nat.mul_one, World.setCells] at hrun
  refine ⟨_, c, _, hrun, ⟨by simp [q1], hr, q3, fun a ha => ?_, fun _ => ⟨g, off, cur.setIfInBounds (off + n) u, rfl, heap_setCell_same w g _ cur e u hh, by simpa using ho, fun j v hv => ?_⟩⟩, ze w _ _, .inl rfl⟩
  ·have := q4 a ha
   simpa [World.setCell] using this
  ·rcases Nat.lt_or_ge j n with hj | hj
   ·rw [List.getElem?_append_left (by omega)] at hv
    rw [Array.getElem?_setIfInBounds, if_neg (by omega)]
    exact hx j v hv
   ·have hj' : j = n := by
     have := (List.getElem?_eq_some_iff.1 hv).1
     simp at this; omega
    subst hj'
    rw [← q1] at hv
    simp at hv
    subst hv
    rw [Array.getElem?_setIfInBounds, if_pos rfl, if_pos (by omega)]
 ·have hold : (Builtin.firstCells i.size n (.slice A n c)).run P w.drew = .ok xs.toArray w.drew := by
   rw [hs]
   rcases Nat.eq_zero_or_pos c with h0 | h0
   ·have hn0 : n = 0 := by omega
    subst hn0
    have hx0 : xs = [] := List.eq_nil_of_length_eq_zero q1
    subst hx0
    cases A with
    | none => exact run_firstCells_none _ _ _ _ _
    | some a => exact run_firstCells_some _ _ _ a _ _ [] rfl (fun j v hv => by simp at hv)
   ·obtain ⟨g, off, cur, rfl, hh, ho, hx⟩ := q5 h0
    refine run_firstCells_some _ _ _ _ _ _ xs (by omega) (fun j v hv => ?_)
    rw [xC]
    exact (cell_of_row w g _ cur e (0, 0) hh).trans (hx j v hv)
  have hcap := nextslicecap_le (need := n + 1) (old := c) (by omega)
  have hfit : Builtin.nextslicecap (n + 1) c * i.bytes ≤ 281474976710656 := by
   rw [hb]
   calc Builtin.nextslicecap (n + 1) c * bytes ≤ (2 * (n + 1)) * bytes := Nat.mul_le_mul_right _ hcap
    _ ≤ 281474976710656 := by rw [Nat.mul_assoc]; omega
  have hrun := run_append_grow_src w t t ty e i z ht hi hz A n c xs hold _ 1 [u] hsrc (by omega) (by omega) hfit
  have hge := grownCap_ge w (n + 1) c e
  have hle := grownCap_le_maxLen w (n + 1) c e (by simpa [maxLen] using h63)
  refine ⟨_, _, _, hrun, ⟨by simp [q1], hge, by simpa [maxLen] using hle, fun a ha => ?_, fun _ => ⟨w.heap.size, 0, _, rfl, heap_alloc_new w.drew _, ?_, fun j v hv => ?_⟩⟩, ?_, .inr rfl⟩
  ·injection ha with ha
   subst ha
   exact ⟨hbase, by simp⟩
  ·have hzs : (Builtin.zeroCells z.cells (grownCap w (n + 1) c e - (n + 1))).size = grownCap w (n + 1) c e - (n + 1) := by
    rw [size_zeroCells, hzc]; omega
   simp [q1, hzs]; omega
  ·rw [Nat.zero_add, Array.getElem?_append_left (by have := (List.getElem?_eq_some_iff.1 hv).1; simpa using this)]
   simpa using hv
  ·exact ⟨rfl, rfl, rfl, by simp, fun k hk _ => Below.heap_alloc w.drew _ k hk⟩
variable {o : Oper} {a : Act}
theorem qm {ops : Array Oper} {rest : List Oper} {Q : Exit → Act → World → Prop} (hgd : o.guard = none) (s x : Operand) (ho : o.op = .call { callee := .builtin .append, args := #[s, x], argTypes := #[t, t] })
 (E : yg P t e 1 bytes) (hs : a.eval s = .slice A n c) (h : Que w base e A n c xs) (hbase : base ≤ w.heap.size) {u : Value} {ad : Addr} {cx : Nat} (hx : a.eval x = .slice (some ad) 1 cx) (hu : w.cell? ad = some u) (h1 : u.oneCell' = true) (hby : (n + 1) * bytes ≤ 140737488355328) (h63 : n + 1 ≤ 9223372036854775807)
 (hK : ∀ A' c' w', Que w' base e A' (n + 1) c' (xs ++ [u]) → w.grownBy w' (Value.slice A n c).ownBlock → ((Value.slice A' (n + 1) c').ownBlock = (Value.slice A n c).ownBlock ∨ (Value.slice A' (n + 1) c').ownBlock = some w.heap.size) → wpList P ops Q rest (a.put o.dst (.slice A' (n + 1) c')) w') : wpList P ops Q (o :: rest) a w := by
 refine wpList_plain hgd fun K hK' => ?_
 obtain ⟨A', c', w', hr, h2, h3, h4⟩ := kT E o.type h hbase (cx := cx) hu h1 hby h63
 unfold Oper.wp execOp
 simp only [ho, resolve, invoke, builtin, Sem.run_bind, Sem.run_pure, Result.andThen_ok, List.map_toArray, List.map_cons, List.map_nil, hs, hx, hr]
 exact hK' _ _ (hK A' c' w' h2 h3 h4)
end
end
section
section
variable {P : Program} {ops : Array Oper} {Q : Exit → Act → World → Prop} {md : Region.Mode} {S : World → Prop} {J : List Nat}
def vY (md : Region.Mode) (ops : Array Oper) (i : Nat) : Nat → Nat → Bool
 | 0, _ => false
 | f + 1, j => match ops[j]? with
  | some oj => oj.after.any fun e => Region.binds md e && (e.on == i || vY md ops i f e.on)
  | none => false
def vt (md : Region.Mode) (ops : Array Oper) (listed : Array Bool) : Prop :=
 ∀ j oj, ops[j]? = some oj → listed.getD j false = true → ∀ e ∈ oj.after, Region.binds md e = true → listed.getD e.on false = true
theorem sj {listed : Array Bool} (hc : vt md ops listed) {i : Nat} (hi : listed.getD i false = false) : ∀ (f k : Nat), listed.getD k false = true → vY md ops i f k = true → False
 | 0, _, _, h => by simp [vY] at h
 | f + 1, k, hk, h => by
  unfold vY at h
  split at h
  ·next ok hok =>
   obtain ⟨e, he, hb⟩ := Array.any_eq_true'.1 h
   simp only [Bool.and_eq_true, Bool.or_eq_true, beq_iff_eq] at hb
   have hl := hc k ok hok hk e he hb.1
   rcases hb.2 with h2 | h2
   ·rw [h2, hi] at hl; cases hl
   ·exact sj hc hi f e.on hl h2
  ·cases h
theorem lw {listed : Array Bool} (hc : vt md ops listed) {i j f : Nat} (hi : listed.getD i false = false) (hj : j ∈ Region.ready md ops listed) : vY md ops i f j = true → False := by
 intro h
 obtain ⟨_, oj, hoj, hall⟩ := mem_ready.1 hj
 cases f with
 | zero => simp [vY] at h
 | succ f =>
  unfold vY at h
  rw [hoj] at h
  obtain ⟨e, he, hb⟩ := Array.any_eq_true'.1 h
  simp only [Bool.and_eq_true, Bool.or_eq_true, beq_iff_eq] at hb
  have hl := hall e he hb.1
  rcases hb.2 with h2 | h2
  ·rw [h2, hi] at hl; cases hl
  ·exact sj hc hi f e.on hl h2
theorem nP {listed : Array Bool} (hc : vt md ops listed) {i : Nat} (hi : i ∈ Region.ready md ops listed) : vt md ops (listed.setIfInBounds i true) := by
 obtain ⟨_, oi, hoi, hall⟩ := mem_ready.1 hi
 intro j oj hj hl e he hb
 by_cases hij : i = j
 ·subst hij
  have : oj = oi := Option.some.inj (hj.symm.trans hoi)
  subst this
  exact getD_set_true (hall e he hb)
 ·rw [getD_set_ne false hij] at hl
  exact getD_set_true (hc j oj hj hl e he hb)
def zb (P : Program) (md : Region.Mode) (ops : Array Oper) (Q : Exit → Act → World → Prop) (S : World → Prop) (J : List Nat) : Nat → Array Bool → Act → World → Prop
 | 0, listed, a, w => Region.ready md ops listed = [] ∧ Q .normal a w
 | fuel + 1, listed, a, w =>
  (Region.ready md ops listed = [] → Q .normal a w) ∧
  ∀ i ∈ Region.ready md ops listed, wpOp P ops Q i (fun a' w' => (J.contains i = false → S w') ∧ zb P md ops Q S J fuel (listed.setIfInBounds i true) a' w') a w
theorem tr : ∀ (fuel : Nat) (listed : Array Bool) (a : Act) (w : World), zb P md ops Q S J fuel listed a w → wpAny P md ops Q fuel listed a w
 | 0, _, _, _, h => h
 | fuel + 1, _, _, _, h => ⟨h.1, fun i hi => wpOp_mono (fun a' w' h' => tr fuel _ a' w' h'.2) (h.2 i hi)⟩
theorem rt {i f : Nat} {oi : Oper} {v : Value} (hi : ops[i]? = some oi) (hsel : ∀ (j : Nat) (o : Oper) cs b, ops[j]? = some o → o.op ≠ .select cs b)
 (hQ : ∀ c a w, Q (.panic c) (a.put oi.dst v) w → Q (.panic c) a w) (hJ : ∀ j ∈ J, vY md ops i f j = true) :
 ∀ (fuel : Nat) (listed : Array Bool) (a : Act) (w : World), vt md ops listed →
  (∀ j oj, ops[j]? = some oj → j ≠ i → listed.getD j true = false → (∀ e ∈ oj.after, Region.binds md e = true → e.on ≠ i) → oi.apart ops oj = true) →
  i ∈ Region.ready md ops listed → YieldsIf P ops S oi v a → S w →
  zb P md ops Q S J fuel (listed.setIfInBounds i true) (a.put oi.dst v) w → zb P md ops Q S J (fuel + 1) listed a w := by
 intro fuel
 induction fuel with
 | zero =>
  intro listed a w _ _ hr hy hS H
  refine ⟨fun h => (by rw [h] at hr; cases hr), fun j hj => ?_⟩
  by_cases hji : j = i
  ·subst hji; exact hy.wpOp hi hS ⟨fun _ => hS, H⟩
  ·have := ready_mono hj hji
   rw [H.1] at this
   cases this
 | succ fuel ih =>
  intro listed a w hc hfree hr hy hS H
  have hun : listed.getD i false = false := getD_both (mem_ready.1 hr).1
  refine ⟨fun h => (by rw [h] at hr; cases hr), fun j hj => ?_⟩
  by_cases hji : j = i
  ·subst hji; exact hy.wpOp hi hS ⟨fun _ => hS, H⟩
  ·have h1 := H.2 j (ready_mono hj hji)
   have hjJ : J.contains j = false := by
    rcases hb : J.contains j with _ | _
    ·rfl
    ·exact (lw hc hun hj (hJ j (by simpa using hb))).elim
   obtain ⟨hjun, oj, hoj, hall⟩ := mem_ready.1 hj
   have hnot : ∀ e ∈ oj.after, Region.binds md e = true → e.on ≠ i := fun e he hb heq => by
    have h1 := hall e he hb
    rw [heq, hun] at h1
    cases h1
   have h2 := wpOp_putIf hoj (hfree j oj hoj hji hjun hnot) (fun cs b => hsel i oi cs b hi) (fun cs b => hsel j oj cs b hoj) hQ hy h1
   have hfree' : ∀ k ok, ops[k]? = some ok → k ≠ i → (listed.setIfInBounds j true).getD k true = false →
    (∀ e ∈ ok.after, Region.binds md e = true → e.on ≠ i) → oi.apart ops ok = true := fun k ok hk hki hun hno => by
    refine hfree k ok hk hki ?_ hno
    by_cases hjk : j = k
    ·subst hjk; exact hjun
    ·rw [getD_set_ne true hjk] at hun; exact hun
   refine wpOp_mono (fun a' w' h3 => ⟨fun _ => h3.2.1 hjJ, ih (listed.setIfInBounds j true) a' w' (nP hc hj) hfree' (ready_mono hr (Ne.symm hji)) h3.1 (h3.2.1 hjJ) ?_⟩) h2
   rw [Array.setIfInBounds_comm _ _ hji]
   exact h3.2.2
def xX (md : Region.Mode) (ops : Array Oper) (listed : Array Bool) : Bool :=
 (List.range ops.size).all fun j => !listed.getD j false || ((ops[j]?).map fun oj => oj.after.all fun e => !Region.binds md e || listed.getD e.on false).getD true
theorem py {listed : Array Bool} (h : xX md ops listed = true) : vt md ops listed := by
 intro j oj hj hl e he hb
 have hjs : j < ops.size := (Array.getElem?_eq_some_iff.1 hj).1
 have := List.all_eq_true.1 h j (List.mem_range.2 hjs)
 rw [hl, hj] at this
 simp only [Bool.not_true, Bool.false_or, Option.map_some, Option.getD_some] at this
 have := Array.all_eq_true'.1 this e he
 rw [hb] at this
 simpa using this
theorem tO {i : Nat} {oi : Oper} {d : Option Tmp} {v : Value} {fuel : Nat} {listed : Array Bool} {a : Act} {w : World} (hi : ops[i]? = some oi) (hd : oi.dst = d)
 (hs : Region.noSelect ops = true) (hf : Region.free md ops listed i = true) (hr : (Region.ready md ops listed).contains i = true) (hc : xX md ops listed = true) (hJ : J.all (vY md ops i ops.size) = true)
 (hQ : ∀ c a w, Q (.panic c) (a.put oi.dst v) w → Q (.panic c) a w) (hy : YieldsIf P ops S oi v a) (hS : S w)
 (h : zb P md ops Q S J fuel (listed.setIfInBounds i true) (a.put d v) w) : zb P md ops Q S J (fuel + 1) listed a w := by
 subst hd
 exact rt (f := ops.size) hi (Region.noSelect_spec hs) hQ (List.all_eq_true.1 hJ) fuel listed a w (py hc) (Region.free_spec hi hf) (by simpa using hr) hy hS h
theorem yJ {k : Nat} {o : Oper} {fuel : Nat} {listed : Array Bool} {a : Act} {w : World} (hr : Region.ready md ops listed = [k]) (ho : ops[k]? = some o)
 (h : ∀ K' : Act → World → Prop, Shut (∀ a w, (J.contains k = false → S w) → ((J.contains k = false → S w) → zb P md ops Q S J fuel (listed.setIfInBounds k true) a w) → K' a w) → if Region.wanted o (yielded ops a.tmps) = true then Oper.wp P o a w K' Q else K' (a.put o.dst undef) w) :
 zb P md ops Q S J (fuel + 1) listed a w := by
 refine ⟨fun h0 => (by rw [hr] at h0; cases h0), fun i hi => ?_⟩
 rw [hr] at hi
 obtain rfl := List.mem_singleton.1 hi
 exact wpOp_step ho (fun K' hK => h K' (fun a w hS hW => hK a w ⟨hS, hW hS⟩))
theorem zA {listed : Array Bool} {a : Act} {w : World} (hr : Region.ready md ops listed = []) (h : Q .normal a w) : ∀ fuel, zb P md ops Q S J fuel listed a w
 | 0 => ⟨hr, h⟩
 | _ + 1 => ⟨fun _ => h, by rw [hr]; simp⟩
theorem zC {id : Nat} {a : Act} {w : World} (hm : P.follows .mixedOrders = true) (hS : S w.drew)
 (h : S w.drew → zb P .any ops Q S J ops.size (Array.replicate ops.size false) a w.drew) : (Code.region id ops true).wp P Q a w :=
 wp_region_any hm (tr _ _ _ _ (h hS))
end
theorem uE {P : Program} {w : World} {t e : TypeId} {size bytes : Nat} {o : Oper} {a : Act} {d : Option Tmp} {ops : Array Oper} {K : Act → World → Prop} {Q : Exit → Act → World → Prop} {F : Prop} (hd : o.dst = d) (hgd : o.guard = none) (s x : Operand) (ho : o.op = .call { callee := .builtin .append, args := #[s, x], argTypes := #[t, t] })
 (E : yg P t e size bytes) {base : Nat} {v : Value} {n : Nat} {xs : List Value} (hs : a.eval s = v) (hown : w.ownsRow base e size v n xs) {Bx : Nat} {Ax : Option Addr} {m c : Nat} {news : List Value} (hx : a.eval x = .slice Ax m c) (hsrc : Sl w Bx size Ax m c news)
 (h1 : ∀ u ∈ news, u.oneCell' = true) (hby : (n + m) * bytes ≤ 140737488355328) (h63 : n + m ≤ 9223372036854775807) (hbase : base ≤ w.heap.size)
 (h : ∀ A' cap w', w'.ownsRow base e size (.slice A' (n + m) cap) (n + m) (xs ++ news) → w.grownBy w' v.ownBlock → ((Value.slice A' (n + m) cap).ownBlock = v.ownBlock ∨ (Value.slice A' (n + m) cap).ownBlock = some w.heap.size) → K (a.put d (.slice A' (n + m) cap)) w') :
 if Region.wanted o (yielded ops a.tmps) = true then Oper.wp P o a w K Q else F := by
 subst hd
 exact kI hgd s x ho E hs hown hx hsrc h1 hby h63 hbase h
end
section
section
variable {P : Program} {ops : Array Oper} {Q : Exit → Act → World → Prop} {md : Region.Mode} {S S' : World → Prop} {J : List Nat}
theorem tN {k : Nat} {o : Oper} {fuel : Nat} {listed : Array Bool} {a : Act} {w : World} (ho : ops[k]? = some o)
 (h : ∀ K' : Act → World → Prop, Shut (∀ a w, (J.contains k = false → S w) → ((J.contains k = false → S w) → zb P md ops Q S J fuel (listed.setIfInBounds k true) a w) → K' a w) → if Region.wanted o (yielded ops a.tmps) = true then Oper.wp P o a w K' Q else K' (a.put o.dst undef) w) :
 wpOp P ops Q k (fun a' w' => (J.contains k = false → S w') ∧ zb P md ops Q S J fuel (listed.setIfInBounds k true) a' w') a w :=
 wpOp_step ho (fun K' hK => h K' (fun a w hS hW => hK a w ⟨hS, hW hS⟩))
theorem uD {i k : Nat} {oi ok : Oper} {fuel : Nat} {listed : Array Bool} {a : Act} {w : World} (hr : Region.ready md ops listed = [i, k]) (hoi : ops[i]? = some oi) (hok : ops[k]? = some ok)
 (h1 : ∀ K' : Act → World → Prop, Shut (∀ a w, (J.contains i = false → S w) → ((J.contains i = false → S w) → zb P md ops Q S J fuel (listed.setIfInBounds i true) a w) → K' a w) → if Region.wanted oi (yielded ops a.tmps) = true then Oper.wp P oi a w K' Q else K' (a.put oi.dst undef) w)
 (h2 : ∀ K' : Act → World → Prop, Shut (∀ a w, (J.contains k = false → S w) → ((J.contains k = false → S w) → zb P md ops Q S J fuel (listed.setIfInBounds k true) a w) → K' a w) → if Region.wanted ok (yielded ops a.tmps) = true then Oper.wp P ok a w K' Q else K' (a.put ok.dst undef) w) :
 zb P md ops Q S J (fuel + 1) listed a w := by
 refine ⟨fun h0 => (by rw [hr] at h0; cases h0), fun j hj => ?_⟩
 rw [hr] at hj
 rcases List.mem_cons.1 hj with rfl | hj
 ·exact tN hoi h1
 ·obtain rfl := List.mem_singleton.1 hj
  exact tN hok h2
theorem tP (hS : ∀ w, S' w → S w) : ∀ (fuel : Nat) (listed : Array Bool) (a : Act) (w : World), zb P md ops Q S' J fuel listed a w → zb P md ops Q S J fuel listed a w
 | 0, _, _, _, h => h
 | fuel + 1, _, _, _, h => ⟨h.1, fun i hi => wpOp_mono (fun a' w' h' => ⟨fun hj => hS _ (h'.1 hj), tP hS fuel _ a' w' h'.2⟩) (h.2 i hi)⟩
theorem vJ (S' : World → Prop) (hS : ∀ w, S' w → S w) {fuel : Nat} {listed : Array Bool} {a : Act} {w : World} (h0 : S' w) (h : S' w → zb P md ops Q S' J fuel listed a w) : zb P md ops Q S J fuel listed a w := tP hS _ _ _ _ (h h0)
theorem yp {i : Nat} {oi : Oper} {d : Option Tmp} {v : Value} {fuel : Nat} {listed : Array Bool} (L : Array Bool) {a : Act} {w : World} (hl : listed.setIfInBounds i true = L) (hi : ops[i]? = some oi) (hd : oi.dst = d)
 (hs : Region.noSelect ops = true) (hf : Region.free md ops listed i = true) (hr : (Region.ready md ops listed).contains i = true) (hc : xX md ops listed = true) (hJ : J.all (vY md ops i ops.size) = true)
 (hQ : ∀ c a w, Q (.panic c) (a.put oi.dst v) w → Q (.panic c) a w) (hy : YieldsIf P ops S oi v a) (hS : S w)
 (h : zb P md ops Q S J fuel L (a.put d v) w) : zb P md ops Q S J (fuel + 1) listed a w := by
 subst hl
 exact tO hi hd hs hf hr hc hJ hQ hy hS h
abbrev tt : Bool := true
abbrev ff : Bool := false
def ma (n k : Nat) : Array Bool := ((List.range n).map fun i => k.testBit i).toArray
def mf (n k : Nat) : Array Bool := ((List.range n).map fun i => Nat.blt i k).toArray
theorem sA {α : Type} (l : List α) (i : Nat) (a : α) : l.toArray.setIfInBounds i a = (l.set i a).toArray := List.setIfInBounds_toArray ..
theorem sB {α : Type} (x : α) (l : List α) (y : α) : (x :: l).set 0 y = y :: l := List.set_cons_zero
theorem sC {α : Type} (x : α) (l : List α) (n : Nat) (y : α) : (x :: l).set (n + 1) y = x :: l.set n y := List.set_cons_succ
theorem tk (i d : Nat) {oi : Oper} {v : Value} {fuel : Nat} {listed : Array Bool} (L : Array Bool) {a a' : Act} {w : World} (hS : S w) (h : zb P md ops Q S J fuel L a' w)
 (hi : ops[i]? = some oi := by rfl) (hd : oi.dst = some d := by rfl) (hy : ∀ w, S w → (execOp a.eval oi).run P w = .ok (.value v) w := by intro w hSw; (try dsimp only at hSw); go_simp; try with_reducible rfl) (hp : a.put (some d) v = a' := by (try simp only [Act.put, sA, sB, sC]); rfl) (hw : Region.wanted oi (yielded ops a.tmps) = true := by rfl) (hl : listed.setIfInBounds i true = L := by kernel_rfl) (hs : Region.noSelect ops = true := by kernel_rfl) (hf : Region.free md ops listed i = true := by kernel_rfl) (hr : (Region.ready md ops listed).contains i = true := by kernel_rfl) (hc : xX md ops listed = true := by kernel_rfl) (hJ : J.all (vY md ops i ops.size) = true := by kernel_rfl) (hQ : ∀ c a w, Q (.panic c) (a.put oi.dst v) w → Q (.panic c) a w := by exact fun _ _ _ h => h) : zb P md ops Q S J (fuel + 1) listed a w :=
 yp L hl hi hd hs hf hr hc hJ hQ (Or.inl ⟨hw, hy⟩) hS (hp ▸ h)
theorem tv (i d : Nat) {oi : Oper} {v : Value} {fuel : Nat} {listed : Array Bool} (L : Array Bool) {a a' : Act} {w : World} (hS : S w) (hy : ∀ w, S w → (execOp a.eval oi).run P w = .ok (.value v) w) (h : zb P md ops Q S J fuel L a' w)
 (hi : ops[i]? = some oi := by rfl) (hd : oi.dst = some d := by rfl) (hp : a.put (some d) v = a' := by (try simp only [Act.put, sA, sB, sC]); rfl) (hw : Region.wanted oi (yielded ops a.tmps) = true := by rfl) (hl : listed.setIfInBounds i true = L := by kernel_rfl) (hs : Region.noSelect ops = true := by kernel_rfl) (hf : Region.free md ops listed i = true := by kernel_rfl) (hr : (Region.ready md ops listed).contains i = true := by kernel_rfl) (hc : xX md ops listed = true := by kernel_rfl) (hJ : J.all (vY md ops i ops.size) = true := by kernel_rfl) (hQ : ∀ c a w, Q (.panic c) (a.put oi.dst v) w → Q (.panic c) a w := by exact fun _ _ _ h => h) : zb P md ops Q S J (fuel + 1) listed a w :=
 yp L hl hi hd hs hf hr hc hJ hQ (Or.inl ⟨hw, hy⟩) hS (hp ▸ h)
theorem ts (i d : Nat) {oi : Oper} {fuel : Nat} {listed : Array Bool} (L : Array Bool) {a a' : Act} {w : World} (hS : S w) (h : zb P md ops Q S J fuel L a' w)
 (hi : ops[i]? = some oi := by rfl) (hd : oi.dst = some d := by rfl) (hp : a.put (some d) undef = a' := by (try simp only [Act.put, sA, sB, sC]); rfl) (hw : Region.wanted oi (yielded ops a.tmps) = false := by rfl) (hl : listed.setIfInBounds i true = L := by kernel_rfl) (hs : Region.noSelect ops = true := by kernel_rfl) (hf : Region.free md ops listed i = true := by kernel_rfl) (hr : (Region.ready md ops listed).contains i = true := by kernel_rfl) (hc : xX md ops listed = true := by kernel_rfl) (hJ : J.all (vY md ops i ops.size) = true := by kernel_rfl) (hQ : ∀ c a w, Q (.panic c) (a.put oi.dst undef) w → Q (.panic c) a w := by exact fun _ _ _ h => h) : zb P md ops Q S J (fuel + 1) listed a w :=
 yp L hl hi hd hs hf hr hc hJ hQ (Or.inr ⟨hw, rfl⟩) hS (hp ▸ h)
theorem tj (i d : Nat) {oi : Oper} {v : Value} {fuel : Nat} {listed : Array Bool} {a a' : Act} {w : World} (hS : S w) (h : zb P md ops Q S J fuel (listed.setIfInBounds i true) a' w)
 (hi : ops[i]? = some oi := by rfl) (hd : oi.dst = some d := by rfl) (hy : ∀ w, S w → (execOp a.eval oi).run P w = .ok (.value v) w := by intro w hSw; (try dsimp only at hSw); go_simp; try with_reducible rfl) (hp : a.put (some d) v = a' := by (try simp only [Act.put, sA, sB, sC]); rfl) (hw : Region.wanted oi (yielded ops a.tmps) = true := by rfl) (hs : Region.noSelect ops = true := by kernel_rfl) (hf : Region.free md ops listed i = true := by kernel_rfl) (hr : (Region.ready md ops listed).contains i = true := by kernel_rfl) (hc : xX md ops listed = true := by kernel_rfl) (hJ : J.all (vY md ops i ops.size) = true := by kernel_rfl) (hQ : ∀ c a w, Q (.panic c) (a.put oi.dst v) w → Q (.panic c) a w := by exact fun _ _ _ h => h) : zb P md ops Q S J (fuel + 1) listed a w :=
 yp _ rfl hi hd hs hf hr hc hJ hQ (Or.inl ⟨hw, hy⟩) hS (hp ▸ h)
theorem tx (i d : Nat) {oi : Oper} (v : Value) {fuel : Nat} {listed : Array Bool} (L : Array Bool) {a : Act} {w : World} (hy : ∀ w, S w → (execOp a.eval oi).run P w = .ok (.value v) w) (hS : S w) (h : zb P md ops Q S J fuel L (a.put (some d) v) w)
 (hi : ops[i]? = some oi := by rfl) (hd : oi.dst = some d := by rfl) (hw : Region.wanted oi (yielded ops a.tmps) = true := by rfl) (hl : listed.setIfInBounds i true = L := by kernel_rfl) (hs : Region.noSelect ops = true := by kernel_rfl) (hf : Region.free md ops listed i = true := by kernel_rfl) (hr : (Region.ready md ops listed).contains i = true := by kernel_rfl) (hc : xX md ops listed = true := by kernel_rfl) (hJ : J.all (vY md ops i ops.size) = true := by kernel_rfl) (hQ : ∀ c a w, Q (.panic c) (a.put oi.dst v) w → Q (.panic c) a w := by exact fun _ _ _ h => h) : zb P md ops Q S J (fuel + 1) listed a w :=
 yp L hl hi hd hs hf hr hc hJ hQ (Or.inl ⟨hw, hy⟩) hS h
theorem ti (i d : Nat) {oi : Oper} (v : Value) {fuel : Nat} {listed : Array Bool} {a : Act} {w : World} (hy : ∀ w, S w → (execOp a.eval oi).run P w = .ok (.value v) w) (hS : S w) (h : zb P md ops Q S J fuel (listed.setIfInBounds i true) (a.put (some d) v) w)
 (hi : ops[i]? = some oi := by rfl) (hd : oi.dst = some d := by rfl) (hw : Region.wanted oi (yielded ops a.tmps) = true := by rfl) (hs : Region.noSelect ops = true := by kernel_rfl) (hf : Region.free md ops listed i = true := by kernel_rfl) (hr : (Region.ready md ops listed).contains i = true := by kernel_rfl) (hc : xX md ops listed = true := by kernel_rfl) (hJ : J.all (vY md ops i ops.size) = true := by kernel_rfl) (hQ : ∀ c a w, Q (.panic c) (a.put oi.dst v) w → Q (.panic c) a w := by exact fun _ _ _ h => h) : zb P md ops Q S J (fuel + 1) listed a w :=
 yp _ rfl hi hd hs hf hr hc hJ hQ (Or.inl ⟨hw, hy⟩) hS h
theorem qn {k : Nat} {o : Oper} {fuel : Nat} {listed : Array Bool} (L : Array Bool) {a : Act} {w : World} (hl : listed.setIfInBounds k true = L) (hr : Region.ready md ops listed = [k]) (ho : ops[k]? = some o)
 (h : ∀ K' : Act → World → Prop, Shut (∀ a w, (J.contains k = false → S w) → ((J.contains k = false → S w) → zb P md ops Q S J fuel L a w) → K' a w) → if Region.wanted o (yielded ops a.tmps) = true then Oper.wp P o a w K' Q else K' (a.put o.dst undef) w) :
 zb P md ops Q S J (fuel + 1) listed a w := by
 subst hl
 exact yJ hr ho h
theorem tb (k : Nat) {o : Oper} {fuel : Nat} {listed : Array Bool} (L : Array Bool) {a : Act} {w : World} (h : ∀ K' : Act → World → Prop, Shut (∀ a w, (J.contains k = false → S w) → ((J.contains k = false → S w) → zb P md ops Q S J fuel L a w) → K' a w) → if Region.wanted o (yielded ops a.tmps) = true then Oper.wp P o a w K' Q else K' (a.put o.dst undef) w) (hl : listed.setIfInBounds k true = L := by kernel_rfl) (hr : Region.ready md ops listed = [k] := by kernel_rfl) (ho : ops[k]? = some o := by rfl) : zb P md ops Q S J (fuel + 1) listed a w := qn L hl hr ho h
theorem vI {i k : Nat} {oi ok : Oper} {fuel : Nat} {listed : Array Bool} (L1 L2 : Array Bool) {a : Act} {w : World} (hl1 : listed.setIfInBounds i true = L1) (hl2 : listed.setIfInBounds k true = L2) (hr : Region.ready md ops listed = [i, k]) (hoi : ops[i]? = some oi) (hok : ops[k]? = some ok)
 (h1 : ∀ K' : Act → World → Prop, Shut (∀ a w, (J.contains i = false → S w) → ((J.contains i = false → S w) → zb P md ops Q S J fuel L1 a w) → K' a w) → if Region.wanted oi (yielded ops a.tmps) = true then Oper.wp P oi a w K' Q else K' (a.put oi.dst undef) w)
 (h2 : ∀ K' : Act → World → Prop, Shut (∀ a w, (J.contains k = false → S w) → ((J.contains k = false → S w) → zb P md ops Q S J fuel L2 a w) → K' a w) → if Region.wanted ok (yielded ops a.tmps) = true then Oper.wp P ok a w K' Q else K' (a.put ok.dst undef) w) :
 zb P md ops Q S J (fuel + 1) listed a w := by
 subst hl1 hl2
 exact uD hr hoi hok h1 h2
end
end
section
open Go.RowKit
theorem ia (A : Option Addr) (n c : Nat) (w : World) (hn : n ≤ 9223372036854775807) : Calls Tryz.prog 10 #[.slice A n c] w fun e w' => e = .returned (.bool (decide (n ≤ 400))) ∧ w = w' := by
 go_enter Tryz.func10, Tryz.ntmps10
 go_wp2
 go_ret
 exact ⟨zG (by simp; omega), rfl⟩
def zP (w : World) (g : Nat) : Prop :=
 ∃ (A : Option Addr) (n c k : Nat) (l : List Int) (s : Int), w.heap[g]? = some (.cells #[.slice A n c, .int .i64 k, .int .u64 s] 88 (0, 0)) ∧ Sl w g 1 A n c (zD l) ∧ k ≤ n ∧ 0 ≤ s ∧ s < 18446744073709551616
theorem zP.lt {w : World} {g : Nat} (h : zP w g) : g < w.heap.size := by
 obtain ⟨A, n, c, k, l, s, hh, _⟩ := h
 exact (Array.getElem?_eq_some_iff.1 hh).1
theorem zP.keep {w w' : World} {g : Nat} (h : zP w g) (hk : ∀ i, i ≤ g → w'.heap[i]? = w.heap[i]?) : zP w' g := by
 obtain ⟨A, n, c, k, l, s, hh, hs, h1, h2, h3⟩ := h
 exact ⟨A, n, c, k, l, s, (hk g lR).trans hh, hs.keep fun p hp => World.cell?_of_block (hk p.block (by omega)), h1, h2, h3⟩
theorem zP.below {w w' : World} {g B : Nat} (h : zP w g) (hb : Below B w w') (hg : g < B) : zP w' g := h.keep fun i hi => hb.block i (by omega)
theorem zP.alloc {w : World} {g : Nat} (h : zP w g) (o : Obj) : zP (w.alloc o) g := h.keep fun i hi => Below.heap_alloc w o i (by have := h.lt; omega)
theorem zP.drewN {w : World} {g : Nat} (h : zP w g) (n : Nat) : zP (w.drewN n) g := h
theorem zP.drew {w : World} {g : Nat} (h : zP w g) : zP w.drew g := h
theorem zP.setCell {w : World} {g : Nat} (h : zP w g) {p : Addr} (hp : g < p.block) (u : Value) : zP (w.setCell p u) g := h.keep fun i hi => Below.heap_setCell w p u i (by omega)
theorem zP.grown {w w' : World} {g : Nat} (h : zP w g) {row : Option Nat} (hg : w.grownBy w' row) (hr : ∀ k, row = some k → g < k) : zP w' g :=
 h.keep fun i hi => hg.block i (by have := h.lt; omega) (fun e => by have := hr _ e.symm; omega)
theorem iN (A : Option Addr) (n c B : Nat) (l : List Int) (w : World) (hr : Sl w B 1 A n c (zD l)) (hB : B ≤ w.heap.size) :
 Calls Tryz.prog 12 #[.slice A n c] w fun e w' => e = .returned (.pointer (some ⟨w.heap.size, 0, none⟩)) ∧ Hid (zP w' w.heap.size) ∧ Hid (Below w.heap.size w w') ∧ Hid (w'.heap.size = w.heap.size + 1) := by
 go_enter Tryz.func12, Tryz.ntmps12
 go_wp2
 go_ret
 refine ⟨rfl, ⟨A, n, c, 0, l, 88172645463325252, heap_alloc_new w _, (hr.more hB).alloc lR _, Nat.zero_le _, by decide, by decide⟩, (Below.refl _ _).alloc lR _, by unfold Hid; simp⟩
theorem vH (t : Int) : 0 ≤ IntKind.u64.wrap t ∧ IntKind.u64.wrap t < 18446744073709551616 := by
 have : IntKind.u64.wrap t = t % 18446744073709551616 := by simp [IntKind.wrap, IntKind.bits, IntKind.signed]
 omega
theorem pQ (t n : Int) (hn : 1 ≤ n) : 0 ≤ wrap64 ((IntKind.u64.wrap t / 8589934592).tmod n) ∧ wrap64 ((IntKind.u64.wrap t / 8589934592).tmod n) < n := by
 obtain ⟨h0, h1⟩ := vH t
 generalize IntKind.u64.wrap t = q at *
 have hq : 0 ≤ q / 8589934592 ∧ q / 8589934592 ≤ 2147483647 := by omega
 generalize q / 8589934592 = z at *
 rw [Int.tmod_eq_emod_of_nonneg hq.1]
 have h2 := Int.emod_nonneg z (show n ≠ 0 by omega)
 have h3 := Int.emod_lt_of_pos z (show 0 < n by omega)
 have h4 : z % n ≤ z := by
  rcases Int.lt_or_le z n with h | h
  ·rw [Int.emod_eq_of_lt hq.1 h]; exact Int.le_refl _
  ·omega
 rw [IntWalk.wrap64_in _ ⟨by omega, by omega⟩]
 omega
section
variable {w : World} {g m c k : Nat} {A : Option Addr} {s : Int} {l : List Int}
theorem pP (w : World) (g d : Nat) (u : Value) :
 w.grownBy ((w.drewN d).setCell ⟨g, 2, none⟩ u) (some g) ∧ ((w.drewN d).setCell ⟨g, 2, none⟩ u).heap.size = w.heap.size :=
 ⟨⟨rfl, rfl, rfl, by simp [World.setCell], fun i _ hi => Below.heap_setCell (w.drewN d) _ u i (fun e => hi (by rw [e]))⟩, by simp [World.setCell]⟩
theorem pO (w : World) (g d : Nat) (u v : Value) :
 w.grownBy (((w.drewN d).setCell ⟨g, 1, none⟩ u).setCell ⟨g, 2, none⟩ v) (some g) ∧ (((w.drewN d).setCell ⟨g, 1, none⟩ u).setCell ⟨g, 2, none⟩ v).heap.size = w.heap.size :=
 ⟨⟨rfl, rfl, rfl, by simp [World.setCell], fun i _ hi => (Below.heap_setCell _ _ v i (fun e => hi (by rw [e]))).trans (Below.heap_setCell (w.drewN d) _ u i (fun e => hi (by rw [e])))⟩, by simp [World.setCell]⟩
theorem pp (hh : w.heap[g]? = some (.cells #[.slice A m c, .int .i64 k, .int .u64 s] 88 (0, 0))) (hs : Sl w g 1 A m c (zD l)) (hk : k ≤ m) (t : Int) :
 zP (w.setCell ⟨g, 2, none⟩ (.int .u64 (IntKind.u64.wrap t))) g := by
 refine ⟨A, m, c, k, l, IntKind.u64.wrap t, ?_, hs.setCell lR _, hk, vH t⟩
 simp [World.setCell, Array.getElem?_modify, hh]
theorem pn (hh : w.heap[g]? = some (.cells #[.slice A m c, .int .i64 k, .int .u64 s] 88 (0, 0))) (hs : Sl w g 1 A m c (zD l)) (hk : k < m) (t : Int) :
 zP ((w.setCell ⟨g, 1, none⟩ (.int .i64 ((k : Int) + 1))).setCell ⟨g, 2, none⟩ (.int .u64 (IntKind.u64.wrap t))) g := by
 refine ⟨A, m, c, k + 1, l, IntKind.u64.wrap t, ?_, (hs.setCell lR _).setCell lR _, hk, vH t⟩
 simp [World.setCell, Array.getElem?_modify, hh]
end
def jp (w : World) (g : Nat) (n : Int) (e : Ending) (w' : World) : Prop :=
 ∃ r : Int, e = .returned (.int .i64 r) ∧ 0 ≤ r ∧ Hid (n < 1 → r = 0) ∧ Hid (1 ≤ n → r < n) ∧ Hid (zP w' g) ∧ Hid (w.grownBy w' (some g)) ∧ Hid (w'.heap.size = w.heap.size)
theorem zS (g : Nat) (n : Int) (w : World) (hd : zP w g) (hn : n ≤ 9223372036854775807) : Calls Tryz.prog 16 #[.pointer (some ⟨g, 0, none⟩), .int .i64 n] w (jp w g n) := by
 have hlt := hd.lt
 obtain ⟨A, m, c, k, l, s, hh, hs, h1, h2, h3⟩ := hd
 obtain ⟨hmc, hcm⟩ := hs.le
 have c0 : w.cell? ⟨g, 0, none⟩ = some (.slice A m c) := cell_of_row w g 0 _ _ _ hh
 have c1 : w.cell? ⟨g, 1, none⟩ = some (.int .i64 k) := cell_of_row w g 1 _ _ _ hh
 have c2 : w.cell? ⟨g, 2, none⟩ = some (.int .u64 s) := cell_of_row w g 2 _ _ _ hh
 have f0 : ∀ j, w.frozen? ⟨g, j, none⟩ = false := fun j => by simp [World.frozen?, hh]
 have f1 := f0 1
 have f2 := f0 2
 have HH := iD hh; have HS := iD hs
 clear hh hs f0
 have H3 := iD h3; clear h3
 by_cases hk : k < m
 ·obtain ⟨b, off, x, rfl, hb, hx, hcell⟩ := HS.out.at1 hk
  clear hx
  have hki : (k : Int) < (m : Int) := by omega
  go_enter Tryz.func16, Tryz.ntmps16
  go_wp2_with fail
  go_quiet (fail)
  go_wp2_with fail
  go_quiet (fail)
  go_wp2_with fail
  ·go_ret
   exact ⟨_, rfl, Int.le_refl _, fun _ => rfl, fun h => absurd h (by omega), pn HH.out HS.out hk _, pO w g _ _ _⟩
  ·go_ret
   have hr := pQ (IntKind.u64.wrap (IntKind.u64.wrap (s * 6364136223846793005) + IntKind.u64.wrap x) + 1442695040888963407) n (by omega)
   exact ⟨_, rfl, hr.1, fun h => absurd h (by omega), fun _ => hr.2, pn HH.out HS.out hk _, pO w g _ _ _⟩
 ·have hki : decide ((k : Int) < (m : Int)) = false := by simp; omega
  go_enter Tryz.func16, Tryz.ntmps16
  go_wp2_with fail
  go_quiet (fail)
  go_wp2_with fail
  ·go_ret
   exact ⟨_, rfl, Int.le_refl _, fun _ => rfl, fun h => absurd h (by omega), pp HH.out HS.out h1 _, pP w g _ _⟩
  ·go_ret
   have hr := pQ (IntKind.u64.wrap (IntKind.u64.wrap (s * 6364136223846793005)) + 1442695040888963407) n (by omega)
   exact ⟨_, rfl, hr.1, fun h => absurd h (by omega), fun _ => hr.2, pp HH.out HS.out h1 _, pP w g _ _⟩
end
section
open Go.RowKit
def nm2 (l : List UInt8) (k : Nat) : List UInt8 := l ++ [UInt8.ofNat (48 + k / 10), UInt8.ofNat (48 + k % 10)]
theorem xq (l : ByteArray) (k : Nat) (w : World) (hl : l.size ≤ 1000) (hk : k < 100) : Calls Tryz.prog 43 #[.string l, .int .i64 k] w fun e w' => e = .returned (.string (mkS (nm2 (toL l) k))) ∧ Below w.heap.size w w' := by
 have e1 : (k : Int) / 10 = ((k / 10 : Nat) : Int) := by omega
 have e2 : (k : Int) % 10 = ((k % 10 : Nat) : Int) := by omega
 have h1 : k / 10 < 10 := by omega
 have h2 : k % 10 < 10 := by omega
 have HS : Hid (l ++ mkS [UInt8.ofNat (48 + k / 10), UInt8.ofNat (48 + k % 10)] = mkS (nm2 (toL l) k)) := by
  unfold Hid
  apply iA
  rw [oR, wb, wb, nm2]
 generalize k / 10 = p at *
 generalize k % 10 = q at *
 have u1 : ((48 : Int) + (p : Int)) = ((UInt8.ofNat (48 + p)).toNat : Int) := by rw [UInt8.toNat_ofNat']; omega
 have u2 : ((48 : Int) + (q : Int)) = ((UInt8.ofNat (48 + q)).toNat : Int) := by rw [UInt8.toNat_ofNat']; omega
 have HU1 := iD u1; have HU2 := iD u2
 clear u1 u2
 have hcv : ∀ W : World, (convert 122 9 (.slice (some ⟨w.heap.size, 0, none⟩) 2 2)).run Tryz.prog (w.alloc (.cells #[.int .u8 (48 + (p : Int)), .int .u8 (48 + (q : Int))] 5)) = .ok (.string (mkS [UInt8.ofNat (48 + p), UInt8.ofNat (48 + q)])) (w.alloc (.cells #[.int .u8 (48 + (p : Int)), .int .u8 (48 + (q : Int))] 5)) := fun _ => by
  refine rE (B := w.heap.size + 1) Tryz.underlying122 Tryz.underlying5 Tryz.underlying9 ?_
  have := Sl.newest (w := w) (cs := #[.int .u8 (48 + (p : Int)), .int .u8 (48 + (q : Int))]) (T := 5) (fr := (0, 0)) (n := 2) (size := 1) rfl rfl (by decide)
  simp only [jk, List.flatMap_cons, List.flatMap_nil, List.singleton_append, ← HU1.out, ← HU2.out]
  exact this
 replace hcv := hcv w
 have hz : (mkS [UInt8.ofNat (48 + p), UInt8.ofNat (48 + q)]).size = 2 := by rw [rz]; rfl
 generalize mkS [UInt8.ofNat (48 + p), UInt8.ofNat (48 + q)] = S2 at *
 have hcat : ¬ (9223372036854775807 < l.size + S2.size) := by omega
 clear hz
 go_enter Tryz.func43, Tryz.ntmps43
 go_wp2_with fail
 go_ret
 exact ⟨by rw [← HS.out]; rfl, (Below.refl _ _).alloc lR _⟩
end
section
open Go.RowKit
def ix (w : World) (g : Nat) (e : Ending) (w' : World) : Prop :=
 ∃ r : Bool, e = .returned (.bool r) ∧ Hid (zP w' g) ∧ Hid (w.grownBy w' (some g)) ∧ Hid (w'.heap.size = w.heap.size)
theorem xk (g : Nat) (n : Int) (w : World) (hd : zP w g) (hn : n ≤ 9223372036854775807) : Calls Tryz.prog 15 #[.pointer (some ⟨g, 0, none⟩), .int .i64 n] w (ix w g) := by
 have HD := iD hd; clear hd
 go_enter Tryz.func15, Tryz.ntmps15
 go_wp2_with fail
 refine (zS g n w HD.out hn).mono ?_
 rintro e w1 ⟨r, rfl, h0, h1, h2, h3, h4, h5⟩
 clear h1 h2
 go_wp2_with fail
 go_ret
 exact ⟨_, rfl, h3, h4, h5⟩
end
section
open Go.RowKit
theorem tl : yg Tryz.prog 27 85 3 32 := yg.mk' (z := .agg #[.string ⟨#[]⟩, .int .i64 0, .int .i64 0]) Tryz.underlying27 (by kernel_rfl) rfl (by decide)
theorem jd : yg Tryz.prog 28 57 5 48 := yg.mk' (z := .agg #[.string ⟨#[]⟩, .int .i64 0, .int .i64 0, .int .i64 0, .int .i64 0]) Tryz.underlying28 (by kernel_rfl) rfl (by decide)
structure yA (w0 : World) (g : Nat) (dmax : Int) (An : Option Addr) (nn cn : Nat) (ns : List Nd) (Ad : Option Addr) (nd cd : Nat) (ds : List Dv) (w : World) : Prop where
 lt : g < w0.heap.size
 deck : zP w g
 gr : w0.grownBy w (some g)
 pb : Blk w w0.heap.size 25 #[.pointer (some ⟨g, 0, none⟩)]
 db : Blk w (w0.heap.size + 1) 3 #[.int .i64 dmax]
 rb : Blk w (w0.heap.size + 2) 30 #[.slice none 0 0, .slice none 0 0]
 nb : Blk w (w0.heap.size + 3) 30 #[.slice An nn cn, .slice Ad nd cd]
 rn : w.ownsRow (w0.heap.size + 4) 85 3 (.slice An nn cn) nn (ns.flatMap Nd.cells)
 rd : w.ownsRow (w0.heap.size + 4) 57 5 (.slice Ad nd cd) nd (ds.flatMap Dv.cells)
 ne : (Value.slice An nn cn).ownBlock = none ∨ (Value.slice An nn cn).ownBlock ≠ (Value.slice Ad nd cd).ownBlock
section
variable {w0 w w' : World} {g : Nat} {dmax : Int} {An Ad : Option Addr} {nn cn nd cd : Nat} {ns : List Nd} {ds : List Dv}
theorem yA.size (h : yA w0 g dmax An nn cn ns Ad nd cd ds w) : w0.heap.size + 4 ≤ w.heap.size := h.nb.lt
theorem zk {v : Value} {q : Nat} (h : ∀ b, v.ownBlock = some b → b ≠ q) : v.ownBlock = none ∨ v.ownBlock ≠ some q := by
 cases hv : v.ownBlock with
 | none => exact .inl rfl
 | some b => exact .inr fun e => by injection e with e; exact h b hv e
theorem yA.next (h : yA w0 g dmax An nn cn ns Ad nd cd ds w) (hd : zP w' g) (hg : w.grownBy w' (some g)) : yA w0 g dmax An nn cn ns Ad nd cd ds w' := by
 have hl := h.lt
 exact ⟨hl, hd, zM h.gr hg, h.pb.grown hg (by simp; omega), h.db.grown hg (by simp; omega), h.rb.grown hg (by simp; omega), h.nb.grown hg (by simp; omega), h.rn.kept hg (zk fun b e => by have := (h.rn.lt b e).1; omega), h.rd.kept hg (zk fun b e => by have := (h.rd.lt b e).1; omega), h.ne⟩
theorem yA.later (h : yA w0 g dmax An nn cn ns Ad nd cd ds w) (hb : Below w.heap.size w w') : yA w0 g dmax An nn cn ns Ad nd cd ds w' := by
 have hg := zL hb none
 exact ⟨h.lt, h.deck.below hb h.deck.lt, zM h.gr (zL hb _), h.pb.below hb h.pb.lt, h.db.below hb h.db.lt, h.rb.below hb h.rb.lt, h.nb.below hb h.nb.lt, h.rn.kept hg (Classical.em _), h.rd.kept hg (Classical.em _), h.ne⟩
theorem yA.alloc (h : yA w0 g dmax An nn cn ns Ad nd cd ds w) (o : Obj) : yA w0 g dmax An nn cn ns Ad nd cd ds (w.alloc o) := h.later ((Below.refl _ _).alloc lR _)
theorem yA.drew (h : yA w0 g dmax An nn cn ns Ad nd cd ds w) : yA w0 g dmax An nn cn ns Ad nd cd ds w.drew := h.later (Below.refl _ _).drew
theorem yA.store {q j : Nat} {u : Value} (h : yA w0 g dmax An nn cn ns Ad nd cd ds w) (hq : w0.heap.size + 4 ≤ q) (hn : ∀ b, (Value.slice An nn cn).ownBlock = some b → b ≠ q) (hd : ∀ b, (Value.slice Ad nd cd).ownBlock = some b → b ≠ q) : yA w0 g dmax An nn cn ns Ad nd cd ds (w.setCell ⟨q, j, none⟩ u) := by
 have hl := h.lt
 have hg : w.grownBy (w.setCell ⟨q, j, none⟩ u) (some q) := ⟨rfl, rfl, rfl, by simp [World.setCell], fun i _ hi => Below.heap_setCell w _ _ i (fun e => hi (by rw [e]))⟩
 exact ⟨hl, h.deck.setCell (by simp; omega) _, zg h.gr (by simp; omega) _, h.pb.far (by simp; omega) _, h.db.far (by simp; omega) _, h.rb.far (by simp; omega) _, h.nb.far (by simp; omega) _, h.rn.kept hg (zk hn), h.rd.kept hg (zk hd), h.ne⟩
theorem yA.dev {A1 : Option Addr} {c1 : Nat} {x : Dv} {w1 : World} (h : yA w0 g dmax An nn cn ns Ad nd cd ds w) (ho : w1.ownsRow (w0.heap.size + 4) 57 5 (.slice A1 (nd + 1) c1) (nd + 1) (ds.flatMap Dv.cells ++ x.cells)) (hg : w.grownBy w1 (Value.slice Ad nd cd).ownBlock)
 (hv : (Value.slice A1 (nd + 1) c1).ownBlock = (Value.slice Ad nd cd).ownBlock ∨ (Value.slice A1 (nd + 1) c1).ownBlock = some w.heap.size) : yA w0 g dmax An nn cn ns A1 (nd + 1) c1 (ds ++ [x]) (w1.setCell ⟨w0.heap.size + 3, 1, none⟩ (.slice A1 (nd + 1) c1)) := by
 have hl := h.lt
 have hz := h.size
 have hr : ∀ b, (Value.slice Ad nd cd).ownBlock = some b → w0.heap.size + 4 ≤ b ∧ b < w.heap.size := fun b e => h.rd.lt b e
 have hr1 : ∀ b, (Value.slice A1 (nd + 1) c1).ownBlock = some b → w0.heap.size + 4 ≤ b := fun b e => (ho.lt b e).1
 have far : ∀ q, q < w0.heap.size + 4 → some q ≠ (Value.slice Ad nd cd).ownBlock := fun q hq e => by have := (hr q e.symm).1; omega
 have hnn : (Value.slice An nn cn).ownBlock = none ∨ (Value.slice An nn cn).ownBlock ≠ (Value.slice Ad nd cd).ownBlock := h.ne
 have hg3 : w1.grownBy (w1.setCell ⟨w0.heap.size + 3, 1, none⟩ (.slice A1 (nd + 1) c1)) (some (w0.heap.size + 3)) := ⟨rfl, rfl, rfl, by simp [World.setCell], fun i _ hi => Below.heap_setCell w1 _ _ i (fun e => hi (by rw [e]))⟩
 refine ⟨hl, (h.deck.grown hg (fun k e => by have := (hr k e).1; omega)).setCell (by simp; omega) _, zg (vj h.gr hg (fun k e => by have := (hr k e).1; omega)) (by simp) _, (h.pb.grown hg (far _ (by omega))).far (by simp) _, (h.db.grown hg (far _ (by omega))).far (by simp) _, (h.rb.grown hg (far _ (by omega))).far (by simp) _, (h.nb.grown hg (far _ (by omega))).set 1 _, (h.rn.kept hg hnn).kept hg3 (zk fun b e => by have := (h.rn.lt b e).1; omega), ?_, ?_⟩
 ·rw [List.flatMap_append]
  exact (ho.kept hg3 (zk fun b e => by have := hr1 b e; omega)).mono lR |> fun h => by simpa using h
 ·rcases hv with e | e
  ·rw [e]; exact h.ne
  ·rw [e]
   exact (zk fun b eb => by have := (h.rn.lt b eb).2; omega)
theorem yA.node {A1 : Option Addr} {c1 : Nat} {x : Nd} {w1 : World} (h : yA w0 g dmax An nn cn ns Ad nd cd ds w) (ho : w1.ownsRow (w0.heap.size + 4) 85 3 (.slice A1 (nn + 1) c1) (nn + 1) (ns.flatMap Nd.cells ++ x.cells)) (hg : w.grownBy w1 (Value.slice An nn cn).ownBlock)
 (hv : (Value.slice A1 (nn + 1) c1).ownBlock = (Value.slice An nn cn).ownBlock ∨ (Value.slice A1 (nn + 1) c1).ownBlock = some w.heap.size) : yA w0 g dmax A1 (nn + 1) c1 (ns ++ [x]) Ad nd cd ds (w1.setCell ⟨w0.heap.size + 3, 0, none⟩ (.slice A1 (nn + 1) c1)) := by
 have hl := h.lt
 have hz := h.size
 have hr : ∀ b, (Value.slice An nn cn).ownBlock = some b → w0.heap.size + 4 ≤ b ∧ b < w.heap.size := fun b e => h.rn.lt b e
 have hr1 : ∀ b, (Value.slice A1 (nn + 1) c1).ownBlock = some b → w0.heap.size + 4 ≤ b := fun b e => (ho.lt b e).1
 have far : ∀ q, q < w0.heap.size + 4 → some q ≠ (Value.slice An nn cn).ownBlock := fun q hq e => by have := (hr q e.symm).1; omega
 have hnn : (Value.slice Ad nd cd).ownBlock = none ∨ (Value.slice Ad nd cd).ownBlock ≠ (Value.slice An nn cn).ownBlock := by
  cases hv : (Value.slice Ad nd cd).ownBlock with
  | none => exact .inl rfl
  | some b => exact .inr fun e => h.ne.elim (fun h0 => by rw [h0] at e; cases e) (fun h0 => h0 (by rw [hv, e]))
 have hg3 : w1.grownBy (w1.setCell ⟨w0.heap.size + 3, 0, none⟩ (.slice A1 (nn + 1) c1)) (some (w0.heap.size + 3)) := ⟨rfl, rfl, rfl, by simp [World.setCell], fun i _ hi => Below.heap_setCell w1 _ _ i (fun e => hi (by rw [e]))⟩
 refine ⟨hl, (h.deck.grown hg (fun k e => by have := (hr k e).1; omega)).setCell (by simp; omega) _, zg (vj h.gr hg (fun k e => by have := (hr k e).1; omega)) (by simp) _, (h.pb.grown hg (far _ (by omega))).far (by simp) _, (h.db.grown hg (far _ (by omega))).far (by simp) _, (h.rb.grown hg (far _ (by omega))).far (by simp) _, (h.nb.grown hg (far _ (by omega))).set 0 _, ?_, (h.rd.kept hg hnn).kept hg3 (zk fun b e => by have := (h.rd.lt b e).1; omega), ?_⟩
 ·have := ho.kept hg3 (zk fun b e => by have := hr1 b e; omega)
  rw [List.flatMap_append]
  simpa using this
 ·rcases hv with e | e
  ·rw [e]; exact h.ne
  ·rw [e]
   refine .inr fun e2 => ?_
   have := (h.rd.lt _ e2.symm).2
   omega
end
end
end Go.Proofs.YtkkobemhbicjgaaGreatDoor
