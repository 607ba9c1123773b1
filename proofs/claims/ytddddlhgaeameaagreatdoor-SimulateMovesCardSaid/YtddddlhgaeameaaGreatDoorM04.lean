import Derived.Test.YtddddlhgaeameaaGreatDoorM03
import Derived.Deep.RegionHeld
import Derived.StillTail
namespace Go.Proofs.YtddddlhgaeameaaGreatDoor
section
inductive Rch (ds : List Dv) (U : Nat → Bool) (S : Int → Bool) (src : List Int) : Int → Prop
 | base {v : Int} : v ∈ src → Rch ds U S src v
 | step {u : Int} {i : Nat} {x : Dv} : Rch ds U S src u → S u = false → ds[i]? = some x → U i = true → 0 ≤ xl x u → Rch ds U S src (xl x u)
def yZ (out : List Bool) (v : Int) : Prop := 0 ≤ v ∧ out[v.toNat]? = some true
def yu (nn : Nat) (ds : List Dv) : Prop := ∀ x ∈ ds, zX x.kind = true → (0 ≤ x.a ∧ x.a < nn) ∧ (0 ≤ x.b ∧ x.b < nn)
def wB (out : List Bool) : Nat := (out.filter (fun b => !b)).length
theorem kP {nn : Nat} {ds : List Dv} (h : yu nn ds) {i : Nat} {x : Dv} (hx : ds[i]? = some x) (v : Int) (h0 : 0 ≤ xl x v) : xl x v < nn := by
 have hm := h x (List.mem_of_getElem? hx)
 unfold xl at h0 ⊢
 split at h0
 ·omega
 ·rename_i hj
  have := hm (by simpa using hj)
  rw [if_neg hj]
  split
  ·omega
  ·split
   ·omega
   ·rename_i h1 h2; rw [if_neg h1, if_neg h2] at h0; omega
theorem sq {out : List Bool} {k : Nat} (hk : k < out.length) (v : Int) : yZ (out.set k true) v ↔ v = k ∨ yZ out v := by
 unfold yZ
 rw [List.getElem?_set]
 constructor
 ·rintro ⟨h0, h1⟩
  split at h1
  ·left; omega
  ·exact .inr ⟨h0, h1⟩
 ·rintro (rfl | ⟨h0, h1⟩)
  ·exact ⟨by omega, by simp [hk]⟩
  ·refine ⟨h0, ?_⟩
   split
   ·simp
   ·exact h1
theorem rE : ∀ {out : List Bool} {k : Nat}, out[k]? = some false → wB (out.set k true) + 1 = wB out
 | [], k, h => by simp at h
 | b :: out, 0, h => by simp at h; subst h; simp [wB]
 | b :: out, k + 1, h => by
  simp at h
  have := rE h
  unfold wB at *
  rw [List.set_cons_succ, List.filter_cons, List.filter_cons]
  split <;> simp_all
theorem nE (n : Nat) (v : Int) : ¬ yZ (List.replicate n false) v := by
 rintro ⟨_, h⟩
 rw [List.getElem?_replicate] at h
 split at h <;> simp at h
structure td (ds : List Dv) (U : Nat → Bool) (S : Int → Bool) (src : List Int) (out : List Bool) (wait : List Int) : Prop where
 sound : ∀ v, yZ out v → Rch ds U S src v
 waits : ∀ v ∈ wait, yZ out v
 srcs : ∀ v ∈ src, yZ out v
 done : ∀ u, yZ out u → u ∉ wait → S u = false → ∀ i x, ds[i]? = some x → U i = true → 0 ≤ xl x u → yZ out (xl x u)
structure rh (ds : List Dv) (U : Nat → Bool) (S : Int → Bool) (src : List Int) (v : Int) (j : Nat) (out : List Bool) (wait : List Int) : Prop where
 sound : ∀ v, yZ out v → Rch ds U S src v
 waits : ∀ v ∈ wait, yZ out v
 srcs : ∀ v ∈ src, yZ out v
 done : ∀ u, yZ out u → u ∉ wait → S u = false → ∀ i x, ds[i]? = some x → U i = true → 0 ≤ xl x u → yZ out (xl x u)
 head : wait.head? = some v
 here : ∀ i x, i < j → ds[i]? = some x → U i = true → 0 ≤ xl x v → yZ out (xl x v)
section
variable {ds : List Dv} {U : Nat → Bool} {S : Int → Bool} {src wait : List Int} {out : List Bool} {v : Int} {j : Nat}
theorem td.start (h : ∀ v, yZ out v ↔ v ∈ src) : td ds U S src out src :=
 ⟨fun v hv => .base ((h v).1 hv), fun v hv => (h v).2 hv, fun v hv => (h v).2 hv, fun u hu hn => absurd ((h u).1 hu) hn⟩
theorem td.enter (h : td ds U S src out wait) (hv : wait.head? = some v) : rh ds U S src v 0 out wait :=
 ⟨h.sound, h.waits, h.srcs, h.done, hv, fun i x hi => absurd hi (by omega)⟩
theorem td.stop (h : td ds U S src out (v :: wait)) (hs : S v = true) : td ds U S src out wait :=
 ⟨h.sound, fun u hu => h.waits u (List.mem_cons_of_mem _ hu), h.srcs, fun u hu hn hsu i x hx hU h0 => by
  refine h.done u hu (fun hm => ?_) hsu i x hx hU h0
  rcases List.mem_cons.1 hm with rfl | hm
  ·rw [hs] at hsu; cases hsu
  ·exact hn hm⟩
theorem rh.leave (h : rh ds U S src v j out (v :: wait)) (hj : ds.length ≤ j) : td ds U S src out wait :=
 ⟨h.sound, fun u hu => h.waits u (List.mem_cons_of_mem _ hu), h.srcs, fun u hu hn hsu i x hx hU h0 => by
  by_cases huv : u = v
  ·subst huv
   exact h.here i x (Nat.lt_of_lt_of_le (List.getElem?_eq_some_iff.1 hx).1 hj) hx hU h0
  ·refine h.done u hu (fun hm => ?_) hsu i x hx hU h0
   rcases List.mem_cons.1 hm with e | hm
   ·exact huv e
   ·exact hn hm⟩
theorem rh.pass (h : rh ds U S src v j out wait) {x : Dv} (hx : ds[j]? = some x) (hp : U j = true → 0 ≤ xl x v → yZ out (xl x v)) : rh ds U S src v (j + 1) out wait :=
 ⟨h.sound, h.waits, h.srcs, h.done, h.head, fun i y hi hy hU h0 => by
  rcases Nat.lt_succ_iff_lt_or_eq.1 hi with hi | rfl
  ·exact h.here i y hi hy hU h0
  ·obtain rfl : y = x := Option.some.inj (hy.symm.trans hx)
   exact hp hU h0⟩
theorem rh.push (h : rh ds U S src v j out wait) {x : Dv} (hx : ds[j]? = some x) {k : Nat} (hk : xl x v = k) (hkl : k < out.length) (hU : U j = true) (hS : S v = false) : rh ds U S src v (j + 1) (out.set k true) (wait ++ [(k : Int)]) := by
 have hv : yZ out v := h.waits v (List.mem_of_mem_head? h.head)
 have hm := fun u => sq (out := out) hkl u
 refine ⟨fun u hu => ?_, fun u hu => ?_, fun u hu => (hm u).2 (.inr (h.srcs u hu)), fun u hu hn hsu i y hy hUi h0 => ?_, ?_, fun i y hi hy hUi h0 => ?_⟩
 ·rcases (hm u).1 hu with rfl | hu
  ·rw [← hk]; exact .step (h.sound v hv) hS hx hU (by omega)
  ·exact h.sound u hu
 ·rcases List.mem_append.1 hu with hu | hu
  ·exact (hm u).2 (.inr (h.waits u hu))
  ·exact (hm u).2 (.inl (List.mem_singleton.1 hu))
 ·rcases (hm u).1 hu with rfl | hu
  ·exact absurd (List.mem_append_right _ (List.mem_singleton.2 rfl)) hn
  ·exact (hm _).2 (.inr (h.done u hu (fun hw => hn (List.mem_append_left _ hw)) hsu i y hy hUi h0))
 ·have := h.head
  cases wait with
  | nil => simp at this
  | cons a l => simpa using this
 ·rcases Nat.lt_succ_iff_lt_or_eq.1 hi with hi | rfl
  ·exact (hm _).2 (.inr (h.here i y hi hy hUi h0))
  ·obtain rfl : y = x := Option.some.inj (hy.symm.trans hx)
   exact (hm _).2 (.inl hk)
theorem td.final (h : td ds U S src out []) : ∀ v, yZ out v ↔ Rch ds U S src v := by
 intro v
 refine ⟨h.sound v, fun hr => ?_⟩
 induction hr with
 | base hv => exact h.srcs _ hv
 | step _ hs hx hU h0 ih => exact h.done _ ih (by simp) hs _ _ hx hU h0
end
end
section
open Go.RowKit
section
variable {P : Program} {w : World} {t e : TypeId} {bytes base n c : Nat} {A : Option Addr} {xs : List Value}
theorem lQ (E : xV P t e 1 bytes) (ty : TypeId) (h : Que w base e A n c xs) (hbase : base ≤ w.heap.size) {u : Value} {ad : Addr} {cx : Nat} (hu : w.cell? ad = some u) (h1 : u.oneCell' = true) (hby : (n + 1) * bytes ≤ 140737488355328) (h63 : n + 1 ≤ 9223372036854775807) :
 ∃ A' c' w', (Builtin.append_ #[t, t] ty #[.slice A n c, .slice (some ad) 1 cx]).run P w = .ok (.slice A' (n + 1) c') w' ∧ Que w' base e A' (n + 1) c' (xs ++ [u]) ∧ w.grownBy w' (Value.slice A n c).ownBlock ∧
  ((Value.slice A' (n + 1) c').ownBlock = (Value.slice A n c).ownBlock ∨ (Value.slice A' (n + 1) c').ownBlock = some w.heap.size) := by
 obtain ⟨ht, ⟨i, z, hi, hz, hs, hb, hzc⟩, hp⟩ := E
 obtain ⟨q1, q2, q3, q4, q5⟩ := h
 have hz0 : ad.add 0 = ad := by cases ad with | mk b o s => cases s <;> simp [Addr.add]
 have hsrc : Src P i.size t (.slice (some ad) 1 cx) 1 [u] w := by
  rw [hs]
  refine Src.ofSlice w ht ad 1 cx [u] rfl (fun j v hv => ?_) (by simpa using h1)
  cases j with
  | zero => simp at hv; subst hv; rw [hz0]; exact hu
  | succ j => simp at hv
 by_cases hr : n + 1 ≤ c
 ·obtain ⟨g, off, cur, rfl, hh, ho, hx⟩ := q5 (by omega)
  have hcell : ∀ k, w.cell? ⟨g, k, none⟩ = cur[k]? := fun k => cell_of_row w g k cur e (0, 0) hh
  have hrun := run_append_room_src w t t ty e i ht hi g off n c _ 1 [u] hsrc hr (fun j hj => by
   simp at hj; subst hj
   rw [hcell, hs]; simp; omega) (fun j hj => frozen_of_row w g _ cur e hh)
  rw [hs] at hrun
  simp only [Nat.mul_one, World.setCells] at hrun
  refine ⟨_, c, _, hrun, ⟨by simp [q1], hr, q3, fun a ha => ?_, fun _ => ⟨g, off, cur.setIfInBounds (off + n) u, rfl, heap_setCell_same w g _ cur e u hh, by simpa using ho, fun j v hv => ?_⟩⟩, yE w _ _, .inl rfl⟩
  ·have := q4 a ha
   simpa [World.setCell] using this
  ·rcases Nat.lt_or_ge j n with hj | hj
   ·rw [List.getElem?_append_left (by omega)] at hv
    rw [Array.getElem?_setIfInBounds, if_neg (by omega)]
    exact hx j v hv
   ·have hj' : j = n := by
     have := (List.getElem?_eq_some_iff.1 hv).1
     simp at this; omega
    subst hj'
    rw [← q1] at hv
    simp at hv
    subst hv
    rw [Array.getElem?_setIfInBounds, if_pos rfl, if_pos (by omega)]
 ·have hold : (Builtin.firstCells i.size n (.slice A n c)).run P w.drew = .ok xs.toArray w.drew := by
   rw [hs]
   rcases Nat.eq_zero_or_pos c with h0 | h0
   ·have hn0 : n = 0 := by omega
    subst hn0
    have hx0 : xs = [] := List.eq_nil_of_length_eq_zero q1
    subst hx0
    cases A with
    | none => exact run_firstCells_none _ _ _ _ _
    | some a => exact run_firstCells_some _ _ _ a _ _ [] rfl (fun j v hv => by simp at hv)
   ·obtain ⟨g, off, cur, rfl, hh, ho, hx⟩ := q5 h0
    refine run_firstCells_some _ _ _ _ _ _ xs (by omega) (fun j v hv => ?_)
    rw [xd]
    exact (cell_of_row w g _ cur e (0, 0) hh).trans (hx j v hv)
  have hcap := nextslicecap_le (need := n + 1) (old := c) (by omega)
  have hfit : Builtin.nextslicecap (n + 1) c * i.bytes ≤ 281474976710656 := by
   rw [hb]
   calc Builtin.nextslicecap (n + 1) c * bytes ≤ (2 * (n + 1)) * bytes := Nat.mul_le_mul_right _ hcap
    _ ≤ 281474976710656 := by rw [Nat.mul_assoc]; omega
  have hrun := run_append_grow_src w t t ty e i z ht hi hz A n c xs hold _ 1 [u] hsrc (by omega) (by omega) hfit
  have hge := grownCap_ge w (n + 1) c e
  have hle := grownCap_le_maxLen w (n + 1) c e (by simpa [maxLen] using h63)
  refine ⟨_, _, _, hrun, ⟨by simp [q1], hge, by simpa [maxLen] using hle, fun a ha => ?_, fun _ => ⟨w.heap.size, 0, _, rfl, heap_alloc_new w.drew _, ?_, fun j v hv => ?_⟩⟩, ?_, .inr rfl⟩
  ·injection ha with ha
   subst ha
   exact ⟨hbase, by simp⟩
  ·have hzs : (Builtin.zeroCells z.cells (grownCap w (n + 1) c e - (n + 1))).size = grownCap w (n + 1) c e - (n + 1) := by
    rw [size_zeroCells, hzc]; omega
   simp [q1, hzs]; omega
  ·rw [Nat.zero_add, Array.getElem?_append_left (by have := (List.getElem?_eq_some_iff.1 hv).1; simpa using this)]
   simpa using hv
  ·exact ⟨rfl, rfl, rfl, by simp, fun k hk _ => Below.heap_alloc w.drew _ k hk⟩
variable {o : Oper} {a : Act}
theorem pG {ops : Array Oper} {rest : List Oper} {Q : Exit → Act → World → Prop} (hgd : o.guard = none) (s x : Operand) (ho : o.op = .call { callee := .builtin .append, args := #[s, x], argTypes := #[t, t] })
 (E : xV P t e 1 bytes) (hs : a.eval s = .slice A n c) (h : Que w base e A n c xs) (hbase : base ≤ w.heap.size) {u : Value} {ad : Addr} {cx : Nat} (hx : a.eval x = .slice (some ad) 1 cx) (hu : w.cell? ad = some u) (h1 : u.oneCell' = true) (hby : (n + 1) * bytes ≤ 140737488355328) (h63 : n + 1 ≤ 9223372036854775807)
 (hK : ∀ A' c' w', Que w' base e A' (n + 1) c' (xs ++ [u]) → w.grownBy w' (Value.slice A n c).ownBlock → ((Value.slice A' (n + 1) c').ownBlock = (Value.slice A n c).ownBlock ∨ (Value.slice A' (n + 1) c').ownBlock = some w.heap.size) → wpList P ops Q rest (a.put o.dst (.slice A' (n + 1) c')) w') : wpList P ops Q (o :: rest) a w := by
 refine wpList_plain hgd fun K hK' => ?_
 obtain ⟨A', c', w', hr, h2, h3, h4⟩ := lQ E o.type h hbase (cx := cx) hu h1 hby h63
 unfold Oper.wp execOp
 simp only [ho, resolve, invoke, builtin, Sem.run_bind, Sem.run_pure, Result.andThen_ok, List.map_toArray, List.map_cons, List.map_nil, hs, hx, hr]
 exact hK' _ _ (hK A' c' w' h2 h3 h4)
end
end
section
section
variable {P : Program} {ops : Array Oper} {Q : Exit → Act → World → Prop} {md : Region.Mode} {S : World → Prop} {J : List Nat}
def ve (md : Region.Mode) (ops : Array Oper) (i : Nat) : Nat → Nat → Bool
 | 0, _ => false
 | f + 1, j => match ops[j]? with
  | some oj => oj.after.any fun e => Region.binds md e && (e.on == i || ve md ops i f e.on)
  | none => false
def uJ (md : Region.Mode) (ops : Array Oper) (listed : Array Bool) : Prop :=
 ∀ j oj, ops[j]? = some oj → listed.getD j false = true → ∀ e ∈ oj.after, Region.binds md e = true → listed.getD e.on false = true
theorem rK {listed : Array Bool} (hc : uJ md ops listed) {i : Nat} (hi : listed.getD i false = false) : ∀ (f k : Nat), listed.getD k false = true → ve md ops i f k = true → False
 | 0, _, _, h => by simp [ve] at h
 | f + 1, k, hk, h => by
  unfold ve at h
  split at h
  ·next ok hok =>
   obtain ⟨e, he, hb⟩ := Array.any_eq_true'.1 h
   simp only [Bool.and_eq_true, Bool.or_eq_true, beq_iff_eq] at hb
   have hl := hc k ok hok hk e he hb.1
   rcases hb.2 with h2 | h2
   ·rw [h2, hi] at hl; cases hl
   ·exact rK hc hi f e.on hl h2
  ·cases h
theorem lA {listed : Array Bool} (hc : uJ md ops listed) {i j f : Nat} (hi : listed.getD i false = false) (hj : j ∈ Region.ready md ops listed) : ve md ops i f j = true → False := by
 intro h
 obtain ⟨_, oj, hoj, hall⟩ := mem_ready.1 hj
 cases f with
 | zero => simp [ve] at h
 | succ f =>
  unfold ve at h
  rw [hoj] at h
  obtain ⟨e, he, hb⟩ := Array.any_eq_true'.1 h
  simp only [Bool.and_eq_true, Bool.or_eq_true, beq_iff_eq] at hb
  have hl := hall e he hb.1
  rcases hb.2 with h2 | h2
  ·rw [h2, hi] at hl; cases hl
  ·exact rK hc hi f e.on hl h2
theorem nO {listed : Array Bool} (hc : uJ md ops listed) {i : Nat} (hi : i ∈ Region.ready md ops listed) : uJ md ops (listed.setIfInBounds i true) := by
 obtain ⟨_, oi, hoi, hall⟩ := mem_ready.1 hi
 intro j oj hj hl e he hb
 by_cases hij : i = j
 ·subst hij
  have : oj = oi := Option.some.inj (hj.symm.trans hoi)
  subst this
  exact getD_set_true (hall e he hb)
 ·rw [getD_set_ne false hij] at hl
  exact getD_set_true (hc j oj hj hl e he hb)
def zb (P : Program) (md : Region.Mode) (ops : Array Oper) (Q : Exit → Act → World → Prop) (S : World → Prop) (J : List Nat) : Nat → Array Bool → Act → World → Prop
 | 0, listed, a, w => Region.ready md ops listed = [] ∧ Q .normal a w
 | fuel + 1, listed, a, w =>
  (Region.ready md ops listed = [] → Q .normal a w) ∧
  ∀ i ∈ Region.ready md ops listed, wpOp P ops Q i (fun a' w' => (J.contains i = false → S w') ∧ zb P md ops Q S J fuel (listed.setIfInBounds i true) a' w') a w
theorem sN : ∀ (fuel : Nat) (listed : Array Bool) (a : Act) (w : World), zb P md ops Q S J fuel listed a w → wpAny P md ops Q fuel listed a w
 | 0, _, _, _, h => h
 | fuel + 1, _, _, _, h => ⟨h.1, fun i hi => wpOp_mono (fun a' w' h' => sN fuel _ a' w' h'.2) (h.2 i hi)⟩
theorem qR {i f : Nat} {oi : Oper} {v : Value} (hi : ops[i]? = some oi) (hsel : ∀ (j : Nat) (o : Oper) cs b, ops[j]? = some o → o.op ≠ .select cs b)
 (hQ : ∀ c a w, Q (.panic c) (a.put oi.dst v) w → Q (.panic c) a w) (hJ : ∀ j ∈ J, ve md ops i f j = true) :
 ∀ (fuel : Nat) (listed : Array Bool) (a : Act) (w : World), uJ md ops listed →
  (∀ j oj, ops[j]? = some oj → j ≠ i → listed.getD j true = false → (∀ e ∈ oj.after, Region.binds md e = true → e.on ≠ i) → oi.apart ops oj = true) →
  i ∈ Region.ready md ops listed → YieldsIf P ops S oi v a → S w →
  zb P md ops Q S J fuel (listed.setIfInBounds i true) (a.put oi.dst v) w → zb P md ops Q S J (fuel + 1) listed a w := by
 intro fuel
 induction fuel with
 | zero =>
  intro listed a w _ _ hr hy hS H
  refine ⟨fun h => (by rw [h] at hr; cases hr), fun j hj => ?_⟩
  by_cases hji : j = i
  ·subst hji; exact hy.wpOp hi hS ⟨fun _ => hS, H⟩
  ·have := ready_mono hj hji
   rw [H.1] at this
   cases this
 | succ fuel ih =>
  intro listed a w hc hfree hr hy hS H
  have hun : listed.getD i false = false := getD_both (mem_ready.1 hr).1
  refine ⟨fun h => (by rw [h] at hr; cases hr), fun j hj => ?_⟩
  by_cases hji : j = i
  ·subst hji; exact hy.wpOp hi hS ⟨fun _ => hS, H⟩
  ·have h1 := H.2 j (ready_mono hj hji)
   have hjJ : J.contains j = false := by
    rcases hb : J.contains j with _ | _
    ·rfl
    ·exact (lA hc hun hj (hJ j (by simpa using hb))).elim
   obtain ⟨hjun, oj, hoj, hall⟩ := mem_ready.1 hj
   have hnot : ∀ e ∈ oj.after, Region.binds md e = true → e.on ≠ i := fun e he hb heq => by
    have h1 := hall e he hb
    rw [heq, hun] at h1
    cases h1
   have h2 := wpOp_putIf hoj (hfree j oj hoj hji hjun hnot) (fun cs b => hsel i oi cs b hi) (fun cs b => hsel j oj cs b hoj) hQ hy h1
   have hfree' : ∀ k ok, ops[k]? = some ok → k ≠ i → (listed.setIfInBounds j true).getD k true = false →
    (∀ e ∈ ok.after, Region.binds md e = true → e.on ≠ i) → oi.apart ops ok = true := fun k ok hk hki hun hno => by
    refine hfree k ok hk hki ?_ hno
    by_cases hjk : j = k
    ·subst hjk; exact hjun
    ·rw [getD_set_ne true hjk] at hun; exact hun
   refine wpOp_mono (fun a' w' h3 => ⟨fun _ => h3.2.1 hjJ, ih (listed.setIfInBounds j true) a' w' (nO hc hj) hfree' (ready_mono hr (Ne.symm hji)) h3.1 (h3.2.1 hjJ) ?_⟩) h2
   rw [Array.setIfInBounds_comm _ _ hji]
   exact h3.2.2
def xj (md : Region.Mode) (ops : Array Oper) (listed : Array Bool) : Bool :=
 (List.range ops.size).all fun j => !listed.getD j false || ((ops[j]?).map fun oj => oj.after.all fun e => !Region.binds md e || listed.getD e.on false).getD true
theorem oL {listed : Array Bool} (h : xj md ops listed = true) : uJ md ops listed := by
 intro j oj hj hl e he hb
 have hjs : j < ops.size := (Array.getElem?_eq_some_iff.1 hj).1
 have := List.all_eq_true.1 h j (List.mem_range.2 hjs)
 rw [hl, hj] at this
 simp only [Bool.not_true, Bool.false_or, Option.map_some, Option.getD_some] at this
 have := Array.all_eq_true'.1 this e he
 rw [hb] at this
 simpa using this
theorem vh {i : Nat} {oi : Oper} {d : Option Tmp} {v : Value} {fuel : Nat} {listed : Array Bool} {a : Act} {w : World} (hi : ops[i]? = some oi) (hd : oi.dst = d)
 (hs : Region.noSelect ops = true) (hf : Region.free md ops listed i = true) (hr : (Region.ready md ops listed).contains i = true) (hc : xj md ops listed = true) (hJ : J.all (ve md ops i ops.size) = true)
 (hQ : ∀ c a w, Q (.panic c) (a.put oi.dst v) w → Q (.panic c) a w) (hy : YieldsIf P ops S oi v a) (hS : S w)
 (h : zb P md ops Q S J fuel (listed.setIfInBounds i true) (a.put d v) w) : zb P md ops Q S J (fuel + 1) listed a w := by
 subst hd
 exact qR (f := ops.size) hi (Region.noSelect_spec hs) hQ (List.all_eq_true.1 hJ) fuel listed a w (oL hc) (Region.free_spec hi hf) (by simpa using hr) hy hS h
theorem yM {k : Nat} {o : Oper} {fuel : Nat} {listed : Array Bool} {a : Act} {w : World} (hr : Region.ready md ops listed = [k]) (ho : ops[k]? = some o)
 (h : ∀ K' : Act → World → Prop, Shut (∀ a w, (J.contains k = false → S w) → ((J.contains k = false → S w) → zb P md ops Q S J fuel (listed.setIfInBounds k true) a w) → K' a w) → if Region.wanted o (yielded ops a.tmps) = true then Oper.wp P o a w K' Q else K' (a.put o.dst undef) w) :
 zb P md ops Q S J (fuel + 1) listed a w := by
 refine ⟨fun h0 => (by rw [hr] at h0; cases h0), fun i hi => ?_⟩
 rw [hr] at hi
 obtain rfl := List.mem_singleton.1 hi
 exact wpOp_step ho (fun K' hK => h K' (fun a w hS hW => hK a w ⟨hS, hW hS⟩))
theorem zC {listed : Array Bool} {a : Act} {w : World} (hr : Region.ready md ops listed = []) (h : Q .normal a w) : ∀ fuel, zb P md ops Q S J fuel listed a w
 | 0 => ⟨hr, h⟩
 | _ + 1 => ⟨fun _ => h, by rw [hr]; simp⟩
theorem zF {id : Nat} {a : Act} {w : World} (hm : P.follows .mixedOrders = true) (hS : S w.drew)
 (h : S w.drew → zb P .any ops Q S J ops.size (Array.replicate ops.size false) a w.drew) : (Code.region id ops true).wp P Q a w :=
 wp_region_any hm (sN _ _ _ _ (h hS))
end
theorem yX {P : Program} {w : World} {t e : TypeId} {size bytes : Nat} {o : Oper} {a : Act} {d : Option Tmp} {ops : Array Oper} {K : Act → World → Prop} {Q : Exit → Act → World → Prop} {F : Prop} (hd : o.dst = d) (hgd : o.guard = none) (s x : Operand) (ho : o.op = .call { callee := .builtin .append, args := #[s, x], argTypes := #[t, t] })
 (E : xV P t e size bytes) {base : Nat} {v : Value} {n : Nat} {xs : List Value} (hs : a.eval s = v) (hown : w.ownsRow base e size v n xs) {Bx : Nat} {Ax : Option Addr} {m c : Nat} {news : List Value} (hx : a.eval x = .slice Ax m c) (hsrc : Sl w Bx size Ax m c news)
 (h1 : ∀ u ∈ news, u.oneCell' = true) (hby : (n + m) * bytes ≤ 140737488355328) (h63 : n + m ≤ 9223372036854775807) (hbase : base ≤ w.heap.size)
 (h : ∀ A' cap w', w'.ownsRow base e size (.slice A' (n + m) cap) (n + m) (xs ++ news) → w.grownBy w' v.ownBlock → ((Value.slice A' (n + m) cap).ownBlock = v.ownBlock ∨ (Value.slice A' (n + m) cap).ownBlock = some w.heap.size) → K (a.put d (.slice A' (n + m) cap)) w') :
 if Region.wanted o (yielded ops a.tmps) = true then Oper.wp P o a w K Q else F := by
 subst hd
 exact lN hgd s x ho E hs hown hx hsrc h1 hby h63 hbase h
end
section
section
variable {P : Program} {ops : Array Oper} {Q : Exit → Act → World → Prop} {md : Region.Mode} {S S' : World → Prop} {J : List Nat}
theorem te {k : Nat} {o : Oper} {fuel : Nat} {listed : Array Bool} {a : Act} {w : World} (ho : ops[k]? = some o)
 (h : ∀ K' : Act → World → Prop, Shut (∀ a w, (J.contains k = false → S w) → ((J.contains k = false → S w) → zb P md ops Q S J fuel (listed.setIfInBounds k true) a w) → K' a w) → if Region.wanted o (yielded ops a.tmps) = true then Oper.wp P o a w K' Q else K' (a.put o.dst undef) w) :
 wpOp P ops Q k (fun a' w' => (J.contains k = false → S w') ∧ zb P md ops Q S J fuel (listed.setIfInBounds k true) a' w') a w :=
 wpOp_step ho (fun K' hK => h K' (fun a w hS hW => hK a w ⟨hS, hW hS⟩))
theorem uQ {i k : Nat} {oi ok : Oper} {fuel : Nat} {listed : Array Bool} {a : Act} {w : World} (hr : Region.ready md ops listed = [i, k]) (hoi : ops[i]? = some oi) (hok : ops[k]? = some ok)
 (h1 : ∀ K' : Act → World → Prop, Shut (∀ a w, (J.contains i = false → S w) → ((J.contains i = false → S w) → zb P md ops Q S J fuel (listed.setIfInBounds i true) a w) → K' a w) → if Region.wanted oi (yielded ops a.tmps) = true then Oper.wp P oi a w K' Q else K' (a.put oi.dst undef) w)
 (h2 : ∀ K' : Act → World → Prop, Shut (∀ a w, (J.contains k = false → S w) → ((J.contains k = false → S w) → zb P md ops Q S J fuel (listed.setIfInBounds k true) a w) → K' a w) → if Region.wanted ok (yielded ops a.tmps) = true then Oper.wp P ok a w K' Q else K' (a.put ok.dst undef) w) :
 zb P md ops Q S J (fuel + 1) listed a w := by
 refine ⟨fun h0 => (by rw [hr] at h0; cases h0), fun j hj => ?_⟩
 rw [hr] at hj
 rcases List.mem_cons.1 hj with rfl | hj
 ·exact te hoi h1
 ·obtain rfl := List.mem_singleton.1 hj
  exact te hok h2
theorem tf (hS : ∀ w, S' w → S w) : ∀ (fuel : Nat) (listed : Array Bool) (a : Act) (w : World), zb P md ops Q S' J fuel listed a w → zb P md ops Q S J fuel listed a w
 | 0, _, _, _, h => h
 | fuel + 1, _, _, _, h => ⟨h.1, fun i hi => wpOp_mono (fun a' w' h' => ⟨fun hj => hS _ (h'.1 hj), tf hS fuel _ a' w' h'.2⟩) (h.2 i hi)⟩
theorem vi (S' : World → Prop) (hS : ∀ w, S' w → S w) {fuel : Nat} {listed : Array Bool} {a : Act} {w : World} (h0 : S' w) (h : S' w → zb P md ops Q S' J fuel listed a w) : zb P md ops Q S J fuel listed a w := tf hS _ _ _ _ (h h0)
theorem xI {i : Nat} {oi : Oper} {d : Option Tmp} {v : Value} {fuel : Nat} {listed : Array Bool} (L : Array Bool) {a : Act} {w : World} (hl : listed.setIfInBounds i true = L) (hi : ops[i]? = some oi) (hd : oi.dst = d)
 (hs : Region.noSelect ops = true) (hf : Region.free md ops listed i = true) (hr : (Region.ready md ops listed).contains i = true) (hc : xj md ops listed = true) (hJ : J.all (ve md ops i ops.size) = true)
 (hQ : ∀ c a w, Q (.panic c) (a.put oi.dst v) w → Q (.panic c) a w) (hy : YieldsIf P ops S oi v a) (hS : S w)
 (h : zb P md ops Q S J fuel L (a.put d v) w) : zb P md ops Q S J (fuel + 1) listed a w := by
 subst hl
 exact vh hi hd hs hf hr hc hJ hQ hy hS h
abbrev tt : Bool := true
abbrev ff : Bool := false
def ma (n k : Nat) : Array Bool := ((List.range n).map fun i => k.testBit i).toArray
def mf (n k : Nat) : Array Bool := ((List.range n).map fun i => Nat.blt i k).toArray
theorem sA {α : Type} (l : List α) (i : Nat) (a : α) : l.toArray.setIfInBounds i a = (l.set i a).toArray := List.setIfInBounds_toArray ..
theorem sB {α : Type} (x : α) (l : List α) (y : α) : (x :: l).set 0 y = y :: l := List.set_cons_zero
theorem sC {α : Type} (x : α) (l : List α) (n : Nat) (y : α) : (x :: l).set (n + 1) y = x :: l.set n y := List.set_cons_succ
theorem tk (i d : Nat) {oi : Oper} {v : Value} {fuel : Nat} {listed : Array Bool} (L : Array Bool) {a a' : Act} {w : World} (hS : S w) (h : zb P md ops Q S J fuel L a' w)
 (hi : ops[i]? = some oi := by rfl) (hd : oi.dst = some d := by rfl) (hy : ∀ w, S w → (execOp a.eval oi).run P w = .ok (.value v) w := by intro w hSw; (try dsimp only at hSw); go_simp; try with_reducible rfl) (hp : a.put (some d) v = a' := by (try simp only [Act.put, sA, sB, sC]); rfl) (hw : Region.wanted oi (yielded ops a.tmps) = true := by rfl) (hl : listed.setIfInBounds i true = L := by kernel_rfl) (hs : Region.noSelect ops = true := by kernel_rfl) (hf : Region.free md ops listed i = true := by kernel_rfl) (hr : (Region.ready md ops listed).contains i = true := by kernel_rfl) (hc : xj md ops listed = true := by kernel_rfl) (hJ : J.all (ve md ops i ops.size) = true := by kernel_rfl) (hQ : ∀ c a w, Q (.panic c) (a.put oi.dst v) w → Q (.panic c) a w := by exact fun _ _ _ h => h) : zb P md ops Q S J (fuel + 1) listed a w :=
 xI L hl hi hd hs hf hr hc hJ hQ (Or.inl ⟨hw, hy⟩) hS (hp ▸ h)
theorem tv (i d : Nat) {oi : Oper} {v : Value} {fuel : Nat} {listed : Array Bool} (L : Array Bool) {a a' : Act} {w : World} (hS : S w) (hy : ∀ w, S w → (execOp a.eval oi).run P w = .ok (.value v) w) (h : zb P md ops Q S J fuel L a' w)
 (hi : ops[i]? = some oi := by rfl) (hd : oi.dst = some d := by rfl) (hp : a.put (some d) v = a' := by (try simp only [Act.put, sA, sB, sC]); rfl) (hw : Region.wanted oi (yielded ops a.tmps) = true := by rfl) (hl : listed.setIfInBounds i true = L := by kernel_rfl) (hs : Region.noSelect ops = true := by kernel_rfl) (hf : Region.free md ops listed i = true := by kernel_rfl) (hr : (Region.ready md ops listed).contains i = true := by kernel_rfl) (hc : xj md ops listed = true := by kernel_rfl) (hJ : J.all (ve md ops i ops.size) = true := by kernel_rfl) (hQ : ∀ c a w, Q (.panic c) (a.put oi.dst v) w → Q (.panic c) a w := by exact fun _ _ _ h => h) : zb P md ops Q S J (fuel + 1) listed a w :=
 xI L hl hi hd hs hf hr hc hJ hQ (Or.inl ⟨hw, hy⟩) hS (hp ▸ h)
theorem ts (i d : Nat) {oi : Oper} {fuel : Nat} {listed : Array Bool} (L : Array Bool) {a a' : Act} {w : World} (hS : S w) (h : zb P md ops Q S J fuel L a' w)
 (hi : ops[i]? = some oi := by rfl) (hd : oi.dst = some d := by rfl) (hp : a.put (some d) undef = a' := by (try simp only [Act.put, sA, sB, sC]); rfl) (hw : Region.wanted oi (yielded ops a.tmps) = false := by rfl) (hl : listed.setIfInBounds i true = L := by kernel_rfl) (hs : Region.noSelect ops = true := by kernel_rfl) (hf : Region.free md ops listed i = true := by kernel_rfl) (hr : (Region.ready md ops listed).contains i = true := by kernel_rfl) (hc : xj md ops listed = true := by kernel_rfl) (hJ : J.all (ve md ops i ops.size) = true := by kernel_rfl) (hQ : ∀ c a w, Q (.panic c) (a.put oi.dst undef) w → Q (.panic c) a w := by exact fun _ _ _ h => h) : zb P md ops Q S J (fuel + 1) listed a w :=
 xI L hl hi hd hs hf hr hc hJ hQ (Or.inr ⟨hw, rfl⟩) hS (hp ▸ h)
theorem tj (i d : Nat) {oi : Oper} {v : Value} {fuel : Nat} {listed : Array Bool} {a a' : Act} {w : World} (hS : S w) (h : zb P md ops Q S J fuel (listed.setIfInBounds i true) a' w)
 (hi : ops[i]? = some oi := by rfl) (hd : oi.dst = some d := by rfl) (hy : ∀ w, S w → (execOp a.eval oi).run P w = .ok (.value v) w := by intro w hSw; (try dsimp only at hSw); go_simp; try with_reducible rfl) (hp : a.put (some d) v = a' := by (try simp only [Act.put, sA, sB, sC]); rfl) (hw : Region.wanted oi (yielded ops a.tmps) = true := by rfl) (hs : Region.noSelect ops = true := by kernel_rfl) (hf : Region.free md ops listed i = true := by kernel_rfl) (hr : (Region.ready md ops listed).contains i = true := by kernel_rfl) (hc : xj md ops listed = true := by kernel_rfl) (hJ : J.all (ve md ops i ops.size) = true := by kernel_rfl) (hQ : ∀ c a w, Q (.panic c) (a.put oi.dst v) w → Q (.panic c) a w := by exact fun _ _ _ h => h) : zb P md ops Q S J (fuel + 1) listed a w :=
 xI _ rfl hi hd hs hf hr hc hJ hQ (Or.inl ⟨hw, hy⟩) hS (hp ▸ h)
theorem tx (i d : Nat) {oi : Oper} (v : Value) {fuel : Nat} {listed : Array Bool} (L : Array Bool) {a : Act} {w : World} (hy : ∀ w, S w → (execOp a.eval oi).run P w = .ok (.value v) w) (hS : S w) (h : zb P md ops Q S J fuel L (a.put (some d) v) w)
 (hi : ops[i]? = some oi := by rfl) (hd : oi.dst = some d := by rfl) (hw : Region.wanted oi (yielded ops a.tmps) = true := by rfl) (hl : listed.setIfInBounds i true = L := by kernel_rfl) (hs : Region.noSelect ops = true := by kernel_rfl) (hf : Region.free md ops listed i = true := by kernel_rfl) (hr : (Region.ready md ops listed).contains i = true := by kernel_rfl) (hc : xj md ops listed = true := by kernel_rfl) (hJ : J.all (ve md ops i ops.size) = true := by kernel_rfl) (hQ : ∀ c a w, Q (.panic c) (a.put oi.dst v) w → Q (.panic c) a w := by exact fun _ _ _ h => h) : zb P md ops Q S J (fuel + 1) listed a w :=
 xI L hl hi hd hs hf hr hc hJ hQ (Or.inl ⟨hw, hy⟩) hS h
theorem ti (i d : Nat) {oi : Oper} (v : Value) {fuel : Nat} {listed : Array Bool} {a : Act} {w : World} (hy : ∀ w, S w → (execOp a.eval oi).run P w = .ok (.value v) w) (hS : S w) (h : zb P md ops Q S J fuel (listed.setIfInBounds i true) (a.put (some d) v) w)
 (hi : ops[i]? = some oi := by rfl) (hd : oi.dst = some d := by rfl) (hw : Region.wanted oi (yielded ops a.tmps) = true := by rfl) (hs : Region.noSelect ops = true := by kernel_rfl) (hf : Region.free md ops listed i = true := by kernel_rfl) (hr : (Region.ready md ops listed).contains i = true := by kernel_rfl) (hc : xj md ops listed = true := by kernel_rfl) (hJ : J.all (ve md ops i ops.size) = true := by kernel_rfl) (hQ : ∀ c a w, Q (.panic c) (a.put oi.dst v) w → Q (.panic c) a w := by exact fun _ _ _ h => h) : zb P md ops Q S J (fuel + 1) listed a w :=
 xI _ rfl hi hd hs hf hr hc hJ hQ (Or.inl ⟨hw, hy⟩) hS h
theorem pH {k : Nat} {o : Oper} {fuel : Nat} {listed : Array Bool} (L : Array Bool) {a : Act} {w : World} (hl : listed.setIfInBounds k true = L) (hr : Region.ready md ops listed = [k]) (ho : ops[k]? = some o)
 (h : ∀ K' : Act → World → Prop, Shut (∀ a w, (J.contains k = false → S w) → ((J.contains k = false → S w) → zb P md ops Q S J fuel L a w) → K' a w) → if Region.wanted o (yielded ops a.tmps) = true then Oper.wp P o a w K' Q else K' (a.put o.dst undef) w) :
 zb P md ops Q S J (fuel + 1) listed a w := by
 subst hl
 exact yM hr ho h
theorem tb (k : Nat) {o : Oper} {fuel : Nat} {listed : Array Bool} (L : Array Bool) {a : Act} {w : World} (h : ∀ K' : Act → World → Prop, Shut (∀ a w, (J.contains k = false → S w) → ((J.contains k = false → S w) → zb P md ops Q S J fuel L a w) → K' a w) → if Region.wanted o (yielded ops a.tmps) = true then Oper.wp P o a w K' Q else K' (a.put o.dst undef) w) (hl : listed.setIfInBounds k true = L := by kernel_rfl) (hr : Region.ready md ops listed = [k] := by kernel_rfl) (ho : ops[k]? = some o := by rfl) : zb P md ops Q S J (fuel + 1) listed a w := pH L hl hr ho h
theorem xZ {i k : Nat} {oi ok : Oper} {fuel : Nat} {listed : Array Bool} (L1 L2 : Array Bool) {a : Act} {w : World} (hl1 : listed.setIfInBounds i true = L1) (hl2 : listed.setIfInBounds k true = L2) (hr : Region.ready md ops listed = [i, k]) (hoi : ops[i]? = some oi) (hok : ops[k]? = some ok)
 (h1 : ∀ K' : Act → World → Prop, Shut (∀ a w, (J.contains i = false → S w) → ((J.contains i = false → S w) → zb P md ops Q S J fuel L1 a w) → K' a w) → if Region.wanted oi (yielded ops a.tmps) = true then Oper.wp P oi a w K' Q else K' (a.put oi.dst undef) w)
 (h2 : ∀ K' : Act → World → Prop, Shut (∀ a w, (J.contains k = false → S w) → ((J.contains k = false → S w) → zb P md ops Q S J fuel L2 a w) → K' a w) → if Region.wanted ok (yielded ops a.tmps) = true then Oper.wp P ok a w K' Q else K' (a.put ok.dst undef) w) :
 zb P md ops Q S J (fuel + 1) listed a w := by
 subst hl1 hl2
 exact uQ hr hoi hok h1 h2
end
end
end Go.Proofs.YtddddlhgaeameaaGreatDoor
