import Derived.Test.YtkkobemhbicjgaaGreatDoorB00
import Derived.Deep.RegionHeld
import Derived.StillTail
import Derived.Deep.QuietTactic
import Derived.BigQuiet
import Derived.Laws.Pointers
import Derived.Deep.DeepCutAuto
import Derived.Shelf.Abstract
set_option maxRecDepth 100000
set_option maxHeartbeats 8000000
namespace Go.Proofs.YtkkobemhbicjgaaGreatDoor
open Go.RowKit Tryz
inductive QU (ds : List Dv) (U : Nat → Bool) (S : Int → Bool) (src : List Int) : Int → Prop
 | base {v : Int} : v ∈ src → QU ds U S src v
 | step {u : Int} {i : Nat} {x : Dv} : QU ds U S src u → S u = false → ds[i]? = some x → U i = true → 0 ≤ xt x u → QU ds U S src (xt x u)
variable {fuel g i k : Nat} {x : Dv} {u v : Value} {listed : Array Bool} {o oi : Oper} {a a' : Act} {w w' : World}
def ye (out : List Bool) (v : Int) : Prop := 0 ≤ v ∧ out[v.toNat]? = some true
def yf (nn : Nat) (ds : List Dv) : Prop := ∀ x ∈ ds, zV x.kind = true → (0 ≤ x.a ∧ x.a < nn) ∧ (0 ≤ x.b ∧ x.b < nn)
def wH (out : List Bool) : Nat := (out.filter (fun b => !b)).length
theorem gL {nn : Nat} {ds : List Dv} (h : yf nn ds) (hx : ds[i]? = some x) (v : Int) (h0 : 0 ≤ xt x v) : xt x v < nn := by
 have hm := h x (List.mem_of_getElem? hx);unfold xt at h0 ⊢;split at h0
 ·omega
 ·rename_i hj
  have := hm (by simpa using hj);rw [if_neg hj];split
  ·omega
  ·split
   ·omega
   ·rename_i h1 h2; rw [if_neg h1, if_neg h2] at h0; omega
theorem ri {out : List Bool} (hk : k < out.length) (v : Int) : ye (out.set k true) v ↔ v = k ∨ ye out v := by
 unfold ye;rw [List.getElem?_set]
 constructor
 ·rintro ⟨h0, h1⟩;split at h1
  ·left; omega
  ·exact .inr ⟨h0, h1⟩
 ·rintro (rfl | ⟨h0, h1⟩)
  ·exact ⟨by omega, by simp [hk]⟩
  ·refine ⟨h0, ?_⟩;split
   ·simp
   ·exact h1
theorem qC : ∀ {out : List Bool} {k : Nat}, out[k]? = some false → wH (out.set k true) + 1 = wH out
 | [], k, h => by simp at h
 | b :: out, 0, h => by simp at h; subst h; simp [wH]
 | b :: out, k + 1, h => by
  simp at h;have := qC h;unfold wH at *;rw [List.set_cons_succ, List.filter_cons, List.filter_cons];split <;> simp_all
theorem lF (n : Nat) (v : Int) : ¬ ye (List.replicate n false) v := by
 rintro ⟨_, h⟩;rw [List.getElem?_replicate] at h;split at h <;> simp at h
structure sV (ds : List Dv) (U : Nat → Bool) (S : Int → Bool) (src : List Int) (out : List Bool) (wait : List Int) : Prop where
 sound : ∀ v, ye out v → QU ds U S src v
 waits : ∀ v ∈ wait, ye out v
 srcs : ∀ v ∈ src, ye out v
 done : ∀ u, ye out u → u ∉ wait → S u = false → ∀ i x, ds[i]? = some x → U i = true → 0 ≤ xt x u → ye out (xt x u)
structure qh (ds : List Dv) (U : Nat → Bool) (S : Int → Bool) (src : List Int) (v : Int) (j : Nat) (out : List Bool) (wait : List Int) : Prop where
 sound : ∀ v, ye out v → QU ds U S src v
 waits : ∀ v ∈ wait, ye out v
 srcs : ∀ v ∈ src, ye out v
 done : ∀ u, ye out u → u ∉ wait → S u = false → ∀ i x, ds[i]? = some x → U i = true → 0 ≤ xt x u → ye out (xt x u)
 head : wait.head? = some v
 here : ∀ i x, i < j → ds[i]? = some x → U i = true → 0 ≤ xt x v → ye out (xt x v)
section
variable {ds : List Dv} {U : Nat → Bool} {S : Int → Bool} {src wait : List Int} {out : List Bool} {v : Int} {j : Nat}
theorem sV.start (h : ∀ v, ye out v ↔ v ∈ src) : sV ds U S src out src :=
 ⟨fun v hv => .base ((h v).1 hv), fun v hv => (h v).2 hv, fun v hv => (h v).2 hv, fun u hu hn => absurd ((h u).1 hu) hn⟩
theorem sV.enter (h : sV ds U S src out wait) (hv : wait.head? = some v) : qh ds U S src v 0 out wait :=
 ⟨h.sound, h.waits, h.srcs, h.done, hv, fun i x hi => absurd hi (by omega)⟩
theorem sV.stop (h : sV ds U S src out (v :: wait)) (hs : S v = true) : sV ds U S src out wait :=
 ⟨h.sound, fun u hu => h.waits u (List.mem_cons_of_mem _ hu), h.srcs, fun u hu hn RD i x hx hU h0 => by
  refine h.done u hu (fun hm => ?_) RD i x hx hU h0;rcases List.mem_cons.1 hm with rfl | hm
  ·rw [hs] at RD; cases RD
  ·exact hn hm⟩
theorem qh.leave (h : qh ds U S src v j out (v :: wait)) (hj : ds.length ≤ j) : sV ds U S src out wait :=
 ⟨h.sound, fun u hu => h.waits u (List.mem_cons_of_mem _ hu), h.srcs, fun u hu hn RD i x hx hU h0 => by
  by_cases AH : u = v
  ·subst AH;exact h.here i x (Nat.lt_of_lt_of_le (List.getElem?_eq_some_iff.1 hx).1 hj) hx hU h0
  ·refine h.done u hu (fun hm => ?_) RD i x hx hU h0;rcases List.mem_cons.1 hm with e | hm
   ·exact AH e
   ·exact hn hm⟩
theorem qh.pass (h : qh ds U S src v j out wait) (hx : ds[j]? = some x) (hp : U j = true → 0 ≤ xt x v → ye out (xt x v)) : qh ds U S src v (j + 1) out wait :=
 ⟨h.sound, h.waits, h.srcs, h.done, h.head, fun i y hi hy hU h0 => by
  rcases Nat.lt_succ_iff_lt_or_eq.1 hi with hi | rfl
  ·exact h.here i y hi hy hU h0
  ·obtain rfl : y = x := Option.some.inj (hy.symm.trans hx);exact hp hU h0⟩
theorem qh.push (h : qh ds U S src v j out wait) (hx : ds[j]? = some x) (hk : xt x v = k) (AU : k < out.length) (hU : U j = true) (hS : S v = false) : qh ds U S src v (j + 1) (out.set k true) (wait ++ [(k : Int)]) := by
 have hv : ye out v := h.waits v (List.mem_of_mem_head? h.head);have hm := fun u => ri (out := out) AU u
 refine ⟨fun u hu => ?_, fun u hu => ?_, fun u hu => (hm u).2 (.inr (h.srcs u hu)), fun u hu hn RD i y hy AG h0 => ?_, ?_, fun i y hi hy AG h0 => ?_⟩
 ·rcases (hm u).1 hu with rfl | hu
  ·rw [← hk]; exact .step (h.sound v hv) hS hx hU (by omega)
  ·exact h.sound u hu
 ·rcases List.mem_append.1 hu with hu | hu
  ·exact (hm u).2 (.inr (h.waits u hu))
  ·exact (hm u).2 (.inl (List.mem_singleton.1 hu))
 ·rcases (hm u).1 hu with rfl | hu
  ·exact absurd (List.mem_append_right _ (List.mem_singleton.2 rfl)) hn
  ·exact (hm _).2 (.inr (h.done u hu (fun hw => hn (List.mem_append_left _ hw)) RD i y hy AG h0))
 ·have := h.head;cases wait with
  | nil => simp at this
  | cons a l => simpa using this
 ·rcases Nat.lt_succ_iff_lt_or_eq.1 hi with hi | rfl
  ·exact (hm _).2 (.inr (h.here i y hi hy AG h0))
  ·obtain rfl : y = x := Option.some.inj (hy.symm.trans hx);exact (hm _).2 (.inl hk)
theorem sV.final (h : sV ds U S src out []) : ∀ v, ye out v ↔ QU ds U S src v := by
 intro v;refine ⟨h.sound v, fun hr => ?_⟩
 induction hr with
 | base hv => exact h.srcs _ hv
 | step _ hs hx hU h0 ih => exact h.done _ ih (by simp) hs _ _ hx hU h0
end
section
variable {P : Program} {w : World} {t e : TypeId} {bytes base n c : Nat} {A : Option Addr} {xs : List Value}
theorem jx (E : xC P t e 1 bytes) (ty : TypeId) (h : FT w base e A n c xs) (CR : base ≤ w.heap.size) {ad : Addr} {cx : Nat} (hu : w.cell? ad = some u) (h1 : u.oneCell' = true) (MC : (n + 1) * bytes ≤ 140737488355328) (LV : n + 1 ≤ 9223372036854775807) :
 ∃ A' c' w', (Builtin.append_ #[t, t] ty #[.slice A n c, .slice (some ad) 1 cx]).run P w = .ok (.slice A' (n + 1) c') w' ∧ FT w' base e A' (n + 1) c' (xs ++ [u]) ∧ w.grownBy w' (Value.slice A n c).ownBlock ∧
  ((Value.slice A' (n + 1) c').ownBlock = (Value.slice A n c).ownBlock ∨ (Value.slice A' (n + 1) c').ownBlock = some w.heap.size) := by
 obtain ⟨ht, ⟨i, z, hi, hz, hs, hb, Qx⟩, hp⟩ := E;obtain ⟨q1, q2, q3, q4, q5⟩ := h;have OQ : ad.add 0 = ad := by cases ad with | mk b o s => cases s <;> simp [Addr.add]
 have Dg : Src P i.size t (.slice (some ad) 1 cx) 1 [u] w := by
  rw [hs];refine Src.ofSlice w ht ad 1 cx [u] rfl (fun j v hv => ?_) (by simpa using h1);cases j with
  | zero => simp at hv; subst hv; rw [OQ]; exact hu
  | succ j => simp at hv
 by_cases hr : n + 1 ≤ c
 ·obtain ⟨g, off, cur, rfl, hh, ho, hx⟩ := q5 (by omega);have hcell : ∀ k, w.cell? ⟨g, k, none⟩ = cur[k]? := fun k => cell_of_row w g k cur e (0, 0) hh
  have hrun := run_append_room_src w t t ty e i ht hi g off n c _ 1 [u] Dg hr (fun j hj => by
   simp at hj; subst hj;rw [hcell, hs]; simp; omega) (fun j hj => frozen_of_row w g _ cur e hh)
  rw [hs] at hrun;simp only [Nat.mul_one, World.setCells] at hrun;refine ⟨_, c, _, hrun, ⟨by simp [q1], hr, q3, fun a ha => ?_, fun _ => ⟨g, off, cur.setIfInBounds (off + n) u, rfl, heap_setCell_same w g _ cur e u hh, by simpa using ho, fun j v hv => ?_⟩⟩, zg w _ _, .inl rfl⟩
  ·have := q4 a ha;simpa [World.setCell] using this
  ·rcases Nat.lt_or_ge j n with hj | hj
   ·rw [List.getElem?_append_left (by omega)] at hv;rw [Array.getElem?_setIfInBounds, if_neg (by omega)];exact hx j v hv
   ·have hj' : j = n := by
     have := (List.getElem?_eq_some_iff.1 hv).1;simp at this; omega
    subst hj';rw [← q1] at hv;simp at hv;subst hv;rw [Array.getElem?_setIfInBounds, if_pos rfl, if_pos (by omega)]
 ·have hold : (Builtin.firstCells i.size n (.slice A n c)).run P w.drew = .ok xs.toArray w.drew := by
   rw [hs];rcases Nat.eq_zero_or_pos c with h0 | h0
   ·have AP : n = 0 := by omega
    subst AP;have OU : xs = [] := List.eq_nil_of_length_eq_zero q1;subst OU;cases A with
    | none => exact run_firstCells_none _ _ _ _ _
    | some a => exact run_firstCells_some _ _ _ a _ _ [] rfl (fun j v hv => by simp at hv)
   ·obtain ⟨g, off, cur, rfl, hh, ho, hx⟩ := q5 h0;refine run_firstCells_some _ _ _ _ _ _ xs (by omega) (fun j v hv => ?_);rw [xi];exact (cell_of_row w g _ cur e (0, 0) hh).trans (hx j v hv)
  have AE := nextslicecap_le (need := n + 1) (old := c) (by omega)
  have AB : Builtin.nextslicecap (n + 1) c * i.bytes ≤ 281474976710656 := by
   rw [hb]
   calc Builtin.nextslicecap (n + 1) c * bytes ≤ (2 * (n + 1)) * bytes := Nat.mul_le_mul_right _ AE
    _ ≤ 281474976710656 := by rw [Nat.mul_assoc]; omega
  have hrun := run_append_grow_src w t t ty e i z ht hi hz A n c xs hold _ 1 [u] Dg (by omega) (by omega) AB;have TV := grownCap_ge w (n + 1) c e;have hle := grownCap_le_maxLen w (n + 1) c e (by simpa [maxLen] using LV);refine ⟨_, _, _, hrun, ⟨by simp [q1], TV, by simpa [maxLen] using hle, fun a ha => ?_, fun _ => ⟨w.heap.size, 0, _, rfl, heap_alloc_new w.drew _, ?_, fun j v hv => ?_⟩⟩, ?_, .inr rfl⟩
  ·injection ha with ha;subst ha;exact ⟨CR, by simp⟩
  ·have AO : (Builtin.zeroCells z.cells (grownCap w (n + 1) c e - (n + 1))).size = grownCap w (n + 1) c e - (n + 1) := by
    rw [size_zeroCells, Qx]; omega
   simp [q1, AO]; omega
  ·rw [Nat.zero_add, Array.getElem?_append_left (by have := (List.getElem?_eq_some_iff.1 hv).1; simpa using this)];simpa using hv
  ·exact ⟨rfl, rfl, rfl, by simp, fun k hk _ => Below.heap_alloc w.drew _ k hk⟩
variable {o : Oper} {a : Act}
theorem oV {ops : Array Oper} {rest : List Oper} {Q : Exit → Act → World → Prop} (RY : o.guard = none) (s x : Operand) (ho : o.op = .call { callee := .builtin .append, args := #[s, x], argTypes := #[t, t] })
 (E : xC P t e 1 bytes) (hs : a.eval s = .slice A n c) (h : FT w base e A n c xs) (CR : base ≤ w.heap.size) {ad : Addr} {cx : Nat} (hx : a.eval x = .slice (some ad) 1 cx) (hu : w.cell? ad = some u) (h1 : u.oneCell' = true) (MC : (n + 1) * bytes ≤ 140737488355328) (LV : n + 1 ≤ 9223372036854775807)
 (hK : ∀ A' c' w', FT w' base e A' (n + 1) c' (xs ++ [u]) → w.grownBy w' (Value.slice A n c).ownBlock → ((Value.slice A' (n + 1) c').ownBlock = (Value.slice A n c).ownBlock ∨ (Value.slice A' (n + 1) c').ownBlock = some w.heap.size) → wpList P ops Q rest (a.put o.dst (.slice A' (n + 1) c')) w') : wpList P ops Q (o :: rest) a w := by
 refine wpList_plain RY fun K hK' => ?_
 obtain ⟨A', c', w', hr, h2, h3, h4⟩ := jx E o.type h CR (cx := cx) hu h1 MC LV;unfold Oper.wp execOp;simp only [ho, resolve, invoke, builtin, Sem.run_bind, Sem.run_pure, Result.andThen_ok, List.map_toArray, List.map_cons, List.map_nil, hs, hx, hr];exact hK' _ _ (hK A' c' w' h2 h3 h4)
end
section
variable {P : Program} {ops : Array Oper} {Q : Exit → Act → World → Prop} {md : Region.Mode} {S : World → Prop} {J : List Nat}
def vv (md : Region.Mode) (ops : Array Oper) (i : Nat) : Nat → Nat → Bool
 | 0, _ => false
 | f + 1, j => match ops[j]? with
  | some oj => oj.after.any fun e => Region.binds md e && (e.on == i || vv md ops i f e.on)
  | none => false
def ua (md : Region.Mode) (ops : Array Oper) (listed : Array Bool) : Prop :=
 ∀ j oj, ops[j]? = some oj → listed.getD j false = true → ∀ e ∈ oj.after, Region.binds md e = true → listed.getD e.on false = true
theorem qM (hc : ua md ops listed) (hi : listed.getD i false = false) : ∀ (f k : Nat), listed.getD k false = true → vv md ops i f k = true → False
 | 0, _, _, h => by simp [vv] at h
 | f + 1, k, hk, h => by
  unfold vv at h;split at h
  ·next ok CP =>
   obtain ⟨e, he, hb⟩ := Array.any_eq_true'.1 h;simp only [Bool.and_eq_true, Bool.or_eq_true, beq_iff_eq] at hb;have hl := hc k ok CP hk e he hb.1;rcases hb.2 with h2 | h2
   ·rw [h2, hi] at hl; cases hl
   ·exact qM hc hi f e.on hl h2
  ·cases h
theorem jd (hc : ua md ops listed) {j f : Nat} (hi : listed.getD i false = false) (hj : j ∈ Region.ready md ops listed) : vv md ops i f j = true → False := by
 intro h;obtain ⟨_, oj, Ur, Dh⟩ := mem_ready.1 hj;cases f with
 | zero => simp [vv] at h
 | succ f =>
  unfold vv at h;rw [Ur] at h;obtain ⟨e, he, hb⟩ := Array.any_eq_true'.1 h;simp only [Bool.and_eq_true, Bool.or_eq_true, beq_iff_eq] at hb;have hl := Dh e he hb.1;rcases hb.2 with h2 | h2
  ·rw [h2, hi] at hl; cases hl
  ·exact qM hc hi f e.on hl h2
theorem lT (hc : ua md ops listed) (hi : i ∈ Region.ready md ops listed) : ua md ops (listed.setIfInBounds i true) := by
 obtain ⟨_, oi, Oe, Dh⟩ := mem_ready.1 hi;intro j oj hj hl e he hb;by_cases JR : i = j
 ·subst JR;have : oj = oi := Option.some.inj (hj.symm.trans Oe);subst this;exact getD_set_true (Dh e he hb)
 ·rw [getD_set_ne false JR] at hl;exact getD_set_true (hc j oj hj hl e he hb)
def zZ (P : Program) (md : Region.Mode) (ops : Array Oper) (Q : Exit → Act → World → Prop) (S : World → Prop) (J : List Nat) : Nat → Array Bool → Act → World → Prop
 | 0, listed, a, w => Region.ready md ops listed = [] ∧ Q .normal a w
 | fuel + 1, listed, a, w =>
  (Region.ready md ops listed = [] → Q .normal a w) ∧
  ∀ i ∈ Region.ready md ops listed, wpOp P ops Q i (fun a' w' => (J.contains i = false → S w') ∧ zZ P md ops Q S J fuel (listed.setIfInBounds i true) a' w') a w
theorem rL : ∀ (fuel : Nat) (listed : Array Bool) (a : Act) (w : World), zZ P md ops Q S J fuel listed a w → wpAny P md ops Q fuel listed a w
 | 0, _, _, _, h => h
 | fuel + 1, _, _, _, h => ⟨h.1, fun i hi => wpOp_mono (fun a' w' h' => rL fuel _ a' w' h'.2) (h.2 i hi)⟩
theorem pj {f : Nat} (hi : ops[i]? = some oi) (Uf : ∀ (j : Nat) (o : Oper) cs b, ops[j]? = some o → o.op ≠ .select cs b)
 (hQ : ∀ c a w, Q (.panic c) (a.put oi.dst v) w → Q (.panic c) a w) (hJ : ∀ j ∈ J, vv md ops i f j = true) :
 ∀ (fuel : Nat) (listed : Array Bool) (a : Act) (w : World), ua md ops listed →
  (∀ j oj, ops[j]? = some oj → j ≠ i → listed.getD j true = false → (∀ e ∈ oj.after, Region.binds md e = true → e.on ≠ i) → oi.apart ops oj = true) →
  i ∈ Region.ready md ops listed → YieldsIf P ops S oi v a → S w →
  zZ P md ops Q S J fuel (listed.setIfInBounds i true) (a.put oi.dst v) w → zZ P md ops Q S J (fuel + 1) listed a w := by
 intro fuel
 induction fuel with
 | zero =>
  intro listed a w _ _ hr hy hS H;refine ⟨fun h => (by rw [h] at hr; cases hr), fun j hj => ?_⟩;by_cases Lu : j = i
  ·subst Lu; exact hy.wpOp hi hS ⟨fun _ => hS, H⟩
  ·have := ready_mono hj Lu;rw [H.1] at this;cases this
 | succ fuel ih =>
  intro listed a w hc QJ hr hy hS H;have UZ : listed.getD i false = false := getD_both (mem_ready.1 hr).1;refine ⟨fun h => (by rw [h] at hr; cases hr), fun j hj => ?_⟩;by_cases Lu : j = i
  ·subst Lu; exact hy.wpOp hi hS ⟨fun _ => hS, H⟩
  ·have h1 := H.2 j (ready_mono hj Lu)
   have AK : J.contains j = false := by
    rcases hb : J.contains j with _ | _
    ·rfl
    ·exact (jd hc UZ hj (hJ j (by simpa using hb))).elim
   obtain ⟨Uy, oj, Ur, Dh⟩ := mem_ready.1 hj
   have AA : ∀ e ∈ oj.after, Region.binds md e = true → e.on ≠ i := fun e he hb heq => by
    have h1 := Dh e he hb;rw [heq, UZ] at h1;cases h1
   have h2 := wpOp_putIf Ur (QJ j oj Ur Lu Uy AA) (fun cs b => Uf i oi cs b hi) (fun cs b => Uf j oj cs b Ur) hQ hy h1
   have hfree' : ∀ k ok, ops[k]? = some ok → k ≠ i → (listed.setIfInBounds j true).getD k true = false →
    (∀ e ∈ ok.after, Region.binds md e = true → e.on ≠ i) → oi.apart ops ok = true := fun k ok hk Ux UZ hno => by
    refine QJ k ok hk Ux ?_ hno;by_cases Eh : j = k
    ·subst Eh; exact Uy
    ·rw [getD_set_ne true Eh] at UZ; exact UZ
   refine wpOp_mono (fun a' w' h3 => ⟨fun _ => h3.2.1 AK, ih (listed.setIfInBounds j true) a' w' (lT hc hj) hfree' (ready_mono hr (Ne.symm Lu)) h3.1 (h3.2.1 AK) ?_⟩) h2;rw [Array.setIfInBounds_comm _ _ Lu];exact h3.2.2
def xq (md : Region.Mode) (ops : Array Oper) (listed : Array Bool) : Bool :=
 (List.range ops.size).all fun j => !listed.getD j false || ((ops[j]?).map fun oj => oj.after.all fun e => !Region.binds md e || listed.getD e.on false).getD true
theorem mF (h : xq md ops listed = true) : ua md ops listed := by
 intro j oj hj hl e he hb;have AV : j < ops.size := (Array.getElem?_eq_some_iff.1 hj).1;have := List.all_eq_true.1 h j (List.mem_range.2 AV);rw [hl, hj] at this;simp only [Bool.not_true, Bool.false_or, Option.map_some, Option.getD_some] at this;have := Array.all_eq_true'.1 this e he;rw [hb] at this;simpa using this
theorem vx {d : Option Tmp} (hi : ops[i]? = some oi) (hd : oi.dst = d)
 (hs : Region.noSelect ops = true) (hf : Region.free md ops listed i = true) (hr : (Region.ready md ops listed).contains i = true) (hc : xq md ops listed = true) (hJ : J.all (vv md ops i ops.size) = true)
 (hQ : ∀ c a w, Q (.panic c) (a.put oi.dst v) w → Q (.panic c) a w) (hy : YieldsIf P ops S oi v a) (hS : S w)
 (h : zZ P md ops Q S J fuel (listed.setIfInBounds i true) (a.put d v) w) : zZ P md ops Q S J (fuel + 1) listed a w := by
 subst hd;exact pj (f := ops.size) hi (Region.noSelect_spec hs) hQ (List.all_eq_true.1 hJ) fuel listed a w (mF hc) (Region.free_spec hi hf) (by simpa using hr) hy hS h
theorem yQ (hr : Region.ready md ops listed = [k]) (ho : ops[k]? = some o)
 (h : ∀ K' : Act → World → Prop, Shut (∀ a w, (J.contains k = false → S w) → ((J.contains k = false → S w) → zZ P md ops Q S J fuel (listed.setIfInBounds k true) a w) → K' a w) → if Region.wanted o (yielded ops a.tmps) = true then Oper.wp P o a w K' Q else K' (a.put o.dst undef) w) :
 zZ P md ops Q S J (fuel + 1) listed a w := by
 refine ⟨fun h0 => (by rw [hr] at h0; cases h0), fun i hi => ?_⟩;rw [hr] at hi;obtain rfl := List.mem_singleton.1 hi;exact wpOp_step ho (fun K' hK => h K' (fun a w hS hW => hK a w ⟨hS, hW hS⟩))
theorem zA (hr : Region.ready md ops listed = []) (h : Q .normal a w) : ∀ fuel, zZ P md ops Q S J fuel listed a w
 | 0 => ⟨hr, h⟩
 | _ + 1 => ⟨fun _ => h, by rw [hr]; simp⟩
theorem zB {id : Nat} (hm : P.follows .mixedOrders = true) (hS : S w.drew)
 (h : S w.drew → zZ P .any ops Q S J ops.size (Array.replicate ops.size false) a w.drew) : (Code.region id ops true).wp P Q a w :=
 wp_region_any hm (rL _ _ _ _ (h hS))
end
theorem zt {P : Program} {t e : TypeId} {size bytes : Nat} {d : Option Tmp} {ops : Array Oper} {K : Act → World → Prop} {Q : Exit → Act → World → Prop} {F : Prop} (hd : o.dst = d) (RY : o.guard = none) (s x : Operand) (ho : o.op = .call { callee := .builtin .append, args := #[s, x], argTypes := #[t, t] })
 (E : xC P t e size bytes) {base : Nat} {n : Nat} {xs : List Value} (hs : a.eval s = v) (Eb : w.ownsRow base e size v n xs) {Bx : Nat} {Ax : Option Addr} {m c : Nat} {news : List Value} (hx : a.eval x = .slice Ax m c) (Dg : Sl w Bx size Ax m c news)
 (h1 : ∀ u ∈ news, u.oneCell' = true) (MC : (n + m) * bytes ≤ 140737488355328) (LV : n + m ≤ 9223372036854775807) (CR : base ≤ w.heap.size)
 (h : ∀ A' cap w', w'.ownsRow base e size (.slice A' (n + m) cap) (n + m) (xs ++ news) → w.grownBy w' v.ownBlock → ((Value.slice A' (n + m) cap).ownBlock = v.ownBlock ∨ (Value.slice A' (n + m) cap).ownBlock = some w.heap.size) → K (a.put d (.slice A' (n + m) cap)) w') :
 if Region.wanted o (yielded ops a.tmps) = true then Oper.wp P o a w K Q else F := by
 subst hd;exact jq RY s x ho E hs Eb hx Dg h1 MC LV CR h
section
variable {P : Program} {ops : Array Oper} {Q : Exit → Act → World → Prop} {md : Region.Mode} {S S' : World → Prop} {J : List Nat}
theorem sW (ho : ops[k]? = some o)
 (h : ∀ K' : Act → World → Prop, Shut (∀ a w, (J.contains k = false → S w) → ((J.contains k = false → S w) → zZ P md ops Q S J fuel (listed.setIfInBounds k true) a w) → K' a w) → if Region.wanted o (yielded ops a.tmps) = true then Oper.wp P o a w K' Q else K' (a.put o.dst undef) w) :
 wpOp P ops Q k (fun a' w' => (J.contains k = false → S w') ∧ zZ P md ops Q S J fuel (listed.setIfInBounds k true) a' w') a w :=
 wpOp_step ho (fun K' hK => h K' (fun a w hS hW => hK a w ⟨hS, hW hS⟩))
theorem uk {ok : Oper} (hr : Region.ready md ops listed = [i, k]) (Oe : ops[i]? = some oi) (CP : ops[k]? = some ok)
 (h1 : ∀ K' : Act → World → Prop, Shut (∀ a w, (J.contains i = false → S w) → ((J.contains i = false → S w) → zZ P md ops Q S J fuel (listed.setIfInBounds i true) a w) → K' a w) → if Region.wanted oi (yielded ops a.tmps) = true then Oper.wp P oi a w K' Q else K' (a.put oi.dst undef) w)
 (h2 : ∀ K' : Act → World → Prop, Shut (∀ a w, (J.contains k = false → S w) → ((J.contains k = false → S w) → zZ P md ops Q S J fuel (listed.setIfInBounds k true) a w) → K' a w) → if Region.wanted ok (yielded ops a.tmps) = true then Oper.wp P ok a w K' Q else K' (a.put ok.dst undef) w) :
 zZ P md ops Q S J (fuel + 1) listed a w := by
 refine ⟨fun h0 => (by rw [hr] at h0; cases h0), fun j hj => ?_⟩;rw [hr] at hj;rcases List.mem_cons.1 hj with rfl | hj
 ·exact sW Oe h1
 ·obtain rfl := List.mem_singleton.1 hj;exact sW CP h2
theorem sX (hS : ∀ w, S' w → S w) : ∀ (fuel : Nat) (listed : Array Bool) (a : Act) (w : World), zZ P md ops Q S' J fuel listed a w → zZ P md ops Q S J fuel listed a w
 | 0, _, _, _, h => h
 | fuel + 1, _, _, _, h => ⟨h.1, fun i hi => wpOp_mono (fun a' w' h' => ⟨fun hj => hS _ (h'.1 hj), sX hS fuel _ a' w' h'.2⟩) (h.2 i hi)⟩
theorem vy (S' : World → Prop) (hS : ∀ w, S' w → S w) (h0 : S' w) (h : S' w → zZ P md ops Q S' J fuel listed a w) : zZ P md ops Q S J fuel listed a w := sX hS _ _ _ _ (h h0)
theorem xM {d : Option Tmp} (L : Array Bool) (hl : listed.setIfInBounds i true = L) (hi : ops[i]? = some oi) (hd : oi.dst = d)
 (hs : Region.noSelect ops = true) (hf : Region.free md ops listed i = true) (hr : (Region.ready md ops listed).contains i = true) (hc : xq md ops listed = true) (hJ : J.all (vv md ops i ops.size) = true)
 (hQ : ∀ c a w, Q (.panic c) (a.put oi.dst v) w → Q (.panic c) a w) (hy : YieldsIf P ops S oi v a) (hS : S w)
 (h : zZ P md ops Q S J fuel L (a.put d v) w) : zZ P md ops Q S J (fuel + 1) listed a w := by
 subst hl;exact vx hi hd hs hf hr hc hJ hQ hy hS h
abbrev tt : Bool := true
abbrev ff : Bool := false
def ma (n k : Nat) : Array Bool := ((List.range n).map fun i => k.testBit i).toArray
def mf (n k : Nat) : Array Bool := ((List.range n).map fun i => Nat.blt i k).toArray
theorem sA {α : Type} (l : List α) (i : Nat) (a : α) : l.toArray.setIfInBounds i a = (l.set i a).toArray := List.setIfInBounds_toArray ..
theorem sB {α : Type} (x : α) (l : List α) (y : α) : (x :: l).set 0 y = y :: l := List.set_cons_zero
theorem sC {α : Type} (x : α) (l : List α) (n : Nat) (y : α) : (x :: l).set (n + 1) y = x :: l.set n y := List.set_cons_succ
theorem tK (h : Q .normal a w) (hr : Region.ready md ops listed = [] := by kernel_rfl) : zZ P md ops Q S J fuel listed a w := zA hr h fuel
theorem fv {id : Nat} (S : World → Prop) (J : List Nat) (hS : S w.drew) (h : S w.drew → zZ P .any ops Q S J ops.size (Array.replicate ops.size false) a w.drew) (hm : P.follows .mixedOrders = true := by kernel_rfl) : (Code.region id ops true).wp P Q a w := zB hm hS h
theorem tk (i d : Nat) (L : Array Bool) (hS : S w) (h : zZ P md ops Q S J fuel L a' w)
 (hi : ops[i]? = some oi := by rfl) (hd : oi.dst = some d := by rfl) (hy : ∀ w, S w → (execOp a.eval oi).run P w = .ok (.value v) w := by intro w AL; (try dsimp only at AL); go_simp; try with_reducible rfl) (hp : a.put (some d) v = a' := by (try simp only [Act.put, sA, sB, sC]); rfl) (hw : Region.wanted oi (yielded ops a.tmps) = true := by rfl) (hl : listed.setIfInBounds i true = L := by kernel_rfl) (hs : Region.noSelect ops = true := by kernel_rfl) (hf : Region.free md ops listed i = true := by kernel_rfl) (hr : (Region.ready md ops listed).contains i = true := by kernel_rfl) (hc : xq md ops listed = true := by kernel_rfl) (hJ : J.all (vv md ops i ops.size) = true := by kernel_rfl) (hQ : ∀ c a w, Q (.panic c) (a.put oi.dst v) w → Q (.panic c) a w := by exact fun _ _ _ h => h) : zZ P md ops Q S J (fuel + 1) listed a w :=
 xM L hl hi hd hs hf hr hc hJ hQ (Or.inl ⟨hw, hy⟩) hS (hp ▸ h)
theorem tv (i d : Nat) (L : Array Bool) (hS : S w) (hy : ∀ w, S w → (execOp a.eval oi).run P w = .ok (.value v) w) (h : zZ P md ops Q S J fuel L a' w)
 (hi : ops[i]? = some oi := by rfl) (hd : oi.dst = some d := by rfl) (hp : a.put (some d) v = a' := by (try simp only [Act.put, sA, sB, sC]); rfl) (hw : Region.wanted oi (yielded ops a.tmps) = true := by rfl) (hl : listed.setIfInBounds i true = L := by kernel_rfl) (hs : Region.noSelect ops = true := by kernel_rfl) (hf : Region.free md ops listed i = true := by kernel_rfl) (hr : (Region.ready md ops listed).contains i = true := by kernel_rfl) (hc : xq md ops listed = true := by kernel_rfl) (hJ : J.all (vv md ops i ops.size) = true := by kernel_rfl) (hQ : ∀ c a w, Q (.panic c) (a.put oi.dst v) w → Q (.panic c) a w := by exact fun _ _ _ h => h) : zZ P md ops Q S J (fuel + 1) listed a w :=
 xM L hl hi hd hs hf hr hc hJ hQ (Or.inl ⟨hw, hy⟩) hS (hp ▸ h)
theorem ty (i d : Nat) (L : Array Bool) (hS : S w) (hi : ops[i]? = some oi := by rfl) (hd : oi.dst = some d := by rfl) (y : ∀ w, S w → (execOp a.eval oi).run P w = .ok (.value v) w) (h : zZ P md ops Q S J fuel L a' w)
 (hp : a.put (some d) v = a' := by (try simp only [Act.put, sA, sB, sC]); rfl) (hw : Region.wanted oi (yielded ops a.tmps) = true := by rfl) (hl : listed.setIfInBounds i true = L := by kernel_rfl) (hs : Region.noSelect ops = true := by kernel_rfl) (hf : Region.free md ops listed i = true := by kernel_rfl) (hr : (Region.ready md ops listed).contains i = true := by kernel_rfl) (hc : xq md ops listed = true := by kernel_rfl) (hJ : J.all (vv md ops i ops.size) = true := by kernel_rfl) (hQ : ∀ c a w, Q (.panic c) (a.put oi.dst v) w → Q (.panic c) a w := by exact fun _ _ _ h => h) : zZ P md ops Q S J (fuel + 1) listed a w :=
 xM L hl hi hd hs hf hr hc hJ hQ (Or.inl ⟨hw, y⟩) hS (hp ▸ h)
theorem ts (i d : Nat) (L : Array Bool) (hS : S w) (h : zZ P md ops Q S J fuel L a' w)
 (hi : ops[i]? = some oi := by rfl) (hd : oi.dst = some d := by rfl) (hp : a.put (some d) undef = a' := by (try simp only [Act.put, sA, sB, sC]); rfl) (hw : Region.wanted oi (yielded ops a.tmps) = false := by rfl) (hl : listed.setIfInBounds i true = L := by kernel_rfl) (hs : Region.noSelect ops = true := by kernel_rfl) (hf : Region.free md ops listed i = true := by kernel_rfl) (hr : (Region.ready md ops listed).contains i = true := by kernel_rfl) (hc : xq md ops listed = true := by kernel_rfl) (hJ : J.all (vv md ops i ops.size) = true := by kernel_rfl) (hQ : ∀ c a w, Q (.panic c) (a.put oi.dst undef) w → Q (.panic c) a w := by exact fun _ _ _ h => h) : zZ P md ops Q S J (fuel + 1) listed a w :=
 xM L hl hi hd hs hf hr hc hJ hQ (Or.inr ⟨hw, rfl⟩) hS (hp ▸ h)
theorem tj (i d : Nat) (hS : S w) (h : zZ P md ops Q S J fuel (listed.setIfInBounds i true) a' w)
 (hi : ops[i]? = some oi := by rfl) (hd : oi.dst = some d := by rfl) (hy : ∀ w, S w → (execOp a.eval oi).run P w = .ok (.value v) w := by intro w AL; (try dsimp only at AL); go_simp; try with_reducible rfl) (hp : a.put (some d) v = a' := by (try simp only [Act.put, sA, sB, sC]); rfl) (hw : Region.wanted oi (yielded ops a.tmps) = true := by rfl) (hs : Region.noSelect ops = true := by kernel_rfl) (hf : Region.free md ops listed i = true := by kernel_rfl) (hr : (Region.ready md ops listed).contains i = true := by kernel_rfl) (hc : xq md ops listed = true := by kernel_rfl) (hJ : J.all (vv md ops i ops.size) = true := by kernel_rfl) (hQ : ∀ c a w, Q (.panic c) (a.put oi.dst v) w → Q (.panic c) a w := by exact fun _ _ _ h => h) : zZ P md ops Q S J (fuel + 1) listed a w :=
 xM _ rfl hi hd hs hf hr hc hJ hQ (Or.inl ⟨hw, hy⟩) hS (hp ▸ h)
theorem tx (i d : Nat) (v : Value) (L : Array Bool) (hy : ∀ w, S w → (execOp a.eval oi).run P w = .ok (.value v) w) (hS : S w) (h : zZ P md ops Q S J fuel L (a.put (some d) v) w)
 (hi : ops[i]? = some oi := by rfl) (hd : oi.dst = some d := by rfl) (hw : Region.wanted oi (yielded ops a.tmps) = true := by rfl) (hl : listed.setIfInBounds i true = L := by kernel_rfl) (hs : Region.noSelect ops = true := by kernel_rfl) (hf : Region.free md ops listed i = true := by kernel_rfl) (hr : (Region.ready md ops listed).contains i = true := by kernel_rfl) (hc : xq md ops listed = true := by kernel_rfl) (hJ : J.all (vv md ops i ops.size) = true := by kernel_rfl) (hQ : ∀ c a w, Q (.panic c) (a.put oi.dst v) w → Q (.panic c) a w := by exact fun _ _ _ h => h) : zZ P md ops Q S J (fuel + 1) listed a w :=
 xM L hl hi hd hs hf hr hc hJ hQ (Or.inl ⟨hw, hy⟩) hS h
theorem ti (i d : Nat) (v : Value) (hy : ∀ w, S w → (execOp a.eval oi).run P w = .ok (.value v) w) (hS : S w) (h : zZ P md ops Q S J fuel (listed.setIfInBounds i true) (a.put (some d) v) w)
 (hi : ops[i]? = some oi := by rfl) (hd : oi.dst = some d := by rfl) (hw : Region.wanted oi (yielded ops a.tmps) = true := by rfl) (hs : Region.noSelect ops = true := by kernel_rfl) (hf : Region.free md ops listed i = true := by kernel_rfl) (hr : (Region.ready md ops listed).contains i = true := by kernel_rfl) (hc : xq md ops listed = true := by kernel_rfl) (hJ : J.all (vv md ops i ops.size) = true := by kernel_rfl) (hQ : ∀ c a w, Q (.panic c) (a.put oi.dst v) w → Q (.panic c) a w := by exact fun _ _ _ h => h) : zZ P md ops Q S J (fuel + 1) listed a w :=
 xM _ rfl hi hd hs hf hr hc hJ hQ (Or.inl ⟨hw, hy⟩) hS h
theorem oW (L : Array Bool) (hl : listed.setIfInBounds k true = L) (hr : Region.ready md ops listed = [k]) (ho : ops[k]? = some o)
 (h : ∀ K' : Act → World → Prop, Shut (∀ a w, (J.contains k = false → S w) → ((J.contains k = false → S w) → zZ P md ops Q S J fuel L a w) → K' a w) → if Region.wanted o (yielded ops a.tmps) = true then Oper.wp P o a w K' Q else K' (a.put o.dst undef) w) :
 zZ P md ops Q S J (fuel + 1) listed a w := by
 subst hl;exact yQ hr ho h
theorem tb (k : Nat) (L : Array Bool) (h : ∀ K' : Act → World → Prop, Shut (∀ a w, (J.contains k = false → S w) → ((J.contains k = false → S w) → zZ P md ops Q S J fuel L a w) → K' a w) → if Region.wanted o (yielded ops a.tmps) = true then Oper.wp P o a w K' Q else K' (a.put o.dst undef) w) (hl : listed.setIfInBounds k true = L := by kernel_rfl) (hr : Region.ready md ops listed = [k] := by kernel_rfl) (ho : ops[k]? = some o := by rfl) : zZ P md ops Q S J (fuel + 1) listed a w := oW L hl hr ho h
theorem yM {ok : Oper} (L1 L2 : Array Bool) (AQ : listed.setIfInBounds i true = L1) (Nr : listed.setIfInBounds k true = L2) (hr : Region.ready md ops listed = [i, k]) (Oe : ops[i]? = some oi) (CP : ops[k]? = some ok)
 (h1 : ∀ K' : Act → World → Prop, Shut (∀ a w, (J.contains i = false → S w) → ((J.contains i = false → S w) → zZ P md ops Q S J fuel L1 a w) → K' a w) → if Region.wanted oi (yielded ops a.tmps) = true then Oper.wp P oi a w K' Q else K' (a.put oi.dst undef) w)
 (h2 : ∀ K' : Act → World → Prop, Shut (∀ a w, (J.contains k = false → S w) → ((J.contains k = false → S w) → zZ P md ops Q S J fuel L2 a w) → K' a w) → if Region.wanted ok (yielded ops a.tmps) = true then Oper.wp P ok a w K' Q else K' (a.put ok.dst undef) w) :
 zZ P md ops Q S J (fuel + 1) listed a w := by
 subst AQ Nr;exact uk hr Oe CP h1 h2
end
theorem fC (A : Option Addr) (n c : Nat) (w : World) (hn : n ≤ 9223372036854775807) : Calls prog 10 #[.slice A n c] w fun e w' => e = .returned (.bool (decide (n ≤ 400))) ∧ w = w' := by
 go_enter func10, ntmps10
 go_wp2
 go_ret;exact ⟨zF (by simp; omega), rfl⟩
def zN (w : World) (g : Nat) : Prop :=
 ∃ (A : Option Addr) (n c k : Nat) (l : List Int) (s : Int), w.heap[g]? = some (.cells #[.slice A n c, .int .i64 k, .int .u64 s] 88 (0, 0)) ∧ Sl w g 1 A n c (zE l) ∧ k ≤ n ∧ 0 ≤ s ∧ s < 18446744073709551616
theorem zN.lt (h : zN w g) : g < w.heap.size := by
 obtain ⟨A, n, c, k, l, s, hh, _⟩ := h;exact (Array.getElem?_eq_some_iff.1 hh).1
theorem zN.keep (h : zN w g) (hk : ∀ i, i ≤ g → w'.heap[i]? = w.heap[i]?) : zN w' g := by
 obtain ⟨A, n, c, k, l, s, hh, hs, h1, h2, h3⟩ := h;exact ⟨A, n, c, k, l, s, (hk g lR).trans hh, hs.keep fun p hp => World.cell?_of_block (hk p.block (by omega)), h1, h2, h3⟩
theorem zN.below {B : Nat} (h : zN w g) (hb : Below B w w') (hg : g < B) : zN w' g := h.keep fun i hi => hb.block i (by omega)
theorem zN.alloc (h : zN w g) (o : Obj) : zN (w.alloc o) g := h.keep fun i hi => Below.heap_alloc w o i (by have := h.lt; omega)
theorem zN.drewN (h : zN w g) (n : Nat) : zN (w.drewN n) g := h
theorem zN.drew (h : zN w g) : zN w.drew g := h
theorem zN.setCell (h : zN w g) {p : Addr} (hp : g < p.block) (u : Value) : zN (w.setCell p u) g := h.keep fun i hi => Below.heap_setCell w p u i (by omega)
theorem zN.grown (h : zN w g) {row : Option Nat} (hg : w.grownBy w' row) (hr : ∀ k, row = some k → g < k) : zN w' g :=
 h.keep fun i hi => hg.block i (by have := h.lt; omega) (fun e => by have := hr _ e.symm; omega)
theorem gj (A : Option Addr) (n c B : Nat) (l : List Int) (w : World) (hr : Sl w B 1 A n c (zE l)) (hB : B ≤ w.heap.size) :
 Calls prog 12 #[.slice A n c] w fun e w' => e = .returned (.pointer (some ⟨w.heap.size, 0, none⟩)) ∧ Hid (zN w' w.heap.size) ∧ Hid (bW w w') ∧ Hid (w'.heap.size = w.heap.size + 1) := by
 go_enter func12, ntmps12
 go_wp2
 go_ret;refine ⟨rfl, ⟨A, n, c, 0, l, 88172645463325252, heap_alloc_new w _, (hr.more hB).alloc lR _, Nat.zero_le _, by decide, by decide⟩, (Below.refl _ _).alloc lR _, by unfold Hid; simp⟩
theorem vw (t : Int) : 0 ≤ IntKind.u64.wrap t ∧ IntKind.u64.wrap t < 18446744073709551616 := by
 have : IntKind.u64.wrap t = t % 18446744073709551616 := by simp [IntKind.wrap, IntKind.bits, IntKind.signed]
 omega
theorem nN (t n : Int) (hn : 1 ≤ n) : 0 ≤ wrap64 ((IntKind.u64.wrap t / 8589934592).tmod n) ∧ wrap64 ((IntKind.u64.wrap t / 8589934592).tmod n) < n := by
 obtain ⟨h0, h1⟩ := vw t;generalize IntKind.u64.wrap t = q at *;have hq : 0 ≤ q / 8589934592 ∧ q / 8589934592 ≤ 2147483647 := by omega
 generalize q / 8589934592 = z at *;rw [Int.tmod_eq_emod_of_nonneg hq.1];have h2 := Int.emod_nonneg z (show n ≠ 0 by omega);have h3 := Int.emod_lt_of_pos z (show 0 < n by omega)
 have h4 : z % n ≤ z := by
  rcases Int.lt_or_le z n with h | h
  ·rw [Int.emod_eq_of_lt hq.1 h]; exact Int.le_refl _
  ·omega
 rw [IntWalk.wrap64_in _ ⟨by omega, by omega⟩];omega
section
variable {w : World} {g m c k : Nat} {A : Option Addr} {s : Int} {l : List Int}
theorem nM (w : World) (g d : Nat) (u : Value) :
 w.grownBy ((w.drewN d).setCell ⟨g, 2, none⟩ u) (some g) ∧ ((w.drewN d).setCell ⟨g, 2, none⟩ u).heap.size = w.heap.size :=
 ⟨⟨rfl, rfl, rfl, by simp [World.setCell], fun i _ hi => Below.heap_setCell (w.drewN d) _ u i (fun e => hi (by rw [e]))⟩, by simp [World.setCell]⟩
theorem nL (w : World) (g d : Nat) (u v : Value) :
 w.grownBy (((w.drewN d).setCell ⟨g, 1, none⟩ u).setCell ⟨g, 2, none⟩ v) (some g) ∧ (((w.drewN d).setCell ⟨g, 1, none⟩ u).setCell ⟨g, 2, none⟩ v).heap.size = w.heap.size :=
 ⟨⟨rfl, rfl, rfl, by simp [World.setCell], fun i _ hi => (Below.heap_setCell _ _ v i (fun e => hi (by rw [e]))).trans (Below.heap_setCell (w.drewN d) _ u i (fun e => hi (by rw [e])))⟩, by simp [World.setCell]⟩
theorem ny (hh : w.heap[g]? = some (.cells #[.slice A m c, .int .i64 k, .int .u64 s] 88 (0, 0))) (hs : Sl w g 1 A m c (zE l)) (hk : k ≤ m) (t : Int) :
 zN (w.setCell ⟨g, 2, none⟩ (.int .u64 (IntKind.u64.wrap t))) g := by
 refine ⟨A, m, c, k, l, IntKind.u64.wrap t, ?_, hs.setCell lR _, hk, vw t⟩;simp [World.setCell, Array.getElem?_modify, hh]
theorem nu (hh : w.heap[g]? = some (.cells #[.slice A m c, .int .i64 k, .int .u64 s] 88 (0, 0))) (hs : Sl w g 1 A m c (zE l)) (hk : k < m) (t : Int) :
 zN ((w.setCell ⟨g, 1, none⟩ (.int .i64 ((k : Int) + 1))).setCell ⟨g, 2, none⟩ (.int .u64 (IntKind.u64.wrap t))) g := by
 refine ⟨A, m, c, k + 1, l, IntKind.u64.wrap t, ?_, (hs.setCell lR _).setCell lR _, hk, vw t⟩;simp [World.setCell, Array.getElem?_modify, hh]
end
def gM (w : World) (g : Nat) (n : Int) (e : Ending) (w' : World) : Prop :=
 ∃ r : Int, e = .returned (.int .i64 r) ∧ 0 ≤ r ∧ Hid (n < 1 → r = 0) ∧ Hid (1 ≤ n → r < n) ∧ Hid (zN w' g) ∧ Hid (w.grownBy w' (some g)) ∧ Hid (w'.heap.size = w.heap.size)
theorem zT (g : Nat) (n : Int) (w : World) (hd : zN w g) (hn : n ≤ 9223372036854775807) : Calls prog 16 #[.pointer (some ⟨g, 0, none⟩), .int .i64 n] w (gM w g n) := by
 have hlt := hd.lt;obtain ⟨A, m, c, k, l, s, hh, hs, h1, h2, h3⟩ := hd;obtain ⟨AX, LM⟩ := hs.le;have c0 : w.cell? ⟨g, 0, none⟩ = some (.slice A m c) := cell_of_row w g 0 _ _ _ hh;have c1 : w.cell? ⟨g, 1, none⟩ = some (.int .i64 k) := cell_of_row w g 1 _ _ _ hh;have c2 : w.cell? ⟨g, 2, none⟩ = some (.int .u64 s) := cell_of_row w g 2 _ _ _ hh;have f0 : ∀ j, w.frozen? ⟨g, j, none⟩ = false := fun j => by simp [World.frozen?, hh]
 have f1 := f0 1;have f2 := f0 2;have HH := iD hh; have HS := iD hs;clear hh hs f0;have H3 := iD h3; clear h3;by_cases hk : k < m
 ·obtain ⟨b, off, x, rfl, hb, hx, hcell⟩ := HS.at1 hk;clear hx;have Ux : (k : Int) < (m : Int) := by omega
  go_enter func16, ntmps16
  go_wp2_with fail
  go_quiet (fail)
  go_wp2_with fail
  go_quiet (fail)
  go_wp2_with fail
  ·go_ret;exact ⟨_, rfl, Int.le_refl _, fun _ => rfl, fun h => absurd h (by omega), nu HH HS hk _, nL w g _ _ _⟩
  ·go_ret;have hr := nN (IntKind.u64.wrap (IntKind.u64.wrap (s * 6364136223846793005) + IntKind.u64.wrap x) + 1442695040888963407) n (by omega);exact ⟨_, rfl, hr.1, fun h => absurd h (by omega), fun _ => hr.2, nu HH HS hk _, nL w g _ _ _⟩
 ·have Ux : decide ((k : Int) < (m : Int)) = false := by simp; omega
  go_enter func16, ntmps16
  go_wp2_with fail
  go_quiet (fail)
  go_wp2_with fail
  ·go_ret;exact ⟨_, rfl, Int.le_refl _, fun _ => rfl, fun h => absurd h (by omega), ny HH HS h1 _, nM w g _ _⟩
  ·go_ret;have hr := nN (IntKind.u64.wrap (IntKind.u64.wrap (s * 6364136223846793005)) + 1442695040888963407) n (by omega);exact ⟨_, rfl, hr.1, fun h => absurd h (by omega), fun _ => hr.2, ny HH HS h1 _, nM w g _ _⟩
def Dm (l : List UInt8) (k : Nat) : List UInt8 := l ++ [UInt8.ofNat (48 + k / 10), UInt8.ofNat (48 + k % 10)]
theorem wu (l : ByteArray) (k : Nat) (w : World) (hl : l.size ≤ 1000) (hk : k < 100) : Calls prog 43 #[.string l, .int .i64 k] w fun e w' => e = .returned (.string (Ea (Dm (BA l) k))) ∧ bW w w' := by
 have e1 : (k : Int) / 10 = ((k / 10 : Nat) : Int) := by omega
 have e2 : (k : Int) % 10 = ((k % 10 : Nat) : Int) := by omega
 have h1 : k / 10 < 10 := by omega
 have h2 : k % 10 < 10 := by omega
 have HS : Hid (l ++ Ea [UInt8.ofNat (48 + k / 10), UInt8.ofNat (48 + k % 10)] = Ea (Dm (BA l) k)) := by
  unfold Hid
  apply tI
  rw [mW, vZ, vZ, Dm]
 generalize k / 10 = p at *;generalize k % 10 = q at *;have u1 : ((48 : Int) + (p : Int)) = ((UInt8.ofNat (48 + p)).toNat : Int) := by rw [UInt8.toNat_ofNat']; omega
 have u2 : ((48 : Int) + (q : Int)) = ((UInt8.ofNat (48 + q)).toNat : Int) := by rw [UInt8.toNat_ofNat']; omega
 have Ff := iD u1; have DJ := iD u2;clear u1 u2
 have hcv : ∀ W : World, (convert 122 9 (.slice (some ⟨w.heap.size, 0, none⟩) 2 2)).run prog (w.alloc (.cells #[.int .u8 (48 + (p : Int)), .int .u8 (48 + (q : Int))] 5)) = .ok (.string (Ea [UInt8.ofNat (48 + p), UInt8.ofNat (48 + q)])) (w.alloc (.cells #[.int .u8 (48 + (p : Int)), .int .u8 (48 + (q : Int))] 5)) := fun _ => by
  refine qU (B := w.heap.size + 1) underlying122 underlying5 underlying9 ?_;have := Sl.newest (w := w) (cs := #[.int .u8 (48 + (p : Int)), .int .u8 (48 + (q : Int))]) (T := 5) (fr := (0, 0)) (n := 2) (size := 1) rfl rfl (by decide);simp only [gJ, List.flatMap_cons, List.flatMap_nil, List.singleton_append, ← Ff.out, ← DJ.out];exact this
 replace hcv := hcv w;have hz : (Ea [UInt8.ofNat (48 + p), UInt8.ofNat (48 + q)]).size = 2 := by rw [pm]; rfl
 generalize Ea [UInt8.ofNat (48 + p), UInt8.ofNat (48 + q)] = S2 at *;have AW : ¬ (9223372036854775807 < l.size + S2.size) := by omega
 clear hz
 go_enter func43, ntmps43
 go_wp2_with fail
 go_ret;exact ⟨by rw [← HS.out]; rfl, (Below.refl _ _).alloc lR _⟩
def fL (w : World) (g : Nat) (e : Ending) (w' : World) : Prop :=
 ∃ r : Bool, e = .returned (.bool r) ∧ Hid (zN w' g) ∧ Hid (w.grownBy w' (some g)) ∧ Hid (w'.heap.size = w.heap.size)
theorem wK (g : Nat) (n : Int) (w : World) (hd : zN w g) (hn : n ≤ 9223372036854775807) : Calls prog 15 #[.pointer (some ⟨g, 0, none⟩), .int .i64 n] w (fL w g) := by
 have HD := iD hd; clear hd
 go_enter func15, ntmps15
 go_wp2_with fail
 refine (zT g n w HD hn).mono ?_;rintro e w1 ⟨r, rfl, h0, h1, h2, h3, h4, h5⟩;clear h1 h2
 go_wp2_with fail
 go_ret;exact ⟨_, rfl, h3, h4, h5⟩
theorem rJ : xC prog 27 85 3 32 := xC.mk' (z := .agg #[.string ⟨#[]⟩, .int .i64 0, .int .i64 0]) underlying27 (by kernel_rfl) rfl (by decide)
theorem gE : xC prog 28 57 5 48 := xC.mk' (z := .agg #[.string ⟨#[]⟩, .int .i64 0, .int .i64 0, .int .i64 0, .int .i64 0]) underlying28 (by kernel_rfl) rfl (by decide)
structure yF (w0 : World) (g : Nat) (AY : Int) (An : Option Addr) (nn cn : Nat) (ns : List Nd) (Ad : Option Addr) (nd cd : Nat) (ds : List Dv) (w : World) : Prop where
 lt : g < w0.heap.size
 deck : zN w g
 gr : w0.grownBy w (some g)
 pb : AJ w w0.heap.size 25 #[.pointer (some ⟨g, 0, none⟩)]
 db : AJ w (w0.heap.size + 1) 3 #[.int .i64 AY]
 rb : AJ w (w0.heap.size + 2) 30 #[.slice none 0 0, .slice none 0 0]
 nb : AJ w (w0.heap.size + 3) 30 #[.slice An nn cn, .slice Ad nd cd]
 rn : w.ownsRow (w0.heap.size + 4) 85 3 (.slice An nn cn) nn (ns.flatMap Nd.cells)
 rd : w.ownsRow (w0.heap.size + 4) 57 5 (.slice Ad nd cd) nd (ds.flatMap Dv.cells)
 ne : (Value.slice An nn cn).ownBlock = none ∨ (Value.slice An nn cn).ownBlock ≠ (Value.slice Ad nd cd).ownBlock
section
variable {w0 w w' : World} {g : Nat} {AY : Int} {An Ad : Option Addr} {nn cn nd cd : Nat} {ns : List Nd} {ds : List Dv}
theorem yF.size (h : yF w0 g AY An nn cn ns Ad nd cd ds w) : w0.heap.size + 4 ≤ w.heap.size := h.nb.lt
theorem zb {q : Nat} (h : ∀ b, v.ownBlock = some b → b ≠ q) : v.ownBlock = none ∨ v.ownBlock ≠ some q := by
 cases hv : v.ownBlock with
 | none => exact .inl rfl
 | some b => exact .inr fun e => by injection e with e; exact h b hv e
theorem yF.next (h : yF w0 g AY An nn cn ns Ad nd cd ds w) (hd : zN w' g) (hg : w.grownBy w' (some g)) : yF w0 g AY An nn cn ns Ad nd cd ds w' := by
 have hl := h.lt;exact ⟨hl, hd, zG h.gr hg, h.pb.grown hg (by simp; omega), h.db.grown hg (by simp; omega), h.rb.grown hg (by simp; omega), h.nb.grown hg (by simp; omega), h.rn.kept hg (zb fun b e => by have := (h.rn.lt b e).1; omega), h.rd.kept hg (zb fun b e => by have := (h.rd.lt b e).1; omega), h.ne⟩
theorem yF.later (h : yF w0 g AY An nn cn ns Ad nd cd ds w) (hb : bW w w') : yF w0 g AY An nn cn ns Ad nd cd ds w' := by
 have hg := zH hb none;exact ⟨h.lt, h.deck.below hb h.deck.lt, zG h.gr (zH hb _), h.pb.below hb h.pb.lt, h.db.below hb h.db.lt, h.rb.below hb h.rb.lt, h.nb.below hb h.nb.lt, h.rn.kept hg (Classical.em _), h.rd.kept hg (Classical.em _), h.ne⟩
theorem yF.alloc (h : yF w0 g AY An nn cn ns Ad nd cd ds w) (o : Obj) : yF w0 g AY An nn cn ns Ad nd cd ds (w.alloc o) := h.later ((Below.refl _ _).alloc lR _)
theorem yF.drew (h : yF w0 g AY An nn cn ns Ad nd cd ds w) : yF w0 g AY An nn cn ns Ad nd cd ds w.drew := h.later (Below.refl _ _).drew
theorem yF.store {q j : Nat} (h : yF w0 g AY An nn cn ns Ad nd cd ds w) (hq : w0.heap.size + 4 ≤ q) (hn : ∀ b, (Value.slice An nn cn).ownBlock = some b → b ≠ q) (hd : ∀ b, (Value.slice Ad nd cd).ownBlock = some b → b ≠ q) : yF w0 g AY An nn cn ns Ad nd cd ds (w.setCell ⟨q, j, none⟩ u) := by
 have hl := h.lt;have hg : w.grownBy (w.setCell ⟨q, j, none⟩ u) (some q) := ⟨rfl, rfl, rfl, by simp [World.setCell], fun i _ hi => Below.heap_setCell w _ _ i (fun e => hi (by rw [e]))⟩;exact ⟨hl, h.deck.setCell (by simp; omega) _, zj h.gr (by simp; omega) _, h.pb.far (by simp; omega) _, h.db.far (by simp; omega) _, h.rb.far (by simp; omega) _, h.nb.far (by simp; omega) _, h.rn.kept hg (zb hn), h.rd.kept hg (zb hd), h.ne⟩
theorem yF.dev {A1 : Option Addr} {c1 : Nat} {w1 : World} (h : yF w0 g AY An nn cn ns Ad nd cd ds w) (ho : w1.ownsRow (w0.heap.size + 4) 57 5 (.slice A1 (nd + 1) c1) (nd + 1) (ds.flatMap Dv.cells ++ x.cells)) (hg : w.grownBy w1 (Value.slice Ad nd cd).ownBlock)
 (hv : (Value.slice A1 (nd + 1) c1).ownBlock = (Value.slice Ad nd cd).ownBlock ∨ (Value.slice A1 (nd + 1) c1).ownBlock = some w.heap.size) : yF w0 g AY An nn cn ns A1 (nd + 1) c1 (ds ++ [x]) (w1.setCell ⟨w0.heap.size + 3, 1, none⟩ (.slice A1 (nd + 1) c1)) := by
 have hl := h.lt;have hz := h.size;have hr : ∀ b, (Value.slice Ad nd cd).ownBlock = some b → w0.heap.size + 4 ≤ b ∧ b < w.heap.size := fun b e => h.rd.lt b e
 have KL : ∀ b, (Value.slice A1 (nd + 1) c1).ownBlock = some b → w0.heap.size + 4 ≤ b := fun b e => (ho.lt b e).1
 have far : ∀ q, q < w0.heap.size + 4 → some q ≠ (Value.slice Ad nd cd).ownBlock := fun q hq e => by have := (hr q e.symm).1; omega
 have Bq : (Value.slice An nn cn).ownBlock = none ∨ (Value.slice An nn cn).ownBlock ≠ (Value.slice Ad nd cd).ownBlock := h.ne;have EI : w1.grownBy (w1.setCell ⟨w0.heap.size + 3, 1, none⟩ (.slice A1 (nd + 1) c1)) (some (w0.heap.size + 3)) := ⟨rfl, rfl, rfl, by simp [World.setCell], fun i _ hi => Below.heap_setCell w1 _ _ i (fun e => hi (by rw [e]))⟩;refine ⟨hl, (h.deck.grown hg (fun k e => by have := (hr k e).1; omega)).setCell (by simp; omega) _, zj (uS h.gr hg (fun k e => by have := (hr k e).1; omega)) (by simp) _, (h.pb.grown hg (far _ (by omega))).far (by simp) _, (h.db.grown hg (far _ (by omega))).far (by simp) _, (h.rb.grown hg (far _ (by omega))).far (by simp) _, (h.nb.grown hg (far _ (by omega))).set 1 _, (h.rn.kept hg Bq).kept EI (zb fun b e => by have := (h.rn.lt b e).1; omega), ?_, ?_⟩
 ·rw [List.flatMap_append];exact (ho.kept EI (zb fun b e => by have := KL b e; omega)).mono lR |> fun h => by simpa using h
 ·rcases hv with e | e
  ·rw [e]; exact h.ne
  ·rw [e];exact (zb fun b eb => by have := (h.rn.lt b eb).2; omega)
theorem yF.node {A1 : Option Addr} {c1 : Nat} {x : Nd} {w1 : World} (h : yF w0 g AY An nn cn ns Ad nd cd ds w) (ho : w1.ownsRow (w0.heap.size + 4) 85 3 (.slice A1 (nn + 1) c1) (nn + 1) (ns.flatMap Nd.cells ++ x.cells)) (hg : w.grownBy w1 (Value.slice An nn cn).ownBlock)
 (hv : (Value.slice A1 (nn + 1) c1).ownBlock = (Value.slice An nn cn).ownBlock ∨ (Value.slice A1 (nn + 1) c1).ownBlock = some w.heap.size) : yF w0 g AY A1 (nn + 1) c1 (ns ++ [x]) Ad nd cd ds (w1.setCell ⟨w0.heap.size + 3, 0, none⟩ (.slice A1 (nn + 1) c1)) := by
 have hl := h.lt;have hz := h.size;have hr : ∀ b, (Value.slice An nn cn).ownBlock = some b → w0.heap.size + 4 ≤ b ∧ b < w.heap.size := fun b e => h.rn.lt b e
 have KL : ∀ b, (Value.slice A1 (nn + 1) c1).ownBlock = some b → w0.heap.size + 4 ≤ b := fun b e => (ho.lt b e).1
 have far : ∀ q, q < w0.heap.size + 4 → some q ≠ (Value.slice An nn cn).ownBlock := fun q hq e => by have := (hr q e.symm).1; omega
 have Bq : (Value.slice Ad nd cd).ownBlock = none ∨ (Value.slice Ad nd cd).ownBlock ≠ (Value.slice An nn cn).ownBlock := by
  cases hv : (Value.slice Ad nd cd).ownBlock with
  | none => exact .inl rfl
  | some b => exact .inr fun e => h.ne.elim (fun h0 => by rw [h0] at e; cases e) (fun h0 => h0 (by rw [hv, e]))
 have EI : w1.grownBy (w1.setCell ⟨w0.heap.size + 3, 0, none⟩ (.slice A1 (nn + 1) c1)) (some (w0.heap.size + 3)) := ⟨rfl, rfl, rfl, by simp [World.setCell], fun i _ hi => Below.heap_setCell w1 _ _ i (fun e => hi (by rw [e]))⟩;refine ⟨hl, (h.deck.grown hg (fun k e => by have := (hr k e).1; omega)).setCell (by simp; omega) _, zj (uS h.gr hg (fun k e => by have := (hr k e).1; omega)) (by simp) _, (h.pb.grown hg (far _ (by omega))).far (by simp) _, (h.db.grown hg (far _ (by omega))).far (by simp) _, (h.rb.grown hg (far _ (by omega))).far (by simp) _, (h.nb.grown hg (far _ (by omega))).set 0 _, ?_, (h.rd.kept hg Bq).kept EI (zb fun b e => by have := (h.rd.lt b e).1; omega), ?_⟩
 ·have := ho.kept EI (zb fun b e => by have := KL b e; omega);rw [List.flatMap_append];simpa using this
 ·rcases hv with e | e
  ·rw [e]; exact h.ne
  ·rw [e];refine .inr fun e2 => ?_
   have := (h.rd.lt _ e2.symm).2;omega
end
def yY (l : List Bool) : List Value := l.flatMap fun x => [Value.bool x]
theorem wI (l : List Bool) : yY l = l.map Value.bool := pJ _ _
theorem qI (l : List Bool) (i : Nat) (x : Bool) : (yY l).set i (.bool x) = yY (l.set i x) := by rw [wI, wI, List.map_set]
theorem sP (n : Nat) (x : Bool) : List.replicate n (Value.bool x) = yY (List.replicate n x) := by rw [wI, List.map_replicate]
theorem qJ (l : List Bool) : (yY l).length = l.length := by rw [wI, List.length_map]
def xR (w : World) (base : Nat) (A : Option Addr) (n c : Nat) (l : List Bool) : Prop := w.ownsRow base 4 1 (.slice A n c) n (yY l)
section
variable {w w' : World} {base n c i : Nat} {A : Option Addr} {m : List Bool}
theorem xR.len (h : xR w base A n c m) : m.length = n := by have := h.1; rw [qJ] at this; omega
theorem xR.sl (h : xR w base A n c m) : BI w 1 A n c (yY m) := Sl.of_own h
theorem xR.at (h : xR w base A n c m) (hi : i < n) : ∃ g x, A = some ⟨g, 0, none⟩ ∧ base ≤ g ∧ g < w.heap.size ∧ m[i]? = some x ∧ w.cell? ⟨g, i, none⟩ = some (.bool x) ∧ w.frozen? ⟨g, i, none⟩ = false ∧ ∀ y, xR (w.setCell ⟨g, i, none⟩ (.bool y)) base A n c (m.set i y) := by
 obtain ⟨g, rfl, h1, h2⟩ := wO h (by omega);have hl := h.len;refine ⟨g, m[i]'(by omega), rfl, h1, h2, List.getElem?_eq_getElem _, ?_, h.frozenAt i, fun y => ?_⟩
 ·rw [h.cellAt i (by omega), wI, List.getElem?_map, List.getElem?_eq_getElem (by omega)]; rfl
 ·have := (h.stored i (.bool y)).1
  rwa [qI] at this
theorem xR.later (h : xR w base A n c m) (hb : bW w w') : xR w' base A n c m := zI h hb
end
theorem ou (n : Nat) (hn : n ≤ 1000000) (w : World) : (Instr.makeSlice 188 (.int .i64 (n : Int)) (.int .i64 (n : Int))).run prog w = .ok (.slice (some ⟨w.heap.size, 0, none⟩) n n) (w.alloc (.cells (yY (List.replicate n false)).toArray 4)) := by
 rw [run_make_row' 188 4 (.bool false) 1 underlying188 (by kernel_rfl) rfl .i64 .i64 n (by omega) (by omega) w]
 congr 3
 apply Array.ext'
 rw [toList_madeCells_one, sP]
theorem ja {w : World} {base n : Nat} (hb : base ≤ w.heap.size) (hn : n ≤ 1000000) : xR (w.alloc (.cells (yY (List.replicate n false)).toArray 4)) base (some ⟨w.heap.size, 0, none⟩) n n (List.replicate n false) := tV hb (by omega) (by rw [qJ, List.length_replicate])
structure xu (w : World) (N : Array Value) (go nn : Nat) (out : List Bool) (Aw : Option Addr) (nw cw : Nat) (wait : List Int) (wr : World) : Prop where
 bx : AJ wr w.heap.size 30 N
 ob : xR wr (w.heap.size + 1) (some ⟨go, 0, none⟩) nn nn out
 qu : FT wr (w.heap.size + 1) 3 Aw nw cw (zE wait)
 ne : (Value.slice Aw nw cw).ownBlock = none ∨ (Value.slice Aw nw cw).ownBlock ≠ some go
 bl : bW w wr
section
variable {w wr wr' : World} {N : Array Value} {go nn nw cw : Nat} {out : List Bool} {Aw : Option Addr} {wait : List Int}
theorem xu.ge (h : xu w N go nn out Aw nw cw wait wr) : w.heap.size + 1 ≤ go ∧ go < wr.heap.size := h.ob.lt go rfl
theorem xu.later (h : xu w N go nn out Aw nw cw wait wr) (hb : bW wr wr') : xu w N go nn out Aw nw cw wait wr' :=
 ⟨h.bx.below hb h.bx.lt, h.ob.later hb, h.qu.later hb, h.ne, h.bl.trans (hb.mono h.bl.size)⟩
theorem xu.alloc (h : xu w N go nn out Aw nw cw wait wr) (o : Obj) : xu w N go nn out Aw nw cw wait (wr.alloc o) := h.later ((Below.refl _ _).alloc lR _)
theorem xu.drew (h : xu w N go nn out Aw nw cw wait wr) : xu w N go nn out Aw nw cw wait wr.drew := h.later (Below.refl _ _).drew
theorem xu.mark (h : xu w N go nn out Aw nw cw wait wr) {k : Nat} (hk : k < nn) : xu w N go nn (out.set k true) Aw nw cw wait (wr.setCell ⟨go, k, none⟩ (.bool true)) := by
 have hg := h.ge;obtain ⟨g, x, hA, h1, h2, hx, hc, hf, hst⟩ := h.ob.at hk;injection hA with hA;injection hA with hA;subst hA;exact ⟨h.bx.far (by simp; omega) _, hst true, h.qu.kept (zg wr _ _) h.ne, h.ne, h.bl.setCell (by simp; omega) _⟩
theorem xu.pop (h : xu w N go nn out Aw nw cw wait wr) (hk : 1 ≤ nw) : xu w N go nn out (qY Aw cw 1) (nw - 1) (cw - 1) (wait.drop 1) wr :=
 ⟨h.bx, h.ob, by have := h.qu.cut hk; rw [yP] at this ⊢; rw [List.map_drop]; exact this, by rw [mB Aw nw cw]; exact h.ne, h.bl⟩
theorem xu.push (h : xu w N go nn out Aw nw cw wait wr) {A' : Option Addr} {c' : Nat} {v : Int} (hq : FT wr' (w.heap.size + 1) 3 A' (nw + 1) c' (zE wait ++ [.int .i64 v])) (hg : wr.grownBy wr' (Value.slice Aw nw cw).ownBlock)
 (ha : (Value.slice A' (nw + 1) c').ownBlock = (Value.slice Aw nw cw).ownBlock ∨ (Value.slice A' (nw + 1) c').ownBlock = some wr.heap.size) : xu w N go nn out A' (nw + 1) c' (wait ++ [v]) wr' := by
 have TV := h.ge
 have hne : some go ≠ (Value.slice Aw nw cw).ownBlock := by
  rcases h.ne with e | e
  ·rw [e]; simp
  ·exact fun e2 => e e2.symm
 refine ⟨h.bx.grown hg (fun e => by have := (h.qu.lt _ e.symm).1; omega), h.ob.kept hg (.inr hne), ?_, ?_, h.bl.trans ⟨hg.os, hg.tape, hg.output, hg.size, fun i hi => hg.block i (by have := h.bl.size; omega) (fun e => by have := (h.qu.lt _ e.symm).1; omega)⟩⟩
 ·rw [ze]; exact hq
 ·rcases ha with e | e
  ·rw [e]; exact h.ne
  ·rw [e]; exact .inr (fun e2 => by injection e2 with e2; omega)
end
def jl (w : World) (nn : Nat) (R : Int → Prop) (e : Ending) (w' : World) : Prop :=
 ∃ (A : Option Addr) (l : List Bool), e = .returned (.slice A nn nn) ∧ l.length = nn ∧ Hid (xR w' (w.heap.size + 1) A nn nn l) ∧ Hid (∀ v : Nat, v < nn → (l[v]? = some true ↔ R v)) ∧ Hid (Below w.heap.size w w')
def cG (w : World) (N : Array Value) (go nn : Nat) (Aw : Option Addr) (nw cw : Nat) (src : List Int) (gk : Nat) (iv : Value) (wr : World) : Prop :=
 ∃ (i : Nat) (out : List Bool), iv = .int .i64 i ∧ i ≤ src.length ∧ gk = src.length - i ∧ Hid (xu w N go nn out Aw nw cw src wr) ∧ Hid (∀ v, ye out v ↔ v ∈ src.take i)
def cF (w : World) (N : Array Value) (go nn : Nat) (ds : List Dv) (U : Nat → Bool) (S : Int → Bool) (src : List Int) (gk : Nat) (qv : Value) (wr : World) : Prop :=
 ∃ (Aw : Option Addr) (nw cw : Nat) (wait : List Int) (out : List Bool), qv = .slice Aw nw cw ∧ gk = wH out + nw ∧ nw + wH out ≤ nn + src.length ∧ Hid (xu w N go nn out Aw nw cw wait wr) ∧ Hid (sV ds U S src out wait)
def cE (w : World) (N : Array Value) (go nn nd : Nat) (ds : List Dv) (U : Nat → Bool) (S : Int → Bool) (src : List Int) (v : Int) (M gk : Nat) (qv jv : Value) (wr : World) : Prop :=
 ∃ (Aw : Option Addr) (nw cw : Nat) (wait : List Int) (out : List Bool) (j : Nat), qv = .slice Aw nw cw ∧ jv = .int .i64 j ∧ j ≤ nd ∧ gk = nd - j ∧ wH out + nw = M ∧ 0 < nw ∧ Hid (xu w N go nn out Aw nw cw wait wr) ∧ Hid (qh ds U S src v j out wait)
theorem xu.wlen {w wr : World} {N : Array Value} {go nn nw cw : Nat} {out : List Bool} {Aw : Option Addr} {wait : List Int} (h : xu w N go nn out Aw nw cw wait wr) : wait.length = nw := by have := h.qu.1; rwa [vT] at this
theorem xu.first {w wr : World} {N : Array Value} {go nn nw cw : Nat} {out : List Bool} {Aw : Option Addr} {wait : List Int} (h : xu w N go nn out Aw nw cw wait wr) (hw : 1 ≤ nw) : ∃ g off v r, wait = v :: r ∧ Aw = some ⟨g, off, none⟩ ∧ wr.cell? ⟨g, off, none⟩ = some (.int .i64 v) := by
 obtain ⟨g, off, u, rfl, hu, hc⟩ := h.qu.at (k := 0) hw;have hl := h.wlen;cases wait with
 | nil => simp at hl; omega
 | cons v r =>
  rw [yP] at hu;simp at hu;subst hu;exact ⟨g, off, v, r, rfl, rfl, hc⟩
theorem jQ (An Ad Af : Option Addr) (nn cn nd cd nf cf Bd Bf fu fs : Nat) (Vh Vi : Array Value) (ds : List Dv) (src : List Int) (U : Nat → Bool) (S : Int → Bool) (w : World)
 (hd : Sl w Bd 5 Ad nd cd (ds.flatMap Dv.cells)) (BP : Bd ≤ w.heap.size) (hf : Sl w Bf 1 Af nf cf (zE src)) (AP : Bf ≤ w.heap.size) (Bq : nn ≤ 10000) (Ab : nf ≤ 10000) (Ae : yf nn ds) (Dg : ∀ v ∈ src, 0 ≤ v ∧ v < nn)
 (Ag : ∀ (args : Array Value) (W : World), (callFunc fu args).run prog W = .ok (.enter fu args) W) (Ah : ∀ (args : Array Value) (W : World), (callFunc fs args).run prog W = .ok (.enter fs args) W)
 (hU : ∀ (W : World) (i : Nat), bW w W → i < nd → Calls prog fu (#[.int .i64 i] ++ Vh) W fun e W' => e = .returned (.bool (U i)) ∧ bW W W')
 (hS : ∀ (W : World) (v : Int), bW w W → 0 ≤ v → v < nn → Calls prog fs (#[.int .i64 v] ++ Vi) W fun e W' => e = .returned (.bool (S v)) ∧ bW W W') :
 Calls prog 154 #[.agg #[.slice An nn cn, .slice Ad nd cd], .slice Af nf cf, .func (.func fu) #[] Vh, .func (.func fs) #[] Vi] w (jl w nn (QU ds U S src)) := by
 have MM := iD (hf.len (fun _ => rfl) (by decide)); have FL := iD (hd.len (fun _ => rfl) (by decide));have JU := hd.le;have Ac := hf.le;have HD := iD hd; have HF := iD hf; have HU := iD hU; have HS := iD hS; have HE := iD Ae; have SA := iD Dg;clear hd hf hU hS Ae Dg;have FX := ou nn (by omega) (w.alloc (.cells #[.slice An nn cn, .slice Ad nd cd] 30));have LC : (w.alloc (.cells #[.slice An nn cn, .slice Ad nd cd] 30)).heap.size = w.heap.size + 1 := by simp
 have DY := iD (ja (w := w.alloc (.cells #[.slice An nn cn, .slice Ad nd cd] 30)) (base := w.heap.size + 1) (n := nn) (by simp) (by omega));rw [LC] at FX DY;have De := iD ((AJ.new w 30 #[.slice An nn cn, .slice Ad nd cd]).alloc (.cells (yY (List.replicate nn false)).toArray 4));have AQ : Hid (Below w.heap.size w ((w.alloc (.cells #[.slice An nn cn, .slice Ad nd cd] 30)).alloc (.cells (yY (List.replicate nn false)).toArray 4))) := ((Below.refl _ _).alloc lR _).alloc (by simp) _;have Tn : Hid (((w.alloc (.cells #[.slice An nn cn, .slice Ad nd cd] 30)).alloc (.cells (yY (List.replicate nn false)).toArray 4)).heap.size = w.heap.size + 2) := by unfold Hid; simp
 clear LC
 go_enter func154, ntmps154
 go_wp2_with fail
 clear FX;generalize World.alloc (World.alloc _ _) _ = W at *;refine (yo Af nf cf Bf src W (HF.below AQ AP) (by have := Tn.out; omega) (by omega)).mono ?_;rintro e w1 ⟨Aw, cw, rfl, hO, hb⟩;rw [MM.out]
 have BG : Hid (xu w #[.slice An nn cn, .slice Ad nd cd] (w.heap.size + 1) nn (List.replicate nn false) Aw nf cw src w1) := by
  have hO' := hO.out;have hz := Tn.out;rw [MM.out] at hO';refine ⟨De.below hb De.lt, DY.later hb, (FT.of_own hO').1 |> fun _ => FT.of_own (hO'.mono (by omega)), zb (fun b e => by have := (hO'.lt b e).1; omega), AQ.trans (hb.mono (by omega))⟩
 clear hO hb DY De AQ Tn;obtain ⟨go, hgo⟩ := eX (w.heap.size + 1);rw [← hgo] at BG ⊢;have AY : w.heap.size + 1 ≤ go := by omega
 clear hgo
 go_wp2_with fail
 go_loopg [24] src.length (cG w #[.slice An nn cn, .slice Ad nd cd] go nn Aw nf cw src)
 case atStart => exact ⟨0, _, rfl, Nat.zero_le _, rfl, BG, fun v => by simp [lF]⟩
 case round =>
  clear BG w1;obtain ⟨i, out, rfl, hi, rfl, hst, FX⟩ := hrel;rw [MM.out] at hi;by_cases hlt : i < nf
  ·obtain ⟨b, off, v, rfl, hb, hx, hc⟩ := (HF.below hst.bl AP).at1 hlt;have hv := SA v (List.mem_of_getElem? hx);obtain ⟨k, rfl⟩ := Int.eq_ofNat_of_zero_le hv.1;have HX := iD hx; clear hx;have Gx : k < nn := by omega
   obtain ⟨g, x, hA, _, _, _, hcell, AE, _⟩ := hst.ob.at Gx;injection hA with hA;injection hA with hA;subst hA;have HM := iD (hst.mark Gx);have Iz := iD hst.ob.len
   go_wp2_with fail
   go_roundg (src.length - (i + 1))
   case rel =>
    refine ⟨i + 1, out.set k true, by go_num, by rw [MM.out]; omega, rfl, HM, fun u => ?_⟩;rw [ri (by rw [Iz.out]; exact Gx), FX.out u, zP HX.out, List.mem_append, List.mem_singleton];exact Or.comm
   case measure => rw [MM.out]; omega
  ·obtain rfl : i = nf := by omega
   have Cw : decide (i < i) = false := by simp
   have AW : Hid (sV ds U S src out src) := sV.start (fun v => by rw [FX.out v, List.take_of_length_le (by rw [MM.out]; exact Nat.le_refl _)]);have Iu : wH out ≤ nn := by rw [← hst.ob.len]; exact List.length_filter_le _ _
   clear FX
   go_wp2_with fail
   go_loopg [10] (wH out + i) (cF w #[.slice An nn cn, .slice Ad nd cd] go nn ds U S src)
   case atStart => exact ⟨Aw, i, cw, src, out, rfl, rfl, by rw [MM.out]; omega, hst, AW⟩
   case round =>
    clear AW hst Iu Cw;obtain ⟨Aw, nw, cw, wait, out, rfl, rfl, hM, hst, VW⟩ := hrel;rw [MM.out] at hM;have AK := hst.qu.le;by_cases hw : 0 < nw; rotate_left
    ·obtain rfl : nw = 0 := by omega
     have AX : wait = [] := List.eq_nil_of_length_eq_zero hst.wlen;subst AX
     go_wp2_with fail
     go_ret;have AG := VW.final;exact ⟨_, out, rfl, hst.ob.len, hst.ob, fun v hv => by rw [← AG]; simp [ye], hst.bl⟩
    ·obtain ⟨g, off, v, r, rfl, rfl, MB⟩ := hst.first hw;have AB := VW.waits v List.mem_cons_self;have KJ : 0 ≤ v ∧ v < nn := ⟨AB.1, by have := (List.getElem?_eq_some_iff.1 AB.2).1; rw [hst.ob.len] at this; omega⟩
     go_wp2_with fail
     refine (HS wr v hst.bl KJ.1 KJ.2).mono ?_;rintro e w1 ⟨rfl, AV⟩;have BF := iD (hst.later AV);clear AV MB hst;rcases hSv : S v with _ | _; rotate_left
     ·have hcut : ∀ W, (Instr.sliceAt 22 (.slice (some ⟨g, off, none⟩) nw cw) (some (.int .i64 1)) none none).run prog W = .ok (.slice (qY (some ⟨g, off, none⟩) cw 1) (nw - 1) (cw - 1)) W := fun W => tR W _ _ _ 1 hw
      have HP := iD (BF.pop hw);have Aa := iD (VW.stop hSv);clear hSv
      go_wp2_with fail
      go_roundg (wH out + (nw - 1))
      ·exact ⟨_, nw - 1, cw - 1, r, out, rfl, rfl, by rw [MM.out]; omega, HP, Aa⟩
      omega
     ·have II := iD hSv; clear hSv;have k1 := BF.bx.c1;have AU := iD (VW.enter (v := v) rfl);clear VW AB
      go_wp2_with fail
      clear k1
      go_loopg [10, 45] nd (cE w #[.slice An nn cn, .slice Ad nd cd] go nn nd ds U S src v (wH out + nw))
      case atStart => exact ⟨_, nw, cw, v :: r, out, 0, rfl, rfl, Nat.zero_le _, rfl, rfl, hw, BF, AU⟩
      case round =>
       obtain ⟨M, Rb⟩ := eX (wH out + nw);rw [← Rb] at hrel;have Ai : M ≤ nn + i := by omega
       have WN := iD Rb;clear BF AU hw hM AK Rb;obtain ⟨Aw, nw, cw, wait, out, j, rfl, rfl, hj, rfl, Rb, hw, hst, Rf⟩ := hrel;have AK := hst.qu.le;obtain ⟨g, off, v', r, rfl, rfl, MB⟩ := hst.first hw;obtain rfl : v = v' := by have := Rf.head; simp at this; exact this.symm
       by_cases Nq : j < nd
       ·obtain ⟨b, NG, x, rfl, hb, hx, hc⟩ := (HD.below hst.bl BP).at (fun _ => rfl) (by decide) Nq;have HX := iD hx;obtain ⟨nm, kd, xa, xb, co⟩ := x;have c0 : wr.cell? ⟨b, NG + j * 5, none⟩ = some (.string nm) := hc 0 _ rfl;have c1 : wr.cell? ⟨b, NG + j * 5 + 1, none⟩ = some (.int .i64 kd) := hc 1 _ rfl;have c2 : wr.cell? ⟨b, NG + j * 5 + 2, none⟩ = some (.int .i64 xa) := hc 2 _ rfl;have c3 : wr.cell? ⟨b, NG + j * 5 + 3, none⟩ = some (.int .i64 xb) := hc 3 _ rfl;have c4 : wr.cell? ⟨b, NG + j * 5 + 4, none⟩ = some (.int .i64 co) := hc 4 _ rfl;clear hc hx;go_upto_region 14 with (fail);clear c0 c1 c2 c3 c4 MB;have HK := iD (AJ.new wr 57 #[.string nm, .int .i64 kd, .int .i64 xa, .int .i64 xb, .int .i64 co]);have EM := iD (hst.alloc (.cells #[.string nm, .int .i64 kd, .int .i64 xa, .int .i64 xb, .int .i64 co] 57));generalize World.alloc _ _ = w2 at *;obtain ⟨bq, FQ⟩ := eX wr.heap.size
        rw [← FQ] at HK ⊢
        have MB : w2.cell? ⟨g, off, none⟩ = some (.int .i64 v) := by
         obtain ⟨g', off', v'', r'', e1, e2, e3⟩ := EM.first hw;injection e1 with e1; injection e2 with e2; injection e2 with e2 e4;subst e1 e2 e4;exact e3
        clear FQ hst;refine fv (fun W' => W'.cell? ⟨bq, 0, none⟩ = some (.string nm) ∧ W'.cell? ⟨bq, 1, none⟩ = some (.int .i64 kd) ∧ W'.cell? ⟨bq, 2, none⟩ = some (.int .i64 xa) ∧ W'.cell? ⟨bq, 3, none⟩ = some (.int .i64 xb) ∧ W'.cell? ⟨bq, 4, none⟩ = some (.int .i64 co) ∧ W'.cell? ⟨g, off, none⟩ = some (.int .i64 v)) [4, 5] ?_ fun AA => ?_
        ·exact ⟨HK.cell 0, HK.cell 1, HK.cell 2, HK.cell 3, HK.cell 4, MB⟩
        try dsimp only at AA
        refine tj 0 50 AA ?_;refine tj 1 51 AA ?_;refine tj 2 52 AA ?_;refine tj 3 53 AA ?_;refine yQ (k := 4) (by kernel_rfl) rfl (fun K hK => ?_)
        (go_simp; refine (lc nm kd xa xb co v _).mono ?_; rintro e w3 ⟨rfl, BX⟩; go_simp)
        refine hK _ _ (fun h => by cases h) (fun _ => ?_)
        try clear AA
        clear hK K
        try simp only [Act.put, sA, sB, sC]
        refine yQ (k := 5) (by kernel_rfl) rfl (fun K hK => ?_)
        go_simp
        refine hK _ _ (fun h => by cases h) (fun _ => ?_)
        try clear AA
        clear hK K
        try simp only [Act.put, sA, sB, sC]
        refine tK ?_;have FH := iD (EM.drew.later BX);have Dz := iD (gL HE HX v);clear BX EM HK MB;obtain ⟨y, hy⟩ : ∃ y, xt ⟨nm, kd, xa, xb, co⟩ v = y := ⟨_, rfl⟩
        rw [hy] at Dz ⊢;have HY := iD hy; clear hy;by_cases h0 : 0 ≤ y; rotate_left
        ·have q0 : decide (0 ≤ y) = false := by simpa using h0
         go_wp2_with fail
         go_roundg (nd - (j + 1))
         ·exact ⟨_, nw, cw, _, out, j + 1, rfl, by go_num, by omega, rfl, Rb.trans WN, hw, FH, Rf.pass HX (fun _ h => absurd h (by rw [HY.out]; omega))⟩
         omega
        ·obtain ⟨k, rfl⟩ := Int.eq_ofNat_of_zero_le h0;have Gx : k < nn := by have := Dz h0; omega
         obtain ⟨g2, bv, hA, _, _, Ou, hcell, AE, _⟩ := FH.ob.at Gx;injection hA with hA;injection hA with hA;subst hA;have BS := iD Ou; clear Ou;rcases bv with _ | _; rotate_left
         ·go_wp2_with fail
          go_roundg (nd - (j + 1))
          ·exact ⟨_, nw, cw, _, out, j + 1, rfl, by go_num, by omega, rfl, Rb.trans WN, hw, FH, Rf.pass HX (fun _ _ => by rw [HY.out]; exact ⟨h0, BS⟩)⟩
          omega
         ·go_wp2_with fail
          refine (HU w3 j FH.bl Nq).mono ?_;rintro e w4 ⟨rfl, Be⟩;have Jb := iD (FH.later Be);clear Be hcell AE FH;rcases hUj : U j with _ | _
          ·have AH := iD hUj; clear hUj
           go_wp2_with fail
           go_roundg (nd - (j + 1))
           ·exact ⟨_, nw, cw, _, out, j + 1, rfl, by go_num, by omega, rfl, Rb.trans WN, hw, Jb, Rf.pass HX (fun h => by rw [AH.out] at h; cases h)⟩
           omega
          ·have AH := iD hUj; clear hUj;obtain ⟨g2, bv, hA, _, _, Ou, hcell, AE, _⟩ := Jb.ob.at Gx;injection hA with hA;injection hA with hA;subst hA;clear Ou;have HM := iD (Jb.mark Gx);have Iz := iD Jb.ob.len;have Aj := qC BS.out;have hz := HM.ge;simp only [World.size_setCell] at hz
           have AZ : Hid (((w4.setCell ⟨go, k, none⟩ (.bool true)).alloc (.cells #[.int .i64 k] 3)).cell? ⟨w4.heap.size, 0, none⟩ = some (.int .i64 k)) := by
            have := (AJ.new (w4.setCell ⟨go, k, none⟩ (.bool true)) 3 #[.int .i64 k]).cell 0
            rwa [World.size_setCell] at this
           go_wp2_with (at_builtin; go_must (refine oV rfl (.tmp 72) (.tmp 74) rfl yU (by rfl) (HM.qu.alloc _) (by simp; omega) (by rfl) (u := .int .i64 k) AZ rfl (by omega) (by omega) ?_; intro A' c' w6 AL JS AO; have HP := iD ((HM.alloc _).push AL JS AO); clear AL JS AO))
           go_roundg (nd - (j + 1))
           ·exact ⟨A', nw + 1, c', _, _, j + 1, rfl, by go_num, by omega, rfl, by have := WN.out; omega, by omega, HP, Rf.push HX HY (by rw [Iz.out]; exact Gx) AH II⟩
           omega
       ·obtain rfl : j = nd := by omega
        have IV : decide (j < j) = false := by simp
        have hcut : ∀ W, (Instr.sliceAt 22 (.slice (some ⟨g, off, none⟩) nw cw) (some (.int .i64 1)) none none).run prog W = .ok (.slice (qY (some ⟨g, off, none⟩) cw 1) (nw - 1) (cw - 1)) W := fun W => tR W _ _ _ 1 hw
        have HP := iD (hst.pop hw);have HL := iD (Rf.leave (by rw [FL.out]; exact Nat.le_refl _));clear hst Rf MB
        go_wp2_with fail
        go_roundg (wH out + (nw - 1))
        case rel => exact ⟨_, nw - 1, cw - 1, r, out, rfl, rfl, by rw [MM.out]; omega, HP, HL⟩
        case measure => have := WN.out; omega
variable {v : Nat}
section
def ui (s : List Int) (i : Nat) : Bool := s.getD i 0 == 2
def yH (ds : List Dv) (s : List Int) (u v : Int) : Prop := QU ds (ui s) (fun _ => false) [u] v
theorem kS {x : Dv} {u : Int} (h : 0 ≤ xt x u) : xt x (xt x u) = u := by
 unfold xt at h ⊢;by_cases hj : zV x.kind = false
 ·rw [if_pos hj] at h; omega
 ·simp only [if_neg hj] at h ⊢;by_cases h1 : x.a = u
  ·simp only [if_pos h1];by_cases h2 : x.a = x.b
   ·rw [if_pos h2]; omega
   ·rw [if_neg h2]; simpa using h1
  ·simp only [if_neg h1] at h ⊢;by_cases h2 : x.b = u
   ·simp only [if_pos h2, if_true]; exact h2
   ·simp only [if_neg h2] at h; omega
section
variable {ds : List Dv} {s : List Int} {u v t : Int} {nn : Nat}
theorem yH.refl (ds : List Dv) (s : List Int) (u : Int) : yH ds s u u := .base (List.mem_singleton.2 rfl)
theorem yH.trans (h : yH ds s u v) (k : yH ds s v t) : yH ds s u t := by
 unfold yH at k
 induction k with
 | base hv => rw [List.mem_singleton.1 hv]; exact h
 | step _ hs hx hU h0 ih => exact .step ih hs hx hU h0
theorem yH.nonneg (hu : 0 ≤ u) (h : yH ds s u v) : 0 ≤ v := by
 unfold yH at h;cases h with
 | base hv => rw [List.mem_singleton.1 hv]; exact hu
 | step _ _ _ _ h0 => exact h0
theorem yH.lt (he : yf nn ds) (hu : u < nn) (h : yH ds s u v) : v < nn := by
 unfold yH at h;cases h with
 | base hv => rw [List.mem_singleton.1 hv]; exact hu
 | step _ _ hx _ h0 => exact gL he hx _ h0
theorem yH.edge {i : Nat} {x : Dv} (hx : ds[i]? = some x) (hc : ui s i = true) (h0 : 0 ≤ xt x u) : yH ds s u (xt x u) := .step (yH.refl ds s u) rfl hx hc h0
theorem yH.sym (hu : 0 ≤ u) (h : yH ds s u v) : yH ds s v u := by
 unfold yH at h
 induction h with
 | base hv => rw [List.mem_singleton.1 hv]; exact yH.refl _ _ _
 | step hr _ hx hU h0 ih =>
  rename_i a i x _
  have ha : 0 ≤ a := yH.nonneg hu hr;have := yH.edge (s := s) (u := xt x a) hx hU (by rw [kS h0]; exact ha);rw [kS h0] at this;exact this.trans ih
end
def yW (nn : Nat) (ds : List Dv) (s out : List Int) : Prop := out.length = nn ∧ ∀ v : Nat, v < nn → ∃ p : Nat, out[v]? = some (p : Int) ∧ p ≤ v ∧ yH ds s p v ∧ ∀ u : Nat, u < nn → yH ds s u v → p ≤ u
section
variable {nn : Nat} {ds : List Dv} {s out a b : List Int}
theorem yW.unique (h : yW nn ds s a) (k : yW nn ds s b) : a = b := by
 apply List.ext_getElem?
 intro v;by_cases hv : v < nn
 ·obtain ⟨p, h1, h2, h3, h4⟩ := h.2 v hv;obtain ⟨q, k1, k2, k3, k4⟩ := k.2 v hv;have := h4 q (by omega) k3;have := k4 p (by omega) h3;rw [h1, k1, show p = q by omega]
 ·rw [List.getElem?_eq_none (by rw [h.1]; omega), List.getElem?_eq_none (by rw [k.1]; omega)]
theorem yW.iff (h : yW nn ds s out) {u : Nat} (hu : u < nn) (hv : v < nn) : out[u]? = out[v]? ↔ yH ds s u v := by
 obtain ⟨p, h1, h2, h3, h4⟩ := h.2 u hu;obtain ⟨q, k1, k2, k3, k4⟩ := h.2 v hv;rw [h1, k1]
 constructor
 ·intro e;have : p = q := by injection e with e; omega
  subst this;exact (h3.sym (by omega)).trans k3
 ·intro e;have e' := e.sym (by omega);have a1 := k4 p (by omega) (h3.trans e);have a2 := h4 q (by omega) (k3.trans e');rw [show p = q by omega]
def tn (nn : Nat) (ds : List Dv) (s : List Int) (v : Nat) (out : List Int) : Prop :=
 out.length = nn ∧ ∀ t : Nat, t < nn → (out[t]? = some (-1) ∧ ∀ u : Nat, u < v → ¬ yH ds s u t) ∨ ∃ p : Nat, out[t]? = some (p : Int) ∧ p < v ∧ p ≤ t ∧ yH ds s p t ∧ ∀ u : Nat, u < nn → yH ds s u t → p ≤ u
theorem tn.start (nn : Nat) (ds : List Dv) (s : List Int) : tn nn ds s 0 (List.replicate nn (-1)) :=
 ⟨List.length_replicate, fun t ht => .inl ⟨by rw [List.getElem?_replicate, if_pos ht], fun u hu => absurd hu (by omega)⟩⟩
theorem tn.skip {x : Int} (h : tn nn ds s v out) (hx : out[v]? = some x) (h0 : 0 ≤ x) : tn nn ds s (v + 1) out := by
 have hv : v < nn := by rw [← h.1]; exact (List.getElem?_eq_some_iff.1 hx).1
 refine ⟨h.1, fun t ht => ?_⟩;rcases h.2 t ht with ⟨h1, h2⟩ | ⟨p, h1, h2, h3⟩
 ·refine .inl ⟨h1, fun u hu hc => ?_⟩;rcases Nat.lt_succ_iff_lt_or_eq.1 hu with hu | rfl
  ·exact h2 u hu hc
  ·rcases h.2 u hv with ⟨k1, _⟩ | ⟨q, k1, k2, _, k3, _⟩
   ·rw [hx] at k1; injection k1; omega
   ·exact h2 q k2 (k3.trans hc)
 ·exact .inr ⟨p, h1, by omega, h3⟩
theorem tn.flood {x : Int} {out' : List Int} (h : tn nn ds s v out) (hx : out[v]? = some x) (h0 : x < 0) (hl : out'.length = out.length) (hu : ∀ y : Nat, y < nn → (yH ds s v y → out'[y]? = some (v : Int)) ∧ (¬ yH ds s v y → out'[y]? = out[y]?)) : tn nn ds s (v + 1) out' := by
 have hv : v < nn := by rw [← h.1]; exact (List.getElem?_eq_some_iff.1 hx).1
 have hno : ∀ u : Nat, u < v → ¬ yH ds s u v := by
  rcases h.2 v hv with ⟨_, h2⟩ | ⟨p, h1, _⟩
  ·exact h2
  ·rw [hx] at h1; injection h1; omega
 refine ⟨hl.trans h.1, fun t ht => ?_⟩;by_cases hc : yH ds s v t
 ·have hc' := hc.sym (by omega)
  have hle : ∀ u : Nat, u < nn → yH ds s u t → v ≤ u := fun u _ AL => by
   rcases Nat.lt_or_ge u v with h1 | h1
   ·exact absurd (AL.trans hc') (hno u h1)
   ·exact h1
  exact .inr ⟨v, (hu t ht).1 hc, by omega, hle t ht (yH.refl _ _ _), hc, hle⟩
 ·rw [(hu t ht).2 hc];rcases h.2 t ht with ⟨h1, h2⟩ | ⟨p, h1, h2, h3⟩
  ·refine .inl ⟨h1, fun u hu DK => ?_⟩;rcases Nat.lt_succ_iff_lt_or_eq.1 hu with hu | rfl
   ·exact h2 u hu DK
   ·exact hc DK
  ·exact .inr ⟨p, h1, by omega, h3⟩
theorem tn.final (h : tn nn ds s nn out) : yW nn ds s out := by
 refine ⟨h.1, fun v hv => ?_⟩;rcases h.2 v hv with ⟨_, h2⟩ | ⟨p, h1, _, h2, h3⟩
 ·exact absurd (yH.refl _ _ _) (h2 v hv)
 ·exact ⟨p, h1, h2, h3⟩
end
def Ny (out : List Int) (l : List Bool) (v : Int) (w : Nat) (out' : List Int) : Prop := out'.length = out.length ∧ ∀ y : Nat, y < out.length → out'[y]? = if y < w ∧ l[y]? = some true then some v else out[y]?
section
variable {out out' : List Int} {l : List Bool} {v : Int} {w : Nat}
theorem Ny.start (out : List Int) (l : List Bool) (v : Int) : Ny out l v 0 out := ⟨rfl, fun y _ => by rw [if_neg (by omega)]⟩
theorem Ny.pass (h : Ny out l v w out') (hl : l[w]? = some false) : Ny out l v (w + 1) out' := by
 refine ⟨h.1, fun y Pw => ?_⟩;rw [h.2 y Pw];by_cases hy : y = w
 ·subst hy; rw [if_neg (by omega), if_neg (by rw [hl]; simp)]
 ·by_cases hb : y < w ∧ l[y]? = some true
  ·rw [if_pos hb, if_pos (And.intro (by omega) hb.2)]
  ·rw [if_neg hb, if_neg (fun hc => hb (And.intro (by omega) hc.2))]
theorem Ny.put (h : Ny out l v w out') (hl : l[w]? = some true) : Ny out l v (w + 1) (out'.set w v) := by
 refine ⟨by rw [List.length_set]; exact h.1, fun y Pw => ?_⟩;rw [List.getElem?_set];by_cases hy : w = y
 ·subst hy; rw [if_pos rfl, if_pos (by rw [h.1]; exact Pw), if_pos (And.intro (by omega) hl)]
 ·rw [if_neg hy, h.2 y Pw];by_cases hb : y < w ∧ l[y]? = some true
  ·rw [if_pos hb, if_pos (And.intro (by omega) hb.2)]
  ·rw [if_neg hb, if_neg (fun hc => hb (And.intro (by omega) hc.2))]
end
theorem ga (n i : Nat) (l : List Int) (hl : l.length = n) (h : ∀ j, j < i → l[j]? = some (-1)) (hi : i < n) : ∀ j, j < i + 1 → (l.set i (-1))[j]? = some (-1 : Int) := by
 intro j hj;rw [List.getElem?_set];split
 ·rw [if_pos (by omega)]
 ·exact h j (by omega)
theorem gc (n : Nat) (l : List Int) (hl : l.length = n) (h : ∀ j, j < n → l[j]? = some (-1)) : l = List.replicate n (-1 : Int) := by
 apply List.ext_getElem?
 intro j;by_cases hj : j < n
 ·rw [h j hj, List.getElem?_replicate, if_pos hj]
 ·rw [List.getElem?_eq_none (by omega), List.getElem?_replicate, if_neg hj]
def yg (k : Int) : Prop := k = 5 ∨ k = 6
def xy (K : Int → Prop) (parts : List Int) (ds : List Dv) (s : List Int) (j : Nat) (p : Int) : Prop := ∃ (i : Nat) (x : Dv), i < j ∧ ds[i]? = some x ∧ s[i]? = some 2 ∧ K x.kind ∧ parts[x.a.toNat]? = some p
open Classical in
noncomputable def ind (P : Prop) (n : Int) : Int := if P then n else 0
theorem oE {P : Prop} (h : P) (n : Int) : ind P n = n := if_pos h
theorem oF {P : Prop} (h : ¬ P) (n : Int) : ind P n = 0 := if_neg h
theorem wl {P Q : Prop} (h : P ↔ Q) (n : Int) : ind P n = ind Q n := by rw [propext h]
theorem yI (P : Prop) (n : Int) : (P ∧ ind P n = n) ∨ (¬ P ∧ ind P n = 0) := by
 by_cases h : P
 ·exact .inl ⟨h, oE h n⟩
 ·exact .inr ⟨h, oF h n⟩
noncomputable def zK (parts : List Int) (ds : List Dv) (s : List Int) (j : Nat) (p : Int) : Int := ind (xy yg parts ds s j p) 1 + ind (xy (· = 4) parts ds s j p) 2
def ud (K : Int → Prop) (ds : List Dv) (s : List Int) (v : Int) : Prop := ∃ (i : Nat) (x : Dv), ds[i]? = some x ∧ s[i]? = some 2 ∧ K x.kind ∧ yH ds s x.a v
noncomputable def tg (ds : List Dv) (s : List Int) (v : Int) : Int := ind (ud yg ds s v) 1 + ind (ud (· = 4) ds s v) 2
def wJ (nn : Nat) (ds : List Dv) (s c : List Int) : Prop := c.length = nn ∧ ∀ v : Nat, v < nn → c[v]? = some (tg ds s v)
def Im (nn : Nat) (ds : List Dv) : Prop := ∀ x ∈ ds, 0 ≤ x.a ∧ x.a < nn
section
variable {K : Int → Prop} {parts s : List Int} {ds : List Dv} {j nn : Nat} {p : Int} {x : Dv}
theorem rt : ¬ xy K parts ds s 0 p := by rintro ⟨i, x, hi, _⟩; omega
theorem wF (hx : ds[j]? = some x) : xy K parts ds s (j + 1) p ↔ xy K parts ds s j p ∨ (s[j]? = some 2 ∧ K x.kind ∧ parts[x.a.toNat]? = some p) := by
 constructor
 ·rintro ⟨i, y, hi, hy, h1, h2, h3⟩;rcases Nat.lt_succ_iff_lt_or_eq.1 hi with hi | rfl
  ·exact .inl ⟨i, y, hi, hy, h1, h2, h3⟩
  ·obtain rfl : y = x := Option.some.inj (hy.symm.trans hx);exact .inr ⟨h1, h2, h3⟩
 ·rintro (⟨i, y, hi, hr⟩ | hr)
  ·exact ⟨i, y, by omega, hr⟩
  ·exact ⟨j, x, by omega, hx, hr⟩
theorem pV : zK parts ds s 0 p = 0 := by unfold zK; rw [oF rt, oF rt]; rfl
theorem xf (hx : ds[j]? = some x) (h : ∀ K : Int → Prop, (K = yg ∨ K = (· = 4)) → ¬ (s[j]? = some 2 ∧ K x.kind ∧ parts[x.a.toNat]? = some p)) : zK parts ds s (j + 1) p = zK parts ds s j p := by
 unfold zK;rw [wl ((wF hx).trans ⟨fun e => e.elim id (fun e => absurd e (h yg (.inl rfl))), .inl⟩), wl ((wF hx).trans ⟨fun e => e.elim id (fun e => absurd e (h (· = 4) (.inr rfl))), .inl⟩)]
theorem vn : zK parts ds s j p = 0 ∨ zK parts ds s j p = 1 ∨ zK parts ds s j p = 2 ∨ zK parts ds s j p = 3 := by
 unfold zK;rcases yI (xy yg parts ds s j p) 1 with ⟨_, e⟩ | ⟨_, e⟩ <;> rcases yI (xy (· = 4) parts ds s j p) 2 with ⟨_, f⟩ | ⟨_, f⟩ <;> rw [e, f] <;> simp
theorem qK (hx : ds[j]? = some x) (hs : s[j]? = some 2) (hk : x.kind = 4) (hp : parts[x.a.toNat]? = some p) : (zK parts ds s j p = 0 → zK parts ds s (j + 1) p = 2) ∧ (zK parts ds s j p = 1 → zK parts ds s (j + 1) p = 3) ∧ (zK parts ds s j p = 2 → zK parts ds s (j + 1) p = 2) ∧ (zK parts ds s j p = 3 → zK parts ds s (j + 1) p = 3) := by
 have h4 : xy (· = 4) parts ds s (j + 1) p := (wF hx).2 (.inr ⟨hs, hk, hp⟩)
 have hl : xy yg parts ds s (j + 1) p ↔ xy yg parts ds s j p := by
  rw [wF hx];exact ⟨fun h => h.elim id (fun h => by have := h.2.1; unfold yg at this; omega), .inl⟩
 unfold zK;rw [oE h4, wl hl];rcases yI (xy yg parts ds s j p) 1 with ⟨_, e⟩ | ⟨_, e⟩ <;> rcases yI (xy (· = 4) parts ds s j p) 2 with ⟨_, f⟩ | ⟨_, f⟩ <;> rw [e, f] <;> simp
theorem pW (hx : ds[j]? = some x) (hs : s[j]? = some 2) (hk : yg x.kind) (hp : parts[x.a.toNat]? = some p) : (zK parts ds s j p = 0 → zK parts ds s (j + 1) p = 1) ∧ (zK parts ds s j p = 1 → zK parts ds s (j + 1) p = 1) ∧ (zK parts ds s j p = 2 → zK parts ds s (j + 1) p = 3) ∧ (zK parts ds s j p = 3 → zK parts ds s (j + 1) p = 3) := by
 have h4 : xy yg parts ds s (j + 1) p := (wF hx).2 (.inr ⟨hs, hk, hp⟩)
 have hl : xy (· = 4) parts ds s (j + 1) p ↔ xy (· = 4) parts ds s j p := by
  rw [wF hx];exact ⟨fun h => h.elim id (fun h => by have := h.2.1; unfold yg at hk; omega), .inl⟩
 unfold zK;rw [oE h4, wl hl];rcases yI (xy yg parts ds s j p) 1 with ⟨_, e⟩ | ⟨_, e⟩ <;> rcases yI (xy (· = 4) parts ds s j p) 2 with ⟨_, f⟩ | ⟨_, f⟩ <;> rw [e, f] <;> simp
theorem kE (hp : yW nn ds s parts) (ha : Im nn ds) (hv : v < nn) {q : Int} (hq : parts[v]? = some q) : xy K parts ds s ds.length q ↔ ud K ds s v := by
 constructor
 ·rintro ⟨i, x, _, hx, h1, h2, h3⟩;have Ms := ha x (List.mem_of_getElem? hx);obtain ⟨a, AH⟩ := Int.eq_ofNat_of_zero_le Ms.1;refine ⟨i, x, hx, h1, h2, ?_⟩;rw [AH] at h3 ⊢;exact (hp.iff (by omega) hv).1 (by rw [hq]; exact h3)
 ·rintro ⟨i, x, hx, h1, h2, h3⟩;have Ms := ha x (List.mem_of_getElem? hx);obtain ⟨a, AH⟩ := Int.eq_ofNat_of_zero_le Ms.1;refine ⟨i, x, (List.getElem?_eq_some_iff.1 hx).1, hx, h1, h2, ?_⟩;rw [AH] at h3 ⊢;have := (hp.iff (by omega) hv).2 h3;rw [hq] at this;exact this
theorem mL (hp : yW nn ds s parts) (ha : Im nn ds) (hv : v < nn) {q : Int} (hq : parts[v]? = some q) : zK parts ds s ds.length q = tg ds s v := by
 unfold zK tg;rw [wl (kE hp ha hv hq), wl (kE hp ha hv hq)]
theorem wJ.unique {a b : List Int} (h : wJ nn ds s a) (k : wJ nn ds s b) : a = b := by
 apply List.ext_getElem?
 intro v;by_cases hv : v < nn
 ·rw [h.2 v hv, k.2 v hv]
 ·rw [List.getElem?_eq_none (by rw [h.1]; omega), List.getElem?_eq_none (by rw [k.1]; omega)]
end
end
structure uK (w : World) (N : Array Value) (As : Option Addr) (n c go nn : Nat) (out : List Int) (wr : World) : Prop where
 bx : AJ wr w.heap.size 30 N
 sx : AJ wr (w.heap.size + 1) 22 #[.slice As n c]
 ob : zL wr (w.heap.size + 2) (some ⟨go, 0, none⟩) nn nn out
 bl : bW w wr
section
variable {w wr wr' : World} {N : Array Value} {As : Option Addr} {n c go nn : Nat} {out : List Int}
theorem uK.ge (h : uK w N As n c go nn out wr) : w.heap.size + 2 ≤ go ∧ go < wr.heap.size := h.ob.lt go rfl
theorem uK.later (h : uK w N As n c go nn out wr) (hb : bW wr wr') : uK w N As n c go nn out wr' :=
 ⟨h.bx.below hb h.bx.lt, h.sx.below hb h.sx.lt, h.ob.later hb, h.bl.trans (hb.mono h.bl.size)⟩
theorem uK.alloc (h : uK w N As n c go nn out wr) (o : Obj) : uK w N As n c go nn out (wr.alloc o) := h.later ((Below.refl _ _).alloc lR _)
theorem uK.put (h : uK w N As n c go nn out wr) {k : Nat} (hk : k < nn) (v : Int) : uK w N As n c go nn (out.set k v) (wr.setCell ⟨go, k, none⟩ (.int .i64 v)) := by
 have hg := h.ge;obtain ⟨g, x, hA, h1, h2, hx, hc, hf, hst⟩ := h.ob.at hk;injection hA with hA;injection hA with hA;subst hA;exact ⟨h.bx.far (by simp; omega) _, h.sx.far (by simp; omega) _, hst v, h.bl.setCell (by simp; omega) _⟩
theorem uK.cell (h : uK w N As n c go nn out wr) {k : Nat} (hk : k < nn) : ∃ x, out[k]? = some x ∧ wr.cell? ⟨go, k, none⟩ = some (.int .i64 x) ∧ wr.frozen? ⟨go, k, none⟩ = false := by
 obtain ⟨g, x, hA, h1, h2, hx, hc, hf, hst⟩ := h.ob.at hk;injection hA with hA;injection hA with hA;subst hA;exact ⟨x, hx, hc, hf⟩
end
theorem lU (As : Option Addr) (n c B : Nat) (s : List Int) (p : Addr) (i : Nat) (w : World) (hs : Sl w B 1 As n c (zE s)) (hp : w.cell? p = some (.slice As n c)) (hi : i < n) : Calls prog 152 #[.int .i64 i, .pointer (some p)] w fun e w' => e = .returned (.bool (ui s i)) ∧ w = w' := by
 obtain ⟨b, off, x, rfl, hb, hx, hc⟩ := hs.at1 hi;have hm := hs.le;have HC : Hid (ui s i = (x == 2)) := by unfold Hid ui; rw [List.getD_eq_getElem?_getD, hx]; rfl
 clear hs hx
 go_enter func152, ntmps152
 go_wp2_with fail
 go_ret;exact ⟨zF (by rw [HC.out]), rfl⟩
theorem jH (v : Int) (w : World) : Calls prog 153 #[.int .i64 v] w fun e w' => e = .returned (.bool false) ∧ w = w' := by
 go_enter func153, ntmps153
 go_wp2_with fail
 go_ret;exact ⟨rfl, rfl⟩
def jj (w : World) (nn : Nat) (ds : List Dv) (s : List Int) (e : Ending) (w' : World) : Prop :=
 ∃ (A : Option Addr) (out : List Int), e = .returned (.slice A nn nn) ∧ Hid (zL w' w.heap.size A nn nn out) ∧ Hid (yW nn ds s out) ∧ Hid (Below w.heap.size w w')
def dt (w : World) (N : Array Value) (As : Option Addr) (n c go nn gk : Nat) (iv : Value) (wr : World) : Prop :=
 ∃ (i : Nat) (out : List Int), iv = .int .i64 i ∧ i ≤ nn ∧ gk = nn - i ∧ Hid (uK w N As n c go nn out wr) ∧ Hid (∀ j, j < i → out[j]? = some (-1))
def dr (w : World) (N : Array Value) (As : Option Addr) (n c go nn : Nat) (ds : List Dv) (s : List Int) (gk : Nat) (iv : Value) (wr : World) : Prop :=
 ∃ (i : Nat) (out : List Int), iv = .int .i64 i ∧ i ≤ nn ∧ gk = nn - i ∧ Hid (uK w N As n c go nn out wr) ∧ Hid (tn nn ds s i out)
def dq (w : World) (N : Array Value) (As : Option Addr) (n c go nn : Nat) (Al : Option Addr) (l : List Bool) (v : Nat) (AE : List Int) (gk : Nat) (iv : Value) (wr : World) : Prop :=
 ∃ (i : Nat) (out : List Int), iv = .int .i64 i ∧ i ≤ nn ∧ gk = nn - i ∧ Hid (uK w N As n c go nn out wr) ∧ Hid (Ny AE l v i out) ∧ Hid (xR wr (go + 1) Al nn nn l)
theorem jD (An Ad As : Option Addr) (nn cn nd cd n c Bd Bs : Nat) (ds : List Dv) (s : List Int) (w : World)
 (hd : Sl w Bd 5 Ad nd cd (ds.flatMap Dv.cells)) (BP : Bd ≤ w.heap.size) (hs : Sl w Bs 1 As n c (zE s)) (CJ : Bs ≤ w.heap.size) (Bq : nn ≤ 10000) (hn : nd ≤ n) (Ae : yf nn ds) :
 Calls prog 126 #[.agg #[.slice An nn cn, .slice Ad nd cd], .slice As n c] w (jj w nn ds s) := by
 have HD := iD hd; have HS := iD hs; have HE := iD Ae;clear hd hs Ae;have FX := vf nn (by omega) ((w.alloc (.cells #[.slice An nn cn, .slice Ad nd cd] 30)).alloc (.cells #[.slice As n c] 22));have LC : ((w.alloc (.cells #[.slice An nn cn, .slice Ad nd cd] 30)).alloc (.cells #[.slice As n c] 22)).heap.size = w.heap.size + 1 + 1 := by simp
 have BG : Hid (uK w #[.slice An nn cn, .slice Ad nd cd] As n c (w.heap.size + 1 + 1) nn (List.replicate nn 0) (((w.alloc (.cells #[.slice An nn cn, .slice Ad nd cd] 30)).alloc (.cells #[.slice As n c] 22)).alloc (.cells (zE (List.replicate nn 0)).toArray 3))) := by
  refine ⟨((AJ.new w _ _).alloc _).alloc _, ?_, ?_, (((Below.refl _ _).alloc lR _).alloc (by simp) _).alloc (by simp; omega) _⟩
  ·have := AJ.new (w.alloc (.cells #[.slice An nn cn, .slice Ad nd cd] 30)) 22 #[.slice As n c];rw [World.size_alloc] at this;exact this.alloc _
  ·have := tZ (w := (w.alloc (.cells #[.slice An nn cn, .slice Ad nd cd] 30)).alloc (.cells #[.slice As n c] 22)) (base := w.heap.size + 2) (n := nn) (by simp) (by omega);rw [LC] at this;exact this
 rw [LC] at FX;clear LC;have QE : ∀ (fn : Fn) (first cap : Array Value) (w : World), (Instr.makeFunc fn first cap).run prog w = .ok (.func fn first cap) w := fun _ _ _ _ => rfl
 go_enter func126, ntmps126
 go_wp2_with fail
 clear FX;obtain ⟨go, hgo⟩ := eX (w.heap.size + 1 + 1);rw [← hgo] at BG ⊢;have AP : w.heap.size + 2 ≤ go := by omega
 clear hgo;generalize World.alloc (World.alloc (World.alloc _ _) _) _ = W at *
 go_loopg [18] nn (dt w #[.slice An nn cn, .slice Ad nd cd] As n c go nn)
 case atStart => exact ⟨0, _, rfl, Nat.zero_le _, rfl, BG, fun j hj => absurd hj (by omega)⟩
 case round =>
  clear BG;obtain ⟨i, out, rfl, hi, rfl, hst, QF⟩ := hrel;by_cases hlt : i < nn
  ·obtain ⟨x, hx, hcell, AG⟩ := hst.cell hlt;clear hx;have HM := iD (hst.put hlt (-1));have Iz := iD hst.ob.len
   go_wp2_with fail
   go_roundg (nn - (i + 1))
   ·exact ⟨i + 1, _, by go_num, by omega, rfl, HM, ga nn i out Iz QF hlt⟩
   omega
  ·obtain rfl : i = nn := by omega
   have Cw : decide (i < i) = false := by simp
   have AK : Hid (tn i ds s 0 out) := by
    have := gc i out hst.ob.len QF.out;rw [this];exact tn.start i ds s
   clear QF
   go_wp2_with fail
   go_loopg [28] i (dr w #[.slice An i cn, .slice Ad nd cd] As n c go i ds s)
   case atStart => exact ⟨0, _, rfl, Nat.zero_le _, rfl, hst, AK⟩
   case round =>
    clear hst AK Cw;obtain ⟨v, out, rfl, hv, rfl, hst, AB⟩ := hrel;by_cases Mh : v < i; rotate_left
    ·obtain rfl : v = i := by omega
     have AU : decide (v < v) = false := by simp
     go_wp2_with fail
     go_ret;exact ⟨_, out, rfl, hst.ob.mono (by omega), AB.final, hst.bl⟩
    ·obtain ⟨x, hx, hcell, AG⟩ := hst.cell Mh;have HX := iD hx; clear hx;by_cases h0 : 0 ≤ x
     ·go_wp2_with fail
      go_roundg (i - (v + 1))
      ·exact ⟨v + 1, out, by go_num, by omega, rfl, hst, AB.skip HX h0⟩
      omega
     ·have q0 : decide (0 ≤ x) = false := by simpa using h0
      obtain ⟨k0, k1⟩ := hst.bx.d2
      go_wp2_with fail
      clear k0 k1 hcell AG q0;have BF := iD (hst.alloc (.cells #[.int .i64 v] 3));have Hr : Hid (Sl (wr.alloc (.cells #[.int .i64 v] 3)) (wr.heap.size + 1) 1 (some ⟨wr.heap.size, 0, none⟩) 1 1 (zE [(v : Int)])) := Sl.newest (n := 1) rfl rfl (by decide);have AW := hst.ge;have Kq : (wr.alloc (.cells #[.int .i64 v] 3)).heap.size = wr.heap.size + 1 := by simp
      have OA := iD Kq; clear Kq hst;obtain ⟨bq, FQ⟩ := eX wr.heap.size;rw [← FQ] at Hr OA ⊢;generalize World.alloc _ _ = w1 at *;refine (jQ An Ad (some ⟨bq, 0, none⟩) i cn nd cd 1 1 Bd (bq + 1) 152 153 #[.pointer (some ⟨w.heap.size + 1, 0, none⟩)] #[] ds [(v : Int)] (ui s) (fun _ => false) w1 (HD.below BF.bl BP) (by have := BF.bl.size; omega) Hr (by have := OA.out; omega) Bq (by decide) HE ?_ ?_ ?_ ?_ ?_).mono ?_
      ·intro u hu; rw [List.mem_singleton.1 hu]; omega
      ·exact enters_of func152 (by kernel_rfl) rfl
      ·exact enters_of func153 (by kernel_rfl) rfl
      ·intro W j hb hj;refine (lU As n c Bs s ⟨w.heap.size + 1, 0, none⟩ j W ((HS.below BF.bl CJ).below hb (by have := BF.bl.size; omega)) ?_ (by omega)).mono ?_
       ·exact (BF.sx.below hb BF.sx.lt).cell 0
       ·rintro e W' ⟨rfl, rfl⟩; exact ⟨rfl, Below.refl _ _⟩
      ·intro W u hb _ _;refine (jH u W).mono ?_;rintro e W' ⟨rfl, rfl⟩; exact ⟨rfl, Below.refl _ _⟩
      ·rintro e w2 ⟨Al, l, rfl, Oj, RO, AO, AZ⟩;have EM := iD (BF.later AZ);have Fx : Hid (xR w2 (go + 1) Al i i l) := RO.mono (by have := OA.out; omega);have Kw := iD Oj;clear BF AZ RO Oj Hr OA
       go_wp2_with fail
       go_loopg [43] i (dq w #[.slice An i cn, .slice Ad nd cd] As n c go i Al l v out)
       case atStart => exact ⟨0, out, rfl, Nat.zero_le _, rfl, EM, Ny.start _ _ _, Fx⟩
       case round =>
        clear EM Fx;obtain ⟨t, out', rfl, ht, rfl, hst, AA, RO⟩ := hrel;by_cases hlt' : t < i; rotate_left
        ·obtain rfl : t = i := by omega
         have AV : decide (t < t) = false := by simp
         have AQ : Hid (tn t ds s (v + 1) out') := by
          refine AB.flood HX (by omega) AA.1 (fun y hy => ?_);have hy' : y < out.length := by rw [AB.1]; exact hy
          have hq := AO y hy;rw [AA.2 y hy'];refine ⟨fun hc => ?_, fun hc => ?_⟩
          ·rw [if_pos (And.intro hy (hq.2 hc))]
          ·rw [if_neg (fun h => hc (hq.1 h.2))]
         go_wp2_with fail
         go_roundg (t - (v + 1))
         ·exact ⟨v + 1, out', by go_num, by omega, rfl, hst, AQ⟩
         omega
        ·obtain ⟨gl, bv, rfl, AX, _, Ou, Iu, Lv, _⟩ := RO.at hlt';have BS := iD Ou; clear Ou Lv;rcases bv with _ | _
         ·go_wp2_with fail
          go_roundg (i - (t + 1))
          ·exact ⟨t + 1, out', by go_num, by omega, rfl, hst, AA.pass BS, RO⟩
          omega
         ·obtain ⟨x', hx', hcell, AG⟩ := hst.cell hlt';clear hx';have HM := iD (hst.put hlt' v);have Fx : Hid (xR (wr.setCell ⟨go, t, none⟩ (.int .i64 v)) (go + 1) (some ⟨gl, 0, none⟩) i i l) := RO.kept (zg wr _ _) (zb fun b e => by have := (RO.lt b e).1; simp; omega)
          go_wp2_with fail
          go_roundg (i - (t + 1))
          ·exact ⟨t + 1, _, by go_num, by omega, rfl, HM, AA.put BS, Fx⟩
          omega
end Go.Proofs.YtkkobemhbicjgaaGreatDoor
