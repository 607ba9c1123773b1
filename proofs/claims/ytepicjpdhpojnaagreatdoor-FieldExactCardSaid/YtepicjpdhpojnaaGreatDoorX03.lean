import Derived.Test.YtepicjpdhpojnaaGreatDoorX02
import Derived.Deep.RegionHeld
import Derived.StillTail
set_option maxRecDepth 100000
set_option maxHeartbeats 1000000
namespace Go.Proofs.YtepicjpdhpojnaaGreatDoor
section
open Go.RowKit
def yy (x : Dv) (v : Int) : Int := if zo x.kind = false then -1 else if x.a = v then x.b else if x.b = v then x.a else -1
theorem mN (nm : ByteArray) (kind a b comp v : Int) (w : World) : Calls Tryz.prog 144 #[.agg #[.string nm, .int .i64 kind, .int .i64 a, .int .i64 b, .int .i64 comp], .int .i64 v] w fun e w' => e = .returned (.int .i64 (yy ⟨nm, kind, a, b, comp⟩ v)) ∧ Below w.heap.size w w' := by
 have HE : Hid (yy ⟨nm, kind, a, b, comp⟩ v = if zo kind = false then -1 else if a = v then b else if b = v then a else -1) := rfl
 have HJ2 := iD (sO kind)
 rcases hj : zo kind with _ | _
 ·rw [hj] at HJ2
  have HJ := iD hj; clear hj
  go_enter Tryz.func144, Tryz.ntmps144
  go_wp2_with fail
  refine (HJ2.out _).mono ?_
  rintro e w1 ⟨rfl, rfl⟩
  go_wp2_with fail
  go_ret
  exact ⟨zI (by rw [HE.out, if_pos HJ.out]), (Below.refl _ _).alloc lR _⟩
 ·rw [hj] at HJ2
  have HJ := iD hj; clear hj
  by_cases h1 : a = v
  ·subst h1
   have q : (a == a) = true := by simp
   go_enter Tryz.func144, Tryz.ntmps144
   go_wp2_with fail
   refine (HJ2.out _).mono ?_
   rintro e w1 ⟨rfl, rfl⟩
   go_wp2_with fail
   go_ret
   exact ⟨zI (by rw [HE.out, if_neg (by rw [HJ.out]; simp)]; simp), (Below.refl _ _).alloc lR _⟩
  ·have q : (a == v) = false := by simpa using h1
   by_cases h2 : b = v
   ·subst h2
    have q2 : (b == b) = true := by simp
    go_enter Tryz.func144, Tryz.ntmps144
    go_wp2_with fail
    refine (HJ2.out _).mono ?_
    rintro e w1 ⟨rfl, rfl⟩
    go_wp2_with fail
    go_ret
    exact ⟨zI (by rw [HE.out, if_neg (by rw [HJ.out]; simp), if_neg h1]; simp), (Below.refl _ _).alloc lR _⟩
   ·have q2 : (b == v) = false := by simpa using h2
    go_enter Tryz.func144, Tryz.ntmps144
    go_wp2_with fail
    refine (HJ2.out _).mono ?_
    rintro e w1 ⟨rfl, rfl⟩
    go_wp2_with fail
    go_ret
    exact ⟨zI (by rw [HE.out, if_neg (by rw [HJ.out]; simp), if_neg h1, if_neg h2]), (Below.refl _ _).alloc lR _⟩
def ul (w : World) (l : List Int) (e : Ending) (w' : World) : Prop := ∃ (A : Option Addr) (c : Nat), e = .returned (.slice A l.length c) ∧ Hid (zQ w' w.heap.size A l.length c l) ∧ Hid (Below w.heap.size w w')
theorem qU (A : Option Addr) (n c : Nat) (w : World) : (binOp BinOp.eql 22 (.slice A n c) (.slice none 0 0)).run Tryz.prog w = .ok (.bool A.isNone) w := by
 cases A <;> kernel_rfl
theorem x9 (A : Option Addr) (n c B : Nat) (l : List Int) (w : World) (hs : Sl w B 1 A n c (zK l)) (hB : B ≤ w.heap.size) (hn : n ≤ 1000000) : Calls Tryz.prog 80 #[.slice A n c] w (ul w l) := by
 have hl := hs.len (fun _ => rfl) (by decide)
 have HL := iD hl; clear hl
 cases A with
 | none =>
  have h0 : n = 0 := by have := hs.2.2.2.1 rfl; have := hs.le; omega
  subst h0
  have hl0 : l = [] := List.eq_nil_of_length_eq_zero HL.out
  subst hl0
  clear hs HL
  have hnil := qU none 0 c w
  simp only [Option.isNone_none] at hnil
  go_enter Tryz.func80, Tryz.ntmps80
  go_wp2_with fail
  go_ret
  exact ⟨none, 0, rfl, World.ownsRow_nil _ _ _ _, Below.refl _ _⟩
 | some a =>
  have HS := iD hs
  have hH := hs.le
  clear hs
  have hnil := qU (some a) n c w
  simp only [Option.isNone_some] at hnil
  go_enter Tryz.func80, Tryz.ntmps80
  have h1 : ∀ u ∈ zK l, u.oneCell' = true := vi l
  have HS1 := iD (HS.out.alloc hB (.cells #[] 3))
  go_wp2_with (at_builtin; go_must (refine zW rfl (.tmp 5) (.tmp 6) rfl yX (base := w.heap.size) (n := 0) (xs := []) (by rfl) (tq (xs := []) lR (by decide) rfl) (by rfl) HS1.out h1 (by omega) (by omega) (by simp) ?_; intro A' cap' w2 hown2 hgr2 hat2; simp only [Nat.zero_add, List.nil_append] at hown2 hgr2; have HO := iD hown2; have HG := iD hgr2; clear hown2 hgr2 hat2))
  go_ret
  obtain rfl : l.length = n := HL.out
  exact ⟨A', cap', rfl, HO.out, ((Below.refl _ _).alloc lR _).trans (yL HG.out lR (by simp))⟩
end
section
inductive Rch (ds : List Dv) (U : Nat → Bool) (S : Int → Bool) (src : List Int) : Int → Prop
 | base {v : Int} : v ∈ src → Rch ds U S src v
 | step {u : Int} {i : Nat} {x : Dv} : Rch ds U S src u → S u = false → ds[i]? = some x → U i = true → 0 ≤ yy x u → Rch ds U S src (yy x u)
def zZ (out : List Bool) (v : Int) : Prop := 0 ≤ v ∧ out[v.toNat]? = some true
def xG (nn : Nat) (ds : List Dv) : Prop := ∀ x ∈ ds, zo x.kind = true → (0 ≤ x.a ∧ x.a < nn) ∧ (0 ≤ x.b ∧ x.b < nn)
def zx (out : List Bool) : Nat := (out.filter (fun b => !b)).length
theorem kx {nn : Nat} {ds : List Dv} (h : xG nn ds) {i : Nat} {x : Dv} (hx : ds[i]? = some x) (v : Int) (h0 : 0 ≤ yy x v) : yy x v < nn := by
 have hm := h x (List.mem_of_getElem? hx)
 unfold yy at h0 ⊢
 split at h0
 ·omega
 ·rename_i hj
  have := hm (by simpa using hj)
  rw [if_neg hj]
  split
  ·omega
  ·split
   ·omega
   ·rename_i h1 h2; rw [if_neg h1, if_neg h2] at h0; omega
theorem y7 {out : List Bool} {k : Nat} (hk : k < out.length) (v : Int) : zZ (out.set k true) v ↔ v = k ∨ zZ out v := by
 unfold zZ
 rw [List.getElem?_set]
 constructor
 ·rintro ⟨h0, h1⟩
  split at h1
  ·left; omega
  ·exact .inr ⟨h0, h1⟩
 ·rintro (rfl | ⟨h0, h1⟩)
  ·exact ⟨by omega, by simp [hk]⟩
  ·refine ⟨h0, ?_⟩
   split
   ·simp
   ·exact h1
theorem vH : ∀ {out : List Bool} {k : Nat}, out[k]? = some false → zx (out.set k true) + 1 = zx out
 | [], k, h => by simp at h
 | b :: out, 0, h => by simp at h; subst h; simp [zx]
 | b :: out, k + 1, h => by
  simp at h
  have := vH h
  unfold zx at *
  rw [List.set_cons_succ, List.filter_cons, List.filter_cons]
  split <;> simp_all
theorem tT (n : Nat) (v : Int) : ¬ zZ (List.replicate n false) v := by
 rintro ⟨_, h⟩
 rw [List.getElem?_replicate] at h
 split at h <;> simp at h
structure sg (ds : List Dv) (U : Nat → Bool) (S : Int → Bool) (src : List Int) (out : List Bool) (wait : List Int) : Prop where
 sound : ∀ v, zZ out v → Rch ds U S src v
 waits : ∀ v ∈ wait, zZ out v
 srcs : ∀ v ∈ src, zZ out v
 done : ∀ u, zZ out u → u ∉ wait → S u = false → ∀ i x, ds[i]? = some x → U i = true → 0 ≤ yy x u → zZ out (yy x u)
structure qQ (ds : List Dv) (U : Nat → Bool) (S : Int → Bool) (src : List Int) (v : Int) (j : Nat) (out : List Bool) (wait : List Int) : Prop where
 sound : ∀ v, zZ out v → Rch ds U S src v
 waits : ∀ v ∈ wait, zZ out v
 srcs : ∀ v ∈ src, zZ out v
 done : ∀ u, zZ out u → u ∉ wait → S u = false → ∀ i x, ds[i]? = some x → U i = true → 0 ≤ yy x u → zZ out (yy x u)
 head : wait.head? = some v
 here : ∀ i x, i < j → ds[i]? = some x → U i = true → 0 ≤ yy x v → zZ out (yy x v)
section
variable {ds : List Dv} {U : Nat → Bool} {S : Int → Bool} {src wait : List Int} {out : List Bool} {v : Int} {j : Nat}
theorem sg.start (h : ∀ v, zZ out v ↔ v ∈ src) : sg ds U S src out src :=
 ⟨fun v hv => .base ((h v).1 hv), fun v hv => (h v).2 hv, fun v hv => (h v).2 hv, fun u hu hn => absurd ((h u).1 hu) hn⟩
theorem sg.enter (h : sg ds U S src out wait) (hv : wait.head? = some v) : qQ ds U S src v 0 out wait :=
 ⟨h.sound, h.waits, h.srcs, h.done, hv, fun i x hi => absurd hi (by omega)⟩
theorem sg.stop (h : sg ds U S src out (v :: wait)) (hs : S v = true) : sg ds U S src out wait :=
 ⟨h.sound, fun u hu => h.waits u (List.mem_cons_of_mem _ hu), h.srcs, fun u hu hn hsu i x hx hU h0 => by
  refine h.done u hu (fun hm => ?_) hsu i x hx hU h0
  rcases List.mem_cons.1 hm with rfl | hm
  ·rw [hs] at hsu; cases hsu
  ·exact hn hm⟩
theorem qQ.leave (h : qQ ds U S src v j out (v :: wait)) (hj : ds.length ≤ j) : sg ds U S src out wait :=
 ⟨h.sound, fun u hu => h.waits u (List.mem_cons_of_mem _ hu), h.srcs, fun u hu hn hsu i x hx hU h0 => by
  by_cases huv : u = v
  ·subst huv
   exact h.here i x (Nat.lt_of_lt_of_le (List.getElem?_eq_some_iff.1 hx).1 hj) hx hU h0
  ·refine h.done u hu (fun hm => ?_) hsu i x hx hU h0
   rcases List.mem_cons.1 hm with e | hm
   ·exact huv e
   ·exact hn hm⟩
theorem qQ.pass (h : qQ ds U S src v j out wait) {x : Dv} (hx : ds[j]? = some x) (hp : U j = true → 0 ≤ yy x v → zZ out (yy x v)) : qQ ds U S src v (j + 1) out wait :=
 ⟨h.sound, h.waits, h.srcs, h.done, h.head, fun i y hi hy hU h0 => by
  rcases Nat.lt_succ_iff_lt_or_eq.1 hi with hi | rfl
  ·exact h.here i y hi hy hU h0
  ·obtain rfl : y = x := Option.some.inj (hy.symm.trans hx)
   exact hp hU h0⟩
theorem qQ.push (h : qQ ds U S src v j out wait) {x : Dv} (hx : ds[j]? = some x) {k : Nat} (hk : yy x v = k) (hkl : k < out.length) (hU : U j = true) (hS : S v = false) : qQ ds U S src v (j + 1) (out.set k true) (wait ++ [(k : Int)]) := by
 have hv : zZ out v := h.waits v (List.mem_of_mem_head? h.head)
 have hm := fun u => y7 (out := out) hkl u
 refine ⟨fun u hu => ?_, fun u hu => ?_, fun u hu => (hm u).2 (.inr (h.srcs u hu)), fun u hu hn hsu i y hy hUi h0 => ?_, ?_, fun i y hi hy hUi h0 => ?_⟩
 ·rcases (hm u).1 hu with rfl | hu
  ·rw [← hk]; exact .step (h.sound v hv) hS hx hU (by omega)
  ·exact h.sound u hu
 ·rcases List.mem_append.1 hu with hu | hu
  ·exact (hm u).2 (.inr (h.waits u hu))
  ·exact (hm u).2 (.inl (List.mem_singleton.1 hu))
 ·rcases (hm u).1 hu with rfl | hu
  ·exact absurd (List.mem_append_right _ (List.mem_singleton.2 rfl)) hn
  ·exact (hm _).2 (.inr (h.done u hu (fun hw => hn (List.mem_append_left _ hw)) hsu i y hy hUi h0))
 ·have := h.head
  cases wait with
  | nil => simp at this
  | cons a l => simpa using this
 ·rcases Nat.lt_succ_iff_lt_or_eq.1 hi with hi | rfl
  ·exact (hm _).2 (.inr (h.here i y hi hy hUi h0))
  ·obtain rfl : y = x := Option.some.inj (hy.symm.trans hx)
   exact (hm _).2 (.inl hk)
theorem sg.final (h : sg ds U S src out []) : ∀ v, zZ out v ↔ Rch ds U S src v := by
 intro v
 refine ⟨h.sound v, fun hr => ?_⟩
 induction hr with
 | base hv => exact h.srcs _ hv
 | step _ hs hx hU h0 ih => exact h.done _ ih (by simp) hs _ _ hx hU h0
end
end
section
open Go.RowKit
section
variable {P : Program} {w : World} {t e : TypeId} {bytes base n c : Nat} {A : Option Addr} {xs : List Value}
theorem lu (E : wM P t e 1 bytes) (ty : TypeId) (h : Que w base e A n c xs) (hbase : base ≤ w.heap.size) {u : Value} {ad : Addr} {cx : Nat} (hu : w.cell? ad = some u) (h1 : u.oneCell' = true) (hby : (n + 1) * bytes ≤ 140737488355328) (h63 : n + 1 ≤ 9223372036854775807) :
 ∃ A' c' w', (Builtin.append_ #[t, t] ty #[.slice A n c, .slice (some ad) 1 cx]).run P w = .ok (.slice A' (n + 1) c') w' ∧ Que w' base e A' (n + 1) c' (xs ++ [u]) ∧ w.grownBy w' (Value.slice A n c).ownBlock ∧
  ((Value.slice A' (n + 1) c').ownBlock = (Value.slice A n c).ownBlock ∨ (Value.slice A' (n + 1) c').ownBlock = some w.heap.size) := by
 obtain ⟨ht, ⟨i, z, hi, hz, hs, hb, hzc⟩, hp⟩ := E
 obtain ⟨q1, q2, q3, q4, q5⟩ := h
 have hz0 : ad.add 0 = ad := by cases ad with | mk b o s => cases s <;> simp [Addr.add]
 have hsrc : Src P i.size t (.slice (some ad) 1 cx) 1 [u] w := by
  rw [hs]
  refine Src.ofSlice w ht ad 1 cx [u] rfl (fun j v hv => ?_) (by simpa using h1)
  cases j with
  | zero => simp at hv; subst hv; rw [hz0]; exact hu
  | succ j => simp at hv
 by_cases hr : n + 1 ≤ c
 ·obtain ⟨g, off, cur, rfl, hh, ho, hx⟩ := q5 (by omega)
  have hcell : ∀ k, w.cell? ⟨g, k, none⟩ = cur[k]? := fun k => cell_of_row w g k cur e (0, 0) hh
  have hrun := run_append_room_src w t t ty e i ht hi g off n c _ 1 [u] hsrc hr (fun j hj => by
   simp at hj; subst hj
   rw [hcell, hs]; simp; omega) (fun j hj => frozen_of_row w g _ cur e hh)
  rw [hs] at hrun
  simp only [Nat.mul_one, World.setCells] at hrun
  refine ⟨_, c, _, hrun, ⟨by simp [q1], hr, q3, fun a ha => ?_, fun _ => ⟨g, off, cur.setIfInBounds (off + n) u, rfl, heap_setCell_same w g _ cur e u hh, by simpa using ho, fun j v hv => ?_⟩⟩, zY w _ _, .inl rfl⟩
  ·have := q4 a ha
   simpa [World.setCell] using this
  ·rcases Nat.lt_or_ge j n with hj | hj
   ·rw [List.getElem?_append_left (by omega)] at hv
    rw [Array.getElem?_setIfInBounds, if_neg (by omega)]
    exact hx j v hv
   ·have hj' : j = n := by
     have := (List.getElem?_eq_some_iff.1 hv).1
     simp at this; omega
    subst hj'
    rw [← q1] at hv
    simp at hv
    subst hv
    rw [Array.getElem?_setIfInBounds, if_pos rfl, if_pos (by omega)]
 ·have hold : (Builtin.firstCells i.size n (.slice A n c)).run P w.drew = .ok xs.toArray w.drew := by
   rw [hs]
   rcases Nat.eq_zero_or_pos c with h0 | h0
   ·have hn0 : n = 0 := by omega
    subst hn0
    have hx0 : xs = [] := List.eq_nil_of_length_eq_zero q1
    subst hx0
    cases A with
    | none => exact run_firstCells_none _ _ _ _ _
    | some a => exact run_firstCells_some _ _ _ a _ _ [] rfl (fun j v hv => by simp at hv)
   ·obtain ⟨g, off, cur, rfl, hh, ho, hx⟩ := q5 h0
    refine run_firstCells_some _ _ _ _ _ _ xs (by omega) (fun j v hv => ?_)
    rw [xN]
    exact (cell_of_row w g _ cur e (0, 0) hh).trans (hx j v hv)
  have hcap := nextslicecap_le (need := n + 1) (old := c) (by omega)
  have hfit : Builtin.nextslicecap (n + 1) c * i.bytes ≤ 281474976710656 := by
   rw [hb]
   calc Builtin.nextslicecap (n + 1) c * bytes ≤ (2 * (n + 1)) * bytes := Nat.mul_le_mul_right _ hcap
    _ ≤ 281474976710656 := by rw [Nat.mul_assoc]; omega
  have hrun := run_append_grow_src w t t ty e i z ht hi hz A n c xs hold _ 1 [u] hsrc (by omega) (by omega) hfit
  have hge := grownCap_ge w (n + 1) c e
  have hle := grownCap_le_maxLen w (n + 1) c e (by simpa [maxLen] using h63)
  refine ⟨_, _, _, hrun, ⟨by simp [q1], hge, by simpa [maxLen] using hle, fun a ha => ?_, fun _ => ⟨w.heap.size, 0, _, rfl, heap_alloc_new w.drew _, ?_, fun j v hv => ?_⟩⟩, ?_, .inr rfl⟩
  ·injection ha with ha
   subst ha
   exact ⟨hbase, by simp⟩
  ·have hzs : (Builtin.zeroCells z.cells (grownCap w (n + 1) c e - (n + 1))).size = grownCap w (n + 1) c e - (n + 1) := by
    rw [size_zeroCells, hzc]; omega
   simp [q1, hzs]; omega
  ·rw [Nat.zero_add, Array.getElem?_append_left (by have := (List.getElem?_eq_some_iff.1 hv).1; simpa using this)]
   simpa using hv
  ·exact ⟨rfl, rfl, rfl, by simp, fun k hk _ => Below.heap_alloc w.drew _ k hk⟩
variable {o : Oper} {a : Act}
theorem pw {ops : Array Oper} {rest : List Oper} {Q : Exit → Act → World → Prop} (hgd : o.guard = none) (s x : Operand) (ho : o.op = .call { callee := .builtin .append, args := #[s, x], argTypes := #[t, t] })
 (E : wM P t e 1 bytes) (hs : a.eval s = .slice A n c) (h : Que w base e A n c xs) (hbase : base ≤ w.heap.size) {u : Value} {ad : Addr} {cx : Nat} (hx : a.eval x = .slice (some ad) 1 cx) (hu : w.cell? ad = some u) (h1 : u.oneCell' = true) (hby : (n + 1) * bytes ≤ 140737488355328) (h63 : n + 1 ≤ 9223372036854775807)
 (hK : ∀ A' c' w', Que w' base e A' (n + 1) c' (xs ++ [u]) → w.grownBy w' (Value.slice A n c).ownBlock → ((Value.slice A' (n + 1) c').ownBlock = (Value.slice A n c).ownBlock ∨ (Value.slice A' (n + 1) c').ownBlock = some w.heap.size) → wpList P ops Q rest (a.put o.dst (.slice A' (n + 1) c')) w') : wpList P ops Q (o :: rest) a w := by
 refine wpList_plain hgd fun K hK' => ?_
 obtain ⟨A', c', w', hr, h2, h3, h4⟩ := lu E o.type h hbase (cx := cx) hu h1 hby h63
 unfold Oper.wp execOp
 simp only [ho, resolve, invoke, builtin, Sem.run_bind, Sem.run_pure, Result.andThen_ok, List.map_toArray, List.map_cons, List.map_nil, hs, hx, hr]
 exact hK' _ _ (hK A' c' w' h2 h3 h4)
end
end
section
section
variable {P : Program} {ops : Array Oper} {Q : Exit → Act → World → Prop} {md : Region.Mode} {S : World → Prop} {J : List Nat}
def uO (md : Region.Mode) (ops : Array Oper) (i : Nat) : Nat → Nat → Bool
 | 0, _ => false
 | f + 1, j => match ops[j]? with
  | some oj => oj.after.any fun e => Region.binds md e && (e.on == i || uO md ops i f e.on)
  | none => false
def vT (md : Region.Mode) (ops : Array Oper) (listed : Array Bool) : Prop :=
 ∀ j oj, ops[j]? = some oj → listed.getD j false = true → ∀ e ∈ oj.after, Region.binds md e = true → listed.getD e.on false = true
theorem tb {listed : Array Bool} (hc : vT md ops listed) {i : Nat} (hi : listed.getD i false = false) : ∀ (f k : Nat), listed.getD k false = true → uO md ops i f k = true → False
 | 0, _, _, h => by simp [uO] at h
 | f + 1, k, hk, h => by
  unfold uO at h
  split at h
  ·next ok hok =>
   obtain ⟨e, he, hb⟩ := Array.any_eq_true'.1 h
   simp only [Bool.and_eq_true, Bool.or_eq_true, beq_iff_eq] at hb
   have hl := hc k ok hok hk e he hb.1
   rcases hb.2 with h2 | h2
   ·rw [h2, hi] at hl; cases hl
   ·exact tb hc hi f e.on hl h2
  ·cases h
theorem lZ {listed : Array Bool} (hc : vT md ops listed) {i j f : Nat} (hi : listed.getD i false = false) (hj : j ∈ Region.ready md ops listed) : uO md ops i f j = true → False := by
 intro h
 obtain ⟨_, oj, hoj, hall⟩ := mem_ready.1 hj
 cases f with
 | zero => simp [uO] at h
 | succ f =>
  unfold uO at h
  rw [hoj] at h
  obtain ⟨e, he, hb⟩ := Array.any_eq_true'.1 h
  simp only [Bool.and_eq_true, Bool.or_eq_true, beq_iff_eq] at hb
  have hl := hall e he hb.1
  rcases hb.2 with h2 | h2
  ·rw [h2, hi] at hl; cases hl
  ·exact tb hc hi f e.on hl h2
theorem qD {listed : Array Bool} (hc : vT md ops listed) {i : Nat} (hi : i ∈ Region.ready md ops listed) : vT md ops (listed.setIfInBounds i true) := by
 obtain ⟨_, oi, hoi, hall⟩ := mem_ready.1 hi
 intro j oj hj hl e he hb
 by_cases hij : i = j
 ·subst hij
  have : oj = oi := Option.some.inj (hj.symm.trans hoi)
  subst this
  exact getD_set_true (hall e he hb)
 ·rw [getD_set_ne false hij] at hl
  exact getD_set_true (hc j oj hj hl e he hb)
def z6 (P : Program) (md : Region.Mode) (ops : Array Oper) (Q : Exit → Act → World → Prop) (S : World → Prop) (J : List Nat) : Nat → Array Bool → Act → World → Prop
 | 0, listed, a, w => Region.ready md ops listed = [] ∧ Q .normal a w
 | fuel + 1, listed, a, w =>
  (Region.ready md ops listed = [] → Q .normal a w) ∧
  ∀ i ∈ Region.ready md ops listed, wpOp P ops Q i (fun a' w' => (J.contains i = false → S w') ∧ z6 P md ops Q S J fuel (listed.setIfInBounds i true) a' w') a w
theorem rI : ∀ (fuel : Nat) (listed : Array Bool) (a : Act) (w : World), z6 P md ops Q S J fuel listed a w → wpAny P md ops Q fuel listed a w
 | 0, _, _, _, h => h
 | fuel + 1, _, _, _, h => ⟨h.1, fun i hi => wpOp_mono (fun a' w' h' => rI fuel _ a' w' h'.2) (h.2 i hi)⟩
theorem pN {i f : Nat} {oi : Oper} {v : Value} (hi : ops[i]? = some oi) (hsel : ∀ (j : Nat) (o : Oper) cs b, ops[j]? = some o → o.op ≠ .select cs b)
 (hQ : ∀ c a w, Q (.panic c) (a.put oi.dst v) w → Q (.panic c) a w) (hJ : ∀ j ∈ J, uO md ops i f j = true) :
 ∀ (fuel : Nat) (listed : Array Bool) (a : Act) (w : World), vT md ops listed →
  (∀ j oj, ops[j]? = some oj → j ≠ i → listed.getD j true = false → (∀ e ∈ oj.after, Region.binds md e = true → e.on ≠ i) → oi.apart ops oj = true) →
  i ∈ Region.ready md ops listed → YieldsIf P ops S oi v a → S w →
  z6 P md ops Q S J fuel (listed.setIfInBounds i true) (a.put oi.dst v) w → z6 P md ops Q S J (fuel + 1) listed a w := by
 intro fuel
 induction fuel with
 | zero =>
  intro listed a w _ _ hr hy hS H
  refine ⟨fun h => (by rw [h] at hr; cases hr), fun j hj => ?_⟩
  by_cases hji : j = i
  ·subst hji; exact hy.wpOp hi hS ⟨fun _ => hS, H⟩
  ·have := ready_mono hj hji
   rw [H.1] at this
   cases this
 | succ fuel ih =>
  intro listed a w hc hfree hr hy hS H
  have hun : listed.getD i false = false := getD_both (mem_ready.1 hr).1
  refine ⟨fun h => (by rw [h] at hr; cases hr), fun j hj => ?_⟩
  by_cases hji : j = i
  ·subst hji; exact hy.wpOp hi hS ⟨fun _ => hS, H⟩
  ·have h1 := H.2 j (ready_mono hj hji)
   have hjJ : J.contains j = false := by
    rcases hb : J.contains j with _ | _
    ·rfl
    ·exact (lZ hc hun hj (hJ j (by simpa using hb))).elim
   obtain ⟨hjun, oj, hoj, hall⟩ := mem_ready.1 hj
   have hnot : ∀ e ∈ oj.after, Region.binds md e = true → e.on ≠ i := fun e he hb heq => by
    have h1 := hall e he hb
    rw [heq, hun] at h1
    cases h1
   have h2 := wpOp_putIf hoj (hfree j oj hoj hji hjun hnot) (fun cs b => hsel i oi cs b hi) (fun cs b => hsel j oj cs b hoj) hQ hy h1
   have hfree' : ∀ k ok, ops[k]? = some ok → k ≠ i → (listed.setIfInBounds j true).getD k true = false →
    (∀ e ∈ ok.after, Region.binds md e = true → e.on ≠ i) → oi.apart ops ok = true := fun k ok hk hki hun hno => by
    refine hfree k ok hk hki ?_ hno
    by_cases hjk : j = k
    ·subst hjk; exact hjun
    ·rw [getD_set_ne true hjk] at hun; exact hun
   refine wpOp_mono (fun a' w' h3 => ⟨fun _ => h3.2.1 hjJ, ih (listed.setIfInBounds j true) a' w' (qD hc hj) hfree' (ready_mono hr (Ne.symm hji)) h3.1 (h3.2.1 hjJ) ?_⟩) h2
   rw [Array.setIfInBounds_comm _ _ hji]
   exact h3.2.2
def xI (md : Region.Mode) (ops : Array Oper) (listed : Array Bool) : Bool :=
 (List.range ops.size).all fun j => !listed.getD j false || ((ops[j]?).map fun oj => oj.after.all fun e => !Region.binds md e || listed.getD e.on false).getD true
theorem uf {listed : Array Bool} (h : xI md ops listed = true) : vT md ops listed := by
 intro j oj hj hl e he hb
 have hjs : j < ops.size := (Array.getElem?_eq_some_iff.1 hj).1
 have := List.all_eq_true.1 h j (List.mem_range.2 hjs)
 rw [hl, hj] at this
 simp only [Bool.not_true, Bool.false_or, Option.map_some, Option.getD_some] at this
 have := Array.all_eq_true'.1 this e he
 rw [hb] at this
 simpa using this
theorem uS {i : Nat} {oi : Oper} {d : Option Tmp} {v : Value} {fuel : Nat} {listed : Array Bool} {a : Act} {w : World} (hi : ops[i]? = some oi) (hd : oi.dst = d)
 (hs : Region.noSelect ops = true) (hf : Region.free md ops listed i = true) (hr : (Region.ready md ops listed).contains i = true) (hc : xI md ops listed = true) (hJ : J.all (uO md ops i ops.size) = true)
 (hQ : ∀ c a w, Q (.panic c) (a.put oi.dst v) w → Q (.panic c) a w) (hy : YieldsIf P ops S oi v a) (hS : S w)
 (h : z6 P md ops Q S J fuel (listed.setIfInBounds i true) (a.put d v) w) : z6 P md ops Q S J (fuel + 1) listed a w := by
 subst hd
 exact pN (f := ops.size) hi (Region.noSelect_spec hs) hQ (List.all_eq_true.1 hJ) fuel listed a w (uf hc) (Region.free_spec hi hf) (by simpa using hr) hy hS h
theorem tH {k : Nat} {o : Oper} {fuel : Nat} {listed : Array Bool} {a : Act} {w : World} (hr : Region.ready md ops listed = [k]) (ho : ops[k]? = some o)
 (h : ∀ K' : Act → World → Prop, Shut (∀ a w, (J.contains k = false → S w) → ((J.contains k = false → S w) → z6 P md ops Q S J fuel (listed.setIfInBounds k true) a w) → K' a w) → if Region.wanted o (yielded ops a.tmps) = true then Oper.wp P o a w K' Q else K' (a.put o.dst undef) w) :
 z6 P md ops Q S J (fuel + 1) listed a w := by
 refine ⟨fun h0 => (by rw [hr] at h0; cases h0), fun i hi => ?_⟩
 rw [hr] at hi
 obtain rfl := List.mem_singleton.1 hi
 exact wpOp_step ho (fun K' hK => h K' (fun a w hS hW => hK a w ⟨hS, hW hS⟩))
theorem zH {listed : Array Bool} {a : Act} {w : World} (hr : Region.ready md ops listed = []) (h : Q .normal a w) : ∀ fuel, z6 P md ops Q S J fuel listed a w
 | 0 => ⟨hr, h⟩
 | _ + 1 => ⟨fun _ => h, by rw [hr]; simp⟩
theorem zJ {id : Nat} {a : Act} {w : World} (hm : P.follows .mixedOrders = true) (hS : S w.drew)
 (h : S w.drew → z6 P .any ops Q S J ops.size (Array.replicate ops.size false) a w.drew) : (Code.region id ops true).wp P Q a w :=
 wp_region_any hm (rI _ _ _ _ (h hS))
end
theorem yZ {P : Program} {w : World} {t e : TypeId} {size bytes : Nat} {o : Oper} {a : Act} {d : Option Tmp} {ops : Array Oper} {K : Act → World → Prop} {Q : Exit → Act → World → Prop} {F : Prop} (hd : o.dst = d) (hgd : o.guard = none) (s x : Operand) (ho : o.op = .call { callee := .builtin .append, args := #[s, x], argTypes := #[t, t] })
 (E : wM P t e size bytes) {base : Nat} {v : Value} {n : Nat} {xs : List Value} (hs : a.eval s = v) (hown : w.ownsRow base e size v n xs) {Bx : Nat} {Ax : Option Addr} {m c : Nat} {news : List Value} (hx : a.eval x = .slice Ax m c) (hsrc : Sl w Bx size Ax m c news)
 (h1 : ∀ u ∈ news, u.oneCell' = true) (hby : (n + m) * bytes ≤ 140737488355328) (h63 : n + m ≤ 9223372036854775807) (hbase : base ≤ w.heap.size)
 (h : ∀ A' cap w', w'.ownsRow base e size (.slice A' (n + m) cap) (n + m) (xs ++ news) → w.grownBy w' v.ownBlock → ((Value.slice A' (n + m) cap).ownBlock = v.ownBlock ∨ (Value.slice A' (n + m) cap).ownBlock = some w.heap.size) → K (a.put d (.slice A' (n + m) cap)) w') :
 if Region.wanted o (yielded ops a.tmps) = true then Oper.wp P o a w K Q else F := by
 subst hd
 exact lm hgd s x ho E hs hown hx hsrc h1 hby h63 hbase h
end
end Go.Proofs.YtepicjpdhpojnaaGreatDoor
