import Derived.WalkKit
import Derived.WalkSpells
import Derived.WalkLawsBesides
import Derived.Lib.Hide
import Derived.Lib.SlBytesConst
import Derived.Deep.DeepMust
import Derived.Laws.OwnMore
import Derived.Laws.BitsAllLaws
import Derived.Deep.AppendLies
import Derived.Laws.AppendOwnNone
import Derived.Deep.Draws
import Derived.Deep.Onto
import Derived.Lib.AppendStr
import Derived.Lib.Strings
import Derived.Laws.BytesArg
import Derived.ProofKit
import Derived.OpenShut
namespace Go.Proofs.YtddddlhgaeameaaGreatDoor
open Go.RowKit
abbrev bW (w w' : World) : Prop := Below w.heap.size w w'
variable {B Bx base c g m n size : Nat} {a b w : World} {p : Addr} {row : Option Nat} {e t : TypeId} {v v0 v1 v2 v3 v4 v5 v6 v7 : Value} {l news xs : List Value} {Ax : Option Addr}
theorem iD {p : Prop} (h : p) : Go.RowKit.Hid p := Lib.hid h
theorem lR : n ≤ n := Nat.le_refl n
theorem bR : Below B w w := Below.refl B w
def Sl (w : World) (B size : Nat) (A : Option Addr) (n c : Nat) (xs : List Value) : Prop :=
 xs.length = n * size ∧ n ≤ c ∧ c ≤ 9223372036854775807 ∧ (A = none → c = 0) ∧ (0 < n → ∃ b off, A = some ⟨b, off, none⟩ ∧ b < B ∧ ∀ j u, xs[j]? = some u → w.cell? ⟨b, off + j, none⟩ = some u)
abbrev Av (w : World) (size : Nat) (A : Option Addr) (n c : Nat) (xs : List Value) : Prop := Sl w w.heap.size size A n c xs
theorem yF {α : Type} {f : α → List Value} (hf : ∀ x, (f x).length = size) : ∀ l : List α, (l.flatMap f).length = l.length * size
 | [] => by simp
 | x :: l => by simp only [List.flatMap_cons, List.length_append, hf, yF hf l, List.length_cons, Nat.succ_mul]; omega
theorem uQ {α : Type} {f : α → List Value} (hf : ∀ x, (f x).length = size) : ∀ (l : List α) (k j : Nat) (x : α), l[k]? = some x → j < size → (l.flatMap f)[k * size + j]? = (f x)[j]?
 | [], k, j, x, h, _ => by simp at h
 | y :: l, 0, j, x, h, hj => by
  simp at h; subst h;rw [List.flatMap_cons, Nat.zero_mul, Nat.zero_add, List.getElem?_append_left (by rw [hf]; exact hj)]
 | y :: l, k + 1, j, x, h, hj => by
  simp at h;rw [List.flatMap_cons, List.getElem?_append_right (by rw [hf, Nat.succ_mul]; omega), hf, show (k + 1) * size + j - size = k * size + j from by rw [Nat.succ_mul]; omega];exact uQ hf l k j x h hj
section
variable {w w' : World} {B B' size n c k : Nat} {A : Option Addr} {xs : List Value} {α : Type} {f : α → List Value} {l : List α}
theorem Sl.le (h : Sl w B size A n c xs) : n ≤ c ∧ c ≤ 9223372036854775807 := ⟨h.2.1, h.2.2.1⟩
theorem Sl.len (h : Sl w B size A n c (l.flatMap f)) (hf : ∀ x, (f x).length = size) (hs : 0 < size) : l.length = n := by
 have := h.1;rw [yF hf] at this;exact Nat.eq_of_mul_eq_mul_right hs this
theorem Sl.keep (h : Sl w B size A n c xs) (hk : ∀ p : Addr, p.block < B → w'.cell? p = w.cell? p) : Sl w' B size A n c xs :=
 ⟨h.1, h.2.1, h.2.2.1, h.2.2.2.1, fun hn => by
  obtain ⟨b, off, e, hb, hc⟩ := h.2.2.2.2 hn;exact ⟨b, off, e, hb, fun j u hu => (hk _ hb).trans (hc j u hu)⟩⟩
theorem Sl.more (h : Sl w B size A n c xs) (hB : B ≤ B') : Sl w B' size A n c xs :=
 ⟨h.1, h.2.1, h.2.2.1, h.2.2.2.1, fun hn => by
  obtain ⟨b, off, e, hb, hc⟩ := h.2.2.2.2 hn;exact ⟨b, off, e, by omega, hc⟩⟩
theorem Sl.below (h : Sl w B size A n c xs) (hb : Below B' w w') (hB : B ≤ B') : Sl w' B size A n c xs := h.keep fun _ hp => hb.cell (by omega)
theorem Sl.alloc (h : Sl w B size A n c xs) (hB : B ≤ w.heap.size) (o : Obj) : Sl (w.alloc o) B size A n c xs := h.keep fun p hp => World.cell?_alloc_lt w o p (by omega)
theorem Sl.drew (h : Sl w B size A n c xs) : Sl w.drew B size A n c xs := h
theorem Sl.drewN (h : Sl w B size A n c xs) (m : Nat) : Sl (w.drewN m) B size A n c xs := h
theorem Sl.setCell (h : Sl w B size A n c xs) (hB : B ≤ p.block) (u : Value) : Sl (w.setCell p u) B size A n c xs :=
 h.keep fun q hq => World.cell?_setCell_other w p q u (fun e => by subst e; omega)
theorem Sl.grown (h : Sl w B size A n c xs) (hg : w.grownBy w' row) (hB : B ≤ w.heap.size) (hr : ∀ g, row = some g → B ≤ g) : Sl w' B size A n c xs :=
 h.keep fun p hp => World.cell?_of_block (hg.block p.block (by omega) (fun e => by have := hr _ e.symm; omega))
theorem Sl.nil (w : World) (B size : Nat) : Sl w B size none 0 0 [] := ⟨by simp, Nat.le_refl _, by omega, fun _ => rfl, fun h => absurd h (by omega)⟩
theorem Sl.of_own (h : w.ownsRow base e size (.slice A n c) n xs) : Sl w w.heap.size size A n c xs := by
 rcases h.2 with ⟨hv, hn⟩ | ⟨g, cap, cur, hv, hb, hh, Ir, hm, hs, ht⟩
 ·injection hv with h1 h2 h3;subst h1 h3 hn;exact ⟨h.1, Nat.le_refl _, by omega, fun _ => rfl, fun h => absurd h (by omega)⟩
 ·injection hv with h1 h2 h3;subst h1 h3;refine ⟨h.1, Ir, by simpa [maxLen] using hm, (fun e => by cases e), fun hn => ⟨g, 0, rfl, ?_, fun j u hu => ?_⟩⟩
  ·exact (h.lt g rfl).2
  ·have := h.cells (g := g) rfl j u hu
   have e : ((⟨g, 0, none⟩ : Addr).add j) = ⟨g, 0 + j, none⟩ := by
    unfold Addr.add;split
    ·simp
    ·rfl
   rw [← e]; exact this
theorem Sl.at (h : Sl w B size A n c (l.flatMap f)) (hf : ∀ x, (f x).length = size) (hs : 0 < size) (hk : k < n) :
 ∃ b off x, A = some ⟨b, off, none⟩ ∧ b < B ∧ l[k]? = some x ∧ ∀ j u, (f x)[j]? = some u → w.cell? ⟨b, off + k * size + j, none⟩ = some u := by
 obtain ⟨b, off, e, hb, hc⟩ := h.2.2.2.2 (by omega);have hl := h.len hf hs;refine ⟨b, off, l[k]'(by omega), e, hb, List.getElem?_eq_getElem (by omega), fun j u hu => ?_⟩;have hj : j < size := by rw [← hf (l[k]'(by omega))]; exact (List.getElem?_eq_some_iff.1 hu).1
 have := hc (k * size + j) u (by rw [uQ hf l k j _ (List.getElem?_eq_getElem (by omega)) hj]; exact hu);rw [Nat.add_assoc]; exact this
theorem Sl.at1 {g : α → Value} (h : Sl w B 1 A n c (l.flatMap fun x => [g x])) (hk : k < n) :
 ∃ b off x, A = some ⟨b, off, none⟩ ∧ b < B ∧ l[k]? = some x ∧ w.cell? ⟨b, off + k, none⟩ = some (g x) := by
 obtain ⟨b, off, x, e, hb, hx, hc⟩ := h.at (fun _ => rfl) (by decide) hk;exact ⟨b, off, x, e, hb, hx, by have := hc 0 _ rfl; rw [Nat.mul_one] at this; exact this⟩
end
theorem xP (b off j : Nat) : ((⟨b, off, none⟩ : Addr).add j) = ⟨b, off + j, none⟩ := by
 unfold Addr.add;split
 ·simp
 ·rfl
theorem Sl.newest {cs : Array Value} {T : TypeId} {fr : Nat × Nat} {H : Nat} (hH : w.heap.size = H) (hc : cs.size = n * size) (hn : n ≤ 9223372036854775807) :
 Sl (w.alloc (.cells cs T fr)) (H + 1) size (some ⟨H, 0, none⟩) n n cs.toList := by
 subst hH;refine ⟨by simpa using hc, Nat.le_refl _, hn, (fun e => by cases e), fun _ => ⟨_, 0, rfl, by omega, fun j u hu => ?_⟩⟩;have := World.news_of_block (heap_alloc_new w (.cells cs T fr)) j u hu;rw [xP] at this;exact this
structure xJ (P : Program) (t e : TypeId) (size bytes : Nat) : Prop where
 ht : P.underlying t = some (.slice e)
 ex : ∃ i z, P.info? e = some i ∧ i.zero = some z ∧ i.size = size ∧ i.bytes = bytes ∧ z.cells.size = size
 pos : 0 < size
theorem xJ.mk' {P : Program} {bytes : Nat} {z : Value} (ht : P.underlying t = some (.slice e)) (h : (P.info? e).map (fun i => (i.zero, i.size, i.bytes)) = some (some z, size, bytes)) (hz : z.cells.size = size) (hp : 0 < size) : xJ P t e size bytes := by
 obtain ⟨i, h1, h2, h3, h4⟩ := info_parts h;exact ⟨ht, ⟨i, z, h1, h2, h3, h4, hz⟩, hp⟩
section
variable {P : Program} {w : World} {t e : TypeId} {size bytes : Nat}
theorem jw (E : xJ P t e size bytes) (ty : TypeId) (FQ : w.ownsRow base e size v n xs) (Dq : Sl w Bx size Ax m c news)
 (h1 : ∀ u ∈ news, u.oneCell' = true) (Mw : (n + m) * bytes ≤ 140737488355328) (MU : n + m ≤ 9223372036854775807) (CX : base ≤ w.heap.size) :
 ∃ A' cap w', (Builtin.append_ #[t, t] ty #[v, .slice Ax m c]).run P w = .ok (.slice A' (n + m) cap) w' ∧ w'.ownsRow base e size (.slice A' (n + m) cap) (n + m) (xs ++ news) ∧ w.grownBy w' v.ownBlock ∧
  ((Value.slice A' (n + m) cap).ownBlock = v.ownBlock ∨ (Value.slice A' (n + m) cap).ownBlock = some w.heap.size) := by
 obtain ⟨ht, ⟨i, z, hi, hz, hs, hb, Ry⟩, hp⟩ := E
 have shape : ∀ (v' : Value) (w' : World), w'.ownsRow base e size v' (n + m) (xs ++ news) → ∃ A' cap, v' = .slice A' (n + m) cap := by
  intro v' w' h;rcases h.2 with ⟨hv, hn⟩ | ⟨g, cap, cur, hv, _⟩
  ·exact ⟨none, 0, by rw [hv, hn]⟩
  ·exact ⟨_, cap, hv⟩
 cases Ax with
 | none =>
  have Mv := Dq.2.2.2.1 rfl;have MM : m = 0 := by have := Dq.2.1; omega
  subst Mv MM;have Gm : news = [] := List.eq_nil_of_length_eq_zero (by simpa using Dq.1);subst Gm;have hr := run_append_owned_none (P := P) (w := w) base t ty e i size ht hi v n xs FQ;obtain ⟨A', cap, hv⟩ := shape v w (by simpa using FQ);refine ⟨A', cap, w, by rw [hr, hv], by rw [← hv]; simpa using FQ, ⟨rfl, rfl, rfl, Nat.le_refl _, fun _ _ _ => rfl⟩, .inl (by rw [hv])⟩
 | some a =>
  have hl : news.length = m * size := Dq.1
  have Gn : ∀ j u, news[j]? = some u → w.cell? (a.add j) = some u := by
   intro j u hu;have hj : j < news.length := (List.getElem?_eq_some_iff.1 hu).1
   have hm : 0 < m := by
    rcases Nat.eq_zero_or_pos m with h0 | h0
    ·subst h0; omega
    ·exact h0
   obtain ⟨b, off, ha, _, hc⟩ := Dq.2.2.2.2 hm;injection ha with ha;subst ha;rw [xP]; exact hc j u hu
  obtain ⟨v', w', hr, h2, h3, _, h5⟩ := run_append_own_at (P := P) w base t ty e i z size bytes ht hi hz hs hb Ry hp v n xs FQ a m c news hl Gn h1 (by simpa [maxLen] using MU) Mw CX;obtain ⟨A', cap, rfl⟩ := shape v' w' h2;exact ⟨A', cap, w', hr, h2, h3, h5⟩
variable {o : Oper} {a : Act}
theorem kS {K : Act → World → Prop} {Q : Exit → Act → World → Prop} (s x : Operand) (ho : o.op = .call { callee := .builtin .append, args := #[s, x], argTypes := #[t, t] })
 (E : xJ P t e size bytes) (hs : a.eval s = v) (FQ : w.ownsRow base e size v n xs) (hx : a.eval x = .slice Ax m c) (Dq : Sl w Bx size Ax m c news)
 (h1 : ∀ u ∈ news, u.oneCell' = true) (Mw : (n + m) * bytes ≤ 140737488355328) (MU : n + m ≤ 9223372036854775807) (CX : base ≤ w.heap.size)
 (h : ∀ A' cap w', w'.ownsRow base e size (.slice A' (n + m) cap) (n + m) (xs ++ news) → w.grownBy w' v.ownBlock → ((Value.slice A' (n + m) cap).ownBlock = v.ownBlock ∨ (Value.slice A' (n + m) cap).ownBlock = some w.heap.size) → K (a.put o.dst (.slice A' (n + m) cap)) w') : o.wp P a w K Q := by
 obtain ⟨A', cap, w', hr, h2, h3, h4⟩ := jw E o.type FQ Dq h1 Mw MU CX;unfold Oper.wp execOp;simp only [ho, resolve, invoke, builtin, Sem.run_bind, Sem.run_pure, Result.andThen_ok, List.map_toArray, List.map_cons, List.map_nil, hs, hx, hr];exact h A' cap w' h2 h3 h4
theorem zL {ops : Array Oper} {rest : List Oper} {Q : Exit → Act → World → Prop} (Sc : o.guard = none) (s x : Operand) (ho : o.op = .call { callee := .builtin .append, args := #[s, x], argTypes := #[t, t] })
 (E : xJ P t e size bytes) (hs : a.eval s = v) (FQ : w.ownsRow base e size v n xs) (hx : a.eval x = .slice Ax m c) (Dq : Sl w Bx size Ax m c news)
 (h1 : ∀ u ∈ news, u.oneCell' = true) (Mw : (n + m) * bytes ≤ 140737488355328) (MU : n + m ≤ 9223372036854775807) (CX : base ≤ w.heap.size)
 (h : ∀ A' cap w', w'.ownsRow base e size (.slice A' (n + m) cap) (n + m) (xs ++ news) → w.grownBy w' v.ownBlock → ((Value.slice A' (n + m) cap).ownBlock = v.ownBlock ∨ (Value.slice A' (n + m) cap).ownBlock = some w.heap.size) → wpList P ops Q rest (a.put o.dst (.slice A' (n + m) cap)) w') : wpList P ops Q (o :: rest) a w :=
 wpList_plain Sc fun _ hK => kS s x ho E hs FQ hx Dq h1 Mw MU CX fun A' cap w' h2 h3 h4 => hK _ _ (h A' cap w' h2 h3 h4)
theorem kV {ops : Array Oper} {K : Act → World → Prop} {Q : Exit → Act → World → Prop} {F : Prop} (Sc : o.guard = none) (s x : Operand) (ho : o.op = .call { callee := .builtin .append, args := #[s, x], argTypes := #[t, t] })
 (E : xJ P t e size bytes) (hs : a.eval s = v) (FQ : w.ownsRow base e size v n xs) (hx : a.eval x = .slice Ax m c) (Dq : Sl w Bx size Ax m c news)
 (h1 : ∀ u ∈ news, u.oneCell' = true) (Mw : (n + m) * bytes ≤ 140737488355328) (MU : n + m ≤ 9223372036854775807) (CX : base ≤ w.heap.size)
 (h : ∀ A' cap w', w'.ownsRow base e size (.slice A' (n + m) cap) (n + m) (xs ++ news) → w.grownBy w' v.ownBlock → ((Value.slice A' (n + m) cap).ownBlock = v.ownBlock ∨ (Value.slice A' (n + m) cap).ownBlock = some w.heap.size) → K (a.put o.dst (.slice A' (n + m) cap)) w') :
 if Region.wanted o (yielded ops a.tmps) = true then Oper.wp P o a w K Q else F := by
 rw [if_pos (by simp [Region.wanted, Sc])];exact kS s x ho E hs FQ hx Dq h1 Mw MU CX h
end
def AJ (w : World) (g : Nat) (t : TypeId) (cs : Array Value) : Prop := w.heap[g]? = some (.cells cs t (0, 0))
section
variable {w w' : World} {g : Nat} {t : TypeId} {cs : Array Value}
theorem AJ.lt (h : AJ w g t cs) : g < w.heap.size := (Array.getElem?_eq_some_iff.1 h).1
theorem AJ.cell (h : AJ w g t cs) (i : Nat) : w.cell? ⟨g, i, none⟩ = cs[i]? := cell_of_row w g i cs t (0, 0) h
theorem eX {α : Type} (a : α) : ∃ x, x = a := ⟨_, rfl⟩
theorem AJ.c0 (h : AJ w g t (v0 :: l).toArray) : w.cell? ⟨g, 0, none⟩ = some v0 := h.cell 0
theorem AJ.c1 (h : AJ w g t (v0 :: v1 :: l).toArray) : w.cell? ⟨g, 1, none⟩ = some v1 := h.cell 1
theorem AJ.c2 (h : AJ w g t (v0 :: v1 :: v2 :: l).toArray) : w.cell? ⟨g, 2, none⟩ = some v2 := h.cell 2
theorem AJ.c3 (h : AJ w g t (v0 :: v1 :: v2 :: v3 :: l).toArray) : w.cell? ⟨g, 3, none⟩ = some v3 := h.cell 3
theorem AJ.c4 (h : AJ w g t (v0 :: v1 :: v2 :: v3 :: v4 :: l).toArray) : w.cell? ⟨g, 4, none⟩ = some v4 := h.cell 4
theorem AJ.c5 (h : AJ w g t (v0 :: v1 :: v2 :: v3 :: v4 :: v5 :: l).toArray) : w.cell? ⟨g, 5, none⟩ = some v5 := h.cell 5
theorem AJ.c6 (h : AJ w g t (v0 :: v1 :: v2 :: v3 :: v4 :: v5 :: v6 :: l).toArray) : w.cell? ⟨g, 6, none⟩ = some v6 := h.cell 6
theorem AJ.c7 (h : AJ w g t (v0 :: v1 :: v2 :: v3 :: v4 :: v5 :: v6 :: v7 :: l).toArray) : w.cell? ⟨g, 7, none⟩ = some v7 := h.cell 7
theorem AJ.c8 {v8 : Value} (h : AJ w g t (v0 :: v1 :: v2 :: v3 :: v4 :: v5 :: v6 :: v7 :: v8 :: l).toArray) : w.cell? ⟨g, 8, none⟩ = some v8 := h.cell 8
theorem AJ.c9 {v8 v9 : Value} (h : AJ w g t (v0 :: v1 :: v2 :: v3 :: v4 :: v5 :: v6 :: v7 :: v8 :: v9 :: l).toArray) : w.cell? ⟨g, 9, none⟩ = some v9 := h.cell 9
theorem AJ.frozen (h : AJ w g t cs) (i : Nat) : w.frozen? ⟨g, i, none⟩ = false := by unfold AJ at h; simp [World.frozen?, h]
theorem AJ.d2 (h : AJ w g t (v0 :: v1 :: l).toArray) : w.cell? ⟨g, 0, none⟩ = some v0 ∧ w.cell? ⟨g, 1, none⟩ = some v1 := ⟨h.c0, h.c1⟩
theorem AJ.d3 (h : AJ w g t (v0 :: v1 :: v2 :: l).toArray) : w.cell? ⟨g, 0, none⟩ = some v0 ∧ w.cell? ⟨g, 1, none⟩ = some v1 ∧ w.cell? ⟨g, 2, none⟩ = some v2 := ⟨h.c0, h.c1, h.c2⟩
theorem AJ.d4 (h : AJ w g t (v0 :: v1 :: v2 :: v3 :: l).toArray) : w.cell? ⟨g, 0, none⟩ = some v0 ∧ w.cell? ⟨g, 1, none⟩ = some v1 ∧ w.cell? ⟨g, 2, none⟩ = some v2 ∧ w.cell? ⟨g, 3, none⟩ = some v3 := ⟨h.c0, h.c1, h.c2, h.c3⟩
theorem AJ.d5 (h : AJ w g t (v0 :: v1 :: v2 :: v3 :: v4 :: l).toArray) : w.cell? ⟨g, 0, none⟩ = some v0 ∧ w.cell? ⟨g, 1, none⟩ = some v1 ∧ w.cell? ⟨g, 2, none⟩ = some v2 ∧ w.cell? ⟨g, 3, none⟩ = some v3 ∧ w.cell? ⟨g, 4, none⟩ = some v4 := ⟨h.c0, h.c1, h.c2, h.c3, h.c4⟩
theorem AJ.e2 {c : Array Value} (h : AJ w g t c) : w.frozen? ⟨g, 0, none⟩ = false ∧ w.frozen? ⟨g, 1, none⟩ = false := ⟨h.frozen 0, h.frozen 1⟩
theorem AJ.e3 {c : Array Value} (h : AJ w g t c) : w.frozen? ⟨g, 0, none⟩ = false ∧ w.frozen? ⟨g, 1, none⟩ = false ∧ w.frozen? ⟨g, 2, none⟩ = false := ⟨h.frozen 0, h.frozen 1, h.frozen 2⟩
theorem AJ.e4 {c : Array Value} (h : AJ w g t c) : w.frozen? ⟨g, 0, none⟩ = false ∧ w.frozen? ⟨g, 1, none⟩ = false ∧ w.frozen? ⟨g, 2, none⟩ = false ∧ w.frozen? ⟨g, 3, none⟩ = false := ⟨h.frozen 0, h.frozen 1, h.frozen 2, h.frozen 3⟩
theorem AJ.new (w : World) (t : TypeId) (cs : Array Value) : AJ (w.alloc (.cells cs t)) w.heap.size t cs := heap_alloc_new w _
theorem AJ.keep (h : AJ w g t cs) (e : w'.heap[g]? = w.heap[g]?) : AJ w' g t cs := e.trans h
theorem AJ.alloc (h : AJ w g t cs) (o : Obj) : AJ (w.alloc o) g t cs := h.keep (Below.heap_alloc w o g h.lt)
theorem AJ.set (h : AJ w g t cs) (i : Nat) (u : Value) : AJ (w.setCell ⟨g, i, none⟩ u) g t (cs.setIfInBounds i u) := by
 unfold AJ at h ⊢;simp [World.setCell, Array.getElem?_modify, h]
theorem AJ.far (h : AJ w g t cs) (hp : g ≠ p.block) (u : Value) : AJ (w.setCell p u) g t cs := h.keep (Below.heap_setCell w p u g hp)
theorem AJ.below (h : AJ w g t cs) (hb : Below B w w') (hg : g < B) : AJ w' g t cs := h.keep (hb.block g hg)
theorem AJ.grown (h : AJ w g t cs) (hb : w.grownBy w' row) (hg : some g ≠ row) : AJ w' g t cs := h.keep (hb.block g h.lt hg)
end
theorem xF (w : World) (row : Option Nat) : w.grownBy w row := ⟨rfl, rfl, rfl, Nat.le_refl _, fun _ _ _ => rfl⟩
theorem zJ {c : World} (h : a.grownBy b row) (k : b.grownBy c row) : a.grownBy c row :=
 ⟨k.os.trans h.os, k.tape.trans h.tape, k.output.trans h.output, Nat.le_trans h.size k.size, fun i hi hne => (k.block i (Nat.lt_of_lt_of_le hi h.size) hne).trans (h.block i hi hne)⟩
theorem uO {c : World} {row' : Option Nat} (h : a.grownBy b row) (k : b.grownBy c row') (hr : ∀ g, row' = some g → a.heap.size ≤ g) : a.grownBy c row :=
 ⟨k.os.trans h.os, k.tape.trans h.tape, k.output.trans h.output, Nat.le_trans h.size k.size, fun i hi hne => (k.block i (Nat.lt_of_lt_of_le hi h.size) (fun e => by have := hr _ e.symm; omega)).trans (h.block i hi hne)⟩
theorem zr (h : a.grownBy b row) (hp : a.heap.size ≤ p.block) (u : Value) : a.grownBy (b.setCell p u) row :=
 ⟨h.os, h.tape, h.output, by simpa [World.setCell] using h.size, fun i hi hne => (Below.heap_setCell b p u i (by omega)).trans (h.block i hi hne)⟩
theorem rV (h : a.grownBy b row) : a.grownBy b.drew row := ⟨h.os, h.tape, h.output, h.size, h.block⟩
theorem sS (h : Below B a b) (n : Nat) : Below B a (b.drewN n) := ⟨h.os, h.tape, h.output, h.size, h.block⟩
theorem zI (h : bW a b) (row : Option Nat) : a.grownBy b row := ⟨h.os, h.tape, h.output, h.size, fun i hi _ => h.block i hi⟩
theorem yX (h : a.grownBy b (some g)) (hB : B ≤ g) (hs : B ≤ a.heap.size) : Below B a b :=
 ⟨h.os, h.tape, h.output, h.size, fun i hi => h.block i (by omega) (fun e => by injection e; omega)⟩
def jc (l : List UInt8) : List Value := l.flatMap fun x => [Value.int .u8 x.toNat]
def zF (l : List Int) : List Value := l.flatMap fun x => [Value.int .i64 x]
theorem zC {k : IntKind} {a b : Int} (h : a = b) : Ending.returned (.int k a) = .returned (.int k b) := by rw [h]
theorem zE {a b : Bool} (h : a = b) : Ending.returned (.bool a) = .returned (.bool b) := by rw [h]
theorem zO {α : Type} {l : List α} {k : Nat} {x : α} (h : l[k]? = some x) : l.take (k + 1) = l.take k ++ [x] := by
 rw [List.take_add_one, h]; rfl
def BA (s : ByteArray) : List UInt8 := s.data.toList
def Ei (l : List UInt8) : ByteArray := ⟨l.toArray⟩
theorem vR (l : List UInt8) : BA (Ei l) = l := rfl
theorem jD (s : ByteArray) : Ei (BA s) = s := by obtain ⟨⟨l⟩⟩ := s; rfl
theorem tC (s : ByteArray) : (BA s).length = s.size := by obtain ⟨⟨l⟩⟩ := s; rfl
theorem nV (a b : ByteArray) : BA (a ++ b) = BA a ++ BA b := by
 obtain ⟨⟨l⟩⟩ := a; obtain ⟨⟨m⟩⟩ := b;simp [BA]
theorem tD {a b : ByteArray} (h : BA a = BA b) : a = b := by rw [← jD a, h, jD]
theorem pK (l : List UInt8) : (Ei l).size = l.length := rfl
theorem ru {P : Program} {A : Option Addr} {l : List UInt8} {src dst : TypeId} (hs : P.underlying src = some (.slice e)) (he : P.underlying e = some (.int .u8)) (hd : P.underlying dst = some .string)
 (h : Sl w B 1 A n c (jc l)) : (convert src dst (.slice A n c)).run P w = .ok (.string (Ei l)) w := by
 have hl : l.length = n := h.len (fun _ => rfl) (by decide);rcases Nat.eq_zero_or_pos n with h0 | h0
 ·subst h0;have Gm : l = [] := List.eq_nil_of_length_eq_zero hl;subst Gm;cases A with
  | none => exact run_convert_bytes_nil w src e hs he 0 c dst hd
  | some a =>
   rw [run_convert_bytes_string w src dst e _ 0 c hs he hd];simp [Conv.bytesToString, Ei];rfl
 ·obtain ⟨b, off, x, rfl, hb, _, _⟩ := h.at1 h0
  have hc : ∀ i, i < n → w.cell? ⟨b, off + i, none⟩ = some (.int .u8 ((l.map fun x => (x.toNat : Int)).getD i 0)) := by
   intro i hi;obtain ⟨b', off', x', e', _, hx', hc'⟩ := h.at1 hi;injection e' with e';injection e' with e1 e2 _;subst e1 e2;rw [hc', List.getD_eq_getElem?_getD, List.getElem?_map, hx']; rfl
  rw [run_convert_bytes_arg w src e hs he b off n c (l.map fun x => (x.toNat : Int)) (by simpa using hl) hc dst hd]
  have : strOfNums (l.map fun x => (x.toNat : Int)) = Ei l := by
   simp [strOfNums, Ei];rw [List.map_congr_left (g := id) (fun x _ => by simp), List.map_id]
  rw [this]
section
open Go.ChangeShapes Go.WideShapes Go.ChangeAt Go.RowKit
section
variable {H : Type} {enc : TypeId × Value → H} {P : Program} {W : World} {base b : Nat} {sp : Nat → Bool} {hd : Bool} {r : Reach}
theorem wU {a : Addr} (h : w.cell? a = some v) : a.block < w.heap.size := by
 rcases Nat.lt_or_ge a.block w.heap.size with h' | h'
 ·exact h'
 ·simp [World.cell?, Array.getElem?_eq_none h'] at h
theorem jB {k : IntKind} {d : DataW H} {p : List MemPlace} (ht : P.underlying t = some (.slice e)) (he : P.underlying e = some (.int k)) (hc : P.cellsOf e = 1) (hv : Value.okWide P W r b t v) (h : DataW.Trod enc P W base sp hd t v d p) :
 ∃ (A : Option Addr) (n c : Nat) (zs : List Int), v = .slice A n c ∧ Sl W W.heap.size 1 A n c (zs.flatMap fun z => [Value.int k z]) ∧ ∀ z ∈ zs, (Lit.int k z).wf = true := by
 obtain ⟨A, n, c, rfl⟩ := okWide_slice ht hv;obtain ⟨fuel, hf⟩ := h;rcases open_ints ht he hc hf with ⟨hcs, _⟩ | ⟨x, l, c', zs, hcs, _, hl, hm, hz, _, hcell, SF⟩
 ·simp [Value.cells] at hcs;obtain ⟨rfl, rfl, rfl⟩ := hcs;exact ⟨none, 0, 0, [], rfl, Sl.nil _ _ _, fun z hz => by cases hz⟩
 ·simp [Value.cells] at hcs;obtain ⟨rfl, rfl, rfl⟩ := hcs;have hn : n ≤ zs.length := by rw [hz]; split <;> omega
  refine ⟨some x, n, c, zs.take n, rfl, ⟨?_, hl, by simpa [maxLen] using hm, (fun e => by cases e), fun h0 => ?_⟩, fun z hz => SF z (List.mem_of_mem_take hz)⟩
  ·rw [yF (size := 1) (fun _ => rfl), List.length_take]; omega
  ·obtain ⟨g, off, spot⟩ := x;have ND := hcell 0 (by omega);have Nf : spot = none := by simpa [Addr.add] using World.cell?_spot ND
   subst Nf;have hlt : g < W.heap.size := by have := wU ND; simpa [Addr.add] using this
   refine ⟨g, off, rfl, hlt, fun j u hu => ?_⟩
   have hj : j < (zs.take n).length := by
    have := (List.getElem?_eq_some_iff.1 hu).1
    rwa [yF (size := 1) (fun _ => rfl), Nat.mul_one] at this
   have KM := uQ (f := fun z : Int => [Value.int k z]) (size := 1) (fun _ => rfl) (zs.take n) j 0 _ (List.getElem?_eq_getElem hj) (by decide);rw [Nat.mul_one, Nat.add_zero] at KM;rw [KM] at hu;simp only [List.length_take] at hj;have hc := hcell j (by omega);rw [xP] at hc;rw [hc, ← hu];simp only [List.getElem?_cons_zero, List.getElem_take, List.getD_eq_getElem?_getD];rw [List.getElem?_eq_getElem (by omega)]; rfl
theorem open_ints_Sl {d : DataW H} {p : List MemPlace} (ht : P.underlying t = some (.slice e)) (he : P.underlying e = some (.int .i64)) (hc : P.cellsOf e = 1) (hv : Value.okWide P W r b t v) (h : DataW.Trod enc P W base sp hd t v d p) :
 ∃ (A : Option Addr) (n c : Nat) (zs : List Int), v = .slice A n c ∧ Sl W W.heap.size 1 A n c (zF zs) ∧ ∀ z ∈ zs, (Lit.int .i64 z).wf = true := jB ht he hc hv h
end
end
end Go.Proofs.YtddddlhgaeameaaGreatDoor
