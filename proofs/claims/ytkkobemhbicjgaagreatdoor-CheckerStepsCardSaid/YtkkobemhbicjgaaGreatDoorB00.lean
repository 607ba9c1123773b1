import Derived.WalkKit
import Derived.WalkSpells
import Derived.WalkLawsBesides
import Derived.Lib.Hide
import Derived.Lib.SlBytesConst
import Derived.Deep.DeepMust
import Derived.Laws.OwnMore
import Derived.Laws.BitsAllLaws
import Derived.Deep.AppendLies
import Derived.Laws.AppendOwnNone
import Derived.Deep.Draws
import Derived.Deep.Onto
import Derived.Lib.AppendStr
import Derived.Lib.Strings
import Derived.Laws.BytesArg
import Derived.ProofKit
import Derived.OpenShut
import Derived.Test.YtkkobemhbicjgaaGreatDoorProg
import Derived.Outline
import Derived.Maps.OwnOps
import Derived.Maps.Views
import Derived.Maps.Keyed
import Derived.Deep.OwnRows
import Derived.Deep.AppendSrc
import Derived.Deep.LoopGhost
set_option maxRecDepth 100000
set_option maxHeartbeats 1000000
namespace Go.Proofs.YtkkobemhbicjgaaGreatDoor
open Go.RowKit
abbrev bW (w w' : World) : Prop := Below w.heap.size w w'
variable {B Bx base c g m n size : Nat} {a b w : World} {p : Addr} {row : Option Nat} {e t : TypeId} {v v0 v1 v2 v3 v4 v5 v6 v7 : Value} {l news xs : List Value} {Ax : Option Addr}
theorem iD {p : Prop} (h : p) : Go.RowKit.Hid p := Lib.hid h
theorem lR : n ≤ n := Nat.le_refl n
theorem bR : Below B w w := Below.refl B w
def Sl (w : World) (B size : Nat) (A : Option Addr) (n c : Nat) (xs : List Value) : Prop :=
 xs.length = n * size ∧ n ≤ c ∧ c ≤ 9223372036854775807 ∧ (A = none → c = 0) ∧ (0 < n → ∃ b off, A = some ⟨b, off, none⟩ ∧ b < B ∧ ∀ j u, xs[j]? = some u → w.cell? ⟨b, off + j, none⟩ = some u)
abbrev BI (w : World) (size : Nat) (A : Option Addr) (n c : Nat) (xs : List Value) : Prop := Sl w w.heap.size size A n c xs
theorem yT {α : Type} {f : α → List Value} (hf : ∀ x, (f x).length = size) : ∀ l : List α, (l.flatMap f).length = l.length * size
 | [] => by simp
 | x :: l => by simp only [List.flatMap_cons, List.length_append, hf, yT hf l, List.length_cons, Nat.succ_mul]; omega
theorem uT {α : Type} {f : α → List Value} (hf : ∀ x, (f x).length = size) : ∀ (l : List α) (k j : Nat) (x : α), l[k]? = some x → j < size → (l.flatMap f)[k * size + j]? = (f x)[j]?
 | [], k, j, x, h, _ => by simp at h
 | y :: l, 0, j, x, h, hj => by
  simp at h; subst h;rw [List.flatMap_cons, Nat.zero_mul, Nat.zero_add, List.getElem?_append_left (by rw [hf]; exact hj)]
 | y :: l, k + 1, j, x, h, hj => by
  simp at h;rw [List.flatMap_cons, List.getElem?_append_right (by rw [hf, Nat.succ_mul]; omega), hf, show (k + 1) * size + j - size = k * size + j from by rw [Nat.succ_mul]; omega];exact uT hf l k j x h hj
section
variable {w w' : World} {B B' size n c k : Nat} {A : Option Addr} {xs : List Value} {α : Type} {f : α → List Value} {l : List α}
theorem Sl.le (h : Sl w B size A n c xs) : n ≤ c ∧ c ≤ 9223372036854775807 := ⟨h.2.1, h.2.2.1⟩
theorem Sl.len (h : Sl w B size A n c (l.flatMap f)) (hf : ∀ x, (f x).length = size) (hs : 0 < size) : l.length = n := by
 have := h.1;rw [yT hf] at this;exact Nat.eq_of_mul_eq_mul_right hs this
theorem Sl.keep (h : Sl w B size A n c xs) (hk : ∀ p : Addr, p.block < B → w'.cell? p = w.cell? p) : Sl w' B size A n c xs :=
 ⟨h.1, h.2.1, h.2.2.1, h.2.2.2.1, fun hn => by
  obtain ⟨b, off, e, hb, hc⟩ := h.2.2.2.2 hn;exact ⟨b, off, e, hb, fun j u hu => (hk _ hb).trans (hc j u hu)⟩⟩
theorem Sl.more (h : Sl w B size A n c xs) (hB : B ≤ B') : Sl w B' size A n c xs :=
 ⟨h.1, h.2.1, h.2.2.1, h.2.2.2.1, fun hn => by
  obtain ⟨b, off, e, hb, hc⟩ := h.2.2.2.2 hn;exact ⟨b, off, e, by omega, hc⟩⟩
theorem Sl.below (h : Sl w B size A n c xs) (hb : Below B' w w') (hB : B ≤ B') : Sl w' B size A n c xs := h.keep fun _ hp => hb.cell (by omega)
theorem Sl.alloc (h : Sl w B size A n c xs) (hB : B ≤ w.heap.size) (o : Obj) : Sl (w.alloc o) B size A n c xs := h.keep fun p hp => World.cell?_alloc_lt w o p (by omega)
theorem Sl.drew (h : Sl w B size A n c xs) : Sl w.drew B size A n c xs := h
theorem Sl.drewN (h : Sl w B size A n c xs) (m : Nat) : Sl (w.drewN m) B size A n c xs := h
theorem Sl.setCell (h : Sl w B size A n c xs) (hB : B ≤ p.block) (u : Value) : Sl (w.setCell p u) B size A n c xs :=
 h.keep fun q hq => World.cell?_setCell_other w p q u (fun e => by subst e; omega)
theorem Sl.grown (h : Sl w B size A n c xs) (hg : w.grownBy w' row) (hB : B ≤ w.heap.size) (hr : ∀ g, row = some g → B ≤ g) : Sl w' B size A n c xs :=
 h.keep fun p hp => World.cell?_of_block (hg.block p.block (by omega) (fun e => by have := hr _ e.symm; omega))
theorem Sl.nil (w : World) (B size : Nat) : Sl w B size none 0 0 [] := ⟨by simp, Nat.le_refl _, by omega, fun _ => rfl, fun h => absurd h (by omega)⟩
theorem Sl.of_own (h : w.ownsRow base e size (.slice A n c) n xs) : Sl w w.heap.size size A n c xs := by
 rcases h.2 with ⟨hv, hn⟩ | ⟨g, cap, cur, hv, hb, hh, Ip, hm, hs, ht⟩
 ·injection hv with h1 h2 h3;subst h1 h3 hn;exact ⟨h.1, Nat.le_refl _, by omega, fun _ => rfl, fun h => absurd h (by omega)⟩
 ·injection hv with h1 h2 h3;subst h1 h3;refine ⟨h.1, Ip, by simpa [maxLen] using hm, (fun e => by cases e), fun hn => ⟨g, 0, rfl, ?_, fun j u hu => ?_⟩⟩
  ·exact (h.lt g rfl).2
  ·have := h.cells (g := g) rfl j u hu
   have e : ((⟨g, 0, none⟩ : Addr).add j) = ⟨g, 0 + j, none⟩ := by
    unfold Addr.add;split
    ·simp
    ·rfl
   rw [← e]; exact this
theorem Sl.at (h : Sl w B size A n c (l.flatMap f)) (hf : ∀ x, (f x).length = size) (hs : 0 < size) (hk : k < n) :
 ∃ b off x, A = some ⟨b, off, none⟩ ∧ b < B ∧ l[k]? = some x ∧ ∀ j u, (f x)[j]? = some u → w.cell? ⟨b, off + k * size + j, none⟩ = some u := by
 obtain ⟨b, off, e, hb, hc⟩ := h.2.2.2.2 (by omega);have hl := h.len hf hs;refine ⟨b, off, l[k]'(by omega), e, hb, List.getElem?_eq_getElem (by omega), fun j u hu => ?_⟩;have hj : j < size := by rw [← hf (l[k]'(by omega))]; exact (List.getElem?_eq_some_iff.1 hu).1
 have := hc (k * size + j) u (by rw [uT hf l k j _ (List.getElem?_eq_getElem (by omega)) hj]; exact hu);rw [Nat.add_assoc]; exact this
theorem Sl.at1 {g : α → Value} (h : Sl w B 1 A n c (l.flatMap fun x => [g x])) (hk : k < n) :
 ∃ b off x, A = some ⟨b, off, none⟩ ∧ b < B ∧ l[k]? = some x ∧ w.cell? ⟨b, off + k, none⟩ = some (g x) := by
 obtain ⟨b, off, x, e, hb, hx, hc⟩ := h.at (fun _ => rfl) (by decide) hk;exact ⟨b, off, x, e, hb, hx, by have := hc 0 _ rfl; rw [Nat.mul_one] at this; exact this⟩
end
theorem xi (b off j : Nat) : ((⟨b, off, none⟩ : Addr).add j) = ⟨b, off + j, none⟩ := by
 unfold Addr.add;split
 ·simp
 ·rfl
theorem Sl.newest {cs : Array Value} {T : TypeId} {fr : Nat × Nat} {H : Nat} (hH : w.heap.size = H) (hc : cs.size = n * size) (hn : n ≤ 9223372036854775807) :
 Sl (w.alloc (.cells cs T fr)) (H + 1) size (some ⟨H, 0, none⟩) n n cs.toList := by
 subst hH;refine ⟨by simpa using hc, Nat.le_refl _, hn, (fun e => by cases e), fun _ => ⟨_, 0, rfl, by omega, fun j u hu => ?_⟩⟩;have := World.news_of_block (heap_alloc_new w (.cells cs T fr)) j u hu;rw [xi] at this;exact this
structure xC (P : Program) (t e : TypeId) (size bytes : Nat) : Prop where
 ht : P.underlying t = some (.slice e)
 ex : ∃ i z, P.info? e = some i ∧ i.zero = some z ∧ i.size = size ∧ i.bytes = bytes ∧ z.cells.size = size
 pos : 0 < size
theorem xC.mk' {P : Program} {bytes : Nat} {z : Value} (ht : P.underlying t = some (.slice e)) (h : (P.info? e).map (fun i => (i.zero, i.size, i.bytes)) = some (some z, size, bytes)) (hz : z.cells.size = size) (hp : 0 < size) : xC P t e size bytes := by
 obtain ⟨i, h1, h2, h3, h4⟩ := info_parts h;exact ⟨ht, ⟨i, z, h1, h2, h3, h4, hz⟩, hp⟩
section
variable {P : Program} {w : World} {t e : TypeId} {size bytes : Nat}
theorem gX (E : xC P t e size bytes) (ty : TypeId) (Eb : w.ownsRow base e size v n xs) (Dg : Sl w Bx size Ax m c news)
 (h1 : ∀ u ∈ news, u.oneCell' = true) (MC : (n + m) * bytes ≤ 140737488355328) (LV : n + m ≤ 9223372036854775807) (CR : base ≤ w.heap.size) :
 ∃ A' cap w', (Builtin.append_ #[t, t] ty #[v, .slice Ax m c]).run P w = .ok (.slice A' (n + m) cap) w' ∧ w'.ownsRow base e size (.slice A' (n + m) cap) (n + m) (xs ++ news) ∧ w.grownBy w' v.ownBlock ∧
  ((Value.slice A' (n + m) cap).ownBlock = v.ownBlock ∨ (Value.slice A' (n + m) cap).ownBlock = some w.heap.size) := by
 obtain ⟨ht, ⟨i, z, hi, hz, hs, hb, Qx⟩, hp⟩ := E
 have shape : ∀ (v' : Value) (w' : World), w'.ownsRow base e size v' (n + m) (xs ++ news) → ∃ A' cap, v' = .slice A' (n + m) cap := by
  intro v' w' h;rcases h.2 with ⟨hv, hn⟩ | ⟨g, cap, cur, hv, _⟩
  ·exact ⟨none, 0, by rw [hv, hn]⟩
  ·exact ⟨_, cap, hv⟩
 cases Ax with
 | none =>
  have MB := Dg.2.2.2.1 rfl;have Oi : m = 0 := by have := Dg.2.1; omega
  subst MB Oi;have GY : news = [] := List.eq_nil_of_length_eq_zero (by simpa using Dg.1);subst GY;have hr := run_append_owned_none (P := P) (w := w) base t ty e i size ht hi v n xs Eb;obtain ⟨A', cap, hv⟩ := shape v w (by simpa using Eb);refine ⟨A', cap, w, by rw [hr, hv], by rw [← hv]; simpa using Eb, ⟨rfl, rfl, rfl, Nat.le_refl _, fun _ _ _ => rfl⟩, .inl (by rw [hv])⟩
 | some a =>
  have hl : news.length = m * size := Dg.1
  have GZ : ∀ j u, news[j]? = some u → w.cell? (a.add j) = some u := by
   intro j u hu;have hj : j < news.length := (List.getElem?_eq_some_iff.1 hu).1
   have hm : 0 < m := by
    rcases Nat.eq_zero_or_pos m with h0 | h0
    ·subst h0; omega
    ·exact h0
   obtain ⟨b, off, ha, _, hc⟩ := Dg.2.2.2.2 hm;injection ha with ha;subst ha;rw [xi]; exact hc j u hu
  obtain ⟨v', w', hr, h2, h3, _, h5⟩ := run_append_own_at (P := P) w base t ty e i z size bytes ht hi hz hs hb Qx hp v n xs Eb a m c news hl GZ h1 (by simpa [maxLen] using LV) MC CR;obtain ⟨A', cap, rfl⟩ := shape v' w' h2;exact ⟨A', cap, w', hr, h2, h3, h5⟩
variable {o : Oper} {a : Act}
theorem jo {K : Act → World → Prop} {Q : Exit → Act → World → Prop} (s x : Operand) (ho : o.op = .call { callee := .builtin .append, args := #[s, x], argTypes := #[t, t] })
 (E : xC P t e size bytes) (hs : a.eval s = v) (Eb : w.ownsRow base e size v n xs) (hx : a.eval x = .slice Ax m c) (Dg : Sl w Bx size Ax m c news)
 (h1 : ∀ u ∈ news, u.oneCell' = true) (MC : (n + m) * bytes ≤ 140737488355328) (LV : n + m ≤ 9223372036854775807) (CR : base ≤ w.heap.size)
 (h : ∀ A' cap w', w'.ownsRow base e size (.slice A' (n + m) cap) (n + m) (xs ++ news) → w.grownBy w' v.ownBlock → ((Value.slice A' (n + m) cap).ownBlock = v.ownBlock ∨ (Value.slice A' (n + m) cap).ownBlock = some w.heap.size) → K (a.put o.dst (.slice A' (n + m) cap)) w') : o.wp P a w K Q := by
 obtain ⟨A', cap, w', hr, h2, h3, h4⟩ := gX E o.type Eb Dg h1 MC LV CR;unfold Oper.wp execOp;simp only [ho, resolve, invoke, builtin, Sem.run_bind, Sem.run_pure, Result.andThen_ok, List.map_toArray, List.map_cons, List.map_nil, hs, hx, hr];exact h A' cap w' h2 h3 h4
theorem zM {ops : Array Oper} {rest : List Oper} {Q : Exit → Act → World → Prop} (RY : o.guard = none) (s x : Operand) (ho : o.op = .call { callee := .builtin .append, args := #[s, x], argTypes := #[t, t] })
 (E : xC P t e size bytes) (hs : a.eval s = v) (Eb : w.ownsRow base e size v n xs) (hx : a.eval x = .slice Ax m c) (Dg : Sl w Bx size Ax m c news)
 (h1 : ∀ u ∈ news, u.oneCell' = true) (MC : (n + m) * bytes ≤ 140737488355328) (LV : n + m ≤ 9223372036854775807) (CR : base ≤ w.heap.size)
 (h : ∀ A' cap w', w'.ownsRow base e size (.slice A' (n + m) cap) (n + m) (xs ++ news) → w.grownBy w' v.ownBlock → ((Value.slice A' (n + m) cap).ownBlock = v.ownBlock ∨ (Value.slice A' (n + m) cap).ownBlock = some w.heap.size) → wpList P ops Q rest (a.put o.dst (.slice A' (n + m) cap)) w') : wpList P ops Q (o :: rest) a w :=
 wpList_plain RY fun _ hK => jo s x ho E hs Eb hx Dg h1 MC LV CR fun A' cap w' h2 h3 h4 => hK _ _ (h A' cap w' h2 h3 h4)
theorem jq {ops : Array Oper} {K : Act → World → Prop} {Q : Exit → Act → World → Prop} {F : Prop} (RY : o.guard = none) (s x : Operand) (ho : o.op = .call { callee := .builtin .append, args := #[s, x], argTypes := #[t, t] })
 (E : xC P t e size bytes) (hs : a.eval s = v) (Eb : w.ownsRow base e size v n xs) (hx : a.eval x = .slice Ax m c) (Dg : Sl w Bx size Ax m c news)
 (h1 : ∀ u ∈ news, u.oneCell' = true) (MC : (n + m) * bytes ≤ 140737488355328) (LV : n + m ≤ 9223372036854775807) (CR : base ≤ w.heap.size)
 (h : ∀ A' cap w', w'.ownsRow base e size (.slice A' (n + m) cap) (n + m) (xs ++ news) → w.grownBy w' v.ownBlock → ((Value.slice A' (n + m) cap).ownBlock = v.ownBlock ∨ (Value.slice A' (n + m) cap).ownBlock = some w.heap.size) → K (a.put o.dst (.slice A' (n + m) cap)) w') :
 if Region.wanted o (yielded ops a.tmps) = true then Oper.wp P o a w K Q else F := by
 rw [if_pos (by simp [Region.wanted, RY])];exact jo s x ho E hs Eb hx Dg h1 MC LV CR h
end
theorem iK {A : Option Addr} (h : w.ownsRow base e size (.slice A n c) n xs) : ∀ g, (Value.slice A n c).ownBlock = some g → base ≤ g ∧ g < w.heap.size := h.lt
def AJ (w : World) (g : Nat) (t : TypeId) (cs : Array Value) : Prop := w.heap[g]? = some (.cells cs t (0, 0))
section
variable {w w' : World} {g : Nat} {t : TypeId} {cs : Array Value}
theorem AJ.lt (h : AJ w g t cs) : g < w.heap.size := (Array.getElem?_eq_some_iff.1 h).1
theorem AJ.cell (h : AJ w g t cs) (i : Nat) : w.cell? ⟨g, i, none⟩ = cs[i]? := cell_of_row w g i cs t (0, 0) h
theorem eX {α : Type} (a : α) : ∃ x, x = a := ⟨_, rfl⟩
theorem AJ.c0 (h : AJ w g t (v0 :: l).toArray) : w.cell? ⟨g, 0, none⟩ = some v0 := h.cell 0
theorem AJ.c1 (h : AJ w g t (v0 :: v1 :: l).toArray) : w.cell? ⟨g, 1, none⟩ = some v1 := h.cell 1
theorem AJ.c2 (h : AJ w g t (v0 :: v1 :: v2 :: l).toArray) : w.cell? ⟨g, 2, none⟩ = some v2 := h.cell 2
theorem AJ.c3 (h : AJ w g t (v0 :: v1 :: v2 :: v3 :: l).toArray) : w.cell? ⟨g, 3, none⟩ = some v3 := h.cell 3
theorem AJ.c4 (h : AJ w g t (v0 :: v1 :: v2 :: v3 :: v4 :: l).toArray) : w.cell? ⟨g, 4, none⟩ = some v4 := h.cell 4
theorem AJ.c5 (h : AJ w g t (v0 :: v1 :: v2 :: v3 :: v4 :: v5 :: l).toArray) : w.cell? ⟨g, 5, none⟩ = some v5 := h.cell 5
theorem AJ.c6 (h : AJ w g t (v0 :: v1 :: v2 :: v3 :: v4 :: v5 :: v6 :: l).toArray) : w.cell? ⟨g, 6, none⟩ = some v6 := h.cell 6
theorem AJ.c7 (h : AJ w g t (v0 :: v1 :: v2 :: v3 :: v4 :: v5 :: v6 :: v7 :: l).toArray) : w.cell? ⟨g, 7, none⟩ = some v7 := h.cell 7
theorem AJ.c8 {v8 : Value} (h : AJ w g t (v0 :: v1 :: v2 :: v3 :: v4 :: v5 :: v6 :: v7 :: v8 :: l).toArray) : w.cell? ⟨g, 8, none⟩ = some v8 := h.cell 8
theorem AJ.c9 {v8 v9 : Value} (h : AJ w g t (v0 :: v1 :: v2 :: v3 :: v4 :: v5 :: v6 :: v7 :: v8 :: v9 :: l).toArray) : w.cell? ⟨g, 9, none⟩ = some v9 := h.cell 9
theorem AJ.frozen (h : AJ w g t cs) (i : Nat) : w.frozen? ⟨g, i, none⟩ = false := by unfold AJ at h; simp [World.frozen?, h]
theorem AJ.d2 (h : AJ w g t (v0 :: v1 :: l).toArray) : w.cell? ⟨g, 0, none⟩ = some v0 ∧ w.cell? ⟨g, 1, none⟩ = some v1 := ⟨h.c0, h.c1⟩
theorem AJ.d3 (h : AJ w g t (v0 :: v1 :: v2 :: l).toArray) : w.cell? ⟨g, 0, none⟩ = some v0 ∧ w.cell? ⟨g, 1, none⟩ = some v1 ∧ w.cell? ⟨g, 2, none⟩ = some v2 := ⟨h.c0, h.c1, h.c2⟩
theorem AJ.d4 (h : AJ w g t (v0 :: v1 :: v2 :: v3 :: l).toArray) : w.cell? ⟨g, 0, none⟩ = some v0 ∧ w.cell? ⟨g, 1, none⟩ = some v1 ∧ w.cell? ⟨g, 2, none⟩ = some v2 ∧ w.cell? ⟨g, 3, none⟩ = some v3 := ⟨h.c0, h.c1, h.c2, h.c3⟩
theorem AJ.d5 (h : AJ w g t (v0 :: v1 :: v2 :: v3 :: v4 :: l).toArray) : w.cell? ⟨g, 0, none⟩ = some v0 ∧ w.cell? ⟨g, 1, none⟩ = some v1 ∧ w.cell? ⟨g, 2, none⟩ = some v2 ∧ w.cell? ⟨g, 3, none⟩ = some v3 ∧ w.cell? ⟨g, 4, none⟩ = some v4 := ⟨h.c0, h.c1, h.c2, h.c3, h.c4⟩
theorem AJ.e2 {c : Array Value} (h : AJ w g t c) : w.frozen? ⟨g, 0, none⟩ = false ∧ w.frozen? ⟨g, 1, none⟩ = false := ⟨h.frozen 0, h.frozen 1⟩
theorem AJ.e3 {c : Array Value} (h : AJ w g t c) : w.frozen? ⟨g, 0, none⟩ = false ∧ w.frozen? ⟨g, 1, none⟩ = false ∧ w.frozen? ⟨g, 2, none⟩ = false := ⟨h.frozen 0, h.frozen 1, h.frozen 2⟩
theorem AJ.e4 {c : Array Value} (h : AJ w g t c) : w.frozen? ⟨g, 0, none⟩ = false ∧ w.frozen? ⟨g, 1, none⟩ = false ∧ w.frozen? ⟨g, 2, none⟩ = false ∧ w.frozen? ⟨g, 3, none⟩ = false := ⟨h.frozen 0, h.frozen 1, h.frozen 2, h.frozen 3⟩
theorem AJ.new (w : World) (t : TypeId) (cs : Array Value) : AJ (w.alloc (.cells cs t)) w.heap.size t cs := heap_alloc_new w _
theorem AJ.keep (h : AJ w g t cs) (e : w'.heap[g]? = w.heap[g]?) : AJ w' g t cs := e.trans h
theorem AJ.alloc (h : AJ w g t cs) (o : Obj) : AJ (w.alloc o) g t cs := h.keep (Below.heap_alloc w o g h.lt)
theorem AJ.set (h : AJ w g t cs) (i : Nat) (u : Value) : AJ (w.setCell ⟨g, i, none⟩ u) g t (cs.setIfInBounds i u) := by
 unfold AJ at h ⊢;simp [World.setCell, Array.getElem?_modify, h]
theorem AJ.far (h : AJ w g t cs) (hp : g ≠ p.block) (u : Value) : AJ (w.setCell p u) g t cs := h.keep (Below.heap_setCell w p u g hp)
theorem AJ.below (h : AJ w g t cs) (hb : Below B w w') (hg : g < B) : AJ w' g t cs := h.keep (hb.block g hg)
theorem AJ.grown (h : AJ w g t cs) (hb : w.grownBy w' row) (hg : some g ≠ row) : AJ w' g t cs := h.keep (hb.block g h.lt hg)
end
theorem yx (w : World) (row : Option Nat) : w.grownBy w row := ⟨rfl, rfl, rfl, Nat.le_refl _, fun _ _ _ => rfl⟩
theorem zG {c : World} (h : a.grownBy b row) (k : b.grownBy c row) : a.grownBy c row :=
 ⟨k.os.trans h.os, k.tape.trans h.tape, k.output.trans h.output, Nat.le_trans h.size k.size, fun i hi hne => (k.block i (Nat.lt_of_lt_of_le hi h.size) hne).trans (h.block i hi hne)⟩
theorem uS {c : World} {row' : Option Nat} (h : a.grownBy b row) (k : b.grownBy c row') (hr : ∀ g, row' = some g → a.heap.size ≤ g) : a.grownBy c row :=
 ⟨k.os.trans h.os, k.tape.trans h.tape, k.output.trans h.output, Nat.le_trans h.size k.size, fun i hi hne => (k.block i (Nat.lt_of_lt_of_le hi h.size) (fun e => by have := hr _ e.symm; omega)).trans (h.block i hi hne)⟩
theorem zj (h : a.grownBy b row) (hp : a.heap.size ≤ p.block) (u : Value) : a.grownBy (b.setCell p u) row :=
 ⟨h.os, h.tape, h.output, by simpa [World.setCell] using h.size, fun i hi hne => (Below.heap_setCell b p u i (by omega)).trans (h.block i hi hne)⟩
theorem rx (h : a.grownBy b row) : a.grownBy b.drew row := ⟨h.os, h.tape, h.output, h.size, h.block⟩
theorem sj (h : Below B a b) (n : Nat) : Below B a (b.drewN n) := ⟨h.os, h.tape, h.output, h.size, h.block⟩
theorem zH (h : bW a b) (row : Option Nat) : a.grownBy b row := ⟨h.os, h.tape, h.output, h.size, fun i hi _ => h.block i hi⟩
theorem yE (h : a.grownBy b (some g)) (hB : B ≤ g) (hs : B ≤ a.heap.size) : Below B a b :=
 ⟨h.os, h.tape, h.output, h.size, fun i hi => h.block i (by omega) (fun e => by injection e; omega)⟩
def gJ (l : List UInt8) : List Value := l.flatMap fun x => [Value.int .u8 x.toNat]
def zE (l : List Int) : List Value := l.flatMap fun x => [Value.int .i64 x]
theorem zC {k : IntKind} {a b : Int} (h : a = b) : Ending.returned (.int k a) = .returned (.int k b) := by rw [h]
theorem zF {a b : Bool} (h : a = b) : Ending.returned (.bool a) = .returned (.bool b) := by rw [h]
theorem zP {α : Type} {l : List α} {k : Nat} {x : α} (h : l[k]? = some x) : l.take (k + 1) = l.take k ++ [x] := by
 rw [List.take_add_one, h]; rfl
def BA (s : ByteArray) : List UInt8 := s.data.toList
def Ea (l : List UInt8) : ByteArray := ⟨l.toArray⟩
theorem vZ (l : List UInt8) : BA (Ea l) = l := rfl
theorem iT (s : ByteArray) : Ea (BA s) = s := by obtain ⟨⟨l⟩⟩ := s; rfl
theorem tH (s : ByteArray) : (BA s).length = s.size := by obtain ⟨⟨l⟩⟩ := s; rfl
theorem mW (a b : ByteArray) : BA (a ++ b) = BA a ++ BA b := by
 obtain ⟨⟨l⟩⟩ := a; obtain ⟨⟨m⟩⟩ := b;simp [BA]
theorem tI {a b : ByteArray} (h : BA a = BA b) : a = b := by rw [← iT a, h, iT]
theorem pm (l : List UInt8) : (Ea l).size = l.length := rfl
theorem qU {P : Program} {A : Option Addr} {l : List UInt8} {src dst : TypeId} (hs : P.underlying src = some (.slice e)) (he : P.underlying e = some (.int .u8)) (hd : P.underlying dst = some .string)
 (h : Sl w B 1 A n c (gJ l)) : (convert src dst (.slice A n c)).run P w = .ok (.string (Ea l)) w := by
 have hl : l.length = n := h.len (fun _ => rfl) (by decide);rcases Nat.eq_zero_or_pos n with h0 | h0
 ·subst h0;have GY : l = [] := List.eq_nil_of_length_eq_zero hl;subst GY;cases A with
  | none => exact run_convert_bytes_nil w src e hs he 0 c dst hd
  | some a =>
   rw [run_convert_bytes_string w src dst e _ 0 c hs he hd];simp [Conv.bytesToString, Ea];rfl
 ·obtain ⟨b, off, x, rfl, hb, _, _⟩ := h.at1 h0
  have hc : ∀ i, i < n → w.cell? ⟨b, off + i, none⟩ = some (.int .u8 ((l.map fun x => (x.toNat : Int)).getD i 0)) := by
   intro i hi;obtain ⟨b', off', x', e', _, hx', hc'⟩ := h.at1 hi;injection e' with e';injection e' with e1 e2 _;subst e1 e2;rw [hc', List.getD_eq_getElem?_getD, List.getElem?_map, hx']; rfl
  rw [run_convert_bytes_arg w src e hs he b off n c (l.map fun x => (x.toNat : Int)) (by simpa using hl) hc dst hd]
  have : strOfNums (l.map fun x => (x.toNat : Int)) = Ea l := by
   simp [strOfNums, Ea];rw [List.map_congr_left (g := id) (fun x _ => by simp), List.map_id]
  rw [this]
section
open Go.ChangeShapes Go.WideShapes Go.ChangeAt Go.RowKit
section
variable {H : Type} {enc : TypeId × Value → H} {P : Program} {W : World} {base b : Nat} {sp : Nat → Bool} {hd : Bool} {r : Reach}
theorem vK {a : Addr} (h : w.cell? a = some v) : a.block < w.heap.size := by
 rcases Nat.lt_or_ge a.block w.heap.size with h' | h'
 ·exact h'
 ·simp [World.cell?, Array.getElem?_eq_none h'] at h
theorem iQ {k : IntKind} {d : DataW H} {p : List MemPlace} (ht : P.underlying t = some (.slice e)) (he : P.underlying e = some (.int k)) (hc : P.cellsOf e = 1) (hv : Value.okWide P W r b t v) (h : DataW.Trod enc P W base sp hd t v d p) :
 ∃ (A : Option Addr) (n c : Nat) (zs : List Int), v = .slice A n c ∧ Sl W W.heap.size 1 A n c (zs.flatMap fun z => [Value.int k z]) ∧ ∀ z ∈ zs, (Lit.int k z).wf = true := by
 obtain ⟨A, n, c, rfl⟩ := okWide_slice ht hv;obtain ⟨fuel, hf⟩ := h;rcases open_ints ht he hc hf with ⟨hcs, _⟩ | ⟨x, l, c', zs, hcs, _, hl, hm, hz, _, hcell, Kq⟩
 ·simp [Value.cells] at hcs;obtain ⟨rfl, rfl, rfl⟩ := hcs;exact ⟨none, 0, 0, [], rfl, Sl.nil _ _ _, fun z hz => by cases hz⟩
 ·simp [Value.cells] at hcs;obtain ⟨rfl, rfl, rfl⟩ := hcs;have hn : n ≤ zs.length := by rw [hz]; split <;> omega
  refine ⟨some x, n, c, zs.take n, rfl, ⟨?_, hl, by simpa [maxLen] using hm, (fun e => by cases e), fun h0 => ?_⟩, fun z hz => Kq z (List.mem_of_mem_take hz)⟩
  ·rw [yT (size := 1) (fun _ => rfl), List.length_take]; omega
  ·obtain ⟨g, off, spot⟩ := x;have QQ := hcell 0 (by omega);have Ue : spot = none := by simpa [Addr.add] using World.cell?_spot QQ
   subst Ue;have hlt : g < W.heap.size := by have := vK QQ; simpa [Addr.add] using this
   refine ⟨g, off, rfl, hlt, fun j u hu => ?_⟩
   have hj : j < (zs.take n).length := by
    have := (List.getElem?_eq_some_iff.1 hu).1
    rwa [yT (size := 1) (fun _ => rfl), Nat.mul_one] at this
   have FR := uT (f := fun z : Int => [Value.int k z]) (size := 1) (fun _ => rfl) (zs.take n) j 0 _ (List.getElem?_eq_getElem hj) (by decide);rw [Nat.mul_one, Nat.add_zero] at FR;rw [FR] at hu;simp only [List.length_take] at hj;have hc := hcell j (by omega);rw [xi] at hc;rw [hc, ← hu];simp only [List.getElem?_cons_zero, List.getElem_take, List.getD_eq_getElem?_getD];rw [List.getElem?_eq_getElem (by omega)]; rfl
theorem open_ints_Sl {d : DataW H} {p : List MemPlace} (ht : P.underlying t = some (.slice e)) (he : P.underlying e = some (.int .i64)) (hc : P.cellsOf e = 1) (hv : Value.okWide P W r b t v) (h : DataW.Trod enc P W base sp hd t v d p) :
 ∃ (A : Option Addr) (n c : Nat) (zs : List Int), v = .slice A n c ∧ Sl W W.heap.size 1 A n c (zE zs) ∧ ∀ z ∈ zs, (Lit.int .i64 z).wf = true := iQ ht he hc hv h
end
end
def wS : List Value := [.int .u8 65, .int .u8 90, .bool true, .int .u8 97, .int .u8 122, .bool true, .int .u8 48, .int .u8 57, .bool false, .int .u8 95, .int .u8 95, .bool false]
def ur : List Value := [.bool false, .bool false, .bool true, .bool true, .bool true, .bool true, .bool true, .bool false]
def Laid (w : World) : Prop := (∀ i u, wS[i]? = some u → w.cell? ⟨1, i, none⟩ = some u) ∧ (∀ i u, ur[i]? = some u → w.cell? ⟨0, i, none⟩ = some u)
theorem Laid.lt {w : World} (h : Laid w) : 1 < w.heap.size ∧ 0 < w.heap.size := ⟨vK (h.1 0 _ rfl), vK (h.2 0 _ rfl)⟩
theorem Laid.below {w w' : World} {B : Nat} (h : Laid w) (hb : Below B w w') (hB : w.heap.size ≤ B) : Laid w' :=
 ⟨fun i u hu => (hb.cell (p := ⟨1, i, none⟩) (Nat.lt_of_lt_of_le h.lt.1 hB)).trans (h.1 i u hu), fun i u hu => (hb.cell (p := ⟨0, i, none⟩) (Nat.lt_of_lt_of_le h.lt.2 hB)).trans (h.2 i u hu)⟩
theorem Laid.alloc {w : World} (h : Laid w) (o : Obj) : Laid (w.alloc o) := h.below ((Below.refl _ _).alloc lR _) lR
variable {e : TypeId} {w w' : World} {b i : Nat} {row : Option Nat} {xs : List Value}
section
def vW (b : Int) (first : Bool) : Bool := if 65 ≤ b ∧ b ≤ 90 then true else if 97 ≤ b ∧ b ≤ 122 then true else if 48 ≤ b ∧ b ≤ 57 then !first else if b = 95 then !first else false
theorem gB (b : Int) (first : Bool) (w : World) (hl : Laid w) (Fe : 0 ≤ b) (AV : b < 256) : Calls Tryz.prog 139 #[.int .u8 b, .bool first] w fun e w' => e = .returned (.bool (vW b first)) ∧ bW w w' := by
 have c0 := hl.1 0 _ rfl;have c1 := hl.1 1 _ rfl;have c2 := hl.1 2 _ rfl;have c3 := hl.1 3 _ rfl;have c4 := hl.1 4 _ rfl;have c5 := hl.1 5 _ rfl;have c6 := hl.1 6 _ rfl;have c7 := hl.1 7 _ rfl;have c8 := hl.1 8 _ rfl;have c9 := hl.1 9 _ rfl;have AG := hl.1 10 _ rfl;have AE := hl.1 11 _ rfl;clear hl
 go_enter Tryz.func139, Tryz.ntmps139
 go_wp2_with fail
 clear c0 c1 c2 c3 c4 c5 c6 c7 c8 c9 AG AE;have i0 : ∀ w, (Instr.index 199 (.agg wS.toArray) (.int .i64 0)).run Tryz.prog w = .ok (.agg #[.int .u8 65, .int .u8 90, .bool true]) w := fun _ => by kernel_rfl
 have i1 : ∀ w, (Instr.index 199 (.agg wS.toArray) (.int .i64 1)).run Tryz.prog w = .ok (.agg #[.int .u8 97, .int .u8 122, .bool true]) w := fun _ => by kernel_rfl
 have i2 : ∀ w, (Instr.index 199 (.agg wS.toArray) (.int .i64 2)).run Tryz.prog w = .ok (.agg #[.int .u8 48, .int .u8 57, .bool false]) w := fun _ => by kernel_rfl
 have i3 : ∀ w, (Instr.index 199 (.agg wS.toArray) (.int .i64 3)).run Tryz.prog w = .ok (.agg #[.int .u8 95, .int .u8 95, .bool false]) w := fun _ => by kernel_rfl
 simp only [wS] at i0 i1 i2 i3;have HF : Hid (vW b first = if 65 ≤ b ∧ b ≤ 90 then true else if 97 ≤ b ∧ b ≤ 122 then true else if 48 ≤ b ∧ b ≤ 57 then !first else if b = 95 then !first else false) := rfl
 go_loopw [8] (fun i wr => ∃ (i' : Nat), i = .int .i64 i' ∧ i' ≤ 4 ∧ Hid (Below w.heap.size w wr) ∧ Hid ((0 < i' → ¬ (65 ≤ b ∧ b ≤ 90)) ∧ (1 < i' → ¬ (97 ≤ b ∧ b ≤ 122)) ∧ (2 < i' → ¬ (48 ≤ b ∧ b ≤ 57)) ∧ (3 < i' → ¬ b = 95))) (fun i _ => 4 - (intOf i).toNat)
 case atStart => exact ⟨0, rfl, Nat.zero_le _, Below.refl _ _, by unfold Hid; refine ⟨?_, ?_, ?_, ?_⟩ <;> intro h <;> omega⟩
 case round =>
  obtain ⟨i, rfl, hi, AU, hno⟩ := hrel;have hsz := AU.size;rcases (show i = 0 ∨ i = 1 ∨ i = 2 ∨ i = 3 ∨ i = 4 by omega) with rfl | rfl | rfl | rfl | rfl
  ·by_cases h1 : 65 ≤ b
   ·by_cases h2 : b ≤ 90
    ·go_wp2_with fail
     go_ret;exact ⟨zF (by rw [HF.out, if_pos ⟨h1, h2⟩]), AU.alloc hsz _⟩
    ·have h2' : decide (b ≤ 90) = false := by simpa using h2
     go_wp2_with fail
     go_roundw
     case rel => exact ⟨1, rfl, by decide, AU.alloc hsz _, by have hn := hno.out; unfold Hid; refine ⟨?_, ?_, ?_, ?_⟩ <;> intro h <;> omega⟩
     case measure => decide
   ·have h1' : decide (65 ≤ b) = false := by simpa using h1
    go_wp2_with fail
    go_roundw
    case rel => exact ⟨1, rfl, by decide, AU.alloc hsz _, by have hn := hno.out; unfold Hid; refine ⟨?_, ?_, ?_, ?_⟩ <;> intro h <;> omega⟩
    case measure => decide
  ·by_cases h1 : 97 ≤ b
   ·by_cases h2 : b ≤ 122
    ·go_wp2_with fail
     go_ret;exact ⟨zF (by rw [HF.out, if_neg (hno.1 (by decide)), if_pos ⟨h1, h2⟩]), AU.alloc hsz _⟩
    ·have h2' : decide (b ≤ 122) = false := by simpa using h2
     go_wp2_with fail
     go_roundw
     case rel => exact ⟨2, rfl, by decide, AU.alloc hsz _, by have hn := hno.out; unfold Hid; refine ⟨?_, ?_, ?_, ?_⟩ <;> intro h <;> omega⟩
     case measure => decide
   ·have h1' : decide (97 ≤ b) = false := by simpa using h1
    go_wp2_with fail
    go_roundw
    case rel => exact ⟨2, rfl, by decide, AU.alloc hsz _, by have hn := hno.out; unfold Hid; refine ⟨?_, ?_, ?_, ?_⟩ <;> intro h <;> omega⟩
    case measure => decide
  ·by_cases h1 : 48 ≤ b
   ·by_cases h2 : b ≤ 57
    ·go_wp2_with fail
     go_ret;exact ⟨zF (by rw [HF.out, if_neg (hno.1 (by decide)), if_neg (hno.2.1 (by decide)), if_pos ⟨h1, h2⟩]), AU.alloc hsz _⟩
    ·have h2' : decide (b ≤ 57) = false := by simpa using h2
     go_wp2_with fail
     go_roundw
     case rel => exact ⟨3, rfl, by decide, AU.alloc hsz _, by have hn := hno.out; unfold Hid; refine ⟨?_, ?_, ?_, ?_⟩ <;> intro h <;> omega⟩
     case measure => decide
   ·have h1' : decide (48 ≤ b) = false := by simpa using h1
    go_wp2_with fail
    go_roundw
    case rel => exact ⟨3, rfl, by decide, AU.alloc hsz _, by have hn := hno.out; unfold Hid; refine ⟨?_, ?_, ?_, ?_⟩ <;> intro h <;> omega⟩
    case measure => decide
  ·by_cases h1 : 95 ≤ b
   ·by_cases h2 : b ≤ 95
    ·go_wp2_with fail
     go_ret;exact ⟨zF (by rw [HF.out, if_neg (hno.1 (by decide)), if_neg (hno.2.1 (by decide)), if_neg (hno.2.2.1 (by decide)), if_pos (by omega)]), AU.alloc hsz _⟩
    ·have h2' : decide (b ≤ 95) = false := by simpa using h2
     go_wp2_with fail
     go_roundw
     case rel => exact ⟨4, rfl, by decide, AU.alloc hsz _, by have hn := hno.out; unfold Hid; refine ⟨?_, ?_, ?_, ?_⟩ <;> intro h <;> omega⟩
     case measure => decide
   ·have h1' : decide (95 ≤ b) = false := by simpa using h1
    go_wp2_with fail
    go_roundw
    case rel => exact ⟨4, rfl, by decide, AU.alloc hsz _, by have hn := hno.out; unfold Hid; refine ⟨?_, ?_, ?_, ?_⟩ <;> intro h <;> omega⟩
    case measure => decide
  ·go_wp2_with fail
   go_ret;exact ⟨zF (by rw [HF.out, if_neg (hno.1 (by decide)), if_neg (hno.2.1 (by decide)), if_neg (hno.2.2.1 (by decide)), if_neg (hno.2.2.2 (by decide))]), AU⟩
def yO (s : List UInt8) : Bool := decide (∀ i, i < s.length → vW (s.getD i 0).toNat (i == 0) = true) && decide (1 ≤ s.length) && decide (s.length ≤ 12)
theorem rg (s : ByteArray) (w : World) (hl : Laid w) (hs : s.size ≤ 9223372036854775807) : Calls Tryz.prog 110 #[.string s] w fun e w' => e = .returned (.bool (yO (BA s))) ∧ bW w w' := by
 have HL := iD hl; clear hl;have HN : Hid (yO (BA s) = (decide (∀ i, i < s.size → vW ((BA s).getD i 0).toNat (i == 0) = true) && decide (1 ≤ s.size) && decide (s.size ≤ 12))) := by unfold Hid; rw [yO, tH]
 go_enter Tryz.func110, Tryz.ntmps110
 go_wp2_with fail
 go_loopw [6] (fun i wr => ∃ (i' : Nat), i = .int .i64 i' ∧ i' ≤ s.size ∧ Hid (Below w.heap.size w wr) ∧ Hid (∀ j, j < i' → vW ((BA s).getD j 0).toNat (j == 0) = true)) (fun i _ => s.size - (intOf i).toNat)
 case atStart => exact ⟨0, rfl, Nat.zero_le _, Below.refl _ _, fun j hj => absurd hj (by omega)⟩
 case round =>
  obtain ⟨i, rfl, hi, AU, CP⟩ := hrel;have hsz := AU.size;by_cases hlt : i < s.size
  ·have HF := iD (fun W h => gB ((s[i]).toNat : Int) (i == 0) W h (by omega) (by have := (s[i]).toNat_lt; omega));have hg : (BA s).getD i 0 = s[i] := by rw [List.getD_eq_getElem?_getD, List.getElem?_eq_getElem (by rw [tH]; exact hlt)]; rfl
   have HG := iD hg; clear hg;have Ml : ((i : Int) == 0) = (i == 0) := by rw [Bool.eq_iff_iff]; simp
   go_wp2_with fail
   refine (HF _ (HL.below AU lR)).mono ?_;rintro e w1 ⟨rfl, AV⟩;have AQ := iD (AU.trans (AV.mono hsz));clear AV Ml;rcases hf : vW ((s[i]).toNat : Int) (i == 0) with _ | _
   ·go_wp2_with fail
    go_ret;refine ⟨zF ?_, AQ⟩;rw [HN.out, decide_eq_false (fun h => by have := h i hlt; rw [HG.out, hf] at this; cases this)];rfl
   ·have AJ := iD hf; clear hf
    go_wp2_with fail
    go_roundw
    case rel =>
     refine ⟨i + 1, by go_num, by omega, AQ, fun j hj => ?_⟩;rcases Nat.lt_succ_iff_lt_or_eq.1 hj with h | h
     ·exact CP j h
     ·rw [h, HG.out]; exact AJ.out
    case measure => simp [intOf]; omega
  ·obtain rfl : i = s.size := by omega
   have q0 : decide (s.size < s.size) = false := by simp
   have HT : Hid (decide (∀ i, i < s.size → vW ((BA s).getD i 0).toNat (i == 0) = true) = true) := by unfold Hid; exact decide_eq_true CP.out
   by_cases h1 : 1 ≤ s.size
   ·have q1 : decide ((1 : Int) ≤ (s.size : Int)) = true := by simp; omega
    go_wp2_with fail
    go_ret;exact ⟨zF (by rw [HN.out, HT.out, decide_eq_true h1]; simp; omega), AU⟩
   ·have q1 : decide ((1 : Int) ≤ (s.size : Int)) = false := by simp; omega
    go_wp2_with fail
    go_ret;exact ⟨zF (by rw [HN.out, HT.out, decide_eq_false h1]; rfl), AU⟩
def posB (p : Int) : Bool := decide (p = 1) || decide (p = 2)
end
section
open Go.Maps (Keyed)
theorem lx : Keyed Tryz.prog 9 := Go.Maps.string_keyed Tryz.underlying9
theorem ut {H : Type} {P : Program} (he : P.underlying e = some .bool) {v : Value} {z : DataW H × List MemPlace} (h : plainElem P e v = some z) : ∃ x, v = .bool x ∧ z = (.lit (.bool x), []) := by
 unfold plainElem at h;rw [he] at h;cases v <;> simp at h
 exact ⟨_, rfl, h.symm⟩
def xA (w : World) (b : Nat) (names : List (List UInt8)) : Prop :=
 ∃ (D : DataW Unit), w.ownsMap Tryz.prog 9 (plainElem Tryz.prog 4) b names.length D ∧ Go.Maps.IsMap D ∧ ∀ k, D.atKey (.string k) (.lit (.bool false)) = .lit (.bool (decide (k ∈ names)))
theorem kA (s : ByteArray) (hs : s.size ≤ 9223372036854775807) : keyOf Tryz.prog 9 (.string s) = some (.string (BA s)) := by
 have hu : Tryz.prog.underlying 9 = some .string := Tryz.underlying9;simp [keyOf, mapKey, hu, maxLen, hs, BA]
theorem kf (w : World) : xA (w.alloc (.map #[] 0)) w.heap.size [] := ⟨.map [], World.ownsMap_made _ _ _ _, ⟨[], rfl⟩, fun k => by simp [DataW.atKey]⟩
theorem xA.lt {names : List (List UInt8)} (h : xA w b names) : b < w.heap.size := by
 obtain ⟨D, h1, _⟩ := h;exact h1.lt
theorem xA.kept {names : List (List UInt8)} (h : xA w b names) (hg : w.grownBy w' row) (hne : some b ≠ row) : xA w' b names := by
 obtain ⟨D, h1, h2, h3⟩ := h;exact ⟨D, h1.kept hg hne, h2, h3⟩
theorem xA.below {names : List (List UInt8)} (h : xA w b names) (hb : bW w w') : xA w' b names := h.kept (zH hb none) (by simp)
theorem xA.alloc {names : List (List UInt8)} (h : xA w b names) (o : Obj) : xA (w.alloc o) b names := h.below ((Below.refl _ _).alloc lR _)
theorem xA.look {names : List (List UInt8)} (h : xA w b names) (s : ByteArray) (hs : s.size ≤ 9223372036854775807) :
 (Instr.lookup 173 (.map (some b)) (.string s) false).run Tryz.prog w = .ok (.bool (decide (BA s ∈ names))) w := by
 obtain ⟨D, h1, h2, h3⟩ := h;obtain ⟨v, ps, hr, hv⟩ := h1.lookup lx Tryz.underlying173 (z := .bool false) (by kernel_rfl) (plainElem_bool Tryz.underlying4 false) (kA s hs);obtain ⟨x, rfl, hx⟩ := ut Tryz.underlying4 hv;rw [h3] at hx;simp only [Prod.mk.injEq, DataW.lit.injEq, Lit.bool.injEq] at hx;rw [hr, hx.1]
theorem xA.put {names : List (List UInt8)} (h : xA w b names) (hn : names.length ≤ 1000000) (s : ByteArray) (hs : s.size ≤ 9223372036854775807) :
 ∃ w', (Instr.mapUpdate 173 (.map (some b)) (.string s) (.bool true)).run Tryz.prog w = .ok () w' ∧ xA w' b (BA s :: names) ∧ w.grownBy w' (some b) := by
 obtain ⟨D, h1, h2, h3⟩ := h;obtain ⟨w', hr, ho, hg⟩ := h1.update lx Tryz.underlying173 (by unfold maxLen; omega) (kA s hs) (plainElem_bool Tryz.underlying4 true);refine ⟨w', hr, ⟨_, ho, ?_, fun k => ?_⟩, hg⟩
 ·obtain ⟨es, rfl⟩ := h2;exact ⟨_, rfl⟩
 ·by_cases e : k = BA s
  ·rw [e, Go.Maps.atKey_put_same h2 (by simp [WideAt.IsKeyLit])]; simp
  ·rw [Go.Maps.atKey_put_other (fun e' => e (by injection e')), h3]; simp [e]
end
section
structure Nd where
 name : ByteArray
 cust : Int
 comp : Int
abbrev FP (l : List Nd) : Prop := ∀ x ∈ l, x.name.size ≤ 9223372036854775807
structure Dv where
 name : ByteArray
 kind : Int
 a : Int
 b : Int
 comp : Int
abbrev Fv (l : List Dv) : Prop := ∀ x ∈ l, x.name.size ≤ 9223372036854775807
def Nd.cells (x : Nd) : List Value := [.string x.name, .int .i64 x.cust, .int .i64 x.comp]
def Dv.cells (x : Dv) : List Value := [.string x.name, .int .i64 x.kind, .int .i64 x.a, .int .i64 x.b, .int .i64 x.comp]
def yh (n : Int) : Bool := decide (0 ≤ n) && decide (n ≤ 7)
def zV (k : Int) : Bool := decide (1 ≤ k) && decide (k ≤ 3)
def xX (kind a b k : Int) : Bool := if a < 0 then false else if k ≤ a then false else if zV kind = false then decide (b = -1) else decide (0 ≤ b) && decide (b < k) && !decide (b = a)
theorem sf (n : Int) (w : World) : Calls Tryz.prog 137 #[.int .i64 n] w fun e w' => e = .returned (.bool (yh n)) ∧ w = w' := by
 by_cases h0 : 0 ≤ n
 ·go_enter Tryz.func137, Tryz.ntmps137
  go_wp2
  go_ret;exact ⟨by simp [yh, h0], rfl⟩
 ·have h0' : decide (0 ≤ n) = false := by simpa using h0
  go_enter Tryz.func137, Tryz.ntmps137
  go_wp2
  go_ret;exact ⟨by simp [yh, h0'], rfl⟩
theorem wD (n : Int) (w : World) : Calls Tryz.prog 167 #[.int .i64 n] w fun e w' => e = .returned (.bool (zV n)) ∧ w = w' := by
 by_cases h0 : 1 ≤ n
 ·go_enter Tryz.func167, Tryz.ntmps167
  go_wp2
  go_ret;exact ⟨by simp [zV, h0], rfl⟩
 ·have h0' : decide (1 ≤ n) = false := by simpa using h0
  go_enter Tryz.func167, Tryz.ntmps167
  go_wp2
  go_ret;exact ⟨by simp [zV, h0'], rfl⟩
theorem gD (nm : ByteArray) (kind a b comp k : Int) (w : World) : Calls Tryz.prog 138 #[.agg #[.string nm, .int .i64 kind, .int .i64 a, .int .i64 b, .int .i64 comp], .int .i64 k] w fun e w' => e = .returned (.bool (xX kind a b k)) ∧ bW w w' := by
 have hE : xX kind a b k = if a < 0 then false else if k ≤ a then false else if zV kind = false then decide (b = -1) else decide (0 ≤ b) && decide (b < k) && !decide (b = a) := rfl
 have HE := iD hE; clear hE;by_cases h1 : a < 0
 ·go_enter Tryz.func138, Tryz.ntmps138
  go_wp2_with fail
  go_ret;exact ⟨zF (by rw [HE.out, if_pos h1]), (Below.refl _ _).alloc lR _⟩
 have h1' : decide (a < 0) = false := by simpa using h1
 by_cases h2 : k ≤ a
 ·go_enter Tryz.func138, Tryz.ntmps138
  go_wp2_with fail
  go_ret;exact ⟨zF (by rw [HE.out, if_neg (by omega), if_pos h2]), (Below.refl _ _).alloc lR _⟩
 have h2' : decide (k ≤ a) = false := by simpa using h2
 rcases hj : zV kind with _ | _
 ·have HJ := iD hj;have Cq := iD (wD kind);rw [hj] at Cq;clear hj
  go_enter Tryz.func138, Tryz.ntmps138
  go_wp2_with fail
  refine (Cq _).mono ?_;rintro e w1 ⟨rfl, rfl⟩
  go_wp2_with fail
  go_ret;exact ⟨zF (by rw [HE.out, if_neg (by omega), if_neg (by omega), if_pos HJ.out]; rfl), (Below.refl _ _).alloc lR _⟩
 ·have HJ := iD hj;have Cq := iD (wD kind);rw [hj] at Cq;clear hj;by_cases h3 : 0 ≤ b
  ·by_cases h4 : b < k
   ·go_enter Tryz.func138, Tryz.ntmps138
    go_wp2_with fail
    refine (Cq _).mono ?_;rintro e w1 ⟨rfl, rfl⟩
    go_wp2_with fail
    go_ret;exact ⟨zF (by rw [HE.out, if_neg (by omega), if_neg (by omega), if_neg (by rw [HJ.out]; simp), decide_eq_true h3, decide_eq_true h4, Bool.eq_iff_iff]; simp), (Below.refl _ _).alloc lR _⟩
   ·have h4' : decide (b < k) = false := by simpa using h4
    go_enter Tryz.func138, Tryz.ntmps138
    go_wp2_with fail
    refine (Cq _).mono ?_;rintro e w1 ⟨rfl, rfl⟩
    go_wp2_with fail
    go_ret;exact ⟨zF (by rw [HE.out, if_neg (by omega), if_neg (by omega), if_neg (by rw [HJ.out]; simp), h4']; simp), (Below.refl _ _).alloc lR _⟩
  ·have h3' : decide (0 ≤ b) = false := by simpa using h3
   go_enter Tryz.func138, Tryz.ntmps138
   go_wp2_with fail
   refine (Cq _).mono ?_;rintro e w1 ⟨rfl, rfl⟩
   go_wp2_with fail
   go_ret;exact ⟨zF (by rw [HE.out, if_neg (by omega), if_neg (by omega), if_neg (by rw [HJ.out]; simp), h3']; simp), (Below.refl _ _).alloc lR _⟩
def vS (used : List (List UInt8)) (x : Nd) : Int := if yO (BA x.name) = false then 3 else if BA x.name ∈ used then 4 else if x.cust < 0 ∨ 1048576 < x.cust then 5 else if yh x.comp = false then 5 else 0
def xp (k : Int) (used : List (List UInt8)) (x : Dv) : Int := if yO (BA x.name) = false then 3 else if BA x.name ∈ used then 4 else if x.kind < 1 ∨ 6 < x.kind then 6 else if xX x.kind x.a x.b k = false then 7 else if yh x.comp = false then 5 else 0
def vC : List (List UInt8) → List Nd → Int
 | _, [] => 0
 | used, x :: r => if vS used x = 0 then vC (BA x.name :: used) r else vS used x
def vr : List (List UInt8) → List Nd → List (List UInt8)
 | used, [] => used
 | used, x :: r => vr (BA x.name :: used) r
def vm (k : Int) : List (List UInt8) → List Dv → Int
 | _, [] => 0
 | used, x :: r => if xp k used x = 0 then vm k (BA x.name :: used) r else xp k used x
def zR (ns : List Nd) (ds : List Dv) : Int := if 32 < ns.length then 1 else if 64 < ds.length then 1 else if vC [] ns = 0 then vm ns.length (vr [] ns) ds else vC [] ns
theorem sO {used : List (List UInt8)} {ns : List Nd} {x : Nd} (hx : ns[i]? = some x) (h0 : vS used x = 0) : vC used (ns.drop i) = vC (BA x.name :: used) (ns.drop (i + 1)) ∧ vr used (ns.drop i) = vr (BA x.name :: used) (ns.drop (i + 1)) := by
 obtain ⟨hi, rfl⟩ := List.getElem?_eq_some_iff.1 hx;rw [List.drop_eq_getElem_cons hi, vC, if_pos h0, vr];exact ⟨rfl, rfl⟩
theorem pQ {used : List (List UInt8)} {ns : List Nd} {x : Nd} (hx : ns[i]? = some x) (h0 : vS used x ≠ 0) : vC used (ns.drop i) = vS used x := by
 obtain ⟨hi, rfl⟩ := List.getElem?_eq_some_iff.1 hx;rw [List.drop_eq_getElem_cons hi, vC, if_neg h0]
theorem uW {k : Int} {used : List (List UInt8)} {ds : List Dv} {x : Dv} (hx : ds[i]? = some x) (h0 : xp k used x = 0) : vm k used (ds.drop i) = vm k (BA x.name :: used) (ds.drop (i + 1)) := by
 obtain ⟨hi, rfl⟩ := List.getElem?_eq_some_iff.1 hx;rw [List.drop_eq_getElem_cons hi, vm, if_pos h0]
theorem pR {k : Int} {used : List (List UInt8)} {ds : List Dv} {x : Dv} (hx : ds[i]? = some x) (h0 : xp k used x ≠ 0) : vm k used (ds.drop i) = xp k used x := by
 obtain ⟨hi, rfl⟩ := List.getElem?_eq_some_iff.1 hx;rw [List.drop_eq_getElem_cons hi, vm, if_neg h0]
end
section
structure Lk where
 dev : Int
 pos : Int
 key : Int
def zq (a b : Lk) : Bool := decide (a.dev < b.dev) || (decide (a.dev = b.dev) && decide (a.key < b.key))
theorem uX (a b : Lk) : zq a b = true ↔ a.dev < b.dev ∨ (a.dev = b.dev ∧ a.key < b.key) := by simp [zq]
theorem sQ {a b c : Lk} (h1 : zq a b = true) (h2 : zq b c = true) : zq a c = true := by rw [uX] at *; omega
theorem sR {a b : Lk} (h1 : zq a b = true) (h2 : zq b a = true) : False := by rw [uX] at *; omega
theorem pX {a b : Lk} (h : a.key ≠ b.key) (h1 : zq a b = false) : zq b a = true := by
 have h2 : ¬ zq a b = true := by rw [h1]; simp
 rw [uX] at *; omega
def rl (ds : List Dv) (d : Int) : Int := match ds[d.toNat]? with | some x => x.kind | none => 0
def zv (ds : List Dv) (k : Lk) : Int := if k.dev < 0 then 8 else if (ds.length : Int) ≤ k.dev then 8 else if rl ds k.dev = 5 then 6 else if k.pos ≠ 1 ∧ k.pos ≠ 2 then 10 else if k.key < 0 then 5 else if 65536 < k.key then 5 else 0
def tW (k x : Lk) : Bool := decide (x.dev = k.dev) && !decide (x.pos = k.pos)
def yd (l : List Lk) (k : Lk) : Bool := l.any (tW k)
def yq (l : List Lk) (q : Int) : Bool := l.any fun x => decide (x.key = q)
theorem uP {l : List Lk} {k : Lk} : yd l k = false ↔ ∀ x ∈ l, x.dev = k.dev → x.pos = k.pos := by
 unfold yd tW;rw [List.any_eq_false]
 constructor
 ·intro h x hx hd;have := h x hx;simp [hd] at this;exact this
 ·intro h x hx;simp;exact h x hx
theorem pk {l : List Lk} {q : Int} : yq l q = false ↔ ∀ x ∈ l, x.key ≠ q := by
 unfold yq;rw [List.any_eq_false]
 constructor
 ·intro h x hx; have := h x hx; simpa using this
 ·intro h x hx; simpa using h x hx
def xH (ls : List Lk) (i : Nat) (k : Lk) : Bool := decide (0 < i) && !(match ls[i - 1]? with | some p => zq p k | none => true)
def xK (ds : List Dv) (ls : List Lk) (i : Nat) : Int := match ls[i]? with
 | none => 0
 | some k => if zv ds k ≠ 0 then zv ds k else if xH ls i k = true then 14 else if yd (ls.take i) k = true then 18 else if yq (ls.take i) k.key = true then 4 else 0
def yL (ds : List Dv) (ls : List Lk) : Nat → Int
 | 0 => 0
 | i + 1 => if yL ds ls i ≠ 0 then yL ds ls i else xK ds ls i
theorem yu {ds : List Dv} {ls : List Lk} {e : Int} (h : yL ds ls i = 0) (he : xK ds ls i = e) (h0 : e ≠ 0) : ∀ n, i < n → yL ds ls n = e
 | 0, hn => by omega
 | n + 1, hn => by
  rw [yL];rcases Nat.lt_succ_iff_lt_or_eq.1 hn with hlt | rfl
  ·rw [yu h he h0 n hlt, if_pos h0]
  ·rw [h, if_neg (by simp), he]
theorem uF {ds : List Dv} {ls : List Lk} : ∀ n, yL ds ls n = 0 ↔ ∀ i, i < n → xK ds ls i = 0
 | 0 => ⟨fun _ i hi => by omega, fun _ => rfl⟩
 | n + 1 => by
  rw [yL];have ih := uF (ds := ds) (ls := ls) n;by_cases h : yL ds ls n = 0
  ·rw [if_neg (by simp [h])]
   constructor
   ·intro he i hi;rcases Nat.lt_succ_iff_lt_or_eq.1 hi with hlt | rfl
    ·exact ih.1 h i hlt
    ·exact he
   ·intro Dh; exact Dh n (by omega)
  ·rw [if_pos h];exact ⟨fun e => absurd e h, fun Dh => ih.2 fun i hi => Dh i (by omega)⟩
theorem uG {ds : List Dv} {ls : List Lk} (h : yL ds ls i = 0) (he : xK ds ls i = 0) : yL ds ls (i + 1) = 0 := by rw [yL, h, if_neg (by simp), he]
def dH (a b : Lk) : Prop := zq a b = true ∧ (a.dev = b.dev → a.pos = b.pos) ∧ a.key ≠ b.key
def xz (ds : List Dv) (ls : List Lk) : Prop := ls.length ≤ 128 ∧ (∀ k ∈ ls, zv ds k = 0) ∧ ls.Pairwise dH
theorem qB {ds : List Dv} {ls : List Lk} {k : Lk} (hk : ls[i]? = some k) : xK ds ls i = 0 ↔ zv ds k = 0 ∧ xH ls i k = false ∧ yd (ls.take i) k = false ∧ yq (ls.take i) k.key = false := by
 unfold xK;rw [hk];simp only;by_cases h1 : zv ds k = 0
 ·rw [if_neg (by simp [h1])];rcases h2 : xH ls i k with _ | _
  ·rw [if_neg (by simp)];rcases h3 : yd (ls.take i) k with _ | _
   ·rw [if_neg (by simp)];rcases h4 : yq (ls.take i) k.key with _ | _
    ·simp [h1]
    ·simp
   ·simp
  ·simp
 ·rw [if_pos h1]; simp [h1]
theorem gy {ds : List Dv} {ls : List Lk} (hl : ls.length ≤ 128) (h : yL ds ls ls.length = 0) : xz ds ls := by
 have Dh := (uF ls.length).1 h;have at' : ∀ i (hi : i < ls.length), zv ds ls[i] = 0 ∧ xH ls i ls[i] = false ∧ yd (ls.take i) ls[i] = false ∧ yq (ls.take i) ls[i].key = false := fun i hi => (qB (List.getElem?_eq_getElem hi)).1 (Dh i hi)
 refine ⟨hl, fun k hk => ?_, ?_⟩
 ·obtain ⟨i, hi, rfl⟩ := List.mem_iff_getElem.1 hk;exact (at' i hi).1
 ·have step : ∀ i (hi : i + 1 < ls.length), zq ls[i] ls[i + 1] = true := by
   intro i hi;have := (at' (i + 1) hi).2.1;unfold xH at this;rw [Nat.add_sub_cancel, List.getElem?_eq_getElem (show i < ls.length by omega)] at this;simpa using this
  have AH : ∀ (j i : Nat) (hj : j < ls.length) (JR : i < j), zq (ls[i]'(by omega)) ls[j] = true := by
   intro j
   induction j with
   | zero => intro i hj JR; omega
   | succ j ih =>
    intro i hj JR;rcases Nat.lt_succ_iff_lt_or_eq.1 JR with hlt | rfl
    ·exact sQ (ih i (by omega) hlt) (step j hj)
    ·exact step i hj
  rw [List.pairwise_iff_getElem];intro i j hi hj JR;obtain ⟨_, _, h3, h4⟩ := at' j hj
  have hm : ls[i] ∈ ls.take j := by
   rw [List.mem_iff_getElem];exact ⟨i, by simp; omega, by simp⟩
  exact ⟨AH j i hj JR, fun hd => uP.1 h3 _ hm hd, pk.1 h4 _ hm⟩
theorem hI {ds : List Dv} {ls : List Lk} (h : xz ds ls) : yL ds ls ls.length = 0 := by
 obtain ⟨_, h2, h3⟩ := h;rw [uF];intro i hi;rw [qB (List.getElem?_eq_getElem hi)];rw [List.pairwise_iff_getElem] at h3
 have mem : ∀ x ∈ ls.take i, ∃ j, ∃ hj : j < ls.length, j < i ∧ x = ls[j] := by
  intro x hx;obtain ⟨j, hj, rfl⟩ := List.mem_iff_getElem.1 hx;simp at hj;exact ⟨j, by omega, by omega, by simp⟩
 refine ⟨h2 _ (List.getElem_mem hi), ?_, ?_, ?_⟩
 ·unfold xH;rcases Nat.eq_zero_or_pos i with rfl | h0
  ·rfl
  ·rw [List.getElem?_eq_getElem (show i - 1 < ls.length by omega)];simp only;rw [(h3 (i - 1) i (by omega) hi (by omega)).1];simp
 ·rw [uP];intro x hx hd;obtain ⟨j, hj, Lu, rfl⟩ := mem x hx;exact (h3 j i hj hi Lu).2.1 hd
 ·rw [pk];intro x hx;obtain ⟨j, hj, Lu, rfl⟩ := mem x hx;exact (h3 j i hj hi Lu).2.2
def wQ : List Lk → Int → Option Int
 | [], _ => none
 | x :: l, d => if x.dev = d then some x.pos else wQ l d
theorem lu {l : List Lk} {d p : Int} (h : wQ l d = some p) : ∃ x ∈ l, x.dev = d ∧ x.pos = p := by
 induction l with
 | nil => cases h
 | cons x l ih =>
  rw [wQ] at h;split at h
  ·next hd => exact ⟨x, List.mem_cons_self, hd, by injection h⟩
  ·obtain ⟨y, hy, h1⟩ := ih h; exact ⟨y, List.mem_cons_of_mem _ hy, h1⟩
theorem uE {l : List Lk} {d : Int} : wQ l d = none ↔ ∀ x ∈ l, x.dev ≠ d := by
 induction l with
 | nil => simp [wQ]
 | cons x l ih =>
  rw [wQ];split
  ·next hd => simp [hd]
  ·next hd => rw [ih]; simp [hd]
theorem oq {ds : List Dv} {ls : List Lk} (h : xz ds ls) {x y : Lk} (hx : x ∈ ls) (hy : y ∈ ls) (hd : x.dev = y.dev) : x.pos = y.pos := by
 obtain ⟨i, hi, rfl⟩ := List.mem_iff_getElem.1 hx;obtain ⟨j, hj, rfl⟩ := List.mem_iff_getElem.1 hy;have h3 := List.pairwise_iff_getElem.1 h.2.2;rcases Nat.lt_trichotomy i j with JR | rfl | JR
 ·exact (h3 i j hi hj JR).2.1 hd
 ·rfl
 ·exact ((h3 j i hj hi JR).2.1 hd.symm).symm
theorem fx {ds : List Dv} {ls : List Lk} (h : xz ds ls) {x : Lk} (hx : x ∈ ls) : wQ ls x.dev = some x.pos := by
 rcases hl : wQ ls x.dev with _ | p
 ·exact absurd rfl (uE.1 hl x hx)
 ·obtain ⟨y, hy, h1, h2⟩ := lu hl;rw [← h2, oq h hy hx h1]
theorem gf {ds : List Dv} {ls : List Lk} (h : xz ds ls) (k : Lk) : yd ls k = (match wQ ls k.dev with | some p => !decide (p = k.pos) | none => false) := by
 rcases hl : wQ ls k.dev with _ | p
 ·simp only;rw [uP];intro x hx hd;exact absurd hd (uE.1 hl x hx)
 ·obtain ⟨y, hy, h1, h2⟩ := lu hl;simp only;by_cases hp : p = k.pos
  ·rw [decide_eq_true hp, Bool.not_true, uP];intro x hx hd;rw [oq h hx hy (by omega), h2, hp]
  ·rw [decide_eq_false hp, Bool.not_false];rcases ho : yd ls k with _ | _
   ·exact absurd (by rw [← h2]; exact uP.1 ho y hy h1) hp
   ·rfl
def ww (k : Lk) (ls : List Lk) : List Lk := ls.takeWhile (fun x => zq x k) ++ k :: ls.dropWhile (fun x => zq x k)
theorem wL (k : Lk) (ls : List Lk) : (ww k ls).length = ls.length + 1 := by
 have := congrArg List.length (List.takeWhile_append_dropWhile (p := fun x => zq x k) (l := ls));rw [List.length_append] at this;unfold ww;rw [List.length_append, List.length_cons]; omega
theorem kB (k x : Lk) (ls : List Lk) : x ∈ ww k ls ↔ x = k ∨ x ∈ ls := by
 have h : ls.takeWhile (fun x => zq x k) ++ ls.dropWhile (fun x => zq x k) = ls := List.takeWhile_append_dropWhile;have hm : x ∈ ls ↔ x ∈ ls.takeWhile (fun x => zq x k) ∨ x ∈ ls.dropWhile (fun x => zq x k) := by rw [← List.mem_append, h]
 unfold ww;rw [List.mem_append, List.mem_cons, hm]
 constructor
 ·rintro (h | h | h)
  ·exact .inr (.inl h)
  ·exact .inl h
  ·exact .inr (.inr h)
 ·rintro (h | h | h)
  ·exact .inr (.inl h)
  ·exact .inl h
  ·exact .inr (.inr h)
theorem io (k : Lk) (ls : List Lk) : (ww k ls).Perm (ls ++ [k]) := by
 unfold ww;have h : ls.takeWhile (fun x => zq x k) ++ ls.dropWhile (fun x => zq x k) = ls := List.takeWhile_append_dropWhile;refine List.perm_middle.trans ?_;rw [h];exact (List.perm_append_comm (l₁ := [k]) (l₂ := ls))
theorem pO {p : Lk → Bool} : ∀ {l : List Lk} {y : Lk} {t : List Lk}, l.dropWhile p = y :: t → p y = false
 | [], _, _, h => by simp at h
 | x :: l, y, t, h => by
  rw [List.dropWhile_cons] at h;split at h
  ·exact pO h
  ·next hp => injection h with h1; subst h1; simpa using hp
theorem rp {ds : List Dv} {ls : List Lk} {k : Lk} (h : xz ds ls) (hk : zv ds k = 0) (hu : yq ls k.key = false) (ho : yd ls k = false) (hl : ls.length < 128) : xz ds (ww k ls) := by
 have hs : ls.takeWhile (fun x => zq x k) ++ ls.dropWhile (fun x => zq x k) = ls := List.takeWhile_append_dropWhile;have hu' := pk.1 hu;have ho' := uP.1 ho;refine ⟨by rw [wL]; omega, fun x hx => ?_, ?_⟩
 ·rcases (kB k x ls).1 hx with rfl | hx
  ·exact hk
  ·exact h.2.1 x hx
 ·have hp := h.2.2;rw [← hs, List.pairwise_append] at hp;obtain ⟨p1, p2, p3⟩ := hp;have mem1 : ∀ x ∈ ls.takeWhile (fun x => zq x k), x ∈ ls := fun x hx => by rw [← hs]; exact List.mem_append_left _ hx
  have mem2 : ∀ x ∈ ls.dropWhile (fun x => zq x k), x ∈ ls := fun x hx => by rw [← hs]; exact List.mem_append_right _ hx
  have AB : ∀ x ∈ ls.takeWhile (fun x => zq x k), zq x k = true := fun x hx => by
   have := List.all_takeWhile (p := fun x => zq x k) (l := ls);exact List.all_eq_true.1 this x hx
  have AA : ∀ x ∈ ls.dropWhile (fun x => zq x k), zq k x = true := by
   rcases hd : ls.dropWhile (fun x => zq x k) with _ | ⟨y, t⟩
   ·intro x hx; cases hx
   ·have hy : zq k y = true := pX (hu' y (mem2 y (by rw [hd]; exact List.mem_cons_self))) (pO (p := fun x => zq x k) hd);intro x hx;rcases List.mem_cons.1 hx with rfl | hx
    ·exact hy
    ·rw [hd, List.pairwise_cons] at p2;exact sQ hy (p2.1 x hx).1
  unfold ww;rw [List.pairwise_append, List.pairwise_cons];refine ⟨p1, ⟨fun x hx => ⟨AA x hx, fun e => (ho' x (mem2 x hx) e.symm).symm, fun e => hu' x (mem2 x hx) e.symm⟩, p2⟩, fun a ha b hb => ?_⟩;rcases List.mem_cons.1 hb with rfl | hb
  ·exact ⟨AB a ha, ho' a (mem1 a ha), hu' a (mem1 a ha)⟩
  ·exact p3 a ha b hb
theorem iz {ds : List Dv} {a b : List Lk} (h : xz ds a) (hs : b.Sublist a) : xz ds b := ⟨Nat.le_trans hs.length_le h.1, fun k hk => h.2.1 k (hs.subset hk), h.2.2.sublist hs⟩
theorem ig : ∀ {a b : List Lk}, a.Pairwise (fun x y => zq x y = true) → b.Pairwise (fun x y => zq x y = true) → (∀ x, x ∈ a ↔ x ∈ b) → a = b
 | [], [], _, _, _ => rfl
 | [], y :: b, _, _, h => absurd ((h y).2 List.mem_cons_self) (by simp)
 | x :: a, [], _, _, h => absurd ((h x).1 List.mem_cons_self) (by simp)
 | x :: a, y :: b, ha, hb, h => by
  rw [List.pairwise_cons] at ha hb
  have e : x = y := by
   have h1 := (h x).1 List.mem_cons_self;have h2 := (h y).2 List.mem_cons_self;rcases List.mem_cons.1 h1 with h1 | h1
   ·exact h1
   ·rcases List.mem_cons.1 h2 with h2 | h2
    ·exact h2.symm
    ·exact (sR (ha.1 y h2) (hb.1 x h1)).elim
  subst e
  congr 1
  refine ig ha.2 hb.2 fun z => ?_
  have hz := h z;simp only [List.mem_cons] at hz
  constructor
  ·intro hm;rcases hz.1 (.inr hm) with rfl | h1
   ·exact (sR (ha.1 z hm) (ha.1 z hm)).elim
   ·exact h1
  ·intro hm;rcases hz.2 (.inr hm) with rfl | h1
   ·exact (sR (hb.1 z hm) (hb.1 z hm)).elim
   ·exact h1
theorem xz.sorted {ds : List Dv} {ls : List Lk} (h : xz ds ls) : ls.Pairwise (fun x y => zq x y = true) := h.2.2.imp fun h => h.1
def ta (d q : Int) : List Lk → Option Nat
 | [] => none
 | x :: l => if x.dev = d ∧ x.key = q then some 0 else (ta d q l).map (· + 1)
end
section
theorem yU : xC Tryz.prog 22 3 1 8 := xC.mk' (z := .int .i64 0) Tryz.underlying22 (by kernel_rfl) rfl (by decide)
theorem pJ {α : Type} (f : α → Value) (l : List α) : (l.flatMap fun x => [f x]) = l.map f := by
 induction l with
 | nil => rfl
 | cons x l ih => rw [List.flatMap_cons, ih]; rfl
theorem yP (l : List Int) : zE l = l.map (Value.int .i64) := pJ _ _
theorem ze (a b : List Int) : zE (a ++ b) = zE a ++ zE b := List.flatMap_append
theorem jL (l : List Int) (i : Nat) (x : Int) : (zE l).set i (.int .i64 x) = zE (l.set i x) := by rw [yP, yP, List.map_set]
theorem rB (n : Nat) (x : Int) : List.replicate n (Value.int .i64 x) = zE (List.replicate n x) := by rw [yP, List.map_replicate]
theorem vT (l : List Int) : (zE l).length = l.length := by rw [yP, List.length_map]
def zL (w : World) (base : Nat) (A : Option Addr) (n c : Nat) (l : List Int) : Prop := w.ownsRow base 3 1 (.slice A n c) n (zE l)
section
variable {w w' : World} {base n c i : Nat} {A : Option Addr} {l : List Int}
theorem zL.len (h : zL w base A n c l) : l.length = n := by have := h.1; rw [vT] at this; omega
theorem zL.sl (h : zL w base A n c l) : Sl w w.heap.size 1 A n c (zE l) := Sl.of_own h
theorem wO (h : w.ownsRow base e 1 (.slice A n c) n xs) (hi : 0 < n) : ∃ g, A = some ⟨g, 0, none⟩ ∧ base ≤ g ∧ g < w.heap.size := by
 have hl := h.lt;rcases h.2 with ⟨hv, hn⟩ | ⟨g, cap, cur, hv, hb, _⟩
 ·omega
 ·injection hv with h1;subst h1;exact ⟨g, rfl, hb, (hl g rfl).2⟩
theorem zL.at (h : zL w base A n c l) (hi : i < n) : ∃ g x, A = some ⟨g, 0, none⟩ ∧ base ≤ g ∧ g < w.heap.size ∧ l[i]? = some x ∧ w.cell? ⟨g, i, none⟩ = some (.int .i64 x) ∧ w.frozen? ⟨g, i, none⟩ = false ∧ ∀ y, zL (w.setCell ⟨g, i, none⟩ (.int .i64 y)) base A n c (l.set i y) := by
 obtain ⟨g, rfl, h1, h2⟩ := wO h (by omega);have hl := h.len;refine ⟨g, l[i]'(by omega), rfl, h1, h2, List.getElem?_eq_getElem _, ?_, h.frozenAt i, fun y => ?_⟩
 ·rw [h.cellAt i (by omega), yP, List.getElem?_map, List.getElem?_eq_getElem (by omega)]; rfl
 ·have := (h.stored i (.int .i64 y)).1
  rwa [jL] at this
theorem zI {size : Nat} {v : Value} (h : w.ownsRow base e size v n xs) (hb : bW w w') : w'.ownsRow base e size v n xs := h.kept (zH hb none) (Classical.em _)
theorem zL.later (h : zL w base A n c l) (hb : bW w w') : zL w' base A n c l := zI h hb
theorem zg (w : World) (p : Addr) (u : Value) : w.grownBy (w.setCell p u) (some p.block) := ⟨rfl, rfl, rfl, by simp [World.setCell], fun i _ hi => Below.heap_setCell w _ _ i (fun e => hi (by rw [e]))⟩
end
theorem vf (n : Nat) (hn : n ≤ 1000000) (w : World) : (Instr.makeSlice 22 (.int .i64 (n : Int)) (.int .i64 (n : Int))).run Tryz.prog w = .ok (.slice (some ⟨w.heap.size, 0, none⟩) n n) (w.alloc (.cells (zE (List.replicate n 0)).toArray 3)) := by
 rw [run_make_row' 22 3 (.int .i64 0) 8 Tryz.underlying22 (by kernel_rfl) rfl .i64 .i64 n (by omega) (by omega) w]
 congr 3
 apply Array.ext'
 rw [toList_madeCells_one, rB]
theorem tV {base n : Nat} (hb : base ≤ w.heap.size) (hn : n ≤ 9223372036854775807) (hl : xs.length = n) : (w.alloc (.cells xs.toArray e)).ownsRow base e 1 (.slice (some ⟨w.heap.size, 0, none⟩) n n) n xs :=
 ⟨by omega, .inr ⟨w.heap.size, n, xs.toArray, rfl, hb, heap_alloc_new w _, Nat.le_refl _, by simpa [maxLen] using hn, by simp [hl], by simp [← hl]⟩⟩
theorem tZ {base n : Nat} (hb : base ≤ w.heap.size) (hn : n ≤ 1000000) : zL (w.alloc (.cells (zE (List.replicate n 0)).toArray 3)) base (some ⟨w.heap.size, 0, none⟩) n n (List.replicate n 0) := tV hb (by omega) (by rw [vT, List.length_replicate])
theorem xI (l : List Int) : ∀ u ∈ zE l, u.oneCell' = true := by
 intro u hu;rw [yP, List.mem_map] at hu;obtain ⟨x, _, rfl⟩ := hu;rfl
theorem xn (h : w.drew.grownBy w' row) : w.grownBy w' row := ⟨h.os, h.tape, h.output, h.size, h.block⟩
def qY (A : Option Addr) (c k : Nat) : Option Addr := if c = k then A else A.map (·.add k)
theorem tR (w : World) (A : Option Addr) (n c k : Nat) (hk : k ≤ n) : (Instr.sliceAt 22 (.slice A n c) (some (.int .i64 (k : Int))) none none).run Tryz.prog w = .ok (.slice (qY A c k) (n - k) (c - k)) w := by
 rw [run_sliceAt_slice _ _ _ _ _ _ (by kernel_rfl), run_slice_l _ _ _ _ _ (by kernel_rfl) _ _ (by omega) (by omega)];have : (sizeOf (Tryz.prog.elem 22)).run Tryz.prog w = .ok 1 w := by kernel_rfl
 rw [this];simp [sliced, qY, Result.andThen]
def FT (w : World) (base : Nat) (e : TypeId) (A : Option Addr) (n c : Nat) (xs : List Value) : Prop :=
 xs.length = n ∧ n ≤ c ∧ c ≤ 9223372036854775807 ∧ (∀ a, A = some a → base ≤ a.block ∧ a.block < w.heap.size) ∧
 (0 < c → ∃ g off cur, A = some ⟨g, off, none⟩ ∧ w.heap[g]? = some (.cells cur e (0, 0)) ∧ off + c ≤ cur.size ∧ ∀ j u, xs[j]? = some u → cur[off + j]? = some u)
section
variable {w w' : World} {base n c k : Nat} {A : Option Addr} {xs : List Value} {e : TypeId}
theorem FT.le (h : FT w base e A n c xs) : n ≤ c ∧ c ≤ 9223372036854775807 := ⟨h.2.1, h.2.2.1⟩
theorem FT.lt (h : FT w base e A n c xs) : ∀ g, (Value.slice A n c).ownBlock = some g → base ≤ g ∧ g < w.heap.size := by
 intro g hg;cases A with
 | none => cases hg
 | some a => have := h.2.2.2.1 a rfl; simp [Value.ownBlock] at hg; subst hg; exact this
theorem FT.of_own (h : w.ownsRow base e 1 (.slice A n c) n xs) : FT w base e A n c xs := by
 have hl := h.lt;have hx := h.1;rcases h.2 with ⟨hv, hn⟩ | ⟨g, cap, cur, hv, hb, hh, Ip, hm, hs, ht⟩
 ·injection hv with h1 h2 h3;subst h1 h3 hn;exact ⟨by omega, Nat.le_refl _, by omega, (fun a e => by cases e), fun h => absurd h (by omega)⟩
 ·injection hv with h1 h2 h3;subst h1 h3;refine ⟨by omega, Ip, by simpa [maxLen] using hm, fun a e => ?_, fun _ => ⟨g, 0, cur, rfl, hh, by omega, fun j u hu => ?_⟩⟩
  ·injection e with e; subst e; exact hl g rfl
  ·rw [Nat.zero_add];have hj : j < n := by have := (List.getElem?_eq_some_iff.1 hu).1; omega
   rw [← ht, List.getElem?_take, if_pos (by omega)] at hu;simpa using hu
theorem FT.kept (h : FT w base e A n c xs) (hg : w.grownBy w' row) (hne : (Value.slice A n c).ownBlock = none ∨ (Value.slice A n c).ownBlock ≠ row) : FT w' base e A n c xs := by
 obtain ⟨h1, h2, h3, h4, h5⟩ := h;refine ⟨h1, h2, h3, fun a ha => ⟨(h4 a ha).1, Nat.lt_of_lt_of_le (h4 a ha).2 hg.size⟩, fun hc => ?_⟩;obtain ⟨g, off, cur, rfl, hh, ho, hx⟩ := h5 hc;refine ⟨g, off, cur, rfl, (hg.block g (h4 _ rfl).2 (fun e => ?_)).trans hh, ho, hx⟩;rcases hne with h | h
 ·simp [Value.ownBlock] at h
 ·exact h e
theorem FT.later (h : FT w base e A n c xs) (hb : bW w w') : FT w' base e A n c xs := h.kept (zH hb none) (Classical.em _)
theorem FT.alloc (h : FT w base e A n c xs) (o : Obj) : FT (w.alloc o) base e A n c xs := h.later ((Below.refl _ _).alloc lR _)
theorem FT.at (h : FT w base e A n c xs) (hk : k < n) : ∃ g off u, A = some ⟨g, off, none⟩ ∧ xs[k]? = some u ∧ w.cell? ⟨g, off + k, none⟩ = some u := by
 obtain ⟨h1, h2, h3, h4, h5⟩ := h;obtain ⟨g, off, cur, rfl, hh, ho, hx⟩ := h5 (by omega);have e1 : xs[k]? = some (xs[k]'(by omega)) := List.getElem?_eq_getElem (by omega);exact ⟨g, off, _, rfl, e1, (cell_of_row w g _ cur e (0, 0) hh).trans (hx k _ e1)⟩
theorem mB (A : Option Addr) (n c n' c' k : Nat) : (Value.slice (qY A c k) n' c').ownBlock = (Value.slice A n c).ownBlock := by
 unfold qY;cases A with
 | none => split <;> rfl
 | some a =>
  split
  ·rfl
  ·simp [Value.ownBlock, Addr.add]; split <;> rfl
theorem FT.cut (h : FT w base e A n c xs) (hk : k ≤ n) : FT w base e (qY A c k) (n - k) (c - k) (xs.drop k) := by
 obtain ⟨h1, h2, h3, h4, h5⟩ := h;refine ⟨by simp; omega, by omega, by omega, fun a ha => ?_, fun hc => ?_⟩
 ·cases A with
  | none => unfold qY at ha; split at ha <;> cases ha
  | some b =>
   have := h4 b rfl
   have hb : a.block = b.block := by
    have := mB (some b) n c n c k;rw [ha] at this;simpa [Value.ownBlock] using this
   rw [hb]; exact this
 ·obtain ⟨g, off, cur, rfl, hh, ho, hx⟩ := h5 (by omega);refine ⟨g, off + k, cur, by unfold qY; rw [if_neg (by omega), Option.map_some, xi], hh, by omega, fun j u hu => ?_⟩;rw [List.getElem?_drop] at hu;have := hx (k + j) u hu
  rwa [show off + k + j = off + (k + j) by omega]
end
end
section
def Lk.cells (k : Lk) : List Value := [.int .i64 k.dev, .int .i64 k.pos, .int .i64 k.key]
theorem yb : xC Tryz.prog 35 106 3 24 := xC.mk' (z := .agg #[.int .i64 0, .int .i64 0, .int .i64 0]) Tryz.underlying35 (by kernel_rfl) rfl (by decide)
def zk (w : World) (base : Nat) (A : Option Addr) (n c : Nat) (ls : List Lk) : Prop := w.ownsRow base 106 3 (.slice A n c) n (ls.flatMap Lk.cells)
section
variable {w w' : World} {base n c B : Nat} {A : Option Addr} {ls : List Lk}
theorem zk.sl (h : zk w base A n c ls) : Sl w w.heap.size 3 A n c (ls.flatMap Lk.cells) := Sl.of_own h
theorem zk.len (h : zk w base A n c ls) : ls.length = n := (Sl.of_own h).len (fun _ => rfl) (by decide)
theorem zk.later (h : zk w base A n c ls) (hb : bW w w') : zk w' base A n c ls := zI h hb
theorem yl (l : List Lk) : ∀ u ∈ l.flatMap Lk.cells, u.oneCell' = true := by
 intro u hu;rw [List.mem_flatMap] at hu;obtain ⟨x, _, hx⟩ := hu;simp only [Lk.cells, List.mem_cons, List.not_mem_nil, or_false] at hx;rcases hx with rfl | rfl | rfl <;> rfl
theorem Sl.lock (h : Sl w B 3 A n c (ls.flatMap Lk.cells)) (hi : i < n) : ∃ b off d p q, A = some ⟨b, off, none⟩ ∧ b < B ∧ ls[i]? = some ⟨d, p, q⟩ ∧ w.cell? ⟨b, off + i * 3, none⟩ = some (.int .i64 d) ∧ w.cell? ⟨b, off + i * 3 + 1, none⟩ = some (.int .i64 p) ∧ w.cell? ⟨b, off + i * 3 + 2, none⟩ = some (.int .i64 q) := by
 obtain ⟨b, off, ⟨d, p, q⟩, e, hb, hx, hc⟩ := h.at (fun _ => rfl) (by decide) hi;exact ⟨b, off, d, p, q, e, hb, hx, hc 0 _ rfl, hc 1 _ rfl, hc 2 _ rfl⟩
end
end
section
structure Sp where
 kind : Int
 dev : Int
 node : Int
 pos : Int
 key : Int
deriving DecidableEq
def Sp.cells (s : Sp) : List Value := [.int .i64 s.kind, .int .i64 s.dev, .int .i64 s.node, .int .i64 s.pos, .int .i64 s.key]
theorem Sp.len (s : Sp) : s.cells.length = 5 := rfl
def Sp.posB (s : Sp) : Bool := s.kind == 3 || s.kind == 6
def Sp.keyB (s : Sp) : Bool := s.kind == 3 || s.kind == 4
def zc (nn nd : Nat) (s : Sp) : Int :=
 if s.kind < 1 ∨ 6 < s.kind then 6
 else if s.kind ≠ 5 ∧ (s.dev < 0 ∨ (nd : Int) ≤ s.dev) then 8
 else if s.kind = 5 ∧ (s.node < 0 ∨ (nn : Int) ≤ s.node) then 7
 else if s.posB = true ∧ s.pos ≠ 1 ∧ s.pos ≠ 2 then 10
 else if s.keyB = true ∧ (s.key < 0 ∨ 65536 < s.key) then 5
 else if s.kind = 5 ∧ s.dev ≠ 0 ∨ s.kind ≠ 5 ∧ s.node ≠ 0 ∨ s.posB = false ∧ s.pos ≠ 0 ∨ s.keyB = false ∧ s.key ≠ 0 then 14
 else 0
def zz (nn nd : Nat) : List Sp → Int
 | [] => 0
 | s :: r => if zc nn nd s ≠ 0 then zc nn nd s else zz nn nd r
def xw (ns : List Nd) (ds : List Dv) (nm : ByteArray) (xs : List Sp) : Int :=
 if zR ns ds ≠ 0 then zR ns ds else if yO (BA nm) = false then 3 else if 64 < xs.length then 1 else zz ns.length ds.length xs
end
section
def xt (x : Dv) (v : Int) : Int := if zV x.kind = false then -1 else if x.a = v then x.b else if x.b = v then x.a else -1
theorem lc (nm : ByteArray) (kind a b comp v : Int) (w : World) : Calls Tryz.prog 181 #[.agg #[.string nm, .int .i64 kind, .int .i64 a, .int .i64 b, .int .i64 comp], .int .i64 v] w fun e w' => e = .returned (.int .i64 (xt ⟨nm, kind, a, b, comp⟩ v)) ∧ bW w w' := by
 have HE : Hid (xt ⟨nm, kind, a, b, comp⟩ v = if zV kind = false then -1 else if a = v then b else if b = v then a else -1) := rfl;have Cq := iD (wD kind);rcases hj : zV kind with _ | _
 ·rw [hj] at Cq;have HJ := iD hj; clear hj
  go_enter Tryz.func181, Tryz.ntmps181
  go_wp2_with fail
  refine (Cq _).mono ?_;rintro e w1 ⟨rfl, rfl⟩
  go_wp2_with fail
  go_ret;exact ⟨zC (by rw [HE.out, if_pos HJ.out]), (Below.refl _ _).alloc lR _⟩
 ·rw [hj] at Cq;have HJ := iD hj; clear hj;by_cases h1 : a = v
  ·subst h1;have q : (a == a) = true := by simp
   go_enter Tryz.func181, Tryz.ntmps181
   go_wp2_with fail
   refine (Cq _).mono ?_;rintro e w1 ⟨rfl, rfl⟩
   go_wp2_with fail
   go_ret;exact ⟨zC (by rw [HE.out, if_neg (by rw [HJ.out]; simp)]; simp), (Below.refl _ _).alloc lR _⟩
  ·have q : (a == v) = false := by simpa using h1
   by_cases h2 : b = v
   ·subst h2;have q2 : (b == b) = true := by simp
    go_enter Tryz.func181, Tryz.ntmps181
    go_wp2_with fail
    refine (Cq _).mono ?_;rintro e w1 ⟨rfl, rfl⟩
    go_wp2_with fail
    go_ret;exact ⟨zC (by rw [HE.out, if_neg (by rw [HJ.out]; simp), if_neg h1]; simp), (Below.refl _ _).alloc lR _⟩
   ·have q2 : (b == v) = false := by simpa using h2
    go_enter Tryz.func181, Tryz.ntmps181
    go_wp2_with fail
    refine (Cq _).mono ?_;rintro e w1 ⟨rfl, rfl⟩
    go_wp2_with fail
    go_ret;exact ⟨zC (by rw [HE.out, if_neg (by rw [HJ.out]; simp), if_neg h1, if_neg h2]), (Below.refl _ _).alloc lR _⟩
def xB (w : World) (l : List Int) (e : Ending) (w' : World) : Prop := ∃ (A : Option Addr) (c : Nat), e = .returned (.slice A l.length c) ∧ Hid (zL w' w.heap.size A l.length c l) ∧ Hid (bW w w')
theorem qo (A : Option Addr) (n c : Nat) (w : World) : (binOp BinOp.eql 22 (.slice A n c) (.slice none 0 0)).run Tryz.prog w = .ok (.bool A.isNone) w := by
 cases A <;> kernel_rfl
theorem yo (A : Option Addr) (n c B : Nat) (l : List Int) (w : World) (hs : Sl w B 1 A n c (zE l)) (hB : B ≤ w.heap.size) (hn : n ≤ 1000000) : Calls Tryz.prog 47 #[.slice A n c] w (xB w l) := by
 have hl := hs.len (fun _ => rfl) (by decide);have HL := iD hl; clear hl;cases A with
 | none =>
  have h0 : n = 0 := by have := hs.2.2.2.1 rfl; have := hs.le; omega
  subst h0;have Ns : l = [] := List.eq_nil_of_length_eq_zero HL.out;subst Ns;clear hs HL;have GY := qo none 0 c w;simp only [Option.isNone_none] at GY
  go_enter Tryz.func47, Tryz.ntmps47
  go_wp2_with fail
  go_ret;exact ⟨none, 0, rfl, World.ownsRow_nil _ _ _ _, Below.refl _ _⟩
 | some a =>
  have HS := iD hs;have hH := hs.le;clear hs;have GY := qo (some a) n c w;simp only [Option.isNone_some] at GY
  go_enter Tryz.func47, Tryz.ntmps47
  have h1 : ∀ u ∈ zE l, u.oneCell' = true := xI l
  have BO := iD (HS.alloc hB (.cells #[] 3))
  go_wp2_with (at_builtin; go_must (refine zM rfl (.tmp 5) (.tmp 6) rfl yU (base := w.heap.size) (n := 0) (xs := []) (by rfl) (tV (xs := []) lR (by decide) rfl) (by rfl) BO h1 (by omega) (by omega) (by simp) ?_; intro A' cap' w2 EF Gb LU; simp only [Nat.zero_add, List.nil_append] at EF Gb; have HO := iD EF; have HG := iD Gb; clear EF Gb LU))
  go_ret;obtain rfl : l.length = n := HL.out;exact ⟨A', cap', rfl, HO, ((Below.refl _ _).alloc lR _).trans (yE HG lR (by simp))⟩
end
end Go.Proofs.YtkkobemhbicjgaaGreatDoor
