import Derived.WalkKit
import Derived.WalkSpells
import Derived.WalkLawsBesides
import Derived.Lib.Hide
import Derived.Lib.SlBytesConst
import Derived.Deep.DeepMust
import Derived.Laws.OwnMore
import Derived.Laws.BitsAllLaws
import Derived.Deep.AppendLies
import Derived.Laws.AppendOwnNone
import Derived.Deep.Draws
import Derived.Deep.Onto
import Derived.Test.YtfaknfmndafllaaGreatDoorProg
import Derived.Deep.OwnRows
import Derived.Deep.AppendSrc
import Derived.Deep.LoopGhost
import Derived.Conc.LoneCalls
import Derived.IntWalk
import Derived.Lib.AppendStr
import Derived.Lib.Strings
import Derived.Laws.BytesArg
namespace Go.Proofs.YtfaknfmndafllaaGreatDoor
open Go.RowKit
def Sl (w : World) (B size : Nat) (A : Option Addr) (n c : Nat) (xs : List Value) : Prop :=
 xs.length = n * size ∧ n ≤ c ∧ c ≤ 9223372036854775807 ∧ (A = none → c = 0) ∧ (0 < n → ∃ b off, A = some ⟨b, off, none⟩ ∧ b < B ∧ ∀ j u, xs[j]? = some u → w.cell? ⟨b, off + j, none⟩ = some u)
theorem flat_len {α : Type} {f : α → List Value} {size : Nat} (hf : ∀ x, (f x).length = size) : ∀ l : List α, (l.flatMap f).length = l.length * size
 | [] => by simp
 | x :: l => by simp only [List.flatMap_cons, List.length_append, hf, flat_len hf l, List.length_cons, Nat.succ_mul]; omega
theorem flat_at {α : Type} {f : α → List Value} {size : Nat} (hf : ∀ x, (f x).length = size) : ∀ (l : List α) (k j : Nat) (x : α), l[k]? = some x → j < size → (l.flatMap f)[k * size + j]? = (f x)[j]?
 | [], k, j, x, h, _ => by simp at h
 | y :: l, 0, j, x, h, hj => by
  simp at h; subst h
  rw [List.flatMap_cons, Nat.zero_mul, Nat.zero_add, List.getElem?_append_left (by rw [hf]; exact hj)]
 | y :: l, k + 1, j, x, h, hj => by
  simp at h
  rw [List.flatMap_cons, List.getElem?_append_right (by rw [hf, Nat.succ_mul]; omega), hf, show (k + 1) * size + j - size = k * size + j from by rw [Nat.succ_mul]; omega]
  exact flat_at hf l k j x h hj
section
variable {w w' : World} {B B' size n c k : Nat} {A : Option Addr} {xs : List Value} {α : Type} {f : α → List Value} {l : List α}
theorem Sl.le (h : Sl w B size A n c xs) : n ≤ c ∧ c ≤ 9223372036854775807 := ⟨h.2.1, h.2.2.1⟩
theorem Sl.len (h : Sl w B size A n c (l.flatMap f)) (hf : ∀ x, (f x).length = size) (hs : 0 < size) : l.length = n := by
 have := h.1
 rw [flat_len hf] at this
 exact Nat.eq_of_mul_eq_mul_right hs this
theorem Sl.keep (h : Sl w B size A n c xs) (hk : ∀ p : Addr, p.block < B → w'.cell? p = w.cell? p) : Sl w' B size A n c xs :=
 ⟨h.1, h.2.1, h.2.2.1, h.2.2.2.1, fun hn => by
  obtain ⟨b, off, e, hb, hc⟩ := h.2.2.2.2 hn
  exact ⟨b, off, e, hb, fun j u hu => (hk _ hb).trans (hc j u hu)⟩⟩
theorem Sl.more (h : Sl w B size A n c xs) (hB : B ≤ B') : Sl w B' size A n c xs :=
 ⟨h.1, h.2.1, h.2.2.1, h.2.2.2.1, fun hn => by
  obtain ⟨b, off, e, hb, hc⟩ := h.2.2.2.2 hn
  exact ⟨b, off, e, by omega, hc⟩⟩
theorem Sl.below (h : Sl w B size A n c xs) (hb : Below B' w w') (hB : B ≤ B') : Sl w' B size A n c xs := h.keep fun _ hp => hb.cell (by omega)
theorem Sl.alloc (h : Sl w B size A n c xs) (hB : B ≤ w.heap.size) (o : Obj) : Sl (w.alloc o) B size A n c xs := h.keep fun p hp => World.cell?_alloc_lt w o p (by omega)
theorem Sl.drew (h : Sl w B size A n c xs) : Sl w.drew B size A n c xs := h
theorem Sl.drewN (h : Sl w B size A n c xs) (m : Nat) : Sl (w.drewN m) B size A n c xs := h
theorem Sl.setCell (h : Sl w B size A n c xs) {p : Addr} (hB : B ≤ p.block) (u : Value) : Sl (w.setCell p u) B size A n c xs :=
 h.keep fun q hq => World.cell?_setCell_other w p q u (fun e => by subst e; omega)
theorem Sl.grown (h : Sl w B size A n c xs) {row : Option Nat} (hg : w.grownBy w' row) (hB : B ≤ w.heap.size) (hr : ∀ g, row = some g → B ≤ g) : Sl w' B size A n c xs :=
 h.keep fun p hp => World.cell?_of_block (hg.block p.block (by omega) (fun e => by have := hr _ e.symm; omega))
theorem Sl.nil (w : World) (B size : Nat) : Sl w B size none 0 0 [] := ⟨by simp, Nat.le_refl _, by omega, fun _ => rfl, fun h => absurd h (by omega)⟩
theorem Sl.of_own {base : Nat} {e : TypeId} (h : w.ownsRow base e size (.slice A n c) n xs) : Sl w w.heap.size size A n c xs := by
 rcases h.2 with ⟨hv, hn⟩ | ⟨g, cap, cur, hv, hb, hh, hnc, hm, hs, ht⟩
 ·injection hv with h1 h2 h3
  subst h1 h3 hn
  exact ⟨h.1, Nat.le_refl _, by omega, fun _ => rfl, fun h => absurd h (by omega)⟩
 ·injection hv with h1 h2 h3
  subst h1 h3
  refine ⟨h.1, hnc, by simpa [maxLen] using hm, (fun e => by cases e), fun hn => ⟨g, 0, rfl, ?_, fun j u hu => ?_⟩⟩
  ·exact (h.lt g rfl).2
  ·have := h.cells (g := g) rfl j u hu
   have e : ((⟨g, 0, none⟩ : Addr).add j) = ⟨g, 0 + j, none⟩ := by
    unfold Addr.add
    split
    ·simp
    ·rfl
   rw [← e]; exact this
theorem Sl.at (h : Sl w B size A n c (l.flatMap f)) (hf : ∀ x, (f x).length = size) (hs : 0 < size) (hk : k < n) :
 ∃ b off x, A = some ⟨b, off, none⟩ ∧ b < B ∧ l[k]? = some x ∧ ∀ j u, (f x)[j]? = some u → w.cell? ⟨b, off + k * size + j, none⟩ = some u := by
 obtain ⟨b, off, e, hb, hc⟩ := h.2.2.2.2 (by omega)
 have hl := h.len hf hs
 refine ⟨b, off, l[k]'(by omega), e, hb, List.getElem?_eq_getElem (by omega), fun j u hu => ?_⟩
 have hj : j < size := by rw [← hf (l[k]'(by omega))]; exact (List.getElem?_eq_some_iff.1 hu).1
 have := hc (k * size + j) u (by rw [flat_at hf l k j _ (List.getElem?_eq_getElem (by omega)) hj]; exact hu)
 rw [Nat.add_assoc]; exact this
theorem Sl.at1 {g : α → Value} (h : Sl w B 1 A n c (l.flatMap fun x => [g x])) (hk : k < n) :
 ∃ b off x, A = some ⟨b, off, none⟩ ∧ b < B ∧ l[k]? = some x ∧ w.cell? ⟨b, off + k, none⟩ = some (g x) := by
 obtain ⟨b, off, x, e, hb, hx, hc⟩ := h.at (fun _ => rfl) (by decide) hk
 exact ⟨b, off, x, e, hb, hx, by have := hc 0 _ rfl; rw [Nat.mul_one] at this; exact this⟩
end
theorem add_plain (b off j : Nat) : ((⟨b, off, none⟩ : Addr).add j) = ⟨b, off + j, none⟩ := by
 unfold Addr.add
 split
 ·simp
 ·rfl
theorem Sl.newest {w : World} {cs : Array Value} {T : TypeId} {fr : Nat × Nat} {n size H : Nat} (hH : w.heap.size = H) (hc : cs.size = n * size) (hn : n ≤ 9223372036854775807) :
 Sl (w.alloc (.cells cs T fr)) (H + 1) size (some ⟨H, 0, none⟩) n n cs.toList := by
 subst hH
 refine ⟨by simpa using hc, Nat.le_refl _, hn, (fun e => by cases e), fun _ => ⟨_, 0, rfl, by omega, fun j u hu => ?_⟩⟩
 have := World.news_of_block (heap_alloc_new w (.cells cs T fr)) j u hu
 rw [add_plain] at this
 exact this
structure ElemI (P : Program) (t e : TypeId) (size bytes : Nat) : Prop where
 ht : P.underlying t = some (.slice e)
 ex : ∃ i z, P.info? e = some i ∧ i.zero = some z ∧ i.size = size ∧ i.bytes = bytes ∧ z.cells.size = size
 pos : 0 < size
theorem ElemI.mk' {P : Program} {t e : TypeId} {size bytes : Nat} {z : Value} (ht : P.underlying t = some (.slice e)) (h : (P.info? e).map (fun i => (i.zero, i.size, i.bytes)) = some (some z, size, bytes)) (hz : z.cells.size = size) (hp : 0 < size) : ElemI P t e size bytes := by
 obtain ⟨i, h1, h2, h3, h4⟩ := info_parts h
 exact ⟨ht, ⟨i, z, h1, h2, h3, h4, hz⟩, hp⟩
section
variable {P : Program} {w : World} {t e : TypeId} {size bytes : Nat}
theorem run_app (E : ElemI P t e size bytes) (ty : TypeId) {base : Nat} {v : Value} {n : Nat} {xs : List Value} (hown : w.ownsRow base e size v n xs) {Bx : Nat} {Ax : Option Addr} {m c : Nat} {news : List Value} (hsrc : Sl w Bx size Ax m c news)
 (h1 : ∀ u ∈ news, u.oneCell' = true) (hby : (n + m) * bytes ≤ 140737488355328) (h63 : n + m ≤ 9223372036854775807) (hbase : base ≤ w.heap.size) :
 ∃ A' cap w', (Builtin.append_ #[t, t] ty #[v, .slice Ax m c]).run P w = .ok (.slice A' (n + m) cap) w' ∧ w'.ownsRow base e size (.slice A' (n + m) cap) (n + m) (xs ++ news) ∧ w.grownBy w' v.ownBlock ∧
  ((Value.slice A' (n + m) cap).ownBlock = v.ownBlock ∨ (Value.slice A' (n + m) cap).ownBlock = some w.heap.size) := by
 obtain ⟨ht, ⟨i, z, hi, hz, hs, hb, hzc⟩, hp⟩ := E
 have shape : ∀ (v' : Value) (w' : World), w'.ownsRow base e size v' (n + m) (xs ++ news) → ∃ A' cap, v' = .slice A' (n + m) cap := by
  intro v' w' h
  rcases h.2 with ⟨hv, hn⟩ | ⟨g, cap, cur, hv, _⟩
  ·exact ⟨none, 0, by rw [hv, hn]⟩
  ·exact ⟨_, cap, hv⟩
 cases Ax with
 | none =>
  have hc0 := hsrc.2.2.2.1 rfl
  have hm0 : m = 0 := by have := hsrc.2.1; omega
  subst hc0 hm0
  have hnil : news = [] := List.eq_nil_of_length_eq_zero (by simpa using hsrc.1)
  subst hnil
  have hr := run_append_owned_none (P := P) (w := w) base t ty e i size ht hi v n xs hown
  obtain ⟨A', cap, hv⟩ := shape v w (by simpa using hown)
  refine ⟨A', cap, w, by rw [hr, hv], by rw [← hv]; simpa using hown, ⟨rfl, rfl, rfl, Nat.le_refl _, fun _ _ _ => rfl⟩, .inl (by rw [hv])⟩
 | some a =>
  have hl : news.length = m * size := hsrc.1
  have hnews : ∀ j u, news[j]? = some u → w.cell? (a.add j) = some u := by
   intro j u hu
   have hj : j < news.length := (List.getElem?_eq_some_iff.1 hu).1
   have hm : 0 < m := by
    rcases Nat.eq_zero_or_pos m with h0 | h0
    ·subst h0; omega
    ·exact h0
   obtain ⟨b, off, ha, _, hc⟩ := hsrc.2.2.2.2 hm
   injection ha with ha
   subst ha
   rw [add_plain]; exact hc j u hu
  obtain ⟨v', w', hr, h2, h3, _, h5⟩ := run_append_own_at (P := P) w base t ty e i z size bytes ht hi hz hs hb hzc hp v n xs hown a m c news hl hnews h1 (by simpa [maxLen] using h63) hby hbase
  obtain ⟨A', cap, rfl⟩ := shape v' w' h2
  exact ⟨A', cap, w', hr, h2, h3, h5⟩
variable {o : Oper} {a : Act}
theorem wp_app {K : Act → World → Prop} {Q : Exit → Act → World → Prop} (s x : Operand) (ho : o.op = .call { callee := .builtin .append, args := #[s, x], argTypes := #[t, t] })
 (E : ElemI P t e size bytes) {base : Nat} {v : Value} {n : Nat} {xs : List Value} (hs : a.eval s = v) (hown : w.ownsRow base e size v n xs) {Bx : Nat} {Ax : Option Addr} {m c : Nat} {news : List Value} (hx : a.eval x = .slice Ax m c) (hsrc : Sl w Bx size Ax m c news)
 (h1 : ∀ u ∈ news, u.oneCell' = true) (hby : (n + m) * bytes ≤ 140737488355328) (h63 : n + m ≤ 9223372036854775807) (hbase : base ≤ w.heap.size)
 (h : ∀ A' cap w', w'.ownsRow base e size (.slice A' (n + m) cap) (n + m) (xs ++ news) → w.grownBy w' v.ownBlock → ((Value.slice A' (n + m) cap).ownBlock = v.ownBlock ∨ (Value.slice A' (n + m) cap).ownBlock = some w.heap.size) → K (a.put o.dst (.slice A' (n + m) cap)) w') : o.wp P a w K Q := by
 obtain ⟨A', cap, w', hr, h2, h3, h4⟩ := run_app E o.type hown hsrc h1 hby h63 hbase
 unfold Oper.wp execOp
 simp only [ho, resolve, invoke, builtin, Sem.run_bind, Sem.run_pure, Result.andThen_ok, List.map_toArray, List.map_cons, List.map_nil, hs, hx, hr]
 exact h A' cap w' h2 h3 h4
theorem wpList_app {ops : Array Oper} {rest : List Oper} {Q : Exit → Act → World → Prop} (hgd : o.guard = none) (s x : Operand) (ho : o.op = .call { callee := .builtin .append, args := #[s, x], argTypes := #[t, t] })
 (E : ElemI P t e size bytes) {base : Nat} {v : Value} {n : Nat} {xs : List Value} (hs : a.eval s = v) (hown : w.ownsRow base e size v n xs) {Bx : Nat} {Ax : Option Addr} {m c : Nat} {news : List Value} (hx : a.eval x = .slice Ax m c) (hsrc : Sl w Bx size Ax m c news)
 (h1 : ∀ u ∈ news, u.oneCell' = true) (hby : (n + m) * bytes ≤ 140737488355328) (h63 : n + m ≤ 9223372036854775807) (hbase : base ≤ w.heap.size)
 (h : ∀ A' cap w', w'.ownsRow base e size (.slice A' (n + m) cap) (n + m) (xs ++ news) → w.grownBy w' v.ownBlock → ((Value.slice A' (n + m) cap).ownBlock = v.ownBlock ∨ (Value.slice A' (n + m) cap).ownBlock = some w.heap.size) → wpList P ops Q rest (a.put o.dst (.slice A' (n + m) cap)) w') : wpList P ops Q (o :: rest) a w :=
 wpList_plain hgd fun _ hK => wp_app s x ho E hs hown hx hsrc h1 hby h63 hbase fun A' cap w' h2 h3 h4 => hK _ _ (h A' cap w' h2 h3 h4)
theorem step_app {ops : Array Oper} {K : Act → World → Prop} {Q : Exit → Act → World → Prop} {F : Prop} (hgd : o.guard = none) (s x : Operand) (ho : o.op = .call { callee := .builtin .append, args := #[s, x], argTypes := #[t, t] })
 (E : ElemI P t e size bytes) {base : Nat} {v : Value} {n : Nat} {xs : List Value} (hs : a.eval s = v) (hown : w.ownsRow base e size v n xs) {Bx : Nat} {Ax : Option Addr} {m c : Nat} {news : List Value} (hx : a.eval x = .slice Ax m c) (hsrc : Sl w Bx size Ax m c news)
 (h1 : ∀ u ∈ news, u.oneCell' = true) (hby : (n + m) * bytes ≤ 140737488355328) (h63 : n + m ≤ 9223372036854775807) (hbase : base ≤ w.heap.size)
 (h : ∀ A' cap w', w'.ownsRow base e size (.slice A' (n + m) cap) (n + m) (xs ++ news) → w.grownBy w' v.ownBlock → ((Value.slice A' (n + m) cap).ownBlock = v.ownBlock ∨ (Value.slice A' (n + m) cap).ownBlock = some w.heap.size) → K (a.put o.dst (.slice A' (n + m) cap)) w') :
 if Region.wanted o (yielded ops a.tmps) = true then Oper.wp P o a w K Q else F := by
 rw [if_pos (by simp [Region.wanted, hgd])]
 exact wp_app s x ho E hs hown hx hsrc h1 hby h63 hbase h
end
def Blk (w : World) (g : Nat) (t : TypeId) (cs : Array Value) : Prop := w.heap[g]? = some (.cells cs t (0, 0))
section
variable {w w' : World} {g : Nat} {t : TypeId} {cs : Array Value}
theorem Blk.lt (h : Blk w g t cs) : g < w.heap.size := (Array.getElem?_eq_some_iff.1 h).1
theorem Blk.cell (h : Blk w g t cs) (i : Nat) : w.cell? ⟨g, i, none⟩ = cs[i]? := cell_of_row w g i cs t (0, 0) h
theorem Blk.c0 {w : World} {g : Nat} {t : TypeId} {v0 : Value} {l : List Value} (h : Blk w g t (v0 :: l).toArray) : w.cell? ⟨g, 0, none⟩ = some v0 := h.cell 0
theorem Blk.c1 {w : World} {g : Nat} {t : TypeId} {v0 v1 : Value} {l : List Value} (h : Blk w g t (v0 :: v1 :: l).toArray) : w.cell? ⟨g, 1, none⟩ = some v1 := h.cell 1
theorem Blk.c2 {w : World} {g : Nat} {t : TypeId} {v0 v1 v2 : Value} {l : List Value} (h : Blk w g t (v0 :: v1 :: v2 :: l).toArray) : w.cell? ⟨g, 2, none⟩ = some v2 := h.cell 2
theorem Blk.c3 {w : World} {g : Nat} {t : TypeId} {v0 v1 v2 v3 : Value} {l : List Value} (h : Blk w g t (v0 :: v1 :: v2 :: v3 :: l).toArray) : w.cell? ⟨g, 3, none⟩ = some v3 := h.cell 3
theorem Blk.c4 {w : World} {g : Nat} {t : TypeId} {v0 v1 v2 v3 v4 : Value} {l : List Value} (h : Blk w g t (v0 :: v1 :: v2 :: v3 :: v4 :: l).toArray) : w.cell? ⟨g, 4, none⟩ = some v4 := h.cell 4
theorem Blk.c5 {w : World} {g : Nat} {t : TypeId} {v0 v1 v2 v3 v4 v5 : Value} {l : List Value} (h : Blk w g t (v0 :: v1 :: v2 :: v3 :: v4 :: v5 :: l).toArray) : w.cell? ⟨g, 5, none⟩ = some v5 := h.cell 5
theorem Blk.c6 {w : World} {g : Nat} {t : TypeId} {v0 v1 v2 v3 v4 v5 v6 : Value} {l : List Value} (h : Blk w g t (v0 :: v1 :: v2 :: v3 :: v4 :: v5 :: v6 :: l).toArray) : w.cell? ⟨g, 6, none⟩ = some v6 := h.cell 6
theorem Blk.c7 {w : World} {g : Nat} {t : TypeId} {v0 v1 v2 v3 v4 v5 v6 v7 : Value} {l : List Value} (h : Blk w g t (v0 :: v1 :: v2 :: v3 :: v4 :: v5 :: v6 :: v7 :: l).toArray) : w.cell? ⟨g, 7, none⟩ = some v7 := h.cell 7
theorem Blk.c8 {w : World} {g : Nat} {t : TypeId} {v0 v1 v2 v3 v4 v5 v6 v7 v8 : Value} {l : List Value} (h : Blk w g t (v0 :: v1 :: v2 :: v3 :: v4 :: v5 :: v6 :: v7 :: v8 :: l).toArray) : w.cell? ⟨g, 8, none⟩ = some v8 := h.cell 8
theorem Blk.c9 {w : World} {g : Nat} {t : TypeId} {v0 v1 v2 v3 v4 v5 v6 v7 v8 v9 : Value} {l : List Value} (h : Blk w g t (v0 :: v1 :: v2 :: v3 :: v4 :: v5 :: v6 :: v7 :: v8 :: v9 :: l).toArray) : w.cell? ⟨g, 9, none⟩ = some v9 := h.cell 9
theorem Blk.frozen (h : Blk w g t cs) (i : Nat) : w.frozen? ⟨g, i, none⟩ = false := by unfold Blk at h; simp [World.frozen?, h]
theorem Blk.new (w : World) (t : TypeId) (cs : Array Value) : Blk (w.alloc (.cells cs t)) w.heap.size t cs := heap_alloc_new w _
theorem Blk.keep (h : Blk w g t cs) (e : w'.heap[g]? = w.heap[g]?) : Blk w' g t cs := e.trans h
theorem Blk.alloc (h : Blk w g t cs) (o : Obj) : Blk (w.alloc o) g t cs := h.keep (Below.heap_alloc w o g h.lt)
theorem Blk.set (h : Blk w g t cs) (i : Nat) (u : Value) : Blk (w.setCell ⟨g, i, none⟩ u) g t (cs.setIfInBounds i u) := by
 unfold Blk at h ⊢
 simp [World.setCell, Array.getElem?_modify, h]
theorem Blk.far (h : Blk w g t cs) {p : Addr} (hp : g ≠ p.block) (u : Value) : Blk (w.setCell p u) g t cs := h.keep (Below.heap_setCell w p u g hp)
theorem Blk.below {B : Nat} (h : Blk w g t cs) (hb : Below B w w') (hg : g < B) : Blk w' g t cs := h.keep (hb.block g hg)
theorem Blk.grown {row : Option Nat} (h : Blk w g t cs) (hb : w.grownBy w' row) (hg : some g ≠ row) : Blk w' g t cs := h.keep (hb.block g h.lt hg)
end
theorem grown_refl (w : World) (row : Option Nat) : w.grownBy w row := ⟨rfl, rfl, rfl, Nat.le_refl _, fun _ _ _ => rfl⟩
theorem grown_trans {a b c : World} {row : Option Nat} (h : a.grownBy b row) (k : b.grownBy c row) : a.grownBy c row :=
 ⟨k.os.trans h.os, k.tape.trans h.tape, k.output.trans h.output, Nat.le_trans h.size k.size, fun i hi hne => (k.block i (Nat.lt_of_lt_of_le hi h.size) hne).trans (h.block i hi hne)⟩
theorem grown_new {a b c : World} {row row' : Option Nat} (h : a.grownBy b row) (k : b.grownBy c row') (hr : ∀ g, row' = some g → a.heap.size ≤ g) : a.grownBy c row :=
 ⟨k.os.trans h.os, k.tape.trans h.tape, k.output.trans h.output, Nat.le_trans h.size k.size, fun i hi hne => (k.block i (Nat.lt_of_lt_of_le hi h.size) (fun e => by have := hr _ e.symm; omega)).trans (h.block i hi hne)⟩
theorem grown_set {a b : World} {row : Option Nat} (h : a.grownBy b row) {p : Addr} (hp : a.heap.size ≤ p.block) (u : Value) : a.grownBy (b.setCell p u) row :=
 ⟨h.os, h.tape, h.output, by simpa [World.setCell] using h.size, fun i hi hne => (Below.heap_setCell b p u i (by omega)).trans (h.block i hi hne)⟩
theorem below_drewN {B : Nat} {a b : World} (h : Below B a b) (n : Nat) : Below B a (b.drewN n) := ⟨h.os, h.tape, h.output, h.size, h.block⟩
theorem grown_of_below {a b : World} (h : Below a.heap.size a b) (row : Option Nat) : a.grownBy b row := ⟨h.os, h.tape, h.output, h.size, fun i hi _ => h.block i hi⟩
theorem below_of_grown {a b : World} {g B : Nat} (h : a.grownBy b (some g)) (hB : B ≤ g) (hs : B ≤ a.heap.size) : Below B a b :=
 ⟨h.os, h.tape, h.output, h.size, fun i hi => h.block i (by omega) (fun e => by injection e; omega)⟩
def bytesV (l : List UInt8) : List Value := l.flatMap fun x => [Value.int .u8 x.toNat]
def intsV (l : List Int) : List Value := l.flatMap fun x => [Value.int .i64 x]
theorem ret_int {k : IntKind} {a b : Int} (h : a = b) : Ending.returned (.int k a) = .returned (.int k b) := by rw [h]
theorem ret_bool {a b : Bool} (h : a = b) : Ending.returned (.bool a) = .returned (.bool b) := by rw [h]
theorem take_snoc {α : Type} {l : List α} {k : Nat} {x : α} (h : l[k]? = some x) : l.take (k + 1) = l.take k ++ [x] := by
 rw [List.take_add_one, h]; rfl
end Go.Proofs.YtfaknfmndafllaaGreatDoor
namespace Go.Proofs.YtfaknfmndafllaaGreatDoor
open Go.RowKit
theorem el_int : ElemI Tryz.prog 22 3 1 8 := ElemI.mk' (z := .int .i64 0) Tryz.underlying22 (by kernel_rfl) rfl (by decide)
theorem flat1_map {α : Type} (f : α → Value) (l : List α) : (l.flatMap fun x => [f x]) = l.map f := by
 induction l with
 | nil => rfl
 | cons x l ih => rw [List.flatMap_cons, ih]; rfl
theorem intsV_map (l : List Int) : intsV l = l.map (Value.int .i64) := flat1_map _ _
theorem intsV_append (a b : List Int) : intsV (a ++ b) = intsV a ++ intsV b := List.flatMap_append
theorem intsV_set (l : List Int) (i : Nat) (x : Int) : (intsV l).set i (.int .i64 x) = intsV (l.set i x) := by rw [intsV_map, intsV_map, List.map_set]
theorem intsV_replicate (n : Nat) (x : Int) : List.replicate n (Value.int .i64 x) = intsV (List.replicate n x) := by rw [intsV_map, List.map_replicate]
theorem intsV_len (l : List Int) : (intsV l).length = l.length := by rw [intsV_map, List.length_map]
def IntsO (w : World) (base : Nat) (A : Option Addr) (n c : Nat) (l : List Int) : Prop := w.ownsRow base 3 1 (.slice A n c) n (intsV l)
section
variable {w w' : World} {base n c i : Nat} {A : Option Addr} {l : List Int}
theorem IntsO.len (h : IntsO w base A n c l) : l.length = n := by have := h.1; rw [intsV_len] at this; omega
theorem IntsO.sl (h : IntsO w base A n c l) : Sl w w.heap.size 1 A n c (intsV l) := Sl.of_own h
theorem own_some {e : TypeId} {xs : List Value} (h : w.ownsRow base e 1 (.slice A n c) n xs) (hi : 0 < n) : ∃ g, A = some ⟨g, 0, none⟩ ∧ base ≤ g ∧ g < w.heap.size := by
 have hl := h.lt
 rcases h.2 with ⟨hv, hn⟩ | ⟨g, cap, cur, hv, hb, _⟩
 ·omega
 ·injection hv with h1
  subst h1
  exact ⟨g, rfl, hb, (hl g rfl).2⟩
theorem IntsO.at (h : IntsO w base A n c l) (hi : i < n) : ∃ g x, A = some ⟨g, 0, none⟩ ∧ base ≤ g ∧ g < w.heap.size ∧ l[i]? = some x ∧ w.cell? ⟨g, i, none⟩ = some (.int .i64 x) ∧ w.frozen? ⟨g, i, none⟩ = false ∧ ∀ y, IntsO (w.setCell ⟨g, i, none⟩ (.int .i64 y)) base A n c (l.set i y) := by
 obtain ⟨g, rfl, h1, h2⟩ := own_some h (by omega)
 have hl := h.len
 refine ⟨g, l[i]'(by omega), rfl, h1, h2, List.getElem?_eq_getElem _, ?_, h.frozenAt i, fun y => ?_⟩
 ·rw [h.cellAt i (by omega), intsV_map, List.getElem?_map, List.getElem?_eq_getElem (by omega)]; rfl
 ·have := (h.stored i (.int .i64 y)).1
  rwa [intsV_set] at this
theorem own_later {e : TypeId} {size : Nat} {v : Value} {xs : List Value} (h : w.ownsRow base e size v n xs) (hb : Below w.heap.size w w') : w'.ownsRow base e size v n xs := h.kept (grown_of_below hb none) (Classical.em _)
theorem IntsO.later (h : IntsO w base A n c l) (hb : Below w.heap.size w w') : IntsO w' base A n c l := own_later h hb
theorem grown_cell (w : World) (p : Addr) (u : Value) : w.grownBy (w.setCell p u) (some p.block) := ⟨rfl, rfl, rfl, by simp [World.setCell], fun i _ hi => Below.heap_setCell w _ _ i (fun e => hi (by rw [e]))⟩
end
theorem run_mk_int (n : Nat) (hn : n ≤ 1000000) (w : World) : (Instr.makeSlice 22 (.int .i64 (n : Int)) (.int .i64 (n : Int))).run Tryz.prog w = .ok (.slice (some ⟨w.heap.size, 0, none⟩) n n) (w.alloc (.cells (intsV (List.replicate n 0)).toArray 3)) := by
 rw [run_make_row' 22 3 (.int .i64 0) 8 Tryz.underlying22 (by kernel_rfl) rfl .i64 .i64 n (by omega) (by omega) w]
 congr 3
 apply Array.ext'
 rw [toList_madeCells_one, intsV_replicate]
theorem own_new {w : World} {base n : Nat} {e : TypeId} {xs : List Value} (hb : base ≤ w.heap.size) (hn : n ≤ 9223372036854775807) (hl : xs.length = n) : (w.alloc (.cells xs.toArray e)).ownsRow base e 1 (.slice (some ⟨w.heap.size, 0, none⟩) n n) n xs :=
 ⟨by omega, .inr ⟨w.heap.size, n, xs.toArray, rfl, hb, heap_alloc_new w _, Nat.le_refl _, by simpa [maxLen] using hn, by simp [hl], by simp [← hl]⟩⟩
theorem ints_new {w : World} {base n : Nat} (hb : base ≤ w.heap.size) (hn : n ≤ 1000000) : IntsO (w.alloc (.cells (intsV (List.replicate n 0)).toArray 3)) base (some ⟨w.heap.size, 0, none⟩) n n (List.replicate n 0) := own_new hb (by omega) (by rw [intsV_len, List.length_replicate])
theorem ints_one (l : List Int) : ∀ u ∈ intsV l, u.oneCell' = true := by
 intro u hu
 rw [intsV_map, List.mem_map] at hu
 obtain ⟨x, _, rfl⟩ := hu
 rfl
def cutA (A : Option Addr) (c k : Nat) : Option Addr := if c = k then A else A.map (·.add k)
theorem run_from_int (w : World) (A : Option Addr) (n c k : Nat) (hk : k ≤ n) : (Instr.sliceAt 22 (.slice A n c) (some (.int .i64 (k : Int))) none none).run Tryz.prog w = .ok (.slice (cutA A c k) (n - k) (c - k)) w := by
 rw [run_sliceAt_slice _ _ _ _ _ _ (by kernel_rfl), run_slice_l _ _ _ _ _ (by kernel_rfl) _ _ (by omega) (by omega)]
 have : (sizeOf (Tryz.prog.elem 22)).run Tryz.prog w = .ok 1 w := by kernel_rfl
 rw [this]
 simp [sliced, cutA, Result.andThen]
def Que (w : World) (base : Nat) (e : TypeId) (A : Option Addr) (n c : Nat) (xs : List Value) : Prop :=
 xs.length = n ∧ n ≤ c ∧ c ≤ 9223372036854775807 ∧ (∀ a, A = some a → base ≤ a.block ∧ a.block < w.heap.size) ∧
 (0 < c → ∃ g off cur, A = some ⟨g, off, none⟩ ∧ w.heap[g]? = some (.cells cur e (0, 0)) ∧ off + c ≤ cur.size ∧ ∀ j u, xs[j]? = some u → cur[off + j]? = some u)
section
variable {w w' : World} {base n c k : Nat} {A : Option Addr} {xs : List Value} {e : TypeId}
theorem Que.le (h : Que w base e A n c xs) : n ≤ c ∧ c ≤ 9223372036854775807 := ⟨h.2.1, h.2.2.1⟩
theorem Que.lt (h : Que w base e A n c xs) : ∀ g, (Value.slice A n c).ownBlock = some g → base ≤ g ∧ g < w.heap.size := by
 intro g hg
 cases A with
 | none => cases hg
 | some a => have := h.2.2.2.1 a rfl; simp [Value.ownBlock] at hg; subst hg; exact this
theorem Que.of_own (h : w.ownsRow base e 1 (.slice A n c) n xs) : Que w base e A n c xs := by
 have hl := h.lt
 have hx := h.1
 rcases h.2 with ⟨hv, hn⟩ | ⟨g, cap, cur, hv, hb, hh, hnc, hm, hs, ht⟩
 ·injection hv with h1 h2 h3
  subst h1 h3 hn
  exact ⟨by omega, Nat.le_refl _, by omega, (fun a e => by cases e), fun h => absurd h (by omega)⟩
 ·injection hv with h1 h2 h3
  subst h1 h3
  refine ⟨by omega, hnc, by simpa [maxLen] using hm, fun a e => ?_, fun _ => ⟨g, 0, cur, rfl, hh, by omega, fun j u hu => ?_⟩⟩
  ·injection e with e; subst e; exact hl g rfl
  ·rw [Nat.zero_add]
   have hj : j < n := by have := (List.getElem?_eq_some_iff.1 hu).1; omega
   rw [← ht, List.getElem?_take, if_pos (by omega)] at hu
   simpa using hu
theorem Que.kept (h : Que w base e A n c xs) {row : Option Nat} (hg : w.grownBy w' row) (hne : (Value.slice A n c).ownBlock = none ∨ (Value.slice A n c).ownBlock ≠ row) : Que w' base e A n c xs := by
 obtain ⟨h1, h2, h3, h4, h5⟩ := h
 refine ⟨h1, h2, h3, fun a ha => ⟨(h4 a ha).1, Nat.lt_of_lt_of_le (h4 a ha).2 hg.size⟩, fun hc => ?_⟩
 obtain ⟨g, off, cur, rfl, hh, ho, hx⟩ := h5 hc
 refine ⟨g, off, cur, rfl, (hg.block g (h4 _ rfl).2 (fun e => ?_)).trans hh, ho, hx⟩
 rcases hne with h | h
 ·simp [Value.ownBlock] at h
 ·exact h e
theorem Que.later (h : Que w base e A n c xs) (hb : Below w.heap.size w w') : Que w' base e A n c xs := h.kept (grown_of_below hb none) (Classical.em _)
theorem Que.alloc (h : Que w base e A n c xs) (o : Obj) : Que (w.alloc o) base e A n c xs := h.later ((Below.refl _ _).alloc (Nat.le_refl _) _)
theorem Que.at (h : Que w base e A n c xs) (hk : k < n) : ∃ g off u, A = some ⟨g, off, none⟩ ∧ xs[k]? = some u ∧ w.cell? ⟨g, off + k, none⟩ = some u := by
 obtain ⟨h1, h2, h3, h4, h5⟩ := h
 obtain ⟨g, off, cur, rfl, hh, ho, hx⟩ := h5 (by omega)
 have e1 : xs[k]? = some (xs[k]'(by omega)) := List.getElem?_eq_getElem (by omega)
 exact ⟨g, off, _, rfl, e1, (cell_of_row w g _ cur e (0, 0) hh).trans (hx k _ e1)⟩
theorem cutA_own (A : Option Addr) (n c n' c' k : Nat) : (Value.slice (cutA A c k) n' c').ownBlock = (Value.slice A n c).ownBlock := by
 unfold cutA
 cases A with
 | none => split <;> rfl
 | some a =>
  split
  ·rfl
  ·simp [Value.ownBlock, Addr.add]; split <;> rfl
theorem Que.cut (h : Que w base e A n c xs) (hk : k ≤ n) : Que w base e (cutA A c k) (n - k) (c - k) (xs.drop k) := by
 obtain ⟨h1, h2, h3, h4, h5⟩ := h
 refine ⟨by simp; omega, by omega, by omega, fun a ha => ?_, fun hc => ?_⟩
 ·cases A with
  | none => unfold cutA at ha; split at ha <;> cases ha
  | some b =>
   have := h4 b rfl
   have hb : a.block = b.block := by
    have := cutA_own (some b) n c n c k
    rw [ha] at this
    simpa [Value.ownBlock] using this
   rw [hb]; exact this
 ·obtain ⟨g, off, cur, rfl, hh, ho, hx⟩ := h5 (by omega)
  refine ⟨g, off + k, cur, by unfold cutA; rw [if_neg (by omega), Option.map_some, add_plain], hh, by omega, fun j u hu => ?_⟩
  rw [List.getElem?_drop] at hu
  have := hx (k + j) u hu
  rwa [show off + k + j = off + (k + j) by omega]
end
end Go.Proofs.YtfaknfmndafllaaGreatDoor
namespace Go.Proofs.YtfaknfmndafllaaGreatDoor
open Go.RowKit
def RowsAt (w : World) (B : Nat) (A : Option Addr) (n c : Nat) (ls : List (List Int)) : Prop :=
 ∃ vs : List Value, Sl w B 1 A n c vs ∧ ls.length = n ∧ ∀ (i : Nat) (l : List Int), ls[i]? = some l → ∃ (A' : Option Addr) (c' : Nat), vs[i]? = some (Value.slice A' l.length c') ∧ Sl w B 1 A' l.length c' (intsV l)
section
variable {w w' : World} {B B' n c i : Nat} {A : Option Addr} {ls : List (List Int)}
theorem RowsAt.len (h : RowsAt w B A n c ls) : ls.length = n := by obtain ⟨vs, _, hl, _⟩ := h; exact hl
theorem RowsAt.le (h : RowsAt w B A n c ls) : n ≤ c ∧ c ≤ 9223372036854775807 := by obtain ⟨vs, h1, _⟩ := h; exact h1.le
theorem RowsAt.below (h : RowsAt w B A n c ls) (hb : Below B' w w') (hB : B ≤ B') : RowsAt w' B A n c ls := by
 obtain ⟨vs, h1, h2, h3⟩ := h
 refine ⟨vs, h1.below hb hB, h2, fun i l hl => ?_⟩
 obtain ⟨A', c', h4, h5⟩ := h3 i l hl
 exact ⟨A', c', h4, h5.below hb hB⟩
theorem RowsAt.more (h : RowsAt w B A n c ls) (hB : B ≤ B') : RowsAt w B' A n c ls := by
 obtain ⟨vs, h1, h2, h3⟩ := h
 refine ⟨vs, h1.more hB, h2, fun i l hl => ?_⟩
 obtain ⟨A', c', h4, h5⟩ := h3 i l hl
 exact ⟨A', c', h4, h5.more hB⟩
theorem RowsAt.at (h : RowsAt w B A n c ls) (hi : i < n) : ∃ b off l A' c', A = some ⟨b, off, none⟩ ∧ b < B ∧ ls[i]? = some l ∧ w.cell? ⟨b, off + i, none⟩ = some (Value.slice A' l.length c') ∧ Sl w B 1 A' l.length c' (intsV l) := by
 obtain ⟨vs, h1, h2, h3⟩ := h
 obtain ⟨b, off, e, hb, hc⟩ := h1.2.2.2.2 (by omega)
 have hl : ls[i]? = some (ls[i]'(by omega)) := List.getElem?_eq_getElem (by omega)
 obtain ⟨A', c', h4, h5⟩ := h3 i _ hl
 exact ⟨b, off, _, A', c', e, hb, hl, hc i _ h4, h5⟩
end
def RowsO (w : World) (base : Nat) (A : Option Addr) (n c : Nat) (ls : List (List Int)) (vs : List Value) : Prop :=
 w.ownsRow base 22 1 (.slice A n c) n vs ∧ ls.length = n ∧ ∀ (i : Nat) (l : List Int), ls[i]? = some l → ∃ (A' : Option Addr) (c' : Nat), vs[i]? = some (Value.slice A' l.length c') ∧ Sl w w.heap.size 1 A' l.length c' (intsV l) ∧ ∀ b off, A' = some ⟨b, off, none⟩ → b < w.heap.size ∧ some b ≠ (Value.slice A n c).ownBlock
section
variable {w w' : World} {base n c i : Nat} {A : Option Addr} {ls : List (List Int)} {vs : List Value}
theorem RowsO.nil (w : World) (base : Nat) : RowsO w base none 0 0 [] [] := ⟨World.ownsRow_nil _ _ _ _, rfl, fun i l h => by simp at h⟩
theorem RowsO.read (h : RowsO w base A n c ls vs) : RowsAt w w.heap.size A n c ls := by
 obtain ⟨h1, h2, h3⟩ := h
 refine ⟨vs, Sl.of_own h1, h2, fun i l hl => ?_⟩
 obtain ⟨A', c', h4, h5, _⟩ := h3 i l hl
 exact ⟨A', c', h4, h5⟩
theorem RowsO.kept (h : RowsO w base A n c ls vs) {B : Nat} (hb : Below B w w') (hB : w.heap.size ≤ B) : RowsO w' base A n c ls vs := by
 obtain ⟨h1, h2, h3⟩ := h
 have hb' : Below w.heap.size w w' := hb.mono hB
 refine ⟨own_later h1 hb', h2, fun i l hl => ?_⟩
 obtain ⟨A', c', h4, h5, h6⟩ := h3 i l hl
 exact ⟨A', c', h4, (h5.below hb' (Nat.le_refl _)).more hb'.size, fun b off e => ⟨Nat.lt_of_lt_of_le (h6 b off e).1 hb'.size, (h6 b off e).2⟩⟩
theorem RowsO.lt (h : RowsO w base A n c ls vs) : ∀ g, (Value.slice A n c).ownBlock = some g → base ≤ g ∧ g < w.heap.size := h.1.lt
end
end Go.Proofs.YtfaknfmndafllaaGreatDoor
namespace Go.Proofs.YtfaknfmndafllaaGreatDoor
open Go.RowKit Go.Conc
section
variable {P : Program} {ops : Array Oper} {Q : Exit → Act → World → Prop} {a : Act} {w w1 w' : World} {i : Nat} {rest l : List Nat} {o : Oper}
def Rw (P : Program) (ops : Array Oper) (Q : Exit → Act → World → Prop) (l : List Nat) (a : Act) (w : World) : Prop :=
 ∀ (b : Frame) (k : List Item) (cs : List Frame), ∃ e a' w', Q e a' w' ∧ Arrives P (lone (b.at a (.inRegion ops l :: k)) cs w) b k cs e a' w'
theorem Rw.done (h : Q .normal a w) : Rw P ops Q [] a w := wp_ops [] a w h
theorem Rw.region {id : Nat} {ops : List Oper} (h : Rw P ops.toArray Q (List.range ops.toArray.size) a w) : (Code.region id ops.toArray false).wp P Q a w :=
 fun b k cs => let ⟨e, a', w', q, r⟩ := h b k cs; ⟨e, a', w', q, .of_steps (.one step_region) r⟩
theorem Rw.val {v : Value} (ho : ops[i]? = some o) (hg : o.guard = none) (hr : (execOp a.eval o).run P w = .ok (.value v) w') (h : Rw P ops Q rest (a.put o.dst v) w') : Rw P ops Q (i :: rest) a w := by
 intro b k cs
 obtain ⟨e, a', w'', hq, harr⟩ := h b k cs
 refine ⟨e, a', w'', hq, .of_steps (.one (step_lone_go ?_)) harr⟩
 have hgs := stepG_op (P := P) (a := a) (b := b) (k := k) (cs := cs) (w := w) (rest := rest) ho (by simp [Region.wanted, hg])
 have hfin : (b.at a (.inRegion ops (i :: rest) :: k)).finish v = b.at (a.put o.dst v) (.inRegion ops rest :: k) := by rw [Frame.finish_at, ho]; rfl
 rw [hgs, ← hfin]; simp [stepG.apply, hr]
theorem stepG_comm_any {b : Frame} {k : List Item} {cs : List Frame} {cases : Array CommCase} {blocking : Bool} {shape : CommShape} (ho : ops[i]? = some o) (hg : o.guard = none) (hr : (execOp a.eval o).run P w = .ok (.comm cases blocking shape) w1) :
 ∃ es, stepG P true (G (b.at a (.inRegion ops (i :: rest) :: k)) cs) w = .comm (G (b.at a (.inRegion ops (i :: rest) :: k)) cs) cases blocking shape w1 es := by
 have hgs := stepG_op (P := P) (a := a) (b := b) (k := k) (cs := cs) (w := w) (rest := rest) ho (by simp [Region.wanted, hg])
 unfold G
 rw [hgs]
 simp only [stepG.apply, Sem.runT_eq, hr, if_true]
 exact ⟨_, rfl⟩
theorem Rw.send {c cap s r : Nat} {buf : Array Value} {v z' : Value} {tm : Bool} (ho : ops[i]? = some o) (hg : o.guard = none) (hr : (execOp a.eval o).run P w = .ok (.comm #[scase c v z'] true .send) w1) (hc : w1.heap[c]? = some (.chan cap buf false s r tm)) (hroom : buf.size < cap)
 (h : Rw P ops Q rest (a.put o.dst undef) (w1.setChan c cap (buf.push v) false (s + 1) r tm)) : Rw P ops Q (i :: rest) a w := by
 intro b k cs
 obtain ⟨e, a', w'', hq, harr⟩ := h b k cs
 refine ⟨e, a', w'', hq, .of_steps (.one ?_) harr⟩
 obtain ⟨es, hs⟩ := stepG_comm_any (P := P) (a := a) (b := b) (k := k) (cs := cs) (rest := rest) ho hg hr
 have hfin : (b.at a (.inRegion ops (i :: rest) :: k)).finish undef = b.at (a.put o.dst undef) (.inRegion ops rest :: k) := by rw [Frame.finish_at, ho]; rfl
 rw [← hfin]
 exact step_lone_send_room hs hc hroom
theorem Rw.recv {c cap s r : Nat} {buf buf' : Array Value} {z v : Value} {tm closed : Bool} (ho : ops[i]? = some o) (hg : o.guard = none) (hr : (execOp a.eval o).run P w = .ok (.comm #[rcase c z] true (.recv false)) w1) (hc : w1.heap[c]? = some (.chan cap buf closed s r tm)) (hsome : 0 < buf.size) (hv : buf.getD 0 undef = v) (hb : buf.extract 1 buf.size = buf')
 (h : Rw P ops Q rest (a.put o.dst v) (w1.setChan c cap buf' closed s (r + 1) tm)) : Rw P ops Q (i :: rest) a w := by
 subst hv hb
 intro b k cs
 obtain ⟨e, a', w'', hq, harr⟩ := h b k cs
 refine ⟨e, a', w'', hq, .of_steps (.one ?_) harr⟩
 obtain ⟨es, hs⟩ := stepG_comm_any (P := P) (a := a) (b := b) (k := k) (cs := cs) (rest := rest) ho hg hr
 have hfin : (b.at a (.inRegion ops (i :: rest) :: k)).finish (buf.getD 0 undef) = b.at (a.put o.dst (buf.getD 0 undef)) (.inRegion ops rest :: k) := by rw [Frame.finish_at, ho]; rfl
 rw [← hfin]
 exact step_lone_recv_buf false hs hc hsome
end
def ChanI (w : World) (c cap : Nat) (l : List Int) : Prop := ∃ s r, w.heap[c]? = some (.chan cap (intsV l).toArray false s r false)
section
variable {w w' : World} {c cap : Nat} {l : List Int}
theorem ChanI.lt (h : ChanI w c cap l) : c < w.heap.size := by obtain ⟨s, r, h⟩ := h; exact (Array.getElem?_eq_some_iff.1 h).1
theorem ChanI.keep (h : ChanI w c cap l) (e : w'.heap[c]? = w.heap[c]?) : ChanI w' c cap l := by obtain ⟨s, r, h⟩ := h; exact ⟨s, r, e.trans h⟩
theorem ChanI.below {B : Nat} (h : ChanI w c cap l) (hb : Below B w w') (hc : c < B) : ChanI w' c cap l := h.keep (hb.block c hc)
theorem ChanI.far (h : ChanI w c cap l) {p : Addr} (hp : c ≠ p.block) (u : Value) : ChanI (w.setCell p u) c cap l := h.keep (Below.heap_setCell w p u c hp)
theorem ChanI.grown {row : Option Nat} (h : ChanI w c cap l) (hb : w.grownBy w' row) (hg : some c ≠ row) : ChanI w' c cap l := h.keep (hb.block c h.lt hg)
theorem ChanI.new (w : World) (cap : Nat) : ChanI (w.alloc (.chan cap #[] false 0 0 false)) w.heap.size cap [] := ⟨0, 0, heap_alloc_new w _⟩
theorem run_len_ch {P : Program} {dir : ChanDir} {e t : TypeId} (ty : TypeId) (ht : P.underlying t = some (.chan dir e)) (h : ChanI w c cap l) : (Builtin.len_ #[t] ty #[.chan (some c)]).run P w = .ok (.int .i64 l.length) w := by
 obtain ⟨s, r, h⟩ := h
 have hl : (intsV l).length = l.length := by simp [intsV, flat1_map]
 simp [Builtin.len_, run_underlying ht, run_getObj_chan _ _ h, hl, goInt]
theorem chan_far (w : World) (c cap : Nat) (buf : Array Value) (cl : Bool) (s r : Nat) (tm : Bool) {g : Nat} (hg : c ≠ g) : (w.setChan c cap buf cl s r tm).heap[g]? = w.heap[g]? := by
 simp only [World.setChan]; rw [Array.getElem?_setIfInBounds_ne hg]
end
end Go.Proofs.YtfaknfmndafllaaGreatDoor
namespace Go.Proofs.YtfaknfmndafllaaGreatDoor
section
variable {α β : Type}
def wk (st : α → Nat → Option α) : α → List Nat → Option α
 | a, [] => some a
 | a, i :: p => (st a i).bind fun b => wk st b p
theorem wk_app (st : α → Nat → Option α) : ∀ (p q : List Nat) (a : α), wk st a (p ++ q) = (wk st a p).bind fun b => wk st b q
 | [], q, a => rfl
 | i :: p, q, a => by
  simp only [List.cons_append, wk]
  cases st a i with
  | none => rfl
  | some b => exact wk_app st p q b
theorem wk_map {st : α → Nat → Option α} {su : β → Nat → Option β} {φ : α → β} {I : α → Prop} (h : ∀ a i, I a → su (φ a) i = (st a i).map φ) (hI : ∀ a i b, I a → st a i = some b → I b) : ∀ (p : List Nat) (a : α), I a → wk su (φ a) p = (wk st a p).map φ ∧ ∀ b, wk st a p = some b → I b
 | [], a, ha => ⟨rfl, fun b e => by injection e with e; exact e ▸ ha⟩
 | i :: p, a, ha => by
  simp only [wk]
  rw [h a i ha]
  cases e : st a i with
  | none => exact ⟨rfl, fun b e => by cases e⟩
  | some b => exact wk_map h hI p b (hI a i b ha e)
def lexLe : List Nat → List Nat → Prop
 | x :: p, y :: q => x < y ∨ x = y ∧ lexLe p q
 | _, _ => True
theorem lexLe_antisymm : ∀ {p q : List Nat}, p.length = q.length → lexLe p q → lexLe q p → p = q
 | [], [], _, _, _ => rfl
 | [], y :: q, hl, _, _ => by simp at hl
 | x :: p, [], hl, _, _ => by simp at hl
 | x :: p, y :: q, hl, h1, h2 => by
  simp only [lexLe] at h1 h2
  have hl' : p.length = q.length := by simpa using hl
  rcases h1 with h1 | ⟨rfl, h1⟩
  ·rcases h2 with h2 | ⟨e, _⟩ <;> omega
  ·rcases h2 with h2 | ⟨_, h2⟩
   ·omega
   ·rw [lexLe_antisymm hl' h1 h2]
theorem lexLe_split : ∀ {p q : List Nat}, lexLe p q → p.length ≤ q.length → (∀ r, lexLe (p ++ r) q) ∨ ∃ q', q = p ++ q'
 | [], q, _, _ => .inr ⟨q, rfl⟩
 | x :: p, [], _, hl => by simp at hl
 | x :: p, y :: q, h, hl => by
  simp only [lexLe] at h
  rcases h with h | ⟨rfl, h⟩
  ·exact .inl fun r => .inl h
  ·rcases lexLe_split h (by simpa using hl) with h1 | ⟨q', rfl⟩
   ·exact .inl fun r => .inr ⟨rfl, h1 r⟩
   ·exact .inr ⟨q', rfl⟩
theorem lexLe_app : ∀ (p : List Nat) {r q : List Nat}, lexLe r q → lexLe (p ++ r) (p ++ q)
 | [], _, _, h => h
 | _ :: p, _, _, h => .inr ⟨rfl, lexLe_app p h⟩
def NoneIs (st : α → Nat → Option α) (a0 : α) (goal : α → Option Int) : Prop := ∀ q b, wk st a0 q = some b → goal b = none
def SomeIs (st : α → Nat → Option α) (a0 : α) (goal : α → Option Int) (p : List Nat) : Prop :=
 ∃ b c, wk st a0 p = some b ∧ goal b = some c ∧ ∀ q b' c', wk st a0 q = some b' → goal b' = some c' → p.length ≤ q.length ∧ (q.length = p.length → c ≤ c' ∧ (c' = c → lexLe p q))
def FindIs (st : α → Nat → Option α) (a0 : α) (goal : α → Option Int) : Option (List Nat) → Prop
 | none => NoneIs st a0 goal
 | some p => SomeIs st a0 goal p
theorem FindIs.unique {st : α → Nat → Option α} {a0 : α} {goal : α → Option Int} : ∀ {r r' : Option (List Nat)}, FindIs st a0 goal r → FindIs st a0 goal r' → r = r'
 | none, none, _, _ => rfl
 | none, some p, h, ⟨b, c, h1, h2, _⟩ => by have := h _ _ h1; rw [h2] at this; cases this
 | some p, none, ⟨b, c, h1, h2, _⟩, h => by have := h _ _ h1; rw [h2] at this; cases this
 | some p, some q, ⟨b, c, h1, h2, h3⟩, ⟨b', c', k1, k2, k3⟩ => by
  have a := h3 _ _ _ k1 k2
  have d := k3 _ _ _ h1 h2
  have hl : p.length = q.length := Nat.le_antisymm a.1 d.1
  have a2 := a.2 hl.symm; have d2 := d.2 hl
  have hc : c = c' := Int.le_antisymm a2.1 d2.1
  rw [lexLe_antisymm hl (a2.2 hc.symm) (d2.2 hc)]
theorem FindIs.map {st : α → Nat → Option α} {su : β → Nat → Option β} {φ : α → β} {I : α → Prop} (h : ∀ a i, I a → su (φ a) i = (st a i).map φ) (hI : ∀ a i b, I a → st a i = some b → I b) {a0 : α} (h0 : I a0) {goal : β → Option Int} {r : Option (List Nat)} (hf : FindIs st a0 (fun a => goal (φ a)) r) : FindIs su (φ a0) goal r := by
 have key : ∀ q b', wk su (φ a0) q = some b' → ∃ b, wk st a0 q = some b ∧ φ b = b' := fun q b' e => by
  rw [(wk_map h hI q a0 h0).1] at e
  exact Option.map_eq_some_iff.1 e
 cases r with
 | none =>
  intro q b' e
  obtain ⟨b, e1, rfl⟩ := key q b' e
  exact hf q b e1
 | some p =>
  obtain ⟨b, c, h1, h2, h3⟩ := hf
  refine ⟨φ b, c, by rw [(wk_map h hI p a0 h0).1, h1]; rfl, h2, fun q b' c' e k => ?_⟩
  obtain ⟨b1, e1, rfl⟩ := key q b' e
  exact h3 q b1 c' e1 k
def Rb (st : α → Nat → Option α) (a0 : α) (j : Nat) (b : α) : Prop := ∃ p : List Nat, p.length = j ∧ wk st a0 p = some b
theorem Rb.step {st : α → Nat → Option α} {a0 : α} {j : Nat} {a b : α} {i : Nat} (h : Rb st a0 j a) (e : st a i = some b) : Rb st a0 (j + 1) b := by
 obtain ⟨p, h1, h2⟩ := h
 exact ⟨p ++ [i], by simp [h1], by rw [wk_app, h2]; simp [wk, e]⟩
theorem Rb.last {st : α → Nat → Option α} {a0 : α} {j : Nat} {b : α} (h : Rb st a0 (j + 1) b) : ∃ a i, Rb st a0 j a ∧ st a i = some b := by
 obtain ⟨p, h1, h2⟩ := h
 rcases List.eq_nil_or_concat p with rfl | ⟨q, i, rfl⟩
 ·simp at h1
 ·rw [List.concat_eq_append, wk_app] at h2
  obtain ⟨a, h3, h4⟩ := Option.bind_eq_some_iff.1 h2
  obtain ⟨b', h5, h6⟩ := Option.bind_eq_some_iff.1 (show (st a i).bind (fun b => wk st b []) = some b from h4)
  injection h6 with h6
  exact ⟨a, i, ⟨q, by simpa using h1, h3⟩, by rw [h5, h6]⟩
theorem Rb.zero {st : α → Nat → Option α} {a0 b : α} (h : Rb st a0 0 b) : b = a0 := by
 obtain ⟨p, h1, h2⟩ := h
 have : p = [] := List.eq_nil_of_length_eq_zero h1
 subst this; injection h2 with h2; exact h2.symm
end
def upd {β : Type} (D : Nat → β) (t : Nat) (v : β) : Nat → β := fun b => if b = t then v else D b
theorem upd_same {β : Type} (D : Nat → β) (t : Nat) (v : β) : upd D t v t = v := by simp [upd]
theorem upd_ne {β : Type} (D : Nat → β) {t b : Nat} (v : β) (h : b ≠ t) : upd D t v b = D b := by simp [upd, h]
def stE (ed : Nat → List Nat) (nb : Nat → Nat → Nat) (b i : Nat) : Option Nat := if i ∈ ed b then some (nb b i) else none
theorem stE_some {ed : Nat → List Nat} {nb : Nat → Nat → Nat} {b i b' : Nat} : stE ed nb b i = some b' ↔ i ∈ ed b ∧ nb b i = b' := by
 unfold stE
 by_cases h : i ∈ ed b <;> simp [h]
def push1 (nb : Nat → Nat → Nat) (a : Nat) (s : (Nat → Int) × List Nat) (i : Nat) : (Nat → Int) × List Nat := if s.1 (nb a i) < 0 then (upd s.1 (nb a i) (s.1 a + 1), s.2 ++ [nb a i]) else s
def pushL (nb : Nat → Nat → Nat) (a : Nat) (l : List Nat) (s : (Nat → Int) × List Nat) : (Nat → Int) × List Nat := l.foldl (push1 nb a) s
theorem pushL_take (nb : Nat → Nat → Nat) (a : Nat) (l : List Nat) (s : (Nat → Int) × List Nat) {j i : Nat} (h : l[j]? = some i) : pushL nb a (l.take (j + 1)) s = push1 nb a (pushL nb a (l.take j) s) i := by
 rw [List.take_add_one, h]
 simp [pushL, List.foldl_append]
structure Bf (st : Nat → Nat → Option Nat) (goal : Nat → Option Int) (N : Nat) (D : Nat → Int) (Q X : List Nat) (k : Nat) (E : Nat → Prop) : Prop where
 nd : (Q ++ X).Nodup
 lt : ∀ b ∈ Q ++ X, b < N
 mem : ∀ b, b ∈ Q ++ X ↔ 0 ≤ D b
 z : D 0 = 0
 snd : ∀ b (j : Nat), D b = j → Rb st 0 j b
 q : ∀ b ∈ Q, (k : Int) ≤ D b ∧ D b ≤ k + 1
 srt : Q.Pairwise fun a b => D a ≤ D b
 x : ∀ b ∈ X, D b ≤ k
 e : ∀ b ∈ X, E b → goal b = none ∧ ∀ i b', st b i = some b' → 0 ≤ D b' ∧ D b' ≤ D b + 1
 low : ∀ b, -1 ≤ D b
 len : ∀ b, D b ≤ X.length
 lenX : ∀ b ∈ X, D b + 1 ≤ X.length
section
variable {st : Nat → Nat → Option Nat} {goal : Nat → Option Int} {N : Nat} {D : Nat → Int} {Q X : List Nat} {k : Nat} {E E' : Nat → Prop} {a : Nat}
theorem nodup_le {l : List Nat} (h : l.Nodup) (hl : ∀ b ∈ l, b < N) : l.length ≤ N := by
 have := h.length_le_of_subset (l₂ := List.range N) fun b hb => List.mem_range.2 (hl b hb)
 simpa using this
theorem Bf.le (h : Bf st goal N D Q X k E) : Q.length + X.length ≤ N := by
 have := nodup_le h.nd h.lt
 simpa using this
theorem Bf.ltD (h : Bf st goal N D Q X k E) {b : Nat} (hb : 0 ≤ D b) : b < N := h.lt b ((h.mem b).2 hb)
theorem Bf.start (hN : 0 < N) : Bf st goal N (upd (fun _ => -1) 0 0) [0] [] 0 (fun _ => True) where
 nd := by simp
 lt := by simpa using hN
 mem b := by by_cases h : b = 0 <;> simp [upd, h]
 z := upd_same _ _ _
 snd b j e := by
  by_cases h : b = 0
  ·subst h; rw [upd_same] at e; exact ⟨[], by simp; omega, rfl⟩
  ·rw [upd_ne _ _ h] at e; omega
 q b hb := by simp at hb; subst hb; simp [upd]
 srt := by simp
 x := by simp
 e := by simp
 low b := by by_cases h : b = 0 <;> simp [upd, h]
 len b := by by_cases h : b = 0 <;> simp [upd, h]
 lenX := by simp
theorem Bf.pop (h : Bf st goal N D (a :: Q) X k E') (hE : ∀ b ∈ X, E b → E' b) (ha : ¬ E a) : Bf st goal N D Q (a :: X) (D a).toNat E := by
 have hq := h.q a (by simp)
 have hs := List.pairwise_cons.1 h.srt
 have hp : (Q ++ a :: X).Perm (a :: Q ++ X) := List.perm_middle
 have hm : ∀ b, b ∈ Q ++ a :: X ↔ b ∈ a :: Q ++ X := fun b => hp.mem_iff
 refine ⟨hp.nodup_iff.2 h.nd, fun b hb => h.lt b ((hm b).1 hb), fun b => (hm b).trans (h.mem b), h.z, h.snd, fun b hb => ?_, hs.2, fun b hb => ?_, fun b hb hEb => ?_, h.low, fun b => ?_, fun b hb => ?_⟩
 ·have := hs.1 b hb; have := h.q b (by simp [hb]); omega
 ·rcases List.mem_cons.1 hb with rfl | hb
  ·omega
  ·have := h.x b hb; omega
 ·rcases List.mem_cons.1 hb with rfl | hb
  ·exact absurd hEb ha
  ·exact h.e b hb (hE b hb hEb)
 ·have := h.len b; simp; omega
 ·rcases List.mem_cons.1 hb with rfl | hb
  ·have := h.len b; simp; omega
  ·have := h.lenX b hb; simp; omega
theorem Bf.push {i t : Nat} (h : Bf st goal N D Q X k E) (haX : a ∈ X) (hak : D a = k) (e : st a i = some t) (ht : t < N) (hD : D t < 0) : Bf st goal N (upd D t (D a + 1)) (Q ++ [t]) X k E := by
 have htn : t ∉ Q ++ X := fun hm => by have := (h.mem t).1 hm; omega
 have hne : ∀ b ∈ Q ++ X, b ≠ t := fun b hb e => htn (e ▸ hb)
 have hQ : ∀ b ∈ Q, upd D t (D a + 1) b = D b := fun b hb => upd_ne _ _ (hne b (by simp [hb]))
 have hX : ∀ b ∈ X, upd D t (D a + 1) b = D b := fun b hb => upd_ne _ _ (hne b (by simp [hb]))
 have hp : (Q ++ [t] ++ X).Perm (t :: (Q ++ X)) := by rw [List.append_assoc]; exact List.perm_middle
 have hlx := h.lenX a haX
 refine ⟨hp.nodup_iff.2 (List.nodup_cons.2 ⟨htn, h.nd⟩), fun b hb => ?_, fun b => ?_, ?_, fun b j eb => ?_, fun b hb => ?_, ?_, fun b hb => ?_, fun b hb hEb => ?_, fun b => ?_, fun b => ?_, fun b hb => ?_⟩
 ·rcases List.mem_cons.1 (hp.mem_iff.1 hb) with rfl | hb
  ·exact ht
  ·exact h.lt b hb
 ·rw [hp.mem_iff, List.mem_cons]
  by_cases hb : b = t
  ·subst hb; rw [upd_same]; exact ⟨fun _ => by omega, fun _ => .inl rfl⟩
  ·rw [upd_ne _ _ hb, ← h.mem b]; exact ⟨fun k => k.resolve_left hb, .inr⟩
 ·rw [upd_ne _ _ (fun e => by subst e; have := h.z; omega)]; exact h.z
 ·by_cases hb : b = t
  ·subst hb
   rw [upd_same] at eb
   have := (h.snd a k hak).step e
   rwa [show k + 1 = j by omega] at this
  ·rw [upd_ne _ _ hb] at eb; exact h.snd b j eb
 ·rcases List.mem_append.1 hb with hb | hb
  ·rw [hQ b hb]; exact h.q b hb
  ·simp at hb; subst hb; rw [upd_same]; omega
 ·rw [List.pairwise_append]
  refine ⟨h.srt.imp_of_mem (fun {b c} hb hc hbc => by rw [hQ b hb, hQ c hc]; exact hbc), by simp, fun b hb c hc => ?_⟩
  simp at hc; subst hc
  rw [hQ b hb, upd_same]
  have := h.q b hb; omega
 ·rw [hX b hb]; exact h.x b hb
 ·obtain ⟨h1, h2⟩ := h.e b hb hEb
  refine ⟨h1, fun i b' eb => ?_⟩
  have := h2 i b' eb
  rw [hX b hb, upd_ne _ _ (fun e => by subst e; omega)]
  exact this
 ·by_cases hb : b = t
  ·subst hb; rw [upd_same]; have := h.low a; omega
  ·rw [upd_ne _ _ hb]; exact h.low b
 ·by_cases hb : b = t
  ·subst hb; rw [upd_same]; omega
  ·rw [upd_ne _ _ hb]; exact h.len b
 ·rw [hX b hb]; exact h.lenX b hb
theorem Bf.pushes {ed : Nat → List Nat} {nb : Nat → Nat → Nat} (ha : a ∈ X) (hnb : ∀ i ∈ ed a, nb a i < N) : ∀ (l : List Nat) (D : Nat → Int) (Q : List Nat), (∀ i ∈ l, i ∈ ed a) → Bf (stE ed nb) goal N D Q X k E → D a = k →
 Bf (stE ed nb) goal N (pushL nb a l (D, Q)).1 (pushL nb a l (D, Q)).2 X k E ∧ (∀ b, 0 ≤ D b → (pushL nb a l (D, Q)).1 b = D b) ∧ ∀ i ∈ l, 0 ≤ (pushL nb a l (D, Q)).1 (nb a i) ∧ (pushL nb a l (D, Q)).1 (nb a i) ≤ k + 1
 | [], D, Q, _, h, _ => ⟨h, fun _ _ => rfl, fun i hi => by cases hi⟩
 | i :: l, D, Q, hl, h, hk => by
  have hi := hl i (by simp)
  have ha0 : 0 ≤ D a := (h.mem a).1 (by simp [ha])
  show Bf (stE ed nb) goal N (pushL nb a l (push1 nb a (D, Q) i)).1 (pushL nb a l (push1 nb a (D, Q) i)).2 X k E ∧ (∀ b, 0 ≤ D b → (pushL nb a l (push1 nb a (D, Q) i)).1 b = D b) ∧ ∀ x ∈ i :: l, 0 ≤ (pushL nb a l (push1 nb a (D, Q) i)).1 (nb a x) ∧ (pushL nb a l (push1 nb a (D, Q) i)).1 (nb a x) ≤ k + 1
  by_cases hn : D (nb a i) < 0
  ·rw [show push1 nb a (D, Q) i = (upd D (nb a i) (D a + 1), Q ++ [nb a i]) from if_pos hn]
   have hne : a ≠ nb a i := fun e => by rw [← e] at hn; omega
   have hb := h.push ha hk (stE_some.2 ⟨hi, rfl⟩) (hnb i hi) hn
   obtain ⟨h1, h2, h3⟩ := Bf.pushes ha hnb l _ _ (fun x hx => hl x (by simp [hx])) hb (by rw [upd_ne _ _ hne]; exact hk)
   have hs := h2 (nb a i) (by rw [upd_same]; omega)
   rw [upd_same] at hs
   refine ⟨h1, fun b hb => (h2 b (by by_cases e : b = nb a i; (· rw [e, upd_same]; omega); (· rw [upd_ne _ _ e]; exact hb))).trans (upd_ne _ _ (fun e => by subst e; omega)), fun x hx => ?_⟩
   rcases List.mem_cons.1 hx with rfl | hx
   ·rw [hs]; omega
   ·exact h3 x hx
  ·rw [show push1 nb a (D, Q) i = (D, Q) from if_neg hn]
   obtain ⟨h1, h2, h3⟩ := Bf.pushes ha hnb l _ _ (fun x hx => hl x (by simp [hx])) h hk
   refine ⟨h1, h2, fun x hx => ?_⟩
   rcases List.mem_cons.1 hx with rfl | hx
   ·rw [h2 _ (by omega)]
    refine ⟨by omega, ?_⟩
    rcases List.mem_append.1 ((h.mem (nb a x)).2 (by omega)) with hm | hm
    ·exact (h.q _ hm).2
    ·have := h.x _ hm; omega
   ·exact h3 x hx
theorem Bf.weaken (h : Bf st goal N D Q X k E') (hE : ∀ b ∈ X, E b → E' b ∨ goal b = none ∧ ∀ i b', st b i = some b' → 0 ≤ D b' ∧ D b' ≤ D b + 1) : Bf st goal N D Q X k E :=
 ⟨h.nd, h.lt, h.mem, h.z, h.snd, h.q, h.srt, h.x, fun b hb hEb => (hE b hb hEb).elim (h.e b hb) id, h.low, h.len, h.lenX⟩
theorem Bf.reached (h : Bf st goal N D Q X k E) (hE : ∀ b, D b < k → E b) : ∀ (j : Nat) (b : Nat), Rb st 0 j b → j ≤ k → 0 ≤ D b ∧ D b ≤ j
 | 0, b, hr, _ => by rw [hr.zero, h.z]; simp
 | j + 1, b, hr, hj => by
  obtain ⟨c, i, h1, h2⟩ := hr.last
  obtain ⟨h3, h4⟩ := Bf.reached h hE j c h1 (by omega)
  have hX : c ∈ X := by
   rcases List.mem_append.1 ((h.mem c).2 h3) with hm | hm
   ·have := (h.q c hm).1; omega
   ·exact hm
  have := (h.e c hX (hE c (by omega))).2 i b h2
  omega
theorem Bf.all (h : Bf st goal N D [] X k E) (hE : ∀ b, E b) : ∀ (j : Nat) (b : Nat), Rb st 0 j b → b ∈ X
 | 0, b, hr => by rw [hr.zero]; exact (h.mem 0).2 (by rw [h.z]; omega)
 | j + 1, b, hr => by
  obtain ⟨c, i, h1, h2⟩ := hr.last
  have := (h.e c (Bf.all h hE j c h1) (hE c)).2 i b h2
  exact (h.mem b).2 this.1
end
structure GI (goal : Nat → Option Int) (X gs : List Nat) (least : Int) : Prop where
 m : ∀ b, b ∈ gs ↔ b ∈ X ∧ goal b = some least
 l : ∀ b ∈ X, ∀ c, goal b = some c → least ≤ c
 ne : gs ≠ []
theorem GI.pass {goal : Nat → Option Int} {X gs : List Nat} {least : Int} {a : Nat} (h : GI goal X gs least) (ha : ∀ c, goal a = some c → least < c) : GI goal (a :: X) gs least :=
 ⟨fun b => by
  rw [h.m, List.mem_cons]
  refine ⟨fun ⟨h1, h2⟩ => ⟨.inr h1, h2⟩, fun ⟨h1, h2⟩ => ⟨h1.resolve_left fun e => ?_, h2⟩⟩
  subst e; have := ha _ h2; omega,
  fun b hb c hc => by
   rcases List.mem_cons.1 hb with rfl | hb
   ·have := ha c hc; omega
   ·exact h.l b hb c hc, h.ne⟩
theorem GI.more {goal : Nat → Option Int} {X gs : List Nat} {least : Int} {a : Nat} (h : GI goal X gs least) (ha : goal a = some least) : GI goal (a :: X) (gs ++ [a]) least :=
 ⟨fun b => by
  rw [List.mem_append, List.mem_singleton, h.m, List.mem_cons]
  constructor
  ·rintro (⟨h1, h2⟩ | rfl)
   ·exact ⟨.inr h1, h2⟩
   ·exact ⟨.inl rfl, ha⟩
  ·rintro ⟨rfl | h1, h2⟩
   ·exact .inr rfl
   ·exact .inl ⟨h1, h2⟩,
  fun b hb c hc => by
   rcases List.mem_cons.1 hb with rfl | hb
   ·rw [ha] at hc; injection hc with hc; omega
   ·exact h.l b hb c hc, by simp⟩
theorem GI.first {goal : Nat → Option Int} {X : List Nat} {c : Int} {a : Nat} (ha : goal a = some c) (h : ∀ b ∈ X, ∀ c', goal b = some c' → c < c') : GI goal (a :: X) [a] c :=
 ⟨fun b => by
  rw [List.mem_singleton, List.mem_cons]
  refine ⟨fun e => by subst e; exact ⟨.inl rfl, ha⟩, fun ⟨h1, h2⟩ => h1.resolve_right fun hb => ?_⟩
  have := h b hb _ h2; omega,
  fun b hb c' hc => by
   rcases List.mem_cons.1 hb with rfl | hb
   ·rw [ha] at hc; injection hc with hc; omega
   ·have := h b hb _ hc; omega, by simp⟩
def Srch (st : Nat → Nat → Option Nat) (goal : Nat → Option Int) (N : Nat) (D : Nat → Int) (Q X : List Nat) (Ex : Nat → Bool) (gs : List Nat) (least dep : Int) : Prop :=
 (dep = -1 ∧ gs = [] ∧ (∀ b ∈ X, Ex b = true) ∧ ∃ k, Bf st goal N D Q X k fun _ => True) ∨
 ∃ k : Nat, dep = k ∧ GI goal X gs least ∧ (∀ b ∈ X, D b < k → Ex b = true) ∧ Bf st goal N D Q X k fun b => D b < k
def SpNo (st : Nat → Nat → Option Nat) (goal : Nat → Option Int) (gs : List Nat) : Prop := gs = [] ∧ NoneIs st 0 goal
structure SpOk (st : Nat → Nat → Option Nat) (goal : Nat → Option Int) (N : Nat) (D : Nat → Int) (Ex : Nat → Bool) (gs : List Nat) (L : Nat) (c : Int) : Prop where
 z : D 0 = 0
 lt : ∀ b, 0 ≤ D b → b < N
 snd : ∀ b (j : Nat), D b = j → Rb st 0 j b
 cmp : ∀ (j : Nat) b, Rb st 0 j b → j ≤ L → 0 ≤ D b ∧ D b ≤ j
 ex : ∀ b, 0 ≤ D b → D b < L → Ex b = true ∧ goal b = none
 g : ∀ b, b ∈ gs ↔ D b = L ∧ goal b = some c
 l : ∀ b c', D b = L → goal b = some c' → c ≤ c'
 ne : gs ≠ []
section
variable {st : Nat → Nat → Option Nat} {goal : Nat → Option Int} {N : Nat} {D : Nat → Int} {Q X : List Nat} {Ex : Nat → Bool} {gs : List Nat} {least dep : Int} {a : Nat}
theorem Srch.start (hN : 0 < N) : Srch st goal N (upd (fun _ => -1) 0 0) [0] [] (fun _ => false) [] 0 (-1) := .inl ⟨rfl, rfl, by simp, 0, .start hN⟩
theorem Srch.bf (h : Srch st goal N D Q X Ex gs least dep) : ∃ k E, Bf st goal N D Q X k E := by
 rcases h with ⟨_, _, _, k, h⟩ | ⟨k, _, _, _, h⟩ <;> exact ⟨k, _, h⟩
theorem Srch.no (h : Srch st goal N D [] X Ex gs least dep) (hd : dep < 0) : SpNo st goal gs := by
 rcases h with ⟨_, h1, _, k, h⟩ | ⟨k, h1, _, _, h⟩
 ·refine ⟨h1, fun q b e => ?_⟩
  exact (h.e b (Bf.all h (fun _ => trivial) q.length b ⟨q, rfl, e⟩) trivial).1
 ·omega
theorem Srch.done (h : Srch st goal N D Q X Ex gs least dep) (hd : 0 ≤ dep) (hQ : ∀ a Q', Q = a :: Q' → dep < D a) : SpOk st goal N D Ex gs dep.toNat least := by
 rcases h with ⟨h1, _, _, k, h⟩ | ⟨k, h1, hg, hx, h⟩
 ·omega
 ·subst h1
  have hnQ : ∀ b ∈ Q, (k : Int) < D b := by
   cases Q with
   | nil => simp
   | cons a Q =>
    have := hQ a Q rfl
    intro b hb
    rcases List.mem_cons.1 hb with rfl | hb
    ·exact this
    ·have := (List.pairwise_cons.1 h.srt).1 b hb; omega
  have hX : ∀ b, 0 ≤ D b → D b ≤ k → b ∈ X := fun b h1 h2 => by
   rcases List.mem_append.1 ((h.mem b).2 h1) with hm | hm
   ·have := hnQ b hm; omega
   ·exact hm
  have hnX : ∀ b ∈ X, D b < k → goal b = none := fun b hb hlt => (h.e b hb hlt).1
  refine ⟨h.z, fun b => h.ltD, h.snd, fun j b hr hj => h.reached (fun _ h => h) j b hr (by omega), fun b h1 h2 => ?_, fun b => ?_, fun b c' h1 h2 => ?_, hg.ne⟩
  ·have hb := hX b h1 (by omega)
   exact ⟨hx b hb (by omega), hnX b hb (by omega)⟩
  ·rw [hg.m]
   constructor
   ·rintro ⟨h1, h2⟩
    refine ⟨?_, h2⟩
    have := h.x b h1
    rcases Int.lt_or_le (D b) k with hlt | hge
    ·rw [hnX b h1 hlt] at h2; cases h2
    ·omega
   ·rintro ⟨h1, h2⟩
    exact ⟨hX b (by omega) (by omega), h2⟩
  ·exact hg.l b (hX b (by omega) (by omega)) c' h2
theorem Srch.pass (h : Srch st goal N D (a :: Q) X Ex gs least dep) (hd : 0 ≤ dep) (ha : D a ≤ dep) (hg : goal a = none) : Srch st goal N D Q (a :: X) Ex gs least dep := by
 rcases h with ⟨h1, _, _, k, h⟩ | ⟨k, h1, hgi, hx, h⟩
 ·omega
 ·subst h1
  have hq := h.q a (by simp)
  have hk : (D a).toNat = k := by omega
  refine .inr ⟨k, rfl, hgi.pass (fun c e => by rw [hg] at e; cases e), fun b hb hlt => ?_, ?_⟩
  ·rcases List.mem_cons.1 hb with rfl | hb
   ·omega
   ·exact hx b hb hlt
  ·have := h.pop (E := fun b => D b < k) (fun b _ h => h) (by omega)
   rwa [hk] at this
theorem Srch.hit (h : Srch st goal N D (a :: Q) X Ex gs least dep) (ha : dep < 0 ∨ D a ≤ dep) {c : Int} (hg : goal a = some c) : ((dep < 0 ∨ c < least) → Srch st goal N D Q (a :: X) Ex [a] c (D a)) ∧ (¬ (dep < 0 ∨ c < least) → c = least → Srch st goal N D Q (a :: X) Ex (gs ++ [a]) least (D a)) ∧ (¬ (dep < 0 ∨ c < least) → c ≠ least → Srch st goal N D Q (a :: X) Ex gs least (D a)) := by
 rcases h with ⟨h1, h2, hx, k, h⟩ | ⟨k, h1, hgi, hx, h⟩
 ·have hq := h.q a (by simp)
  refine ⟨fun _ => .inr ⟨(D a).toNat, by omega, GI.first hg (fun b hb c' e => ?_), fun b hb hlt => ?_, h.pop (fun _ _ _ => trivial) (by omega)⟩, fun hn => absurd (.inl (by omega)) hn, fun hn => absurd (.inl (by omega)) hn⟩
  ·rw [(h.e b hb trivial).1] at e; cases e
  ·rcases List.mem_cons.1 hb with rfl | hb
   ·omega
   ·exact hx b hb
 ·subst h1
  have hq := h.q a (by simp)
  have hk : D a = k := by omega
  have hb0 := h.pop (E := fun b => D b < k) (fun b _ h => h) (by omega)
  rw [show (D a).toNat = k by omega] at hb0
  have hx' : ∀ b ∈ a :: X, D b < k → Ex b = true := fun b hb hlt => by
   rcases List.mem_cons.1 hb with rfl | hb
   ·omega
   ·exact hx b hb hlt
  refine ⟨fun hc => .inr ⟨k, hk, GI.first hg (fun b hb c' e => ?_), hx', hb0⟩, fun _ e => .inr ⟨k, hk, hgi.more (e ▸ hg), hx', hb0⟩, fun hn e => .inr ⟨k, hk, hgi.pass (fun c' e' => ?_), hx', hb0⟩⟩
  ·have := hgi.l b hb c' e; omega
  ·rw [hg] at e'; injection e' with e'; omega
end
section
variable {ed : Nat → List Nat} {nb : Nat → Nat → Nat} {goal : Nat → Option Int} {N : Nat} {D : Nat → Int} {Q X : List Nat} {Ex : Nat → Bool} {gs : List Nat} {least dep : Int} {a : Nat}
theorem Srch.during (h : Srch (stE ed nb) goal N D (a :: Q) X Ex gs least dep) (hnb : ∀ i ∈ ed a, nb a i < N) {l : List Nat} (hl : ∀ i ∈ l, i ∈ ed a) : ∃ E, Bf (stE ed nb) goal N (pushL nb a l (D, Q)).1 (pushL nb a l (D, Q)).2 (a :: X) (D a).toNat E ∧ (pushL nb a l (D, Q)).1 a = D a ∧ 0 ≤ D a := by
 obtain ⟨k, E', h1⟩ := h.bf
 have ha : 0 ≤ D a := (h1.mem a).1 (by simp)
 have h2 := h1.pop (E := fun b => b ≠ a ∧ E' b) (fun b _ h => h.2) (fun h => h.1 rfl)
 obtain ⟨h3, h4, _⟩ := Bf.pushes (by simp) hnb l D Q hl h2 (by omega)
 exact ⟨_, h3, h4 a ha, ha⟩
theorem Srch.look (h : Srch (stE ed nb) goal N D (a :: Q) X Ex gs least dep) (hnb : ∀ i ∈ ed a, nb a i < N) (hd : dep < 0) (hg : goal a = none) : Srch (stE ed nb) goal N (pushL nb a (ed a) (D, Q)).1 (pushL nb a (ed a) (D, Q)).2 (a :: X) (upd Ex a true) gs least dep := by
 rcases h with ⟨h1, h2, hx, k, h⟩ | ⟨k, h1, hgi, hx, h⟩
 ·have ha : 0 ≤ D a := (h.mem a).1 (by simp)
  have hb := h.pop (E := fun b => b ≠ a) (fun _ _ _ => trivial) (fun h => h rfl)
  obtain ⟨h3, h4, h5⟩ := Bf.pushes (by simp) hnb (ed a) D Q (fun _ h => h) hb (by omega)
  refine .inl ⟨h1, h2, fun b hb => ?_, _, h3.weaken fun b hb _ => ?_⟩
  ·by_cases e : b = a
   ·rw [e, upd_same]
   ·rw [upd_ne _ _ e]; exact hx b ((List.mem_cons.1 hb).resolve_left e)
  ·by_cases e : b = a
   ·subst e
    refine .inr ⟨hg, fun i b' es => ?_⟩
    obtain ⟨e1, e2⟩ := stE_some.1 es
    have := h5 i e1
    rw [e2] at this
    rw [h4 _ ha]; omega
   ·exact .inl e
 ·omega
end
def Gd (st : Nat → Nat → Option Nat) (D : Nat → Int) (gs : List Nat) (L : Nat) (b : Nat) : Prop := ∃ p g, wk st b p = some g ∧ g ∈ gs ∧ D b + p.length = L
section
variable {ed : Nat → List Nat} {nb : Nat → Nat → Nat} {goal : Nat → Option Int} {N : Nat} {D : Nat → Int} {Ex : Nat → Bool} {gs : List Nat} {L : Nat} {c : Int} {b : Nat}
theorem SpOk.next (h : SpOk (stE ed nb) goal N D Ex gs L c) (hb : 0 ≤ D b) {i : Nat} {p : List Nat} {g : Nat} (e : wk (stE ed nb) b (i :: p) = some g) (hg : g ∈ gs) (hl : D b + (i :: p).length = L) : i ∈ ed b ∧ D (nb b i) = D b + 1 ∧ wk (stE ed nb) (nb b i) p = some g := by
 obtain ⟨b1, h1, h2⟩ := Option.bind_eq_some_iff.1 (show ((stE ed nb) b i).bind (fun b => wk (stE ed nb) b p) = some g from e)
 obtain ⟨h3, h4⟩ := stE_some.1 h1
 subst h4
 simp only [List.length_cons] at hl
 obtain ⟨h5, h6⟩ := h.cmp _ _ ((h.snd b (D b).toNat (by omega)).step h1) (by omega)
 refine ⟨h3, ?_, h2⟩
 obtain ⟨q, hq1, hq2⟩ := h.snd (nb b i) (D (nb b i)).toNat (by omega)
 have hr : Rb (stE ed nb) 0 (q.length + p.length) g := ⟨q ++ p, by simp, by rw [wk_app, hq2]; exact h2⟩
 have hgL := ((h.g g).1 hg).1
 have := h.cmp _ _ hr (by omega)
 omega
theorem SpOk.gd (h : SpOk (stE ed nb) goal N D Ex gs L c) (hb : 0 ≤ D b) (hL : D b < L) : Gd (stE ed nb) D gs L b ↔ ∃ i ∈ ed b, D (nb b i) = D b + 1 ∧ Gd (stE ed nb) D gs L (nb b i) := by
 constructor
 ·rintro ⟨p, g, h1, h2, h3⟩
  cases p with
  | nil => simp at h3; omega
  | cons i p =>
   obtain ⟨k1, k2, k3⟩ := h.next hb h1 h2 h3
   exact ⟨i, k1, k2, p, g, k3, h2, by rw [k2]; simp only [List.length_cons] at h3; omega⟩
 ·rintro ⟨i, h1, h2, p, g, h3, h4, h5⟩
  refine ⟨i :: p, g, ?_, h4, by simp only [List.length_cons]; omega⟩
  simp only [wk, stE_some.2 ⟨h1, rfl⟩]
  exact h3
theorem SpOk.gd_goal (_ : SpOk (stE ed nb) goal N D Ex gs L c) (hL : D b = L) : Gd (stE ed nb) D gs L b ↔ b ∈ gs := by
 constructor
 ·rintro ⟨p, g, h1, h2, h3⟩
  have : p = [] := List.eq_nil_of_length_eq_zero (by omega)
  subst this
  injection h1 with h1
  exact h1 ▸ h2
 ·exact fun hb => ⟨[], b, rfl, hb, by simp [hL]⟩
theorem SpOk.gd0 (h : SpOk (stE ed nb) goal N D Ex gs L c) : Gd (stE ed nb) D gs L 0 := by
 obtain ⟨g, hg⟩ := List.exists_mem_of_ne_nil _ h.ne
 obtain ⟨p, h1, h2⟩ := h.snd g L ((h.g g).1 hg).1
 exact ⟨p, g, h2, hg, by rw [h.z]; omega⟩
open Classical in
noncomputable def gdM (st : Nat → Nat → Option Nat) (D : Nat → Int) (gs : List Nat) (L : Nat) (t : Int) (b : Nat) : Bool := decide (t ≤ D b ∧ D b ≤ L ∧ Gd st D gs L b)
theorem SpOk.mark_goals (h : SpOk (stE ed nb) goal N D Ex gs L c) (b : Nat) : gdM (stE ed nb) D gs L L b = decide (b ∈ gs) := by
 unfold gdM
 rw [decide_eq_decide]
 constructor
 ·rintro ⟨h1, h2, h3⟩
  exact (h.gd_goal (by omega)).1 h3
 ·intro hb
  have := ((h.g b).1 hb).1
  exact ⟨by omega, by omega, (h.gd_goal this).2 hb⟩
theorem SpOk.mark (h : SpOk (stE ed nb) goal N D Ex gs L c) {t : Nat} (ht : t < L) (b : Nat) : gdM (stE ed nb) D gs L t b = (gdM (stE ed nb) D gs L (t + 1) b || (if Ex b then ed b else []).any fun i => decide (D b = t) && decide (D (nb b i) = t + 1) && gdM (stE ed nb) D gs L (t + 1) (nb b i)) := by
 rw [Bool.eq_iff_iff, Bool.or_eq_true, List.any_eq_true]
 simp only [gdM, decide_eq_true_eq, Bool.and_eq_true]
 constructor
 ·rintro ⟨h1, h2, h3⟩
  rcases Int.lt_or_le (t : Int) (D b) with hlt | hge
  ·exact .inl ⟨by omega, h2, h3⟩
  ·have hb : D b = t := by omega
   obtain ⟨i, k1, k2, k3⟩ := (h.gd (by omega) (by omega)).1 h3
   rw [if_pos (h.ex b (by omega) (by omega)).1]
   exact .inr ⟨i, k1, ⟨hb, by omega⟩, by omega, by omega, k3⟩
 ·rintro (⟨h1, h2, h3⟩ | ⟨i, k1, ⟨k2, k3⟩, k4, k5, k6⟩)
  ·exact ⟨by omega, h2, h3⟩
  ·rw [if_pos (h.ex b (by omega) (by omega)).1] at k1
   exact ⟨by omega, by omega, (h.gd (by omega) (by omega)).2 ⟨i, k1, by omega, k6⟩⟩
structure Way (st : Nat → Nat → Option Nat) (D : Nat → Int) (gs : List Nat) (L : Nat) (p : List Nat) (b : Nat) : Prop where
 w : wk st 0 p = some b
 n : D b = p.length
 g : Gd st D gs L b
 f : ∀ q g, wk st 0 q = some g → g ∈ gs → q.length = L → lexLe p q
theorem SpOk.way0 (h : SpOk (stE ed nb) goal N D Ex gs L c) : Way (stE ed nb) D gs L [] 0 := ⟨rfl, h.z, h.gd0, fun _ _ _ _ _ => by simp [lexLe]⟩
theorem SpOk.way_len (h : SpOk (stE ed nb) goal N D Ex gs L c) {p : List Nat} (hw : Way (stE ed nb) D gs L p b) (hb : b ∉ gs) : D b < L ∧ Ex b = true := by
 obtain ⟨q, g, h1, h2, h3⟩ := hw.g
 have hn := hw.n
 have : D b < L := by
  rcases Int.lt_or_le (D b) L with h' | h'
  ·exact h'
  ·exact absurd ((h.gd_goal (by omega)).1 hw.g) hb
 exact ⟨this, (h.ex b (by omega) this).1⟩
theorem SpOk.way_step (h : SpOk (stE ed nb) goal N D Ex gs L c) {p : List Nat} (hw : Way (stE ed nb) D gs L p b) (hb : b ∉ gs) (hs : (ed b).Pairwise (· < ·)) {k i : Nat} (hk : (ed b)[k]? = some i) (hi : D (nb b i) = D b + 1 ∧ Gd (stE ed nb) D gs L (nb b i)) (hf : ∀ k' i', k' < k → (ed b)[k']? = some i' → ¬ (D (nb b i') = D b + 1 ∧ Gd (stE ed nb) D gs L (nb b i'))) : Way (stE ed nb) D gs L (p ++ [i]) (nb b i) := by
 have hn := hw.n
 have hL := (h.way_len hw hb).1
 refine ⟨?_, by rw [hi.1, hn]; simp, hi.2, fun q g e hg hq => ?_⟩
 ·rw [wk_app, hw.w]
  simp [wk, stE_some.2 ⟨List.mem_of_getElem? hk, rfl⟩]
 ·rcases lexLe_split (hw.f q g e hg hq) (by omega) with h1 | ⟨q', rfl⟩
  ·exact h1 [i]
  ·refine lexLe_app p ?_
   rw [wk_app, hw.w] at e
   cases q' with
   | nil => simp at hq; omega
   | cons y q' =>
    have e' : wk (stE ed nb) b (y :: q') = some g := e
    have hq' : D b + (y :: q').length = L := by simp at hq ⊢; omega
    obtain ⟨k1, k2, k3⟩ := h.next (by omega) e' hg hq'
    obtain ⟨k', hk', ey⟩ := List.getElem_of_mem k1
    have hy : (ed b)[k']? = some y := by rw [List.getElem?_eq_getElem hk', ey]
    have hGy : D (nb b y) = D b + 1 ∧ Gd (stE ed nb) D gs L (nb b y) := ⟨k2, q', g, k3, hg, by simp only [List.length_cons] at hq'; omega⟩
    rcases Nat.lt_or_ge k' k with hlt | hge
    ·exact absurd hGy (hf k' y hlt hy)
    ·rcases Nat.lt_or_ge k k' with hgt | hle
     ·obtain ⟨hk0, ek⟩ := List.getElem?_eq_some_iff.1 hk
      have := List.pairwise_iff_getElem.1 hs k k' hk0 hk' hgt
      exact .inl (by omega)
     ·have : k' = k := by omega
      subst this
      rw [hk] at hy; injection hy with hy
      exact .inr ⟨hy, by cases q' <;> simp [lexLe]⟩
theorem SpOk.way_next (h : SpOk (stE ed nb) goal N D Ex gs L c) {p : List Nat} (hw : Way (stE ed nb) D gs L p b) (hb : b ∉ gs) : ∃ i ∈ ed b, D (nb b i) = D b + 1 ∧ Gd (stE ed nb) D gs L (nb b i) := by
 have hn := hw.n
 exact (h.gd (by omega) (h.way_len hw hb).1).1 hw.g
theorem SpOk.way_end (h : SpOk (stE ed nb) goal N D Ex gs L c) {p : List Nat} (hw : Way (stE ed nb) D gs L p b) (hb : b ∈ gs) : SomeIs (stE ed nb) 0 goal p := by
 have hn := hw.n
 have hg := (h.g b).1 hb
 refine ⟨b, c, hw.w, hg.2, fun q b' c' e hc => ?_⟩
 have hlen : L ≤ q.length := by
  rcases Nat.lt_or_ge q.length L with hlt | hge
  ·have := h.cmp q.length b' ⟨q, rfl, e⟩ (by omega)
   rw [(h.ex b' this.1 (by omega)).2] at hc; cases hc
  ·exact hge
 refine ⟨by omega, fun hq => ?_⟩
 have h1 := h.cmp q.length b' ⟨q, rfl, e⟩ (by omega)
 have hbL : D b' = L := by
  rcases Int.lt_or_le (D b') L with hlt | hge
  ·rw [(h.ex b' h1.1 hlt).2] at hc; cases hc
  ·omega
 exact ⟨h.l b' c' hbL hc, fun ec => hw.f q b' e ((h.g b').2 ⟨hbL, ec ▸ hc⟩) (by omega)⟩
theorem SpOk.way_le {p : List Nat} (hw : Way (stE ed nb) D gs L p b) : p.length ≤ L := by
 obtain ⟨q, g, h1, h2, h3⟩ := hw.g
 have hn := hw.n
 omega
end
end Go.Proofs.YtfaknfmndafllaaGreatDoor
namespace Go.Proofs.YtfaknfmndafllaaGreatDoor
def tog (s : List Int) (d : Nat) : List Int := s.set d (3 - s.getD d 0)
theorem tog_len (s : List Int) (d : Nat) : (tog s d).length = s.length := List.length_set
theorem tog_at (s : List Int) (d e : Nat) : (tog s d)[e]? = (s[e]?).map fun x => if d = e then 3 - x else x := by
 unfold tog
 rw [List.getElem?_set]
 by_cases h : d = e
 ·subst h
  rw [if_pos rfl]
  by_cases hl : d < s.length
  ·rw [if_pos hl, List.getElem?_eq_getElem hl, List.getD_eq_getElem?_getD, List.getElem?_eq_getElem hl]; simp
  ·rw [if_neg hl, List.getElem?_eq_none (by omega)]; rfl
 ·rw [if_neg h]; cases s[e]? <;> simp [h]
def sbN (s : List Int) (M : Nat → Nat) (b : Nat) : Nat → List Int
 | 0 => s
 | j + 1 => if b.testBit j then tog (sbN s M b j) (M j) else sbN s M b j
theorem sbN_len (s : List Int) (M : Nat → Nat) (b : Nat) : ∀ j, (sbN s M b j).length = s.length
 | 0 => rfl
 | j + 1 => by
  unfold sbN
  split
  ·rw [tog_len, sbN_len s M b j]
  ·exact sbN_len s M b j
def flp (M : Nat → Nat) (b : Nat) : Nat → Nat → Bool
 | 0, _ => false
 | j + 1, d => flp M b j d || (decide (M j = d) && b.testBit j)
theorem flp_iff (M : Nat → Nat) (b d : Nat) : ∀ j, flp M b j d = true ↔ ∃ i, i < j ∧ M i = d ∧ b.testBit i = true
 | 0 => by simp [flp]
 | j + 1 => by
  unfold flp
  rw [Bool.or_eq_true, Bool.and_eq_true, decide_eq_true_eq, flp_iff M b d j]
  constructor
  ·rintro (⟨i, h1, h2⟩ | h)
   ·exact ⟨i, by omega, h2⟩
   ·exact ⟨j, by omega, h⟩
  ·rintro ⟨i, h1, h2⟩
   rcases Nat.lt_or_ge i j with h | h
   ·exact .inl ⟨i, h, h2⟩
   ·exact .inr (by rw [show j = i by omega]; exact h2)
def Inj (M : Nat → Nat) (m : Nat) : Prop := ∀ i j, i < m → j < m → M i = M j → i = j
theorem sbN_at {s : List Int} {M : Nat → Nat} {m : Nat} (hM : Inj M m) (b d : Nat) : ∀ j, j ≤ m → (sbN s M b j)[d]? = (s[d]?).map fun x => if flp M b j d then 3 - x else x
 | 0, _ => by cases h : s[d]? <;> simp [sbN, flp, h]
 | j + 1, hj => by
  have ih := sbN_at (s := s) hM b d j (by omega)
  unfold sbN flp
  by_cases hb : b.testBit j = true
  ·rw [if_pos hb, tog_at, ih, hb]
   by_cases hd : M j = d
   ·have hf : flp M b j d = false := by
     rw [Bool.eq_false_iff]
     intro h
     obtain ⟨i, h1, h2, _⟩ := (flp_iff M b d j).1 h
     have := hM i j (by omega) (by omega) (h2.trans hd.symm)
     omega
    cases s[d]? <;> simp [hd, hf]
   ·cases s[d]? <;> simp [hd]
  ·rw [if_neg hb, ih]
   have : b.testBit j = false := by simpa using hb
   rw [this, Bool.and_false, Bool.or_false]
theorem sbN_xor {s : List Int} {M : Nat → Nat} {m : Nat} (hM : Inj M m) (b : Nat) {i : Nat} (hi : i < m) : sbN s M (b ^^^ 2 ^ i) m = tog (sbN s M b m) (M i) := by
 apply List.ext_getElem?
 intro d
 rw [sbN_at hM _ d m (Nat.le_refl _), tog_at, sbN_at hM b d m (Nat.le_refl _)]
 by_cases hd : M i = d
 ·have e : flp M (b ^^^ 2 ^ i) m d = !flp M b m d := by
   rw [Bool.eq_iff_iff, Bool.not_eq_true', ← Bool.not_eq_true, flp_iff, flp_iff]
   constructor
   ·rintro ⟨k, h1, h2, h3⟩ ⟨k', h4, h5, h6⟩
    have := hM k i h1 hi (h2.trans hd.symm)
    have := hM k' i h4 hi (h5.trans hd.symm)
    subst_vars
    rw [Nat.testBit_xor, h6, Nat.testBit_two_pow_self] at h3
    cases h3
   ·intro h
    refine ⟨i, hi, hd, ?_⟩
    have : b.testBit i = false := by
     rw [Bool.eq_false_iff]
     exact fun hb => h ⟨i, hi, hd, hb⟩
    rw [Nat.testBit_xor, this, Nat.testBit_two_pow_self]; rfl
  cases s[d]? with
  | none => rfl
  | some x =>
   simp only [Option.map_some, hd, if_true, e]
   cases flp M b m d <;> simp
   omega
 ·have e : flp M (b ^^^ 2 ^ i) m d = flp M b m d := by
   rw [Bool.eq_iff_iff, flp_iff, flp_iff]
   have key : ∀ k, k < m → M k = d → (b ^^^ 2 ^ i).testBit k = b.testBit k := fun k h1 h2 => by
    rw [Nat.testBit_xor, Nat.testBit_two_pow_of_ne (fun e => hd (by rw [e]; exact h2)), Bool.xor_false]
   constructor
   ·rintro ⟨k, h1, h2, h3⟩; exact ⟨k, h1, h2, by rw [← key k h1 h2]; exact h3⟩
   ·rintro ⟨k, h1, h2, h3⟩; exact ⟨k, h1, h2, by rw [key k h1 h2]; exact h3⟩
  rw [e]
  cases s[d]? <;> simp [hd]
def edS (perm : List Int → Nat → Bool) (s : List Int) (M : Nat → Nat) (m : Nat) (b : Nat) : List Nat := (List.range m).filter fun i => perm (sbN s M b m) (M i)
def nbB (b i : Nat) : Nat := b ^^^ 2 ^ i
theorem nbB_lt {m b i : Nat} (hb : b < 2 ^ m) (hi : i < m) : nbB b i < 2 ^ m := Nat.xor_lt_two_pow hb (Nat.pow_lt_pow_right (by decide) hi)
theorem edS_mem {perm : List Int → Nat → Bool} {s : List Int} {M : Nat → Nat} {m b i : Nat} : i ∈ edS perm s M m b ↔ i < m ∧ perm (sbN s M b m) (M i) = true := by
 unfold edS; rw [List.mem_filter, List.mem_range]
theorem edS_srt (perm : List Int → Nat → Bool) (s : List Int) (M : Nat → Nat) (m b : Nat) : (edS perm s M m b).Pairwise (· < ·) := List.Pairwise.filter _ List.pairwise_lt_range
theorem edS_len (perm : List Int → Nat → Bool) (s : List Int) (M : Nat → Nat) (m b : Nat) : (edS perm s M m b).length ≤ m := by
 have := List.length_filter_le (fun i => perm (sbN s M b m) (M i)) (List.range m)
 rw [List.length_range] at this
 exact this
def stS (perm : List Int → Nat → Bool) (M : Nat → Nat) (m : Nat) (s : List Int) (i : Nat) : Option (List Int) := if i < m ∧ perm s (M i) = true then some (tog s (M i)) else none
theorem stS_some {perm : List Int → Nat → Bool} {M : Nat → Nat} {m : Nat} {s t : List Int} {i : Nat} : stS perm M m s i = some t ↔ (i < m ∧ perm s (M i) = true) ∧ tog s (M i) = t := by
 unfold stS
 by_cases h : i < m ∧ perm s (M i) = true <;> simp [h]
theorem stS_map {perm : List Int → Nat → Bool} {s : List Int} {M : Nat → Nat} {m : Nat} (hM : Inj M m) (b i : Nat) : stS perm M m (sbN s M b m) i = (stE (edS perm s M m) nbB b i).map fun b => sbN s M b m := by
 unfold stS stE
 by_cases h : i < m ∧ perm (sbN s M b m) (M i) = true
 ·rw [if_pos h, if_pos (edS_mem.2 h)]
  exact congrArg some (sbN_xor hM b h.1).symm
 ·rw [if_neg h, if_neg (fun k => h (edS_mem.1 k))]; rfl
theorem sbN_zero (s : List Int) (M : Nat → Nat) : ∀ j, sbN s M 0 j = s
 | 0 => rfl
 | j + 1 => by unfold sbN; rw [Nat.zero_testBit, if_neg (by decide)]; exact sbN_zero s M j
theorem find_states {perm : List Int → Nat → Bool} {s : List Int} {M : Nat → Nat} {m : Nat} (hM : Inj M m) {goal : List Int → Option Int} {r : Option (List Nat)} (h : FindIs (stE (edS perm s M m) nbB) 0 (fun b => goal (sbN s M b m)) r) : FindIs (stS perm M m) s goal r := by
 have := FindIs.map (st := stE (edS perm s M m) nbB) (su := stS perm M m) (φ := fun b => sbN s M b m) (I := fun _ => True) (fun a i _ => stS_map hM a i) (fun _ _ _ _ _ => trivial) trivial h
 rwa [sbN_zero] at this
def opsP (M : Nat → Nat) : List Int → List Nat → List (Int × Int)
 | _, [] => []
 | s, i :: p => ((M i : Int), 3 - s.getD (M i) 0) :: opsP M (tog s (M i)) p
theorem opsP_len (M : Nat → Nat) : ∀ (p : List Nat) (s : List Int), (opsP M s p).length = p.length
 | [], _ => rfl
 | i :: p, s => by simp [opsP, opsP_len M p]
theorem opsP_snoc {perm : List Int → Nat → Bool} {M : Nat → Nat} {m : Nat} (i : Nat) : ∀ (p : List Nat) (s t : List Int), wk (stS perm M m) s p = some t → opsP M s (p ++ [i]) = opsP M s p ++ [((M i : Int), 3 - t.getD (M i) 0)]
 | [], s, t, h => by injection h with h; subst h; rfl
 | j :: p, s, t, h => by
  obtain ⟨s', h1, h2⟩ := Option.bind_eq_some_iff.1 (show (stS perm M m s j).bind (fun b => wk (stS perm M m) b p) = some t from h)
  obtain ⟨_, rfl⟩ := stS_some.1 h1
  simp only [List.cons_append, opsP, opsP_snoc i p _ _ h2]
end Go.Proofs.YtfaknfmndafllaaGreatDoor
namespace Go.Proofs.YtfaknfmndafllaaGreatDoor
open Go.RowKit
def lstF {α : Type} (N : Nat) (f : Nat → α) : List α := (List.range N).map f
section
variable {α : Type} {N b : Nat} {f : Nat → α}
theorem lstF_len : (lstF N f).length = N := by simp [lstF]
theorem lstF_at (h : b < N) : (lstF N f)[b]? = some (f b) := by simp [lstF, h]
theorem lstF_set (v : α) : (lstF N f).set b v = lstF N (upd f b v) := by
 apply List.ext_getElem?
 intro i
 rw [List.getElem?_set]
 by_cases h : i < N
 ·rw [lstF_at h, lstF_len]
  by_cases e : b = i
  ·subst e; rw [if_pos rfl, if_pos h, lstF_at h, upd_same]
  ·rw [if_neg e, lstF_at h, upd_ne _ _ (Ne.symm e)]
 ·have h1 : (lstF N f)[i]? = none := List.getElem?_eq_none (by rw [lstF_len]; omega)
  have h2 : (lstF N (upd f b v))[i]? = none := List.getElem?_eq_none (by rw [lstF_len]; omega)
  rw [h1, h2, lstF_len]
  by_cases e : b = i
  ·subst e; rw [if_pos rfl, if_neg h]
  ·rw [if_neg e]
end
def RowF (w : World) (t : TypeId) (g N : Nat) (f : Nat → Value) : Prop := Blk w g t (lstF N f).toArray
section
variable {w w' : World} {t : TypeId} {g N b : Nat} {f : Nat → Value}
theorem RowF.lt (h : RowF w t g N f) : g < w.heap.size := Blk.lt h
theorem RowF.at (h : RowF w t g N f) (hb : b < N) : w.cell? ⟨g, b, none⟩ = some (f b) := by
 rw [Blk.cell h]; simp [lstF_at hb]
theorem RowF.frozen (h : RowF w t g N f) (b : Nat) : w.frozen? ⟨g, b, none⟩ = false := Blk.frozen h b
theorem RowF.set (h : RowF w t g N f) (b : Nat) (v : Value) : RowF (w.setCell ⟨g, b, none⟩ v) t g N (upd f b v) := by
 have := Blk.set h b v
 unfold RowF
 rwa [List.setIfInBounds_toArray, lstF_set] at this
theorem RowF.keep (h : RowF w t g N f) (e : w'.heap[g]? = w.heap[g]?) : RowF w' t g N f := Blk.keep h e
theorem RowF.far (h : RowF w t g N f) {p : Addr} (hp : g ≠ p.block) (u : Value) : RowF (w.setCell p u) t g N f := Blk.far h hp u
theorem RowF.below {B : Nat} (h : RowF w t g N f) (hb : Below B w w') (hg : g < B) : RowF w' t g N f := Blk.below h hb hg
theorem RowF.grown {row : Option Nat} (h : RowF w t g N f) (hb : w.grownBy w' row) (hg : some g ≠ row) : RowF w' t g N f := Blk.grown h hb hg
theorem RowF.new (w : World) (t : TypeId) (N : Nat) (f : Nat → Value) : RowF (w.alloc (.cells (lstF N f).toArray t)) t w.heap.size N f := Blk.new w t _
end
theorem upd_int (D : Nat → Int) (b : Nat) (v : Int) : upd (fun i => Value.int .i64 (D i)) b (.int .i64 v) = fun i => Value.int .i64 (upd D b v i) := by
 funext i; unfold upd; split <;> rfl
theorem upd_bool (D : Nat → Bool) (b : Nat) (v : Bool) : upd (fun i => Value.bool (D i)) b (.bool v) = fun i => Value.bool (upd D b v i) := by
 funext i; unfold upd; split <;> rfl
def SlA (w : World) (av : List Nat) (size : Nat) (A : Option Addr) (n c : Nat) (xs : List Value) : Prop := Sl w w.heap.size size A n c xs ∧ (0 < n → ∀ b off, A = some ⟨b, off, none⟩ → b ∉ av)
section
variable {w w' : World} {av : List Nat} {size n c : Nat} {A : Option Addr} {xs : List Value}
theorem SlA.keep (h : SlA w av size A n c xs) (hs : w.heap.size ≤ w'.heap.size) (hk : ∀ p : Addr, p.block < w.heap.size → p.block ∉ av → w'.cell? p = w.cell? p) : SlA w' av size A n c xs :=
 ⟨⟨h.1.1, h.1.2.1, h.1.2.2.1, h.1.2.2.2.1, fun hn => by
  obtain ⟨b, off, e, hb, hc⟩ := h.1.2.2.2.2 hn
  exact ⟨b, off, e, by omega, fun j u hu => (hk _ hb (h.2 hn b off e)).trans (hc j u hu)⟩⟩, h.2⟩
theorem SlA.later (h : SlA w av size A n c xs) (hb : Below w.heap.size w w') : SlA w' av size A n c xs := h.keep hb.size fun _ hp _ => hb.cell hp
theorem SlA.cell (h : SlA w av size A n c xs) {p : Addr} (hp : p.block ∈ av) (u : Value) : SlA (w.setCell p u) av size A n c xs :=
 h.keep (by simp [World.setCell]) fun q _ hq => World.cell?_setCell_other w p q u (fun e => by subst e; exact hq hp)
theorem SlA.grown (h : SlA w av size A n c xs) {row : Option Nat} (hg : w.grownBy w' row) (hr : ∀ g, row = some g → g ∈ av) : SlA w' av size A n c xs :=
 h.keep hg.size fun p hp hq => World.cell?_of_block (hg.block p.block hp (fun e => hq (hr _ e.symm)))
theorem SlA.chan (h : SlA w av size A n c xs) {ch cap : Nat} {buf : Array Value} {cl : Bool} {s r : Nat} {tm : Bool} (hc : ch ∈ av) : SlA (w.setChan ch cap buf cl s r tm) av size A n c xs :=
 h.keep (by simp [World.setChan]) fun p _ hq => World.cell?_of_block (chan_far w ch cap buf cl s r tm (fun e => hq (e ▸ hc)))
theorem SlA.more (h : SlA w av size A n c xs) {g : Nat} (hg : w.heap.size ≤ g) : SlA w (g :: av) size A n c xs :=
 ⟨h.1, fun hn b off e => by
  have hb : b < w.heap.size := by
   obtain ⟨b', off', e', hb', _⟩ := h.1.2.2.2.2 hn
   rw [e] at e'; injection e' with e'; injection e' with e'; omega
  intro hm
  rcases List.mem_cons.1 hm with rfl | hm
  ·omega
  ·exact h.2 hn b off e hm⟩
theorem SlA.of_own {e : TypeId} {base : Nat} (h : w.ownsRow base e size (.slice A n c) n xs) (hav : ∀ g ∈ av, g < base) : SlA w av size A n c xs :=
 ⟨Sl.of_own h, fun _ b off e hb => by have := (h.lt b (by rw [e]; rfl)).1; have := hav b hb; omega⟩
theorem SlA.nil (w : World) (av : List Nat) (size : Nat) : SlA w av size none 0 0 [] := ⟨Sl.nil _ _ _, fun h => by omega⟩
end
def RowsF (w : World) (t : TypeId) (g N : Nat) (av : List Nat) (size : Nat) (f : Nat → List Value) : Prop :=
 ∃ vs : Nat → Value, RowF w t g N vs ∧ ∀ b, b < N → ∃ (A : Option Addr) (n c : Nat), vs b = .slice A n c ∧ SlA w av size A n c (f b)
section
variable {w w' : World} {t : TypeId} {g N b size : Nat} {av : List Nat} {f : Nat → List Value}
theorem RowsF.lt (h : RowsF w t g N av size f) : g < w.heap.size := by obtain ⟨vs, h, _⟩ := h; exact h.lt
theorem RowsF.frozen (h : RowsF w t g N av size f) (b : Nat) : w.frozen? ⟨g, b, none⟩ = false := by obtain ⟨vs, h, _⟩ := h; exact h.frozen b
theorem RowsF.at (h : RowsF w t g N av size f) (hb : b < N) : ∃ (A : Option Addr) (n c : Nat), w.cell? ⟨g, b, none⟩ = some (.slice A n c) ∧ SlA w av size A n c (f b) := by
 obtain ⟨vs, h1, h2⟩ := h
 obtain ⟨A, n, c, h3, h4⟩ := h2 b hb
 exact ⟨A, n, c, by rw [h1.at hb, h3], h4⟩
theorem RowsF.keep (h : RowsF w t g N av size f) (e : w'.heap[g]? = w.heap[g]?) (hk : ∀ A n c xs, SlA w av size A n c xs → SlA w' av size A n c xs) : RowsF w' t g N av size f := by
 obtain ⟨vs, h1, h2⟩ := h
 refine ⟨vs, h1.keep e, fun b hb => ?_⟩
 obtain ⟨A, n, c, h3, h4⟩ := h2 b hb
 exact ⟨A, n, c, h3, hk _ _ _ _ h4⟩
theorem RowsF.later (h : RowsF w t g N av size f) (hb : Below w.heap.size w w') : RowsF w' t g N av size f := h.keep (hb.block g h.lt) fun _ _ _ _ k => k.later hb
theorem RowsF.cell (h : RowsF w t g N av size f) {p : Addr} (hp : p.block ∈ av) (hg : g ≠ p.block) (u : Value) : RowsF (w.setCell p u) t g N av size f := h.keep (Below.heap_setCell w p u g hg) fun _ _ _ _ k => k.cell hp u
theorem RowsF.grown (h : RowsF w t g N av size f) {row : Option Nat} (hg : w.grownBy w' row) (hr : ∀ g, row = some g → g ∈ av) (hn : some g ≠ row) : RowsF w' t g N av size f := h.keep (hg.block g h.lt hn) fun _ _ _ _ k => k.grown hg hr
theorem RowsF.chan (h : RowsF w t g N av size f) {ch cap : Nat} {buf : Array Value} {cl : Bool} {s r : Nat} {tm : Bool} (hc : ch ∈ av) (hg : ch ≠ g) : RowsF (w.setChan ch cap buf cl s r tm) t g N av size f := h.keep (chan_far w ch cap buf cl s r tm hg) fun _ _ _ _ k => k.chan hc
theorem RowsF.more (h : RowsF w t g N av size f) {x : Nat} (hx : w.heap.size ≤ x) : RowsF w t g N (x :: av) size f := by
 obtain ⟨vs, h1, h2⟩ := h
 refine ⟨vs, h1, fun b hb => ?_⟩
 obtain ⟨A, n, c, h3, h4⟩ := h2 b hb
 exact ⟨A, n, c, h3, h4.more hx⟩
theorem RowsF.put (h : RowsF w t g N av size f) (hgv : g ∈ av) {A : Option Addr} {n c : Nat} {xs : List Value} (hx : SlA w av size A n c xs) (b : Nat) : RowsF (w.setCell ⟨g, b, none⟩ (.slice A n c)) t g N av size (upd f b xs) := by
 obtain ⟨vs, h1, h2⟩ := h
 refine ⟨_, h1.set b _, fun i hi => ?_⟩
 by_cases e : i = b
 ·subst e
  exact ⟨A, n, c, upd_same _ _ _, by rw [upd_same]; exact hx.cell (p := ⟨g, i, none⟩) hgv _⟩
 ·obtain ⟨A', n', c', h3, h4⟩ := h2 i hi
  exact ⟨A', n', c', by rw [upd_ne _ _ e]; exact h3, by rw [upd_ne _ _ e]; exact h4.cell (p := ⟨g, b, none⟩) hgv _⟩
theorem RowsF.new (w : World) (t : TypeId) (N : Nat) (av : List Nat) (size : Nat) : RowsF (w.alloc (.cells (lstF N fun _ => Value.slice none 0 0).toArray t)) t w.heap.size N av size fun _ => [] := ⟨_, RowF.new w t N _, fun _ _ => ⟨none, 0, 0, rfl, SlA.nil _ _ _⟩⟩
end
theorem own_two {w : World} {b1 b2 s1 s2 n1 n2 c1 c2 : Nat} {e1 e2 : TypeId} {A1 A2 : Option Addr} {xs1 xs2 : List Value} (h1 : w.ownsRow b1 e1 s1 (.slice A1 n1 c1) n1 xs1) (h2 : w.ownsRow b2 e2 s2 (.slice A2 n2 c2) n2 xs2) (he : e1 ≠ e2) : (Value.slice A1 n1 c1).ownBlock = none ∨ (Value.slice A1 n1 c1).ownBlock ≠ (Value.slice A2 n2 c2).ownBlock := by
 rcases h1.2 with ⟨h0, -⟩ | ⟨g1, _, _, h0, _, hh1, -⟩
 ·rw [h0]; exact .inl rfl
 ·rcases h2.2 with ⟨k0, -⟩ | ⟨g2, _, _, k0, _, hh2, -⟩
  ·rw [h0, k0]; exact .inr (by simp [Value.ownBlock])
  ·rw [h0, k0]
   refine .inr fun e => ?_
   simp only [Value.ownBlock, Option.some.injEq] at e
   subst e
   rw [hh1] at hh2
   injection hh2 with hh2
   injection hh2 with _ hh2
   exact he hh2
def TwoR (w0 W : World) (A1 : Option Addr) (n1 c1 : Nat) (xs1 : List Value) (A2 : Option Addr) (n2 c2 : Nat) (xs2 : List Value) : Prop :=
 W.ownsRow w0.heap.size 3 1 (.slice A1 n1 c1) n1 xs1 ∧ W.ownsRow w0.heap.size 62 2 (.slice A2 n2 c2) n2 xs2 ∧ Below w0.heap.size w0 W
section
variable {w0 W W' : World} {A1 A2 A' : Option Addr} {n1 c1 n2 c2 n' c' : Nat} {xs1 xs2 xs' : List Value}
theorem TwoR.later (h : TwoR w0 W A1 n1 c1 xs1 A2 n2 c2 xs2) (hb : Below W.heap.size W W') : TwoR w0 W' A1 n1 c1 xs1 A2 n2 c2 xs2 := ⟨own_later h.1 hb, own_later h.2.1 hb, h.2.2.trans (hb.mono h.2.2.size)⟩
theorem TwoR.alloc (h : TwoR w0 W A1 n1 c1 xs1 A2 n2 c2 xs2) (o : Obj) : TwoR w0 (W.alloc o) A1 n1 c1 xs1 A2 n2 c2 xs2 := h.later ((Below.refl _ _).alloc (Nat.le_refl _) _)
theorem TwoR.drew (h : TwoR w0 W A1 n1 c1 xs1 A2 n2 c2 xs2) : TwoR w0 W.drew A1 n1 c1 xs1 A2 n2 c2 xs2 := h.later (Below.refl _ _).drew
theorem TwoR.app1 (h : TwoR w0 W A1 n1 c1 xs1 A2 n2 c2 xs2) (ho : W'.ownsRow w0.heap.size 3 1 (.slice A' n' c') n' xs') (hg : W.grownBy W' (Value.slice A1 n1 c1).ownBlock) : TwoR w0 W' A' n' c' xs' A2 n2 c2 xs2 :=
 ⟨ho, h.2.1.kept hg (own_two h.2.1 h.1 (by decide)), h.2.2.grown hg h.2.2.size fun g e => (h.1.lt g e).1⟩
theorem TwoR.app2 (h : TwoR w0 W A1 n1 c1 xs1 A2 n2 c2 xs2) (ho : W'.ownsRow w0.heap.size 62 2 (.slice A' n' c') n' xs') (hg : W.grownBy W' (Value.slice A2 n2 c2).ownBlock) : TwoR w0 W' A1 n1 c1 xs1 A' n' c' xs' :=
 ⟨h.1.kept hg (own_two h.1 h.2.1 (by decide)), ho, h.2.2.grown hg h.2.2.size fun g e => (h.2.1.lt g e).1⟩
end
structure TwoX (w0 W : World) (av : List Nat) (A1 : Option Addr) (n1 c1 : Nat) (xs1 : List Value) (A2 : Option Addr) (n2 c2 : Nat) (xs2 : List Value) : Prop where
 r : TwoR w0 W A1 n1 c1 xs1 A2 n2 c2 xs2
 lt : ∀ g ∈ av, g < W.heap.size
 a1 : ∀ g, (Value.slice A1 n1 c1).ownBlock = some g → g ∈ av
 a2 : ∀ g, (Value.slice A2 n2 c2).ownBlock = some g → g ∈ av
theorem SlA.alloc {w : World} {av : List Nat} {size n c : Nat} {A : Option Addr} {xs : List Value} (h : SlA w av size A n c xs) (o : Obj) : SlA (w.alloc o) av size A n c xs := h.later ((Below.refl _ _).alloc (Nat.le_refl _) _)
theorem SlA.c2 {w : World} {av : List Nat} {x : Nat} {a b : Value} (h : SlA w av 2 (some ⟨x, 0, none⟩) 1 1 [a, b]) : w.cell? ⟨x, 0, none⟩ = some a ∧ w.cell? ⟨x, 1, none⟩ = some b := by
 obtain ⟨g, off, e, _, hc⟩ := h.1.2.2.2.2 (by decide)
 injection e with e; injection e with e1 e2
 subst e1 e2
 exact ⟨hc 0 a rfl, hc 1 b rfl⟩
section
variable {w0 W W' : World} {av : List Nat} {A1 A2 A' : Option Addr} {n1 c1 n2 c2 n' c' : Nat} {xs1 xs2 xs' : List Value}
theorem TwoX.of (h : TwoR w0 W A1 n1 c1 xs1 A2 n2 c2 xs2) : ∃ av, TwoX w0 W av A1 n1 c1 xs1 A2 n2 c2 xs2 :=
 ⟨(Value.slice A1 n1 c1).ownBlock.toList ++ (Value.slice A2 n2 c2).ownBlock.toList, h, fun g hg => by
  rcases List.mem_append.1 hg with hg | hg
  ·exact (h.1.lt g (by simpa using hg)).2
  ·exact (h.2.1.lt g (by simpa using hg)).2, fun g e => by simp [e], fun g e => by simp [e]⟩
theorem TwoX.later (h : TwoX w0 W av A1 n1 c1 xs1 A2 n2 c2 xs2) (hb : Below W.heap.size W W') : TwoX w0 W' av A1 n1 c1 xs1 A2 n2 c2 xs2 := ⟨h.r.later hb, fun g hg => Nat.lt_of_lt_of_le (h.lt g hg) hb.size, h.a1, h.a2⟩
theorem TwoX.al (h : TwoX w0 W av A1 n1 c1 xs1 A2 n2 c2 xs2) (o : Obj) : TwoX w0 (W.alloc o) av A1 n1 c1 xs1 A2 n2 c2 xs2 := h.later ((Below.refl _ _).alloc (Nat.le_refl _) _)
theorem TwoX.src (h : TwoX w0 W av A1 n1 c1 xs1 A2 n2 c2 xs2) (cs : Array Value) (T : TypeId) {size : Nat} (hs : cs.size = size) : SlA (W.alloc (.cells cs T)) av size (some ⟨W.heap.size, 0, none⟩) 1 1 cs.toList :=
 ⟨(Sl.newest rfl (by simpa using hs) (by decide)).more (by simp), fun _ b off e hb => by
  injection e with e; injection e with e1
  have := h.lt b hb
  omega⟩
theorem TwoX.app1 (h : TwoX w0 W av A1 n1 c1 xs1 A2 n2 c2 xs2) (ho : W'.ownsRow w0.heap.size 3 1 (.slice A' n' c') n' xs') (hg : W.grownBy W' (Value.slice A1 n1 c1).ownBlock) (hat : (Value.slice A' n' c').ownBlock = (Value.slice A1 n1 c1).ownBlock ∨ (Value.slice A' n' c').ownBlock = some W.heap.size) :
 ∃ av', TwoX w0 W' av' A' n' c' xs' A2 n2 c2 xs2 ∧ ∀ {sz : Nat} {A : Option Addr} {n c : Nat} {xs : List Value}, SlA W av sz A n c xs → SlA W' av' sz A n c xs := by
 rcases hat with e | e
 ·exact ⟨av, ⟨h.r.app1 ho hg, fun g k => Nat.lt_of_lt_of_le (h.lt g k) hg.size, fun g k => h.a1 g (e ▸ k), h.a2⟩, fun k => k.grown hg h.a1⟩
 ·refine ⟨W.heap.size :: av, ⟨h.r.app1 ho hg, fun g k => ?_, fun g k => by rw [e] at k; injection k with k; simp [k], fun g k => List.mem_cons_of_mem _ (h.a2 g k)⟩, fun k => (k.more (Nat.le_refl _)).grown hg fun g k => List.mem_cons_of_mem _ (h.a1 g k)⟩
  rcases List.mem_cons.1 k with rfl | k
  ·exact (ho.lt _ e).2
  ·exact Nat.lt_of_lt_of_le (h.lt g k) hg.size
theorem TwoX.app2 (h : TwoX w0 W av A1 n1 c1 xs1 A2 n2 c2 xs2) (ho : W'.ownsRow w0.heap.size 62 2 (.slice A' n' c') n' xs') (hg : W.grownBy W' (Value.slice A2 n2 c2).ownBlock) (hat : (Value.slice A' n' c').ownBlock = (Value.slice A2 n2 c2).ownBlock ∨ (Value.slice A' n' c').ownBlock = some W.heap.size) :
 ∃ av', TwoX w0 W' av' A1 n1 c1 xs1 A' n' c' xs' ∧ ∀ {sz : Nat} {A : Option Addr} {n c : Nat} {xs : List Value}, SlA W av sz A n c xs → SlA W' av' sz A n c xs := by
 rcases hat with e | e
 ·exact ⟨av, ⟨h.r.app2 ho hg, fun g k => Nat.lt_of_lt_of_le (h.lt g k) hg.size, h.a1, fun g k => h.a2 g (e ▸ k)⟩, fun k => k.grown hg h.a2⟩
 ·refine ⟨W.heap.size :: av, ⟨h.r.app2 ho hg, fun g k => ?_, fun g k => List.mem_cons_of_mem _ (h.a1 g k), fun g k => by rw [e] at k; injection k with k; simp [k]⟩, fun k => (k.more (Nat.le_refl _)).grown hg fun g k => List.mem_cons_of_mem _ (h.a2 g k)⟩
  rcases List.mem_cons.1 k with rfl | k
  ·exact (ho.lt _ e).2
  ·exact Nat.lt_of_lt_of_le (h.lt g k) hg.size
end
theorem xor64 {a b : Nat} (ha : a < 1024) (hb : b < 1024) : bits .xor .i64 (a : Int) (b : Int) = ((a ^^^ b : Nat) : Int) := by
 have hx : a ^^^ b < 2 ^ 10 := Nat.xor_lt_two_pow (by omega) (by omega)
 show IntKind.i64.wrap ((BitVec.ofInt 64 (a : Int) ^^^ BitVec.ofInt 64 (b : Int)).toNat : Int) = _
 rw [BitVec.toNat_xor, ofInt_u64 a (by omega), ofInt_u64 b (by omega)]
 exact IntWalk.i64_in _ (by omega)
theorem bit64 {b : Nat} (i : Nat) (hb : b < 1024) : bits .and .i64 ((b : Int) / 2 ^ i) 1 = if b.testBit i then 1 else 0 := by
 have e : ((b : Int) / 2 ^ i) = ((b / 2 ^ i : Nat) : Int) := by simp
 have hd : b / 2 ^ i ≤ b := Nat.div_le_self _ _
 rw [e]
 show IntKind.i64.wrap ((BitVec.ofInt 64 ((b / 2 ^ i : Nat) : Int) &&& BitVec.ofInt 64 ((1 : Nat) : Int)).toNat : Int) = _
 rw [BitVec.toNat_and, ofInt_u64 _ (by omega), ofInt_u64 1 (by omega), Nat.and_one_is_mod, Nat.testBit_eq_decide_div_mod_eq]
 have hm : b / 2 ^ i % 2 = 0 ∨ b / 2 ^ i % 2 = 1 := by omega
 rw [IntWalk.i64_in _ (by omega)]
 rcases hm with h | h <;> rw [h] <;> simp
theorem shl64 {i : Nat} (hi : i ≤ 10) : IntKind.i64.wrap (1 * 2 ^ (i : Int).toNat) = ((2 ^ i : Nat) : Int) := by
 rw [Int.toNat_natCast, Int.one_mul]
 have h : 2 ^ i ≤ 1024 := Nat.pow_le_pow_right (by decide) hi
 have e : ((2 : Int) ^ i) = ((2 ^ i : Nat) : Int) := by simp
 rw [e]
 generalize 2 ^ i = x at h
 exact IntWalk.i64_in _ (by omega)
theorem lstF_const {α : Type} (n : Nat) (x : α) : lstF n (fun _ => x) = List.replicate n x := by
 unfold lstF
 rw [List.map_const', List.length_range]
theorem run_mk_f {t e : TypeId} {z : Value} {bytes : Nat} (ht : Tryz.prog.underlying t = some (.slice e)) (hi : (Tryz.prog.info? e).map (fun i => (i.zero, i.size, i.bytes)) = some (some z, 1, bytes)) (hz : z.cells = #[z]) (n : Nat) (hn : n ≤ 1000000) (hb : bytes ≤ 100) (w : World) : (Instr.makeSlice t (.int .i64 (n : Int)) (.int .i64 (n : Int))).run Tryz.prog w = .ok (.slice (some ⟨w.heap.size, 0, none⟩) n n) (w.alloc (.cells (lstF n fun _ => z).toArray e)) := by
 have hnb : bytes * n ≤ 100 * 1000000 := Nat.mul_le_mul hb hn
 rw [run_make_row' t e z bytes ht hi hz .i64 .i64 n (by omega) (by omega) w]
 have h : madeCells #[z] n = (lstF n fun _ => z).toArray := by
  apply Array.ext'
  rw [toList_madeCells_one, lstF_const]
 rw [h]
end Go.Proofs.YtfaknfmndafllaaGreatDoor
namespace Go.Proofs.YtfaknfmndafllaaGreatDoor
open Go.RowKit
def toL (s : ByteArray) : List UInt8 := s.data.toList
def mkS (l : List UInt8) : ByteArray := ⟨l.toArray⟩
theorem toL_mk (l : List UInt8) : toL (mkS l) = l := rfl
theorem mk_toL (s : ByteArray) : mkS (toL s) = s := by obtain ⟨⟨l⟩⟩ := s; rfl
theorem toL_len (s : ByteArray) : (toL s).length = s.size := by obtain ⟨⟨l⟩⟩ := s; rfl
theorem toL_append (a b : ByteArray) : toL (a ++ b) = toL a ++ toL b := by
 obtain ⟨⟨l⟩⟩ := a; obtain ⟨⟨m⟩⟩ := b
 simp [toL]
theorem toL_inj {a b : ByteArray} (h : toL a = toL b) : a = b := by rw [← mk_toL a, h, mk_toL]
theorem size_mk (l : List UInt8) : (mkS l).size = l.length := rfl
theorem run_string_of {P : Program} {w : World} {B n c : Nat} {A : Option Addr} {l : List UInt8} {src e dst : TypeId} (hs : P.underlying src = some (.slice e)) (he : P.underlying e = some (.int .u8)) (hd : P.underlying dst = some .string)
 (h : Sl w B 1 A n c (bytesV l)) : (convert src dst (.slice A n c)).run P w = .ok (.string (mkS l)) w := by
 have hl : l.length = n := h.len (fun _ => rfl) (by decide)
 rcases Nat.eq_zero_or_pos n with h0 | h0
 ·subst h0
  have hnil : l = [] := List.eq_nil_of_length_eq_zero hl
  subst hnil
  cases A with
  | none => exact run_convert_bytes_nil w src e hs he 0 c dst hd
  | some a =>
   rw [run_convert_bytes_string w src dst e _ 0 c hs he hd]
   simp [Conv.bytesToString, mkS]
   rfl
 ·obtain ⟨b, off, x, rfl, hb, _, _⟩ := h.at1 h0
  have hc : ∀ i, i < n → w.cell? ⟨b, off + i, none⟩ = some (.int .u8 ((l.map fun x => (x.toNat : Int)).getD i 0)) := by
   intro i hi
   obtain ⟨b', off', x', e', _, hx', hc'⟩ := h.at1 hi
   injection e' with e'
   injection e' with e1 e2 _
   subst e1 e2
   rw [hc', List.getD_eq_getElem?_getD, List.getElem?_map, hx']; rfl
  rw [run_convert_bytes_arg w src e hs he b off n c (l.map fun x => (x.toNat : Int)) (by simpa using hl) hc dst hd]
  have : strOfNums (l.map fun x => (x.toNat : Int)) = mkS l := by
   simp [strOfNums, mkS]
   rw [List.map_congr_left (g := id) (fun x _ => by simp), List.map_id]
  rw [this]
end Go.Proofs.YtfaknfmndafllaaGreatDoor
