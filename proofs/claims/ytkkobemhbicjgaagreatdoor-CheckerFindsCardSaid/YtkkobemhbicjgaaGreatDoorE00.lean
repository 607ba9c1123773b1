import Derived.WalkKit
import Derived.WalkSpells
import Derived.WalkLawsBesides
import Derived.Lib.Hide
import Derived.Lib.SlBytesConst
import Derived.Deep.DeepMust
import Derived.Laws.OwnMore
import Derived.Laws.BitsAllLaws
import Derived.Deep.AppendLies
import Derived.Laws.AppendOwnNone
import Derived.Deep.Draws
import Derived.Deep.Onto
import Derived.Lib.AppendStr
import Derived.Lib.Strings
import Derived.Laws.BytesArg
import Derived.ProofKit
import Derived.OpenShut
namespace Go.Proofs.YtkkobemhbicjgaaGreatDoor
section
open Go.RowKit
theorem iD {p : Prop} (h : p) : Go.RowKit.Hid p := Lib.hid h
theorem lR {n : Nat} : n ≤ n := Nat.le_refl n
theorem bR {B : Nat} {w : World} : Below B w w := Below.refl B w
def Sl (w : World) (B size : Nat) (A : Option Addr) (n c : Nat) (xs : List Value) : Prop :=
 xs.length = n * size ∧ n ≤ c ∧ c ≤ 9223372036854775807 ∧ (A = none → c = 0) ∧ (0 < n → ∃ b off, A = some ⟨b, off, none⟩ ∧ b < B ∧ ∀ j u, xs[j]? = some u → w.cell? ⟨b, off + j, none⟩ = some u)
theorem yK {α : Type} {f : α → List Value} {size : Nat} (hf : ∀ x, (f x).length = size) : ∀ l : List α, (l.flatMap f).length = l.length * size
 | [] => by simp
 | x :: l => by simp only [List.flatMap_cons, List.length_append, hf, yK hf l, List.length_cons, Nat.succ_mul]; omega
theorem vl {α : Type} {f : α → List Value} {size : Nat} (hf : ∀ x, (f x).length = size) : ∀ (l : List α) (k j : Nat) (x : α), l[k]? = some x → j < size → (l.flatMap f)[k * size + j]? = (f x)[j]?
 | [], k, j, x, h, _ => by simp at h
 | y :: l, 0, j, x, h, hj => by
  simp at h; subst h
  rw [List.flatMap_cons, Nat.zero_mul, Nat.zero_add, List.getElem?_append_left (by rw [hf]; exact hj)]
 | y :: l, k + 1, j, x, h, hj => by
  simp at h
  rw [List.flatMap_cons, List.getElem?_append_right (by rw [hf, Nat.succ_mul]; omega), hf, show (k + 1) * size + j - size = k * size + j from by rw [Nat.succ_mul]; omega]
  exact vl hf l k j x h hj
section
variable {w w' : World} {B B' size n c k : Nat} {A : Option Addr} {xs : List Value} {α : Type} {f : α → List Value} {l : List α}
theorem Sl.le (h : Sl w B size A n c xs) : n ≤ c ∧ c ≤ 9223372036854775807 := ⟨h.2.1, h.2.2.1⟩
theorem Sl.len (h : Sl w B size A n c (l.flatMap f)) (hf : ∀ x, (f x).length = size) (hs : 0 < size) : l.length = n := by
 have := h.1
 rw [yK hf] at this
 exact Nat.eq_of_mul_eq_mul_right hs this
theorem Sl.keep (h : Sl w B size A n c xs) (hk : ∀ p : Addr, p.block < B → w'.cell? p = w.cell? p) : Sl w' B size A n c xs :=
 ⟨h.1, h.2.1, h.2.2.1, h.2.2.2.1, fun hn => by
  obtain ⟨b, off, e, hb, hc⟩ := h.2.2.2.2 hn
  exact ⟨b, off, e, hb, fun j u hu => (hk _ hb).trans (hc j u hu)⟩⟩
theorem Sl.more (h : Sl w B size A n c xs) (hB : B ≤ B') : Sl w B' size A n c xs :=
 ⟨h.1, h.2.1, h.2.2.1, h.2.2.2.1, fun hn => by
  obtain ⟨b, off, e, hb, hc⟩ := h.2.2.2.2 hn
  exact ⟨b, off, e, by omega, hc⟩⟩
theorem Sl.below (h : Sl w B size A n c xs) (hb : Below B' w w') (hB : B ≤ B') : Sl w' B size A n c xs := h.keep fun _ hp => hb.cell (by omega)
theorem Sl.alloc (h : Sl w B size A n c xs) (hB : B ≤ w.heap.size) (o : Obj) : Sl (w.alloc o) B size A n c xs := h.keep fun p hp => World.cell?_alloc_lt w o p (by omega)
theorem Sl.drew (h : Sl w B size A n c xs) : Sl w.drew B size A n c xs := h
theorem Sl.drewN (h : Sl w B size A n c xs) (m : Nat) : Sl (w.drewN m) B size A n c xs := h
theorem Sl.setCell (h : Sl w B size A n c xs) {p : Addr} (hB : B ≤ p.block) (u : Value) : Sl (w.setCell p u) B size A n c xs :=
 h.keep fun q hq => World.cell?_setCell_other w p q u (fun e => by subst e; omega)
theorem Sl.grown (h : Sl w B size A n c xs) {row : Option Nat} (hg : w.grownBy w' row) (hB : B ≤ w.heap.size) (hr : ∀ g, row = some g → B ≤ g) : Sl w' B size A n c xs :=
 h.keep fun p hp => World.cell?_of_block (hg.block p.block (by omega) (fun e => by have := hr _ e.symm; omega))
theorem Sl.nil (w : World) (B size : Nat) : Sl w B size none 0 0 [] := ⟨by simp, Nat.le_refl _, by omega, fun _ => rfl, fun h => absurd h (by omega)⟩
theorem Sl.of_own {base : Nat} {e : TypeId} (h : w.ownsRow base e size (.slice A n c) n xs) : Sl w w.heap.size size A n c xs := by
 rcases h.2 with ⟨hv, hn⟩ | ⟨g, cap, cur, hv, hb, hh, hnc, hm, hs, ht⟩
 ·injection hv with h1 h2 h3
  subst h1 h3 hn
  exact ⟨h.1, Nat.le_refl _, by omega, fun _ => rfl, fun h => absurd h (by omega)⟩
 ·injection hv with h1 h2 h3
  subst h1 h3
  refine ⟨h.1, hnc, by simpa [maxLen] using hm, (fun e => by cases e), fun hn => ⟨g, 0, rfl, ?_, fun j u hu => ?_⟩⟩
  ·exact (h.lt g rfl).2
  ·have := h.cells (g := g) rfl j u hu
   have e : ((⟨g, 0, none⟩ : Addr).add j) = ⟨g, 0 + j, none⟩ := by
    unfold Addr.add
    split
    ·simp
    ·rfl
   rw [← e]; exact this
theorem Sl.at (h : Sl w B size A n c (l.flatMap f)) (hf : ∀ x, (f x).length = size) (hs : 0 < size) (hk : k < n) :
 ∃ b off x, A = some ⟨b, off, none⟩ ∧ b < B ∧ l[k]? = some x ∧ ∀ j u, (f x)[j]? = some u → w.cell? ⟨b, off + k * size + j, none⟩ = some u := by
 obtain ⟨b, off, e, hb, hc⟩ := h.2.2.2.2 (by omega)
 have hl := h.len hf hs
 refine ⟨b, off, l[k]'(by omega), e, hb, List.getElem?_eq_getElem (by omega), fun j u hu => ?_⟩
 have hj : j < size := by rw [← hf (l[k]'(by omega))]; exact (List.getElem?_eq_some_iff.1 hu).1
 have := hc (k * size + j) u (by rw [vl hf l k j _ (List.getElem?_eq_getElem (by omega)) hj]; exact hu)
 rw [Nat.add_assoc]; exact this
theorem Sl.at1 {g : α → Value} (h : Sl w B 1 A n c (l.flatMap fun x => [g x])) (hk : k < n) :
 ∃ b off x, A = some ⟨b, off, none⟩ ∧ b < B ∧ l[k]? = some x ∧ w.cell? ⟨b, off + k, none⟩ = some (g x) := by
 obtain ⟨b, off, x, e, hb, hx, hc⟩ := h.at (fun _ => rfl) (by decide) hk
 exact ⟨b, off, x, e, hb, hx, by have := hc 0 _ rfl; rw [Nat.mul_one] at this; exact this⟩
end
theorem xC (b off j : Nat) : ((⟨b, off, none⟩ : Addr).add j) = ⟨b, off + j, none⟩ := by
 unfold Addr.add
 split
 ·simp
 ·rfl
theorem Sl.newest {w : World} {cs : Array Value} {T : TypeId} {fr : Nat × Nat} {n size H : Nat} (hH : w.heap.size = H) (hc : cs.size = n * size) (hn : n ≤ 9223372036854775807) :
 Sl (w.alloc (.cells cs T fr)) (H + 1) size (some ⟨H, 0, none⟩) n n cs.toList := by
 subst hH
 refine ⟨by simpa using hc, Nat.le_refl _, hn, (fun e => by cases e), fun _ => ⟨_, 0, rfl, by omega, fun j u hu => ?_⟩⟩
 have := World.news_of_block (heap_alloc_new w (.cells cs T fr)) j u hu
 rw [xC] at this
 exact this
structure yg (P : Program) (t e : TypeId) (size bytes : Nat) : Prop where
 ht : P.underlying t = some (.slice e)
 ex : ∃ i z, P.info? e = some i ∧ i.zero = some z ∧ i.size = size ∧ i.bytes = bytes ∧ z.cells.size = size
 pos : 0 < size
theorem yg.mk' {P : Program} {t e : TypeId} {size bytes : Nat} {z : Value} (ht : P.underlying t = some (.slice e)) (h : (P.info? e).map (fun i => (i.zero, i.size, i.bytes)) = some (some z, size, bytes)) (hz : z.cells.size = size) (hp : 0 < size) : yg P t e size bytes := by
 obtain ⟨i, h1, h2, h3, h4⟩ := info_parts h
 exact ⟨ht, ⟨i, z, h1, h2, h3, h4, hz⟩, hp⟩
section
variable {P : Program} {w : World} {t e : TypeId} {size bytes : Nat}
theorem iG (E : yg P t e size bytes) (ty : TypeId) {base : Nat} {v : Value} {n : Nat} {xs : List Value} (hown : w.ownsRow base e size v n xs) {Bx : Nat} {Ax : Option Addr} {m c : Nat} {news : List Value} (hsrc : Sl w Bx size Ax m c news)
 (h1 : ∀ u ∈ news, u.oneCell' = true) (hby : (n + m) * bytes ≤ 140737488355328) (h63 : n + m ≤ 9223372036854775807) (hbase : base ≤ w.heap.size) :
 ∃ A' cap w', (Builtin.append_ #[t, t] ty #[v, .slice Ax m c]).run P w = .ok (.slice A' (n + m) cap) w' ∧ w'.ownsRow base e size (.slice A' (n + m) cap) (n + m) (xs ++ news) ∧ w.grownBy w' v.ownBlock ∧
  ((Value.slice A' (n + m) cap).ownBlock = v.ownBlock ∨ (Value.slice A' (n + m) cap).ownBlock = some w.heap.size) := by
 obtain ⟨ht, ⟨i, z, hi, hz, hs, hb, hzc⟩, hp⟩ := E
 have shape : ∀ (v' : Value) (w' : World), w'.ownsRow base e size v' (n + m) (xs ++ news) → ∃ A' cap, v' = .slice A' (n + m) cap := by
  intro v' w' h
  rcases h.2 with ⟨hv, hn⟩ | ⟨g, cap, cur, hv, _⟩
  ·exact ⟨none, 0, by rw [hv, hn]⟩
  ·exact ⟨_, cap, hv⟩
 cases Ax with
 | none =>
  have hc0 := hsrc.2.2.2.1 rfl
  have hm0 : m = 0 := by have := hsrc.2.1; omega
  subst hc0 hm0
  have hnil : news = [] := List.eq_nil_of_length_eq_zero (by simpa using hsrc.1)
  subst hnil
  have hr := run_append_owned_none (P := P) (w := w) base t ty e i size ht hi v n xs hown
  obtain ⟨A', cap, hv⟩ := shape v w (by simpa using hown)
  refine ⟨A', cap, w, by rw [hr, hv], by rw [← hv]; simpa using hown, ⟨rfl, rfl, rfl, Nat.le_refl _, fun _ _ _ => rfl⟩, .inl (by rw [hv])⟩
 | some a =>
  have hl : news.length = m * size := hsrc.1
  have hnews : ∀ j u, news[j]? = some u → w.cell? (a.add j) = some u := by
   intro j u hu
   have hj : j < news.length := (List.getElem?_eq_some_iff.1 hu).1
   have hm : 0 < m := by
    rcases Nat.eq_zero_or_pos m with h0 | h0
    ·subst h0; omega
    ·exact h0
   obtain ⟨b, off, ha, _, hc⟩ := hsrc.2.2.2.2 hm
   injection ha with ha
   subst ha
   rw [xC]; exact hc j u hu
  obtain ⟨v', w', hr, h2, h3, _, h5⟩ := run_append_own_at (P := P) w base t ty e i z size bytes ht hi hz hs hb hzc hp v n xs hown a m c news hl hnews h1 (by simpa [maxLen] using h63) hby hbase
  obtain ⟨A', cap, rfl⟩ := shape v' w' h2
  exact ⟨A', cap, w', hr, h2, h3, h5⟩
variable {o : Oper} {a : Act}
theorem kG {K : Act → World → Prop} {Q : Exit → Act → World → Prop} (s x : Operand) (ho : o.op = .call { callee := .builtin .append, args := #[s, x], argTypes := #[t, t] })
 (E : yg P t e size bytes) {base : Nat} {v : Value} {n : Nat} {xs : List Value} (hs : a.eval s = v) (hown : w.ownsRow base e size v n xs) {Bx : Nat} {Ax : Option Addr} {m c : Nat} {news : List Value} (hx : a.eval x = .slice Ax m c) (hsrc : Sl w Bx size Ax m c news)
 (h1 : ∀ u ∈ news, u.oneCell' = true) (hby : (n + m) * bytes ≤ 140737488355328) (h63 : n + m ≤ 9223372036854775807) (hbase : base ≤ w.heap.size)
 (h : ∀ A' cap w', w'.ownsRow base e size (.slice A' (n + m) cap) (n + m) (xs ++ news) → w.grownBy w' v.ownBlock → ((Value.slice A' (n + m) cap).ownBlock = v.ownBlock ∨ (Value.slice A' (n + m) cap).ownBlock = some w.heap.size) → K (a.put o.dst (.slice A' (n + m) cap)) w') : o.wp P a w K Q := by
 obtain ⟨A', cap, w', hr, h2, h3, h4⟩ := iG E o.type hown hsrc h1 hby h63 hbase
 unfold Oper.wp execOp
 simp only [ho, resolve, invoke, builtin, Sem.run_bind, Sem.run_pure, Result.andThen_ok, List.map_toArray, List.map_cons, List.map_nil, hs, hx, hr]
 exact h A' cap w' h2 h3 h4
theorem zR {ops : Array Oper} {rest : List Oper} {Q : Exit → Act → World → Prop} (hgd : o.guard = none) (s x : Operand) (ho : o.op = .call { callee := .builtin .append, args := #[s, x], argTypes := #[t, t] })
 (E : yg P t e size bytes) {base : Nat} {v : Value} {n : Nat} {xs : List Value} (hs : a.eval s = v) (hown : w.ownsRow base e size v n xs) {Bx : Nat} {Ax : Option Addr} {m c : Nat} {news : List Value} (hx : a.eval x = .slice Ax m c) (hsrc : Sl w Bx size Ax m c news)
 (h1 : ∀ u ∈ news, u.oneCell' = true) (hby : (n + m) * bytes ≤ 140737488355328) (h63 : n + m ≤ 9223372036854775807) (hbase : base ≤ w.heap.size)
 (h : ∀ A' cap w', w'.ownsRow base e size (.slice A' (n + m) cap) (n + m) (xs ++ news) → w.grownBy w' v.ownBlock → ((Value.slice A' (n + m) cap).ownBlock = v.ownBlock ∨ (Value.slice A' (n + m) cap).ownBlock = some w.heap.size) → wpList P ops Q rest (a.put o.dst (.slice A' (n + m) cap)) w') : wpList P ops Q (o :: rest) a w :=
 wpList_plain hgd fun _ hK => kG s x ho E hs hown hx hsrc h1 hby h63 hbase fun A' cap w' h2 h3 h4 => hK _ _ (h A' cap w' h2 h3 h4)
theorem kI {ops : Array Oper} {K : Act → World → Prop} {Q : Exit → Act → World → Prop} {F : Prop} (hgd : o.guard = none) (s x : Operand) (ho : o.op = .call { callee := .builtin .append, args := #[s, x], argTypes := #[t, t] })
 (E : yg P t e size bytes) {base : Nat} {v : Value} {n : Nat} {xs : List Value} (hs : a.eval s = v) (hown : w.ownsRow base e size v n xs) {Bx : Nat} {Ax : Option Addr} {m c : Nat} {news : List Value} (hx : a.eval x = .slice Ax m c) (hsrc : Sl w Bx size Ax m c news)
 (h1 : ∀ u ∈ news, u.oneCell' = true) (hby : (n + m) * bytes ≤ 140737488355328) (h63 : n + m ≤ 9223372036854775807) (hbase : base ≤ w.heap.size)
 (h : ∀ A' cap w', w'.ownsRow base e size (.slice A' (n + m) cap) (n + m) (xs ++ news) → w.grownBy w' v.ownBlock → ((Value.slice A' (n + m) cap).ownBlock = v.ownBlock ∨ (Value.slice A' (n + m) cap).ownBlock = some w.heap.size) → K (a.put o.dst (.slice A' (n + m) cap)) w') :
 if Region.wanted o (yielded ops a.tmps) = true then Oper.wp P o a w K Q else F := by
 rw [if_pos (by simp [Region.wanted, hgd])]
 exact kG s x ho E hs hown hx hsrc h1 hby h63 hbase h
end
theorem kf {w : World} {base : Nat} {e : TypeId} {size : Nat} {A : Option Addr} {n c : Nat} {xs : List Value} (h : w.ownsRow base e size (.slice A n c) n xs) : ∀ g, (Value.slice A n c).ownBlock = some g → base ≤ g ∧ g < w.heap.size := h.lt
def Blk (w : World) (g : Nat) (t : TypeId) (cs : Array Value) : Prop := w.heap[g]? = some (.cells cs t (0, 0))
section
variable {w w' : World} {g : Nat} {t : TypeId} {cs : Array Value}
theorem Blk.lt (h : Blk w g t cs) : g < w.heap.size := (Array.getElem?_eq_some_iff.1 h).1
theorem Blk.cell (h : Blk w g t cs) (i : Nat) : w.cell? ⟨g, i, none⟩ = cs[i]? := cell_of_row w g i cs t (0, 0) h
theorem Blk.c0 {w : World} {g : Nat} {t : TypeId} {v0 : Value} {l : List Value} (h : Blk w g t (v0 :: l).toArray) : w.cell? ⟨g, 0, none⟩ = some v0 := h.cell 0
theorem Blk.c1 {w : World} {g : Nat} {t : TypeId} {v0 v1 : Value} {l : List Value} (h : Blk w g t (v0 :: v1 :: l).toArray) : w.cell? ⟨g, 1, none⟩ = some v1 := h.cell 1
theorem Blk.c2 {w : World} {g : Nat} {t : TypeId} {v0 v1 v2 : Value} {l : List Value} (h : Blk w g t (v0 :: v1 :: v2 :: l).toArray) : w.cell? ⟨g, 2, none⟩ = some v2 := h.cell 2
theorem Blk.c3 {w : World} {g : Nat} {t : TypeId} {v0 v1 v2 v3 : Value} {l : List Value} (h : Blk w g t (v0 :: v1 :: v2 :: v3 :: l).toArray) : w.cell? ⟨g, 3, none⟩ = some v3 := h.cell 3
theorem Blk.c4 {w : World} {g : Nat} {t : TypeId} {v0 v1 v2 v3 v4 : Value} {l : List Value} (h : Blk w g t (v0 :: v1 :: v2 :: v3 :: v4 :: l).toArray) : w.cell? ⟨g, 4, none⟩ = some v4 := h.cell 4
theorem Blk.c5 {w : World} {g : Nat} {t : TypeId} {v0 v1 v2 v3 v4 v5 : Value} {l : List Value} (h : Blk w g t (v0 :: v1 :: v2 :: v3 :: v4 :: v5 :: l).toArray) : w.cell? ⟨g, 5, none⟩ = some v5 := h.cell 5
theorem Blk.c6 {w : World} {g : Nat} {t : TypeId} {v0 v1 v2 v3 v4 v5 v6 : Value} {l : List Value} (h : Blk w g t (v0 :: v1 :: v2 :: v3 :: v4 :: v5 :: v6 :: l).toArray) : w.cell? ⟨g, 6, none⟩ = some v6 := h.cell 6
theorem Blk.c7 {w : World} {g : Nat} {t : TypeId} {v0 v1 v2 v3 v4 v5 v6 v7 : Value} {l : List Value} (h : Blk w g t (v0 :: v1 :: v2 :: v3 :: v4 :: v5 :: v6 :: v7 :: l).toArray) : w.cell? ⟨g, 7, none⟩ = some v7 := h.cell 7
theorem Blk.c8 {w : World} {g : Nat} {t : TypeId} {v0 v1 v2 v3 v4 v5 v6 v7 v8 : Value} {l : List Value} (h : Blk w g t (v0 :: v1 :: v2 :: v3 :: v4 :: v5 :: v6 :: v7 :: v8 :: l).toArray) : w.cell? ⟨g, 8, none⟩ = some v8 := h.cell 8
theorem Blk.c9 {w : World} {g : Nat} {t : TypeId} {v0 v1 v2 v3 v4 v5 v6 v7 v8 v9 : Value} {l : List Value} (h : Blk w g t (v0 :: v1 :: v2 :: v3 :: v4 :: v5 :: v6 :: v7 :: v8 :: v9 :: l).toArray) : w.cell? ⟨g, 9, none⟩ = some v9 := h.cell 9
theorem Blk.frozen (h : Blk w g t cs) (i : Nat) : w.frozen? ⟨g, i, none⟩ = false := by unfold Blk at h; simp [World.frozen?, h]
theorem Blk.new (w : World) (t : TypeId) (cs : Array Value) : Blk (w.alloc (.cells cs t)) w.heap.size t cs := heap_alloc_new w _
theorem Blk.keep (h : Blk w g t cs) (e : w'.heap[g]? = w.heap[g]?) : Blk w' g t cs := e.trans h
theorem Blk.alloc (h : Blk w g t cs) (o : Obj) : Blk (w.alloc o) g t cs := h.keep (Below.heap_alloc w o g h.lt)
theorem Blk.set (h : Blk w g t cs) (i : Nat) (u : Value) : Blk (w.setCell ⟨g, i, none⟩ u) g t (cs.setIfInBounds i u) := by
 unfold Blk at h ⊢
 simp [World.setCell, Array.getElem?_modify, h]
theorem Blk.far (h : Blk w g t cs) {p : Addr} (hp : g ≠ p.block) (u : Value) : Blk (w.setCell p u) g t cs := h.keep (Below.heap_setCell w p u g hp)
theorem Blk.below {B : Nat} (h : Blk w g t cs) (hb : Below B w w') (hg : g < B) : Blk w' g t cs := h.keep (hb.block g hg)
theorem Blk.grown {row : Option Nat} (h : Blk w g t cs) (hb : w.grownBy w' row) (hg : some g ≠ row) : Blk w' g t cs := h.keep (hb.block g h.lt hg)
end
theorem yz (w : World) (row : Option Nat) : w.grownBy w row := ⟨rfl, rfl, rfl, Nat.le_refl _, fun _ _ _ => rfl⟩
theorem zM {a b c : World} {row : Option Nat} (h : a.grownBy b row) (k : b.grownBy c row) : a.grownBy c row :=
 ⟨k.os.trans h.os, k.tape.trans h.tape, k.output.trans h.output, Nat.le_trans h.size k.size, fun i hi hne => (k.block i (Nat.lt_of_lt_of_le hi h.size) hne).trans (h.block i hi hne)⟩
theorem vj {a b c : World} {row row' : Option Nat} (h : a.grownBy b row) (k : b.grownBy c row') (hr : ∀ g, row' = some g → a.heap.size ≤ g) : a.grownBy c row :=
 ⟨k.os.trans h.os, k.tape.trans h.tape, k.output.trans h.output, Nat.le_trans h.size k.size, fun i hi hne => (k.block i (Nat.lt_of_lt_of_le hi h.size) (fun e => by have := hr _ e.symm; omega)).trans (h.block i hi hne)⟩
theorem zg {a b : World} {row : Option Nat} (h : a.grownBy b row) {p : Addr} (hp : a.heap.size ≤ p.block) (u : Value) : a.grownBy (b.setCell p u) row :=
 ⟨h.os, h.tape, h.output, by simpa [World.setCell] using h.size, fun i hi hne => (Below.heap_setCell b p u i (by omega)).trans (h.block i hi hne)⟩
theorem nI {a b : World} {row : Option Nat} (h : a.grownBy b row) : a.grownBy b.drew row := ⟨h.os, h.tape, h.output, h.size, h.block⟩
theorem tW {B : Nat} {a b : World} (h : Below B a b) (n : Nat) : Below B a (b.drewN n) := ⟨h.os, h.tape, h.output, h.size, h.block⟩
theorem zL {a b : World} (h : Below a.heap.size a b) (row : Option Nat) : a.grownBy b row := ⟨h.os, h.tape, h.output, h.size, fun i hi _ => h.block i hi⟩
theorem zz {a b : World} {g B : Nat} (h : a.grownBy b (some g)) (hB : B ≤ g) (hs : B ≤ a.heap.size) : Below B a b :=
 ⟨h.os, h.tape, h.output, h.size, fun i hi => h.block i (by omega) (fun e => by injection e; omega)⟩
def jk (l : List UInt8) : List Value := l.flatMap fun x => [Value.int .u8 x.toNat]
def zD (l : List Int) : List Value := l.flatMap fun x => [Value.int .i64 x]
theorem zE {k : IntKind} {a b : Int} (h : a = b) : Ending.returned (.int k a) = .returned (.int k b) := by rw [h]
theorem zG {a b : Bool} (h : a = b) : Ending.returned (.bool a) = .returned (.bool b) := by rw [h]
theorem zQ {α : Type} {l : List α} {k : Nat} {x : α} (h : l[k]? = some x) : l.take (k + 1) = l.take k ++ [x] := by
 rw [List.take_add_one, h]; rfl
end
section
open Go.RowKit
def toL (s : ByteArray) : List UInt8 := s.data.toList
def mkS (l : List UInt8) : ByteArray := ⟨l.toArray⟩
theorem wb (l : List UInt8) : toL (mkS l) = l := rfl
theorem kx (s : ByteArray) : mkS (toL s) = s := by obtain ⟨⟨l⟩⟩ := s; rfl
theorem rv (s : ByteArray) : (toL s).length = s.size := by obtain ⟨⟨l⟩⟩ := s; rfl
theorem oR (a b : ByteArray) : toL (a ++ b) = toL a ++ toL b := by
 obtain ⟨⟨l⟩⟩ := a; obtain ⟨⟨m⟩⟩ := b
 simp [toL]
theorem iA {a b : ByteArray} (h : toL a = toL b) : a = b := by rw [← kx a, h, kx]
theorem rz (l : List UInt8) : (mkS l).size = l.length := rfl
theorem rE {P : Program} {w : World} {B n c : Nat} {A : Option Addr} {l : List UInt8} {src e dst : TypeId} (hs : P.underlying src = some (.slice e)) (he : P.underlying e = some (.int .u8)) (hd : P.underlying dst = some .string)
 (h : Sl w B 1 A n c (jk l)) : (convert src dst (.slice A n c)).run P w = .ok (.string (mkS l)) w := by
 have hl : l.length = n := h.len (fun _ => rfl) (by decide)
 rcases Nat.eq_zero_or_pos n with h0 | h0
 ·subst h0
  have hnil : l = [] := List.eq_nil_of_length_eq_zero hl
  subst hnil
  cases A with
  | none => exact run_convert_bytes_nil w src e hs he 0 c dst hd
  | some a =>
   rw [run_convert_bytes_string w src dst e _ 0 c hs he hd]
   simp [Conv.bytesToString, mkS]
   rfl
 ·obtain ⟨b, off, x, rfl, hb, _, _⟩ := h.at1 h0
  have hc : ∀ i, i < n → w.cell? ⟨b, off + i, none⟩ = some (.int .u8 ((l.map fun x => (x.toNat : Int)).getD i 0)) := by
   intro i hi
   obtain ⟨b', off', x', e', _, hx', hc'⟩ := h.at1 hi
   injection e' with e'
   injection e' with e1 e2 _
   subst e1 e2
   rw [hc', List.getD_eq_getElem?_getD, List.getElem?_map, hx']; rfl
  rw [run_convert_bytes_arg w src e hs he b off n c (l.map fun x => (x.toNat : Int)) (by simpa using hl) hc dst hd]
  have : strOfNums (l.map fun x => (x.toNat : Int)) = mkS l := by
   simp [strOfNums, mkS]
   rw [List.map_congr_left (g := id) (fun x _ => by simp), List.map_id]
  rw [this]
end
section
open Go.ChangeShapes Go.WideShapes Go.ChangeAt Go.RowKit
section
variable {H : Type} {enc : TypeId × Value → H} {P : Program} {W : World} {base b : Nat} {sp : Nat → Bool} {hd : Bool} {r : Reach}
theorem wK {w : World} {a : Addr} {v : Value} (h : w.cell? a = some v) : a.block < w.heap.size := by
 rcases Nat.lt_or_ge a.block w.heap.size with h' | h'
 ·exact h'
 ·simp [World.cell?, Array.getElem?_eq_none h'] at h
theorem kr {k : IntKind} {t e : TypeId} {v : Value} {d : DataW H} {p : List MemPlace} (ht : P.underlying t = some (.slice e)) (he : P.underlying e = some (.int k)) (hc : P.cellsOf e = 1) (hv : Value.okWide P W r b t v) (h : DataW.Trod enc P W base sp hd t v d p) :
 ∃ (A : Option Addr) (n c : Nat) (zs : List Int), v = .slice A n c ∧ Sl W W.heap.size 1 A n c (zs.flatMap fun z => [Value.int k z]) ∧ ∀ z ∈ zs, (Lit.int k z).wf = true := by
 obtain ⟨A, n, c, rfl⟩ := okWide_slice ht hv
 obtain ⟨fuel, hf⟩ := h
 rcases open_ints ht he hc hf with ⟨hcs, _⟩ | ⟨x, l, c', zs, hcs, _, hl, hm, hz, _, hcell, hwz⟩
 ·simp [Value.cells] at hcs
  obtain ⟨rfl, rfl, rfl⟩ := hcs
  exact ⟨none, 0, 0, [], rfl, Sl.nil _ _ _, fun z hz => by cases hz⟩
 ·simp [Value.cells] at hcs
  obtain ⟨rfl, rfl, rfl⟩ := hcs
  have hn : n ≤ zs.length := by rw [hz]; split <;> omega
  refine ⟨some x, n, c, zs.take n, rfl, ⟨?_, hl, by simpa [maxLen] using hm, (fun e => by cases e), fun h0 => ?_⟩, fun z hz => hwz z (List.mem_of_mem_take hz)⟩
  ·rw [yK (size := 1) (fun _ => rfl), List.length_take]; omega
  ·obtain ⟨g, off, spot⟩ := x
   have h00 := hcell 0 (by omega)
   have hspot : spot = none := by simpa [Addr.add] using World.cell?_spot h00
   subst hspot
   have hlt : g < W.heap.size := by have := wK h00; simpa [Addr.add] using this
   refine ⟨g, off, rfl, hlt, fun j u hu => ?_⟩
   have hj : j < (zs.take n).length := by
    have := (List.getElem?_eq_some_iff.1 hu).1
    rwa [yK (size := 1) (fun _ => rfl), Nat.mul_one] at this
   have hat := vl (f := fun z : Int => [Value.int k z]) (size := 1) (fun _ => rfl) (zs.take n) j 0 _ (List.getElem?_eq_getElem hj) (by decide)
   rw [Nat.mul_one, Nat.add_zero] at hat
   rw [hat] at hu
   simp only [List.length_take] at hj
   have hc := hcell j (by omega)
   rw [xC] at hc
   rw [hc, ← hu]
   simp only [List.getElem?_cons_zero, List.getElem_take, List.getD_eq_getElem?_getD]
   rw [List.getElem?_eq_getElem (by omega)]; rfl
theorem open_ints_Sl {t e : TypeId} {v : Value} {d : DataW H} {p : List MemPlace} (ht : P.underlying t = some (.slice e)) (he : P.underlying e = some (.int .i64)) (hc : P.cellsOf e = 1) (hv : Value.okWide P W r b t v) (h : DataW.Trod enc P W base sp hd t v d p) :
 ∃ (A : Option Addr) (n c : Nat) (zs : List Int), v = .slice A n c ∧ Sl W W.heap.size 1 A n c (zD zs) ∧ ∀ z ∈ zs, (Lit.int .i64 z).wf = true := kr ht he hc hv h
end
end
end Go.Proofs.YtkkobemhbicjgaaGreatDoor
