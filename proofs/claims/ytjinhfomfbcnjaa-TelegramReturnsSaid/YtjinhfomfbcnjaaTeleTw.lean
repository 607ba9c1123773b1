/-
  Bytes and telegrams that are collected side by side.
-/
import Derived.Test.YtjinhfomfbcnjaaTeleSc
namespace Go.Proofs.Ytjinhfomfbcnjaa
open Go.RowKit

/-- The row r holds the telegram t in a block from base on that none of X is. -/
def Far (w : World) (base : Nat) (X Y : Option Nat) (r : TRow) (t : Tele) : Prop :=
  r.st = t.st ∧ r.sq = t.sq ∧ Sl w w.heap.size 4 r.A r.n r.c (t.items.flatMap Item.cells) ∧ (0 < r.n → ∀ b off, r.A = some ⟨b, off, none⟩ → base ≤ b ∧ some b ≠ X ∧ some b ≠ Y)
theorem Far.keep {w w1 : World} {base : Nat} {X Y X1 Y1 : Option Nat} {r : TRow} {t : Tele} (h : Far w base X Y r t) (hs : w.heap.size ≤ w1.heap.size)
    (hk : ∀ i, i < w.heap.size → base ≤ i → some i ≠ X → some i ≠ Y → w1.heap[i]? = w.heap[i]?) (hX : ∀ i, i < w.heap.size → some i ≠ X → some i ≠ X1) (hY : ∀ i, i < w.heap.size → some i ≠ Y → some i ≠ Y1) : Far w1 base X1 Y1 r t := by
  obtain ⟨h1, h2, h3, h4⟩ := h
  refine ⟨h1, h2, ⟨h3.1, h3.2.1, h3.2.2.1, h3.2.2.2.1, fun h0 => ?_⟩, fun h0 b off e => ?_⟩
  · obtain ⟨b, off, e, hb, hc⟩ := h3.2.2.2.2 h0
    obtain ⟨g1, g2, g3⟩ := h4 h0 b off e
    exact ⟨b, off, e, by omega, fun j u hu => (World.cell?_of_block (hk b hb g1 g2 g3)).trans (hc j u hu)⟩
  · obtain ⟨b', off', e', hb, hc⟩ := h3.2.2.2.2 h0
    rw [e] at e'
    injection e' with e'
    injection e' with e1 _
    subst e1
    obtain ⟨g1, g2, g3⟩ := h4 h0 b off e
    exact ⟨g1, hX b hb g2, hY b hb g3⟩
structure Two (w : World) (base : Nat) (Aa : Option Addr) (na ca : Nat) (Al : Option Addr) (nl cl : Nat) (bs : List UInt8) (rows : List TRow) (ts : List Tele) : Prop where
  all : w.ownsRow base 5 1 (.slice Aa na ca) na (bytesV bs)
  len : rows.length = ts.length
  list : w.ownsRow base 31 3 (.slice Al nl cl) nl (rows.flatMap TRow.cells)
  far : ∀ (i : Nat) (r : TRow) (t : Tele), rows[i]? = some r → ts[i]? = some t → Far w base (Value.slice Aa na ca).ownBlock (Value.slice Al nl cl).ownBlock r t
  ne : (Value.slice Aa na ca).ownBlock = none ∨ (Value.slice Aa na ca).ownBlock ≠ (Value.slice Al nl cl).ownBlock
theorem Two.nil (w : World) (base : Nat) : Two w base none 0 0 none 0 0 [] [] [] := ⟨World.ownsRow_nil _ _ _ _, rfl, World.ownsRow_nil _ _ _ _, fun i r t h => by simp at h, .inl rfl⟩
section
variable {w w1 : World} {base na ca nl cl : Nat} {Aa Al : Option Addr} {bs : List UInt8} {rows : List TRow} {ts : List Tele}
theorem row_apart {w : World} {base size n : Nat} {e : TypeId} {v : Value} {xs : List Value} (h : w.ownsRow base e size v n xs) {row : Option Nat} (hr : ∀ g, row = some g → g < base) : v.ownBlock = none ∨ v.ownBlock ≠ row := by
  cases hv : v.ownBlock with
  | none => exact .inl rfl
  | some b => exact .inr fun e => by have := (h.lt b hv).1; have := hr b e.symm; omega
theorem Two.grown (h : Two w base Aa na ca Al nl cl bs rows ts) {row : Option Nat} (hg : w.grownBy w1 row) (hr : ∀ g, row = some g → g < base) : Two w1 base Aa na ca Al nl cl bs rows ts := by
  obtain ⟨ha, hl, ho, hf, hn⟩ := h
  refine ⟨ha.kept hg (row_apart ha hr), hl, ho.kept hg (row_apart ho hr), fun i r t h1 h2 => ?_, hn⟩
  exact (hf i r t h1 h2).keep hg.size (fun i hi hb _ _ => hg.block i hi (fun e => by have := hr i e.symm; omega)) (fun _ _ h => h) (fun _ _ h => h)
theorem Two.below (h : Two w base Aa na ca Al nl cl bs rows ts) (hb : Below w.heap.size w w1) : Two w1 base Aa na ca Al nl cl bs rows ts := h.grown (row := none) (grown_of_below hb _) (fun g e => by cases e)
theorem Two.alloc (h : Two w base Aa na ca Al nl cl bs rows ts) (o : Obj) : Two (w.alloc o) base Aa na ca Al nl cl bs rows ts := h.below ((Below.refl _ _).alloc (Nat.le_refl _) _)
theorem Two.drew (h : Two w base Aa na ca Al nl cl bs rows ts) : Two w.drew base Aa na ca Al nl cl bs rows ts := h.below (Below.refl _ _).drew
theorem Two.lens (h : Two w base Aa na ca Al nl cl bs rows ts) : bs.length = na ∧ ts.length = nl := by
  obtain ⟨ha, hl, ho, hf, hn⟩ := h
  exact ⟨(Sl.of_own ha).len (fun _ => rfl) (by decide), hl ▸ (Sl.of_own ho).len (fun _ => rfl) (by decide)⟩
theorem Two.pushAll (h : Two w base Aa na ca Al nl cl bs rows ts) {A1 : Option Addr} {n1 c1 : Nat} {bs1 : List UInt8} (ho1 : w1.ownsRow base 5 1 (.slice A1 n1 c1) n1 (bytesV bs1)) (hg : w.grownBy w1 (Value.slice Aa na ca).ownBlock)
    (hv : (Value.slice A1 n1 c1).ownBlock = (Value.slice Aa na ca).ownBlock ∨ (Value.slice A1 n1 c1).ownBlock = some w.heap.size) : Two w1 base A1 n1 c1 Al nl cl bs1 rows ts := by
  obtain ⟨ha, hl, ho, hf, hn⟩ := h
  have hne : (Value.slice Al nl cl).ownBlock = none ∨ (Value.slice Al nl cl).ownBlock ≠ (Value.slice Aa na ca).ownBlock := by
    cases hb : (Value.slice Al nl cl).ownBlock with
    | none => exact .inl rfl
    | some b => exact .inr fun e => by exact hn.elim (fun h => by rw [h] at e; cases e) (fun h => h (by rw [hb, e]))
  refine ⟨ho1, hl, ho.kept hg hne, fun i r t h1 h2 => ?_, ?_⟩
  · refine (hf i r t h1 h2).keep hg.size (fun i hi _ h1 _ => hg.block i hi h1) (fun i hi h => ?_) (fun _ _ h => h)
    rcases hv with e | e
    · rw [e]; exact h
    · rw [e]; intro e; injection e with e; omega
  · rcases hv with e | e
    · rw [e]; exact hn
    · rw [e]
      refine .inr fun e2 => ?_
      have := (ho.lt _ e2.symm).2
      omega
theorem Two.pushList (h : Two w base Aa na ca Al nl cl bs rows ts) {r : TRow} {t : Tele} (hr : Far w base (Value.slice Aa na ca).ownBlock (Value.slice Al nl cl).ownBlock r t) {A1 : Option Addr} {c1 : Nat}
    (ho1 : w1.ownsRow base 31 3 (.slice A1 (nl + 1) c1) (nl + 1) (rows.flatMap TRow.cells ++ r.cells)) (hg : w.grownBy w1 (Value.slice Al nl cl).ownBlock)
    (hv : (Value.slice A1 (nl + 1) c1).ownBlock = (Value.slice Al nl cl).ownBlock ∨ (Value.slice A1 (nl + 1) c1).ownBlock = some w.heap.size) : Two w1 base Aa na ca A1 (nl + 1) c1 bs (rows ++ [r]) (ts ++ [t]) := by
  obtain ⟨ha, hl, ho, hf, hn⟩ := h
  have hk : ∀ r t, Far w base (Value.slice Aa na ca).ownBlock (Value.slice Al nl cl).ownBlock r t → Far w1 base (Value.slice Aa na ca).ownBlock (Value.slice A1 (nl + 1) c1).ownBlock r t := fun r t h => by
    refine h.keep hg.size (fun i hi _ _ h1 => hg.block i hi h1) (fun _ _ h => h) (fun i hi h => ?_)
    rcases hv with e | e
    · rw [e]; exact h
    · rw [e]; intro e; injection e with e; omega
  refine ⟨ha.kept hg hn, by simp [hl], by simpa using ho1, fun i r' t' h1 h2 => ?_, ?_⟩
  · rcases Nat.lt_or_ge i rows.length with hlt | hge
    · rw [List.getElem?_append_left hlt] at h1
      rw [List.getElem?_append_left (by omega)] at h2
      exact hk _ _ (hf i _ _ h1 h2)
    · rw [List.getElem?_append_right hge] at h1
      rw [List.getElem?_append_right (by omega)] at h2
      have hi : i - rows.length = 0 := by
        rcases Nat.eq_zero_or_pos (i - rows.length) with h | h
        · exact h
        · rw [List.getElem?_eq_none (by simp; omega)] at h1; cases h1
      rw [hi] at h1
      rw [show i - ts.length = 0 from by omega] at h2
      simp at h1 h2
      subst h1 h2
      exact hk _ _ hr
  · rcases hv with e | e
    · rw [e]; exact hn
    · rw [e]
      cases hb : (Value.slice Aa na ca).ownBlock with
      | none => exact .inl rfl
      | some b => exact .inr fun e => by injection e with e; have := (ha.lt b hb).2; omega
theorem Two.ownT (h : Two w base Aa na ca Al nl cl bs rows ts) : OwnT w base Al nl cl ts := by
  obtain ⟨ha, hl, ho, hf, hn⟩ := h
  refine ⟨rows, hl, ho, fun i r t h1 h2 => ?_⟩
  obtain ⟨e1, e2, e3, e4⟩ := hf i r t h1 h2
  refine ⟨e1, e2, fun w' hg => ⟨e3.1, e3.2.1, e3.2.2.1, e3.2.2.2.1, fun h0 => ?_⟩⟩
  obtain ⟨b, off, e, hb, hc⟩ := e3.2.2.2.2 h0
  obtain ⟨_, _, g3⟩ := e4 h0 b off e
  exact ⟨b, off, e, hb, fun j u hu => (World.cell?_of_block (hg.block b hb g3)).trans (hc j u hu)⟩
end
/-- A telegram that was just made is apart from what was collected before. -/
theorem Far.fresh {w0 w : World} {base na ca nl cl : Nat} {Aa Al Ai : Option Addr} {ni ci : Nat} {bs : List UInt8} {rows : List TRow} {ts : List Tele} {st sq : Int} {l : List Item} (h : Two w0 base Aa na ca Al nl cl bs rows ts) (hb : base ≤ w0.heap.size) (ho : w.ownsRow w0.heap.size 38 4 (.slice Ai ni ci) ni (l.flatMap Item.cells)) :
    Far w base (Value.slice Aa na ca).ownBlock (Value.slice Al nl cl).ownBlock ⟨st, sq, Ai, ni, ci⟩ ⟨st, sq, l⟩ := by
  obtain ⟨ha, hl, hro, hf, hn⟩ := h
  refine ⟨rfl, rfl, Sl.of_own ho, fun h0 b off e => ?_⟩
  have hlt : w0.heap.size ≤ b := by
    rcases ho.2 with ⟨hv, hn⟩ | ⟨g, cap, cur, hv, hb, _⟩
    · simp only at h0; omega
    · injection hv with hv
      simp only at e
      rw [e] at hv
      injection hv with hv
      injection hv with hv
      omega
  refine ⟨by omega, fun e => ?_, fun e => ?_⟩
  · have := (ha.lt b e.symm).2; omega
  · have := (hro.lt b e.symm).2; omega
end Go.Proofs.Ytjinhfomfbcnjaa
