import Derived.Test.YtkkobemhbicjgaaGreatDoorE02
namespace Go.Proofs.YtkkobemhbicjgaaGreatDoor
open Go.RowKit
theorem ic : yg Tryz.prog 65 22 1 24 := yg.mk' (z := .slice none 0 0) Tryz.underlying65 (by kernel_rfl) rfl (by decide)
def yW (w : World) (B : Nat) (A : Option Addr) (n c : Nat) (ls : List (List Int)) : Prop :=
 ∃ vs : List Value, Sl w B 1 A n c vs ∧ ls.length = n ∧ ∀ (i : Nat) (l : List Int), ls[i]? = some l → ∃ (A' : Option Addr) (c' : Nat), vs[i]? = some (Value.slice A' l.length c') ∧ Sl w B 1 A' l.length c' (zD l)
section
variable {w w' : World} {B B' n c i : Nat} {A : Option Addr} {ls : List (List Int)}
theorem yW.len (h : yW w B A n c ls) : ls.length = n := by obtain ⟨vs, _, hl, _⟩ := h; exact hl
theorem yW.le (h : yW w B A n c ls) : n ≤ c ∧ c ≤ 9223372036854775807 := by obtain ⟨vs, h1, _⟩ := h; exact h1.le
theorem yW.below (h : yW w B A n c ls) (hb : Below B' w w') (hB : B ≤ B') : yW w' B A n c ls := by
 obtain ⟨vs, h1, h2, h3⟩ := h
 refine ⟨vs, h1.below hb hB, h2, fun i l hl => ?_⟩
 obtain ⟨A', c', h4, h5⟩ := h3 i l hl
 exact ⟨A', c', h4, h5.below hb hB⟩
theorem yW.more (h : yW w B A n c ls) (hB : B ≤ B') : yW w B' A n c ls := by
 obtain ⟨vs, h1, h2, h3⟩ := h
 refine ⟨vs, h1.more hB, h2, fun i l hl => ?_⟩
 obtain ⟨A', c', h4, h5⟩ := h3 i l hl
 exact ⟨A', c', h4, h5.more hB⟩
theorem yW.at (h : yW w B A n c ls) (hi : i < n) : ∃ b off l A' c', A = some ⟨b, off, none⟩ ∧ b < B ∧ ls[i]? = some l ∧ w.cell? ⟨b, off + i, none⟩ = some (Value.slice A' l.length c') ∧ Sl w B 1 A' l.length c' (zD l) := by
 obtain ⟨vs, h1, h2, h3⟩ := h
 obtain ⟨b, off, e, hb, hc⟩ := h1.2.2.2.2 (by omega)
 have hl : ls[i]? = some (ls[i]'(by omega)) := List.getElem?_eq_getElem (by omega)
 obtain ⟨A', c', h4, h5⟩ := h3 i _ hl
 exact ⟨b, off, _, A', c', e, hb, hl, hc i _ h4, h5⟩
end
def xD (w : World) (base : Nat) (A : Option Addr) (n c : Nat) (ls : List (List Int)) (vs : List Value) : Prop :=
 w.ownsRow base 22 1 (.slice A n c) n vs ∧ ls.length = n ∧ ∀ (i : Nat) (l : List Int), ls[i]? = some l → ∃ (A' : Option Addr) (c' : Nat), vs[i]? = some (Value.slice A' l.length c') ∧ Sl w w.heap.size 1 A' l.length c' (zD l) ∧ ∀ b off, A' = some ⟨b, off, none⟩ → b < w.heap.size ∧ some b ≠ (Value.slice A n c).ownBlock
section
variable {w w' : World} {base n c i : Nat} {A : Option Addr} {ls : List (List Int)} {vs : List Value}
theorem xD.nil (w : World) (base : Nat) : xD w base none 0 0 [] [] := ⟨World.ownsRow_nil _ _ _ _, rfl, fun i l h => by simp at h⟩
theorem xD.read (h : xD w base A n c ls vs) : yW w w.heap.size A n c ls := by
 obtain ⟨h1, h2, h3⟩ := h
 refine ⟨vs, Sl.of_own h1, h2, fun i l hl => ?_⟩
 obtain ⟨A', c', h4, h5, _⟩ := h3 i l hl
 exact ⟨A', c', h4, h5⟩
theorem xD.kept (h : xD w base A n c ls vs) {B : Nat} (hb : Below B w w') (hB : w.heap.size ≤ B) : xD w' base A n c ls vs := by
 obtain ⟨h1, h2, h3⟩ := h
 have hb' : Below w.heap.size w w' := hb.mono hB
 refine ⟨zt h1 hb', h2, fun i l hl => ?_⟩
 obtain ⟨A', c', h4, h5, h6⟩ := h3 i l hl
 exact ⟨A', c', h4, (h5.below hb' lR).more hb'.size, fun b off e => ⟨Nat.lt_of_lt_of_le (h6 b off e).1 hb'.size, (h6 b off e).2⟩⟩
theorem xD.lt (h : xD w base A n c ls vs) : ∀ g, (Value.slice A n c).ownBlock = some g → base ≤ g ∧ g < w.heap.size := h.1.lt
theorem xD.app (h : xD w base A n c ls vs) {A1 An : Option Addr} {c1 cn : Nat} {l : List Int} (hown : w'.ownsRow base 22 1 (.slice A1 (n + 1) c1) (n + 1) (vs ++ [.slice An l.length cn])) (hg : w.grownBy w' (Value.slice A n c).ownBlock)
 (hat : (Value.slice A1 (n + 1) c1).ownBlock = (Value.slice A n c).ownBlock ∨ (Value.slice A1 (n + 1) c1).ownBlock = some w.heap.size) (hl : Sl w w.heap.size 1 An l.length cn (zD l)) (hlt : ∀ b off, An = some ⟨b, off, none⟩ → b < w.heap.size ∧ some b ≠ (Value.slice A n c).ownBlock) : xD w' base A1 (n + 1) c1 (ls ++ [l]) (vs ++ [.slice An l.length cn]) := by
 obtain ⟨h1, h2, h3⟩ := h
 have hvl : vs.length = n := by have := h1.1; omega
 have keep : ∀ (A' : Option Addr) (c' : Nat) (l' : List Int), Sl w w.heap.size 1 A' l'.length c' (zD l') → (∀ b off, A' = some ⟨b, off, none⟩ → b < w.heap.size ∧ some b ≠ (Value.slice A n c).ownBlock) → Sl w' w'.heap.size 1 A' l'.length c' (zD l') ∧ ∀ b off, A' = some ⟨b, off, none⟩ → b < w'.heap.size ∧ some b ≠ (Value.slice A1 (n + 1) c1).ownBlock := by
  intro A' c' l' ⟨s1, s2, s3, s4, s5⟩ hn
  refine ⟨⟨s1, s2, s3, s4, fun hp => ?_⟩, fun b off e => ⟨Nat.lt_of_lt_of_le (hn b off e).1 hg.size, ?_⟩⟩
  ·obtain ⟨b, off, e, hb, hc⟩ := s5 hp
   exact ⟨b, off, e, Nat.lt_of_lt_of_le hb hg.size, fun j u hu => (World.cell?_of_block (hg.block b hb (hn b off e).2)).trans (hc j u hu)⟩
  ·rcases hat with h | h
   ·rw [h]; exact (hn b off e).2
   ·rw [h]; intro e2; injection e2 with e2; have := (hn b off e).1; omega
 refine ⟨hown, by simp [h2], fun i l' hi => ?_⟩
 rw [List.getElem?_append] at hi
 split at hi
 ·next hlt' =>
  obtain ⟨A', c', h4, h5, h6⟩ := h3 i l' hi
  exact ⟨A', c', by rw [List.getElem?_append_left (by omega)]; exact h4, keep A' c' l' h5 h6⟩
 ·next hge =>
  have hz : i - ls.length = 0 := by
   rcases Nat.eq_zero_or_pos (i - ls.length) with h0 | h0
   ·exact h0
   ·rw [List.getElem?_eq_none (by simp; omega)] at hi; cases hi
  rw [hz] at hi
  simp at hi
  subst hi
  exact ⟨An, cn, by rw [List.getElem?_append_right (by omega), show i - vs.length = 0 by omega]; rfl, keep An cn l hl hlt⟩
end
end Go.Proofs.YtkkobemhbicjgaaGreatDoor
