/-
  What the walk of TelegramAnswers needs besides: items that are changed in place.
-/
import Derived.Test.YtjinhfomfbcnjaaTeleR4
import Derived.Test.YtjinhfomfbcnjaaTeleR2
import Derived.Test.YtjinhfomfbcnjaaTeleRep
import Derived.Test.YtjinhfomfbcnjaaStr
import Derived.Test.YtjinhfomfbcnjaaMkMod
import Derived.OpenShut
namespace Go.Proofs.Ytjinhfomfbcnjaa
open Go.RowKit

theorem flat_set {α : Type} {f : α → List Value} {size j : Nat} {u : Value} (hf : ∀ x, (f x).length = size) (hj : j < size) : ∀ (l : List α) (i : Nat) (x x' : α), l[i]? = some x → f x' = (f x).set j u → (l.set i x').flatMap f = (l.flatMap f).set (i * size + j) u
  | [], i, x, x', h, _ => by simp at h
  | y :: l, 0, x, x', h, he => by
    simp at h; subst h
    rw [List.set_cons_zero, List.flatMap_cons, List.flatMap_cons, Nat.zero_mul, Nat.zero_add, List.set_append_left _ _ (by rw [hf]; exact hj), he]
  | y :: l, i + 1, x, x', h, he => by
    simp at h
    rw [List.set_cons_succ, List.flatMap_cons, List.flatMap_cons, List.set_append_right _ _ (by rw [hf, Nat.succ_mul]; omega), hf, show (i + 1) * size + j - size = i * size + j from by rw [Nat.succ_mul]; omega, flat_set hf hj l i x x' h he]
theorem items_one (l : List Item) : ∀ u ∈ l.flatMap Item.cells, u.oneCell' = true := by
  intro u hu
  obtain ⟨x, _, hx⟩ := List.mem_flatMap.1 hu
  simp only [Item.cells, List.mem_cons, List.not_mem_nil, or_false] at hx
  rcases hx with rfl | rfl | rfl | rfl <;> rfl
theorem xor_u8_in (a b : Int) : ∃ y : UInt8, bits .xor .u8 a b = (y.toNat : Int) := by
  have h : ∃ t : Int, bits .xor .u8 a b = IntKind.u8.wrap t := ⟨_, rfl⟩
  obtain ⟨t, ht⟩ := h
  rw [ht, IntKind.wrap_u8]
  exact ⟨u8 t, (u8_toNat t).symm⟩
theorem bytes_set (l : List UInt8) (q : Nat) (x : UInt8) : (bytesV l).set q (.int .u8 x.toNat) = bytesV (l.set q x) := by rw [bytes_map, bytes_map, List.map_set]
theorem bytes_get (l : List UInt8) (q : Nat) (h : q < l.length) : (bytesV l)[q]? = some (.int .u8 (byteI l q)) := by
  rw [byteI, bytes_map, List.getElem?_map, List.getD_eq_getElem?_getD, List.getElem?_eq_getElem h]; rfl
theorem belowNew {a b : World} {B : Nat} (h : a.grownBy b none) (hB : B ≤ a.heap.size) : Below B a b := ⟨h.os, h.tape, h.output, h.size, fun i hi => h.block i (by omega) (fun e => by cases e)⟩
/-- The boxes of raw, t and odd, their items, the deck. -/
structure OddSt (w : World) (g bt bo : Nat) (rst rsq : Int) (Ar : Option Addr) (nr cr : Nat) (st sq : Int) (At : Option Addr) (nt ct : Nat) (l : List Item) (st2 : Int) (Ao : Option Addr) (co : Nat) (l2 : List Item) (wc : World) : Prop where
  lt : w.heap.size < g ∧ g < bt ∧ bt < bo
  deck : DeckAt wc g
  below : Below w.heap.size w wc
  raw : Blk wc w.heap.size 31 #[.int .i64 rst, .int .i64 rsq, .slice Ar nr cr]
  tt : Blk wc bt 31 #[.int .i64 st, .int .i64 sq, .slice At nt ct]
  odd : Blk wc bo 31 #[.int .i64 st2, .int .i64 sq, .slice Ao nt co]
  ti : wc.ownsRow (g + 1) 38 4 (.slice At nt ct) nt (l.flatMap Item.cells)
  tl : ∀ b, (Value.slice At nt ct).ownBlock = some b → b < bt
  own : wc.ownsRow (bo + 1) 38 4 (.slice Ao nt co) nt (l2.flatMap Item.cells)
section
variable {w wc w' : World} {g bt bo : Nat} {rst rsq : Int} {Ar : Option Addr} {nr cr : Nat} {st sq : Int} {At : Option Addr} {nt ct : Nat} {l : List Item} {st2 : Int} {Ao : Option Addr} {co : Nat} {l2 : List Item}
theorem ne_of_ge {v : Value} {q : Nat} (h : ∀ b, v.ownBlock = some b → b ≠ q) : v.ownBlock = none ∨ v.ownBlock ≠ some q := by
  cases hv : v.ownBlock with
  | none => exact .inl rfl
  | some b => exact .inr fun e => by injection e with e; exact h b hv e
theorem OddSt.next (h : OddSt w g bt bo rst rsq Ar nr cr st sq At nt ct l st2 Ao co l2 wc) (hd : DeckAt w' g) (hg : wc.grownBy w' (some g)) : OddSt w g bt bo rst rsq Ar nr cr st sq At nt ct l st2 Ao co l2 w' := by
  obtain ⟨⟨h1, h2, h3⟩, _, hb, hr, ht, ho, hti, htl, how⟩ := h
  exact ⟨⟨h1, h2, h3⟩, hd, hb.trans (below_of_grown hg (by omega) hb.size), hr.grown hg (by simp; omega), ht.grown hg (by simp; omega), ho.grown hg (by simp; omega), hti.kept hg (ne_of_ge fun b e => by have := (hti.lt b e).1; omega), htl, how.kept hg (ne_of_ge fun b e => by have := (how.lt b e).1; omega)⟩
theorem OddSt.station (h : OddSt w g bt bo rst rsq Ar nr cr st sq At nt ct l st2 Ao co l2 wc) (v : Int) : OddSt w g bt bo rst rsq Ar nr cr st sq At nt ct l v Ao co l2 (wc.setCell ⟨bo, 0, none⟩ (.int .i64 v)) := by
  obtain ⟨⟨h1, h2, h3⟩, hd, hb, hr, ht, ho, hti, htl, how⟩ := h
  have hg : wc.grownBy (wc.setCell ⟨bo, 0, none⟩ (.int .i64 v)) (some bo) := ⟨rfl, rfl, rfl, by simp [World.setCell], fun i _ hi => Below.heap_setCell wc _ _ i (fun e => hi (by rw [e]))⟩
  exact ⟨⟨h1, h2, h3⟩, hd.setCell (by simp; omega) _, hb.setCell (by simp; omega) _, hr.far (by simp; omega) _, ht.far (by simp; omega) _, ho.set 0 _, hti.kept hg (ne_of_ge fun b e => by have := htl b e; omega), htl, how.kept hg (ne_of_ge fun b e => by have := (how.lt b e).1; omega)⟩
theorem OddSt.item {go i j : Nat} {x x' : Item} {u : Value} (h : OddSt w g bt bo rst rsq Ar nr cr st sq At nt ct l st2 (some ⟨go, 0, none⟩) co l2 wc) (hx : l2[i]? = some x) (hj : j < 4) (he : x'.cells = x.cells.set j u) : OddSt w g bt bo rst rsq Ar nr cr st sq At nt ct l st2 (some ⟨go, 0, none⟩) co (l2.set i x') (wc.setCell ⟨go, i * 4 + j, none⟩ u) := by
  obtain ⟨⟨h1, h2, h3⟩, hd, hb, hr, ht, ho, hti, htl, how⟩ := h
  have hgo := (how.lt go rfl).1
  have hs := how.stored (i * 4 + j) u
  refine ⟨⟨h1, h2, h3⟩, hd.setCell (by simp; omega) _, hb.setCell (by simp; omega) _, hr.far (by simp; omega) _, ht.far (by simp; omega) _, ho.far (by simp; omega) _, hti.kept hs.2 (ne_of_ge fun b e => by have := htl b e; omega), htl, ?_⟩
  rw [flat_set (f := Item.cells) (size := 4) (fun _ => rfl) hj l2 i x x' hx he]
  exact hs.1
theorem OddSt.later (h : OddSt w g bt bo rst rsq Ar nr cr st sq At nt ct l st2 Ao co l2 wc) (hb : Below wc.heap.size wc w') : OddSt w g bt bo rst rsq Ar nr cr st sq At nt ct l st2 Ao co l2 w' := by
  obtain ⟨⟨h1, h2, h3⟩, hd, hbl, hr, ht, ho, hti, htl, how⟩ := h
  exact ⟨⟨h1, h2, h3⟩, hd.below hb hd.lt, hbl.trans (hb.mono hbl.size), hr.below hb hr.lt, ht.below hb ht.lt, ho.below hb ho.lt, hti.kept (grown_of_below hb none) (Classical.em _), htl, how.kept (grown_of_below hb none) (Classical.em _)⟩
theorem OddSt.far {q : Nat} (h : OddSt w g bt bo rst rsq Ar nr cr st sq At nt ct l st2 Ao co l2 wc) (hg : wc.grownBy w' (some q)) (hq : bo < q) (ha : ∀ b, (Value.slice Ao nt co).ownBlock = some b → b ≠ q) : OddSt w g bt bo rst rsq Ar nr cr st sq At nt ct l st2 Ao co l2 w' := by
  obtain ⟨⟨h1, h2, h3⟩, hd, hb, hr, ht, ho, hti, htl, how⟩ := h
  exact ⟨⟨h1, h2, h3⟩, hd.grown hg (fun k e => by injection e with e; omega), hb.trans (below_of_grown hg (by omega) hb.size), hr.grown hg (by simp; omega), ht.grown hg (by simp; omega), ho.grown hg (by simp; omega), hti.kept hg (ne_of_ge fun b e => by have := htl b e; omega), htl, how.kept hg (ne_of_ge ha)⟩
theorem own_some {base n c : Nat} {e : TypeId} {size : Nat} {A : Option Addr} {xs : List Value} (h : wc.ownsRow base e size (.slice A n c) n xs) (hn : 0 < n) : ∃ go, A = some ⟨go, 0, none⟩ := by
  rcases h.2 with ⟨hv, h0⟩ | ⟨go, cap, cur, hv, _⟩
  · omega
  · injection hv with hv
    exact ⟨go, hv⟩
end
/-- Row i of three telegrams that stand one behind the other. -/
def Row3 (W : World) (b i : Nat) (s q : Int) (A : Option Addr) (n c : Nat) (l : List Item) : Prop :=
  W.cell? ⟨b, i * 3, none⟩ = some (.int .i64 s) ∧ W.cell? ⟨b, i * 3 + 1, none⟩ = some (.int .i64 q) ∧ W.cell? ⟨b, i * 3 + 2, none⟩ = some (.slice A n c) ∧ Sl W W.heap.size 4 A n c (l.flatMap Item.cells)
theorem Row3.below {W W' : World} {b i : Nat} {s q : Int} {A : Option Addr} {n c : Nat} {l : List Item} (h : Row3 W b i s q A n c l) (hb : Below W.heap.size W W') (hl : b < W.heap.size) : Row3 W' b i s q A n c l :=
  ⟨(hb.cell (p := ⟨b, i * 3, none⟩) hl).trans h.1, (hb.cell (p := ⟨b, i * 3 + 1, none⟩) hl).trans h.2.1, (hb.cell (p := ⟨b, i * 3 + 2, none⟩) hl).trans h.2.2.1, (h.2.2.2.below hb (Nat.le_refl _)).more hb.size⟩
theorem rows3 {W : World} {b : Nat} {T : TypeId} {s0 q0 s1 q1 s2 q2 : Int} {A0 A1 A2 : Option Addr} {n0 c0 n1 c1 n2 c2 : Nat} {l0 l1 l2 : List Item} (hb : Blk W b T #[.int .i64 s0, .int .i64 q0, .slice A0 n0 c0, .int .i64 s1, .int .i64 q1, .slice A1 n1 c1, .int .i64 s2, .int .i64 q2, .slice A2 n2 c2])
    (h0 : Sl W W.heap.size 4 A0 n0 c0 (l0.flatMap Item.cells)) (h1 : Sl W W.heap.size 4 A1 n1 c1 (l1.flatMap Item.cells)) (h2 : Sl W W.heap.size 4 A2 n2 c2 (l2.flatMap Item.cells)) : ∀ i, i < 3 → ∃ s q A n c l, Row3 W b i s q A n c l := by
  intro i hi
  rcases (show i = 0 ∨ i = 1 ∨ i = 2 by omega) with rfl | rfl | rfl
  · exact ⟨s0, q0, A0, n0, c0, l0, hb.cell 0, hb.cell 1, hb.cell 2, h0⟩
  · exact ⟨s1, q1, A1, n1, c1, l1, hb.cell 3, hb.cell 4, hb.cell 5, h1⟩
  · exact ⟨s2, q2, A2, n2, c2, l2, hb.cell 6, hb.cell 7, hb.cell 8, h2⟩
/-- Row i of slices of bytes. -/
def RowB (W : World) (b i : Nat) (A : Option Addr) (n c : Nat) (l : List UInt8) : Prop :=
  W.cell? ⟨b, i, none⟩ = some (.slice A n c) ∧ Sl W W.heap.size 1 A n c (bytesV l) ∧ n ≤ 1000
theorem RowB.below {W W' : World} {b i : Nat} {A : Option Addr} {n c : Nat} {l : List UInt8} (h : RowB W b i A n c l) (hb : Below W.heap.size W W') (hl : b < W.heap.size) : RowB W' b i A n c l :=
  ⟨(hb.cell (p := ⟨b, i, none⟩) hl).trans h.1, (h.2.1.below hb (Nat.le_refl _)).more hb.size, h.2.2⟩
theorem rows6 {W : World} {b : Nat} {T : TypeId} {A0 A1 A2 A3 A4 A5 : Option Addr} {n0 c0 n1 c1 n2 c2 n3 c3 n4 c4 n5 c5 : Nat} {l0 l1 l2 l3 l4 l5 : List UInt8} (hb : Blk W b T #[.slice A0 n0 c0, .slice A1 n1 c1, .slice A2 n2 c2, .slice A3 n3 c3, .slice A4 n4 c4, .slice A5 n5 c5])
    (h0 : Sl W W.heap.size 1 A0 n0 c0 (bytesV l0)) (h1 : Sl W W.heap.size 1 A1 n1 c1 (bytesV l1)) (h2 : Sl W W.heap.size 1 A2 n2 c2 (bytesV l2)) (h3 : Sl W W.heap.size 1 A3 n3 c3 (bytesV l3)) (h4 : Sl W W.heap.size 1 A4 n4 c4 (bytesV l4)) (h5 : Sl W W.heap.size 1 A5 n5 c5 (bytesV l5))
    (hn : n0 ≤ 1000 ∧ n1 ≤ 1000 ∧ n2 ≤ 1000 ∧ n3 ≤ 1000 ∧ n4 ≤ 1000 ∧ n5 ≤ 1000) : ∀ i, i < 6 → ∃ A n c l, RowB W b i A n c l := by
  intro i hi
  obtain ⟨g0, g1, g2, g3, g4, g5⟩ := hn
  rcases (show i = 0 ∨ i = 1 ∨ i = 2 ∨ i = 3 ∨ i = 4 ∨ i = 5 by omega) with rfl | rfl | rfl | rfl | rfl | rfl
  · exact ⟨A0, n0, c0, l0, hb.cell 0, h0, g0⟩
  · exact ⟨A1, n1, c1, l1, hb.cell 1, h1, g1⟩
  · exact ⟨A2, n2, c2, l2, hb.cell 2, h2, g2⟩
  · exact ⟨A3, n3, c3, l3, hb.cell 3, h3, g3⟩
  · exact ⟨A4, n4, c4, l4, hb.cell 4, h4, g4⟩
  · exact ⟨A5, n5, c5, l5, hb.cell 5, h5, g5⟩
/-- What the changed telegram leaves. -/
def OddCut (w : World) (g bt bo : Nat) (rst rsq : Int) (Ar : Option Addr) (nr cr : Nat) (st sq : Int) (At : Option Addr) (nt ct : Nat) (l : List Item) (wc : World) : Prop :=
  ∃ (st2 : Int) (Ao : Option Addr) (co : Nat) (l2 : List Item), OddSt w g bt bo rst rsq Ar nr cr st sq At nt ct l st2 Ao co l2 wc

end Go.Proofs.Ytjinhfomfbcnjaa
