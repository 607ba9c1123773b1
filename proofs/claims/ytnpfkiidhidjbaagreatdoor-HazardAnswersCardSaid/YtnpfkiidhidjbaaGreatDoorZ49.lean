import Derived.Test.YtnpfkiidhidjbaaGreatDoorZ26
import Derived.Test.YtnpfkiidhidjbaaGreatDoorZ00
import Derived.ChangeMaps5
import Derived.Lib.SmallJoins
import Derived.Deep.Slices
import Derived.Deep.Fields
import Derived.Test.YtnpfkiidhidjbaaGreatDoorZ48
/-
 A network, locks, a lock that came in, opened.
-/
namespace Go.Proofs.YtnpfkiidhidjbaaGreatDoor
open Go.ChangeShapes Go.WideShapes Go.ChangeAt Go.RowKit Go.Deep
section
variable {H : Type} {enc : TypeId × Value → H} {W : World} {base b : Nat} {sp : Nat → Bool} {hd : Bool} {r : Reach}
theorem open_structs {α : Type} (y0 : α) (f : α → List Value) {size : Nat} (hsz : ∀ x, (f x).length = size) (hpos : 0 < size) (P : α → Prop) {t e : TypeId} (hu : Tryz.prog.underlying t = some (.slice e)) (hce : Tryz.prog.cellsOf e = size) (hel : ∀ {fuel : Nat} {cs : List Value} {x : DataW H × List MemPlace}, DataW.trod enc Tryz.prog W base sp hd fuel e cs = some x → ∃ y : α, cs = f y ∧ P y)
  {fuel : Nat} {cs : List Value} {x : DataW H × List MemPlace} (h : DataW.trod enc Tryz.prog W base sp hd fuel t cs = some x) :
  ∃ (A : Option Addr) (n c : Nat) (l : List α), cs = [.slice A n c] ∧ Sl W W.heap.size size A n c (l.flatMap f) ∧ ∀ y ∈ l, P y := by
 rcases open_slice hu h with ⟨rfl, _⟩ | ⟨a, len, cap, m, n, D, Pl, rfl, hb, hlc, hcm, hmm, _, hi⟩
 ·exact ⟨none, 0, 0, [], rfl, Sl.nil _ _ _, fun y hy => by cases hy⟩
 rw [hce] at hi
 have hlm : len ≤ m := by rw [hmm]; split <;> omega
 have hit : ∀ i, i < len → ∃ y : α, P y ∧ ∀ j u, (f y)[j]? = some u → W.cell? ((a.add (i * size)).add j) = some u := fun i hlt => by
  obtain ⟨cs', hc, ht⟩ := hi i (by omega)
  obtain ⟨y, rfl, hp⟩ := hel ht
  obtain ⟨_, _, hat⟩ := World.cells?_some hc
  exact ⟨y, hp, fun j u hu => by
   have hj : j < size := by rw [← hsz y]; exact (List.getElem?_eq_some_iff.1 hu).1
   rw [hat j hj]; exact hu⟩
 let g : Nat → α := fun i => if h : i < len then Classical.choose (hit i h) else y0
 have hgs : ∀ i, i < len → P (g i) ∧ ∀ j u, (f (g i))[j]? = some u → W.cell? ((a.add (i * size)).add j) = some u := fun i hlt => by
  have : g i = Classical.choose (hit i hlt) := dif_pos hlt
  rw [this]; exact Classical.choose_spec (hit i hlt)
 refine ⟨some a, len, cap, (List.range len).map g, rfl, ⟨?_, hlc, by simpa [maxLen] using hcm, (fun e => by cases e), fun h0 => ?_⟩, fun y hy => ?_⟩
 ·rw [flat_len hsz]; simp
 ·obtain ⟨gb, off, spot⟩ := a
  have h0c : 0 < (f (g 0)).length := by rw [hsz]; exact hpos
  have h00 := (hgs 0 h0).2 0 _ (List.getElem?_eq_getElem h0c)
  have hspot : spot = none := by simpa [Addr.add] using World.cell?_spot h00
  subst hspot
  simp only [add_plain] at hgs h00
  refine ⟨gb, off, rfl, cell_lt h00, fun j u hu => ?_⟩
  have hj : j < len * size := by
   have := (List.getElem?_eq_some_iff.1 hu).1
   rwa [flat_len hsz, List.length_map, List.length_range] at this
  have hk : j / size < len := Nat.div_lt_of_lt_mul (by rw [Nat.mul_comm]; exact hj)
  have hm : j % size < size := Nat.mod_lt _ hpos
  have hdm : j / size * size + j % size = j := by rw [Nat.mul_comm]; exact Nat.div_add_mod j size
  have hat := flat_at hsz ((List.range len).map g) (j / size) (j % size) (g (j / size)) (by rw [List.getElem?_map, List.getElem?_range hk]; rfl) hm
  rw [hdm, hu] at hat
  have := (hgs (j / size) hk).2 (j % size) u hat.symm
  rw [Nat.add_assoc, hdm] at this
  exact this
 ·obtain ⟨i, hi, rfl⟩ := List.mem_map.1 hy
  exact (hgs i (List.mem_range.1 hi)).1
set_option maxRecDepth 100000 in
theorem open_lock0 {fuel : Nat} {cs : List Value} {x : DataW H × List MemPlace} (h : DataW.trod enc Tryz.prog W base sp hd fuel 77 cs = some x) : ∃ y : Lk, cs = y.cells ∧ True := by
 obtain ⟨ys, n, _, _, hl, hyl, hf⟩ := DataW.trod_struct Tryz.underlying77 h
 have h3 : cs.length = 3 := hl.trans (by kernel_rfl)
 match cs, h3 with
 | [c0, c1, c2], _ =>
  match ys, hyl with
  | [y0, y1, y2], _ =>
   have e0 := hf 0 _ rfl
   have e1 := hf 1 _ rfl
   have e2 := hf 2 _ rfl
   have c1e : Tryz.prog.cellsOf 3 = 1 := by kernel_rfl
   obtain ⟨a0, g0, _, _⟩ := DataW.trod_int Tryz.underlying3 e0
   obtain ⟨a1, g1, _, _⟩ := DataW.trod_int Tryz.underlying3 e1
   obtain ⟨a2, g2, _, _⟩ := DataW.trod_int Tryz.underlying3 e2
   simp [c1e] at g0 g1 g2
   subst g0 g1 g2
   exact ⟨⟨a0, a1, a2⟩, rfl, trivial⟩
set_option maxRecDepth 100000 in
theorem open_node0 {fuel : Nat} {cs : List Value} {x : DataW H × List MemPlace} (h : DataW.trod enc Tryz.prog W base sp hd fuel 61 cs = some x) : ∃ y : Nd, cs = y.cells ∧ y.name.size ≤ 9223372036854775807 := by
 obtain ⟨ys, n, _, _, hl, hyl, hf⟩ := DataW.trod_struct Tryz.underlying61 h
 have h3 : cs.length = 3 := hl.trans (by kernel_rfl)
 match cs, h3 with
 | [c0, c1, c2], _ =>
  match ys, hyl with
  | [y0, y1, y2], _ =>
   have e0 := hf 0 _ rfl
   have e1 := hf 1 _ rfl
   have e2 := hf 2 _ rfl
   have c1e : Tryz.prog.cellsOf 3 = 1 := by kernel_rfl
   have c2e : Tryz.prog.cellsOf 9 = 1 := by kernel_rfl
   obtain ⟨a0, g0, _, w0⟩ := DataW.trod_string Tryz.underlying9 e0
   obtain ⟨a1, g1, _, _⟩ := DataW.trod_int Tryz.underlying3 e1
   obtain ⟨a2, g2, _, _⟩ := DataW.trod_int Tryz.underlying3 e2
   simp [c1e, c2e] at g0 g1 g2
   subst g0 g1 g2
   exact ⟨⟨a0, a1, a2⟩, rfl, by simpa [maxLen] using w0⟩
set_option maxRecDepth 100000 in
theorem open_dev0 {fuel : Nat} {cs : List Value} {x : DataW H × List MemPlace} (h : DataW.trod enc Tryz.prog W base sp hd fuel 63 cs = some x) : ∃ y : Dv, cs = y.cells ∧ y.name.size ≤ 9223372036854775807 := by
 obtain ⟨ys, n, _, _, hl, hyl, hf⟩ := DataW.trod_struct Tryz.underlying63 h
 have h5 : cs.length = 5 := hl.trans (by kernel_rfl)
 match cs, h5 with
 | [c0, c1, c2, c3, c4], _ =>
  match ys, hyl with
  | [y0, y1, y2, y3, y4], _ =>
   have e0 := hf 0 _ rfl
   have e1 := hf 1 _ rfl
   have e2 := hf 2 _ rfl
   have e3 := hf 3 _ rfl
   have e4 := hf 4 _ rfl
   have c1e : Tryz.prog.cellsOf 3 = 1 := by kernel_rfl
   have c2e : Tryz.prog.cellsOf 9 = 1 := by kernel_rfl
   obtain ⟨a0, g0, _, w0⟩ := DataW.trod_string Tryz.underlying9 e0
   obtain ⟨a1, g1, _, _⟩ := DataW.trod_int Tryz.underlying3 e1
   obtain ⟨a2, g2, _, _⟩ := DataW.trod_int Tryz.underlying3 e2
   obtain ⟨a3, g3, _, _⟩ := DataW.trod_int Tryz.underlying3 e3
   obtain ⟨a4, g4, _, _⟩ := DataW.trod_int Tryz.underlying3 e4
   simp [c1e, c2e] at g0 g1 g2 g3 g4
   subst g0 g1 g2 g3 g4
   exact ⟨⟨a0, a1, a2, a3, a4⟩, rfl, by simpa [maxLen] using w0⟩
/-- A slice that came in: address, length, capacity, and what it holds. -/
structure SlV (α : Type) where
 A : Option Addr
 n : Nat
 c : Nat
 l : List α
/-- What is known of a network that came in. -/
def NetIn (W : World) (x : SlV Nd × SlV Dv) : Prop := Sl W W.heap.size 3 x.1.A x.1.n x.1.c (x.1.l.flatMap Nd.cells) ∧ Sl W W.heap.size 5 x.2.A x.2.n x.2.c (x.2.l.flatMap Dv.cells) ∧ (∀ y ∈ x.1.l, y.name.size ≤ 9223372036854775807) ∧ ∀ y ∈ x.2.l, y.name.size ≤ 9223372036854775807
set_option maxRecDepth 100000 in
theorem open_net {v : Value} {d : DataW H} {p : List MemPlace} (hv : Value.okWide Tryz.prog W r b 26 v) (h : DataW.Trod enc Tryz.prog W base sp hd 26 v d p) : ∃ x : SlV Nd × SlV Dv, v = .agg #[.slice x.1.A x.1.n x.1.c, .slice x.2.A x.2.n x.2.c] ∧ NetIn W x := by
 obtain ⟨v0, v1, y0, y1, n, rfl, _, _, h0, h1⟩ := Joins.open_agg2 Tryz.underlying26 (by kernel_rfl) (by kernel_rfl) hv h
 obtain ⟨A, m, c, l, e, hs, hp⟩ := open_structs (size := 3) ⟨⟨#[]⟩, 0, 0⟩ Nd.cells (fun _ => rfl) (by decide) (fun y => y.name.size ≤ 9223372036854775807) Tryz.underlying23 (by kernel_rfl) open_node0 h0
 obtain ⟨A2, m2, c2, l2, e2, hs2, hp2⟩ := open_structs (size := 5) ⟨⟨#[]⟩, 0, 0, 0, 0⟩ Dv.cells (fun _ => rfl) (by decide) (fun y => y.name.size ≤ 9223372036854775807) Tryz.underlying24 (by kernel_rfl) open_dev0 h1
 simp at e e2
 subst e e2
 exact ⟨(⟨A, m, c, l⟩, ⟨A2, m2, c2, l2⟩), rfl, hs, hs2, hp, hp2⟩
end
end Go.Proofs.YtnpfkiidhidjbaaGreatDoor
/-
 An operation, a ground that came in, opened.
-/
namespace Go.Proofs.YtnpfkiidhidjbaaGreatDoor
open Go.ChangeShapes Go.WideShapes Go.ChangeAt Go.RowKit Go.Deep
section
variable {H : Type} {enc : TypeId × Value → H} {W : World} {base b : Nat} {sp : Nat → Bool} {hd : Bool} {r : Reach}
theorem open_int0 {fuel : Nat} {cs : List Value} {x : DataW H × List MemPlace} (h : DataW.trod enc Tryz.prog W base sp hd fuel 3 cs = some x) : ∃ y : Int, cs = [Value.int .i64 y] ∧ True := by
 obtain ⟨a, e, _, _⟩ := DataW.trod_int Tryz.underlying3 h
 exact ⟨a, e, trivial⟩
set_option maxRecDepth 100000 in
theorem open_op {v : Value} {d : DataW H} {p : List MemPlace} (hv : Value.okWide Tryz.prog W r b 28 v) (h : DataW.Trod enc Tryz.prog W base sp hd 28 v d p) : ∃ x : Int × Int, v = .agg #[.int .i64 x.1, .int .i64 x.2] ∧ True := by
 obtain ⟨v0, v1, y0, y1, n, rfl, _, _, h0, h1⟩ := Joins.open_agg2 Tryz.underlying28 (by kernel_rfl) (by kernel_rfl) hv h
 obtain ⟨a0, e0, _, _⟩ := DataW.trod_int Tryz.underlying3 h0
 obtain ⟨a1, e1, _, _⟩ := DataW.trod_int Tryz.underlying3 h1
 simp at e0 e1
 subst e0 e1
 exact ⟨(a0, a1), rfl, trivial⟩
set_option maxRecDepth 100000 in
theorem open_ground {v : Value} {d : DataW H} {p : List MemPlace} (hv : Value.okWide Tryz.prog W r b 31 v) (h : DataW.Trod enc Tryz.prog W base sp hd 31 v d p) : ∃ x : Int × SlV Lk × SlV Int, v = .agg #[.int .i64 x.1, .slice x.2.1.A x.2.1.n x.2.1.c, .slice x.2.2.A x.2.2.n x.2.2.c] ∧ Sl W W.heap.size 3 x.2.1.A x.2.1.n x.2.1.c (x.2.1.l.flatMap Lk.cells) ∧ Sl W W.heap.size 1 x.2.2.A x.2.2.n x.2.2.c (intsV x.2.2.l) := by
 obtain ⟨v0, v1, v2, y0, y1, y2, n, rfl, _, _, h0, h1, h2⟩ := Joins.open_agg3 Tryz.underlying31 (by kernel_rfl) (by kernel_rfl) hv h
 obtain ⟨a0, e0, _, _⟩ := DataW.trod_int Tryz.underlying3 h0
 obtain ⟨A, m, c, l, e, hs, _⟩ := open_structs (size := 3) ⟨0, 0, 0⟩ Lk.cells (fun _ => rfl) (by decide) (fun _ => True) Tryz.underlying29 (by kernel_rfl) open_lock0 h1
 obtain ⟨A2, m2, c2, l2, e2, hs2, _⟩ := open_structs (size := 1) (0 : Int) (fun z => [Value.int .i64 z]) (fun _ => rfl) (by decide) (fun _ => True) Tryz.underlying22 (by kernel_rfl) open_int0 h2
 simp at e0 e e2
 subst e0 e e2
 exact ⟨(a0, ⟨A, m, c, l⟩, ⟨A2, m2, c2, l2⟩), rfl, hs, hs2⟩
end
end Go.Proofs.YtnpfkiidhidjbaaGreatDoor
/-
 HazardAnswers: its walk, at the values that came in.
-/
namespace Go.Proofs.YtnpfkiidhidjbaaGreatDoor
open Go.RowKit
theorem walk_HazardAnswers (w : World) (hl : Laid w) (A : Option Addr) (n c : Nat) (zs : List Int) (hs : Sl w w.heap.size 1 A n c (intsV zs)) (hz : ∀ z ∈ zs, (Lit.int .i64 z).wf = true)
  (A1 : Option Addr) (n1 c1 : Nat) (rs : List Int) (hs1 : Sl w w.heap.size 1 A1 n1 c1 (intsV rs)) (hz1 : ∀ z ∈ rs, (Lit.int .i64 z).wf = true)
  (x : SlV Nd × SlV Dv) (hx : NetIn w x) (o : Int × Int) (_ho : True) (g : Int × SlV Lk × SlV Int) (hg : Sl w w.heap.size 3 g.2.1.A g.2.1.n g.2.1.c (g.2.1.l.flatMap Lk.cells) ∧ Sl w w.heap.size 1 g.2.2.A g.2.2.n g.2.2.c (intsV g.2.2.l)) (k : Int) (_hk : (Lit.int .i64 k).wf = true)
  (A6 : Option Addr) (n6 c6 : Nat) (bs : List Int) (hs6 : Sl w w.heap.size 1 A6 n6 c6 (intsV bs)) (_hz6 : ∀ z ∈ bs, (Lit.int .i64 z).wf = true) :
  Calls Tryz.prog 3 #[.slice A n c, .slice A1 n1 c1, .agg #[.slice x.1.A x.1.n x.1.c, .slice x.2.A x.2.n x.2.c], .agg #[.int .i64 o.1, .int .i64 o.2], .agg #[.int .i64 g.1, .slice g.2.1.A g.2.1.n g.2.1.c, .slice g.2.2.A g.2.2.n g.2.2.c], .int .i64 k, .slice A6 n6 c6] w fun e w' => e = .returned (.bool true) ∧ Below w.heap.size w w' :=
 walkH_HazardAnswers w hl A n c zs hs hz A1 n1 c1 rs hs1 hz1 x.1.A x.2.A x.1.n x.1.c x.2.n x.2.c x.1.l x.2.l hx.1 hx.2.1 hx.2.2.1 hx.2.2.2 o.1 o.2 g.1 g.2.1.A g.2.2.A g.2.1.n g.2.1.c g.2.2.n g.2.2.c g.2.1.l g.2.2.l hg.1 hg.2 k A6 n6 c6 bs hs6
end Go.Proofs.YtnpfkiidhidjbaaGreatDoor
