/-
  A telegram that came in, opened; the walk of TelegramAnswers for it.
-/
import Derived.Test.YtjinhfomfbcnjaaTeleAns
import Derived.Test.YtjinhfomfbcnjaaOpen
import Derived.ChangeMaps5
import Derived.Lib.SmallJoins
import Derived.Deep.Slices
import Derived.Deep.Fields
namespace Go.Proofs.Ytjinhfomfbcnjaa
open Go.ChangeShapes Go.WideShapes Go.ChangeAt Go.RowKit Go.Deep
section
variable {H : Type} {enc : TypeId × Value → H} {W : World} {base b : Nat} {sp : Nat → Bool} {hd : Bool} {r : Reach}
theorem open_item {fuel : Nat} {cs : List Value} {x : DataW H × List MemPlace} (h : DataW.trod enc Try.prog W base sp hd fuel 38 cs = some x) : ∃ y : Item, cs = y.cells := by
  obtain ⟨ys, n, _, _, hl, hyl, hf⟩ := DataW.trod_struct Try.underlying38 h
  have h4 : cs.length = 4 := hl.trans (by kernel_rfl)
  match cs, h4 with
  | [c0, c1, c2, c3], _ =>
    match ys, hyl with
    | [y0, y1, y2, y3], _ =>
      have e0 := hf 0 _ rfl
      have e1 := hf 1 _ rfl
      have e2 := hf 2 _ rfl
      have e3 := hf 3 _ rfl
      have c1e : Try.prog.cellsOf 3 = 1 := by kernel_rfl
      have c2e : Try.prog.cellsOf 4 = 1 := by kernel_rfl
      obtain ⟨a0, g0, _, _⟩ := DataW.trod_int Try.underlying3 e0
      obtain ⟨a1, g1, _, _⟩ := DataW.trod_int Try.underlying3 e1
      obtain ⟨a2, g2, _⟩ := DataW.trod_bool Try.underlying4 e2
      obtain ⟨a3, g3, _, _⟩ := DataW.trod_int Try.underlying3 e3
      simp [c1e, c2e] at g0 g1 g2 g3
      subst g0 g1 g2 g3
      exact ⟨⟨a0, a1, a2, a3⟩, rfl⟩
theorem open_items {fuel : Nat} {cs : List Value} {x : DataW H × List MemPlace} (h : DataW.trod enc Try.prog W base sp hd fuel 29 cs = some x) :
    ∃ (A : Option Addr) (n c : Nat) (l : List Item), cs = [.slice A n c] ∧ Sl W W.heap.size 4 A n c (l.flatMap Item.cells) := by
  rcases open_slice Try.underlying29 h with ⟨rfl, _⟩ | ⟨a, len, cap, m, n, D, Pl, rfl, hb, hlc, hcm, hmm, _, hi⟩
  · exact ⟨none, 0, 0, [], rfl, Sl.nil _ _ _⟩
  have hc4 : Try.prog.cellsOf 38 = 4 := by kernel_rfl
  rw [hc4] at hi
  have hlm : len ≤ m := by rw [hmm]; split <;> omega
  have hit : ∀ i, i < len → ∃ y : Item, ∀ j u, y.cells[j]? = some u → W.cell? ((a.add (i * 4)).add j) = some u := fun i hlt => by
    obtain ⟨cs', hc, ht⟩ := hi i (by omega)
    obtain ⟨y, rfl⟩ := open_item ht
    obtain ⟨_, _, hat⟩ := World.cells?_some hc
    exact ⟨y, fun j u hu => by
      have hj : j < 4 := (List.getElem?_eq_some_iff.1 hu).1
      rw [hat j hj]; exact hu⟩
  let f : Nat → Item := fun i => if h : i < len then Classical.choose (hit i h) else ⟨0, 0, false, 0⟩
  have hfs : ∀ i, i < len → ∀ j u, (f i).cells[j]? = some u → W.cell? ((a.add (i * 4)).add j) = some u := fun i hlt => by
    have : f i = Classical.choose (hit i hlt) := dif_pos hlt
    rw [this]; exact Classical.choose_spec (hit i hlt)
  refine ⟨some a, len, cap, (List.range len).map f, rfl, ⟨?_, hlc, by simpa [maxLen] using hcm, (fun e => by cases e), fun h0 => ?_⟩⟩
  · rw [flat_len (size := 4) (fun _ => rfl)]; simp
  obtain ⟨g, off, spot⟩ := a
  have h00 := hfs 0 h0 0 _ rfl
  have hspot : spot = none := by simpa [Addr.add] using World.cell?_spot h00
  subst hspot
  simp only [add_plain] at hfs h00
  refine ⟨g, off, rfl, cell_lt h00, fun j u hu => ?_⟩
  have hj : j < len * 4 := by
    have := (List.getElem?_eq_some_iff.1 hu).1
    rwa [flat_len (size := 4) (fun _ => rfl), List.length_map, List.length_range] at this
  have hk : j / 4 < len := by omega
  have hat := flat_at (f := Item.cells) (size := 4) (fun _ => rfl) ((List.range len).map f) (j / 4) (j % 4) (f (j / 4)) (by rw [List.getElem?_map, List.getElem?_range hk]; rfl) (by omega)
  rw [show j / 4 * 4 + j % 4 = j from by omega, hu] at hat
  have := hfs (j / 4) hk (j % 4) u hat.symm
  rw [show off + j / 4 * 4 + j % 4 = off + j from by omega] at this
  exact this
theorem open_tele {v : Value} {d : DataW H} {p : List MemPlace} (hv : Value.okWide Try.prog W r b 31 v) (h : DataW.Trod enc Try.prog W base sp hd 31 v d p) :
    ∃ x : (Int × Int × Option Addr × Nat × Nat) × List Item, v = .agg #[.int .i64 x.1.1, .int .i64 x.1.2.1, .slice x.1.2.2.1 x.1.2.2.2.1 x.1.2.2.2.2] ∧ Sl W W.heap.size 4 x.1.2.2.1 x.1.2.2.2.1 x.1.2.2.2.2 (x.2.flatMap Item.cells) := by
  obtain ⟨v0, v1, v2, y0, y1, y2, n, rfl, _, _, h0, h1, h2⟩ := Joins.open_agg3 Try.underlying31 (by kernel_rfl) (by kernel_rfl) hv h
  obtain ⟨a0, e0, _, _⟩ := DataW.trod_int Try.underlying3 h0
  obtain ⟨a1, e1, _, _⟩ := DataW.trod_int Try.underlying3 h1
  obtain ⟨A, n, c, l, e2, hs⟩ := open_items h2
  simp at e0 e1 e2
  subst e0 e1 e2
  exact ⟨((a0, a1, A, n, c), l), rfl, hs⟩
end
theorem walk_TelegramAnswers' (w : World) (A : Option Addr) (n c : Nat) (z : List Int) (hz : Sl w w.heap.size 1 A n c (intsV z)) (hz2 : ∀ x ∈ z, (Lit.int .i64 x).wf = true) (x : (Int × Int × Option Addr × Nat × Nat) × List Item) (hx : Sl w w.heap.size 4 x.1.2.2.1 x.1.2.2.2.1 x.1.2.2.2.2 (x.2.flatMap Item.cells)) (Ab : Option Addr) (nb cb : Nat) (lb : List UInt8) (hbs : Sl w w.heap.size 1 Ab nb cb (bytesV lb)) (last : Int) (h1 : (Lit.int .i64 last).wf = true) (seq : Int) (h2 : (Lit.int .i64 seq).wf = true) :
    Calls Try.prog 8 #[.slice A n c, .agg #[.int .i64 x.1.1, .int .i64 x.1.2.1, .slice x.1.2.2.1 x.1.2.2.2.1 x.1.2.2.2.2], .slice Ab nb cb, .int .i64 last, .int .i64 seq] w fun e w' => e = .returned (.bool true) ∧ Below w.heap.size w w' :=
  walk_TelegramAnswers w A n c z hz hz2 x.1.1 x.1.2.1 x.1.2.2.1 x.1.2.2.2.1 x.1.2.2.2.2 x.2 hx Ab nb cb lb hbs last h1 seq h2
end Go.Proofs.Ytjinhfomfbcnjaa
