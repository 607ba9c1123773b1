import Derived.Test.YtfaknfmndafllaaGreatDoorRows
import Derived.Test.YtfaknfmndafllaaGreatDoorW03
import Derived.ProofKit
import Derived.OpenShut
import Derived.LaidLaws
import Derived.Deep.DeepLaidRun
import Derived.Handed
set_option maxRecDepth 100000
namespace Go.Proofs.YtfaknfmndafllaaGreatDoor
open Go.ChangeShapes Go.WideShapes Go.ChangeAt Go.RowKit
theorem laid_s3 {W : World} {fuel : Nat} {cs : List Value} {x : DataW Unit × List MemPlace} {a b : Int} {c : Bool} (h : DataW.trod (fun _ => ()) Tryz.prog W 0 (fun _ => true) false fuel 223 cs = some x) (hx : x.1 = .agg [.lit (.int .u8 a), .lit (.int .u8 b), .lit (.bool c)]) : cs = [.int .u8 a, .int .u8 b, .bool c] := by
 obtain ⟨ys, n, rfl, hxx, hl, hyl, hf⟩ := DataW.trod_struct Tryz.underlying223 h
 rw [show Tryz.prog.cellsOf 223 = 3 by kernel_rfl] at hl
 have f0 : DataW.trod (fun _ => ()) Tryz.prog W 0 (fun _ => true) false n 5 ((cs.drop 0).take (Tryz.prog.cellsOf 5)) = ys[0]? := hf 0 _ rfl
 have f1 : DataW.trod (fun _ => ()) Tryz.prog W 0 (fun _ => true) false n 5 ((cs.drop 1).take (Tryz.prog.cellsOf 5)) = ys[1]? := hf 1 _ rfl
 have f2 : DataW.trod (fun _ => ()) Tryz.prog W 0 (fun _ => true) false n 4 ((cs.drop 2).take (Tryz.prog.cellsOf 4)) = ys[2]? := hf 2 _ rfl
 rw [show Tryz.prog.cellsOf 5 = 1 by kernel_rfl] at f0 f1
 rw [show Tryz.prog.cellsOf 4 = 1 by kernel_rfl] at f2
 match cs, hl, ys, hyl with
 | [c0, c1, c2], _, [y0, y1, y2], _ =>
  simp only [List.drop_zero, List.drop_succ_cons, List.take_succ_cons, List.take_zero, List.getElem?_cons_zero, List.getElem?_cons_succ] at f0 f1 f2
  rw [hxx] at hx
  simp only [List.map_cons, List.map_nil, DataW.agg.injEq, List.cons.injEq, and_true] at hx
  obtain ⟨v0, e0, g0, _⟩ := DataW.trod_int Tryz.underlying5 f0
  obtain ⟨v1, e1, g1, _⟩ := DataW.trod_int Tryz.underlying5 f1
  obtain ⟨v2, e2, g2⟩ := DataW.trod_bool Tryz.underlying4 f2
  rw [g0, g1, g2] at hx
  simp only [DataW.lit.injEq, Lit.int.injEq, Lit.bool.injEq, true_and] at hx
  obtain ⟨rfl, rfl, rfl⟩ := hx
  simp only [List.cons.injEq, and_true] at e0 e1 e2
  rw [e0, e1, e2]
theorem laid_s2 {W : World} {fuel : Nat} {cs : List Value} {x : DataW Unit × List MemPlace} {a b : Bool} (h : DataW.trod (fun _ => ()) Tryz.prog W 0 (fun _ => true) false fuel 180 cs = some x) (hx : x.1 = .agg [.lit (.bool a), .lit (.bool b)]) : cs = [.bool a, .bool b] := by
 obtain ⟨ys, n, rfl, hxx, hl, hyl, hf⟩ := DataW.trod_struct Tryz.underlying180 h
 rw [show Tryz.prog.cellsOf 180 = 2 by kernel_rfl] at hl
 have f0 : DataW.trod (fun _ => ()) Tryz.prog W 0 (fun _ => true) false n 4 ((cs.drop 0).take (Tryz.prog.cellsOf 4)) = ys[0]? := hf 0 _ rfl
 have f1 : DataW.trod (fun _ => ()) Tryz.prog W 0 (fun _ => true) false n 4 ((cs.drop 1).take (Tryz.prog.cellsOf 4)) = ys[1]? := hf 1 _ rfl
 rw [show Tryz.prog.cellsOf 4 = 1 by kernel_rfl] at f0 f1
 match cs, hl, ys, hyl with
 | [c0, c1], _, [y0, y1], _ =>
  simp only [List.drop_zero, List.drop_succ_cons, List.take_succ_cons, List.take_zero, List.getElem?_cons_zero, List.getElem?_cons_succ] at f0 f1
  rw [hxx] at hx
  simp only [List.map_cons, List.map_nil, DataW.agg.injEq, List.cons.injEq, and_true] at hx
  obtain ⟨v0, e0, g0⟩ := DataW.trod_bool Tryz.underlying4 f0
  obtain ⟨v1, e1, g1⟩ := DataW.trod_bool Tryz.underlying4 f1
  rw [g0, g1] at hx
  simp only [DataW.lit.injEq, Lit.bool.injEq] at hx
  obtain ⟨rfl, rfl⟩ := hx
  simp only [List.cons.injEq, and_true] at e0 e1
  rw [e0, e1]
theorem four_parts {α : Type} {l : List α} {k : Nat} (hl : l.length = 4 * k) : l = (l.drop (0 * k)).take k ++ ((l.drop (1 * k)).take k ++ ((l.drop (2 * k)).take k ++ (l.drop (3 * k)).take k)) := by
 have e : ∀ (m : List α), m = m.take k ++ m.drop k := fun m => (List.take_append_drop k m).symm
 rw [Nat.zero_mul, List.drop_zero, Nat.one_mul]
 conv => lhs; rw [e l, e (l.drop k), List.drop_drop, e (l.drop (k + k)), List.drop_drop]
 rw [show k + k = 2 * k by omega, show 2 * k + k = 3 * k by omega, List.take_of_length_le (l := l.drop (3 * k)) (by simp; omega)]
theorem laid_of {W : World} (h : laidMet Tryz.prog Rows.restoreAnswersRow.laid W) : Laid W := by
 obtain ⟨ps, ⟨g, t, cs, fuel, p, q, hg, ht, hvar, hd, ⟨g2, t2, cs2, fuel2, p2, q2, hg2, ht2, hvar2, hd2, _, _⟩, _⟩, _⟩ := h
 have eg : some g = some 1 := hg.symm.trans (by kernel_rfl)
 obtain rfl := Option.some.inj eg
 have et : some t = some 224 := ht.symm.trans (by kernel_rfl)
 obtain rfl := Option.some.inj et
 have eg2 : some g2 = some 0 := hg2.symm.trans (by kernel_rfl)
 obtain rfl := Option.some.inj eg2
 have et2 : some t2 = some 181 := ht2.symm.trans (by kernel_rfl)
 obtain rfl := Option.some.inj et2
 have ec : cs.toList = classesV := by
  obtain ⟨xs, m, _, hx, hl, hxl, hel⟩ := DataW.trod_array Tryz.underlying224 hd
  rw [show Tryz.prog.cellsOf 224 = 4 * 3 by kernel_rfl] at hl
  have f0 := hel 0 (by decide)
  have f1 := hel 1 (by decide)
  have f2 := hel 2 (by decide)
  have f3 := hel 3 (by decide)
  rw [show Tryz.prog.cellsOf 223 = 3 by kernel_rfl] at f0 f1 f2 f3
  match xs, hxl with
  | [y0, y1, y2, y3], _ =>
   simp only [Rows.laid_permitoffice_lexeme_classes, List.map_cons, List.map_nil, Prod.mk.injEq, DataW.agg.injEq, List.cons.injEq, and_true] at hx
   obtain ⟨⟨x0, x1, x2, x3⟩, _⟩ := hx
   refine (four_parts hl).trans ?_
   rw [laid_s3 f0 x0.symm, laid_s3 f1 x1.symm, laid_s3 f2 x2.symm, laid_s3 f3 x3.symm]
   rfl
 have ep : cs2.toList = positionsV := by
  obtain ⟨xs, m, _, hx, hl, hxl, hel⟩ := DataW.trod_array Tryz.underlying181 hd2
  rw [show Tryz.prog.cellsOf 181 = 4 * 2 by kernel_rfl] at hl
  have f0 := hel 0 (by decide)
  have f1 := hel 1 (by decide)
  have f2 := hel 2 (by decide)
  have f3 := hel 3 (by decide)
  rw [show Tryz.prog.cellsOf 180 = 2 by kernel_rfl] at f0 f1 f2 f3
  match xs, hxl with
  | [y0, y1, y2, y3], _ =>
   simp only [Rows.laid_permitoffice_mask_positions, List.map_cons, List.map_nil, Prod.mk.injEq, DataW.agg.injEq, List.cons.injEq, and_true] at hx
   obtain ⟨⟨x0, x1, x2, x3⟩, _⟩ := hx
   refine (four_parts hl).trans ?_
   rw [laid_s2 f0 x0.symm, laid_s2 f1 x1.symm, laid_s2 f2 x2.symm, laid_s2 f3 x3.symm]
   rfl
 refine ⟨fun i u hu => ?_, fun i u hu => ?_⟩
 ·have := World.var?_cell hg hvar i
  rw [this, ← hu, ← ec]; simp
 ·have := World.var?_cell hg2 hvar2 i
  rw [this, ← hu, ← ep]; simp
def layRow (cs : Array Value) : Obj → Obj
 | .cells _ t frozen => .cells cs t frozen
 | o => o
noncomputable def laidWorld (os : Os) : World :=
 let w0 := World.holding Tryz.prog os ⟨#[], #[], []⟩
 { w0 with heap := (w0.heap.modify 1 (layRow classesV.toArray)).modify 0 (layRow positionsV.toArray) }
theorem laid_met (os : Os) (args : Array Value) : laidMet Tryz.prog Rows.restoreAnswersRow.laid ((laidWorld os).forCall (fun _ _ => 0) ⟨#[], args, []⟩).memory :=
 laidMet_of_run3 8 (by kernel_rfl) (by kernel_rfl) (by kernel_rfl)
end Go.Proofs.YtfaknfmndafllaaGreatDoor
