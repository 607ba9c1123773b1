import Derived.Test.YtiljpejjjgoeaaaDoorZ15
import Derived.Test.YtiljpejjjgoeaaaDoorZ18
import Derived.Test.YtiljpejjjgoeaaaDoorZ19
import Derived.Test.YtiljpejjjgoeaaaDoorZ21
import Derived.Test.YtiljpejjjgoeaaaDoorZ07
/-
  Layer 13, plain: the hazards of an operation.
-/
namespace Go.Proofs.YtiljpejjjgoeaaaDoor
open Go.RowKit
theorem sortL_is {a l : List Int} (h : l.Perm a) (hs : l.Pairwise (· ≤ ·)) : sortL a = l :=
  List.Perm.eq_of_pairwise (le := fun x y : Int => x ≤ y) (fun _ _ _ _ h1 h2 => Int.le_antisymm h1 h2) (sortL_sorted a) hs ((sortL_perm a).trans h.symm)
def lockB (ls : List Lk) (d : Int) : Bool := ls.any fun k => decide (k.dev = d)
/-- An end of a line is live. -/
def lvE (c : List Int) (x : Dv) : Bool := liveB (bits .or .i64 (c.getD x.a.toNat 0) (c.getD x.b.toNat 0))
/-- A device of a kind may not do an operation with a duty. -/
def badB (kd p du : Int) (lv : Bool) : Bool := if kd = 3 then decide (du = 2) || decide (du = 3) || decide (du = 4) else if kd = 1 then lv else if kd = 4 then decide (p = 1) && decide (du = 4) else if kd = 6 then decide (p = 2) && decide (du = 3) else decide (kd = 5)
def LostP (ns : List Nd) (ds : List Dv) (s s2 : List Int) : Prop := ∃ (k : Nat) (y : Nd), ns[k]? = some y ∧ 0 < y.cust ∧ Sup ds s k ∧ ¬ Sup ds s2 k
open Classical in
noncomputable def lostB (ns : List Nd) (ds : List Dv) (s s2 : List Int) : Bool := decide (LostP ns ds s s2)
def pickH (b : Bool) (h : Int) : List Int := if b = true then [h] else []
/-- The hazards, ascending. -/
def hzL (f1 f2 f3 f4 f5 f6 f7 : Bool) : List Int := pickH f1 1 ++ pickH f2 2 ++ pickH f3 3 ++ pickH f4 4 ++ pickH f5 5 ++ pickH f6 6 ++ pickH f7 7
theorem pickH_mem (b : Bool) (h x : Int) : x ∈ pickH b h ↔ x = h ∧ b = true := by cases b <;> simp [pickH]
theorem hzL_mem (f1 f2 f3 f4 f5 f6 f7 : Bool) (x : Int) : x ∈ hzL f1 f2 f3 f4 f5 f6 f7 ↔ x = 1 ∧ f1 = true ∨ x = 2 ∧ f2 = true ∨ x = 3 ∧ f3 = true ∨ x = 4 ∧ f4 = true ∨ x = 5 ∧ f5 = true ∨ x = 6 ∧ f6 = true ∨ x = 7 ∧ f7 = true := by
  simp only [hzL, List.mem_append, pickH_mem, or_assoc]
theorem pickH_len (b : Bool) (h : Int) : (pickH b h).length ≤ 1 := by cases b <;> simp [pickH]
theorem hzL_len (f1 f2 f3 f4 f5 f6 f7 : Bool) : (hzL f1 f2 f3 f4 f5 f6 f7).length ≤ 7 := by
  have h1 := pickH_len f1 1; have h2 := pickH_len f2 2; have h3 := pickH_len f3 3; have h4 := pickH_len f4 4; have h5 := pickH_len f5 5; have h6 := pickH_len f6 6; have h7 := pickH_len f7 7
  simp only [hzL, List.length_append]; omega
/-- What a list of found hazards says. -/
def fndL (fs : List (Int × Bool)) : List Int := (fs.filter (·.2)).map (·.1)
theorem fnd3 (a b c : Bool) : sortL (fndL [(4, a), (6, b), (7, c)]) = hzL false false false a false b c := by
  cases a <;> cases b <;> cases c <;> exact sortL_is (by decide) (by decide)
theorem fnd6 (a b c d e f : Bool) : sortL (fndL [(4, a), (6, b), (1, c), (2, d), (3, e), (5, f)]) = hzL c d e a f b false := by
  cases a <;> cases b <;> cases c <;> cases d <;> cases e <;> cases f <;> exact sortL_is (by decide) (by decide)
/-- The hazards of an operation in a valid state. -/
noncomputable def hzAt (nn : Nat) (ns : List Nd) (ds : List Dv) (s : List Int) (d : Nat) (p co : Int) (ls : List Lk) (pr : List Int) (x : Dv) : List Int :=
  if s.getD d 0 = p then hzL false false false (lockB ls d) false ((x.comp != co)) true
  else hzL (decide (p = 2) && decide (dutyAt nn ns ds s d x = 4)) (badB x.kind p (dutyAt nn ns ds s d x) (lvE (colsOf nn ds s) x)) (lostB ns ds s (withL s d p)) (lockB ls d) (decide (p = 2) && decide (x.kind = 4) && !hasB pr x.a) ((x.comp != co)) false
theorem hzAt_len (nn : Nat) (ns : List Nd) (ds : List Dv) (s : List Int) (d : Nat) (p co : Int) (ls : List Lk) (pr : List Int) (x : Dv) : (hzAt nn ns ds s d p co ls pr x).length ≤ 7 := by
  unfold hzAt; split <;> exact hzL_len _ _ _ _ _ _ _
/-- The hazards over masks: ascending, each once. -/
def MayP (nn : Nat) (ns : List Nd) (ds : List Dv) (l : List (List Int)) (md : Int) (d : Nat) (p co : Int) (ls : List Lk) (pr : List Int) (x : Dv) (h : Int) : Prop := ∃ s ∈ l, h ∈ hzAt nn ns ds s d p co ls pr x ∧ (h ≠ 7 ∨ md = p)
def SetL (F : Int → Prop) (out : List Int) : Prop := out.Nodup ∧ out.Pairwise (· ≤ ·) ∧ ∀ h : Int, h ∈ out ↔ F h
theorem SetL.unique {F : Int → Prop} {a b : List Int} (h : SetL F a) (k : SetL F b) : a = b := by
  rw [← sortL_is (List.Perm.refl a) h.2.1]
  exact sortL_is ((List.perm_ext_iff_of_nodup k.1 h.1).2 fun x => (k.2.2 x).trans (h.2.2 x).symm) k.2.1
theorem sub_len {a b : List Int} (ha : a.Nodup) (h : ∀ x ∈ a, x ∈ b) : a.length ≤ b.length := ha.length_le_of_subset h
end Go.Proofs.YtiljpejjjgoeaaaDoor
/-
  A region that draws its order, with what comes behind it as a variable.
-/
namespace Go.Proofs.YtiljpejjjgoeaaaDoor
section
variable {P : Program} {ops : Array Oper} {Q : Exit → Act → World → Prop} {S : World → Prop} {J : List Nat}
end
end Go.Proofs.YtiljpejjjgoeaaaDoor
