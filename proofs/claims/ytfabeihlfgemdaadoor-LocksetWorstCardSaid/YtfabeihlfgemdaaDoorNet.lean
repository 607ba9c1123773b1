/-
  Layer 3: networks; walks of Joins, company, ends, Check.
-/
import Derived.Test.YtfabeihlfgemdaaDoorSet
namespace Go.Proofs.YtfabeihlfgemdaaDoor
open Go.RowKit

structure Nd where
  name : ByteArray
  cust : Int
  comp : Int
structure Dv where
  name : ByteArray
  kind : Int
  a : Int
  b : Int
  comp : Int
def Nd.cells (x : Nd) : List Value := [.string x.name, .int .i64 x.cust, .int .i64 x.comp]
def Dv.cells (x : Dv) : List Value := [.string x.name, .int .i64 x.kind, .int .i64 x.a, .int .i64 x.b, .int .i64 x.comp]
def compB (n : Int) : Bool := decide (0 ≤ n) && decide (n ≤ 7)
def joinsB (k : Int) : Bool := decide (1 ≤ k) && decide (k ≤ 3)
def endsB (kind a b k : Int) : Bool := if a < 0 then false else if k ≤ a then false else if joinsB kind = false then decide (b = -1) else decide (0 ≤ b) && decide (b < k) && !decide (b = a)

theorem company_any (n : Int) (w : World) : Calls Tryd.prog 62 #[.int .i64 n] w fun e w' => e = .returned (.bool (compB n)) ∧ w = w' := by
  by_cases h0 : 0 ≤ n
  · go_enter Tryd.func62, Tryd.ntmps62
    go_wp2
    go_ret
    exact ⟨by simp [compB, h0], rfl⟩
  · have h0' : decide (0 ≤ n) = false := by simpa using h0
    go_enter Tryd.func62, Tryd.ntmps62
    go_wp2
    go_ret
    exact ⟨by simp [compB, h0'], rfl⟩
theorem joins_any (n : Int) (w : World) : Calls Tryd.prog 79 #[.int .i64 n] w fun e w' => e = .returned (.bool (joinsB n)) ∧ w = w' := by
  by_cases h0 : 1 ≤ n
  · go_enter Tryd.func79, Tryd.ntmps79
    go_wp2
    go_ret
    exact ⟨by simp [joinsB, h0], rfl⟩
  · have h0' : decide (1 ≤ n) = false := by simpa using h0
    go_enter Tryd.func79, Tryd.ntmps79
    go_wp2
    go_ret
    exact ⟨by simp [joinsB, h0'], rfl⟩
set_option maxHeartbeats 1000000 in
theorem ends_any (nm : ByteArray) (kind a b comp k : Int) (w : World) : Calls Tryd.prog 63 #[.agg #[.string nm, .int .i64 kind, .int .i64 a, .int .i64 b, .int .i64 comp], .int .i64 k] w fun e w' => e = .returned (.bool (endsB kind a b k)) ∧ Below w.heap.size w w' := by
  have hE : endsB kind a b k = if a < 0 then false else if k ≤ a then false else if joinsB kind = false then decide (b = -1) else decide (0 ≤ b) && decide (b < k) && !decide (b = a) := rfl
  have HE := Lib.hid hE; clear hE
  by_cases h1 : a < 0
  · go_enter Tryd.func63, Tryd.ntmps63
    go_wp2_with fail
    go_ret
    exact ⟨ret_bool (by rw [HE.out, if_pos h1]), (Below.refl _ _).alloc (Nat.le_refl _) _⟩
  have h1' : decide (a < 0) = false := by simpa using h1
  by_cases h2 : k ≤ a
  · go_enter Tryd.func63, Tryd.ntmps63
    go_wp2_with fail
    go_ret
    exact ⟨ret_bool (by rw [HE.out, if_neg (by omega), if_pos h2]), (Below.refl _ _).alloc (Nat.le_refl _) _⟩
  have h2' : decide (k ≤ a) = false := by simpa using h2
  rcases hj : joinsB kind with _ | _
  · have HJ := Lib.hid hj
    have HJ2 := Lib.hid (joins_any kind)
    rw [hj] at HJ2
    clear hj
    go_enter Tryd.func63, Tryd.ntmps63
    go_wp2_with fail
    refine (HJ2.out _).mono ?_
    rintro e w1 ⟨rfl, rfl⟩
    go_wp2_with fail
    go_ret
    exact ⟨ret_bool (by rw [HE.out, if_neg (by omega), if_neg (by omega), if_pos HJ.out]; rfl), (Below.refl _ _).alloc (Nat.le_refl _) _⟩
  · have HJ := Lib.hid hj
    have HJ2 := Lib.hid (joins_any kind)
    rw [hj] at HJ2
    clear hj
    by_cases h3 : 0 ≤ b
    · by_cases h4 : b < k
      · go_enter Tryd.func63, Tryd.ntmps63
        go_wp2_with fail
        refine (HJ2.out _).mono ?_
        rintro e w1 ⟨rfl, rfl⟩
        go_wp2_with fail
        go_ret
        exact ⟨ret_bool (by rw [HE.out, if_neg (by omega), if_neg (by omega), if_neg (by rw [HJ.out]; simp), decide_eq_true h3, decide_eq_true h4, Bool.eq_iff_iff]; simp), (Below.refl _ _).alloc (Nat.le_refl _) _⟩
      · have h4' : decide (b < k) = false := by simpa using h4
        go_enter Tryd.func63, Tryd.ntmps63
        go_wp2_with fail
        refine (HJ2.out _).mono ?_
        rintro e w1 ⟨rfl, rfl⟩
        go_wp2_with fail
        go_ret
        exact ⟨ret_bool (by rw [HE.out, if_neg (by omega), if_neg (by omega), if_neg (by rw [HJ.out]; simp), h4']; simp), (Below.refl _ _).alloc (Nat.le_refl _) _⟩
    · have h3' : decide (0 ≤ b) = false := by simpa using h3
      go_enter Tryd.func63, Tryd.ntmps63
      go_wp2_with fail
      refine (HJ2.out _).mono ?_
      rintro e w1 ⟨rfl, rfl⟩
      go_wp2_with fail
      go_ret
      exact ⟨ret_bool (by rw [HE.out, if_neg (by omega), if_neg (by omega), if_neg (by rw [HJ.out]; simp), h3']; simp), (Below.refl _ _).alloc (Nat.le_refl _) _⟩

def ndErr (used : List (List UInt8)) (x : Nd) : Int := if nameB (toL x.name) = false then 3 else if toL x.name ∈ used then 4 else if x.cust < 0 ∨ 1048576 < x.cust then 5 else if compB x.comp = false then 5 else 0
def dvErr (k : Int) (used : List (List UInt8)) (x : Dv) : Int := if nameB (toL x.name) = false then 3 else if toL x.name ∈ used then 4 else if x.kind < 1 ∨ 6 < x.kind then 6 else if endsB x.kind x.a x.b k = false then 7 else if compB x.comp = false then 5 else 0
def chkN : List (List UInt8) → List Nd → Int
  | _, [] => 0
  | used, x :: r => if ndErr used x = 0 then chkN (toL x.name :: used) r else ndErr used x
def usedN : List (List UInt8) → List Nd → List (List UInt8)
  | used, [] => used
  | used, x :: r => usedN (toL x.name :: used) r
def chkD (k : Int) : List (List UInt8) → List Dv → Int
  | _, [] => 0
  | used, x :: r => if dvErr k used x = 0 then chkD k (toL x.name :: used) r else dvErr k used x
/-- The first error of a network. -/
def checkN (ns : List Nd) (ds : List Dv) : Int := if 32 < ns.length then 1 else if 64 < ds.length then 1 else if chkN [] ns = 0 then chkD ns.length (usedN [] ns) ds else chkN [] ns
theorem chkN_step {used : List (List UInt8)} {ns : List Nd} {i : Nat} {x : Nd} (hx : ns[i]? = some x) (h0 : ndErr used x = 0) : chkN used (ns.drop i) = chkN (toL x.name :: used) (ns.drop (i + 1)) ∧ usedN used (ns.drop i) = usedN (toL x.name :: used) (ns.drop (i + 1)) := by
  obtain ⟨hi, rfl⟩ := List.getElem?_eq_some_iff.1 hx
  rw [List.drop_eq_getElem_cons hi, chkN, if_pos h0, usedN]
  exact ⟨rfl, rfl⟩
theorem chkN_stop {used : List (List UInt8)} {ns : List Nd} {i : Nat} {x : Nd} (hx : ns[i]? = some x) (h0 : ndErr used x ≠ 0) : chkN used (ns.drop i) = ndErr used x := by
  obtain ⟨hi, rfl⟩ := List.getElem?_eq_some_iff.1 hx
  rw [List.drop_eq_getElem_cons hi, chkN, if_neg h0]
theorem chkD_step {k : Int} {used : List (List UInt8)} {ds : List Dv} {i : Nat} {x : Dv} (hx : ds[i]? = some x) (h0 : dvErr k used x = 0) : chkD k used (ds.drop i) = chkD k (toL x.name :: used) (ds.drop (i + 1)) := by
  obtain ⟨hi, rfl⟩ := List.getElem?_eq_some_iff.1 hx
  rw [List.drop_eq_getElem_cons hi, chkD, if_pos h0]
theorem chkD_stop {k : Int} {used : List (List UInt8)} {ds : List Dv} {i : Nat} {x : Dv} (hx : ds[i]? = some x) (h0 : dvErr k used x ≠ 0) : chkD k used (ds.drop i) = dvErr k used x := by
  obtain ⟨hi, rfl⟩ := List.getElem?_eq_some_iff.1 hx
  rw [List.drop_eq_getElem_cons hi, chkD, if_neg h0]
end Go.Proofs.YtfabeihlfgemdaaDoor
