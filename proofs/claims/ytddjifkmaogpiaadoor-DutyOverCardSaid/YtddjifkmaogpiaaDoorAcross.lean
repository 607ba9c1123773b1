/-
  Layer 3: walk of across; layer 12: Clone, With.
-/
import Derived.Test.YtddjifkmaogpiaaDoorNet
import Derived.Test.YtddjifkmaogpiaaDoorOwn
namespace Go.Proofs.YtddjifkmaogpiaaDoor
open Go.RowKit
/-- The other node of a device that joins; -1. -/
def acrB (x : Dv) (v : Int) : Int := if joinsB x.kind = false then -1 else if x.a = v then x.b else if x.b = v then x.a else -1
set_option maxHeartbeats 1000000 in
theorem across_any (nm : ByteArray) (kind a b comp v : Int) (w : World) : Calls Tryd.prog 93 #[.agg #[.string nm, .int .i64 kind, .int .i64 a, .int .i64 b, .int .i64 comp], .int .i64 v] w fun e w' => e = .returned (.int .i64 (acrB ⟨nm, kind, a, b, comp⟩ v)) ∧ Below w.heap.size w w' := by
  have HE : Hid (acrB ⟨nm, kind, a, b, comp⟩ v = if joinsB kind = false then -1 else if a = v then b else if b = v then a else -1) := rfl
  have HJ2 := Lib.hid (joins_any kind)
  rcases hj : joinsB kind with _ | _
  · rw [hj] at HJ2
    have HJ := Lib.hid hj; clear hj
    go_enter Tryd.func93, Tryd.ntmps93
    go_wp2_with fail
    refine (HJ2.out _).mono ?_
    rintro e w1 ⟨rfl, rfl⟩
    go_wp2_with fail
    go_ret
    exact ⟨ret_int (by rw [HE.out, if_pos HJ.out]), (Below.refl _ _).alloc (Nat.le_refl _) _⟩
  · rw [hj] at HJ2
    have HJ := Lib.hid hj; clear hj
    by_cases h1 : a = v
    · subst h1
      have q : (a == a) = true := by simp
      go_enter Tryd.func93, Tryd.ntmps93
      go_wp2_with fail
      refine (HJ2.out _).mono ?_
      rintro e w1 ⟨rfl, rfl⟩
      go_wp2_with fail
      go_ret
      exact ⟨ret_int (by rw [HE.out, if_neg (by rw [HJ.out]; simp)]; simp), (Below.refl _ _).alloc (Nat.le_refl _) _⟩
    · have q : (a == v) = false := by simpa using h1
      by_cases h2 : b = v
      · subst h2
        have q2 : (b == b) = true := by simp
        go_enter Tryd.func93, Tryd.ntmps93
        go_wp2_with fail
        refine (HJ2.out _).mono ?_
        rintro e w1 ⟨rfl, rfl⟩
        go_wp2_with fail
        go_ret
        exact ⟨ret_int (by rw [HE.out, if_neg (by rw [HJ.out]; simp), if_neg h1]; simp), (Below.refl _ _).alloc (Nat.le_refl _) _⟩
      · have q2 : (b == v) = false := by simpa using h2
        go_enter Tryd.func93, Tryd.ntmps93
        go_wp2_with fail
        refine (HJ2.out _).mono ?_
        rintro e w1 ⟨rfl, rfl⟩
        go_wp2_with fail
        go_ret
        exact ⟨ret_int (by rw [HE.out, if_neg (by rw [HJ.out]; simp), if_neg h1, if_neg h2]), (Below.refl _ _).alloc (Nat.le_refl _) _⟩
/-- A fresh slice with the same integers. -/
def IntsPost (w : World) (l : List Int) (e : Ending) (w' : World) : Prop := ∃ (A : Option Addr) (c : Nat), e = .returned (.slice A l.length c) ∧ Hid (IntsO w' w.heap.size A l.length c l) ∧ Hid (Below w.heap.size w w')
theorem run_isnil (A : Option Addr) (n c : Nat) (w : World) : (binOp BinOp.eql 22 (.slice A n c) (.slice none 0 0)).run Tryd.prog w = .ok (.bool A.isNone) w := by
  cases A <;> kernel_rfl
set_option maxRecDepth 100000 in
set_option maxHeartbeats 1000000 in
theorem clone_any (A : Option Addr) (n c B : Nat) (l : List Int) (w : World) (hs : Sl w B 1 A n c (intsV l)) (hB : B ≤ w.heap.size) (hn : n ≤ 1000000) : Calls Tryd.prog 31 #[.slice A n c] w (IntsPost w l) := by
  have hl := hs.len (fun _ => rfl) (by decide)
  have HL := Lib.hid hl; clear hl
  cases A with
  | none =>
    have h0 : n = 0 := by have := hs.2.2.2.1 rfl; have := hs.le; omega
    subst h0
    have hl0 : l = [] := List.eq_nil_of_length_eq_zero HL.out
    subst hl0
    clear hs HL
    have hnil := run_isnil none 0 c w
    simp only [Option.isNone_none] at hnil
    go_enter Tryd.func31, Tryd.ntmps31
    go_wp2_with fail
    go_ret
    exact ⟨none, 0, rfl, World.ownsRow_nil _ _ _ _, Below.refl _ _⟩
  | some a =>
    have HS := Lib.hid hs
    have hH := hs.le
    clear hs
    have hnil := run_isnil (some a) n c w
    simp only [Option.isNone_some] at hnil
    go_enter Tryd.func31, Tryd.ntmps31
    have h1 : ∀ u ∈ intsV l, u.oneCell' = true := ints_one l
    have HS1 := Lib.hid (HS.out.alloc hB (.cells #[] 3))
    go_wp2_with (at_builtin; go_must (refine wpList_app rfl (.tmp 5) (.tmp 6) rfl el_int (base := w.heap.size) (n := 0) (xs := []) (by rfl) (own_new (xs := []) (Nat.le_refl _) (by decide) rfl) (by rfl) HS1.out h1 (by omega) (by omega) (by simp) ?_; intro A' cap' w2 hown2 hgr2 hat2; simp only [Nat.zero_add, List.nil_append] at hown2 hgr2; have HO := Lib.hid hown2; have HG := Lib.hid hgr2; clear hown2 hgr2 hat2))
    go_ret
    obtain rfl : l.length = n := HL.out
    exact ⟨A', cap', rfl, HO.out, ((Below.refl _ _).alloc (Nat.le_refl _) _).trans (below_of_grown HG.out (Nat.le_refl _) (by simp))⟩
end Go.Proofs.YtddjifkmaogpiaaDoor
