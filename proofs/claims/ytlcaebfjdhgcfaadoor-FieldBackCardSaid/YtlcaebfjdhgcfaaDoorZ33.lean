import Derived.Test.YtlcaebfjdhgcfaaDoorZ30
/-
  The statements' maker of networks: its walk.
-/
namespace Go.Proofs.YtlcaebfjdhgcfaaDoor
open Go.RowKit
/-- The nodes while they are made. -/
def NetN (w : World) (g : Nat) (dmax : Int) (i : Nat) (wr : World) : Prop := ∃ (An : Option Addr) (cn : Nat) (ns : List Nd), NetSt w g dmax An i cn ns none 0 0 [] wr ∧ ns.length = i ∧ MadeN ns
def NetR1 (w : World) (g : Nat) (dmax : Int) (k : Nat) (iv : Value) (wr : World) : Prop := ∃ i : Nat, iv = .int .i64 i ∧ i ≤ k ∧ Hid (NetN w g dmax i wr)
def NetR2 (w : World) (g : Nat) (dmax : Int) (An : Option Addr) (k cn : Nat) (ns : List Nd) (lo hi : Nat) (iv : Value) (wr : World) : Prop := ∃ i : Nat, iv = .int .i64 i ∧ lo ≤ i ∧ i ≤ hi ∧ Hid (NetD 1 w g dmax An k cn ns wr)
theorem NetSt.nb_rown {w0 W W' : World} {g : Nat} {dmax : Int} {An Ad : Option Addr} {nn cn nd cd : Nat} {ns : List Nd} {ds : List Dv} (h : NetSt w0 g dmax An nn cn ns Ad nd cd ds W) (hg : W.grownBy W' (Value.slice An nn cn).ownBlock) : Blk W' (w0.heap.size + 3) 30 #[.slice An nn cn, .slice Ad nd cd] := h.nb.grown hg (fun e => by have := (h.rn.lt _ e.symm).1; omega)
theorem ndOk_mk (i : Nat) (c p : Int) (hc : 0 ≤ c ∧ c ≤ 50) (hp : 0 ≤ p ∧ p ≤ 2) : NdOk i ⟨mkS (nm2 (toL ⟨#[78]⟩) i), c, p⟩ := ⟨rfl, hc.1, hc.2, hp.1, hp.2⟩
theorem ends_join {kind a b : Int} {k : Nat} (hk : 1 ≤ kind ∧ kind ≤ 3) (ha : 0 ≤ a ∧ a < k) (hb : 0 ≤ b ∧ b < k) (hab : b ≠ a) : endsB kind a b k = true := by
  have hj : joinsB kind = true := by simp [joinsB]; omega
  simp only [endsB, hj]
  rw [if_neg (by omega), if_neg (by omega), if_neg (by simp)]
  simp; omega
theorem ends_lone {kind a : Int} {k : Nat} (hk : 4 ≤ kind ∧ kind ≤ 6) (ha : 0 ≤ a ∧ a < k) : endsB kind a (-1) k = true := by
  have hj : joinsB kind = false := by simp [joinsB]; omega
  simp only [endsB, hj]
  rw [if_neg (by omega), if_neg (by omega), if_pos (by simp)]
  simp
theorem rem_ne {a r k : Int} (ha : 0 ≤ a ∧ a < k) (hr : 0 ≤ r ∧ r < k - 1) : 0 ≤ (a + 1 + r) % k ∧ (a + 1 + r) % k < k ∧ (a + 1 + r) % k ≠ a := by
  rcases Int.lt_or_le (a + 1 + r) k with h | h
  · rw [Int.emod_eq_of_lt (by omega) h]; omega
  · have : (a + 1 + r) % k = a + 1 + r - k := by
      rw [← Int.sub_emod_right, Int.emod_eq_of_lt (by omega) (by omega)]
    omega
end Go.Proofs.YtlcaebfjdhgcfaaDoor
