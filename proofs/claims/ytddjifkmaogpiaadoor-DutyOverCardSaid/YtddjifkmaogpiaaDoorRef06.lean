/-
  The references of layer 6: walks of positions, State.
-/
import Derived.Test.YtddjifkmaogpiaaDoorRef03
import Derived.Test.YtddjifkmaogpiaaDoorMask
namespace Go.Proofs.YtddjifkmaogpiaaDoor
open Go.RowKit
def posErr (ns : List Nd) (ds : List Dv) (s : List Int) (m : Int) : Int := if checkN ns ds ≠ 0 then checkN ns ds else if s.length ≠ ds.length then 9 else if ∀ p ∈ s, 1 ≤ p ∧ p ≤ m then 0 else 10
theorem posErr_two (ns : List Nd) (ds : List Dv) (s : List Int) : posErr ns ds s 2 = stateErr ns ds s := by
  unfold posErr stateErr
  have e : (∀ p ∈ s, 1 ≤ p ∧ p ≤ 2) ↔ (∀ p ∈ s, posB p = true) := by
    constructor <;> intro h p hp <;> have := h p hp <;> simp [posB] at * <;> omega
  split
  · rfl
  · split
    · rfl
    · by_cases h : ∀ p ∈ s, posB p = true
      · rw [if_pos h, if_pos (e.2 h)]
      · rw [if_neg h, if_neg (fun k => h (e.1 k))]
def RpR (w : World) (N : Array Value) (n : Nat) (s : List Int) (m : Int) (gk : Nat) (iv : Value) (wr : World) : Prop := ∃ i : Nat, iv = .int .i64 i ∧ i ≤ n ∧ gk = n - i ∧ Hid (RcSt w N wr) ∧ Hid (∀ p ∈ s.take i, 1 ≤ p ∧ p ≤ m)
set_option maxHeartbeats 2000000 in
theorem rpos_any (An Ad As : Option Addr) (nn cn nd cd n c Bn Bd Bs : Nat) (ns : List Nd) (ds : List Dv) (s : List Int) (m : Int) (w : World) (hn : Sl w Bn 3 An nn cn (ns.flatMap Nd.cells)) (hd : Sl w Bd 5 Ad nd cd (ds.flatMap Dv.cells)) (hs : Sl w Bs 1 As n c (intsV s)) (hBn : Bn ≤ w.heap.size) (hBd : Bd ≤ w.heap.size) (hBs : Bs ≤ w.heap.size)
    (hsn : ∀ x ∈ ns, x.name.size ≤ 9223372036854775807) (hsd : ∀ x ∈ ds, x.name.size ≤ 9223372036854775807) :
    Calls Tryd.prog 48 #[.agg #[.slice An nn cn, .slice Ad nd cd], .slice As n c, .int .i64 m] w fun e w' => e = .returned (.int .i64 (posErr ns ds s m)) ∧ Below w.heap.size w w' := by
  have HLS := Lib.hid (hs.len (fun _ => rfl) (by decide)); have HLD := Lib.hid (hd.len (fun _ => rfl) (by decide))
  obtain ⟨hnc, hcm⟩ := hs.le
  obtain ⟨hdc, hdm⟩ := hd.le
  have HE : Hid (posErr ns ds s m = if checkN ns ds ≠ 0 then checkN ns ds else if n ≠ nd then 9 else if ∀ p ∈ s, 1 ≤ p ∧ p ≤ m then 0 else 10) := by unfold Hid; rw [posErr, HLS.out, HLD.out]
  have HS := Lib.hid hs
  have HCK := Lib.hid (rcheck_any An Ad nn cn nd cd Bn Bd ns ds (w.alloc (.cells #[.slice An nn cn, .slice Ad nd cd] 30)) (hn.alloc hBn _) (hd.alloc hBd _) (by simp; omega) (by simp; omega) hsn hsd)
  clear hn hd hs hsn hsd
  generalize checkN ns ds = er at *
  have HR0 : Hid (RcSt w #[.slice An nn cn, .slice Ad nd cd] (w.alloc (.cells #[.slice An nn cn, .slice Ad nd cd] 30))) := ⟨Blk.new _ _ _, (Below.refl _ _).alloc (Nat.le_refl _) _⟩
  by_cases h0 : er = 0; rotate_left
  · have h0' : (er != 0) = true := by simpa using h0
    have HR : Hid (posErr ns ds s m = er) := by unfold Hid; rw [HE.out, if_pos h0]
    clear h0
    go_enter Tryd.func48, Tryd.ntmps48
    go_wp2_with fail
    refine HCK.out.mono ?_
    rintro e w1 ⟨rfl, hb1⟩
    have HR1 := Lib.hid (HR0.out.later hb1)
    go_wp2_with fail
    go_ret
    exact ⟨ret_int (by rw [HR.out]), HR1.out.bl⟩
  subst h0
  go_enter Tryd.func48, Tryd.ntmps48
  go_wp2_with fail
  refine HCK.out.mono ?_
  rintro e w1 ⟨rfl, hb1⟩
  have HR1 := Lib.hid (HR0.out.later hb1)
  clear hb1 HCK HR0
  have k1 : w1.cell? ⟨w.heap.size, 1, none⟩ = some (.slice Ad nd cd) := HR1.out.bx.cell 1
  by_cases hnd : n = nd; rotate_left
  · have q : decide (n = nd) = false := by simpa using hnd
    have q' : ((n : Int) != (nd : Int)) = true := by simp; omega
    have HR : Hid (posErr ns ds s m = 9) := by unfold Hid; rw [HE.out, if_neg (by simp), if_pos hnd]
    clear hnd
    go_wp2_with fail
    go_ret
    exact ⟨ret_int (by rw [HR.out]), HR1.out.bl⟩
  subst hnd
  go_wp2_with fail
  clear k1
  go_loopg [8] n (RpR w #[.slice An nn cn, .slice Ad n cd] n s m)
  case atStart => exact ⟨0, rfl, Nat.zero_le _, rfl, HR1, by simp [Hid]⟩
  case round =>
    clear HR1
    obtain ⟨i, rfl, hi, rfl, hst, hok⟩ := hrel
    by_cases hlt : i < n
    · obtain ⟨b, off, x, rfl, hb, hx, hc⟩ := (HS.out.below hst.out.bl hBs).at1 hlt
      have HX := Lib.hid hx; clear hx
      by_cases h1 : x < 1
      · have HR : Hid (posErr ns ds s m = 10) := by
          unfold Hid
          rw [HE.out, if_neg (by simp), if_neg (by simp), if_neg (fun h => by have := h x (List.mem_of_getElem? HX.out); omega)]
        go_wp2_with fail
        go_ret
        exact ⟨ret_int (by rw [HR.out]), hst.out.bl⟩
      · have q1 : decide (x < 1) = false := by simpa using h1
        by_cases h2 : m < x
        · have HR : Hid (posErr ns ds s m = 10) := by
            unfold Hid
            rw [HE.out, if_neg (by simp), if_neg (by simp), if_neg (fun h => by have := h x (List.mem_of_getElem? HX.out); omega)]
          go_wp2_with fail
          go_ret
          exact ⟨ret_int (by rw [HR.out]), hst.out.bl⟩
        · have q2 : decide (m < x) = false := by simpa using h2
          go_wp2_with fail
          go_roundg (n - (i + 1))
          case rel =>
            refine ⟨i + 1, by go_num, by omega, rfl, hst, fun p hp => ?_⟩
            rw [take_snoc HX.out] at hp
            rcases List.mem_append.1 hp with h | h
            · exact hok.out p h
            · rw [List.mem_singleton.1 h]; omega
          case measure => omega
    · obtain rfl : i = n := by omega
      have hjj : decide (i < i) = false := by simp
      have HR : Hid (posErr ns ds s m = 0) := by
        unfold Hid
        have := hok.out
        rw [List.take_of_length_le (by rw [HLS.out]; exact Nat.le_refl _)] at this
        rw [HE.out, if_neg (by simp), if_neg (by simp), if_pos this]
      go_wp2_with fail
      go_ret
      exact ⟨ret_int (by rw [HR.out]), hst.out.bl⟩
theorem rstate_any (An Ad As : Option Addr) (nn cn nd cd n c Bn Bd Bs : Nat) (ns : List Nd) (ds : List Dv) (s : List Int) (w : World) (hn : Sl w Bn 3 An nn cn (ns.flatMap Nd.cells)) (hd : Sl w Bd 5 Ad nd cd (ds.flatMap Dv.cells)) (hs : Sl w Bs 1 As n c (intsV s)) (hBn : Bn ≤ w.heap.size) (hBd : Bd ≤ w.heap.size) (hBs : Bs ≤ w.heap.size)
    (hsn : ∀ x ∈ ns, x.name.size ≤ 9223372036854775807) (hsd : ∀ x ∈ ds, x.name.size ≤ 9223372036854775807) :
    Calls Tryd.prog 35 #[.agg #[.slice An nn cn, .slice Ad nd cd], .slice As n c] w fun e w' => e = .returned (.int .i64 (stateErr ns ds s)) ∧ Below w.heap.size w w' := by
  have HC := Lib.hid (rpos_any An Ad As nn cn nd cd n c Bn Bd Bs ns ds s 2 (w.alloc (.cells #[.slice An nn cn, .slice Ad nd cd] 30)) (hn.alloc hBn _) (hd.alloc hBd _) (hs.alloc hBs _) (by simp; omega) (by simp; omega) (by simp; omega) hsn hsd)
  rw [posErr_two] at HC
  clear hn hd hs hsn hsd
  go_enter Tryd.func35, Tryd.ntmps35
  go_wp2_with fail
  refine HC.out.mono ?_
  rintro e w1 ⟨rfl, hb1⟩
  go_wp2_with fail
  go_ret
  exact ⟨rfl, ((Below.refl _ _).alloc (Nat.le_refl _) _).trans (hb1.mono (by simp))⟩
end Go.Proofs.YtddjifkmaogpiaaDoor
