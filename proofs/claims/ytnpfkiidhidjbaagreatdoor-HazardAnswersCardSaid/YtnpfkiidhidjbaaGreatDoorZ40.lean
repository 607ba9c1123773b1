import Derived.Test.YtnpfkiidhidjbaaGreatDoorZ25
import Derived.Test.YtnpfkiidhidjbaaGreatDoorZ29
/-
 The statements' maker of masks.
-/
namespace Go.Proofs.YtnpfkiidhidjbaaGreatDoor
open Go.RowKit
def MasksPost (w : World) (g nd most : Nat) (e : Ending) (w' : World) : Prop :=
 ∃ (A : Option Addr) (c : Nat) (m : List Int), e = .returned (.slice A nd c) ∧ Hid (DeckAt w' g) ∧ Hid (w.grownBy w' (some g)) ∧ Hid (IntsO w' (w.heap.size + 1) A nd c m) ∧ Hid (∀ p ∈ m, maskB p = true) ∧ Hid (cntN m m.length ≤ most)
theorem cnt_state {s : List Int} (h : ∀ p ∈ s, posB p = true) : ∀ n, cntN s n = 0
 | 0 => rfl
 | n + 1 => by
  rw [cntN_succ, cnt_state h n, if_neg]
  intro e
  have := h 3 (List.mem_of_getElem? e)
  simp [posB] at this
theorem cnt_set (m : List Int) (i : Nat) : ∀ n, cntN (m.set i 3) n ≤ cntN m n + 1 ∧ (n ≤ i → cntN (m.set i 3) n = cntN m n)
 | 0 => ⟨by simp [cntN, unkN], fun _ => rfl⟩
 | n + 1 => by
  obtain ⟨h1, h2⟩ := cnt_set m i n
  rw [cntN_succ, cntN_succ]
  by_cases hn : n = i
  ·subst hn
   have := h2 (Nat.le_refl _)
   refine ⟨?_, fun h => by omega⟩
   rw [this]
   split <;> split <;> omega
  ·rw [List.getElem?_set_ne (by omega)]
   exact ⟨by omega, fun h => by rw [h2 (by omega)]⟩
def MmR (W : World) (g nd most : Nat) (A : Option Addr) (c gk : Nat) (iv : Value) (wr : World) : Prop :=
 ∃ (i : Nat) (m : List Int), iv = .int .i64 i ∧ i ≤ most ∧ gk = most - i ∧ Hid (IntsO wr (W.heap.size + 1) A nd c m) ∧ Hid (DeckAt wr g) ∧ Hid (W.grownBy wr (some g)) ∧ Hid (∀ p ∈ m, maskB p = true) ∧ Hid (cntN m m.length ≤ i)
set_option maxRecDepth 100000 in
set_option maxHeartbeats 4000000 in
theorem mkmasks_any (g : Nat) (An Ad : Option Addr) (nn cn nd cd most : Nat) (ds : List Dv) (w : World) (hd : DeckAt w g) (hx : SlX w g 5 Ad nd cd (ds.flatMap Dv.cells)) (hnd : nd ≤ 1000) (hmo : most ≤ 1000) :
  Calls Tryz.prog 9 #[.pointer (some ⟨g, 0, none⟩), .agg #[.slice An nn cn, .slice Ad nd cd], .int .i64 (most : Int)] w (MasksPost w g nd most) := by
 have hlt := hd.lt
 have HST := Lib.hid (mkstate_any g An Ad nn cn nd cd ds (w.alloc (.cells #[.slice An nn cn, .slice Ad nd cd] 26)) (hd.alloc _) (hx.alloc _) hnd)
 have HB0 : Hid (w.grownBy (w.alloc (.cells #[.slice An nn cn, .slice Ad nd cd] 26)) (some g)) := grown_of_below ((Below.refl _ _).alloc (Nat.le_refl _) _) _
 have HW : Hid ((w.alloc (.cells #[.slice An nn cn, .slice Ad nd cd] 26)).heap.size = w.heap.size + 1) := by unfold Hid; simp
 clear hd hx
 go_enter Tryz.func9, Tryz.ntmps9
 go_wp2_with fail
 generalize World.alloc _ _ = W at *
 refine HST.out.mono ?_
 rintro e w1 ⟨A, c, s, rfl, hd1, hg1, hO1, hp1⟩
 have HM1 : Hid (∀ p ∈ s, maskB p = true) := fun p hp => by have := hp1.out p hp; simp [posB, maskB] at *; omega
 have HC1 : Hid (cntN s s.length ≤ 0) := by unfold Hid; rw [cnt_state hp1.out]; exact Nat.le_refl _
 have hWz := HW.out
 have hgW : g < W.heap.size := by omega
 clear HST hp1 hWz
 go_wp2_with fail
 go_loopg [8] most (MmR W g nd most A c)
 case atStart => exact ⟨0, s, rfl, Nat.zero_le _, rfl, hO1, hd1, hg1, HM1, HC1⟩
 case round =>
  clear hO1 hd1 hg1 HM1 HC1
  obtain ⟨i, m, rfl, hi, rfl, hO, hD, hG, hM, hC⟩ := hrel
  by_cases hgo : i < most ∧ 0 < nd
  ·obtain ⟨hlt2, hnd0⟩ := hgo
   go_wp2_with fail
   refine (one_any g 2 wr hD.out (by decide)).mono ?_
   rintro e w3 ⟨r, rfl, hd3, hg3, hs3⟩
   have HO3 := Lib.hid (hO.out.kept hg3.out (ne_row fun b e => by have := (hO.out.lt b e).1; omega))
   have HG3 := Lib.hid (grown_trans hG.out hg3.out)
   clear hD hG hg3 hs3 hO
   rcases r with _ | _
   ·have HC2 : Hid (cntN m m.length ≤ i + 1) := by have := hC.out; unfold Hid; omega
    go_wp2_with fail
    go_roundg (most - (i + 1))
    case rel => exact ⟨i + 1, m, by go_num, by omega, rfl, HO3, hd3, HG3, hM, HC2⟩
    case measure => omega
   ·go_wp2_with fail
    refine (next_any g (nd : Int) w3 hd3.out (by omega)).mono ?_
    rintro e w4 ⟨v, rfl, hv0, _, hv1, hd4, hg4, hs4⟩
    have hvn := hv1.out (by omega)
    obtain ⟨t, rfl⟩ := Int.eq_ofNat_of_zero_le hv0
    have htn : t < nd := by omega
    have HO4 := Lib.hid (HO3.out.kept hg4.out (ne_row fun b e => by have := (HO3.out.lt b e).1; omega))
    have HG4 := Lib.hid (grown_trans HG3.out hg4.out)
    clear hd3 hg4 hs4 HO3 HG3 hv1 hvn hv0
    obtain ⟨q, y, rfl, hq1, hq2, hy, hcy, hfy, hst⟩ := IntsO.at HO4.out htn
    have HSW := Lib.hid (hst 3)
    have HD5 := Lib.hid (hd4.out.setCell (p := ⟨q, t, none⟩) (by simp; omega) (.int .i64 3))
    have HG5 := Lib.hid (grown_set HG4.out (p := ⟨q, t, none⟩) (by simp; omega) (.int .i64 3))
    have HM5 : Hid (∀ p ∈ m.set t 3, maskB p = true) := fun p hp => by
     rcases List.mem_or_eq_of_mem_set hp with h1 | h1
     ·exact hM.out p h1
     ·rw [h1]; rfl
    have HC5 : Hid (cntN (m.set t 3) (m.set t 3).length ≤ i + 1) := by
     have h1 := (cnt_set m t m.length).1
     have h2 := hC.out
     unfold Hid; rw [List.length_set]; omega
    clear hst hd4 HO4 HG4 hy
    go_wp2_with fail
    go_roundg (most - (i + 1))
    case rel => exact ⟨i + 1, _, by go_num, by omega, rfl, HSW, HD5, HG5, HM5, HC5⟩
    case measure => omega
  ·have HEND : Hid (MasksPost w g nd most (.returned (.slice A nd c)) wr) := ⟨A, c, m, rfl, hD, grown_trans HB0.out hG.out, hO.out.mono (by have := HW.out; omega), hM, (by have := hC.out; unfold Hid; omega)⟩
   by_cases hl : i < most
   ·obtain rfl : nd = 0 := by omega
    go_wp2_with fail
    go_ret
    exact HEND.out
   ·have ql : decide ((i : Int) < (most : Int)) = false := by simp; omega
    have ql2 : decide (i < most) = false := by simp; omega
    go_wp2_with fail
    go_ret
    exact HEND.out
end Go.Proofs.YtnpfkiidhidjbaaGreatDoor
