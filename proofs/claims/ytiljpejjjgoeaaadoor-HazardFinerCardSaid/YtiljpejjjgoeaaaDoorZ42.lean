import Derived.Test.YtiljpejjjgoeaaaDoorZ31
import Derived.Test.YtiljpejjjgoeaaaDoorZ38
/-
  The statements' maker of masks.
-/
namespace Go.Proofs.YtiljpejjjgoeaaaDoor
open Go.RowKit
def MasksPost (w : World) (g nd most : Nat) (e : Ending) (w' : World) : Prop :=
  ∃ (A : Option Addr) (c : Nat) (m : List Int), e = .returned (.slice A nd c) ∧ Hid (DeckAt w' g) ∧ Hid (w.grownBy w' (some g)) ∧ Hid (IntsO w' (w.heap.size + 1) A nd c m) ∧ Hid (∀ p ∈ m, maskB p = true) ∧ Hid (cntN m m.length ≤ most)
theorem cnt_state {s : List Int} (h : ∀ p ∈ s, posB p = true) : ∀ n, cntN s n = 0
  | 0 => rfl
  | n + 1 => by
    rw [cntN_succ, cnt_state h n, if_neg]
    intro e
    have := h 3 (List.mem_of_getElem? e)
    simp [posB] at this
theorem cnt_set (m : List Int) (i : Nat) : ∀ n, cntN (m.set i 3) n ≤ cntN m n + 1 ∧ (n ≤ i → cntN (m.set i 3) n = cntN m n)
  | 0 => ⟨by simp [cntN, unkN], fun _ => rfl⟩
  | n + 1 => by
    obtain ⟨h1, h2⟩ := cnt_set m i n
    rw [cntN_succ, cntN_succ]
    by_cases hn : n = i
    · subst hn
      have := h2 (Nat.le_refl _)
      refine ⟨?_, fun h => by omega⟩
      rw [this]
      split <;> split <;> omega
    · rw [List.getElem?_set_ne (by omega)]
      exact ⟨by omega, fun h => by rw [h2 (by omega)]⟩
def MmR (W : World) (g nd most : Nat) (A : Option Addr) (c gk : Nat) (iv : Value) (wr : World) : Prop :=
  ∃ (i : Nat) (m : List Int), iv = .int .i64 i ∧ i ≤ most ∧ gk = most - i ∧ Hid (IntsO wr (W.heap.size + 1) A nd c m) ∧ Hid (DeckAt wr g) ∧ Hid (W.grownBy wr (some g)) ∧ Hid (∀ p ∈ m, maskB p = true) ∧ Hid (cntN m m.length ≤ i)
set_option maxRecDepth 100000 in
set_option maxHeartbeats 4000000 in
theorem mkmasks_any (g : Nat) (An Ad : Option Addr) (nn cn nd cd most : Nat) (ds : List Dv) (w : World) (hd : DeckAt w g) (hx : SlX w g 5 Ad nd cd (ds.flatMap Dv.cells)) (hnd : nd ≤ 1000) (hmo : most ≤ 1000) :
    Calls Tryd.prog 8 #[.pointer (some ⟨g, 0, none⟩), .agg #[.slice An nn cn, .slice Ad nd cd], .int .i64 (most : Int)] w (MasksPost w g nd most) := by
  have hlt := hd.lt
  have HST := Lib.hid (mkstate_any g An Ad nn cn nd cd ds (w.alloc (.cells #[.slice An nn cn, .slice Ad nd cd] 30)) (hd.alloc _) (hx.alloc _) hnd)
  have HB0 : Hid (w.grownBy (w.alloc (.cells #[.slice An nn cn, .slice Ad nd cd] 30)) (some g)) := grown_of_below ((Below.refl _ _).alloc (Nat.le_refl _) _) _
  have HW : Hid ((w.alloc (.cells #[.slice An nn cn, .slice Ad nd cd] 30)).heap.size = w.heap.size + 1) := by unfold Hid; simp
  clear hd hx
  go_enter Tryd.func8, Tryd.ntmps8
  go_wp2_with fail
  generalize World.alloc _ _ = W at *
  refine HST.out.mono ?_
  rintro e w1 ⟨A, c, s, rfl, hd1, hg1, hO1, hp1⟩
  have HM1 : Hid (∀ p ∈ s, maskB p = true) := fun p hp => by have := hp1.out p hp; simp [posB, maskB] at *; omega
  have HC1 : Hid (cntN s s.length ≤ 0) := by unfold Hid; rw [cnt_state hp1.out]; exact Nat.le_refl _
  have hWz := HW.out
  have hgW : g < W.heap.size := by omega
  clear HST hp1 hWz
  go_wp2_with fail
  go_loopg [8] most (MmR W g nd most A c)
  case atStart => exact ⟨0, s, rfl, Nat.zero_le _, rfl, hO1, hd1, hg1, HM1, HC1⟩
  case round =>
    clear hO1 hd1 hg1 HM1 HC1
    obtain ⟨i, m, rfl, hi, rfl, hO, hD, hG, hM, hC⟩ := hrel
    by_cases hgo : i < most ∧ 0 < nd
    · obtain ⟨hlt2, hnd0⟩ := hgo
      go_wp2_with fail
      refine (one_any g 2 wr hD.out (by decide)).mono ?_
      rintro e w3 ⟨r, rfl, hd3, hg3, hs3⟩
      have HO3 := Lib.hid (hO.out.kept hg3.out (ne_row fun b e => by have := (hO.out.lt b e).1; omega))
      have HG3 := Lib.hid (grown_trans hG.out hg3.out)
      clear hD hG hg3 hs3 hO
      rcases r with _ | _
      · have HC2 : Hid (cntN m m.length ≤ i + 1) := by have := hC.out; unfold Hid; omega
        go_wp2_with fail
        go_roundg (most - (i + 1))
        case rel => exact ⟨i + 1, m, by go_num, by omega, rfl, HO3, hd3, HG3, hM, HC2⟩
        case measure => omega
      · go_wp2_with fail
        refine (next_any g (nd : Int) w3 hd3.out (by omega)).mono ?_
        rintro e w4 ⟨v, rfl, hv0, _, hv1, hd4, hg4, hs4⟩
        have hvn := hv1.out (by omega)
        obtain ⟨t, rfl⟩ := Int.eq_ofNat_of_zero_le hv0
        have htn : t < nd := by omega
        have HO4 := Lib.hid (HO3.out.kept hg4.out (ne_row fun b e => by have := (HO3.out.lt b e).1; omega))
        have HG4 := Lib.hid (grown_trans HG3.out hg4.out)
        clear hd3 hg4 hs4 HO3 HG3 hv1 hvn hv0
        obtain ⟨q, y, rfl, hq1, hq2, hy, hcy, hfy, hst⟩ := IntsO.at HO4.out htn
        have HSW := Lib.hid (hst 3)
        have HD5 := Lib.hid (hd4.out.setCell (p := ⟨q, t, none⟩) (by simp; omega) (.int .i64 3))
        have HG5 := Lib.hid (grown_set HG4.out (p := ⟨q, t, none⟩) (by simp; omega) (.int .i64 3))
        have HM5 : Hid (∀ p ∈ m.set t 3, maskB p = true) := fun p hp => by
          rcases List.mem_or_eq_of_mem_set hp with h1 | h1
          · exact hM.out p h1
          · rw [h1]; rfl
        have HC5 : Hid (cntN (m.set t 3) (m.set t 3).length ≤ i + 1) := by
          have h1 := (cnt_set m t m.length).1
          have h2 := hC.out
          unfold Hid; rw [List.length_set]; omega
        clear hst hd4 HO4 HG4 hy
        go_wp2_with fail
        go_roundg (most - (i + 1))
        case rel => exact ⟨i + 1, _, by go_num, by omega, rfl, HSW, HD5, HG5, HM5, HC5⟩
        case measure => omega
    · have HEND : Hid (MasksPost w g nd most (.returned (.slice A nd c)) wr) := ⟨A, c, m, rfl, hD, grown_trans HB0.out hG.out, hO.out.mono (by have := HW.out; omega), hM, (by have := hC.out; unfold Hid; omega)⟩
      by_cases hl : i < most
      · obtain rfl : nd = 0 := by omega
        go_wp2_with fail
        go_ret
        exact HEND.out
      · have ql : decide ((i : Int) < (most : Int)) = false := by simp; omega
        have ql2 : decide (i < most) = false := by simp; omega
        go_wp2_with fail
        go_ret
        exact HEND.out
end Go.Proofs.YtiljpejjjgoeaaaDoor
/-
  The statements' makers of sets, grounds and operations.
-/
namespace Go.Proofs.YtiljpejjjgoeaaaDoor
open Go.RowKit
theorem grown_then {w w1 w2 : World} {row : Option Nat} (h : w.grownBy w1 row) (hb : Below w.heap.size w1 w2) : w.grownBy w2 row :=
  ⟨hb.os.trans h.os, hb.tape.trans h.tape, hb.output.trans h.output, Nat.le_trans h.size hb.size, fun i hi hne => (hb.block i hi).trans (h.block i hi hne)⟩
def SetPost (w : World) (g below : Nat) (e : Ending) (w' : World) : Prop := ∃ (A : Option Addr) (k c : Nat) (l : List Int), e = .returned (.slice A k c) ∧ Hid (DeckAt w' g) ∧ Hid (w.grownBy w' (some g)) ∧ Hid (IntsO w' w.heap.size A k c l) ∧ Hid (∀ v ∈ l, 0 ≤ v ∧ v < below)
def MsetR (w : World) (g below gk : Nat) (ov iv : Value) (wr : World) : Prop := ∃ (i m co : Nat) (Ao : Option Addr) (out : List Int), iv = .int .i64 i ∧ ov = .slice Ao m co ∧ i ≤ below ∧ gk = below - i ∧ m ≤ i ∧ Hid (IntsO wr w.heap.size Ao m co out) ∧ Hid (DeckAt wr g) ∧ Hid (w.grownBy wr (some g)) ∧ Hid (∀ v ∈ out, 0 ≤ v ∧ v < below)
set_option maxRecDepth 100000 in
set_option maxHeartbeats 4000000 in
theorem mkset_any (g below most : Nat) (w : World) (hd : DeckAt w g) (hb : below ≤ 1000) (hm : most ≤ 1000) :
    Calls Tryd.prog 20 #[.pointer (some ⟨g, 0, none⟩), .int .i64 (below : Int), .int .i64 (most : Int)] w (SetPost w g below) := by
  have hlt := hd.lt
  have HD0 := Lib.hid hd
  clear hd
  go_enter Tryd.func20, Tryd.ntmps20
  go_wp2_with fail
  go_loopg [7, 8] below (MsetR w g below)
  case atStart => exact ⟨0, 0, 0, none, [], rfl, rfl, Nat.zero_le _, rfl, Nat.le_refl _, World.ownsRow_nil _ _ _ _, HD0, grown_refl _ _, fun v hv => by simp at hv⟩
  case round =>
    obtain ⟨i, m, co, Ao, out, rfl, rfl, hi, rfl, hmi, hO, hD, hG, hR⟩ := hrel
    by_cases hgo : i < below ∧ m < most
    · obtain ⟨hl1, hl2⟩ := hgo
      go_wp2_with fail
      refine (one_any g 3 wr hD.out (by decide)).mono ?_
      rintro e w3 ⟨r, rfl, hd3, hg3, hs3⟩
      have HO3 := Lib.hid (hO.out.kept hg3.out (ne_row fun b e => by have := (hO.out.lt b e).1; omega))
      have HG3 := Lib.hid (grown_trans hG.out hg3.out)
      have hz3 := HG3.out.size
      clear hD hG hg3 hs3 hO
      rcases r with _ | _
      · go_wp2_with fail
        go_roundg (below - (i + 1))
        case rel => exact ⟨i + 1, m, co, Ao, out, by go_num, rfl, by omega, rfl, by omega, HO3, hd3, HG3, hR⟩
        case measure => omega
      · have HR1 : Hid (∀ v ∈ out ++ [(i : Int)], 0 ≤ v ∧ v < below) := fun v hv => by
          rcases List.mem_append.1 hv with h1 | h1
          · exact hR.out v h1
          · rw [List.mem_singleton.1 h1]; omega
        go_wp2_with (at_builtin; go_must (refine wpList_app rfl (.tmp 22) (.tmp 24) rfl el_int (by rfl) (HO3.out.alloc _) (by rfl) (Sl.newest (n := 1) (by simp) (by rfl) (by decide)) (by simp [Value.oneCell']) (by omega) (by omega) (by simp; omega) ?_; intro A' cap' w4 hown4 hgr4 hat4; have HO4 := Lib.hid hown4; have HG4 := Lib.hid hgr4; clear hown4 hgr4 hat4))
        have HB4 : Hid (Below w.heap.size w3 w4) := ((Below.refl _ _).alloc (by omega) _).trans ⟨HG4.out.os, HG4.out.tape, HG4.out.output, HG4.out.size, fun q hq => HG4.out.block q (by simp; omega) (fun e => by have := (HO3.out.lt q e.symm).1; omega)⟩
        have HD4 := Lib.hid (hd3.out.below HB4.out (by omega))
        have HG5 : Hid (w.grownBy w4 (some g)) := grown_then HG3.out HB4.out
        go_roundg (below - (i + 1))
        case rel =>
          refine ⟨i + 1, m + 1, cap', A', out ++ [(i : Int)], by go_num, rfl, by omega, rfl, by omega, ?_, HD4, HG5, HR1⟩
          have := HO4.out
          unfold Hid IntsO
          rw [intsV_append]
          exact this
        case measure => omega
    · have HEND : Hid (SetPost w g below (.returned (.slice Ao m co)) wr) := ⟨Ao, m, co, out, rfl, hD, hG, hO, hR⟩
      by_cases hl : i < below
      · have ql : decide ((m : Int) < (most : Int)) = false := by simp; omega
        have ql2 : decide (m < most) = false := by simp; omega
        go_wp2_with fail
        go_ret
        exact HEND.out
      · have ql : decide ((i : Int) < (below : Int)) = false := by simp; omega
        have ql2 : decide (i < below) = false := by simp; omega
        go_wp2_with fail
        go_ret
        exact HEND.out
def OpPost (w : World) (g nd : Nat) (e : Ending) (w' : World) : Prop := ∃ (i : Nat) (p : Int), e = .returned (.agg #[.int .i64 i, .int .i64 p]) ∧ i < nd ∧ (p = 1 ∨ p = 2) ∧ Hid (DeckAt w' g) ∧ Hid (w.grownBy w' (some g))
set_option maxHeartbeats 4000000 in
theorem mkop_any (g : Nat) (An Ad : Option Addr) (nn cn nd cd : Nat) (w : World) (hd : DeckAt w g) (hnd : 0 < nd) (hn : nd ≤ 1000) :
    Calls Tryd.prog 11 #[.pointer (some ⟨g, 0, none⟩), .agg #[.slice An nn cn, .slice Ad nd cd]] w (OpPost w g nd) := by
  have hlt := hd.lt
  have HD0 := Lib.hid ((hd.alloc (.cells #[.slice An nn cn, .slice Ad nd cd] 30)).alloc (.cells #[.int .i64 0, .int .i64 0] 36))
  have HB0 : Hid (Below w.heap.size w ((w.alloc (.cells #[.slice An nn cn, .slice Ad nd cd] 30)).alloc (.cells #[.int .i64 0, .int .i64 0] 36))) := ((Below.refl _ _).alloc (Nat.le_refl _) _).alloc (by simp) _
  have HK0 : Hid (Blk ((w.alloc (.cells #[.slice An nn cn, .slice Ad nd cd] 30)).alloc (.cells #[.int .i64 0, .int .i64 0] 36)) (w.heap.size + 1) 36 #[.int .i64 0, .int .i64 0]) := by
    have := Blk.new (w.alloc (.cells #[.slice An nn cn, .slice Ad nd cd] 30)) 36 #[.int .i64 0, .int .i64 0]
    unfold Hid; simpa using this
  clear hd
  go_enter Tryd.func11, Tryd.ntmps11
  go_wp2_with fail
  generalize World.alloc (World.alloc w _) _ = W at *
  refine (next_any g (nd : Int) W HD0.out (by omega)).mono ?_
  rintro e w1 ⟨v, rfl, hv0, _, hv1, hd1, hg1, hs1⟩
  have hvn := hv1.out (by omega)
  obtain ⟨t, rfl⟩ := Int.eq_ofNat_of_zero_le hv0
  have htn : t < nd := by omega
  have HK1 := Lib.hid (HK0.out.grown hg1.out (fun e => by injection e with e; omega))
  have HG1 := Lib.hid (grown_trans (grown_of_below HB0.out (some g)) hg1.out)
  clear HD0 HB0 HK0 hv1 hvn hv0 hg1 hs1
  go_wp2_with fail
  refine (next_any g 2 w1 hd1.out (by decide)).mono ?_
  rintro e w2 ⟨r, rfl, hv0, _, hv1, hd2, hg2, hs2⟩
  have hvn := hv1.out (by omega)
  have HK2 := Lib.hid (HK1.out.grown hg2.out (fun e => by injection e with e; omega))
  have HG2 := Lib.hid (grown_trans HG1.out hg2.out)
  have hp : 1 + r = 1 ∨ 1 + r = 2 := by omega
  obtain ⟨p, hpp⟩ : ∃ p, p = 1 + r := ⟨_, rfl⟩
  have hw : IntKind.wrap .i64 (1 + r) = p := by rcases (show r = 0 ∨ r = 1 by omega) with rfl | rfl <;> subst hpp <;> rfl
  rw [← hpp] at hp
  have c0 : w2.cell? ⟨w.heap.size + 1, 0, none⟩ = some (.int .i64 0) := HK2.out.cell 0
  have c1 : w2.cell? ⟨w.heap.size + 1, 1, none⟩ = some (.int .i64 0) := HK2.out.cell 1
  have f0 : w2.frozen? ⟨w.heap.size + 1, 0, none⟩ = false := HK2.out.frozen 0
  have f1 : w2.frozen? ⟨w.heap.size + 1, 1, none⟩ = false := HK2.out.frozen 1
  have HD3 := Lib.hid ((hd2.out.setCell (p := ⟨w.heap.size + 1, 0, none⟩) (by simp; omega) (.int .i64 t)).setCell (p := ⟨w.heap.size + 1, 1, none⟩) (by simp; omega) (.int .i64 p))
  have HG3 := Lib.hid (grown_set (grown_set HG2.out (p := ⟨w.heap.size + 1, 0, none⟩) (by simp) (.int .i64 t)) (p := ⟨w.heap.size + 1, 1, none⟩) (by simp) (.int .i64 p))
  have HX : Hid (OpPost w g nd (.returned (.agg #[.int .i64 t, .int .i64 p])) ((w2.setCell ⟨w.heap.size + 1, 0, none⟩ (.int .i64 t)).setCell ⟨w.heap.size + 1, 1, none⟩ (.int .i64 p))) := ⟨t, p, rfl, htn, hp, HD3, HG3⟩
  clear hv0 hv1 hvn hpp HG1 HK1 hd1 hd2 hg2 hs2 HD3 HG3 HG2 HK2
  go_wp2_with fail
  exact bodyPost_ret (v := .agg #[.int .i64 t, .int .i64 p]) (by simp [results, Tryd.results11, go_sem, c0, c1]) rfl HX.out
def GrPost (w : World) (g nn : Nat) (Al : Option Addr) (nl cl : Nat) (e : Ending) (w' : World) : Prop := ∃ (co : Int) (Ap : Option Addr) (np cp : Nat) (pr : List Int), e = .returned (.agg #[.int .i64 co, .slice Al nl cl, .slice Ap np cp]) ∧ (0 ≤ co ∧ co ≤ 7) ∧ Hid (DeckAt w' g) ∧ Hid (w.grownBy w' (some g)) ∧ Hid (IntsO w' w.heap.size Ap np cp pr) ∧ Hid (∀ v ∈ pr, 0 ≤ v ∧ v < nn)
set_option maxHeartbeats 4000000 in
theorem mkground_any (g : Nat) (An Ad Al : Option Addr) (nn cn nd cd nl cl : Nat) (w : World) (hd : DeckAt w g) (hnn : nn ≤ 1000) :
    Calls Tryd.prog 12 #[.pointer (some ⟨g, 0, none⟩), .agg #[.slice An nn cn, .slice Ad nd cd], .slice Al nl cl] w (GrPost w g nn Al nl cl) := by
  have hlt := hd.lt
  have HD0 := Lib.hid ((hd.alloc (.cells #[.slice An nn cn, .slice Ad nd cd] 30)).alloc (.cells #[.int .i64 0, .slice none 0 0, .slice none 0 0] 40))
  have HB0 : Hid (Below w.heap.size w ((w.alloc (.cells #[.slice An nn cn, .slice Ad nd cd] 30)).alloc (.cells #[.int .i64 0, .slice none 0 0, .slice none 0 0] 40))) := ((Below.refl _ _).alloc (Nat.le_refl _) _).alloc (by simp) _
  have HK0 : Hid (Blk ((w.alloc (.cells #[.slice An nn cn, .slice Ad nd cd] 30)).alloc (.cells #[.int .i64 0, .slice none 0 0, .slice none 0 0] 40)) (w.heap.size + 1) 40 #[.int .i64 0, .slice none 0 0, .slice none 0 0]) := by
    have := Blk.new (w.alloc (.cells #[.slice An nn cn, .slice Ad nd cd] 30)) 40 #[.int .i64 0, .slice none 0 0, .slice none 0 0]
    unfold Hid; simpa using this
  clear hd
  go_enter Tryd.func12, Tryd.ntmps12
  go_wp2_with fail
  generalize World.alloc (World.alloc w _) _ = W at *
  have hz0 := HB0.out.size
  have HX5 : Hid (w.heap.size + 1 < W.heap.size) := HK0.out.lt
  refine (mkset_any g nn 3 W HD0.out hnn (by decide)).mono ?_
  rintro e w1 ⟨Ap, np, cp, pr, rfl, hd1, hg1, hO1, hr1⟩
  have HK1 := Lib.hid ((HK0.out.grown hg1.out (fun e => by injection e with e; omega)).alloc (.cells #[.int .i64 0, .slice Al nl cl, .slice Ap np cp] 40))
  have HG1 := Lib.hid (grown_trans (grown_trans (grown_of_below HB0.out (some g)) hg1.out) (grown_of_below ((Below.refl _ _).alloc (Nat.le_refl _) (.cells #[.int .i64 0, .slice Al nl cl, .slice Ap np cp] 40)) (some g)))
  have HD1 := Lib.hid (hd1.out.alloc (.cells #[.int .i64 0, .slice Al nl cl, .slice Ap np cp] 40))
  have HO1 : Hid (IntsO (w1.alloc (.cells #[.int .i64 0, .slice Al nl cl, .slice Ap np cp] 40)) W.heap.size Ap np cp pr) := hO1.out.alloc _
  have HV1 := Lib.hid (Blk.new w1 40 #[.int .i64 0, .slice Al nl cl, .slice Ap np cp])
  have hz1 := hg1.out.size
  have HAP : Hid (∀ q, (Value.slice Ap np cp).ownBlock = some q → q < w1.heap.size) := fun q h => (hO1.out.lt q h).2
  clear hd1 hg1 hO1 HK0 HD0 HB0
  go_upto_region 2 with (fail)
  generalize World.alloc w1 _ = W2 at *
  obtain ⟨vb, hvb⟩ : ∃ x, x = w1.heap.size := ⟨_, rfl⟩
  rw [← hvb] at HV1 HAP hz1 ⊢
  clear hvb
  go_wp2_with fail
  refine (one_any g 6 W2 HD1.out (by decide)).mono ?_
  rintro e w3 ⟨r, rfl, hd3, hg3, hs3⟩
  have HK3 := Lib.hid (HK1.out.grown hg3.out (fun e => by injection e with e; omega))
  have HV3 := Lib.hid (HV1.out.grown hg3.out (fun e => by injection e with e; omega))
  have HO3 := Lib.hid (HO1.out.kept hg3.out (ne_row fun b e => by have := (HO1.out.lt b e).1; omega))
  have HG3 := Lib.hid (grown_trans HG1.out hg3.out)
  clear HK1 HV1 HO1 HG1 HD1 hg3 hs3
  have HEND : Hid (∀ (co : Int) (w4 : World), 0 ≤ co ∧ co ≤ 7 → Blk w4 vb 40 #[.int .i64 co, .slice Al nl cl, .slice Ap np cp] → DeckAt w4 g → w.grownBy w4 (some g) → IntsO w4 W.heap.size Ap np cp pr →
      GrPost w g nn Al nl cl (.returned (.agg #[.int .i64 co, .slice Al nl cl, .slice Ap np cp])) (((w4.setCell ⟨w.heap.size + 1, 0, none⟩ (.int .i64 co)).setCell ⟨w.heap.size + 1, 1, none⟩ (.slice Al nl cl)).setCell ⟨w.heap.size + 1, 2, none⟩ (.slice Ap np cp))) := by
    intro co w4 hco _ hd4 hg4 hO4
    refine ⟨co, Ap, np, cp, pr, rfl, hco, ((hd4.setCell (by simp; omega) _).setCell (by simp; omega) _).setCell (by simp; omega) _, grown_set (grown_set (grown_set hg4 (by simp) _) (by simp) _) (by simp) _, ?_, hr1⟩
    have hq : ∀ b, (Value.slice Ap np cp).ownBlock = some b → b ≠ w.heap.size + 1 := fun b e => by have := (hO4.lt b e).1; have := HX5.out; omega
    exact (((hO4.kept (grown_cell _ _ _) (ne_row hq)).kept (grown_cell _ _ _) (ne_row hq)).kept (grown_cell _ _ _) (ne_row hq)).mono hz0
  rcases r with _ | _
  · have HX := Lib.hid (HEND.out 0 w3 ⟨by decide, by decide⟩ HV3.out hd3.out HG3.out HO3.out)
    clear HEND HO3 HG3 hd3
    have v0 : w3.cell? ⟨vb, 0, none⟩ = some (.int .i64 0) := HV3.out.cell 0
    have v1 : w3.cell? ⟨vb, 1, none⟩ = some (.slice Al nl cl) := HV3.out.cell 1
    have v2 : w3.cell? ⟨vb, 2, none⟩ = some (.slice Ap np cp) := HV3.out.cell 2
    have c0 : w3.cell? ⟨w.heap.size + 1, 0, none⟩ = some (.int .i64 0) := HK3.out.cell 0
    have c1 : w3.cell? ⟨w.heap.size + 1, 1, none⟩ = some (.slice none 0 0) := HK3.out.cell 1
    have c2 : w3.cell? ⟨w.heap.size + 1, 2, none⟩ = some (.slice none 0 0) := HK3.out.cell 2
    have f0 : w3.frozen? ⟨w.heap.size + 1, 0, none⟩ = false := HK3.out.frozen 0
    have f1 : w3.frozen? ⟨w.heap.size + 1, 1, none⟩ = false := HK3.out.frozen 1
    have f2 : w3.frozen? ⟨w.heap.size + 1, 2, none⟩ = false := HK3.out.frozen 2
    go_wp2_with fail
    exact bodyPost_ret (v := .agg #[.int .i64 0, .slice Al nl cl, .slice Ap np cp]) (by simp [results, Tryd.results12, go_sem, c0, c1, c2]) rfl HX.out
  · go_wp2_with fail
    refine (next_any g 3 w3 hd3.out (by decide)).mono ?_
    rintro e w4 ⟨co, rfl, hv0, _, hv1, hd4, hg4, hs4⟩
    have hvn := hv1.out (by omega)
    have HK4 := Lib.hid ((HK3.out.grown hg4.out (fun e => by injection e with e; omega)).far (p := ⟨vb, 0, none⟩) (by show w.heap.size + 1 ≠ vb; have := HX5.out; omega) (.int .i64 co))
    have HV4 : Hid (Blk (w4.setCell ⟨vb, 0, none⟩ (.int .i64 co)) vb 40 #[.int .i64 co, .slice Al nl cl, .slice Ap np cp]) := (HV3.out.grown hg4.out (fun e => by injection e with e; omega)).set 0 (.int .i64 co)
    have HO4 := Lib.hid ((HO3.out.kept hg4.out (ne_row fun b e => by have := (HO3.out.lt b e).1; omega)).kept (grown_cell w4 ⟨vb, 0, none⟩ (.int .i64 co)) (ne_row fun b e => by have := HAP.out b e; simp; omega))
    have HG4 := Lib.hid (grown_set (grown_trans HG3.out hg4.out) (p := ⟨vb, 0, none⟩) (by simp; omega) (.int .i64 co))
    have HD4 := Lib.hid (hd4.out.setCell (p := ⟨vb, 0, none⟩) (by simp; omega) (.int .i64 co))
    have e0 : w4.cell? ⟨vb, 0, none⟩ = some (.int .i64 0) := (HV3.out.grown hg4.out (fun e => by injection e with e; omega)).cell 0
    have e1 : w4.frozen? ⟨vb, 0, none⟩ = false := (HV3.out.grown hg4.out (fun e => by injection e with e; omega)).frozen 0
    have HX := Lib.hid (HEND.out co _ ⟨hv0, by omega⟩ HV4.out HD4.out HG4.out HO4.out)
    clear HEND HO3 HG3 hd3 hd4 hg4 hs4 HK3 HV3 HO4 HG4 HD4 hv1
    go_upto_region 4 with (fail)
    generalize World.setCell w4 _ _ = w5 at *
    clear e0 e1
    have v0 : w5.cell? ⟨vb, 0, none⟩ = some (.int .i64 co) := HV4.out.cell 0
    have v1 : w5.cell? ⟨vb, 1, none⟩ = some (.slice Al nl cl) := HV4.out.cell 1
    have v2 : w5.cell? ⟨vb, 2, none⟩ = some (.slice Ap np cp) := HV4.out.cell 2
    have c0 : w5.cell? ⟨w.heap.size + 1, 0, none⟩ = some (.int .i64 0) := HK4.out.cell 0
    have c1 : w5.cell? ⟨w.heap.size + 1, 1, none⟩ = some (.slice none 0 0) := HK4.out.cell 1
    have c2 : w5.cell? ⟨w.heap.size + 1, 2, none⟩ = some (.slice none 0 0) := HK4.out.cell 2
    have f0 : w5.frozen? ⟨w.heap.size + 1, 0, none⟩ = false := HK4.out.frozen 0
    have f1 : w5.frozen? ⟨w.heap.size + 1, 1, none⟩ = false := HK4.out.frozen 1
    have f2 : w5.frozen? ⟨w.heap.size + 1, 2, none⟩ = false := HK4.out.frozen 2
    go_wp2_with fail
    exact bodyPost_ret (v := .agg #[.int .i64 co, .slice Al nl cl, .slice Ap np cp]) (by simp [results, Tryd.results12, go_sem, c0, c1, c2]) rfl HX.out
end Go.Proofs.YtiljpejjjgoeaaaDoor
