import Derived.Test.YtkkobemhbicjgaaGreatDoorG21
import Derived.Test.YtkkobemhbicjgaaGreatDoorG20
set_option maxRecDepth 100000
set_option maxHeartbeats 4000000
namespace Go.Proofs.YtkkobemhbicjgaaGreatDoor
open Go.RowKit
def SetPz (w : World) (g below : Nat) (e : Ending) (w' : World) : Prop := ∃ (A : Option Addr) (k c : Nat) (l : List Int), e = .returned (.slice A k c) ∧ Hid (DeckAt w' g) ∧ Hid (w.grownBy w' (some g)) ∧ Hid (IntsO w' w.heap.size A k c l) ∧ Hid (k ≤ below ∧ risL below (-1) l = true)
def MszR (w : World) (g below gk : Nat) (ov iv : Value) (wr : World) : Prop := ∃ (i m co : Nat) (Ao : Option Addr) (out : List Int), iv = .int .i64 i ∧ ov = .slice Ao m co ∧ i ≤ below ∧ gk = below - i ∧ m ≤ i ∧ Hid (IntsO wr w.heap.size Ao m co out) ∧ Hid (DeckAt wr g) ∧ Hid (w.grownBy wr (some g)) ∧ Hid (risL below (-1) out = true ∧ lastD (-1) out < i)
theorem mksetz_any (g below most : Nat) (w : World) (hd : DeckAt w g) (hb : below ≤ 1000) (hm : most ≤ 1000) :
 Calls Tryz.prog 45 #[.pointer (some ⟨g, 0, none⟩), .int .i64 (below : Int), .int .i64 (most : Int)] w (SetPz w g below) := by
 have hlt := hd.lt
 have HD0 := Lib.hid hd
 clear hd
 go_enter Tryz.func45, Tryz.ntmps45
 go_wp2_with fail
 go_loopg [7, 8] below (MszR w g below)
 case atStart => exact ⟨0, 0, 0, none, [], rfl, rfl, Nat.zero_le _, rfl, Nat.le_refl _, World.ownsRow_nil _ _ _ _, HD0, grown_refl _ _, ⟨rfl, by show (-1 : Int) < 0; omega⟩⟩
 case round =>
  obtain ⟨i, m, co, Ao, out, rfl, rfl, hi, rfl, hmi, hO, hD, hG, hR⟩ := hrel
  by_cases hgo : i < below ∧ m < most
  ·obtain ⟨hl1, hl2⟩ := hgo
   go_wp2_with fail
   refine (one_any g 3 wr hD.out (by decide)).mono ?_
   rintro e w3 ⟨r, rfl, hd3, hg3, hs3⟩
   have HO3 := Lib.hid (hO.out.kept hg3.out (ne_row fun b e => by have := (hO.out.lt b e).1; omega))
   have HG3 := Lib.hid (grown_trans hG.out hg3.out)
   have hz3 := HG3.out.size
   clear hD hG hg3 hs3 hO
   rcases r with _ | _
   ·go_wp2_with fail
    go_roundg (below - (i + 1))
    case rel => exact ⟨i + 1, m, co, Ao, out, by go_num, rfl, by omega, rfl, by omega, HO3, hd3, HG3, ⟨hR.out.1, by have := hR.out.2; omega⟩⟩
    case measure => omega
   ·have HR1 : Hid (risL below (-1) (out ++ [(i : Int)]) = true ∧ lastD (-1) (out ++ [(i : Int)]) < ((i + 1 : Nat) : Int)) := by
     obtain ⟨h1, h2⟩ := hR.out
     refine ⟨?_, by rw [lastD_snoc]; omega⟩
     rw [risL_snoc, h1]
     have h3 : ((i : Nat) : Int) < (below : Nat) := by omega
     simp [h2, h3]
    go_wp2_with (at_builtin; go_must (refine wpList_app rfl (.tmp 22) (.tmp 24) rfl el_int (by rfl) (HO3.out.alloc _) (by rfl) (Sl.newest (n := 1) (by simp) (by rfl) (by decide)) (by simp [Value.oneCell']) (by omega) (by omega) (by simp; omega) ?_; intro A' cap' w4 hown4 hgr4 hat4; have HO4 := Lib.hid hown4; have HG4 := Lib.hid hgr4; clear hown4 hgr4 hat4))
    have HB4 : Hid (Below w.heap.size w3 w4) := ((Below.refl _ _).alloc (by omega) _).trans ⟨HG4.out.os, HG4.out.tape, HG4.out.output, HG4.out.size, fun q hq => HG4.out.block q (by simp; omega) (fun e => by have := (HO3.out.lt q e.symm).1; omega)⟩
    have HD4 := Lib.hid (hd3.out.below HB4.out (by omega))
    have HG5 : Hid (w.grownBy w4 (some g)) := grown_then HG3.out HB4.out
    go_roundg (below - (i + 1))
    case rel =>
     refine ⟨i + 1, m + 1, cap', A', out ++ [(i : Int)], by go_num, rfl, by omega, rfl, by omega, ?_, HD4, HG5, HR1⟩
     have := HO4.out
     unfold Hid IntsO
     rw [intsV_append]
     exact this
    case measure => omega
  ·have HEND : Hid (SetPz w g below (.returned (.slice Ao m co)) wr) := ⟨Ao, m, co, out, rfl, hD, hG, hO, by omega, hR.out.1⟩
   by_cases hl : i < below
   ·have ql : decide ((m : Int) < (most : Int)) = false := by simp; omega
    have ql2 : decide (m < most) = false := by simp; omega
    go_wp2_with fail
    go_ret
    exact HEND.out
   ·have ql : decide ((i : Int) < (below : Int)) = false := by simp; omega
    have ql2 : decide (i < below) = false := by simp; omega
    go_wp2_with fail
    go_ret
    exact HEND.out
end Go.Proofs.YtkkobemhbicjgaaGreatDoor
namespace Go.Proofs.YtkkobemhbicjgaaGreatDoor
open Go.RowKit
def GzPost (w : World) (g nn : Nat) (Al : Option Addr) (nl cl : Nat) (e : Ending) (w' : World) : Prop := ∃ (co : Int) (Ap : Option Addr) (np cp : Nat) (pr : List Int), e = .returned (.agg #[.int .i64 co, .slice Al nl cl, .slice Ap np cp]) ∧ (0 ≤ co ∧ co ≤ 7) ∧ Hid (DeckAt w' g) ∧ Hid (w.grownBy w' (some g)) ∧ Hid (IntsO w' w.heap.size Ap np cp pr) ∧ Hid (np ≤ nn ∧ risL nn (-1) pr = true)
theorem mkgroundz_any (g : Nat) (An Ad Al : Option Addr) (nn cn nd cd nl cl : Nat) (w : World) (hd : DeckAt w g) (hnn : nn ≤ 1000) :
 Calls Tryz.prog 17 #[.pointer (some ⟨g, 0, none⟩), .agg #[.slice An nn cn, .slice Ad nd cd], .slice Al nl cl] w (GzPost w g nn Al nl cl) := by
 have hlt := hd.lt
 have HD0 := Lib.hid ((hd.alloc (.cells #[.slice An nn cn, .slice Ad nd cd] 30)).alloc (.cells #[.int .i64 0, .slice none 0 0, .slice none 0 0] 37))
 have HB0 : Hid (Below w.heap.size w ((w.alloc (.cells #[.slice An nn cn, .slice Ad nd cd] 30)).alloc (.cells #[.int .i64 0, .slice none 0 0, .slice none 0 0] 37))) := ((Below.refl _ _).alloc (Nat.le_refl _) _).alloc (by simp) _
 have HK0 : Hid (Blk ((w.alloc (.cells #[.slice An nn cn, .slice Ad nd cd] 30)).alloc (.cells #[.int .i64 0, .slice none 0 0, .slice none 0 0] 37)) (w.heap.size + 1) 37 #[.int .i64 0, .slice none 0 0, .slice none 0 0]) := by
  have := Blk.new (w.alloc (.cells #[.slice An nn cn, .slice Ad nd cd] 30)) 37 #[.int .i64 0, .slice none 0 0, .slice none 0 0]
  unfold Hid; simpa using this
 clear hd
 go_enter Tryz.func17, Tryz.ntmps17
 go_wp2_with fail
 generalize World.alloc (World.alloc w _) _ = W at *
 have hz0 := HB0.out.size
 have HX5 : Hid (w.heap.size + 1 < W.heap.size) := HK0.out.lt
 refine (mksetz_any g nn 3 W HD0.out hnn (by decide)).mono ?_
 rintro e w1 ⟨Ap, np, cp, pr, rfl, hd1, hg1, hO1, hr1⟩
 have HK1 := Lib.hid ((HK0.out.grown hg1.out (fun e => by injection e with e; omega)).alloc (.cells #[.int .i64 0, .slice Al nl cl, .slice Ap np cp] 37))
 have HG1 := Lib.hid (grown_trans (grown_trans (grown_of_below HB0.out (some g)) hg1.out) (grown_of_below ((Below.refl _ _).alloc (Nat.le_refl _) (.cells #[.int .i64 0, .slice Al nl cl, .slice Ap np cp] 37)) (some g)))
 have HD1 := Lib.hid (hd1.out.alloc (.cells #[.int .i64 0, .slice Al nl cl, .slice Ap np cp] 37))
 have HO1 : Hid (IntsO (w1.alloc (.cells #[.int .i64 0, .slice Al nl cl, .slice Ap np cp] 37)) W.heap.size Ap np cp pr) := hO1.out.alloc _
 have HV1 := Lib.hid (Blk.new w1 37 #[.int .i64 0, .slice Al nl cl, .slice Ap np cp])
 have hz1 := hg1.out.size
 have HAP : Hid (∀ q, (Value.slice Ap np cp).ownBlock = some q → q < w1.heap.size) := fun q h => (hO1.out.lt q h).2
 clear hd1 hg1 hO1 HK0 HD0 HB0
 go_upto_region 2 with (fail)
 generalize World.alloc w1 _ = W2 at *
 obtain ⟨vb, hvb⟩ : ∃ x, x = w1.heap.size := ⟨_, rfl⟩
 rw [← hvb] at HV1 HAP hz1 ⊢
 clear hvb
 go_wp2_with fail
 refine (one_any g 6 W2 HD1.out (by decide)).mono ?_
 rintro e w3 ⟨r, rfl, hd3, hg3, hs3⟩
 have HK3 := Lib.hid (HK1.out.grown hg3.out (fun e => by injection e with e; omega))
 have HV3 := Lib.hid (HV1.out.grown hg3.out (fun e => by injection e with e; omega))
 have HO3 := Lib.hid (HO1.out.kept hg3.out (ne_row fun b e => by have := (HO1.out.lt b e).1; omega))
 have HG3 := Lib.hid (grown_trans HG1.out hg3.out)
 clear HK1 HV1 HO1 HG1 HD1 hg3 hs3
 have HEND : Hid (∀ (co : Int) (w4 : World), 0 ≤ co ∧ co ≤ 7 → Blk w4 vb 37 #[.int .i64 co, .slice Al nl cl, .slice Ap np cp] → DeckAt w4 g → w.grownBy w4 (some g) → IntsO w4 W.heap.size Ap np cp pr →
  GzPost w g nn Al nl cl (.returned (.agg #[.int .i64 co, .slice Al nl cl, .slice Ap np cp])) (((w4.setCell ⟨w.heap.size + 1, 0, none⟩ (.int .i64 co)).setCell ⟨w.heap.size + 1, 1, none⟩ (.slice Al nl cl)).setCell ⟨w.heap.size + 1, 2, none⟩ (.slice Ap np cp))) := by
  intro co w4 hco _ hd4 hg4 hO4
  refine ⟨co, Ap, np, cp, pr, rfl, hco, ((hd4.setCell (by simp; omega) _).setCell (by simp; omega) _).setCell (by simp; omega) _, grown_set (grown_set (grown_set hg4 (by simp) _) (by simp) _) (by simp) _, ?_, hr1⟩
  have hq : ∀ b, (Value.slice Ap np cp).ownBlock = some b → b ≠ w.heap.size + 1 := fun b e => by have := (hO4.lt b e).1; have := HX5.out; omega
  exact (((hO4.kept (grown_cell _ _ _) (ne_row hq)).kept (grown_cell _ _ _) (ne_row hq)).kept (grown_cell _ _ _) (ne_row hq)).mono hz0
 rcases r with _ | _
 ·have HX := Lib.hid (HEND.out 0 w3 ⟨by decide, by decide⟩ HV3.out hd3.out HG3.out HO3.out)
  clear HEND HO3 HG3 hd3
  have v0 := HV3.out.c0
  have v1 := HV3.out.c1
  have v2 := HV3.out.c2
  have c0 := HK3.out.c0
  have c1 := HK3.out.c1
  have c2 := HK3.out.c2
  have f0 : w3.frozen? ⟨w.heap.size + 1, 0, none⟩ = false := HK3.out.frozen 0
  have f1 : w3.frozen? ⟨w.heap.size + 1, 1, none⟩ = false := HK3.out.frozen 1
  have f2 : w3.frozen? ⟨w.heap.size + 1, 2, none⟩ = false := HK3.out.frozen 2
  go_wp2_with fail
  exact bodyPost_ret (v := .agg #[.int .i64 0, .slice Al nl cl, .slice Ap np cp]) (by simp [results, Tryz.results17, go_sem, c0, c1, c2]) rfl HX.out
 ·go_wp2_with fail
  refine (next_any g 3 w3 hd3.out (by decide)).mono ?_
  rintro e w4 ⟨co, rfl, hv0, _, hv1, hd4, hg4, hs4⟩
  have hvn := hv1.out (by omega)
  have HK4 := Lib.hid ((HK3.out.grown hg4.out (fun e => by injection e with e; omega)).far (p := ⟨vb, 0, none⟩) (by show w.heap.size + 1 ≠ vb; have := HX5.out; omega) (.int .i64 co))
  have HV4 : Hid (Blk (w4.setCell ⟨vb, 0, none⟩ (.int .i64 co)) vb 37 #[.int .i64 co, .slice Al nl cl, .slice Ap np cp]) := (HV3.out.grown hg4.out (fun e => by injection e with e; omega)).set 0 (.int .i64 co)
  have HO4 := Lib.hid ((HO3.out.kept hg4.out (ne_row fun b e => by have := (HO3.out.lt b e).1; omega)).kept (grown_cell w4 ⟨vb, 0, none⟩ (.int .i64 co)) (ne_row fun b e => by have := HAP.out b e; simp; omega))
  have HG4 := Lib.hid (grown_set (grown_trans HG3.out hg4.out) (p := ⟨vb, 0, none⟩) (by simp; omega) (.int .i64 co))
  have HD4 := Lib.hid (hd4.out.setCell (p := ⟨vb, 0, none⟩) (by simp; omega) (.int .i64 co))
  have e0 := (HV3.out.grown hg4.out (fun e => by injection e with e; omega)).c0
  have e1 : w4.frozen? ⟨vb, 0, none⟩ = false := (HV3.out.grown hg4.out (fun e => by injection e with e; omega)).frozen 0
  have HX := Lib.hid (HEND.out co _ ⟨hv0, by omega⟩ HV4.out HD4.out HG4.out HO4.out)
  clear HEND HO3 HG3 hd3 hd4 hg4 hs4 HK3 HV3 HO4 HG4 HD4 hv1
  go_upto_region 4 with (fail)
  generalize World.setCell w4 _ _ = w5 at *
  clear e0 e1
  have v0 := HV4.out.c0
  have v1 := HV4.out.c1
  have v2 := HV4.out.c2
  have c0 := HK4.out.c0
  have c1 := HK4.out.c1
  have c2 := HK4.out.c2
  have f0 : w5.frozen? ⟨w.heap.size + 1, 0, none⟩ = false := HK4.out.frozen 0
  have f1 : w5.frozen? ⟨w.heap.size + 1, 1, none⟩ = false := HK4.out.frozen 1
  have f2 : w5.frozen? ⟨w.heap.size + 1, 2, none⟩ = false := HK4.out.frozen 2
  go_wp2_with fail
  exact bodyPost_ret (v := .agg #[.int .i64 co, .slice Al nl cl, .slice Ap np cp]) (by simp [results, Tryz.results17, go_sem, c0, c1, c2]) rfl HX.out
end Go.Proofs.YtkkobemhbicjgaaGreatDoor
