import Derived.Test.YtepicjpdhpojnaaGreatDoorS21
import Derived.Test.YtepicjpdhpojnaaGreatDoorS24
import Derived.Test.YtepicjpdhpojnaaGreatDoorS23
import Derived.Test.YtepicjpdhpojnaaGreatDoorS17
import Derived.Test.YtepicjpdhpojnaaGreatDoorS15
import Derived.Test.YtepicjpdhpojnaaGreatDoorS19
set_option maxRecDepth 100000
set_option maxHeartbeats 4000000
namespace Go.Proofs.YtepicjpdhpojnaaGreatDoor
open Go.RowKit
theorem grown_then {w w1 w2 : World} {row : Option Nat} (h : w.grownBy w1 row) (hb : Below w.heap.size w1 w2) : w.grownBy w2 row :=
 ⟨hb.os.trans h.os, hb.tape.trans h.tape, hb.output.trans h.output, Nat.le_trans h.size hb.size, fun i hi hne => (hb.block i hi).trans (h.block i hi hne)⟩
end Go.Proofs.YtepicjpdhpojnaaGreatDoor
namespace Go.Proofs.YtepicjpdhpojnaaGreatDoor
open Go.RowKit
def SetPz (w : World) (g below : Nat) (e : Ending) (w' : World) : Prop := ∃ (A : Option Addr) (k c : Nat) (l : List Int), e = .returned (.slice A k c) ∧ Hid (DeckAt w' g) ∧ Hid (w.grownBy w' (some g)) ∧ Hid (IntsO w' w.heap.size A k c l) ∧ Hid (k ≤ below ∧ risL below (-1) l = true)
def MszR (w : World) (g below gk : Nat) (ov iv : Value) (wr : World) : Prop := ∃ (i m co : Nat) (Ao : Option Addr) (out : List Int), iv = .int .i64 i ∧ ov = .slice Ao m co ∧ i ≤ below ∧ gk = below - i ∧ m ≤ i ∧ Hid (IntsO wr w.heap.size Ao m co out) ∧ Hid (DeckAt wr g) ∧ Hid (w.grownBy wr (some g)) ∧ Hid (risL below (-1) out = true ∧ lastD (-1) out < i)
theorem mksetz_any (g below most : Nat) (w : World) (hd : DeckAt w g) (hb : below ≤ 1000) (hm : most ≤ 1000) :
 Calls Tryz.prog 36 #[.pointer (some ⟨g, 0, none⟩), .int .i64 (below : Int), .int .i64 (most : Int)] w (SetPz w g below) := by
 have hlt := hd.lt
 have HD0 := Lib.hid hd
 clear hd
 go_enter Tryz.func36, Tryz.ntmps36
 go_wp2_with fail
 go_loopg [7, 8] below (MszR w g below)
 case atStart => exact ⟨0, 0, 0, none, [], rfl, rfl, Nat.zero_le _, rfl, Nat.le_refl _, World.ownsRow_nil _ _ _ _, HD0, grown_refl _ _, ⟨rfl, by show (-1 : Int) < 0; omega⟩⟩
 case round =>
  obtain ⟨i, m, co, Ao, out, rfl, rfl, hi, rfl, hmi, hO, hD, hG, hR⟩ := hrel
  by_cases hgo : i < below ∧ m < most
  ·obtain ⟨hl1, hl2⟩ := hgo
   go_wp2_with fail
   refine (one_any g 3 wr hD.out (by decide)).mono ?_
   rintro e w3 ⟨r, rfl, hd3, hg3, hs3⟩
   have HO3 := Lib.hid (hO.out.kept hg3.out (ne_row fun b e => by have := (hO.out.lt b e).1; omega))
   have HG3 := Lib.hid (grown_trans hG.out hg3.out)
   have hz3 := HG3.out.size
   clear hD hG hg3 hs3 hO
   rcases r with _ | _
   ·go_wp2_with fail
    go_roundg (below - (i + 1))
    case rel => exact ⟨i + 1, m, co, Ao, out, by go_num, rfl, by omega, rfl, by omega, HO3, hd3, HG3, ⟨hR.out.1, by have := hR.out.2; omega⟩⟩
    case measure => omega
   ·have HR1 : Hid (risL below (-1) (out ++ [(i : Int)]) = true ∧ lastD (-1) (out ++ [(i : Int)]) < ((i + 1 : Nat) : Int)) := by
     obtain ⟨h1, h2⟩ := hR.out
     refine ⟨?_, by rw [lastD_snoc]; omega⟩
     rw [risL_snoc, h1]
     have h3 : ((i : Nat) : Int) < (below : Nat) := by omega
     simp [h2, h3]
    go_wp2_with (at_builtin; go_must (refine wpList_app rfl (.tmp 22) (.tmp 24) rfl el_int (by rfl) (HO3.out.alloc _) (by rfl) (Sl.newest (n := 1) (by simp) (by rfl) (by decide)) (by simp [Value.oneCell']) (by omega) (by omega) (by simp; omega) ?_; intro A' cap' w4 hown4 hgr4 hat4; have HO4 := Lib.hid hown4; have HG4 := Lib.hid hgr4; clear hown4 hgr4 hat4))
    have HB4 : Hid (Below w.heap.size w3 w4) := ((Below.refl _ _).alloc (by omega) _).trans ⟨HG4.out.os, HG4.out.tape, HG4.out.output, HG4.out.size, fun q hq => HG4.out.block q (by simp; omega) (fun e => by have := (HO3.out.lt q e.symm).1; omega)⟩
    have HD4 := Lib.hid (hd3.out.below HB4.out (by omega))
    have HG5 : Hid (w.grownBy w4 (some g)) := grown_then HG3.out HB4.out
    go_roundg (below - (i + 1))
    case rel =>
     refine ⟨i + 1, m + 1, cap', A', out ++ [(i : Int)], by go_num, rfl, by omega, rfl, by omega, ?_, HD4, HG5, HR1⟩
     have := HO4.out
     unfold Hid IntsO
     rw [intsV_append]
     exact this
    case measure => omega
  ·have HEND : Hid (SetPz w g below (.returned (.slice Ao m co)) wr) := ⟨Ao, m, co, out, rfl, hD, hG, hO, by omega, hR.out.1⟩
   by_cases hl : i < below
   ·have ql : decide ((m : Int) < (most : Int)) = false := by simp; omega
    have ql2 : decide (m < most) = false := by simp; omega
    go_wp2_with fail
    go_ret
    exact HEND.out
   ·have ql : decide ((i : Int) < (below : Int)) = false := by simp; omega
    have ql2 : decide (i < below) = false := by simp; omega
    go_wp2_with fail
    go_ret
    exact HEND.out
def ZonePost (w : World) (g nn : Nat) (e : Ending) (w' : World) : Prop := ∃ (A : Option Addr) (k c : Nat) (l : List Int), e = .returned (.slice A k c) ∧ Hid (DeckAt w' g) ∧ Hid (w.grownBy w' (some g)) ∧ Hid (IntsO w' w.heap.size A k c l) ∧ Hid (0 < k ∧ k ≤ nn ∧ risL nn (-1) l = true)
theorem mkzone_any (g : Nat) (An Ad : Option Addr) (nn cn nd cd : Nat) (w : World) (hd : DeckAt w g) (h0 : 0 < nn) (hn : nn ≤ 1000) :
 Calls Tryz.prog 11 #[.pointer (some ⟨g, 0, none⟩), .agg #[.slice An nn cn, .slice Ad nd cd]] w (ZonePost w g nn) := by
 have hlt := hd.lt
 have HD0 := Lib.hid (hd.alloc (.cells #[.slice An nn cn, .slice Ad nd cd] 30))
 have HB0 : Hid (Below w.heap.size w (w.alloc (.cells #[.slice An nn cn, .slice Ad nd cd] 30))) := (Below.refl _ _).alloc (Nat.le_refl _) _
 have HK0 := Lib.hid (Blk.new w 30 #[.slice An nn cn, .slice Ad nd cd])
 clear hd
 have q0 : ((nn : Int) == 0) = false := by simp; omega
 have q1 : (nn == 0) = false := by simp; omega
 go_enter Tryz.func11, Tryz.ntmps11
 go_upto_region 3 with (fail)
 clear q0 q1
 generalize World.alloc _ _ = W at *
 have hz0 := HB0.out.size
 have k0 : W.cell? ⟨w.heap.size, 0, none⟩ = some (.slice An nn cn) := HK0.out.cell 0
 go_wp2_with fail
 clear k0
 refine (mksetz_any g nn 2 W HD0.out hn (by decide)).mono ?_
 rintro e w1 ⟨A, k, c, l, rfl, hd1, hg1, hO1, hr⟩
 have HG1 := Lib.hid (grown_trans (grown_of_below HB0.out (some g)) hg1.out)
 have HK1 := Lib.hid (HK0.out.grown hg1.out (by simp; omega))
 have hz1 := hg1.out.size
 clear hg1 HB0 HK0 HD0
 by_cases hk : k = 0
 ·subst hk
  have k0 : w1.cell? ⟨w.heap.size, 0, none⟩ = some (.slice An nn cn) := HK1.out.cell 0
  go_wp2_with fail
  clear k0
  refine (next_any g nn w1 hd1.out (by omega)).mono ?_
  rintro e w2 ⟨r, rfl, hr0, hrp, hrn, hd2, hg2, hs2⟩
  have HG2 := Lib.hid (grown_trans HG1.out hg2.out)
  go_wp2_with fail
  go_ret
  have hz2 := HG2.out.size
  have HBn : Hid (Below w2.heap.size w2 (w2.alloc (.cells #[.int .i64 r] 3))) := (Below.refl _ _).alloc (Nat.le_refl _) _
  refine ⟨_, 1, 1, [r], rfl, hd2.out.alloc _, grown_then HG2.out (HBn.out.mono hz2), own_new (n := 1) (xs := [.int .i64 r]) hz2 (by decide) rfl, by decide, by omega, ?_⟩
  have h1 := hrn.out (by omega)
  simp [risL]
  omega
 ·have q2 : ((k : Int) == 0) = false := by simp; omega
  have q3 : (k == 0) = false := by simp; omega
  go_wp2_with fail
  go_ret
  exact ⟨A, k, c, l, rfl, hd1, HG1, hO1.out.mono hz0, by omega, hr.out⟩
end Go.Proofs.YtepicjpdhpojnaaGreatDoor
namespace Go.Proofs.YtepicjpdhpojnaaGreatDoor
open Go.RowKit
end Go.Proofs.YtepicjpdhpojnaaGreatDoor
namespace Go.Proofs.YtepicjpdhpojnaaGreatDoor
open Go.RowKit
def nsW : List Nd := [⟨⟨#[65]⟩, 0, 0⟩]
def dsW : List Dv := [⟨⟨#[69]⟩, 4, 0, -1, 0⟩]
theorem checkW : checkN nsW dsW = 0 := by decide
theorem namesW : (∀ x ∈ nsW, x.name.size ≤ 9223372036854775807) ∧ (∀ x ∈ dsW, x.name.size ≤ 9223372036854775807) := by
 constructor <;> intro x hx <;> simp [nsW, dsW] at hx <;> subst hx <;> decide
theorem fdW {s : Int} {ls : List Lk} (hs : posB s = true) (hl : locksErr nsW dsW ls = 0) (hk : LsOk [s] ls) : fdErr nsW dsW ⟨[s], ls, []⟩ = 0 := fdErr_ok (state_fine checkW rfl (fun p hp => by rw [List.mem_singleton.1 hp]; exact hs)) hl hk (fun i hi => absurd hi (Nat.not_lt_zero i))
theorem stpW {F : Fd} {k p q : Int} (h : fdErr nsW dsW F = 0) (hu : unuB k p q = false) : stpErr nsW dsW F k 0 p q = evErr nsW dsW F k 0 p q := by
 unfold stpErr
 rw [if_neg (by simp [h]), if_neg (by decide), if_neg (by simp [hu])]
theorem w_stp1 : stpErr nsW dsW ⟨[1], [], []⟩ 1 0 2 0 = 0 := (stpW (fdW rfl (by decide) (fun k hk => by cases hk)) (by decide)).trans (by decide)
theorem w_stp2 : stpErr nsW dsW ⟨[2], [], []⟩ 6 0 2 4 = 0 := (stpW (fdW rfl (by decide) (fun k hk => by cases hk)) (by decide)).trans (by decide)
theorem w_stp3 : stpErr nsW dsW ⟨[2], [⟨0, 2, 4⟩], []⟩ 1 0 1 0 = 18 := (stpW (fdW rfl (by decide) (fun k hk => by rw [List.mem_singleton.1 hk]; rfl)) (by decide)).trans (by decide)
theorem w_to1 : evTo dsW ⟨[1], [], []⟩ 1 0 2 0 = ⟨[2], [], []⟩ := rfl
theorem w_to2 : evTo dsW ⟨[2], [], []⟩ 6 0 2 4 = ⟨[2], [⟨0, 2, 4⟩], []⟩ := rfl
theorem StepPost.ok {w w' : World} {ns : List Nd} {ds : List Dv} {F : Fd} {k d p q : Int} {e : Ending} (h : StepPost w ns ds F k d p q e w') (h0 : stpErr ns ds F k d p q = 0) :
 ∃ (A1 A2 A3 : Option Addr) (n1 c1 n2 c2 n3 c3 : Nat), e = .returned (.tuple #[.agg #[.slice A1 n1 c1, .slice A2 n2 c2, .slice A3 n3 c3], .int .i64 0]) ∧ Hid (IntsO w' w.heap.size A1 n1 c1 (evTo ds F k d p q).s) ∧ Hid (LocksO w' w.heap.size A2 n2 c2 (evTo ds F k d p q).ls) ∧ Hid (IntsO w' w.heap.size A3 n3 c3 (evTo ds F k d p q).st) ∧ Hid (Below w.heap.size w w') := by
 obtain ⟨⟨h1, _⟩ | ⟨_, A1, A2, A3, n1, c1, n2, c2, n3, c3, h1, h2, h3, h4⟩, h5⟩ := h
 ·exact absurd h0 h1
 ·exact ⟨A1, A2, A3, n1, c1, n2, c2, n3, c3, h1, h2, h3, h4, h5⟩
theorem StepPost.err {w w' : World} {ns : List Nd} {ds : List Dv} {F : Fd} {k d p q : Int} {e : Ending} (h : StepPost w ns ds F k d p q e w') (h0 : stpErr ns ds F k d p q ≠ 0) :
 e = .returned (.tuple #[.agg #[.slice none 0 0, .slice none 0 0, .slice none 0 0], .int .i64 (stpErr ns ds F k d p q)]) ∧ Hid (Below w.heap.size w w') := by
 obtain ⟨⟨_, h1⟩ | ⟨h1, _⟩, h5⟩ := h
 ·exact ⟨h1, h5⟩
 ·exact absurd h1 h0
theorem own_far3 {w : World} {base size n c x : Nat} {e : TypeId} {A : Option Addr} {xs : List Value} {u v t : Value} (h : w.ownsRow base e size (.slice A n c) n xs) (hx : x < base) : (((w.setCell ⟨x, 0, none⟩ u).setCell ⟨x, 1, none⟩ v).setCell ⟨x, 2, none⟩ t).ownsRow base e size (.slice A n c) n xs :=
 own_far (own_far (own_far h hx) hx) hx
structure AwW (w wr : World) : Prop where
 bn : Blk wr (w.heap.size + 1 + 1) 30 #[.slice (some ⟨w.heap.size, 0, none⟩) 1 1, .slice (some ⟨w.heap.size + 1, 0, none⟩) 1 1]
 sn : Sl wr (w.heap.size + 1) 3 (some ⟨w.heap.size, 0, none⟩) 1 1 (nsW.flatMap Nd.cells)
 sd : Sl wr (w.heap.size + 1 + 1) 5 (some ⟨w.heap.size + 1, 0, none⟩) 1 1 (dsW.flatMap Dv.cells)
 bl : Below w.heap.size w wr
 la : Laid wr
 sz : w.heap.size + 3 ≤ wr.heap.size
section
variable {w wr wr' : World}
theorem AwW.later (h : AwW w wr) (hb : Below wr.heap.size wr wr') : AwW w wr' :=
 ⟨h.bn.below hb h.bn.lt, h.sn.below hb (by have := h.sz; omega), h.sd.below hb (by have := h.sz; omega), h.bl.trans (hb.mono h.bl.size), h.la.below hb (Nat.le_refl _), Nat.le_trans h.sz hb.size⟩
theorem AwW.set (h : AwW w wr) (hl : Laid w) {x : Nat} (hx : w.heap.size + 3 ≤ x) (i : Nat) (u : Value) : AwW w (wr.setCell ⟨x, i, none⟩ u) :=
 ⟨h.bn.far (by simp; omega) _, h.sn.setCell (by simp; omega) _, h.sd.setCell (by simp; omega) _, h.bl.setCell (by simp; omega) _, h.la.grown hl (grown_cell _ ⟨x, i, none⟩ _) (by simp; omega), by simpa using h.sz⟩
theorem AwW.mk0 (w : World) (hl : Laid w) : AwW w (((w.alloc (.cells #[.string ⟨#[65]⟩, .int .i64 0, .int .i64 0] 74)).alloc (.cells #[.string ⟨#[69]⟩, .int .i64 4, .int .i64 0, .int .i64 (-1), .int .i64 0] 38)).alloc (.cells #[.slice (some ⟨w.heap.size, 0, none⟩) 1 1, .slice (some ⟨w.heap.size + 1, 0, none⟩) 1 1] 30)) := by
 refine ⟨?_, ?_, ?_, ?_, ((hl.alloc _).alloc _).alloc _, by simp⟩
 ·have := Blk.new ((w.alloc (.cells #[.string ⟨#[65]⟩, .int .i64 0, .int .i64 0] 74)).alloc (.cells #[.string ⟨#[69]⟩, .int .i64 4, .int .i64 0, .int .i64 (-1), .int .i64 0] 38)) 30 #[.slice (some ⟨w.heap.size, 0, none⟩) 1 1, .slice (some ⟨w.heap.size + 1, 0, none⟩) 1 1]
  simpa using this
 ·refine Sl.alloc (Sl.alloc ?_ (by simp) _) (by simp) _
  exact Sl.newest (n := 1) (size := 3) rfl rfl (by decide)
 ·refine Sl.alloc ?_ (by simp) _
  exact Sl.newest (n := 1) (size := 5) (by simp) rfl (by decide)
 ·exact (((Below.refl _ _).alloc (Nat.le_refl _) _).alloc (by simp) _).alloc (by simp; omega) _
theorem AwW.fdm {As Al At : Option Addr} {n c nl cl nt ct : Nat} {F : Fd} (h : AwW w wr) (h1 : Sl wr wr.heap.size 1 As n c (intsV F.s)) (h2 : Sl wr wr.heap.size 3 Al nl cl (F.ls.flatMap Lk.cells)) (h3 : Sl wr wr.heap.size 1 At nt ct (intsV F.st)) :
 FdM wr (some ⟨w.heap.size, 0, none⟩) (some ⟨w.heap.size + 1, 0, none⟩) As Al At 1 1 1 1 n c nl cl nt ct nsW dsW F :=
 ⟨h.sn.more (by have := h.sz; omega), h.sd.more (by have := h.sz; omega), h1, h2, h3, h.la, namesW.1, namesW.2⟩
end
theorem awake_any (w : World) (hl : Laid w) : Calls Tryz.prog 7 #[] w fun e w' => e = .returned (.bool true) ∧ Below w.heap.size w w' := by
 have HA0 := Lib.hid (AwW.mk0 w hl)
 have HL := Lib.hid hl
 clear hl
 go_enter Tryz.func7, Tryz.ntmps7
 go_upto_region 2 with (fail)
 generalize World.alloc (World.alloc (World.alloc _ _) _) _ = w0 at *
 have hz0 := HA0.out.sz
 have HS0 : Hid (Sl (w0.alloc (.cells #[.int .i64 1] 3)) (w0.alloc (.cells #[.int .i64 1] 3)).heap.size 1 (some ⟨w0.heap.size, 0, none⟩) 1 1 (intsV [1])) := (Sl.newest (n := 1) (size := 1) rfl rfl (by decide)).more (by simp)
 have HA1 := Lib.hid (HA0.out.later ((Below.refl _ _).alloc (Nat.le_refl _) (.cells #[.int .i64 1] 3)))
 have k0 : w0.cell? ⟨w.heap.size + 1 + 1, 0, none⟩ = some (.slice (some ⟨w.heap.size, 0, none⟩) 1 1) := HA0.out.bn.cell 0
 have k1 : w0.cell? ⟨w.heap.size + 1 + 1, 1, none⟩ = some (.slice (some ⟨w.heap.size + 1, 0, none⟩) 1 1) := HA0.out.bn.cell 1
 go_wp2_with fail
 clear k0 k1
 generalize World.alloc w0 _ = w1 at *
 have hz1 := HA1.out.sz
 refine (fstep_any _ _ _ none none 1 1 1 1 1 1 0 0 0 0 nsW dsW ⟨[1], [], []⟩ 1 0 2 0 w1 (HA1.out.fdm HS0.out (Sl.nil _ _ _) (Sl.nil _ _ _))).mono ?_
 intro e w2 hpost
 obtain ⟨A1, A2, A3, n1, c1, n2, c2, n3, c3, rfl, hi1, hi2, hi3, hb2⟩ := hpost.ok w_stp1
 rw [w_to1] at hi1 hi2 hi3
 obtain rfl : 1 = n1 := hi1.out.len
 have HA2 := Lib.hid (HA1.out.later hb2.out)
 have HB2 := Lib.hid (Blk.new w2 35 #[.slice A1 1 c1, .slice A2 n2 c2, .slice A3 n3 c3])
 have HA3 := Lib.hid (HA2.out.later ((Below.refl _ _).alloc (Nat.le_refl _) (.cells #[.slice A1 1 c1, .slice A2 n2 c2, .slice A3 n3 c3] 35)))
 have HI1 := Lib.hid (hi1.out.sl.alloc (Nat.le_refl _) (.cells #[.slice A1 1 c1, .slice A2 n2 c2, .slice A3 n3 c3] 35))
 have HI2 := Lib.hid (hi2.out.sl.alloc (Nat.le_refl _) (.cells #[.slice A1 1 c1, .slice A2 n2 c2, .slice A3 n3 c3] 35))
 have HI3 := Lib.hid (hi3.out.sl.alloc (Nat.le_refl _) (.cells #[.slice A1 1 c1, .slice A2 n2 c2, .slice A3 n3 c3] 35))
 have hz2 := HA2.out.sz
 clear hpost hi1 hi2 hi3 hb2 HA1 HS0 HA0 HA2 hz1 hz0
 go_upto_region 3 with (fail)
 obtain ⟨fb, hfb⟩ : ∃ x, x = w2.heap.size := ⟨_, rfl⟩
 rw [← hfb] at HB2 hz2 HI1 HI2 HI3 ⊢
 have hfs : fb < (World.alloc w2 (.cells #[.slice A1 1 c1, .slice A2 n2 c2, .slice A3 n3 c3] 35)).heap.size := by rw [hfb]; simp
 clear hfb
 generalize World.alloc w2 _ = w3 at *
 have k0 : w3.cell? ⟨w.heap.size + 1 + 1, 0, none⟩ = some (.slice (some ⟨w.heap.size, 0, none⟩) 1 1) := HA3.out.bn.cell 0
 have k1 : w3.cell? ⟨w.heap.size + 1 + 1, 1, none⟩ = some (.slice (some ⟨w.heap.size + 1, 0, none⟩) 1 1) := HA3.out.bn.cell 1
 have f0 : w3.cell? ⟨fb, 0, none⟩ = some (.slice A1 1 c1) := HB2.out.cell 0
 have f1 : w3.cell? ⟨fb, 1, none⟩ = some (.slice A2 n2 c2) := HB2.out.cell 1
 have f2 : w3.cell? ⟨fb, 2, none⟩ = some (.slice A3 n3 c3) := HB2.out.cell 2
 go_wp2_with fail
 clear k0 k1 f0 f1 f2
 refine (fstep_any _ _ A1 A2 A3 1 1 1 1 1 c1 n2 c2 n3 c3 nsW dsW ⟨[2], [], []⟩ 6 0 2 4 w3 (HA3.out.fdm (HI1.out.more (by omega)) (HI2.out.more (by omega)) (HI3.out.more (by omega)))).mono ?_
 intro e w4 hpost
 obtain ⟨B1, B2, B3, m1, d1, m2, d2, m3, d3, rfl, hj1, hj2, hj3, hb4⟩ := hpost.ok w_stp2
 rw [w_to2] at hj1 hj2 hj3
 obtain rfl : 1 = m1 := hj1.out.len
 obtain rfl : 1 = m2 := hj2.out.len
 have HB4 := Lib.hid (HB2.out.below hb4.out HB2.out.lt)
 have HA4 := Lib.hid ((((HA3.out.later hb4.out).set HL.out (x := fb) hz2 0 (.slice B1 1 d1)).set HL.out (x := fb) hz2 1 (.slice B2 1 d2)).set HL.out (x := fb) hz2 2 (.slice B3 m3 d3))
 have HJ1 : Hid (Sl (((w4.setCell ⟨fb, 0, none⟩ (.slice B1 1 d1)).setCell ⟨fb, 1, none⟩ (.slice B2 1 d2)).setCell ⟨fb, 2, none⟩ (.slice B3 m3 d3)) w4.heap.size 1 B1 1 d1 (intsV [2])) := (Sl.of_own (own_far3 hj1.out hfs)).more (by simp)
 have HJ2 : Hid (Sl (((w4.setCell ⟨fb, 0, none⟩ (.slice B1 1 d1)).setCell ⟨fb, 1, none⟩ (.slice B2 1 d2)).setCell ⟨fb, 2, none⟩ (.slice B3 m3 d3)) w4.heap.size 3 B2 1 d2 ([(⟨0, 2, 4⟩ : Lk)].flatMap Lk.cells)) := (Sl.of_own (own_far3 hj2.out hfs)).more (by simp)
 have HJ3 : Hid (Sl (((w4.setCell ⟨fb, 0, none⟩ (.slice B1 1 d1)).setCell ⟨fb, 1, none⟩ (.slice B2 1 d2)).setCell ⟨fb, 2, none⟩ (.slice B3 m3 d3)) w4.heap.size 1 B3 m3 d3 (intsV [])) := (Sl.of_own (own_far3 hj3.out hfs)).more (by simp)
 have HF4 := Lib.hid (((HB4.out.set 0 (.slice B1 1 d1)).set 1 (.slice B2 1 d2)).set 2 (.slice B3 m3 d3))
 have c0 := HB4.out.cell 0
 have c1 := HB4.out.cell 1
 have c2 := HB4.out.cell 2
 have y0 := HB4.out.frozen 0
 have y1 := HB4.out.frozen 1
 have y2 := HB4.out.frozen 2
 have hz4 : w4.heap.size = (((w4.setCell ⟨fb, 0, none⟩ (.slice B1 1 d1)).setCell ⟨fb, 1, none⟩ (.slice B2 1 d2)).setCell ⟨fb, 2, none⟩ (.slice B3 m3 d3)).heap.size := by simp
 clear hpost hj1 hj2 hj3 hb4 HA3 HB2 HI1 HI2 HI3
 go_upto_region 4 with (fail)
 clear c0 c1 c2 y0 y1 y2 HB4
 generalize World.setCell (World.setCell (World.setCell w4 _ _) _ _) _ _ = w5 at *
 rw [hz4] at HJ1 HJ2 HJ3
 clear hz4
 have k0 : w5.cell? ⟨w.heap.size + 1 + 1, 0, none⟩ = some (.slice (some ⟨w.heap.size, 0, none⟩) 1 1) := HA4.out.bn.cell 0
 have k1 : w5.cell? ⟨w.heap.size + 1 + 1, 1, none⟩ = some (.slice (some ⟨w.heap.size + 1, 0, none⟩) 1 1) := HA4.out.bn.cell 1
 have f0 : w5.cell? ⟨fb, 0, none⟩ = some (.slice B1 1 d1) := HF4.out.cell 0
 have f1 : w5.cell? ⟨fb, 1, none⟩ = some (.slice B2 1 d2) := HF4.out.cell 1
 have f2 : w5.cell? ⟨fb, 2, none⟩ = some (.slice B3 m3 d3) := HF4.out.cell 2
 go_wp2_with fail
 clear k0 k1 f0 f1 f2
 refine (fstep_any _ _ B1 B2 B3 1 1 1 1 1 d1 1 d2 m3 d3 nsW dsW ⟨[2], [⟨0, 2, 4⟩], []⟩ 1 0 1 0 w5 (HA4.out.fdm HJ1.out HJ2.out HJ3.out)).mono ?_
 intro e w6 hpost
 obtain ⟨rfl, hb6⟩ := hpost.err (by rw [w_stp3]; decide)
 rw [w_stp3]
 have HA6 := Lib.hid (HA4.out.later hb6.out)
 have hJ6 := HJ1.out.below hb6.out (Nat.le_refl _)
 obtain ⟨bb, oo, sv, hB1, hbs, hsv, hcs⟩ := Sl.at1 (g := fun x : Int => Value.int .i64 x) (l := [2]) (k := 0) hJ6 (by decide)
 subst hB1
 obtain rfl : 2 = sv := by simpa using hsv
 replace hcs : w6.cell? ⟨bb, oo, none⟩ = some (.int .i64 2) := hcs
 have HF6 := Lib.hid (HF4.out.below hb6.out HF4.out.lt)
 have HC6 := Lib.hid (hb6.out.size)
 have hbs6 : bb < w6.heap.size := Nat.lt_of_lt_of_le hbs hb6.out.size
 have hfb6 : fb < w6.heap.size := HF6.out.lt
 have f0 : w6.cell? ⟨fb, 0, none⟩ = some (.slice (some ⟨bb, oo, none⟩) 1 d1) := HF6.out.cell 0
 have f1 : w6.cell? ⟨fb, 1, none⟩ = some (.slice B2 1 d2) := HF6.out.cell 1
 clear hpost hb6 HA4 HJ1 HJ2 HJ3 HF4 hsv
 go_wp2_with fail
 go_ret
 exact ⟨rfl, (HA6.out.bl.alloc HA6.out.bl.size _)⟩
end Go.Proofs.YtepicjpdhpojnaaGreatDoor
