import Derived.Test.YtfaknfmndafllaaGreatDoorW04
import Derived.Test.YtfaknfmndafllaaGreatDoorW29
import Derived.Test.YtfaknfmndafllaaGreatDoorW21
import Derived.Test.YtfaknfmndafllaaGreatDoorW22
import Derived.Test.YtfaknfmndafllaaGreatDoorW18
import Derived.Test.YtfaknfmndafllaaGreatDoorW27
import Derived.Test.YtfaknfmndafllaaGreatDoorShelf
import Derived.Test.YtfaknfmndafllaaGreatDoorW23
import Derived.Test.YtfaknfmndafllaaGreatDoorW06
import Derived.Test.YtfaknfmndafllaaGreatDoorW19
set_option maxRecDepth 100000
set_option maxHeartbeats 16000000
namespace Go.Proofs.YtfaknfmndafllaaGreatDoor
open Go.RowKit
def grErr (ns : List Nd) (ds : List Dv) (co : Int) (ls : List Lk) (pr : List Int) : Int :=
 if co < 0 ∨ 7 < co then 5 else if locksErr ns ds ls ≠ 0 then locksErr ns ds ls else if risL ns.length (-1) pr = false then 7 else 0
noncomputable def hzD (ns : List Nd) (ds : List Dv) (s : List Int) (d p co : Int) (ls : List Lk) (pr : List Int) : List Int :=
 match ds[d.toNat]? with
 | some x => hzAt ns.length ns ds s d.toNat p co ls pr x
 | none => []
structure Fn where
 st : Int
 hz : Int
deriving DecidableEq
def Fn.cells (f : Fn) : List Value := [.int .i64 f.st, .int .i64 f.hz]
theorem stateErr_set {ns : List Nd} {ds : List Dv} {s : List Int} {i : Nat} {v : Int} (h : stateErr ns ds s = 0) (hv : v = 1 ∨ v = 2) : stateErr ns ds (s.set i v) = 0 := by
 unfold stateErr at h ⊢
 split at h
 ·next h1 => exact absurd h h1
 next h1 =>
 rw [if_neg h1]
 split at h
 ·cases h
 next h2 =>
 rw [if_neg (by simpa using h2)]
 split at h
 ·next h3 =>
  rw [if_pos]
  intro p hp
  rcases List.mem_or_eq_of_mem_set hp with hp | rfl
  ·exact h3 p hp
  ·unfold posB; rcases hv with rfl | rfl <;> simp
 ·cases h
theorem sm_locks {ns : List Nd} {ds : List Dv} {ls : List Lk} (hc : checkN ns ds = 0) (h : GoodL ds ls) : locksErr ns ds ls = 0 := by
 unfold locksErr
 rw [if_neg (by simp [hc])]
 rw [if_neg (by have := h.1; omega)]
 exact good_err h
theorem add_zero {ns : List Nd} {ds : List Dv} {ls : List Lk} {k : Lk} (h : addErr ns ds ls k = 0) : GoodL ds (insL k ls) := by
 unfold addErr at h
 split at h
 ·next h1 => exact absurd h h1
 next h1 =>
 split at h
 ·next h2 => exact absurd h h2
 next h2 =>
 split at h
 ·cases h
 next h3 =>
 split at h
 ·cases h
 next h4 =>
 split at h
 ·cases h
 next h5 =>
 have hg := locks_good (by simpa using h1)
 exact ins_good hg (by simpa using h2) (by simpa using h3) (by simpa using h4) (by have := hg.1; omega)
end Go.Proofs.YtfaknfmndafllaaGreatDoor
namespace Go.Proofs.YtfaknfmndafllaaGreatDoor
open Go.RowKit
theorem zset_any (A : Option Addr) (n c B : Nat) (l : List Int) (u : Int) (w : World) (hs : Sl w B 1 A n c (intsV l)) :
 Calls Tryz.prog 91 #[.slice A n c, .int .i64 u] w fun e w' => e = .returned (.bool (risL u (-1) l)) ∧ w = w' := by
 have HC := Lib.hid (rising_any A n c B l u w hs)
 go_enter Tryz.func91, Tryz.ntmps91
 go_wp2_with fail
 refine HC.out.mono ?_
 rintro e w1 ⟨rfl, rfl⟩
 go_wp2_with fail
 go_ret
 exact ⟨rfl, rfl⟩
structure Bxg (w : World) (nt gr : Array Value) (W : World) : Prop where
 bl : Below w.heap.size w W
 bn : Blk W w.heap.size 30 nt
 bg : Blk W (w.heap.size + 1) 40 gr
theorem Bxg.new (w : World) (nt gr : Array Value) : Bxg w nt gr ((w.alloc (.cells nt 30)).alloc (.cells gr 40)) :=
 ⟨((Below.refl _ _).alloc (Nat.le_refl _) _).alloc (by simp) _, (Blk.new _ _ _).alloc _, by have := Blk.new (w.alloc (.cells nt 30)) 40 gr; simpa using this⟩
theorem Bxg.later {w W W' : World} {nt gr : Array Value} (h : Bxg w nt gr W) (hb : Below W.heap.size W W') : Bxg w nt gr W' := ⟨h.bl.trans (hb.mono h.bl.size), h.bn.below hb h.bn.lt, h.bg.below hb h.bg.lt⟩
structure Bxp (w : World) (nt gr pg : Array Value) (W : World) : Prop where
 bl : Below w.heap.size w W
 bn : Blk W w.heap.size 30 nt
 bg : Blk W (w.heap.size + 1) 40 gr
 bp : Blk W (w.heap.size + 2) 50 pg
theorem Bxp.new (w : World) (nt gr pg : Array Value) : Bxp w nt gr pg (((w.alloc (.cells nt 30)).alloc (.cells gr 40)).alloc (.cells pg 50)) :=
 ⟨(((Below.refl _ _).alloc (Nat.le_refl _) _).alloc (by simp) _).alloc (by simp; omega) _, ((Blk.new _ _ _).alloc _).alloc _, by have := (Blk.new (w.alloc (.cells nt 30)) 40 gr).alloc (.cells pg 50); simpa using this,
  by have := Blk.new ((w.alloc (.cells nt 30)).alloc (.cells gr 40)) 50 pg; simpa using this⟩
theorem Bxp.later {w W W' : World} {nt gr pg : Array Value} (h : Bxp w nt gr pg W) (hb : Below W.heap.size W W') : Bxp w nt gr pg W' := ⟨h.bl.trans (hb.mono h.bl.size), h.bn.below hb h.bn.lt, h.bg.below hb h.bg.lt, h.bp.below hb h.bp.lt⟩
structure SmMem (w : World) (An Ad As Al Ap Ax : Option Addr) (nn cn nd cd n c nl cl np cp nx cx : Nat) (ns : List Nd) (ds : List Dv) (s : List Int) (ls : List Lk) (pr : List Int) (nm : ByteArray) (xs : List Sp) : Prop where
 h : HzMem w An Ad As Al Ap nn cn nd cd n c nl cl np cp ns ds s ls pr
 x : Sl w w.heap.size 5 Ax nx cx (xs.flatMap Sp.cells)
 m : nm.size ≤ 9223372036854775807
theorem SmMem.below {w W : World} {An Ad As Al Ap Ax : Option Addr} {nn cn nd cd n c nl cl np cp nx cx : Nat} {ns : List Nd} {ds : List Dv} {s : List Int} {ls : List Lk} {pr : List Int} {nm : ByteArray} {xs : List Sp} (h : SmMem w An Ad As Al Ap Ax nn cn nd cd n c nl cl np cp nx cx ns ds s ls pr nm xs) (hb : Below w.heap.size w W) : SmMem W An Ad As Al Ap Ax nn cn nd cd n c nl cl np cp nx cx ns ds s ls pr nm xs :=
 ⟨h.h.below hb, (h.x.below hb (Nat.le_refl _)).more hb.size, h.m⟩
theorem gcheck_any (An Ad As Al Ap : Option Addr) (nn cn nd cd n c nl cl np cp : Nat) (ns : List Nd) (ds : List Dv) (s : List Int) (ls : List Lk) (pr : List Int) (co : Int) (w : World) (h : HzMem w An Ad As Al Ap nn cn nd cd n c nl cl np cp ns ds s ls pr) :
 Calls Tryz.prog 50 #[.agg #[.slice An nn cn, .slice Ad nd cd], .agg #[.int .i64 co, .slice Al nl cl, .slice Ap np cp]] w fun e w' => e = .returned (.int .i64 (grErr ns ds co ls pr)) ∧ Below w.heap.size w w' := by
 have HH := Lib.hid h
 have HB := Lib.hid (Bxg.new w #[.slice An nn cn, .slice Ad nd cd] #[.int .i64 co, .slice Al nl cl, .slice Ap np cp])
 have hln : ns.length = nn := h.hn.len (fun _ => rfl) (by decide)
 have hnn := h.hn.le
 have HE : Hid (grErr ns ds co ls pr = if co < 0 ∨ 7 < co then 5 else if locksErr ns ds ls ≠ 0 then locksErr ns ds ls else if risL nn (-1) pr = false then 7 else 0) := by unfold Hid grErr; rw [hln]
 clear h
 by_cases h1 : co < 0
 ·have q1 : decide (co < 0) = true := by simpa using h1
  have HR : Hid (grErr ns ds co ls pr = 5) := by unfold Hid; rw [HE.out, if_pos (.inl h1)]
  clear h1 HE HH
  go_enter Tryz.func50, Tryz.ntmps50
  go_wp2_with fail
  go_ret
  exact ⟨ret_int (by rw [HR.out]), HB.out.bl⟩
 have q1 : decide (co < 0) = false := by simpa using h1
 by_cases h2 : 7 < co
 ·have q2 : decide (7 < co) = true := by simpa using h2
  have HR : Hid (grErr ns ds co ls pr = 5) := by unfold Hid; rw [HE.out, if_pos (.inr h2)]
  clear h1 h2 HE HH
  go_enter Tryz.func50, Tryz.ntmps50
  go_wp2_with fail
  go_ret
  exact ⟨ret_int (by rw [HR.out]), HB.out.bl⟩
 have q2 : decide (7 < co) = false := by simpa using h2
 have HE1 : Hid (grErr ns ds co ls pr = if locksErr ns ds ls ≠ 0 then locksErr ns ds ls else if risL nn (-1) pr = false then 7 else 0) := by unfold Hid; rw [HE.out, if_neg (by omega)]
 clear h1 h2 HE
 go_enter Tryz.func50, Tryz.ntmps50
 go_upto_region 3 with (fail)
 clear q1 q2
 generalize World.alloc (World.alloc w _) _ = W at *
 have HM := Lib.hid (HH.out.below HB.out.bl)
 have HC := Lib.hid (lcheck_any An Ad Al nn cn nd cd nl cl W.heap.size W.heap.size W.heap.size ns ds ls W HM.out.la HM.out.hn HM.out.hd HM.out.hl (Nat.le_refl _) (Nat.le_refl _) (Nat.le_refl _) HM.out.sn HM.out.sd)
 have k0 := HB.out.bn.c0
 have k1 := HB.out.bn.c1
 have g1 := HB.out.bg.c1
 go_wp2_with fail
 clear k0 k1 g1
 refine HC.out.mono ?_
 rintro e w1 ⟨rfl, hb1⟩
 have HB1 := Lib.hid (HB.out.later hb1)
 have HM1 := Lib.hid (HM.out.below hb1)
 clear hb1 HB HM HC
 by_cases hc : locksErr ns ds ls = 0; rotate_left
 ·have q1 : (locksErr ns ds ls != 0) = true := by simpa using hc
  have HR : Hid (grErr ns ds co ls pr = locksErr ns ds ls) := by unfold Hid; rw [HE1.out, if_pos hc]
  clear hc
  go_wp2_with fail
  go_ret
  exact ⟨ret_int (by rw [HR.out]), HB1.out.bl⟩
 have HE2 : Hid (grErr ns ds co ls pr = if risL nn (-1) pr = false then 7 else 0) := by unfold Hid; rw [HE1.out, if_neg (by simp [hc])]
 rw [hc]
 clear hc HE1
 have k0 := HB1.out.bn.c0
 have g2 := HB1.out.bg.c2
 have HZ := Lib.hid (zset_any Ap np cp w1.heap.size pr nn w1 HM1.out.hp)
 go_wp2_with fail
 clear k0 g2
 refine HZ.out.mono ?_
 rintro e w2 ⟨rfl, hw⟩
 have hb2 : Below w1.heap.size w1 w2 := by rw [← hw]; exact Below.refl _ _
 clear hw
 have HB2 := Lib.hid (HB1.out.later hb2)
 clear hb2 HB1 HM1 HZ
 rcases hr : risL nn (-1) pr with _ | _
 ·have HR : Hid (grErr ns ds co ls pr = 7) := by unfold Hid; rw [HE2.out, if_pos hr]
  clear hr
  go_wp2_with fail
  go_ret
  exact ⟨ret_int (by rw [HR.out]), HB2.out.bl⟩
 ·have HR : Hid (grErr ns ds co ls pr = 0) := by unfold Hid; rw [HE2.out, if_neg (by simp [hr])]
  clear hr
  go_wp2_with fail
  go_ret
  exact ⟨ret_int (by rw [HR.out]), HB2.out.bl⟩
end Go.Proofs.YtfaknfmndafllaaGreatDoor
namespace Go.Proofs.YtfaknfmndafllaaGreatDoor
open Go.RowKit
def opkB (k : Int) : Bool := decide (1 ≤ k) && decide (k ≤ 6) && !(k == 5)
theorem operable_any (k : Int) (w : World) : Calls Tryz.prog 113 #[.int .i64 k] w fun e w' => e = .returned (.bool (opkB k)) ∧ w = w' := by
 by_cases h1 : 1 ≤ k; rotate_left
 ·have q1 : decide (1 ≤ k) = false := by simpa using h1
  have HR : Hid (opkB k = false) := by unfold Hid opkB; rw [q1]; rfl
  go_enter Tryz.func113, Tryz.ntmps113
  go_wp2_with fail
  go_ret
  exact ⟨ret_bool HR.out.symm, rfl⟩
 have q1 : decide (1 ≤ k) = true := by simpa using h1
 by_cases h2 : k ≤ 6; rotate_left
 ·have q2 : decide (k ≤ 6) = false := by simpa using h2
  have HR : Hid (opkB k = false) := by unfold Hid opkB; rw [q1, q2]; rfl
  go_enter Tryz.func113, Tryz.ntmps113
  go_wp2_with fail
  go_ret
  exact ⟨ret_bool HR.out.symm, rfl⟩
 have q2 : decide (k ≤ 6) = true := by simpa using h2
 have HR : Hid (opkB k = !(k == 5)) := by unfold Hid opkB; rw [q1, q2]; rfl
 go_enter Tryz.func113, Tryz.ntmps113
 go_wp2_with fail
 go_ret
 exact ⟨ret_bool HR.out.symm, rfl⟩
def mvB (ls : List Lk) (co : Int) (x : Dv) (i : Nat) : Bool := !(x.kind == 5) && !(x.kind == 1) && (x.comp == co) && !lockB ls i
def mvS (ds : List Dv) (ls : List Lk) (co : Int) (n : Nat) : List Nat := (List.range n).filter fun i => match ds[i]? with | some x => mvB ls co x i | none => false
theorem mvS_len (ds : List Dv) (ls : List Lk) (co : Int) (n : Nat) : (mvS ds ls co n).length ≤ n := by
 have := List.length_filter_le (fun i => match ds[i]? with | some x => mvB ls co x i | none => false) (List.range n)
 rwa [List.length_range] at this
theorem mvS_next {ds : List Dv} {ls : List Lk} {co : Int} {n : Nat} {x : Dv} (h : ds[n]? = some x) : mvS ds ls co (n + 1) = mvS ds ls co n ++ if mvB ls co x n then [n] else [] := by
 unfold mvS
 rw [List.range_succ, List.filter_append]
 cases hb : mvB ls co x n <;> simp [h, hb]
def mvErr (ns : List Nd) (ds : List Dv) (co : Int) (ls : List Lk) (pr : List Int) : Int :=
 if checkN ns ds ≠ 0 then checkN ns ds else if grErr ns ds co ls pr ≠ 0 then grErr ns ds co ls pr else if 10 < (mvS ds ls co ds.length).length then 1 else 0
def MvPost (w : World) (ns : List Nd) (ds : List Dv) (co : Int) (ls : List Lk) (pr : List Int) (e : Ending) (w' : World) : Prop :=
 (mvErr ns ds co ls pr ≠ 0 ∧ e = .returned (.tuple #[.slice none 0 0, .int .i64 (mvErr ns ds co ls pr)]) ∨ mvErr ns ds co ls pr = 0 ∧ ∃ (A : Option Addr) (c : Nat), e = .returned (.tuple #[.slice A (mvS ds ls co ds.length).length c, .int .i64 0]) ∧ w'.ownsRow w.heap.size 3 1 (.slice A (mvS ds ls co ds.length).length c) (mvS ds ls co ds.length).length (natsV (mvS ds ls co ds.length))) ∧ Hid (Below w.heap.size w w')
def MvR (W : World) (ds : List Dv) (ls : List Lk) (co : Int) (nd : Nat) (gk : Nat) (v7 iv : Value) (wr : World) : Prop :=
 ∃ (k : Nat) (A : Option Addr) (c : Nat), v7 = .slice A (mvS ds ls co k).length c ∧ iv = .int .i64 k ∧ k ≤ nd ∧ gk = nd - k ∧ Hid (wr.ownsRow W.heap.size 3 1 (.slice A (mvS ds ls co k).length c) (mvS ds ls co k).length (natsV (mvS ds ls co k))) ∧ Hid (Below W.heap.size W wr)
theorem MvR.no {W wr : World} {ds : List Dv} {ls : List Lk} {co : Int} {nd k c : Nat} {A : Option Addr} {x : Dv} (hx : ds[k]? = some x) (hb : mvB ls co x k = false) (hk : k < nd) (ho : wr.ownsRow W.heap.size 3 1 (.slice A (mvS ds ls co k).length c) (mvS ds ls co k).length (natsV (mvS ds ls co k))) (hl : Below W.heap.size W wr) : MvR W ds ls co nd (nd - (k + 1)) (.slice A (mvS ds ls co k).length c) (.int .i64 ((k : Int) + 1)) wr := by
 have e : mvS ds ls co (k + 1) = mvS ds ls co k := by rw [mvS_next hx, hb]; simp
 refine ⟨k + 1, A, c, by rw [e], rfl, hk, rfl, ?_, hl⟩
 rw [e]; exact ho
theorem MvR.yes {W wr : World} {ds : List Dv} {ls : List Lk} {co : Int} {nd k c : Nat} {A : Option Addr} {x : Dv} (hx : ds[k]? = some x) (hb : mvB ls co x k = true) (hk : k < nd) (ho : wr.ownsRow W.heap.size 3 1 (.slice A ((mvS ds ls co k).length + 1) c) ((mvS ds ls co k).length + 1) (natsV (mvS ds ls co k) ++ [.int .i64 (k : Int)])) (hl : Below W.heap.size W wr) : MvR W ds ls co nd (nd - (k + 1)) (.slice A ((mvS ds ls co k).length + 1) c) (.int .i64 ((k : Int) + 1)) wr := by
 have e : mvS ds ls co (k + 1) = mvS ds ls co k ++ [k] := by rw [mvS_next hx, hb]; rfl
 have hl1 : (mvS ds ls co (k + 1)).length = (mvS ds ls co k).length + 1 := by rw [e]; simp
 refine ⟨k + 1, A, c, by rw [hl1], rfl, hk, rfl, ?_, hl⟩
 rw [hl1, e, show natsV (mvS ds ls co k ++ [k]) = natsV (mvS ds ls co k) ++ [.int .i64 (k : Int)] from by unfold natsV; rw [List.flatMap_append]; rfl]
 exact ho
theorem mvB_eq {k : Int} (h : 1 ≤ k ∧ k ≤ 6) : opkB k = !(k == 5) := by
 unfold opkB
 rw [show decide (1 ≤ k) = true by simpa using h.1, show decide (k ≤ 6) = true by simpa using h.2]; rfl
theorem moves_any (An Ad As Al Ap : Option Addr) (nn cn nd cd n c nl cl np cp : Nat) (ns : List Nd) (ds : List Dv) (s : List Int) (ls : List Lk) (pr : List Int) (co : Int) (w : World) (h : HzMem w An Ad As Al Ap nn cn nd cd n c nl cl np cp ns ds s ls pr) :
 Calls Tryz.prog 70 #[.agg #[.slice An nn cn, .slice Ad nd cd], .agg #[.int .i64 co, .slice Al nl cl, .slice Ap np cp]] w (MvPost w ns ds co ls pr) := by
 obtain ⟨hln, hld, hls⟩ := h.ln
 have HLD := Lib.hid hld
 have HH := Lib.hid h
 have HB := Lib.hid (Bxg.new w #[.slice An nn cn, .slice Ad nd cd] #[.int .i64 co, .slice Al nl cl, .slice Ap np cp])
 clear h hln hld hls
 have HME : Hid (mvErr ns ds co ls pr = if checkN ns ds ≠ 0 then checkN ns ds else if grErr ns ds co ls pr ≠ 0 then grErr ns ds co ls pr else if 10 < (mvS ds ls co nd).length then 1 else 0) := by unfold Hid mvErr; rw [HLD.out]
 go_enter Tryz.func70, Tryz.ntmps70
 go_upto_region 1 with (fail)
 generalize World.alloc (World.alloc w _) _ = W at *
 have HM := Lib.hid (HH.out.below HB.out.bl)
 have n0 := HB.out.bn.cell 0; have n1 := HB.out.bn.cell 1
 have HC := Lib.hid (ncheck_any An Ad nn cn nd cd W.heap.size W.heap.size ns ds W HM.out.la HM.out.hn HM.out.hd (Nat.le_refl _) (Nat.le_refl _) HM.out.sn HM.out.sd)
 go_wp2_with fail
 refine HC.out.mono ?_
 rintro e w1 ⟨rfl, hb1⟩
 have HB1 := Lib.hid (HB.out.later hb1)
 have HM1 := Lib.hid (HH.out.below HB1.out.bl)
 clear HC HB HM hb1 n0 n1 HH
 by_cases hc : checkN ns ds = 0; rotate_left
 ·have q1 : (checkN ns ds == 0) = false := by simpa using hc
  have q2 : (checkN ns ds != 0) = true := by simpa using hc
  have HE : Hid (mvErr ns ds co ls pr = checkN ns ds) := by unfold Hid; rw [HME.out, if_pos hc]
  have HC := Lib.hid hc
  clear hc HM1
  go_wp2_with fail
  go_ret2
  exact ⟨.inl ⟨by rw [HE.out]; exact HC.out, by rw [HE.out]; rfl⟩, HB1.out.bl⟩
 have q1 : (checkN ns ds == 0) = true := by simpa using hc
 have n0 := HB1.out.bn.cell 0; have n1 := HB1.out.bn.cell 1
 have g0 := HB1.out.bg.cell 0; have g1 := HB1.out.bg.cell 1; have g2 := HB1.out.bg.cell 2
 have HC := Lib.hid (gcheck_any An Ad As Al Ap nn cn nd cd n c nl cl np cp ns ds s ls pr co w1 HM1.out)
 have HNK := Lib.hid (NetOk.of hc)
 have HCC := Lib.hid hc
 clear hc
 go_wp2_with fail
 refine HC.out.mono ?_
 rintro e w2 ⟨rfl, hb2⟩
 have HB2 := Lib.hid (HB1.out.later hb2)
 have HM2 := Lib.hid (HM1.out.below hb2)
 clear HC HB1 HM1 hb2 n0 n1 g0 g1 g2
 by_cases hg : grErr ns ds co ls pr = 0; rotate_left
 ·have q2 : (grErr ns ds co ls pr != 0) = true := by simpa using hg
  have HE : Hid (mvErr ns ds co ls pr = grErr ns ds co ls pr) := by unfold Hid; rw [HME.out, if_neg (by rw [HCC.out]; simp), if_pos hg]
  have HC := Lib.hid hg
  clear hg HM2
  go_wp2_with fail
  go_ret2
  exact ⟨.inl ⟨by rw [HE.out]; exact HC.out, by rw [HE.out]; rfl⟩, HB2.out.bl⟩
 have q2 : (grErr ns ds co ls pr != 0) = false := by simpa using hg
 have n1 := HB2.out.bn.cell 1
 have HGG := Lib.hid hg
 clear hg
 have hnd : nd ≤ 64 := by have := HNK.out.dl; have := HLD.out; omega
 go_wp2_with fail
 clear n1 q1 q2
 refine wp_loop_u2 [(6, 0), (0, 2), (2, 1), (12, 0), (0, 3), (31, 1), (3, 0)] 7 24 (nd) (MvR w2 ds ls co nd) (by (try dsimp only [gt]); exact ⟨0, none, 0, rfl, rfl, Nat.zero_le _, rfl, World.ownsRow_nil _ _ _ _, Below.refl _ _⟩) (by kernel_rfl) ?_
 intro u1 p7 p24 gk wr a hrel ha J1 K1 hJ1 hK1
 dsimp only [relaxR, Go.Proofs.YtfaknfmndafllaaGreatDoor.v2, Nat.reduceAdd] at ha
 subst ha
 obtain ⟨k, A, c', rfl, rfl, hk, rfl, ho, hl⟩ := hrel
 have HO := Lib.hid ho.out; have HL := Lib.hid hl.out
 clear ho hl
 have hml := mvS_len ds ls co k
 by_cases hlt : k < nd; rotate_left
 ·have q1 : decide (k < nd) = false := by simpa using hlt
  obtain rfl : k = nd := by omega
  by_cases h10 : 10 < (mvS ds ls co k).length
  ·have q2 : decide ((10 : Int) < (mvS ds ls co k).length) = true := by simp; omega
   have HE : Hid (mvErr ns ds co ls pr = 1) := by unfold Hid; rw [HME.out, if_neg (by rw [HCC.out]; simp), if_neg (by rw [HGG.out]; simp), if_pos h10]
   have HL2 := Lib.hid (HB2.out.bl.trans (HL.out.mono HB2.out.bl.size))
   clear h10 HO
   go_wp2_with fail
   go_ret2
   exact ⟨.inl ⟨by rw [HE.out]; simp, by rw [HE.out]; rfl⟩, HL2.out⟩
  ·have q2 : decide ((10 : Int) < (mvS ds ls co k).length) = false := by simp; omega
   have HE : Hid (mvErr ns ds co ls pr = 0) := by unfold Hid; rw [HME.out, if_neg (by rw [HCC.out]; simp), if_neg (by rw [HGG.out]; simp), if_neg h10]
   have HL2 := Lib.hid (HB2.out.bl.trans (HL.out.mono HB2.out.bl.size))
   have HSZ := Lib.hid HB2.out.bl.size
   clear h10
   go_wp2_with fail
   go_ret2
   exact ⟨.inr ⟨HE.out, A, c', by rw [HLD.out]; rfl, by rw [HLD.out]; exact HO.out.mono HSZ.out⟩, HL2.out⟩
 have q1 : decide (k < nd) = true := by simpa using hlt
 have HLW := Lib.hid (HB2.out.bl.trans (HL.out.mono HB2.out.bl.size))
 obtain ⟨b2, o2, x, rfl, hb2, hx, hc2⟩ := (HM2.out.hd.below HL.out (Nat.le_refl _)).at (fun _ => rfl) (by decide) hlt
 have HX := Lib.hid hx
 have hkd := HNK.out.k x (List.mem_of_getElem? hx)
 obtain ⟨nm, kd, xa, xb, xc⟩ := x
 have u0 : wr.cell? ⟨b2, o2 + k * 5, none⟩ = some (.string nm) := hc2 0 _ rfl
 have u1 : wr.cell? ⟨b2, o2 + k * 5 + 1, none⟩ = some (.int .i64 kd) := hc2 1 _ rfl
 have u2 : wr.cell? ⟨b2, o2 + k * 5 + 2, none⟩ = some (.int .i64 xa) := hc2 2 _ rfl
 have u3 : wr.cell? ⟨b2, o2 + k * 5 + 3, none⟩ = some (.int .i64 xb) := hc2 3 _ rfl
 have u4 : wr.cell? ⟨b2, o2 + k * 5 + 4, none⟩ = some (.int .i64 xc) := hc2 4 _ rfl
 have hm1 : nd ≤ 9223372036854775807 := by omega
 have hkk : IntKind.i64.wrap ((k : Int) + 1) = (k : Int) + 1 := IntWalk.i64_in _ (by omega)
 clear hc2 hx
 go_upto_region 10 with (fail)
 clear u0 u1 u2 u3 u4 q1
 have HIB := Lib.hid ((Blk.new wr 3 #[.int .i64 (k : Int)]).alloc (.cells #[.string nm, .int .i64 kd, .int .i64 xa, .int .i64 xb, .int .i64 xc] 68))
 have HDB := Lib.hid (Blk.new (wr.alloc (.cells #[.int .i64 (k : Int)] 3)) 68 #[.string nm, .int .i64 kd, .int .i64 xa, .int .i64 xb, .int .i64 xc])
 rw [show (wr.alloc (.cells #[.int .i64 (k : Int)] 3)).heap.size = wr.heap.size + 1 by simp] at HDB
 have HBV : Hid (Below wr.heap.size wr ((wr.alloc (.cells #[.int .i64 (k : Int)] 3)).alloc (.cells #[.string nm, .int .i64 kd, .int .i64 xa, .int .i64 xb, .int .i64 xc] 68))) := ((Below.refl _ _).alloc (Nat.le_refl _) _).alloc (by simp) _
 generalize World.alloc (World.alloc wr _) _ = V at *
 have HOV := Lib.hid (own_later HO.out HBV.out)
 have HLV := Lib.hid (HL.out.trans (HBV.out.mono HL.out.size))
 have HBX := Lib.hid (HB2.out.later HLV.out)
 have HMV2 := Lib.hid (HM2.out.below HLV.out)
 have d1 := HDB.out.cell 1; have d4 := HDB.out.cell 4; have g0 := HBX.out.bg.cell 0; have g1 := HBX.out.bg.cell 1
 have HOP := Lib.hid (operable_any kd V)
 rw [mvB_eq hkd] at HOP
 have HMVE : Hid (mvB ls co ⟨nm, kd, xa, xb, xc⟩ k = (!(kd == 5) && !(kd == 1) && (xc == co) && !lockB ls k)) := rfl
 clear HO HL hkd
 by_cases h5 : kd = 5
 ·have q5 : (kd == 5) = true := by simpa using h5
  have HMV : Hid (mvB ls co ⟨nm, kd, xa, xb, xc⟩ k = false) := by unfold Hid; rw [HMVE.out, q5]; rfl
  clear h5 HMVE
  rw [q5] at HOP
  go_wp2_with fail
  refine HOP.out.mono ?_
  rintro e w3 ⟨rfl, rfl⟩
  go_wp2_with fail
  refine Handed.intro (nd - (k + 1)) (by omega) (hJ1 _ _ _ (LpI2.back 7 24 ?_ (by kernel_rfl)))
  dsimp only [gt]
  exact MvR.no HX.out HMV.out hlt HOV.out HLV.out
 have q5 : (kd == 5) = false := by simpa using h5
 rw [q5] at HOP
 by_cases h1 : kd = 1
 ·have q6 : (kd == 1) = true := by simpa using h1
  have q7 : (kd != 1) = false := by simpa using h1
  have HMV : Hid (mvB ls co ⟨nm, kd, xa, xb, xc⟩ k = false) := by unfold Hid; rw [HMVE.out, q5, q6]; rfl
  clear h1 h5 HMVE
  go_wp2_with fail
  refine HOP.out.mono ?_
  rintro e w3 ⟨rfl, rfl⟩
  go_wp2_with fail
  refine Handed.intro (nd - (k + 1)) (by omega) (hJ1 _ _ _ (LpI2.back 7 24 ?_ (by kernel_rfl)))
  dsimp only [gt]
  exact MvR.no HX.out HMV.out hlt HOV.out HLV.out
 have q6 : (kd == 1) = false := by simpa using h1
 have q7 : (kd != 1) = true := by simpa using h1
 by_cases hco : xc = co; rotate_left
 ·have q8 : (xc == co) = false := by simpa using hco
  have HMV : Hid (mvB ls co ⟨nm, kd, xa, xb, xc⟩ k = false) := by unfold Hid; rw [HMVE.out, q5, q6, q8]; rfl
  clear h1 h5 hco HMVE
  go_wp2_with fail
  refine HOP.out.mono ?_
  rintro e w3 ⟨rfl, rfl⟩
  go_wp2_with fail
  refine Handed.intro (nd - (k + 1)) (by omega) (hJ1 _ _ _ (LpI2.back 7 24 ?_ (by kernel_rfl)))
  dsimp only [gt]
  exact MvR.no HX.out HMV.out hlt HOV.out HLV.out
 have q8 : (xc == co) = true := by simpa using hco
 have HMVL : Hid (mvB ls co ⟨nm, kd, xa, xb, xc⟩ k = !lockB ls k) := by unfold Hid; rw [HMVE.out, q5, q6, q8]; rfl
 clear h1 h5 hco HMVE
 have HPL : Hid (PredL 115 #[.pointer (some ⟨wr.heap.size, 0, none⟩)] (fun y => decide (y.dev = (k : Int))) V) := by
  intro V2 y1 p1 q1 hb
  have hc : V2.cell? ⟨wr.heap.size, 0, none⟩ = some (.int .i64 (k : Int)) := (hb.cell (p := ⟨wr.heap.size, 0, none⟩) HIB.out.lt).trans (HIB.out.cell 0)
  have hBW : wr.heap.size < V2.heap.size := Nat.lt_of_lt_of_le HIB.out.lt hb.size
  have hne : wr.heap.size ≠ V2.heap.size := by omega
  have HBW : Hid (Below V.heap.size V (V2.alloc (.cells #[.int .i64 y1, .int .i64 p1, .int .i64 q1] 59))) := hb.alloc hb.size _
  clear hb
  show Calls Tryz.prog 115 #[.agg #[.int .i64 y1, .int .i64 p1, .int .i64 q1], .pointer (some ⟨wr.heap.size, 0, none⟩)] V2 _
  go_enter Tryz.func115, Tryz.ntmps115
  go_wp2_with fail
  go_ret
  exact ⟨ret_bool (by by_cases h : y1 = (k : Int) <;> simp [h]), HBW.out⟩
 have HCF := Lib.hid (contf_any 115 #[.pointer (some ⟨wr.heap.size, 0, none⟩)] (fun y => decide (y.dev = (k : Int))) (enters_of Tryz.func115 (by kernel_rfl) rfl) Al nl cl w2.heap.size ls V (HM2.out.hl.below HLV.out (Nat.le_refl _)) HLV.out.size HPL.out)
 clear HPL
 go_wp2_with fail
 refine HOP.out.mono ?_
 rintro e w3 ⟨rfl, rfl⟩
 go_wp2_with fail
 refine HCF.out.mono ?_
 rintro e w4 ⟨rfl, hb4⟩
 rw [show (ls.any fun y => decide (y.dev = (k : Int))) = lockB ls k from rfl]
 have HO4 := Lib.hid (own_later HOV.out hb4)
 have HL4 := Lib.hid (HLV.out.trans (hb4.mono HLV.out.size))
 have i0 := (HIB.out.below hb4 HIB.out.lt).c0
 clear HCF HOP hb4 HOV HLV d1 d4 g0 g1 HBX
 cases hlb : lockB ls (k : Int) with
 | true =>
  have HMV : Hid (mvB ls co ⟨nm, kd, xa, xb, xc⟩ k = false) := by unfold Hid; rw [HMVL.out, hlb]; rfl
  clear HMVL hlb
  go_wp2_with fail
  refine Handed.intro (nd - (k + 1)) (by omega) (hJ1 _ _ _ (LpI2.back 7 24 ?_ (by kernel_rfl)))
  dsimp only [gt]
  exact MvR.no HX.out HMV.out hlt HO4.out HL4.out
 | false =>
  have HMV : Hid (mvB ls co ⟨nm, kd, xa, xb, xc⟩ k = true) := by unfold Hid; rw [HMVL.out, hlb]; rfl
  clear HMVL hlb
  go_upto_region 13 with (at_builtin; go_must (refine wpList_app rfl (.tmp 52) (.tmp 54) rfl el_int (by rfl) (HO4.out.alloc _) (by rfl) (Sl.newest (n := 1) rfl rfl (by decide)) (by simp [Value.oneCell']) (by omega) (by omega) (by have := HL4.out.size; simp; omega) ?_; intro A5 c5 w5 hown5 hgr5 hat5; have HO5 := Lib.hid hown5; have HG5 := Lib.hid hgr5; clear hown5 hgr5 hat5))
  have HL5 := Lib.hid ((HL4.out.alloc HL4.out.size _).grown HG5.out (by have := HL4.out.size; simp; omega) fun g e => (HO4.out.lt g e).1)
  go_wp2_with fail
  refine Handed.intro (nd - (k + 1)) (by omega) (hJ1 _ _ _ (LpI2.back 7 24 ?_ (by kernel_rfl)))
  dsimp only [gt]
  exact MvR.yes HX.out HMV.out hlt HO5.out HL5.out
end Go.Proofs.YtfaknfmndafllaaGreatDoor
namespace Go.Proofs.YtfaknfmndafllaaGreatDoor
open Go.RowKit
theorem sl_getI {w : World} {B n c : Nat} {A : Option Addr} {l : List Int} (h : Sl w B 1 A n c (intsV l)) (hn : 0 < n) : ∃ b off, A = some ⟨b, off, none⟩ ∧ b < B ∧ ∀ j x, l[j]? = some x → w.cell? ⟨b, off + j, none⟩ = some (.int .i64 x) := by
 obtain ⟨b, off, e, hb, hc⟩ := h.2.2.2.2 hn
 exact ⟨b, off, e, hb, fun j x hx => hc j _ (by unfold intsV; rw [flat1_map, List.getElem?_map, hx]; rfl)⟩
theorem contR_any (R : Int → Prop) (g : Nat) (lb : Array Value) (p : Int → Bool) (eg : ∀ args w, (callFunc g args).run Tryz.prog w = .ok (.enter g args) w) (A : Option Addr) (n c B : Nat) (l : List Int) (w : World) (h : Sl w B 1 A n c (intsV l)) (hR : ∀ u ∈ l, R u)
 (hp : ∀ (W : World) (x : Int), R x → Below w.heap.size w W → FnGives Tryz.prog g lb #[.int .i64 x] (.bool (p x)) W) :
 Calls Tryz.prog 74 #[.slice A n c, .func (.func g) #[] lb] w fun e w' => e = .returned (.bool (l.any p)) ∧ ∃ q, w' = w.drewN q := by
 have hl : l.length = n := h.len (fun _ => rfl) (by decide)
 have hle := h.le
 rcases Nat.eq_zero_or_pos n with rfl | h0
 ·have : l = [] := List.eq_nil_of_length_eq_zero hl
  subst this
  refine (Tryz.slices_ContainsFunc_empty (α := Int) A c (.func (.func g) #[] lb) w).mono ?_
  rintro e w1 ⟨rfl, rfl⟩
  exact ⟨rfl, 0, rfl⟩
 ·obtain ⟨b, off, rfl, hb, hc⟩ := sl_getI h h0
  have hi : 0 < l.length := by omega
  haveI : Inhabited {u : Int // R u} := ⟨⟨l[0]'hi, hR _ (List.getElem_mem hi)⟩⟩
  refine (Tryz.slices_ContainsFunc (α := {u : Int // R u}) (fun x => Value.int .i64 x.1) (fun x => p x.1) g lb eg b off n c (l.pmap (fun u hu => ⟨u, hu⟩) hR) w (fun W x hb => hp W x.1 x.2 hb) (by rw [List.length_pmap]; omega) (by omega) (fun j hj => ?_)).mono ?_
  ·rw [List.length_pmap] at hj
   rw [hc j (l[j]'hj) (List.getElem?_eq_getElem hj)]
   congr 2
   simp [hj]
  ·rintro e w1 ⟨rfl, q, rfl⟩
   refine ⟨?_, q, rfl⟩
   rw [List.take_of_length_le (by rw [List.length_pmap]; omega)]
   congr 2
   rw [Bool.eq_iff_iff, List.any_eq_true, List.any_eq_true]
   constructor
   ·rintro ⟨x, hx, hpx⟩
    obtain ⟨u, hu, rfl⟩ := List.mem_pmap.1 hx
    exact ⟨u, hu, hpx⟩
   ·rintro ⟨u, hu, hpu⟩
    exact ⟨⟨u, hR u hu⟩, List.mem_pmap.2 ⟨u, hu, rfl⟩, hpu⟩
end Go.Proofs.YtfaknfmndafllaaGreatDoor
namespace Go.Proofs.YtfaknfmndafllaaGreatDoor
open Go.RowKit
def difB (ls : List Lk) (s : List Int) : Bool := ls.any fun k => !(s.getD k.dev.toNat 0 == k.pos)
theorem differs_any (Al Ap As : Option Addr) (nl cl np cp n c : Nat) (co : Int) (ls : List Lk) (s : List Int) (w : World) (hl : Sl w w.heap.size 3 Al nl cl (ls.flatMap Lk.cells)) (hs : Sl w w.heap.size 1 As n c (intsV s)) (hr : ∀ k ∈ ls, 0 ≤ k.dev ∧ k.dev < n) :
 Calls Tryz.prog 71 #[.agg #[.int .i64 co, .slice Al nl cl, .slice Ap np cp], .slice As n c] w fun e w' => e = .returned (.bool (difB ls s)) ∧ Below w.heap.size w w' := by
 have HBL : Hid (Below w.heap.size w ((w.alloc (.cells #[.int .i64 co, .slice Al nl cl, .slice Ap np cp] 40)).alloc (.cells #[.slice As n c] 22))) := ((Below.refl _ _).alloc (Nat.le_refl _) _).alloc (by simp) _
 have HBG := Lib.hid ((Blk.new w 40 #[.int .i64 co, .slice Al nl cl, .slice Ap np cp]).alloc (.cells #[.slice As n c] 22))
 have HBS := Lib.hid (Blk.new (w.alloc (.cells #[.int .i64 co, .slice Al nl cl, .slice Ap np cp] 40)) 22 #[.slice As n c])
 rw [show (w.alloc (.cells #[.int .i64 co, .slice Al nl cl, .slice Ap np cp] 40)).heap.size = w.heap.size + 1 by simp] at HBS
 have HL := Lib.hid hl; have HS := Lib.hid hs; have HR := Lib.hid hr
 clear hl hs hr
 go_enter Tryz.func71, Tryz.ntmps71
 go_upto_region 1 with (fail)
 generalize World.alloc (World.alloc w _) _ = W at *
 have HPM : Hid (PredM 116 #[.pointer (some ⟨w.heap.size + 1, 0, none⟩)] (fun k => !(s.getD k.dev.toNat 0 == k.pos)) ls W) := by
  intro V d p q hm hb
  obtain ⟨h0, h1⟩ := HR.out _ hm
  obtain ⟨k, rfl⟩ := Int.eq_ofNat_of_zero_le (show 0 ≤ d from h0)
  have hk : k < n := by have : ((k : Nat) : Int) < n := h1; omega
  have hsV := HS.out.below (HBL.out.trans (hb.mono HBL.out.size)) (Nat.le_refl _)
  have hsm := hsV.le
  obtain ⟨b, off, x, rfl, hb2, hx, hc⟩ := hsV.at1 hk
  have HE : Hid ((!(s.getD (k : Int).toNat 0 == p)) = !(x == p)) := by unfold Hid; rw [Int.toNat_natCast, List.getD_eq_getElem?_getD, hx]; rfl
  have s0 := (HBS.out.below hb HBS.out.lt).cell 0
  have hnn : n ≤ 9223372036854775807 := by omega
  have HV : Hid (Below W.heap.size W (V.alloc (.cells #[.int .i64 (k : Int), .int .i64 p, .int .i64 q] 59))) := hb.alloc hb.size _
  have s1 : (V.alloc (.cells #[.int .i64 (k : Int), .int .i64 p, .int .i64 q] 59)).cell? ⟨w.heap.size + 1, 0, none⟩ = some (.slice (some ⟨b, off, none⟩) n c) := ((HBS.out.below hb HBS.out.lt).alloc _).cell 0
  have hc1 : (V.alloc (.cells #[.int .i64 (k : Int), .int .i64 p, .int .i64 q] 59)).cell? ⟨b, off + k, none⟩ = some (.int .i64 x) := (World.cell?_alloc_lt V _ _ (by show b < V.heap.size; have := HBL.out.size; have := hb.size; omega)).trans hc
  show Calls Tryz.prog 116 #[.agg #[.int .i64 (k : Int), .int .i64 p, .int .i64 q], .pointer (some ⟨w.heap.size + 1, 0, none⟩)] V _
  dsimp only
  rw [HE.out]
  clear hx hc s0 hsV hm h0 h1 hb
  go_enter Tryz.func116, Tryz.ntmps116
  go_upto_region 1 with (fail)
  have HL0 := Blk.new V 59 #[.int .i64 (k : Int), .int .i64 p, .int .i64 q]
  have l0 := HL0.cell 0; have l1 := HL0.cell 1
  obtain ⟨g, hg⟩ : ∃ x, x = V.heap.size := ⟨_, rfl⟩
  rw [← hg] at l0 l1 ⊢
  clear hg HL0
  generalize World.alloc V _ = V2 at *
  go_quiet (fail)
  have HQ := Lib.hid fun q => below_drewN HV.out q
  generalize hq : World.drewN V2 _ = V3
  have HV3 : Hid (Below W.heap.size W V3) := by rw [← hq]; exact HQ.out _
  clear hq
  go_wp2_with fail
  go_ret
  exact ⟨rfl, HV3.out⟩
 have HC := Lib.hid (contm_any 116 #[.pointer (some ⟨w.heap.size + 1, 0, none⟩)] _ (enters_of Tryz.func116 (by kernel_rfl) rfl) Al nl cl w.heap.size ls W (HL.out.below HBL.out (Nat.le_refl _)) HBL.out.size HPM.out)
 have g1 := HBG.out.cell 1
 clear HPM
 go_wp2_with fail
 refine HC.out.mono ?_
 rintro e w1 ⟨rfl, hb1⟩
 have HB1 := Lib.hid (HBL.out.trans (hb1.mono HBL.out.size))
 go_wp2_with fail
 go_ret
 exact ⟨rfl, HB1.out⟩
theorem prob11_gives (Ab : Option Addr) (mb cb bb B : Nat) (l : List Int) (x : Int) (W : World) (hc : W.cell? ⟨bb, 0, none⟩ = some (.slice Ab mb cb)) (hs : Sl W B 1 Ab mb cb (intsV l)) :
 FnGives Tryz.prog 75 #[.pointer (some ⟨bb, 0, none⟩)] #[.int .i64 x] (.bool (!hasB l x)) W := by
 have HC := Lib.hid (contains_any Ab mb cb B l x W hs)
 show Calls Tryz.prog 75 #[.int .i64 x, .pointer (some ⟨bb, 0, none⟩)] W _
 clear hs
 go_enter Tryz.func75, Tryz.ntmps75
 go_wp2_with fail
 refine HC.out.mono ?_
 rintro e w1 ⟨rfl, rfl⟩
 go_wp2_with fail
 go_ret
 exact ⟨rfl, 0, rfl⟩
theorem perm_any (nb gb bb : Nat) (An Ad A Al Ap Ab : Option Addr) (nn cn nd cd n c nl cl np cp mb cb : Nat) (ns : List Nd) (ds : List Dv) (t : List Int) (ls : List Lk) (pr but : List Int) (d p co : Int) (x : Dv) (W : World) (h : HzMem W An Ad A Al Ap nn cn nd cd n c nl cl np cp ns ds t ls pr) (hN : Blk W nb 30 #[.slice An nn cn, .slice Ad nd cd]) (hG : Blk W gb 40 #[.int .i64 co, .slice Al nl cl, .slice Ap np cp]) (hB : Blk W bb 22 #[.slice Ab mb cb]) (hs : Sl W W.heap.size 1 Ab mb cb (intsV but)) (he : inErr ns ds t d p co = 0) (hx : ds[d.toNat]? = some x) :
 Calls Tryz.prog 72 #[.slice A n c, .agg #[.int .i64 d, .int .i64 p], .pointer (some ⟨nb, 0, none⟩), .pointer (some ⟨gb, 0, none⟩), .pointer (some ⟨bb, 0, none⟩)] W fun e W' => e = .returned (.bool ((hzAt ns.length ns ds t d.toNat p co ls pr x).all (hasB but))) ∧ Below W.heap.size W W' := by
 have HBL : Hid (Below W.heap.size W (W.alloc (.cells #[.int .i64 d, .int .i64 p] 62))) := (Below.refl _ _).alloc (Nat.le_refl _) _
 have HO := Lib.hid (Blk.new W 62 #[.int .i64 d, .int .i64 p])
 have HN := Lib.hid (hN.alloc (.cells #[.int .i64 d, .int .i64 p] 62)); have HGG := Lib.hid (hG.alloc (.cells #[.int .i64 d, .int .i64 p] 62)); have HBB := Lib.hid (hB.alloc (.cells #[.int .i64 d, .int .i64 p] 62))
 have HM := Lib.hid (h.below HBL.out)
 have HS := Lib.hid ((hs.below HBL.out (Nat.le_refl _)).more HBL.out.size)
 have HE := Lib.hid he; have HX := Lib.hid hx
 clear h hN hG hB hs he hx
 go_enter Tryz.func72, Tryz.ntmps72
 go_upto_region 1 with (fail)
 obtain ⟨ob, hob⟩ : ∃ x, x = W.heap.size := ⟨_, rfl⟩
 rw [← hob] at HO ⊢
 have HOB := Lib.hid hob
 clear hob
 generalize World.alloc W _ = V at *
 have n0 := HN.out.cell 0; have n1 := HN.out.cell 1; have o0 := HO.out.cell 0; have o1 := HO.out.cell 1; have g0 := HGG.out.cell 0; have g1 := HGG.out.cell 1; have g2 := HGG.out.cell 2
 have HC := Lib.hid (In_any An Ad A Al Ap nn cn nd cd n c nl cl np cp ns ds t ls pr d p co V HM.out)
 go_wp2_with fail
 refine HC.out.mono ?_
 rintro e w1 ⟨hpost, hb1⟩
 rcases hpost with ⟨h1, -⟩ | ⟨h1, Az, kz, cz, x', hx', rfl, hO⟩
 ·exact absurd HE.out h1
 have hxx : x' = x := by rw [HX.out] at hx'; injection hx' with hx'; exact hx'.symm
 subst hxx
 have HOZ := Lib.hid hO.out
 have HBL1 := Lib.hid (HBL.out.trans (hb1.out.mono HBL.out.size))
 have HBB1 := Lib.hid (HBB.out.below hb1.out HBB.out.lt)
 have HS1 := Lib.hid (HS.out.below hb1.out (Nat.le_refl _))
 have HSZ := Lib.hid hb1.out.size
 clear HC n0 n1 o0 o1 g0 g1 g2 h1 hx' hO hb1
 have hkz : kz ≤ 7 := by have := HOZ.out.len; have := hzAt_len ns.length ns ds t d.toNat p co ls pr x'; omega
 have HCF := Lib.hid (contR_any (fun _ => True) 75 #[.pointer (some ⟨bb, 0, none⟩)] (fun h => !hasB but h) (enters_of Tryz.func75 (by kernel_rfl) rfl) Az kz cz w1.heap.size (hzAt ns.length ns ds t d.toNat p co ls pr x') w1 HOZ.out.sl (fun _ _ => trivial)
  (fun V2 y _ hb => prob11_gives Ab mb cb bb V.heap.size but y V2 ((hb.cell (p := ⟨bb, 0, none⟩) HBB1.out.lt).trans (HBB1.out.cell 0)) (HS1.out.below hb HSZ.out)))
 go_wp2_with fail
 refine HCF.out.mono ?_
 rintro e w2 ⟨rfl, q, rfl⟩
 go_wp2_with fail
 go_ret
 refine ⟨?_, below_drewN HBL1.out q⟩
 rw [List.all_eq_not_any_not]; rfl
end Go.Proofs.YtfaknfmndafllaaGreatDoor
namespace Go.Proofs.YtfaknfmndafllaaGreatDoor
open Go.RowKit
def opsV (l : List (Int × Int)) : List Value := l.flatMap fun o => [.int .i64 o.1, .int .i64 o.2]
theorem gdM_iff {st : Nat → Nat → Option Nat} {D : Nat → Int} {gs : List Nat} {L : Nat} {t : Int} {b : Nat} : gdM st D gs L t b = true ↔ t ≤ D b ∧ D b ≤ L ∧ Gd st D gs L b := by
 simp only [gdM, decide_eq_true_eq]
theorem wk_state {perm : List Int → Nat → Bool} {s : List Int} {M : Nat → Nat} {m : Nat} (hM : Inj M m) {p : List Nat} {b : Nat} (h : wk (stE (edS perm s M m) nbB) 0 p = some b) : wk (stS perm M m) s p = some (sbN s M b m) := by
 have := (wk_map (st := stE (edS perm s M m) nbB) (su := stS perm M m) (φ := fun b => sbN s M b m) (I := fun _ => True) (fun a i _ => stS_map hM a i) (fun _ _ _ _ _ => trivial) p 0 trivial).1
 rw [sbN_zero, h] at this
 exact this
theorem opsV_snoc {perm : List Int → Nat → Bool} {s t : List Int} {M : Nat → Nat} {m : Nat} {p : List Nat} (i : Nat) (h : wk (stS perm M m) s p = some t) : opsV (opsP M s (p ++ [i])) = opsV (opsP M s p) ++ opC M t i := by
 unfold opsV
 rw [opsP_snoc i p s t h, List.flatMap_append]
 rfl
def FnPost (w : World) (s : List Int) (M : Nat → Nat) (m : Nat) (perm : List Int → Nat → Bool) (goal : List Int → Option Int) (e : Ending) (w' : World) : Prop :=
 ((e = .returned (.tuple #[.slice none 0 0, .bool false]) ∧ NoneIs (stS perm M m) s goal) ∨ ∃ (p : List Nat) (A : Option Addr) (c : Nat), e = .returned (.tuple #[.slice A p.length c, .bool true]) ∧ SomeIs (stS perm M m) s goal p ∧ p.length ≤ 2 ^ m ∧ w'.ownsRow w.heap.size 62 2 (.slice A p.length c) p.length (opsV (opsP M s p))) ∧ Hid (Below w.heap.size w w')
theorem PermC.later {w W : World} {fp n m : Nat} {lp : Array Value} {s : List Int} {M : Nat → Nat} {perm : List Int → Nat → Bool} (h : PermC w fp lp n m s M perm) (hb : Below w.heap.size w W) : PermC W fp lp n m s M perm := fun V A c b i hV => h V A c b i (hb.trans (hV.mono hb.size))
theorem GoalC.later {w W : World} {gp n m : Nat} {bg lg : Array Value} {s : List Int} {M : Nat → Nat} {goal : List Int → Option Int} (h : GoalC w gp bg lg n m s M goal) (hb : Below w.heap.size w W) : GoalC W gp bg lg n m s M goal := fun V A c b hV => h V A c b (hb.trans (hV.mono hb.size))
def FwW (s : List Int) (M : Nat → Nat) (m : Nat) (perm : List Int → Nat → Bool) (D : Nat → Int) (gs : List Nat) (L : Nat) : List Nat → Nat → Prop := Way (stE (edS perm s M m) nbB) D gs L
def FwI (W wr : World) (s : List Int) (M : Nat → Nat) (A : Option Addr) (c : Nat) (p : List Nat) : Prop := wr.ownsRow W.heap.size 62 2 (.slice A p.length c) p.length (opsV (opsP M s p)) ∧ Below W.heap.size W wr
theorem FwI.later {W wr wr' : World} {s : List Int} {M : Nat → Nat} {A : Option Addr} {c : Nat} {p : List Nat} (h : FwI W wr s M A c p) (hb : Below wr.heap.size wr wr') : FwI W wr' s M A c p := ⟨own_later h.1 hb, h.2.trans (hb.mono h.2.size)⟩
def Fl1 (W : World) (s : List Int) (M : Nat → Nat) (m : Nat) (perm : List Int → Nat → Bool) (D : Nat → Int) (gs : List Nat) (L : Nat) (gk : Nat) (v8 v9 : Value) (wr : World) : Prop :=
 ∃ (p : List Nat) (b : Nat) (A : Option Addr) (c : Nat), v8 = .slice A p.length c ∧ v9 = .int .i64 b ∧ gk = L - p.length ∧ Hid (FwW s M m perm D gs L p b) ∧ Hid (FwI W wr s M A c p)
def onB (st : Nat → Nat → Option Nat) (D : Nat → Int) (gs : List Nat) (L b i : Nat) : Prop := D (nbB b i) = D b + 1 ∧ Gd st D gs L (nbB b i)
def Fl2 (W : World) (s : List Int) (M : Nat → Nat) (m : Nat) (perm : List Int → Nat → Bool) (D : Nat → Int) (gs : List Nat) (L : Nat) (p : List Nat) (b : Nat) (A : Option Addr) (c : Nat) (gk : Nat) (v8 v9 iv : Value) (wr : World) : Prop :=
 ∃ j : Nat, v8 = .slice A p.length c ∧ v9 = .int .i64 b ∧ iv = .int .i64 j ∧ j ≤ (edS perm s M m b).length ∧ gk = (edS perm s M m b).length - j ∧ Hid (∀ j' i', j' < j → (edS perm s M m b)[j']? = some i' → ¬ onB (stE (edS perm s M m) nbB) D gs L b i') ∧ Hid (FwI W wr s M A c p)
theorem ptfind_any (fp gp : Nat) (lp bg lg : Array Value) (As Am : Option Addr) (n cs m cm : Nat) (s : List Int) (M : Nat → Nat) (perm : List Int → Nat → Bool) (goal : List Int → Option Int) (w : World) (hs : Sl w w.heap.size 1 As n cs (intsV s)) (hm : Sl w w.heap.size 1 Am m cm (intsV (mvL m M))) (hn : n ≤ 64) (hm10 : m ≤ 10) (hM : ∀ i, i < m → M i < n) (hp : PosL s) (hI : Inj M m)
 (heP : ∀ (args : Array Value) (W : World), (callFunc fp args).run Tryz.prog W = .ok (.enter fp args) W) (heG : ∀ (args : Array Value) (W : World), (callFunc gp args).run Tryz.prog W = .ok (.enter gp args) W) (hP : PermC w fp lp n m s M perm) (hG : GoalC w gp bg lg n m s M goal) :
 Calls Tryz.prog 41 #[.agg #[.slice As n cs, .slice Am m cm, .func (.func fp) #[] lp], .func (.func gp) bg lg] w (FnPost w s M m perm goal) := by
 have HBL : Hid (Below w.heap.size w (w.alloc (.cells #[.slice As n cs, .slice Am m cm, .func (.func fp) #[] lp] 90))) := (Below.refl _ _).alloc (Nat.le_refl _) _
 have HB := Lib.hid (Blk.new w 90 #[.slice As n cs, .slice Am m cm, .func (.func fp) #[] lp])
 have HC := Lib.hid (ptreach_any fp gp lp bg lg As Am n cs m cm s M perm goal (w.alloc (.cells #[.slice As n cs, .slice Am m cm, .func (.func fp) #[] lp] 90)) ((hs.below HBL.out (Nat.le_refl _)).more HBL.out.size) ((hm.below HBL.out (Nat.le_refl _)).more HBL.out.size) hn hm10 hM hp heP heG (hP.later HBL.out) (hG.later HBL.out))
 have HI := Lib.hid hI
 clear hs hm hP hG heP heG hI
 go_enter Tryz.func41, Tryz.ntmps41
 go_upto_region 1 with (fail)
 generalize World.alloc w _ = W at *
 obtain ⟨N, hN⟩ : ∃ N, N = 2 ^ m := ⟨_, rfl⟩
 rw [← hN] at HC
 have hN1 : 1 ≤ N := by rw [hN]; exact Nat.two_pow_pos m
 have hN2 : N ≤ 1024 := by rw [hN]; exact Nat.pow_le_pow_right (n := 2) (by decide) hm10
 have HN := Lib.hid hN
 clear hN
 have p0 := HB.out.cell 0; have p1 := HB.out.cell 1; have p2 := HB.out.cell 2
 go_wp2_with fail
 refine HC.out.mono ?_
 rintro e w1 ⟨db, eb, ob, gc, D, Ex, gs, least, G, rfl, hM1, hSp, hRng, hb1⟩
 clear HC p0 p1 p2 HB
 have HSP := Lib.hid hSp.out; have HRG := Lib.hid hRng.out
 have HL1 : Hid (Below w.heap.size w (w1.alloc (.cells #[.slice (some ⟨db, 0, none⟩) N N, .slice (some ⟨eb, 0, none⟩) N N, .slice (some ⟨ob, 0, none⟩) N N, .slice G gs.length gc, .int .i64 least] 129))) := (HBL.out.trans (hb1.out.mono HBL.out.size)).alloc (Nat.le_trans HBL.out.size hb1.out.size) _
 have HM1 := Lib.hid (hM1.out.later ((Below.refl _ _).alloc (Nat.le_refl _) (.cells #[.slice (some ⟨db, 0, none⟩) N N, .slice (some ⟨eb, 0, none⟩) N N, .slice (some ⟨ob, 0, none⟩) N N, .slice G gs.length gc, .int .i64 least] 129)))
 have HX := Lib.hid (Blk.new w1 129 #[.slice (some ⟨db, 0, none⟩) N N, .slice (some ⟨eb, 0, none⟩) N N, .slice (some ⟨ob, 0, none⟩) N N, .slice G gs.length gc, .int .i64 least])
 clear hM1 hSp hRng hb1
 go_upto_region 2 with (fail)
 obtain ⟨x, hx⟩ : ∃ x, x = w1.heap.size := ⟨_, rfl⟩
 rw [← hx] at HX ⊢
 clear hx
 generalize World.alloc w1 _ = V at *
 have HC := Lib.hid (ptgood_any db eb ob N gc (edS perm s M m) _ (fun b => goal (sbN s M b m)) D Ex gs least G V HM1.out hN2 HRG.out.1 HRG.out.2.1 HRG.out.2.2 (fun b hb i hi => ⟨by have := (edS_mem.1 hi).1; omega, by rw [HN.out]; exact nbB_lt (by rw [← HN.out]; exact hb) (edS_mem.1 hi).1⟩) (fun b => Nat.le_trans (edS_len perm s M m b) hm10) HSP.out)
 have c0 := HX.out.cell 0; have c1 := HX.out.cell 1; have c2 := HX.out.cell 2; have c3 := HX.out.cell 3; have c4 := HX.out.cell 4
 go_wp2_with fail
 refine HC.out.mono ?_
 rintro e w2 ⟨g, mk, rfl, hRm, hno, hyes, hb2⟩
 have HRM := Lib.hid hRm.out; have HNO := Lib.hid hno.out; have HYES := Lib.hid hyes.out
 have HL2 := Lib.hid (HL1.out.trans (hb2.out.mono HL1.out.size))
 have HM2 := Lib.hid (HM1.out.later hb2.out)
 have HX2 := Lib.hid (HX.out.below hb2.out HX.out.lt)
 clear HC c0 c1 c2 c3 c4 hRm hno hyes hb2 HM1 HX HL1 HBL
 have hg0 := HRM.out.at hN1
 have hnN : N ≤ 9223372036854775807 := by omega
 by_cases hgs : gs = []
 ·have hmk := HNO.out hgs 0
  rw [hmk] at hg0
  have HNN : Hid (NoneIs (stS perm M m) s goal) := by
   rcases HSP.out with h | ⟨L, c, h⟩
   ·exact find_states (r := none) HI.out h.2
   ·exact absurd hgs h.ne
  clear hgs hmk
  go_wp2_with fail
  go_ret2
  exact ⟨.inl ⟨rfl, HNN.out⟩, HL2.out⟩
 obtain ⟨L, c, hok⟩ : ∃ (L : Nat) (c : Int), SpOk (stE (edS perm s M m) nbB) (fun b => goal (sbN s M b m)) N D Ex gs L c := by
  rcases HSP.out with h | h
  ·exact absurd h.1 hgs
  ·exact h
 have hmk : mk 0 = true := by
  rw [HYES.out L c hok 0 hN1]
  exact gdM_iff.2 ⟨by rw [hok.z]; omega, by rw [hok.z]; omega, hok.gd0⟩
 rw [hmk] at hg0
 have HOK := Lib.hid hok
 clear hok hmk hgs HSP HNO
 go_wp2_with fail
 refine wp_loop_u2 [(7, 0), (0, 2), (0, 3), (2, 1), (8, 0), (50, 1), (0, 0)] 8 9 (L) (Fl1 w2 s M m perm D gs L) (by (try dsimp only [gt]); exact ⟨[], 0, none, 0, rfl, rfl, rfl, HOK.out.way0, World.ownsRow_nil _ _ _ _, Below.refl _ _⟩) (by kernel_rfl) ?_
 intro u1 p8 p9 gk wr a hrel ha J1 K1 hJ1 hK1
 dsimp only [relaxR, Go.Proofs.YtfaknfmndafllaaGreatDoor.v2, Nat.reduceAdd] at ha
 subst ha
 obtain ⟨p, b, A, cA, rfl, rfl, rfl, hW, hFI⟩ := hrel
 have HW := Lib.hid hW.out; have HFI := Lib.hid hFI.out
 clear hW hFI hg0
 have HXW := Lib.hid (HX2.out.below HFI.out.2 HX2.out.lt)
 have HMW := Lib.hid (HM2.out.later HFI.out.2)
 have HRW := Lib.hid (HRM.out.below HFI.out.2 HRM.out.lt)
 have hbD : D b = p.length := HW.out.n
 have hbN : b < N := HOK.out.lt b (by rw [hbD]; omega)
 have hpL : p.length ≤ L := SpOk.way_le HW.out
 have hLN : L ≤ N := by
  obtain ⟨b1, h1⟩ := List.exists_mem_of_ne_nil _ HOK.out.ne
  have h2 := ((HOK.out.g b1).1 h1).1
  have := (HRG.out.1 b1).2
  omega
 have HBD := Lib.hid hbD
 clear hbD
 have c3 := HXW.out.cell 3
 have HCT := Lib.hid (contains_any G gs.length gc wr.heap.size (gs.map fun i : Nat => (i : Int)) (b : Int) wr (by rw [← natsV_int]; exact HMW.out.g))
 go_wp2_with fail
 refine HCT.out.mono ?_
 rintro e w3 ⟨rfl, rfl⟩
 clear HCT c3
 have hct : hasB (gs.map fun i : Nat => (i : Int)) (b : Int) = decide (b ∈ gs) := by
  rw [Bool.eq_iff_iff, hasB_iff, decide_eq_true_iff, List.mem_map]
  constructor
  ·rintro ⟨i, h1, h2⟩; have : i = b := by omega
   exact this ▸ h1
  ·intro h; exact ⟨b, h, rfl⟩
 rw [hct]
 clear hct
 by_cases hbg : b ∈ gs
 ·have q1 : decide (b ∈ gs) = true := by simpa using hbg
  have HE : Hid (SomeIs (stS perm M m) s goal p) := find_states (r := some p) HI.out (HOK.out.way_end HW.out hbg)
  have HF : Hid (p.length ≤ 2 ^ m) := by unfold Hid; rw [← HN.out]; omega
  clear hbg HXW HMW HRW
  go_wp2_with fail
  go_ret2
  exact ⟨.inr ⟨p, A, cA, rfl, HE.out, HF.out, HFI.out.1.mono HL2.out.size⟩, HL2.out.trans (HFI.out.2.mono HL2.out.size)⟩
 have q1 : decide (b ∈ gs) = false := by simpa using hbg
 obtain ⟨hbL, hEx⟩ := HOK.out.way_len HW.out hbg
 have hedx : edX Ex (edS perm s M m) b = edS perm s M m b := by unfold edX; rw [hEx]; rfl
 obtain ⟨A3, n3, c3', hce, hsl⟩ := HMW.out.e.at hbN
 have hce2 : w2.cell? ⟨eb, b, none⟩ = some (.slice A3 n3 c3') := by rw [← hce]; exact (HFI.out.2.cell (p := ⟨eb, b, none⟩) HM2.out.e.lt).symm
 have HSL3 : Hid (Sl w2 w2.heap.size 1 A3 n3 c3' (natsV (edS perm s M m b))) := by
  obtain ⟨A5, n5, c5, h5, h6⟩ := HM2.out.e.at hbN
  rw [hce2] at h5
  injection h5 with h5; injection h5 with e1 e2 e3
  subst e1 e2 e3
  rw [hedx] at h6
  exact h6.1
 have hn3 : (edS perm s M m b).length = n3 := by have := HSL3.out.1; rw [natsV_len, Nat.mul_one] at this; exact this
 subst hn3
 have hle10 : (edS perm s M m b).length ≤ 10 := Nat.le_trans (edS_len perm s M m b) hm10
 have k1 := HXW.out.cell 1
 have HEX := Lib.hid hedx; have HBG := Lib.hid hbg
 have hbL2 : p.length < L := by have := HBD.out; omega
 clear hsl hedx hce2 hEx hbg hbL
 go_wp2_with fail
 clear k1 hce q1 HXW HMW HRW
 refine wp_loop_u3 [(7, 0), (0, 2), (0, 3), (2, 1), (19, 0), (0, 4), (38, 1), (0, 0)] 8 9 33 ((edS perm s M m b).length) (Fl2 w2 s M m perm D gs L p b A cA) (by (try dsimp only [gt]); exact ⟨0, rfl, rfl, rfl, Nat.zero_le _, rfl, fun j' i' h => absurd h (Nat.not_lt_zero _), HFI⟩) (by kernel_rfl) ?_
 intro u2 p8 p9 p33 gk2 wx a hrel ha J2 K2 hJ2 hK2
 dsimp only [relaxR, Go.Proofs.YtfaknfmndafllaaGreatDoor.v3, Nat.reduceAdd] at ha
 subst ha
 clear HFI
 obtain ⟨j, rfl, rfl, rfl, hj, rfl, hF, hFI⟩ := hrel
 have HF := Lib.hid hF.out; have HFI := Lib.hid hFI.out
 clear hF hFI
 by_cases hlt : j < (edS perm s M m b).length; rotate_left
 ·exfalso
  obtain ⟨i, h1, h2⟩ := HOK.out.way_next HW.out HBG.out
  obtain ⟨j', hj', e⟩ := List.getElem_of_mem h1
  exact HF.out j' i (by omega) (by rw [List.getElem?_eq_getElem hj', e]) h2
 have q1 : decide (j < (edS perm s M m b).length) = true := by simpa using hlt
 obtain ⟨b2, o2, i, rfl, hb2, hi2, hc2⟩ := (show Sl wx w2.heap.size 1 A3 (edS perm s M m b).length c3' ((edS perm s M m b).flatMap fun i : Nat => [Value.int .i64 (i : Int)]) from HSL3.out.below HFI.out.2 (Nat.le_refl _)).at1 hlt
 have hil : i ∈ edS perm s M m b := List.mem_of_getElem? hi2
 have hi10 : i < 10 := by have := (edS_mem.1 hil).1; omega
 have hnt : nbB b i < N := by rw [HN.out]; exact nbB_lt (by rw [← HN.out]; exact hbN) (edS_mem.1 hil).1
 obtain ⟨y, hy⟩ : ∃ x, x = 2 ^ i := ⟨_, rfl⟩
 have hx10 : y < 1024 := by rw [hy]; exact (Nat.pow_lt_pow_right (by decide) hi10 : 2 ^ i < 2 ^ 10)
 have hshl : IntKind.i64.wrap ((2 : Int) ^ i) = (y : Int) := by rw [hy]; have := shl64 (i := i) (by omega); simpa using this
 have hxor : bits .xor .i64 (b : Int) (y : Int) = (nbB b i : Int) := by rw [xor64 (by omega) hx10, hy]; rfl
 have hjj : IntKind.i64.wrap ((j : Int) + 1) = (j : Int) + 1 := IntWalk.i64_in _ (by omega)
 have hwd : IntKind.i64.wrap (D b + 1) = D b + 1 := IntWalk.i64_in _ (by have := HRG.out.1 b; omega)
 have hnn3 : (edS perm s M m b).length ≤ 9223372036854775807 := by omega
 have HXW := Lib.hid (HX2.out.below HFI.out.2 HX2.out.lt)
 have HMW := Lib.hid (HM2.out.later HFI.out.2)
 have HRW := Lib.hid (HRM.out.below HFI.out.2 HRM.out.lt)
 have HI2 := Lib.hid hi2
 obtain ⟨u, hu⟩ : ∃ u, u = nbB b i := ⟨_, rfl⟩
 have HU := Lib.hid hu
 have HON : Hid (onB (stE (edS perm s M m) nbB) D gs L b i ↔ mk u = true ∧ D u = D b + 1) := by
  unfold Hid onB
  rw [hu, HYES.out L c HOK.out _ hnt, gdM_iff]
  have := HBD.out
  constructor
  ·rintro ⟨h1, h2⟩; exact ⟨⟨by omega, by omega, h2⟩, h1⟩
  ·rintro ⟨⟨_, _, h2⟩, h1⟩; exact ⟨h1, h2⟩
 rw [← hu] at hxor hnt
 have hcu := HMW.out.d.at hnt; have hcb := HMW.out.d.at hbN
 have hcm := HRW.out.at hnt
 have k0 := HXW.out.cell 0
 have HQ := Lib.hid fun q => below_drewN (Below.refl wx.heap.size wx) q
 clear hy hx10 hi2 hil hu
 have HF3 : Hid (¬ onB (stE (edS perm s M m) nbB) D gs L b i → ∀ j' i', j' < j + 1 → (edS perm s M m b)[j']? = some i' → ¬ onB (stE (edS perm s M m) nbB) D gs L b i') := fun hn j' i' h1 h2 => by
  by_cases e : j' = j
  ·subst e; rw [HI2.out] at h2; injection h2 with h2; exact h2 ▸ hn
  ·exact HF.out j' i' (by omega) h2
 cases hmu : mk u with
 | false =>
  rw [hmu] at hcm
  have HF2 := Lib.hid (HF3.out fun h => by rw [HON.out, hmu] at h; cases h.1)
  clear hmu
  go_upto_region 12 with (fail)
  go_quiet (fail)
  have HFR := Lib.hid fun q => HFI.out.later (HQ.out q)
  generalize hq : World.drewN wx _ = Wq
  have HFQ : Hid (FwI w2 Wq s M A cA p) := by rw [← hq]; exact HFR.out _
  clear hq HFR HQ hcu hcb hcm k0 hc2
  go_wp2_with fail
  refine Handed.intro ((edS perm s M m b).length - (j + 1)) (by omega) (hJ2 _ _ _ (LpI3.back 8 9 33 ?_ (by kernel_rfl)))
  dsimp only [gt]
  exact ⟨j + 1, rfl, rfl, rfl, hlt, rfl, HF2, HFQ⟩
 | true =>
  rw [hmu] at hcm
  by_cases hD : D u = D b + 1; rotate_left
  ·have q2 : (D u == D b + 1) = false := by simpa using hD
   have HF2 := Lib.hid (HF3.out fun h => by rw [HON.out] at h; exact hD h.2)
   clear hmu
   go_upto_region 12 with (fail)
   go_quiet (fail)
   have HFR := Lib.hid fun q => HFI.out.later (HQ.out q)
   generalize hq : World.drewN wx _ = Wq
   have HFQ : Hid (FwI w2 Wq s M A cA p) := by rw [← hq]; exact HFR.out _
   clear hq HFR HQ hcu hcb hcm k0 hc2
   go_wp2_with fail
   refine Handed.intro ((edS perm s M m b).length - (j + 1)) (by omega) (hJ2 _ _ _ (LpI3.back 8 9 33 ?_ (by kernel_rfl)))
   dsimp only [gt]
   exact ⟨j + 1, rfl, rfl, rfl, hlt, rfl, HF2, HFQ⟩
  have q2 : (D u == D b + 1) = true := by simpa using hD
  have HONY := Lib.hid (HON.out.2 ⟨hmu, hD⟩)
  have HDD := Lib.hid hD
  clear hmu hD
  go_upto_region 12 with (fail)
  go_quiet (fail)
  have HFR := Lib.hid fun q => HFI.out.later (HQ.out q)
  generalize hq : World.drewN wx _ = Wq
  have HFQ : Hid (FwI w2 Wq s M A cA p) := by rw [← hq]; exact HFR.out _
  clear hq HFR HQ hcu hcb hcm k0 hc2 q2 HXW HMW HRW HF3 hshl hxor hwd
  have HXQ := Lib.hid (HX2.out.below HFQ.out.2 HX2.out.lt)
  have HMQ := Lib.hid (HM2.out.later HFQ.out.2)
  obtain ⟨A5, n5, c5, hco, hso⟩ := HMQ.out.o.at hbN
  rw [HEX.out] at hso
  obtain ⟨b5, o5, i5, rfl, hb5, hi5, hc5⟩ := hso.1.at (fun _ => rfl) (by decide) (k := j) (by have := hso.1.1; rw [flat_len (size := 2) (fun _ => rfl)] at this; omega)
  obtain rfl : i5 = i := by rw [HI2.out] at hi5; injection hi5 with hi5; exact hi5.symm
  have e0 : Wq.cell? ⟨b5, o5 + j * 2, none⟩ = some (.int .i64 (M i5 : Int)) := hc5 0 _ rfl
  have e1 : Wq.cell? ⟨b5, o5 + j * 2 + 1, none⟩ = some (.int .i64 (3 - (sbN s M b m).getD (M i5) 0)) := hc5 1 _ rfl
  have hn5 : (edS perm s M m b).length = n5 := by have := hso.1.1; rw [flat_len (size := 2) (fun _ => rfl)] at this; omega
  subst hn5
  have hle5 := hso.1.le
  have c2 := HXQ.out.cell 2
  clear hso hi5 hc5
  go_upto_region 14 with (at_builtin; go_must (refine wpList_app rfl (.tmp 60) (.tmp 69) rfl el_opn (by rfl) (HFQ.out.1.alloc _) (by rfl) (Sl.newest (n := 1) rfl rfl (by decide)) (by simp [Value.oneCell']) (by omega) (by omega) (by have := HFQ.out.2.size; simp; omega) ?_; intro A6 c6 w6 hown6 hgr6 hat6; have HO6 := Lib.hid hown6; have HG6 := Lib.hid hgr6; clear hown6 hgr6 hat6))
  have HWN : Hid (FwW s M m perm D gs L (p ++ [i5]) u) := by
   rw [HU.out]
   exact HOK.out.way_step HW.out HBG.out (edS_srt perm s M m b) HI2.out HONY.out HF.out
  have HLN : Hid ((p ++ [i5]).length = p.length + 1) := by unfold Hid; simp
  have HFN : Hid (FwI w2 w6 s M A6 c6 (p ++ [i5])) := by
   refine ⟨?_, (HFQ.out.2.alloc HFQ.out.2.size _).grown HG6.out (by have := HFQ.out.2.size; simp; omega) fun g e => (HFQ.out.1.lt g e).1⟩
   rw [HLN.out, opsV_snoc i5 (wk_state HI.out HW.out.w)]
   exact HO6.out
  clear HO6 HG6 HF HFQ HXQ HMQ e0 e1 hco c2 hle5
  go_wp2_with fail
  refine Handed.intro (L - (p.length + 1)) (by omega) (hJ1 _ _ _ (LpI2.back 8 9 ?_ (by kernel_rfl)))
  dsimp only [gt]
  exact ⟨p ++ [i5], u, A6, c6, by rw [HLN.out], rfl, by rw [HLN.out], HWN, HFN⟩
end Go.Proofs.YtfaknfmndafllaaGreatDoor
namespace Go.Proofs.YtfaknfmndafllaaGreatDoor
open Go.RowKit
noncomputable def permB (ns : List Nd) (ds : List Dv) (co : Int) (ls : List Lk) (pr but : List Int) (t : List Int) (d : Nat) : Bool := (hzD ns ds t d (3 - t.getD d 0) co ls pr).all (hasB but)
def mvF (ds : List Dv) (ls : List Lk) (co : Int) (i : Nat) : Nat := (mvS ds ls co ds.length).getD i 0
theorem mvS_srt (ds : List Dv) (ls : List Lk) (co : Int) (n : Nat) : (mvS ds ls co n).Pairwise (· < ·) := List.Pairwise.filter _ List.pairwise_lt_range
theorem mvF_at {ds : List Dv} {ls : List Lk} {co : Int} {i : Nat} (h : i < (mvS ds ls co ds.length).length) : (mvS ds ls co ds.length)[i]? = some (mvF ds ls co i) := by
 unfold mvF; rw [List.getD_eq_getElem?_getD, List.getElem?_eq_getElem h]; rfl
theorem mvF_asc (ds : List Dv) (ls : List Lk) (co : Int) : Asc (mvF ds ls co) (mvS ds ls co ds.length).length := fun i j hij hj => by
 have h1 := List.pairwise_iff_getElem.1 (mvS_srt ds ls co ds.length) i j (by omega) hj hij
 unfold mvF
 rw [List.getD_eq_getElem?_getD, List.getD_eq_getElem?_getD, List.getElem?_eq_getElem (by omega), List.getElem?_eq_getElem hj]
 exact h1
theorem mvF_lt {ds : List Dv} {ls : List Lk} {co : Int} {i : Nat} (h : i < (mvS ds ls co ds.length).length) : mvF ds ls co i < ds.length := by
 have := List.mem_of_getElem? (mvF_at h)
 unfold mvS at this
 exact List.mem_range.1 (List.mem_filter.1 this).1
theorem mvL_eq (ds : List Dv) (ls : List Lk) (co : Int) : natsV (mvS ds ls co ds.length) = intsV (mvL (mvS ds ls co ds.length).length (mvF ds ls co)) := by
 rw [natsV_int]
 congr 1
 unfold mvL lstF
 apply List.ext_getElem?
 intro i
 by_cases h : i < (mvS ds ls co ds.length).length
 ·rw [List.getElem?_map, mvF_at h]; simp [h]
 ·rw [List.getElem?_eq_none (by simp; omega), List.getElem?_eq_none (by simp; omega)]
def pbErr (ns : List Nd) (ds : List Dv) (s : List Int) (co : Int) (ls : List Lk) (pr : List Int) : Int :=
 if mvErr ns ds co ls pr ≠ 0 then mvErr ns ds co ls pr else if difB ls s = true then 18 else 0
theorem stateErr_pos {ns : List Nd} {ds : List Dv} {s : List Int} (h : stateErr ns ds s = 0) : PosL s := by
 unfold stateErr at h
 split at h
 ·next h1 => exact absurd h h1
 ·split at h
  ·cases h
  ·split at h
   ·next h3 =>
    intro x hx
    have := h3 x hx
    unfold posB at this
    rw [Bool.or_eq_true, decide_eq_true_eq, decide_eq_true_eq] at this
    omega
   ·cases h
theorem stateErr_tog {ns : List Nd} {ds : List Dv} {s : List Int} (h : stateErr ns ds s = 0) (d : Nat) : stateErr ns ds (tog s d) = 0 := by
 by_cases hd : d < s.length
 ·refine stateErr_set h ?_
  have hg : s[d]? = some (s.getD d 0) := by rw [List.getD_eq_getElem?_getD, List.getElem?_eq_getElem hd]; rfl
  have := (stateErr_pos h).get hg
  omega
 ·unfold tog
  rw [List.set_eq_of_length_le (by omega)]
  exact h
theorem stateErr_sb {ns : List Nd} {ds : List Dv} {s : List Int} (h : stateErr ns ds s = 0) (M : Nat → Nat) (b : Nat) : ∀ j, stateErr ns ds (sbN s M b j) = 0
 | 0 => h
 | j + 1 => by
  unfold sbN
  split
  ·exact stateErr_tog (stateErr_sb h M b j) _
  ·exact stateErr_sb h M b j
theorem grErr_co {ns : List Nd} {ds : List Dv} {co : Int} {ls : List Lk} {pr : List Int} (h : grErr ns ds co ls pr = 0) : (0 ≤ co ∧ co ≤ 7) ∧ locksErr ns ds ls = 0 := by
 unfold grErr at h
 split at h
 ·cases h
 ·next h1 =>
  split at h
  ·next h2 => exact absurd h h2
  ·next h2 => exact ⟨by omega, by simpa using h2⟩
theorem mvErr_ok {ns : List Nd} {ds : List Dv} {co : Int} {ls : List Lk} {pr : List Int} (h : mvErr ns ds co ls pr = 0) : checkN ns ds = 0 ∧ grErr ns ds co ls pr = 0 ∧ (mvS ds ls co ds.length).length ≤ 10 := by
 unfold mvErr at h
 split at h
 ·next h1 => exact absurd h h1
 ·next h1 =>
  split at h
  ·next h2 => exact absurd h h2
  ·next h2 =>
   split at h
   ·cases h
   ·next h3 => exact ⟨by simpa using h1, by simpa using h2, by omega⟩
theorem lks_good {ns : List Nd} {ds : List Dv} {ls : List Lk} (h : locksErr ns ds ls = 0) : GoodL ds ls := by
 unfold locksErr at h
 split at h
 ·next hc => exact absurd h hc
 ·split at h
  ·omega
  ·exact good_of (by omega) h
theorem lks_dev {ns : List Nd} {ds : List Dv} {ls : List Lk} (h : locksErr ns ds ls = 0) : ∀ k ∈ ls, 0 ≤ k.dev ∧ k.dev < ds.length := fun k hk => by
 have := (lks_good h).2.1 k hk
 unfold lkErr at this
 split at this
 ·cases this
 ·split at this
  ·cases this
  ·omega
structure PbX (W : World) (nb gb bb : Nat) (An Ad Al Ap Ab : Option Addr) (nn cn nd cd nl cl np cp mb cb : Nat) (co : Int) (but : List Int) : Prop where
 n : Blk W nb 30 #[.slice An nn cn, .slice Ad nd cd]
 g : Blk W gb 40 #[.int .i64 co, .slice Al nl cl, .slice Ap np cp]
 b : Blk W bb 22 #[.slice Ab mb cb]
 s : Sl W W.heap.size 1 Ab mb cb (intsV but)
theorem PbX.later {W V : World} {nb gb bb : Nat} {An Ad Al Ap Ab : Option Addr} {nn cn nd cd nl cl np cp mb cb : Nat} {co : Int} {but : List Int} (h : PbX W nb gb bb An Ad Al Ap Ab nn cn nd cd nl cl np cp mb cb co but) (hb : Below W.heap.size W V) : PbX V nb gb bb An Ad Al Ap Ab nn cn nd cd nl cl np cp mb cb co but :=
 ⟨h.n.below hb h.n.lt, h.g.below hb h.g.lt, h.b.below hb h.b.lt, (h.s.below hb (Nat.le_refl _)).more hb.size⟩
theorem perm_ok {w : World} {nb gb bb : Nat} {An Ad As Al Ap Ab : Option Addr} {nn cn nd cd n c nl cl np cp mb cb : Nat} {ns : List Nd} {ds : List Dv} {s : List Int} {ls : List Lk} {pr but : List Int} {co : Int} (hX : PbX w nb gb bb An Ad Al Ap Ab nn cn nd cd nl cl np cp mb cb co but) (hM : HzMem w An Ad As Al Ap nn cn nd cd n c nl cl np cp ns ds s ls pr) (h0 : stateErr ns ds s = 0) (hg : grErr ns ds co ls pr = 0) :
 PermC w 72 #[.pointer (some ⟨nb, 0, none⟩), .pointer (some ⟨gb, 0, none⟩), .pointer (some ⟨bb, 0, none⟩)] n (mvS ds ls co ds.length).length s (mvF ds ls co) (permB ns ds co ls pr but) := by
 intro W A cA b i hb hA _ hi
 have hlt := mvF_lt hi
 obtain ⟨x, hx⟩ : ∃ x, ds[mvF ds ls co i]? = some x := ⟨_, List.getElem?_eq_getElem hlt⟩
 have hst := stateErr_sb h0 (mvF ds ls co) b (mvS ds ls co ds.length).length
 have hMW := hM.below hb
 have hlen : (sbN s (mvF ds ls co) b (mvS ds ls co ds.length).length).length = n := hA.len (fun _ => rfl) (by decide)
 have hpos : 1 ≤ (sbN s (mvF ds ls co) b (mvS ds ls co ds.length).length).getD (mvF ds ls co i) 0 ∧ (sbN s (mvF ds ls co) b (mvS ds ls co ds.length).length).getD (mvF ds ls co i) 0 ≤ 2 := by
  refine (stateErr_pos hst).get (d := mvF ds ls co i) ?_
  have hl2 := (stateErr_net hst).2
  rw [List.getD_eq_getElem?_getD, List.getElem?_eq_getElem (by omega)]; rfl
 have hco := (grErr_co hg).1
 have hie : inErr ns ds (sbN s (mvF ds ls co) b (mvS ds ls co ds.length).length) (mvF ds ls co i : Int) (3 - (sbN s (mvF ds ls co) b (mvS ds ls co ds.length).length).getD (mvF ds ls co i) 0) co = 0 := by
  unfold inErr
  rw [if_pos hst]
  unfold hzErr
  rw [if_neg (by omega), if_neg (by omega), if_neg (by omega), if_neg (by omega), if_neg (by omega)]
 have := perm_any nb gb bb An Ad A Al Ap Ab nn cn nd cd n cA nl cl np cp mb cb ns ds _ ls pr but _ _ co x W ⟨hMW.hn, hMW.hd, hA, hMW.hl, hMW.hp, hMW.la, hMW.sn, hMW.sd⟩ (hX.n.below hb hX.n.lt) (hX.g.below hb hX.g.lt) (hX.b.below hb hX.b.lt) ((hX.s.below hb (Nat.le_refl _)).more hb.size) hie (by rw [Int.toNat_natCast]; exact hx)
 have e : permB ns ds co ls pr but (sbN s (mvF ds ls co) b (mvS ds ls co ds.length).length) (mvF ds ls co i) = (hzAt ns.length ns ds (sbN s (mvF ds ls co) b (mvS ds ls co ds.length).length) ((mvF ds ls co i : Int)).toNat (3 - (sbN s (mvF ds ls co) b (mvS ds ls co ds.length).length).getD (mvF ds ls co i) 0) co ls pr x).all (hasB but) := by
  unfold permB hzD
  rw [Int.toNat_natCast, hx]
 rw [e]
 exact this
def PbPost (w : World) (As : Option Addr) (n c : Nat) (ns : List Nd) (ds : List Dv) (s : List Int) (co : Int) (ls : List Lk) (pr but : List Int) (e : Ending) (w' : World) : Prop :=
 (pbErr ns ds s co ls pr ≠ 0 ∧ e = .returned (.tuple #[.agg #[.slice none 0 0, .slice none 0 0, .nilFunc], .int .i64 (pbErr ns ds s co ls pr)]) ∨ pbErr ns ds s co ls pr = 0 ∧ ∃ (nb gb bb cm : Nat) (Am : Option Addr), e = .returned (.tuple #[.agg #[.slice As n c, .slice Am (mvS ds ls co ds.length).length cm, .func (.func 72) #[] #[.pointer (some ⟨nb, 0, none⟩), .pointer (some ⟨gb, 0, none⟩), .pointer (some ⟨bb, 0, none⟩)]], .int .i64 0]) ∧ Hid (PermC w' 72 #[.pointer (some ⟨nb, 0, none⟩), .pointer (some ⟨gb, 0, none⟩), .pointer (some ⟨bb, 0, none⟩)] n (mvS ds ls co ds.length).length s (mvF ds ls co) (permB ns ds co ls pr but)) ∧ Hid (Sl w' w'.heap.size 1 Am (mvS ds ls co ds.length).length cm (intsV (mvL (mvS ds ls co ds.length).length (mvF ds ls co))))) ∧ Hid (Below w.heap.size w w')
theorem problem_any (An Ad As Al Ap Ab : Option Addr) (nn cn nd cd n c nl cl np cp mb cb : Nat) (ns : List Nd) (ds : List Dv) (s : List Int) (ls : List Lk) (pr but : List Int) (co : Int) (w : World) (h : HzMem w An Ad As Al Ap nn cn nd cd n c nl cl np cp ns ds s ls pr) (h0 : stateErr ns ds s = 0) (hB : Sl w w.heap.size 1 Ab mb cb (intsV but)) :
 Calls Tryz.prog 39 #[.agg #[.slice An nn cn, .slice Ad nd cd], .slice As n c, .agg #[.int .i64 co, .slice Al nl cl, .slice Ap np cp], .slice Ab mb cb] w (PbPost w As n c ns ds s co ls pr but) := by
 obtain ⟨hln, hld, hls⟩ := h.ln
 have HH := Lib.hid h; have HS0 := Lib.hid h0; have HBB := Lib.hid hB
 have HLN : Hid (s.length = n ∧ ds.length = nd ∧ n = nd) := ⟨hls, hld, by have := (stateErr_net h0).2; omega⟩
 clear h h0 hB hln hld hls
 have HME : Hid (pbErr ns ds s co ls pr = if mvErr ns ds co ls pr ≠ 0 then mvErr ns ds co ls pr else if difB ls s = true then 18 else 0) := rfl
 have HB := Lib.hid (((((Bxs.nil w).add rfl 30 #[.slice An nn cn, .slice Ad nd cd]).add (by simp) 40 #[.int .i64 co, .slice Al nl cl, .slice Ap np cp]).add (by simp) 22 #[.slice Ab mb cb]).add (by simp) 90 #[.slice none 0 0, .slice none 0 0, .nilFunc])
 dsimp only [List.nil_append, List.cons_append] at HB
 go_enter Tryz.func39, Tryz.ntmps39
 go_upto_region 1 with (fail)
 generalize World.alloc (World.alloc (World.alloc (World.alloc w _) _) _) _ = W at *
 have HM := Lib.hid (HH.out.below HB.out.l)
 have n0 := HB.out.b0.cell 0; have n1 := HB.out.b0.cell 1; have g0 := HB.out.b1.cell 0; have g1 := HB.out.b1.cell 1; have g2 := HB.out.b1.cell 2
 have HC := Lib.hid (moves_any An Ad As Al Ap nn cn nd cd n c nl cl np cp ns ds s ls pr co W HM.out)
 go_wp2_with fail
 refine HC.out.mono ?_
 rintro e w1 ⟨hmv, hb1⟩
 have HB1 := Lib.hid (HB.out.later hb1.out)
 have HM1 := Lib.hid (HM.out.below hb1.out)
 have HWW : Hid (w.heap.size + 3 < W.heap.size) := HB.out.b3.lt
 clear HC HB HM n0 n1 g0 g1 g2
 rcases hmv with ⟨h1, rfl⟩ | ⟨h1, Am, cm, rfl, hO⟩
 ·have q1 : (mvErr ns ds co ls pr != 0) = true := by simpa using h1
  have HE : Hid (pbErr ns ds s co ls pr = mvErr ns ds co ls pr) := by unfold Hid; rw [HME.out, if_pos h1]
  have HNE := Lib.hid h1
  clear h1
  have d0 := HB1.out.b3.cell 0; have d1 := HB1.out.b3.cell 1; have d2 := HB1.out.b3.cell 2
  have y0 := HB1.out.b3.frozen 0; have y1 := HB1.out.b3.frozen 1; have y2 := HB1.out.b3.frozen 2
  have HZ := Lib.hid (((HB1.out.b3.set 0 (.slice none 0 0)).set 1 (.slice none 0 0)).set 2 .nilFunc)
  have HLZ : Hid (Below w.heap.size w (((w1.setCell ⟨w.heap.size + 3, 0, none⟩ (.slice none 0 0)).setCell ⟨w.heap.size + 3, 1, none⟩ (.slice none 0 0)).setCell ⟨w.heap.size + 3, 2, none⟩ .nilFunc)) := ((HB1.out.l.setCell (by show w.heap.size ≤ w.heap.size + 3; omega) _).setCell (by show w.heap.size ≤ w.heap.size + 3; omega) _).setCell (by show w.heap.size ≤ w.heap.size + 3; omega) _
  go_wp2_with fail
  generalize World.setCell (World.setCell (World.setCell w1 _ _) _ _) _ _ = z at *
  have z0 := HZ.out.cell 0; have z1 := HZ.out.cell 1; have z2 := HZ.out.cell 2
  exact bodyPost_ret (v := .tuple #[.agg #[.slice none 0 0, .slice none 0 0, .nilFunc], .int .i64 (mvErr ns ds co ls pr)]) (by simp [results, Tryz.results39, go_sem, z0, z1, z2]) rfl ⟨.inl ⟨by rw [HE.out]; exact HNE.out, by rw [HE.out]⟩, HLZ.out⟩
 have HMV := Lib.hid h1
 have HO := Lib.hid hO
 have HWZ : Hid (w.heap.size + 3 < W.heap.size) := HWW.out
 obtain ⟨hck, hgr, hm10⟩ := mvErr_ok h1
 clear h1 hO
 have g0 := HB1.out.b1.cell 0; have g1 := HB1.out.b1.cell 1; have g2 := HB1.out.b1.cell 2
 have HGR := Lib.hid hgr
 have HLO := Lib.hid (lks_dev (grErr_co hgr).2)
 have HC := Lib.hid (differs_any Al Ap As nl cl np cp n c co ls s w1 HM1.out.hl HM1.out.hs (fun k hk => by have := HLO.out k hk; have := HLN.out; omega))
 go_wp2_with fail
 refine HC.out.mono ?_
 rintro e w2 ⟨rfl, hb2⟩
 have HB2 := Lib.hid (HB1.out.later hb2)
 have HM2 := Lib.hid (HM1.out.below hb2)
 have HO2 := Lib.hid (own_later HO.out hb2)
 clear HC g0 g1 g2 hb2 hck hgr HO HB1 HM1
 cases hdf : difB ls s with
 | true =>
  have HE : Hid (pbErr ns ds s co ls pr = 18) := by unfold Hid; rw [HME.out, if_neg (by rw [HMV.out]; simp), if_pos hdf]
  have HNE : Hid ((18 : Int) ≠ 0) := by unfold Hid; omega
  clear hdf
  have d0 := HB2.out.b3.cell 0; have d1 := HB2.out.b3.cell 1; have d2 := HB2.out.b3.cell 2
  have y0 := HB2.out.b3.frozen 0; have y1 := HB2.out.b3.frozen 1; have y2 := HB2.out.b3.frozen 2
  have HZ := Lib.hid (((HB2.out.b3.set 0 (.slice none 0 0)).set 1 (.slice none 0 0)).set 2 .nilFunc)
  have HLZ : Hid (Below w.heap.size w (((w2.setCell ⟨w.heap.size + 3, 0, none⟩ (.slice none 0 0)).setCell ⟨w.heap.size + 3, 1, none⟩ (.slice none 0 0)).setCell ⟨w.heap.size + 3, 2, none⟩ .nilFunc)) := ((HB2.out.l.setCell (by show w.heap.size ≤ w.heap.size + 3; omega) _).setCell (by show w.heap.size ≤ w.heap.size + 3; omega) _).setCell (by show w.heap.size ≤ w.heap.size + 3; omega) _
  go_wp2_with fail
  generalize World.setCell (World.setCell (World.setCell w2 _ _) _ _) _ _ = z at *
  have z0 := HZ.out.cell 0; have z1 := HZ.out.cell 1; have z2 := HZ.out.cell 2
  exact bodyPost_ret (v := .tuple #[.agg #[.slice none 0 0, .slice none 0 0, .nilFunc], .int .i64 18]) (by simp [results, Tryz.results39, go_sem, z0, z1, z2]) rfl ⟨.inl ⟨by rw [HE.out]; exact HNE.out, by rw [HE.out]⟩, HLZ.out⟩
 | false =>
  have HE : Hid (pbErr ns ds s co ls pr = 0) := by unfold Hid; rw [HME.out, if_neg (by rw [HMV.out]; simp), if_neg (by rw [hdf]; simp)]
  clear hdf
  have d0 := HB2.out.b3.cell 0; have d1 := HB2.out.b3.cell 1; have d2 := HB2.out.b3.cell 2
  have y0 := HB2.out.b3.frozen 0; have y1 := HB2.out.b3.frozen 1; have y2 := HB2.out.b3.frozen 2
  have HZ := Lib.hid (((HB2.out.b3.set 0 (.slice As n c)).set 1 (.slice Am (mvS ds ls co ds.length).length cm)).set 2 (.func (.func 72) #[] #[.pointer (some ⟨w.heap.size, 0, none⟩), .pointer (some ⟨w.heap.size + 1, 0, none⟩), .pointer (some ⟨w.heap.size + 2, 0, none⟩)]))
  have HBZ : Hid (Below w.heap.size w (((w2.setCell ⟨w.heap.size + 3, 0, none⟩ (.slice As n c)).setCell ⟨w.heap.size + 3, 1, none⟩ (.slice Am (mvS ds ls co ds.length).length cm)).setCell ⟨w.heap.size + 3, 2, none⟩ (.func (.func 72) #[] #[.pointer (some ⟨w.heap.size, 0, none⟩), .pointer (some ⟨w.heap.size + 1, 0, none⟩), .pointer (some ⟨w.heap.size + 2, 0, none⟩)]))) := ((HB2.out.l.setCell (by show w.heap.size ≤ w.heap.size + 3; omega) _).setCell (by show w.heap.size ≤ w.heap.size + 3; omega) _).setCell (by show w.heap.size ≤ w.heap.size + 3; omega) _
  have HX : Hid (PbX (((w2.setCell ⟨w.heap.size + 3, 0, none⟩ (.slice As n c)).setCell ⟨w.heap.size + 3, 1, none⟩ (.slice Am (mvS ds ls co ds.length).length cm)).setCell ⟨w.heap.size + 3, 2, none⟩ (.func (.func 72) #[] #[.pointer (some ⟨w.heap.size, 0, none⟩), .pointer (some ⟨w.heap.size + 1, 0, none⟩), .pointer (some ⟨w.heap.size + 2, 0, none⟩)])) w.heap.size (w.heap.size + 1) (w.heap.size + 2) An Ad Al Ap Ab nn cn nd cd nl cl np cp mb cb co but) :=
   ⟨((HB2.out.b0.far (p := ⟨w.heap.size + 3, 0, none⟩) (by show w.heap.size ≠ w.heap.size + 3; omega) _).far (p := ⟨w.heap.size + 3, 1, none⟩) (by show w.heap.size ≠ w.heap.size + 3; omega) _).far (p := ⟨w.heap.size + 3, 2, none⟩) (by show w.heap.size ≠ w.heap.size + 3; omega) _,
    ((HB2.out.b1.far (p := ⟨w.heap.size + 3, 0, none⟩) (by show w.heap.size + 1 ≠ w.heap.size + 3; omega) _).far (p := ⟨w.heap.size + 3, 1, none⟩) (by show w.heap.size + 1 ≠ w.heap.size + 3; omega) _).far (p := ⟨w.heap.size + 3, 2, none⟩) (by show w.heap.size + 1 ≠ w.heap.size + 3; omega) _,
    ((HB2.out.b2.far (p := ⟨w.heap.size + 3, 0, none⟩) (by show w.heap.size + 2 ≠ w.heap.size + 3; omega) _).far (p := ⟨w.heap.size + 3, 1, none⟩) (by show w.heap.size + 2 ≠ w.heap.size + 3; omega) _).far (p := ⟨w.heap.size + 3, 2, none⟩) (by show w.heap.size + 2 ≠ w.heap.size + 3; omega) _,
    (HBB.out.below HBZ.out (Nat.le_refl _)).more HBZ.out.size⟩
  have HMZ := Lib.hid (HH.out.below HBZ.out)
  have HOZ := Lib.hid (ownsRow_setCell_below (ownsRow_setCell_below (ownsRow_setCell_below HO2.out (a := ⟨w.heap.size + 3, 0, none⟩) (HWZ.out) (.slice As n c)) (a := ⟨w.heap.size + 3, 1, none⟩) (HWZ.out) (.slice Am (mvS ds ls co ds.length).length cm)) (a := ⟨w.heap.size + 3, 2, none⟩) (HWZ.out) (.func (.func 72) #[] #[.pointer (some ⟨w.heap.size, 0, none⟩), .pointer (some ⟨w.heap.size + 1, 0, none⟩), .pointer (some ⟨w.heap.size + 2, 0, none⟩)]))
  clear HO2
  go_wp2_with fail
  generalize World.setCell (World.setCell (World.setCell w2 _ _) _ _) _ _ = z at *
  have z0 := HZ.out.cell 0; have z1 := HZ.out.cell 1; have z2 := HZ.out.cell 2
  refine bodyPost_ret (v := .tuple #[.agg #[.slice As n c, (.slice Am (mvS ds ls co ds.length).length cm), (.func (.func 72) #[] #[.pointer (some ⟨w.heap.size, 0, none⟩), .pointer (some ⟨w.heap.size + 1, 0, none⟩), .pointer (some ⟨w.heap.size + 2, 0, none⟩)])], .int .i64 0]) (by simp [results, Tryz.results39, go_sem, z0, z1, z2]) rfl ⟨.inr ⟨HE.out, w.heap.size, w.heap.size + 1, w.heap.size + 2, cm, Am, rfl, perm_ok HX.out HMZ.out HS0.out HGR.out, ?_⟩, HBZ.out⟩
  have := Sl.of_own HOZ.out
  rwa [mvL_eq] at this
end Go.Proofs.YtfaknfmndafllaaGreatDoor
namespace Go.Proofs.YtfaknfmndafllaaGreatDoor
open Go.RowKit
theorem gapz_any (k : Int) (w : World) : Calls Tryz.prog 137 #[.int .i64 k] w fun e w' => e = .returned (.bool (gapB k)) ∧ w = w' := by
 have HE : Hid (gapB k = (k == 1 || (k == 3 || k == 6))) := by unfold Hid gapB; rw [Bool.or_assoc]
 rcases h1 : (k == 1) with _ | _
 ·rw [h1] at HE
  rcases h3 : (k == 3) with _ | _
  ·rw [h3] at HE
   go_enter Tryz.func137, Tryz.ntmps137
   go_wp2_with fail
   go_ret
   exact ⟨ret_bool (by rw [HE.out]; rfl), rfl⟩
  ·rw [h3] at HE
   go_enter Tryz.func137, Tryz.ntmps137
   go_wp2_with fail
   go_ret
   exact ⟨ret_bool (by rw [HE.out]; rfl), rfl⟩
 ·rw [h1] at HE
  go_enter Tryz.func137, Tryz.ntmps137
  go_wp2_with fail
  go_ret
  exact ⟨ret_bool (by rw [HE.out]; rfl), rfl⟩
def GapsOk (ds : List Dv) (gs : List Int) : Prop := risL ds.length (-1) gs = true ∧ ∀ g ∈ gs, ∀ x, ds[g.toNat]? = some x → gapB x.kind = true
def Rgn (ds : List Dv) (gs z : List Int) (v : Int) : Prop := Rch ds (fun i => !hasB gs i) (fun _ => false) z v
open Classical in
noncomputable def nodesL (nn : Nat) (R : Int → Prop) : List Int := ((List.range nn).filter fun v : Nat => decide (R (v : Int))).map fun v : Nat => (v : Int)
open Classical in
theorem nodesL_succ (nn : Nat) (R : Int → Prop) : nodesL (nn + 1) R = nodesL nn R ++ if R nn then [(nn : Int)] else [] := by
 unfold nodesL
 rw [List.range_succ, List.filter_append, List.map_append]
 by_cases h : R (nn : Int)
 ·simp [h]
 ·simp [h]
theorem nodesL_len (nn : Nat) (R : Int → Prop) : (nodesL nn R).length ≤ nn := by
 unfold nodesL
 rw [List.length_map]
 exact Nat.le_trans (List.length_filter_le _ _) (by simp)
theorem nodesL_mem {nn : Nat} {R : Int → Prop} {v : Int} : v ∈ nodesL nn R ↔ 0 ≤ v ∧ v < nn ∧ R v := by
 unfold nodesL
 simp only [List.mem_map, List.mem_filter, List.mem_range, decide_eq_true_eq]
 constructor
 ·rintro ⟨k, ⟨h1, h2⟩, rfl⟩; exact ⟨by omega, by omega, h2⟩
 ·rintro ⟨h1, h2, h3⟩
  obtain ⟨k, rfl⟩ := Int.eq_ofNat_of_zero_le h1
  exact ⟨k, ⟨by omega, h3⟩, rfl⟩
theorem reg1_any (Ag : Option Addr) (n c B bb : Nat) (gs : List Int) (i : Nat) (W : World) (hc : W.cell? ⟨bb, 0, none⟩ = some (.slice Ag n c)) (hs : Sl W B 1 Ag n c (intsV gs)) :
 Calls Tryz.prog 208 #[.int .i64 i, .pointer (some ⟨bb, 0, none⟩)] W fun e W' => e = .returned (.bool (!hasB gs i)) ∧ W = W' := by
 have HC := Lib.hid (contains_any Ag n c B gs i W hs)
 clear hs
 go_enter Tryz.func208, Tryz.ntmps208
 go_wp2_with fail
 refine HC.out.mono ?_
 rintro e w1 ⟨rfl, rfl⟩
 go_wp2_with fail
 go_ret
 exact ⟨rfl, rfl⟩
theorem reg2_any (v : Int) (w : World) : Calls Tryz.prog 209 #[.int .i64 v] w fun e w' => e = .returned (.bool false) ∧ w = w' := by
 go_enter Tryz.func209, Tryz.ntmps209
 go_wp2_with fail
 go_ret
 exact ⟨rfl, rfl⟩
theorem region_any (An Ad Az Ag : Option Addr) (nn cn nd cd n c ng cg : Nat) (ds : List Dv) (z gs : List Int) (w : World) (hd : Sl w w.heap.size 5 Ad nd cd (ds.flatMap Dv.cells)) (hz : Sl w w.heap.size 1 Az n c (intsV z)) (hg : Sl w w.heap.size 1 Ag ng cg (intsV gs))
 (hnn : nn ≤ 10000) (hn : n ≤ 10000) (hends : EndsOk nn ds) (hsrc : ∀ v ∈ z, 0 ≤ v ∧ v < nn) :
 Calls Tryz.prog 190 #[.agg #[.slice An nn cn, .slice Ad nd cd], .slice Az n c, .slice Ag ng cg] w (FloodPost w nn (Rgn ds gs z)) := by
 have HB : Hid (Below w.heap.size w ((w.alloc (.cells #[.slice An nn cn, .slice Ad nd cd] 30)).alloc (.cells #[.slice Ag ng cg] 22))) := ((Below.refl _ _).alloc (Nat.le_refl _) _).alloc (by simp) _
 have HK := Lib.hid ((Blk.new w 30 #[.slice An nn cn, .slice Ad nd cd]).alloc (.cells #[.slice Ag ng cg] 22))
 have HG := Lib.hid (Blk.new (w.alloc (.cells #[.slice An nn cn, .slice Ad nd cd] 30)) 22 #[.slice Ag ng cg])
 have hsz : (w.alloc (.cells #[.slice An nn cn, .slice Ad nd cd] 30)).heap.size = w.heap.size + 1 := by simp
 rw [hsz] at HG
 have HD := Lib.hid hd; have HZ := Lib.hid hz; have HGS := Lib.hid hg; have HE := Lib.hid hends; have HSR := Lib.hid hsrc
 clear hd hz hg hends hsrc
 have hmf : ∀ (fn : Go.Fn) (first cap : Array Value) (w : World), (Instr.makeFunc fn first cap).run Tryz.prog w = .ok (.func fn first cap) w := fun _ _ _ _ => rfl
 go_enter Tryz.func190, Tryz.ntmps190
 go_upto_region 1 with (fail)
 clear hsz
 generalize World.alloc (World.alloc w _) _ = W at *
 have k0 := HK.out.c0
 have k1 := HK.out.c1
 go_wp2_with fail
 clear k0 k1
 have hzW := HB.out.size
 refine (flood_any An Ad Az nn cn nd cd n c W.heap.size W.heap.size 208 209 #[.pointer (some ⟨w.heap.size + 1, 0, none⟩)] #[] ds z (fun i => !hasB gs i) (fun _ => false) W ((HD.out.below HB.out (Nat.le_refl _)).more hzW) (Nat.le_refl _) ((HZ.out.below HB.out (Nat.le_refl _)).more hzW) (Nat.le_refl _) hnn hn HE.out HSR.out (enters_of Tryz.func208 (by kernel_rfl) rfl) (enters_of Tryz.func209 (by kernel_rfl) rfl) ?_ ?_).mono ?_
 ·intro W' i hb _
  refine (reg1_any Ag ng cg w.heap.size (w.heap.size + 1) gs i W' ((hb.cell (p := ⟨w.heap.size + 1, 0, none⟩) HG.out.lt).trans (HG.out.cell 0)) ((HGS.out.below HB.out (Nat.le_refl _)).below hb hzW)).mono ?_
  rintro e w' ⟨rfl, rfl⟩
  exact ⟨rfl, Below.refl _ _⟩
 ·intro W' v _ _ _
  refine (reg2_any v W').mono ?_
  rintro e w' ⟨rfl, rfl⟩
  exact ⟨rfl, Below.refl _ _⟩
 ·rintro e w1 ⟨A, l, rfl, hl, hO, hR, hb⟩
  go_wp2_with fail
  go_ret
  exact ⟨A, l, rfl, hl, World.ownsRow.mono hO.out (by omega), hR, HB.out.trans (hb.out.mono hzW)⟩
theorem sl_take {w : World} {B n c k : Nat} {A : Option Addr} {l : List Int} (h : Sl w B 1 A n c (intsV l)) (hk : k ≤ n) : Sl w B 1 A k c (intsV (l.take k)) := by
 have hl : l.length = n := h.len (fun _ => rfl) (by decide)
 obtain ⟨h1, h2, h3, h4, h5⟩ := h
 refine ⟨?_, by omega, h3, h4, fun h0 => ?_⟩
 ·unfold intsV; rw [flat1_map, List.length_map, List.length_take]; omega
 ·obtain ⟨b, off, e, hb, hc⟩ := h5 (by omega)
  refine ⟨b, off, e, hb, fun j u hu => hc j u ?_⟩
  unfold intsV at hu ⊢
  rw [flat1_map, List.getElem?_map] at hu ⊢
  rw [List.getElem?_take] at hu
  split at hu
  ·exact hu
  ·simp at hu
def ZgR (w : World) (N : Array Value) (n gk : Nat) (iv : Value) (wr : World) : Prop := ∃ i : Nat, iv = .int .i64 i ∧ i ≤ n ∧ gk = n - i ∧ Hid (Blk wr w.heap.size 30 N) ∧ Hid (Below w.heap.size w wr)
theorem zgcheck_any (An Ad Az Ag : Option Addr) (nn cn nd cd n c ng cg : Nat) (ns : List Nd) (ds : List Dv) (z gs : List Int) (w : World) (hl : Laid w) (hn : Sl w w.heap.size 3 An nn cn (ns.flatMap Nd.cells)) (hd : Sl w w.heap.size 5 Ad nd cd (ds.flatMap Dv.cells)) (hz : Sl w w.heap.size 1 Az n c (intsV z)) (hg : Sl w w.heap.size 1 Ag ng cg (intsV gs))
 (hsn : ∀ x ∈ ns, x.name.size ≤ 9223372036854775807) (hsd : ∀ x ∈ ds, x.name.size ≤ 9223372036854775807) (hgo : GapsOk ds gs) :
 Calls Tryz.prog 239 #[.agg #[.slice An nn cn, .slice Ad nd cd], .slice Az n c, .slice Ag ng cg] w fun e w' => e = .returned (.int .i64 (zoneErr ns ds z)) ∧ Below w.heap.size w w' := by
 have HLD := Lib.hid (hd.len (fun _ => rfl) (by decide)); have HLG := Lib.hid (hg.len (fun _ => rfl) (by decide))
 have hgl := hg.le
 have hdl := hd.le
 have HB : Hid (Below w.heap.size w (w.alloc (.cells #[.slice An nn cn, .slice Ad nd cd] 30))) := (Below.refl _ _).alloc (Nat.le_refl _) _
 have HK := Lib.hid (Blk.new w 30 #[.slice An nn cn, .slice Ad nd cd])
 have hz1 := HB.out.size
 have HC := Lib.hid (zcheck_any An Ad Az nn cn nd cd n c ns ds z (w.alloc (.cells #[.slice An nn cn, .slice Ad nd cd] 30)) (hl.alloc _) ((hn.below HB.out (Nat.le_refl _)).more hz1) ((hd.below HB.out (Nat.le_refl _)).more hz1) ((hz.below HB.out (Nat.le_refl _)).more hz1) hsn hsd)
 have HG := Lib.hid hg; have HD := Lib.hid hd; have HGO := Lib.hid hgo
 clear hl hn hd hz hg hsn hsd hgo hz1
 go_enter Tryz.func239, Tryz.ntmps239
 go_wp2_with fail
 generalize World.alloc w _ = W at *
 refine HC.out.mono ?_
 rintro e w1 ⟨rfl, hb1⟩
 have HB1 := Lib.hid (HB.out.trans (hb1.mono HB.out.size))
 have HK1 := Lib.hid (HK.out.below hb1 HK.out.lt)
 clear hb1 HC HB HK
 obtain ⟨er, her⟩ : ∃ x, x = zoneErr ns ds z := ⟨_, rfl⟩
 rw [← her]
 have HER := Lib.hid her
 clear her
 by_cases he : er = 0; rotate_left
 ·have q : (er != 0) = true := by simpa using he
  clear he
  go_wp2_with fail
  go_ret
  exact ⟨ret_int HER.out, HB1.out⟩
 subst he
 go_wp2_with fail
 go_loopg [18] ng (ZgR w #[.slice An nn cn, .slice Ad nd cd] ng)
 case atStart => exact ⟨0, rfl, Nat.zero_le _, rfl, HK1, HB1⟩
 case round =>
  clear HK1 HB1
  obtain ⟨i, rfl, hi, rfl, hk, hb⟩ := hrel
  by_cases hlt : i < ng
  ·obtain ⟨bg, og, g, rfl, hbg, hx, hc⟩ := (HG.out.below hb.out (Nat.le_refl _)).at1 hlt
   have hmem := List.mem_of_getElem? hx
   have hgr := ris_mem HGO.out.1 g hmem
   obtain ⟨g, rfl⟩ := Int.eq_ofNat_of_zero_le (show 0 ≤ g by omega)
   have hgn : g < nd := by have := HLD.out; omega
   obtain ⟨b0, off, x, rfl, hb0, hx0, hc0⟩ := (HD.out.below hb.out (Nat.le_refl _)).at (k := g) (fun _ => rfl) (by decide) hgn
   have HGB : Hid (gapB x.kind = true) := HGO.out.2 _ hmem x (by rw [Int.toNat_natCast]; exact hx0)
   have c1 : wr.cell? ⟨b0, off + g * 5 + 1, none⟩ = some (.int .i64 x.kind) := hc0 1 _ rfl
   have HC1 := Lib.hid c1
   have HR : Hid (risL nd (-1) (gs.take (i + 1)) = true) := by have := risL_take (i + 1) HGO.out.1; rw [HLD.out] at this; exact this
   have HST : Hid (Sl wr w.heap.size 1 (some ⟨bg, og, none⟩) (i + 1) cg (intsV (gs.take (i + 1)))) := sl_take (HG.out.below hb.out (Nat.le_refl _)) (by omega)
   have hic : i + 1 ≤ cg := by omega
   have hiI : ((i : Int) + 1) ≤ (cg : Int) := by omega
   have hwr : IntKind.wrap .i64 ((i : Int) + 1) = ((i + 1 : Nat) : Int) := by rw [IntKind.wrap_i64]; omega
   have hiN : ((i + 1 : Nat) : Int) ≤ (cg : Int) := by omega
   have hi0 : 0 ≤ ((i + 1 : Nat) : Int) := by omega
   have hi01 : 0 ≤ ((i : Int) + 1) := by omega
   clear hx hx0 hc0 hmem hgr
   go_upto_region 7 with (fail)
   clear c1
   have HK0 : Hid (wr.cell? ⟨w.heap.size, 0, none⟩ = some (.slice An nn cn) ∧ wr.cell? ⟨w.heap.size, 1, none⟩ = some (.slice (some ⟨b0, off, none⟩) nd cd)) := ⟨hk.out.cell 0, hk.out.cell 1⟩
   refine wp_region_ord (S := fun W' => W'.cell? ⟨w.heap.size, 0, none⟩ = some (.slice An nn cn) ∧ W'.cell? ⟨w.heap.size, 1, none⟩ = some (.slice (some ⟨b0, off, none⟩) nd cd)) (J := []) (n := _) ((0, true) :: (1, true) :: (4, true) :: (5, true) :: (2, true) :: (6, true) :: (3, true) :: (7, false) :: (8, true) :: (9, true) :: []) (by as_aux_lemma => kernel_rfl) (by rfl) (base_cons (k := 2) (by go_simp; rfl) (base_cons (k := 8) (by go_simp; rfl) (base_cons (k := 3) (by go_simp; rfl) base_nil))) ?_ (fun _ _ _ _ _ h => h) (fun Q2 A hsz hbase hn2 hHeld => ?_)
   ·exact HK0.out
   try dsimp only at hHeld
   obtain ⟨b2, b8, b3, -⟩ := hbase
   refine ord_move (i := 0) (d := 24) (v := ?_) rfl rfl rfl (wanted_none rfl) hHeld (fun ρ hρ => ?_) ?_
   rotate_left
   ·(have e2 := Eq.trans (hρ.tmp hsz 2 rfl) (lkp_base b2); exact e2)
   show wpOrd _ _ _ _ _ _ _ _
   refine ord_move (i := 1) (d := 25) (v := ?_) rfl rfl rfl (wanted_none rfl) hHeld (fun ρ hρ => ?_) ?_
   rotate_left
   ·(have e8 := Eq.trans (hρ.tmp hsz 8 rfl) (miss1 rfl (lkp_base b8)); exact e8)
   show wpOrd _ _ _ _ _ _ _ _
   refine ord_take (i := 4) (d := 28) (v := ?_) rfl rfl (wanted_none rfl) hHeld (fun ρ hρ w hSw => ?_) ?_
   rotate_left
   ·(have e3 := Eq.trans (hρ.tmp hsz 3 rfl) (miss1 rfl (miss1 rfl (lkp_base b3))); clear hρ; (try dsimp only at hSw); go_simp; try with_reducible rfl)
   show wpOrd _ _ _ _ _ _ _ _
   refine ord_take (i := 5) (d := 29) (v := ?_) rfl rfl (wanted_none rfl) hHeld (fun ρ hρ w hSw => ?_) ?_
   rotate_left
   ·(have e28 := Eq.trans (hρ.tmp hsz 28 rfl) lkp_hit; clear hρ; (try dsimp only at hSw); have k1 := hSw.2; clear hSw; go_simp; try with_reducible rfl)
   show wpOrd _ _ _ _ _ _ _ _
   refine ord_take (i := 2) (d := 26) (v := ?_) rfl rfl (wanted_none rfl) hHeld (fun ρ hρ w hSw => ?_) ?_
   rotate_left
   ·(have hc := hρ.const; have e25 := Eq.trans (hρ.tmp hsz 25 rfl) (miss1 rfl (miss1 rfl lkp_hit)); clear hρ; (try dsimp only at hSw); go_simp; try with_reducible rfl)
   show wpOrd _ _ _ _ _ _ _ _
   refine ord_take (i := 6) (d := 30) (v := ?_) rfl rfl (wanted_none rfl) hHeld (fun ρ hρ w hSw => ?_) ?_
   rotate_left
   ·(have e29 := Eq.trans (hρ.tmp hsz 29 rfl) (miss1 rfl lkp_hit); clear hρ; (try dsimp only at hSw); go_simp; try with_reducible rfl)
   show wpOrd _ _ _ _ _ _ _ _
   refine ord_take (i := 3) (d := 27) (v := ?_) rfl rfl (wanted_none rfl) hHeld (fun ρ hρ w hSw => ?_) ?_
   rotate_left
   ·(have e24 := Eq.trans (hρ.tmp hsz 24 rfl) (miss4 rfl rfl rfl rfl (miss1 rfl lkp_hit)); have e26 := Eq.trans (hρ.tmp hsz 26 rfl) (miss1 rfl lkp_hit); clear hρ; (try dsimp only at hSw); go_simp; try with_reducible rfl)
   show wpOrd _ _ _ _ _ _ _ _
   refine ord_call (i := 7) (d := 31) (vs := ?_) rfl rfl rfl (wanted_none rfl) (fun ρ hρ => ?_) ?_ ?_
   rotate_left
   ·(have e27 := Eq.trans (hρ.tmp hsz 27 rfl) lkp_hit; have e30 := Eq.trans (hρ.tmp hsz 30 rfl) (miss1 rfl lkp_hit); simp only [List.map_toArray, List.map_cons, List.map_nil, e27, e30]; try with_reducible rfl)
   ·(intro w; go_simp)
   refine (rising_any (some ⟨bg, og, none⟩) (i + 1) cg w.heap.size (gs.take (i + 1)) nd wr.drew (HST.out.below (Below.refl w.heap.size wr).drew (Nat.le_refl _))).mono ?_
   rintro e w3 ⟨rfl, rfl⟩
   rw [HR.out]
   refine ⟨_, rfl, fun _ => ?_, fun hHeld' => ?_⟩
   ·exact HK0.out
   replace hHeld := hHeld' rfl
   clear hHeld'
   try dsimp only at hHeld
   show wpOrd _ _ _ _ _ _ _ _
   refine ord_take (i := 8) (d := 32) (v := ?_) rfl rfl (wanted_none rfl) hHeld (fun ρ hρ w hSw => ?_) ?_
   rotate_left
   ·(have e31 := Eq.trans (hρ.tmp hsz 31 rfl) lkp_hit; clear hρ; (try dsimp only at hSw); go_simp; try with_reducible rfl)
   show wpOrd _ _ _ _ _ _ _ _
   refine ord_take (i := 9) (d := 23) (v := ?_) rfl rfl (wanted_none rfl) hHeld (fun ρ hρ w hSw => ?_) ?_
   rotate_left
   ·(have e32 := Eq.trans (hρ.tmp hsz 32 rfl) lkp_hit; clear hρ; (try dsimp only at hSw); go_simp; try with_reducible rfl)
   show wpOrd _ _ _ _ _ _ _ _
   refine ord_done hn2 ?_
   clear hHeld hn2 b2 b8 b3 hsz A Q2
   simp only [puts_nil, puts_cons, put_lit, set_1, set_0]
   have k1 : wr.cell? ⟨w.heap.size, 1, none⟩ = some (.slice (some ⟨b0, off, none⟩) nd cd) := HK0.out.2
   have c1 := HC1.out
   have HK2 := Lib.hid (hk.out.below (Below.refl wr.heap.size wr).drew hk.out.lt)
   have HB2 := Lib.hid hb.out.drew
   clear hk hb HK0 HST HC1
   go_wp2_with fail
   clear k1 c1
   refine (gapz_any x.kind wr.drew).mono ?_
   rintro e w4 ⟨rfl, rfl⟩
   rw [HGB.out]
   go_wp2_with fail
   go_roundg (ng - (i + 1))
   case rel => exact ⟨i + 1, by go_num, by omega, rfl, HK2, HB2⟩
   case measure => omega
  ·obtain rfl : i = ng := by omega
   have hii : decide (i < i) = false := by simp
   go_wp2_with fail
   go_ret
   exact ⟨ret_int HER.out, hb.out⟩
end Go.Proofs.YtfaknfmndafllaaGreatDoor
