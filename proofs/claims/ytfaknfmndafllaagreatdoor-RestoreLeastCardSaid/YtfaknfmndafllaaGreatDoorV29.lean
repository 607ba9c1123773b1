import Derived.Test.YtfaknfmndafllaaGreatDoorV05
import Derived.Test.YtfaknfmndafllaaGreatDoorV28
import Derived.Test.YtfaknfmndafllaaGreatDoorV21
import Derived.Test.YtfaknfmndafllaaGreatDoorV22
import Derived.Test.YtfaknfmndafllaaGreatDoorV04
import Derived.Test.YtfaknfmndafllaaGreatDoorV19
import Derived.Test.YtfaknfmndafllaaGreatDoorV26
import Derived.Test.YtfaknfmndafllaaGreatDoorShelf
set_option maxRecDepth 100000
set_option maxHeartbeats 8000000
namespace Go.Proofs.YtfaknfmndafllaaGreatDoor
open Go.RowKit
def grErr (ns : List Nd) (ds : List Dv) (co : Int) (ls : List Lk) (pr : List Int) : Int :=
 if co < 0 ∨ 7 < co then 5 else if locksErr ns ds ls ≠ 0 then locksErr ns ds ls else if risL ns.length (-1) pr = false then 7 else 0
noncomputable def hzD (ns : List Nd) (ds : List Dv) (s : List Int) (d p co : Int) (ls : List Lk) (pr : List Int) : List Int :=
 match ds[d.toNat]? with
 | some x => hzAt ns.length ns ds s d.toNat p co ls pr x
 | none => []
structure Fn where
 st : Int
 hz : Int
deriving DecidableEq
def Fn.cells (f : Fn) : List Value := [.int .i64 f.st, .int .i64 f.hz]
theorem stateErr_set {ns : List Nd} {ds : List Dv} {s : List Int} {i : Nat} {v : Int} (h : stateErr ns ds s = 0) (hv : v = 1 ∨ v = 2) : stateErr ns ds (s.set i v) = 0 := by
 unfold stateErr at h ⊢
 split at h
 ·next h1 => exact absurd h h1
 next h1 =>
 rw [if_neg h1]
 split at h
 ·cases h
 next h2 =>
 rw [if_neg (by simpa using h2)]
 split at h
 ·next h3 =>
  rw [if_pos]
  intro p hp
  rcases List.mem_or_eq_of_mem_set hp with hp | rfl
  ·exact h3 p hp
  ·unfold posB; rcases hv with rfl | rfl <;> simp
 ·cases h
theorem sm_locks {ns : List Nd} {ds : List Dv} {ls : List Lk} (hc : checkN ns ds = 0) (h : GoodL ds ls) : locksErr ns ds ls = 0 := by
 unfold locksErr
 rw [if_neg (by simp [hc])]
 rw [if_neg (by have := h.1; omega)]
 exact good_err h
theorem add_zero {ns : List Nd} {ds : List Dv} {ls : List Lk} {k : Lk} (h : addErr ns ds ls k = 0) : GoodL ds (insL k ls) := by
 unfold addErr at h
 split at h
 ·next h1 => exact absurd h h1
 next h1 =>
 split at h
 ·next h2 => exact absurd h h2
 next h2 =>
 split at h
 ·cases h
 next h3 =>
 split at h
 ·cases h
 next h4 =>
 split at h
 ·cases h
 next h5 =>
 have hg := locks_good (by simpa using h1)
 exact ins_good hg (by simpa using h2) (by simpa using h3) (by simpa using h4) (by have := hg.1; omega)
end Go.Proofs.YtfaknfmndafllaaGreatDoor
namespace Go.Proofs.YtfaknfmndafllaaGreatDoor
open Go.RowKit
theorem zset_any (A : Option Addr) (n c B : Nat) (l : List Int) (u : Int) (w : World) (hs : Sl w B 1 A n c (intsV l)) :
 Calls Tryz.prog 91 #[.slice A n c, .int .i64 u] w fun e w' => e = .returned (.bool (risL u (-1) l)) ∧ w = w' := by
 have HC := Lib.hid (rising_any A n c B l u w hs)
 go_enter Tryz.func91, Tryz.ntmps91
 go_wp2_with fail
 refine HC.out.mono ?_
 rintro e w1 ⟨rfl, rfl⟩
 go_wp2_with fail
 go_ret
 exact ⟨rfl, rfl⟩
structure Bxg (w : World) (nt gr : Array Value) (W : World) : Prop where
 bl : Below w.heap.size w W
 bn : Blk W w.heap.size 30 nt
 bg : Blk W (w.heap.size + 1) 40 gr
theorem Bxg.new (w : World) (nt gr : Array Value) : Bxg w nt gr ((w.alloc (.cells nt 30)).alloc (.cells gr 40)) :=
 ⟨((Below.refl _ _).alloc (Nat.le_refl _) _).alloc (by simp) _, (Blk.new _ _ _).alloc _, by have := Blk.new (w.alloc (.cells nt 30)) 40 gr; simpa using this⟩
theorem Bxg.later {w W W' : World} {nt gr : Array Value} (h : Bxg w nt gr W) (hb : Below W.heap.size W W') : Bxg w nt gr W' := ⟨h.bl.trans (hb.mono h.bl.size), h.bn.below hb h.bn.lt, h.bg.below hb h.bg.lt⟩
structure Bxp (w : World) (nt gr pg : Array Value) (W : World) : Prop where
 bl : Below w.heap.size w W
 bn : Blk W w.heap.size 30 nt
 bg : Blk W (w.heap.size + 1) 40 gr
 bp : Blk W (w.heap.size + 2) 50 pg
theorem Bxp.new (w : World) (nt gr pg : Array Value) : Bxp w nt gr pg (((w.alloc (.cells nt 30)).alloc (.cells gr 40)).alloc (.cells pg 50)) :=
 ⟨(((Below.refl _ _).alloc (Nat.le_refl _) _).alloc (by simp) _).alloc (by simp; omega) _, ((Blk.new _ _ _).alloc _).alloc _, by have := (Blk.new (w.alloc (.cells nt 30)) 40 gr).alloc (.cells pg 50); simpa using this,
  by have := Blk.new ((w.alloc (.cells nt 30)).alloc (.cells gr 40)) 50 pg; simpa using this⟩
theorem Bxp.later {w W W' : World} {nt gr pg : Array Value} (h : Bxp w nt gr pg W) (hb : Below W.heap.size W W') : Bxp w nt gr pg W' := ⟨h.bl.trans (hb.mono h.bl.size), h.bn.below hb h.bn.lt, h.bg.below hb h.bg.lt, h.bp.below hb h.bp.lt⟩
structure SmMem (w : World) (An Ad As Al Ap Ax : Option Addr) (nn cn nd cd n c nl cl np cp nx cx : Nat) (ns : List Nd) (ds : List Dv) (s : List Int) (ls : List Lk) (pr : List Int) (nm : ByteArray) (xs : List Sp) : Prop where
 h : HzMem w An Ad As Al Ap nn cn nd cd n c nl cl np cp ns ds s ls pr
 x : Sl w w.heap.size 5 Ax nx cx (xs.flatMap Sp.cells)
 m : nm.size ≤ 9223372036854775807
theorem SmMem.below {w W : World} {An Ad As Al Ap Ax : Option Addr} {nn cn nd cd n c nl cl np cp nx cx : Nat} {ns : List Nd} {ds : List Dv} {s : List Int} {ls : List Lk} {pr : List Int} {nm : ByteArray} {xs : List Sp} (h : SmMem w An Ad As Al Ap Ax nn cn nd cd n c nl cl np cp nx cx ns ds s ls pr nm xs) (hb : Below w.heap.size w W) : SmMem W An Ad As Al Ap Ax nn cn nd cd n c nl cl np cp nx cx ns ds s ls pr nm xs :=
 ⟨h.h.below hb, (h.x.below hb (Nat.le_refl _)).more hb.size, h.m⟩
theorem gcheck_any (An Ad As Al Ap : Option Addr) (nn cn nd cd n c nl cl np cp : Nat) (ns : List Nd) (ds : List Dv) (s : List Int) (ls : List Lk) (pr : List Int) (co : Int) (w : World) (h : HzMem w An Ad As Al Ap nn cn nd cd n c nl cl np cp ns ds s ls pr) :
 Calls Tryz.prog 50 #[.agg #[.slice An nn cn, .slice Ad nd cd], .agg #[.int .i64 co, .slice Al nl cl, .slice Ap np cp]] w fun e w' => e = .returned (.int .i64 (grErr ns ds co ls pr)) ∧ Below w.heap.size w w' := by
 have HH := Lib.hid h
 have HB := Lib.hid (Bxg.new w #[.slice An nn cn, .slice Ad nd cd] #[.int .i64 co, .slice Al nl cl, .slice Ap np cp])
 have hln : ns.length = nn := h.hn.len (fun _ => rfl) (by decide)
 have hnn := h.hn.le
 have HE : Hid (grErr ns ds co ls pr = if co < 0 ∨ 7 < co then 5 else if locksErr ns ds ls ≠ 0 then locksErr ns ds ls else if risL nn (-1) pr = false then 7 else 0) := by unfold Hid grErr; rw [hln]
 clear h
 by_cases h1 : co < 0
 ·have q1 : decide (co < 0) = true := by simpa using h1
  have HR : Hid (grErr ns ds co ls pr = 5) := by unfold Hid; rw [HE.out, if_pos (.inl h1)]
  clear h1 HE HH
  go_enter Tryz.func50, Tryz.ntmps50
  go_wp2_with fail
  go_ret
  exact ⟨ret_int (by rw [HR.out]), HB.out.bl⟩
 have q1 : decide (co < 0) = false := by simpa using h1
 by_cases h2 : 7 < co
 ·have q2 : decide (7 < co) = true := by simpa using h2
  have HR : Hid (grErr ns ds co ls pr = 5) := by unfold Hid; rw [HE.out, if_pos (.inr h2)]
  clear h1 h2 HE HH
  go_enter Tryz.func50, Tryz.ntmps50
  go_wp2_with fail
  go_ret
  exact ⟨ret_int (by rw [HR.out]), HB.out.bl⟩
 have q2 : decide (7 < co) = false := by simpa using h2
 have HE1 : Hid (grErr ns ds co ls pr = if locksErr ns ds ls ≠ 0 then locksErr ns ds ls else if risL nn (-1) pr = false then 7 else 0) := by unfold Hid; rw [HE.out, if_neg (by omega)]
 clear h1 h2 HE
 go_enter Tryz.func50, Tryz.ntmps50
 go_upto_region 3 with (fail)
 clear q1 q2
 generalize World.alloc (World.alloc w _) _ = W at *
 have HM := Lib.hid (HH.out.below HB.out.bl)
 have HC := Lib.hid (lcheck_any An Ad Al nn cn nd cd nl cl W.heap.size W.heap.size W.heap.size ns ds ls W HM.out.la HM.out.hn HM.out.hd HM.out.hl (Nat.le_refl _) (Nat.le_refl _) (Nat.le_refl _) HM.out.sn HM.out.sd)
 have k0 := HB.out.bn.c0
 have k1 := HB.out.bn.c1
 have g1 := HB.out.bg.c1
 go_wp2_with fail
 clear k0 k1 g1
 refine HC.out.mono ?_
 rintro e w1 ⟨rfl, hb1⟩
 have HB1 := Lib.hid (HB.out.later hb1)
 have HM1 := Lib.hid (HM.out.below hb1)
 clear hb1 HB HM HC
 by_cases hc : locksErr ns ds ls = 0; rotate_left
 ·have q1 : (locksErr ns ds ls != 0) = true := by simpa using hc
  have HR : Hid (grErr ns ds co ls pr = locksErr ns ds ls) := by unfold Hid; rw [HE1.out, if_pos hc]
  clear hc
  go_wp2_with fail
  go_ret
  exact ⟨ret_int (by rw [HR.out]), HB1.out.bl⟩
 have HE2 : Hid (grErr ns ds co ls pr = if risL nn (-1) pr = false then 7 else 0) := by unfold Hid; rw [HE1.out, if_neg (by simp [hc])]
 rw [hc]
 clear hc HE1
 have k0 := HB1.out.bn.c0
 have g2 := HB1.out.bg.c2
 have HZ := Lib.hid (zset_any Ap np cp w1.heap.size pr nn w1 HM1.out.hp)
 go_wp2_with fail
 clear k0 g2
 refine HZ.out.mono ?_
 rintro e w2 ⟨rfl, hw⟩
 have hb2 : Below w1.heap.size w1 w2 := by rw [← hw]; exact Below.refl _ _
 clear hw
 have HB2 := Lib.hid (HB1.out.later hb2)
 clear hb2 HB1 HM1 HZ
 rcases hr : risL nn (-1) pr with _ | _
 ·have HR : Hid (grErr ns ds co ls pr = 7) := by unfold Hid; rw [HE2.out, if_pos hr]
  clear hr
  go_wp2_with fail
  go_ret
  exact ⟨ret_int (by rw [HR.out]), HB2.out.bl⟩
 ·have HR : Hid (grErr ns ds co ls pr = 0) := by unfold Hid; rw [HE2.out, if_neg (by simp [hr])]
  clear hr
  go_wp2_with fail
  go_ret
  exact ⟨ret_int (by rw [HR.out]), HB2.out.bl⟩
end Go.Proofs.YtfaknfmndafllaaGreatDoor
namespace Go.Proofs.YtfaknfmndafllaaGreatDoor
open Go.RowKit
def opkB (k : Int) : Bool := decide (1 ≤ k) && decide (k ≤ 6) && !(k == 5)
theorem operable_any (k : Int) (w : World) : Calls Tryz.prog 113 #[.int .i64 k] w fun e w' => e = .returned (.bool (opkB k)) ∧ w = w' := by
 by_cases h1 : 1 ≤ k; rotate_left
 ·have q1 : decide (1 ≤ k) = false := by simpa using h1
  have HR : Hid (opkB k = false) := by unfold Hid opkB; rw [q1]; rfl
  go_enter Tryz.func113, Tryz.ntmps113
  go_wp2_with fail
  go_ret
  exact ⟨ret_bool HR.out.symm, rfl⟩
 have q1 : decide (1 ≤ k) = true := by simpa using h1
 by_cases h2 : k ≤ 6; rotate_left
 ·have q2 : decide (k ≤ 6) = false := by simpa using h2
  have HR : Hid (opkB k = false) := by unfold Hid opkB; rw [q1, q2]; rfl
  go_enter Tryz.func113, Tryz.ntmps113
  go_wp2_with fail
  go_ret
  exact ⟨ret_bool HR.out.symm, rfl⟩
 have q2 : decide (k ≤ 6) = true := by simpa using h2
 have HR : Hid (opkB k = !(k == 5)) := by unfold Hid opkB; rw [q1, q2]; rfl
 go_enter Tryz.func113, Tryz.ntmps113
 go_wp2_with fail
 go_ret
 exact ⟨ret_bool HR.out.symm, rfl⟩
def mvB (ls : List Lk) (co : Int) (x : Dv) (i : Nat) : Bool := !(x.kind == 5) && !(x.kind == 1) && (x.comp == co) && !lockB ls i
def mvS (ds : List Dv) (ls : List Lk) (co : Int) (n : Nat) : List Nat := (List.range n).filter fun i => match ds[i]? with | some x => mvB ls co x i | none => false
theorem mvS_len (ds : List Dv) (ls : List Lk) (co : Int) (n : Nat) : (mvS ds ls co n).length ≤ n := by
 have := List.length_filter_le (fun i => match ds[i]? with | some x => mvB ls co x i | none => false) (List.range n)
 rwa [List.length_range] at this
theorem mvS_next {ds : List Dv} {ls : List Lk} {co : Int} {n : Nat} {x : Dv} (h : ds[n]? = some x) : mvS ds ls co (n + 1) = mvS ds ls co n ++ if mvB ls co x n then [n] else [] := by
 unfold mvS
 rw [List.range_succ, List.filter_append]
 cases hb : mvB ls co x n <;> simp [h, hb]
def mvErr (ns : List Nd) (ds : List Dv) (co : Int) (ls : List Lk) (pr : List Int) : Int :=
 if checkN ns ds ≠ 0 then checkN ns ds else if grErr ns ds co ls pr ≠ 0 then grErr ns ds co ls pr else if 10 < (mvS ds ls co ds.length).length then 1 else 0
def MvPost (w : World) (ns : List Nd) (ds : List Dv) (co : Int) (ls : List Lk) (pr : List Int) (e : Ending) (w' : World) : Prop :=
 (mvErr ns ds co ls pr ≠ 0 ∧ e = .returned (.tuple #[.slice none 0 0, .int .i64 (mvErr ns ds co ls pr)]) ∨ mvErr ns ds co ls pr = 0 ∧ ∃ (A : Option Addr) (c : Nat), e = .returned (.tuple #[.slice A (mvS ds ls co ds.length).length c, .int .i64 0]) ∧ w'.ownsRow w.heap.size 3 1 (.slice A (mvS ds ls co ds.length).length c) (mvS ds ls co ds.length).length (natsV (mvS ds ls co ds.length))) ∧ Hid (Below w.heap.size w w')
def MvR (W : World) (ds : List Dv) (ls : List Lk) (co : Int) (nd : Nat) (gk : Nat) (v7 iv : Value) (wr : World) : Prop :=
 ∃ (k : Nat) (A : Option Addr) (c : Nat), v7 = .slice A (mvS ds ls co k).length c ∧ iv = .int .i64 k ∧ k ≤ nd ∧ gk = nd - k ∧ Hid (wr.ownsRow W.heap.size 3 1 (.slice A (mvS ds ls co k).length c) (mvS ds ls co k).length (natsV (mvS ds ls co k))) ∧ Hid (Below W.heap.size W wr)
theorem MvR.no {W wr : World} {ds : List Dv} {ls : List Lk} {co : Int} {nd k c : Nat} {A : Option Addr} {x : Dv} (hx : ds[k]? = some x) (hb : mvB ls co x k = false) (hk : k < nd) (ho : wr.ownsRow W.heap.size 3 1 (.slice A (mvS ds ls co k).length c) (mvS ds ls co k).length (natsV (mvS ds ls co k))) (hl : Below W.heap.size W wr) : MvR W ds ls co nd (nd - (k + 1)) (.slice A (mvS ds ls co k).length c) (.int .i64 ((k : Int) + 1)) wr := by
 have e : mvS ds ls co (k + 1) = mvS ds ls co k := by rw [mvS_next hx, hb]; simp
 refine ⟨k + 1, A, c, by rw [e], rfl, hk, rfl, ?_, hl⟩
 rw [e]; exact ho
theorem MvR.yes {W wr : World} {ds : List Dv} {ls : List Lk} {co : Int} {nd k c : Nat} {A : Option Addr} {x : Dv} (hx : ds[k]? = some x) (hb : mvB ls co x k = true) (hk : k < nd) (ho : wr.ownsRow W.heap.size 3 1 (.slice A ((mvS ds ls co k).length + 1) c) ((mvS ds ls co k).length + 1) (natsV (mvS ds ls co k) ++ [.int .i64 (k : Int)])) (hl : Below W.heap.size W wr) : MvR W ds ls co nd (nd - (k + 1)) (.slice A ((mvS ds ls co k).length + 1) c) (.int .i64 ((k : Int) + 1)) wr := by
 have e : mvS ds ls co (k + 1) = mvS ds ls co k ++ [k] := by rw [mvS_next hx, hb]; rfl
 have hl1 : (mvS ds ls co (k + 1)).length = (mvS ds ls co k).length + 1 := by rw [e]; simp
 refine ⟨k + 1, A, c, by rw [hl1], rfl, hk, rfl, ?_, hl⟩
 rw [hl1, e, show natsV (mvS ds ls co k ++ [k]) = natsV (mvS ds ls co k) ++ [.int .i64 (k : Int)] from by unfold natsV; rw [List.flatMap_append]; rfl]
 exact ho
theorem mvB_eq {k : Int} (h : 1 ≤ k ∧ k ≤ 6) : opkB k = !(k == 5) := by
 unfold opkB
 rw [show decide (1 ≤ k) = true by simpa using h.1, show decide (k ≤ 6) = true by simpa using h.2]; rfl
theorem moves_any (An Ad As Al Ap : Option Addr) (nn cn nd cd n c nl cl np cp : Nat) (ns : List Nd) (ds : List Dv) (s : List Int) (ls : List Lk) (pr : List Int) (co : Int) (w : World) (h : HzMem w An Ad As Al Ap nn cn nd cd n c nl cl np cp ns ds s ls pr) :
 Calls Tryz.prog 70 #[.agg #[.slice An nn cn, .slice Ad nd cd], .agg #[.int .i64 co, .slice Al nl cl, .slice Ap np cp]] w (MvPost w ns ds co ls pr) := by
 obtain ⟨hln, hld, hls⟩ := h.ln
 have HLD := Lib.hid hld
 have HH := Lib.hid h
 have HB := Lib.hid (Bxg.new w #[.slice An nn cn, .slice Ad nd cd] #[.int .i64 co, .slice Al nl cl, .slice Ap np cp])
 clear h hln hld hls
 have HME : Hid (mvErr ns ds co ls pr = if checkN ns ds ≠ 0 then checkN ns ds else if grErr ns ds co ls pr ≠ 0 then grErr ns ds co ls pr else if 10 < (mvS ds ls co nd).length then 1 else 0) := by unfold Hid mvErr; rw [HLD.out]
 go_enter Tryz.func70, Tryz.ntmps70
 go_upto_region 1 with (fail)
 generalize World.alloc (World.alloc w _) _ = W at *
 have HM := Lib.hid (HH.out.below HB.out.bl)
 have n0 := HB.out.bn.cell 0; have n1 := HB.out.bn.cell 1
 have HC := Lib.hid (ncheck_any An Ad nn cn nd cd W.heap.size W.heap.size ns ds W HM.out.la HM.out.hn HM.out.hd (Nat.le_refl _) (Nat.le_refl _) HM.out.sn HM.out.sd)
 go_wp2_with fail
 refine HC.out.mono ?_
 rintro e w1 ⟨rfl, hb1⟩
 have HB1 := Lib.hid (HB.out.later hb1)
 have HM1 := Lib.hid (HH.out.below HB1.out.bl)
 clear HC HB HM hb1 n0 n1 HH
 by_cases hc : checkN ns ds = 0; rotate_left
 ·have q1 : (checkN ns ds == 0) = false := by simpa using hc
  have q2 : (checkN ns ds != 0) = true := by simpa using hc
  have HE : Hid (mvErr ns ds co ls pr = checkN ns ds) := by unfold Hid; rw [HME.out, if_pos hc]
  have HC := Lib.hid hc
  clear hc HM1
  go_wp2_with fail
  go_ret2
  exact ⟨.inl ⟨by rw [HE.out]; exact HC.out, by rw [HE.out]; rfl⟩, HB1.out.bl⟩
 have q1 : (checkN ns ds == 0) = true := by simpa using hc
 have n0 := HB1.out.bn.cell 0; have n1 := HB1.out.bn.cell 1
 have g0 := HB1.out.bg.cell 0; have g1 := HB1.out.bg.cell 1; have g2 := HB1.out.bg.cell 2
 have HC := Lib.hid (gcheck_any An Ad As Al Ap nn cn nd cd n c nl cl np cp ns ds s ls pr co w1 HM1.out)
 have HNK := Lib.hid (NetOk.of hc)
 have HCC := Lib.hid hc
 clear hc
 go_wp2_with fail
 refine HC.out.mono ?_
 rintro e w2 ⟨rfl, hb2⟩
 have HB2 := Lib.hid (HB1.out.later hb2)
 have HM2 := Lib.hid (HM1.out.below hb2)
 clear HC HB1 HM1 hb2 n0 n1 g0 g1 g2
 by_cases hg : grErr ns ds co ls pr = 0; rotate_left
 ·have q2 : (grErr ns ds co ls pr != 0) = true := by simpa using hg
  have HE : Hid (mvErr ns ds co ls pr = grErr ns ds co ls pr) := by unfold Hid; rw [HME.out, if_neg (by rw [HCC.out]; simp), if_pos hg]
  have HC := Lib.hid hg
  clear hg HM2
  go_wp2_with fail
  go_ret2
  exact ⟨.inl ⟨by rw [HE.out]; exact HC.out, by rw [HE.out]; rfl⟩, HB2.out.bl⟩
 have q2 : (grErr ns ds co ls pr != 0) = false := by simpa using hg
 have n1 := HB2.out.bn.cell 1
 have HGG := Lib.hid hg
 clear hg
 have hnd : nd ≤ 64 := by have := HNK.out.dl; have := HLD.out; omega
 go_wp2_with fail
 clear n1 q1 q2
 refine wp_loop_u2 [(6, 0), (0, 2), (2, 1), (12, 0), (0, 3), (31, 1), (3, 0)] 7 24 (nd) (MvR w2 ds ls co nd) (by (try dsimp only [gt]); exact ⟨0, none, 0, rfl, rfl, Nat.zero_le _, rfl, World.ownsRow_nil _ _ _ _, Below.refl _ _⟩) (by kernel_rfl) ?_
 intro u1 p7 p24 gk wr a hrel ha J1 K1 hJ1 hK1
 dsimp only [relaxR, Go.Proofs.YtfaknfmndafllaaGreatDoor.v2, Nat.reduceAdd] at ha
 subst ha
 obtain ⟨k, A, c', rfl, rfl, hk, rfl, ho, hl⟩ := hrel
 have HO := Lib.hid ho.out; have HL := Lib.hid hl.out
 clear ho hl
 have hml := mvS_len ds ls co k
 by_cases hlt : k < nd; rotate_left
 ·have q1 : decide (k < nd) = false := by simpa using hlt
  obtain rfl : k = nd := by omega
  by_cases h10 : 10 < (mvS ds ls co k).length
  ·have q2 : decide ((10 : Int) < (mvS ds ls co k).length) = true := by simp; omega
   have HE : Hid (mvErr ns ds co ls pr = 1) := by unfold Hid; rw [HME.out, if_neg (by rw [HCC.out]; simp), if_neg (by rw [HGG.out]; simp), if_pos h10]
   have HL2 := Lib.hid (HB2.out.bl.trans (HL.out.mono HB2.out.bl.size))
   clear h10 HO
   go_wp2_with fail
   go_ret2
   exact ⟨.inl ⟨by rw [HE.out]; simp, by rw [HE.out]; rfl⟩, HL2.out⟩
  ·have q2 : decide ((10 : Int) < (mvS ds ls co k).length) = false := by simp; omega
   have HE : Hid (mvErr ns ds co ls pr = 0) := by unfold Hid; rw [HME.out, if_neg (by rw [HCC.out]; simp), if_neg (by rw [HGG.out]; simp), if_neg h10]
   have HL2 := Lib.hid (HB2.out.bl.trans (HL.out.mono HB2.out.bl.size))
   have HSZ := Lib.hid HB2.out.bl.size
   clear h10
   go_wp2_with fail
   go_ret2
   exact ⟨.inr ⟨HE.out, A, c', by rw [HLD.out]; rfl, by rw [HLD.out]; exact HO.out.mono HSZ.out⟩, HL2.out⟩
 have q1 : decide (k < nd) = true := by simpa using hlt
 have HLW := Lib.hid (HB2.out.bl.trans (HL.out.mono HB2.out.bl.size))
 obtain ⟨b2, o2, x, rfl, hb2, hx, hc2⟩ := (HM2.out.hd.below HL.out (Nat.le_refl _)).at (fun _ => rfl) (by decide) hlt
 have HX := Lib.hid hx
 have hkd := HNK.out.k x (List.mem_of_getElem? hx)
 obtain ⟨nm, kd, xa, xb, xc⟩ := x
 have u0 : wr.cell? ⟨b2, o2 + k * 5, none⟩ = some (.string nm) := hc2 0 _ rfl
 have u1 : wr.cell? ⟨b2, o2 + k * 5 + 1, none⟩ = some (.int .i64 kd) := hc2 1 _ rfl
 have u2 : wr.cell? ⟨b2, o2 + k * 5 + 2, none⟩ = some (.int .i64 xa) := hc2 2 _ rfl
 have u3 : wr.cell? ⟨b2, o2 + k * 5 + 3, none⟩ = some (.int .i64 xb) := hc2 3 _ rfl
 have u4 : wr.cell? ⟨b2, o2 + k * 5 + 4, none⟩ = some (.int .i64 xc) := hc2 4 _ rfl
 have hm1 : nd ≤ 9223372036854775807 := by omega
 have hkk : IntKind.i64.wrap ((k : Int) + 1) = (k : Int) + 1 := IntWalk.i64_in _ (by omega)
 clear hc2 hx
 go_upto_region 10 with (fail)
 clear u0 u1 u2 u3 u4 q1
 have HIB := Lib.hid ((Blk.new wr 3 #[.int .i64 (k : Int)]).alloc (.cells #[.string nm, .int .i64 kd, .int .i64 xa, .int .i64 xb, .int .i64 xc] 68))
 have HDB := Lib.hid (Blk.new (wr.alloc (.cells #[.int .i64 (k : Int)] 3)) 68 #[.string nm, .int .i64 kd, .int .i64 xa, .int .i64 xb, .int .i64 xc])
 rw [show (wr.alloc (.cells #[.int .i64 (k : Int)] 3)).heap.size = wr.heap.size + 1 by simp] at HDB
 have HBV : Hid (Below wr.heap.size wr ((wr.alloc (.cells #[.int .i64 (k : Int)] 3)).alloc (.cells #[.string nm, .int .i64 kd, .int .i64 xa, .int .i64 xb, .int .i64 xc] 68))) := ((Below.refl _ _).alloc (Nat.le_refl _) _).alloc (by simp) _
 generalize World.alloc (World.alloc wr _) _ = V at *
 have HOV := Lib.hid (own_later HO.out HBV.out)
 have HLV := Lib.hid (HL.out.trans (HBV.out.mono HL.out.size))
 have HBX := Lib.hid (HB2.out.later HLV.out)
 have HMV2 := Lib.hid (HM2.out.below HLV.out)
 have d1 := HDB.out.cell 1; have d4 := HDB.out.cell 4; have g0 := HBX.out.bg.cell 0; have g1 := HBX.out.bg.cell 1
 have HOP := Lib.hid (operable_any kd V)
 rw [mvB_eq hkd] at HOP
 have HMVE : Hid (mvB ls co ⟨nm, kd, xa, xb, xc⟩ k = (!(kd == 5) && !(kd == 1) && (xc == co) && !lockB ls k)) := rfl
 clear HO HL hkd
 by_cases h5 : kd = 5
 ·have q5 : (kd == 5) = true := by simpa using h5
  have HMV : Hid (mvB ls co ⟨nm, kd, xa, xb, xc⟩ k = false) := by unfold Hid; rw [HMVE.out, q5]; rfl
  clear h5 HMVE
  rw [q5] at HOP
  go_wp2_with fail
  refine HOP.out.mono ?_
  rintro e w3 ⟨rfl, rfl⟩
  go_wp2_with fail
  refine Handed.intro (nd - (k + 1)) (by omega) (hJ1 _ _ _ (LpI2.back 7 24 ?_ (by kernel_rfl)))
  dsimp only [gt]
  exact MvR.no HX.out HMV.out hlt HOV.out HLV.out
 have q5 : (kd == 5) = false := by simpa using h5
 rw [q5] at HOP
 by_cases h1 : kd = 1
 ·have q6 : (kd == 1) = true := by simpa using h1
  have q7 : (kd != 1) = false := by simpa using h1
  have HMV : Hid (mvB ls co ⟨nm, kd, xa, xb, xc⟩ k = false) := by unfold Hid; rw [HMVE.out, q5, q6]; rfl
  clear h1 h5 HMVE
  go_wp2_with fail
  refine HOP.out.mono ?_
  rintro e w3 ⟨rfl, rfl⟩
  go_wp2_with fail
  refine Handed.intro (nd - (k + 1)) (by omega) (hJ1 _ _ _ (LpI2.back 7 24 ?_ (by kernel_rfl)))
  dsimp only [gt]
  exact MvR.no HX.out HMV.out hlt HOV.out HLV.out
 have q6 : (kd == 1) = false := by simpa using h1
 have q7 : (kd != 1) = true := by simpa using h1
 by_cases hco : xc = co; rotate_left
 ·have q8 : (xc == co) = false := by simpa using hco
  have HMV : Hid (mvB ls co ⟨nm, kd, xa, xb, xc⟩ k = false) := by unfold Hid; rw [HMVE.out, q5, q6, q8]; rfl
  clear h1 h5 hco HMVE
  go_wp2_with fail
  refine HOP.out.mono ?_
  rintro e w3 ⟨rfl, rfl⟩
  go_wp2_with fail
  refine Handed.intro (nd - (k + 1)) (by omega) (hJ1 _ _ _ (LpI2.back 7 24 ?_ (by kernel_rfl)))
  dsimp only [gt]
  exact MvR.no HX.out HMV.out hlt HOV.out HLV.out
 have q8 : (xc == co) = true := by simpa using hco
 have HMVL : Hid (mvB ls co ⟨nm, kd, xa, xb, xc⟩ k = !lockB ls k) := by unfold Hid; rw [HMVE.out, q5, q6, q8]; rfl
 clear h1 h5 hco HMVE
 have HPL : Hid (PredL 115 #[.pointer (some ⟨wr.heap.size, 0, none⟩)] (fun y => decide (y.dev = (k : Int))) V) := by
  intro V2 y1 p1 q1 hb
  have hc : V2.cell? ⟨wr.heap.size, 0, none⟩ = some (.int .i64 (k : Int)) := (hb.cell (p := ⟨wr.heap.size, 0, none⟩) HIB.out.lt).trans (HIB.out.cell 0)
  have hBW : wr.heap.size < V2.heap.size := Nat.lt_of_lt_of_le HIB.out.lt hb.size
  have hne : wr.heap.size ≠ V2.heap.size := by omega
  have HBW : Hid (Below V.heap.size V (V2.alloc (.cells #[.int .i64 y1, .int .i64 p1, .int .i64 q1] 59))) := hb.alloc hb.size _
  clear hb
  show Calls Tryz.prog 115 #[.agg #[.int .i64 y1, .int .i64 p1, .int .i64 q1], .pointer (some ⟨wr.heap.size, 0, none⟩)] V2 _
  go_enter Tryz.func115, Tryz.ntmps115
  go_wp2_with fail
  go_ret
  exact ⟨ret_bool (by by_cases h : y1 = (k : Int) <;> simp [h]), HBW.out⟩
 have HCF := Lib.hid (contf_any 115 #[.pointer (some ⟨wr.heap.size, 0, none⟩)] (fun y => decide (y.dev = (k : Int))) (enters_of Tryz.func115 (by kernel_rfl) rfl) Al nl cl w2.heap.size ls V (HM2.out.hl.below HLV.out (Nat.le_refl _)) HLV.out.size HPL.out)
 clear HPL
 go_wp2_with fail
 refine HOP.out.mono ?_
 rintro e w3 ⟨rfl, rfl⟩
 go_wp2_with fail
 refine HCF.out.mono ?_
 rintro e w4 ⟨rfl, hb4⟩
 rw [show (ls.any fun y => decide (y.dev = (k : Int))) = lockB ls k from rfl]
 have HO4 := Lib.hid (own_later HOV.out hb4)
 have HL4 := Lib.hid (HLV.out.trans (hb4.mono HLV.out.size))
 have i0 := (HIB.out.below hb4 HIB.out.lt).c0
 clear HCF HOP hb4 HOV HLV d1 d4 g0 g1 HBX
 cases hlb : lockB ls (k : Int) with
 | true =>
  have HMV : Hid (mvB ls co ⟨nm, kd, xa, xb, xc⟩ k = false) := by unfold Hid; rw [HMVL.out, hlb]; rfl
  clear HMVL hlb
  go_wp2_with fail
  refine Handed.intro (nd - (k + 1)) (by omega) (hJ1 _ _ _ (LpI2.back 7 24 ?_ (by kernel_rfl)))
  dsimp only [gt]
  exact MvR.no HX.out HMV.out hlt HO4.out HL4.out
 | false =>
  have HMV : Hid (mvB ls co ⟨nm, kd, xa, xb, xc⟩ k = true) := by unfold Hid; rw [HMVL.out, hlb]; rfl
  clear HMVL hlb
  go_upto_region 13 with (at_builtin; go_must (refine wpList_app rfl (.tmp 52) (.tmp 54) rfl el_int (by rfl) (HO4.out.alloc _) (by rfl) (Sl.newest (n := 1) rfl rfl (by decide)) (by simp [Value.oneCell']) (by omega) (by omega) (by have := HL4.out.size; simp; omega) ?_; intro A5 c5 w5 hown5 hgr5 hat5; have HO5 := Lib.hid hown5; have HG5 := Lib.hid hgr5; clear hown5 hgr5 hat5))
  have HL5 := Lib.hid ((HL4.out.alloc HL4.out.size _).grown HG5.out (by have := HL4.out.size; simp; omega) fun g e => (HO4.out.lt g e).1)
  go_wp2_with fail
  refine Handed.intro (nd - (k + 1)) (by omega) (hJ1 _ _ _ (LpI2.back 7 24 ?_ (by kernel_rfl)))
  dsimp only [gt]
  exact MvR.yes HX.out HMV.out hlt HO5.out HL5.out
end Go.Proofs.YtfaknfmndafllaaGreatDoor
namespace Go.Proofs.YtfaknfmndafllaaGreatDoor
open Go.RowKit
theorem sl_getI {w : World} {B n c : Nat} {A : Option Addr} {l : List Int} (h : Sl w B 1 A n c (intsV l)) (hn : 0 < n) : ∃ b off, A = some ⟨b, off, none⟩ ∧ b < B ∧ ∀ j x, l[j]? = some x → w.cell? ⟨b, off + j, none⟩ = some (.int .i64 x) := by
 obtain ⟨b, off, e, hb, hc⟩ := h.2.2.2.2 hn
 exact ⟨b, off, e, hb, fun j x hx => hc j _ (by unfold intsV; rw [flat1_map, List.getElem?_map, hx]; rfl)⟩
theorem contR_any (R : Int → Prop) (g : Nat) (lb : Array Value) (p : Int → Bool) (eg : ∀ args w, (callFunc g args).run Tryz.prog w = .ok (.enter g args) w) (A : Option Addr) (n c B : Nat) (l : List Int) (w : World) (h : Sl w B 1 A n c (intsV l)) (hR : ∀ u ∈ l, R u)
 (hp : ∀ (W : World) (x : Int), R x → Below w.heap.size w W → FnGives Tryz.prog g lb #[.int .i64 x] (.bool (p x)) W) :
 Calls Tryz.prog 74 #[.slice A n c, .func (.func g) #[] lb] w fun e w' => e = .returned (.bool (l.any p)) ∧ ∃ q, w' = w.drewN q := by
 have hl : l.length = n := h.len (fun _ => rfl) (by decide)
 have hle := h.le
 rcases Nat.eq_zero_or_pos n with rfl | h0
 ·have : l = [] := List.eq_nil_of_length_eq_zero hl
  subst this
  refine (Tryz.slices_ContainsFunc_empty (α := Int) A c (.func (.func g) #[] lb) w).mono ?_
  rintro e w1 ⟨rfl, rfl⟩
  exact ⟨rfl, 0, rfl⟩
 ·obtain ⟨b, off, rfl, hb, hc⟩ := sl_getI h h0
  have hi : 0 < l.length := by omega
  haveI : Inhabited {u : Int // R u} := ⟨⟨l[0]'hi, hR _ (List.getElem_mem hi)⟩⟩
  refine (Tryz.slices_ContainsFunc (α := {u : Int // R u}) (fun x => Value.int .i64 x.1) (fun x => p x.1) g lb eg b off n c (l.pmap (fun u hu => ⟨u, hu⟩) hR) w (fun W x hb => hp W x.1 x.2 hb) (by rw [List.length_pmap]; omega) (by omega) (fun j hj => ?_)).mono ?_
  ·rw [List.length_pmap] at hj
   rw [hc j (l[j]'hj) (List.getElem?_eq_getElem hj)]
   congr 2
   simp [hj]
  ·rintro e w1 ⟨rfl, q, rfl⟩
   refine ⟨?_, q, rfl⟩
   rw [List.take_of_length_le (by rw [List.length_pmap]; omega)]
   congr 2
   rw [Bool.eq_iff_iff, List.any_eq_true, List.any_eq_true]
   constructor
   ·rintro ⟨x, hx, hpx⟩
    obtain ⟨u, hu, rfl⟩ := List.mem_pmap.1 hx
    exact ⟨u, hu, hpx⟩
   ·rintro ⟨u, hu, hpu⟩
    exact ⟨⟨u, hR u hu⟩, List.mem_pmap.2 ⟨u, hu, rfl⟩, hpu⟩
end Go.Proofs.YtfaknfmndafllaaGreatDoor
namespace Go.Proofs.YtfaknfmndafllaaGreatDoor
open Go.RowKit
def difB (ls : List Lk) (s : List Int) : Bool := ls.any fun k => !(s.getD k.dev.toNat 0 == k.pos)
theorem differs_any (Al Ap As : Option Addr) (nl cl np cp n c : Nat) (co : Int) (ls : List Lk) (s : List Int) (w : World) (hl : Sl w w.heap.size 3 Al nl cl (ls.flatMap Lk.cells)) (hs : Sl w w.heap.size 1 As n c (intsV s)) (hr : ∀ k ∈ ls, 0 ≤ k.dev ∧ k.dev < n) :
 Calls Tryz.prog 71 #[.agg #[.int .i64 co, .slice Al nl cl, .slice Ap np cp], .slice As n c] w fun e w' => e = .returned (.bool (difB ls s)) ∧ Below w.heap.size w w' := by
 have HBL : Hid (Below w.heap.size w ((w.alloc (.cells #[.int .i64 co, .slice Al nl cl, .slice Ap np cp] 40)).alloc (.cells #[.slice As n c] 22))) := ((Below.refl _ _).alloc (Nat.le_refl _) _).alloc (by simp) _
 have HBG := Lib.hid ((Blk.new w 40 #[.int .i64 co, .slice Al nl cl, .slice Ap np cp]).alloc (.cells #[.slice As n c] 22))
 have HBS := Lib.hid (Blk.new (w.alloc (.cells #[.int .i64 co, .slice Al nl cl, .slice Ap np cp] 40)) 22 #[.slice As n c])
 rw [show (w.alloc (.cells #[.int .i64 co, .slice Al nl cl, .slice Ap np cp] 40)).heap.size = w.heap.size + 1 by simp] at HBS
 have HL := Lib.hid hl; have HS := Lib.hid hs; have HR := Lib.hid hr
 clear hl hs hr
 go_enter Tryz.func71, Tryz.ntmps71
 go_upto_region 1 with (fail)
 generalize World.alloc (World.alloc w _) _ = W at *
 have HPM : Hid (PredM 116 #[.pointer (some ⟨w.heap.size + 1, 0, none⟩)] (fun k => !(s.getD k.dev.toNat 0 == k.pos)) ls W) := by
  intro V d p q hm hb
  obtain ⟨h0, h1⟩ := HR.out _ hm
  obtain ⟨k, rfl⟩ := Int.eq_ofNat_of_zero_le (show 0 ≤ d from h0)
  have hk : k < n := by have : ((k : Nat) : Int) < n := h1; omega
  have hsV := HS.out.below (HBL.out.trans (hb.mono HBL.out.size)) (Nat.le_refl _)
  have hsm := hsV.le
  obtain ⟨b, off, x, rfl, hb2, hx, hc⟩ := hsV.at1 hk
  have HE : Hid ((!(s.getD (k : Int).toNat 0 == p)) = !(x == p)) := by unfold Hid; rw [Int.toNat_natCast, List.getD_eq_getElem?_getD, hx]; rfl
  have s0 := (HBS.out.below hb HBS.out.lt).cell 0
  have hnn : n ≤ 9223372036854775807 := by omega
  have HV : Hid (Below W.heap.size W (V.alloc (.cells #[.int .i64 (k : Int), .int .i64 p, .int .i64 q] 59))) := hb.alloc hb.size _
  have s1 : (V.alloc (.cells #[.int .i64 (k : Int), .int .i64 p, .int .i64 q] 59)).cell? ⟨w.heap.size + 1, 0, none⟩ = some (.slice (some ⟨b, off, none⟩) n c) := ((HBS.out.below hb HBS.out.lt).alloc _).cell 0
  have hc1 : (V.alloc (.cells #[.int .i64 (k : Int), .int .i64 p, .int .i64 q] 59)).cell? ⟨b, off + k, none⟩ = some (.int .i64 x) := (World.cell?_alloc_lt V _ _ (by show b < V.heap.size; have := HBL.out.size; have := hb.size; omega)).trans hc
  show Calls Tryz.prog 116 #[.agg #[.int .i64 (k : Int), .int .i64 p, .int .i64 q], .pointer (some ⟨w.heap.size + 1, 0, none⟩)] V _
  dsimp only
  rw [HE.out]
  clear hx hc s0 hsV hm h0 h1 hb
  go_enter Tryz.func116, Tryz.ntmps116
  go_upto_region 1 with (fail)
  have HL0 := Blk.new V 59 #[.int .i64 (k : Int), .int .i64 p, .int .i64 q]
  have l0 := HL0.cell 0; have l1 := HL0.cell 1
  obtain ⟨g, hg⟩ : ∃ x, x = V.heap.size := ⟨_, rfl⟩
  rw [← hg] at l0 l1 ⊢
  clear hg HL0
  generalize World.alloc V _ = V2 at *
  go_quiet (fail)
  have HQ := Lib.hid fun q => below_drewN HV.out q
  generalize hq : World.drewN V2 _ = V3
  have HV3 : Hid (Below W.heap.size W V3) := by rw [← hq]; exact HQ.out _
  clear hq
  go_wp2_with fail
  go_ret
  exact ⟨rfl, HV3.out⟩
 have HC := Lib.hid (contm_any 116 #[.pointer (some ⟨w.heap.size + 1, 0, none⟩)] _ (enters_of Tryz.func116 (by kernel_rfl) rfl) Al nl cl w.heap.size ls W (HL.out.below HBL.out (Nat.le_refl _)) HBL.out.size HPM.out)
 have g1 := HBG.out.cell 1
 clear HPM
 go_wp2_with fail
 refine HC.out.mono ?_
 rintro e w1 ⟨rfl, hb1⟩
 have HB1 := Lib.hid (HBL.out.trans (hb1.mono HBL.out.size))
 go_wp2_with fail
 go_ret
 exact ⟨rfl, HB1.out⟩
theorem prob11_gives (Ab : Option Addr) (mb cb bb B : Nat) (l : List Int) (x : Int) (W : World) (hc : W.cell? ⟨bb, 0, none⟩ = some (.slice Ab mb cb)) (hs : Sl W B 1 Ab mb cb (intsV l)) :
 FnGives Tryz.prog 75 #[.pointer (some ⟨bb, 0, none⟩)] #[.int .i64 x] (.bool (!hasB l x)) W := by
 have HC := Lib.hid (contains_any Ab mb cb B l x W hs)
 show Calls Tryz.prog 75 #[.int .i64 x, .pointer (some ⟨bb, 0, none⟩)] W _
 clear hs
 go_enter Tryz.func75, Tryz.ntmps75
 go_wp2_with fail
 refine HC.out.mono ?_
 rintro e w1 ⟨rfl, rfl⟩
 go_wp2_with fail
 go_ret
 exact ⟨rfl, 0, rfl⟩
theorem perm_any (nb gb bb : Nat) (An Ad A Al Ap Ab : Option Addr) (nn cn nd cd n c nl cl np cp mb cb : Nat) (ns : List Nd) (ds : List Dv) (t : List Int) (ls : List Lk) (pr but : List Int) (d p co : Int) (x : Dv) (W : World) (h : HzMem W An Ad A Al Ap nn cn nd cd n c nl cl np cp ns ds t ls pr) (hN : Blk W nb 30 #[.slice An nn cn, .slice Ad nd cd]) (hG : Blk W gb 40 #[.int .i64 co, .slice Al nl cl, .slice Ap np cp]) (hB : Blk W bb 22 #[.slice Ab mb cb]) (hs : Sl W W.heap.size 1 Ab mb cb (intsV but)) (he : inErr ns ds t d p co = 0) (hx : ds[d.toNat]? = some x) :
 Calls Tryz.prog 72 #[.slice A n c, .agg #[.int .i64 d, .int .i64 p], .pointer (some ⟨nb, 0, none⟩), .pointer (some ⟨gb, 0, none⟩), .pointer (some ⟨bb, 0, none⟩)] W fun e W' => e = .returned (.bool ((hzAt ns.length ns ds t d.toNat p co ls pr x).all (hasB but))) ∧ Below W.heap.size W W' := by
 have HBL : Hid (Below W.heap.size W (W.alloc (.cells #[.int .i64 d, .int .i64 p] 62))) := (Below.refl _ _).alloc (Nat.le_refl _) _
 have HO := Lib.hid (Blk.new W 62 #[.int .i64 d, .int .i64 p])
 have HN := Lib.hid (hN.alloc (.cells #[.int .i64 d, .int .i64 p] 62)); have HGG := Lib.hid (hG.alloc (.cells #[.int .i64 d, .int .i64 p] 62)); have HBB := Lib.hid (hB.alloc (.cells #[.int .i64 d, .int .i64 p] 62))
 have HM := Lib.hid (h.below HBL.out)
 have HS := Lib.hid ((hs.below HBL.out (Nat.le_refl _)).more HBL.out.size)
 have HE := Lib.hid he; have HX := Lib.hid hx
 clear h hN hG hB hs he hx
 go_enter Tryz.func72, Tryz.ntmps72
 go_upto_region 1 with (fail)
 obtain ⟨ob, hob⟩ : ∃ x, x = W.heap.size := ⟨_, rfl⟩
 rw [← hob] at HO ⊢
 have HOB := Lib.hid hob
 clear hob
 generalize World.alloc W _ = V at *
 have n0 := HN.out.cell 0; have n1 := HN.out.cell 1; have o0 := HO.out.cell 0; have o1 := HO.out.cell 1; have g0 := HGG.out.cell 0; have g1 := HGG.out.cell 1; have g2 := HGG.out.cell 2
 have HC := Lib.hid (In_any An Ad A Al Ap nn cn nd cd n c nl cl np cp ns ds t ls pr d p co V HM.out)
 go_wp2_with fail
 refine HC.out.mono ?_
 rintro e w1 ⟨hpost, hb1⟩
 rcases hpost with ⟨h1, -⟩ | ⟨h1, Az, kz, cz, x', hx', rfl, hO⟩
 ·exact absurd HE.out h1
 have hxx : x' = x := by rw [HX.out] at hx'; injection hx' with hx'; exact hx'.symm
 subst hxx
 have HOZ := Lib.hid hO.out
 have HBL1 := Lib.hid (HBL.out.trans (hb1.out.mono HBL.out.size))
 have HBB1 := Lib.hid (HBB.out.below hb1.out HBB.out.lt)
 have HS1 := Lib.hid (HS.out.below hb1.out (Nat.le_refl _))
 have HSZ := Lib.hid hb1.out.size
 clear HC n0 n1 o0 o1 g0 g1 g2 h1 hx' hO hb1
 have hkz : kz ≤ 7 := by have := HOZ.out.len; have := hzAt_len ns.length ns ds t d.toNat p co ls pr x'; omega
 have HCF := Lib.hid (contR_any (fun _ => True) 75 #[.pointer (some ⟨bb, 0, none⟩)] (fun h => !hasB but h) (enters_of Tryz.func75 (by kernel_rfl) rfl) Az kz cz w1.heap.size (hzAt ns.length ns ds t d.toNat p co ls pr x') w1 HOZ.out.sl (fun _ _ => trivial)
  (fun V2 y _ hb => prob11_gives Ab mb cb bb V.heap.size but y V2 ((hb.cell (p := ⟨bb, 0, none⟩) HBB1.out.lt).trans (HBB1.out.cell 0)) (HS1.out.below hb HSZ.out)))
 go_wp2_with fail
 refine HCF.out.mono ?_
 rintro e w2 ⟨rfl, q, rfl⟩
 go_wp2_with fail
 go_ret
 refine ⟨?_, below_drewN HBL1.out q⟩
 rw [List.all_eq_not_any_not]; rfl
end Go.Proofs.YtfaknfmndafllaaGreatDoor
namespace Go.Proofs.YtfaknfmndafllaaGreatDoor
open Go.RowKit
noncomputable def permB (ns : List Nd) (ds : List Dv) (co : Int) (ls : List Lk) (pr but : List Int) (t : List Int) (d : Nat) : Bool := (hzD ns ds t d (3 - t.getD d 0) co ls pr).all (hasB but)
def mvF (ds : List Dv) (ls : List Lk) (co : Int) (i : Nat) : Nat := (mvS ds ls co ds.length).getD i 0
theorem mvS_srt (ds : List Dv) (ls : List Lk) (co : Int) (n : Nat) : (mvS ds ls co n).Pairwise (· < ·) := List.Pairwise.filter _ List.pairwise_lt_range
theorem mvF_at {ds : List Dv} {ls : List Lk} {co : Int} {i : Nat} (h : i < (mvS ds ls co ds.length).length) : (mvS ds ls co ds.length)[i]? = some (mvF ds ls co i) := by
 unfold mvF; rw [List.getD_eq_getElem?_getD, List.getElem?_eq_getElem h]; rfl
theorem mvF_asc (ds : List Dv) (ls : List Lk) (co : Int) : Asc (mvF ds ls co) (mvS ds ls co ds.length).length := fun i j hij hj => by
 have h1 := List.pairwise_iff_getElem.1 (mvS_srt ds ls co ds.length) i j (by omega) hj hij
 unfold mvF
 rw [List.getD_eq_getElem?_getD, List.getD_eq_getElem?_getD, List.getElem?_eq_getElem (by omega), List.getElem?_eq_getElem hj]
 exact h1
theorem mvF_lt {ds : List Dv} {ls : List Lk} {co : Int} {i : Nat} (h : i < (mvS ds ls co ds.length).length) : mvF ds ls co i < ds.length := by
 have := List.mem_of_getElem? (mvF_at h)
 unfold mvS at this
 exact List.mem_range.1 (List.mem_filter.1 this).1
theorem mvL_eq (ds : List Dv) (ls : List Lk) (co : Int) : natsV (mvS ds ls co ds.length) = intsV (mvL (mvS ds ls co ds.length).length (mvF ds ls co)) := by
 rw [natsV_int]
 congr 1
 unfold mvL lstF
 apply List.ext_getElem?
 intro i
 by_cases h : i < (mvS ds ls co ds.length).length
 ·rw [List.getElem?_map, mvF_at h]; simp [h]
 ·rw [List.getElem?_eq_none (by simp; omega), List.getElem?_eq_none (by simp; omega)]
def pbErr (ns : List Nd) (ds : List Dv) (s : List Int) (co : Int) (ls : List Lk) (pr : List Int) : Int :=
 if mvErr ns ds co ls pr ≠ 0 then mvErr ns ds co ls pr else if difB ls s = true then 18 else 0
theorem stateErr_pos {ns : List Nd} {ds : List Dv} {s : List Int} (h : stateErr ns ds s = 0) : PosL s := by
 unfold stateErr at h
 split at h
 ·next h1 => exact absurd h h1
 ·split at h
  ·cases h
  ·split at h
   ·next h3 =>
    intro x hx
    have := h3 x hx
    unfold posB at this
    rw [Bool.or_eq_true, decide_eq_true_eq, decide_eq_true_eq] at this
    omega
   ·cases h
theorem stateErr_tog {ns : List Nd} {ds : List Dv} {s : List Int} (h : stateErr ns ds s = 0) (d : Nat) : stateErr ns ds (tog s d) = 0 := by
 by_cases hd : d < s.length
 ·refine stateErr_set h ?_
  have hg : s[d]? = some (s.getD d 0) := by rw [List.getD_eq_getElem?_getD, List.getElem?_eq_getElem hd]; rfl
  have := (stateErr_pos h).get hg
  omega
 ·unfold tog
  rw [List.set_eq_of_length_le (by omega)]
  exact h
theorem stateErr_sb {ns : List Nd} {ds : List Dv} {s : List Int} (h : stateErr ns ds s = 0) (M : Nat → Nat) (b : Nat) : ∀ j, stateErr ns ds (sbN s M b j) = 0
 | 0 => h
 | j + 1 => by
  unfold sbN
  split
  ·exact stateErr_tog (stateErr_sb h M b j) _
  ·exact stateErr_sb h M b j
theorem grErr_co {ns : List Nd} {ds : List Dv} {co : Int} {ls : List Lk} {pr : List Int} (h : grErr ns ds co ls pr = 0) : (0 ≤ co ∧ co ≤ 7) ∧ locksErr ns ds ls = 0 := by
 unfold grErr at h
 split at h
 ·cases h
 ·next h1 =>
  split at h
  ·next h2 => exact absurd h h2
  ·next h2 => exact ⟨by omega, by simpa using h2⟩
theorem mvErr_ok {ns : List Nd} {ds : List Dv} {co : Int} {ls : List Lk} {pr : List Int} (h : mvErr ns ds co ls pr = 0) : checkN ns ds = 0 ∧ grErr ns ds co ls pr = 0 ∧ (mvS ds ls co ds.length).length ≤ 10 := by
 unfold mvErr at h
 split at h
 ·next h1 => exact absurd h h1
 ·next h1 =>
  split at h
  ·next h2 => exact absurd h h2
  ·next h2 =>
   split at h
   ·cases h
   ·next h3 => exact ⟨by simpa using h1, by simpa using h2, by omega⟩
theorem lks_good {ns : List Nd} {ds : List Dv} {ls : List Lk} (h : locksErr ns ds ls = 0) : GoodL ds ls := by
 unfold locksErr at h
 split at h
 ·next hc => exact absurd h hc
 ·split at h
  ·omega
  ·exact good_of (by omega) h
theorem lks_dev {ns : List Nd} {ds : List Dv} {ls : List Lk} (h : locksErr ns ds ls = 0) : ∀ k ∈ ls, 0 ≤ k.dev ∧ k.dev < ds.length := fun k hk => by
 have := (lks_good h).2.1 k hk
 unfold lkErr at this
 split at this
 ·cases this
 ·split at this
  ·cases this
  ·omega
structure PbX (W : World) (nb gb bb : Nat) (An Ad Al Ap Ab : Option Addr) (nn cn nd cd nl cl np cp mb cb : Nat) (co : Int) (but : List Int) : Prop where
 n : Blk W nb 30 #[.slice An nn cn, .slice Ad nd cd]
 g : Blk W gb 40 #[.int .i64 co, .slice Al nl cl, .slice Ap np cp]
 b : Blk W bb 22 #[.slice Ab mb cb]
 s : Sl W W.heap.size 1 Ab mb cb (intsV but)
theorem PbX.later {W V : World} {nb gb bb : Nat} {An Ad Al Ap Ab : Option Addr} {nn cn nd cd nl cl np cp mb cb : Nat} {co : Int} {but : List Int} (h : PbX W nb gb bb An Ad Al Ap Ab nn cn nd cd nl cl np cp mb cb co but) (hb : Below W.heap.size W V) : PbX V nb gb bb An Ad Al Ap Ab nn cn nd cd nl cl np cp mb cb co but :=
 ⟨h.n.below hb h.n.lt, h.g.below hb h.g.lt, h.b.below hb h.b.lt, (h.s.below hb (Nat.le_refl _)).more hb.size⟩
theorem perm_ok {w : World} {nb gb bb : Nat} {An Ad As Al Ap Ab : Option Addr} {nn cn nd cd n c nl cl np cp mb cb : Nat} {ns : List Nd} {ds : List Dv} {s : List Int} {ls : List Lk} {pr but : List Int} {co : Int} (hX : PbX w nb gb bb An Ad Al Ap Ab nn cn nd cd nl cl np cp mb cb co but) (hM : HzMem w An Ad As Al Ap nn cn nd cd n c nl cl np cp ns ds s ls pr) (h0 : stateErr ns ds s = 0) (hg : grErr ns ds co ls pr = 0) :
 PermC w 72 #[.pointer (some ⟨nb, 0, none⟩), .pointer (some ⟨gb, 0, none⟩), .pointer (some ⟨bb, 0, none⟩)] n (mvS ds ls co ds.length).length s (mvF ds ls co) (permB ns ds co ls pr but) := by
 intro W A cA b i hb hA _ hi
 have hlt := mvF_lt hi
 obtain ⟨x, hx⟩ : ∃ x, ds[mvF ds ls co i]? = some x := ⟨_, List.getElem?_eq_getElem hlt⟩
 have hst := stateErr_sb h0 (mvF ds ls co) b (mvS ds ls co ds.length).length
 have hMW := hM.below hb
 have hlen : (sbN s (mvF ds ls co) b (mvS ds ls co ds.length).length).length = n := hA.len (fun _ => rfl) (by decide)
 have hpos : 1 ≤ (sbN s (mvF ds ls co) b (mvS ds ls co ds.length).length).getD (mvF ds ls co i) 0 ∧ (sbN s (mvF ds ls co) b (mvS ds ls co ds.length).length).getD (mvF ds ls co i) 0 ≤ 2 := by
  refine (stateErr_pos hst).get (d := mvF ds ls co i) ?_
  have hl2 := (stateErr_net hst).2
  rw [List.getD_eq_getElem?_getD, List.getElem?_eq_getElem (by omega)]; rfl
 have hco := (grErr_co hg).1
 have hie : inErr ns ds (sbN s (mvF ds ls co) b (mvS ds ls co ds.length).length) (mvF ds ls co i : Int) (3 - (sbN s (mvF ds ls co) b (mvS ds ls co ds.length).length).getD (mvF ds ls co i) 0) co = 0 := by
  unfold inErr
  rw [if_pos hst]
  unfold hzErr
  rw [if_neg (by omega), if_neg (by omega), if_neg (by omega), if_neg (by omega), if_neg (by omega)]
 have := perm_any nb gb bb An Ad A Al Ap Ab nn cn nd cd n cA nl cl np cp mb cb ns ds _ ls pr but _ _ co x W ⟨hMW.hn, hMW.hd, hA, hMW.hl, hMW.hp, hMW.la, hMW.sn, hMW.sd⟩ (hX.n.below hb hX.n.lt) (hX.g.below hb hX.g.lt) (hX.b.below hb hX.b.lt) ((hX.s.below hb (Nat.le_refl _)).more hb.size) hie (by rw [Int.toNat_natCast]; exact hx)
 have e : permB ns ds co ls pr but (sbN s (mvF ds ls co) b (mvS ds ls co ds.length).length) (mvF ds ls co i) = (hzAt ns.length ns ds (sbN s (mvF ds ls co) b (mvS ds ls co ds.length).length) ((mvF ds ls co i : Int)).toNat (3 - (sbN s (mvF ds ls co) b (mvS ds ls co ds.length).length).getD (mvF ds ls co i) 0) co ls pr x).all (hasB but) := by
  unfold permB hzD
  rw [Int.toNat_natCast, hx]
 rw [e]
 exact this
def PbPost (w : World) (As : Option Addr) (n c : Nat) (ns : List Nd) (ds : List Dv) (s : List Int) (co : Int) (ls : List Lk) (pr but : List Int) (e : Ending) (w' : World) : Prop :=
 (pbErr ns ds s co ls pr ≠ 0 ∧ e = .returned (.tuple #[.agg #[.slice none 0 0, .slice none 0 0, .nilFunc], .int .i64 (pbErr ns ds s co ls pr)]) ∨ pbErr ns ds s co ls pr = 0 ∧ ∃ (nb gb bb cm : Nat) (Am : Option Addr), e = .returned (.tuple #[.agg #[.slice As n c, .slice Am (mvS ds ls co ds.length).length cm, .func (.func 72) #[] #[.pointer (some ⟨nb, 0, none⟩), .pointer (some ⟨gb, 0, none⟩), .pointer (some ⟨bb, 0, none⟩)]], .int .i64 0]) ∧ Hid (PermC w' 72 #[.pointer (some ⟨nb, 0, none⟩), .pointer (some ⟨gb, 0, none⟩), .pointer (some ⟨bb, 0, none⟩)] n (mvS ds ls co ds.length).length s (mvF ds ls co) (permB ns ds co ls pr but)) ∧ Hid (Sl w' w'.heap.size 1 Am (mvS ds ls co ds.length).length cm (intsV (mvL (mvS ds ls co ds.length).length (mvF ds ls co))))) ∧ Hid (Below w.heap.size w w')
theorem problem_any (An Ad As Al Ap Ab : Option Addr) (nn cn nd cd n c nl cl np cp mb cb : Nat) (ns : List Nd) (ds : List Dv) (s : List Int) (ls : List Lk) (pr but : List Int) (co : Int) (w : World) (h : HzMem w An Ad As Al Ap nn cn nd cd n c nl cl np cp ns ds s ls pr) (h0 : stateErr ns ds s = 0) (hB : Sl w w.heap.size 1 Ab mb cb (intsV but)) :
 Calls Tryz.prog 39 #[.agg #[.slice An nn cn, .slice Ad nd cd], .slice As n c, .agg #[.int .i64 co, .slice Al nl cl, .slice Ap np cp], .slice Ab mb cb] w (PbPost w As n c ns ds s co ls pr but) := by
 obtain ⟨hln, hld, hls⟩ := h.ln
 have HH := Lib.hid h; have HS0 := Lib.hid h0; have HBB := Lib.hid hB
 have HLN : Hid (s.length = n ∧ ds.length = nd ∧ n = nd) := ⟨hls, hld, by have := (stateErr_net h0).2; omega⟩
 clear h h0 hB hln hld hls
 have HME : Hid (pbErr ns ds s co ls pr = if mvErr ns ds co ls pr ≠ 0 then mvErr ns ds co ls pr else if difB ls s = true then 18 else 0) := rfl
 have HB := Lib.hid (((((Bxs.nil w).add rfl 30 #[.slice An nn cn, .slice Ad nd cd]).add (by simp) 40 #[.int .i64 co, .slice Al nl cl, .slice Ap np cp]).add (by simp) 22 #[.slice Ab mb cb]).add (by simp) 90 #[.slice none 0 0, .slice none 0 0, .nilFunc])
 dsimp only [List.nil_append, List.cons_append] at HB
 go_enter Tryz.func39, Tryz.ntmps39
 go_upto_region 1 with (fail)
 generalize World.alloc (World.alloc (World.alloc (World.alloc w _) _) _) _ = W at *
 have HM := Lib.hid (HH.out.below HB.out.l)
 have n0 := HB.out.b0.cell 0; have n1 := HB.out.b0.cell 1; have g0 := HB.out.b1.cell 0; have g1 := HB.out.b1.cell 1; have g2 := HB.out.b1.cell 2
 have HC := Lib.hid (moves_any An Ad As Al Ap nn cn nd cd n c nl cl np cp ns ds s ls pr co W HM.out)
 go_wp2_with fail
 refine HC.out.mono ?_
 rintro e w1 ⟨hmv, hb1⟩
 have HB1 := Lib.hid (HB.out.later hb1.out)
 have HM1 := Lib.hid (HM.out.below hb1.out)
 have HWW : Hid (w.heap.size + 3 < W.heap.size) := HB.out.b3.lt
 clear HC HB HM n0 n1 g0 g1 g2
 rcases hmv with ⟨h1, rfl⟩ | ⟨h1, Am, cm, rfl, hO⟩
 ·have q1 : (mvErr ns ds co ls pr != 0) = true := by simpa using h1
  have HE : Hid (pbErr ns ds s co ls pr = mvErr ns ds co ls pr) := by unfold Hid; rw [HME.out, if_pos h1]
  have HNE := Lib.hid h1
  clear h1
  have d0 := HB1.out.b3.cell 0; have d1 := HB1.out.b3.cell 1; have d2 := HB1.out.b3.cell 2
  have y0 := HB1.out.b3.frozen 0; have y1 := HB1.out.b3.frozen 1; have y2 := HB1.out.b3.frozen 2
  have HZ := Lib.hid (((HB1.out.b3.set 0 (.slice none 0 0)).set 1 (.slice none 0 0)).set 2 .nilFunc)
  have HLZ : Hid (Below w.heap.size w (((w1.setCell ⟨w.heap.size + 3, 0, none⟩ (.slice none 0 0)).setCell ⟨w.heap.size + 3, 1, none⟩ (.slice none 0 0)).setCell ⟨w.heap.size + 3, 2, none⟩ .nilFunc)) := ((HB1.out.l.setCell (by show w.heap.size ≤ w.heap.size + 3; omega) _).setCell (by show w.heap.size ≤ w.heap.size + 3; omega) _).setCell (by show w.heap.size ≤ w.heap.size + 3; omega) _
  go_wp2_with fail
  generalize World.setCell (World.setCell (World.setCell w1 _ _) _ _) _ _ = z at *
  have z0 := HZ.out.cell 0; have z1 := HZ.out.cell 1; have z2 := HZ.out.cell 2
  exact bodyPost_ret (v := .tuple #[.agg #[.slice none 0 0, .slice none 0 0, .nilFunc], .int .i64 (mvErr ns ds co ls pr)]) (by simp [results, Tryz.results39, go_sem, z0, z1, z2]) rfl ⟨.inl ⟨by rw [HE.out]; exact HNE.out, by rw [HE.out]⟩, HLZ.out⟩
 have HMV := Lib.hid h1
 have HO := Lib.hid hO
 have HWZ : Hid (w.heap.size + 3 < W.heap.size) := HWW.out
 obtain ⟨hck, hgr, hm10⟩ := mvErr_ok h1
 clear h1 hO
 have g0 := HB1.out.b1.cell 0; have g1 := HB1.out.b1.cell 1; have g2 := HB1.out.b1.cell 2
 have HGR := Lib.hid hgr
 have HLO := Lib.hid (lks_dev (grErr_co hgr).2)
 have HC := Lib.hid (differs_any Al Ap As nl cl np cp n c co ls s w1 HM1.out.hl HM1.out.hs (fun k hk => by have := HLO.out k hk; have := HLN.out; omega))
 go_wp2_with fail
 refine HC.out.mono ?_
 rintro e w2 ⟨rfl, hb2⟩
 have HB2 := Lib.hid (HB1.out.later hb2)
 have HM2 := Lib.hid (HM1.out.below hb2)
 have HO2 := Lib.hid (own_later HO.out hb2)
 clear HC g0 g1 g2 hb2 hck hgr HO HB1 HM1
 cases hdf : difB ls s with
 | true =>
  have HE : Hid (pbErr ns ds s co ls pr = 18) := by unfold Hid; rw [HME.out, if_neg (by rw [HMV.out]; simp), if_pos hdf]
  have HNE : Hid ((18 : Int) ≠ 0) := by unfold Hid; omega
  clear hdf
  have d0 := HB2.out.b3.cell 0; have d1 := HB2.out.b3.cell 1; have d2 := HB2.out.b3.cell 2
  have y0 := HB2.out.b3.frozen 0; have y1 := HB2.out.b3.frozen 1; have y2 := HB2.out.b3.frozen 2
  have HZ := Lib.hid (((HB2.out.b3.set 0 (.slice none 0 0)).set 1 (.slice none 0 0)).set 2 .nilFunc)
  have HLZ : Hid (Below w.heap.size w (((w2.setCell ⟨w.heap.size + 3, 0, none⟩ (.slice none 0 0)).setCell ⟨w.heap.size + 3, 1, none⟩ (.slice none 0 0)).setCell ⟨w.heap.size + 3, 2, none⟩ .nilFunc)) := ((HB2.out.l.setCell (by show w.heap.size ≤ w.heap.size + 3; omega) _).setCell (by show w.heap.size ≤ w.heap.size + 3; omega) _).setCell (by show w.heap.size ≤ w.heap.size + 3; omega) _
  go_wp2_with fail
  generalize World.setCell (World.setCell (World.setCell w2 _ _) _ _) _ _ = z at *
  have z0 := HZ.out.cell 0; have z1 := HZ.out.cell 1; have z2 := HZ.out.cell 2
  exact bodyPost_ret (v := .tuple #[.agg #[.slice none 0 0, .slice none 0 0, .nilFunc], .int .i64 18]) (by simp [results, Tryz.results39, go_sem, z0, z1, z2]) rfl ⟨.inl ⟨by rw [HE.out]; exact HNE.out, by rw [HE.out]⟩, HLZ.out⟩
 | false =>
  have HE : Hid (pbErr ns ds s co ls pr = 0) := by unfold Hid; rw [HME.out, if_neg (by rw [HMV.out]; simp), if_neg (by rw [hdf]; simp)]
  clear hdf
  have d0 := HB2.out.b3.cell 0; have d1 := HB2.out.b3.cell 1; have d2 := HB2.out.b3.cell 2
  have y0 := HB2.out.b3.frozen 0; have y1 := HB2.out.b3.frozen 1; have y2 := HB2.out.b3.frozen 2
  have HZ := Lib.hid (((HB2.out.b3.set 0 (.slice As n c)).set 1 (.slice Am (mvS ds ls co ds.length).length cm)).set 2 (.func (.func 72) #[] #[.pointer (some ⟨w.heap.size, 0, none⟩), .pointer (some ⟨w.heap.size + 1, 0, none⟩), .pointer (some ⟨w.heap.size + 2, 0, none⟩)]))
  have HBZ : Hid (Below w.heap.size w (((w2.setCell ⟨w.heap.size + 3, 0, none⟩ (.slice As n c)).setCell ⟨w.heap.size + 3, 1, none⟩ (.slice Am (mvS ds ls co ds.length).length cm)).setCell ⟨w.heap.size + 3, 2, none⟩ (.func (.func 72) #[] #[.pointer (some ⟨w.heap.size, 0, none⟩), .pointer (some ⟨w.heap.size + 1, 0, none⟩), .pointer (some ⟨w.heap.size + 2, 0, none⟩)]))) := ((HB2.out.l.setCell (by show w.heap.size ≤ w.heap.size + 3; omega) _).setCell (by show w.heap.size ≤ w.heap.size + 3; omega) _).setCell (by show w.heap.size ≤ w.heap.size + 3; omega) _
  have HX : Hid (PbX (((w2.setCell ⟨w.heap.size + 3, 0, none⟩ (.slice As n c)).setCell ⟨w.heap.size + 3, 1, none⟩ (.slice Am (mvS ds ls co ds.length).length cm)).setCell ⟨w.heap.size + 3, 2, none⟩ (.func (.func 72) #[] #[.pointer (some ⟨w.heap.size, 0, none⟩), .pointer (some ⟨w.heap.size + 1, 0, none⟩), .pointer (some ⟨w.heap.size + 2, 0, none⟩)])) w.heap.size (w.heap.size + 1) (w.heap.size + 2) An Ad Al Ap Ab nn cn nd cd nl cl np cp mb cb co but) :=
   ⟨((HB2.out.b0.far (p := ⟨w.heap.size + 3, 0, none⟩) (by show w.heap.size ≠ w.heap.size + 3; omega) _).far (p := ⟨w.heap.size + 3, 1, none⟩) (by show w.heap.size ≠ w.heap.size + 3; omega) _).far (p := ⟨w.heap.size + 3, 2, none⟩) (by show w.heap.size ≠ w.heap.size + 3; omega) _,
    ((HB2.out.b1.far (p := ⟨w.heap.size + 3, 0, none⟩) (by show w.heap.size + 1 ≠ w.heap.size + 3; omega) _).far (p := ⟨w.heap.size + 3, 1, none⟩) (by show w.heap.size + 1 ≠ w.heap.size + 3; omega) _).far (p := ⟨w.heap.size + 3, 2, none⟩) (by show w.heap.size + 1 ≠ w.heap.size + 3; omega) _,
    ((HB2.out.b2.far (p := ⟨w.heap.size + 3, 0, none⟩) (by show w.heap.size + 2 ≠ w.heap.size + 3; omega) _).far (p := ⟨w.heap.size + 3, 1, none⟩) (by show w.heap.size + 2 ≠ w.heap.size + 3; omega) _).far (p := ⟨w.heap.size + 3, 2, none⟩) (by show w.heap.size + 2 ≠ w.heap.size + 3; omega) _,
    (HBB.out.below HBZ.out (Nat.le_refl _)).more HBZ.out.size⟩
  have HMZ := Lib.hid (HH.out.below HBZ.out)
  have HOZ := Lib.hid (ownsRow_setCell_below (ownsRow_setCell_below (ownsRow_setCell_below HO2.out (a := ⟨w.heap.size + 3, 0, none⟩) (HWZ.out) (.slice As n c)) (a := ⟨w.heap.size + 3, 1, none⟩) (HWZ.out) (.slice Am (mvS ds ls co ds.length).length cm)) (a := ⟨w.heap.size + 3, 2, none⟩) (HWZ.out) (.func (.func 72) #[] #[.pointer (some ⟨w.heap.size, 0, none⟩), .pointer (some ⟨w.heap.size + 1, 0, none⟩), .pointer (some ⟨w.heap.size + 2, 0, none⟩)]))
  clear HO2
  go_wp2_with fail
  generalize World.setCell (World.setCell (World.setCell w2 _ _) _ _) _ _ = z at *
  have z0 := HZ.out.cell 0; have z1 := HZ.out.cell 1; have z2 := HZ.out.cell 2
  refine bodyPost_ret (v := .tuple #[.agg #[.slice As n c, (.slice Am (mvS ds ls co ds.length).length cm), (.func (.func 72) #[] #[.pointer (some ⟨w.heap.size, 0, none⟩), .pointer (some ⟨w.heap.size + 1, 0, none⟩), .pointer (some ⟨w.heap.size + 2, 0, none⟩)])], .int .i64 0]) (by simp [results, Tryz.results39, go_sem, z0, z1, z2]) rfl ⟨.inr ⟨HE.out, w.heap.size, w.heap.size + 1, w.heap.size + 2, cm, Am, rfl, perm_ok HX.out HMZ.out HS0.out HGR.out, ?_⟩, HBZ.out⟩
  have := Sl.of_own HOZ.out
  rwa [mvL_eq] at this
end Go.Proofs.YtfaknfmndafllaaGreatDoor
namespace Go.Proofs.YtfaknfmndafllaaGreatDoor
open Go.RowKit
def stsE (ns : List Nd) (ds : List Dv) (s t : List Int) : Int := if stateErr ns ds s ≠ 0 then stateErr ns ds s else stateErr ns ds t
theorem rstates_any (An Ad As At : Option Addr) (nn cn nd cd n c n2 c2 : Nat) (ns : List Nd) (ds : List Dv) (s t : List Int) (w : World) (hla : Laid w) (hn : Sl w w.heap.size 3 An nn cn (ns.flatMap Nd.cells)) (hd : Sl w w.heap.size 5 Ad nd cd (ds.flatMap Dv.cells)) (hs : Sl w w.heap.size 1 As n c (intsV s)) (ht : Sl w w.heap.size 1 At n2 c2 (intsV t)) (hsn : ∀ x ∈ ns, x.name.size ≤ 9223372036854775807) (hsd : ∀ x ∈ ds, x.name.size ≤ 9223372036854775807) :
 Calls Tryz.prog 38 #[.agg #[.slice An nn cn, .slice Ad nd cd], .slice As n c, .slice At n2 c2] w fun e w' => e = .returned (.int .i64 (stsE ns ds s t)) ∧ Below w.heap.size w w' := by
 have HBL : Hid (Below w.heap.size w (w.alloc (.cells #[.slice An nn cn, .slice Ad nd cd] 30))) := (Below.refl _ _).alloc (Nat.le_refl _) _
 have HB := Lib.hid (Blk.new w 30 #[.slice An nn cn, .slice Ad nd cd])
 have HN := Lib.hid hn; have HD := Lib.hid hd; have HS := Lib.hid hs; have HT := Lib.hid ht; have HLA := Lib.hid hla; have HSN := Lib.hid hsn; have HSD := Lib.hid hsd
 clear hla hn hd hs ht hsn hsd
 go_enter Tryz.func38, Tryz.ntmps38
 go_upto_region 1 with (fail)
 generalize World.alloc w _ = W at *
 have n0 := HB.out.cell 0; have n1 := HB.out.cell 1
 have HC := Lib.hid (mstate_any An Ad As nn cn nd cd n c w.heap.size w.heap.size w.heap.size ns ds s W (HLA.out.below HBL.out (Nat.le_refl _)) (HN.out.below HBL.out (Nat.le_refl _)) (HD.out.below HBL.out (Nat.le_refl _)) (HS.out.below HBL.out (Nat.le_refl _)) HBL.out.size HBL.out.size HBL.out.size HSN.out HSD.out)
 go_wp2_with fail
 refine HC.out.mono ?_
 rintro e w1 ⟨rfl, hb1⟩
 have HB1 := Lib.hid (HB.out.below hb1 HB.out.lt)
 have HL1 := Lib.hid (HBL.out.trans (hb1.mono HBL.out.size))
 clear HC HB HBL n0 n1 hb1
 by_cases h1 : stateErr ns ds s = 0; rotate_left
 ·have q1 : (stateErr ns ds s != 0) = true := by simpa using h1
  have HE : Hid (stsE ns ds s t = stateErr ns ds s) := by unfold Hid stsE; rw [if_pos h1]
  clear h1
  go_wp2_with fail
  go_ret
  exact ⟨by rw [HE.out]; rfl, HL1.out⟩
 have HE : Hid (stsE ns ds s t = stateErr ns ds t) := by unfold Hid stsE; rw [if_neg (by rw [h1]; simp)]
 have q1 : (stateErr ns ds s != 0) = false := by simpa using h1
 clear h1
 have n0 := HB1.out.cell 0; have n1 := HB1.out.cell 1
 have HC := Lib.hid (mstate_any An Ad At nn cn nd cd n2 c2 w.heap.size w.heap.size w.heap.size ns ds t w1 (HLA.out.below HL1.out (Nat.le_refl _)) (HN.out.below HL1.out (Nat.le_refl _)) (HD.out.below HL1.out (Nat.le_refl _)) (HT.out.below HL1.out (Nat.le_refl _)) HL1.out.size HL1.out.size HL1.out.size HSN.out HSD.out)
 go_wp2_with fail
 refine HC.out.mono ?_
 rintro e w2 ⟨rfl, hb2⟩
 have HL2 := Lib.hid (HL1.out.trans (hb2.mono HL1.out.size))
 clear HC n0 n1 hb2
 go_wp2_with fail
 go_ret
 exact ⟨by rw [HE.out]; rfl, HL2.out⟩
def srErr (ns : List Nd) (ds : List Dv) (s t : List Int) (co : Int) (ls : List Lk) (pr : List Int) : Int := if stsE ns ds s t ≠ 0 then stsE ns ds s t else pbErr ns ds s co ls pr
def goalT (t σ : List Int) : Option Int := if σ = t then some 0 else none
theorem pbErr_ok {ns : List Nd} {ds : List Dv} {s : List Int} {co : Int} {ls : List Lk} {pr : List Int} (h : pbErr ns ds s co ls pr = 0) : mvErr ns ds co ls pr = 0 := by
 unfold pbErr at h
 split at h
 ·next h1 => exact absurd h h1
 ·next h1 => simpa using h1
theorem goal_is {w : World} {At : Option Addr} {n c2 m : Nat} {s t : List Int} {M : Nat → Nat} (ht : Sl w w.heap.size 1 At n c2 (intsV t)) (hn : n ≤ 1000000) : GoalC w 40 #[.slice At n c2] #[] n m s M (goalT t) := by
 intro W A c b hb hA _
 refine (tgis_any A At n c c2 (sbN s M b m) t W hA ((ht.below hb (Nat.le_refl _)).more hb.size) hn).mono ?_
 rintro e w' ⟨rfl, h⟩
 refine ⟨⟨0, decide (sbN s M b m = t), rfl, ?_⟩, h⟩
 unfold goalT
 by_cases e : sbN s M b m = t <;> simp [e]
def SrcPost (w : World) (ns : List Nd) (ds : List Dv) (s t : List Int) (co : Int) (ls : List Lk) (pr : List Int) (e : Ending) (w' : World) : Prop :=
 ((srErr ns ds s t co ls pr ≠ 0 ∧ e = .returned (.tuple #[.slice none 0 0, .int .i64 (srErr ns ds s t co ls pr)])) ∨ (srErr ns ds s t co ls pr = 0 ∧ ((NoneIs (stS (permB ns ds co ls pr [5]) (mvF ds ls co) (mvS ds ls co ds.length).length) s (goalT t) ∧ e = .returned (.tuple #[.slice none 0 0, .int .i64 15])) ∨ ∃ (p : List Nat) (A : Option Addr) (c : Nat), SomeIs (stS (permB ns ds co ls pr [5]) (mvF ds ls co) (mvS ds ls co ds.length).length) s (goalT t) p ∧ p.length ≤ 1024 ∧ e = .returned (.tuple #[.slice A p.length c, .int .i64 0]) ∧ w'.ownsRow w.heap.size 62 2 (.slice A p.length c) p.length (opsV (opsP (mvF ds ls co) s p))))) ∧ Hid (Below w.heap.size w w')
theorem rsearch_any (An Ad As Al Ap At : Option Addr) (nn cn nd cd n c nl cl np cp n2 c2 : Nat) (ns : List Nd) (ds : List Dv) (s t : List Int) (ls : List Lk) (pr : List Int) (co : Int) (w : World) (h : HzMem w An Ad As Al Ap nn cn nd cd n c nl cl np cp ns ds s ls pr) (ht : Sl w w.heap.size 1 At n2 c2 (intsV t)) :
 Calls Tryz.prog 13 #[.agg #[.slice An nn cn, .slice Ad nd cd], .slice As n c, .agg #[.int .i64 co, .slice Al nl cl, .slice Ap np cp], .slice At n2 c2] w (SrcPost w ns ds s t co ls pr) := by
 obtain ⟨hln, hld, hls⟩ := h.ln
 have hlt := ht.len (fun _ => rfl) (by decide)
 have HH := Lib.hid h; have HT := Lib.hid ht
 have HLN : Hid (s.length = n ∧ ds.length = nd ∧ t.length = n2) := ⟨hls, hld, hlt⟩
 clear h ht hln hld hls hlt
 have HB := Lib.hid (Bxg.new w #[.slice An nn cn, .slice Ad nd cd] #[.int .i64 co, .slice Al nl cl, .slice Ap np cp])
 go_enter Tryz.func13, Tryz.ntmps13
 go_upto_region 1 with (fail)
 generalize World.alloc (World.alloc w _) _ = W at *
 have HM := Lib.hid (HH.out.below HB.out.bl)
 have n0 := HB.out.bn.cell 0; have n1 := HB.out.bn.cell 1
 have HC := Lib.hid (rstates_any An Ad As At nn cn nd cd n c n2 c2 ns ds s t W HM.out.la HM.out.hn HM.out.hd HM.out.hs ((HT.out.below HB.out.bl (Nat.le_refl _)).more HB.out.bl.size) HM.out.sn HM.out.sd)
 go_wp2_with fail
 refine HC.out.mono ?_
 rintro e w1 ⟨rfl, hb1⟩
 have HB1 := Lib.hid (HB.out.later hb1)
 clear HC HB HM hb1 n0 n1
 by_cases h1 : stsE ns ds s t = 0; rotate_left
 ·have q1 : (stsE ns ds s t != 0) = true := by simpa using h1
  have HE : Hid (srErr ns ds s t co ls pr = stsE ns ds s t) := by unfold Hid srErr; rw [if_pos h1]
  have HNE := Lib.hid h1
  clear h1
  go_wp2_with fail
  go_ret2
  exact ⟨.inl ⟨by rw [HE.out]; exact HNE.out, by rw [HE.out]; rfl⟩, HB1.out.bl⟩
 have HSE : Hid (srErr ns ds s t co ls pr = pbErr ns ds s co ls pr) := by unfold Hid srErr; rw [if_neg (by rw [h1]; simp)]
 have q1 : (stsE ns ds s t != 0) = false := by simpa using h1
 have HS0 : Hid (stateErr ns ds s = 0) := by
  unfold stsE at h1
  split at h1
  ·next h2 => exact absurd h1 h2
  ·next h2 => unfold Hid; simpa using h2
 have HT0 : Hid (stateErr ns ds t = 0) := by unfold stsE at h1; rw [if_neg (by rw [HS0.out]; simp)] at h1; exact h1
 clear h1
 have HLA1 : Hid (Below w.heap.size w (w1.alloc (.cells #[.int .i64 5] 3))) := HB1.out.bl.alloc HB1.out.bl.size _
 have HB2 := Lib.hid (HB1.out.later ((Below.refl _ _).alloc (Nat.le_refl _) (.cells #[.int .i64 5] 3)))
 have HM2 := Lib.hid (HH.out.below HLA1.out)
 have HBT : Hid (Sl (w1.alloc (.cells #[.int .i64 5] 3)) (w1.alloc (.cells #[.int .i64 5] 3)).heap.size 1 (some ⟨w1.heap.size, 0, none⟩) 1 1 (intsV [5])) := by
  have := Sl.newest (w := w1) (cs := #[.int .i64 5]) (T := 3) (fr := (0, 0)) (n := 1) (size := 1) rfl rfl (by decide)
  exact this.more (by simp)
 have HC := Lib.hid (problem_any An Ad As Al Ap (some ⟨w1.heap.size, 0, none⟩) nn cn nd cd n c nl cl np cp 1 1 ns ds s ls pr [5] co (w1.alloc (.cells #[.int .i64 5] 3)) HM2.out HS0.out HBT.out)
 have n0 := HB1.out.bn.cell 0; have n1 := HB1.out.bn.cell 1; have g0 := HB1.out.bg.cell 0; have g1 := HB1.out.bg.cell 1; have g2 := HB1.out.bg.cell 2
 go_wp2_with fail
 refine HC.out.mono ?_
 rintro e w3 ⟨hpb, hb3⟩
 clear HC n0 n1 g0 g1 g2 q1
 have HL3 := Lib.hid (HLA1.out.trans (hb3.out.mono HLA1.out.size))
 rcases hpb with ⟨h1, rfl⟩ | ⟨h1, nb, gb, bb, cm, Am, rfl, hP, hMv⟩
 ·have q1 : (pbErr ns ds s co ls pr != 0) = true := by simpa using h1
  have HNE := Lib.hid h1
  have HL4 := Lib.hid (HL3.out.alloc HL3.out.size (.cells #[.slice none 0 0, .slice none 0 0, .nilFunc] 90))
  clear h1 hb3 HB1 HB2 HM2 HBT HLA1
  go_wp2_with fail
  go_ret2
  exact ⟨.inl ⟨by rw [HSE.out]; exact HNE.out, by rw [HSE.out]; rfl⟩, HL4.out⟩
 have HSZ : Hid (srErr ns ds s t co ls pr = 0) := by unfold Hid; rw [HSE.out]; exact h1
 obtain ⟨hck, hgr, hm10⟩ := mvErr_ok (pbErr_ok h1)
 have hlens := (stateErr_net HT0.out).2
 have hlens2 := (stateErr_net HS0.out).2
 have hd64 := (NetOk.of hck).dl
 have hn2 : n = n2 := by have := HLN.out; omega
 have hn64 : n ≤ 64 := by have := HLN.out; omega
 have HMO : Hid (∀ i, i < (mvS ds ls co ds.length).length → mvF ds ls co i < n) := fun i hi => by have := mvF_lt hi; have := HLN.out; omega
 subst hn2
 have HLV := Lib.hid (HL3.out.alloc HL3.out.size (.cells #[.slice As n c, (.slice Am (mvS ds ls co ds.length).length cm), (.func (.func 72) #[] #[.pointer (some ⟨nb, 0, none⟩), .pointer (some ⟨gb, 0, none⟩), .pointer (some ⟨bb, 0, none⟩)])] 90))
 have HBV : Hid (Below w3.heap.size w3 (w3.alloc (.cells #[.slice As n c, (.slice Am (mvS ds ls co ds.length).length cm), (.func (.func 72) #[] #[.pointer (some ⟨nb, 0, none⟩), .pointer (some ⟨gb, 0, none⟩), .pointer (some ⟨bb, 0, none⟩)])] 90))) := (Below.refl _ _).alloc (Nat.le_refl _) _
 have HPX := Lib.hid (Blk.new w3 90 #[.slice As n c, (.slice Am (mvS ds ls co ds.length).length cm), (.func (.func 72) #[] #[.pointer (some ⟨nb, 0, none⟩), .pointer (some ⟨gb, 0, none⟩), .pointer (some ⟨bb, 0, none⟩)])])
 have HPC := Lib.hid (hP.out.later HBV.out)
 have HMC := Lib.hid ((hMv.out.below HBV.out (Nat.le_refl _)).more HBV.out.size)
 clear hP hMv hb3 HB1 HB2 HM2 HBT HLA1 HL3 HBV h1 hck hgr hlens hlens2 hd64
 go_upto_region 8 with (fail)
 obtain ⟨x, hx⟩ : ∃ x, x = w3.heap.size := ⟨_, rfl⟩
 rw [← hx] at HPX ⊢
 clear hx
 generalize World.alloc w3 _ = V at *
 have HMV := Lib.hid (HH.out.below HLV.out)
 have HTV := Lib.hid ((HT.out.below HLV.out (Nat.le_refl _)).more HLV.out.size)
 have HC := Lib.hid (ptfind_any 72 40 #[.pointer (some ⟨nb, 0, none⟩), .pointer (some ⟨gb, 0, none⟩), .pointer (some ⟨bb, 0, none⟩)] #[.slice At n c2] #[] As Am n c (mvS ds ls co ds.length).length cm s (mvF ds ls co) (permB ns ds co ls pr [5]) (goalT t) V HMV.out.hs HMC.out hn64 hm10 HMO.out (stateErr_pos HS0.out) (mvF_asc ds ls co).inj (enters_of Tryz.func72 (by kernel_rfl) rfl) (enters_of Tryz.func40 (by kernel_rfl) rfl) HPC.out (goal_is HTV.out (by omega)))
 have p0 := HPX.out.cell 0; have p1 := HPX.out.cell 1; have p2 := HPX.out.cell 2
 go_wp2_with fail
 refine HC.out.mono ?_
 rintro e w4 ⟨hf, hb4⟩
 have HL4 := Lib.hid (HLV.out.trans (hb4.out.mono HLV.out.size))
 have HSV := Lib.hid HLV.out.size
 clear HC p0 p1 p2 HPX HPC HMC HMV HTV hb4 HLV
 rcases hf with ⟨rfl, hno⟩ | ⟨p, A, cA, rfl, hso, hpl, hO⟩
 ·have HNO := Lib.hid hno
  clear hno
  go_wp2_with fail
  go_ret2
  exact ⟨.inr ⟨HSZ.out, .inl ⟨HNO.out, rfl⟩⟩, HL4.out⟩
 ·have HSO := Lib.hid hso
  have HPL : Hid (p.length ≤ 1024) := Nat.le_trans hpl (Nat.pow_le_pow_right (n := 2) (by decide) hm10)
  have HO := Lib.hid hO
  clear hso hpl hO
  go_wp2_with fail
  go_ret2
  exact ⟨.inr ⟨HSZ.out, .inr ⟨p, A, cA, HSO.out, HPL.out, rfl, HO.out.mono HSV.out⟩⟩, HL4.out⟩
end Go.Proofs.YtfaknfmndafllaaGreatDoor
namespace Go.Proofs.YtfaknfmndafllaaGreatDoor
theorem bay_chk : chkD 6 [nm2 [78] 5, nm2 [78] 4, nm2 [78] 3, nm2 [78] 2, nm2 [78] 1, nm2 [78] 0] (bayD ++ bayE 0) = 0 ∧ chkD 6 [nm2 [78] 5, nm2 [78] 4, nm2 [78] 3, nm2 [78] 2, nm2 [78] 1, nm2 [78] 0] (bayD ++ bayE 1) = 0 ∧ chkD 6 [nm2 [78] 5, nm2 [78] 4, nm2 [78] 3, nm2 [78] 2, nm2 [78] 1, nm2 [78] 0] (bayD ++ bayE 2) = 0 ∧ chkD 6 [nm2 [78] 5, nm2 [78] 4, nm2 [78] 3, nm2 [78] 2, nm2 [78] 1, nm2 [78] 0] (bayD ++ bayE 3) = 0 := ⟨by kernel_rfl, by kernel_rfl, by kernel_rfl, by kernel_rfl⟩
section
variable {ns : List Nd} {ds : List Dv} {s : List Int}
theorem bay_len (k : Nat) : (bayD ++ bayE k).length ≤ 9 := by
 rcases k with _ | _ | _ | k
 ·decide
 ·decide
 ·decide
 ·exact (by decide : (bayD ++ bayE 3).length ≤ 9)
theorem BayOk.dl (h : BayOk ns ds s) : ds.length ≤ 9 := by
 obtain ⟨k, rfl⟩ := h.dv
 exact bay_len k
theorem BayOk.check (h : BayOk ns ds s) : checkN ns ds = 0 := by
 have hdl := h.dl
 have hN := chkN_all (ns := ns) (fun i x hx => by
  obtain ⟨h1, h2, h3, h4, h5⟩ := h.nok i x hx
  have hi : i < ns.length := (List.getElem?_eq_some_iff.1 hx).1
  have := h.n6
  unfold ndErr
  rw [h1, toL_mk, if_neg (by rw [nm2_name 78 i (by decide) (by omega)]; simp), if_neg ?_, if_neg (by omega), if_neg (by simp [compB]; omega)]
  intro hm
  obtain ⟨k, y, hk, hy, he⟩ := mem_Un.1 hm
  rw [(h.nok k y hy).1, toL_mk] at he
  have := (nm2_inj (by omega) (by omega) rfl he).2
  omega) _ 0 rfl
 have hD : chkD ns.length (usedN [] ns) ds = 0 := by
  have hk := h.nok
  have h6 := h.n6
  obtain ⟨k, rfl⟩ := h.dv
  match ns, h6, hk with
  | [a, b, c, d, e, f], _, hk =>
   have ha := (hk 0 a rfl).1; have hb := (hk 1 b rfl).1; have hc := (hk 2 c rfl).1; have hd := (hk 3 d rfl).1; have he := (hk 4 e rfl).1; have hf := (hk 5 f rfl).1
   have hu : usedN [] [a, b, c, d, e, f] = [nm2 [78] 5, nm2 [78] 4, nm2 [78] 3, nm2 [78] 2, nm2 [78] 1, nm2 [78] 0] := by
    simp only [usedN, ha, hb, hc, hd, he, hf, toL_mk]
   rw [hu]
   show chkD 6 _ _ = 0
   rcases k with _ | _ | _ | k
   ·exact bay_chk.1
   ·exact bay_chk.2.1
   ·exact bay_chk.2.2.1
   ·exact bay_chk.2.2.2
 unfold checkN
 have h0 : chkN [] ns = 0 := hN
 rw [if_neg (by have := h.n6; omega), if_neg (by omega), if_pos h0]
 exact hD
theorem BayOk.state (h : BayOk ns ds s) : stateErr ns ds s = 0 := by
 unfold stateErr
 rw [if_neg (by rw [h.check]; simp), if_neg (by rw [h.sl]; simp), if_pos h.ps]
theorem BayOk.names (h : BayOk ns ds s) : (∀ x ∈ ns, x.name.size ≤ 9223372036854775807) ∧ ∀ x ∈ ds, x.name.size ≤ 9223372036854775807 := by
 refine ⟨fun x hx => ?_, fun x hx => ?_⟩
 ·obtain ⟨i, hi, rfl⟩ := List.getElem_of_mem hx
  rw [(h.nok i _ (List.getElem?_eq_getElem hi)).1, ← toL_len, toL_mk]
  simp [nm2]
 ·obtain ⟨k, rfl⟩ := h.dv
  have hall : ∀ x ∈ bayD ++ bayE k, x.name.size ≤ 100 := by
   rcases k with _ | _ | _ | k
   ·decide
   ·decide
   ·decide
   ·exact (by decide : ∀ x ∈ bayD ++ bayE 3, x.name.size ≤ 100)
  have := hall x hx
  omega
theorem BayOk.problem (h : BayOk ns ds s) {co : Int} {ls : List Lk} {pr : List Int} (hg : grErr ns ds co ls pr = 0) (hd : difB ls s = false) : pbErr ns ds s co ls pr = 0 := by
 have h1 : mvErr ns ds co ls pr = 0 := by
  unfold mvErr
  rw [if_neg (by rw [h.check]; simp), if_neg (by rw [hg]; simp), if_neg (by have := mvS_len ds ls co ds.length; have := h.dl; omega)]
 unfold pbErr
 rw [if_neg (by rw [h1]; simp), if_neg (by rw [hd]; simp)]
end
end Go.Proofs.YtfaknfmndafllaaGreatDoor
