import Derived.Test.YtkkobemhbicjgaaGreatDoorD31
import Derived.Test.YtkkobemhbicjgaaGreatDoorD32
set_option maxRecDepth 100000
set_option maxHeartbeats 8000000
namespace Go.Proofs.YtkkobemhbicjgaaGreatDoor
open Go.RowKit
theorem chcheck_any (An Ad As Al Ap Ax : Option Addr) (nn cn nd cd n c nl cl np cp nx cx : Nat) (ns : List Nd) (ds : List Dv) (s : List Int) (ls : List Lk) (pr : List Int) (co : Int) (nm : ByteArray) (xs : List Sp) (w : World) (h : SmMem w An Ad As Al Ap Ax nn cn nd cd n c nl cl np cp nx cx ns ds s ls pr nm xs) :
 Calls Tryz.prog 46 #[.agg #[.slice An nn cn, .slice Ad nd cd], .slice As n c, .agg #[.int .i64 co, .slice Al nl cl, .slice Ap np cp], .agg #[.string nm, .slice Ax nx cx]] w fun e w' => e = .returned (.int .i64 (chErr ns ds s co ls pr nm xs)) ∧ Below w.heap.size w w' := by
 have HH := Lib.hid h
 have HB := Lib.hid (Bxp.new w #[.slice An nn cn, .slice Ad nd cd] #[.int .i64 co, .slice Al nl cl, .slice Ap np cp] #[.string nm, .slice Ax nx cx])
 have HE : Hid (chErr ns ds s co ls pr nm xs = if maskErr ns ds s ≠ 0 then maskErr ns ds s else if grErr ns ds co ls pr ≠ 0 then grErr ns ds co ls pr else pgErr ns ds nm xs) := rfl
 clear h
 go_enter Tryz.func46, Tryz.ntmps46
 go_upto_region 1 with (fail)
 generalize World.alloc (World.alloc (World.alloc w _) _) _ = W at *
 have HM := Lib.hid (HH.out.below HB.out.bl)
 have HC := Lib.hid (mcheckm_any An Ad As nn cn nd cd n c W.heap.size W.heap.size W.heap.size ns ds s W HM.out.h.la HM.out.h.hn HM.out.h.hd HM.out.h.hs (Nat.le_refl _) (Nat.le_refl _) (Nat.le_refl _) HM.out.h.sn HM.out.h.sd)
 have k0 := HB.out.bn.c0
 have k1 := HB.out.bn.c1
 go_wp2_with fail
 clear k0 k1
 refine HC.out.mono ?_
 rintro e w1 ⟨rfl, hb1⟩
 have HB1 := Lib.hid (HB.out.later hb1)
 have HM1 := Lib.hid (HM.out.below hb1)
 clear hb1 HB HM HC
 by_cases hc : maskErr ns ds s = 0; rotate_left
 ·have q1 : (maskErr ns ds s != 0) = true := by simpa using hc
  have HR : Hid (chErr ns ds s co ls pr nm xs = maskErr ns ds s) := by unfold Hid; rw [HE.out, if_pos hc]
  clear hc
  go_wp2_with fail
  go_ret
  exact ⟨ret_int (by rw [HR.out]), HB1.out.bl⟩
 have HE1 : Hid (chErr ns ds s co ls pr nm xs = if grErr ns ds co ls pr ≠ 0 then grErr ns ds co ls pr else pgErr ns ds nm xs) := by unfold Hid; rw [HE.out, if_neg (by simp [hc])]
 rw [hc]
 clear hc HE
 have HC := Lib.hid (gcheck_any An Ad As Al Ap nn cn nd cd n c nl cl np cp ns ds s ls pr co w1 HM1.out.h)
 have k0 := HB1.out.bn.c0
 have k1 := HB1.out.bn.c1
 have g0 := HB1.out.bg.c0
 have g1 := HB1.out.bg.c1
 have g2 := HB1.out.bg.c2
 go_wp2_with fail
 clear k0 k1 g0 g1 g2
 refine HC.out.mono ?_
 rintro e w2 ⟨rfl, hb2⟩
 have HB2 := Lib.hid (HB1.out.later hb2)
 have HM2 := Lib.hid (HM1.out.below hb2)
 clear hb2 HB1 HM1 HC
 by_cases hc : grErr ns ds co ls pr = 0; rotate_left
 ·have q1 : (grErr ns ds co ls pr != 0) = true := by simpa using hc
  have HR : Hid (chErr ns ds s co ls pr nm xs = grErr ns ds co ls pr) := by unfold Hid; rw [HE1.out, if_pos hc]
  clear hc
  go_wp2_with fail
  go_ret
  exact ⟨ret_int (by rw [HR.out]), HB2.out.bl⟩
 have HE2 : Hid (chErr ns ds s co ls pr nm xs = pgErr ns ds nm xs) := by unfold Hid; rw [HE1.out, if_neg (by simp [hc])]
 rw [hc]
 clear hc HE1
 have HC := Lib.hid (pgcheck_any An Ad Ax nn cn nd cd nx cx ns ds nm xs w2 ⟨HM2.out.h.hn, HM2.out.h.hd, HM2.out.x, HM2.out.h.la, HM2.out.h.sn, HM2.out.h.sd, HM2.out.m⟩)
 have k0 := HB2.out.bn.c0
 have k1 := HB2.out.bn.c1
 have p0 := HB2.out.bp.c0
 have p1 := HB2.out.bp.c1
 go_wp2_with fail
 clear k0 k1 p0 p1
 refine HC.out.mono ?_
 rintro e w3 ⟨rfl, hb3⟩
 go_wp2_with fail
 go_ret
 exact ⟨ret_int (by rw [HE2.out]), HB2.out.bl.trans (hb3.mono HB2.out.bl.size)⟩
structure So4 (x : Nat) (A1 A2 Al Ap : Option Addr) (n1 n2 nl np : Nat) : Prop where
 h : 0 < n1 → ∀ b off, A1 = some ⟨b, off, none⟩ → b ≠ x
 s : 0 < n2 → ∀ b off, A2 = some ⟨b, off, none⟩ → b ≠ x
 l : 0 < nl → ∀ b off, Al = some ⟨b, off, none⟩ → b ≠ x
 p : 0 < np → ∀ b off, Ap = some ⟨b, off, none⟩ → b ≠ x
theorem sl_new {w : World} {size n c x : Nat} {A : Option Addr} {xs : List Value} (h : Sl w w.heap.size size A n c xs) (hx : w.heap.size ≤ x) : 0 < n → ∀ b off, A = some ⟨b, off, none⟩ → b ≠ x := by
 intro hn b off e
 obtain ⟨b', off', e', hb, -⟩ := h.2.2.2.2 hn
 rw [e] at e'; injection e' with e'; injection e' with e1 e2
 omega
theorem So4.new {w : World} {A1 A2 Al Ap : Option Addr} {n1 c1 n2 c2 nl cl np cp x : Nat} {o : So} (h : SoAt w A1 A2 Al Ap n1 c1 n2 c2 nl cl np cp o) (hx : w.heap.size ≤ x) : So4 x A1 A2 Al Ap n1 n2 nl np := ⟨sl_new h.h hx, sl_new h.s hx, sl_new h.l hx, sl_new h.p hx⟩
theorem SoAt.st5 {w : World} {A1 A2 Al Ap : Option Addr} {n1 c1 n2 c2 nl cl np cp x : Nat} {o : So} {a b d e f : Value} (h : SoAt w A1 A2 Al Ap n1 c1 n2 c2 nl cl np cp o) (hx : So4 x A1 A2 Al Ap n1 n2 nl np) : SoAt (Go.Proofs.YtkkobemhbicjgaaGreatDoor.st5 w x a b d e f) A1 A2 Al Ap n1 c1 n2 c2 nl cl np cp o :=
 ⟨sl5n h.h hx.h, sl5n h.s hx.s, sl5n h.l hx.l, sl5n h.p hx.p⟩
end Go.Proofs.YtkkobemhbicjgaaGreatDoor
