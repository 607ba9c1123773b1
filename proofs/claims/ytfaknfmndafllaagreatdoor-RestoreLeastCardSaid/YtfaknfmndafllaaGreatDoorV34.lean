import Derived.Test.YtfaknfmndafllaaGreatDoorV30
import Derived.Test.YtfaknfmndafllaaGreatDoorV28
import Derived.Test.YtfaknfmndafllaaGreatDoorV33
import Derived.Test.YtfaknfmndafllaaGreatDoorV29
import Derived.Test.YtfaknfmndafllaaGreatDoorV17
import Derived.Test.YtfaknfmndafllaaGreatDoorV21
import Derived.Test.YtfaknfmndafllaaGreatDoorV03
import Derived.Test.YtfaknfmndafllaaGreatDoorV04
import Derived.Test.YtfaknfmndafllaaGreatDoorV19
import Derived.Test.YtfaknfmndafllaaGreatDoorV24
set_option maxRecDepth 100000
set_option maxHeartbeats 4000000
namespace Go.Proofs.YtfaknfmndafllaaGreatDoor
open Go.RowKit
end Go.Proofs.YtfaknfmndafllaaGreatDoor
namespace Go.Proofs.YtfaknfmndafllaaGreatDoor
open Go.RowKit
end Go.Proofs.YtfaknfmndafllaaGreatDoor
namespace Go.Proofs.YtfaknfmndafllaaGreatDoor
open Go.RowKit
end Go.Proofs.YtfaknfmndafllaaGreatDoor
namespace Go.Proofs.YtfaknfmndafllaaGreatDoor
open Go.RowKit
theorem nine {l : List Bool} (h : l.length = 9) : ∃ b0 b1 b2 b3 b4 b5 b6 b7 b8, l = [b0, b1, b2, b3, b4, b5, b6, b7, b8] := by
 rcases l with _ | ⟨b0, _ | ⟨b1, _ | ⟨b2, _ | ⟨b3, _ | ⟨b4, _ | ⟨b5, _ | ⟨b6, _ | ⟨b7, _ | ⟨b8, _ | ⟨b9, l⟩⟩⟩⟩⟩⟩⟩⟩⟩⟩
 all_goals first | exact ⟨_, _, _, _, _, _, _, _, _, rfl⟩ | (simp at h)
theorem rhz_ok {An Ad As Al Ap : Option Addr} {nn cn nd cd n c nl cl np cp : Nat} {ns : List Nd} {ds : List Dv} {s : List Int} {ls : List Lk} {pr : List Int} {w : World} (h : HzMem w An Ad As Al Ap nn cn nd cd n c nl cl np cp ns ds s ls pr) (h0 : stateErr ns ds s = 0) {d p co : Int} (he : hzErr nd d p co = 0) :
 ∃ x : Dv, ds[d.toNat]? = some x ∧ Calls Tryz.prog 81 #[.agg #[.slice An nn cn, .slice Ad nd cd], .slice As n c, .agg #[.int .i64 d, .int .i64 p], .agg #[.int .i64 co, .slice Al nl cl, .slice Ap np cp]] w fun e w' => ∃ b0 b1 b2 b3 b4 b5 b6 b7 b8, hzF nn ns ds s d.toNat p co ls pr x = [b0, b1, b2, b3, b4, b5, b6, b7, b8] ∧ e = .returned (.agg #[.bool b0, .bool b1, .bool b2, .bool b3, .bool b4, .bool b5, .bool b6, .bool b7, .bool b8]) ∧ Hid (Below w.heap.size w w') := by
 obtain ⟨h1, h2, h3⟩ := h.ln
 obtain ⟨hd, hp, _⟩ := hzErr_ok he
 obtain ⟨k, rfl⟩ := Int.eq_ofNat_of_zero_le hd.1
 have hk : k < ds.length := by omega
 have hx : ds[k]? = some (ds[k]'hk) := List.getElem?_eq_getElem hk
 refine ⟨_, hx, ?_⟩
 refine (rhz_any An Ad As Al Ap nn cn nd cd n c nl cl np cp k ns ds s ls pr p co _ w h h0 hx hp).mono ?_
 rintro e w' ⟨rfl, hb⟩
 obtain ⟨b0, b1, b2, b3, b4, b5, b6, b7, b8, hl⟩ := nine (hzF_len nn ns ds s k p co ls pr (ds[k]'hk))
 exact ⟨b0, b1, b2, b3, b4, b5, b6, b7, b8, hl, by rw [hl]; rfl, hb⟩
theorem rIn_any (An Ad As Al Ap : Option Addr) (nn cn nd cd n c nl cl np cp : Nat) (ns : List Nd) (ds : List Dv) (s : List Int) (ls : List Lk) (pr : List Int) (d p co : Int) (w : World) (h : HzMem w An Ad As Al Ap nn cn nd cd n c nl cl np cp ns ds s ls pr) :
 Calls Tryz.prog 42 #[.agg #[.slice An nn cn, .slice Ad nd cd], .slice As n c, .agg #[.int .i64 d, .int .i64 p], .agg #[.int .i64 co, .slice Al nl cl, .slice Ap np cp]] w (InPost w ns ds s d p co ls pr) := by
 obtain ⟨hln, hld, hls⟩ := h.ln
 have hndm := h.hd.le
 have HB := Lib.hid (Bx3.new w #[.slice An nn cn, .slice Ad nd cd] #[.int .i64 d, .int .i64 p] #[.int .i64 co, .slice Al nl cl, .slice Ap np cp])
 have HH := Lib.hid h
 clear h
 have HIE : Hid (inErr ns ds s d p co = if stateErr ns ds s = 0 then hzErr nd d p co else stateErr ns ds s) := by unfold Hid inErr; rw [hld]
 go_enter Tryz.func42, Tryz.ntmps42
 go_wp2_with fail
 generalize World.alloc (World.alloc (World.alloc w _) _) _ = W at *
 have HM := Lib.hid (HH.out.below HB.out.bl)
 have HC := Lib.hid (rstate_any An Ad As nn cn nd cd n c W.heap.size W.heap.size W.heap.size ns ds s W HM.out.hn HM.out.hd HM.out.hs (Nat.le_refl _) (Nat.le_refl _) (Nat.le_refl _) HM.out.sn HM.out.sd)
 refine HC.out.mono ?_
 rintro e w1 ⟨rfl, hb1⟩
 have HB1 := Lib.hid (HB.out.later hb1)
 clear hb1 HC HM HB
 by_cases h0 : stateErr ns ds s = 0; rotate_left
 ·have q : (stateErr ns ds s == 0) = false := by simpa using h0
  have q2 : (stateErr ns ds s != 0) = true := by simpa using h0
  have HR : Hid (inErr ns ds s d p co = stateErr ns ds s) := by unfold Hid; rw [HIE.out, if_neg h0]
  have H0 := Lib.hid h0
  clear h0 HIE
  go_wp2_with fail
  go_ret2
  exact ⟨.inl ⟨by rw [HR.out]; exact H0.out, by rw [HR.out]; rfl⟩, HB1.out.bl⟩
 have HR : Hid (inErr ns ds s d p co = hzErr nd d p co) := by unfold Hid; rw [HIE.out, if_pos h0]
 have H0 := Lib.hid h0
 clear HIE
 rw [h0]
 clear h0
 obtain ⟨⟨k0, k1⟩, ⟨o0, o1⟩, g0, g1, g2⟩ := HB1.out.cells
 go_wp2_with fail
 clear k0 k1 o0 o1 g0 g1 g2
 refine (hfault_any An Ad Al Ap nn cn nd cd nl cl np cp d p co w1 (by omega)).mono ?_
 rintro e w2 ⟨rfl, hb2⟩
 have HB2 := Lib.hid (HB1.out.later hb2)
 clear hb2 HB1
 by_cases he : hzErr nd d p co = 0; rotate_left
 ·have q : (hzErr nd d p co != 0) = true := by simpa using he
  have HE := Lib.hid he
  clear he
  go_wp2_with fail
  go_ret2
  exact ⟨.inl ⟨by rw [HR.out]; exact HE.out, by rw [HR.out]; rfl⟩, HB2.out.bl⟩
 have HE := Lib.hid he
 rw [he] at HR ⊢
 clear he
 obtain ⟨x, hx, hin⟩ := rhz_ok (HH.out.below HB2.out.bl) H0.out HE.out
 have HIN := Lib.hid hin; have HX := Lib.hid hx
 clear hin hx
 obtain ⟨⟨k0, k1⟩, ⟨o0, o1⟩, g0, g1, g2⟩ := HB2.out.cells
 go_wp2_with fail
 clear k0 k1 o0 o1 g0 g1 g2
 refine HIN.out.mono ?_
 rintro e w3 ⟨b0, b1, b2, b3, b4, b5, b6, b7, b8, hF, rfl, hb3⟩
 have HF := Lib.hid hF
 clear hF
 go_wp2_with fail
 refine (rlist_any b0 b1 b2 b3 b4 b5 b6 b7 b8 w3).mono ?_
 rintro e w4 ⟨A, ca, rfl, hO, hb4⟩
 rw [← HF.out, hzF_on] at hO ⊢
 have HB3 := Lib.hid (HB2.out.bl.trans (hb3.out.mono HB2.out.bl.size))
 go_wp2_with fail
 go_ret2
 exact ⟨.inr ⟨HR.out, A, _, ca, x, HX.out, rfl, by subst hln; exact hO.out.mono HB3.out.size⟩, HB3.out.trans (hb4.out.mono HB3.out.size)⟩
end Go.Proofs.YtfaknfmndafllaaGreatDoor
namespace Go.Proofs.YtfaknfmndafllaaGreatDoor
open Go.RowKit
theorem Sl.takeI {w : World} {B n c k : Nat} {A : Option Addr} {l : List Int} (h : Sl w B 1 A n c (intsV l)) (hk : k ≤ n) : Sl w B 1 A k c (intsV (l.take k)) := h.takeK (f := fun x => [.int .i64 x]) (fun _ => rfl) (by decide) hk
theorem Sl.dropI {w : World} {B n c k : Nat} {A : Option Addr} {l : List Int} (h : Sl w B 1 A n c (intsV l)) (hk : k ≤ n) : Sl w B 1 (cutA A c k) (n - k) (c - k) (intsV (l.drop k)) := by
 have := h.dropK (f := fun x => [.int .i64 x]) (fun _ => rfl) (by decide) hk
 unfold cutK at this; rw [Nat.mul_one] at this; exact this
end Go.Proofs.YtfaknfmndafllaaGreatDoor
namespace Go.Proofs.YtfaknfmndafllaaGreatDoor
open Go.RowKit
def nsC : List Nd := [⟨⟨#[65]⟩, 0, 0⟩]
def dsC : List Dv := [⟨⟨#[83]⟩, 5, 0, -1, 0⟩, ⟨⟨#[69]⟩, 4, 0, -1, 0⟩]
structure AwC (w wr : World) : Prop where
 bn : Blk wr (w.heap.size + 1 + 1) 30 #[.slice (some ⟨w.heap.size, 0, none⟩) 1 1, .slice (some ⟨w.heap.size + 1, 0, none⟩) 2 2]
 sn : Sl wr (w.heap.size + 1) 3 (some ⟨w.heap.size, 0, none⟩) 1 1 (nsC.flatMap Nd.cells)
 sd : Sl wr (w.heap.size + 1 + 1) 5 (some ⟨w.heap.size + 1, 0, none⟩) 2 2 (dsC.flatMap Dv.cells)
 bl : Below w.heap.size w wr
 la : Laid wr
 sz : w.heap.size + 3 ≤ wr.heap.size
theorem AwC.later {w wr wr' : World} (h : AwC w wr) (hb : Below wr.heap.size wr wr') : AwC w wr' :=
 ⟨h.bn.below hb h.bn.lt, h.sn.below hb (by have := h.sz; omega), h.sd.below hb (by have := h.sz; omega), h.bl.trans (hb.mono h.bl.size), h.la.below hb (Nat.le_refl _), Nat.le_trans h.sz hb.size⟩
theorem AwC.mk0 (w : World) (hl : Laid w) : AwC w (((w.alloc (.cells #[.string ⟨#[65]⟩, .int .i64 0, .int .i64 0] 80)).alloc (.cells #[.string ⟨#[83]⟩, .int .i64 5, .int .i64 0, .int .i64 (-1), .int .i64 0, .string ⟨#[69]⟩, .int .i64 4, .int .i64 0, .int .i64 (-1), .int .i64 0] 68)).alloc (.cells #[.slice (some ⟨w.heap.size, 0, none⟩) 1 1, .slice (some ⟨w.heap.size + 1, 0, none⟩) 2 2] 30)) := by
 refine ⟨?_, ?_, ?_, ?_, ((hl.alloc _).alloc _).alloc _, by simp⟩
 ·have := Blk.new ((w.alloc (.cells #[.string ⟨#[65]⟩, .int .i64 0, .int .i64 0] 80)).alloc (.cells #[.string ⟨#[83]⟩, .int .i64 5, .int .i64 0, .int .i64 (-1), .int .i64 0, .string ⟨#[69]⟩, .int .i64 4, .int .i64 0, .int .i64 (-1), .int .i64 0] 68)) 30 #[.slice (some ⟨w.heap.size, 0, none⟩) 1 1, .slice (some ⟨w.heap.size + 1, 0, none⟩) 2 2]
  simpa using this
 ·refine Sl.alloc (Sl.alloc ?_ (by simp) _) (by simp) _
  exact Sl.newest (n := 1) (size := 3) rfl rfl (by decide)
 ·refine Sl.alloc ?_ (by simp) _
  exact Sl.newest (n := 2) (size := 5) (by simp) rfl (by decide)
 ·exact (((Below.refl _ _).alloc (Nat.le_refl _) _).alloc (by simp) _).alloc (by simp; omega) _
end Go.Proofs.YtfaknfmndafllaaGreatDoor
namespace Go.Proofs.YtfaknfmndafllaaGreatDoor
open Go.RowKit
end Go.Proofs.YtfaknfmndafllaaGreatDoor
namespace Go.Proofs.YtfaknfmndafllaaGreatDoor
open Go.RowKit
def FaIn (C : List Int) (v : Nat) (out : List Int) : Prop := out.length ≤ v ∧ ∀ x : Int, x ∈ out ↔ ∃ k : Nat, k < v ∧ x = k ∧ C.getD k 0 = 3
theorem FaIn.start (C : List Int) : FaIn C 0 [] := ⟨Nat.le_refl _, fun x => ⟨(fun h => by cases h), (fun ⟨k, hk, _⟩ => by omega)⟩⟩
theorem FaIn.pass {C out : List Int} {v : Nat} (h : FaIn C v out) (hn : C.getD v 0 ≠ 3) : FaIn C (v + 1) out := by
 refine ⟨by have := h.1; omega, fun x => (h.2 x).trans ⟨?_, ?_⟩⟩
 ·rintro ⟨k, hk, r⟩; exact ⟨k, by omega, r⟩
 ·rintro ⟨k, hk, e, hc⟩
  rcases Nat.lt_succ_iff_lt_or_eq.1 hk with hk | rfl
  ·exact ⟨k, hk, e, hc⟩
  ·exact absurd hc hn
theorem FaIn.put {C out : List Int} {v : Nat} (h : FaIn C v out) (hc : C.getD v 0 = 3) : FaIn C (v + 1) (out ++ [(v : Int)]) := by
 refine ⟨by have := h.1; simp; omega, fun x => ?_⟩
 rw [List.mem_append, h.2 x, List.mem_singleton]
 constructor
 ·rintro (⟨k, hk, r⟩ | rfl)
  ·exact ⟨k, by omega, r⟩
  ·exact ⟨v, by omega, rfl, hc⟩
 ·rintro ⟨k, hk, e, r⟩
  rcases Nat.lt_succ_iff_lt_or_eq.1 hk with hk | rfl
  ·exact .inl ⟨k, hk, e, r⟩
  ·exact .inr e
section
variable {nn : Nat} {ns : List Nd} {ds : List Dv} {s s' m : List Int} {x : Dv} {i : Nat}
end
end Go.Proofs.YtfaknfmndafllaaGreatDoor
