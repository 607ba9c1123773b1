import Derived.Test.YtddddlhgaeameaaGreatDoorM45
set_option maxRecDepth 100000
set_option maxHeartbeats 4000000
namespace Go.Proofs.YtddddlhgaeameaaGreatDoor
section
open Go.RowKit
end
section
open Go.RowKit
end
section
open Go.RowKit
theorem nine {l : List Bool} (h : l.length = 9) : ∃ b0 b1 b2 b3 b4 b5 b6 b7 b8, l = [b0, b1, b2, b3, b4, b5, b6, b7, b8] := by
 rcases l with _ | ⟨b0, _ | ⟨b1, _ | ⟨b2, _ | ⟨b3, _ | ⟨b4, _ | ⟨b5, _ | ⟨b6, _ | ⟨b7, _ | ⟨b8, _ | ⟨b9, l⟩⟩⟩⟩⟩⟩⟩⟩⟩⟩
 all_goals first | exact ⟨_, _, _, _, _, _, _, _, _, rfl⟩ | (simp at h)
theorem jc {An Ad As Al Ap : Option Addr} {nn cn nd cd n c nl cl np cp : Nat} {ns : List Nd} {ds : List Dv} {s : List Int} {ls : List Lk} {pr : List Int} {w : World} (h : yp w An Ad As Al Ap nn cn nd cd n c nl cl np cp ns ds s ls pr) (h0 : zL ns ds s = 0) {d p co : Int} (he : yo nd d p co = 0) :
 ∃ x : Dv, ds[d.toNat]? = some x ∧ Calls Tryz.prog 50 #[.agg #[.slice An nn cn, .slice Ad nd cd], .slice As n c, .agg #[.int .i64 d, .int .i64 p], .agg #[.int .i64 co, .slice Al nl cl, .slice Ap np cp]] w fun e w' => ∃ b0 b1 b2 b3 b4 b5 b6 b7 b8, hzF nn ns ds s d.toNat p co ls pr x = [b0, b1, b2, b3, b4, b5, b6, b7, b8] ∧ e = .returned (.agg #[.bool b0, .bool b1, .bool b2, .bool b3, .bool b4, .bool b5, .bool b6, .bool b7, .bool b8]) ∧ Hid (Below w.heap.size w w') := by
 obtain ⟨h1, h2, h3⟩ := h.ln
 obtain ⟨hd, hp, _⟩ := py he
 obtain ⟨k, rfl⟩ := Int.eq_ofNat_of_zero_le hd.1
 have hk : k < ds.length := by omega
 have hx : ds[k]? = some (ds[k]'hk) := List.getElem?_eq_getElem hk
 refine ⟨_, hx, ?_⟩
 refine (kq An Ad As Al Ap nn cn nd cd n c nl cl np cp k ns ds s ls pr p co _ w h h0 hx hp).mono ?_
 rintro e w' ⟨rfl, hb⟩
 obtain ⟨b0, b1, b2, b3, b4, b5, b6, b7, b8, hl⟩ := nine (jF nn ns ds s k p co ls pr (ds[k]'hk))
 exact ⟨b0, b1, b2, b3, b4, b5, b6, b7, b8, hl, by rw [hl]; rfl, hb⟩
theorem nj (An Ad As Al Ap : Option Addr) (nn cn nd cd n c nl cl np cp : Nat) (ns : List Nd) (ds : List Dv) (s : List Int) (ls : List Lk) (pr : List Int) (d p co : Int) (w : World) (h : yp w An Ad As Al Ap nn cn nd cd n c nl cl np cp ns ds s ls pr) :
 Calls Tryz.prog 26 #[.agg #[.slice An nn cn, .slice Ad nd cd], .slice As n c, .agg #[.int .i64 d, .int .i64 p], .agg #[.int .i64 co, .slice Al nl cl, .slice Ap np cp]] w (kX w ns ds s d p co ls pr) := by
 obtain ⟨hln, hld, hls⟩ := h.ln
 have hndm := h.hd.le
 have HB := iD (Bx3.new w #[.slice An nn cn, .slice Ad nd cd] #[.int .i64 d, .int .i64 p] #[.int .i64 co, .slice Al nl cl, .slice Ap np cp])
 have HH := iD h
 clear h
 have HIE : Hid (xf ns ds s d p co = if zL ns ds s = 0 then yo nd d p co else zL ns ds s) := by unfold Hid xf; rw [hld]
 go_enter Tryz.func26, Tryz.ntmps26
 go_wp2_with fail
 generalize World.alloc (World.alloc (World.alloc w _) _) _ = W at *
 have HM := iD (HH.out.below HB.out.bl)
 have HC := iD (wU An Ad As nn cn nd cd n c W.heap.size W.heap.size W.heap.size ns ds s W HM.out.hn HM.out.hd HM.out.hs lR lR lR HM.out.sn HM.out.sd)
 refine HC.out.mono ?_
 rintro e w1 ⟨rfl, hb1⟩
 have HB1 := iD (HB.out.later hb1)
 clear hb1 HC HM HB
 by_cases h0 : zL ns ds s = 0; rotate_left
 ·have q : (zL ns ds s == 0) = false := by simpa using h0
  have q2 : (zL ns ds s != 0) = true := by simpa using h0
  have HR : Hid (xf ns ds s d p co = zL ns ds s) := by unfold Hid; rw [HIE.out, if_neg h0]
  have H0 := iD h0
  clear h0 HIE
  go_wp2_with fail
  go_ret2
  exact ⟨.inl ⟨by rw [HR.out]; exact H0.out, by rw [HR.out]; rfl⟩, HB1.out.bl⟩
 have HR : Hid (xf ns ds s d p co = yo nd d p co) := by unfold Hid; rw [HIE.out, if_pos h0]
 have H0 := iD h0
 clear HIE
 rw [h0]
 clear h0
 obtain ⟨⟨k0, k1⟩, ⟨o0, o1⟩, g0, g1, g2⟩ := HB1.out.cells
 go_wp2_with fail
 clear k0 k1 o0 o1 g0 g1 g2
 refine (nH An Ad Al Ap nn cn nd cd nl cl np cp d p co w1 (by omega)).mono ?_
 rintro e w2 ⟨rfl, hb2⟩
 have HB2 := iD (HB1.out.later hb2)
 clear hb2 HB1
 by_cases he : yo nd d p co = 0; rotate_left
 ·have q : (yo nd d p co != 0) = true := by simpa using he
  have HE := iD he
  clear he
  go_wp2_with fail
  go_ret2
  exact ⟨.inl ⟨by rw [HR.out]; exact HE.out, by rw [HR.out]; rfl⟩, HB2.out.bl⟩
 have HE := iD he
 rw [he] at HR ⊢
 clear he
 obtain ⟨x, hx, hin⟩ := jc (HH.out.below HB2.out.bl) H0.out HE.out
 have HIN := iD hin; have HX := iD hx
 clear hin hx
 obtain ⟨⟨k0, k1⟩, ⟨o0, o1⟩, g0, g1, g2⟩ := HB2.out.cells
 go_wp2_with fail
 clear k0 k1 o0 o1 g0 g1 g2
 refine HIN.out.mono ?_
 rintro e w3 ⟨b0, b1, b2, b3, b4, b5, b6, b7, b8, hF, rfl, hb3⟩
 have HF := iD hF
 clear hF
 go_wp2_with fail
 refine (mU b0 b1 b2 b3 b4 b5 b6 b7 b8 w3).mono ?_
 rintro e w4 ⟨A, ca, rfl, hO, hb4⟩
 rw [← HF.out, jm] at hO ⊢
 have HB3 := iD (HB2.out.bl.trans (hb3.out.mono HB2.out.bl.size))
 go_wp2_with fail
 go_ret2
 exact ⟨.inr ⟨HR.out, A, _, ca, x, HX.out, rfl, by subst hln; exact hO.out.mono HB3.out.size⟩, HB3.out.trans (hb4.out.mono HB3.out.size)⟩
end
end Go.Proofs.YtddddlhgaeameaaGreatDoor
