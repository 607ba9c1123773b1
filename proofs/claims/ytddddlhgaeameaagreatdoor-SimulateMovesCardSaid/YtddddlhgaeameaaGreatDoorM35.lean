import Derived.Test.YtddddlhgaeameaaGreatDoorM22
import Derived.IntWalk
import Derived.Test.YtddddlhgaeameaaGreatDoorM34
set_option maxRecDepth 100000
set_option maxHeartbeats 4000000
namespace Go.Proofs.YtddddlhgaeameaaGreatDoor
section
open Go.RowKit
end
section
open Go.RowKit
end
section
open Go.RowKit
def sF (wr : World) (B g : Nat) (m : List Int) (k : Nat) (vs : List Value) : Prop := ∀ j, j < k → ∃ (Aj : Option Addr) (cj : Nat), vs[j]? = some (Value.slice Aj m.length cj) ∧ Sl wr B 1 Aj m.length cj (zK (stN m m.length j)) ∧ ∀ b off, Aj = some ⟨b, off, none⟩ → g < b
theorem sF.below {w w' : World} {B g B' k : Nat} {m : List Int} {vs : List Value} (h : sF w B g m k vs) (hb : Below B' w w') (hB : B ≤ B') : sF w' B g m k vs := fun j hj => by
 obtain ⟨Aj, cj, h1, h2, h3⟩ := h j hj
 exact ⟨Aj, cj, h1, h2.below hb hB, h3⟩
theorem sF.far {w : World} {B g k : Nat} {m : List Int} {vs : List Value} (h : sF w B g m k vs) {p : Addr} (hp : B ≤ p.block) (u : Value) : sF (w.setCell p u) B g m k vs := fun j hj => by
 obtain ⟨Aj, cj, h1, h2, h3⟩ := h j hj
 exact ⟨Aj, cj, h1, h2.setCell hp u, h3⟩
theorem sF.row {w : World} {B g k i : Nat} {m : List Int} {vs : List Value} (h : sF w B g m k vs) (hi : k ≤ i) (u : Value) : sF (w.setCell ⟨g, i, none⟩ u) B g m k (vs.set i u) := fun j hj => by
 obtain ⟨Aj, cj, h1, h2, h3⟩ := h j hj
 refine ⟨Aj, cj, by rw [List.getElem?_set_ne (by omega)]; exact h1, ?_, h3⟩
 obtain ⟨s1, s2, s3, s4, s5⟩ := h2
 refine ⟨s1, s2, s3, s4, fun hn => ?_⟩
 obtain ⟨b, off, e, hb, hc⟩ := s5 hn
 have := h3 b off e
 exact ⟨b, off, e, hb, fun t v hv => (World.cell?_setCell_other _ _ _ _ (fun e => by injection e with e1; omega)).trans (hc t v hv)⟩
theorem sF.put {w : World} {B g k c : Nat} {A : Option Addr} {m l : List Int} {vs : List Value} (h : sF w B g m k vs) (hl : l = stN m m.length k) (hv : vs[k]? = some (Value.slice A m.length c)) (hs : Sl w w.heap.size 1 A m.length c (zK l)) (hB : B ≤ w.heap.size) (hA : ∀ b off, A = some ⟨b, off, none⟩ → g < b) : sF w w.heap.size g m (k + 1) vs := fun j hj => by
 rcases Nat.lt_succ_iff_lt_or_eq.1 hj with hj | rfl
 ·obtain ⟨Aj, cj, h1, h2, h3⟩ := h j hj
  exact ⟨Aj, cj, h1, h2.more hB, h3⟩
 ·exact ⟨A, c, hv, by rw [← hl]; exact hs, hA⟩
end
section
open Go.RowKit
structure wL (ns : List Nd) (ds : List Dv) : Prop where
 e : yu ns.length ds
 a : AOk ns.length ds
 k : ∀ x ∈ ds, 1 ≤ x.kind ∧ x.kind ≤ 6
 ne : ∀ x ∈ ds, zX x.kind = true → x.b ≠ x.a
 nl : ns.length ≤ 32
 dl : ds.length ≤ 64
theorem mH {k : Int} : ∀ (ds : List Dv) (used : List (List UInt8)), vV k used ds = 0 → ∀ x ∈ ds, (1 ≤ x.kind ∧ x.kind ≤ 6) ∧ xU x.kind x.a x.b k = true
 | [], _, _, x, hx => by cases hx
 | y :: r, used, h, x, hx => by
  rw [vV] at h
  by_cases h0 : xi k used y = 0
  ·rw [if_pos h0] at h
   rcases List.mem_cons.1 hx with rfl | hx
   ·unfold xi at h0
    by_cases h1 : yO (toL x.name) = false
    ·rw [if_pos h1] at h0; cases h0
    by_cases h2 : toL x.name ∈ used
    ·rw [if_neg h1, if_pos h2] at h0; cases h0
    by_cases h3 : x.kind < 1 ∨ 6 < x.kind
    ·rw [if_neg h1, if_neg h2, if_pos h3] at h0; cases h0
    by_cases h4 : xU x.kind x.a x.b k = false
    ·rw [if_neg h1, if_neg h2, if_neg h3, if_pos h4] at h0; cases h0
    exact ⟨by omega, by simpa using h4⟩
   ·exact mH r _ h x hx
  ·rw [if_neg h0] at h; exact absurd h h0
theorem wL.of {ns : List Nd} {ds : List Dv} (h : zR ns ds = 0) : wL ns ds := by
 unfold zR at h
 by_cases h1 : 32 < ns.length
 ·rw [if_pos h1] at h; cases h
 by_cases h2 : 64 < ds.length
 ·rw [if_neg h1, if_pos h2] at h; cases h
 by_cases h3 : wX [] ns = 0
 ·rw [if_neg h1, if_neg h2, if_pos h3] at h
  have H := mH ds _ h
  have E : ∀ x ∈ ds, 0 ≤ x.a ∧ x.a < ns.length ∧ (zX x.kind = true → 0 ≤ x.b ∧ x.b < ns.length ∧ x.b ≠ x.a) := fun x hx => by
   have := (H x hx).2
   unfold xU at this
   split at this
   ·cases this
   ·next e1 =>
    split at this
    ·cases this
    ·next e2 =>
     refine ⟨by omega, by omega, fun hj => ?_⟩
     rw [if_neg (by rw [hj]; simp)] at this
     simp at this
     omega
  exact ⟨fun x hx hj => ⟨⟨(E x hx).1, (E x hx).2.1⟩, ((E x hx).2.2 hj).1, ((E x hx).2.2 hj).2.1⟩, fun x hx => ⟨(E x hx).1, (E x hx).2.1⟩, fun x hx => (H x hx).1, fun x hx hj => ((E x hx).2.2 hj).2.2, by omega, by omega⟩
 ·rw [if_neg h1, if_neg h2, if_neg h3] at h; exact absurd h h3
theorem za {ns : List Nd} {ds : List Dv} {s : List Int} (h : zL ns ds s = 0) : zR ns ds = 0 ∧ s.length = ds.length := by
 unfold zL at h
 split at h
 ·next h1 => exact absurd h h1
 next h1 =>
 split at h
 ·cases h
 next h2 => exact ⟨by simpa using h1, by omega⟩
structure yp (w : World) (An Ad As Al Ap : Option Addr) (nn cn nd cd n c nl cl np cp : Nat) (ns : List Nd) (ds : List Dv) (s : List Int) (ls : List Lk) (pr : List Int) : Prop where
 hn : Sl w w.heap.size 3 An nn cn (ns.flatMap Nd.cells)
 hd : Sl w w.heap.size 5 Ad nd cd (ds.flatMap Dv.cells)
 hs : Sl w w.heap.size 1 As n c (zK s)
 hl : Sl w w.heap.size 3 Al nl cl (ls.flatMap Lk.cells)
 hp : Sl w w.heap.size 1 Ap np cp (zK pr)
 la : Laid w
 sn : ∀ x ∈ ns, x.name.size ≤ 9223372036854775807
 sd : ∀ x ∈ ds, x.name.size ≤ 9223372036854775807
section
variable {w W : World} {An Ad As Al Ap : Option Addr} {nn cn nd cd n c nl cl np cp : Nat} {ns : List Nd} {ds : List Dv} {s : List Int} {ls : List Lk} {pr : List Int}
theorem yp.below (h : yp w An Ad As Al Ap nn cn nd cd n c nl cl np cp ns ds s ls pr) (hb : Below w.heap.size w W) : yp W An Ad As Al Ap nn cn nd cd n c nl cl np cp ns ds s ls pr :=
 ⟨(h.hn.below hb lR).more hb.size, (h.hd.below hb lR).more hb.size, (h.hs.below hb lR).more hb.size, (h.hl.below hb lR).more hb.size, (h.hp.below hb lR).more hb.size, h.la.below hb lR, h.sn, h.sd⟩
theorem yp.ln (h : yp w An Ad As Al Ap nn cn nd cd n c nl cl np cp ns ds s ls pr) : ns.length = nn ∧ ds.length = nd ∧ s.length = n := ⟨h.hn.len (fun _ => rfl) (by decide), h.hd.len (fun _ => rfl) (by decide), h.hs.len (fun _ => rfl) (by decide)⟩
end
structure Bx3 (w : World) (nt op gr : Array Value) (W : World) : Prop where
 bl : Below w.heap.size w W
 bn : Blk W w.heap.size 26 nt
 bo : Blk W (w.heap.size + 1) 66 op
 bg : Blk W (w.heap.size + 2) 29 gr
theorem Bx3.new (w : World) (nt op gr : Array Value) : Bx3 w nt op gr (((w.alloc (.cells nt 26)).alloc (.cells op 66)).alloc (.cells gr 29)) := by
 refine ⟨(((Below.refl _ _).alloc lR _).alloc (by simp) _).alloc (by simp; omega) _, ((Blk.new _ _ _).alloc _).alloc _, ?_, ?_⟩
 ·have := (Blk.new (w.alloc (.cells nt 26)) 66 op).alloc (.cells gr 29)
  simpa using this
 ·have := Blk.new ((w.alloc (.cells nt 26)).alloc (.cells op 66)) 29 gr
  simpa using this
theorem Bx3.later {w W W' : World} {nt op gr : Array Value} (h : Bx3 w nt op gr W) (hb : Below W.heap.size W W') : Bx3 w nt op gr W' :=
 ⟨h.bl.trans (hb.mono h.bl.size), h.bn.below hb h.bn.lt, h.bo.below hb h.bo.lt, h.bg.below hb h.bg.lt⟩
theorem Bx3.cells {w W : World} {nn cn nd cd nl cl np cp : Nat} {An Ad Al Ap : Option Addr} {d p co : Int} (h : Bx3 w #[.slice An nn cn, .slice Ad nd cd] #[.int .i64 d, .int .i64 p] #[.int .i64 co, .slice Al nl cl, .slice Ap np cp] W) :
 (W.cell? ⟨w.heap.size, 0, none⟩ = some (.slice An nn cn) ∧ W.cell? ⟨w.heap.size, 1, none⟩ = some (.slice Ad nd cd)) ∧ (W.cell? ⟨w.heap.size + 1, 0, none⟩ = some (.int .i64 d) ∧ W.cell? ⟨w.heap.size + 1, 1, none⟩ = some (.int .i64 p)) ∧ W.cell? ⟨w.heap.size + 2, 0, none⟩ = some (.int .i64 co) ∧ W.cell? ⟨w.heap.size + 2, 1, none⟩ = some (.slice Al nl cl) ∧ W.cell? ⟨w.heap.size + 2, 2, none⟩ = some (.slice Ap np cp) :=
 ⟨⟨h.bn.cell 0, h.bn.cell 1⟩, ⟨h.bo.cell 0, h.bo.cell 1⟩, h.bg.cell 0, h.bg.cell 1, h.bg.cell 2⟩
def yo (nd : Nat) (d p co : Int) : Int := if d < 0 then 8 else if (nd : Int) ≤ d then 8 else if p ≠ 1 ∧ p ≠ 2 then 10 else if co < 0 then 5 else if 7 < co then 5 else 0
theorem px (An Ad Al Ap : Option Addr) (nn cn nd cd nl cl np cp : Nat) (d p co : Int) (w : World) (_hndm : nd ≤ 9223372036854775807) :
 Calls Tryz.prog 87 #[.agg #[.slice An nn cn, .slice Ad nd cd], .agg #[.int .i64 d, .int .i64 p], .agg #[.int .i64 co, .slice Al nl cl, .slice Ap np cp]] w fun e w' => e = .returned (.int .i64 (yo nd d p co)) ∧ Below w.heap.size w w' := by
 have HE : Hid (yo nd d p co = if d < 0 then 8 else if (nd : Int) ≤ d then 8 else if p ≠ 1 ∧ p ≠ 2 then 10 else if co < 0 then 5 else if 7 < co then 5 else 0) := rfl
 have HB := iD (Bx3.new w #[.slice An nn cn, .slice Ad nd cd] #[.int .i64 d, .int .i64 p] #[.int .i64 co, .slice Al nl cl, .slice Ap np cp]).bl
 by_cases h1 : d < 0
 ·go_enter Tryz.func87, Tryz.ntmps87
  go_wp2_with fail
  go_ret
  exact ⟨zE (by rw [HE.out, if_pos (by omega)]), HB.out⟩
 have q1 : decide (d < 0) = false := by simpa using h1
 by_cases h2 : (nd : Int) ≤ d
 ·go_enter Tryz.func87, Tryz.ntmps87
  go_wp2_with fail
  go_ret
  exact ⟨zE (by rw [HE.out, if_neg (by omega), if_pos (by omega)]), HB.out⟩
 have q2 : decide ((nd : Int) ≤ d) = false := by simpa using h2
 by_cases h3 : p ≠ 1 ∧ p ≠ 2
 ·have q3 : (p != 1) = true := by simpa using h3.1
  have q4 : (p != 2) = true := by simpa using h3.2
  go_enter Tryz.func87, Tryz.ntmps87
  go_wp2_with fail
  go_ret
  exact ⟨zE (by rw [HE.out, if_neg (by omega), if_neg (by omega), if_pos (by omega)]), HB.out⟩
 have HN3 : Hid (yo nd d p co = if co < 0 then 5 else if 7 < co then 5 else 0) := by unfold Hid; rw [HE.out, if_neg (by omega), if_neg (by omega), if_neg (by omega)]
 clear HE
 by_cases h4 : co < 0
 ·rcases (show p = 1 ∨ p = 2 by omega) with rfl | rfl
  ·go_enter Tryz.func87, Tryz.ntmps87
   go_wp2_with fail
   go_ret
   exact ⟨zE (by rw [HN3.out, if_pos (by omega)]), HB.out⟩
  ·go_enter Tryz.func87, Tryz.ntmps87
   go_wp2_with fail
   go_ret
   exact ⟨zE (by rw [HN3.out, if_pos (by omega)]), HB.out⟩
 have q5 : decide (co < 0) = false := by simpa using h4
 have HN4 : Hid (yo nd d p co = if 7 < co then 5 else 0) := by unfold Hid; rw [HN3.out, if_neg (by omega)]
 clear HN3
 by_cases h5 : 7 < co
 ·rcases (show p = 1 ∨ p = 2 by omega) with rfl | rfl
  ·go_enter Tryz.func87, Tryz.ntmps87
   go_wp2_with fail
   go_ret
   exact ⟨zE (by rw [HN4.out, if_pos (by omega)]), HB.out⟩
  ·go_enter Tryz.func87, Tryz.ntmps87
   go_wp2_with fail
   go_ret
   exact ⟨zE (by rw [HN4.out, if_pos (by omega)]), HB.out⟩
 have q6 : decide (7 < co) = false := by simpa using h5
 rcases (show p = 1 ∨ p = 2 by omega) with rfl | rfl
 ·go_enter Tryz.func87, Tryz.ntmps87
  go_wp2_with fail
  go_ret
  exact ⟨zE (by rw [HN4.out, if_neg (by omega)]), HB.out⟩
 ·go_enter Tryz.func87, Tryz.ntmps87
  go_wp2_with fail
  go_ret
  exact ⟨zE (by rw [HN4.out, if_neg (by omega)]), HB.out⟩
theorem py {nd : Nat} {d p co : Int} (h : yo nd d p co = 0) : (0 ≤ d ∧ d < nd) ∧ (p = 1 ∨ p = 2) ∧ 0 ≤ co ∧ co ≤ 7 := by
 unfold yo at h
 split at h
 ·cases h
 split at h
 ·cases h
 split at h
 ·cases h
 split at h
 ·cases h
 split at h
 ·cases h
 omega
theorem iF {An Ad As Al Ap : Option Addr} {nn cn nd cd n c nl cl np cp : Nat} {ns : List Nd} {ds : List Dv} {s : List Int} {ls : List Lk} {pr : List Int} {w : World} (h : yp w An Ad As Al Ap nn cn nd cd n c nl cl np cp ns ds s ls pr) (h0 : zL ns ds s = 0) {d p co : Int} (he : yo nd d p co = 0) :
 ∃ x : Dv, ds[d.toNat]? = some x ∧ Calls Tryz.prog 88 #[.agg #[.slice An nn cn, .slice Ad nd cd], .slice As n c, .agg #[.int .i64 d, .int .i64 p], .agg #[.int .i64 co, .slice Al nl cl, .slice Ap np cp]] w (wM w (uc nn ns ds s d.toNat p co ls pr x)) := by
 obtain ⟨h1, h2, h3⟩ := h.ln
 obtain ⟨hd, hp, _⟩ := py he
 obtain ⟨k, rfl⟩ := Int.eq_ofNat_of_zero_le hd.1
 obtain ⟨hc, hsl⟩ := za h0
 have H := wL.of hc
 have hk : k < ds.length := by omega
 have hx : ds[k]? = some (ds[k]'hk) := List.getElem?_eq_getElem hk
 have E := H.e; have A := H.a; have nl := H.nl; have dl := H.dl
 rw [h1] at E A
 refine ⟨_, hx, ?_⟩
 exact jl An Ad As Al Ap nn cn nd cd n c _ cl np cp _ _ _ _ _ k p co ns ds s ls pr _ w h.la h.hn lR h.hd lR h.hs lR h.hl lR h.hp lR h.sn h.sd h0 (by omega) (by omega) (by omega) (by omega) hx E A hp (H.k _ (List.getElem_mem hk))
def xf (ns : List Nd) (ds : List Dv) (s : List Int) (d p co : Int) : Int := if zL ns ds s = 0 then yo ds.length d p co else zL ns ds s
def kX (w : World) (ns : List Nd) (ds : List Dv) (s : List Int) (d p co : Int) (ls : List Lk) (pr : List Int) (e : Ending) (w' : World) : Prop :=
 (xf ns ds s d p co ≠ 0 ∧ e = .returned (.tuple #[.slice none 0 0, .int .i64 (xf ns ds s d p co)]) ∨ xf ns ds s d p co = 0 ∧ ∃ (A : Option Addr) (k c : Nat) (x : Dv), ds[d.toNat]? = some x ∧ e = .returned (.tuple #[.slice A k c, .int .i64 0]) ∧ Hid (zU w' w.heap.size A k c (uc ns.length ns ds s d.toNat p co ls pr x))) ∧ Hid (Below w.heap.size w w')
theorem kW (An Ad As Al Ap : Option Addr) (nn cn nd cd n c nl cl np cp : Nat) (ns : List Nd) (ds : List Dv) (s : List Int) (ls : List Lk) (pr : List Int) (d p co : Int) (w : World) (h : yp w An Ad As Al Ap nn cn nd cd n c nl cl np cp ns ds s ls pr) :
 Calls Tryz.prog 62 #[.agg #[.slice An nn cn, .slice Ad nd cd], .slice As n c, .agg #[.int .i64 d, .int .i64 p], .agg #[.int .i64 co, .slice Al nl cl, .slice Ap np cp]] w (kX w ns ds s d p co ls pr) := by
 obtain ⟨hln, hld, hls⟩ := h.ln
 have hndm := h.hd.le
 have HB := iD (Bx3.new w #[.slice An nn cn, .slice Ad nd cd] #[.int .i64 d, .int .i64 p] #[.int .i64 co, .slice Al nl cl, .slice Ap np cp])
 have HH := iD h
 clear h
 have HIE : Hid (xf ns ds s d p co = if zL ns ds s = 0 then yo nd d p co else zL ns ds s) := by unfold Hid xf; rw [hld]
 go_enter Tryz.func62, Tryz.ntmps62
 go_wp2_with fail
 generalize World.alloc (World.alloc (World.alloc w _) _) _ = W at *
 have HM := iD (HH.out.below HB.out.bl)
 have HC := iD (vR An Ad As nn cn nd cd n c W.heap.size W.heap.size W.heap.size ns ds s W HM.out.la HM.out.hn HM.out.hd HM.out.hs lR lR lR HM.out.sn HM.out.sd)
 refine HC.out.mono ?_
 rintro e w1 ⟨rfl, hb1⟩
 have HB1 := iD (HB.out.later hb1)
 clear hb1 HC HM HB
 by_cases h0 : zL ns ds s = 0; rotate_left
 ·have q : (zL ns ds s == 0) = false := by simpa using h0
  have q2 : (zL ns ds s != 0) = true := by simpa using h0
  have HR : Hid (xf ns ds s d p co = zL ns ds s) := by unfold Hid; rw [HIE.out, if_neg h0]
  have H0 := iD h0
  clear h0 HIE
  go_wp2_with fail
  go_ret2
  exact ⟨.inl ⟨by rw [HR.out]; exact H0.out, by rw [HR.out]; rfl⟩, HB1.out.bl⟩
 have HR : Hid (xf ns ds s d p co = yo nd d p co) := by unfold Hid; rw [HIE.out, if_pos h0]
 have H0 := iD h0
 clear HIE
 rw [h0]
 clear h0
 obtain ⟨⟨k0, k1⟩, ⟨o0, o1⟩, g0, g1, g2⟩ := HB1.out.cells
 go_wp2_with fail
 clear k0 k1 o0 o1 g0 g1 g2
 refine (px An Ad Al Ap nn cn nd cd nl cl np cp d p co w1 (by omega)).mono ?_
 rintro e w2 ⟨rfl, hb2⟩
 have HB2 := iD (HB1.out.later hb2)
 clear hb2 HB1
 by_cases he : yo nd d p co = 0; rotate_left
 ·have q : (yo nd d p co != 0) = true := by simpa using he
  have HE := iD he
  clear he
  go_wp2_with fail
  go_ret2
  exact ⟨.inl ⟨by rw [HR.out]; exact HE.out, by rw [HR.out]; rfl⟩, HB2.out.bl⟩
 have HE := iD he
 rw [he] at HR ⊢
 clear he
 obtain ⟨x, hx, hin⟩ := iF (HH.out.below HB2.out.bl) H0.out HE.out
 have HIN := iD hin; have HX := iD hx
 clear hin hx
 obtain ⟨⟨k0, k1⟩, ⟨o0, o1⟩, g0, g1, g2⟩ := HB2.out.cells
 go_wp2_with fail
 clear k0 k1 o0 o1 g0 g1 g2
 refine HIN.out.mono ?_
 rintro e w3 ⟨A, ca, rfl, hO, hb3⟩
 go_wp2_with fail
 go_ret2
 exact ⟨.inr ⟨HR.out, A, _, ca, x, HX.out, rfl, by subst hln; exact hO.out.mono HB2.out.bl.size⟩, HB2.out.bl.trans (hb3.out.mono HB2.out.bl.size)⟩
end
end Go.Proofs.YtddddlhgaeameaaGreatDoor
