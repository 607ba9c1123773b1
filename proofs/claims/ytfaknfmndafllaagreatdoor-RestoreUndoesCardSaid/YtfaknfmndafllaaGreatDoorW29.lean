import Derived.Test.YtfaknfmndafllaaGreatDoorW11
import Derived.Test.YtfaknfmndafllaaGreatDoorW00
import Derived.Test.YtfaknfmndafllaaGreatDoorW12
import Derived.Test.YtfaknfmndafllaaGreatDoorShelf
import Derived.Deep.LoopGhost
import Derived.Test.YtfaknfmndafllaaGreatDoorW18
import Derived.Test.YtfaknfmndafllaaGreatDoorW04
import Derived.Test.YtfaknfmndafllaaGreatDoorW03
import Derived.Test.YtfaknfmndafllaaGreatDoorW17
import Derived.IntWalk
import Derived.Test.YtfaknfmndafllaaGreatDoorW28
import Derived.Test.YtfaknfmndafllaaGreatDoorW19
import Derived.Test.YtfaknfmndafllaaGreatDoorW21
import Derived.Test.YtfaknfmndafllaaGreatDoorLkSort
import Derived.Deep.RegionLaw
import Derived.Lib.SliceRun
set_option maxRecDepth 100000
set_option maxHeartbeats 4000000
namespace Go.Proofs.YtfaknfmndafllaaGreatDoor
open Go.RowKit
end Go.Proofs.YtfaknfmndafllaaGreatDoor
namespace Go.Proofs.YtfaknfmndafllaaGreatDoor
open Go.RowKit
end Go.Proofs.YtfaknfmndafllaaGreatDoor
namespace Go.Proofs.YtfaknfmndafllaaGreatDoor
open Go.RowKit
def MaIn (wr : World) (B g : Nat) (m : List Int) (k : Nat) (vs : List Value) : Prop := ∀ j, j < k → ∃ (Aj : Option Addr) (cj : Nat), vs[j]? = some (Value.slice Aj m.length cj) ∧ Sl wr B 1 Aj m.length cj (intsV (stN m m.length j)) ∧ ∀ b off, Aj = some ⟨b, off, none⟩ → g < b
theorem MaIn.below {w w' : World} {B g B' k : Nat} {m : List Int} {vs : List Value} (h : MaIn w B g m k vs) (hb : Below B' w w') (hB : B ≤ B') : MaIn w' B g m k vs := fun j hj => by
 obtain ⟨Aj, cj, h1, h2, h3⟩ := h j hj
 exact ⟨Aj, cj, h1, h2.below hb hB, h3⟩
theorem MaIn.far {w : World} {B g k : Nat} {m : List Int} {vs : List Value} (h : MaIn w B g m k vs) {p : Addr} (hp : B ≤ p.block) (u : Value) : MaIn (w.setCell p u) B g m k vs := fun j hj => by
 obtain ⟨Aj, cj, h1, h2, h3⟩ := h j hj
 exact ⟨Aj, cj, h1, h2.setCell hp u, h3⟩
theorem MaIn.row {w : World} {B g k i : Nat} {m : List Int} {vs : List Value} (h : MaIn w B g m k vs) (hi : k ≤ i) (u : Value) : MaIn (w.setCell ⟨g, i, none⟩ u) B g m k (vs.set i u) := fun j hj => by
 obtain ⟨Aj, cj, h1, h2, h3⟩ := h j hj
 refine ⟨Aj, cj, by rw [List.getElem?_set_ne (by omega)]; exact h1, ?_, h3⟩
 obtain ⟨s1, s2, s3, s4, s5⟩ := h2
 refine ⟨s1, s2, s3, s4, fun hn => ?_⟩
 obtain ⟨b, off, e, hb, hc⟩ := s5 hn
 have := h3 b off e
 exact ⟨b, off, e, hb, fun t v hv => (World.cell?_setCell_other _ _ _ _ (fun e => by injection e with e1; omega)).trans (hc t v hv)⟩
theorem MaIn.put {w : World} {B g k c : Nat} {A : Option Addr} {m l : List Int} {vs : List Value} (h : MaIn w B g m k vs) (hl : l = stN m m.length k) (hv : vs[k]? = some (Value.slice A m.length c)) (hs : Sl w w.heap.size 1 A m.length c (intsV l)) (hB : B ≤ w.heap.size) (hA : ∀ b off, A = some ⟨b, off, none⟩ → g < b) : MaIn w w.heap.size g m (k + 1) vs := fun j hj => by
 rcases Nat.lt_succ_iff_lt_or_eq.1 hj with hj | rfl
 ·obtain ⟨Aj, cj, h1, h2, h3⟩ := h j hj
  exact ⟨Aj, cj, h1, h2.more hB, h3⟩
 ·exact ⟨A, c, hv, by rw [← hl]; exact hs, hA⟩
end Go.Proofs.YtfaknfmndafllaaGreatDoor
namespace Go.Proofs.YtfaknfmndafllaaGreatDoor
open Go.RowKit
theorem stateErr_net {ns : List Nd} {ds : List Dv} {s : List Int} (h : stateErr ns ds s = 0) : checkN ns ds = 0 ∧ s.length = ds.length := by
 unfold stateErr at h
 split at h
 ·next h1 => exact absurd h h1
 next h1 =>
 split at h
 ·cases h
 next h2 => exact ⟨by simpa using h1, by omega⟩
structure HzMem (w : World) (An Ad As Al Ap : Option Addr) (nn cn nd cd n c nl cl np cp : Nat) (ns : List Nd) (ds : List Dv) (s : List Int) (ls : List Lk) (pr : List Int) : Prop where
 hn : Sl w w.heap.size 3 An nn cn (ns.flatMap Nd.cells)
 hd : Sl w w.heap.size 5 Ad nd cd (ds.flatMap Dv.cells)
 hs : Sl w w.heap.size 1 As n c (intsV s)
 hl : Sl w w.heap.size 3 Al nl cl (ls.flatMap Lk.cells)
 hp : Sl w w.heap.size 1 Ap np cp (intsV pr)
 la : Laid w
 sn : ∀ x ∈ ns, x.name.size ≤ 9223372036854775807
 sd : ∀ x ∈ ds, x.name.size ≤ 9223372036854775807
section
variable {w W : World} {An Ad As Al Ap : Option Addr} {nn cn nd cd n c nl cl np cp : Nat} {ns : List Nd} {ds : List Dv} {s : List Int} {ls : List Lk} {pr : List Int}
theorem HzMem.below (h : HzMem w An Ad As Al Ap nn cn nd cd n c nl cl np cp ns ds s ls pr) (hb : Below w.heap.size w W) : HzMem W An Ad As Al Ap nn cn nd cd n c nl cl np cp ns ds s ls pr :=
 ⟨(h.hn.below hb (Nat.le_refl _)).more hb.size, (h.hd.below hb (Nat.le_refl _)).more hb.size, (h.hs.below hb (Nat.le_refl _)).more hb.size, (h.hl.below hb (Nat.le_refl _)).more hb.size, (h.hp.below hb (Nat.le_refl _)).more hb.size, h.la.below hb (Nat.le_refl _), h.sn, h.sd⟩
theorem HzMem.ln (h : HzMem w An Ad As Al Ap nn cn nd cd n c nl cl np cp ns ds s ls pr) : ns.length = nn ∧ ds.length = nd ∧ s.length = n := ⟨h.hn.len (fun _ => rfl) (by decide), h.hd.len (fun _ => rfl) (by decide), h.hs.len (fun _ => rfl) (by decide)⟩
end
structure Bx3 (w : World) (nt op gr : Array Value) (W : World) : Prop where
 bl : Below w.heap.size w W
 bn : Blk W w.heap.size 30 nt
 bo : Blk W (w.heap.size + 1) 62 op
 bg : Blk W (w.heap.size + 2) 40 gr
theorem Bx3.new (w : World) (nt op gr : Array Value) : Bx3 w nt op gr (((w.alloc (.cells nt 30)).alloc (.cells op 62)).alloc (.cells gr 40)) := by
 refine ⟨(((Below.refl _ _).alloc (Nat.le_refl _) _).alloc (by simp) _).alloc (by simp; omega) _, ((Blk.new _ _ _).alloc _).alloc _, ?_, ?_⟩
 ·have := (Blk.new (w.alloc (.cells nt 30)) 62 op).alloc (.cells gr 40)
  simpa using this
 ·have := Blk.new ((w.alloc (.cells nt 30)).alloc (.cells op 62)) 40 gr
  simpa using this
theorem Bx3.later {w W W' : World} {nt op gr : Array Value} (h : Bx3 w nt op gr W) (hb : Below W.heap.size W W') : Bx3 w nt op gr W' :=
 ⟨h.bl.trans (hb.mono h.bl.size), h.bn.below hb h.bn.lt, h.bo.below hb h.bo.lt, h.bg.below hb h.bg.lt⟩
theorem Bx3.cells {w W : World} {nn cn nd cd nl cl np cp : Nat} {An Ad Al Ap : Option Addr} {d p co : Int} (h : Bx3 w #[.slice An nn cn, .slice Ad nd cd] #[.int .i64 d, .int .i64 p] #[.int .i64 co, .slice Al nl cl, .slice Ap np cp] W) :
 (W.cell? ⟨w.heap.size, 0, none⟩ = some (.slice An nn cn) ∧ W.cell? ⟨w.heap.size, 1, none⟩ = some (.slice Ad nd cd)) ∧ (W.cell? ⟨w.heap.size + 1, 0, none⟩ = some (.int .i64 d) ∧ W.cell? ⟨w.heap.size + 1, 1, none⟩ = some (.int .i64 p)) ∧ W.cell? ⟨w.heap.size + 2, 0, none⟩ = some (.int .i64 co) ∧ W.cell? ⟨w.heap.size + 2, 1, none⟩ = some (.slice Al nl cl) ∧ W.cell? ⟨w.heap.size + 2, 2, none⟩ = some (.slice Ap np cp) :=
 ⟨⟨h.bn.cell 0, h.bn.cell 1⟩, ⟨h.bo.cell 0, h.bo.cell 1⟩, h.bg.cell 0, h.bg.cell 1, h.bg.cell 2⟩
def hzErr (nd : Nat) (d p co : Int) : Int := if d < 0 then 8 else if (nd : Int) ≤ d then 8 else if p ≠ 1 ∧ p ≠ 2 then 10 else if co < 0 then 5 else if 7 < co then 5 else 0
theorem hzcheck_any (An Ad Al Ap : Option Addr) (nn cn nd cd nl cl np cp : Nat) (d p co : Int) (w : World) (_hndm : nd ≤ 9223372036854775807) :
 Calls Tryz.prog 117 #[.agg #[.slice An nn cn, .slice Ad nd cd], .agg #[.int .i64 d, .int .i64 p], .agg #[.int .i64 co, .slice Al nl cl, .slice Ap np cp]] w fun e w' => e = .returned (.int .i64 (hzErr nd d p co)) ∧ Below w.heap.size w w' := by
 have HE : Hid (hzErr nd d p co = if d < 0 then 8 else if (nd : Int) ≤ d then 8 else if p ≠ 1 ∧ p ≠ 2 then 10 else if co < 0 then 5 else if 7 < co then 5 else 0) := rfl
 have HB := Lib.hid (Bx3.new w #[.slice An nn cn, .slice Ad nd cd] #[.int .i64 d, .int .i64 p] #[.int .i64 co, .slice Al nl cl, .slice Ap np cp]).bl
 by_cases h1 : d < 0
 ·go_enter Tryz.func117, Tryz.ntmps117
  go_wp2_with fail
  go_ret
  exact ⟨ret_int (by rw [HE.out, if_pos (by omega)]), HB.out⟩
 have q1 : decide (d < 0) = false := by simpa using h1
 by_cases h2 : (nd : Int) ≤ d
 ·go_enter Tryz.func117, Tryz.ntmps117
  go_wp2_with fail
  go_ret
  exact ⟨ret_int (by rw [HE.out, if_neg (by omega), if_pos (by omega)]), HB.out⟩
 have q2 : decide ((nd : Int) ≤ d) = false := by simpa using h2
 by_cases h3 : p ≠ 1 ∧ p ≠ 2
 ·have q3 : (p != 1) = true := by simpa using h3.1
  have q4 : (p != 2) = true := by simpa using h3.2
  go_enter Tryz.func117, Tryz.ntmps117
  go_wp2_with fail
  go_ret
  exact ⟨ret_int (by rw [HE.out, if_neg (by omega), if_neg (by omega), if_pos (by omega)]), HB.out⟩
 have HN3 : Hid (hzErr nd d p co = if co < 0 then 5 else if 7 < co then 5 else 0) := by unfold Hid; rw [HE.out, if_neg (by omega), if_neg (by omega), if_neg (by omega)]
 clear HE
 by_cases h4 : co < 0
 ·rcases (show p = 1 ∨ p = 2 by omega) with rfl | rfl
  ·go_enter Tryz.func117, Tryz.ntmps117
   go_wp2_with fail
   go_ret
   exact ⟨ret_int (by rw [HN3.out, if_pos (by omega)]), HB.out⟩
  ·go_enter Tryz.func117, Tryz.ntmps117
   go_wp2_with fail
   go_ret
   exact ⟨ret_int (by rw [HN3.out, if_pos (by omega)]), HB.out⟩
 have q5 : decide (co < 0) = false := by simpa using h4
 have HN4 : Hid (hzErr nd d p co = if 7 < co then 5 else 0) := by unfold Hid; rw [HN3.out, if_neg (by omega)]
 clear HN3
 by_cases h5 : 7 < co
 ·rcases (show p = 1 ∨ p = 2 by omega) with rfl | rfl
  ·go_enter Tryz.func117, Tryz.ntmps117
   go_wp2_with fail
   go_ret
   exact ⟨ret_int (by rw [HN4.out, if_pos (by omega)]), HB.out⟩
  ·go_enter Tryz.func117, Tryz.ntmps117
   go_wp2_with fail
   go_ret
   exact ⟨ret_int (by rw [HN4.out, if_pos (by omega)]), HB.out⟩
 have q6 : decide (7 < co) = false := by simpa using h5
 rcases (show p = 1 ∨ p = 2 by omega) with rfl | rfl
 ·go_enter Tryz.func117, Tryz.ntmps117
  go_wp2_with fail
  go_ret
  exact ⟨ret_int (by rw [HN4.out, if_neg (by omega)]), HB.out⟩
 ·go_enter Tryz.func117, Tryz.ntmps117
  go_wp2_with fail
  go_ret
  exact ⟨ret_int (by rw [HN4.out, if_neg (by omega)]), HB.out⟩
theorem hzErr_ok {nd : Nat} {d p co : Int} (h : hzErr nd d p co = 0) : (0 ≤ d ∧ d < nd) ∧ (p = 1 ∨ p = 2) ∧ 0 ≤ co ∧ co ≤ 7 := by
 unfold hzErr at h
 split at h
 ·cases h
 split at h
 ·cases h
 split at h
 ·cases h
 split at h
 ·cases h
 split at h
 ·cases h
 omega
theorem in_ok {An Ad As Al Ap : Option Addr} {nn cn nd cd n c nl cl np cp : Nat} {ns : List Nd} {ds : List Dv} {s : List Int} {ls : List Lk} {pr : List Int} {w : World} (h : HzMem w An Ad As Al Ap nn cn nd cd n c nl cl np cp ns ds s ls pr) (h0 : stateErr ns ds s = 0) {d p co : Int} (he : hzErr nd d p co = 0) :
 ∃ x : Dv, ds[d.toNat]? = some x ∧ Calls Tryz.prog 118 #[.agg #[.slice An nn cn, .slice Ad nd cd], .slice As n c, .agg #[.int .i64 d, .int .i64 p], .agg #[.int .i64 co, .slice Al nl cl, .slice Ap np cp]] w (IntsPost w (hzAt nn ns ds s d.toNat p co ls pr x)) := by
 obtain ⟨h1, h2, h3⟩ := h.ln
 obtain ⟨hd, hp, _⟩ := hzErr_ok he
 obtain ⟨k, rfl⟩ := Int.eq_ofNat_of_zero_le hd.1
 obtain ⟨hc, hsl⟩ := stateErr_net h0
 have H := NetOk.of hc
 have hk : k < ds.length := by omega
 have hx : ds[k]? = some (ds[k]'hk) := List.getElem?_eq_getElem hk
 have E := H.e; have A := H.a; have nl := H.nl; have dl := H.dl
 rw [h1] at E A
 refine ⟨_, hx, ?_⟩
 exact in_any An Ad As Al Ap nn cn nd cd n c _ cl np cp _ _ _ _ _ k p co ns ds s ls pr _ w h.la h.hn (Nat.le_refl _) h.hd (Nat.le_refl _) h.hs (Nat.le_refl _) h.hl (Nat.le_refl _) h.hp (Nat.le_refl _) h.sn h.sd h0 (by omega) (by omega) (by omega) (by omega) hx E A hp (H.k _ (List.getElem_mem hk))
def inErr (ns : List Nd) (ds : List Dv) (s : List Int) (d p co : Int) : Int := if stateErr ns ds s = 0 then hzErr ds.length d p co else stateErr ns ds s
def InPost (w : World) (ns : List Nd) (ds : List Dv) (s : List Int) (d p co : Int) (ls : List Lk) (pr : List Int) (e : Ending) (w' : World) : Prop :=
 (inErr ns ds s d p co ≠ 0 ∧ e = .returned (.tuple #[.slice none 0 0, .int .i64 (inErr ns ds s d p co)]) ∨ inErr ns ds s d p co = 0 ∧ ∃ (A : Option Addr) (k c : Nat) (x : Dv), ds[d.toNat]? = some x ∧ e = .returned (.tuple #[.slice A k c, .int .i64 0]) ∧ Hid (IntsO w' w.heap.size A k c (hzAt ns.length ns ds s d.toNat p co ls pr x))) ∧ Hid (Below w.heap.size w w')
theorem In_any (An Ad As Al Ap : Option Addr) (nn cn nd cd n c nl cl np cp : Nat) (ns : List Nd) (ds : List Dv) (s : List Int) (ls : List Lk) (pr : List Int) (d p co : Int) (w : World) (h : HzMem w An Ad As Al Ap nn cn nd cd n c nl cl np cp ns ds s ls pr) :
 Calls Tryz.prog 73 #[.agg #[.slice An nn cn, .slice Ad nd cd], .slice As n c, .agg #[.int .i64 d, .int .i64 p], .agg #[.int .i64 co, .slice Al nl cl, .slice Ap np cp]] w (InPost w ns ds s d p co ls pr) := by
 obtain ⟨hln, hld, hls⟩ := h.ln
 have hndm := h.hd.le
 have HB := Lib.hid (Bx3.new w #[.slice An nn cn, .slice Ad nd cd] #[.int .i64 d, .int .i64 p] #[.int .i64 co, .slice Al nl cl, .slice Ap np cp])
 have HH := Lib.hid h
 clear h
 have HIE : Hid (inErr ns ds s d p co = if stateErr ns ds s = 0 then hzErr nd d p co else stateErr ns ds s) := by unfold Hid inErr; rw [hld]
 go_enter Tryz.func73, Tryz.ntmps73
 go_wp2_with fail
 generalize World.alloc (World.alloc (World.alloc w _) _) _ = W at *
 have HM := Lib.hid (HH.out.below HB.out.bl)
 have HC := Lib.hid (mstate_any An Ad As nn cn nd cd n c W.heap.size W.heap.size W.heap.size ns ds s W HM.out.la HM.out.hn HM.out.hd HM.out.hs (Nat.le_refl _) (Nat.le_refl _) (Nat.le_refl _) HM.out.sn HM.out.sd)
 refine HC.out.mono ?_
 rintro e w1 ⟨rfl, hb1⟩
 have HB1 := Lib.hid (HB.out.later hb1)
 clear hb1 HC HM HB
 by_cases h0 : stateErr ns ds s = 0; rotate_left
 ·have q : (stateErr ns ds s == 0) = false := by simpa using h0
  have q2 : (stateErr ns ds s != 0) = true := by simpa using h0
  have HR : Hid (inErr ns ds s d p co = stateErr ns ds s) := by unfold Hid; rw [HIE.out, if_neg h0]
  have H0 := Lib.hid h0
  clear h0 HIE
  go_wp2_with fail
  go_ret2
  exact ⟨.inl ⟨by rw [HR.out]; exact H0.out, by rw [HR.out]; rfl⟩, HB1.out.bl⟩
 have HR : Hid (inErr ns ds s d p co = hzErr nd d p co) := by unfold Hid; rw [HIE.out, if_pos h0]
 have H0 := Lib.hid h0
 clear HIE
 rw [h0]
 clear h0
 obtain ⟨⟨k0, k1⟩, ⟨o0, o1⟩, g0, g1, g2⟩ := HB1.out.cells
 go_wp2_with fail
 clear k0 k1 o0 o1 g0 g1 g2
 refine (hzcheck_any An Ad Al Ap nn cn nd cd nl cl np cp d p co w1 (by omega)).mono ?_
 rintro e w2 ⟨rfl, hb2⟩
 have HB2 := Lib.hid (HB1.out.later hb2)
 clear hb2 HB1
 by_cases he : hzErr nd d p co = 0; rotate_left
 ·have q : (hzErr nd d p co != 0) = true := by simpa using he
  have HE := Lib.hid he
  clear he
  go_wp2_with fail
  go_ret2
  exact ⟨.inl ⟨by rw [HR.out]; exact HE.out, by rw [HR.out]; rfl⟩, HB2.out.bl⟩
 have HE := Lib.hid he
 rw [he] at HR ⊢
 clear he
 obtain ⟨x, hx, hin⟩ := in_ok (HH.out.below HB2.out.bl) H0.out HE.out
 have HIN := Lib.hid hin; have HX := Lib.hid hx
 clear hin hx
 obtain ⟨⟨k0, k1⟩, ⟨o0, o1⟩, g0, g1, g2⟩ := HB2.out.cells
 go_wp2_with fail
 clear k0 k1 o0 o1 g0 g1 g2
 refine HIN.out.mono ?_
 rintro e w3 ⟨A, ca, rfl, hO, hb3⟩
 go_wp2_with fail
 go_ret2
 exact ⟨.inr ⟨HR.out, A, _, ca, x, HX.out, rfl, by subst hln; exact hO.out.mono HB2.out.bl.size⟩, HB2.out.bl.trans (hb3.out.mono HB2.out.bl.size)⟩
end Go.Proofs.YtfaknfmndafllaaGreatDoor
namespace Go.Proofs.YtfaknfmndafllaaGreatDoor
open Go.RowKit
open Go.Sort (grow)
instance : Inhabited Lk := ⟨⟨0, 0, 0⟩⟩
end Go.Proofs.YtfaknfmndafllaaGreatDoor
namespace Go.Proofs.YtfaknfmndafllaaGreatDoor
open Go.RowKit
end Go.Proofs.YtfaknfmndafllaaGreatDoor
namespace Go.Proofs.YtfaknfmndafllaaGreatDoor
open Go.RowKit
theorem Blk.setCells {t : TypeId} {g : Nat} : ∀ (vs : List Value) (o : Nat) {w : World} {cs : Array Value}, Blk w g t cs → Blk (w.setCells g o vs) g t (Go.Sort.setMany cs o vs)
 | [], _, _, _, h => h
 | v :: r, o, w, cs, h => by
  rw [World.setCells, Go.Sort.setMany]
  exact Blk.setCells r (o + 1) (h.set o v)
end Go.Proofs.YtfaknfmndafllaaGreatDoor
namespace Go.Proofs.YtfaknfmndafllaaGreatDoor
open Go.RowKit
end Go.Proofs.YtfaknfmndafllaaGreatDoor
