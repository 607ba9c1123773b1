import Derived.Test.YtepicjpdhpojnaaGreatDoorL39
import Derived.Test.YtepicjpdhpojnaaGreatDoorL40
import Derived.Test.YtepicjpdhpojnaaGreatDoorL20
import Derived.Test.YtepicjpdhpojnaaGreatDoorL18
import Derived.Test.YtepicjpdhpojnaaGreatDoorL30
import Derived.Test.YtepicjpdhpojnaaGreatDoorL23
import Derived.Test.YtepicjpdhpojnaaGreatDoorL04
set_option maxRecDepth 100000
set_option maxHeartbeats 16000000
namespace Go.Proofs.YtepicjpdhpojnaaGreatDoor
open Go.RowKit
structure LvM (w : World) (nb : Nat) (An Ad As Al At : Option Addr) (cn nd cd n c nl cl nt ct : Nat) (ns : List Nd) (ds : List Dv) (F : Fd) (Az Ag : Option Addr) (nz cz ng cg : Nat) (z gs : List Int) (wr : World) : Prop where
 m : FlM w nb An Ad As Al At cn nd cd n c nl cl nt ct ns ds F wr
 z : SlX wr w.heap.size 1 Az nz cz (intsV z)
 g : SlX wr w.heap.size 1 Ag ng cg (intsV gs)
theorem LvM.later {w : World} {nb : Nat} {An Ad As Al At : Option Addr} {cn nd cd n c nl cl nt ct : Nat} {ns : List Nd} {ds : List Dv} {F : Fd} {Az Ag : Option Addr} {nz cz ng cg : Nat} {z gs : List Int} {wr wr' : World} (h : LvM w nb An Ad As Al At cn nd cd n c nl cl nt ct ns ds F Az Ag nz cz ng cg z gs wr) (hb : Below wr.heap.size wr wr') : LvM w nb An Ad As Al At cn nd cd n c nl cl nt ct ns ds F Az Ag nz cz ng cg z gs wr' :=
 ⟨h.m.later hb, h.z.below hb, h.g.below hb⟩
structure LvW (w6 : World) (mb m : Nat) (f : Int → Bool) (wr : World) : Prop where
 bl : Below w6.heap.size w6 wr
 mp : FlagsAt wr mb m f
 ge : w6.heap.size ≤ mb
section
variable {w6 wr wr' : World} {mb m m' : Nat} {f f' : Int → Bool}
theorem LvW.later (h : LvW w6 mb m f wr) (hb : Below wr.heap.size wr wr') : LvW w6 mb m f wr' := ⟨h.bl.trans (hb.mono h.bl.size), h.mp.below hb, h.ge⟩
theorem LvW.put (h : LvW w6 mb m f wr) (hm : FlagsAt wr' mb m' f') (hg : wr.grownBy wr' (some mb)) : LvW w6 mb m' f' wr' := ⟨h.bl.trans (below_of_grown hg h.ge h.bl.size), hm, h.ge⟩
theorem LvW.congr (h : LvW w6 mb m f wr) (e : ∀ k, f k = f' k) : LvW w6 mb m f' wr := ⟨h.bl, h.mp.congr e, h.ge⟩
end
def Lv1 (w6 : World) (mb : Nat) (z : List Int) (n gk : Nat) (iv : Value) (wr : World) : Prop := ∃ i : Nat, iv = .int .i64 i ∧ i ≤ n ∧ gk = n - i ∧ Hid (LvW w6 mb i (fun v => decide (v ∈ z.take i)) wr)
def Lv2 (w6 : World) (mb : Nat) (ds : List Dv) (gs z : List Int) (gk : Nat) (iv : Value) (wr : World) : Prop := ∃ (r m : Nat) (f : Int → Bool), iv = .int .i64 r ∧ r ≤ 6 ∧ gk = 6 - r ∧ m ≤ 100 + 200 * r ∧ Hid (LvW w6 mb m f wr) ∧ Hid (RkI 6 ds gs r f) ∧ Hid (RgI ds gs z f)
def Lv3 (w6 : World) (mb : Nat) (ds : List Dv) (gs z : List Int) (f0 : Int → Bool) (m0 n gk : Nat) (iv : Value) (wr : World) : Prop := ∃ (j m : Nat) (f : Int → Bool), iv = .int .i64 j ∧ j ≤ n ∧ gk = n - j ∧ m ≤ m0 + 2 * j ∧ Hid (LvW w6 mb m f wr) ∧ Hid (RdI 6 ds gs f0 j f) ∧ Hid (RgI ds gs z f)
def srcAt (ds : List Dv) (gs : List Int) (f : Int → Bool) (j : Nat) : Bool := match ds[j]? with | some x => f x.a && (x.kind == 5 || (x.kind == 6 && !decide ((j : Int) ∈ gs))) | none => false
def srcTo (ds : List Dv) (gs : List Int) (f : Int → Bool) (i : Nat) : Bool := (List.range i).any (srcAt ds gs f)
theorem srcTo_succ (ds : List Dv) (gs : List Int) (f : Int → Bool) (i : Nat) : srcTo ds gs f (i + 1) = (srcTo ds gs f i || srcAt ds gs f i) := by
 unfold srcTo; rw [List.range_succ, List.any_append]; simp
theorem has_dec (gs : List Int) (v : Int) : hasB gs v = decide (v ∈ gs) := by unfold hasB; rw [Bool.eq_iff_iff]; simp
theorem srcTo_full {ds : List Dv} {gs z : List Int} {f : Int → Bool} (hf : ∀ v, f v = true ↔ Rgn ds gs z v) : srcTo ds gs f ds.length = true ↔ SrcIn ds gs z := by
 unfold srcTo
 rw [List.any_eq_true]
 constructor
 ·rintro ⟨i, hi, h⟩
  rw [List.mem_range] at hi
  have hx := List.getElem?_eq_getElem hi
  unfold srcAt at h
  rw [hx] at h
  simp only [Bool.and_eq_true, Bool.or_eq_true, beq_iff_eq, Bool.not_eq_true'] at h
  exact ⟨i, _, hx, (hf _).1 h.1, h.2.imp id fun k => ⟨k.1, by rw [has_dec]; exact k.2⟩⟩
 ·rintro ⟨i, x, hx, hr, hk⟩
  refine ⟨i, List.mem_range.2 (List.getElem?_eq_some_iff.1 hx).1, ?_⟩
  unfold srcAt
  rw [hx]
  simp only [Bool.and_eq_true, Bool.or_eq_true, beq_iff_eq, Bool.not_eq_true']
  exact ⟨(hf _).2 hr, hk.imp id fun k => ⟨k.1, by rw [← has_dec]; exact k.2⟩⟩
def Lv4 (w6 : World) (mb m : Nat) (ds : List Dv) (gs : List Int) (f : Int → Bool) (n gk : Nat) (bv iv : Value) (wr : World) : Prop := ∃ i : Nat, bv = .bool (srcTo ds gs f i) ∧ iv = .int .i64 i ∧ i ≤ n ∧ gk = n - i ∧ Hid (LvW w6 mb m f wr)
def lvMix (ds : List Dv) (gs s : List Int) (i : Nat) : List Int := (lvS ds gs).take i ++ s.drop i
theorem lvMix_zero (ds : List Dv) (gs s : List Int) : lvMix ds gs s 0 = s := by simp [lvMix]
theorem lvMix_full {ds : List Dv} {gs s : List Int} (h : s.length = ds.length) : lvMix ds gs s ds.length = lvS ds gs := by
 unfold lvMix; rw [List.take_of_length_le (by rw [lvS_len]; exact Nat.le_refl _), List.drop_eq_nil_of_le (by omega), List.append_nil]
theorem lvMix_set {ds : List Dv} {gs s : List Int} {i : Nat} (h : s.length = ds.length) (hi : i < ds.length) : (lvMix ds gs s i).set i (if hasB gs i = true ∨ kindOf ds i = 4 then 1 else 2) = lvMix ds gs s (i + 1) := by
 unfold lvMix
 have hl := lvS_len ds gs
 apply List.ext_getElem?
 intro j
 rw [List.getElem?_set]
 have e1 : ((lvS ds gs).take i).length = i := by rw [List.length_take]; omega
 have e2 : ((lvS ds gs).take (i + 1)).length = i + 1 := by rw [List.length_take]; omega
 by_cases h1 : i = j
 ·subst h1
  rw [if_pos rfl, if_pos (by rw [List.length_append, List.length_drop, e1]; omega), List.getElem?_append_left (by rw [e2]; omega), List.getElem?_take, if_pos (show i < i + 1 by omega), lvS_at hi]
 ·rw [if_neg h1]
  by_cases h2 : j < i
  ·rw [List.getElem?_append_left (by rw [e1]; exact h2), List.getElem?_append_left (by rw [e2]; omega), List.getElem?_take, List.getElem?_take, if_pos h2, if_pos (show j < i + 1 by omega)]
  ·rw [List.getElem?_append_right (by rw [e1]; omega), List.getElem?_append_right (by rw [e2]; omega), e1, e2, List.getElem?_drop, List.getElem?_drop]
   congr 1
   omega
structure Lv5 (w : World) (B nb : Nat) (An Ad Az Ag : Option Addr) (cn nd cd nz cz ng cg : Nat) (ns : List Nd) (ds : List Dv) (z gs : List Int) (Ar : Option Addr) (n c : Nat) (s : List Int) (wr : World) : Prop where
 la : Laid wr
 hn : Sl wr B 3 An 6 cn (ns.flatMap Nd.cells)
 hd : Sl wr B 5 Ad nd cd (ds.flatMap Dv.cells)
 hz : Sl wr B 1 Az nz cz (intsV z)
 hg : Sl wr B 1 Ag ng cg (intsV gs)
 bn : Blk wr nb 30 #[.slice An 6 cn, .slice Ad nd cd]
 bf : Blk wr (nb + 1) 35 #[.slice Ar n c, .slice none 0 0, .slice none 0 0]
 hs : IntsO wr B Ar n c s
 bl : Below w.heap.size w wr
 lt : nb + 1 < B
 le : B ≤ wr.heap.size
 wl : w.heap.size ≤ B
section
variable {w wr wr' : World} {B nb : Nat} {An Ad Az Ag Ar : Option Addr} {cn nd cd nz cz ng cg n c : Nat} {ns : List Nd} {ds : List Dv} {z gs s : List Int}
theorem Lv5.later (h : Lv5 w B nb An Ad Az Ag cn nd cd nz cz ng cg ns ds z gs Ar n c s wr) (hb : Below wr.heap.size wr wr') : Lv5 w B nb An Ad Az Ag cn nd cd nz cz ng cg ns ds z gs Ar n c s wr' :=
 ⟨h.la.below hb (Nat.le_refl _), h.hn.below hb h.le, h.hd.below hb h.le, h.hz.below hb h.le, h.hg.below hb h.le, h.bn.below hb h.bn.lt, h.bf.below hb h.bf.lt, h.hs.later hb, h.bl.trans (hb.mono h.bl.size), h.lt, Nat.le_trans h.le hb.size, h.wl⟩
theorem Lv5.put {w0 : World} (h : Lv5 w B nb An Ad Az Ag cn nd cd nz cz ng cg ns ds z gs Ar n c s wr) {i : Nat} (hi : i < n) (h0 : Laid w0) (hw : w0.heap.size ≤ B) : ∃ g x, Ar = some ⟨g, 0, none⟩ ∧ g < wr.heap.size ∧ s[i]? = some x ∧ wr.cell? ⟨g, i, none⟩ = some (.int .i64 x) ∧ wr.frozen? ⟨g, i, none⟩ = false ∧ ∀ y, Lv5 w B nb An Ad Az Ag cn nd cd nz cz ng cg ns ds z gs (some ⟨g, 0, none⟩) n c (s.set i y) (wr.setCell ⟨g, i, none⟩ (.int .i64 y)) := by
 obtain ⟨g, x, rfl, hg, hl, hx, hc, hf, hst⟩ := h.hs.at hi
 have hlt := h.lt
 have hwl := h.wl
 refine ⟨g, x, rfl, hl, hx, hc, hf, fun y => ⟨h.la.grown h0 (grown_cell _ ⟨g, i, none⟩ _) (by simp; omega), h.hn.setCell hg _, h.hd.setCell hg _, h.hz.setCell hg _, h.hg.setCell hg _, h.bn.far (by simp; omega) _, h.bf.far (by simp; omega) _, hst y, h.bl.setCell (by simp; omega) _, hlt, by simpa using h.le, hwl⟩⟩
end
structure LvT (w : World) (nb : Nat) (An Ad As Al At : Option Addr) (cn nd cd n c nl cl nt ct : Nat) (ns : List Nd) (ds : List Dv) (F : Fd) (Az Ag : Option Addr) (nz cz ng cg : Nat) (z gs : List Int) (W1 : World) : Prop where
 x : FdX w.heap.size An Ad As Al At 6 cn nd cd n c nl cl nt ct ns ds F W1
 z : SlX W1 w.heap.size 1 Az nz cz (intsV z)
 g : SlX W1 w.heap.size 1 Ag ng cg (intsV gs)
 bn : Blk W1 nb 30 #[.slice An 6 cn, .slice Ad nd cd]
 bf : Blk W1 (nb + 1) 35 #[.slice As n c, .slice none 0 0, .slice none 0 0]
 bl : Below w.heap.size w W1
 ge : w.heap.size < nb
theorem lv_two {w : World} {nb : Nat} {An Ad As Al At : Option Addr} {cn nd cd n c nl cl nt ct : Nat} {ns : List Nd} {ds : List Dv} {F : Fd} {Az Ag : Option Addr} {nz cz ng cg : Nat} {z gs : List Int} {wx : World} (hl : Laid w) (h : LvM w nb An Ad As Al At cn nd cd n c nl cl nt ct ns ds F Az Ag nz cz ng cg z gs wx) : LvT w nb An Ad As Al At cn nd cd n c nl cl nt ct ns ds F Az Ag nz cz ng cg z gs ((wx.setCell ⟨nb + 1, 1, none⟩ (.slice none 0 0)).setCell ⟨nb + 1, 2, none⟩ (.slice none 0 0)) := by
 have hge := h.m.ge
 have a3 := allsl3 As Al At n c nl cl nt ct
 have b3 : AllSl (#[.slice As n c, .slice Al nl cl, .slice At nt ct].setIfInBounds 1 (.slice none 0 0)) := allsl3 As none At n c 0 0 nt ct
 exact ⟨(h.m.x.put h.m.bf a3 (by omega) hl (by omega) _).put (h.m.bf.set 1 _) b3 (by omega) hl (by omega) _, (h.z.apart h.m.bf a3 (nosl_int _) _).apart (h.m.bf.set 1 _) b3 (nosl_int _) _, (h.g.apart h.m.bf a3 (nosl_int _) _).apart (h.m.bf.set 1 _) b3 (nosl_int _) _,
  (h.m.bn.far (p := ⟨nb + 1, 1, none⟩) (by simp) _).far (p := ⟨nb + 1, 2, none⟩) (by simp) _, (h.m.bf.set 1 _).set 2 _, (h.m.bl.setCell (by simp; omega) _).setCell (by simp; omega) _, hge⟩
theorem lv_five {w : World} {nb : Nat} {An Ad As Al At : Option Addr} {cn nd cd n c nl cl nt ct : Nat} {ns : List Nd} {ds : List Dv} {F : Fd} {Az Ag : Option Addr} {nz cz ng cg : Nat} {z gs : List Int} {W1 w2 : World} {Ar : Option Addr} {c' : Nat} (hl : Laid w) (h : LvT w nb An Ad As Al At cn nd cd n c nl cl nt ct ns ds F Az Ag nz cz ng cg z gs W1) (hb : Below W1.heap.size W1 w2) (ho : IntsO w2 W1.heap.size Ar n c' F.s) :
 Lv5 w W1.heap.size nb An Ad Az Ag cn nd cd nz cz ng cg ns ds z gs Ar n c' F.s (w2.setCell ⟨nb + 1, 0, none⟩ (.slice Ar n c')) := by
 have hge := h.ge
 have hlt := h.bf.lt
 have hbf := h.bf.below hb h.bf.lt
 have a3 := allsl3 As none none n c 0 0 0 0
 exact ⟨((h.x.la.below hb (Nat.le_refl _)).grown hl (grown_cell _ ⟨nb + 1, 0, none⟩ _) (by simp; omega)), (h.x.hn.1.below hb (Nat.le_refl _)).apart hbf a3 (nosl_nd _) _, (h.x.hd.1.below hb (Nat.le_refl _)).apart hbf a3 (nosl_dv _) _, (h.z.1.below hb (Nat.le_refl _)).apart hbf a3 (nosl_int _) _, (h.g.1.below hb (Nat.le_refl _)).apart hbf a3 (nosl_int _) _,
  (h.bn.below hb h.bn.lt).far (by simp) _, hbf.set 0 _, own_far (x := nb + 1) (i := 0) (u := .slice Ar n c') ho hlt, ((h.bl.trans (hb.mono h.bl.size)).setCell (by simp; omega) _), hlt, by simpa using hb.size, h.bl.size⟩
def Lv5R (w : World) (B nb : Nat) (An Ad Az Ag : Option Addr) (cn nd cd nz cz ng cg : Nat) (ns : List Nd) (ds : List Dv) (z gs : List Int) (Ar : Option Addr) (n c : Nat) (s : List Int) (gk : Nat) (iv : Value) (wr : World) : Prop := ∃ i : Nat, iv = .int .i64 i ∧ i ≤ nd ∧ gk = nd - i ∧ Hid (Lv5 w B nb An Ad Az Ag cn nd cd nz cz ng cg ns ds z gs Ar n c (lvMix ds gs s i) wr)
theorem walk_FieldLive (w : World) (hl : Laid w) (A : Option Addr) (n c : Nat) (zs : List Int) (hs : Sl w w.heap.size 1 A n c (intsV zs)) (_hz : ∀ z ∈ zs, (Lit.int .i64 z).wf = true) :
 Calls Tryz.prog 5 #[.slice A n c] w fun e w' => e = .returned (.bool true) ∧ Below w.heap.size w w' := by
 have hnm := hs.le
 have HL0 := Lib.hid hl; have HS0 := Lib.hid hs
 clear hl hs _hz
 go_enter Tryz.func5, Tryz.ntmps5
 go_wp2_with fail
 refine (awake_any w HL0.out).mono ?_
 rintro e w1 ⟨rfl, hb1⟩
 have HB0 := Lib.hid hb1
 have HL := Lib.hid (HL0.out.below hb1 (Nat.le_refl _))
 have HS := Lib.hid (HS0.out.below hb1 (Nat.le_refl _))
 have hsz := hb1.size
 clear hb1 HL0 HS0
 have HF := Lib.hid (few_any A n c w1 (by omega))
 rcases hf : decide (n ≤ 400) with _ | _
 ·rw [hf] at HF
  clear hf
  go_wp2_with fail
  refine HF.out.mono ?_
  rintro e w2 ⟨rfl, rfl⟩
  go_wp2_with fail
  refine (awake_any w1 HL.out).mono ?_
  rintro e w2 ⟨rfl, hb⟩
  go_wp2_with fail
  go_ret
  exact ⟨rfl, HB0.out.trans (hb.mono hsz)⟩
 rw [hf] at HF
 clear hf
 go_wp2_with fail
 refine HF.out.mono ?_
 rintro e w2 ⟨rfl, rfl⟩
 clear HF
 go_wp2_with fail
 refine (new_any A n c w.heap.size zs w1 HS.out hsz).mono ?_
 rintro e w2 ⟨rfl, hd2, hb2, hs2⟩
 go_wp2_with fail
 refine (start_any w1.heap.size w2 w1 hd2.out (HL.out.below hb2.out (Nat.le_refl _)) HL.out (Nat.le_refl _)).mono ?_
 rintro e w3 ⟨An, Ad, As, Al, At, cn, nd, cd, n0, c0, nl, cl, nt, ct, ns, ds, F, rfl, hg3, hX3, hF3, hn3, hL3⟩
 have HM4 := Lib.hid (FlM.mk0 hb2.out hs2.out hg3.out hX3.out)
 have HF4 := Lib.hid hF3.out
 have HK4 := Lib.hid hL3.out
 obtain ⟨hnd9, hnd10⟩ := hn3.out
 clear hd2 hb2 hs2 hg3 hX3 hF3 hn3 hL3 HS
 go_upto_region 5 with (fail)
 obtain ⟨nb, hnb⟩ : ∃ x, x = w3.heap.size := ⟨_, rfl⟩
 rw [← hnb] at HM4 ⊢
 clear hnb
 generalize World.alloc (World.alloc w3 _) _ = w4 at *
 have hcn := HM4.out.ln
 have k0 : w4.cell? ⟨nb, 0, none⟩ = some (.slice An 6 cn) := HM4.out.bn.cell 0
 have k1 : w4.cell? ⟨nb, 1, none⟩ = some (.slice Ad nd cd) := HM4.out.bn.cell 1
 go_wp2_with fail
 clear k0 k1
 refine (mkzone_any w1.heap.size An Ad 6 cn nd cd w4 HM4.out.x.dk (by decide) (by decide)).mono ?_
 rintro e w5 ⟨Az, nz, cz, z, rfl, hd5, hg5, hO5, hz5⟩
 have HM5 := Lib.hid (HM4.out.grown HL.out hg5.out hd5.out)
 have HZ5 : Hid (SlX w5 w1.heap.size 1 Az nz cz (intsV z)) := SlX.of_own hO5.out HM4.out.x.dk.lt
 have HLZ := Lib.hid hO5.out.len
 have HZR := Lib.hid hz5.out
 clear hd5 hg5 hO5 hz5 HM4
 have hck := (stateErr_len (fdErr_zero HF4.out).1).1
 have HOK := Lib.hid (NetOk.of hck)
 have HZE : Hid (zoneErr ns ds z = 0) := zone_fine hck (by rw [HLZ.out]; exact HZR.out.1) (by rw [hcn.1]; exact HZR.out.2.2)
 have HZM : Hid (∀ v ∈ z, 0 ≤ v ∧ v < 6) := fun v hv => ris_mem HZR.out.2.2 v hv
 have HCK := Lib.hid hck
 clear hck
 have HLE : Hid (locksErr ns ds F.ls = 0) := (fdErr_zero HF4.out).2.1
 have k0 : w5.cell? ⟨nb, 0, none⟩ = some (.slice An 6 cn) := HM5.out.bn.cell 0
 have k1 : w5.cell? ⟨nb, 1, none⟩ = some (.slice Ad nd cd) := HM5.out.bn.cell 1
 have f1 : w5.cell? ⟨nb + 1, 1, none⟩ = some (.slice Al nl cl) := HM5.out.bf.cell 1
 have hmm := @run_makeMap Tryz.prog
 go_wp2_with fail
 clear k0 k1 f1
 refine (rgaps_any An Ad Al 6 cn nd cd nl cl w5.heap.size w5.heap.size w5.heap.size ns ds F.ls w5 HM5.out.x.hn.1 HM5.out.x.hd.1 HM5.out.x.hl.1 (Nat.le_refl _) (Nat.le_refl _) (Nat.le_refl _) (by omega) HM5.out.x.sn HM5.out.x.sd).mono ?_
 intro e w6 hpost
 obtain ⟨Ag, cg, rfl, hO6, hb6⟩ := hpost.ok HLE.out
 have HGO : Hid (GapsOk ds (thoTo ds F.ls 1 gapB nd)) := by rw [← hcn.2.1]; exact tho_ok F.ls
 generalize thoTo ds F.ls 1 gapB nd = gs at *
 have HGP : Hid (∀ (i : Nat) (x : Dv), ds[i]? = some x → hasB gs i = true → gapB x.kind = true) := fun i x hx hb => HGO.out.2 i (by rw [has_dec] at hb; exact of_decide_eq_true hb) x hx
 obtain ⟨ng, hng⟩ : ∃ x, x = gs.length := ⟨_, rfl⟩
 rw [← hng] at hO6 ⊢
 clear hpost hng HGO
 have HV6 : Hid (LvM w1 nb An Ad As Al At cn nd cd n0 c0 nl cl nt ct ns ds F Az Ag nz cz ng cg z gs w6) := ⟨HM5.out.later hb6.out, HZ5.out.below hb6.out, SlX.of_own hO6.out HM5.out.x.dk.lt⟩
 clear hO6 hb6 HM5 HZ5
 have HW0 : Hid (LvW w6 w6.heap.size 0 (fun v => decide (v ∈ z.take 0)) (w6.alloc (.map #[] 0))) := ⟨(Below.refl _ _).alloc (Nat.le_refl _) _, (flags_made w6).congr (fun k => by simp), Nat.le_refl _⟩
 have hlez := HV6.out.z.1.le
 have hled := HV6.out.m.x.hd.1.le
 have hnz6 := HZR.out.2.1
 go_wp2_with fail
 clear hmm
 obtain ⟨mb, hmb⟩ : ∃ x, x = w6.heap.size := ⟨_, rfl⟩
 rw [← hmb] at HW0 ⊢
 clear hmb
 generalize World.alloc w6 _ = W at *
 refine wp_loop_u1 [(10, 0), (0, 1), (36, 0), (0, 2), (5, 1), (123, 0)] 49 (nz) (Lv1 w6 mb z nz) (by (try dsimp only [gt]); exact ⟨0, rfl, Nat.zero_le _, rfl, HW0⟩) (by kernel_rfl) ?_
 intro u1 p49 gk wr a hrel ha J1 K1 hJ1 hK1
 dsimp only [relaxR, Go.Proofs.YtepicjpdhpojnaaGreatDoor.v1, Nat.reduceAdd] at ha
 subst ha
 clear HW0 W
 obtain ⟨i, rfl, hi, rfl, HW⟩ := hrel
 by_cases hlt : i < nz
 ·obtain ⟨bz, oz, v, hAz, hbz, hxz, hcz⟩ := (HV6.out.later HW.out.bl).z.1.at1 hlt
  have hv := HZM.out v (List.mem_of_getElem? hxz)
  obtain ⟨w7, hput, hm7, hg7⟩ := HW.out.mp.put (by omega) v true (by omega) (by omega)
  have HN7 : Hid (LvW w6 mb (i + 1) (fun v => decide (v ∈ z.take (i + 1))) w7) := (HW.out.put hm7 hg7).congr (fun k => by
   rw [take_snocA hxz]
   by_cases e : k = v
   ·rw [if_pos e]; simp [e]
   ·rw [if_neg e]; simp [e])
  subst hAz
  clear hxz hv hm7 hg7 HW
  go_wp2_with fail
  refine Handed.intro (nz - (i + 1)) (by omega) (hJ1 _ _ _ (LpI1.back 49 ?_ (by kernel_rfl)))
  dsimp only [gt]
  exact ⟨i + 1, by go_num, by omega, rfl, HN7⟩
 have hii : decide ((i : Int) < (nz : Int)) = false := by simp; omega
 have hii2 : decide (i < nz) = false := by simp; omega
 have HKS := Lib.hid (RkI.start (nn := 6) (ds := ds) (gs := gs) (z := z) (f := fun v => decide (v ∈ z.take i)) (by have := HZR.out.1; have := HLZ.out; omega) HZM.out (fun v => by rw [List.take_of_length_le (by have := HLZ.out; omega)]; exact decide_eq_true_iff))
 generalize (fun v => decide (v ∈ z.take i)) = f0 at *
 have k0 : wr.cell? ⟨nb, 0, none⟩ = some (.slice An 6 cn) := (HV6.out.later HW.out.bl).m.bn.cell 0
 go_wp2_with fail
 clear k0 hii hii2
 refine wp_loop_u1 [(11, 0), (1, 1), (44, 0), (0, 2), (37, 1), (81, 0)] 59 (6) (Lv2 w6 mb ds gs z) (by (try dsimp only [gt]); exact ⟨0, i, f0, rfl, Nat.zero_le _, rfl, by omega, HW, HKS.out.1, HKS.out.2⟩) (by kernel_rfl) ?_
 intro u2 p59 gk wq a hrel ha J2 K2 hJ2 hK2
 dsimp only [relaxR, Go.Proofs.YtepicjpdhpojnaaGreatDoor.v1, Nat.reduceAdd] at ha
 subst ha
 clear HW HKS f0
 obtain ⟨r, m, f, rfl, hr, rfl, hm, HW, HK, HG⟩ := hrel
 by_cases hlt2 : r < 6
 ·have k1 : wq.cell? ⟨nb, 1, none⟩ = some (.slice Ad nd cd) := (HV6.out.later HW.out.bl).m.bn.cell 1
  have hdr : decide ((r : Int) < 6) = true := by simp; omega
  go_wp2_with fail
  clear hdr
  clear k1
  refine wp_loop_u1 [(11, 0), (1, 1), (49, 0), (0, 2), (31, 1), (82, 0)] 64 (nd) (Lv3 w6 mb ds gs z f m nd) (by (try dsimp only [gt]); exact ⟨0, m, f, rfl, Nat.zero_le _, rfl, Nat.le_refl _, HW, RdI.start, HG⟩) (by kernel_rfl) ?_
  intro u3 p64 gk wx a hrel ha J3 K3 hJ3 hK3
  dsimp only [relaxR, Go.Proofs.YtepicjpdhpojnaaGreatDoor.v1, Nat.reduceAdd] at ha
  subst ha
  have HG0 := HG
  clear HW HG wq
  obtain ⟨j, m1, f1, rfl, hj, rfl, hm1, HW, HD, HG⟩ := hrel
  by_cases hlt3 : j < nd
  ·obtain ⟨b, off, x, hA, hb, hx, hc⟩ := (HV6.out.later HW.out.bl).m.x.hd.1.at (fun _ => rfl) (by decide) hlt3
   have HX := Lib.hid hx
   have HAX := HOK.out.a x (List.mem_of_getElem? hx)
   have HEX := Lib.hid (HOK.out.e x (List.mem_of_getElem? hx))
   have hsl := (HV6.out.later HW.out.bl).g.1
   obtain ⟨nm, kd, xa, xb, co⟩ := x
   simp only at HAX HEX
   rw [hcn.1] at HAX HEX
   have c0 : wx.cell? ⟨b, off + j * 5, none⟩ = some (.string nm) := hc 0 _ rfl
   have c1 : wx.cell? ⟨b, off + j * 5 + 1, none⟩ = some (.int .i64 kd) := hc 1 _ rfl
   have c2 : wx.cell? ⟨b, off + j * 5 + 2, none⟩ = some (.int .i64 xa) := hc 2 _ rfl
   have c3 : wx.cell? ⟨b, off + j * 5 + 3, none⟩ = some (.int .i64 xb) := hc 3 _ rfl
   have c4 : wx.cell? ⟨b, off + j * 5 + 4, none⟩ = some (.int .i64 co) := hc 4 _ rfl
   subst hA
   clear hc hx hsl
   go_upto_region 18 with (fail)
   clear c0 c1 c2 c3 c4 hb
   have HBK := Lib.hid (Blk.new wx 38 #[.string nm, .int .i64 kd, .int .i64 xa, .int .i64 xb, .int .i64 co])
   have HWN : Hid (LvW w6 mb m1 f1 (wx.alloc (.cells #[.string nm, .int .i64 kd, .int .i64 xa, .int .i64 xb, .int .i64 co] 38))) := HW.out.later ((Below.refl _ _).alloc (Nat.le_refl _) _)
   have hmbx := HW.out.mp.lt
   clear HW
   generalize World.alloc wx _ = W at *
   obtain ⟨bq, hbq⟩ : ∃ bq, bq = wx.heap.size := ⟨_, rfl⟩
   rw [← hbq] at HBK hmbx ⊢
   clear hbq
   have d1 : W.cell? ⟨bq, 1, none⟩ = some (.int .i64 kd) := HBK.out.cell 1
   have d2 : W.cell? ⟨bq, 2, none⟩ = some (.int .i64 xa) := HBK.out.cell 2
   have d3 : W.cell? ⟨bq, 3, none⟩ = some (.int .i64 xb) := HBK.out.cell 3
   go_wp2_with fail
   refine (rjoins_any kd W).mono ?_
   rintro e w' ⟨rfl, rfl⟩
   rcases hjk : joinsB kd with _ | _
   ·have HN : Hid (okR ds gs f1 j) := fun y hy h1 _ => by
     obtain rfl := Option.some.inj (HX.out.symm.trans hy)
     rw [hjk] at h1; cases h1
    clear hjk
    go_wp2_with fail
    refine Handed.intro (nd - (j + 1)) (by omega) (hJ3 _ _ _ (LpI1.back 64 ?_ (by kernel_rfl)))
    dsimp only [gt]
    exact ⟨j + 1, m1, f1, by go_num, by omega, rfl, by omega, HWN, HD.out.skip HN.out, HG⟩
   have hxb := HEX.out hjk
   have HJ := Lib.hid hjk
   clear hjk
   go_wp2_with fail
   refine (rhas_any Ag ng cg gs (j : Int) W (HV6.out.later HWN.out.bl).g.1).mono ?_
   rintro e w' ⟨rfl, rfl⟩
   rcases hgj : decide ((j : Int) ∈ gs) with _ | _; rotate_left
   ·have HN : Hid (okR ds gs f1 j) := fun y hy _ h2 => by rw [has_dec, hgj] at h2; cases h2
    clear hgj
    go_wp2_with fail
    refine Handed.intro (nd - (j + 1)) (by omega) (hJ3 _ _ _ (LpI1.back 64 ?_ (by kernel_rfl)))
    dsimp only [gt]
    exact ⟨j + 1, m1, f1, by go_num, by omega, rfl, by omega, HWN, HD.out.skip HN.out, HG⟩
   have HGJ : Hid (hasB gs (j : Int) = false) := (has_dec gs j).trans hgj
   clear hgj
   have la := HWN.out.mp.look xa (by omega) (by omega)
   have lb := HWN.out.mp.look xb (by omega) (by omega)
   have HSK : Hid (f1 xa = false → f1 xb = false → okR ds gs f1 j) := fun h1 h2 y hy _ _ => by
    obtain rfl := Option.some.inj (HX.out.symm.trans hy)
    exact h1.trans h2.symm
   have HMK : Hid (f1 xa = true ∨ f1 xb = true → RdI 6 ds gs f (j + 1) (two f1 xa xb) ∧ RgI ds gs z (two f1 xa xb)) := fun h => ⟨HD.out.mark (by have := HOK.out.e; rwa [hcn.1] at this) HX.out HJ.out, HG.out.mark HOK.out.e HOK.out.ne HX.out HJ.out HGJ.out h⟩
   rcases hfa : f1 xa with _ | _
   ·rcases hfb : f1 xb with _ | _
    ·have HN := Lib.hid (HSK.out hfa hfb)
     rw [hfa] at la
     rw [hfb] at lb
     clear hfa hfb HSK HMK
     go_wp2_with fail
     refine Handed.intro (nd - (j + 1)) (by omega) (hJ3 _ _ _ (LpI1.back 64 ?_ (by kernel_rfl)))
     dsimp only [gt]
     exact ⟨j + 1, m1, f1, by go_num, by omega, rfl, by omega, HWN, HD.out.skip HN.out, HG⟩
    ·have HN := Lib.hid (HMK.out (.inr hfb))
     rw [hfa] at la
     rw [hfb] at lb
     clear hfa hfb HSK HMK
     have HBS : Hid (W.drew.cell? ⟨bq, 2, none⟩ = some (.int .i64 xa) ∧ W.drew.cell? ⟨bq, 3, none⟩ = some (.int .i64 xb)) := ⟨d2, d3⟩
     obtain ⟨wa, ra, ma, ga⟩ := (HWN.out.mp.below (Below.refl _ _).drew).put (by omega) xa true (by omega) (by omega)
     obtain ⟨wab, rab, mab, gab⟩ := ma.put (by omega) xb true (by omega) (by omega)
     have HP1 : Hid (LvW w6 mb (m1 + 1 + 1) (two f1 xa xb) wab) := ((HWN.out.later (Below.refl _ _).drew).put ma ga).put mab gab
     have HC1 : Hid (wa.cell? ⟨bq, 2, none⟩ = some (.int .i64 xa) ∧ wa.cell? ⟨bq, 3, none⟩ = some (.int .i64 xb)) := by
      have hk := (HBK.out.below (Below.refl _ _).drew HBK.out.lt).grown ga (fun e => by injection e; omega)
      exact ⟨hk.cell 2, hk.cell 3⟩
     have HC3 : Hid (wab.cell? ⟨bq, 2, none⟩ = some (.int .i64 xa) ∧ wab.cell? ⟨bq, 3, none⟩ = some (.int .i64 xb)) := by
      have hk := ((HBK.out.below (Below.refl _ _).drew HBK.out.lt).grown ga (fun e => by injection e; omega)).grown gab (fun e => by injection e; omega)
      exact ⟨hk.cell 2, hk.cell 3⟩
     clear ma mab ga gab HWN
     go_upto_region 19 with (fail)
     clear la d1 d2 d3
     refine wp_region_J (S := fun W' => W'.cell? ⟨bq, 2, none⟩ = some (.int .i64 xa) ∧ W'.cell? ⟨bq, 3, none⟩ = some (.int .i64 xb)) (J := []) (by kernel_rfl) ?_ (fun hHeld => ?_)
     ·exact HBS.out
     try dsimp only at hHeld
     refine tk 0 90 (mf 8 1) hHeld ?_
     refine tk 1 91 (mf 8 2) hHeld ?_
     refine wpAnyJ_takeL (i := 2) (d := some 92) (v := ?_) (mf 8 3) (by kernel_rfl) rfl rfl (by kernel_rfl) (by kernel_rfl) (by kernel_rfl) (by kernel_rfl) (by kernel_rfl) (fun _ _ _ h => h) (Or.inl ⟨by rfl, ?_⟩) hHeld ?_
     rotate_left
     ·(intro w hSw; (try dsimp only at hSw); have s2 := hSw.1; go_simp; try with_reducible rfl)
     try simp only [Act.put, sA, s0, s1]
     refine tk 3 93 (mf 8 4) hHeld ?_
     refine tk 4 94 (mf 8 5) hHeld ?_
     refine wpAnyJ_takeL (i := 5) (d := some 95) (v := ?_) (mf 8 6) (by kernel_rfl) rfl rfl (by kernel_rfl) (by kernel_rfl) (by kernel_rfl) (by kernel_rfl) (by kernel_rfl) (fun _ _ _ h => h) (Or.inl ⟨by rfl, ?_⟩) hHeld ?_
     rotate_left
     ·(intro w hSw; (try dsimp only at hSw); have s3 := hSw.2; go_simp; try with_reducible rfl)
     try simp only [Act.put, sA, s0, s1]
     refine wpAnyJ_oneL (k := 6) (mf 8 7) (by kernel_rfl) (by kernel_rfl) rfl (fun K hK => ?_)
     go_simp
     refine hK.out _ _ (fun _ => ?_) (fun hHeld' => ?_)
     ·exact HC1.out
     replace hHeld := hHeld' rfl
     clear hHeld' hK K
     try dsimp only at hHeld
     refine wpAnyJ_oneL (k := 7) (mf 8 8) (by kernel_rfl) (by kernel_rfl) rfl (fun K hK => ?_)
     go_simp
     refine hK.out _ _ (fun _ => ?_) (fun hHeld' => ?_)
     ·exact HC3.out
     replace hHeld := hHeld' rfl
     clear hHeld' hK K
     try dsimp only at hHeld
     refine wpAnyJ_done (by kernel_rfl) ?_ _
     go_wp2_with fail
     refine Handed.intro (nd - (j + 1)) (by omega) (hJ3 _ _ _ (LpI1.back 64 ?_ (by kernel_rfl)))
     dsimp only [gt]
     exact ⟨j + 1, m1 + 1 + 1, two f1 xa xb, by go_num, by omega, rfl, by omega, HP1, HN.out.1, HN.out.2⟩
   ·have HN := Lib.hid (HMK.out (.inl hfa))
    rw [hfa] at la
    clear hfa HSK HMK lb
    have HBS : Hid (W.drew.cell? ⟨bq, 2, none⟩ = some (.int .i64 xa) ∧ W.drew.cell? ⟨bq, 3, none⟩ = some (.int .i64 xb)) := ⟨d2, d3⟩
    obtain ⟨wa, ra, ma, ga⟩ := (HWN.out.mp.below (Below.refl _ _).drew).put (by omega) xa true (by omega) (by omega)
    obtain ⟨wab, rab, mab, gab⟩ := ma.put (by omega) xb true (by omega) (by omega)
    have HP1 : Hid (LvW w6 mb (m1 + 1 + 1) (two f1 xa xb) wab) := ((HWN.out.later (Below.refl _ _).drew).put ma ga).put mab gab
    have HC1 : Hid (wa.cell? ⟨bq, 2, none⟩ = some (.int .i64 xa) ∧ wa.cell? ⟨bq, 3, none⟩ = some (.int .i64 xb)) := by
     have hk := (HBK.out.below (Below.refl _ _).drew HBK.out.lt).grown ga (fun e => by injection e; omega)
     exact ⟨hk.cell 2, hk.cell 3⟩
    have HC3 : Hid (wab.cell? ⟨bq, 2, none⟩ = some (.int .i64 xa) ∧ wab.cell? ⟨bq, 3, none⟩ = some (.int .i64 xb)) := by
     have hk := ((HBK.out.below (Below.refl _ _).drew HBK.out.lt).grown ga (fun e => by injection e; omega)).grown gab (fun e => by injection e; omega)
     exact ⟨hk.cell 2, hk.cell 3⟩
    clear ma mab ga gab HWN
    go_upto_region 19 with (fail)
    clear la d1 d2 d3
    refine wp_region_J (S := fun W' => W'.cell? ⟨bq, 2, none⟩ = some (.int .i64 xa) ∧ W'.cell? ⟨bq, 3, none⟩ = some (.int .i64 xb)) (J := []) (by kernel_rfl) ?_ (fun hHeld => ?_)
    ·exact HBS.out
    try dsimp only at hHeld
    refine tk 0 90 (mf 8 1) hHeld ?_
    refine tk 1 91 (mf 8 2) hHeld ?_
    refine wpAnyJ_takeL (i := 2) (d := some 92) (v := ?_) (mf 8 3) (by kernel_rfl) rfl rfl (by kernel_rfl) (by kernel_rfl) (by kernel_rfl) (by kernel_rfl) (by kernel_rfl) (fun _ _ _ h => h) (Or.inl ⟨by rfl, ?_⟩) hHeld ?_
    rotate_left
    ·(intro w hSw; (try dsimp only at hSw); have s2 := hSw.1; go_simp; try with_reducible rfl)
    try simp only [Act.put, sA, s0, s1]
    refine tk 3 93 (mf 8 4) hHeld ?_
    refine tk 4 94 (mf 8 5) hHeld ?_
    refine wpAnyJ_takeL (i := 5) (d := some 95) (v := ?_) (mf 8 6) (by kernel_rfl) rfl rfl (by kernel_rfl) (by kernel_rfl) (by kernel_rfl) (by kernel_rfl) (by kernel_rfl) (fun _ _ _ h => h) (Or.inl ⟨by rfl, ?_⟩) hHeld ?_
    rotate_left
    ·(intro w hSw; (try dsimp only at hSw); have s3 := hSw.2; go_simp; try with_reducible rfl)
    try simp only [Act.put, sA, s0, s1]
    refine wpAnyJ_oneL (k := 6) (mf 8 7) (by kernel_rfl) (by kernel_rfl) rfl (fun K hK => ?_)
    go_simp
    refine hK.out _ _ (fun _ => ?_) (fun hHeld' => ?_)
    ·exact HC1.out
    replace hHeld := hHeld' rfl
    clear hHeld' hK K
    try dsimp only at hHeld
    refine wpAnyJ_oneL (k := 7) (mf 8 8) (by kernel_rfl) (by kernel_rfl) rfl (fun K hK => ?_)
    go_simp
    refine hK.out _ _ (fun _ => ?_) (fun hHeld' => ?_)
    ·exact HC3.out
    replace hHeld := hHeld' rfl
    clear hHeld' hK K
    try dsimp only at hHeld
    refine wpAnyJ_done (by kernel_rfl) ?_ _
    go_wp2_with fail
    refine Handed.intro (nd - (j + 1)) (by omega) (hJ3 _ _ _ (LpI1.back 64 ?_ (by kernel_rfl)))
    dsimp only [gt]
    exact ⟨j + 1, m1 + 1 + 1, two f1 xa xb, by go_num, by omega, rfl, by omega, HP1, HN.out.1, HN.out.2⟩
  have hii : decide ((j : Int) < (nd : Int)) = false := by simp; omega
  have hii2 : decide (j < nd) = false := by simp; omega
  have HKN : Hid (RkI 6 ds gs (r + 1) f1) := HK.out.next HG0.out HG.out (by have h := HD.out; rwa [show j = ds.length by omega] at h)
  clear HD HK HG0
  go_wp2_with fail
  refine Handed.intro (6 - (r + 1)) (by omega) (hJ2 _ _ _ (LpI1.back 59 ?_ (by kernel_rfl)))
  dsimp only [gt]
  exact ⟨r + 1, m1, f1, by go_num, by omega, rfl, by omega, HW, HKN, HG⟩
 have hii : decide ((r : Int) < 6) = false := by simp; omega
 have hii2 : decide (r < 6) = false := by simp; omega
 have HFR : Hid (∀ v, f v = true ↔ Rgn ds gs z v) := fun v => by
  have h := HK.out
  have e : r = 6 := by omega
  rw [e] at h
  exact h.final HG.out v
 clear HK HG
 have k1 : wq.cell? ⟨nb, 1, none⟩ = some (.slice Ad nd cd) := (HV6.out.later HW.out.bl).m.bn.cell 1
 go_wp2_with fail
 clear k1 hii hii2
 refine wp_loop_u2 [(13, 0), (0, 2), (1, 1), (83, 0), (0, 3), (27, 1), (49, 0)] 14 101 (nd) (Lv4 w6 mb m ds gs f nd) (by (try dsimp only [gt]); exact ⟨0, rfl, rfl, Nat.zero_le _, rfl, HW⟩) (by kernel_rfl) ?_
 intro u4 p14 p101 gk wx a hrel ha J4 K4 hJ4 hK4
 dsimp only [relaxR, Go.Proofs.YtepicjpdhpojnaaGreatDoor.v2, Nat.reduceAdd] at ha
 subst ha
 clear HW wq
 obtain ⟨j, rfl, rfl, hj, rfl, HW⟩ := hrel
 by_cases hlt4 : j < nd
 ·obtain ⟨b, off, x, hA, hb, hx, hc⟩ := (HV6.out.later HW.out.bl).m.x.hd.1.at (fun _ => rfl) (by decide) hlt4
  have HAX := HOK.out.a x (List.mem_of_getElem? hx)
  have HSS := Lib.hid (srcTo_succ ds gs f j)
  have HSA : Hid (srcAt ds gs f j = (f x.a && (x.kind == 5 || (x.kind == 6 && !decide ((j : Int) ∈ gs))))) := by unfold Hid srcAt; rw [hx]
  obtain ⟨nm, kd, xa, xb, co⟩ := x
  simp only at HAX HSA
  rw [hcn.1] at HAX
  have c0 : wx.cell? ⟨b, off + j * 5, none⟩ = some (.string nm) := hc 0 _ rfl
  have c1 : wx.cell? ⟨b, off + j * 5 + 1, none⟩ = some (.int .i64 kd) := hc 1 _ rfl
  have c2 : wx.cell? ⟨b, off + j * 5 + 2, none⟩ = some (.int .i64 xa) := hc 2 _ rfl
  have c3 : wx.cell? ⟨b, off + j * 5 + 3, none⟩ = some (.int .i64 xb) := hc 3 _ rfl
  have c4 : wx.cell? ⟨b, off + j * 5 + 4, none⟩ = some (.int .i64 co) := hc 4 _ rfl
  subst hA
  clear hc hx
  go_upto_region 26 with (fail)
  clear c0 c1 c2 c3 c4 hb
  have HBK := Lib.hid (Blk.new wx 38 #[.string nm, .int .i64 kd, .int .i64 xa, .int .i64 xb, .int .i64 co])
  have HWN : Hid (LvW w6 mb m f (wx.alloc (.cells #[.string nm, .int .i64 kd, .int .i64 xa, .int .i64 xb, .int .i64 co] 38))) := HW.out.later ((Below.refl _ _).alloc (Nat.le_refl _) _)
  clear HW
  generalize World.alloc wx _ = W at *
  obtain ⟨bq, hbq⟩ : ∃ bq, bq = wx.heap.size := ⟨_, rfl⟩
  rw [← hbq] at HBK ⊢
  clear hbq
  have d1 : W.cell? ⟨bq, 1, none⟩ = some (.int .i64 kd) := HBK.out.cell 1
  have d2 : W.cell? ⟨bq, 2, none⟩ = some (.int .i64 xa) := HBK.out.cell 2
  have la := HWN.out.mp.look xa (by omega) (by omega)
  obtain ⟨sv, hsv⟩ : ∃ sv, sv = srcTo ds gs f j := ⟨_, rfl⟩
  rw [← hsv] at HSS ⊢
  clear hsv
  rcases sv with _ | _; rotate_left
  ·have HN : Hid (srcTo ds gs f (j + 1) = true) := HSS.out.trans rfl
   go_wp2_with fail
   refine Handed.intro (nd - (j + 1)) (by omega) (hJ4 _ _ _ (LpI2.back 14 101 ?_ (by kernel_rfl)))
   dsimp only [gt]
   exact ⟨j + 1, by rw [HN.out], by go_num, by omega, rfl, HWN⟩
  have HN0 : Hid (srcTo ds gs f (j + 1) = srcAt ds gs f j) := HSS.out.trans (Bool.false_or _)
  clear HSS
  rcases hfa : f xa with _ | _
  ·have HN : Hid (srcTo ds gs f (j + 1) = false) := by unfold Hid; rw [HN0.out, HSA.out, hfa]; rfl
   rw [hfa] at la
   clear hfa
   go_wp2_with fail
   refine Handed.intro (nd - (j + 1)) (by omega) (hJ4 _ _ _ (LpI2.back 14 101 ?_ (by kernel_rfl)))
   dsimp only [gt]
   exact ⟨j + 1, by rw [HN.out], by go_num, by omega, rfl, HWN⟩
  have HN1 : Hid (srcTo ds gs f (j + 1) = (kd == 5 || (kd == 6 && !decide ((j : Int) ∈ gs)))) := by unfold Hid; rw [HN0.out, HSA.out, hfa]; rfl
  rw [hfa] at la
  clear hfa HN0 HSA
  rcases h5 : (kd == 5) with _ | _; rotate_left
  ·have HN : Hid (srcTo ds gs f (j + 1) = true) := by unfold Hid; rw [HN1.out, h5]; rfl
   go_wp2_with fail
   refine Handed.intro (nd - (j + 1)) (by omega) (hJ4 _ _ _ (LpI2.back 14 101 ?_ (by kernel_rfl)))
   dsimp only [gt]
   exact ⟨j + 1, by rw [HN.out], by go_num, by omega, rfl, HWN⟩
  rcases h6 : (kd == 6) with _ | _
  ·have HN : Hid (srcTo ds gs f (j + 1) = false) := by unfold Hid; rw [HN1.out, h5, h6]; rfl
   go_wp2_with fail
   refine Handed.intro (nd - (j + 1)) (by omega) (hJ4 _ _ _ (LpI2.back 14 101 ?_ (by kernel_rfl)))
   dsimp only [gt]
   exact ⟨j + 1, by rw [HN.out], by go_num, by omega, rfl, HWN⟩
  have HN : Hid (srcTo ds gs f (j + 1) = !decide ((j : Int) ∈ gs)) := by unfold Hid; rw [HN1.out, h5, h6]; rfl
  clear HN1
  go_wp2_with fail
  refine (rhas_any Ag ng cg gs (j : Int) W (HV6.out.later HWN.out.bl).g.1).mono ?_
  rintro e w' ⟨rfl, rfl⟩
  rcases hgj : decide ((j : Int) ∈ gs) with _ | _
  ·rw [hgj] at HN
   clear hgj
   go_wp2_with fail
   refine Handed.intro (nd - (j + 1)) (by omega) (hJ4 _ _ _ (LpI2.back 14 101 ?_ (by kernel_rfl)))
   dsimp only [gt]
   exact ⟨j + 1, by rw [HN.out]; rfl, by go_num, by omega, rfl, HWN⟩
  ·rw [hgj] at HN
   clear hgj
   go_wp2_with fail
   refine Handed.intro (nd - (j + 1)) (by omega) (hJ4 _ _ _ (LpI2.back 14 101 ?_ (by kernel_rfl)))
   dsimp only [gt]
   exact ⟨j + 1, by rw [HN.out]; rfl, by go_num, by omega, rfl, HWN⟩
 have hii : decide ((j : Int) < (nd : Int)) = false := by simp; omega
 have hii2 : decide (j < nd) = false := by simp; omega
 have HSF : Hid (srcTo ds gs f j = true ↔ SrcIn ds gs z) := by
  have e : j = ds.length := by omega
  rw [e]
  exact srcTo_full HFR.out
 have HV7 := Lib.hid (HV6.out.later HW.out.bl)
 generalize srcTo ds gs f j = sv at *
 clear HV6 HW HFR
 have d1 := HV7.out.m.bf.cell 1
 have d2 := HV7.out.m.bf.cell 2
 have y1 := HV7.out.m.bf.frozen 1
 have y2 := HV7.out.m.bf.frozen 2
 go_upto_region 29 with (fail)
 clear d1 d2 y1 y2 hii hii2
 have HT := Lib.hid (lv_two HL.out HV7.out)
 generalize World.setCell (World.setCell wx _ _) _ _ = W1 at *
 clear HV7 wx
 have hn0 : n0 = nd := by have h1 := (stateErr_len (fdErr_zero HF4.out).1).2.1; omega
 have hn1 : n0 ≤ nd := by omega
 have hn2 : nd ≤ n0 := by omega
 have HSL : Hid (F.s.length = ds.length) := by unfold Hid; omega
 clear hn0
 have hsm := HT.out.x.hs.1.le
 have b0 := HT.out.bf.cell 0
 have z0 := HT.out.bf.frozen 0
 go_upto_region 30 with (at_builtin; go_must (refine wpList_app rfl _ (.tmp 133) rfl el_int (by rfl) (World.ownsRow_nil _ W1.heap.size _ _) (by rfl) HT.out.x.hs.1 (ints_one _) (by omega) (by omega) (by omega) ?_; intro A' c' w2 hown7 hgr7 hat7; simp only [Nat.zero_add, List.nil_append] at hown7 hgr7 ⊢; have HO := Lib.hid hown7; have hB2 : Below W1.heap.size W1 w2 := (below_none hgr7); have HBB := Lib.hid hB2; have y0 := (HT.out.bf.below hB2 HT.out.bf.lt).cell 0; have zz := (HT.out.bf.below hB2 HT.out.bf.lt).frozen 0; clear hown7 hgr7 hat7 hB2))
 clear b0 z0 y0 zz
 have H5 := Lib.hid (lv_five HL.out HT.out HBB.out HO.out)
 have HSN := Lib.hid HT.out.x.sn
 have HSD := Lib.hid HT.out.x.sd
 rw [← lvMix_zero ds gs F.s] at H5
 clear HT HBB HO
 generalize World.setCell w2 _ _ = w3 at *
 obtain ⟨B5, hB5⟩ : ∃ x, x = W1.heap.size := ⟨_, rfl⟩
 rw [← hB5] at H5
 clear hB5
 have k1 : w3.cell? ⟨nb, 1, none⟩ = some (.slice Ad nd cd) := H5.out.bn.cell 1
 go_wp2_with fail
 clear k1
 refine wp_loop_u1 [(16, 0), (1, 1), (119, 0), (0, 2), (20, 1), (18, 0)] 139 (nd) (Lv5R w1 B5 nb An Ad Az Ag cn nd cd nz cz ng cg ns ds z gs A' n0 c' F.s) (by (try dsimp only [gt]); exact ⟨0, rfl, Nat.zero_le _, rfl, H5⟩) (by kernel_rfl) ?_
 intro u5 p139 gk wx a hrel ha J5 K5 hJ5 hK5
 dsimp only [relaxR, Go.Proofs.YtepicjpdhpojnaaGreatDoor.v1, Nat.reduceAdd] at ha
 subst ha
 clear H5 w3
 obtain ⟨j, rfl, hj, rfl, H5⟩ := hrel
 by_cases hlt5 : j < nd
 ·obtain ⟨b, off, x, hA, hb, hx, hc⟩ := H5.out.hd.at (fun _ => rfl) (by decide) hlt5
  have HX := Lib.hid hx
  obtain ⟨nm, kd, xa, xb, co⟩ := x
  have HKD : Hid (kindOf ds (j : Int) = kd) := kindOf_at hx
  have HLS := Lib.hid (lvMix_set (gs := gs) HSL.out (i := j) (by omega))
  have c0 : wx.cell? ⟨b, off + j * 5, none⟩ = some (.string nm) := hc 0 _ rfl
  have c1 : wx.cell? ⟨b, off + j * 5 + 1, none⟩ = some (.int .i64 kd) := hc 1 _ rfl
  have c2 : wx.cell? ⟨b, off + j * 5 + 2, none⟩ = some (.int .i64 xa) := hc 2 _ rfl
  have c3 : wx.cell? ⟨b, off + j * 5 + 3, none⟩ = some (.int .i64 xb) := hc 3 _ rfl
  have c4 : wx.cell? ⟨b, off + j * 5 + 4, none⟩ = some (.int .i64 co) := hc 4 _ rfl
  have hjn : j < n0 := by omega
  obtain ⟨rg0, rx0, hA0, -, hr0, -⟩ := H5.out.hs.at hjn
  subst hA
  clear hc hx
  go_upto_region 33 with (fail)
  clear c0 c1 c2 c3 c4 hb
  have HBK := Lib.hid (Blk.new wx 38 #[.string nm, .int .i64 kd, .int .i64 xa, .int .i64 xb, .int .i64 co])
  have HA5 := Lib.hid (H5.out.later ((Below.refl _ wx).alloc (Nat.le_refl _) (.cells #[.string nm, .int .i64 kd, .int .i64 xa, .int .i64 xb, .int .i64 co] 38)))
  clear H5
  generalize World.alloc wx _ = W at *
  obtain ⟨bq, hbq⟩ : ∃ bq, bq = wx.heap.size := ⟨_, rfl⟩
  rw [← hbq] at HBK hr0 ⊢
  clear hbq
  obtain ⟨rg, rx, hA, hrl, hrx, hrc, hrf, hst⟩ := HA5.out.put (i := j) (by omega) HL.out HA5.out.wl
  have f0 : W.cell? ⟨nb + 1, 0, none⟩ = some (.slice A' n0 c') := HA5.out.bf.cell 0
  obtain rfl : rg = rg0 := by rw [hA0] at hA; injection hA with h; injection h with h _ _; exact h.symm
  subst hA0
  clear hA
  have HN5 := Lib.hid (hst 2)
  have HBV := Lib.hid (HBK.out.far (p := ⟨rg, j, none⟩) (by simp; omega) (.int .i64 2))
  clear hst hrx HA5
  go_upto_region 34 with (fail)
  clear f0 hrc hrf
  generalize World.setCell W _ _ = V at *
  have HHB : Hid (hasB gs (j : Int) = decide ((j : Int) ∈ gs)) := has_dec gs j
  go_wp2_with fail
  refine (rhas_any Ag ng cg gs (j : Int) V (HN5.out.hg.more HN5.out.le)).mono ?_
  rintro e w' ⟨rfl, rfl⟩
  have d1 : V.cell? ⟨bq, 1, none⟩ = some (.int .i64 kd) := HBV.out.cell 1
  rcases hgj : decide ((j : Int) ∈ gs) with _ | _
  ·by_cases h4 : kd = 4
   ·have q4 : (kd == 4) = true := by simpa using h4
    have HE : Hid ((if hasB gs (j : Int) = true ∨ kindOf ds (j : Int) = 4 then (1 : Int) else 2) = 1) := if_pos (.inr (HKD.out.trans h4))
    clear hgj h4
    obtain ⟨rg2, rx, hA2, hrl, hrx, hrc, hrf, hst⟩ := HN5.out.put (i := j) hjn HL.out HN5.out.wl
    obtain rfl : rg = rg2 := by injection hA2 with h; injection h
    have f0 : V.cell? ⟨nb + 1, 0, none⟩ = some (.slice (some ⟨rg, 0, none⟩) n0 c') := HN5.out.bf.cell 0
    have HN6 := Lib.hid (show Lv5 w1 B5 nb An (some ⟨b, off, none⟩) Az Ag cn nd cd nz cz ng cg ns ds z gs (some ⟨rg, 0, none⟩) n0 c' (lvMix ds gs F.s (j + 1)) (V.setCell ⟨rg, j, none⟩ (.int .i64 1)) by have e := HLS.out; rw [HE.out] at e; have h := hst 1; rwa [List.set_set, e] at h)
    clear hst hrx hA2
    go_wp2_with fail
    refine Handed.intro (nd - (j + 1)) (by omega) (hJ5 _ _ _ (LpI1.back 139 ?_ (by kernel_rfl)))
    dsimp only [gt]
    exact ⟨j + 1, by go_num, by omega, rfl, HN6⟩
   ·have q4 : (kd == 4) = false := by simpa using h4
    have HE : Hid ((if hasB gs (j : Int) = true ∨ kindOf ds (j : Int) = 4 then (1 : Int) else 2) = 2) := if_neg (by rw [HHB.out, hgj, HKD.out]; simpa using h4)
    have HN6 := Lib.hid (show Lv5 w1 B5 nb An (some ⟨b, off, none⟩) Az Ag cn nd cd nz cz ng cg ns ds z gs (some ⟨rg, 0, none⟩) n0 c' (lvMix ds gs F.s (j + 1)) V by have e := HLS.out; rw [HE.out] at e; have h := HN5.out; rwa [e] at h)
    clear hgj h4
    go_wp2_with fail
    refine Handed.intro (nd - (j + 1)) (by omega) (hJ5 _ _ _ (LpI1.back 139 ?_ (by kernel_rfl)))
    dsimp only [gt]
    exact ⟨j + 1, by go_num, by omega, rfl, HN6⟩
  ·have HE : Hid ((if hasB gs (j : Int) = true ∨ kindOf ds (j : Int) = 4 then (1 : Int) else 2) = 1) := if_pos (.inl (HHB.out.trans hgj))
   clear hgj
   obtain ⟨rg2, rx, hA2, hrl, hrx, hrc, hrf, hst⟩ := HN5.out.put (i := j) hjn HL.out HN5.out.wl
   obtain rfl : rg = rg2 := by injection hA2 with h; injection h
   have f0 : V.cell? ⟨nb + 1, 0, none⟩ = some (.slice (some ⟨rg, 0, none⟩) n0 c') := HN5.out.bf.cell 0
   have HN6 := Lib.hid (show Lv5 w1 B5 nb An (some ⟨b, off, none⟩) Az Ag cn nd cd nz cz ng cg ns ds z gs (some ⟨rg, 0, none⟩) n0 c' (lvMix ds gs F.s (j + 1)) (V.setCell ⟨rg, j, none⟩ (.int .i64 1)) by have e := HLS.out; rw [HE.out] at e; have h := hst 1; rwa [List.set_set, e] at h)
   clear hst hrx hA2
   go_wp2_with fail
   refine Handed.intro (nd - (j + 1)) (by omega) (hJ5 _ _ _ (LpI1.back 139 ?_ (by kernel_rfl)))
   dsimp only [gt]
   exact ⟨j + 1, by go_num, by omega, rfl, HN6⟩
 have hii : decide ((j : Int) < (nd : Int)) = false := by simp; omega
 have hii2 : decide (j < nd) = false := by simp; omega
 have HML := Lib.hid (lvMix_full (gs := gs) HSL.out)
 have H6 : Hid (Lv5 w1 B5 nb An Ad Az Ag cn nd cd nz cz ng cg ns ds z gs A' n0 c' (lvS ds gs) wx) := by
  have h := H5.out
  rwa [show j = ds.length by omega, HML.out] at h
 have HFE : Hid (fdErr ns ds ⟨lvS ds gs, [], []⟩ = 0) := fdErr_ok (by unfold stateErr; rw [if_neg (by simp [HCK.out]), if_neg (by simp [lvS_len]), if_pos lvS_pos]) (locks_fine HCK.out ⟨by simp, by simp, .nil⟩) (fun k hk => by cases hk) (StkOk.of .nil (fun x hx => by cases hx))
 have HL0 : Hid (locksErr ns ds [] = 0) := locks_fine HCK.out ⟨by simp, by simp, .nil⟩
 have HFM : Hid (FdM wx An Ad A' none none 6 cn nd cd n0 c' 0 0 0 0 ns ds ⟨lvS ds gs, [], []⟩) := ⟨H6.out.hn.more H6.out.le, H6.out.hd.more H6.out.le, H6.out.hs.sl, Sl.nil _ _ _, Sl.nil _ _ _, H6.out.la, HSN.out, HSD.out⟩
 have k0 : wx.cell? ⟨nb, 0, none⟩ = some (.slice An 6 cn) := H6.out.bn.cell 0
 have k1 : wx.cell? ⟨nb, 1, none⟩ = some (.slice Ad nd cd) := H6.out.bn.cell 1
 have f0 : wx.cell? ⟨nb + 1, 0, none⟩ = some (.slice A' n0 c') := H6.out.bf.cell 0
 have f1 : wx.cell? ⟨nb + 1, 1, none⟩ = some (.slice none 0 0) := H6.out.bf.cell 1
 have f2 : wx.cell? ⟨nb + 1, 2, none⟩ = some (.slice none 0 0) := H6.out.bf.cell 2
 clear H5
 go_wp2_with fail
 clear k0 k1 f0 f1 f2 hii hii2
 refine (Secure_any An Ad A' none none none Az 6 cn nd cd n0 c' 0 0 0 0 0 0 nz cz ns ds ⟨lvS ds gs, [], []⟩ [] z false wx HFM.out (Sl.nil _ _ _) (H6.out.hz.more H6.out.le) (by omega)).mono ?_
 rintro e w9 ⟨⟨he, _⟩ | ⟨_, co, hco, rfl⟩, hb9⟩
 ·exact absurd (sec_err HFE.out HL0.out HZE.out).1 he
 have HBE := Lib.hid (H6.out.bl.trans (hb9.out.mono (Nat.le_trans H6.out.wl H6.out.le)))
 have HFI : Hid (secB ns ds ⟨lvS ds gs, [], []⟩ [] z co false = !sv) := by
  have h := lv_law (ds := ds) (z := z) (nn := 6) (cl := co) (by have := HOK.out.a; rwa [hcn.1] at this) HGP.out HZM.out hco.out
  have h2 := HSF.out
  have h3 : allB [] [] ([] : List Lk).length = true := rfl
  unfold Hid
  rw [sec_no, h3, Bool.true_and]
  rcases sv with _ | _
  ·exact h.2 (fun k => by cases h2.2 k)
  ·rcases hdd : deadB co z z.length with _ | _
   ·rfl
   ·exact absurd (h2.1 rfl) (h.1 hdd)
 clear hb9 hco
 rw [HFI.out]
 clear HFI HSF
 rcases sv with _ | _
 all_goals (go_wp2_with fail; go_ret; exact ⟨rfl, HB0.out.trans (HBE.out.mono hsz)⟩)
end Go.Proofs.YtepicjpdhpojnaaGreatDoor
