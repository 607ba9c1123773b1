import Derived.Test.YtepicjpdhpojnaaGreatDoorS30
import Derived.Test.YtepicjpdhpojnaaGreatDoorS31
import Derived.Shelf.Abstract
import Derived.Test.YtepicjpdhpojnaaGreatDoorS26
import Derived.Test.YtepicjpdhpojnaaGreatDoorS27
import Derived.Test.YtepicjpdhpojnaaGreatDoorS25
set_option maxRecDepth 100000
set_option maxHeartbeats 8000000
namespace Go.Proofs.YtepicjpdhpojnaaGreatDoor
open Go.RowKit
theorem rMissing_any (An Ad Al Az : Option Addr) (nn cn nd cd nl cl n c : Nat) (ns : List Nd) (ds : List Dv) (ls : List Lk) (z : List Int) (w : World) (hl : Laid w) (hn : Sl w w.heap.size 3 An nn cn (ns.flatMap Nd.cells)) (hd : Sl w w.heap.size 5 Ad nd cd (ds.flatMap Dv.cells)) (hs : Sl w w.heap.size 3 Al nl cl (ls.flatMap Lk.cells)) (hz : Sl w w.heap.size 1 Az n c (intsV z))
 (hsn : ∀ x ∈ ns, x.name.size ≤ 9223372036854775807) (hsd : ∀ x ∈ ds, x.name.size ≤ 9223372036854775807) (hnz : n ≤ 10000) (hnd : nd ≤ 1000) :
 Calls Tryz.prog 59 #[.agg #[.slice An nn cn, .slice Ad nd cd], .slice Al nl cl, .slice Az n c] w (ListPost w (sideErr ns ds ls z) (sideL ns ds ls z)) := by
 have HLN := Lib.hid (hn.len (fun _ => rfl) (by decide))
 have HB : Hid (Below w.heap.size w (w.alloc (.cells #[.slice An nn cn, .slice Ad nd cd] 30))) := (Below.refl _ _).alloc (Nat.le_refl _) _
 have HK := Lib.hid (Blk.new w 30 #[.slice An nn cn, .slice Ad nd cd])
 have HC := Lib.hid (rCounted_any An Ad Al Az nn cn nd cd nl cl n c ns ds ls z (w.alloc (.cells #[.slice An nn cn, .slice Ad nd cd] 30)) (hl.alloc _) ((hn.alloc (Nat.le_refl _) _).more (by simp)) ((hd.alloc (Nat.le_refl _) _).more (by simp)) ((hs.alloc (Nat.le_refl _) _).more (by simp)) ((hz.alloc (Nat.le_refl _) _).more (by simp)) hsn hsd hnz hnd)
 have HD := Lib.hid hd; have HZ := Lib.hid hz
 have HLZ := Lib.hid (hz.len (fun _ => rfl) (by decide))
 clear hl hn hd hs hz hsn hsd
 go_enter Tryz.func59, Tryz.ntmps59
 go_wp2_with fail
 generalize World.alloc w _ = W at *
 refine HC.out.mono ?_
 rintro e w1 ⟨hcase, hb1⟩
 have HB1 := Lib.hid (HB.out.trans (hb1.out.mono HB.out.size))
 have HK1 := Lib.hid (HK.out.below hb1.out HK.out.lt)
 clear HB HK HC
 rcases hcase with ⟨he, rfl⟩ | ⟨he, Ae, ne, ce, rfl, hoe⟩
 ·have q : (sideErr ns ds ls z != 0) = true := by simpa using he
  have HNZ := Lib.hid he
  clear he hb1
  go_wp2_with fail
  go_ret2
  exact ⟨.inl ⟨HNZ.out, rfl⟩, HB1.out⟩
 have HEZ := Lib.hid he
 have HZE : Hid (zoneErr ns ds z = 0) := by
  unfold Hid
  unfold sideErr at he
  split at he
  ·next h => exact absurd he h
  ·exact he
 obtain ⟨hck, hzp, hzr⟩ := zoneErr_zero HZE.out
 have HOK := Lib.hid (NetOk.of hck)
 have hnl := HOK.out.nl
 have hnn : nn ≤ 10000 := by have := HLN.out; omega
 have HZI : Hid (∀ v ∈ z, 0 ≤ v ∧ v < nn) := fun v hv => by have := ris_mem hzr v hv; rw [HLN.out] at this; omega
 have HEN : Hid (EndsOk nn ds) := by have := HOK.out.e; rw [HLN.out] at this; exact this
 have HAO : Hid (AOk nn ds) := by have := HOK.out.a; rw [HLN.out] at this; exact this
 clear he hck hzp hzr hnl
 have hzw := HB1.out.size
 have k0 : w1.cell? ⟨w.heap.size, 0, none⟩ = some (.slice An nn cn) := HK1.out.cell 0
 have k1 : w1.cell? ⟨w.heap.size, 1, none⟩ = some (.slice Ad nd cd) := HK1.out.cell 1
 go_wp2_with fail
 clear k0 k1
 refine (rmiss_any An Ad Az Ae nn cn nd cd n c ne ce ds (cntL ns ds ls z) z w1 ((HD.out.below HB1.out (Nat.le_refl _)).more hzw) ((HZ.out.below HB1.out (Nat.le_refl _)).more hzw) hoe.out.sl hnn HEN.out HAO.out HOK.out.ne HZI.out hnz).mono ?_
 rintro e w2 ⟨A2, c2, rfl, hO, hb2⟩
 clear hb1 hoe
 go_wp2_with fail
 go_ret2
 exact ⟨.inr ⟨HEZ.out, A2, _, c2, rfl, hO.out.mono hzw⟩, HB1.out.trans (hb2.out.mono hzw)⟩
theorem rSides_any (An Ad Al Az : Option Addr) (nn cn nd cd nl cl n c : Nat) (ns : List Nd) (ds : List Dv) (ls : List Lk) (z : List Int) (w : World) (hl : Laid w) (hn : Sl w w.heap.size 3 An nn cn (ns.flatMap Nd.cells)) (hd : Sl w w.heap.size 5 Ad nd cd (ds.flatMap Dv.cells)) (hs : Sl w w.heap.size 3 Al nl cl (ls.flatMap Lk.cells)) (hz : Sl w w.heap.size 1 Az n c (intsV z))
 (hsn : ∀ x ∈ ns, x.name.size ≤ 9223372036854775807) (hsd : ∀ x ∈ ds, x.name.size ≤ 9223372036854775807) (hnz : n ≤ 10000) (hnd : nd ≤ 1000) :
 Calls Tryz.prog 21 #[.agg #[.slice An nn cn, .slice Ad nd cd], .slice Al nl cl, .slice Az n c] w (SidesPost w (sideErr ns ds ls z) (sidesB ns ds ls z)) := by
 have HB : Hid (Below w.heap.size w (w.alloc (.cells #[.slice An nn cn, .slice Ad nd cd] 30))) := (Below.refl _ _).alloc (Nat.le_refl _) _
 have HC := Lib.hid (rMissing_any An Ad Al Az nn cn nd cd nl cl n c ns ds ls z (w.alloc (.cells #[.slice An nn cn, .slice Ad nd cd] 30)) (hl.alloc _) ((hn.alloc (Nat.le_refl _) _).more (by simp)) ((hd.alloc (Nat.le_refl _) _).more (by simp)) ((hs.alloc (Nat.le_refl _) _).more (by simp)) ((hz.alloc (Nat.le_refl _) _).more (by simp)) hsn hsd hnz hnd)
 have hzl := HB.out.size
 clear hl hn hd hs hz hsn hsd
 go_enter Tryz.func21, Tryz.ntmps21
 go_wp2_with fail
 generalize World.alloc w _ = W at *
 refine HC.out.mono ?_
 rintro e w1 ⟨hcase, hb1⟩
 have HB1 := Lib.hid (HB.out.trans (hb1.out.mono HB.out.size))
 clear HB HC
 rcases hcase with ⟨he, rfl⟩ | ⟨he, Ae, ne, ce, rfl, hoe⟩
 ·have q : (sideErr ns ds ls z == 0) = false := by simpa using he
  have HNZ := Lib.hid he
  clear he hb1
  go_wp2_with fail
  go_ret2
  exact ⟨by rw [decide_eq_false HNZ.out]; rfl, HB1.out⟩
 have HEZ := Lib.hid he
 have HSB : Hid (sidesB ns ds ls z = ((ne : Int) == 0)) := by
  unfold Hid sidesB
  have := hoe.out.len
  cases hh : sideL ns ds ls z <;> rw [hh] at this <;> simp at this ⊢ <;> omega
 clear he hb1 hoe
 go_wp2_with fail
 go_ret2
 exact ⟨by rw [HEZ.out, HSB.out]; rfl, HB1.out⟩
end Go.Proofs.YtepicjpdhpojnaaGreatDoor
namespace Go.Proofs.YtepicjpdhpojnaaGreatDoor
open Go.RowKit
structure PaSt (w : World) (N : Array Value) (As : Option Addr) (n c go nn : Nat) (out : List Int) (wr : World) : Prop where
 bx : Blk wr w.heap.size 30 N
 sx : Blk wr (w.heap.size + 1) 22 #[.slice As n c]
 ob : IntsO wr (w.heap.size + 2) (some ⟨go, 0, none⟩) nn nn out
 bl : Below w.heap.size w wr
section
variable {w wr wr' : World} {N : Array Value} {As : Option Addr} {n c go nn : Nat} {out : List Int}
theorem PaSt.ge (h : PaSt w N As n c go nn out wr) : w.heap.size + 2 ≤ go ∧ go < wr.heap.size := h.ob.lt go rfl
theorem PaSt.later (h : PaSt w N As n c go nn out wr) (hb : Below wr.heap.size wr wr') : PaSt w N As n c go nn out wr' :=
 ⟨h.bx.below hb h.bx.lt, h.sx.below hb h.sx.lt, h.ob.later hb, h.bl.trans (hb.mono h.bl.size)⟩
theorem PaSt.alloc (h : PaSt w N As n c go nn out wr) (o : Obj) : PaSt w N As n c go nn out (wr.alloc o) := h.later ((Below.refl _ _).alloc (Nat.le_refl _) _)
theorem PaSt.put (h : PaSt w N As n c go nn out wr) {k : Nat} (hk : k < nn) (v : Int) : PaSt w N As n c go nn (out.set k v) (wr.setCell ⟨go, k, none⟩ (.int .i64 v)) := by
 have hg := h.ge
 obtain ⟨g, x, hA, h1, h2, hx, hc, hf, hst⟩ := h.ob.at hk
 injection hA with hA
 injection hA with hA
 subst hA
 exact ⟨h.bx.far (by simp; omega) _, h.sx.far (by simp; omega) _, hst v, h.bl.setCell (by simp; omega) _⟩
theorem PaSt.cell (h : PaSt w N As n c go nn out wr) {k : Nat} (hk : k < nn) : ∃ x, out[k]? = some x ∧ wr.cell? ⟨go, k, none⟩ = some (.int .i64 x) ∧ wr.frozen? ⟨go, k, none⟩ = false := by
 obtain ⟨g, x, hA, h1, h2, hx, hc, hf, hst⟩ := h.ob.at hk
 injection hA with hA
 injection hA with hA
 subst hA
 exact ⟨x, hx, hc, hf⟩
end
theorem closed_any (As : Option Addr) (n c B : Nat) (s : List Int) (p : Addr) (i : Nat) (w : World) (hs : Sl w B 1 As n c (intsV s)) (hp : w.cell? p = some (.slice As n c)) (hi : i < n) : Calls Tryz.prog 129 #[.int .i64 i, .pointer (some p)] w fun e w' => e = .returned (.bool (shutB s i)) ∧ w = w' := by
 obtain ⟨b, off, x, rfl, hb, hx, hc⟩ := hs.at1 hi
 have hm := hs.le
 have HC : Hid (shutB s i = (x == 2)) := by unfold Hid shutB; rw [List.getD_eq_getElem?_getD, hx]; rfl
 clear hs hx
 go_enter Tryz.func129, Tryz.ntmps129
 go_wp2_with fail
 go_ret
 exact ⟨ret_bool (by rw [HC.out]), rfl⟩
theorem never_any (v : Int) (w : World) : Calls Tryz.prog 130 #[.int .i64 v] w fun e w' => e = .returned (.bool false) ∧ w = w' := by
 go_enter Tryz.func130, Tryz.ntmps130
 go_wp2_with fail
 go_ret
 exact ⟨rfl, rfl⟩
def PartsPost (w : World) (nn : Nat) (ds : List Dv) (s : List Int) (e : Ending) (w' : World) : Prop :=
 ∃ (A : Option Addr) (out : List Int), e = .returned (.slice A nn nn) ∧ Hid (IntsO w' w.heap.size A nn nn out) ∧ Hid (IsParts nn ds s out) ∧ Hid (Below w.heap.size w w')
def PaR1 (w : World) (N : Array Value) (As : Option Addr) (n c go nn gk : Nat) (iv : Value) (wr : World) : Prop :=
 ∃ (i : Nat) (out : List Int), iv = .int .i64 i ∧ i ≤ nn ∧ gk = nn - i ∧ Hid (PaSt w N As n c go nn out wr) ∧ Hid (∀ j, j < i → out[j]? = some (-1))
def PaR2 (w : World) (N : Array Value) (As : Option Addr) (n c go nn : Nat) (ds : List Dv) (s : List Int) (gk : Nat) (iv : Value) (wr : World) : Prop :=
 ∃ (i : Nat) (out : List Int), iv = .int .i64 i ∧ i ≤ nn ∧ gk = nn - i ∧ Hid (PaSt w N As n c go nn out wr) ∧ Hid (PInv nn ds s i out)
def PaR3 (w : World) (N : Array Value) (As : Option Addr) (n c go nn : Nat) (Al : Option Addr) (l : List Bool) (v : Nat) (out0 : List Int) (gk : Nat) (iv : Value) (wr : World) : Prop :=
 ∃ (i : Nat) (out : List Int), iv = .int .i64 i ∧ i ≤ nn ∧ gk = nn - i ∧ Hid (PaSt w N As n c go nn out wr) ∧ Hid (Upd out0 l v i out) ∧ Hid (BoolsO wr (go + 1) Al nn nn l)
theorem parts_any (An Ad As : Option Addr) (nn cn nd cd n c Bd Bs : Nat) (ds : List Dv) (s : List Int) (w : World)
 (hd : Sl w Bd 5 Ad nd cd (ds.flatMap Dv.cells)) (hBd : Bd ≤ w.heap.size) (hs : Sl w Bs 1 As n c (intsV s)) (hBs : Bs ≤ w.heap.size) (hnn : nn ≤ 10000) (hn : nd ≤ n) (hends : EndsOk nn ds) :
 Calls Tryz.prog 116 #[.agg #[.slice An nn cn, .slice Ad nd cd], .slice As n c] w (PartsPost w nn ds s) := by
 have HD := Lib.hid hd; have HS := Lib.hid hs; have HE := Lib.hid hends
 clear hd hs hends
 have hmk := run_mk_int nn (by omega) ((w.alloc (.cells #[.slice An nn cn, .slice Ad nd cd] 30)).alloc (.cells #[.slice As n c] 22))
 have hsz1 : ((w.alloc (.cells #[.slice An nn cn, .slice Ad nd cd] 30)).alloc (.cells #[.slice As n c] 22)).heap.size = w.heap.size + 1 + 1 := by simp
 have HST : Hid (PaSt w #[.slice An nn cn, .slice Ad nd cd] As n c (w.heap.size + 1 + 1) nn (List.replicate nn 0) (((w.alloc (.cells #[.slice An nn cn, .slice Ad nd cd] 30)).alloc (.cells #[.slice As n c] 22)).alloc (.cells (intsV (List.replicate nn 0)).toArray 3))) := by
  refine ⟨((Blk.new w _ _).alloc _).alloc _, ?_, ?_, (((Below.refl _ _).alloc (Nat.le_refl _) _).alloc (by simp) _).alloc (by simp; omega) _⟩
  ·have := Blk.new (w.alloc (.cells #[.slice An nn cn, .slice Ad nd cd] 30)) 22 #[.slice As n c]
   rw [World.size_alloc] at this
   exact this.alloc _
  ·have := ints_new (w := (w.alloc (.cells #[.slice An nn cn, .slice Ad nd cd] 30)).alloc (.cells #[.slice As n c] 22)) (base := w.heap.size + 2) (n := nn) (by simp) (by omega)
   rw [hsz1] at this
   exact this
 rw [hsz1] at hmk
 clear hsz1
 have hmf : ∀ (fn : Fn) (first cap : Array Value) (w : World), (Instr.makeFunc fn first cap).run Tryz.prog w = .ok (.func fn first cap) w := fun _ _ _ _ => rfl
 go_enter Tryz.func116, Tryz.ntmps116
 go_wp2_with fail
 clear hmk
 obtain ⟨go, hgo⟩ : ∃ go, go = w.heap.size + 1 + 1 := ⟨_, rfl⟩
 rw [← hgo] at HST ⊢
 have hgo1 : w.heap.size + 2 ≤ go := by omega
 clear hgo
 generalize World.alloc (World.alloc (World.alloc _ _) _) _ = W at *
 go_loopg [18] nn (PaR1 w #[.slice An nn cn, .slice Ad nd cd] As n c go nn)
 case atStart => exact ⟨0, _, rfl, Nat.zero_le _, rfl, HST, fun j hj => absurd hj (by omega)⟩
 case round =>
  clear HST
  obtain ⟨i, out, rfl, hi, rfl, hst, hm1⟩ := hrel
  by_cases hlt : i < nn
  ·obtain ⟨x, hx, hcell, hfz⟩ := hst.out.cell hlt
   clear hx
   have HM := Lib.hid (hst.out.put hlt (-1))
   have HOL := Lib.hid hst.out.ob.len
   go_wp2_with fail
   go_roundg (nn - (i + 1))
   case rel => exact ⟨i + 1, _, by go_num, by omega, rfl, HM, rep_set nn i out HOL.out hm1.out hlt⟩
   case measure => omega
  ·obtain rfl : i = nn := by omega
   have hii : decide (i < i) = false := by simp
   have HPI : Hid (PInv i ds s 0 out) := by
    have := rep_all i out hst.out.ob.len hm1.out
    rw [this]
    exact PInv.start i ds s
   clear hm1
   go_wp2_with fail
   go_loopg [28] i (PaR2 w #[.slice An i cn, .slice Ad nd cd] As n c go i ds s)
   case atStart => exact ⟨0, _, rfl, Nat.zero_le _, rfl, hst, HPI⟩
   case round =>
    clear hst HPI hii
    obtain ⟨v, out, rfl, hv, rfl, hst, hPI⟩ := hrel
    by_cases hlv : v < i; rotate_left
    ·obtain rfl : v = i := by omega
     have hvv : decide (v < v) = false := by simp
     go_wp2_with fail
     go_ret
     exact ⟨_, out, rfl, hst.out.ob.mono (by omega), hPI.out.final, hst.out.bl⟩
    ·obtain ⟨x, hx, hcell, hfz⟩ := hst.out.cell hlv
     have HX := Lib.hid hx; clear hx
     by_cases h0 : 0 ≤ x
     ·go_wp2_with fail
      go_roundg (i - (v + 1))
      case rel => exact ⟨v + 1, out, by go_num, by omega, rfl, hst, hPI.out.skip HX.out h0⟩
      case measure => omega
     ·have q0 : decide (0 ≤ x) = false := by simpa using h0
      have k0 : wr.cell? ⟨w.heap.size, 0, none⟩ = some (.slice An i cn) := hst.out.bx.cell 0
      have k1 : wr.cell? ⟨w.heap.size, 1, none⟩ = some (.slice Ad nd cd) := hst.out.bx.cell 1
      go_wp2_with fail
      clear k0 k1 hcell hfz q0
      have HST1 := Lib.hid (hst.out.alloc (.cells #[.int .i64 v] 3))
      have HSL : Hid (Sl (wr.alloc (.cells #[.int .i64 v] 3)) (wr.heap.size + 1) 1 (some ⟨wr.heap.size, 0, none⟩) 1 1 (intsV [(v : Int)])) := Sl.newest (n := 1) rfl rfl (by decide)
      have hgw := hst.out.ge
      have hwz : (wr.alloc (.cells #[.int .i64 v] 3)).heap.size = wr.heap.size + 1 := by simp
      have HWZ := Lib.hid hwz; clear hwz hst
      obtain ⟨bq, hbq⟩ : ∃ bq, bq = wr.heap.size := ⟨_, rfl⟩
      rw [← hbq] at HSL HWZ ⊢
      generalize World.alloc _ _ = w1 at *
      refine (flood_any An Ad (some ⟨bq, 0, none⟩) i cn nd cd 1 1 Bd (bq + 1) 129 130 #[.pointer (some ⟨w.heap.size + 1, 0, none⟩)] #[] ds [(v : Int)] (shutB s) (fun _ => false) w1 (HD.out.below HST1.out.bl hBd) (by have := HST1.out.bl.size; omega) HSL.out (by have := HWZ.out; omega) hnn (by decide) HE.out ?_ ?_ ?_ ?_ ?_).mono ?_
      ·intro u hu; rw [List.mem_singleton.1 hu]; omega
      ·exact enters_of Tryz.func129 (by kernel_rfl) rfl
      ·exact enters_of Tryz.func130 (by kernel_rfl) rfl
      ·intro W j hb hj
       refine (closed_any As n c Bs s ⟨w.heap.size + 1, 0, none⟩ j W ((HS.out.below HST1.out.bl hBs).below hb (by have := HST1.out.bl.size; omega)) ?_ (by omega)).mono ?_
       ·exact (HST1.out.sx.below hb HST1.out.sx.lt).cell 0
       ·rintro e W' ⟨rfl, rfl⟩; exact ⟨rfl, Below.refl _ _⟩
      ·intro W u hb _ _
       refine (never_any u W).mono ?_
       rintro e W' ⟨rfl, rfl⟩; exact ⟨rfl, Below.refl _ _⟩
      ·rintro e w2 ⟨Al, l, rfl, hll, hlo, hlr, hb2⟩
       have HST2 := Lib.hid (HST1.out.later hb2.out)
       have HLO : Hid (BoolsO w2 (go + 1) Al i i l) := hlo.out.mono (by have := HWZ.out; omega)
       have HLL := Lib.hid hll
       clear HST1 hb2 hlo hll HSL HWZ
       go_wp2_with fail
       go_loopg [43] i (PaR3 w #[.slice An i cn, .slice Ad nd cd] As n c go i Al l v out)
       case atStart => exact ⟨0, out, rfl, Nat.zero_le _, rfl, HST2, Upd.start _ _ _, HLO⟩
       case round =>
        clear HST2 HLO
        obtain ⟨t, out', rfl, ht, rfl, hst, hup, hlo⟩ := hrel
        by_cases hlt' : t < i; rotate_left
        ·obtain rfl : t = i := by omega
         have htt : decide (t < t) = false := by simp
         have HPF : Hid (PInv t ds s (v + 1) out') := by
          refine hPI.out.flood HX.out (by omega) hup.out.1 (fun y hy => ?_)
          have hy' : y < out.length := by rw [hPI.out.1]; exact hy
          have hq := hlr.out y hy
          rw [hup.out.2 y hy']
          refine ⟨fun hc => ?_, fun hc => ?_⟩
          ·rw [if_pos (And.intro hy (hq.2 hc))]
          ·rw [if_neg (fun h => hc (hq.1 h.2))]
         go_wp2_with fail
         go_roundg (t - (v + 1))
         case rel => exact ⟨v + 1, out', by go_num, by omega, rfl, hst, HPF⟩
         case measure => omega
        ·obtain ⟨gl, bv, rfl, hgl, _, hbv, hcl, hfl, _⟩ := hlo.out.at hlt'
         have HBV := Lib.hid hbv; clear hbv hfl
         rcases bv with _ | _
         ·go_wp2_with fail
          go_roundg (i - (t + 1))
          case rel => exact ⟨t + 1, out', by go_num, by omega, rfl, hst, hup.out.pass HBV.out, hlo⟩
          case measure => omega
         ·obtain ⟨x', hx', hcell, hfz⟩ := hst.out.cell hlt'
          clear hx'
          have HM := Lib.hid (hst.out.put hlt' v)
          have HLO : Hid (BoolsO (wr.setCell ⟨go, t, none⟩ (.int .i64 v)) (go + 1) (some ⟨gl, 0, none⟩) i i l) := hlo.out.kept (grown_cell wr _ _) (ne_row fun b e => by have := (hlo.out.lt b e).1; simp; omega)
          go_wp2_with fail
          go_roundg (i - (t + 1))
          case rel => exact ⟨t + 1, _, by go_num, by omega, rfl, HM, hup.out.put HBV.out, HLO⟩
          case measure => omega
end Go.Proofs.YtepicjpdhpojnaaGreatDoor
