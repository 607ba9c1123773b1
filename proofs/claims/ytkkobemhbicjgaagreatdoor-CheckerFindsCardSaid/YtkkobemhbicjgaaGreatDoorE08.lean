import Derived.Test.YtkkobemhbicjgaaGreatDoorE07
set_option maxRecDepth 100000
set_option maxHeartbeats 2000000
namespace Go.Proofs.YtkkobemhbicjgaaGreatDoor
section
open Go.RowKit
def ye (l : List Int) (d p : Int) : List Int := if 0 ≤ d ∧ d < l.length then l.set d.toNat p else l
theorem wT (l : List Int) (d p : Int) : (ye l d p).length = l.length := by unfold ye; split <;> simp
theorem wF {w w' : World} {l : List Int} {A : Option Addr} {n c : Nat} (hl : l.length = n) (h : zO w' w.heap.size A n c l) (hb : Below w.heap.size w w') : yx w l (.returned (.slice A n c)) w' := by subst hl; exact ⟨A, c, rfl, h, hb⟩
theorem uQ (A : Option Addr) (n c B : Nat) (l : List Int) (d p : Int) (w : World) (hs : Sl w B 1 A n c (zD l)) (hB : B ≤ w.heap.size) (hn : n ≤ 1000000) : Calls Tryz.prog 150 #[.slice A n c, .int .i64 d, .int .i64 p] w (yx w (ye l d p)) := by
 have HL := iD (hs.len (fun _ => rfl) (by decide))
 have HC := iD (yQ A n c B l w hs hB hn)
 clear hs
 by_cases h0 : 0 ≤ d
 ·by_cases h1 : d < n
  ·obtain ⟨k, rfl⟩ := Int.eq_ofNat_of_zero_le h0
   have HW : Hid (ye l k p = l.set k p) := by unfold Hid ye; rw [if_pos ⟨h0, by rw [HL.out]; exact h1⟩]; rfl
   go_enter Tryz.func150, Tryz.ntmps150
   go_wp2_with fail
   refine HC.out.mono ?_
   rintro e w1 ⟨A1, c1, rfl, hO, hb⟩
   rw [HL.out] at hO ⊢
   obtain ⟨g, x, rfl, hg1, hg2, hx, hcell, hfz, hst⟩ := hO.out.at (i := k) (by omega)
   have HST := iD (hst p)
   clear hst hx
   have hnn : n ≤ 9223372036854775807 := by omega
   have hkn : k < n := by omega
   go_wp2_with fail
   go_ret
   exact wF (by rw [HW.out, List.length_set, HL.out]) (by rw [HW.out]; exact HST.out) (hb.out.setCell hg1 _)
  ·have q1 : decide (d < (n : Int)) = false := by simpa using h1
   have HW : Hid (ye l d p = l) := by unfold Hid ye; rw [if_neg (by rw [HL.out]; omega)]
   go_enter Tryz.func150, Tryz.ntmps150
   go_wp2_with fail
   refine HC.out.mono ?_
   rintro e w1 ⟨A1, c1, rfl, hO, hb⟩
   rw [HL.out] at hO ⊢
   have hnn : n ≤ 9223372036854775807 := by omega
   go_wp2_with fail
   go_ret
   exact wF (by rw [HW.out, HL.out]) (by rw [HW.out]; exact hO.out) hb.out
 ·have q0 : decide (0 ≤ d) = false := by simpa using h0
  have HW : Hid (ye l d p = l) := by unfold Hid ye; rw [if_neg (by omega)]
  go_enter Tryz.func150, Tryz.ntmps150
  go_wp2_with fail
  refine HC.out.mono ?_
  rintro e w1 ⟨A1, c1, rfl, hO, hb⟩
  rw [HL.out] at hO ⊢
  go_wp2_with fail
  go_ret
  exact wF (by rw [HW.out, HL.out]) (by rw [HW.out]; exact hO.out) hb.out
end
section
open Go.RowKit
def jz (w : World) (nn : Nat) (ds : List Dv) (s : List Int) (e : Ending) (w' : World) : Prop :=
 ∃ (A B : Option Addr) (p c : List Int), e = .returned (.tuple #[.slice A nn nn, .slice B nn nn]) ∧ Hid (zO w' w.heap.size A nn nn p) ∧ Hid (zO w' w.heap.size B nn nn c) ∧ Hid (yT nn ds s p) ∧ Hid (wC nn ds s c) ∧ Hid (Below w.heap.size w w')
theorem xy (An Ad As : Option Addr) (nn cn nd cd n c Bd Bs : Nat) (ds : List Dv) (s : List Int) (w : World)
 (hd : Sl w Bd 5 Ad nd cd (ds.flatMap Dv.cells)) (hBd : Bd ≤ w.heap.size) (hs : Sl w Bs 1 As n c (zD s)) (hBs : Bs ≤ w.heap.size) (hnn : nn ≤ 10000) (hnd : nd ≤ 10000) (hn : nd ≤ n) (hends : yo nn ds) (hA : AOk nn ds) :
 Calls Tryz.prog 102 #[.agg #[.slice An nn cn, .slice Ad nd cd], .slice As n c] w (jz w nn ds s) := by
 have HD := iD hd; have HS := iD hs; have HE := iD hends; have HA := iD hA
 clear hd hs hends hA
 have HB : Hid (Below w.heap.size w (w.alloc (.cells #[.slice An nn cn, .slice Ad nd cd] 30))) := (Below.refl _ _).alloc lR _
 have HK := iD (Blk.new w 30 #[.slice An nn cn, .slice Ad nd cd])
 go_enter Tryz.func102, Tryz.ntmps102
 go_wp2_with fail
 generalize World.alloc _ _ = W at *
 have hz := HB.out.size
 refine (lF An Ad As nn cn nd cd n c Bd Bs ds s W (HD.out.below HB.out hBd) (by omega) (HS.out.below HB.out hBs) (by omega) hnn hn HE.out).mono ?_
 rintro e w1 ⟨A, p, rfl, hO, hP, hb1⟩
 have HB1 := iD (HB.out.trans (hb1.out.mono hz))
 have HK1 := iD (HK.out.below hb1.out HK.out.lt)
 have hz1 := HB1.out.size
 clear hb1 HB HK
 have k0 := HK1.out.c0
 have k1 := HK1.out.c1
 go_wp2_with fail
 clear k0 k1
 refine (pu An Ad As A nn cn nd cd n c nn Bd Bs w1.heap.size ds s p w1 (HD.out.below HB1.out hBd) (by omega) (HS.out.below HB1.out hBs) (by omega) hO.out.sl lR hnn hnd hn HA.out hP.out).mono ?_
 rintro e w2 ⟨B, q, rfl, hO2, hC, hb2⟩
 go_wp2_with fail
 go_ret2
 exact ⟨A, B, p, q, rfl, (hO.out.later hb2.out).mono hz, hO2.out.mono hz1, hP, hC, HB1.out.trans (hb2.out.mono hz1)⟩
def xZ (x : Int) : Bool := !(bits BinOp.and IntKind.i64 x 1 == 0)
def vwC (An : Option Addr) (nn cn : Nat) (Ad : Option Addr) (nd cd : Nat) (nm : ByteArray) (kd a b co : Int) (Ap Ao Ac : Option Addr) : Array Value :=
 #[.slice An nn cn, .slice Ad nd cd, .string nm, .int .i64 kd, .int .i64 a, .int .i64 b, .int .i64 co, .slice Ap nn nn, .slice Ao nn nn, .slice Ac nn nn]
structure vu (w : World) (nn : Nat) (kd a b : Int) (Ap Ao Ac : Option Addr) (parts op cl : List Int) : Prop where
 hp : Sl w w.heap.size 1 Ap nn nn (zD parts)
 ho : Sl w w.heap.size 1 Ao nn nn (zD op)
 hc : Sl w w.heap.size 1 Ac nn nn (zD cl)
 a0 : 0 ≤ a ∧ a < nn
 b0 : zc kd = true → 0 ≤ b ∧ b < nn
 n0 : nn ≤ 10000
section
variable {w w' : World} {nn : Nat} {kd a b : Int} {Ap Ao Ac : Option Addr} {parts op cl : List Int}
theorem vu.later (h : vu w nn kd a b Ap Ao Ac parts op cl) (hb : Below w.heap.size w w') : vu w' nn kd a b Ap Ao Ac parts op cl :=
 ⟨(h.hp.below hb lR).more hb.size, (h.ho.below hb lR).more hb.size, (h.hc.below hb lR).more hb.size, h.a0, h.b0, h.n0⟩
theorem vu.alloc (h : vu w nn kd a b Ap Ao Ac parts op cl) (o : Obj) : vu (w.alloc o) nn kd a b Ap Ao Ac parts op cl := h.later ((Below.refl _ _).alloc lR _)
end
theorem yS {l : List Int} {k : Nat} {x : Int} (h : l[k]? = some x) : l.getD k 0 = x := by rw [List.getD_eq_getElem?_getD, h]; rfl
theorem uz (vb nn : Nat) (Ao : Option Addr) (op : List Int) (v : Int) (w : World) (hc : w.cell? ⟨vb, 8, none⟩ = some (.slice Ao nn nn)) (ho : Sl w w.heap.size 1 Ao nn nn (zD op)) (hv : 0 ≤ v ∧ v < nn) :
 Calls Tryz.prog 227 #[.int .i64 v, .pointer (some ⟨vb, 0, none⟩)] w fun e w' => e = .returned (.bool (xZ (op.getD v.toNat 0))) ∧ w = w' := by
 obtain ⟨k, rfl⟩ := Int.eq_ofNat_of_zero_le hv.1
 obtain ⟨b, off, x, rfl, hb, hx, hcx⟩ := ho.at1 (k := k) (by omega)
 have hm := ho.le
 have HL : Hid (xZ (op.getD (k : Int).toNat 0) = !(bits BinOp.and IntKind.i64 x 1 == 0)) := by unfold Hid; rw [Int.toNat_natCast, yS hx]; rfl
 have hkn : k < nn := by omega
 clear ho hx
 go_enter Tryz.func227, Tryz.ntmps227
 go_wp2_with fail
 go_ret
 exact ⟨zG (by rw [HL.out]; rfl), rfl⟩
def vV (kd a b : Int) (cl : List Int) : Bool := (cl.getD a.toNat 0 == 3) || (zc kd && (cl.getD b.toNat 0 == 3))
theorem lZ (An Ad Ap Ao Ac : Option Addr) (nn cn nd cd : Nat) (nm : ByteArray) (kd a b co : Int) (parts op cl : List Int) (w : World) (h : vu w nn kd a b Ap Ao Ac parts op cl) :
 Calls Tryz.prog 189 #[.agg (vwC An nn cn Ad nd cd nm kd a b co Ap Ao Ac)] w fun e w' => e = .returned (.bool (vV kd a b cl)) ∧ Below w.heap.size w w' := by
 have ha := h.a0
 have hn := h.n0
 obtain ⟨ka, rfl⟩ := Int.eq_ofNat_of_zero_le ha.1
 obtain ⟨cb, coff, x, rfl, hcb, hx, hcx⟩ := (h.alloc (.cells (vwC An nn cn Ad nd cd nm kd ka b co Ap Ao Ac) 219)).hc.at1 (k := ka) (by omega)
 have HX : Hid (cl.getD (ka : Int).toNat 0 = x) := by unfold Hid; rw [Int.toNat_natCast, yS hx]
 have hka : ka < nn := by omega
 have HB : Hid (Below w.heap.size w (w.alloc (.cells (vwC An nn cn Ad nd cd nm kd ka b co Ap Ao (some ⟨cb, coff, none⟩)) 219))) := (Below.refl _ _).alloc lR _
 have HF : Hid (vV kd ka b cl = ((x == 3) || (zc kd && (cl.getD b.toNat 0 == 3)))) := by unfold Hid vV; rw [HX.out]
 have HJ2 := iD (xQ kd)
 have HO := iD h
 clear h hx
 simp only [vwC] at hcx HB ⊢
 by_cases h3 : x = 3
 ·subst h3
  go_enter Tryz.func189, Tryz.ntmps189
  go_wp2_with fail
  go_ret
  exact ⟨zG (by rw [HF.out]; rfl), HB.out⟩
 ·have q3 : (x == 3) = false := by simpa using h3
  rcases hj : zc kd with _ | _
  ·rw [hj] at HJ2 HF
   clear hj
   go_enter Tryz.func189, Tryz.ntmps189
   go_wp2_with fail
   refine (HJ2.out _).mono ?_
   rintro e w1 ⟨rfl, rfl⟩
   go_wp2_with fail
   go_ret
   exact ⟨zG (by rw [HF.out, q3]; rfl), HB.out⟩
  ·have hb0 := HO.out.b0 hj
   rw [hj] at HJ2 HF
   clear hj
   obtain ⟨kb, rfl⟩ := Int.eq_ofNat_of_zero_le hb0.1
   obtain ⟨cb2, coff2, y, hA2, hcb2, hy, hcy⟩ := (HO.out.alloc (.cells (vwC An nn cn Ad nd cd nm kd ka kb co Ap Ao (some ⟨cb, coff, none⟩)) 219)).hc.at1 (k := kb) (by omega)
   injection hA2 with hA2
   injection hA2 with h1 h2
   subst h1 h2
   have HY : Hid (cl.getD (kb : Int).toNat 0 = y) := by unfold Hid; rw [Int.toNat_natCast, yS hy]
   rw [HY.out] at HF
   have hkb : kb < nn := by omega
   clear hy
   simp only [vwC] at hcy
   go_enter Tryz.func189, Tryz.ntmps189
   go_wp2_with fail
   refine (HJ2.out _).mono ?_
   rintro e w1 ⟨rfl, rfl⟩
   go_wp2_with fail
   go_ret
   exact ⟨zG (by rw [HF.out, q3]; simp), HB.out⟩
end
end Go.Proofs.YtkkobemhbicjgaaGreatDoor
