import Derived.Test.YtfaknfmndafllaaGreatDoorW08
import Derived.Test.YtfaknfmndafllaaGreatDoorW03
set_option maxRecDepth 100000
set_option maxHeartbeats 2000000
namespace Go.Proofs.YtfaknfmndafllaaGreatDoor
open Go.RowKit
def BothPost (w : World) (nn : Nat) (ds : List Dv) (s : List Int) (e : Ending) (w' : World) : Prop :=
 ∃ (A B : Option Addr) (p c : List Int), e = .returned (.tuple #[.slice A nn nn, .slice B nn nn]) ∧ Hid (IntsO w' w.heap.size A nn nn p) ∧ Hid (IntsO w' w.heap.size B nn nn c) ∧ Hid (IsParts nn ds s p) ∧ Hid (IsCols nn ds s c) ∧ Hid (Below w.heap.size w w')
theorem both_any (An Ad As : Option Addr) (nn cn nd cd n c Bd Bs : Nat) (ds : List Dv) (s : List Int) (w : World)
 (hd : Sl w Bd 5 Ad nd cd (ds.flatMap Dv.cells)) (hBd : Bd ≤ w.heap.size) (hs : Sl w Bs 1 As n c (intsV s)) (hBs : Bs ≤ w.heap.size) (hnn : nn ≤ 10000) (hnd : nd ≤ 10000) (hn : nd ≤ n) (hends : EndsOk nn ds) (hA : AOk nn ds) :
 Calls Tryz.prog 110 #[.agg #[.slice An nn cn, .slice Ad nd cd], .slice As n c] w (BothPost w nn ds s) := by
 have HD := Lib.hid hd; have HS := Lib.hid hs; have HE := Lib.hid hends; have HA := Lib.hid hA
 clear hd hs hends hA
 have HB : Hid (Below w.heap.size w (w.alloc (.cells #[.slice An nn cn, .slice Ad nd cd] 30))) := (Below.refl _ _).alloc (Nat.le_refl _) _
 have HK := Lib.hid (Blk.new w 30 #[.slice An nn cn, .slice Ad nd cd])
 go_enter Tryz.func110, Tryz.ntmps110
 go_wp2_with fail
 generalize World.alloc _ _ = W at *
 have hz := HB.out.size
 refine (parts_any An Ad As nn cn nd cd n c Bd Bs ds s W (HD.out.below HB.out hBd) (by omega) (HS.out.below HB.out hBs) (by omega) hnn hn HE.out).mono ?_
 rintro e w1 ⟨A, p, rfl, hO, hP, hb1⟩
 have HB1 := Lib.hid (HB.out.trans (hb1.out.mono hz))
 have HK1 := Lib.hid (HK.out.below hb1.out HK.out.lt)
 have hz1 := HB1.out.size
 clear hb1 HB HK
 have k0 := HK1.out.c0
 have k1 := HK1.out.c1
 go_wp2_with fail
 clear k0 k1
 refine (colours_any An Ad As A nn cn nd cd n c nn Bd Bs w1.heap.size ds s p w1 (HD.out.below HB1.out hBd) (by omega) (HS.out.below HB1.out hBs) (by omega) hO.out.sl (Nat.le_refl _) hnn hnd hn HA.out hP.out).mono ?_
 rintro e w2 ⟨B, q, rfl, hO2, hC, hb2⟩
 go_wp2_with fail
 go_ret2
 exact ⟨A, B, p, q, rfl, (hO.out.later hb2.out).mono hz, hO2.out.mono hz1, hP, hC, HB1.out.trans (hb2.out.mono hz1)⟩
def liveB (x : Int) : Bool := !(bits BinOp.and IntKind.i64 x 1 == 0)
def vwC (An : Option Addr) (nn cn : Nat) (Ad : Option Addr) (nd cd : Nat) (nm : ByteArray) (kd a b co : Int) (Ap Ao Ac : Option Addr) : Array Value :=
 #[.slice An nn cn, .slice Ad nd cd, .string nm, .int .i64 kd, .int .i64 a, .int .i64 b, .int .i64 co, .slice Ap nn nn, .slice Ao nn nn, .slice Ac nn nn]
structure VwOk (w : World) (nn : Nat) (kd a b : Int) (Ap Ao Ac : Option Addr) (parts op cl : List Int) : Prop where
 hp : Sl w w.heap.size 1 Ap nn nn (intsV parts)
 ho : Sl w w.heap.size 1 Ao nn nn (intsV op)
 hc : Sl w w.heap.size 1 Ac nn nn (intsV cl)
 a0 : 0 ≤ a ∧ a < nn
 b0 : joinsB kd = true → 0 ≤ b ∧ b < nn
 n0 : nn ≤ 10000
section
variable {w w' : World} {nn : Nat} {kd a b : Int} {Ap Ao Ac : Option Addr} {parts op cl : List Int}
theorem VwOk.later (h : VwOk w nn kd a b Ap Ao Ac parts op cl) (hb : Below w.heap.size w w') : VwOk w' nn kd a b Ap Ao Ac parts op cl :=
 ⟨(h.hp.below hb (Nat.le_refl _)).more hb.size, (h.ho.below hb (Nat.le_refl _)).more hb.size, (h.hc.below hb (Nat.le_refl _)).more hb.size, h.a0, h.b0, h.n0⟩
theorem VwOk.alloc (h : VwOk w nn kd a b Ap Ao Ac parts op cl) (o : Obj) : VwOk (w.alloc o) nn kd a b Ap Ao Ac parts op cl := h.later ((Below.refl _ _).alloc (Nat.le_refl _) _)
end
theorem getD_of {l : List Int} {k : Nat} {x : Int} (h : l[k]? = some x) : l.getD k 0 = x := by rw [List.getD_eq_getElem?_getD, h]; rfl
theorem lives_any (vb nn : Nat) (Ao : Option Addr) (op : List Int) (v : Int) (w : World) (hc : w.cell? ⟨vb, 8, none⟩ = some (.slice Ao nn nn)) (ho : Sl w w.heap.size 1 Ao nn nn (intsV op)) (hv : 0 ≤ v ∧ v < nn) :
 Calls Tryz.prog 253 #[.int .i64 v, .pointer (some ⟨vb, 0, none⟩)] w fun e w' => e = .returned (.bool (liveB (op.getD v.toNat 0))) ∧ w = w' := by
 obtain ⟨k, rfl⟩ := Int.eq_ofNat_of_zero_le hv.1
 obtain ⟨b, off, x, rfl, hb, hx, hcx⟩ := ho.at1 (k := k) (by omega)
 have hm := ho.le
 have HL : Hid (liveB (op.getD (k : Int).toNat 0) = !(bits BinOp.and IntKind.i64 x 1 == 0)) := by unfold Hid; rw [Int.toNat_natCast, getD_of hx]; rfl
 have hkn : k < nn := by omega
 clear ho hx
 go_enter Tryz.func253, Tryz.ntmps253
 go_wp2_with fail
 go_ret
 exact ⟨ret_bool (by rw [HL.out]; rfl), rfl⟩
def faultB (kd a b : Int) (cl : List Int) : Bool := (cl.getD a.toNat 0 == 3) || (joinsB kd && (cl.getD b.toNat 0 == 3))
theorem fault_any (An Ad Ap Ao Ac : Option Addr) (nn cn nd cd : Nat) (nm : ByteArray) (kd a b co : Int) (parts op cl : List Int) (w : World) (h : VwOk w nn kd a b Ap Ao Ac parts op cl) :
 Calls Tryz.prog 203 #[.agg (vwC An nn cn Ad nd cd nm kd a b co Ap Ao Ac)] w fun e w' => e = .returned (.bool (faultB kd a b cl)) ∧ Below w.heap.size w w' := by
 have ha := h.a0
 have hn := h.n0
 obtain ⟨ka, rfl⟩ := Int.eq_ofNat_of_zero_le ha.1
 obtain ⟨cb, coff, x, rfl, hcb, hx, hcx⟩ := (h.alloc (.cells (vwC An nn cn Ad nd cd nm kd ka b co Ap Ao Ac) 242)).hc.at1 (k := ka) (by omega)
 have HX : Hid (cl.getD (ka : Int).toNat 0 = x) := by unfold Hid; rw [Int.toNat_natCast, getD_of hx]
 have hka : ka < nn := by omega
 have HB : Hid (Below w.heap.size w (w.alloc (.cells (vwC An nn cn Ad nd cd nm kd ka b co Ap Ao (some ⟨cb, coff, none⟩)) 242))) := (Below.refl _ _).alloc (Nat.le_refl _) _
 have HF : Hid (faultB kd ka b cl = ((x == 3) || (joinsB kd && (cl.getD b.toNat 0 == 3)))) := by unfold Hid faultB; rw [HX.out]
 have HJ2 := Lib.hid (joins_any kd)
 have HO := Lib.hid h
 clear h hx
 simp only [vwC] at hcx HB ⊢
 by_cases h3 : x = 3
 ·subst h3
  go_enter Tryz.func203, Tryz.ntmps203
  go_wp2_with fail
  go_ret
  exact ⟨ret_bool (by rw [HF.out]; rfl), HB.out⟩
 ·have q3 : (x == 3) = false := by simpa using h3
  rcases hj : joinsB kd with _ | _
  ·rw [hj] at HJ2 HF
   clear hj
   go_enter Tryz.func203, Tryz.ntmps203
   go_wp2_with fail
   refine (HJ2.out _).mono ?_
   rintro e w1 ⟨rfl, rfl⟩
   go_wp2_with fail
   go_ret
   exact ⟨ret_bool (by rw [HF.out, q3]; rfl), HB.out⟩
  ·have hb0 := HO.out.b0 hj
   rw [hj] at HJ2 HF
   clear hj
   obtain ⟨kb, rfl⟩ := Int.eq_ofNat_of_zero_le hb0.1
   obtain ⟨cb2, coff2, y, hA2, hcb2, hy, hcy⟩ := (HO.out.alloc (.cells (vwC An nn cn Ad nd cd nm kd ka kb co Ap Ao (some ⟨cb, coff, none⟩)) 242)).hc.at1 (k := kb) (by omega)
   injection hA2 with hA2
   injection hA2 with h1 h2
   subst h1 h2
   have HY : Hid (cl.getD (kb : Int).toNat 0 = y) := by unfold Hid; rw [Int.toNat_natCast, getD_of hy]
   rw [HY.out] at HF
   have hkb : kb < nn := by omega
   clear hy
   simp only [vwC] at hcy
   go_enter Tryz.func203, Tryz.ntmps203
   go_wp2_with fail
   refine (HJ2.out _).mono ?_
   rintro e w1 ⟨rfl, rfl⟩
   go_wp2_with fail
   go_ret
   exact ⟨ret_bool (by rw [HF.out, q3]; simp), HB.out⟩
end Go.Proofs.YtfaknfmndafllaaGreatDoor
