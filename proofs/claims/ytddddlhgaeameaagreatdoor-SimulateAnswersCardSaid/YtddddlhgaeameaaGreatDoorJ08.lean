import Derived.Test.YtddddlhgaeameaaGreatDoorJ07
set_option maxRecDepth 100000
set_option maxHeartbeats 2000000
namespace Go.Proofs.YtddddlhgaeameaaGreatDoor
open Go.RowKit Tryz
def zX (l : List Int) (d p : Int) : List Int := if 0 ≤ d ∧ d < l.length then l.set d.toNat p else l
theorem yy (l : List Int) (d p : Int) : (zX l d p).length = l.length := by unfold zX; split <;> simp
theorem xE {w w' : World} {l : List Int} {A : Option Addr} {n c : Nat} (hl : l.length = n) (h : zN w' w.heap.size A n c l) (hb : bW w w') : wP w l (.returned (.slice A n c)) w' := by subst hl; exact ⟨A, c, rfl, h, hb⟩
theorem tB (A : Option Addr) (n c B : Nat) (l : List Int) (d p : Int) (w : World) (hs : Sl w B 1 A n c (zF l)) (hB : B ≤ w.heap.size) (hn : n ≤ 1000000) : Calls prog 113 #[.slice A n c, .int .i64 d, .int .i64 p] w (wP w (zX l d p)) := by
 have HL := iD (hs.len (fun _ => rfl) (by decide));have HC := iD (xO A n c B l w hs hB hn);clear hs;by_cases h0 : 0 ≤ d
 ·by_cases h1 : d < n
  ·obtain ⟨k, rfl⟩ := Int.eq_ofNat_of_zero_le h0;have HW : Hid (zX l k p = l.set k p) := by unfold Hid zX; rw [if_pos ⟨h0, by rw [HL.out]; exact h1⟩]; rfl
   go_enter func113, ntmps113
   go_wp2_with fail
   refine HC.mono ?_;rintro e w1 ⟨A1, c1, rfl, hO, hb⟩;rw [HL.out] at hO ⊢;obtain ⟨g, x, rfl, Am, Cc, hx, hcell, AK, hst⟩ := hO.at (i := k) (by omega);have Ar := iD (hst p);clear hst hx;have Bq : n ≤ 9223372036854775807 := by omega
   have IM : k < n := by omega
   go_wp2_with fail
   go_ret;exact xE (by rw [HW.out, List.length_set, HL.out]) (by rw [HW.out]; exact Ar) (hb.setCell Am _)
  ·have q1 : decide (d < (n : Int)) = false := by simpa using h1
   have HW : Hid (zX l d p = l) := by unfold Hid zX; rw [if_neg (by rw [HL.out]; omega)]
   go_enter func113, ntmps113
   go_wp2_with fail
   refine HC.mono ?_;rintro e w1 ⟨A1, c1, rfl, hO, hb⟩;rw [HL.out] at hO ⊢;have Bq : n ≤ 9223372036854775807 := by omega
   go_wp2_with fail
   go_ret;exact xE (by rw [HW.out, HL.out]) (by rw [HW.out]; exact hO) hb.out
 ·have q0 : decide (0 ≤ d) = false := by simpa using h0
  have HW : Hid (zX l d p = l) := by unfold Hid zX; rw [if_neg (by omega)]
  go_enter func113, ntmps113
  go_wp2_with fail
  refine HC.mono ?_;rintro e w1 ⟨A1, c1, rfl, hO, hb⟩;rw [HL.out] at hO ⊢
  go_wp2_with fail
  go_ret;exact xE (by rw [HW.out, HL.out]) (by rw [HW.out]; exact hO) hb.out
def js (w : World) (nn : Nat) (ds : List Dv) (s : List Int) (e : Ending) (w' : World) : Prop :=
 ∃ (A B : Option Addr) (p c : List Int), e = .returned (.tuple #[.slice A nn nn, .slice B nn nn]) ∧ Hid (zN w' w.heap.size A nn nn p) ∧ Hid (zN w' w.heap.size B nn nn c) ∧ Hid (yZ nn ds s p) ∧ Hid (vH nn ds s c) ∧ Hid (Below w.heap.size w w')
theorem uG (An Ad As : Option Addr) (nn cn nd cd n c Bd Bs : Nat) (ds : List Dv) (s : List Int) (w : World)
 (hd : Sl w Bd 5 Ad nd cd (ds.flatMap Dv.cells)) (BN : Bd ≤ w.heap.size) (hs : Sl w Bs 1 As n c (zF s)) (Ci : Bs ≤ w.heap.size) (Bq : nn ≤ 10000) (AB : nd ≤ 10000) (hn : nd ≤ n) (Ae : xA nn ds) (hA : Ki nn ds) :
 Calls prog 64 #[.agg #[.slice An nn cn, .slice Ad nd cd], .slice As n c] w (js w nn ds s) := by
 have HD := iD hd; have HS := iD hs; have HE := iD Ae; have HA := iD hA;clear hd hs Ae hA;have HB : Hid (Below w.heap.size w (w.alloc (.cells #[.slice An nn cn, .slice Ad nd cd] 26))) := (Below.refl _ _).alloc lR _;have HK := iD (AJ.new w 26 #[.slice An nn cn, .slice Ad nd cd])
 go_enter func64, ntmps64
 go_wp2_with fail
 generalize World.alloc _ _ = W at *;have hz := HB.size;refine (lh An Ad As nn cn nd cd n c Bd Bs ds s W (HD.below HB BN) (by omega) (HS.below HB Ci) (by omega) Bq hn HE).mono ?_;rintro e w1 ⟨A, p, rfl, hO, hP, AX⟩;have AL := iD (HB.trans (AX.mono hz));have DV := iD (HK.below AX HK.lt);have Fj := AL.size;clear AX HB HK;obtain ⟨k0, k1⟩ := DV.d2
 go_wp2_with fail
 clear k0 k1;refine (nH An Ad As A nn cn nd cd n c nn Bd Bs w1.heap.size ds s p w1 (HD.below AL BN) (by omega) (HS.below AL Ci) (by omega) hO.sl lR Bq AB hn HA hP).mono ?_;rintro e w2 ⟨B, q, rfl, De, hC, AQ⟩
 go_wp2_with fail
 go_ret2;exact ⟨A, B, p, q, rfl, (hO.later AQ).mono hz, De.mono Fj, hP, hC, AL.trans (AQ.mono Fj)⟩
def yw (x : Int) : Bool := !(bits BinOp.and IntKind.i64 x 1 == 0)
def Cq (An : Option Addr) (nn cn : Nat) (Ad : Option Addr) (nd cd : Nat) (nm : ByteArray) (kd a b co : Int) (Ap Ao Ac : Option Addr) : Array Value :=
 #[.slice An nn cn, .slice Ad nd cd, .string nm, .int .i64 kd, .int .i64 a, .int .i64 b, .int .i64 co, .slice Ap nn nn, .slice Ao nn nn, .slice Ac nn nn]
structure uZ (w : World) (nn : Nat) (kd a b : Int) (Ap Ao Ac : Option Addr) (parts op cl : List Int) : Prop where
 hp : Av w 1 Ap nn nn (zF parts)
 ho : Av w 1 Ao nn nn (zF op)
 hc : Av w 1 Ac nn nn (zF cl)
 a0 : 0 ≤ a ∧ a < nn
 b0 : zV kd = true → 0 ≤ b ∧ b < nn
 n0 : nn ≤ 10000
section
variable {w w' : World} {nn : Nat} {kd a b : Int} {Ap Ao Ac : Option Addr} {parts op cl : List Int}
theorem uZ.later (h : uZ w nn kd a b Ap Ao Ac parts op cl) (hb : bW w w') : uZ w' nn kd a b Ap Ao Ac parts op cl :=
 ⟨(h.hp.below hb lR).more hb.size, (h.ho.below hb lR).more hb.size, (h.hc.below hb lR).more hb.size, h.a0, h.b0, h.n0⟩
theorem uZ.alloc (h : uZ w nn kd a b Ap Ao Ac parts op cl) (o : Obj) : uZ (w.alloc o) nn kd a b Ap Ao Ac parts op cl := h.later ((Below.refl _ _).alloc lR _)
end
theorem yM {l : List Int} {k : Nat} {x : Int} (h : l[k]? = some x) : l.getD k 0 = x := by rw [List.getD_eq_getElem?_getD, h]; rfl
theorem tl (vb nn : Nat) (Ao : Option Addr) (op : List Int) (v : Int) (w : World) (hc : w.cell? ⟨vb, 8, none⟩ = some (.slice Ao nn nn)) (ho : Av w 1 Ao nn nn (zF op)) (hv : 0 ≤ v ∧ v < nn) :
 Calls prog 182 #[.int .i64 v, .pointer (some ⟨vb, 0, none⟩)] w fun e w' => e = .returned (.bool (yw (op.getD v.toNat 0))) ∧ w = w' := by
 obtain ⟨k, rfl⟩ := Int.eq_ofNat_of_zero_le hv.1;obtain ⟨b, off, x, rfl, hb, hx, Np⟩ := ho.at1 (k := k) (by omega);have hm := ho.le;have HL : Hid (yw (op.getD (k : Int).toNat 0) = !(bits BinOp.and IntKind.i64 x 1 == 0)) := by unfold Hid; rw [Int.toNat_natCast, yM hx]; rfl
 have IM : k < nn := by omega
 clear ho hx
 go_enter func182, ntmps182
 go_wp2_with fail
 go_ret;exact ⟨zE (by rw [HL.out]; rfl), rfl⟩
def xG (kd a b : Int) (cl : List Int) : Bool := (cl.getD a.toNat 0 == 3) || (zV kd && (cl.getD b.toNat 0 == 3))
theorem ly (An Ad Ap Ao Ac : Option Addr) (nn cn nd cd : Nat) (nm : ByteArray) (kd a b co : Int) (parts op cl : List Int) (w : World) (h : uZ w nn kd a b Ap Ao Ac parts op cl) :
 Calls prog 147 #[.agg (Cq An nn cn Ad nd cd nm kd a b co Ap Ao Ac)] w fun e w' => e = .returned (.bool (xG kd a b cl)) ∧ bW w w' := by
 have ha := h.a0;have hn := h.n0;obtain ⟨ka, rfl⟩ := Int.eq_ofNat_of_zero_le ha.1;obtain ⟨cb, WY, x, rfl, KL, hx, Np⟩ := (h.alloc (.cells (Cq An nn cn Ad nd cd nm kd ka b co Ap Ao Ac) 190)).hc.at1 (k := ka) (by omega);have HX : Hid (cl.getD (ka : Int).toNat 0 = x) := by unfold Hid; rw [Int.toNat_natCast, yM hx]
 have AH : ka < nn := by omega
 have HB : Hid (Below w.heap.size w (w.alloc (.cells (Cq An nn cn Ad nd cd nm kd ka b co Ap Ao (some ⟨cb, WY, none⟩)) 190))) := (Below.refl _ _).alloc lR _;have HF : Hid (xG kd ka b cl = ((x == 3) || (zV kd && (cl.getD b.toNat 0 == 3)))) := by unfold Hid xG; rw [HX.out]
 have Cw := iD (xx kd);have HO := iD h;clear h hx;simp only [Cq] at Np HB ⊢;by_cases h3 : x = 3
 ·subst h3
  go_enter func147, ntmps147
  go_wp2_with fail
  go_ret;exact ⟨zE (by rw [HF.out]; rfl), HB⟩
 ·have q3 : (x == 3) = false := by simpa using h3
  rcases hj : zV kd with _ | _
  ·rw [hj] at Cw HF;clear hj
   go_enter func147, ntmps147
   go_wp2_with fail
   refine (Cw _).mono ?_;rintro e w1 ⟨rfl, rfl⟩
   go_wp2_with fail
   go_ret;exact ⟨zE (by rw [HF.out, q3]; rfl), HB⟩
  ·have Fs := HO.b0 hj;rw [hj] at Cw HF;clear hj;obtain ⟨kb, rfl⟩ := Int.eq_ofNat_of_zero_le Fs.1;obtain ⟨AO, AA, y, Cm, AE, hy, Gu⟩ := (HO.alloc (.cells (Cq An nn cn Ad nd cd nm kd ka kb co Ap Ao (some ⟨cb, WY, none⟩)) 190)).hc.at1 (k := kb) (by omega);injection Cm with Cm;injection Cm with h1 h2;subst h1 h2;have HY : Hid (cl.getD (kb : Int).toNat 0 = y) := by unfold Hid; rw [Int.toNat_natCast, yM hy]
   rw [HY.out] at HF;have AG : kb < nn := by omega
   clear hy;simp only [Cq] at Gu
   go_enter func147, ntmps147
   go_wp2_with fail
   refine (Cw _).mono ?_;rintro e w1 ⟨rfl, rfl⟩
   go_wp2_with fail
   go_ret;exact ⟨zE (by rw [HF.out, q3]; simp), HB⟩
end Go.Proofs.YtddddlhgaeameaaGreatDoor
