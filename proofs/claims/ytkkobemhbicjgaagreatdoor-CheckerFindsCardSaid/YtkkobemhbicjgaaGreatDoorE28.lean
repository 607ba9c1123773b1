import Derived.Test.YtkkobemhbicjgaaGreatDoorE18
import Derived.Test.YtkkobemhbicjgaaGreatDoorE27
import Derived.Test.YtkkobemhbicjgaaGreatDoorE20
import Derived.Test.YtkkobemhbicjgaaGreatDoorLkSort
set_option maxRecDepth 100000
set_option maxHeartbeats 8000000
namespace Go.Proofs.YtkkobemhbicjgaaGreatDoor
section
open Go.RowKit
theorem jM (p : Int) (w : World) (hl : Laid w) : Calls Tryz.prog 106 #[.int .i64 p] w fun e w' => e = .returned (.bool (zj p)) ∧ w = w' := by
 have c1 := hl.2 0 _ rfl
 have c3 := hl.2 2 _ rfl
 have c5 := hl.2 4 _ rfl
 have c7 := hl.2 6 _ rfl
 clear hl
 by_cases h0 : 0 ≤ p; rotate_left
 ·have h0' : decide (0 ≤ p) = false := by simpa using h0
  have HP : Hid (zj p = false) := by unfold Hid; simp [zj]; omega
  go_enter Tryz.func106, Tryz.ntmps106
  go_wp2_with fail
  go_ret
  exact ⟨zG (by rw [HP.out]), rfl⟩
 by_cases h4 : p < 4; rotate_left
 ·have h4' : decide (p < 4) = false := by simpa using h4
  have HP : Hid (zj p = false) := by unfold Hid; simp [zj]; omega
  go_enter Tryz.func106, Tryz.ntmps106
  go_wp2_with fail
  go_ret
  exact ⟨zG (by rw [HP.out]), rfl⟩
 rcases (show p = 0 ∨ p = 1 ∨ p = 2 ∨ p = 3 by omega) with rfl | rfl | rfl | rfl
 all_goals
  go_enter Tryz.func106, Tryz.ntmps106
  go_wp2_with fail
  go_ret
  exact ⟨zG (by decide), rfl⟩
theorem ox (w : World) (hl : Laid w) : Go.Proofs.PredAt Tryz.prog 230 #[] (Value.int .i64) (fun x => !zj x) w := by
 intro W x hb
 unfold FnGives; dsimp only
 have HI := iD (jM x W (hl.below hb lR))
 clear hl hb
 generalize zj x = r at *
 go_enter Tryz.func230, Tryz.ntmps230
 go_wp2_with fail
 refine HI.out.mono ?_
 rintro e w1 ⟨rfl, rfl⟩
 go_wp2_with fail
 go_ret
 exact ⟨rfl, 0, rfl⟩
theorem Sl.getB {w : World} {B n c : Nat} {A : Option Addr} {l : List Int} (h : Sl w B 1 A n c (zD l)) (hn : 0 < n) : ∃ b off, A = some ⟨b, off, none⟩ ∧ b < B ∧ l.length = n ∧ ∀ j, j < l.length → w.cell? ⟨b, off + j, none⟩ = some (.int .i64 (l.getD j 0)) := by
 obtain ⟨b, off, e, hb, hc⟩ := h.2.2.2.2 hn
 refine ⟨b, off, e, hb, h.len (fun _ => rfl) (by decide), fun j hj => hc j _ ?_⟩
 have := vl (f := fun z => [Value.int .i64 z]) (size := 1) (fun _ => rfl) l j 0 _ (List.getElem?_eq_getElem hj) (by decide)
 rw [Nat.mul_one] at this
 rw [List.getD_eq_getElem?_getD, List.getElem?_eq_getElem hj]
 exact this
theorem oz (A : Option Addr) (n c B : Nat) (m : List Int) (w : World) (hl : Laid w) (hs : Sl w B 1 A n c (zD m)) : Calls Tryz.prog 223 #[.slice A n c] w fun e w' => e = .returned (.bool (m.all zj)) ∧ Below w.heap.size w w' := by
 have HNA : Hid (m.all zj = !(m.any fun x => !zj x)) := by unfold Hid; rw [List.all_eq_not_any_not]
 have hlen : m.length = n := hs.len (fun _ => rfl) (by decide)
 have hle := hs.le
 have HC : Hid (Calls Tryz.prog 229 #[.slice A n c, .func (.func 230) #[] #[]] w fun e w' => e = .returned (.bool (m.any fun x => !zj x)) ∧ Below w.heap.size w w') := by
  rcases Nat.eq_zero_or_pos n with rfl | h0
  ·have : m = [] := List.eq_nil_of_length_eq_zero hlen
   subst this
   exact (Tryz.slices_ContainsFunc_empty (α := Int) A c _ w).mono (by rintro e w1 ⟨rfl, rfl⟩; exact ⟨rfl, Below.refl _ _⟩)
  ·obtain ⟨b, off, rfl, hb, _, hc⟩ := hs.getB h0
   refine (Tryz.slices_ContainsFunc (Value.int .i64) (fun x => !zj x) 230 #[] (enters_of Tryz.func230 (by kernel_rfl) rfl) b off n c m w (ox w hl) (by omega) (by omega) (fun j hj => by rw [hc j hj, List.getD_eq_getElem?_getD, List.getElem!_eq_getElem?_getD]; rfl)).mono ?_
   rintro e w1 ⟨rfl, q, rfl⟩
   rw [List.take_of_length_le (by omega)]
   exact ⟨rfl, tW bR q⟩
 clear hl hs hlen hle
 rw [HNA.out]
 clear HNA
 generalize (m.any fun x => !zj x) = r at *
 go_enter Tryz.func223, Tryz.ntmps223
 go_wp2_with fail
 refine HC.out.mono ?_
 rintro e w1 ⟨rfl, hb⟩
 go_wp2_with fail
 go_ret
 exact ⟨rfl, hb⟩
def zU (ns : List Nd) (ds : List Dv) (s : List Int) : Int := if za ns ds ≠ 0 then za ns ds else if s.length ≠ ds.length then 9 else if ∀ p ∈ s, zj p = true then 0 else 10
theorem lM (An Ad As : Option Addr) (nn cn nd cd n c Bn Bd Bs : Nat) (ns : List Nd) (ds : List Dv) (s : List Int) (w : World) (hl : Laid w) (hn : Sl w Bn 3 An nn cn (ns.flatMap Nd.cells)) (hd : Sl w Bd 5 Ad nd cd (ds.flatMap Dv.cells)) (hs : Sl w Bs 1 As n c (zD s)) (hBn : Bn ≤ w.heap.size) (hBd : Bd ≤ w.heap.size) (hBs : Bs ≤ w.heap.size)
 (hsn : ∀ x ∈ ns, x.name.size ≤ 9223372036854775807) (hsd : ∀ x ∈ ds, x.name.size ≤ 9223372036854775807) :
 Calls Tryz.prog 105 #[.agg #[.slice An nn cn, .slice Ad nd cd], .slice As n c, .func (.func 106) #[] #[]] w fun e w' => e = .returned (.int .i64 (zU ns ds s)) ∧ Below w.heap.size w w' := by
 have HLS := iD (hs.len (fun _ => rfl) (by decide)); have HLD := iD (hd.len (fun _ => rfl) (by decide))
 obtain ⟨hnc, hcm⟩ := hs.le
 obtain ⟨hdc, hdm⟩ := hd.le
 have HE : Hid (zU ns ds s = if za ns ds ≠ 0 then za ns ds else if n ≠ nd then 9 else if ∀ p ∈ s, zj p = true then 0 else 10) := by unfold Hid; rw [zU, HLS.out, HLD.out]
 have HL := iD hl; have HN := iD hn; have HD := iD hd; have HS := iD hs
 have HCK := iD (wl An Ad nn cn nd cd Bn Bd ns ds (w.alloc (.cells #[.slice An nn cn, .slice Ad nd cd] 30)) (hl.alloc _) (hn.alloc hBn _) (hd.alloc hBd _) (by simp; omega) (by simp; omega) hsn hsd)
 clear hl hn hd hs hsn hsd
 generalize za ns ds = er at *
 have HBW : Hid (Below w.heap.size w (w.alloc (.cells #[.slice An nn cn, .slice Ad nd cd] 30))) := (Below.refl _ _).alloc lR _
 by_cases h0 : er = 0; rotate_left
 ·have h0' : (er != 0) = true := by simpa using h0
  have HR : Hid (zU ns ds s = er) := by unfold Hid; rw [HE.out, if_pos h0]
  clear h0
  go_enter Tryz.func105, Tryz.ntmps105
  go_wp2_with fail
  refine HCK.out.mono ?_
  rintro e w1 ⟨rfl, hb1⟩
  go_wp2_with fail
  go_ret
  exact ⟨zE (by rw [HR.out]), HBW.out.trans (hb1.mono (by simp))⟩
 subst h0
 go_enter Tryz.func105, Tryz.ntmps105
 go_wp2_with fail
 refine HCK.out.mono ?_
 rintro e w1 ⟨rfl, hb1⟩
 have HK1 := iD ((Blk.new w 30 #[.slice An nn cn, .slice Ad nd cd]).below hb1 (by simp))
 have HB1 := iD (HBW.out.trans (hb1.mono (by simp)))
 have k1 := HK1.out.c1
 have hz1 := HB1.out.size
 clear hb1 HCK
 by_cases hnd : n = nd; rotate_left
 ·have q : decide (n = nd) = false := by simpa using hnd
  have q' : ((n : Int) != (nd : Int)) = true := by simp; omega
  have HR : Hid (zU ns ds s = 9) := by unfold Hid; rw [HE.out, if_neg (by simp), if_pos hnd]
  clear hnd
  go_wp2_with fail
  go_ret
  exact ⟨zE (by rw [HR.out]), HB1.out⟩
 subst hnd
 have HL1 := iD (HL.out.below HB1.out lR)
 have HS1 := iD (HS.out.below HB1.out hBs)
 go_wp2_with fail
 clear k1
 go_loop [9, 23] (fun _ iv => ∃ i : Nat, iv = .int .i64 i ∧ i ≤ n ∧ Hid (∀ p ∈ s.take i, zj p = true)) (fun _ iv => n - (intOf iv).toNat)
 case atStart => exact ⟨0, rfl, Nat.zero_le _, by simp [Hid]⟩
 case round =>
  obtain ⟨i, rfl, hi, hok⟩ := hrel
  by_cases hlt : i < n
  ·obtain ⟨b, off, x, rfl, hb, hx, hc⟩ := HS1.out.at1 hlt
   have HX := iD hx; clear hx
   have HPA := iD (jM x w1 HL1.out)
   rcases hp : zj x with _ | _
   ·have HR : Hid (zU ns ds s = 10) := by
     unfold Hid
     rw [HE.out, if_neg (by simp), if_neg (by simp), if_neg (fun h => by have := h x (List.mem_of_getElem? HX.out); rw [hp] at this; cases this)]
    rw [hp] at HPA
    clear hp
    go_wp2_with fail
    refine HPA.out.mono ?_
    rintro e w2 ⟨rfl, rfl⟩
    go_wp2_with fail
    go_ret
    exact ⟨zE (by rw [HR.out]), HB1.out⟩
   ·rw [hp] at HPA
    have HP := iD hp; clear hp
    go_wp2_with fail
    refine HPA.out.mono ?_
    rintro e w2 ⟨rfl, rfl⟩
    go_wp2_with fail
    go_round
    case rel =>
     refine ⟨i + 1, by go_num, by omega, fun p hp => ?_⟩
     rw [zQ HX.out] at hp
     rcases List.mem_append.1 hp with h | h
     ·exact hok.out p h
     ·rw [List.mem_singleton.1 h]; exact HP.out
    case measure => simp [intOf]; omega
  ·obtain rfl : i = n := by omega
   have hjj : decide (i < i) = false := by simp
   have HR : Hid (zU ns ds s = 0) := by
    unfold Hid
    have := hok.out
    rw [List.take_of_length_le (by rw [HLS.out]; exact Nat.le_refl _)] at this
    rw [HE.out, if_neg (by simp), if_neg (by simp), if_pos this]
   go_wp2_with fail
   go_ret
   exact ⟨zE (by rw [HR.out]), HB1.out⟩
theorem vQ (An Ad As : Option Addr) (nn cn nd cd n c Bn Bd Bs : Nat) (ns : List Nd) (ds : List Dv) (s : List Int) (w : World) (hl : Laid w) (hn : Sl w Bn 3 An nn cn (ns.flatMap Nd.cells)) (hd : Sl w Bd 5 Ad nd cd (ds.flatMap Dv.cells)) (hs : Sl w Bs 1 As n c (zD s)) (hBn : Bn ≤ w.heap.size) (hBd : Bd ≤ w.heap.size) (hBs : Bs ≤ w.heap.size)
 (hsn : ∀ x ∈ ns, x.name.size ≤ 9223372036854775807) (hsd : ∀ x ∈ ds, x.name.size ≤ 9223372036854775807) :
 Calls Tryz.prog 72 #[.agg #[.slice An nn cn, .slice Ad nd cd], .slice As n c] w fun e w' => e = .returned (.int .i64 (zU ns ds s)) ∧ Below w.heap.size w w' := by
 have HC := iD (lM An Ad As nn cn nd cd n c Bn Bd Bs ns ds s (w.alloc (.cells #[.slice An nn cn, .slice Ad nd cd] 30)) (hl.alloc _) (hn.alloc hBn _) (hd.alloc hBd _) (hs.alloc hBs _) (by simp; omega) (by simp; omega) (by simp; omega) hsn hsd)
 clear hl hn hd hs hsn hsd
 go_enter Tryz.func72, Tryz.ntmps72
 go_wp2_with fail
 refine HC.out.mono ?_
 rintro e w1 ⟨rfl, hb1⟩
 go_wp2_with fail
 go_ret
 exact ⟨rfl, ((Below.refl _ _).alloc lR _).trans (hb1.mono (by simp))⟩
def tp (w : World) (m : List Int) (e : Ending) (w' : World) : Prop := ∃ (A : Option Addr) (k c : Nat), e = .returned (.slice A k c) ∧ Hid (k = zl m m.length) ∧ Hid (zO w' w.heap.size A k c ((xO m m.length).map (Nat.cast (R := Int)))) ∧ Hid (Below w.heap.size w w')
def UnR (w : World) (m : List Int) (n gk : Nat) (ov iv : Value) (wr : World) : Prop := ∃ (i k c : Nat) (A : Option Addr), iv = .int .i64 i ∧ ov = .slice A k c ∧ i ≤ n ∧ gk = n - i ∧ k ≤ i ∧ Hid (k = zl m i) ∧ Hid (zO wr w.heap.size A k c ((xO m i).map (Nat.cast (R := Int)))) ∧ Hid (Below w.heap.size w wr)
theorem nr {m : List Int} {i : Nat} (h : m[i]? = some 3) : (xO m (i + 1)).map (Nat.cast (R := Int)) = (xO m i).map (Nat.cast (R := Int)) ++ [(i : Int)] := by rw [xO, if_pos h]; simp
theorem qt {m : List Int} {i : Nat} (h : m[i]? ≠ some 3) : xO m (i + 1) = xO m i := by rw [xO, if_neg h]
theorem mR {m : List Int} {i k : Nat} (h : m[i]? = some 3) (hk : k = zl m i) : k + 1 = zl m (i + 1) := by rw [yY, if_pos h, hk]
theorem pw {m : List Int} {i k : Nat} (h : m[i]? ≠ some 3) (hk : k = zl m i) : k = zl m (i + 1) := by rw [yY, if_neg h, hk]; rfl
theorem vL (A : Option Addr) (n c B : Nat) (m : List Int) (w : World) (hs : Sl w B 1 A n c (zD m)) (hB : B ≤ w.heap.size) (hn : n ≤ 1000000) : Calls Tryz.prog 207 #[.slice A n c] w (tp w m) := by
 have HLM := iD (hs.len (fun _ => rfl) (by decide)); have HS := iD hs
 clear hs
 go_enter Tryz.func207, Tryz.ntmps207
 go_wp2_with fail
 go_loopg [3, 8] n (UnR w m n)
 case atStart => exact ⟨0, 0, 0, none, rfl, rfl, Nat.zero_le _, rfl, Nat.le_refl _, rfl, World.ownsRow_nil _ _ _ _, Below.refl _ _⟩
 case round =>
  obtain ⟨i, k, co, Ao, rfl, rfl, hi, rfl, hki, hk, hO, hbl⟩ := hrel
  by_cases hlt : i < n
  ·obtain ⟨b, off, x, rfl, hb, hx, hc⟩ := (HS.out.below hbl.out hB).at1 hlt
   have HX := iD hx
   clear hx
   by_cases h3 : x = 3
   ·subst h3
    have HU := iD (nr HX.out); have HK := iD (mR HX.out hk.out)
    go_wp2_with (at_builtin; go_must (refine zR rfl (.tmp 15) (.tmp 17) rfl xF (by rfl) (hO.out.alloc _) (by rfl) (Sl.newest (n := 1) (by simp) (by rfl) (by decide)) (by simp [Value.oneCell']) (by omega) (by omega) (by have := hbl.out.size; simp; omega) ?_; intro A' cap' w3 hown3 hgr3 hat3; have HO3 := iD hown3; have HG3 := iD hgr3; clear hown3 hgr3 hat3))
    go_roundg (n - (i + 1))
    case rel =>
     refine ⟨i + 1, k + 1, cap', A', by go_num, rfl, by omega, rfl, by omega, HK, ?_, ?_⟩
     ·have h := HO3.out
      unfold Hid; rw [HU.out]; unfold zO; rw [zq]
      exact h
     ·have h1 := hbl.out.alloc hbl.out.size (.cells #[.int .i64 (i : Int)] 3)
      refine h1.trans ⟨HG3.out.os, HG3.out.tape, HG3.out.output, HG3.out.size, fun q hq => HG3.out.block q (by have := h1.size; omega) (fun e => by have := (hO.out.lt q e.symm).1; omega)⟩
    case measure => omega
   ·have q : (x == 3) = false := by simpa using h3
    have h3' : m[i]? ≠ some 3 := fun h => h3 (by rw [HX.out] at h; injection h)
    have HU := iD (qt h3'); have HK := iD (pw h3' hk.out)
    clear h3 h3'
    go_wp2_with fail
    go_roundg (n - (i + 1))
    case rel => exact ⟨i + 1, k, co, Ao, by go_num, rfl, by omega, rfl, by omega, HK, (by unfold Hid; rw [HU.out]; exact hO.out), hbl⟩
    case measure => omega
  ·obtain rfl : i = n := by omega
   have hii : decide (i < i) = false := by simp
   go_wp2_with fail
   go_ret
   refine ⟨Ao, k, co, rfl, ?_, ?_, hbl⟩
   ·unfold Hid; rw [HLM.out]; exact hk.out
   ·unfold Hid; rw [HLM.out]; exact hO.out
end
section
open Go.RowKit
def yL (m : List Int) : Int := if m.all zj = true then (if 8 < zl m m.length then 1 else 0) else 10
def vW (m : List Int) : Int := if yL m = 0 then (2 ^ zl m m.length : Nat) else 0
theorem lf (A : Option Addr) (n c B : Nat) (m : List Int) (w : World) (hl : Laid w) (hs : Sl w B 1 A n c (zD m)) (hB : B ≤ w.heap.size) (hn : n ≤ 1000000) : Calls Tryz.prog 206 #[.slice A n c] w fun e w' => e = .returned (.tuple #[.int .i64 (vW m), .int .i64 (yL m)]) ∧ Below w.heap.size w w' := by
 have HV := iD (oz A n c B m w hl hs)
 have HU : Hid (∀ w1, Below w.heap.size w w1 → Calls Tryz.prog 207 #[.slice A n c] w1 (tp w1 m)) := fun w1 hb => vL A n c B m w1 (hs.below hb hB) (Nat.le_trans hB hb.size) hn
 clear hl; clear hs
 rcases hv : m.all zj with _ | _
 ·have HE : Hid (yL m = 10) := by unfold Hid yL; rw [hv]; rfl
  have HN : Hid (vW m = 0) := by unfold Hid vW; rw [HE.out]; rfl
  rw [HE.out, HN.out]
  rw [hv] at HV
  clear hv HE HN
  go_enter Tryz.func206, Tryz.ntmps206
  go_wp2_with fail
  refine HV.out.mono ?_
  rintro e w1 ⟨rfl, hb1⟩
  go_wp2_with fail
  go_ret2
  exact ⟨rfl, hb1⟩
 rw [hv] at HV
 by_cases h8 : 8 < zl m m.length
 ·have HE : Hid (yL m = 1) := by unfold Hid yL; rw [hv, if_pos rfl, if_pos h8]
  have HN : Hid (vW m = 0) := by unfold Hid vW; rw [HE.out]; rfl
  have H8 := iD h8
  rw [HE.out, HN.out]
  clear hv HE HN h8
  go_enter Tryz.func206, Tryz.ntmps206
  go_wp2_with fail
  refine HV.out.mono ?_
  rintro e w1 ⟨rfl, hb1⟩
  go_wp2_with fail
  refine (HU.out w1 hb1).mono ?_
  rintro e w2 ⟨Au, k, cu, rfl, hk, hO, hb2⟩
  have hk8 : decide ((8 : Int) < (k : Int)) = true := by have := hk.out; have := H8.out; simp; omega
  go_wp2_with fail
  go_ret2
  exact ⟨rfl, hb1.trans (hb2.out.mono hb1.size)⟩
 ·have HE : Hid (yL m = 0) := by unfold Hid yL; rw [hv, if_pos rfl, if_neg h8]
  have HN : Hid (vW m = (2 ^ zl m m.length : Nat)) := by unfold Hid vW; rw [HE.out]; rfl
  have H8 := iD h8
  rw [HE.out]
  clear hv HE h8
  go_enter Tryz.func206, Tryz.ntmps206
  go_wp2_with fail
  refine HV.out.mono ?_
  rintro e w1 ⟨rfl, hb1⟩
  go_wp2_with fail
  refine (HU.out w1 hb1).mono ?_
  rintro e w2 ⟨Au, k, cu, rfl, hk, hO, hb2⟩
  have hk9 : k = 0 ∨ k = 1 ∨ k = 2 ∨ k = 3 ∨ k = 4 ∨ k = 5 ∨ k = 6 ∨ k = 7 ∨ k = 8 := by have := hk.out; have := H8.out; omega
  clear H8 hO
  rcases hk9 with rfl | rfl | rfl | rfl | rfl | rfl | rfl | rfl | rfl
  all_goals
   go_wp2_with fail
   go_ret2
   exact ⟨by rw [HN.out, ← hk.out]; rfl, hb1.trans (hb2.out.mono hb1.size)⟩
theorem qC (A : Option Addr) (n c B : Nat) (m : List Int) (w : World) (hs : Sl w B 1 A n c (zD m)) (hB : B ≤ w.heap.size) (hn : n ≤ 1000000) : Calls Tryz.prog 97 #[.slice A n c] w (tp w m) := by
 have HLM := iD (hs.len (fun _ => rfl) (by decide)); have HS := iD hs
 clear hs
 go_enter Tryz.func97, Tryz.ntmps97
 go_wp2_with fail
 go_loopg [3, 4] n (UnR w m n)
 case atStart => exact ⟨0, 0, 0, none, rfl, rfl, Nat.zero_le _, rfl, Nat.le_refl _, rfl, World.ownsRow_nil _ _ _ _, Below.refl _ _⟩
 case round =>
  obtain ⟨i, k, co, Ao, rfl, rfl, hi, rfl, hki, hk, hO, hbl⟩ := hrel
  by_cases hlt : i < n
  ·obtain ⟨b, off, x, rfl, hb, hx, hc⟩ := (HS.out.below hbl.out hB).at1 hlt
   have HX := iD hx
   clear hx
   by_cases h3 : x = 3
   ·subst h3
    have HU := iD (nr HX.out); have HK := iD (mR HX.out hk.out)
    go_wp2_with (at_builtin; go_must (refine zR rfl (.tmp 16) (.tmp 18) rfl xF (by rfl) (hO.out.alloc _) (by rfl) (Sl.newest (n := 1) (by simp) (by rfl) (by decide)) (by simp [Value.oneCell']) (by omega) (by omega) (by have := hbl.out.size; simp; omega) ?_; intro A' cap' w3 hown3 hgr3 hat3; have HO3 := iD hown3; have HG3 := iD hgr3; clear hown3 hgr3 hat3))
    go_roundg (n - (i + 1))
    case rel =>
     refine ⟨i + 1, k + 1, cap', A', by go_num, rfl, by omega, rfl, by omega, HK, ?_, ?_⟩
     ·have h := HO3.out
      unfold Hid; rw [HU.out]; unfold zO; rw [zq]
      exact h
     ·have h1 := hbl.out.alloc hbl.out.size (.cells #[.int .i64 (i : Int)] 3)
      refine h1.trans ⟨HG3.out.os, HG3.out.tape, HG3.out.output, HG3.out.size, fun q hq => HG3.out.block q (by have := h1.size; omega) (fun e => by have := (hO.out.lt q e.symm).1; omega)⟩
    case measure => omega
   ·have q : (x == 3) = false := by simpa using h3
    have h3' : m[i]? ≠ some 3 := fun h => h3 (by rw [HX.out] at h; injection h)
    have HU := iD (qt h3'); have HK := iD (pw h3' hk.out)
    clear h3 h3'
    go_wp2_with fail
    go_roundg (n - (i + 1))
    case rel => exact ⟨i + 1, k, co, Ao, by go_num, rfl, by omega, rfl, by omega, HK, (by unfold Hid; rw [HU.out]; exact hO.out), hbl⟩
    case measure => omega
  ·obtain rfl : i = n := by omega
   have hii : decide (i < i) = false := by simp
   go_wp2_with fail
   go_ret
   refine ⟨Ao, k, co, rfl, ?_, ?_, hbl⟩
   ·unfold Hid; rw [HLM.out]; exact hk.out
   ·unfold Hid; rw [HLM.out]; exact hO.out
theorem oo (A : Option Addr) (n c B : Nat) (m : List Int) (w : World) (hs : Sl w B 1 A n c (zD m)) (hB : B ≤ w.heap.size) (hn : n ≤ 1000000) : Calls Tryz.prog 68 #[.slice A n c] w fun e w' => e = .returned (.tuple #[.int .i64 (vW m), .int .i64 (yL m)]) ∧ Below w.heap.size w w' := by
 have HV := iD (sN A n c B m w hs hB)
 have HU : Hid (∀ w1, Below w.heap.size w w1 → Calls Tryz.prog 97 #[.slice A n c] w1 (tp w1 m)) := fun w1 hb => qC A n c B m w1 (hs.below hb hB) (Nat.le_trans hB hb.size) hn
 clear hs
 rcases hv : m.all zj with _ | _
 ·have HE : Hid (yL m = 10) := by unfold Hid yL; rw [hv]; rfl
  have HN : Hid (vW m = 0) := by unfold Hid vW; rw [HE.out]; rfl
  rw [HE.out, HN.out]
  rw [hv] at HV
  clear hv HE HN
  go_enter Tryz.func68, Tryz.ntmps68
  go_wp2_with fail
  refine HV.out.mono ?_
  rintro e w1 ⟨rfl, hb1⟩
  go_wp2_with fail
  go_ret2
  exact ⟨rfl, hb1⟩
 rw [hv] at HV
 by_cases h8 : 8 < zl m m.length
 ·have HE : Hid (yL m = 1) := by unfold Hid yL; rw [hv, if_pos rfl, if_pos h8]
  have HN : Hid (vW m = 0) := by unfold Hid vW; rw [HE.out]; rfl
  have H8 := iD h8
  rw [HE.out, HN.out]
  clear hv HE HN h8
  go_enter Tryz.func68, Tryz.ntmps68
  go_wp2_with fail
  refine HV.out.mono ?_
  rintro e w1 ⟨rfl, hb1⟩
  go_wp2_with fail
  refine (HU.out w1 hb1).mono ?_
  rintro e w2 ⟨Au, k, cu, rfl, hk, hO, hb2⟩
  have hk8 : decide ((8 : Int) < (k : Int)) = true := by have := hk.out; have := H8.out; simp; omega
  go_wp2_with fail
  go_ret2
  exact ⟨rfl, hb1.trans (hb2.out.mono hb1.size)⟩
 ·have HE : Hid (yL m = 0) := by unfold Hid yL; rw [hv, if_pos rfl, if_neg h8]
  have HN : Hid (vW m = (2 ^ zl m m.length : Nat)) := by unfold Hid vW; rw [HE.out]; rfl
  have H8 := iD h8
  rw [HE.out]
  clear hv HE h8
  go_enter Tryz.func68, Tryz.ntmps68
  go_wp2_with fail
  refine HV.out.mono ?_
  rintro e w1 ⟨rfl, hb1⟩
  go_wp2_with fail
  refine (HU.out w1 hb1).mono ?_
  rintro e w2 ⟨Au, k, cu, rfl, hk, hO, hb2⟩
  have hk9 : k = 0 ∨ k = 1 ∨ k = 2 ∨ k = 3 ∨ k = 4 ∨ k = 5 ∨ k = 6 ∨ k = 7 ∨ k = 8 := by have := hk.out; have := H8.out; omega
  clear H8 hO
  rcases hk9 with rfl | rfl | rfl | rfl | rfl | rfl | rfl | rfl | rfl
  all_goals
   go_wp2_with fail
   go_ret2
   exact ⟨by rw [HN.out, ← hk.out]; rfl, hb1.trans (hb2.out.mono hb1.size)⟩
end
section
open Go.RowKit
theorem pG (n : Nat) (hn : n ≤ 1000000) (w : World) : (Instr.makeSlice 65 (.int .i64 (n : Int)) (.int .i64 (n : Int))).run Tryz.prog w = .ok (.slice (some ⟨w.heap.size, 0, none⟩) n n) (w.alloc (.cells (Array.replicate n (Value.slice none 0 0)) 22)) := by
 rw [run_make_row' 65 22 (.slice none 0 0) 24 Tryz.underlying65 (by kernel_rfl) rfl .i64 .i64 n (by omega) (by omega) w]
 congr 3
 apply Array.ext'
 rw [toList_madeCells_one]; simp
theorem kU (w : World) (n : Nat) (hn : n ≤ 1000000) : (w.alloc (.cells (Array.replicate n (Value.slice none 0 0)) 22)).ownsRow w.heap.size 22 1 (.slice (some ⟨w.heap.size, 0, none⟩) n n) n (List.replicate n (Value.slice none 0 0)) := by
 have := ue (w := w) (base := w.heap.size) (n := n) (e := 22) (xs := List.replicate n (Value.slice none 0 0)) lR (by omega) (by simp)
 rwa [List.toArray_replicate] at this
theorem jS (n : Int) : bits .and .i64 n 1 = n % 2 := by
 have h1 : (BitVec.ofInt 64 1).toNat = 2 ^ 1 - 1 := by decide
 have key : (BitVec.ofInt 64 n &&& BitVec.ofInt 64 1).toNat = (n % ((2 ^ 64 : Nat) : Int)).toNat % 2 ^ 1 := by
  rw [BitVec.toNat_and, BitVec.toNat_ofInt, h1, Nat.and_two_pow_sub_one_eq_mod]
 show IntKind.i64.wrap ((BitVec.ofInt 64 n &&& BitVec.ofInt 64 1).toNat : Nat) = n % 2
 rw [key, IntKind.wrap_i64]
 omega
theorem gh (k sh : Nat) : bits .and .i64 ((k : Int) / 2 ^ sh) 1 = ((k >>> sh % 2 : Nat) : Int) := by
 rw [jS, Nat.shiftRight_eq_div_pow]
 have : ((k : Int) / 2 ^ sh) = ((k / 2 ^ sh : Nat) : Int) := by simp
 rw [this]; omega
def oJ (w : World) (m : List Int) (e : Ending) (w' : World) : Prop :=
 (yL m ≠ 0 ∧ e = .returned (.tuple #[.slice none 0 0, .int .i64 (yL m)]) ∨ yL m = 0 ∧ ∃ (A : Option Addr) (k c : Nat), e = .returned (.tuple #[.slice A k c, .int .i64 0]) ∧ Hid (yW w' w'.heap.size A k c (yM m))) ∧ Hid (Below w.heap.size w w')
def uu (wr : World) (B g : Nat) (m : List Int) (k : Nat) (vs : List Value) : Prop := ∀ j, j < k → ∃ (Aj : Option Addr) (cj : Nat), vs[j]? = some (Value.slice Aj m.length cj) ∧ Sl wr B 1 Aj m.length cj (zD (stN m m.length j)) ∧ ∀ b off, Aj = some ⟨b, off, none⟩ → g < b
theorem uu.below {w w' : World} {B g B' k : Nat} {m : List Int} {vs : List Value} (h : uu w B g m k vs) (hb : Below B' w w') (hB : B ≤ B') : uu w' B g m k vs := fun j hj => by
 obtain ⟨Aj, cj, h1, h2, h3⟩ := h j hj
 exact ⟨Aj, cj, h1, h2.below hb hB, h3⟩
theorem uu.far {w : World} {B g k : Nat} {m : List Int} {vs : List Value} (h : uu w B g m k vs) {p : Addr} (hp : B ≤ p.block) (u : Value) : uu (w.setCell p u) B g m k vs := fun j hj => by
 obtain ⟨Aj, cj, h1, h2, h3⟩ := h j hj
 exact ⟨Aj, cj, h1, h2.setCell hp u, h3⟩
theorem uu.row {w : World} {B g k i : Nat} {m : List Int} {vs : List Value} (h : uu w B g m k vs) (hi : k ≤ i) (u : Value) : uu (w.setCell ⟨g, i, none⟩ u) B g m k (vs.set i u) := fun j hj => by
 obtain ⟨Aj, cj, h1, h2, h3⟩ := h j hj
 refine ⟨Aj, cj, by rw [List.getElem?_set_ne (by omega)]; exact h1, ?_, h3⟩
 obtain ⟨s1, s2, s3, s4, s5⟩ := h2
 refine ⟨s1, s2, s3, s4, fun hn => ?_⟩
 obtain ⟨b, off, e, hb, hc⟩ := s5 hn
 have := h3 b off e
 exact ⟨b, off, e, hb, fun t v hv => (World.cell?_setCell_other _ _ _ _ (fun e => by injection e with e1; omega)).trans (hc t v hv)⟩
theorem uu.put {w : World} {B g k c : Nat} {A : Option Addr} {m l : List Int} {vs : List Value} (h : uu w B g m k vs) (hl : l = stN m m.length k) (hv : vs[k]? = some (Value.slice A m.length c)) (hs : Sl w w.heap.size 1 A m.length c (zD l)) (hB : B ≤ w.heap.size) (hA : ∀ b off, A = some ⟨b, off, none⟩ → g < b) : uu w w.heap.size g m (k + 1) vs := fun j hj => by
 rcases Nat.lt_succ_iff_lt_or_eq.1 hj with hj | rfl
 ·obtain ⟨Aj, cj, h1, h2, h3⟩ := h j hj
  exact ⟨Aj, cj, h1, h2.more hB, h3⟩
 ·exact ⟨A, c, hv, by rw [← hl]; exact hs, hA⟩
theorem kh {w : World} {base g n c i : Nat} {e : TypeId} {xs : List Value} (h : w.ownsRow base e 1 (.slice (some ⟨g, 0, none⟩) n c) n xs) (hi : i < n) : ∃ x, xs[i]? = some x ∧ w.cell? ⟨g, i, none⟩ = some x ∧ w.frozen? ⟨g, i, none⟩ = false ∧ ∀ y, (w.setCell ⟨g, i, none⟩ y).ownsRow base e 1 (.slice (some ⟨g, 0, none⟩) n c) n (xs.set i y) := by
 have hl : xs.length = n := by have := h.1; omega
 refine ⟨xs[i]'(by omega), List.getElem?_eq_getElem (by omega), ?_, h.frozenAt i, fun y => (h.stored i y).1⟩
 rw [h.cellAt i (by omega)]; exact List.getElem?_eq_getElem (by omega)
def MaR (W : World) (g : Nat) (m : List Int) (P gk : Nat) (iv : Value) (wr : World) : Prop := ∃ (k : Nat) (vs : List Value), iv = .int .i64 k ∧ k ≤ P ∧ gk = P - k ∧ Hid (wr.ownsRow g 22 1 (.slice (some ⟨g, 0, none⟩) P P) P vs) ∧ Hid (uu wr wr.heap.size g m k vs) ∧ Hid (Below g W wr)
def eJ (W : World) (g B : Nat) (A : Option Addr) (c : Nat) (m : List Int) (P k u : Nat) (vs : List Value) (gk : Nat) (iv : Value) (wr : World) : Prop := ∃ (j : Nat) (l : List Int), iv = .int .i64 j ∧ j ≤ u ∧ gk = u - j ∧ Hid (wr.ownsRow g 22 1 (.slice (some ⟨g, 0, none⟩) P P) P vs) ∧ Hid (uu wr B g m k vs) ∧ Hid (Below g W wr) ∧ Hid (zO wr B A m.length c l) ∧ Hid (wv m k j l) ∧ Hid (B ≤ wr.heap.size)
theorem il (A : Option Addr) (c B : Nat) (m : List Int) (w : World) (hl : Laid w) (hs : Sl w B 1 A m.length c (zD m)) (hB : B ≤ w.heap.size) (hn : m.length ≤ 1000) : Calls Tryz.prog 186 #[.slice A m.length c] w (oJ w m) := by
 have HC := iD (lf A m.length c B m w hl hs hB (by omega))
 have HS := iD hs
 clear hl hs
 by_cases he : yL m = 0; rotate_left
 ·have q : (yL m != 0) = true := by simpa using he
  have HE := iD he
  clear he
  go_enter Tryz.func186, Tryz.ntmps186
  go_wp2_with fail
  refine HC.out.mono ?_
  rintro e w1 ⟨rfl, hb1⟩
  go_wp2_with fail
  go_ret2
  exact ⟨.inl ⟨HE.out, rfl⟩, hb1⟩
 have HCV : Hid (vW m = (2 ^ zl m m.length : Nat)) := by unfold Hid vW; rw [if_pos he]
 have HU8 : Hid (zl m m.length ≤ 8) := by
  unfold yL at he
  split at he
  ·split at he
   ·omega
   ·unfold Hid; omega
  ·omega
 have HE := iD he
 rw [he, HCV.out] at HC
 obtain ⟨P, hP⟩ : ∃ P, P = 2 ^ zl m m.length := ⟨_, rfl⟩
 rw [← hP] at HC
 have hP8 : P ≤ 256 := by
  have := Nat.pow_le_pow_right (n := 2) (by decide) HU8.out
  omega
 have HP := iD hP
 clear he HCV hP
 go_enter Tryz.func186, Tryz.ntmps186
 go_wp2_with fail
 refine HC.out.mono ?_
 rintro e w1 ⟨rfl, hb1⟩
 go_wp2_with fail
 refine (vL A m.length c B m w1 (HS.out.below hb1 hB) (Nat.le_trans hB hb1.size) (by omega)).mono ?_
 rintro e W ⟨Au, u, cu, rfl, hu, hOu, hb2⟩
 have hmk := pG P (by omega) W
 go_wp2_with fail
 clear hmk
 have HB1 := iD (hb1.trans (hb2.out.mono hb1.size))
 have HSU := iD hOu.out.sl
 have HS2 := iD (HS.out.below HB1.out hB)
 have HOW := iD (kU W P (by omega))
 have HBG : Hid (Below W.heap.size W (W.alloc (.cells (Array.replicate P (Value.slice none 0 0)) 22))) := (Below.refl _ _).alloc lR _
 have hgw : w.heap.size ≤ W.heap.size := HB1.out.size
 have hu8 : u ≤ 8 := by have := hu.out; have := HU8.out; omega
 clear hb1 hb2 HC hOu HU8
 obtain ⟨g, hg⟩ : ∃ g, g = W.heap.size := ⟨_, rfl⟩
 rw [← hg] at HOW HBG HSU hgw ⊢
 clear hg
 generalize World.alloc _ _ = W1 at *
 go_loopg [24] P (MaR W g m P)
 case atStart => exact ⟨0, _, rfl, Nat.zero_le _, rfl, HOW, (fun j hj => absurd hj (by omega)), HBG⟩
 case round =>
  clear HOW HBG
  obtain ⟨k, vs, rfl, hk, rfl, how, hin, hbl⟩ := hrel
  by_cases hlt : k < P
  ·have HZ := iD (kf how.out g rfl).2
   have hgz : g < wr.heap.size := HZ.out
   go_wp2_with fail
   refine (yQ A m.length c B m wr (HS2.out.below hbl.out (by omega)) (by omega) (by omega)).mono ?_
   rintro e w3 ⟨Ak, ck, rfl, hO3, hb3⟩
   obtain ⟨y, _, hcy, hfy, hset⟩ := kh (zt how.out hb3.out) hlt
   have HST := iD (hset (.slice Ak m.length ck))
   have HIN3 := iD (((hin.out.below hb3.out lR).row (i := k) lR (.slice Ak m.length ck)))
   have HVK : Hid ((vs.set k (.slice Ak m.length ck))[k]? = some (Value.slice Ak m.length ck)) := by
    unfold Hid
    have := kf how.out
    rw [List.getElem?_set_self (by have := how.out.1; omega)]
   have HO4 := iD (hO3.out.kept (ze w3 ⟨g, k, none⟩ (.slice Ak m.length ck)) (zk fun b e => by have := (hO3.out.lt b e).1; simp; omega))
   have HB4 := iD ((hbl.out.trans (hb3.out.mono (Nat.le_of_lt hgz))).setCell (p := ⟨g, k, none⟩) (by simp) (.slice Ak m.length ck))
   have HAK : Hid (∀ b off, Ak = some ⟨b, off, none⟩ → g < b) := fun b off e => by have := (hO3.out.lt b (by rw [e]; rfl)).1; omega
   have HZ4 : Hid (wr.heap.size ≤ (w3.setCell ⟨g, k, none⟩ (.slice Ak m.length ck)).heap.size) := by have := hb3.out.size; unfold Hid; simp [World.setCell]; exact this
   clear hset hO3 hb3 hin how
   have HFI := iD (wv.start m k)
   go_wp2_with fail
   clear hcy hfy
   generalize World.setCell _ _ _ = W3 at *
   obtain ⟨Bk, hBk⟩ : ∃ Bk, Bk = wr.heap.size := ⟨_, rfl⟩
   rw [← hBk] at HIN3 HO4 HZ4 hgz
   clear hBk HZ hbl
   go_loopg [34] u (eJ W g Bk Ak ck m P k u (vs.set k (.slice Ak m.length ck)))
   case atStart => exact ⟨0, m, rfl, Nat.zero_le _, rfl, HST, HIN3, HB4, HO4, HFI, HZ4⟩
   case round =>
    clear HST HIN3 HB4 HO4 HFI HZ4
    obtain ⟨j, l, rfl, hj, rfl, how, hin, hbl, hO, hfi, hz⟩ := hrel
    by_cases hjt : j < u
    ·obtain ⟨ub, uo, x, rfl, hub, hx, hcu⟩ := (HSU.out.below hbl.out lR).at1 hjt
     rw [List.getElem?_map] at hx
     obtain ⟨d, hd, rfl⟩ : ∃ d, (xO m m.length)[j]? = some d ∧ (d : Int) = x := by
      rcases hq : (xO m m.length)[j]? with _ | d
      ·rw [hq] at hx; cases hx
      ·rw [hq] at hx; exact ⟨d, rfl, by injection hx⟩
     have HD := iD hd
     have hdm : d < m.length := (ve m _ _ _ hd).2.1
     have HF2 := hfi.out.step hd
     rw [← hu.out] at HF2
     replace HF2 := iD HF2
     obtain ⟨gk, y, rfl, hgb, hgl, hy, hcy, hfy, hst⟩ := hO.out.at hdm
     obtain ⟨z, hz1, hz2, hz3, hz4⟩ := kh how.out hlt
     rw [HVK.out] at hz1
     injection hz1 with hz1
     subst hz1
     have HKC := iD hz2
     have HST := iD hst
     clear hx hd hy hz2 hz3 hz4 hst
     obtain ⟨sh, hsh⟩ : ∃ sh, sh = u - 1 - j := ⟨_, rfl⟩
     rw [← hsh] at HF2
     have hsh8 : sh ≤ 8 := by omega
     obtain ⟨u1, hu1⟩ : ∃ u1, u1 = u - 1 := ⟨_, rfl⟩
     have e1 : IntKind.i64.wrap ((u : Int) - 1) = (u1 : Int) := by rw [IntWalk.i64_in _ (by omega)]; omega
     have e2 : IntKind.i64.wrap ((u1 : Int) - (j : Int)) = (sh : Int) := by rw [IntWalk.i64_in _ (by omega)]; omega
     have e3 := gh k sh
     have hq2 : k >>> sh % 2 < 2 := Nat.mod_lt _ (by decide)
     generalize k >>> sh % 2 = q at *
     have e4 : IntKind.i64.wrap (1 + (q : Int)) = 1 + (q : Int) := IntWalk.i64_in _ (by omega)
     clear hsh hu1
     have HSW := iD (HST.out (1 + (q : Int)))
     have HOW2 := iD (how.out.kept (ze wr ⟨gk, d, none⟩ (.int .i64 (1 + (q : Int)))) (zk fun b e => by have := (how.out.lt b e); simp [Value.ownBlock] at e; simp; omega))
     have HIN2 := iD (hin.out.far (p := ⟨gk, d, none⟩) hgb (.int .i64 (1 + (q : Int))))
     have HB2 := iD (hbl.out.setCell (p := ⟨gk, d, none⟩) (by simp; omega) (.int .i64 (1 + (q : Int))))
     have HZ2 : Hid (Bk ≤ (wr.setCell ⟨gk, d, none⟩ (.int .i64 (1 + (q : Int)))).heap.size) := by have := hz.out; unfold Hid; simpa [World.setCell] using this
     have HKC2 : Hid ((wr.setCell ⟨gk, d, none⟩ (.int .i64 (1 + (q : Int)))).cell? ⟨g, k, none⟩ = some (.slice (some ⟨gk, 0, none⟩) m.length ck)) := (World.cell?_setCell_other _ _ _ _ (fun e => by injection e with e1; omega)).trans HKC.out
     go_upto_region 13 with (fail)
     refine zC (S := fun W' => W'.cell? ⟨g, k, none⟩ = some (.slice (some ⟨gk, 0, none⟩) m.length ck)) (J := []) (by kernel_rfl) ?_ (fun AA => ?_)
     ·exact HKC.out
     try dsimp only at AA
     refine tk 0 39 (mf 16 1) AA ?_
     refine tk 1 40 (mf 16 2) AA ?_
     refine tk 2 41 (mf 16 3) AA ?_
     refine tk 3 42 (mf 16 4) AA ?_
     refine tk 4 43 (mf 16 5) AA ?_
     refine tk 5 44 (mf 16 6) AA ?_
     refine tk 6 45 (mf 16 7) AA ?_
     refine tk 7 46 (mf 16 8) AA ?_
     refine tk 8 47 (mf 16 9) AA ?_
     refine tk 9 48 (mf 16 10) AA ?_
     refine tk 10 49 (mf 16 11) AA ?_
     refine tk 11 50 (mf 16 12) AA ?_
     refine tk 12 51 (mf 16 13) AA ?_
     refine tk 13 52 (mf 16 14) AA ?_
     refine tk 14 53 (mf 16 15) AA ?_
     refine tb 15 (mf 16 16) fun K hK => ?_
     go_simp
     refine hK.out _ _ (fun _ => ?_) (fun AA' => ?_)
     ·exact HKC2.out
     replace AA := AA' rfl
     clear AA' hK K
     try dsimp only at AA
     refine zA (by kernel_rfl) ?_ _
     clear AA e1 e2 e3 e4 hcy hfy
     go_wp2_with fail
     go_roundg (u - (j + 1))
     case rel => exact ⟨j + 1, _, by go_num, by omega, rfl, HOW2, HIN2, HB2.out.drew, HSW, HF2, HZ2⟩
     case measure => omega
    ·obtain rfl : j = u := by omega
     have hjj : decide (j < j) = false := by simp
     have HLQ : Hid (l = stN m m.length k) := by
      have := hfi.out
      rw [hu.out] at this
      exact this.done
     have HIN5 := iD (hin.out.put HLQ.out HVK.out hO.out.sl hz.out HAK.out)
     go_wp2_with fail
     go_roundg (P - (k + 1))
     case rel => exact ⟨k + 1, _, by go_num, by omega, rfl, how, HIN5, hbl⟩
     case measure => omega
  ·obtain rfl : k = P := by omega
   have hkk : decide (k < k) = false := by simp
   go_wp2_with fail
   go_ret2
   refine ⟨.inr ⟨HE.out, _, k, k, rfl, vs, Sl.of_own how.out, ?_, fun j l hl => ?_⟩, HB1.out.trans (hbl.out.mono hgw)⟩
   ·unfold yM; rw [uq, ← HP.out]
   ·have hjk : j < k := by
     have := (List.getElem?_eq_some_iff.1 hl).1
     unfold yM at this; rw [uq, ← HP.out] at this; exact this
    obtain ⟨Aj, cj, h1, h2, _⟩ := hin.out j hjk
    have : l = stN m m.length j := by
     unfold yM at hl
     rw [jm m (by rw [← HP.out]; exact hjk)] at hl
     injection hl with hl; exact hl.symm
    subst this
    have hsl : (stN m m.length j).length = m.length := by unfold stN; simp
    rw [hsl]
    exact ⟨Aj, cj, h1, h2⟩
end
section
open Go.RowKit
structure yt (ns : List Nd) (ds : List Dv) : Prop where
 e : yo ns.length ds
 a : AOk ns.length ds
 k : ∀ x ∈ ds, 1 ≤ x.kind ∧ x.kind ≤ 6
 ne : ∀ x ∈ ds, zc x.kind = true → x.b ≠ x.a
 nl : ns.length ≤ 32
 dl : ds.length ≤ 64
theorem mV {k : Int} : ∀ (ds : List Dv) (used : List (List UInt8)), ul k used ds = 0 → ∀ x ∈ ds, (1 ≤ x.kind ∧ x.kind ≤ 6) ∧ wI x.kind x.a x.b k = true
 | [], _, _, x, hx => by cases hx
 | y :: r, used, h, x, hx => by
  rw [ul] at h
  by_cases h0 : vB k used y = 0
  ·rw [if_pos h0] at h
   rcases List.mem_cons.1 hx with rfl | hx
   ·unfold vB at h0
    by_cases h1 : yl (toL x.name) = false
    ·rw [if_pos h1] at h0; cases h0
    by_cases h2 : toL x.name ∈ used
    ·rw [if_neg h1, if_pos h2] at h0; cases h0
    by_cases h3 : x.kind < 1 ∨ 6 < x.kind
    ·rw [if_neg h1, if_neg h2, if_pos h3] at h0; cases h0
    by_cases h4 : wI x.kind x.a x.b k = false
    ·rw [if_neg h1, if_neg h2, if_neg h3, if_pos h4] at h0; cases h0
    exact ⟨by omega, by simpa using h4⟩
   ·exact mV r _ h x hx
  ·rw [if_neg h0] at h; exact absurd h h0
theorem yt.of {ns : List Nd} {ds : List Dv} (h : za ns ds = 0) : yt ns ds := by
 unfold za at h
 by_cases h1 : 32 < ns.length
 ·rw [if_pos h1] at h; cases h
 by_cases h2 : 64 < ds.length
 ·rw [if_neg h1, if_pos h2] at h; cases h
 by_cases h3 : uL [] ns = 0
 ·rw [if_neg h1, if_neg h2, if_pos h3] at h
  have H := mV ds _ h
  have E : ∀ x ∈ ds, 0 ≤ x.a ∧ x.a < ns.length ∧ (zc x.kind = true → 0 ≤ x.b ∧ x.b < ns.length ∧ x.b ≠ x.a) := fun x hx => by
   have := (H x hx).2
   unfold wI at this
   split at this
   ·cases this
   ·next e1 =>
    split at this
    ·cases this
    ·next e2 =>
     refine ⟨by omega, by omega, fun hj => ?_⟩
     rw [if_neg (by rw [hj]; simp)] at this
     simp at this
     omega
  exact ⟨fun x hx hj => ⟨⟨(E x hx).1, (E x hx).2.1⟩, ((E x hx).2.2 hj).1, ((E x hx).2.2 hj).2.1⟩, fun x hx => ⟨(E x hx).1, (E x hx).2.1⟩, fun x hx => (H x hx).1, fun x hx hj => ((E x hx).2.2 hj).2.2, by omega, by omega⟩
 ·rw [if_neg h1, if_neg h2, if_neg h3] at h; exact absurd h h3
theorem zp {ns : List Nd} {ds : List Dv} {s : List Int} (h : zN ns ds s = 0) : za ns ds = 0 ∧ s.length = ds.length := by
 unfold zN at h
 split at h
 ·next h1 => exact absurd h h1
 next h1 =>
 split at h
 ·cases h
 next h2 => exact ⟨by simpa using h1, by omega⟩
theorem zV {ns : List Nd} {ds : List Dv} {s : List Int} (h : zU ns ds s = 0) : za ns ds = 0 ∧ s.length = ds.length ∧ ∀ p ∈ s, zj p = true := by
 unfold zU at h
 split at h
 ·next h1 => exact absurd h h1
 next h1 =>
 split at h
 ·cases h
 next h2 =>
 split at h
 ·next h3 => exact ⟨by simpa using h1, by omega, h3⟩
 ·cases h
structure yX (w : World) (An Ad As Al Ap : Option Addr) (nn cn nd cd n c nl cl np cp : Nat) (ns : List Nd) (ds : List Dv) (s : List Int) (ls : List Lk) (pr : List Int) : Prop where
 hn : Sl w w.heap.size 3 An nn cn (ns.flatMap Nd.cells)
 hd : Sl w w.heap.size 5 Ad nd cd (ds.flatMap Dv.cells)
 hs : Sl w w.heap.size 1 As n c (zD s)
 hl : Sl w w.heap.size 3 Al nl cl (ls.flatMap Lk.cells)
 hp : Sl w w.heap.size 1 Ap np cp (zD pr)
 la : Laid w
 sn : ∀ x ∈ ns, x.name.size ≤ 9223372036854775807
 sd : ∀ x ∈ ds, x.name.size ≤ 9223372036854775807
section
variable {w W : World} {An Ad As Al Ap : Option Addr} {nn cn nd cd n c nl cl np cp : Nat} {ns : List Nd} {ds : List Dv} {s : List Int} {ls : List Lk} {pr : List Int}
theorem yX.below (h : yX w An Ad As Al Ap nn cn nd cd n c nl cl np cp ns ds s ls pr) (hb : Below w.heap.size w W) : yX W An Ad As Al Ap nn cn nd cd n c nl cl np cp ns ds s ls pr :=
 ⟨(h.hn.below hb lR).more hb.size, (h.hd.below hb lR).more hb.size, (h.hs.below hb lR).more hb.size, (h.hl.below hb lR).more hb.size, (h.hp.below hb lR).more hb.size, h.la.below hb lR, h.sn, h.sd⟩
theorem yX.ln (h : yX w An Ad As Al Ap nn cn nd cd n c nl cl np cp ns ds s ls pr) : ns.length = nn ∧ ds.length = nd ∧ s.length = n := ⟨h.hn.len (fun _ => rfl) (by decide), h.hd.len (fun _ => rfl) (by decide), h.hs.len (fun _ => rfl) (by decide)⟩
end
structure Bx3 (w : World) (nt op gr : Array Value) (W : World) : Prop where
 bl : Below w.heap.size w W
 bn : Blk W w.heap.size 30 nt
 bo : Blk W (w.heap.size + 1) 77 op
 bg : Blk W (w.heap.size + 2) 37 gr
theorem Bx3.new (w : World) (nt op gr : Array Value) : Bx3 w nt op gr (((w.alloc (.cells nt 30)).alloc (.cells op 77)).alloc (.cells gr 37)) := by
 refine ⟨(((Below.refl _ _).alloc lR _).alloc (by simp) _).alloc (by simp; omega) _, ((Blk.new _ _ _).alloc _).alloc _, ?_, ?_⟩
 ·have := (Blk.new (w.alloc (.cells nt 30)) 77 op).alloc (.cells gr 37)
  simpa using this
 ·have := Blk.new ((w.alloc (.cells nt 30)).alloc (.cells op 77)) 37 gr
  simpa using this
theorem Bx3.later {w W W' : World} {nt op gr : Array Value} (h : Bx3 w nt op gr W) (hb : Below W.heap.size W W') : Bx3 w nt op gr W' :=
 ⟨h.bl.trans (hb.mono h.bl.size), h.bn.below hb h.bn.lt, h.bo.below hb h.bo.lt, h.bg.below hb h.bg.lt⟩
theorem Bx3.cells {w W : World} {nn cn nd cd nl cl np cp : Nat} {An Ad Al Ap : Option Addr} {d p co : Int} (h : Bx3 w #[.slice An nn cn, .slice Ad nd cd] #[.int .i64 d, .int .i64 p] #[.int .i64 co, .slice Al nl cl, .slice Ap np cp] W) :
 (W.cell? ⟨w.heap.size, 0, none⟩ = some (.slice An nn cn) ∧ W.cell? ⟨w.heap.size, 1, none⟩ = some (.slice Ad nd cd)) ∧ (W.cell? ⟨w.heap.size + 1, 0, none⟩ = some (.int .i64 d) ∧ W.cell? ⟨w.heap.size + 1, 1, none⟩ = some (.int .i64 p)) ∧ W.cell? ⟨w.heap.size + 2, 0, none⟩ = some (.int .i64 co) ∧ W.cell? ⟨w.heap.size + 2, 1, none⟩ = some (.slice Al nl cl) ∧ W.cell? ⟨w.heap.size + 2, 2, none⟩ = some (.slice Ap np cp) :=
 ⟨⟨h.bn.cell 0, h.bn.cell 1⟩, ⟨h.bo.cell 0, h.bo.cell 1⟩, h.bg.cell 0, h.bg.cell 1, h.bg.cell 2⟩
def yc (nd : Nat) (d p co : Int) : Int := if d < 0 then 8 else if (nd : Int) ≤ d then 8 else if p ≠ 1 ∧ p ≠ 2 then 10 else if co < 0 then 5 else if 7 < co then 5 else 0
theorem tT (An Ad Al Ap : Option Addr) (nn cn nd cd nl cl np cp : Nat) (d p co : Int) (w : World) (_hndm : nd ≤ 9223372036854775807) :
 Calls Tryz.prog 124 #[.agg #[.slice An nn cn, .slice Ad nd cd], .agg #[.int .i64 d, .int .i64 p], .agg #[.int .i64 co, .slice Al nl cl, .slice Ap np cp]] w fun e w' => e = .returned (.int .i64 (yc nd d p co)) ∧ Below w.heap.size w w' := by
 have HE : Hid (yc nd d p co = if d < 0 then 8 else if (nd : Int) ≤ d then 8 else if p ≠ 1 ∧ p ≠ 2 then 10 else if co < 0 then 5 else if 7 < co then 5 else 0) := rfl
 have HB := iD (Bx3.new w #[.slice An nn cn, .slice Ad nd cd] #[.int .i64 d, .int .i64 p] #[.int .i64 co, .slice Al nl cl, .slice Ap np cp]).bl
 by_cases h1 : d < 0
 ·go_enter Tryz.func124, Tryz.ntmps124
  go_wp2_with fail
  go_ret
  exact ⟨zE (by rw [HE.out, if_pos (by omega)]), HB.out⟩
 have q1 : decide (d < 0) = false := by simpa using h1
 by_cases h2 : (nd : Int) ≤ d
 ·go_enter Tryz.func124, Tryz.ntmps124
  go_wp2_with fail
  go_ret
  exact ⟨zE (by rw [HE.out, if_neg (by omega), if_pos (by omega)]), HB.out⟩
 have q2 : decide ((nd : Int) ≤ d) = false := by simpa using h2
 by_cases h3 : p ≠ 1 ∧ p ≠ 2
 ·have q3 : (p != 1) = true := by simpa using h3.1
  have q4 : (p != 2) = true := by simpa using h3.2
  go_enter Tryz.func124, Tryz.ntmps124
  go_wp2_with fail
  go_ret
  exact ⟨zE (by rw [HE.out, if_neg (by omega), if_neg (by omega), if_pos (by omega)]), HB.out⟩
 have HN3 : Hid (yc nd d p co = if co < 0 then 5 else if 7 < co then 5 else 0) := by unfold Hid; rw [HE.out, if_neg (by omega), if_neg (by omega), if_neg (by omega)]
 clear HE
 by_cases h4 : co < 0
 ·rcases (show p = 1 ∨ p = 2 by omega) with rfl | rfl
  ·go_enter Tryz.func124, Tryz.ntmps124
   go_wp2_with fail
   go_ret
   exact ⟨zE (by rw [HN3.out, if_pos (by omega)]), HB.out⟩
  ·go_enter Tryz.func124, Tryz.ntmps124
   go_wp2_with fail
   go_ret
   exact ⟨zE (by rw [HN3.out, if_pos (by omega)]), HB.out⟩
 have q5 : decide (co < 0) = false := by simpa using h4
 have HN4 : Hid (yc nd d p co = if 7 < co then 5 else 0) := by unfold Hid; rw [HN3.out, if_neg (by omega)]
 clear HN3
 by_cases h5 : 7 < co
 ·rcases (show p = 1 ∨ p = 2 by omega) with rfl | rfl
  ·go_enter Tryz.func124, Tryz.ntmps124
   go_wp2_with fail
   go_ret
   exact ⟨zE (by rw [HN4.out, if_pos (by omega)]), HB.out⟩
  ·go_enter Tryz.func124, Tryz.ntmps124
   go_wp2_with fail
   go_ret
   exact ⟨zE (by rw [HN4.out, if_pos (by omega)]), HB.out⟩
 have q6 : decide (7 < co) = false := by simpa using h5
 rcases (show p = 1 ∨ p = 2 by omega) with rfl | rfl
 ·go_enter Tryz.func124, Tryz.ntmps124
  go_wp2_with fail
  go_ret
  exact ⟨zE (by rw [HN4.out, if_neg (by omega)]), HB.out⟩
 ·go_enter Tryz.func124, Tryz.ntmps124
  go_wp2_with fail
  go_ret
  exact ⟨zE (by rw [HN4.out, if_neg (by omega)]), HB.out⟩
theorem pf {nd : Nat} {d p co : Int} (h : yc nd d p co = 0) : (0 ≤ d ∧ d < nd) ∧ (p = 1 ∨ p = 2) ∧ 0 ≤ co ∧ co ≤ 7 := by
 unfold yc at h
 split at h
 ·cases h
 split at h
 ·cases h
 split at h
 ·cases h
 split at h
 ·cases h
 split at h
 ·cases h
 omega
theorem gI {An Ad As Al Ap : Option Addr} {nn cn nd cd n c nl cl np cp : Nat} {ns : List Nd} {ds : List Dv} {s : List Int} {ls : List Lk} {pr : List Int} {w : World} (h : yX w An Ad As Al Ap nn cn nd cd n c nl cl np cp ns ds s ls pr) (h0 : zN ns ds s = 0) {d p co : Int} (he : yc nd d p co = 0) :
 ∃ x : Dv, ds[d.toNat]? = some x ∧ Calls Tryz.prog 125 #[.agg #[.slice An nn cn, .slice Ad nd cd], .slice As n c, .agg #[.int .i64 d, .int .i64 p], .agg #[.int .i64 co, .slice Al nl cl, .slice Ap np cp]] w (yx w (xu nn ns ds s d.toNat p co ls pr x)) := by
 obtain ⟨h1, h2, h3⟩ := h.ln
 obtain ⟨hd, hp, _⟩ := pf he
 obtain ⟨k, rfl⟩ := Int.eq_ofNat_of_zero_le hd.1
 obtain ⟨hc, hsl⟩ := zp h0
 have H := yt.of hc
 have hk : k < ds.length := by omega
 have hx : ds[k]? = some (ds[k]'hk) := List.getElem?_eq_getElem hk
 have E := H.e; have A := H.a; have nl := H.nl; have dl := H.dl
 rw [h1] at E A
 refine ⟨_, hx, ?_⟩
 exact ga An Ad As Al Ap nn cn nd cd n c _ cl np cp _ _ _ _ _ k p co ns ds s ls pr _ w h.la h.hn lR h.hd lR h.hs lR h.hl lR h.hp lR h.sn h.sd h0 (by omega) (by omega) (by omega) (by omega) hx E A hp (H.k _ (List.getElem_mem hk))
def vT (ns : List Nd) (ds : List Dv) (s : List Int) (d p co : Int) : Int := if zN ns ds s = 0 then yc ds.length d p co else zN ns ds s
def gv (w : World) (ns : List Nd) (ds : List Dv) (s : List Int) (d p co : Int) (ls : List Lk) (pr : List Int) (e : Ending) (w' : World) : Prop :=
 (vT ns ds s d p co ≠ 0 ∧ e = .returned (.tuple #[.slice none 0 0, .int .i64 (vT ns ds s d p co)]) ∨ vT ns ds s d p co = 0 ∧ ∃ (A : Option Addr) (k c : Nat) (x : Dv), ds[d.toNat]? = some x ∧ e = .returned (.tuple #[.slice A k c, .int .i64 0]) ∧ Hid (zO w' w.heap.size A k c (xu ns.length ns ds s d.toNat p co ls pr x))) ∧ Hid (Below w.heap.size w w')
theorem ju (An Ad As Al Ap : Option Addr) (nn cn nd cd n c nl cl np cp : Nat) (ns : List Nd) (ds : List Dv) (s : List Int) (ls : List Lk) (pr : List Int) (d p co : Int) (w : World) (h : yX w An Ad As Al Ap nn cn nd cd n c nl cl np cp ns ds s ls pr) :
 Calls Tryz.prog 100 #[.agg #[.slice An nn cn, .slice Ad nd cd], .slice As n c, .agg #[.int .i64 d, .int .i64 p], .agg #[.int .i64 co, .slice Al nl cl, .slice Ap np cp]] w (gv w ns ds s d p co ls pr) := by
 obtain ⟨hln, hld, hls⟩ := h.ln
 have hndm := h.hd.le
 have HB := iD (Bx3.new w #[.slice An nn cn, .slice Ad nd cd] #[.int .i64 d, .int .i64 p] #[.int .i64 co, .slice Al nl cl, .slice Ap np cp])
 have HH := iD h
 clear h
 have HIE : Hid (vT ns ds s d p co = if zN ns ds s = 0 then yc nd d p co else zN ns ds s) := by unfold Hid vT; rw [hld]
 go_enter Tryz.func100, Tryz.ntmps100
 go_wp2_with fail
 generalize World.alloc (World.alloc (World.alloc w _) _) _ = W at *
 have HM := iD (HH.out.below HB.out.bl)
 have HC := iD (wm An Ad As nn cn nd cd n c W.heap.size W.heap.size W.heap.size ns ds s W HM.out.la HM.out.hn HM.out.hd HM.out.hs lR lR lR HM.out.sn HM.out.sd)
 refine HC.out.mono ?_
 rintro e w1 ⟨rfl, hb1⟩
 have HB1 := iD (HB.out.later hb1)
 clear hb1 HC HM HB
 by_cases h0 : zN ns ds s = 0; rotate_left
 ·have q : (zN ns ds s == 0) = false := by simpa using h0
  have q2 : (zN ns ds s != 0) = true := by simpa using h0
  have HR : Hid (vT ns ds s d p co = zN ns ds s) := by unfold Hid; rw [HIE.out, if_neg h0]
  have H0 := iD h0
  clear h0 HIE
  go_wp2_with fail
  go_ret2
  exact ⟨.inl ⟨by rw [HR.out]; exact H0.out, by rw [HR.out]; rfl⟩, HB1.out.bl⟩
 have HR : Hid (vT ns ds s d p co = yc nd d p co) := by unfold Hid; rw [HIE.out, if_pos h0]
 have H0 := iD h0
 clear HIE
 rw [h0]
 clear h0
 obtain ⟨⟨k0, k1⟩, ⟨o0, o1⟩, g0, g1, g2⟩ := HB1.out.cells
 go_wp2_with fail
 clear k0 k1 o0 o1 g0 g1 g2
 refine (tT An Ad Al Ap nn cn nd cd nl cl np cp d p co w1 (by omega)).mono ?_
 rintro e w2 ⟨rfl, hb2⟩
 have HB2 := iD (HB1.out.later hb2)
 clear hb2 HB1
 by_cases he : yc nd d p co = 0; rotate_left
 ·have q : (yc nd d p co != 0) = true := by simpa using he
  have HE := iD he
  clear he
  go_wp2_with fail
  go_ret2
  exact ⟨.inl ⟨by rw [HR.out]; exact HE.out, by rw [HR.out]; rfl⟩, HB2.out.bl⟩
 have HE := iD he
 rw [he] at HR ⊢
 clear he
 obtain ⟨x, hx, hin⟩ := gI (HH.out.below HB2.out.bl) H0.out HE.out
 have HIN := iD hin; have HX := iD hx
 clear hin hx
 obtain ⟨⟨k0, k1⟩, ⟨o0, o1⟩, g0, g1, g2⟩ := HB2.out.cells
 go_wp2_with fail
 clear k0 k1 o0 o1 g0 g1 g2
 refine HIN.out.mono ?_
 rintro e w3 ⟨A, ca, rfl, hO, hb3⟩
 go_wp2_with fail
 go_ret2
 exact ⟨.inr ⟨HR.out, A, _, ca, x, HX.out, rfl, by subst hln; exact hO.out.mono HB2.out.bl.size⟩, HB2.out.bl.trans (hb3.out.mono HB2.out.bl.size)⟩
def yh (ns : List Nd) (ds : List Dv) (m : List Int) (d p co : Int) : Int := if zU ns ds m = 0 then (if yc ds.length d p co = 0 then yL m else yc ds.length d p co) else zU ns ds m
def ir (w : World) (ns : List Nd) (ds : List Dv) (m : List Int) (d p co : Int) (e : Ending) (w' : World) : Prop :=
 (yh ns ds m d p co ≠ 0 ∧ e = .returned (.tuple #[.slice none 0 0, .int .i64 (yh ns ds m d p co)]) ∨ yh ns ds m d p co = 0 ∧ ∃ (A : Option Addr) (k c : Nat), e = .returned (.tuple #[.slice A k c, .int .i64 0]) ∧ Hid (yW w' w'.heap.size A k c (yM m))) ∧ Hid (Below w.heap.size w w')
theorem oU (An Ad As Al Ap : Option Addr) (nn cn nd cd n c nl cl np cp : Nat) (ns : List Nd) (ds : List Dv) (m : List Int) (ls : List Lk) (pr : List Int) (d p co : Int) (w : World) (h : yX w An Ad As Al Ap nn cn nd cd n c nl cl np cp ns ds m ls pr) :
 Calls Tryz.prog 169 #[.agg #[.slice An nn cn, .slice Ad nd cd], .slice As n c, .agg #[.int .i64 d, .int .i64 p], .agg #[.int .i64 co, .slice Al nl cl, .slice Ap np cp]] w (ir w ns ds m d p co) := by
 obtain ⟨hln, hld, hls⟩ := h.ln
 have hndm := h.hd.le
 have HB := iD (Bx3.new w #[.slice An nn cn, .slice Ad nd cd] #[.int .i64 d, .int .i64 p] #[.int .i64 co, .slice Al nl cl, .slice Ap np cp])
 have HH := iD h
 clear h
 have HIE : Hid (yh ns ds m d p co = if zU ns ds m = 0 then (if yc nd d p co = 0 then yL m else yc nd d p co) else zU ns ds m) := by unfold Hid yh; rw [hld]
 go_enter Tryz.func169, Tryz.ntmps169
 go_wp2_with fail
 generalize World.alloc (World.alloc (World.alloc w _) _) _ = W at *
 have HM := iD (HH.out.below HB.out.bl)
 have HC := iD (vQ An Ad As nn cn nd cd n c W.heap.size W.heap.size W.heap.size ns ds m W HM.out.la HM.out.hn HM.out.hd HM.out.hs lR lR lR HM.out.sn HM.out.sd)
 refine HC.out.mono ?_
 rintro e w1 ⟨rfl, hb1⟩
 have HB1 := iD (HB.out.later hb1)
 clear hb1 HC HM HB
 by_cases h0 : zU ns ds m = 0; rotate_left
 ·have q : (zU ns ds m == 0) = false := by simpa using h0
  have q2 : (zU ns ds m != 0) = true := by simpa using h0
  have HR : Hid (yh ns ds m d p co = zU ns ds m) := by unfold Hid; rw [HIE.out, if_neg h0]
  have H0 := iD h0
  clear h0 HIE
  go_wp2_with fail
  go_ret2
  exact ⟨.inl ⟨by rw [HR.out]; exact H0.out, by rw [HR.out]; rfl⟩, HB1.out.bl⟩
 have HR : Hid (yh ns ds m d p co = if yc nd d p co = 0 then yL m else yc nd d p co) := by unfold Hid; rw [HIE.out, if_pos h0]
 have H0 := iD h0
 clear HIE
 rw [h0]
 clear h0
 obtain ⟨⟨k0, k1⟩, ⟨o0, o1⟩, g0, g1, g2⟩ := HB1.out.cells
 go_wp2_with fail
 clear k0 k1 o0 o1 g0 g1 g2
 refine (tT An Ad Al Ap nn cn nd cd nl cl np cp d p co w1 (by omega)).mono ?_
 rintro e w2 ⟨rfl, hb2⟩
 have HB2 := iD (HB1.out.later hb2)
 clear hb2 HB1
 by_cases he : yc nd d p co = 0; rotate_left
 ·have q : (yc nd d p co != 0) = true := by simpa using he
  have HE := iD he
  have HR2 : Hid (yh ns ds m d p co = yc nd d p co) := by unfold Hid; rw [HR.out, if_neg he]
  clear he HR
  go_wp2_with fail
  go_ret2
  exact ⟨.inl ⟨by rw [HR2.out]; exact HE.out, by rw [HR2.out]; rfl⟩, HB2.out.bl⟩
 have HR2 : Hid (yh ns ds m d p co = yL m) := by unfold Hid; rw [HR.out, if_pos he]
 rw [he]
 clear he HR
 have hm64 : m.length ≤ 1000 := by
  obtain ⟨h1, h2, _⟩ := zV H0.out
  have := (yt.of h1).dl
  omega
 subst hls
 go_wp2_with fail
 refine (il As c w2.heap.size m w2 (HH.out.below HB2.out.bl).la (HH.out.below HB2.out.bl).hs lR hm64).mono ?_
 rintro e w3 ⟨⟨h1, rfl⟩ | ⟨h1, A, k, ca, rfl, hR⟩, hb3⟩
 ·have H1 := iD h1
  clear h1
  go_wp2_with fail
  go_ret2
  exact ⟨.inl ⟨by rw [HR2.out]; exact H1.out, by rw [HR2.out]; rfl⟩, HB2.out.bl.trans (hb3.out.mono HB2.out.bl.size)⟩
 ·have H1 := iD h1
  clear h1
  go_wp2_with fail
  go_ret2
  exact ⟨.inr ⟨by rw [HR2.out]; exact H1.out, A, k, ca, rfl, hR⟩, HB2.out.bl.trans (hb3.out.mono HB2.out.bl.size)⟩
end
section
open Go.RowKit
open Go.Sort (grow)
instance : Inhabited Lk := ⟨⟨0, 0, 0⟩⟩
theorem pk (ls : List Lk) : Go.Sort.flatK Lk.cells 3 ls.toArray = (ls.flatMap Lk.cells).toArray := by
 apply Array.ext'
 simp only [Go.Sort.flatK, Array.toList_map, Array.toList_range, List.size_toArray]
 apply List.ext_getElem?
 intro t
 rw [List.getElem?_map]
 by_cases ht : t < ls.length * 3
 ·rw [List.getElem?_range ht]
  have h3 : t = t / 3 * 3 + t % 3 := by omega
  have hq : t / 3 < ls.length := by omega
  have := vl (f := Lk.cells) (size := 3) (fun _ => rfl) ls (t / 3) (t % 3) _ (List.getElem?_eq_getElem hq) (by omega)
  rw [← h3] at this
  rw [this]
  simp only [Option.map_some]
  have hr : t % 3 < (Lk.cells ls[t / 3]).length := by show t % 3 < 3; omega
  rw [List.getElem?_eq_getElem hr]
  congr 1
  have e1 : ls.toArray[t / 3]! = ls[t / 3] := by simp [hq]
  rw [e1, List.getElem!_eq_getElem?_getD, List.getElem?_eq_getElem hr]; rfl
 ·rw [List.getElem?_eq_none (by simp; omega), List.getElem?_eq_none (by rw [yK (size := 3) (fun _ => rfl)]; omega)]; rfl
theorem jV {w : World} {g : Nat} {cur : Array Value} {e : TypeId} {ls : List Lk} (hb : w.heap[g]? = some (.cells cur e (0, 0))) (ht : cur.toList.take (ls.length * 3) = ls.flatMap Lk.cells) : Go.Sort.HoldsK Lk.cells 3 w g 0 ls.toArray := by
 unfold Go.Sort.HoldsK
 rw [pk]
 intro j hj
 have hj' : j < ls.length * 3 := by rw [List.size_toArray, yK (size := 3) (fun _ => rfl)] at hj; exact hj
 refine ⟨?_, by simp [World.frozen?, hb]⟩
 have h1 : (cur.toList.take (ls.length * 3))[j]? = (ls.flatMap Lk.cells)[j]? := by rw [ht]
 rw [List.getElem?_take_of_lt hj', Array.getElem?_toList] at h1
 have h2 := cell_of_row w g (0 + j) _ _ _ hb
 rw [h2, Nat.zero_add, h1]
 have hl : j < (ls.flatMap Lk.cells).length := by rw [yK (size := 3) (fun _ => rfl)]; exact hj'
 rw [List.getElem?_eq_getElem hl]
 simp only [id, List.getElem!_toArray, List.getElem!_eq_getElem?_getD]
 rw [List.getElem?_eq_getElem hl]; rfl
theorem pL {w : World} {base g cap m n size : Nat} {e : TypeId} {os : Array Obj} {cur : Array Value} {xs : List Value} (hx : xs.length = m * size) (hbase : base ≤ g) (hb : w.heap[g]? = some (.cells cur e (0, 0))) (h1 : m ≤ cap) (h2 : cap ≤ maxLen) (h3 : cur.size = cap * size) :
 (grow (Go.Sort.putRow id (Go.Sort.ahead w n) g 0 xs.toArray) os).ownsRow base e size (.slice (some ⟨g, 0, none⟩) m cap) m xs := by
 have hg : g < w.heap.size := (Array.getElem?_eq_some_iff.1 hb).1
 refine ⟨hx, .inr ⟨g, cap, Go.Sort.putCells id 0 xs.toArray cur, rfl, hbase, ?_, h1, h2, by simp [Go.Sort.putCells, h3], ?_⟩⟩
 ·rw [Go.Sort.heap_grow_old _ _ (by simpa using hg)]
  simp [Go.Sort.putRow, Go.Sort.mapBlock, Go.Sort.ahead, Array.getElem?_modify, hb, Go.Sort.onCells]
 ·rw [← hx]
  have hle : xs.length ≤ cur.size := by rw [hx, h3]; exact Nat.mul_le_mul_right _ h1
  apply List.ext_getElem?
  intro j
  by_cases hj : j < xs.length
  ·rw [List.getElem?_take_of_lt hj, Array.getElem?_toList]
   simp [Go.Sort.putCells, hj, show j < cur.size by omega]
  ·rw [List.getElem?_take_eq_none (by omega), List.getElem?_eq_none (by omega)]
theorem rG {w : World} {g n : Nat} {os : Array Obj} (d : Array Value) : w.grownBy (grow (Go.Sort.putRow id (Go.Sort.ahead w n) g 0 d) os) (some g) := by
 refine ⟨rfl, rfl, rfl, by simp, fun k hk hne => ?_⟩
 rw [Go.Sort.heap_grow_old _ _ (by simpa using hk)]
 have : g ≠ k := fun e => hne (by rw [e])
 simp [Go.Sort.putRow, Go.Sort.mapBlock, Go.Sort.ahead, Array.getElem?_modify, this]
theorem iB : Go.Sort.SWO (ltOf qJ) := by
 have key : ∀ x y, ltOf qJ x y = yC x y := fun x y => by
  unfold ltOf
  rcases h : yC x y with _ | _
  ·have := sJ x y; rw [h] at this; simp at this ⊢; omega
  ·have := sJ x y; rw [h] at this; simp at this ⊢; omega
 refine ⟨fun x => ?_, fun x y z => ?_, fun x y z => ?_⟩
 ·rw [key]; unfold yC; simp
 ·rw [key, key, key]; exact tG
 ·rw [key, key, key]
  intro h1 h2
  rcases h : yC x z with _ | _
  ·rfl
  ·have a1 : ¬ yC x y = true := by rw [h1]; simp
   have a2 : ¬ yC y z = true := by rw [h2]; simp
   rw [um] at a1 a2 h; omega
theorem gY (x y : Lk) : ltOf qJ x y = yC x y := by
 unfold ltOf
 rcases h : yC x y with _ | _
 ·have := sJ x y; rw [h] at this; simp at this ⊢; omega
 ·have := sJ x y; rw [h] at this; simp at this ⊢; omega
theorem sD (A : Option Addr) (n c base : Nat) (ls : List Lk) (w : World) (h : yD w base A n c ls) (h0 : 0 < n) (hn : n ≤ 1000000) :
 Calls Tryz.prog 162 #[.slice A n c, .func (.func 133) #[] #[]] w fun e w' => e = .returned (.tuple #[]) ∧ ∃ ms : List Lk, Hid (ms.Perm ls) ∧ Hid (ms.Pairwise fun x y => yC y x = false) ∧ Hid (yD w' base A n c ms) ∧ Hid (w.grownBy w' (Value.slice A n c).ownBlock) := by
 have hl := h.len
 rcases h.2 with ⟨_, h1⟩ | ⟨g, cap, cur, hv, hb, hh, hnc, hm, hs, ht⟩
 ·omega
 ·injection hv with h1 h2 h3
  subst h1 h3
  subst hl
  have hcon := AnyQ.slices_SortFunc Tryz.sortLkSort 3 Tryz.isAgg106 Tryz.sizeOf106 Lk.cells (fun _ => rfl) (fun x v hv => by simp [Lk.cells] at hv; rcases hv with rfl | rfl | rfl <;> rfl) qJ iB 133 #[] g 0 c ls.toArray w
   (enters_of Tryz.func133 (by kernel_rfl) rfl) (fun _ _ _ _ x y => rT x y _) (jV hh ht) (h.lt g rfl).2 (by simp; omega)
  refine hcon.mono ?_
  rintro e w1 ⟨rfl, d', k, os, ⟨hz, _, hp⟩, hso, rfl⟩
  have hz' : d'.toList.length = ls.length := by simpa using hz
  refine ⟨rfl, d'.toList, ?_, ?_, ?_, rG _⟩
  ·have e2 : (ls.toArray.extract 0 ls.toArray.size).toList = ls := by simp
   have e3 : (d'.extract 0 ls.toArray.size).toList = d'.toList := by rw [← hz]; simp
   rw [e2, e3] at hp
   exact hp
  ·show List.Pairwise _ _
   rw [List.pairwise_iff_getElem]
   intro i j hi hj hij
   have hz2 : d'.size = ls.length := by simpa using hz
   have := hso i j (Nat.zero_le _) hij (by simp at hj ⊢; omega)
   rw [gY] at this
   have hi' : i < d'.size := by simpa using hi
   have hj' : j < d'.size := by simpa using hj
   rw [getElem!_pos d' i hi', getElem!_pos d' j hj'] at this
   simpa using this
  ·have := pL (n := k) (os := os) (xs := d'.toList.flatMap Lk.cells) (m := ls.length) (size := 3) (by rw [yK (size := 3) (fun _ => rfl), hz']) hb hh hnc hm hs
   rw [← pk] at this
   exact this
end
section
open Go.RowKit
theorem qy {ds : List Dv} {ls ms : List Lk} {k : Lk} (hg : xK ds (wP k ls)) (hp : ms.Perm (ls ++ [k])) (hs : ms.Pairwise fun x y => yC y x = false) : ms = wP k ls := by
 have hpi : ms.Perm (wP k ls) := hp.trans (jO k ls).symm
 have hk : (wP k ls).Pairwise fun a b : Lk => a.key ≠ b.key := hg.2.2.imp fun h => h.2.2
 have hkm : ms.Pairwise fun a b : Lk => a.key ≠ b.key := hpi.symm.pairwise hk (fun h e => h e.symm)
 refine jG ?_ hg.sorted (fun x => hpi.mem_iff)
 exact (hs.and hkm).imp fun ⟨h1, h2⟩ => rh (fun e => h2 e.symm) h1
theorem kc {w : World} {base : Nat} {e : TypeId} (hb : base ≤ w.heap.size) : (w.alloc (.cells #[] e)).ownsRow base e 3 (.slice (some ⟨w.heap.size, 0, none⟩) 0 0) 0 [] :=
 ⟨rfl, .inr ⟨w.heap.size, 0, #[], rfl, hb, heap_alloc_new w _, Nat.le_refl _, by simp [maxLen], rfl, rfl⟩⟩
theorem uY (A : Option Addr) (n c : Nat) (w : World) : (binOp BinOp.eql 35 (.slice A n c) (.slice none 0 0)).run Tryz.prog w = .ok (.bool A.isNone) w := by
 cases A <;> kernel_rfl
theorem wJ (A : Option Addr) (n c B : Nat) (l : List Lk) (w : World) (hs : Sl w B 3 A n c (l.flatMap Lk.cells)) (hB : B ≤ w.heap.size) (hn : n ≤ 1000000) : Calls Tryz.prog 75 #[.slice A n c] w fun e w' => ∃ (A' : Option Addr) (c' : Nat), e = .returned (.slice A' l.length c') ∧ Hid (yD w' w.heap.size A' l.length c' l) ∧ Hid (Below w.heap.size w w') := by
 have hl := hs.len (fun _ => rfl) (by decide)
 have HL := iD hl; clear hl
 cases A with
 | none =>
  have h0 : n = 0 := by have := hs.2.2.2.1 rfl; have := hs.le; omega
  subst h0
  have hl0 : l = [] := List.eq_nil_of_length_eq_zero HL.out
  subst hl0
  clear hs HL
  have hnil := uY none 0 c w
  simp only [Option.isNone_none] at hnil
  go_enter Tryz.func75, Tryz.ntmps75
  go_wp2_with fail
  go_ret
  exact ⟨none, 0, rfl, World.ownsRow_nil _ _ _ _, Below.refl _ _⟩
 | some a =>
  have HS := iD hs
  have hH := hs.le
  clear hs
  have hnil := uY (some a) n c w
  simp only [Option.isNone_some] at hnil
  go_enter Tryz.func75, Tryz.ntmps75
  have h1 : ∀ u ∈ l.flatMap Lk.cells, u.oneCell' = true := rU l
  have HS1 := iD (HS.out.alloc hB (.cells #[] 106))
  go_wp2_with (at_builtin; go_must (refine zR rfl (.tmp 5) (.tmp 6) rfl tn (base := w.heap.size) (n := 0) (xs := []) (by rfl) (kc lR) (by rfl) HS1.out h1 (by omega) (by omega) (by simp) ?_; intro A' cap' w2 hown2 hgr2 hat2; simp only [Nat.zero_add, List.nil_append] at hown2 hgr2; have HO := iD hown2; have HG := iD hgr2; clear hown2 hgr2 hat2))
  go_ret
  obtain rfl : l.length = n := HL.out
  exact ⟨A', cap', rfl, HO.out, ((Below.refl _ _).alloc lR _).trans (zz HG.out lR (by simp))⟩
theorem wB {w4 w5 w6 : World} {A : Option Addr} {n c : Nat} {xs : List Value} {o : Obj} {e : TypeId} {size : Nat} (h5 : Below w4.drew.heap.size w4.drew w5) (ho : w5.ownsRow w4.drew.heap.size e size (.slice A n c) n xs) (h6 : (w5.alloc o).grownBy w6 (Value.slice A n c).ownBlock) : Below w4.heap.size w4 w6 := by
 have h1 : Below w4.heap.size w4 w5 := (Below.refl _ _).drew.trans h5
 have h2 := h1.alloc h1.size o
 exact h2.trans ⟨h6.os, h6.tape, h6.output, h6.size, fun t ht => h6.block t (by have := h2.size; omega) (fun e => by have := (ho.lt t e.symm).1; simp only [World.drew] at this; omega)⟩
theorem wA {w4 w5 w6 : World} {A : Option Addr} {n c : Nat} {xs : List Value} {o : Obj} {e : TypeId} {size : Nat} (h5 : Below (w4.drew.alloc o).heap.size (w4.drew.alloc o) w5) (ho : w5.ownsRow (w4.drew.alloc o).heap.size e size (.slice A n c) n xs) (h6 : w5.grownBy w6 (Value.slice A n c).ownBlock) : Below w4.heap.size w4 w6 := by
 have hsz : (w4.drew.alloc o).heap.size = w4.heap.size + 1 := by simp
 have h1 : Below w4.heap.size w4 w5 := ((Below.refl _ _).drew.alloc (by simp) o).trans (h5.mono (by omega))
 exact h1.trans ⟨h6.os, h6.tape, h6.output, h6.size, fun t ht => h6.block t (by have := h1.size; omega) (fun e => by have := (ho.lt t e.symm).1; omega)⟩
theorem jL (An Ad Al : Option Addr) (nn cn nd cd c Bn Bd Bl : Nat) (ns : List Nd) (ds : List Dv) (ls : List Lk) (d p q : Int) (w : World) (hla : Laid w) (hn : Sl w Bn 3 An nn cn (ns.flatMap Nd.cells)) (hd : Sl w Bd 5 Ad nd cd (ds.flatMap Dv.cells)) (hs : Sl w Bl 3 Al ls.length c (ls.flatMap Lk.cells)) (hBn : Bn ≤ w.heap.size) (hBd : Bd ≤ w.heap.size) (hBl : Bl ≤ w.heap.size)
 (hsn : ∀ x ∈ ns, x.name.size ≤ 9223372036854775807) (hsd : ∀ x ∈ ds, x.name.size ≤ 9223372036854775807) :
 Calls Tryz.prog 131 #[.agg #[.slice An nn cn, .slice Ad nd cd], .slice Al ls.length c, .agg #[.int .i64 d, .int .i64 p, .int .i64 q]] w (kC w ns ds ls ⟨d, p, q⟩) := by
 obtain ⟨n, hnl⟩ : ∃ n, n = ls.length := ⟨_, rfl⟩
 rw [← hnl] at hs ⊢
 have HNL := iD hnl
 have HE : Hid (zw ns ds ls ⟨d, p, q⟩ = if zK ns ds ls ≠ 0 then zK ns ds ls else if ya ds ⟨d, p, q⟩ ≠ 0 then ya ds ⟨d, p, q⟩ else if wM ls q = true then 4 else if wU ls ⟨d, p, q⟩ = true then 18 else if n = 128 then 1 else 0) := by unfold Hid zw; rw [hnl]
 have hle := hs.le
 have HD := iD hd; have HS := iD hs
 have HST : Hid (ng w #[.slice An nn cn, .slice Ad nd cd] #[.int .i64 d, .int .i64 p, .int .i64 q] ((w.alloc (.cells #[.slice An nn cn, .slice Ad nd cd] 30)).alloc (.cells #[.int .i64 d, .int .i64 p, .int .i64 q] 106))) :=
  ⟨(Blk.new _ _ _).alloc _, by have := Blk.new (w.alloc (.cells #[.slice An nn cn, .slice Ad nd cd] 30)) 106 #[.int .i64 d, .int .i64 p, .int .i64 q]; simpa using this, ((Below.refl _ _).alloc lR _).alloc (by simp) _⟩
 have HLA2 := iD ((hla.alloc (.cells #[.slice An nn cn, .slice Ad nd cd] 30)).alloc (.cells #[.int .i64 d, .int .i64 p, .int .i64 q] 106))
 have hN2 := hn.below HST.out.bl hBn
 clear hd hs hnl hla
 go_enter Tryz.func131, Tryz.ntmps131
 go_upto_region 1 with (fail)
 generalize World.alloc (World.alloc _ _) _ = W at *
 have hz := HST.out.bl.size
 have HCK := iD (uJ An Ad Al nn cn nd cd n c Bn Bd Bl ns ds ls W HLA2.out hN2 (HD.out.below HST.out.bl hBd) (HS.out.below HST.out.bl hBl) (by omega) (by omega) (by omega) hsn hsd)
 have k0 := HST.out.bn.c0
 have k1 := HST.out.bn.c1
 clear hN2 hn hsn hsd HLA2
 go_wp2_with fail
 clear k0 k1
 refine HCK.out.mono ?_
 rintro e w1 ⟨rfl, hb1⟩
 have HS1 := iD (HST.out.later hb1)
 clear hb1 HST hz HCK
 by_cases h0 : zK ns ds ls = 0; rotate_left
 ·have q0 : (zK ns ds ls != 0) = true := by simpa using h0
  have q1 : (zK ns ds ls == 0) = false := by simpa using h0
  have HR : Hid (zw ns ds ls ⟨d, p, q⟩ = zK ns ds ls) := by unfold Hid; rw [HE.out, if_pos h0]
  have HNZ := iD h0
  clear h0
  go_wp2_with fail
  go_ret2
  exact ⟨.inl (by rw [HR.out]; exact ⟨HNZ.out, rfl⟩), HS1.out.bl⟩
 have HG := iD (ym h0)
 rw [h0]
 replace HE : Hid (zw ns ds ls ⟨d, p, q⟩ = if ya ds ⟨d, p, q⟩ ≠ 0 then ya ds ⟨d, p, q⟩ else if wM ls q = true then 4 else if wU ls ⟨d, p, q⟩ = true then 18 else if n = 128 then 1 else 0) := by unfold Hid; rw [HE.out, if_neg (by simp [h0])]
 clear h0
 have k0 := HS1.out.bn.c0
 have k1 := HS1.out.bn.c1
 have m0 := HS1.out.bk.c0
 have m1 := HS1.out.bk.c1
 have m2 := HS1.out.bk.c2
 have hz1 := HS1.out.bl.size
 go_wp2_with fail
 clear k0 k1 m0 m1 m2
 refine (rL An Ad nn cn nd cd Bd ds d p q w1 (HD.out.below HS1.out.bl hBd) (by omega)).mono ?_
 rintro e w2 ⟨rfl, hb2⟩
 have HS2 := iD (HS1.out.later hb2)
 clear hb2 HS1 hz1
 by_cases h1 : ya ds ⟨d, p, q⟩ = 0; rotate_left
 ·have q0 : (ya ds ⟨d, p, q⟩ != 0) = true := by simpa using h1
  have HR : Hid (zw ns ds ls ⟨d, p, q⟩ = ya ds ⟨d, p, q⟩) := by unfold Hid; rw [HE.out, if_pos h1]
  have HNZ := iD h1
  clear h1
  go_wp2_with fail
  go_ret2
  exact ⟨.inl (by rw [HR.out]; exact ⟨HNZ.out, rfl⟩), HS2.out.bl⟩
 have HLE := iD h1
 rw [h1]
 replace HE : Hid (zw ns ds ls ⟨d, p, q⟩ = if wM ls q = true then 4 else if wU ls ⟨d, p, q⟩ = true then 18 else if n = 128 then 1 else 0) := by unfold Hid; rw [HE.out, if_neg (by simp [h1])]
 clear h1
 have m2 := HS2.out.bk.c2
 have hz2 := HS2.out.bl.size
 go_wp2_with fail
 clear m2
 refine (tw Al n c Bl ls q w2 (HS.out.below HS2.out.bl hBl) (by omega)).mono ?_
 rintro e w3 ⟨rfl, hb3⟩
 have HS3 := iD (HS2.out.later hb3)
 clear hb3 HS2 hz2
 rcases hu : wM ls q with _ | _
 rotate_left
 ·have HR : Hid (zw ns ds ls ⟨d, p, q⟩ = 4) := by unfold Hid; rw [HE.out, if_pos hu]
  clear hu
  go_wp2_with fail
  go_ret2
  exact ⟨.inl (by rw [HR.out]; exact ⟨by decide, rfl⟩), HS3.out.bl⟩
 replace HE : Hid (zw ns ds ls ⟨d, p, q⟩ = if wU ls ⟨d, p, q⟩ = true then 18 else if n = 128 then 1 else 0) := by unfold Hid; rw [HE.out, if_neg (by rw [hu]; simp)]
 have HU := iD hu
 clear hu
 have m0 := HS3.out.bk.c0
 have m1 := HS3.out.bk.c1
 have m2 := HS3.out.bk.c2
 have hz3 := HS3.out.bl.size
 go_wp2_with fail
 clear m0 m1 m2
 refine (uy Al n c Bl ls d p q w3 (HS.out.below HS3.out.bl hBl) (by omega)).mono ?_
 rintro e w4 ⟨rfl, hb4⟩
 have HS4 := iD (HS3.out.later hb4)
 clear hb4 HS3 hz3
 rcases ho : wU ls ⟨d, p, q⟩ with _ | _
 rotate_left
 ·have HR : Hid (zw ns ds ls ⟨d, p, q⟩ = 18) := by unfold Hid; rw [HE.out, if_pos ho]
  clear ho
  go_wp2_with fail
  go_ret2
  exact ⟨.inl (by rw [HR.out]; exact ⟨by decide, rfl⟩), HS4.out.bl⟩
 replace HE : Hid (zw ns ds ls ⟨d, p, q⟩ = if n = 128 then 1 else 0) := by unfold Hid; rw [HE.out, if_neg (by rw [ho]; simp)]
 have HO := iD ho
 clear ho
 have hn128 : n ≤ 128 := by have := HG.out.1; have := HNL.out; omega
 by_cases h128 : n = 128
 ·have HR : Hid (zw ns ds ls ⟨d, p, q⟩ = 1) := by unfold Hid; rw [HE.out, if_pos h128]
  have q1 : ((n : Int) == (128 : Int)) = true := by simp; omega
  have q2 : decide (n = 128) = true := by simpa using h128
  clear h128
  go_wp2_with fail
  go_ret2
  exact ⟨.inl (by rw [HR.out]; exact ⟨by decide, rfl⟩), HS4.out.bl⟩
 have HR : Hid (zw ns ds ls ⟨d, p, q⟩ = 0) := by unfold Hid; rw [HE.out, if_neg h128]
 have HINS := iD (sS HG.out HLE.out HU.out HO.out (by have := HNL.out; omega))
 have q1 : ((n : Int) == (128 : Int)) = false := by simp; omega
 have q2 : decide (n = 128) = false := by simpa using h128
 clear h128 HE HLE HU HO
 have HBX : Hid (w4.cell? ⟨w.heap.size + 1, 0, none⟩ = some (.int .i64 d) ∧ w4.cell? ⟨w.heap.size + 1, 1, none⟩ = some (.int .i64 p) ∧ w4.cell? ⟨w.heap.size + 1, 2, none⟩ = some (.int .i64 q)) := ⟨HS4.out.bk.cell 0, HS4.out.bk.cell 1, HS4.out.bk.cell 2⟩
 have HSL4 := iD (HS.out.below HS4.out.bl hBl)
 have hz4 := HS4.out.bl.size
 have hnl := HNL.out
 subst hnl
 go_upto_region 12 with (fail)
 refine zC (S := fun W' => W'.cell? ⟨w.heap.size + 1, 0, none⟩ = some (.int .i64 d) ∧ W'.cell? ⟨w.heap.size + 1, 1, none⟩ = some (.int .i64 p) ∧ W'.cell? ⟨w.heap.size + 1, 2, none⟩ = some (.int .i64 q)) (J := []) (by kernel_rfl) ?_ (fun AA => ?_)
 ·exact HBX.out
 try dsimp only at AA
 refine tk 0 35 (mf 6 1) AA ?_
 refine tk 2 37 (ma 6 5) AA ?_
 refine vI (i := 1) (k := 3) (mf 6 3) (ma 6 13) (by kernel_rfl) (by kernel_rfl) (by kernel_rfl) rfl rfl (fun K hK => ?_) (fun K hK => ?_)
 ·(go_simp; refine (wJ Al ls.length c Bl ls w4.drew HSL4.out.drew (by simp only [World.drew]; omega) (by omega)).mono ?_; rintro e w5 ⟨A5, c5, rfl, hO5, hb5⟩; go_simp)
  refine hK.out _ _ (fun _ => ?_) (fun AA' => ?_)
  ·exact ⟨zJ hb5.out HBX.out.1, zJ hb5.out HBX.out.2.1, zJ hb5.out HBX.out.2.2⟩
  replace AA := AA' rfl
  clear AA' hK K
  try dsimp only at AA
  refine tb 3 (mf 6 4) fun K hK => ?_
  go_simp
  refine hK.out _ _ (fun _ => ?_) (fun AA' => ?_)
  ·exact ⟨xH _ (zJ hb5.out HBX.out.1), xH _ (zJ hb5.out HBX.out.2.1), xH _ (zJ hb5.out HBX.out.2.2)⟩
  replace AA := AA' rfl
  clear AA' hK K
  try dsimp only at AA
  refine tb 4 (mf 6 5) fun K hK => ?_
  (refine uE (d := some 39) (by rfl) (by rfl) (.tmp 36) (.tmp 38) (by rfl) tn (by rfl) (World.ownsRow.alloc hO5.out _) (by rfl) (Sl.newest (n := 1) (by simp) (by rfl) (by decide)) (by simp [Value.oneCell']) (by omega) (by omega) (by have := hb5.out.size; simp at this ⊢; omega) ?_; intro A6 c6 w6 hown6 hgr6 hat6)
  refine hK.out _ _ (fun _ => ?_) (fun AA' => ?_)
  ·exact ⟨zJ (wB hb5.out hO5.out hgr6) HBX.out.1, zJ (wB hb5.out hO5.out hgr6) HBX.out.2.1, zJ (wB hb5.out hO5.out hgr6) HBX.out.2.2⟩
  replace AA := AA' rfl
  clear AA' hK K
  try dsimp only at AA
  refine tk 5 9 (mf 6 6) AA ?_
  refine zA (by kernel_rfl) ?_ _
  clear AA
  have HB46 : Hid (Below w4.heap.size w4 w6) := by first | exact wB hb5.out hO5.out hgr6 | exact wA hb5.out hO5.out hgr6
  have HO6 : Hid (yD w6 w.heap.size A6 (ls.length + 1) c6 (ls ++ [⟨d, p, q⟩])) := by unfold Hid yD; rw [List.flatMap_append]; exact World.ownsRow.mono hown6 (by simp; omega)
  clear hown6 hgr6 hat6 hO5 hb5
  go_wp2_with fail
  refine (sD A6 (ls.length + 1) c6 w.heap.size _ w6 HO6.out (by omega) (by omega)).mono ?_
  rintro e w7 ⟨rfl, ms, hpm, hsm, hO7, hg7⟩
  go_wp2_with fail
  go_ret2
  refine ⟨.inr ⟨HR.out, A6, c6, rfl, ?_⟩, ?_⟩
  ·rw [← qy HINS.out hpm.out hsm.out]; exact hO7
  ·have h1 := HS4.out.bl.trans (HB46.out.mono HS4.out.bl.size); exact h1.trans ⟨hg7.out.os, hg7.out.tape, hg7.out.output, hg7.out.size, fun t ht => hg7.out.block t (by have := h1.size; omega) (fun e => by have := (HO6.out.lt t e.symm).1; omega)⟩
 ·go_simp
  refine hK.out _ _ (fun _ => ?_) (fun AA' => ?_)
  ·exact ⟨xH _ HBX.out.1, xH _ HBX.out.2.1, xH _ HBX.out.2.2⟩
  replace AA := AA' rfl
  clear AA' hK K
  try dsimp only at AA
  refine tb 1 (mf 6 4) fun K hK => ?_
  (go_simp; refine (wJ Al ls.length c Bl ls _ (HSL4.out.drew.alloc (by simp only [World.drew]; omega) _) (by simp; omega) (by omega)).mono ?_; rintro e w5 ⟨A5, c5, rfl, hO5, hb5⟩; go_simp)
  refine hK.out _ _ (fun _ => ?_) (fun AA' => ?_)
  ·exact ⟨zJ hb5.out (xH _ HBX.out.1), zJ hb5.out (xH _ HBX.out.2.1), zJ hb5.out (xH _ HBX.out.2.2)⟩
  replace AA := AA' rfl
  clear AA' hK K
  try dsimp only at AA
  refine tb 4 (mf 6 5) fun K hK => ?_
  (refine uE (d := some 39) (by rfl) (by rfl) (.tmp 36) (.tmp 38) (by rfl) tn (by rfl) hO5.out (by rfl) ((Sl.newest (w := w4.drew) (cs := #[.int .i64 d, .int .i64 p, .int .i64 q]) (T := 106) (n := 1) (size := 3) rfl (by rfl) (by decide)).below hb5.out (by simp)) (by simp [Value.oneCell']) (by omega) (by omega) (by have := hb5.out.size; simp at this ⊢; omega) ?_; intro A6 c6 w6 hown6 hgr6 hat6)
  refine hK.out _ _ (fun _ => ?_) (fun AA' => ?_)
  ·exact ⟨zJ (wA hb5.out hO5.out hgr6) HBX.out.1, zJ (wA hb5.out hO5.out hgr6) HBX.out.2.1, zJ (wA hb5.out hO5.out hgr6) HBX.out.2.2⟩
  replace AA := AA' rfl
  clear AA' hK K
  try dsimp only at AA
  refine tk 5 9 (mf 6 6) AA ?_
  refine zA (by kernel_rfl) ?_ _
  clear AA
  have HB46 : Hid (Below w4.heap.size w4 w6) := by first | exact wB hb5.out hO5.out hgr6 | exact wA hb5.out hO5.out hgr6
  have HO6 : Hid (yD w6 w.heap.size A6 (ls.length + 1) c6 (ls ++ [⟨d, p, q⟩])) := by unfold Hid yD; rw [List.flatMap_append]; exact World.ownsRow.mono hown6 (by simp; omega)
  clear hown6 hgr6 hat6 hO5 hb5
  go_wp2_with fail
  refine (sD A6 (ls.length + 1) c6 w.heap.size _ w6 HO6.out (by omega) (by omega)).mono ?_
  rintro e w7 ⟨rfl, ms, hpm, hsm, hO7, hg7⟩
  go_wp2_with fail
  go_ret2
  refine ⟨.inr ⟨HR.out, A6, c6, rfl, ?_⟩, ?_⟩
  ·rw [← qy HINS.out hpm.out hsm.out]; exact hO7
  ·have h1 := HS4.out.bl.trans (HB46.out.mono HS4.out.bl.size); exact h1.trans ⟨hg7.out.os, hg7.out.tape, hg7.out.output, hg7.out.size, fun t ht => hg7.out.block t (by have := h1.size; omega) (fun e => by have := (HO6.out.lt t e.symm).1; omega)⟩
end
section
open Go.RowKit
theorem wg : ∀ (vs : List Value) (s : Nat) (F : Array Value), s + vs.length ≤ F.size → (Go.Sort.setMany F s vs).toList = F.toList.take s ++ vs ++ F.toList.drop (s + vs.length)
 | [], s, F, _ => by simp [Go.Sort.setMany]
 | v :: r, s, F, h => by
  have h' : s + r.length + 1 ≤ F.size := by simp at h; omega
  rw [Go.Sort.setMany, wg r (s + 1) _ (by simp; omega)]
  have e1 : (F.setIfInBounds s v).toList = F.toList.set s v := by simp
  have hs : s < F.toList.length := by simp; omega
  rw [e1, show s + (v :: r).length = s + 1 + r.length by simp; omega, List.drop_set_of_lt (by omega)]
  congr 1
  rw [List.take_add_one, List.take_set_of_le lR, List.getElem?_set_self hs]
  simp
theorem Blk.setCells {t : TypeId} {g : Nat} : ∀ (vs : List Value) (o : Nat) {w : World} {cs : Array Value}, Blk w g t cs → Blk (w.setCells g o vs) g t (Go.Sort.setMany cs o vs)
 | [], _, _, _, h => h
 | v :: r, o, w, cs, h => by
  rw [World.setCells, Go.Sort.setMany]
  exact Blk.setCells r (o + 1) (h.set o v)
theorem xw {g : Nat} : ∀ (vs : List Value) (o : Nat) (w : World), w.grownBy (w.setCells g o vs) (some g)
 | [], _, w => yz w _
 | v :: r, o, w => by
  rw [World.setCells]
  exact zM (show w.grownBy (w.setCell ⟨g, o, none⟩ v) (some g) from ⟨rfl, rfl, rfl, by simp [World.setCell], fun i _ hi => Below.heap_setCell w ⟨g, o, none⟩ v i (fun e => hi (by rw [e]))⟩) (xw r (o + 1) _)
theorem qD (w : World) (ty : TypeId) (b o c : Nat) (hc : ∀ j, j < 3 → (w.cell? ⟨b, o + j, none⟩).isSome = true) (hf : ∀ j, j < 3 → w.frozen? ⟨b, o + j, none⟩ = false) :
 (Builtin.clear_ #[35] ty #[.slice (some ⟨b, o, none⟩) 1 c]).run Tryz.prog w = .ok (.tuple #[]) (w.setCells b o [.int .i64 0, .int .i64 0, .int .i64 0]) := by
 have ht : Tryz.prog.underlying 35 = some (.slice 106) := Tryz.underlying35
 have hv : ∀ w, (zeroValue 106).run Tryz.prog w = .ok (.agg #[.int .i64 0, .int .i64 0, .int .i64 0]) w := Tryz.zeroValue106
 have hzc : (Builtin.zeroCells (Value.agg #[.int .i64 0, .int .i64 0, .int .i64 0]).cells 1).toList = [.int .i64 0, .int .i64 0, .int .i64 0] := by kernel_rfl
 have hst := run_storeCells_cells (P := Tryz.prog) b o [.int .i64 0, .int .i64 0, .int .i64 0] 0 w (by simpa using hc) (by simpa using hf) (by intro v hv'; simp at hv'; subst hv'; rfl)
 simp only [Nat.add_zero] at hst
 simp [Builtin.clear_, run_underlying ht, hv, hzc, hst]
theorem oh (d p q d2 p2 q2 : Int) (w : World) : (binOp .eql 106 (.agg #[.int .i64 d, .int .i64 p, .int .i64 q]) (.agg #[.int .i64 d2, .int .i64 p2, .int .i64 q2])).run Tryz.prog w = .ok (.bool (qT ⟨d, p, q⟩ ⟨d2, p2, q2⟩)) w := by
 have u3 := Tryz.underlying3
 have a3 := Tryz.isAgg3
 have z3 := Tryz.sizeOf3
 have hS : Tryz.prog.underlying 106 = some (.struct (Tryz.prog.fieldsOf 106)) := by kernel_rfl
 have hp : Tryz.prog.stoodInHeld 106 = false := by kernel_rfl
 rw [run_eql_struct, show (10000 : Nat) = 9999 + 1 from rfl, run_equalIn_agg w 9999 106 _ _ hS hp]
 simp only [Program.fieldsOf, Tryz.underlying106]
 go_simp
 by_cases h1 : d = d2 <;> by_cases h2 : p = p2 <;> by_cases h3 : q = q2 <;> simp [h1, h2, h3, qT]
def ta (k : Lk) : List Lk → Option Nat
 | [] => none
 | x :: l => if qT k x = true then some 0 else (ta k l).map (· + 1)
def iL : Option Nat → Int
 | some i => i
 | none => -1
theorem pd {k : Lk} : ∀ {ls : List Lk} {i : Nat}, (∀ x ∈ ls.take i, k ≠ x) → ls[i]? = some k → ta k ls = some i
 | [], _, _, h => by simp at h
 | x :: l, 0, _, h => by simp at h; rw [ta, if_pos ((xE _ _).2 h.symm)]
 | x :: l, i + 1, h1, h => by
  rw [ta, if_neg (fun e => h1 x (by simp) ((xE _ _).1 e)), pd (ls := l) (i := i) (fun y hy => h1 y (by simp [hy])) (by simpa using h)]; rfl
theorem rV {k : Lk} : ∀ {ls : List Lk}, (∀ x ∈ ls, k ≠ x) → ta k ls = none
 | [], _ => rfl
 | x :: l, h => by rw [ta, if_neg (fun e => h x (by simp) ((xE _ _).1 e)), rV (fun y hy => h y (by simp [hy]))]; rfl
theorem rW {ds : List Dv} {d p q : Int} : ∀ {ls : List Lk}, (∀ x ∈ ls, x.dev = d → x.pos = p) → ta ⟨d, p, q⟩ ls = wQ d q ls
 | [], _ => rfl
 | x :: l, h => by
  rw [ta, wQ, rW (ds := ds) (ls := l) (fun y hy => h y (by simp [hy]))]
  by_cases hx : x.dev = d ∧ x.key = q
  ·rw [if_pos hx, if_pos ((xE _ _).2 (by have := h x (by simp) hx.1; obtain ⟨a, b, c⟩ := x; simp at hx this ⊢; omega))]
  ·rw [if_neg hx, if_neg (fun e => hx (by rw [← (xE _ _).1 e]; exact ⟨rfl, rfl⟩))]
theorem mL {d q : Int} : ∀ {ls : List Lk} {i : Nat}, wQ d q ls = some i → i < ls.length
 | [], _, h => by cases h
 | x :: l, i, h => by
  rw [wQ] at h
  split at h
  ·injection h with h; subst h; simp
  ·rcases hi : wQ d q l with _ | j
   ·rw [hi] at h; cases h
   ·rw [hi] at h
    injection h with h
    have := mL hi
    subst h; simp; omega
theorem lS {d q : Int} {ls : List Lk} (h : ∀ x ∈ ls, x.dev ≠ d) : wQ d q ls = none := by
 induction ls with
 | nil => rfl
 | cons x l ih => rw [wQ, if_neg (fun e => h x (by simp) e.1), ih (fun y hy => h y (by simp [hy]))]; rfl
def IxR (w : World) (ls : List Lk) (k : Lk) (n gk : Nat) (_kv iv : Value) (wr : World) : Prop := ∃ i : Nat, iv = .int .i64 i ∧ i ≤ n ∧ gk = n - i ∧ Hid (∀ x ∈ ls.take i, k ≠ x) ∧ Hid (Blk wr w.heap.size 106 #[.int .i64 k.dev, .int .i64 k.pos, .int .i64 k.key]) ∧ Hid (Below w.heap.size w wr)
theorem mK (A : Option Addr) (n c B : Nat) (ls : List Lk) (d p q : Int) (w : World) (hs : Sl w B 3 A n c (ls.flatMap Lk.cells)) (hB : B ≤ w.heap.size) :
 Calls Tryz.prog 160 #[.slice A n c, .agg #[.int .i64 d, .int .i64 p, .int .i64 q]] w fun e w' => e = .returned (.int .i64 (iL (ta ⟨d, p, q⟩ ls))) ∧ Below w.heap.size w w' := by
 have HLN := iD (hs.len (fun _ => rfl) (by decide)); have HS := iD hs
 have hle := hs.le
 have HB0 : Hid (Below w.heap.size w (w.alloc (.cells #[.int .i64 d, .int .i64 p, .int .i64 q] 106))) := (Below.refl _ _).alloc lR _
 have HK0 : Hid (Blk (w.alloc (.cells #[.int .i64 d, .int .i64 p, .int .i64 q] 106)) w.heap.size 106 #[.int .i64 d, .int .i64 p, .int .i64 q]) := Blk.new _ _ _
 clear hs
 go_enter Tryz.func160, Tryz.ntmps160
 go_wp2_with fail
 generalize World.alloc _ _ = W at *
 go_loopg [5, 8] n (IxR w ls ⟨d, p, q⟩ n)
 case atStart => exact ⟨0, rfl, Nat.zero_le _, rfl, (fun x hx => by simp at hx), HK0, HB0⟩
 case round =>
  clear HB0 HK0
  obtain ⟨i, rfl, hi, rfl, hno, hbk, hbl⟩ := hrel
  by_cases hlt : i < n
  ·obtain ⟨b, off, d1, p1, q1, rfl, hb, hx, c0, c1, c2⟩ := (HS.out.below hbl.out hB).lock hlt
   have HX := iD hx
   have HCS : Hid (wr.cell? ⟨w.heap.size, 0, none⟩ = some (.int .i64 d) ∧ wr.cell? ⟨w.heap.size, 1, none⟩ = some (.int .i64 p) ∧ wr.cell? ⟨w.heap.size, 2, none⟩ = some (.int .i64 q) ∧ wr.cell? ⟨b, off + i * 3, none⟩ = some (.int .i64 d1) ∧ wr.cell? ⟨b, off + i * 3 + 1, none⟩ = some (.int .i64 p1) ∧ wr.cell? ⟨b, off + i * 3 + 2, none⟩ = some (.int .i64 q1)) := ⟨hbk.out.cell 0, hbk.out.cell 1, hbk.out.cell 2, c0, c1, c2⟩
   have heql := fun W => oh d p q d1 p1 q1 W
   clear hx c0 c1 c2
   rcases hee : qT ⟨d, p, q⟩ ⟨d1, p1, q1⟩ with _ | _
   ·rw [hee] at heql
    have HN : Hid (∀ x ∈ ls.take (i + 1), (⟨d, p, q⟩ : Lk) ≠ x) := fun x hx e => by
     rw [zQ HX.out] at hx
     rcases List.mem_append.1 hx with h | h
     ·exact hno.out x h e
     ·rw [List.mem_singleton.1 h] at e
      rw [(xE _ _).2 e] at hee; cases hee
    clear hee
    go_upto_region 4 with (fail)
    refine zC (S := fun W' => W'.cell? ⟨w.heap.size, 0, none⟩ = some (.int .i64 d) ∧ W'.cell? ⟨w.heap.size, 1, none⟩ = some (.int .i64 p) ∧ W'.cell? ⟨w.heap.size, 2, none⟩ = some (.int .i64 q) ∧ W'.cell? ⟨b, off + i * 3, none⟩ = some (.int .i64 d1) ∧ W'.cell? ⟨b, off + i * 3 + 1, none⟩ = some (.int .i64 p1) ∧ W'.cell? ⟨b, off + i * 3 + 2, none⟩ = some (.int .i64 q1)) (J := []) (by kernel_rfl) ?_ (fun AA => ?_)
    ·exact HCS.out
    try dsimp only at AA
    refine tk 0 11 (mf 6 1) AA ?_
    refine tk 1 12 (mf 6 2) AA ?_
    refine tk 2 13 (mf 6 3) AA ?_
    refine tk 3 14 (mf 6 4) AA ?_
    refine tk 4 15 (mf 6 5) AA ?_
    refine tk 5 16 (mf 6 6) AA ?_
    refine zA (by kernel_rfl) ?_ _
    clear AA
    go_wp2_with fail
    go_roundg (n - (i + 1))
    case rel => exact ⟨i + 1, by go_num, by omega, rfl, HN, hbk.out, hbl.out.drew⟩
    case measure => omega
   ·rw [hee] at heql
    have HR : Hid (ta ⟨d, p, q⟩ ls = some i) := pd hno.out (by rw [(xE _ _).1 hee]; exact HX.out)
    clear hee
    go_upto_region 4 with (fail)
    refine zC (S := fun W' => W'.cell? ⟨w.heap.size, 0, none⟩ = some (.int .i64 d) ∧ W'.cell? ⟨w.heap.size, 1, none⟩ = some (.int .i64 p) ∧ W'.cell? ⟨w.heap.size, 2, none⟩ = some (.int .i64 q) ∧ W'.cell? ⟨b, off + i * 3, none⟩ = some (.int .i64 d1) ∧ W'.cell? ⟨b, off + i * 3 + 1, none⟩ = some (.int .i64 p1) ∧ W'.cell? ⟨b, off + i * 3 + 2, none⟩ = some (.int .i64 q1)) (J := []) (by kernel_rfl) ?_ (fun AA => ?_)
    ·exact HCS.out
    try dsimp only at AA
    refine tk 0 11 (mf 6 1) AA ?_
    refine tk 1 12 (mf 6 2) AA ?_
    refine tk 2 13 (mf 6 3) AA ?_
    refine tk 3 14 (mf 6 4) AA ?_
    refine tk 4 15 (mf 6 5) AA ?_
    refine tk 5 16 (mf 6 6) AA ?_
    refine zA (by kernel_rfl) ?_ _
    clear AA
    go_wp2_with fail
    go_ret
    exact ⟨zE (by rw [HR.out]; rfl), hbl.out.drew⟩
  ·obtain rfl : i = n := by omega
   have hii : decide (i < i) = false := by simp
   have HR : Hid (ta ⟨d, p, q⟩ ls = none) := by
    have := hno.out
    rw [List.take_of_length_le (by rw [HLN.out]; exact Nat.le_refl _)] at this
    exact rV this
   go_wp2_with fail
   go_ret
   exact ⟨zE (by rw [HR.out]; rfl), hbl.out⟩
theorem qw {P : Program} {ops : Array Oper} {o : Oper} {a : Act} {w : World} {K : Act → World → Prop} {Q : Exit → Act → World → Prop} {E : Prop} {d : Option Tmp} (hd : o.dst = d)
 (hg : o.guard = none) (s x : Operand) (t : TypeId) (hop : o.op = Op.call { callee := Callee.builtin Builtin.append, args := #[s, x], argTypes := #[t, t] })
 (e : TypeId) (i : TypeInfo) (size : Nat) (h1 : P.underlying t = some (.slice e)) (h2 : P.info? e = some i) (h4 : i.size = size)
 (b off n cap : Nat) (hs : a.eval s = .slice (some ⟨b, off, none⟩) n cap)
 (ad : Addr) (m c : Nat) (news : List Value) (hx : a.eval x = .slice (some ad) m c) (hn : news.length = m * size) (hc : ∀ j u, news[j]? = some u → w.cell? (ad.add j) = some u) (h1c : ∀ u ∈ news, u.oneCell' = true)
 (hroom : n + m ≤ cap) (hspare : ∀ j, j < news.length → (w.cell? ⟨b, off + n * size + j, none⟩).isSome = true ∧ w.frozen? ⟨b, off + n * size + j, none⟩ = false)
 (hK : K (a.put d (.slice (some ⟨b, off, none⟩) (n + m) cap)) (w.setCells b (off + n * size) news)) :
 if Region.wanted o (yielded ops a.tmps) = true then Oper.wp P o a w K Q else E := by
 subst hd
 exact step_append_room hg s x t hop e i size h1 h2 h4 b off n cap hs ad m c news hx hn hc h1c hroom hspare hK
theorem mm {l : List Lk} {L : List Value} {n i : Nat} (h : L.take (n * 3) = l.flatMap Lk.cells) (hl : l.length = n) (hi : i ≤ n) : L.take (i * 3) = (l.take i).flatMap Lk.cells := by
 have h1 : L.take (i * 3) = (L.take (n * 3)).take (i * 3) := by rw [List.take_take, Nat.min_eq_left (Nat.mul_le_mul_right _ hi)]
 rw [h1, h]
 have e := congrArg (List.flatMap Lk.cells) (List.take_append_drop i l)
 rw [List.flatMap_append] at e
 rw [← e]
 have hlen : ((l.take i).flatMap Lk.cells).length = i * 3 := by rw [yK (size := 3) (fun _ => rfl), List.length_take, Nat.min_eq_left (by omega)]
 rw [← hlen, List.take_left]
theorem lc (A : Option Addr) (n c base i : Nat) (ls : List Lk) (w : World) (h : yD w base A n c ls) (hi : i < n) (hn : n ≤ 1000000) :
 Calls Tryz.prog 161 #[.slice A n c, .int .i64 (i : Int), .int .i64 ((i : Int) + 1)] w fun e w' => e = .returned (.slice A (n - 1) c) ∧ Hid (yD w' base A (n - 1) c (ls.eraseIdx i)) ∧ Hid (w.grownBy w' (Value.slice A n c).ownBlock) := by
 obtain ⟨m, rfl⟩ : ∃ m, n = m + 1 := ⟨n - 1, by omega⟩
 have hsum : i + (m - i) = m := by omega
 have hl := h.len
 have hle := h.sl.le
 have HDR := iD (h.sl.dropK (k := i + 1) (fun _ => rfl) (by decide) (by omega))
 obtain ⟨i0, z, hi0, hz0, hs0, hb0, hzc⟩ := (tn).ex
 rcases h.2 with ⟨_, h1⟩ | ⟨g, cap, cur, hv, hb, hh, hnc, hm, hs, ht⟩
 ·omega
 injection hv with h1 h2 h3
 subst h1 h3
 obtain ⟨news, hnews⟩ : ∃ news, news = (ls.drop (i + 1)).flatMap Lk.cells := ⟨_, rfl⟩
 have hlen : news.length = (m - i) * 3 := by rw [hnews, yK (size := 3) (fun _ => rfl), List.length_drop, hl, show m + 1 - (i + 1) = m - i by omega]
 obtain ⟨ad, had⟩ : ∃ ad, nN (some (⟨g, 0, none⟩ : Addr)) c (i + 1) 3 = some ad := by unfold nN; split <;> exact ⟨_, rfl⟩
 have HCUT : Hid (∀ W, (Instr.sliceAt 35 (.slice (some ⟨g, 0, none⟩) (m + 1) c) (some (.int .i64 ((i : Int) + 1))) none none).run Tryz.prog W = .ok (.slice (some ad) (m - i) (c - (i + 1))) W) := fun W => by
  have := pI W (some ⟨g, 0, none⟩) (m + 1) c (i + 1) (by omega)
  rw [had, show m + 1 - (i + 1) = m - i by omega] at this
  rw [← this]; rfl
 have HBK : Hid (Blk w g 106 cur) := hh
 have HSRC : Hid (∀ j u, news[j]? = some u → w.drew.cell? (ad.add j) = some u) := by
  intro j u hu
  have hj := (List.getElem?_eq_some_iff.1 hu).1
  obtain ⟨b, off, e, _, hc⟩ := HDR.out.2.2.2.2 (by rw [hlen] at hj; omega)
  rw [had] at e; injection e with e; subst e
  rw [xC]; exact hc j u (by rw [← hnews]; exact hu)
 have HONE : Hid (∀ u ∈ news, u.oneCell' = true) := by rw [hnews]; exact rU _
 have HSP : Hid (∀ j, j < news.length → (w.drew.cell? ⟨g, 0 + i * 3 + j, none⟩).isSome = true ∧ w.drew.frozen? ⟨g, 0 + i * 3 + j, none⟩ = false) := by
  intro j hj
  refine ⟨?_, HBK.out.frozen _⟩
  have := HBK.out.cell (0 + i * 3 + j)
  show (w.cell? _).isSome = true
  rw [this]
  have : 0 + i * 3 + j < cur.size := by rw [hs]; omega
  rw [Array.getElem?_eq_getElem this]; rfl
 obtain ⟨W1, hW1⟩ : ∃ W1, W1 = w.drew.setCells g (0 + i * 3) news := ⟨_, rfl⟩
 have HW1 := iD hW1
 have HBK1 : Hid (Blk W1 g 106 (Go.Sort.setMany cur (0 + i * 3) news)) := by unfold Hid; rw [hW1]; exact Blk.setCells news _ (show Blk w.drew g _ _ from HBK.out)
 have HG1 : Hid (w.grownBy W1 (some g)) := by unfold Hid; rw [hW1]; exact zM (nI (yz w _)) (xw news _ w.drew)
 have hcl : ∀ ty, (Builtin.clear_ #[35] ty #[.slice (some ⟨g, m * 3, none⟩) 1 (c - m)]).run Tryz.prog W1 = .ok (.tuple #[]) (W1.setCells g (m * 3) [.int .i64 0, .int .i64 0, .int .i64 0]) := fun ty => qD W1 ty g _ _ (fun j hj => by
  have := HBK1.out.cell (m * 3 + j)
  rw [this]
  have : m * 3 + j < (Go.Sort.setMany cur (0 + i * 3) news).size := by rw [Go.Sort.size_setMany, hs]; omega
  rw [Array.getElem?_eq_getElem this]; rfl) (fun j _ => HBK1.out.frozen _)
 have HEND : Hid (yD (W1.setCells g (m * 3) [.int .i64 0, .int .i64 0, .int .i64 0]) base (some ⟨g, 0, none⟩) m c (ls.eraseIdx i)) := by
  have hb2 := Blk.setCells [.int .i64 0, .int .i64 0, .int .i64 0] (m * 3) HBK1.out
  refine ⟨by rw [yK (size := 3) (fun _ => rfl), List.length_eraseIdx, if_pos (by omega), hl, Nat.add_sub_cancel], .inr ⟨g, c, _, rfl, hb, hb2, by omega, hm, by rw [Go.Sort.size_setMany, Go.Sort.size_setMany, hs], ?_⟩⟩
  rw [wg _ _ _ (by rw [Go.Sort.size_setMany, hs]; simp; omega), wg _ _ _ (by rw [hs, hlen]; omega), Nat.zero_add]
  have e1 : (cur.toList.take (i * 3)).length = i * 3 := by rw [List.length_take, Nat.min_eq_left]; simp [hs]; omega
  have e2 : (cur.toList.take (i * 3) ++ news).length = m * 3 := by rw [List.length_append, e1, hlen]; omega
  have e3 : ((cur.toList.take (i * 3) ++ news ++ cur.toList.drop (i * 3 + news.length)).take (m * 3)) = cur.toList.take (i * 3) ++ news := by rw [← e2, List.take_left]
  rw [e3, List.append_assoc, ← e2, List.take_left, mm ht hl (by omega), hnews, ← List.flatMap_append, List.eraseIdx_eq_take_drop_succ]
 have HGE : Hid (w.grownBy (W1.setCells g (m * 3) [.int .i64 0, .int .i64 0, .int .i64 0]) (some g)) := zM HG1.out (xw _ _ _)
 have hi0' : Tryz.prog.info? 106 = some i0 := hi0
 have q1 : ((i : Int) == (i : Int) + 1) = false := by simp; omega
 have hw1 : IntKind.i64.wrap ((i : Int) + 1) = (i : Int) + 1 := IntWalk.i64_in _ (by omega)
 have hnsz : (m + 1 : Nat) ≤ c := hnc
 have hic : i ≤ c := by omega
 clear h hh ht hs hz0 hb0 hzc HDR had hnews hW1 HBK HBK1 HG1 hl hb hm
 go_enter Tryz.func161, Tryz.ntmps161
 go_upto_region 5 with (fail)
 refine zC (S := fun _ => True) (J := []) (by kernel_rfl) ?_ (fun AA => ?_)
 ·exact trivial
 try dsimp only at AA
 refine tk 0 20 (mf 8 1) AA ?_
 refine tk 1 21 (mf 8 2) AA ?_
 refine tk 2 22 (mf 8 3) AA ?_
 refine tk 3 23 (mf 8 4) AA ?_
 refine tk 4 24 (mf 8 5) AA ?_
 refine tx 5 25 ?_ (mf 8 6) ?_ AA ?_
 rotate_left
 ·(intro w hSw; (try dsimp only at hSw); have hcut := HCUT.out; go_simp; try with_reducible rfl)
 try simp only [Act.put, sA, sB, sC]
 refine tb 6 (mf 8 7) fun K hK => ?_
 (refine qw (d := some 26) (by rfl) (by rfl) (.tmp 22) (.tmp 25) 35 (by rfl) 106 i0 3 Tryz.underlying35 hi0' hs0 g 0 i c (by rfl) ad (m - i) (c - (i + 1)) news (by rfl) hlen HSRC.out HONE.out (by omega) HSP.out ?_; rw [← HW1.out, hsum])
 refine hK.out _ _ (fun _ => ?_) (fun AA' => ?_)
 ·exact trivial
 replace AA := AA' rfl
 clear AA' hK K
 try dsimp only at AA
 refine tk 7 0 (mf 8 8) AA ?_
 refine zA (by kernel_rfl) ?_ _
 clear AA
 go_wp2_with fail
 go_ret
 exact ⟨rfl, HEND.out, HGE.out⟩
end
section
open Go.RowKit
def sw (w : World) (ns : List Nd) (ds : List Dv) (ls : List Lk) (d q : Int) (e : Ending) (w' : World) : Prop :=
 (zK ns ds ls ≠ 0 ∧ e = .returned (.tuple #[.slice none 0 0, .int .i64 (zK ns ds ls)]) ∨ zK ns ds ls = 0 ∧ wQ d q ls = none ∧ e = .returned (.tuple #[.slice none 0 0, .int .i64 15]) ∨
  zK ns ds ls = 0 ∧ ∃ (i : Nat) (A : Option Addr) (c : Nat), wQ d q ls = some i ∧ e = .returned (.tuple #[.slice A (ls.length - 1) c, .int .i64 0]) ∧ Hid (yD w' w.heap.size A (ls.length - 1) c (ls.eraseIdx i))) ∧ Hid (Below w.heap.size w w')
theorem pV (An Ad Al : Option Addr) (nn cn nd cd c Bn Bd Bl : Nat) (ns : List Nd) (ds : List Dv) (ls : List Lk) (d q : Int) (w : World) (hla : Laid w) (hn : Sl w Bn 3 An nn cn (ns.flatMap Nd.cells)) (hd : Sl w Bd 5 Ad nd cd (ds.flatMap Dv.cells)) (hs : Sl w Bl 3 Al ls.length c (ls.flatMap Lk.cells)) (hBn : Bn ≤ w.heap.size) (hBd : Bd ≤ w.heap.size) (hBl : Bl ≤ w.heap.size)
 (hsn : ∀ x ∈ ns, x.name.size ≤ 9223372036854775807) (hsd : ∀ x ∈ ds, x.name.size ≤ 9223372036854775807) :
 Calls Tryz.prog 130 #[.agg #[.slice An nn cn, .slice Ad nd cd], .slice Al ls.length c, .int .i64 d, .int .i64 q] w (sw w ns ds ls d q) := by
 have HS := iD hs
 have HST : Hid (rJ w #[.slice An nn cn, .slice Ad nd cd] (w.alloc (.cells #[.slice An nn cn, .slice Ad nd cd] 30))) := ⟨Blk.new _ _ _, (Below.refl _ _).alloc lR _⟩
 have HCK := iD (uJ An Ad Al nn cn nd cd ls.length c Bn Bd Bl ns ds ls (w.alloc (.cells #[.slice An nn cn, .slice Ad nd cd] 30)) (hla.alloc _) (hn.below HST.out.bl hBn) (hd.below HST.out.bl hBd) (hs.below HST.out.bl hBl) (by simp; omega) (by simp; omega) (by simp; omega) hsn hsd)
 clear hn hd hs hsn hsd hla
 go_enter Tryz.func130, Tryz.ntmps130
 go_wp2_with fail
 generalize World.alloc _ _ = W at *
 refine HCK.out.mono ?_
 rintro e w1 ⟨rfl, hb1⟩
 have HS1 := iD (HST.out.later hb1)
 clear hb1 HST HCK
 by_cases h0 : zK ns ds ls = 0; rotate_left
 ·have q0 : (zK ns ds ls != 0) = true := by simpa using h0
  have HNZ := iD h0
  clear h0
  go_wp2_with fail
  go_ret2
  exact ⟨.inl ⟨HNZ.out, rfl⟩, HS1.out.bl⟩
 have HG := iD (ym h0)
 have HZ := iD h0
 rw [h0]
 clear h0
 have hz1 := HS1.out.bl.size
 go_wp2_with fail
 refine (nF Al ls.length c Bl ls d w1 (HS.out.below HS1.out.bl hBl) (by omega)).mono ?_
 rintro e w2 ⟨rfl, hb2⟩
 have HS2 := iD (HS1.out.later hb2)
 clear hb2 HS1 hz1
 have hz2 := HS2.out.bl.size
 unfold iQ
 rcases hl : vE ls d with _ | p
 ·have HN : Hid (wQ d q ls = none) := lS (sP.1 hl)
  clear hl
  simp only [Option.getD_none, Option.isSome_none]
  go_wp2_with fail
  refine (mK Al ls.length c Bl ls d 0 q w2 (HS.out.below HS2.out.bl hBl) (by omega)).mono ?_
  rintro e w3 ⟨rfl, hb3⟩
  have HS3 := iD (HS2.out.later hb3)
  clear hb3 HS2
  generalize iL _ = r
  go_wp2_with fail
  go_ret2
  exact ⟨.inr (.inl ⟨HZ.out, HN.out, rfl⟩), HS3.out.bl⟩
 ·have HI : Hid (ta ⟨d, p, q⟩ ls = wQ d q ls) := rW (ds := ds) fun x hx hxd => by
   have := gZ HG.out hx
   rw [hxd, hl] at this
   injection this with this
   exact this.symm
  clear hl
  simp only [Option.getD_some, Option.isSome_some]
  go_wp2_with fail
  refine (mK Al ls.length c Bl ls d p q w2 (HS.out.below HS2.out.bl hBl) (by omega)).mono ?_
  rintro e w3 ⟨rfl, hb3⟩
  have HS3 := iD (HS2.out.later hb3)
  clear hb3 HS2 hz2
  rw [HI.out]
  rcases hi : wQ d q ls with _ | i
  ·have HN := iD hi
   clear hi
   simp only [iL]
   go_wp2_with fail
   go_ret2
   exact ⟨.inr (.inl ⟨HZ.out, HN.out, rfl⟩), HS3.out.bl⟩
  ·have hil := mL hi
   have HN := iD hi
   have hz3 := HS3.out.bl.size
   have h128 := HG.out.1
   clear hi
   simp only [iL]
   have qi : decide ((i : Int) < 0) = false := by simp
   go_wp2_with fail
   refine (wJ Al ls.length c Bl ls w3 (HS.out.below HS3.out.bl hBl) (by omega) (by omega)).mono ?_
   rintro e w4 ⟨A4, c4, rfl, hO4, hb4⟩
   have HO4 : Hid (yD w4 w.heap.size A4 ls.length c4 ls) := World.ownsRow.mono hO4.out (by omega)
   have HS4 := iD (HS3.out.later hb4.out)
   clear hO4 hb4 HS3
   go_wp2_with fail
   refine (lc A4 ls.length c4 w.heap.size i ls w4 HO4.out hil (by omega)).mono ?_
   rintro e w5 ⟨rfl, hO5, hg5⟩
   go_wp2_with fail
   go_ret2
   refine ⟨.inr (.inr ⟨HZ.out, i, A4, c4, HN.out, rfl, hO5⟩), ?_⟩
   have h1 := HS4.out.bl
   exact h1.trans ⟨hg5.out.os, hg5.out.tape, hg5.out.output, hg5.out.size, fun t ht => hg5.out.block t (by have := h1.size; omega) (fun e => by have := (HO4.out.lt t e.symm).1; omega)⟩
end
end Go.Proofs.YtkkobemhbicjgaaGreatDoor
