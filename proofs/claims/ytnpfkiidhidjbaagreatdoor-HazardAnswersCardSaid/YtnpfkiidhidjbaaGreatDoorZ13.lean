import Derived.Test.YtnpfkiidhidjbaaGreatDoorZ02
import Derived.Test.YtnpfkiidhidjbaaGreatDoorZ12
/-
 Walk of layer 6: position.
-/
namespace Go.Proofs.YtnpfkiidhidjbaaGreatDoor
open Go.RowKit
set_option maxHeartbeats 1000000 in
theorem position_any (p : Int) (w : World) (hl : Laid w) : Calls Tryz.prog 61 #[.int .i64 p] w fun e w' => e = .returned (.bool (posB p)) ∧ w = w' := by
 have c1 := hl.2 1 _ rfl
 have c3 := hl.2 3 _ rfl
 have c5 := hl.2 5 _ rfl
 have c7 := hl.2 7 _ rfl
 clear hl
 by_cases h0 : 0 ≤ p; rotate_left
 ·have h0' : decide (0 ≤ p) = false := by simpa using h0
  have HP : Hid (posB p = false) := by unfold Hid; simp [posB]; omega
  go_enter Tryz.func61, Tryz.ntmps61
  go_wp2_with fail
  go_ret
  exact ⟨ret_bool (by rw [HP.out]), rfl⟩
 by_cases h4 : p < 4; rotate_left
 ·have h4' : decide (p < 4) = false := by simpa using h4
  have HP : Hid (posB p = false) := by unfold Hid; simp [posB]; omega
  go_enter Tryz.func61, Tryz.ntmps61
  go_wp2_with fail
  go_ret
  exact ⟨ret_bool (by rw [HP.out]), rfl⟩
 rcases (show p = 0 ∨ p = 1 ∨ p = 2 ∨ p = 3 by omega) with rfl | rfl | rfl | rfl
 all_goals
  go_enter Tryz.func61, Tryz.ntmps61
  go_wp2_with fail
  go_ret
  exact ⟨ret_bool (by decide), rfl⟩
end Go.Proofs.YtnpfkiidhidjbaaGreatDoor
/-
 Layer 6: walks of check, State.
-/
namespace Go.Proofs.YtnpfkiidhidjbaaGreatDoor
open Go.RowKit
def stateErr (ns : List Nd) (ds : List Dv) (s : List Int) : Int := if checkN ns ds ≠ 0 then checkN ns ds else if s.length ≠ ds.length then 9 else if ∀ p ∈ s, posB p = true then 0 else 10
set_option maxHeartbeats 2000000 in
theorem mcheck_pos (An Ad As : Option Addr) (nn cn nd cd n c Bn Bd Bs : Nat) (ns : List Nd) (ds : List Dv) (s : List Int) (w : World) (hl : Laid w) (hn : Sl w Bn 3 An nn cn (ns.flatMap Nd.cells)) (hd : Sl w Bd 5 Ad nd cd (ds.flatMap Dv.cells)) (hs : Sl w Bs 1 As n c (intsV s)) (hBn : Bn ≤ w.heap.size) (hBd : Bd ≤ w.heap.size) (hBs : Bs ≤ w.heap.size)
  (hsn : ∀ x ∈ ns, x.name.size ≤ 9223372036854775807) (hsd : ∀ x ∈ ds, x.name.size ≤ 9223372036854775807) :
  Calls Tryz.prog 60 #[.agg #[.slice An nn cn, .slice Ad nd cd], .slice As n c, .func (.func 61) #[] #[]] w fun e w' => e = .returned (.int .i64 (stateErr ns ds s)) ∧ Below w.heap.size w w' := by
 have HLS := Lib.hid (hs.len (fun _ => rfl) (by decide)); have HLD := Lib.hid (hd.len (fun _ => rfl) (by decide))
 obtain ⟨hnc, hcm⟩ := hs.le
 obtain ⟨hdc, hdm⟩ := hd.le
 have HE : Hid (stateErr ns ds s = if checkN ns ds ≠ 0 then checkN ns ds else if n ≠ nd then 9 else if ∀ p ∈ s, posB p = true then 0 else 10) := by unfold Hid; rw [stateErr, HLS.out, HLD.out]
 have HL := Lib.hid hl; have HN := Lib.hid hn; have HD := Lib.hid hd; have HS := Lib.hid hs
 have HCK := Lib.hid (ncheck_any An Ad nn cn nd cd Bn Bd ns ds (w.alloc (.cells #[.slice An nn cn, .slice Ad nd cd] 26)) (hl.alloc _) (hn.alloc hBn _) (hd.alloc hBd _) (by simp; omega) (by simp; omega) hsn hsd)
 clear hl hn hd hs hsn hsd
 generalize checkN ns ds = er at *
 have HBW : Hid (Below w.heap.size w (w.alloc (.cells #[.slice An nn cn, .slice Ad nd cd] 26))) := (Below.refl _ _).alloc (Nat.le_refl _) _
 by_cases h0 : er = 0; rotate_left
 ·have h0' : (er != 0) = true := by simpa using h0
  have HR : Hid (stateErr ns ds s = er) := by unfold Hid; rw [HE.out, if_pos h0]
  clear h0
  go_enter Tryz.func60, Tryz.ntmps60
  go_wp2_with fail
  refine HCK.out.mono ?_
  rintro e w1 ⟨rfl, hb1⟩
  go_wp2_with fail
  go_ret
  exact ⟨ret_int (by rw [HR.out]), HBW.out.trans (hb1.mono (by simp))⟩
 subst h0
 go_enter Tryz.func60, Tryz.ntmps60
 go_wp2_with fail
 refine HCK.out.mono ?_
 rintro e w1 ⟨rfl, hb1⟩
 have HK1 := Lib.hid ((Blk.new w 26 #[.slice An nn cn, .slice Ad nd cd]).below hb1 (by simp))
 have HB1 := Lib.hid (HBW.out.trans (hb1.mono (by simp)))
 have k1 : w1.cell? ⟨w.heap.size, 1, none⟩ = some (.slice Ad nd cd) := HK1.out.cell 1
 have hz1 := HB1.out.size
 clear hb1 HCK
 by_cases hnd : n = nd; rotate_left
 ·have q : decide (n = nd) = false := by simpa using hnd
  have q' : ((n : Int) != (nd : Int)) = true := by simp; omega
  have HR : Hid (stateErr ns ds s = 9) := by unfold Hid; rw [HE.out, if_neg (by simp), if_pos hnd]
  clear hnd
  go_wp2_with fail
  go_ret
  exact ⟨ret_int (by rw [HR.out]), HB1.out⟩
 subst hnd
 have HL1 := Lib.hid (HL.out.below HB1.out (Nat.le_refl _))
 have HS1 := Lib.hid (HS.out.below HB1.out hBs)
 go_wp2_with fail
 clear k1
 go_loop [9, 23] (fun _ iv => ∃ i : Nat, iv = .int .i64 i ∧ i ≤ n ∧ Hid (∀ p ∈ s.take i, posB p = true)) (fun _ iv => n - (intOf iv).toNat)
 case atStart => exact ⟨0, rfl, Nat.zero_le _, by simp [Hid]⟩
 case round =>
  obtain ⟨i, rfl, hi, hok⟩ := hrel
  by_cases hlt : i < n
  ·obtain ⟨b, off, x, rfl, hb, hx, hc⟩ := HS1.out.at1 hlt
   have HX := Lib.hid hx; clear hx
   have HPA := Lib.hid (position_any x w1 HL1.out)
   rcases hp : posB x with _ | _
   ·have HR : Hid (stateErr ns ds s = 10) := by
     unfold Hid
     rw [HE.out, if_neg (by simp), if_neg (by simp), if_neg (fun h => by have := h x (List.mem_of_getElem? HX.out); rw [hp] at this; cases this)]
    rw [hp] at HPA
    clear hp
    go_wp2_with fail
    refine HPA.out.mono ?_
    rintro e w2 ⟨rfl, rfl⟩
    go_wp2_with fail
    go_ret
    exact ⟨ret_int (by rw [HR.out]), HB1.out⟩
   ·rw [hp] at HPA
    have HP := Lib.hid hp; clear hp
    go_wp2_with fail
    refine HPA.out.mono ?_
    rintro e w2 ⟨rfl, rfl⟩
    go_wp2_with fail
    go_round
    case rel =>
     refine ⟨i + 1, by go_num, by omega, fun p hp => ?_⟩
     rw [take_snoc HX.out] at hp
     rcases List.mem_append.1 hp with h | h
     ·exact hok.out p h
     ·rw [List.mem_singleton.1 h]; exact HP.out
    case measure => simp [intOf]; omega
  ·obtain rfl : i = n := by omega
   have hjj : decide (i < i) = false := by simp
   have HR : Hid (stateErr ns ds s = 0) := by
    unfold Hid
    have := hok.out
    rw [List.take_of_length_le (by rw [HLS.out]; exact Nat.le_refl _)] at this
    rw [HE.out, if_neg (by simp), if_neg (by simp), if_pos this]
   go_wp2_with fail
   go_ret
   exact ⟨ret_int (by rw [HR.out]), HB1.out⟩
theorem mstate_any (An Ad As : Option Addr) (nn cn nd cd n c Bn Bd Bs : Nat) (ns : List Nd) (ds : List Dv) (s : List Int) (w : World) (hl : Laid w) (hn : Sl w Bn 3 An nn cn (ns.flatMap Nd.cells)) (hd : Sl w Bd 5 Ad nd cd (ds.flatMap Dv.cells)) (hs : Sl w Bs 1 As n c (intsV s)) (hBn : Bn ≤ w.heap.size) (hBd : Bd ≤ w.heap.size) (hBs : Bs ≤ w.heap.size)
  (hsn : ∀ x ∈ ns, x.name.size ≤ 9223372036854775807) (hsd : ∀ x ∈ ds, x.name.size ≤ 9223372036854775807) :
  Calls Tryz.prog 35 #[.agg #[.slice An nn cn, .slice Ad nd cd], .slice As n c] w fun e w' => e = .returned (.int .i64 (stateErr ns ds s)) ∧ Below w.heap.size w w' := by
 have HC := Lib.hid (mcheck_pos An Ad As nn cn nd cd n c Bn Bd Bs ns ds s (w.alloc (.cells #[.slice An nn cn, .slice Ad nd cd] 26)) (hl.alloc _) (hn.alloc hBn _) (hd.alloc hBd _) (hs.alloc hBs _) (by simp; omega) (by simp; omega) (by simp; omega) hsn hsd)
 clear hl hn hd hs hsn hsd
 go_enter Tryz.func35, Tryz.ntmps35
 go_wp2_with fail
 refine HC.out.mono ?_
 rintro e w1 ⟨rfl, hb1⟩
 go_wp2_with fail
 go_ret
 exact ⟨rfl, ((Below.refl _ _).alloc (Nat.le_refl _) _).trans (hb1.mono (by simp))⟩
end Go.Proofs.YtnpfkiidhidjbaaGreatDoor
/-
 Layer 12: walks of device, Of.
-/
namespace Go.Proofs.YtnpfkiidhidjbaaGreatDoor
open Go.RowKit
def devErr (nd : Nat) (d : Int) : Int := if d < 0 then 8 else if (nd : Int) ≤ d then 8 else 0
theorem device_any (An Ad : Option Addr) (nn cn nd cd : Nat) (d : Int) (w : World) (_hnd : nd ≤ 9223372036854775807) : Calls Tryz.prog 80 #[.agg #[.slice An nn cn, .slice Ad nd cd], .int .i64 d] w fun e w' => e = .returned (.int .i64 (devErr nd d)) ∧ Below w.heap.size w w' := by
 have HE : Hid (devErr nd d = if d < 0 then 8 else if (nd : Int) ≤ d then 8 else 0) := rfl
 by_cases h1 : d < 0
 ·go_enter Tryz.func80, Tryz.ntmps80
  go_wp2_with fail
  go_ret
  exact ⟨ret_int (by rw [HE.out, if_pos h1]), (Below.refl _ _).alloc (Nat.le_refl _) _⟩
 ·have q1 : decide (d < 0) = false := by simpa using h1
  by_cases h2 : (nd : Int) ≤ d
  ·go_enter Tryz.func80, Tryz.ntmps80
   go_wp2_with fail
   go_ret
   exact ⟨ret_int (by rw [HE.out, if_neg (by omega), if_pos h2]), (Below.refl _ _).alloc (Nat.le_refl _) _⟩
  ·have q2 : decide ((nd : Int) ≤ d) = false := by simpa using h2
   go_enter Tryz.func80, Tryz.ntmps80
   go_wp2_with fail
   go_ret
   exact ⟨ret_int (by rw [HE.out, if_neg (by omega), if_neg (by omega)]), (Below.refl _ _).alloc (Nat.le_refl _) _⟩
/-- Of, at a valid state and a device of the network. -/
theorem Of_ok (An Ad As : Option Addr) (nn cn nd cd n c Bn Bd Bs i : Nat) (ns : List Nd) (ds : List Dv) (s : List Int) (x : Dv) (w : World) (hl : Laid w)
  (hn : Sl w Bn 3 An nn cn (ns.flatMap Nd.cells)) (hBn : Bn ≤ w.heap.size) (hd : Sl w Bd 5 Ad nd cd (ds.flatMap Dv.cells)) (hBd : Bd ≤ w.heap.size) (hs : Sl w Bs 1 As n c (intsV s)) (hBs : Bs ≤ w.heap.size) (hsn : ∀ x ∈ ns, x.name.size ≤ 9223372036854775807) (hsd : ∀ x ∈ ds, x.name.size ≤ 9223372036854775807)
  (h0 : stateErr ns ds s = 0) (hnn : nn ≤ 10000) (hn1 : n ≤ 10000) (hnd : nd ≤ n) (hi : i < nd) (hx : ds[i]? = some x) (hends : EndsOk nn ds) (hA : AOk nn ds) :
  Calls Tryz.prog 49 #[.agg #[.slice An nn cn, .slice Ad nd cd], .slice As n c, .int .i64 i] w fun e w' => e = .returned (.tuple #[.int .i64 (dutyAt nn ns ds s i x), .int .i64 0]) ∧ Below w.heap.size w w' := by
 have HB : Hid (Below w.heap.size w (w.alloc (.cells #[.slice An nn cn, .slice Ad nd cd] 26))) := (Below.refl _ _).alloc (Nat.le_refl _) _
 have HK := Lib.hid (Blk.new w 26 #[.slice An nn cn, .slice Ad nd cd])
 have HL := Lib.hid hl; have HN := Lib.hid hn; have HD := Lib.hid hd; have HS := Lib.hid hs; have HSN := Lib.hid hsn; have HSD := Lib.hid hsd; have H0 := Lib.hid h0; have HX := Lib.hid hx; have HE := Lib.hid hends; have HA := Lib.hid hA
 have hndm := hd.le
 clear hl hn hd hs hsn hsd h0 hx hends hA
 have HDE : Hid (devErr nd i = 0) := by unfold Hid devErr; rw [if_neg (by omega), if_neg (by omega)]
 go_enter Tryz.func49, Tryz.ntmps49
 go_wp2_with fail
 generalize World.alloc _ _ = W at *
 have hz := HB.out.size
 have HC := Lib.hid (mstate_any An Ad As nn cn nd cd n c Bn Bd Bs ns ds s W (HL.out.below HB.out (Nat.le_refl _)) (HN.out.below HB.out hBn) (HD.out.below HB.out hBd) (HS.out.below HB.out hBs) (by omega) (by omega) (by omega) HSN.out HSD.out)
 rw [H0.out] at HC
 refine HC.out.mono ?_
 rintro e w1 ⟨rfl, hb1⟩
 have HB1 := Lib.hid (HB.out.trans (hb1.mono hz))
 have HK1 := Lib.hid (HK.out.below hb1 HK.out.lt)
 have hz1 := HB1.out.size
 clear hb1 HC HB HK hz
 have k0 : w1.cell? ⟨w.heap.size, 0, none⟩ = some (.slice An nn cn) := HK1.out.cell 0
 have k1 : w1.cell? ⟨w.heap.size, 1, none⟩ = some (.slice Ad nd cd) := HK1.out.cell 1
 go_wp2_with fail
 have HC := Lib.hid (device_any An Ad nn cn nd cd i w1 (by omega))
 rw [HDE.out] at HC
 refine HC.out.mono ?_
 rintro e w2 ⟨rfl, hb2⟩
 have HB2 := Lib.hid (HB1.out.trans (hb2.mono hz1))
 have HK2 := Lib.hid (HK1.out.below hb2 HK1.out.lt)
 have hz2 := HB2.out.size
 clear hb2 HC HB1 HK1 hz1 k0 k1
 have k0 : w2.cell? ⟨w.heap.size, 0, none⟩ = some (.slice An nn cn) := HK2.out.cell 0
 have k1 : w2.cell? ⟨w.heap.size, 1, none⟩ = some (.slice Ad nd cd) := HK2.out.cell 1
 go_wp2_with fail
 clear k0 k1
 refine (of_any An Ad As nn cn nd cd n c Bn Bd Bs i ns ds s x w2 (HN.out.below HB2.out hBn) (by omega) (HD.out.below HB2.out hBd) (by omega) (HS.out.below HB2.out hBs) (by omega) hnn hn1 hnd hi HX.out HE.out HA.out).mono ?_
 rintro e w3 ⟨rfl, hb3⟩
 go_wp2_with fail
 go_ret2
 exact ⟨rfl, HB2.out.trans (hb3.mono hz2)⟩
end Go.Proofs.YtnpfkiidhidjbaaGreatDoor
