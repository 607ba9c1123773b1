/-
  Layer 12: walks of device, Of.
-/
import Derived.Test.YtddjifkmaogpiaaDoorDuty
import Derived.Test.YtddjifkmaogpiaaDoorMask
namespace Go.Proofs.YtddjifkmaogpiaaDoor
open Go.RowKit
def devErr (nd : Nat) (d : Int) : Int := if d < 0 then 8 else if (nd : Int) ≤ d then 8 else 0
theorem device_any (An Ad : Option Addr) (nn cn nd cd : Nat) (d : Int) (w : World) (hnd : nd ≤ 9223372036854775807) : Calls Tryd.prog 29 #[.agg #[.slice An nn cn, .slice Ad nd cd], .int .i64 d] w fun e w' => e = .returned (.int .i64 (devErr nd d)) ∧ Below w.heap.size w w' := by
  have HE : Hid (devErr nd d = if d < 0 then 8 else if (nd : Int) ≤ d then 8 else 0) := rfl
  by_cases h1 : d < 0
  · go_enter Tryd.func29, Tryd.ntmps29
    go_wp2_with fail
    go_ret
    exact ⟨ret_int (by rw [HE.out, if_pos h1]), (Below.refl _ _).alloc (Nat.le_refl _) _⟩
  · have q1 : decide (d < 0) = false := by simpa using h1
    by_cases h2 : (nd : Int) ≤ d
    · go_enter Tryd.func29, Tryd.ntmps29
      go_wp2_with fail
      go_ret
      exact ⟨ret_int (by rw [HE.out, if_neg (by omega), if_pos h2]), (Below.refl _ _).alloc (Nat.le_refl _) _⟩
    · have q2 : decide ((nd : Int) ≤ d) = false := by simpa using h2
      go_enter Tryd.func29, Tryd.ntmps29
      go_wp2_with fail
      go_ret
      exact ⟨ret_int (by rw [HE.out, if_neg (by omega), if_neg (by omega)]), (Below.refl _ _).alloc (Nat.le_refl _) _⟩
/-- Of, at a valid state and a device of the network. -/
theorem Of_ok (An Ad As : Option Addr) (nn cn nd cd n c Bn Bd Bs i : Nat) (ns : List Nd) (ds : List Dv) (s : List Int) (x : Dv) (w : World) (hl : Laid w)
    (hn : Sl w Bn 3 An nn cn (ns.flatMap Nd.cells)) (hBn : Bn ≤ w.heap.size) (hd : Sl w Bd 5 Ad nd cd (ds.flatMap Dv.cells)) (hBd : Bd ≤ w.heap.size) (hs : Sl w Bs 1 As n c (intsV s)) (hBs : Bs ≤ w.heap.size) (hsn : ∀ x ∈ ns, x.name.size ≤ 9223372036854775807) (hsd : ∀ x ∈ ds, x.name.size ≤ 9223372036854775807)
    (h0 : stateErr ns ds s = 0) (hnn : nn ≤ 10000) (hn1 : n ≤ 10000) (hnd : nd ≤ n) (hi : i < nd) (hx : ds[i]? = some x) (hends : EndsOk nn ds) (hA : AOk nn ds) :
    Calls Tryd.prog 12 #[.agg #[.slice An nn cn, .slice Ad nd cd], .slice As n c, .int .i64 i] w fun e w' => e = .returned (.tuple #[.int .i64 (dutyAt nn ns ds s i x), .int .i64 0]) ∧ Below w.heap.size w w' := by
  have HB : Hid (Below w.heap.size w (w.alloc (.cells #[.slice An nn cn, .slice Ad nd cd] 30))) := (Below.refl _ _).alloc (Nat.le_refl _) _
  have HK := Lib.hid (Blk.new w 30 #[.slice An nn cn, .slice Ad nd cd])
  have HL := Lib.hid hl; have HN := Lib.hid hn; have HD := Lib.hid hd; have HS := Lib.hid hs; have HSN := Lib.hid hsn; have HSD := Lib.hid hsd; have H0 := Lib.hid h0; have HX := Lib.hid hx; have HE := Lib.hid hends; have HA := Lib.hid hA
  have hndm := hd.le
  clear hl hn hd hs hsn hsd h0 hx hends hA
  have HDE : Hid (devErr nd i = 0) := by unfold Hid devErr; rw [if_neg (by omega), if_neg (by omega)]
  go_enter Tryd.func12, Tryd.ntmps12
  go_wp2_with fail
  generalize World.alloc _ _ = W at *
  have hz := HB.out.size
  have HC := Lib.hid (mstate_any An Ad As nn cn nd cd n c Bn Bd Bs ns ds s W (HL.out.below HB.out (Nat.le_refl _)) (HN.out.below HB.out hBn) (HD.out.below HB.out hBd) (HS.out.below HB.out hBs) (by omega) (by omega) (by omega) HSN.out HSD.out)
  rw [H0.out] at HC
  refine HC.out.mono ?_
  rintro e w1 ⟨rfl, hb1⟩
  have HB1 := Lib.hid (HB.out.trans (hb1.mono hz))
  have HK1 := Lib.hid (HK.out.below hb1 HK.out.lt)
  have hz1 := HB1.out.size
  clear hb1 HC HB HK hz
  have k0 : w1.cell? ⟨w.heap.size, 0, none⟩ = some (.slice An nn cn) := HK1.out.cell 0
  have k1 : w1.cell? ⟨w.heap.size, 1, none⟩ = some (.slice Ad nd cd) := HK1.out.cell 1
  go_wp2_with fail
  have HC := Lib.hid (device_any An Ad nn cn nd cd i w1 (by omega))
  rw [HDE.out] at HC
  refine HC.out.mono ?_
  rintro e w2 ⟨rfl, hb2⟩
  have HB2 := Lib.hid (HB1.out.trans (hb2.mono hz1))
  have HK2 := Lib.hid (HK1.out.below hb2 HK1.out.lt)
  have hz2 := HB2.out.size
  clear hb2 HC HB1 HK1 hz1 k0 k1
  have k0 : w2.cell? ⟨w.heap.size, 0, none⟩ = some (.slice An nn cn) := HK2.out.cell 0
  have k1 : w2.cell? ⟨w.heap.size, 1, none⟩ = some (.slice Ad nd cd) := HK2.out.cell 1
  go_wp2_with fail
  clear k0 k1
  refine (of_any An Ad As nn cn nd cd n c Bn Bd Bs i ns ds s x w2 (HN.out.below HB2.out hBn) (by omega) (HD.out.below HB2.out hBd) (by omega) (HS.out.below HB2.out hBs) (by omega) hnn hn1 hnd hi HX.out HE.out HA.out).mono ?_
  rintro e w3 ⟨rfl, hb3⟩
  go_wp2_with fail
  go_ret2
  exact ⟨rfl, HB2.out.trans (hb3.mono hz2)⟩
end Go.Proofs.YtddjifkmaogpiaaDoor
