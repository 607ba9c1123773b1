/-
  Layer 12: walk of All.
-/
import Derived.Test.YtddjifkmaogpiaaDoorDutyOf
import Derived.Test.YtddjifkmaogpiaaDoorRef07
namespace Go.Proofs.YtddjifkmaogpiaaDoor
open Go.RowKit
def AllPost (w : World) (nn nd : Nat) (ns : List Nd) (ds : List Dv) (s : List Int) (e : Ending) (w' : World) : Prop :=
  ∃ (A : Option Addr) (out : List Int), e = .returned (.tuple #[.slice A nd nd, .int .i64 0]) ∧ Hid (IntsO w' w.heap.size A nd nd out) ∧ Hid (∀ (i : Nat) (x : Dv), ds[i]? = some x → out[i]? = some (dutyAt nn ns ds s i x)) ∧ Hid (Below w.heap.size w w')
def AlR (w : World) (N : Array Value) (go nn nd : Nat) (ns : List Nd) (ds : List Dv) (s : List Int) (gk : Nat) (iv : Value) (wr : World) : Prop := ∃ (i : Nat) (out : List Int), iv = .int .i64 i ∧ i ≤ nd ∧ gk = nd - i ∧ Hid (RpSt w N go nd out wr) ∧ Hid (∀ (j : Nat) (x : Dv), j < i → ds[j]? = some x → out[j]? = some (dutyAt nn ns ds s j x))
set_option maxHeartbeats 4000000 in
theorem All_ok (An Ad As : Option Addr) (nn cn nd cd n c Bn Bd Bs : Nat) (ns : List Nd) (ds : List Dv) (s : List Int) (w : World) (hl : Laid w)
    (hn : Sl w Bn 3 An nn cn (ns.flatMap Nd.cells)) (hBn : Bn ≤ w.heap.size) (hd : Sl w Bd 5 Ad nd cd (ds.flatMap Dv.cells)) (hBd : Bd ≤ w.heap.size) (hs : Sl w Bs 1 As n c (intsV s)) (hBs : Bs ≤ w.heap.size) (hsn : ∀ x ∈ ns, x.name.size ≤ 9223372036854775807) (hsd : ∀ x ∈ ds, x.name.size ≤ 9223372036854775807)
    (h0 : stateErr ns ds s = 0) (hnn : nn ≤ 10000) (hn1 : n ≤ 10000) (hnd : nd ≤ n) (hends : EndsOk nn ds) (hA : AOk nn ds) :
    Calls Tryd.prog 18 #[.agg #[.slice An nn cn, .slice Ad nd cd], .slice As n c] w (AllPost w nn nd ns ds s) := by
  have HB : Hid (Below w.heap.size w (w.alloc (.cells #[.slice An nn cn, .slice Ad nd cd] 30))) := (Below.refl _ _).alloc (Nat.le_refl _) _
  have HK := Lib.hid (Blk.new w 30 #[.slice An nn cn, .slice Ad nd cd])
  have HLD := Lib.hid (hd.len (fun _ => rfl) (by decide))
  have HL := Lib.hid hl; have HN := Lib.hid hn; have HD := Lib.hid hd; have HS := Lib.hid hs; have HSN := Lib.hid hsn; have HSD := Lib.hid hsd; have H0 := Lib.hid h0; have HE := Lib.hid hends; have HA := Lib.hid hA
  have hndm := hd.le
  clear hl hn hd hs hsn hsd h0 hends hA
  go_enter Tryd.func18, Tryd.ntmps18
  go_wp2_with fail
  generalize World.alloc _ _ = W at *
  have hz := HB.out.size
  have HC := Lib.hid (mstate_any An Ad As nn cn nd cd n c Bn Bd Bs ns ds s W (HL.out.below HB.out (Nat.le_refl _)) (HN.out.below HB.out hBn) (HD.out.below HB.out hBd) (HS.out.below HB.out hBs) (by omega) (by omega) (by omega) HSN.out HSD.out)
  rw [H0.out] at HC
  refine HC.out.mono ?_
  rintro e w1 ⟨rfl, hb1⟩
  have HB1 := Lib.hid (HB.out.trans (hb1.mono hz))
  have HK1 := Lib.hid (HK.out.below hb1 HK.out.lt)
  clear hb1 HC HB HK hz
  have k1 : w1.cell? ⟨w.heap.size, 1, none⟩ = some (.slice Ad nd cd) := HK1.out.cell 1
  have hmk := run_mk_int nd (by omega) w1
  have HRP : Hid (RpSt w #[.slice An nn cn, .slice Ad nd cd] w1.heap.size nd (List.replicate nd 0) (w1.alloc (.cells (intsV (List.replicate nd 0)).toArray 3))) :=
    ⟨HK1.out.alloc _, ints_new HK1.out.lt (by omega), HB1.out.alloc HB1.out.size _⟩
  go_wp2_with fail
  clear hmk k1 HK1 HB1
  generalize World.alloc _ _ = w2 at *
  obtain ⟨go, hgo⟩ : ∃ go, go = w1.heap.size := ⟨_, rfl⟩
  rw [← hgo] at HRP ⊢
  clear hgo
  go_loopg [21] nd (AlR w #[.slice An nn cn, .slice Ad nd cd] go nn nd ns ds s)
  case atStart => exact ⟨0, _, rfl, Nat.zero_le _, rfl, HRP, fun j x hj => absurd hj (by omega)⟩
  case round =>
    clear HRP
    obtain ⟨i, out, rfl, hi, rfl, hst, hf⟩ := hrel
    by_cases hlt : i < nd
    · obtain ⟨x, hx⟩ : ∃ x, ds[i]? = some x := ⟨_, List.getElem?_eq_getElem (by rw [HLD.out]; exact hlt)⟩
      have HX := Lib.hid hx; clear hx
      have k0 : wr.cell? ⟨w.heap.size, 0, none⟩ = some (.slice An nn cn) := hst.out.bx.cell 0
      have k1 : wr.cell? ⟨w.heap.size, 1, none⟩ = some (.slice Ad nd cd) := hst.out.bx.cell 1
      have hzr := hst.out.bl.size
      go_wp2_with fail
      clear k0 k1
      refine (of_any An Ad As nn cn nd cd n c Bn Bd Bs i ns ds s x wr (HN.out.below hst.out.bl hBn) (by omega) (HD.out.below hst.out.bl hBd) (by omega) (HS.out.below hst.out.bl hBs) (by omega) hnn hn1 hnd hlt HX.out HE.out HA.out).mono ?_
      rintro e w3 ⟨rfl, hb3⟩
      have HST3 := Lib.hid (hst.out.later hb3)
      clear hb3 hst
      obtain ⟨y, hy, hcell, hfz⟩ := HST3.out.cell hlt
      clear hy
      have HOL := Lib.hid HST3.out.ob.len
      obtain ⟨dv, hdv⟩ : ∃ dv, dutyAt nn ns ds s i x = dv := ⟨_, rfl⟩
      rw [hdv]
      have HDV := Lib.hid hdv; clear hdv
      have HPUT := Lib.hid (HST3.out.put hlt dv)
      go_wp2_with fail
      go_roundg (nd - (i + 1))
      case rel =>
        refine ⟨i + 1, _, by go_num, by omega, rfl, HPUT, fun j z hj hz => ?_⟩
        rw [List.getElem?_set]
        split
        · rename_i e
          subst e
          rw [if_pos (by rw [HOL.out]; exact hlt), ← HDV.out]
          rw [HX.out] at hz
          injection hz with hz
          rw [hz]
        · exact hf.out j z (by omega) hz
      case measure => omega
    · obtain rfl : i = nd := by omega
      have hii : decide (i < i) = false := by simp
      go_wp2_with fail
      go_ret2
      exact ⟨_, out, rfl, hst.out.ob.mono (by omega), fun j x hx => hf.out j x (by have := (List.getElem?_eq_some_iff.1 hx).1; rw [HLD.out] at this; exact this) hx, hst.out.bl⟩
end Go.Proofs.YtddjifkmaogpiaaDoor
