/-
  Layer 12: walk of Over.
-/
import Derived.Test.YtddjifkmaogpiaaDoorDutyOf
import Derived.Test.YtddjifkmaogpiaaDoorMaskA
import Derived.Test.YtddjifkmaogpiaaDoorR6All
import Derived.Test.YtddjifkmaogpiaaDoorSortI
namespace Go.Proofs.YtddjifkmaogpiaaDoor
open Go.RowKit
/-- The duties over masks: ascending, each once. -/
def OverL (nn : Nat) (ns : List Nd) (ds : List Dv) (m : List Int) (i : Nat) (x : Dv) (out : List Int) : Prop := out.Nodup ∧ out.Pairwise (· ≤ ·) ∧ ∀ d : Int, d ∈ out ↔ ∃ s ∈ allOf m, dutyAt nn ns ds s i x = d
def OverPost (w : World) (nn : Nat) (ns : List Nd) (ds : List Dv) (m : List Int) (i : Nat) (x : Dv) (e : Ending) (w' : World) : Prop := ∃ (A : Option Addr) (k c : Nat) (out : List Int), e = .returned (.tuple #[.slice A k c, .int .i64 0]) ∧ Hid (IntsO w' w.heap.size A k c out) ∧ Hid (OverL nn ns ds m i x out) ∧ Hid (Below w.heap.size w w')
def OvIn (nn : Nat) (ns : List Nd) (ds : List Dv) (m : List Int) (i : Nat) (x : Dv) (k : Nat) (out : List Int) : Prop := out.length ≤ k ∧ out.Nodup ∧ ∀ d : Int, d ∈ out ↔ ∃ s ∈ (allOf m).take k, dutyAt nn ns ds s i x = d
section
variable {nn : Nat} {ns : List Nd} {ds : List Dv} {m : List Int} {i k : Nat} {x : Dv} {out s : List Int}
theorem OvIn.start : OvIn nn ns ds m i x 0 [] := ⟨Nat.le_refl _, List.nodup_nil, fun d => by simp⟩
theorem OvIn.pass (h : OvIn nn ns ds m i x k out) (hs : (allOf m)[k]? = some s) (hm : dutyAt nn ns ds s i x ∈ out) : OvIn nn ns ds m i x (k + 1) out := by
  refine ⟨by have := h.1; omega, h.2.1, fun d => ?_⟩
  rw [take_snoc hs, h.2.2 d]
  constructor
  · rintro ⟨t, ht, e⟩; exact ⟨t, List.mem_append_left _ ht, e⟩
  · rintro ⟨t, ht, e⟩
    rcases List.mem_append.1 ht with h1 | h1
    · exact ⟨t, h1, e⟩
    · rw [List.mem_singleton.1 h1] at e
      subst e
      exact (h.2.2 _).1 hm
theorem OvIn.put (h : OvIn nn ns ds m i x k out) (hs : (allOf m)[k]? = some s) (hm : dutyAt nn ns ds s i x ∉ out) : OvIn nn ns ds m i x (k + 1) (out ++ [dutyAt nn ns ds s i x]) := by
  refine ⟨by have := h.1; simp; omega, ?_, fun d => ?_⟩
  · rw [List.nodup_append]
    refine ⟨h.2.1, by simp, fun a ha b hb => ?_⟩
    rw [List.mem_singleton.1 hb]
    intro e; subst e; exact hm ha
  · rw [take_snoc hs, List.mem_append, h.2.2 d]
    constructor
    · rintro (⟨t, ht, e⟩ | h1)
      · exact ⟨t, List.mem_append_left _ ht, e⟩
      · exact ⟨s, by simp, (List.mem_singleton.1 h1).symm⟩
    · rintro ⟨t, ht, e⟩
      rcases List.mem_append.1 ht with h1 | h1
      · exact .inl ⟨t, h1, e⟩
      · rw [List.mem_singleton.1 h1] at e
        exact .inr (by rw [e]; simp)
end
def OvR (W : World) (nn : Nat) (ns : List Nd) (ds : List Dv) (m : List Int) (i : Nat) (x : Dv) (P gk : Nat) (ov iv : Value) (wr : World) : Prop := ∃ (k no co : Nat) (Ao : Option Addr) (out : List Int), iv = .int .i64 k ∧ ov = .slice Ao no co ∧ k ≤ P ∧ gk = P - k ∧ Hid (IntsO wr W.heap.size Ao no co out) ∧ Hid (OvIn nn ns ds m i x k out) ∧ Hid (Below W.heap.size W wr)
set_option maxRecDepth 100000 in
set_option maxHeartbeats 8000000 in
theorem Over_ok (An Ad As : Option Addr) (nn cn nd cd c Bn Bd Bs i : Nat) (ns : List Nd) (ds : List Dv) (m : List Int) (x : Dv) (w : World) (hl : Laid w)
    (hn : Sl w Bn 3 An nn cn (ns.flatMap Nd.cells)) (hBn : Bn ≤ w.heap.size) (hd : Sl w Bd 5 Ad nd cd (ds.flatMap Dv.cells)) (hBd : Bd ≤ w.heap.size) (hs : Sl w Bs 1 As m.length c (intsV m)) (hBs : Bs ≤ w.heap.size) (hsn : ∀ x ∈ ns, x.name.size ≤ 9223372036854775807) (hsd : ∀ x ∈ ds, x.name.size ≤ 9223372036854775807)
    (h0 : maskErr ns ds m = 0) (hce : cErr m = 0) (hnn : nn ≤ 10000) (hn1 : m.length ≤ 1000) (hnd : nd ≤ m.length) (hi : i < nd) (hx : ds[i]? = some x) (hends : EndsOk nn ds) (hA : AOk nn ds) :
    Calls Tryd.prog 22 #[.agg #[.slice An nn cn, .slice Ad nd cd], .slice As m.length c, .int .i64 i] w (OverPost w nn ns ds m i x) := by
  have HB : Hid (Below w.heap.size w (w.alloc (.cells #[.slice An nn cn, .slice Ad nd cd] 30))) := (Below.refl _ _).alloc (Nat.le_refl _) _
  have HK := Lib.hid (Blk.new w 30 #[.slice An nn cn, .slice Ad nd cd])
  have HL := Lib.hid hl; have HN := Lib.hid hn; have HD := Lib.hid hd; have HS := Lib.hid hs; have HSN := Lib.hid hsn; have HSD := Lib.hid hsd; have H0 := Lib.hid h0; have HX := Lib.hid hx; have HE := Lib.hid hends; have HA := Lib.hid hA; have HCE := Lib.hid hce
  have hndm := hd.le
  clear hl hn hd hs hsn hsd h0 hx hends hA hce
  have HDE : Hid (devErr nd i = 0) := by unfold Hid devErr; rw [if_neg (by omega), if_neg (by omega)]
  go_enter Tryd.func22, Tryd.ntmps22
  go_wp2_with fail
  generalize World.alloc _ _ = W at *
  have hz := HB.out.size
  have HC := Lib.hid (mcheckm_any An Ad As nn cn nd cd m.length c Bn Bd Bs ns ds m W (HL.out.below HB.out (Nat.le_refl _)) (HN.out.below HB.out hBn) (HD.out.below HB.out hBd) (HS.out.below HB.out hBs) (by omega) (by omega) (by omega) HSN.out HSD.out)
  rw [H0.out] at HC
  refine HC.out.mono ?_
  rintro e w1 ⟨rfl, hb1⟩
  have HB1 := Lib.hid (HB.out.trans (hb1.mono hz))
  have HK1 := Lib.hid (HK.out.below hb1 HK.out.lt)
  have hz1 := HB1.out.size
  clear hb1 HC HB HK hz
  have k0 : w1.cell? ⟨w.heap.size, 0, none⟩ = some (.slice An nn cn) := HK1.out.cell 0
  have k1 : w1.cell? ⟨w.heap.size, 1, none⟩ = some (.slice Ad nd cd) := HK1.out.cell 1
  go_wp2_with fail
  have HC := Lib.hid (device_any An Ad nn cn nd cd i w1 (by omega))
  rw [HDE.out] at HC
  refine HC.out.mono ?_
  rintro e w2 ⟨rfl, hb2⟩
  have HB2 := Lib.hid (HB1.out.trans (hb2.mono hz1))
  have HK2 := Lib.hid (HK1.out.below hb2 HK1.out.lt)
  have hz2 := HB2.out.size
  clear hb2 HC HB1 HK1 hz1 k0 k1
  go_wp2_with fail
  refine (all_any As c Bs m w2 (HL.out.below HB2.out (Nat.le_refl _)) (HS.out.below HB2.out hBs) (by omega) hn1).mono ?_
  rintro e w3 ⟨h | ⟨_, Al, P, cl, rfl, hra⟩, hb3⟩
  · exact absurd HCE.out h.1
  have HB3 := Lib.hid (HB2.out.trans (hb3.out.mono hz2))
  have HK3 := Lib.hid (HK2.out.below hb3.out HK2.out.lt)
  have hP : P ≤ 256 := by
    have h1 := hra.out.len
    unfold allOf at h1
    rw [allN_len] at h1
    have := Nat.pow_le_pow_right (n := 2) (by decide) (cErr_zero HCE.out).2
    omega
  have hPc := hra.out.le
  clear HB2 HK2 hb3 hz2
  go_wp2_with fail
  go_loopg [10, 35] P (OvR w3 nn ns ds m i x P)
  case atStart => exact ⟨0, 0, 0, none, [], rfl, rfl, Nat.zero_le _, rfl, World.ownsRow_nil _ _ _ _, OvIn.start, Below.refl _ _⟩
  case round =>
    obtain ⟨k, no, co, Ao, out, rfl, rfl, hk, rfl, hO, hin, hbl⟩ := hrel
    have hno : no ≤ 256 := by have h1 := hin.out.1; have h2 := hO.out.len; omega
    have HBR := Lib.hid (HB3.out.trans (hbl.out.mono HB3.out.size))
    have hzr := HBR.out.size
    by_cases hlt : k < P
    · obtain ⟨rb, ro, s, Ak, ck, rfl, hrb, hrs, hrc, hsl⟩ := (hra.out.below hbl.out (Nat.le_refl _)).at hlt
      have HRS := Lib.hid hrs
      have hsl1 : s.length = m.length := ((mem_allN m m.length s).1 (List.mem_of_getElem? hrs)).1
      have HSL := Lib.hid hsl1
      have hsl2 : nd ≤ s.length := by omega
      have hsl3 : s.length ≤ 1000 := by omega
      have HKS := Lib.hid (hsl.more hbl.out.size)
      clear hrs hsl hsl1
      have HKR := Lib.hid (HK3.out.below hbl.out HK3.out.lt)
      have k0 : wr.cell? ⟨w.heap.size, 0, none⟩ = some (.slice An nn cn) := HKR.out.cell 0
      have k1 : wr.cell? ⟨w.heap.size, 1, none⟩ = some (.slice Ad nd cd) := HKR.out.cell 1
      go_wp2_with fail
      clear k0 k1 hrc
      refine (of_any An Ad Ak nn cn nd cd s.length ck Bn Bd wr.heap.size i ns ds s x wr (HN.out.below HBR.out hBn) (by omega) (HD.out.below HBR.out hBd) (by omega) HKS.out (Nat.le_refl _) hnn (by omega) hsl2 hi HX.out HE.out HA.out).mono ?_
      rintro e w4 ⟨rfl, hb4⟩
      have HO4 := Lib.hid (hO.out.later hb4)
      have HB4 := Lib.hid (hbl.out.trans (hb4.mono hbl.out.size))
      have HCO := Lib.hid (contains_any Ao no co w4.heap.size out (dutyAt nn ns ds s i x) w4 HO4.out.sl)
      clear hb4 HKS HKR
      rcases hm : hasB out (dutyAt nn ns ds s i x) with _ | _
      · rw [hm] at HCO
        have HP := Lib.hid (hin.out.put HRS.out ((hasB_not _ _).1 hm))
        clear hm
        generalize dutyAt nn ns ds s i x = dv at *
        go_wp2_with fail
        refine HCO.out.mono ?_
        rintro e w5 ⟨rfl, rfl⟩
        have hz4 := HB4.out.size
        go_wp2_with (at_builtin; go_must (refine wpList_app rfl (.tmp 47) (.tmp 49) rfl el_int (by rfl) (HO4.out.alloc _) (by rfl) (Sl.newest (n := 1) (by simp) (by rfl) (by decide)) (by simp [Value.oneCell']) (by omega) (by omega) (by simp; omega) ?_; intro A' cap' w6 hown6 hgr6 hat6; have HO6 := Lib.hid hown6; have HG6 := Lib.hid hgr6; clear hown6 hgr6 hat6))
        go_roundg (P - (k + 1))
        case rel =>
          refine ⟨k + 1, no + 1, cap', A', out ++ [dv], by go_num, rfl, by omega, rfl, ?_, HP, ?_⟩
          · unfold Hid IntsO; rw [intsV_append]; exact HO6.out
          · have h1 := HB4.out.alloc HB4.out.size (.cells #[.int .i64 dv] 3)
            exact h1.trans ⟨HG6.out.os, HG6.out.tape, HG6.out.output, HG6.out.size, fun q hq => HG6.out.block q (by have := h1.size; omega) (fun e => by have := (HO4.out.lt q e.symm).1; omega)⟩
        case measure => omega
      · rw [hm] at HCO
        have HP := Lib.hid (hin.out.pass HRS.out ((hasB_iff _ _).1 hm))
        clear hm
        go_wp2_with fail
        refine HCO.out.mono ?_
        rintro e w5 ⟨rfl, rfl⟩
        go_wp2_with fail
        go_roundg (P - (k + 1))
        case rel => exact ⟨k + 1, no, co, Ao, out, by go_num, rfl, by omega, rfl, HO4, HP, HB4⟩
        case measure => omega
    · obtain rfl : k = P := by omega
      have hkk : decide (k < k) = false := by simp
      go_wp2_with fail
      refine (sort_any Ao no co w3.heap.size out wr hO.out (by omega)).mono ?_
      rintro e w5 ⟨rfl, hO5, hg5⟩
      go_wp2_with fail
      go_ret2
      refine ⟨Ao, no, co, sortL out, rfl, hO5.out.mono HB3.out.size, ⟨sortL_nodup hin.out.2.1, sortL_sorted _, fun d => ?_⟩, HBR.out.trans ⟨hg5.out.os, hg5.out.tape, hg5.out.output, hg5.out.size, fun q hq => hg5.out.block q (by omega) (fun e => by have := (hO.out.lt q e.symm).1; have := HB3.out.size; omega)⟩⟩
      rw [sortL_mem, hin.out.2.2 d, List.take_of_length_le (by rw [hra.out.len]; exact Nat.le_refl _)]
end Go.Proofs.YtddjifkmaogpiaaDoor
