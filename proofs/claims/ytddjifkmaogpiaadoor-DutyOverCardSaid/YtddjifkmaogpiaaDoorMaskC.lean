/-
  Layer 6: walk of Count; the reference's masked, Unknown, Count.
-/
import Derived.Test.YtddjifkmaogpiaaDoorMaskU
import Derived.Test.YtddjifkmaogpiaaDoorOrdB
namespace Go.Proofs.YtddjifkmaogpiaaDoor
open Go.RowKit
/-- The error of masks whose states are counted; their number. -/
def cErr (m : List Int) : Int := if m.all maskB = true then (if 8 < cntN m m.length then 1 else 0) else 10
def cntV (m : List Int) : Int := if cErr m = 0 then (2 ^ cntN m m.length : Nat) else 0
set_option maxRecDepth 100000 in
set_option maxHeartbeats 2000000 in
theorem count_any (A : Option Addr) (n c B : Nat) (m : List Int) (w : World) (hl : Laid w) (hs : Sl w B 1 A n c (intsV m)) (hB : B ≤ w.heap.size) (hn : n ≤ 1000000) : Calls Tryd.prog 50 #[.slice A n c] w fun e w' => e = .returned (.tuple #[.int .i64 (cntV m), .int .i64 (cErr m)]) ∧ Below w.heap.size w w' := by
  have HV := Lib.hid (valid_any A n c B m w hl hs)
  have HU : Hid (∀ w1, Below w.heap.size w w1 → Calls Tryd.prog 51 #[.slice A n c] w1 (UnkPost w1 m)) := fun w1 hb => unknown_any A n c B m w1 (hs.below hb hB) (Nat.le_trans hB hb.size) hn
  clear hl; clear hs
  rcases hv : m.all maskB with _ | _
  · have HE : Hid (cErr m = 10) := by unfold Hid cErr; rw [hv]; rfl
    have HN : Hid (cntV m = 0) := by unfold Hid cntV; rw [HE.out]; rfl
    rw [HE.out, HN.out]
    rw [hv] at HV
    clear hv HE HN
    go_enter Tryd.func50, Tryd.ntmps50
    go_wp2_with fail
    refine HV.out.mono ?_
    rintro e w1 ⟨rfl, hb1⟩
    go_wp2_with fail
    go_ret2
    exact ⟨rfl, hb1⟩
  rw [hv] at HV
  by_cases h8 : 8 < cntN m m.length
  · have HE : Hid (cErr m = 1) := by unfold Hid cErr; rw [hv, if_pos rfl, if_pos h8]
    have HN : Hid (cntV m = 0) := by unfold Hid cntV; rw [HE.out]; rfl
    have H8 := Lib.hid h8
    rw [HE.out, HN.out]
    clear hv HE HN h8
    go_enter Tryd.func50, Tryd.ntmps50
    go_wp2_with fail
    refine HV.out.mono ?_
    rintro e w1 ⟨rfl, hb1⟩
    go_wp2_with fail
    refine (HU.out w1 hb1).mono ?_
    rintro e w2 ⟨Au, k, cu, rfl, hk, hO, hb2⟩
    have hk8 : decide ((8 : Int) < (k : Int)) = true := by have := hk.out; have := H8.out; simp; omega
    go_wp2_with fail
    go_ret2
    exact ⟨rfl, hb1.trans (hb2.out.mono hb1.size)⟩
  · have HE : Hid (cErr m = 0) := by unfold Hid cErr; rw [hv, if_pos rfl, if_neg h8]
    have HN : Hid (cntV m = (2 ^ cntN m m.length : Nat)) := by unfold Hid cntV; rw [HE.out]; rfl
    have H8 := Lib.hid h8
    rw [HE.out]
    clear hv HE h8
    go_enter Tryd.func50, Tryd.ntmps50
    go_wp2_with fail
    refine HV.out.mono ?_
    rintro e w1 ⟨rfl, hb1⟩
    go_wp2_with fail
    refine (HU.out w1 hb1).mono ?_
    rintro e w2 ⟨Au, k, cu, rfl, hk, hO, hb2⟩
    have hk9 : k = 0 ∨ k = 1 ∨ k = 2 ∨ k = 3 ∨ k = 4 ∨ k = 5 ∨ k = 6 ∨ k = 7 ∨ k = 8 := by have := hk.out; have := H8.out; omega
    clear H8 hO
    rcases hk9 with rfl | rfl | rfl | rfl | rfl | rfl | rfl | rfl | rfl
    all_goals
      go_wp2_with fail
      go_ret2
      exact ⟨by rw [HN.out, ← hk.out]; rfl, hb1.trans (hb2.out.mono hb1.size)⟩
def MdR (w : World) (m : List Int) (n gk : Nat) (iv : Value) (wr : World) : Prop := ∃ i : Nat, iv = .int .i64 i ∧ i ≤ n ∧ gk = n - i ∧ Hid (∀ p ∈ m.take i, maskB p = true) ∧ Hid (Below w.heap.size w wr)
set_option maxRecDepth 100000 in
set_option maxHeartbeats 2000000 in
theorem masked_any (A : Option Addr) (n c B : Nat) (m : List Int) (w : World) (hs : Sl w B 1 A n c (intsV m)) (hB : B ≤ w.heap.size) : Calls Tryd.prog 55 #[.slice A n c] w fun e w' => e = .returned (.bool (m.all maskB)) ∧ Below w.heap.size w w' := by
  have HLM := Lib.hid (hs.len (fun _ => rfl) (by decide)); have HS := Lib.hid hs
  have hle := hs.le
  clear hs
  go_enter Tryd.func55, Tryd.ntmps55
  go_wp2_with fail
  go_loopg [3] n (MdR w m n)
  case atStart => exact ⟨0, rfl, Nat.zero_le _, rfl, (by unfold Hid; simp), Below.refl _ _⟩
  case round =>
    obtain ⟨i, rfl, hi, rfl, hok, hbl⟩ := hrel
    by_cases hlt : i < n
    · obtain ⟨b, off, x, rfl, hb, hx, hc⟩ := (HS.out.below hbl.out hB).at1 hlt
      have HX := Lib.hid hx
      clear hx
      by_cases h1 : x < 1
      · have q : decide (x < 1) = true := by simpa using h1
        have HR : Hid (m.all maskB = false) := by
          unfold Hid
          rw [List.all_eq_false]
          exact ⟨x, List.mem_of_getElem? HX.out, by simp [maskB]; omega⟩
        clear h1
        go_wp2_with fail
        go_ret
        exact ⟨ret_bool HR.out.symm, hbl.out⟩
      · have q : decide (x < 1) = false := by simpa using h1
        by_cases h2 : 3 < x
        · have q2 : decide (3 < x) = true := by simpa using h2
          have HR : Hid (m.all maskB = false) := by
            unfold Hid
            rw [List.all_eq_false]
            exact ⟨x, List.mem_of_getElem? HX.out, by simp [maskB]; omega⟩
          clear h1 h2
          go_wp2_with fail
          go_ret
          exact ⟨ret_bool HR.out.symm, hbl.out⟩
        · have q2 : decide (3 < x) = false := by simpa using h2
          have HR : Hid (∀ p ∈ m.take (i + 1), maskB p = true) := by
            intro p hp
            rw [take_snoc HX.out] at hp
            rcases List.mem_append.1 hp with h | h
            · exact hok.out p h
            · rw [List.mem_singleton.1 h]; simp [maskB]; omega
          clear h1 h2
          go_wp2_with fail
          go_roundg (n - (i + 1))
          case rel => exact ⟨i + 1, by go_num, by omega, rfl, HR, hbl⟩
          case measure => omega
    · obtain rfl : i = n := by omega
      have hii : decide (i < i) = false := by simp
      have HR : Hid (m.all maskB = true) := by
        unfold Hid
        have := hok.out
        rw [List.take_of_length_le (by rw [HLM.out]; exact Nat.le_refl _)] at this
        exact List.all_eq_true.2 this
      go_wp2_with fail
      go_ret
      exact ⟨ret_bool HR.out.symm, hbl.out⟩
set_option maxRecDepth 100000 in
set_option maxHeartbeats 2000000 in
theorem runknown_any (A : Option Addr) (n c B : Nat) (m : List Int) (w : World) (hs : Sl w B 1 A n c (intsV m)) (hB : B ≤ w.heap.size) (hn : n ≤ 1000000) : Calls Tryd.prog 56 #[.slice A n c] w (UnkPost w m) := by
  have HLM := Lib.hid (hs.len (fun _ => rfl) (by decide)); have HS := Lib.hid hs
  clear hs
  go_enter Tryd.func56, Tryd.ntmps56
  go_wp2_with fail
  go_loopg [3, 4] n (UnR w m n)
  case atStart => exact ⟨0, 0, 0, none, rfl, rfl, Nat.zero_le _, rfl, Nat.le_refl _, rfl, World.ownsRow_nil _ _ _ _, Below.refl _ _⟩
  case round =>
    obtain ⟨i, k, co, Ao, rfl, rfl, hi, rfl, hki, hk, hO, hbl⟩ := hrel
    by_cases hlt : i < n
    · obtain ⟨b, off, x, rfl, hb, hx, hc⟩ := (HS.out.below hbl.out hB).at1 hlt
      have HX := Lib.hid hx
      clear hx
      by_cases h3 : x = 3
      · subst h3
        have HU := Lib.hid (unk_put HX.out); have HK := Lib.hid (cnt_put HX.out hk.out)
        go_wp2_with (at_builtin; go_must (refine wpList_app rfl (.tmp 16) (.tmp 18) rfl el_int (by rfl) (hO.out.alloc _) (by rfl) (Sl.newest (n := 1) (by simp) (by rfl) (by decide)) (by simp [Value.oneCell']) (by omega) (by omega) (by have := hbl.out.size; simp; omega) ?_; intro A' cap' w3 hown3 hgr3 hat3; have HO3 := Lib.hid hown3; have HG3 := Lib.hid hgr3; clear hown3 hgr3 hat3))
        go_roundg (n - (i + 1))
        case rel =>
          refine ⟨i + 1, k + 1, cap', A', by go_num, rfl, by omega, rfl, by omega, HK, ?_, ?_⟩
          · have h := HO3.out
            unfold Hid; rw [HU.out]; unfold IntsO; rw [intsV_append]
            exact h
          · have h1 := hbl.out.alloc hbl.out.size (.cells #[.int .i64 (i : Int)] 3)
            refine h1.trans ⟨HG3.out.os, HG3.out.tape, HG3.out.output, HG3.out.size, fun q hq => HG3.out.block q (by have := h1.size; omega) (fun e => by have := (hO.out.lt q e.symm).1; omega)⟩
        case measure => omega
      · have q : (x == 3) = false := by simpa using h3
        have h3' : m[i]? ≠ some 3 := fun h => h3 (by rw [HX.out] at h; injection h)
        have HU := Lib.hid (unk_pass h3'); have HK := Lib.hid (cnt_pass h3' hk.out)
        clear h3 h3'
        go_wp2_with fail
        go_roundg (n - (i + 1))
        case rel => exact ⟨i + 1, k, co, Ao, by go_num, rfl, by omega, rfl, by omega, HK, (by unfold Hid; rw [HU.out]; exact hO.out), hbl⟩
        case measure => omega
    · obtain rfl : i = n := by omega
      have hii : decide (i < i) = false := by simp
      go_wp2_with fail
      go_ret
      refine ⟨Ao, k, co, rfl, ?_, ?_, hbl⟩
      · unfold Hid; rw [HLM.out]; exact hk.out
      · unfold Hid; rw [HLM.out]; exact hO.out
set_option maxRecDepth 100000 in
set_option maxHeartbeats 2000000 in
theorem rcount_any (A : Option Addr) (n c B : Nat) (m : List Int) (w : World) (hs : Sl w B 1 A n c (intsV m)) (hB : B ≤ w.heap.size) (hn : n ≤ 1000000) : Calls Tryd.prog 40 #[.slice A n c] w fun e w' => e = .returned (.tuple #[.int .i64 (cntV m), .int .i64 (cErr m)]) ∧ Below w.heap.size w w' := by
  have HV := Lib.hid (masked_any A n c B m w hs hB)
  have HU : Hid (∀ w1, Below w.heap.size w w1 → Calls Tryd.prog 56 #[.slice A n c] w1 (UnkPost w1 m)) := fun w1 hb => runknown_any A n c B m w1 (hs.below hb hB) (Nat.le_trans hB hb.size) hn
  clear hs
  rcases hv : m.all maskB with _ | _
  · have HE : Hid (cErr m = 10) := by unfold Hid cErr; rw [hv]; rfl
    have HN : Hid (cntV m = 0) := by unfold Hid cntV; rw [HE.out]; rfl
    rw [HE.out, HN.out]
    rw [hv] at HV
    clear hv HE HN
    go_enter Tryd.func40, Tryd.ntmps40
    go_wp2_with fail
    refine HV.out.mono ?_
    rintro e w1 ⟨rfl, hb1⟩
    go_wp2_with fail
    go_ret2
    exact ⟨rfl, hb1⟩
  rw [hv] at HV
  by_cases h8 : 8 < cntN m m.length
  · have HE : Hid (cErr m = 1) := by unfold Hid cErr; rw [hv, if_pos rfl, if_pos h8]
    have HN : Hid (cntV m = 0) := by unfold Hid cntV; rw [HE.out]; rfl
    have H8 := Lib.hid h8
    rw [HE.out, HN.out]
    clear hv HE HN h8
    go_enter Tryd.func40, Tryd.ntmps40
    go_wp2_with fail
    refine HV.out.mono ?_
    rintro e w1 ⟨rfl, hb1⟩
    go_wp2_with fail
    refine (HU.out w1 hb1).mono ?_
    rintro e w2 ⟨Au, k, cu, rfl, hk, hO, hb2⟩
    have hk8 : decide ((8 : Int) < (k : Int)) = true := by have := hk.out; have := H8.out; simp; omega
    go_wp2_with fail
    go_ret2
    exact ⟨rfl, hb1.trans (hb2.out.mono hb1.size)⟩
  · have HE : Hid (cErr m = 0) := by unfold Hid cErr; rw [hv, if_pos rfl, if_neg h8]
    have HN : Hid (cntV m = (2 ^ cntN m m.length : Nat)) := by unfold Hid cntV; rw [HE.out]; rfl
    have H8 := Lib.hid h8
    rw [HE.out]
    clear hv HE h8
    go_enter Tryd.func40, Tryd.ntmps40
    go_wp2_with fail
    refine HV.out.mono ?_
    rintro e w1 ⟨rfl, hb1⟩
    go_wp2_with fail
    refine (HU.out w1 hb1).mono ?_
    rintro e w2 ⟨Au, k, cu, rfl, hk, hO, hb2⟩
    have hk9 : k = 0 ∨ k = 1 ∨ k = 2 ∨ k = 3 ∨ k = 4 ∨ k = 5 ∨ k = 6 ∨ k = 7 ∨ k = 8 := by have := hk.out; have := H8.out; omega
    clear H8 hO
    rcases hk9 with rfl | rfl | rfl | rfl | rfl | rfl | rfl | rfl | rfl
    all_goals
      go_wp2_with fail
      go_ret2
      exact ⟨by rw [HN.out, ← hk.out]; rfl, hb1.trans (hb2.out.mono hb1.size)⟩
end Go.Proofs.YtddjifkmaogpiaaDoor
