/-
  The statement DutyOver: its walk.
-/
import Derived.Test.YtddjifkmaogpiaaDoorOver
import Derived.Test.YtddjifkmaogpiaaDoorMkMasks
import Derived.Test.YtddjifkmaogpiaaDoorAwake
import Derived.Test.YtddjifkmaogpiaaDoorMadeP
namespace Go.Proofs.YtddjifkmaogpiaaDoor
open Go.RowKit
theorem sorted_ext : ∀ {a b : List Int}, a.Pairwise (· < ·) → b.Pairwise (· < ·) → (∀ x, x ∈ a ↔ x ∈ b) → a = b
  | [], [], _, _, _ => rfl
  | [], y :: b, _, _, h => absurd ((h y).2 List.mem_cons_self) (by simp)
  | x :: a, [], _, _, h => absurd ((h x).1 List.mem_cons_self) (by simp)
  | x :: a, y :: b, ha, hb, h => by
    rw [List.pairwise_cons] at ha hb
    have e : x = y := by
      have h1 := (h x).1 List.mem_cons_self
      have h2 := (h y).2 List.mem_cons_self
      rcases List.mem_cons.1 h1 with h1 | h1
      · exact h1
      · rcases List.mem_cons.1 h2 with h2 | h2
        · exact h2.symm
        · have := ha.1 y h2; have := hb.1 x h1; omega
    subst e
    congr 1
    refine sorted_ext ha.2 hb.2 fun z => ?_
    have hz := h z
    simp only [List.mem_cons] at hz
    constructor
    · intro hm
      rcases hz.1 (.inr hm) with rfl | h1
      · have := ha.1 z hm; omega
      · exact h1
    · intro hm
      rcases hz.2 (.inr hm) with rfl | h1
      · have := hb.1 z hm; omega
      · exact h1
/-- The numbers below i that are marked. -/
def wlL (bs : List Bool) : Nat → List Int
  | 0 => []
  | i + 1 => wlL bs i ++ if bs.getD i false = true then [(i : Int)] else []
theorem wlL_mem (bs : List Bool) (z : Int) : ∀ i, z ∈ wlL bs i ↔ ∃ j : Nat, j < i ∧ z = j ∧ bs.getD j false = true
  | 0 => by simp [wlL]
  | i + 1 => by
    rw [wlL, List.mem_append, wlL_mem bs z i]
    constructor
    · rintro (⟨j, hj, e, hb⟩ | h)
      · exact ⟨j, by omega, e, hb⟩
      · split at h
        · next hb => exact ⟨i, by omega, List.mem_singleton.1 h, hb⟩
        · cases h
    · rintro ⟨j, hj, e, hb⟩
      rcases Nat.lt_succ_iff_lt_or_eq.1 hj with h | rfl
      · exact .inl ⟨j, h, e, hb⟩
      · right; rw [if_pos hb]; simp [e]
theorem wlL_sorted (bs : List Bool) : ∀ i, (wlL bs i).Pairwise (· < ·)
  | 0 => List.Pairwise.nil
  | i + 1 => by
    rw [wlL, List.pairwise_append]
    refine ⟨wlL_sorted bs i, by split <;> simp, fun a ha b hb => ?_⟩
    obtain ⟨j, hj, e, _⟩ := (wlL_mem bs a i).1 ha
    split at hb
    · rw [List.mem_singleton.1 hb]; omega
    · cases hb
theorem wlL_len (bs : List Bool) : ∀ i, (wlL bs i).length ≤ i
  | 0 => Nat.le_refl _
  | i + 1 => by
    have := wlL_len bs i
    rw [wlL, List.length_append]
    split <;> simp <;> omega
/-- The marks of the duties among the first k states. -/
def Found (nn : Nat) (ns : List Nd) (ds : List Dv) (m : List Int) (i : Nat) (x : Dv) (k : Nat) (bs : List Bool) : Prop := bs.length = 5 ∧ ∀ j : Nat, j < 5 → (bs.getD j false = true ↔ ∃ s ∈ (allOf m).take k, dutyAt nn ns ds s i x = j)
section
variable {nn : Nat} {ns : List Nd} {ds : List Dv} {m : List Int} {i k : Nat} {x : Dv} {bs : List Bool} {s out : List Int}
theorem Found.start : Found nn ns ds m i x 0 [false, false, false, false, false] := ⟨rfl, fun j hj => by
  have : j = 0 ∨ j = 1 ∨ j = 2 ∨ j = 3 ∨ j = 4 := by omega
  rcases this with rfl | rfl | rfl | rfl | rfl <;> simp⟩
theorem Found.put (h : Found nn ns ds m i x k bs) (hs : (allOf m)[k]? = some s) {d : Nat} (hd : dutyAt nn ns ds s i x = d) (hd5 : d < 5) : Found nn ns ds m i x (k + 1) (bs.set d true) := by
  refine ⟨by simp [h.1], fun j hj => ?_⟩
  have hl := h.1
  rw [take_snoc hs, List.getD_eq_getElem?_getD, List.getElem?_set]
  have hold := h.2 j hj
  rw [List.getD_eq_getElem?_getD] at hold
  by_cases hdj : d = j
  · subst hdj
    rw [if_pos rfl, if_pos (by omega)]
    exact ⟨fun _ => ⟨s, by simp, hd⟩, fun _ => rfl⟩
  · rw [if_neg hdj, hold]
    constructor
    · rintro ⟨t, ht, e⟩; exact ⟨t, List.mem_append_left _ ht, e⟩
    · rintro ⟨t, ht, e⟩
      rcases List.mem_append.1 ht with h1 | h1
      · exact ⟨t, h1, e⟩
      · rw [List.mem_singleton.1 h1] at e; exact absurd (by omega) hdj
theorem over_found (h : OverL nn ns ds m i x out) (hf : Found nn ns ds m i x (allOf m).length bs) (hr : ∀ s, ∃ d : Nat, d < 5 ∧ dutyAt nn ns ds s i x = d) : out = wlL bs 5 := by
  refine sorted_ext ?_ (wlL_sorted _ _) fun z => ?_
  · exact (h.1.and h.2.1).imp (fun ⟨a, b⟩ => by have : _ ≠ _ := a; omega)
  · rw [h.2.2 z, wlL_mem]
    constructor
    · rintro ⟨s, hs, e⟩
      obtain ⟨d, hd, e2⟩ := hr s
      exact ⟨d, hd, by omega, (hf.2 d hd).2 ⟨s, by rw [List.take_length]; exact hs, e2⟩⟩
    · rintro ⟨j, hj, rfl, hb⟩
      obtain ⟨s, hs, e⟩ := (hf.2 j hj).1 hb
      exact ⟨s, List.mem_of_mem_take hs, e⟩
end
theorem duty_rng (nn : Nat) (ns : List Nd) (ds : List Dv) (s : List Int) (i : Int) (x : Dv) : ∃ d : Nat, d < 5 ∧ dutyAt nn ns ds s i x = d := by
  unfold dutyAt dutyV
  split
  · exact ⟨4, by omega, rfl⟩
  · split
    · exact ⟨3, by omega, rfl⟩
    · split
      · exact ⟨2, by omega, rfl⟩
      · split
        · exact ⟨1, by omega, rfl⟩
        · exact ⟨0, by omega, rfl⟩
theorem MadeNet.masks {nodes dmax : Int} {ns : List Nd} {ds : List Dv} (h : MadeNet nodes dmax ns ds) (hn : nodes ≤ 32) (hd : dmax ≤ 64) {m : List Int} (hl : m.length = ds.length) (hp : ∀ p ∈ m, maskB p = true) : maskErr ns ds m = 0 := by
  unfold maskErr
  rw [h.check hn hd, if_neg (by simp), if_neg (by omega), if_pos hp]
theorem five_of {bs : List Bool} (h : bs.length = 5) : ∃ b0 b1 b2 b3 b4, bs = [b0, b1, b2, b3, b4] := by
  match bs, h with
  | [b0, b1, b2, b3, b4], _ => exact ⟨b0, b1, b2, b3, b4, rfl⟩
theorem wl_pass {bs : List Bool} {j : Nat} (h : bs.getD j false = false) : wlL bs (j + 1) = wlL bs j := by rw [wlL, h]; simp
theorem wl_put {bs : List Bool} {j : Nat} (h : bs.getD j false = true) : wlL bs (j + 1) = wlL bs j ++ [(j : Int)] := by rw [wlL, if_pos h]
theorem agr_pos {m s : List Int} (h : AgrN m m.length s) (hm : ∀ p ∈ m, maskB p = true) : ∀ p ∈ s, posB p = true := by
  intro p hp
  obtain ⟨d, hd⟩ := List.mem_iff_getElem?.1 hp
  have hlt : d < m.length := by have := (List.getElem?_eq_some_iff.1 hd).1; rw [h.1] at this; exact this
  obtain ⟨h1, h2⟩ := h.2 d hlt
  have hmd : m[d]? = some (m[d]'hlt) := List.getElem?_eq_getElem hlt
  by_cases h3 : m[d]? = some 3
  · rcases h1 h3 with e | e <;> rw [hd] at e <;> injection e with e <;> subst e <;> rfl
  · have e := h2 h3
    rw [hd, List.getD_eq_getElem?_getD, hmd] at e
    injection e with e
    have := hm _ (List.getElem_mem hlt)
    have h4 : m[d]'hlt ≠ 3 := fun e => h3 (by rw [hmd, e])
    simp [maskB, posB] at *
    subst e
    omega
theorem own_past {w w' : World} {base n g size : Nat} {e : TypeId} {v : Value} {xs : List Value} (h : w.ownsRow base e size v n xs) (hg : w.grownBy w' (some g)) (hb : g < base) : w'.ownsRow base e size v n xs := h.kept hg (ne_row fun b e => by have := (h.lt b e).1; omega)
def boolV (bs : List Bool) : Array Value := (bs.map Value.bool).toArray
theorem boolV_set (bs : List Bool) (d : Nat) : (boolV bs).setIfInBounds d (.bool true) = boolV (bs.set d true) := by unfold boolV; simp [List.map_set]
theorem run_five0 (b0 b1 b2 b3 b4 : Bool) (w : World) : Sem.run Tryd.prog (Instr.index 54 (.agg #[.bool b0, .bool b1, .bool b2, .bool b3, .bool b4]) (.int .i64 0)) w = .ok (.bool b0) w := by kernel_rfl
theorem run_five1 (b0 b1 b2 b3 b4 : Bool) (w : World) : Sem.run Tryd.prog (Instr.index 54 (.agg #[.bool b0, .bool b1, .bool b2, .bool b3, .bool b4]) (.int .i64 1)) w = .ok (.bool b1) w := by kernel_rfl
theorem run_five2 (b0 b1 b2 b3 b4 : Bool) (w : World) : Sem.run Tryd.prog (Instr.index 54 (.agg #[.bool b0, .bool b1, .bool b2, .bool b3, .bool b4]) (.int .i64 2)) w = .ok (.bool b2) w := by kernel_rfl
theorem run_five3 (b0 b1 b2 b3 b4 : Bool) (w : World) : Sem.run Tryd.prog (Instr.index 54 (.agg #[.bool b0, .bool b1, .bool b2, .bool b3, .bool b4]) (.int .i64 3)) w = .ok (.bool b3) w := by kernel_rfl
theorem run_five4 (b0 b1 b2 b3 b4 : Bool) (w : World) : Sem.run Tryd.prog (Instr.index 54 (.agg #[.bool b0, .bool b1, .bool b2, .bool b3, .bool b4]) (.int .i64 4)) w = .ok (.bool b4) w := by kernel_rfl
def DoR (W : World) (bf nn : Nat) (ns : List Nd) (ds : List Dv) (m : List Int) (i : Nat) (x : Dv) (P gk : Nat) (iv : Value) (wr : World) : Prop := ∃ (k : Nat) (bs : List Bool), iv = .int .i64 k ∧ k ≤ P ∧ gk = P - k ∧ Hid (Blk wr bf 54 (boolV bs)) ∧ Hid (Found nn ns ds m i x k bs) ∧ Hid (Below bf W wr)
def DoR2 (W : World) (bs : List Bool) (gk : Nat) (ov iv : Value) (wr : World) : Prop := ∃ (j no co : Nat) (Ao : Option Addr), iv = .int .i64 j ∧ ov = .slice Ao no co ∧ j ≤ 5 ∧ gk = 5 - j ∧ no ≤ 5 ∧ Hid (IntsO wr W.heap.size Ao no co (wlL bs j)) ∧ Hid (Below W.heap.size W wr)
set_option maxRecDepth 100000 in
set_option maxHeartbeats 8000000 in
theorem walk_DutyOver (w : World) (hl : Laid w) (A : Option Addr) (n c : Nat) (zs : List Int) (hs : Sl w w.heap.size 1 A n c (intsV zs)) (_hz : ∀ z ∈ zs, (Lit.int .i64 z).wf = true) :
    Calls Tryd.prog 6 #[.slice A n c] w fun e w' => e = .returned (.bool true) ∧ Below w.heap.size w w' := by
  have hnm := hs.le
  have HL := Lib.hid hl; have HS := Lib.hid hs
  clear hl hs _hz
  have HF := Lib.hid (few_any A n c w (by omega))
  rcases hf : decide (n ≤ 400) with _ | _
  · rw [hf] at HF
    clear hf
    go_enter Tryd.func6, Tryd.ntmps6
    go_wp2_with fail
    refine HF.out.mono ?_
    rintro e w1 ⟨rfl, rfl⟩
    go_wp2_with fail
    refine (awake_any w HL.out).mono ?_
    rintro e w1 ⟨rfl, hb⟩
    go_wp2_with fail
    go_ret
    exact ⟨rfl, hb⟩
  rw [hf] at HF
  clear hf
  go_enter Tryd.func6, Tryd.ntmps6
  go_wp2_with fail
  refine HF.out.mono ?_
  rintro e w1 ⟨rfl, rfl⟩
  go_wp2_with fail
  refine (new_any A n c w.heap.size zs w HS.out (Nat.le_refl _)).mono ?_
  rintro e w1 ⟨rfl, hd1, hb1, hs1⟩
  go_wp2_with fail
  refine (mknet_any w.heap.size 6 9 w1 hd1.out (by decide) (by decide)).mono ?_
  rintro e w2 ⟨An, nn, cn, ns, Ad, nd, cd, ds, rfl, hd2, hg2, hrn, hrd, hmade⟩
  have hz1 := hs1.out
  have HB2 := Lib.hid (hb1.out.trans (below_of_grown hg2.out (Nat.le_refl _) (by omega)))
  have hgw : w.heap.size < w1.heap.size := by omega
  have hlt2 := hd2.out.lt
  go_wp2_with fail
  have HD3 := Lib.hid (hd2.out.alloc (.cells #[.slice An nn cn, .slice Ad nd cd] 30))
  have HRN3 := Lib.hid (hrn.out.alloc (.cells #[.slice An nn cn, .slice Ad nd cd] 30))
  have HRD3 := Lib.hid (hrd.out.alloc (.cells #[.slice An nn cn, .slice Ad nd cd] 30))
  have HNB3 := Lib.hid (Blk.new w2 30 #[.slice An nn cn, .slice Ad nd cd])
  have HB3 := Lib.hid (HB2.out.alloc HB2.out.size (.cells #[.slice An nn cn, .slice Ad nd cd] 30))
  have HMA := Lib.hid hmade.out
  have HNN := Lib.hid ((Sl.of_own hrn.out).len (fun _ => rfl) (by decide))
  have HND := Lib.hid ((Sl.of_own hrd.out).len (fun _ => rfl) (by decide))
  have hnd9 : nd ≤ 9 := by have := hmade.out.dm; rw [HND.out] at this; omega
  have hnd1 : 1 ≤ nd := by have := hmade.out.d1; rw [HND.out] at this; omega
  have hnn6 : nn ≤ 6 := by have := hmade.out.nm; rw [HNN.out] at this; omega
  have hw3z : (w2.alloc (.cells #[.slice An nn cn, .slice Ad nd cd] 30)).heap.size = w2.heap.size + 1 := by simp
  have HW3 := Lib.hid hw3z; clear hw3z
  clear hd1 hb1 hs1 hz1 hd2 hg2 hrn hrd hmade HB2
  generalize World.alloc _ _ = w3 at *
  obtain ⟨nb, hnb⟩ : ∃ nb, nb = w2.heap.size := ⟨_, rfl⟩
  rw [← hnb] at HNB3 HW3 ⊢
  have hnbw : w.heap.size < nb := by omega
  clear hnb
  refine (mkmasks_any w.heap.size An Ad nn cn nd cd 5 ds w3 HD3.out (SlX.of_own HRD3.out (by omega)) (by omega) (by omega)).mono ?_
  rintro e w5 ⟨As, cs, m, rfl, hd5, hg5, hO5, hmk, hcnt⟩
  have HNB5 := Lib.hid (HNB3.out.grown hg5.out (fun e => by injection e with e; omega))
  have HRN5 := Lib.hid (own_past HRN3.out hg5.out (by omega))
  have HRD5 := Lib.hid (own_past HRD3.out hg5.out (by omega))
  have HB5 := Lib.hid (HB3.out.trans (below_of_grown hg5.out (Nat.le_refl _) (by have := HB3.out.size; omega)))
  have hml : m.length = nd := hO5.out.len
  have hz3 := HW3.out
  clear HD3 HRN3 HRD3 HNB3 HB3 hg5
  go_wp2_with fail
  refine (next_any w.heap.size (nd : Int) w5 hd5.out (by omega)).mono ?_
  rintro e w6 ⟨v, rfl, hv0, _, hv1, hd6, hg6, hs6⟩
  have hvn := hv1.out (by omega)
  obtain ⟨i, rfl⟩ := Int.eq_ofNat_of_zero_le hv0
  have hin : i < nd := by omega
  have HNB6 := Lib.hid (HNB5.out.grown hg6.out (fun e => by injection e with e; omega))
  have HSN6 := Lib.hid (Sl.of_own (own_past HRN5.out hg6.out (by omega)))
  have HSD6 := Lib.hid (Sl.of_own (own_past HRD5.out hg6.out (by omega)))
  have HSM6 := Lib.hid (Sl.of_own (hO5.out.kept hg6.out (ne_row fun b e => by have := (hO5.out.lt b e).1; omega)))
  have HB6 := Lib.hid (HB5.out.trans (below_of_grown hg6.out (Nat.le_refl _) (by have := HB5.out.size; omega)))
  clear hz3 HW3 hd5 hd6 hg6 hs6 HNB5 HRN5 HRD5 HB5 hO5 hv1 hvn hv0 HS HF hgw hlt2
  obtain rfl : m.length = nd := hml
  obtain ⟨x, hx⟩ : ∃ x, ds[i]? = some x := ⟨_, List.getElem?_eq_getElem (by rw [HND.out]; exact hin)⟩
  have HX := Lib.hid hx
  have HNM := Lib.hid HMA.out.names
  have HEN := HMA.out.ends
  rw [HNN.out] at HEN
  replace HEN := Lib.hid HEN
  have HME := Lib.hid (HMA.out.masks (by decide) (by decide) (m := m) (by rw [HND.out]) hmk.out)
  have HCE : Hid (cErr m = 0) := by
    unfold Hid cErr
    rw [if_pos (List.all_eq_true.2 hmk.out), if_neg (by have := hcnt.out; omega)]
  clear hx
  have k0 : w6.cell? ⟨nb, 0, none⟩ = some (.slice An nn cn) := HNB6.out.cell 0
  have k1 : w6.cell? ⟨nb, 1, none⟩ = some (.slice Ad m.length cd) := HNB6.out.cell 1
  go_wp2_with fail
  clear k0 k1
  refine (Over_ok An Ad As nn cn m.length cd cs w6.heap.size w6.heap.size w6.heap.size i ns ds m x w6 (HL.out.below HB6.out (Nat.le_refl _)) HSN6.out (Nat.le_refl _) HSD6.out (Nat.le_refl _) HSM6.out (Nat.le_refl _) HNM.out.1 HNM.out.2 HME.out HCE.out (by omega) (by omega) (Nat.le_refl _) hin HX.out HEN.out.1 HEN.out.2.1).mono ?_
  rintro e w7 ⟨Av, kv, cv, out, rfl, hO7, hOV, hb7⟩
  have HB7 := Lib.hid (HB6.out.trans (hb7.out.mono HB6.out.size))
  go_wp2_with fail
  refine (rall_any As cs w6.heap.size m w7 (HSM6.out.below hb7.out (Nat.le_refl _)) hb7.out.size (by omega)).mono ?_
  rintro e w8 ⟨h | ⟨_, Al, P, cl, rfl, hra⟩, hb8⟩
  · exact absurd HCE.out h.1
  have HB8 := Lib.hid (HB7.out.trans (hb8.out.mono HB7.out.size))
  have HB68 := Lib.hid (hb7.out.trans (hb8.out.mono hb7.out.size))
  have HO8 := Lib.hid (hO7.out.later hb8.out)
  have hPl := hra.out.len
  have HPL := Lib.hid hPl
  have hPc := hra.out.le
  have hP : P ≤ 256 := by
    unfold allOf at hPl
    rw [allN_len] at hPl
    have := Nat.pow_le_pow_right (n := 2) (by decide) (cErr_zero HCE.out).2
    omega
  clear hO7 hb7 hb8 HB7 hPl
  go_wp2_with fail
  have HBF := Lib.hid (Blk.new w8 54 (boolV [false, false, false, false, false]))
  have HBW : Hid (Below w8.heap.size w8 (w8.alloc (.cells (boolV [false, false, false, false, false]) 54))) := (Below.refl _ _).alloc (Nat.le_refl _) _
  unfold boolV at HBF HBW
  simp only [List.map_cons, List.map_nil] at HBF HBW
  generalize World.alloc _ _ = w8' at *
  obtain ⟨bf, hbf⟩ : ∃ bf, bf = w8.heap.size := ⟨_, rfl⟩
  rw [← hbf] at HBF HBW ⊢
  have hbfw : w.heap.size ≤ bf := by have := HB8.out.size; omega
  have hbf6 : w6.heap.size ≤ bf := by have := HB68.out.size; omega
  have HBFE := Lib.hid hbf
  clear hbf
  go_loopg [48] P (DoR w8 bf nn ns ds m i x P)
  case atStart => exact ⟨0, [false, false, false, false, false], rfl, Nat.zero_le _, rfl, HBF, Found.start, HBW⟩
  case round =>
    clear HBF HBW
    obtain ⟨k, bs, rfl, hk, rfl, hbk, hfd, hbl⟩ := hrel
    obtain ⟨b0, b1, b2, b3, b4, rfl⟩ := five_of hfd.out.1
    have HBR := Lib.hid (HB8.out.trans (hbl.out.mono hbfw))
    have HBR6 := Lib.hid (HB68.out.trans (hbl.out.mono hbf6))
    have hzr := HBR6.out.size
    have hbfr : bf < wr.heap.size := hbk.out.lt
    by_cases hlt : k < P
    · obtain ⟨rb, ro, s, Ak, ck, rfl, hrb, hrs, hrc, hsl⟩ := (hra.out.below hbl.out (by have := HBFE.out; omega)).at hlt
      have HRS := Lib.hid hrs
      have HAG := Lib.hid ((mem_allN m m.length s).1 (List.mem_of_getElem? hrs))
      have hsl1 : s.length = m.length := HAG.out.1
      have hsl2 : m.length ≤ s.length := by omega
      have hsl3 : s.length ≤ 9 := by omega
      have HSE := Lib.hid (HMA.out.state (by decide) (by decide) (s := s) (by rw [hsl1, HND.out]) (agr_pos HAG.out hmk.out))
      have HKS := Lib.hid (hsl.more (B' := wr.heap.size) (by have := HBFE.out; omega))
      clear hrs hsl hsl1
      have HKR := Lib.hid (HNB6.out.below HBR6.out HNB6.out.lt)
      have k0 : wr.cell? ⟨nb, 0, none⟩ = some (.slice An nn cn) := HKR.out.cell 0
      have k1 : wr.cell? ⟨nb, 1, none⟩ = some (.slice Ad m.length cd) := HKR.out.cell 1
      go_wp2_with fail
      clear k0 k1 hrc
      refine (Of_ok An Ad Ak nn cn m.length cd s.length ck w6.heap.size w6.heap.size wr.heap.size i ns ds s x wr (HL.out.below HBR.out (Nat.le_refl _)) (HSN6.out.below HBR6.out (Nat.le_refl _)) hzr (HSD6.out.below HBR6.out (Nat.le_refl _)) hzr HKS.out (Nat.le_refl _) HNM.out.1 HNM.out.2 HSE.out (by omega) (by omega) hsl2 hin HX.out HEN.out.1 HEN.out.2.1).mono ?_
      rintro e w9 ⟨rfl, hb9⟩
      have HBK := Lib.hid (hbk.out.below hb9 hbfr)
      have HB9 := Lib.hid (hbl.out.trans (hb9.mono (Nat.le_of_lt hbfr)))
      clear hb9 hbk hbl HBR HBR6 HKS HKR hzr hbfr HSE HAG
      obtain ⟨d, hd5, hd⟩ := duty_rng nn ns ds s i x
      rcases (show d = 0 ∨ d = 1 ∨ d = 2 ∨ d = 3 ∨ d = 4 by omega) with rfl | rfl | rfl | rfl | rfl
      · have hdv : dutyAt nn ns ds s i x = (0 : Int) := hd
        have HFP := Lib.hid (hfd.out.put HRS.out hd (by decide))
        have HST := Lib.hid (HBK.out.set 0 (.bool true))
        rw [boolV_set] at HST
        have HBS := Lib.hid (HB9.out.setCell (p := ⟨bf, 0, none⟩) (by simp) (.bool true))
        rw [hdv]
        have cb : w9.cell? ⟨bf, 0, none⟩ = some (.bool b0) := HBK.out.cell 0
        have fb : w9.frozen? ⟨bf, 0, none⟩ = false := HBK.out.frozen 0
        clear hdv hd hfd HBK HB9
        go_wp2_with fail
        clear cb fb
        go_roundg (P - (k + 1))
        case rel => exact ⟨k + 1, _, by go_num, by omega, rfl, HST, HFP, HBS⟩
        case measure => omega
      · have hdv : dutyAt nn ns ds s i x = (1 : Int) := hd
        have HFP := Lib.hid (hfd.out.put HRS.out hd (by decide))
        have HST := Lib.hid (HBK.out.set 1 (.bool true))
        rw [boolV_set] at HST
        have HBS := Lib.hid (HB9.out.setCell (p := ⟨bf, 1, none⟩) (by simp) (.bool true))
        rw [hdv]
        have cb : w9.cell? ⟨bf, 1, none⟩ = some (.bool b1) := HBK.out.cell 1
        have fb : w9.frozen? ⟨bf, 1, none⟩ = false := HBK.out.frozen 1
        clear hdv hd hfd HBK HB9
        go_wp2_with fail
        clear cb fb
        go_roundg (P - (k + 1))
        case rel => exact ⟨k + 1, _, by go_num, by omega, rfl, HST, HFP, HBS⟩
        case measure => omega
      · have hdv : dutyAt nn ns ds s i x = (2 : Int) := hd
        have HFP := Lib.hid (hfd.out.put HRS.out hd (by decide))
        have HST := Lib.hid (HBK.out.set 2 (.bool true))
        rw [boolV_set] at HST
        have HBS := Lib.hid (HB9.out.setCell (p := ⟨bf, 2, none⟩) (by simp) (.bool true))
        rw [hdv]
        have cb : w9.cell? ⟨bf, 2, none⟩ = some (.bool b2) := HBK.out.cell 2
        have fb : w9.frozen? ⟨bf, 2, none⟩ = false := HBK.out.frozen 2
        clear hdv hd hfd HBK HB9
        go_wp2_with fail
        clear cb fb
        go_roundg (P - (k + 1))
        case rel => exact ⟨k + 1, _, by go_num, by omega, rfl, HST, HFP, HBS⟩
        case measure => omega
      · have hdv : dutyAt nn ns ds s i x = (3 : Int) := hd
        have HFP := Lib.hid (hfd.out.put HRS.out hd (by decide))
        have HST := Lib.hid (HBK.out.set 3 (.bool true))
        rw [boolV_set] at HST
        have HBS := Lib.hid (HB9.out.setCell (p := ⟨bf, 3, none⟩) (by simp) (.bool true))
        rw [hdv]
        have cb : w9.cell? ⟨bf, 3, none⟩ = some (.bool b3) := HBK.out.cell 3
        have fb : w9.frozen? ⟨bf, 3, none⟩ = false := HBK.out.frozen 3
        clear hdv hd hfd HBK HB9
        go_wp2_with fail
        clear cb fb
        go_roundg (P - (k + 1))
        case rel => exact ⟨k + 1, _, by go_num, by omega, rfl, HST, HFP, HBS⟩
        case measure => omega
      · have hdv : dutyAt nn ns ds s i x = (4 : Int) := hd
        have HFP := Lib.hid (hfd.out.put HRS.out hd (by decide))
        have HST := Lib.hid (HBK.out.set 4 (.bool true))
        rw [boolV_set] at HST
        have HBS := Lib.hid (HB9.out.setCell (p := ⟨bf, 4, none⟩) (by simp) (.bool true))
        rw [hdv]
        have cb : w9.cell? ⟨bf, 4, none⟩ = some (.bool b4) := HBK.out.cell 4
        have fb : w9.frozen? ⟨bf, 4, none⟩ = false := HBK.out.frozen 4
        clear hdv hd hfd HBK HB9
        go_wp2_with fail
        clear cb fb
        go_roundg (P - (k + 1))
        case rel => exact ⟨k + 1, _, by go_num, by omega, rfl, HST, HFP, HBS⟩
        case measure => omega
    · obtain rfl : k = P := by omega
      have hkk : decide (k < k) = false := by simp
      have c0 : wr.cell? ⟨bf, 0, none⟩ = some (.bool b0) := hbk.out.cell 0
      have c1 : wr.cell? ⟨bf, 1, none⟩ = some (.bool b1) := hbk.out.cell 1
      have c2 : wr.cell? ⟨bf, 2, none⟩ = some (.bool b2) := hbk.out.cell 2
      have c3 : wr.cell? ⟨bf, 3, none⟩ = some (.bool b3) := hbk.out.cell 3
      have c4 : wr.cell? ⟨bf, 4, none⟩ = some (.bool b4) := hbk.out.cell 4
      have HOE : Hid (out = wlL [b0, b1, b2, b3, b4] 5) := by
        refine over_found hOV.out ?_ (fun s => duty_rng nn ns ds s i x)
        rw [HPL.out]; exact hfd.out
      have HSO := Lib.hid (HO8.out.sl.below hbl.out (by have := HBFE.out; omega))
      clear hbk hfd hOV HBR6 hra hbl HO8 HSN6 HSD6 HSM6
      go_wp2_with fail
      clear c0 c1 c2 c3 c4 hkk
      generalize wr = W at *
      go_loopg [16, 73] 5 (DoR2 W [b0, b1, b2, b3, b4])
      case atStart => exact ⟨0, 0, 0, none, rfl, rfl, Nat.zero_le _, rfl, Nat.zero_le _, World.ownsRow_nil _ _ _ _, Below.refl _ _⟩
      case round =>
        obtain ⟨j, no, co, Ao, rfl, rfl, hj, rfl, hno, hO, hbl⟩ := hrel
        rcases (show j = 0 ∨ j = 1 ∨ j = 2 ∨ j = 3 ∨ j = 4 ∨ j = 5 by omega) with rfl | rfl | rfl | rfl | rfl | rfl
        · rcases b0 with _ | _
          · have HW := Lib.hid (wl_pass (bs := [false, b1, b2, b3, b4]) (j := 0) rfl)
            have hix := run_five0 false b1 b2 b3 b4 wr
            go_wp2_with fail
            go_roundg 4
            case rel => exact ⟨1, no, co, Ao, by go_num, rfl, by omega, rfl, hno, (by unfold Hid; rw [HW.out]; exact hO.out), hbl⟩
            case measure => omega
          · have HW := Lib.hid (wl_put (bs := [true, b1, b2, b3, b4]) (j := 0) rfl)
            have hix := run_five0 true b1 b2 b3 b4 wr
            go_wp2_with (at_builtin; go_must (refine wpList_app rfl (.tmp 78) (.tmp 80) rfl el_int (by rfl) (hO.out.alloc _) (by rfl) (Sl.newest (n := 1) (by simp) (by rfl) (by decide)) (by simp [Value.oneCell']) (by omega) (by omega) (by have := hbl.out.size; simp; omega) ?_; intro A' cap' w12 hown6 hgr6 hat6; have HO6 := Lib.hid hown6; have HG6 := Lib.hid hgr6; clear hown6 hgr6 hat6))
            go_roundg 4
            case rel =>
              refine ⟨1, no + 1, cap', A', by go_num, rfl, by omega, rfl, by have h1 := hO.out.len; have h2 := wlL_len [true, b1, b2, b3, b4] 0; omega, ?_, ?_⟩
              · unfold Hid; rw [HW.out]; unfold IntsO; rw [intsV_append]; exact HO6.out
              · have h1 := hbl.out.alloc hbl.out.size (.cells #[.int .i64 0] 3)
                exact h1.trans ⟨HG6.out.os, HG6.out.tape, HG6.out.output, HG6.out.size, fun q hq => HG6.out.block q (by have := h1.size; omega) (fun e => by have := (hO.out.lt q e.symm).1; omega)⟩
            case measure => omega
        · rcases b1 with _ | _
          · have HW := Lib.hid (wl_pass (bs := [b0, false, b2, b3, b4]) (j := 1) rfl)
            have hix := run_five1 b0 false b2 b3 b4 wr
            go_wp2_with fail
            go_roundg 3
            case rel => exact ⟨2, no, co, Ao, by go_num, rfl, by omega, rfl, hno, (by unfold Hid; rw [HW.out]; exact hO.out), hbl⟩
            case measure => omega
          · have HW := Lib.hid (wl_put (bs := [b0, true, b2, b3, b4]) (j := 1) rfl)
            have hix := run_five1 b0 true b2 b3 b4 wr
            go_wp2_with (at_builtin; go_must (refine wpList_app rfl (.tmp 78) (.tmp 80) rfl el_int (by rfl) (hO.out.alloc _) (by rfl) (Sl.newest (n := 1) (by simp) (by rfl) (by decide)) (by simp [Value.oneCell']) (by omega) (by omega) (by have := hbl.out.size; simp; omega) ?_; intro A' cap' w12 hown6 hgr6 hat6; have HO6 := Lib.hid hown6; have HG6 := Lib.hid hgr6; clear hown6 hgr6 hat6))
            go_roundg 3
            case rel =>
              refine ⟨2, no + 1, cap', A', by go_num, rfl, by omega, rfl, by have h1 := hO.out.len; have h2 := wlL_len [b0, true, b2, b3, b4] 1; omega, ?_, ?_⟩
              · unfold Hid; rw [HW.out]; unfold IntsO; rw [intsV_append]; exact HO6.out
              · have h1 := hbl.out.alloc hbl.out.size (.cells #[.int .i64 1] 3)
                exact h1.trans ⟨HG6.out.os, HG6.out.tape, HG6.out.output, HG6.out.size, fun q hq => HG6.out.block q (by have := h1.size; omega) (fun e => by have := (hO.out.lt q e.symm).1; omega)⟩
            case measure => omega
        · rcases b2 with _ | _
          · have HW := Lib.hid (wl_pass (bs := [b0, b1, false, b3, b4]) (j := 2) rfl)
            have hix := run_five2 b0 b1 false b3 b4 wr
            go_wp2_with fail
            go_roundg 2
            case rel => exact ⟨3, no, co, Ao, by go_num, rfl, by omega, rfl, hno, (by unfold Hid; rw [HW.out]; exact hO.out), hbl⟩
            case measure => omega
          · have HW := Lib.hid (wl_put (bs := [b0, b1, true, b3, b4]) (j := 2) rfl)
            have hix := run_five2 b0 b1 true b3 b4 wr
            go_wp2_with (at_builtin; go_must (refine wpList_app rfl (.tmp 78) (.tmp 80) rfl el_int (by rfl) (hO.out.alloc _) (by rfl) (Sl.newest (n := 1) (by simp) (by rfl) (by decide)) (by simp [Value.oneCell']) (by omega) (by omega) (by have := hbl.out.size; simp; omega) ?_; intro A' cap' w12 hown6 hgr6 hat6; have HO6 := Lib.hid hown6; have HG6 := Lib.hid hgr6; clear hown6 hgr6 hat6))
            go_roundg 2
            case rel =>
              refine ⟨3, no + 1, cap', A', by go_num, rfl, by omega, rfl, by have h1 := hO.out.len; have h2 := wlL_len [b0, b1, true, b3, b4] 2; omega, ?_, ?_⟩
              · unfold Hid; rw [HW.out]; unfold IntsO; rw [intsV_append]; exact HO6.out
              · have h1 := hbl.out.alloc hbl.out.size (.cells #[.int .i64 2] 3)
                exact h1.trans ⟨HG6.out.os, HG6.out.tape, HG6.out.output, HG6.out.size, fun q hq => HG6.out.block q (by have := h1.size; omega) (fun e => by have := (hO.out.lt q e.symm).1; omega)⟩
            case measure => omega
        · rcases b3 with _ | _
          · have HW := Lib.hid (wl_pass (bs := [b0, b1, b2, false, b4]) (j := 3) rfl)
            have hix := run_five3 b0 b1 b2 false b4 wr
            go_wp2_with fail
            go_roundg 1
            case rel => exact ⟨4, no, co, Ao, by go_num, rfl, by omega, rfl, hno, (by unfold Hid; rw [HW.out]; exact hO.out), hbl⟩
            case measure => omega
          · have HW := Lib.hid (wl_put (bs := [b0, b1, b2, true, b4]) (j := 3) rfl)
            have hix := run_five3 b0 b1 b2 true b4 wr
            go_wp2_with (at_builtin; go_must (refine wpList_app rfl (.tmp 78) (.tmp 80) rfl el_int (by rfl) (hO.out.alloc _) (by rfl) (Sl.newest (n := 1) (by simp) (by rfl) (by decide)) (by simp [Value.oneCell']) (by omega) (by omega) (by have := hbl.out.size; simp; omega) ?_; intro A' cap' w12 hown6 hgr6 hat6; have HO6 := Lib.hid hown6; have HG6 := Lib.hid hgr6; clear hown6 hgr6 hat6))
            go_roundg 1
            case rel =>
              refine ⟨4, no + 1, cap', A', by go_num, rfl, by omega, rfl, by have h1 := hO.out.len; have h2 := wlL_len [b0, b1, b2, true, b4] 3; omega, ?_, ?_⟩
              · unfold Hid; rw [HW.out]; unfold IntsO; rw [intsV_append]; exact HO6.out
              · have h1 := hbl.out.alloc hbl.out.size (.cells #[.int .i64 3] 3)
                exact h1.trans ⟨HG6.out.os, HG6.out.tape, HG6.out.output, HG6.out.size, fun q hq => HG6.out.block q (by have := h1.size; omega) (fun e => by have := (hO.out.lt q e.symm).1; omega)⟩
            case measure => omega
        · rcases b4 with _ | _
          · have HW := Lib.hid (wl_pass (bs := [b0, b1, b2, b3, false]) (j := 4) rfl)
            have hix := run_five4 b0 b1 b2 b3 false wr
            go_wp2_with fail
            go_roundg 0
            case rel => exact ⟨5, no, co, Ao, by go_num, rfl, by omega, rfl, hno, (by unfold Hid; rw [HW.out]; exact hO.out), hbl⟩
            case measure => omega
          · have HW := Lib.hid (wl_put (bs := [b0, b1, b2, b3, true]) (j := 4) rfl)
            have hix := run_five4 b0 b1 b2 b3 true wr
            go_wp2_with (at_builtin; go_must (refine wpList_app rfl (.tmp 78) (.tmp 80) rfl el_int (by rfl) (hO.out.alloc _) (by rfl) (Sl.newest (n := 1) (by simp) (by rfl) (by decide)) (by simp [Value.oneCell']) (by omega) (by omega) (by have := hbl.out.size; simp; omega) ?_; intro A' cap' w12 hown6 hgr6 hat6; have HO6 := Lib.hid hown6; have HG6 := Lib.hid hgr6; clear hown6 hgr6 hat6))
            go_roundg 0
            case rel =>
              refine ⟨5, no + 1, cap', A', by go_num, rfl, by omega, rfl, by have h1 := hO.out.len; have h2 := wlL_len [b0, b1, b2, b3, true] 4; omega, ?_, ?_⟩
              · unfold Hid; rw [HW.out]; unfold IntsO; rw [intsV_append]; exact HO6.out
              · have h1 := hbl.out.alloc hbl.out.size (.cells #[.int .i64 4] 3)
                exact h1.trans ⟨HG6.out.os, HG6.out.tape, HG6.out.output, HG6.out.size, fun q hq => HG6.out.block q (by have := h1.size; omega) (fun e => by have := (hO.out.lt q e.symm).1; omega)⟩
            case measure => omega
        · have HLr := Lib.hid (HL.out.below (HBR.out.trans (hbl.out.mono HBR.out.size)) (Nat.le_refl _))
          have hWz := hbl.out.size
          have HSO2 := Lib.hid (HSO.out.below hbl.out (by have := HBFE.out; omega))
          have HI := Lib.hid (ints_any Av Ao kv cv no co w8.heap.size wr.heap.size out (wlL [b0, b1, b2, b3, b4] 5) wr HSO2.out hO.out.sl (by have := HBFE.out; omega) (Nat.le_refl _))
          rw [← HOE.out, decide_eq_true rfl] at HI
          go_wp2_with fail
          refine HI.out.mono ?_
          rintro e w13 ⟨rfl, hb13⟩
          go_wp2_with fail
          refine (awake_any w13 (HLr.out.below hb13 (Nat.le_refl _))).mono ?_
          rintro e w14 ⟨rfl, hb14⟩
          go_wp2_with fail
          go_ret
          have h1 := HBR.out.trans (hbl.out.mono HBR.out.size)
          have h2 := h1.trans (hb13.mono h1.size)
          exact ⟨rfl, h2.trans (hb14.mono h2.size)⟩
end Go.Proofs.YtddjifkmaogpiaaDoor
