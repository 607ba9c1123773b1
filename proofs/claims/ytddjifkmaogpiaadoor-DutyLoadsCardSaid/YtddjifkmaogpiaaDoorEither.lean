/-
  The statement DutyEither: its walk.
-/
import Derived.Test.YtddjifkmaogpiaaDoorAwake
import Derived.Test.YtddjifkmaogpiaaDoorMadeP
import Derived.Test.YtddjifkmaogpiaaDoorMkSt
import Derived.Test.YtddjifkmaogpiaaDoorRef07J
namespace Go.Proofs.YtddjifkmaogpiaaDoor
open Go.RowKit
theorem withL_with (s : List Int) (i p q : Int) : withL (withL s i p) i q = withL s i q := by
  unfold withL
  by_cases h : 0 ≤ i ∧ i < s.length
  · rw [if_pos h, if_pos (by rw [List.length_set]; exact h), if_pos h, List.set_set]
  · rw [if_neg h, if_neg h]
theorem dutyAt_with (nn : Nat) (ns : List Nd) (ds : List Dv) (s : List Int) (i p : Int) (x : Dv) : dutyAt nn ns ds (withL s i p) i x = dutyAt nn ns ds s i x := by unfold dutyAt; rw [withL_with, withL_with]
theorem withL_pos {s : List Int} (h : ∀ p ∈ s, posB p = true) (i : Int) {q : Int} (hq : posB q = true) : ∀ p ∈ withL s i q, posB p = true := by
  intro p hp
  unfold withL at hp
  split at hp
  · rcases List.mem_or_eq_of_mem_set hp with h1 | h1
    · exact h p h1
    · rw [h1]; exact hq
  · exact h p hp
/-- A device whose ends are joined without it has nothing to do, or a fault. -/
theorem duty_joined {nn : Nat} {ns : List Nd} {ds : List Dv} {s : List Int} {i : Int} {x : Dv} (hj : joinsB x.kind = true) (h : ((partsOf nn ds (withL s i 1)).getD x.a.toNat 0 == (partsOf nn ds (withL s i 1)).getD x.b.toNat 0) = true) : dutyAt nn ns ds s i x = 0 ∨ dutyAt nn ns ds s i x = 4 := by
  have h4 : x.kind ≠ 4 := by intro e; rw [e] at hj; cases hj
  have hok : sOk x.kind x.a x.b (partsOf nn ds (withL s i 1)) = false := by unfold sOk; rw [if_neg h4, if_neg (by rw [hj]; simp), h]; rfl
  unfold dutyAt dutyV
  have hp : ∀ op, parB x.kind x.a x.b (partsOf nn ds (withL s i 1)) op = false := fun op => by unfold parB; rw [hok]; rfl
  have hd : ∀ op, dOk x.kind x.a x.b (partsOf nn ds (withL s i 1)) op = false := fun op => by unfold dOk; rw [hok]; rfl
  have hl : ∀ op, loadB x.kind x.a x.b ns (partsOf nn ds (withL s i 1)) op = false := fun op => by unfold loadB; rw [hd]; rfl
  rw [hp, hl, hd]
  split
  · exact .inr rfl
  · exact .inl (by simp)
theorem hrnk {w w' : World} {base n g size : Nat} {e : TypeId} {v : Value} {xs : List Value} (h : w.ownsRow base e size v n xs) (hg : w.grownBy w' (some g)) (hb : g < base) : w'.ownsRow base e size v n xs := h.kept hg (ne_row fun b e => by have := (h.lt b e).1; omega)
def LwR (w5 : World) (nd gk : Nat) (iv : Value) (wr : World) : Prop := ∃ i : Nat, iv = .int .i64 i ∧ i ≤ nd ∧ gk = nd - i ∧ Hid (Below w5.heap.size w5 wr)
set_option maxRecDepth 100000 in
set_option maxHeartbeats 8000000 in
theorem walk_DutyEither (w : World) (hl : Laid w) (A : Option Addr) (n c : Nat) (zs : List Int) (hs : Sl w w.heap.size 1 A n c (intsV zs)) (_hz : ∀ z ∈ zs, (Lit.int .i64 z).wf = true) :
    Calls Tryd.prog 3 #[.slice A n c] w fun e w' => e = .returned (.bool true) ∧ Below w.heap.size w w' := by
  have hnm := hs.le
  have HL := Lib.hid hl; have HS := Lib.hid hs
  clear hl hs _hz
  have HF := Lib.hid (few_any A n c w (by omega))
  rcases hf : decide (n ≤ 400) with _ | _
  · rw [hf] at HF
    clear hf
    go_enter Tryd.func3, Tryd.ntmps3
    go_wp2_with fail
    refine HF.out.mono ?_
    rintro e w1 ⟨rfl, rfl⟩
    go_wp2_with fail
    refine (awake_any w HL.out).mono ?_
    rintro e w1 ⟨rfl, hb⟩
    go_wp2_with fail
    go_ret
    exact ⟨rfl, hb⟩
  rw [hf] at HF
  clear hf
  go_enter Tryd.func3, Tryd.ntmps3
  go_wp2_with fail
  refine HF.out.mono ?_
  rintro e w1 ⟨rfl, rfl⟩
  go_wp2_with fail
  refine (new_any A n c w.heap.size zs w HS.out (Nat.le_refl _)).mono ?_
  rintro e w1 ⟨rfl, hd1, hb1, hs1⟩
  go_wp2_with fail
  refine (mknet_any w.heap.size 7 12 w1 hd1.out (by decide) (by decide)).mono ?_
  rintro e w2 ⟨An, nn, cn, ns, Ad, nd, cd, ds, rfl, hd2, hg2, hrn, hrd, hmade⟩
  have hz1 := hs1.out
  have HB2 := Lib.hid (hb1.out.trans (below_of_grown hg2.out (Nat.le_refl _) (by omega)))
  have hgw : w.heap.size < w1.heap.size := by omega
  have hlt2 := hd2.out.lt
  go_wp2_with fail
  have HD3 := Lib.hid (hd2.out.alloc (.cells #[.slice An nn cn, .slice Ad nd cd] 30))
  have HRN3 := Lib.hid (hrn.out.alloc (.cells #[.slice An nn cn, .slice Ad nd cd] 30))
  have HRD3 := Lib.hid (hrd.out.alloc (.cells #[.slice An nn cn, .slice Ad nd cd] 30))
  have HNB3 := Lib.hid (Blk.new w2 30 #[.slice An nn cn, .slice Ad nd cd])
  have HB3 := Lib.hid (HB2.out.alloc HB2.out.size (.cells #[.slice An nn cn, .slice Ad nd cd] 30))
  have HMA := Lib.hid hmade.out
  have HNN := Lib.hid ((Sl.of_own hrn.out).len (fun _ => rfl) (by decide))
  have HND := Lib.hid ((Sl.of_own hrd.out).len (fun _ => rfl) (by decide))
  have hnd12 : nd ≤ 12 := by have := hmade.out.dm; rw [HND.out] at this; omega
  have hnn7 : nn ≤ 7 := by have := hmade.out.nm; rw [HNN.out] at this; omega
  clear hd1 hb1 hs1 hz1 hd2 hg2 hrn hrd hmade HB2
  generalize World.alloc _ _ = w3 at *
  obtain ⟨nb, hnb⟩ : ∃ nb, nb = w2.heap.size := ⟨_, rfl⟩
  rw [← hnb] at HNB3 ⊢
  have hnbw : w.heap.size < nb := by omega
  clear hnb
  refine (mkstate_any w.heap.size An Ad nn cn nd cd ds w3 HD3.out (SlX.of_own HRD3.out (by omega)) (by omega)).mono ?_
  rintro e w5 ⟨As, cs, s, rfl, hd5, hg5, hO5, hpos⟩
  have HS5 := Lib.hid hO5.out
  have HB5 := Lib.hid (HB3.out.trans (below_of_grown hg5.out (Nat.le_refl _) (by have := HB3.out.size; omega)))
  have HN5 := Lib.hid (Sl.of_own (hrnk (HRN3.out) hg5.out (by omega)))
  have HD5 := Lib.hid (Sl.of_own (hrnk (HRD3.out) hg5.out (by omega)))
  have HNB5 := Lib.hid (HNB3.out.grown hg5.out (fun e => by injection e with e; omega))
  have HL5 := Lib.hid (HL.out.below HB5.out (Nat.le_refl _))
  have HLS := Lib.hid hO5.out.len
  have HNM := Lib.hid HMA.out.names
  have HEN := HMA.out.ends
  rw [HNN.out] at HEN
  replace HEN := Lib.hid HEN
  have HSE : Hid (∀ (i : Int) (q : Int), posB q = true → stateErr ns ds (withL s i q) = 0) := fun i q hq => HMA.out.state (by decide) (by decide) (by rw [withL_len, HLS.out, HND.out]) (withL_pos hpos.out i hq)
  clear hd5 hg5 hO5 hpos HD3 HRN3 HRD3 HNB3 HB3 HS HF HL
  clear hlt2 hgw
  go_wp2_with fail
  go_loopg [28] nd (LwR w5 nd)
  case atStart => exact ⟨0, rfl, Nat.zero_le _, rfl, Below.refl _ _⟩
  case round =>
    obtain ⟨i, rfl, hi, rfl, hbl⟩ := hrel
    by_cases hlt : i < nd; rotate_left
    · obtain rfl : i = nd := by omega
      have hii : decide (i < i) = false := by simp
      go_wp2_with fail
      refine (awake_any wr (HL5.out.below hbl.out (Nat.le_refl _))).mono ?_
      rintro e w6 ⟨rfl, hb6⟩
      go_wp2_with fail
      go_ret
      exact ⟨rfl, HB5.out.trans ((hbl.out.trans (hb6.mono hbl.out.size)).mono HB5.out.size)⟩
    have HNBr := Lib.hid (HNB5.out.below hbl.out HNB5.out.lt)
    obtain ⟨x, hx⟩ : ∃ x, ds[i]? = some x := ⟨_, List.getElem?_eq_getElem (by rw [HND.out]; exact hlt)⟩
    have HX := Lib.hid hx; clear hx
    obtain ⟨dv, hdv⟩ : ∃ dv, dutyAt nn ns ds s i x = dv := ⟨_, rfl⟩
    have HDV := Lib.hid hdv; clear hdv
    replace HSE := Lib.hid (HSE.out i)
    go_upto_region 9 with (fail)
    refine wp_region_J (S := fun W' => Blk W' nb 30 #[.slice An nn cn, .slice Ad nd cd]) (J := []) (by kernel_rfl) ?_ (fun hHeld => ?_)
    · exact HNBr.out
    try dsimp only at hHeld
    refine wpAnyJ_takeL (i := 0) (d := some 32) (v := ?_) #[true, false, false, false, false, false, false, false, false, false, false] (by kernel_rfl) rfl rfl (by kernel_rfl) (by kernel_rfl) (by kernel_rfl) (by kernel_rfl) (by kernel_rfl) (fun _ _ _ h => h) (Or.inl ⟨by rfl, ?_⟩) hHeld ?_
    rotate_left
    · (intro w hSw; (try dsimp only at hSw); have k0 : w.cell? ⟨nb, 0, none⟩ = some (.slice An nn cn) := hSw.cell 0; have k1 : w.cell? ⟨nb, 1, none⟩ = some (.slice Ad nd cd) := hSw.cell 1; clear hSw; go_simp; try with_reducible rfl)
    try simp only [Act.put, List.setIfInBounds_toArray, List.set_cons_zero, List.set_cons_succ]
    refine wpAnyJ_takeL (i := 1) (d := some 33) (v := ?_) #[true, true, false, false, false, false, false, false, false, false, false] (by kernel_rfl) rfl rfl (by kernel_rfl) (by kernel_rfl) (by kernel_rfl) (by kernel_rfl) (by kernel_rfl) (fun _ _ _ h => h) (Or.inl ⟨by rfl, ?_⟩) hHeld ?_
    rotate_left
    · (intro w hSw; (try dsimp only at hSw); clear hSw; go_simp; try with_reducible rfl)
    try simp only [Act.put, List.setIfInBounds_toArray, List.set_cons_zero, List.set_cons_succ]
    refine wpAnyJ_takeL (i := 2) (d := some 34) (v := ?_) #[true, true, true, false, false, false, false, false, false, false, false] (by kernel_rfl) rfl rfl (by kernel_rfl) (by kernel_rfl) (by kernel_rfl) (by kernel_rfl) (by kernel_rfl) (fun _ _ _ h => h) (Or.inl ⟨by rfl, ?_⟩) hHeld ?_
    rotate_left
    · (intro w hSw; (try dsimp only at hSw); clear hSw; go_simp; try with_reducible rfl)
    try simp only [Act.put, List.setIfInBounds_toArray, List.set_cons_zero, List.set_cons_succ]
    refine wpAnyJ_takeL (i := 4) (d := some 36) (v := ?_) #[true, true, true, false, true, false, false, false, false, false, false] (by kernel_rfl) rfl rfl (by kernel_rfl) (by kernel_rfl) (by kernel_rfl) (by kernel_rfl) (by kernel_rfl) (fun _ _ _ h => h) (Or.inl ⟨by rfl, ?_⟩) hHeld ?_
    rotate_left
    · (intro w hSw; (try dsimp only at hSw); clear hSw; go_simp; try with_reducible rfl)
    try simp only [Act.put, List.setIfInBounds_toArray, List.set_cons_zero, List.set_cons_succ]
    refine wpAnyJ_oneL (k := 3) #[true, true, true, true, true, false, false, false, false, false, false] (by kernel_rfl) (by kernel_rfl) rfl (fun K hK => ?_)
    (go_simp; refine (with_any As nd cs w5.heap.size s i 1 wr.drew (HS5.out.sl.below hbl.out.drew (Nat.le_refl _)) (by have := hbl.out.size; simp at this ⊢; omega) (by omega)).mono ?_; rintro e wxA ⟨AwA, cwA, rfl, hOA, hbA⟩; go_simp)
    refine hK.out _ _ (fun _ => ?_) (fun hHeld' => ?_)
    · exact hHeld.below hbA.out hHeld.lt
    replace hHeld := hHeld' rfl
    clear hHeld' hK K
    try dsimp only at hHeld
    have HB3A := Lib.hid (hbl.out.drew.trans (hbA.out.mono hbl.out.drew.size))
    rw [withL_len, HLS.out] at hOA ⊢
    have HCA := Lib.hid (Of_ok An Ad AwA nn cn nd cd nd cwA w5.heap.size w5.heap.size wxA.heap.size i ns ds (withL s i 1) x wxA (HL5.out.below HB3A.out (Nat.le_refl _)) (HN5.out.below HB3A.out (Nat.le_refl _)) HB3A.out.size (HD5.out.below HB3A.out (Nat.le_refl _)) HB3A.out.size hOA.out.sl (Nat.le_refl _) HNM.out.1 HNM.out.2 (HSE.out 1 rfl) (by omega) (by omega) (Nat.le_refl _) hlt HX.out HEN.out.1 HEN.out.2.1)
    rw [dutyAt_with, HDV.out] at HCA
    refine wpAnyJ_oneL (k := 5) #[true, true, true, true, true, true, false, false, false, false, false] (by kernel_rfl) (by kernel_rfl) rfl (fun K hK => ?_)
    (go_simp; refine HCA.out.mono ?_; rintro e wyA ⟨rfl, hbbA⟩; go_simp)
    refine hK.out _ _ (fun _ => ?_) (fun hHeld' => ?_)
    · exact hHeld.below hbbA hHeld.lt
    replace hHeld := hHeld' rfl
    clear hHeld' hK K
    try dsimp only at hHeld
    have HB4A := Lib.hid (HB3A.out.trans (hbbA.mono HB3A.out.size))
    clear hOA hbA hbbA HCA HB3A
    refine wpAnyJ_takeL (i := 6) (d := some 31) (v := ?_) #[true, true, true, true, true, true, true, false, false, false, false] (by kernel_rfl) rfl rfl (by kernel_rfl) (by kernel_rfl) (by kernel_rfl) (by kernel_rfl) (by kernel_rfl) (fun _ _ _ h => h) (Or.inl ⟨by rfl, ?_⟩) hHeld ?_
    rotate_left
    · (intro w hSw; (try dsimp only at hSw); clear hSw; go_simp; try with_reducible rfl)
    try simp only [Act.put, List.setIfInBounds_toArray, List.set_cons_zero, List.set_cons_succ]
    refine wpAnyJ_takeL (i := 7) (d := some 38) (v := ?_) #[true, true, true, true, true, true, true, true, false, false, false] (by kernel_rfl) rfl rfl (by kernel_rfl) (by kernel_rfl) (by kernel_rfl) (by kernel_rfl) (by kernel_rfl) (fun _ _ _ h => h) (Or.inl ⟨by rfl, ?_⟩) hHeld ?_
    rotate_left
    · (intro w hSw; (try dsimp only at hSw); clear hSw; go_simp; try with_reducible rfl)
    try simp only [Act.put, List.setIfInBounds_toArray, List.set_cons_zero, List.set_cons_succ]
    refine wpAnyJ_takeL (i := 8) (d := some 39) (v := ?_) #[true, true, true, true, true, true, true, true, true, false, false] (by kernel_rfl) rfl rfl (by kernel_rfl) (by kernel_rfl) (by kernel_rfl) (by kernel_rfl) (by kernel_rfl) (fun _ _ _ h => h) (Or.inl ⟨by rfl, ?_⟩) hHeld ?_
    rotate_left
    · (intro w hSw; (try dsimp only at hSw); clear hSw; go_simp; try with_reducible rfl)
    try simp only [Act.put, List.setIfInBounds_toArray, List.set_cons_zero, List.set_cons_succ]
    refine wpAnyJ_takeL (i := 9) (d := some 7) (v := ?_) #[true, true, true, true, true, true, true, true, true, true, false] (by kernel_rfl) rfl rfl (by kernel_rfl) (by kernel_rfl) (by kernel_rfl) (by kernel_rfl) (by kernel_rfl) (fun _ _ _ h => h) (Or.inl ⟨by rfl, ?_⟩) hHeld ?_
    rotate_left
    · (intro w hSw; (try dsimp only at hSw); clear hSw; go_simp; try with_reducible rfl)
    try simp only [Act.put, List.setIfInBounds_toArray, List.set_cons_zero, List.set_cons_succ]
    refine wpAnyJ_takeL (i := 10) (d := some 8) (v := ?_) #[true, true, true, true, true, true, true, true, true, true, true] (by kernel_rfl) rfl rfl (by kernel_rfl) (by kernel_rfl) (by kernel_rfl) (by kernel_rfl) (by kernel_rfl) (fun _ _ _ h => h) (Or.inl ⟨by rfl, ?_⟩) hHeld ?_
    rotate_left
    · (intro w hSw; (try dsimp only at hSw); clear hSw; go_simp; try with_reducible rfl)
    try simp only [Act.put, List.setIfInBounds_toArray, List.set_cons_zero, List.set_cons_succ]
    refine wpAnyJ_done (by kernel_rfl) ?_ _
    have HK2 := Lib.hid hHeld
    clear hHeld
    go_upto_region 10 with (fail)
    refine wp_region_J (S := fun W' => Blk W' nb 30 #[.slice An nn cn, .slice Ad nd cd]) (J := []) (by kernel_rfl) ?_ (fun hHeld => ?_)
    · exact HK2.out
    try dsimp only at hHeld
    refine wpAnyJ_takeL (i := 0) (d := some 41) (v := ?_) #[true, false, false, false, false, false, false, false, false, false, false] (by kernel_rfl) rfl rfl (by kernel_rfl) (by kernel_rfl) (by kernel_rfl) (by kernel_rfl) (by kernel_rfl) (fun _ _ _ h => h) (Or.inl ⟨by rfl, ?_⟩) hHeld ?_
    rotate_left
    · (intro w hSw; (try dsimp only at hSw); have k0 : w.cell? ⟨nb, 0, none⟩ = some (.slice An nn cn) := hSw.cell 0; have k1 : w.cell? ⟨nb, 1, none⟩ = some (.slice Ad nd cd) := hSw.cell 1; clear hSw; go_simp; try with_reducible rfl)
    try simp only [Act.put, List.setIfInBounds_toArray, List.set_cons_zero, List.set_cons_succ]
    refine wpAnyJ_takeL (i := 1) (d := some 42) (v := ?_) #[true, true, false, false, false, false, false, false, false, false, false] (by kernel_rfl) rfl rfl (by kernel_rfl) (by kernel_rfl) (by kernel_rfl) (by kernel_rfl) (by kernel_rfl) (fun _ _ _ h => h) (Or.inl ⟨by rfl, ?_⟩) hHeld ?_
    rotate_left
    · (intro w hSw; (try dsimp only at hSw); clear hSw; go_simp; try with_reducible rfl)
    try simp only [Act.put, List.setIfInBounds_toArray, List.set_cons_zero, List.set_cons_succ]
    refine wpAnyJ_takeL (i := 2) (d := some 43) (v := ?_) #[true, true, true, false, false, false, false, false, false, false, false] (by kernel_rfl) rfl rfl (by kernel_rfl) (by kernel_rfl) (by kernel_rfl) (by kernel_rfl) (by kernel_rfl) (fun _ _ _ h => h) (Or.inl ⟨by rfl, ?_⟩) hHeld ?_
    rotate_left
    · (intro w hSw; (try dsimp only at hSw); clear hSw; go_simp; try with_reducible rfl)
    try simp only [Act.put, List.setIfInBounds_toArray, List.set_cons_zero, List.set_cons_succ]
    refine wpAnyJ_takeL (i := 4) (d := some 45) (v := ?_) #[true, true, true, false, true, false, false, false, false, false, false] (by kernel_rfl) rfl rfl (by kernel_rfl) (by kernel_rfl) (by kernel_rfl) (by kernel_rfl) (by kernel_rfl) (fun _ _ _ h => h) (Or.inl ⟨by rfl, ?_⟩) hHeld ?_
    rotate_left
    · (intro w hSw; (try dsimp only at hSw); clear hSw; go_simp; try with_reducible rfl)
    try simp only [Act.put, List.setIfInBounds_toArray, List.set_cons_zero, List.set_cons_succ]
    refine wpAnyJ_oneL (k := 3) #[true, true, true, true, true, false, false, false, false, false, false] (by kernel_rfl) (by kernel_rfl) rfl (fun K hK => ?_)
    (go_simp; refine (with_any As nd cs w5.heap.size s i 2 wyA.drew (HS5.out.sl.below HB4A.out.drew (Nat.le_refl _)) (by have := HB4A.out.size; simp at this ⊢; omega) (by omega)).mono ?_; rintro e wxB ⟨AwB, cwB, rfl, hOB, hbB⟩; go_simp)
    refine hK.out _ _ (fun _ => ?_) (fun hHeld' => ?_)
    · exact hHeld.below hbB.out hHeld.lt
    replace hHeld := hHeld' rfl
    clear hHeld' hK K
    try dsimp only at hHeld
    have HB3B := Lib.hid (HB4A.out.drew.trans (hbB.out.mono HB4A.out.drew.size))
    rw [withL_len, HLS.out] at hOB ⊢
    have HCB := Lib.hid (Of_ok An Ad AwB nn cn nd cd nd cwB w5.heap.size w5.heap.size wxB.heap.size i ns ds (withL s i 2) x wxB (HL5.out.below HB3B.out (Nat.le_refl _)) (HN5.out.below HB3B.out (Nat.le_refl _)) HB3B.out.size (HD5.out.below HB3B.out (Nat.le_refl _)) HB3B.out.size hOB.out.sl (Nat.le_refl _) HNM.out.1 HNM.out.2 (HSE.out 2 rfl) (by omega) (by omega) (Nat.le_refl _) hlt HX.out HEN.out.1 HEN.out.2.1)
    rw [dutyAt_with, HDV.out] at HCB
    refine wpAnyJ_oneL (k := 5) #[true, true, true, true, true, true, false, false, false, false, false] (by kernel_rfl) (by kernel_rfl) rfl (fun K hK => ?_)
    (go_simp; refine HCB.out.mono ?_; rintro e wyB ⟨rfl, hbbB⟩; go_simp)
    refine hK.out _ _ (fun _ => ?_) (fun hHeld' => ?_)
    · exact hHeld.below hbbB hHeld.lt
    replace hHeld := hHeld' rfl
    clear hHeld' hK K
    try dsimp only at hHeld
    have HB4B := Lib.hid (HB3B.out.trans (hbbB.mono HB3B.out.size))
    clear hOB hbB hbbB HCB HB3B
    refine wpAnyJ_takeL (i := 6) (d := some 40) (v := ?_) #[true, true, true, true, true, true, true, false, false, false, false] (by kernel_rfl) rfl rfl (by kernel_rfl) (by kernel_rfl) (by kernel_rfl) (by kernel_rfl) (by kernel_rfl) (fun _ _ _ h => h) (Or.inl ⟨by rfl, ?_⟩) hHeld ?_
    rotate_left
    · (intro w hSw; (try dsimp only at hSw); clear hSw; go_simp; try with_reducible rfl)
    try simp only [Act.put, List.setIfInBounds_toArray, List.set_cons_zero, List.set_cons_succ]
    refine wpAnyJ_takeL (i := 7) (d := some 47) (v := ?_) #[true, true, true, true, true, true, true, true, false, false, false] (by kernel_rfl) rfl rfl (by kernel_rfl) (by kernel_rfl) (by kernel_rfl) (by kernel_rfl) (by kernel_rfl) (fun _ _ _ h => h) (Or.inl ⟨by rfl, ?_⟩) hHeld ?_
    rotate_left
    · (intro w hSw; (try dsimp only at hSw); clear hSw; go_simp; try with_reducible rfl)
    try simp only [Act.put, List.setIfInBounds_toArray, List.set_cons_zero, List.set_cons_succ]
    refine wpAnyJ_takeL (i := 8) (d := some 48) (v := ?_) #[true, true, true, true, true, true, true, true, true, false, false] (by kernel_rfl) rfl rfl (by kernel_rfl) (by kernel_rfl) (by kernel_rfl) (by kernel_rfl) (by kernel_rfl) (fun _ _ _ h => h) (Or.inl ⟨by rfl, ?_⟩) hHeld ?_
    rotate_left
    · (intro w hSw; (try dsimp only at hSw); clear hSw; go_simp; try with_reducible rfl)
    try simp only [Act.put, List.setIfInBounds_toArray, List.set_cons_zero, List.set_cons_succ]
    refine wpAnyJ_takeL (i := 9) (d := some 9) (v := ?_) #[true, true, true, true, true, true, true, true, true, true, false] (by kernel_rfl) rfl rfl (by kernel_rfl) (by kernel_rfl) (by kernel_rfl) (by kernel_rfl) (by kernel_rfl) (fun _ _ _ h => h) (Or.inl ⟨by rfl, ?_⟩) hHeld ?_
    rotate_left
    · (intro w hSw; (try dsimp only at hSw); clear hSw; go_simp; try with_reducible rfl)
    try simp only [Act.put, List.setIfInBounds_toArray, List.set_cons_zero, List.set_cons_succ]
    refine wpAnyJ_takeL (i := 10) (d := some 10) (v := ?_) #[true, true, true, true, true, true, true, true, true, true, true] (by kernel_rfl) rfl rfl (by kernel_rfl) (by kernel_rfl) (by kernel_rfl) (by kernel_rfl) (by kernel_rfl) (fun _ _ _ h => h) (Or.inl ⟨by rfl, ?_⟩) hHeld ?_
    rotate_left
    · (intro w hSw; (try dsimp only at hSw); clear hSw; go_simp; try with_reducible rfl)
    try simp only [Act.put, List.setIfInBounds_toArray, List.set_cons_zero, List.set_cons_succ]
    refine wpAnyJ_done (by kernel_rfl) ?_ _
    have HK3 := Lib.hid hHeld
    clear hHeld
    clear HNBr HK2 HB4A hbl
    obtain ⟨b0, off, x', rfl, hb0, hx', hc⟩ := (HD5.out.below HB4B.out (Nat.le_refl _)).at (fun _ => rfl) (by decide) hlt
    obtain rfl : x = x' := by have := HX.out; rw [hx'] at this; exact (Option.some.inj this).symm
    have hxe := HEN.out.1 x (List.mem_of_getElem? hx')
    obtain ⟨nm, kd, xa, xb, co⟩ := x
    simp only at hxe
    have HXE := Lib.hid hxe
    have c0 : wyB.cell? ⟨b0, off + i * 5, none⟩ = some (.string nm) := hc 0 _ rfl
    have c1 : wyB.cell? ⟨b0, off + i * 5 + 1, none⟩ = some (.int .i64 kd) := hc 1 _ rfl
    have c2 : wyB.cell? ⟨b0, off + i * 5 + 2, none⟩ = some (.int .i64 xa) := hc 2 _ rfl
    have c3 : wyB.cell? ⟨b0, off + i * 5 + 3, none⟩ = some (.int .i64 xb) := hc 3 _ rfl
    have c4 : wyB.cell? ⟨b0, off + i * 5 + 4, none⟩ = some (.int .i64 co) := hc 4 _ rfl
    have k1 : wyB.cell? ⟨nb, 1, none⟩ = some (.slice (some ⟨b0, off, none⟩) nd cd) := HK3.out.cell 1
    clear hc hx' hxe
    have qdv : (dv != dv) = false := by simp
    go_upto_region 14 with (fail)
    clear c0 c1 c2 c3 c4 k1 qdv
    have HKD := Lib.hid (Blk.new wyB 38 #[.string nm, .int .i64 kd, .int .i64 xa, .int .i64 xb, .int .i64 co])
    have HB6 := Lib.hid (HB4B.out.alloc HB4B.out.size (.cells #[.string nm, .int .i64 kd, .int .i64 xa, .int .i64 xb, .int .i64 co] 38))
    have HNB6 := Lib.hid (HK3.out.alloc (.cells #[.string nm, .int .i64 kd, .int .i64 xa, .int .i64 xb, .int .i64 co] 38))
    generalize World.alloc _ _ = w6 at *
    obtain ⟨bq, hbq⟩ : ∃ bq, bq = wyB.heap.size := ⟨_, rfl⟩
    rw [← hbq] at HKD ⊢
    clear hbq HB4B HK3
    have e1 : w6.cell? ⟨bq, 1, none⟩ = some (.int .i64 kd) := HKD.out.cell 1
    have HJ2 := Lib.hid (rjoins_any kd)
    rcases hj : joinsB kd with _ | _
    · rw [hj] at HJ2
      clear hj
      go_wp2_with fail
      refine (HJ2.out _).mono ?_
      rintro e w7 ⟨rfl, rfl⟩
      go_wp2_with fail
      go_roundg (nd - (i + 1))
      case rel => exact ⟨i + 1, by go_num, by omega, rfl, HB6⟩
      case measure => omega
    have HJK := Lib.hid hj
    have hxe := HXE.out hj
    rw [hj] at HJ2
    clear hj HXE
    obtain ⟨ka, rfl⟩ := Int.eq_ofNat_of_zero_le hxe.1.1
    obtain ⟨kb, rfl⟩ := Int.eq_ofNat_of_zero_le hxe.2.1
    have hka : ka < nn := by omega
    have hkb : kb < nn := by omega
    clear hxe
    go_wp2_with fail
    refine (HJ2.out _).mono ?_
    rintro e w7 ⟨rfl, rfl⟩
    clear e1
    have HSR := Lib.hid (HS5.out.sl.below HB6.out (Nat.le_refl _))
    have hnbl := HNB6.out.lt
    have hbql := HKD.out.lt
    go_upto_region 17 with (at_builtin; go_must (refine wpList_app rfl _ (.tmp 69) rfl el_int (by rfl) (World.ownsRow_nil _ w6.heap.size _ _) (by rfl) HSR.out (ints_one s) (by omega) (by omega) (Nat.le_refl _) ?_; intro Ao co2 w8 hown8 hgr8 hat8; simp only [Nat.zero_add, List.nil_append] at hown8 hgr8 ⊢; have hO8 : IntsO w8 w6.heap.size Ao nd co2 s := hown8; obtain ⟨go, y, rfl, hg1, hg2, hy, hcell, hfz, hset⟩ := hO8.at hlt; have HSET := Lib.hid (hset 1); have HB8 : Hid (Below w6.heap.size w6 w8) := ⟨hgr8.os, hgr8.tape, hgr8.output, hgr8.size, fun i hi => hgr8.block i hi (by simp [Value.ownBlock])⟩; clear hown8 hgr8 hat8 hO8 hset hy))
    clear hcell hfz
    have HB9 := Lib.hid (HB8.out.setCell (p := ⟨go, i, none⟩) hg1 (.int .i64 1))
    generalize World.setCell _ _ _ = w9 at *
    have HNB9 := Lib.hid (HNB6.out.below HB9.out HNB6.out.lt)
    have HKD9 := Lib.hid (HKD.out.below HB9.out HKD.out.lt)
    have HB59 := Lib.hid (HB6.out.trans (HB9.out.mono HB6.out.size))
    have k0 : w9.cell? ⟨nb, 0, none⟩ = some (.slice An nn cn) := HNB9.out.cell 0
    have k1 : w9.cell? ⟨nb, 1, none⟩ = some (.slice (some ⟨b0, off, none⟩) nd cd) := HNB9.out.cell 1
    have e2 : w9.cell? ⟨bq, 2, none⟩ = some (.int .i64 ka) := HKD9.out.cell 2
    have e3 : w9.cell? ⟨bq, 3, none⟩ = some (.int .i64 kb) := HKD9.out.cell 3
    have hw1 : withL s i 1 = s.set i 1 := by unfold withL; rw [if_pos (by rw [HLS.out]; omega)]; rfl
    have HJC := Lib.hid (joined_ok An (some ⟨b0, off, none⟩) (some ⟨go, 0, none⟩) nn cn nd cd nd co2 w5.heap.size w5.heap.size w9.heap.size ka kb ns ds (s.set i 1) w9 (HN5.out.below HB59.out (Nat.le_refl _)) HB59.out.size (HD5.out.below HB59.out (Nat.le_refl _)) HB59.out.size HSET.out.sl (Nat.le_refl _) HNM.out.1 HNM.out.2 (by rw [← hw1]; exact HSE.out 1 rfl) (by omega) (Nat.le_refl _) HEN.out.1 HEN.out.2.2 hka hkb)
    have HDJ : Hid (((partsOf nn ds (s.set i 1)).getD ka 0 == (partsOf nn ds (s.set i 1)).getD kb 0) = true → dv = 0 ∨ dv = 4) := fun h => by
      rw [← HDV.out]
      exact duty_joined HJK.out (by rw [hw1]; exact h)
    clear hw1
    go_wp2_with fail
    clear k0 k1 e2 e3
    refine HJC.out.mono ?_
    rintro e w10 ⟨rfl, hb10⟩
    have HB10 := Lib.hid (HB59.out.trans (hb10.mono HB59.out.size))
    clear hb10 HJC HB59 HB9 HB8 HNB9 HKD9 HSET
    rcases hjb : ((partsOf nn ds (s.set i 1)).getD ka 0 == (partsOf nn ds (s.set i 1)).getD kb 0) with _ | _
    · clear HDJ
      go_wp2_with fail
      go_roundg (nd - (i + 1))
      case rel => exact ⟨i + 1, by go_num, by omega, rfl, HB10⟩
      case measure => omega
    · have hd := HDJ.out hjb
      clear HDJ hjb HDV
      rcases hd with rfl | rfl
      · go_wp2_with fail
        go_roundg (nd - (i + 1))
        case rel => exact ⟨i + 1, by go_num, by omega, rfl, HB10⟩
        case measure => omega
      · go_wp2_with fail
        go_roundg (nd - (i + 1))
        case rel => exact ⟨i + 1, by go_num, by omega, rfl, HB10⟩
        case measure => omega
end Go.Proofs.YtddjifkmaogpiaaDoor
