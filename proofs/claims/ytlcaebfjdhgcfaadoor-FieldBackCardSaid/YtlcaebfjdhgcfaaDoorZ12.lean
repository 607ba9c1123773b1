import Derived.Test.YtlcaebfjdhgcfaaDoorZ11
/-
  The program's layer 14: walk of Check.
-/
namespace Go.Proofs.YtlcaebfjdhgcfaaDoor
open Go.RowKit
theorem below_grow {w w' : World} (h : ∃ q os, w' = Go.Sort.grow (w.drewN q) os) : Below w.heap.size w w' := by
  obtain ⟨q, os, rfl⟩ := h
  exact ⟨rfl, rfl, rfl, by simp [Go.Sort.grow, World.drewN], fun i hi => by simp only [Go.Sort.grow, World.drewN]; rw [Array.getElem?_append_left hi]⟩
/-- The memory of the call: its box. -/
structure PcSt (w : World) (N : Array Value) (wr : World) : Prop where
  bn : Blk wr w.heap.size 30 N
  bl : Below w.heap.size w wr
theorem PcSt.later {w wr wr' : World} {N : Array Value} (h : PcSt w N wr) (hb : Below wr.heap.size wr wr') : PcSt w N wr' := ⟨h.bn.below hb h.bn.lt, h.bl.trans (hb.mono h.bl.size)⟩
theorem PcSt.drew {w wr : World} {N : Array Value} (h : PcSt w N wr) : PcSt w N wr.drew := h.later (Below.refl _ _).drew
def PcR (w : World) (N : Array Value) (ds : List Dv) (ls : List Lk) (n gk : Nat) (iv : Value) (wr : World) : Prop := ∃ i : Nat, iv = .int .i64 i ∧ i ≤ n ∧ gk = n - i ∧ Hid (firstE ds ls i = 0) ∧ Hid (PcSt w N wr)
set_option maxRecDepth 100000 in
set_option maxHeartbeats 8000000 in
theorem lcheck_any (An Ad Al : Option Addr) (nn cn nd cd n c Bn Bd Bl : Nat) (ns : List Nd) (ds : List Dv) (ls : List Lk) (w : World) (hl : Laid w) (hn : Sl w Bn 3 An nn cn (ns.flatMap Nd.cells)) (hd : Sl w Bd 5 Ad nd cd (ds.flatMap Dv.cells)) (hs : Sl w Bl 3 Al n c (ls.flatMap Lk.cells)) (hBn : Bn ≤ w.heap.size) (hBd : Bd ≤ w.heap.size) (hBl : Bl ≤ w.heap.size)
    (hsn : ∀ x ∈ ns, x.name.size ≤ 9223372036854775807) (hsd : ∀ x ∈ ds, x.name.size ≤ 9223372036854775807) :
    Calls Tryd.prog 27 #[.agg #[.slice An nn cn, .slice Ad nd cd], .slice Al n c] w fun e w' => e = .returned (.int .i64 (locksErr ns ds ls)) ∧ Below w.heap.size w w' := by
  have hle := hs.le
  have hll := hs.len (fun _ => rfl) (by decide)
  have HNL := Lib.hid hll
  have HE : Hid (locksErr ns ds ls = if checkN ns ds ≠ 0 then checkN ns ds else if 128 < n then 1 else firstE ds ls n) := by unfold Hid locksErr; rw [hll]
  have HST : Hid (PcSt w #[.slice An nn cn, .slice Ad nd cd] (w.alloc (.cells #[.slice An nn cn, .slice Ad nd cd] 30))) := ⟨Blk.new _ _ _, (Below.refl _ _).alloc (Nat.le_refl _) _⟩
  have HCK := Lib.hid (ncheck_any An Ad nn cn nd cd Bn Bd ns ds (w.alloc (.cells #[.slice An nn cn, .slice Ad nd cd] 30)) (hl.alloc _) (hn.below HST.out.bl hBn) (hd.below HST.out.bl hBd) (by simp; omega) (by simp; omega) hsn hsd)
  have HD := Lib.hid hd; have HS := Lib.hid hs
  clear hn hd hs hsn hsd hl hll
  go_enter Tryd.func27, Tryd.ntmps27
  go_wp2_with fail
  generalize World.alloc _ _ = W at *
  refine HCK.out.mono ?_
  rintro e w1 ⟨rfl, hb1⟩
  have HS1 := Lib.hid (HST.out.later hb1)
  clear hb1 HST HCK
  by_cases h0 : checkN ns ds = 0; rotate_left
  · have q0 : (checkN ns ds != 0) = true := by simpa using h0
    have HR : Hid (locksErr ns ds ls = checkN ns ds) := by unfold Hid; rw [HE.out, if_pos h0]
    clear h0
    go_wp2_with fail
    go_ret
    exact ⟨ret_int HR.out.symm, HS1.out.bl⟩
  rw [h0]
  replace HE : Hid (locksErr ns ds ls = if 128 < n then 1 else firstE ds ls n) := by unfold Hid; rw [HE.out, if_neg (by simp [h0])]
  clear h0
  by_cases h1 : 128 < n
  · have q0 : decide ((128 : Int) < (n : Int)) = true := by simp; omega
    have q1 : decide (128 < n) = true := by simpa using h1
    have HR : Hid (locksErr ns ds ls = 1) := by unfold Hid; rw [HE.out, if_pos h1]
    clear h1
    go_wp2_with fail
    go_ret
    exact ⟨ret_int HR.out.symm, HS1.out.bl⟩
  have q0 : decide ((128 : Int) < (n : Int)) = false := by simp; omega
  have q1 : decide (128 < n) = false := by simpa using h1
  replace HE : Hid (locksErr ns ds ls = firstE ds ls n) := by unfold Hid; rw [HE.out, if_neg h1]
  clear h1
  go_wp2_with fail
  clear q0 q1
  go_loopg [19] n (PcR w #[.slice An nn cn, .slice Ad nd cd] ds ls n)
  case atStart => exact ⟨0, rfl, Nat.zero_le _, rfl, rfl, HS1⟩
  case round =>
    clear HS1
    obtain ⟨i, rfl, hi, rfl, hfe, hst⟩ := hrel
    by_cases hlt : i < n
    · obtain ⟨b, off, d, p, q, rfl, hb, hx, c0, c1, c2⟩ := (HS.out.below hst.out.bl hBl).lock hlt
      have HX := Lib.hid hx
      have HSTOP : Hid (∀ e, errAt ds ls i = e → e ≠ 0 → locksErr ns ds ls = e) := fun e he h => by rw [HE.out]; exact firstE_stop hfe.out he h n hlt
      have HNEXT : Hid (errAt ds ls i = 0 → firstE ds ls (i + 1) = 0) := fun he => firstE_next hfe.out he
      have HEA : Hid (errAt ds ls i = if lkErr ds ⟨d, p, q⟩ ≠ 0 then lkErr ds ⟨d, p, q⟩ else if ordBad ls i ⟨d, p, q⟩ = true then 14 else if othL (ls.take i) ⟨d, p, q⟩ = true then 18 else if usdL (ls.take i) q = true then 4 else 0) := by unfold Hid errAt; rw [hx]
      have HS2 : Hid (PcSt w #[.slice An nn cn, .slice Ad nd cd] (wr.alloc (.cells #[.int .i64 d, .int .i64 p, .int .i64 q] 43))) := hst.out.later ((Below.refl _ _).alloc (Nat.le_refl _) _)
      have HK2 : Hid (Blk (wr.alloc (.cells #[.int .i64 d, .int .i64 p, .int .i64 q] 43)) wr.heap.size 43 #[.int .i64 d, .int .i64 p, .int .i64 q]) := Blk.new _ _ _
      have hzk := hst.out.bl.size
      have HBX : Hid (Below w.heap.size w wr) := hst.out.bl
      clear hx hfe hst
      go_upto_region 9 with (fail)
      clear c0 c1 c2
      generalize hW2 : World.alloc wr _ = W2 at *
      have hz2 : W2.heap.size = wr.heap.size + 1 := by rw [← hW2]; simp
      have HSL2 := Lib.hid (HS.out.below HS2.out.bl hBl)
      have HDL2 := Lib.hid (HD.out.below HS2.out.bl hBd)
      clear hW2
      have k0 : W2.cell? ⟨w.heap.size, 0, none⟩ = some (.slice An nn cn) := HS2.out.bn.cell 0
      have k1 : W2.cell? ⟨w.heap.size, 1, none⟩ = some (.slice Ad nd cd) := HS2.out.bn.cell 1
      have m0 : W2.cell? ⟨wr.heap.size, 0, none⟩ = some (.int .i64 d) := HK2.out.cell 0
      have m1 : W2.cell? ⟨wr.heap.size, 1, none⟩ = some (.int .i64 p) := HK2.out.cell 1
      have m2 : W2.cell? ⟨wr.heap.size, 2, none⟩ = some (.int .i64 q) := HK2.out.cell 2
      go_wp2_with fail
      clear k0 k1 m0 m1 m2
      refine (valid_any An Ad nn cn nd cd Bd ds d p q W2 HDL2.out (by omega)).mono ?_
      rintro e w3 ⟨rfl, hb3⟩
      have HS3 := Lib.hid (HS2.out.later hb3)
      have HK3 := Lib.hid (HK2.out.below hb3 HK2.out.lt)
      have hz3 := hb3.size
      clear HS2 HK2 HSL2 HDL2 hb3
      by_cases hv : lkErr ds ⟨d, p, q⟩ = 0; rotate_left
      · have qv : (lkErr ds ⟨d, p, q⟩ != 0) = true := by simpa using hv
        have HR : Hid (locksErr ns ds ls = lkErr ds ⟨d, p, q⟩) := HSTOP.out _ (by rw [HEA.out, if_pos hv]) hv
        clear hv
        go_wp2_with fail
        go_ret
        exact ⟨ret_int HR.out.symm, HS3.out.bl⟩
      rw [hv]
      replace HEA : Hid (errAt ds ls i = if ordBad ls i ⟨d, p, q⟩ = true then 14 else if othL (ls.take i) ⟨d, p, q⟩ = true then 18 else if usdL (ls.take i) q = true then 4 else 0) := by unfold Hid; rw [HEA.out, if_neg (by simp [hv])]
      clear hv
      by_cases hi0 : 0 < i
      · obtain ⟨b1, off1, d1, p1, q1, hA1, _, hx1, g0, g1, g2⟩ := (HS.out.below HS3.out.bl hBl).lock (i := i - 1) (by omega)
        injection hA1 with hA1; injection hA1 with h1 h2; subst h1 h2
        have HOB := Lib.hid (ordBad_at (k := ⟨d, p, q⟩) hi0 hx1)
        have HCS : Hid (w3.cell? ⟨b, off + (i - 1) * 3, none⟩ = some (.int .i64 d1) ∧ w3.cell? ⟨b, off + (i - 1) * 3 + 1, none⟩ = some (.int .i64 p1) ∧ w3.cell? ⟨b, off + (i - 1) * 3 + 2, none⟩ = some (.int .i64 q1) ∧ w3.cell? ⟨wr.heap.size, 0, none⟩ = some (.int .i64 d) ∧ w3.cell? ⟨wr.heap.size, 1, none⟩ = some (.int .i64 p) ∧ w3.cell? ⟨wr.heap.size, 2, none⟩ = some (.int .i64 q)) := ⟨g0, g1, g2, HK3.out.cell 0, HK3.out.cell 1, HK3.out.cell 2⟩
        clear g0 g1 g2 hx1
        obtain ⟨i1, hi1⟩ : ∃ i1, i1 = i - 1 := ⟨_, rfl⟩
        rw [← hi1] at HCS
        have e1 : IntKind.i64.wrap ((i : Int) - 1) = (i1 : Int) := by rw [IntWalk.i64_in _ (by omega)]; omega
        have hi1n : i1 < n := by omega
        have qi : decide ((0 : Int) < (i : Int)) = true := by simp; omega
        clear hi1
        have HBE := Lib.hid (order_any ⟨d1, p1, q1⟩ ⟨d, p, q⟩ w3.drew)
        have HLT := Lib.hid (ord_lt ⟨d1, p1, q1⟩ ⟨d, p, q⟩)
        generalize ordI ⟨d1, p1, q1⟩ ⟨d, p, q⟩ = r at *
        rcases hbb : befB ⟨d1, p1, q1⟩ ⟨d, p, q⟩ with _ | _
        · rw [hbb] at HOB HLT
          have qr : decide (0 ≤ r) = true := by have := HLT.out; simp at this ⊢; omega
          have HR : Hid (locksErr ns ds ls = 14) := HSTOP.out _ (by rw [HEA.out, if_pos (by rw [HOB.out]; rfl)]) (by decide)
          clear hbb
          go_upto_region 12 with (fail)
          refine wp_region_J (S := fun W' => W'.cell? ⟨b, off + i1 * 3, none⟩ = some (.int .i64 d1) ∧ W'.cell? ⟨b, off + i1 * 3 + 1, none⟩ = some (.int .i64 p1) ∧ W'.cell? ⟨b, off + i1 * 3 + 2, none⟩ = some (.int .i64 q1) ∧ W'.cell? ⟨wr.heap.size, 0, none⟩ = some (.int .i64 d) ∧ W'.cell? ⟨wr.heap.size, 1, none⟩ = some (.int .i64 p) ∧ W'.cell? ⟨wr.heap.size, 2, none⟩ = some (.int .i64 q)) (J := []) (by kernel_rfl) ?_ (fun hHeld => ?_)
          · exact HCS.out
          try dsimp only at hHeld
          refine wpAnyJ_takeL (i := 0) (d := some 32) (v := ?_) #[true, false, false, false, false, false, false, false, false, false, false, false, false] (by kernel_rfl) rfl rfl (by kernel_rfl) (by kernel_rfl) (by kernel_rfl) (by kernel_rfl) (by kernel_rfl) (fun _ _ _ h => h) (Or.inl ⟨by rfl, ?_⟩) hHeld ?_
          rotate_left
          · (intro w hSw; (try dsimp only at hSw);  go_simp; try with_reducible rfl)
          try simp only [Act.put, List.setIfInBounds_toArray, List.set_cons_zero, List.set_cons_succ]
          refine wpAnyJ_takeL (i := 1) (d := some 33) (v := ?_) #[true, true, false, false, false, false, false, false, false, false, false, false, false] (by kernel_rfl) rfl rfl (by kernel_rfl) (by kernel_rfl) (by kernel_rfl) (by kernel_rfl) (by kernel_rfl) (fun _ _ _ h => h) (Or.inl ⟨by rfl, ?_⟩) hHeld ?_
          rotate_left
          · (intro w hSw; (try dsimp only at hSw);  go_simp; try with_reducible rfl)
          try simp only [Act.put, List.setIfInBounds_toArray, List.set_cons_zero, List.set_cons_succ]
          refine wpAnyJ_takeL (i := 2) (d := some 34) (v := ?_) #[true, true, true, false, false, false, false, false, false, false, false, false, false] (by kernel_rfl) rfl rfl (by kernel_rfl) (by kernel_rfl) (by kernel_rfl) (by kernel_rfl) (by kernel_rfl) (fun _ _ _ h => h) (Or.inl ⟨by rfl, ?_⟩) hHeld ?_
          rotate_left
          · (intro w hSw; (try dsimp only at hSw);  go_simp; try with_reducible rfl)
          try simp only [Act.put, List.setIfInBounds_toArray, List.set_cons_zero, List.set_cons_succ]
          refine wpAnyJ_takeL (i := 3) (d := some 35) (v := ?_) #[true, true, true, true, false, false, false, false, false, false, false, false, false] (by kernel_rfl) rfl rfl (by kernel_rfl) (by kernel_rfl) (by kernel_rfl) (by kernel_rfl) (by kernel_rfl) (fun _ _ _ h => h) (Or.inl ⟨by rfl, ?_⟩) hHeld ?_
          rotate_left
          · (intro w hSw; (try dsimp only at hSw);  go_simp; try with_reducible rfl)
          try simp only [Act.put, List.setIfInBounds_toArray, List.set_cons_zero, List.set_cons_succ]
          refine wpAnyJ_takeL (i := 4) (d := some 36) (v := ?_) #[true, true, true, true, true, false, false, false, false, false, false, false, false] (by kernel_rfl) rfl rfl (by kernel_rfl) (by kernel_rfl) (by kernel_rfl) (by kernel_rfl) (by kernel_rfl) (fun _ _ _ h => h) (Or.inl ⟨by rfl, ?_⟩) hHeld ?_
          rotate_left
          · (intro w hSw; (try dsimp only at hSw);  go_simp; try with_reducible rfl)
          try simp only [Act.put, List.setIfInBounds_toArray, List.set_cons_zero, List.set_cons_succ]
          refine wpAnyJ_takeL (i := 5) (d := some 37) (v := ?_) #[true, true, true, true, true, true, false, false, false, false, false, false, false] (by kernel_rfl) rfl rfl (by kernel_rfl) (by kernel_rfl) (by kernel_rfl) (by kernel_rfl) (by kernel_rfl) (fun _ _ _ h => h) (Or.inl ⟨by rfl, ?_⟩) hHeld ?_
          rotate_left
          · (intro w hSw; (try dsimp only at hSw);  go_simp; try with_reducible rfl)
          try simp only [Act.put, List.setIfInBounds_toArray, List.set_cons_zero, List.set_cons_succ]
          refine wpAnyJ_takeL (i := 6) (d := some 38) (v := ?_) #[true, true, true, true, true, true, true, false, false, false, false, false, false] (by kernel_rfl) rfl rfl (by kernel_rfl) (by kernel_rfl) (by kernel_rfl) (by kernel_rfl) (by kernel_rfl) (fun _ _ _ h => h) (Or.inl ⟨by rfl, ?_⟩) hHeld ?_
          rotate_left
          · (intro w hSw; (try dsimp only at hSw);  go_simp; try with_reducible rfl)
          try simp only [Act.put, List.setIfInBounds_toArray, List.set_cons_zero, List.set_cons_succ]
          refine wpAnyJ_takeL (i := 7) (d := some 39) (v := ?_) #[true, true, true, true, true, true, true, true, false, false, false, false, false] (by kernel_rfl) rfl rfl (by kernel_rfl) (by kernel_rfl) (by kernel_rfl) (by kernel_rfl) (by kernel_rfl) (fun _ _ _ h => h) (Or.inl ⟨by rfl, ?_⟩) hHeld ?_
          rotate_left
          · (intro w hSw; (try dsimp only at hSw);  go_simp; try with_reducible rfl)
          try simp only [Act.put, List.setIfInBounds_toArray, List.set_cons_zero, List.set_cons_succ]
          refine wpAnyJ_takeL (i := 8) (d := some 40) (v := ?_) #[true, true, true, true, true, true, true, true, true, false, false, false, false] (by kernel_rfl) rfl rfl (by kernel_rfl) (by kernel_rfl) (by kernel_rfl) (by kernel_rfl) (by kernel_rfl) (fun _ _ _ h => h) (Or.inl ⟨by rfl, ?_⟩) hHeld ?_
          rotate_left
          · (intro w hSw; (try dsimp only at hSw);  go_simp; try with_reducible rfl)
          try simp only [Act.put, List.setIfInBounds_toArray, List.set_cons_zero, List.set_cons_succ]
          refine wpAnyJ_oneL (k := 9) #[true, true, true, true, true, true, true, true, true, true, false, false, false] (by kernel_rfl) (by kernel_rfl) rfl (fun K hK => ?_)
          (go_simp; refine HBE.out.mono ?_; rintro e w4 ⟨rfl, hb4⟩; go_simp)
          refine hK.out _ _ (fun _ => ?_) (fun hHeld' => ?_)
          · exact ⟨keep_cell (below_grow hb4) HCS.out.1, keep_cell (below_grow hb4) HCS.out.2.1, keep_cell (below_grow hb4) HCS.out.2.2.1, keep_cell (below_grow hb4) HCS.out.2.2.2.1, keep_cell (below_grow hb4) HCS.out.2.2.2.2.1, keep_cell (below_grow hb4) HCS.out.2.2.2.2.2⟩
          replace hHeld := hHeld' rfl
          clear hHeld' hK K
          try dsimp only at hHeld
          refine wpAnyJ_takeL (i := 10) (d := some 42) (v := ?_) #[true, true, true, true, true, true, true, true, true, true, true, false, false] (by kernel_rfl) rfl rfl (by kernel_rfl) (by kernel_rfl) (by kernel_rfl) (by kernel_rfl) (by kernel_rfl) (fun _ _ _ h => h) (Or.inl ⟨by rfl, ?_⟩) hHeld ?_
          rotate_left
          · (intro w hSw; (try dsimp only at hSw);  go_simp; try with_reducible rfl)
          try simp only [Act.put, List.setIfInBounds_toArray, List.set_cons_zero, List.set_cons_succ]
          refine wpAnyJ_takeL (i := 11) (d := some 43) (v := ?_) #[true, true, true, true, true, true, true, true, true, true, true, true, false] (by kernel_rfl) rfl rfl (by kernel_rfl) (by kernel_rfl) (by kernel_rfl) (by kernel_rfl) (by kernel_rfl) (fun _ _ _ h => h) (Or.inl ⟨by rfl, ?_⟩) hHeld ?_
          rotate_left
          · (intro w hSw; (try dsimp only at hSw);  go_simp; try with_reducible rfl)
          try simp only [Act.put, List.setIfInBounds_toArray, List.set_cons_zero, List.set_cons_succ]
          refine wpAnyJ_takeL (i := 12) (d := some 31) (v := ?_) #[true, true, true, true, true, true, true, true, true, true, true, true, true] (by kernel_rfl) rfl rfl (by kernel_rfl) (by kernel_rfl) (by kernel_rfl) (by kernel_rfl) (by kernel_rfl) (fun _ _ _ h => h) (Or.inl ⟨by rfl, ?_⟩) hHeld ?_
          rotate_left
          · (intro w hSw; (try dsimp only at hSw);  go_simp; try with_reducible rfl)
          try simp only [Act.put, List.setIfInBounds_toArray, List.set_cons_zero, List.set_cons_succ]
          refine wpAnyJ_done (by kernel_rfl) ?_ _
          have HS4 := Lib.hid (HS3.out.drew.later (below_grow hb4))
          clear hHeld hb4
          go_wp2_with fail
          go_ret
          exact ⟨ret_int HR.out.symm, HS4.out.bl⟩
        · rw [hbb] at HOB HLT
          have qr : decide (0 ≤ r) = false := by have := HLT.out; simp at this ⊢; omega
          replace HOB : Hid (ordBad ls i ⟨d, p, q⟩ = false) := by unfold Hid; rw [HOB.out]; rfl
          clear hbb
          go_upto_region 12 with (fail)
          refine wp_region_J (S := fun W' => W'.cell? ⟨b, off + i1 * 3, none⟩ = some (.int .i64 d1) ∧ W'.cell? ⟨b, off + i1 * 3 + 1, none⟩ = some (.int .i64 p1) ∧ W'.cell? ⟨b, off + i1 * 3 + 2, none⟩ = some (.int .i64 q1) ∧ W'.cell? ⟨wr.heap.size, 0, none⟩ = some (.int .i64 d) ∧ W'.cell? ⟨wr.heap.size, 1, none⟩ = some (.int .i64 p) ∧ W'.cell? ⟨wr.heap.size, 2, none⟩ = some (.int .i64 q)) (J := []) (by kernel_rfl) ?_ (fun hHeld => ?_)
          · exact HCS.out
          try dsimp only at hHeld
          refine wpAnyJ_takeL (i := 0) (d := some 32) (v := ?_) #[true, false, false, false, false, false, false, false, false, false, false, false, false] (by kernel_rfl) rfl rfl (by kernel_rfl) (by kernel_rfl) (by kernel_rfl) (by kernel_rfl) (by kernel_rfl) (fun _ _ _ h => h) (Or.inl ⟨by rfl, ?_⟩) hHeld ?_
          rotate_left
          · (intro w hSw; (try dsimp only at hSw);  go_simp; try with_reducible rfl)
          try simp only [Act.put, List.setIfInBounds_toArray, List.set_cons_zero, List.set_cons_succ]
          refine wpAnyJ_takeL (i := 1) (d := some 33) (v := ?_) #[true, true, false, false, false, false, false, false, false, false, false, false, false] (by kernel_rfl) rfl rfl (by kernel_rfl) (by kernel_rfl) (by kernel_rfl) (by kernel_rfl) (by kernel_rfl) (fun _ _ _ h => h) (Or.inl ⟨by rfl, ?_⟩) hHeld ?_
          rotate_left
          · (intro w hSw; (try dsimp only at hSw);  go_simp; try with_reducible rfl)
          try simp only [Act.put, List.setIfInBounds_toArray, List.set_cons_zero, List.set_cons_succ]
          refine wpAnyJ_takeL (i := 2) (d := some 34) (v := ?_) #[true, true, true, false, false, false, false, false, false, false, false, false, false] (by kernel_rfl) rfl rfl (by kernel_rfl) (by kernel_rfl) (by kernel_rfl) (by kernel_rfl) (by kernel_rfl) (fun _ _ _ h => h) (Or.inl ⟨by rfl, ?_⟩) hHeld ?_
          rotate_left
          · (intro w hSw; (try dsimp only at hSw);  go_simp; try with_reducible rfl)
          try simp only [Act.put, List.setIfInBounds_toArray, List.set_cons_zero, List.set_cons_succ]
          refine wpAnyJ_takeL (i := 3) (d := some 35) (v := ?_) #[true, true, true, true, false, false, false, false, false, false, false, false, false] (by kernel_rfl) rfl rfl (by kernel_rfl) (by kernel_rfl) (by kernel_rfl) (by kernel_rfl) (by kernel_rfl) (fun _ _ _ h => h) (Or.inl ⟨by rfl, ?_⟩) hHeld ?_
          rotate_left
          · (intro w hSw; (try dsimp only at hSw);  go_simp; try with_reducible rfl)
          try simp only [Act.put, List.setIfInBounds_toArray, List.set_cons_zero, List.set_cons_succ]
          refine wpAnyJ_takeL (i := 4) (d := some 36) (v := ?_) #[true, true, true, true, true, false, false, false, false, false, false, false, false] (by kernel_rfl) rfl rfl (by kernel_rfl) (by kernel_rfl) (by kernel_rfl) (by kernel_rfl) (by kernel_rfl) (fun _ _ _ h => h) (Or.inl ⟨by rfl, ?_⟩) hHeld ?_
          rotate_left
          · (intro w hSw; (try dsimp only at hSw);  go_simp; try with_reducible rfl)
          try simp only [Act.put, List.setIfInBounds_toArray, List.set_cons_zero, List.set_cons_succ]
          refine wpAnyJ_takeL (i := 5) (d := some 37) (v := ?_) #[true, true, true, true, true, true, false, false, false, false, false, false, false] (by kernel_rfl) rfl rfl (by kernel_rfl) (by kernel_rfl) (by kernel_rfl) (by kernel_rfl) (by kernel_rfl) (fun _ _ _ h => h) (Or.inl ⟨by rfl, ?_⟩) hHeld ?_
          rotate_left
          · (intro w hSw; (try dsimp only at hSw);  go_simp; try with_reducible rfl)
          try simp only [Act.put, List.setIfInBounds_toArray, List.set_cons_zero, List.set_cons_succ]
          refine wpAnyJ_takeL (i := 6) (d := some 38) (v := ?_) #[true, true, true, true, true, true, true, false, false, false, false, false, false] (by kernel_rfl) rfl rfl (by kernel_rfl) (by kernel_rfl) (by kernel_rfl) (by kernel_rfl) (by kernel_rfl) (fun _ _ _ h => h) (Or.inl ⟨by rfl, ?_⟩) hHeld ?_
          rotate_left
          · (intro w hSw; (try dsimp only at hSw);  go_simp; try with_reducible rfl)
          try simp only [Act.put, List.setIfInBounds_toArray, List.set_cons_zero, List.set_cons_succ]
          refine wpAnyJ_takeL (i := 7) (d := some 39) (v := ?_) #[true, true, true, true, true, true, true, true, false, false, false, false, false] (by kernel_rfl) rfl rfl (by kernel_rfl) (by kernel_rfl) (by kernel_rfl) (by kernel_rfl) (by kernel_rfl) (fun _ _ _ h => h) (Or.inl ⟨by rfl, ?_⟩) hHeld ?_
          rotate_left
          · (intro w hSw; (try dsimp only at hSw);  go_simp; try with_reducible rfl)
          try simp only [Act.put, List.setIfInBounds_toArray, List.set_cons_zero, List.set_cons_succ]
          refine wpAnyJ_takeL (i := 8) (d := some 40) (v := ?_) #[true, true, true, true, true, true, true, true, true, false, false, false, false] (by kernel_rfl) rfl rfl (by kernel_rfl) (by kernel_rfl) (by kernel_rfl) (by kernel_rfl) (by kernel_rfl) (fun _ _ _ h => h) (Or.inl ⟨by rfl, ?_⟩) hHeld ?_
          rotate_left
          · (intro w hSw; (try dsimp only at hSw);  go_simp; try with_reducible rfl)
          try simp only [Act.put, List.setIfInBounds_toArray, List.set_cons_zero, List.set_cons_succ]
          refine wpAnyJ_oneL (k := 9) #[true, true, true, true, true, true, true, true, true, true, false, false, false] (by kernel_rfl) (by kernel_rfl) rfl (fun K hK => ?_)
          (go_simp; refine HBE.out.mono ?_; rintro e w4 ⟨rfl, hb4⟩; go_simp)
          refine hK.out _ _ (fun _ => ?_) (fun hHeld' => ?_)
          · exact ⟨keep_cell (below_grow hb4) HCS.out.1, keep_cell (below_grow hb4) HCS.out.2.1, keep_cell (below_grow hb4) HCS.out.2.2.1, keep_cell (below_grow hb4) HCS.out.2.2.2.1, keep_cell (below_grow hb4) HCS.out.2.2.2.2.1, keep_cell (below_grow hb4) HCS.out.2.2.2.2.2⟩
          replace hHeld := hHeld' rfl
          clear hHeld' hK K
          try dsimp only at hHeld
          refine wpAnyJ_takeL (i := 10) (d := some 42) (v := ?_) #[true, true, true, true, true, true, true, true, true, true, true, false, false] (by kernel_rfl) rfl rfl (by kernel_rfl) (by kernel_rfl) (by kernel_rfl) (by kernel_rfl) (by kernel_rfl) (fun _ _ _ h => h) (Or.inl ⟨by rfl, ?_⟩) hHeld ?_
          rotate_left
          · (intro w hSw; (try dsimp only at hSw);  go_simp; try with_reducible rfl)
          try simp only [Act.put, List.setIfInBounds_toArray, List.set_cons_zero, List.set_cons_succ]
          refine wpAnyJ_takeL (i := 11) (d := some 43) (v := ?_) #[true, true, true, true, true, true, true, true, true, true, true, true, false] (by kernel_rfl) rfl rfl (by kernel_rfl) (by kernel_rfl) (by kernel_rfl) (by kernel_rfl) (by kernel_rfl) (fun _ _ _ h => h) (Or.inl ⟨by rfl, ?_⟩) hHeld ?_
          rotate_left
          · (intro w hSw; (try dsimp only at hSw);  go_simp; try with_reducible rfl)
          try simp only [Act.put, List.setIfInBounds_toArray, List.set_cons_zero, List.set_cons_succ]
          refine wpAnyJ_takeL (i := 12) (d := some 31) (v := ?_) #[true, true, true, true, true, true, true, true, true, true, true, true, true] (by kernel_rfl) rfl rfl (by kernel_rfl) (by kernel_rfl) (by kernel_rfl) (by kernel_rfl) (by kernel_rfl) (fun _ _ _ h => h) (Or.inl ⟨by rfl, ?_⟩) hHeld ?_
          rotate_left
          · (intro w hSw; (try dsimp only at hSw);  go_simp; try with_reducible rfl)
          try simp only [Act.put, List.setIfInBounds_toArray, List.set_cons_zero, List.set_cons_succ]
          refine wpAnyJ_done (by kernel_rfl) ?_ _
          have HS4 := Lib.hid (HS3.out.drew.later (below_grow hb4))
          have HK4 := Lib.hid ((show Blk w3.drew wr.heap.size 43 #[.int .i64 d, .int .i64 p, .int .i64 q] from HK3.out).below (below_grow hb4) HK3.out.lt)
          clear hHeld hb4 HS3 HK3 HCS HBE HLT e1 qr
          have HNB := Lib.hid HOB.out
          have HEB : Hid (errAt ds ls i = if othL (ls.take i) ⟨d, p, q⟩ = true then 18 else if usdL (ls.take i) q = true then 4 else 0) := by unfold Hid; rw [HEA.out, if_neg (by rw [HNB.out]; simp)]
          clear HEA HOB HNB
          have HSL4 := Lib.hid (HS.out.below HS4.out.bl hBl)
          have hic : i ≤ c := by omega
          have HTK := Lib.hid (HSL4.out.takeK (fun _ => rfl) (by decide) hi)
          have HBX4 : Hid (w4.cell? ⟨wr.heap.size, 0, none⟩ = some (.int .i64 d) ∧ w4.cell? ⟨wr.heap.size, 1, none⟩ = some (.int .i64 p) ∧ w4.cell? ⟨wr.heap.size, 2, none⟩ = some (.int .i64 q)) := ⟨HK4.out.cell 0, HK4.out.cell 1, HK4.out.cell 2⟩
          have hz4 := HS4.out.bl.size
          have HOA := Lib.hid (other_any (some ⟨b, off, none⟩) i c Bl (ls.take i) d p q w4.drew HTK.out (by simp only [World.drew]; omega))
          go_wp2_with fail
          rcases ho : othL (ls.take i) ⟨d, p, q⟩ with _ | _
          rotate_left
          · rw [ho] at HOA HEB
            clear ho
            have HR : Hid (locksErr ns ds ls = 18) := HSTOP.out _ (by rw [HEB.out, if_pos rfl]) (by decide)
            go_upto_region 14 with (fail)
            refine wp_region_J (S := fun W' => W'.cell? ⟨wr.heap.size, 0, none⟩ = some (.int .i64 d) ∧ W'.cell? ⟨wr.heap.size, 1, none⟩ = some (.int .i64 p) ∧ W'.cell? ⟨wr.heap.size, 2, none⟩ = some (.int .i64 q)) (J := []) (by kernel_rfl) ?_ (fun hHeld => ?_)
            · exact HBX4.out
            try dsimp only at hHeld
            refine wpAnyJ_takeL (i := 0) (d := some 45) (v := ?_) #[true, false, false, false, false, false] (by kernel_rfl) rfl rfl (by kernel_rfl) (by kernel_rfl) (by kernel_rfl) (by kernel_rfl) (by kernel_rfl) (fun _ _ _ h => h) (Or.inl ⟨by rfl, ?_⟩) hHeld ?_
            rotate_left
            · (intro w hSw; (try dsimp only at hSw);  go_simp; try with_reducible rfl)
            try simp only [Act.put, List.setIfInBounds_toArray, List.set_cons_zero, List.set_cons_succ]
            refine wpAnyJ_takeL (i := 1) (d := some 46) (v := ?_) #[true, true, false, false, false, false] (by kernel_rfl) rfl rfl (by kernel_rfl) (by kernel_rfl) (by kernel_rfl) (by kernel_rfl) (by kernel_rfl) (fun _ _ _ h => h) (Or.inl ⟨by rfl, ?_⟩) hHeld ?_
            rotate_left
            · (intro w hSw; (try dsimp only at hSw);  go_simp; try with_reducible rfl)
            try simp only [Act.put, List.setIfInBounds_toArray, List.set_cons_zero, List.set_cons_succ]
            refine wpAnyJ_takeL (i := 2) (d := some 47) (v := ?_) #[true, true, true, false, false, false] (by kernel_rfl) rfl rfl (by kernel_rfl) (by kernel_rfl) (by kernel_rfl) (by kernel_rfl) (by kernel_rfl) (fun _ _ _ h => h) (Or.inl ⟨by rfl, ?_⟩) hHeld ?_
            rotate_left
            · (intro w hSw; (try dsimp only at hSw);  go_simp; try with_reducible rfl)
            try simp only [Act.put, List.setIfInBounds_toArray, List.set_cons_zero, List.set_cons_succ]
            refine wpAnyJ_takeL (i := 3) (d := some 48) (v := ?_) #[true, true, true, true, false, false] (by kernel_rfl) rfl rfl (by kernel_rfl) (by kernel_rfl) (by kernel_rfl) (by kernel_rfl) (by kernel_rfl) (fun _ _ _ h => h) (Or.inl ⟨by rfl, ?_⟩) hHeld ?_
            rotate_left
            · (intro w hSw; (try dsimp only at hSw);  go_simp; try with_reducible rfl)
            try simp only [Act.put, List.setIfInBounds_toArray, List.set_cons_zero, List.set_cons_succ]
            refine wpAnyJ_oneL (k := 4) #[true, true, true, true, true, false] (by kernel_rfl) (by kernel_rfl) rfl (fun K hK => ?_)
            (go_simp; refine HOA.out.mono ?_; rintro e w5 ⟨rfl, hb5⟩; go_simp)
            refine hK.out _ _ (fun _ => ?_) (fun hHeld' => ?_)
            · exact ⟨keep_cell hb5 HBX4.out.1, keep_cell hb5 HBX4.out.2.1, keep_cell hb5 HBX4.out.2.2⟩
            replace hHeld := hHeld' rfl
            clear hHeld' hK K
            try dsimp only at hHeld
            refine wpAnyJ_takeL (i := 5) (d := some 44) (v := ?_) #[true, true, true, true, true, true] (by kernel_rfl) rfl rfl (by kernel_rfl) (by kernel_rfl) (by kernel_rfl) (by kernel_rfl) (by kernel_rfl) (fun _ _ _ h => h) (Or.inl ⟨by rfl, ?_⟩) hHeld ?_
            rotate_left
            · (intro w hSw; (try dsimp only at hSw);  go_simp; try with_reducible rfl)
            try simp only [Act.put, List.setIfInBounds_toArray, List.set_cons_zero, List.set_cons_succ]
            refine wpAnyJ_done (by kernel_rfl) ?_ _
            have HS5 := Lib.hid (HS4.out.drew.later hb5)
            clear hHeld hb5
            go_wp2_with fail
            go_ret
            exact ⟨ret_int HR.out.symm, HS5.out.bl⟩
          rw [ho] at HOA HEB
          replace HEB : Hid (errAt ds ls i = if usdL (ls.take i) q = true then 4 else 0) := by unfold Hid; rw [HEB.out, if_neg (by simp)]
          clear ho
          go_upto_region 14 with (fail)
          refine wp_region_J (S := fun W' => W'.cell? ⟨wr.heap.size, 0, none⟩ = some (.int .i64 d) ∧ W'.cell? ⟨wr.heap.size, 1, none⟩ = some (.int .i64 p) ∧ W'.cell? ⟨wr.heap.size, 2, none⟩ = some (.int .i64 q)) (J := []) (by kernel_rfl) ?_ (fun hHeld => ?_)
          · exact HBX4.out
          try dsimp only at hHeld
          refine wpAnyJ_takeL (i := 0) (d := some 45) (v := ?_) #[true, false, false, false, false, false] (by kernel_rfl) rfl rfl (by kernel_rfl) (by kernel_rfl) (by kernel_rfl) (by kernel_rfl) (by kernel_rfl) (fun _ _ _ h => h) (Or.inl ⟨by rfl, ?_⟩) hHeld ?_
          rotate_left
          · (intro w hSw; (try dsimp only at hSw);  go_simp; try with_reducible rfl)
          try simp only [Act.put, List.setIfInBounds_toArray, List.set_cons_zero, List.set_cons_succ]
          refine wpAnyJ_takeL (i := 1) (d := some 46) (v := ?_) #[true, true, false, false, false, false] (by kernel_rfl) rfl rfl (by kernel_rfl) (by kernel_rfl) (by kernel_rfl) (by kernel_rfl) (by kernel_rfl) (fun _ _ _ h => h) (Or.inl ⟨by rfl, ?_⟩) hHeld ?_
          rotate_left
          · (intro w hSw; (try dsimp only at hSw);  go_simp; try with_reducible rfl)
          try simp only [Act.put, List.setIfInBounds_toArray, List.set_cons_zero, List.set_cons_succ]
          refine wpAnyJ_takeL (i := 2) (d := some 47) (v := ?_) #[true, true, true, false, false, false] (by kernel_rfl) rfl rfl (by kernel_rfl) (by kernel_rfl) (by kernel_rfl) (by kernel_rfl) (by kernel_rfl) (fun _ _ _ h => h) (Or.inl ⟨by rfl, ?_⟩) hHeld ?_
          rotate_left
          · (intro w hSw; (try dsimp only at hSw);  go_simp; try with_reducible rfl)
          try simp only [Act.put, List.setIfInBounds_toArray, List.set_cons_zero, List.set_cons_succ]
          refine wpAnyJ_takeL (i := 3) (d := some 48) (v := ?_) #[true, true, true, true, false, false] (by kernel_rfl) rfl rfl (by kernel_rfl) (by kernel_rfl) (by kernel_rfl) (by kernel_rfl) (by kernel_rfl) (fun _ _ _ h => h) (Or.inl ⟨by rfl, ?_⟩) hHeld ?_
          rotate_left
          · (intro w hSw; (try dsimp only at hSw);  go_simp; try with_reducible rfl)
          try simp only [Act.put, List.setIfInBounds_toArray, List.set_cons_zero, List.set_cons_succ]
          refine wpAnyJ_oneL (k := 4) #[true, true, true, true, true, false] (by kernel_rfl) (by kernel_rfl) rfl (fun K hK => ?_)
          (go_simp; refine HOA.out.mono ?_; rintro e w5 ⟨rfl, hb5⟩; go_simp)
          refine hK.out _ _ (fun _ => ?_) (fun hHeld' => ?_)
          · exact ⟨keep_cell hb5 HBX4.out.1, keep_cell hb5 HBX4.out.2.1, keep_cell hb5 HBX4.out.2.2⟩
          replace hHeld := hHeld' rfl
          clear hHeld' hK K
          try dsimp only at hHeld
          refine wpAnyJ_takeL (i := 5) (d := some 44) (v := ?_) #[true, true, true, true, true, true] (by kernel_rfl) rfl rfl (by kernel_rfl) (by kernel_rfl) (by kernel_rfl) (by kernel_rfl) (by kernel_rfl) (fun _ _ _ h => h) (Or.inl ⟨by rfl, ?_⟩) hHeld ?_
          rotate_left
          · (intro w hSw; (try dsimp only at hSw);  go_simp; try with_reducible rfl)
          try simp only [Act.put, List.setIfInBounds_toArray, List.set_cons_zero, List.set_cons_succ]
          refine wpAnyJ_done (by kernel_rfl) ?_ _
          have HS5 := Lib.hid (HS4.out.drew.later hb5)
          have HTK5 := Lib.hid (HTK.out.drew.below hb5 (by simp only [World.drew]; omega))
          have HC5 : Hid (w5.cell? ⟨wr.heap.size, 2, none⟩ = some (.int .i64 q)) := hHeld.2.2
          clear hHeld hb5 HOA HBX4 HSL4 HTK HK4
          have hz5 := HS5.out.bl.size
          have HUA := Lib.hid (used_any (some ⟨b, off, none⟩) i c Bl (ls.take i) q w5.drew HTK5.out (by simp only [World.drew]; omega))
          rcases hu : usdL (ls.take i) q with _ | _
          rotate_left
          · rw [hu] at HUA HEB
            clear hu
            have HR : Hid (locksErr ns ds ls = 4) := HSTOP.out _ (by rw [HEB.out, if_pos rfl]) (by decide)
            go_upto_region 16 with (fail)
            refine wp_region_J (S := fun W' => W'.cell? ⟨wr.heap.size, 2, none⟩ = some (.int .i64 q)) (J := []) (by kernel_rfl) ?_ (fun hHeld => ?_)
            · exact HC5.out
            try dsimp only at hHeld
            refine wpAnyJ_takeL (i := 0) (d := some 51) (v := ?_) #[true, false, false, false, false, false, false] (by kernel_rfl) rfl rfl (by kernel_rfl) (by kernel_rfl) (by kernel_rfl) (by kernel_rfl) (by kernel_rfl) (fun _ _ _ h => h) (Or.inl ⟨by rfl, ?_⟩) hHeld ?_
            rotate_left
            · (intro w hSw; (try dsimp only at hSw);  go_simp; try with_reducible rfl)
            try simp only [Act.put, List.setIfInBounds_toArray, List.set_cons_zero, List.set_cons_succ]
            refine wpAnyJ_takeL (i := 1) (d := some 52) (v := ?_) #[true, true, false, false, false, false, false] (by kernel_rfl) rfl rfl (by kernel_rfl) (by kernel_rfl) (by kernel_rfl) (by kernel_rfl) (by kernel_rfl) (fun _ _ _ h => h) (Or.inl ⟨by rfl, ?_⟩) hHeld ?_
            rotate_left
            · (intro w hSw; (try dsimp only at hSw);  go_simp; try with_reducible rfl)
            try simp only [Act.put, List.setIfInBounds_toArray, List.set_cons_zero, List.set_cons_succ]
            refine wpAnyJ_takeL (i := 2) (d := some 53) (v := ?_) #[true, true, true, false, false, false, false] (by kernel_rfl) rfl rfl (by kernel_rfl) (by kernel_rfl) (by kernel_rfl) (by kernel_rfl) (by kernel_rfl) (fun _ _ _ h => h) (Or.inl ⟨by rfl, ?_⟩) hHeld ?_
            rotate_left
            · (intro w hSw; (try dsimp only at hSw);  go_simp; try with_reducible rfl)
            try simp only [Act.put, List.setIfInBounds_toArray, List.set_cons_zero, List.set_cons_succ]
            refine wpAnyJ_takeL (i := 3) (d := some 54) (v := ?_) #[true, true, true, true, false, false, false] (by kernel_rfl) rfl rfl (by kernel_rfl) (by kernel_rfl) (by kernel_rfl) (by kernel_rfl) (by kernel_rfl) (fun _ _ _ h => h) (Or.inl ⟨by rfl, ?_⟩) hHeld ?_
            rotate_left
            · (intro w hSw; (try dsimp only at hSw);  go_simp; try with_reducible rfl)
            try simp only [Act.put, List.setIfInBounds_toArray, List.set_cons_zero, List.set_cons_succ]
            refine wpAnyJ_takeL (i := 4) (d := some 55) (v := ?_) #[true, true, true, true, true, false, false] (by kernel_rfl) rfl rfl (by kernel_rfl) (by kernel_rfl) (by kernel_rfl) (by kernel_rfl) (by kernel_rfl) (fun _ _ _ h => h) (Or.inl ⟨by rfl, ?_⟩) hHeld ?_
            rotate_left
            · (intro w hSw; (try dsimp only at hSw);  go_simp; try with_reducible rfl)
            try simp only [Act.put, List.setIfInBounds_toArray, List.set_cons_zero, List.set_cons_succ]
            refine wpAnyJ_oneL (k := 5) #[true, true, true, true, true, true, false] (by kernel_rfl) (by kernel_rfl) rfl (fun K hK => ?_)
            (go_simp; refine HUA.out.mono ?_; rintro e w6 ⟨rfl, hb6⟩; go_simp)
            refine hK.out _ _ (fun _ => ?_) (fun hHeld' => ?_)
            · exact keep_cell hb6 HC5.out
            replace hHeld := hHeld' rfl
            clear hHeld' hK K
            try dsimp only at hHeld
            refine wpAnyJ_takeL (i := 6) (d := some 50) (v := ?_) #[true, true, true, true, true, true, true] (by kernel_rfl) rfl rfl (by kernel_rfl) (by kernel_rfl) (by kernel_rfl) (by kernel_rfl) (by kernel_rfl) (fun _ _ _ h => h) (Or.inl ⟨by rfl, ?_⟩) hHeld ?_
            rotate_left
            · (intro w hSw; (try dsimp only at hSw);  go_simp; try with_reducible rfl)
            try simp only [Act.put, List.setIfInBounds_toArray, List.set_cons_zero, List.set_cons_succ]
            refine wpAnyJ_done (by kernel_rfl) ?_ _
            have HS6 := Lib.hid (HS5.out.drew.later hb6)
            clear hHeld hb6
            go_wp2_with fail
            go_ret
            exact ⟨ret_int HR.out.symm, HS6.out.bl⟩
          rw [hu] at HUA HEB
          clear hu
          have HFN : Hid (firstE ds ls (i + 1) = 0) := HNEXT.out (by rw [HEB.out, if_neg (by simp)])
          go_upto_region 16 with (fail)
          refine wp_region_J (S := fun W' => W'.cell? ⟨wr.heap.size, 2, none⟩ = some (.int .i64 q)) (J := []) (by kernel_rfl) ?_ (fun hHeld => ?_)
          · exact HC5.out
          try dsimp only at hHeld
          refine wpAnyJ_takeL (i := 0) (d := some 51) (v := ?_) #[true, false, false, false, false, false, false] (by kernel_rfl) rfl rfl (by kernel_rfl) (by kernel_rfl) (by kernel_rfl) (by kernel_rfl) (by kernel_rfl) (fun _ _ _ h => h) (Or.inl ⟨by rfl, ?_⟩) hHeld ?_
          rotate_left
          · (intro w hSw; (try dsimp only at hSw);  go_simp; try with_reducible rfl)
          try simp only [Act.put, List.setIfInBounds_toArray, List.set_cons_zero, List.set_cons_succ]
          refine wpAnyJ_takeL (i := 1) (d := some 52) (v := ?_) #[true, true, false, false, false, false, false] (by kernel_rfl) rfl rfl (by kernel_rfl) (by kernel_rfl) (by kernel_rfl) (by kernel_rfl) (by kernel_rfl) (fun _ _ _ h => h) (Or.inl ⟨by rfl, ?_⟩) hHeld ?_
          rotate_left
          · (intro w hSw; (try dsimp only at hSw);  go_simp; try with_reducible rfl)
          try simp only [Act.put, List.setIfInBounds_toArray, List.set_cons_zero, List.set_cons_succ]
          refine wpAnyJ_takeL (i := 2) (d := some 53) (v := ?_) #[true, true, true, false, false, false, false] (by kernel_rfl) rfl rfl (by kernel_rfl) (by kernel_rfl) (by kernel_rfl) (by kernel_rfl) (by kernel_rfl) (fun _ _ _ h => h) (Or.inl ⟨by rfl, ?_⟩) hHeld ?_
          rotate_left
          · (intro w hSw; (try dsimp only at hSw);  go_simp; try with_reducible rfl)
          try simp only [Act.put, List.setIfInBounds_toArray, List.set_cons_zero, List.set_cons_succ]
          refine wpAnyJ_takeL (i := 3) (d := some 54) (v := ?_) #[true, true, true, true, false, false, false] (by kernel_rfl) rfl rfl (by kernel_rfl) (by kernel_rfl) (by kernel_rfl) (by kernel_rfl) (by kernel_rfl) (fun _ _ _ h => h) (Or.inl ⟨by rfl, ?_⟩) hHeld ?_
          rotate_left
          · (intro w hSw; (try dsimp only at hSw);  go_simp; try with_reducible rfl)
          try simp only [Act.put, List.setIfInBounds_toArray, List.set_cons_zero, List.set_cons_succ]
          refine wpAnyJ_takeL (i := 4) (d := some 55) (v := ?_) #[true, true, true, true, true, false, false] (by kernel_rfl) rfl rfl (by kernel_rfl) (by kernel_rfl) (by kernel_rfl) (by kernel_rfl) (by kernel_rfl) (fun _ _ _ h => h) (Or.inl ⟨by rfl, ?_⟩) hHeld ?_
          rotate_left
          · (intro w hSw; (try dsimp only at hSw);  go_simp; try with_reducible rfl)
          try simp only [Act.put, List.setIfInBounds_toArray, List.set_cons_zero, List.set_cons_succ]
          refine wpAnyJ_oneL (k := 5) #[true, true, true, true, true, true, false] (by kernel_rfl) (by kernel_rfl) rfl (fun K hK => ?_)
          (go_simp; refine HUA.out.mono ?_; rintro e w6 ⟨rfl, hb6⟩; go_simp)
          refine hK.out _ _ (fun _ => ?_) (fun hHeld' => ?_)
          · exact keep_cell hb6 HC5.out
          replace hHeld := hHeld' rfl
          clear hHeld' hK K
          try dsimp only at hHeld
          refine wpAnyJ_takeL (i := 6) (d := some 50) (v := ?_) #[true, true, true, true, true, true, true] (by kernel_rfl) rfl rfl (by kernel_rfl) (by kernel_rfl) (by kernel_rfl) (by kernel_rfl) (by kernel_rfl) (fun _ _ _ h => h) (Or.inl ⟨by rfl, ?_⟩) hHeld ?_
          rotate_left
          · (intro w hSw; (try dsimp only at hSw);  go_simp; try with_reducible rfl)
          try simp only [Act.put, List.setIfInBounds_toArray, List.set_cons_zero, List.set_cons_succ]
          refine wpAnyJ_done (by kernel_rfl) ?_ _
          have HS6 := Lib.hid (HS5.out.drew.later hb6)
          clear hHeld hb6
          go_wp2_with fail
          go_roundg (n - (i + 1))
          case rel => exact ⟨i + 1, by go_num, by omega, rfl, HFN, HS6⟩
          case measure => omega
      · have e0 : i = 0 := by omega
        have HOB : Hid (ordBad ls i ⟨d, p, q⟩ = false) := by unfold Hid ordBad; rw [decide_eq_false hi0]; rfl
        have qi : decide (0 < i) = false := by simp; omega
        have qi2 : decide ((0 : Int) < (i : Int)) = false := by simp; omega
        clear e0
        go_upto_region 12 with (fail)
        refine wp_region_J (S := fun _ => True) (J := []) (by kernel_rfl) ?_ (fun hHeld => ?_)
        · exact trivial
        try dsimp only at hHeld
        refine wpAnyJ_takeL (i := 0) (d := some 32) (v := ?_) #[true, false, false, false, false, false, false, false, false, false, false, false, false] (by kernel_rfl) rfl rfl (by kernel_rfl) (by kernel_rfl) (by kernel_rfl) (by kernel_rfl) (by kernel_rfl) (fun _ _ _ h => h) (Or.inl ⟨by rfl, ?_⟩) hHeld ?_
        rotate_left
        · (intro w hSw; (try dsimp only at hSw);  go_simp; try with_reducible rfl)
        try simp only [Act.put, List.setIfInBounds_toArray, List.set_cons_zero, List.set_cons_succ]
        refine wpAnyJ_takeL (i := 1) (d := some 33) (v := ?_) #[true, true, false, false, false, false, false, false, false, false, false, false, false] (by kernel_rfl) rfl rfl (by kernel_rfl) (by kernel_rfl) (by kernel_rfl) (by kernel_rfl) (by kernel_rfl) (fun _ _ _ h => h) (Or.inl ⟨by rfl, ?_⟩) hHeld ?_
        rotate_left
        · (intro w hSw; (try dsimp only at hSw);  go_simp; try with_reducible rfl)
        try simp only [Act.put, List.setIfInBounds_toArray, List.set_cons_zero, List.set_cons_succ]
        refine wpAnyJ_takeL (i := 2) (d := some 34) (v := ?_) #[true, true, true, false, false, false, false, false, false, false, false, false, false] (by kernel_rfl) rfl rfl (by kernel_rfl) (by kernel_rfl) (by kernel_rfl) (by kernel_rfl) (by kernel_rfl) (fun _ _ _ h => h) (Or.inl ⟨by rfl, ?_⟩) hHeld ?_
        rotate_left
        · (intro w hSw; (try dsimp only at hSw);  go_simp; try with_reducible rfl)
        try simp only [Act.put, List.setIfInBounds_toArray, List.set_cons_zero, List.set_cons_succ]
        refine wpAnyJ_takeL (i := 3) (d := some 35) (v := undef) #[true, true, true, true, false, false, false, false, false, false, false, false, false] (by kernel_rfl) rfl rfl (by kernel_rfl) (by kernel_rfl) (by kernel_rfl) (by kernel_rfl) (by kernel_rfl) (fun _ _ _ h => h) (Or.inr ⟨by rfl, by rfl⟩) hHeld ?_
        try simp only [Act.put, List.setIfInBounds_toArray, List.set_cons_zero, List.set_cons_succ]
        refine wpAnyJ_takeL (i := 4) (d := some 36) (v := undef) #[true, true, true, true, true, false, false, false, false, false, false, false, false] (by kernel_rfl) rfl rfl (by kernel_rfl) (by kernel_rfl) (by kernel_rfl) (by kernel_rfl) (by kernel_rfl) (fun _ _ _ h => h) (Or.inr ⟨by rfl, by rfl⟩) hHeld ?_
        try simp only [Act.put, List.setIfInBounds_toArray, List.set_cons_zero, List.set_cons_succ]
        refine wpAnyJ_takeL (i := 5) (d := some 37) (v := undef) #[true, true, true, true, true, true, false, false, false, false, false, false, false] (by kernel_rfl) rfl rfl (by kernel_rfl) (by kernel_rfl) (by kernel_rfl) (by kernel_rfl) (by kernel_rfl) (fun _ _ _ h => h) (Or.inr ⟨by rfl, by rfl⟩) hHeld ?_
        try simp only [Act.put, List.setIfInBounds_toArray, List.set_cons_zero, List.set_cons_succ]
        refine wpAnyJ_takeL (i := 6) (d := some 38) (v := undef) #[true, true, true, true, true, true, true, false, false, false, false, false, false] (by kernel_rfl) rfl rfl (by kernel_rfl) (by kernel_rfl) (by kernel_rfl) (by kernel_rfl) (by kernel_rfl) (fun _ _ _ h => h) (Or.inr ⟨by rfl, by rfl⟩) hHeld ?_
        try simp only [Act.put, List.setIfInBounds_toArray, List.set_cons_zero, List.set_cons_succ]
        refine wpAnyJ_takeL (i := 7) (d := some 39) (v := undef) #[true, true, true, true, true, true, true, true, false, false, false, false, false] (by kernel_rfl) rfl rfl (by kernel_rfl) (by kernel_rfl) (by kernel_rfl) (by kernel_rfl) (by kernel_rfl) (fun _ _ _ h => h) (Or.inr ⟨by rfl, by rfl⟩) hHeld ?_
        try simp only [Act.put, List.setIfInBounds_toArray, List.set_cons_zero, List.set_cons_succ]
        refine wpAnyJ_takeL (i := 8) (d := some 40) (v := undef) #[true, true, true, true, true, true, true, true, true, false, false, false, false] (by kernel_rfl) rfl rfl (by kernel_rfl) (by kernel_rfl) (by kernel_rfl) (by kernel_rfl) (by kernel_rfl) (fun _ _ _ h => h) (Or.inr ⟨by rfl, by rfl⟩) hHeld ?_
        try simp only [Act.put, List.setIfInBounds_toArray, List.set_cons_zero, List.set_cons_succ]
        refine wpAnyJ_takeL (i := 9) (d := some 41) (v := undef) #[true, true, true, true, true, true, true, true, true, true, false, false, false] (by kernel_rfl) rfl rfl (by kernel_rfl) (by kernel_rfl) (by kernel_rfl) (by kernel_rfl) (by kernel_rfl) (fun _ _ _ h => h) (Or.inr ⟨by rfl, by rfl⟩) hHeld ?_
        try simp only [Act.put, List.setIfInBounds_toArray, List.set_cons_zero, List.set_cons_succ]
        refine wpAnyJ_takeL (i := 10) (d := some 42) (v := undef) #[true, true, true, true, true, true, true, true, true, true, true, false, false] (by kernel_rfl) rfl rfl (by kernel_rfl) (by kernel_rfl) (by kernel_rfl) (by kernel_rfl) (by kernel_rfl) (fun _ _ _ h => h) (Or.inr ⟨by rfl, by rfl⟩) hHeld ?_
        try simp only [Act.put, List.setIfInBounds_toArray, List.set_cons_zero, List.set_cons_succ]
        refine wpAnyJ_takeL (i := 11) (d := some 43) (v := ?_) #[true, true, true, true, true, true, true, true, true, true, true, true, false] (by kernel_rfl) rfl rfl (by kernel_rfl) (by kernel_rfl) (by kernel_rfl) (by kernel_rfl) (by kernel_rfl) (fun _ _ _ h => h) (Or.inl ⟨by rfl, ?_⟩) hHeld ?_
        rotate_left
        · (intro w hSw; (try dsimp only at hSw);  go_simp; try with_reducible rfl)
        try simp only [Act.put, List.setIfInBounds_toArray, List.set_cons_zero, List.set_cons_succ]
        refine wpAnyJ_takeL (i := 12) (d := some 31) (v := ?_) #[true, true, true, true, true, true, true, true, true, true, true, true, true] (by kernel_rfl) rfl rfl (by kernel_rfl) (by kernel_rfl) (by kernel_rfl) (by kernel_rfl) (by kernel_rfl) (fun _ _ _ h => h) (Or.inl ⟨by rfl, ?_⟩) hHeld ?_
        rotate_left
        · (intro w hSw; (try dsimp only at hSw);  go_simp; try with_reducible rfl)
        try simp only [Act.put, List.setIfInBounds_toArray, List.set_cons_zero, List.set_cons_succ]
        refine wpAnyJ_done (by kernel_rfl) ?_ _
        have HS4 := Lib.hid (HS3.out.drew)
        have HK4 := Lib.hid (show Blk w3.drew wr.heap.size 43 #[.int .i64 d, .int .i64 p, .int .i64 q] from HK3.out)
        have hz4d : wr.heap.size + 1 ≤ w3.drew.heap.size := by simp only [World.drew]; omega
        clear hHeld HS3 HK3 qi qi2 hz3
        generalize World.drew w3 = w4 at *
        have HNB := Lib.hid HOB.out
        have HEB : Hid (errAt ds ls i = if othL (ls.take i) ⟨d, p, q⟩ = true then 18 else if usdL (ls.take i) q = true then 4 else 0) := by unfold Hid; rw [HEA.out, if_neg (by rw [HNB.out]; simp)]
        clear HEA HOB HNB
        have HSL4 := Lib.hid (HS.out.below HS4.out.bl hBl)
        have hic : i ≤ c := by omega
        have HTK := Lib.hid (HSL4.out.takeK (fun _ => rfl) (by decide) hi)
        have HBX4 : Hid (w4.cell? ⟨wr.heap.size, 0, none⟩ = some (.int .i64 d) ∧ w4.cell? ⟨wr.heap.size, 1, none⟩ = some (.int .i64 p) ∧ w4.cell? ⟨wr.heap.size, 2, none⟩ = some (.int .i64 q)) := ⟨HK4.out.cell 0, HK4.out.cell 1, HK4.out.cell 2⟩
        have hz4 := HS4.out.bl.size
        have HOA := Lib.hid (other_any (some ⟨b, off, none⟩) i c Bl (ls.take i) d p q w4.drew HTK.out (by simp only [World.drew]; omega))
        go_wp2_with fail
        rcases ho : othL (ls.take i) ⟨d, p, q⟩ with _ | _
        rotate_left
        · rw [ho] at HOA HEB
          clear ho
          have HR : Hid (locksErr ns ds ls = 18) := HSTOP.out _ (by rw [HEB.out, if_pos rfl]) (by decide)
          go_upto_region 14 with (fail)
          refine wp_region_J (S := fun W' => W'.cell? ⟨wr.heap.size, 0, none⟩ = some (.int .i64 d) ∧ W'.cell? ⟨wr.heap.size, 1, none⟩ = some (.int .i64 p) ∧ W'.cell? ⟨wr.heap.size, 2, none⟩ = some (.int .i64 q)) (J := []) (by kernel_rfl) ?_ (fun hHeld => ?_)
          · exact HBX4.out
          try dsimp only at hHeld
          refine wpAnyJ_takeL (i := 0) (d := some 45) (v := ?_) #[true, false, false, false, false, false] (by kernel_rfl) rfl rfl (by kernel_rfl) (by kernel_rfl) (by kernel_rfl) (by kernel_rfl) (by kernel_rfl) (fun _ _ _ h => h) (Or.inl ⟨by rfl, ?_⟩) hHeld ?_
          rotate_left
          · (intro w hSw; (try dsimp only at hSw);  go_simp; try with_reducible rfl)
          try simp only [Act.put, List.setIfInBounds_toArray, List.set_cons_zero, List.set_cons_succ]
          refine wpAnyJ_takeL (i := 1) (d := some 46) (v := ?_) #[true, true, false, false, false, false] (by kernel_rfl) rfl rfl (by kernel_rfl) (by kernel_rfl) (by kernel_rfl) (by kernel_rfl) (by kernel_rfl) (fun _ _ _ h => h) (Or.inl ⟨by rfl, ?_⟩) hHeld ?_
          rotate_left
          · (intro w hSw; (try dsimp only at hSw);  go_simp; try with_reducible rfl)
          try simp only [Act.put, List.setIfInBounds_toArray, List.set_cons_zero, List.set_cons_succ]
          refine wpAnyJ_takeL (i := 2) (d := some 47) (v := ?_) #[true, true, true, false, false, false] (by kernel_rfl) rfl rfl (by kernel_rfl) (by kernel_rfl) (by kernel_rfl) (by kernel_rfl) (by kernel_rfl) (fun _ _ _ h => h) (Or.inl ⟨by rfl, ?_⟩) hHeld ?_
          rotate_left
          · (intro w hSw; (try dsimp only at hSw);  go_simp; try with_reducible rfl)
          try simp only [Act.put, List.setIfInBounds_toArray, List.set_cons_zero, List.set_cons_succ]
          refine wpAnyJ_takeL (i := 3) (d := some 48) (v := ?_) #[true, true, true, true, false, false] (by kernel_rfl) rfl rfl (by kernel_rfl) (by kernel_rfl) (by kernel_rfl) (by kernel_rfl) (by kernel_rfl) (fun _ _ _ h => h) (Or.inl ⟨by rfl, ?_⟩) hHeld ?_
          rotate_left
          · (intro w hSw; (try dsimp only at hSw);  go_simp; try with_reducible rfl)
          try simp only [Act.put, List.setIfInBounds_toArray, List.set_cons_zero, List.set_cons_succ]
          refine wpAnyJ_oneL (k := 4) #[true, true, true, true, true, false] (by kernel_rfl) (by kernel_rfl) rfl (fun K hK => ?_)
          (go_simp; refine HOA.out.mono ?_; rintro e w5 ⟨rfl, hb5⟩; go_simp)
          refine hK.out _ _ (fun _ => ?_) (fun hHeld' => ?_)
          · exact ⟨keep_cell hb5 HBX4.out.1, keep_cell hb5 HBX4.out.2.1, keep_cell hb5 HBX4.out.2.2⟩
          replace hHeld := hHeld' rfl
          clear hHeld' hK K
          try dsimp only at hHeld
          refine wpAnyJ_takeL (i := 5) (d := some 44) (v := ?_) #[true, true, true, true, true, true] (by kernel_rfl) rfl rfl (by kernel_rfl) (by kernel_rfl) (by kernel_rfl) (by kernel_rfl) (by kernel_rfl) (fun _ _ _ h => h) (Or.inl ⟨by rfl, ?_⟩) hHeld ?_
          rotate_left
          · (intro w hSw; (try dsimp only at hSw);  go_simp; try with_reducible rfl)
          try simp only [Act.put, List.setIfInBounds_toArray, List.set_cons_zero, List.set_cons_succ]
          refine wpAnyJ_done (by kernel_rfl) ?_ _
          have HS5 := Lib.hid (HS4.out.drew.later hb5)
          clear hHeld hb5
          go_wp2_with fail
          go_ret
          exact ⟨ret_int HR.out.symm, HS5.out.bl⟩
        rw [ho] at HOA HEB
        replace HEB : Hid (errAt ds ls i = if usdL (ls.take i) q = true then 4 else 0) := by unfold Hid; rw [HEB.out, if_neg (by simp)]
        clear ho
        go_upto_region 14 with (fail)
        refine wp_region_J (S := fun W' => W'.cell? ⟨wr.heap.size, 0, none⟩ = some (.int .i64 d) ∧ W'.cell? ⟨wr.heap.size, 1, none⟩ = some (.int .i64 p) ∧ W'.cell? ⟨wr.heap.size, 2, none⟩ = some (.int .i64 q)) (J := []) (by kernel_rfl) ?_ (fun hHeld => ?_)
        · exact HBX4.out
        try dsimp only at hHeld
        refine wpAnyJ_takeL (i := 0) (d := some 45) (v := ?_) #[true, false, false, false, false, false] (by kernel_rfl) rfl rfl (by kernel_rfl) (by kernel_rfl) (by kernel_rfl) (by kernel_rfl) (by kernel_rfl) (fun _ _ _ h => h) (Or.inl ⟨by rfl, ?_⟩) hHeld ?_
        rotate_left
        · (intro w hSw; (try dsimp only at hSw);  go_simp; try with_reducible rfl)
        try simp only [Act.put, List.setIfInBounds_toArray, List.set_cons_zero, List.set_cons_succ]
        refine wpAnyJ_takeL (i := 1) (d := some 46) (v := ?_) #[true, true, false, false, false, false] (by kernel_rfl) rfl rfl (by kernel_rfl) (by kernel_rfl) (by kernel_rfl) (by kernel_rfl) (by kernel_rfl) (fun _ _ _ h => h) (Or.inl ⟨by rfl, ?_⟩) hHeld ?_
        rotate_left
        · (intro w hSw; (try dsimp only at hSw);  go_simp; try with_reducible rfl)
        try simp only [Act.put, List.setIfInBounds_toArray, List.set_cons_zero, List.set_cons_succ]
        refine wpAnyJ_takeL (i := 2) (d := some 47) (v := ?_) #[true, true, true, false, false, false] (by kernel_rfl) rfl rfl (by kernel_rfl) (by kernel_rfl) (by kernel_rfl) (by kernel_rfl) (by kernel_rfl) (fun _ _ _ h => h) (Or.inl ⟨by rfl, ?_⟩) hHeld ?_
        rotate_left
        · (intro w hSw; (try dsimp only at hSw);  go_simp; try with_reducible rfl)
        try simp only [Act.put, List.setIfInBounds_toArray, List.set_cons_zero, List.set_cons_succ]
        refine wpAnyJ_takeL (i := 3) (d := some 48) (v := ?_) #[true, true, true, true, false, false] (by kernel_rfl) rfl rfl (by kernel_rfl) (by kernel_rfl) (by kernel_rfl) (by kernel_rfl) (by kernel_rfl) (fun _ _ _ h => h) (Or.inl ⟨by rfl, ?_⟩) hHeld ?_
        rotate_left
        · (intro w hSw; (try dsimp only at hSw);  go_simp; try with_reducible rfl)
        try simp only [Act.put, List.setIfInBounds_toArray, List.set_cons_zero, List.set_cons_succ]
        refine wpAnyJ_oneL (k := 4) #[true, true, true, true, true, false] (by kernel_rfl) (by kernel_rfl) rfl (fun K hK => ?_)
        (go_simp; refine HOA.out.mono ?_; rintro e w5 ⟨rfl, hb5⟩; go_simp)
        refine hK.out _ _ (fun _ => ?_) (fun hHeld' => ?_)
        · exact ⟨keep_cell hb5 HBX4.out.1, keep_cell hb5 HBX4.out.2.1, keep_cell hb5 HBX4.out.2.2⟩
        replace hHeld := hHeld' rfl
        clear hHeld' hK K
        try dsimp only at hHeld
        refine wpAnyJ_takeL (i := 5) (d := some 44) (v := ?_) #[true, true, true, true, true, true] (by kernel_rfl) rfl rfl (by kernel_rfl) (by kernel_rfl) (by kernel_rfl) (by kernel_rfl) (by kernel_rfl) (fun _ _ _ h => h) (Or.inl ⟨by rfl, ?_⟩) hHeld ?_
        rotate_left
        · (intro w hSw; (try dsimp only at hSw);  go_simp; try with_reducible rfl)
        try simp only [Act.put, List.setIfInBounds_toArray, List.set_cons_zero, List.set_cons_succ]
        refine wpAnyJ_done (by kernel_rfl) ?_ _
        have HS5 := Lib.hid (HS4.out.drew.later hb5)
        have HTK5 := Lib.hid (HTK.out.drew.below hb5 (by simp only [World.drew]; omega))
        have HC5 : Hid (w5.cell? ⟨wr.heap.size, 2, none⟩ = some (.int .i64 q)) := hHeld.2.2
        clear hHeld hb5 HOA HBX4 HSL4 HTK HK4
        have hz5 := HS5.out.bl.size
        have HUA := Lib.hid (used_any (some ⟨b, off, none⟩) i c Bl (ls.take i) q w5.drew HTK5.out (by simp only [World.drew]; omega))
        rcases hu : usdL (ls.take i) q with _ | _
        rotate_left
        · rw [hu] at HUA HEB
          clear hu
          have HR : Hid (locksErr ns ds ls = 4) := HSTOP.out _ (by rw [HEB.out, if_pos rfl]) (by decide)
          go_upto_region 16 with (fail)
          refine wp_region_J (S := fun W' => W'.cell? ⟨wr.heap.size, 2, none⟩ = some (.int .i64 q)) (J := []) (by kernel_rfl) ?_ (fun hHeld => ?_)
          · exact HC5.out
          try dsimp only at hHeld
          refine wpAnyJ_takeL (i := 0) (d := some 51) (v := ?_) #[true, false, false, false, false, false, false] (by kernel_rfl) rfl rfl (by kernel_rfl) (by kernel_rfl) (by kernel_rfl) (by kernel_rfl) (by kernel_rfl) (fun _ _ _ h => h) (Or.inl ⟨by rfl, ?_⟩) hHeld ?_
          rotate_left
          · (intro w hSw; (try dsimp only at hSw);  go_simp; try with_reducible rfl)
          try simp only [Act.put, List.setIfInBounds_toArray, List.set_cons_zero, List.set_cons_succ]
          refine wpAnyJ_takeL (i := 1) (d := some 52) (v := ?_) #[true, true, false, false, false, false, false] (by kernel_rfl) rfl rfl (by kernel_rfl) (by kernel_rfl) (by kernel_rfl) (by kernel_rfl) (by kernel_rfl) (fun _ _ _ h => h) (Or.inl ⟨by rfl, ?_⟩) hHeld ?_
          rotate_left
          · (intro w hSw; (try dsimp only at hSw);  go_simp; try with_reducible rfl)
          try simp only [Act.put, List.setIfInBounds_toArray, List.set_cons_zero, List.set_cons_succ]
          refine wpAnyJ_takeL (i := 2) (d := some 53) (v := ?_) #[true, true, true, false, false, false, false] (by kernel_rfl) rfl rfl (by kernel_rfl) (by kernel_rfl) (by kernel_rfl) (by kernel_rfl) (by kernel_rfl) (fun _ _ _ h => h) (Or.inl ⟨by rfl, ?_⟩) hHeld ?_
          rotate_left
          · (intro w hSw; (try dsimp only at hSw);  go_simp; try with_reducible rfl)
          try simp only [Act.put, List.setIfInBounds_toArray, List.set_cons_zero, List.set_cons_succ]
          refine wpAnyJ_takeL (i := 3) (d := some 54) (v := ?_) #[true, true, true, true, false, false, false] (by kernel_rfl) rfl rfl (by kernel_rfl) (by kernel_rfl) (by kernel_rfl) (by kernel_rfl) (by kernel_rfl) (fun _ _ _ h => h) (Or.inl ⟨by rfl, ?_⟩) hHeld ?_
          rotate_left
          · (intro w hSw; (try dsimp only at hSw);  go_simp; try with_reducible rfl)
          try simp only [Act.put, List.setIfInBounds_toArray, List.set_cons_zero, List.set_cons_succ]
          refine wpAnyJ_takeL (i := 4) (d := some 55) (v := ?_) #[true, true, true, true, true, false, false] (by kernel_rfl) rfl rfl (by kernel_rfl) (by kernel_rfl) (by kernel_rfl) (by kernel_rfl) (by kernel_rfl) (fun _ _ _ h => h) (Or.inl ⟨by rfl, ?_⟩) hHeld ?_
          rotate_left
          · (intro w hSw; (try dsimp only at hSw);  go_simp; try with_reducible rfl)
          try simp only [Act.put, List.setIfInBounds_toArray, List.set_cons_zero, List.set_cons_succ]
          refine wpAnyJ_oneL (k := 5) #[true, true, true, true, true, true, false] (by kernel_rfl) (by kernel_rfl) rfl (fun K hK => ?_)
          (go_simp; refine HUA.out.mono ?_; rintro e w6 ⟨rfl, hb6⟩; go_simp)
          refine hK.out _ _ (fun _ => ?_) (fun hHeld' => ?_)
          · exact keep_cell hb6 HC5.out
          replace hHeld := hHeld' rfl
          clear hHeld' hK K
          try dsimp only at hHeld
          refine wpAnyJ_takeL (i := 6) (d := some 50) (v := ?_) #[true, true, true, true, true, true, true] (by kernel_rfl) rfl rfl (by kernel_rfl) (by kernel_rfl) (by kernel_rfl) (by kernel_rfl) (by kernel_rfl) (fun _ _ _ h => h) (Or.inl ⟨by rfl, ?_⟩) hHeld ?_
          rotate_left
          · (intro w hSw; (try dsimp only at hSw);  go_simp; try with_reducible rfl)
          try simp only [Act.put, List.setIfInBounds_toArray, List.set_cons_zero, List.set_cons_succ]
          refine wpAnyJ_done (by kernel_rfl) ?_ _
          have HS6 := Lib.hid (HS5.out.drew.later hb6)
          clear hHeld hb6
          go_wp2_with fail
          go_ret
          exact ⟨ret_int HR.out.symm, HS6.out.bl⟩
        rw [hu] at HUA HEB
        clear hu
        have HFN : Hid (firstE ds ls (i + 1) = 0) := HNEXT.out (by rw [HEB.out, if_neg (by simp)])
        go_upto_region 16 with (fail)
        refine wp_region_J (S := fun W' => W'.cell? ⟨wr.heap.size, 2, none⟩ = some (.int .i64 q)) (J := []) (by kernel_rfl) ?_ (fun hHeld => ?_)
        · exact HC5.out
        try dsimp only at hHeld
        refine wpAnyJ_takeL (i := 0) (d := some 51) (v := ?_) #[true, false, false, false, false, false, false] (by kernel_rfl) rfl rfl (by kernel_rfl) (by kernel_rfl) (by kernel_rfl) (by kernel_rfl) (by kernel_rfl) (fun _ _ _ h => h) (Or.inl ⟨by rfl, ?_⟩) hHeld ?_
        rotate_left
        · (intro w hSw; (try dsimp only at hSw);  go_simp; try with_reducible rfl)
        try simp only [Act.put, List.setIfInBounds_toArray, List.set_cons_zero, List.set_cons_succ]
        refine wpAnyJ_takeL (i := 1) (d := some 52) (v := ?_) #[true, true, false, false, false, false, false] (by kernel_rfl) rfl rfl (by kernel_rfl) (by kernel_rfl) (by kernel_rfl) (by kernel_rfl) (by kernel_rfl) (fun _ _ _ h => h) (Or.inl ⟨by rfl, ?_⟩) hHeld ?_
        rotate_left
        · (intro w hSw; (try dsimp only at hSw);  go_simp; try with_reducible rfl)
        try simp only [Act.put, List.setIfInBounds_toArray, List.set_cons_zero, List.set_cons_succ]
        refine wpAnyJ_takeL (i := 2) (d := some 53) (v := ?_) #[true, true, true, false, false, false, false] (by kernel_rfl) rfl rfl (by kernel_rfl) (by kernel_rfl) (by kernel_rfl) (by kernel_rfl) (by kernel_rfl) (fun _ _ _ h => h) (Or.inl ⟨by rfl, ?_⟩) hHeld ?_
        rotate_left
        · (intro w hSw; (try dsimp only at hSw);  go_simp; try with_reducible rfl)
        try simp only [Act.put, List.setIfInBounds_toArray, List.set_cons_zero, List.set_cons_succ]
        refine wpAnyJ_takeL (i := 3) (d := some 54) (v := ?_) #[true, true, true, true, false, false, false] (by kernel_rfl) rfl rfl (by kernel_rfl) (by kernel_rfl) (by kernel_rfl) (by kernel_rfl) (by kernel_rfl) (fun _ _ _ h => h) (Or.inl ⟨by rfl, ?_⟩) hHeld ?_
        rotate_left
        · (intro w hSw; (try dsimp only at hSw);  go_simp; try with_reducible rfl)
        try simp only [Act.put, List.setIfInBounds_toArray, List.set_cons_zero, List.set_cons_succ]
        refine wpAnyJ_takeL (i := 4) (d := some 55) (v := ?_) #[true, true, true, true, true, false, false] (by kernel_rfl) rfl rfl (by kernel_rfl) (by kernel_rfl) (by kernel_rfl) (by kernel_rfl) (by kernel_rfl) (fun _ _ _ h => h) (Or.inl ⟨by rfl, ?_⟩) hHeld ?_
        rotate_left
        · (intro w hSw; (try dsimp only at hSw);  go_simp; try with_reducible rfl)
        try simp only [Act.put, List.setIfInBounds_toArray, List.set_cons_zero, List.set_cons_succ]
        refine wpAnyJ_oneL (k := 5) #[true, true, true, true, true, true, false] (by kernel_rfl) (by kernel_rfl) rfl (fun K hK => ?_)
        (go_simp; refine HUA.out.mono ?_; rintro e w6 ⟨rfl, hb6⟩; go_simp)
        refine hK.out _ _ (fun _ => ?_) (fun hHeld' => ?_)
        · exact keep_cell hb6 HC5.out
        replace hHeld := hHeld' rfl
        clear hHeld' hK K
        try dsimp only at hHeld
        refine wpAnyJ_takeL (i := 6) (d := some 50) (v := ?_) #[true, true, true, true, true, true, true] (by kernel_rfl) rfl rfl (by kernel_rfl) (by kernel_rfl) (by kernel_rfl) (by kernel_rfl) (by kernel_rfl) (fun _ _ _ h => h) (Or.inl ⟨by rfl, ?_⟩) hHeld ?_
        rotate_left
        · (intro w hSw; (try dsimp only at hSw);  go_simp; try with_reducible rfl)
        try simp only [Act.put, List.setIfInBounds_toArray, List.set_cons_zero, List.set_cons_succ]
        refine wpAnyJ_done (by kernel_rfl) ?_ _
        have HS6 := Lib.hid (HS5.out.drew.later hb6)
        clear hHeld hb6
        go_wp2_with fail
        go_roundg (n - (i + 1))
        case rel => exact ⟨i + 1, by go_num, by omega, rfl, HFN, HS6⟩
        case measure => omega
    · obtain rfl : i = n := by omega
      have hii : decide (i < i) = false := by simp
      have HR : Hid (locksErr ns ds ls = 0) := by unfold Hid; rw [HE.out, hfe.out]
      go_wp2_with fail
      go_ret
      exact ⟨ret_int HR.out.symm, hst.out.bl⟩
end Go.Proofs.YtlcaebfjdhgcfaaDoor
