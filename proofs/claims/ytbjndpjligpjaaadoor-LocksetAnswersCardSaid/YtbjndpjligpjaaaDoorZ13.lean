import Derived.Test.YtbjndpjligpjaaaDoorZ12
import Derived.Test.YtbjndpjligpjaaaDoorZ05
/-
  The program's layer 14: walk of Check.
-/
namespace Go.Proofs.YtbjndpjligpjaaaDoor
open Go.RowKit
theorem below_grow {w w' : World} (h : ∃ q os, w' = Go.Sort.grow (w.drewN q) os) : Below w.heap.size w w' := by
  obtain ⟨q, os, rfl⟩ := h
  exact ⟨rfl, rfl, rfl, by simp [Go.Sort.grow, World.drewN], fun i hi => by simp only [Go.Sort.grow, World.drewN]; rw [Array.getElem?_append_left hi]⟩
/-- The memory of the call: its box. -/
structure PcSt (w : World) (N : Array Value) (wr : World) : Prop where
  bn : Blk wr w.heap.size 27 N
  bl : Below w.heap.size w wr
theorem PcSt.later {w wr wr' : World} {N : Array Value} (h : PcSt w N wr) (hb : Below wr.heap.size wr wr') : PcSt w N wr' := ⟨h.bn.below hb h.bn.lt, h.bl.trans (hb.mono h.bl.size)⟩
theorem PcSt.drew {w wr : World} {N : Array Value} (h : PcSt w N wr) : PcSt w N wr.drew := h.later (Below.refl _ _).drew
def PcR (w : World) (N : Array Value) (ds : List Dv) (ls : List Lk) (n gk : Nat) (iv : Value) (wr : World) : Prop := ∃ i : Nat, iv = .int .i64 i ∧ i ≤ n ∧ gk = n - i ∧ Hid (firstE ds ls i = 0) ∧ Hid (PcSt w N wr)
set_option maxRecDepth 100000 in
set_option maxHeartbeats 8000000 in
theorem lcheck_any (An Ad Al : Option Addr) (nn cn nd cd n c Bn Bd Bl : Nat) (ns : List Nd) (ds : List Dv) (ls : List Lk) (w : World) (hl : Laid w) (hn : Sl w Bn 3 An nn cn (ns.flatMap Nd.cells)) (hd : Sl w Bd 5 Ad nd cd (ds.flatMap Dv.cells)) (hs : Sl w Bl 3 Al n c (ls.flatMap Lk.cells)) (hBn : Bn ≤ w.heap.size) (hBd : Bd ≤ w.heap.size) (hBl : Bl ≤ w.heap.size)
    (hsn : ∀ x ∈ ns, x.name.size ≤ 9223372036854775807) (hsd : ∀ x ∈ ds, x.name.size ≤ 9223372036854775807) :
    Calls Tryd.prog 18 #[.agg #[.slice An nn cn, .slice Ad nd cd], .slice Al n c] w fun e w' => e = .returned (.int .i64 (locksErr ns ds ls)) ∧ Below w.heap.size w w' := by
  have hle := hs.le
  have hll := hs.len (fun _ => rfl) (by decide)
  have HNL := Lib.hid hll
  have HE : Hid (locksErr ns ds ls = if checkN ns ds ≠ 0 then checkN ns ds else if 128 < n then 1 else firstE ds ls n) := by unfold Hid locksErr; rw [hll]
  have HST : Hid (PcSt w #[.slice An nn cn, .slice Ad nd cd] (w.alloc (.cells #[.slice An nn cn, .slice Ad nd cd] 27))) := ⟨Blk.new _ _ _, (Below.refl _ _).alloc (Nat.le_refl _) _⟩
  have HCK := Lib.hid (ncheck_any An Ad nn cn nd cd Bn Bd ns ds (w.alloc (.cells #[.slice An nn cn, .slice Ad nd cd] 27)) (hl.alloc _) (hn.below HST.out.bl hBn) (hd.below HST.out.bl hBd) (by simp; omega) (by simp; omega) hsn hsd)
  have HD := Lib.hid hd; have HS := Lib.hid hs
  clear hn hd hs hsn hsd hl hll
  go_enter Tryd.func18, Tryd.ntmps18
  go_wp2_with fail
  generalize World.alloc _ _ = W at *
  refine HCK.out.mono ?_
  rintro e w1 ⟨rfl, hb1⟩
  have HS1 := Lib.hid (HST.out.later hb1)
  clear hb1 HST HCK
  by_cases h0 : checkN ns ds = 0; rotate_left
  · have q0 : (checkN ns ds != 0) = true := by simpa using h0
    have HR : Hid (locksErr ns ds ls = checkN ns ds) := by unfold Hid; rw [HE.out, if_pos h0]
    clear h0
    go_wp2_with fail
    go_ret
    exact ⟨ret_int HR.out.symm, HS1.out.bl⟩
  rw [h0]
  replace HE : Hid (locksErr ns ds ls = if 128 < n then 1 else firstE ds ls n) := by unfold Hid; rw [HE.out, if_neg (by simp [h0])]
  clear h0
  by_cases h1 : 128 < n
  · have q0 : decide ((128 : Int) < (n : Int)) = true := by simp; omega
    have q1 : decide (128 < n) = true := by simpa using h1
    have HR : Hid (locksErr ns ds ls = 1) := by unfold Hid; rw [HE.out, if_pos h1]
    clear h1
    go_wp2_with fail
    go_ret
    exact ⟨ret_int HR.out.symm, HS1.out.bl⟩
  have q0 : decide ((128 : Int) < (n : Int)) = false := by simp; omega
  have q1 : decide (128 < n) = false := by simpa using h1
  replace HE : Hid (locksErr ns ds ls = firstE ds ls n) := by unfold Hid; rw [HE.out, if_neg h1]
  clear h1
  go_wp2_with fail
  clear q0 q1
  go_loopg [19] n (PcR w #[.slice An nn cn, .slice Ad nd cd] ds ls n)
  case atStart => exact ⟨0, rfl, Nat.zero_le _, rfl, rfl, HS1⟩
  case round =>
    clear HS1
    obtain ⟨i, rfl, hi, rfl, hfe, hst⟩ := hrel
    by_cases hlt : i < n
    · obtain ⟨b, off, d, p, q, rfl, hb, hx, c0, c1, c2⟩ := (HS.out.below hst.out.bl hBl).lock hlt
      have HX := Lib.hid hx
      have HSTOP : Hid (∀ e, errAt ds ls i = e → e ≠ 0 → locksErr ns ds ls = e) := fun e he h => by rw [HE.out]; exact firstE_stop hfe.out he h n hlt
      have HNEXT : Hid (errAt ds ls i = 0 → firstE ds ls (i + 1) = 0) := fun he => firstE_next hfe.out he
      have HEA : Hid (errAt ds ls i = if lkErr ds ⟨d, p, q⟩ ≠ 0 then lkErr ds ⟨d, p, q⟩ else if ordBad ls i ⟨d, p, q⟩ = true then 14 else if othL (ls.take i) ⟨d, p, q⟩ = true then 18 else if usdL (ls.take i) q = true then 4 else 0) := by unfold Hid errAt; rw [hx]
      have HS2 : Hid (PcSt w #[.slice An nn cn, .slice Ad nd cd] (wr.alloc (.cells #[.int .i64 d, .int .i64 p, .int .i64 q] 29))) := hst.out.later ((Below.refl _ _).alloc (Nat.le_refl _) _)
      have HK2 : Hid (Blk (wr.alloc (.cells #[.int .i64 d, .int .i64 p, .int .i64 q] 29)) wr.heap.size 29 #[.int .i64 d, .int .i64 p, .int .i64 q]) := Blk.new _ _ _
      have hzk := hst.out.bl.size
      have HBX : Hid (Below w.heap.size w wr) := hst.out.bl
      clear hx hfe hst
      go_upto_region 9 with (fail)
      clear c0 c1 c2
      generalize hW2 : World.alloc wr _ = W2 at *
      have hz2 : W2.heap.size = wr.heap.size + 1 := by rw [← hW2]; simp
      have HSL2 := Lib.hid (HS.out.below HS2.out.bl hBl)
      have HDL2 := Lib.hid (HD.out.below HS2.out.bl hBd)
      clear hW2
      have k0 : W2.cell? ⟨w.heap.size, 0, none⟩ = some (.slice An nn cn) := HS2.out.bn.cell 0
      have k1 : W2.cell? ⟨w.heap.size, 1, none⟩ = some (.slice Ad nd cd) := HS2.out.bn.cell 1
      have m0 : W2.cell? ⟨wr.heap.size, 0, none⟩ = some (.int .i64 d) := HK2.out.cell 0
      have m1 : W2.cell? ⟨wr.heap.size, 1, none⟩ = some (.int .i64 p) := HK2.out.cell 1
      have m2 : W2.cell? ⟨wr.heap.size, 2, none⟩ = some (.int .i64 q) := HK2.out.cell 2
      go_wp2_with fail
      clear k0 k1 m0 m1 m2
      refine (valid_any An Ad nn cn nd cd Bd ds d p q W2 HDL2.out (by omega)).mono ?_
      rintro e w3 ⟨rfl, hb3⟩
      have HS3 := Lib.hid (HS2.out.later hb3)
      have HK3 := Lib.hid (HK2.out.below hb3 HK2.out.lt)
      have hz3 := hb3.size
      clear HS2 HK2 HSL2 HDL2 hb3
      by_cases hv : lkErr ds ⟨d, p, q⟩ = 0; rotate_left
      · have qv : (lkErr ds ⟨d, p, q⟩ != 0) = true := by simpa using hv
        have HR : Hid (locksErr ns ds ls = lkErr ds ⟨d, p, q⟩) := HSTOP.out _ (by rw [HEA.out, if_pos hv]) hv
        clear hv
        go_wp2_with fail
        go_ret
        exact ⟨ret_int HR.out.symm, HS3.out.bl⟩
      rw [hv]
      replace HEA : Hid (errAt ds ls i = if ordBad ls i ⟨d, p, q⟩ = true then 14 else if othL (ls.take i) ⟨d, p, q⟩ = true then 18 else if usdL (ls.take i) q = true then 4 else 0) := by unfold Hid; rw [HEA.out, if_neg (by simp [hv])]
      clear hv
      by_cases hi0 : 0 < i
      · obtain ⟨b1, off1, d1, p1, q1, hA1, _, hx1, g0, g1, g2⟩ := (HS.out.below HS3.out.bl hBl).lock (i := i - 1) (by omega)
        injection hA1 with hA1; injection hA1 with h1 h2; subst h1 h2
        have HOB := Lib.hid (ordBad_at (k := ⟨d, p, q⟩) hi0 hx1)
        have HCS : Hid (w3.cell? ⟨b, off + (i - 1) * 3, none⟩ = some (.int .i64 d1) ∧ w3.cell? ⟨b, off + (i - 1) * 3 + 1, none⟩ = some (.int .i64 p1) ∧ w3.cell? ⟨b, off + (i - 1) * 3 + 2, none⟩ = some (.int .i64 q1) ∧ w3.cell? ⟨wr.heap.size, 0, none⟩ = some (.int .i64 d) ∧ w3.cell? ⟨wr.heap.size, 1, none⟩ = some (.int .i64 p) ∧ w3.cell? ⟨wr.heap.size, 2, none⟩ = some (.int .i64 q)) := ⟨g0, g1, g2, HK3.out.cell 0, HK3.out.cell 1, HK3.out.cell 2⟩
        clear g0 g1 g2 hx1
        obtain ⟨i1, hi1⟩ : ∃ i1, i1 = i - 1 := ⟨_, rfl⟩
        rw [← hi1] at HCS
        have e1 : IntKind.i64.wrap ((i : Int) - 1) = (i1 : Int) := by rw [IntWalk.i64_in _ (by omega)]; omega
        have hi1n : i1 < n := by omega
        have qi : decide ((0 : Int) < (i : Int)) = true := by simp; omega
        clear hi1
        have HBE := Lib.hid (order_any ⟨d1, p1, q1⟩ ⟨d, p, q⟩ w3.drew)
        have HLT := Lib.hid (ord_lt ⟨d1, p1, q1⟩ ⟨d, p, q⟩)
        generalize ordI ⟨d1, p1, q1⟩ ⟨d, p, q⟩ = r at *
        rcases hbb : befB ⟨d1, p1, q1⟩ ⟨d, p, q⟩ with _ | _
        · rw [hbb] at HOB HLT
          have qr : decide (0 ≤ r) = true := by have := HLT.out; simp at this ⊢; omega
          have HR : Hid (locksErr ns ds ls = 14) := HSTOP.out _ (by rw [HEA.out, if_pos (by rw [HOB.out]; rfl)]) (by decide)
          clear hbb
          go_upto_region 12 with (fail)
          refine wp_region_J (S := fun W' => W'.cell? ⟨b, off + i1 * 3, none⟩ = some (.int .i64 d1) ∧ W'.cell? ⟨b, off + i1 * 3 + 1, none⟩ = some (.int .i64 p1) ∧ W'.cell? ⟨b, off + i1 * 3 + 2, none⟩ = some (.int .i64 q1) ∧ W'.cell? ⟨wr.heap.size, 0, none⟩ = some (.int .i64 d) ∧ W'.cell? ⟨wr.heap.size, 1, none⟩ = some (.int .i64 p) ∧ W'.cell? ⟨wr.heap.size, 2, none⟩ = some (.int .i64 q)) (J := []) (by kernel_rfl) ?_ (fun hHeld => ?_)
          · exact HCS.out
          try dsimp only at hHeld
          refine wpAnyJ_takeL (i := 0) (d := some 32) (v := ?_) #[true, false, false, false, false, false, false, false, false, false, false, false, false] (by kernel_rfl) rfl rfl (by kernel_rfl) (by kernel_rfl) (by kernel_rfl) (by kernel_rfl) (by kernel_rfl) (fun _ _ _ h => h) (Or.inl ⟨by rfl, ?_⟩) hHeld ?_
          rotate_left
          · (intro w hSw; (try dsimp only at hSw);  go_simp; try with_reducible rfl)
          try simp only [Act.put, List.setIfInBounds_toArray, List.set_cons_zero, List.set_cons_succ]
          refine wpAnyJ_takeL (i := 1) (d := some 33) (v := ?_) #[true, true, false, false, false, false, false, false, false, false, false, false, false] (by kernel_rfl) rfl rfl (by kernel_rfl) (by kernel_rfl) (by kernel_rfl) (by kernel_rfl) (by kernel_rfl) (fun _ _ _ h => h) (Or.inl ⟨by rfl, ?_⟩) hHeld ?_
          rotate_left
          · (intro w hSw; (try dsimp only at hSw);  go_simp; try with_reducible rfl)
          try simp only [Act.put, List.setIfInBounds_toArray, List.set_cons_zero, List.set_cons_succ]
          refine wpAnyJ_takeL (i := 2) (d := some 34) (v := ?_) #[true, true, true, false, false, false, false, false, false, false, false, false, false] (by kernel_rfl) rfl rfl (by kernel_rfl) (by kernel_rfl) (by kernel_rfl) (by kernel_rfl) (by kernel_rfl) (fun _ _ _ h => h) (Or.inl ⟨by rfl, ?_⟩) hHeld ?_
          rotate_left
          · (intro w hSw; (try dsimp only at hSw);  go_simp; try with_reducible rfl)
          try simp only [Act.put, List.setIfInBounds_toArray, List.set_cons_zero, List.set_cons_succ]
          refine wpAnyJ_takeL (i := 3) (d := some 35) (v := ?_) #[true, true, true, true, false, false, false, false, false, false, false, false, false] (by kernel_rfl) rfl rfl (by kernel_rfl) (by kernel_rfl) (by kernel_rfl) (by kernel_rfl) (by kernel_rfl) (fun _ _ _ h => h) (Or.inl ⟨by rfl, ?_⟩) hHeld ?_
          rotate_left
          · (intro w hSw; (try dsimp only at hSw);  go_simp; try with_reducible rfl)
          try simp only [Act.put, List.setIfInBounds_toArray, List.set_cons_zero, List.set_cons_succ]
          refine wpAnyJ_takeL (i := 4) (d := some 36) (v := ?_) #[true, true, true, true, true, false, false, false, false, false, false, false, false] (by kernel_rfl) rfl rfl (by kernel_rfl) (by kernel_rfl) (by kernel_rfl) (by kernel_rfl) (by kernel_rfl) (fun _ _ _ h => h) (Or.inl ⟨by rfl, ?_⟩) hHeld ?_
          rotate_left
          · (intro w hSw; (try dsimp only at hSw);  go_simp; try with_reducible rfl)
          try simp only [Act.put, List.setIfInBounds_toArray, List.set_cons_zero, List.set_cons_succ]
          refine wpAnyJ_takeL (i := 5) (d := some 37) (v := ?_) #[true, true, true, true, true, true, false, false, false, false, false, false, false] (by kernel_rfl) rfl rfl (by kernel_rfl) (by kernel_rfl) (by kernel_rfl) (by kernel_rfl) (by kernel_rfl) (fun _ _ _ h => h) (Or.inl ⟨by rfl, ?_⟩) hHeld ?_
          rotate_left
          · (intro w hSw; (try dsimp only at hSw);  go_simp; try with_reducible rfl)
          try simp only [Act.put, List.setIfInBounds_toArray, List.set_cons_zero, List.set_cons_succ]
          refine wpAnyJ_takeL (i := 6) (d := some 38) (v := ?_) #[true, true, true, true, true, true, true, false, false, false, false, false, false] (by kernel_rfl) rfl rfl (by kernel_rfl) (by kernel_rfl) (by kernel_rfl) (by kernel_rfl) (by kernel_rfl) (fun _ _ _ h => h) (Or.inl ⟨by rfl, ?_⟩) hHeld ?_
          rotate_left
          · (intro w hSw; (try dsimp only at hSw);  go_simp; try with_reducible rfl)
          try simp only [Act.put, List.setIfInBounds_toArray, List.set_cons_zero, List.set_cons_succ]
          refine wpAnyJ_takeL (i := 7) (d := some 39) (v := ?_) #[true, true, true, true, true, true, true, true, false, false, false, false, false] (by kernel_rfl) rfl rfl (by kernel_rfl) (by kernel_rfl) (by kernel_rfl) (by kernel_rfl) (by kernel_rfl) (fun _ _ _ h => h) (Or.inl ⟨by rfl, ?_⟩) hHeld ?_
          rotate_left
          · (intro w hSw; (try dsimp only at hSw);  go_simp; try with_reducible rfl)
          try simp only [Act.put, List.setIfInBounds_toArray, List.set_cons_zero, List.set_cons_succ]
          refine wpAnyJ_takeL (i := 8) (d := some 40) (v := ?_) #[true, true, true, true, true, true, true, true, true, false, false, false, false] (by kernel_rfl) rfl rfl (by kernel_rfl) (by kernel_rfl) (by kernel_rfl) (by kernel_rfl) (by kernel_rfl) (fun _ _ _ h => h) (Or.inl ⟨by rfl, ?_⟩) hHeld ?_
          rotate_left
          · (intro w hSw; (try dsimp only at hSw);  go_simp; try with_reducible rfl)
          try simp only [Act.put, List.setIfInBounds_toArray, List.set_cons_zero, List.set_cons_succ]
          refine wpAnyJ_oneL (k := 9) #[true, true, true, true, true, true, true, true, true, true, false, false, false] (by kernel_rfl) (by kernel_rfl) rfl (fun K hK => ?_)
          (go_simp; refine HBE.out.mono ?_; rintro e w4 ⟨rfl, hb4⟩; go_simp)
          refine hK.out _ _ (fun _ => ?_) (fun hHeld' => ?_)
          · exact ⟨keep_cell (below_grow hb4) HCS.out.1, keep_cell (below_grow hb4) HCS.out.2.1, keep_cell (below_grow hb4) HCS.out.2.2.1, keep_cell (below_grow hb4) HCS.out.2.2.2.1, keep_cell (below_grow hb4) HCS.out.2.2.2.2.1, keep_cell (below_grow hb4) HCS.out.2.2.2.2.2⟩
          replace hHeld := hHeld' rfl
          clear hHeld' hK K
          try dsimp only at hHeld
          refine wpAnyJ_takeL (i := 10) (d := some 42) (v := ?_) #[true, true, true, true, true, true, true, true, true, true, true, false, false] (by kernel_rfl) rfl rfl (by kernel_rfl) (by kernel_rfl) (by kernel_rfl) (by kernel_rfl) (by kernel_rfl) (fun _ _ _ h => h) (Or.inl ⟨by rfl, ?_⟩) hHeld ?_
          rotate_left
          · (intro w hSw; (try dsimp only at hSw);  go_simp; try with_reducible rfl)
          try simp only [Act.put, List.setIfInBounds_toArray, List.set_cons_zero, List.set_cons_succ]
          refine wpAnyJ_takeL (i := 11) (d := some 43) (v := ?_) #[true, true, true, true, true, true, true, true, true, true, true, true, false] (by kernel_rfl) rfl rfl (by kernel_rfl) (by kernel_rfl) (by kernel_rfl) (by kernel_rfl) (by kernel_rfl) (fun _ _ _ h => h) (Or.inl ⟨by rfl, ?_⟩) hHeld ?_
          rotate_left
          · (intro w hSw; (try dsimp only at hSw);  go_simp; try with_reducible rfl)
          try simp only [Act.put, List.setIfInBounds_toArray, List.set_cons_zero, List.set_cons_succ]
          refine wpAnyJ_takeL (i := 12) (d := some 31) (v := ?_) #[true, true, true, true, true, true, true, true, true, true, true, true, true] (by kernel_rfl) rfl rfl (by kernel_rfl) (by kernel_rfl) (by kernel_rfl) (by kernel_rfl) (by kernel_rfl) (fun _ _ _ h => h) (Or.inl ⟨by rfl, ?_⟩) hHeld ?_
          rotate_left
          · (intro w hSw; (try dsimp only at hSw);  go_simp; try with_reducible rfl)
          try simp only [Act.put, List.setIfInBounds_toArray, List.set_cons_zero, List.set_cons_succ]
          refine wpAnyJ_done (by kernel_rfl) ?_ _
          have HS4 := Lib.hid (HS3.out.drew.later (below_grow hb4))
          clear hHeld hb4
          go_wp2_with fail
          go_ret
          exact ⟨ret_int HR.out.symm, HS4.out.bl⟩
        · rw [hbb] at HOB HLT
          have qr : decide (0 ≤ r) = false := by have := HLT.out; simp at this ⊢; omega
          replace HOB : Hid (ordBad ls i ⟨d, p, q⟩ = false) := by unfold Hid; rw [HOB.out]; rfl
          clear hbb
          go_upto_region 12 with (fail)
          refine wp_region_J (S := fun W' => W'.cell? ⟨b, off + i1 * 3, none⟩ = some (.int .i64 d1) ∧ W'.cell? ⟨b, off + i1 * 3 + 1, none⟩ = some (.int .i64 p1) ∧ W'.cell? ⟨b, off + i1 * 3 + 2, none⟩ = some (.int .i64 q1) ∧ W'.cell? ⟨wr.heap.size, 0, none⟩ = some (.int .i64 d) ∧ W'.cell? ⟨wr.heap.size, 1, none⟩ = some (.int .i64 p) ∧ W'.cell? ⟨wr.heap.size, 2, none⟩ = some (.int .i64 q)) (J := []) (by kernel_rfl) ?_ (fun hHeld => ?_)
          · exact HCS.out
          try dsimp only at hHeld
          refine wpAnyJ_takeL (i := 0) (d := some 32) (v := ?_) #[true, false, false, false, false, false, false, false, false, false, false, false, false] (by kernel_rfl) rfl rfl (by kernel_rfl) (by kernel_rfl) (by kernel_rfl) (by kernel_rfl) (by kernel_rfl) (fun _ _ _ h => h) (Or.inl ⟨by rfl, ?_⟩) hHeld ?_
          rotate_left
          · (intro w hSw; (try dsimp only at hSw);  go_simp; try with_reducible rfl)
          try simp only [Act.put, List.setIfInBounds_toArray, List.set_cons_zero, List.set_cons_succ]
          refine wpAnyJ_takeL (i := 1) (d := some 33) (v := ?_) #[true, true, false, false, false, false, false, false, false, false, false, false, false] (by kernel_rfl) rfl rfl (by kernel_rfl) (by kernel_rfl) (by kernel_rfl) (by kernel_rfl) (by kernel_rfl) (fun _ _ _ h => h) (Or.inl ⟨by rfl, ?_⟩) hHeld ?_
          rotate_left
          · (intro w hSw; (try dsimp only at hSw);  go_simp; try with_reducible rfl)
          try simp only [Act.put, List.setIfInBounds_toArray, List.set_cons_zero, List.set_cons_succ]
          refine wpAnyJ_takeL (i := 2) (d := some 34) (v := ?_) #[true, true, true, false, false, false, false, false, false, false, false, false, false] (by kernel_rfl) rfl rfl (by kernel_rfl) (by kernel_rfl) (by kernel_rfl) (by kernel_rfl) (by kernel_rfl) (fun _ _ _ h => h) (Or.inl ⟨by rfl, ?_⟩) hHeld ?_
          rotate_left
          · (intro w hSw; (try dsimp only at hSw);  go_simp; try with_reducible rfl)
          try simp only [Act.put, List.setIfInBounds_toArray, List.set_cons_zero, List.set_cons_succ]
          refine wpAnyJ_takeL (i := 3) (d := some 35) (v := ?_) #[true, true, true, true, false, false, false, false, false, false, false, false, false] (by kernel_rfl) rfl rfl (by kernel_rfl) (by kernel_rfl) (by kernel_rfl) (by kernel_rfl) (by kernel_rfl) (fun _ _ _ h => h) (Or.inl ⟨by rfl, ?_⟩) hHeld ?_
          rotate_left
          · (intro w hSw; (try dsimp only at hSw);  go_simp; try with_reducible rfl)
          try simp only [Act.put, List.setIfInBounds_toArray, List.set_cons_zero, List.set_cons_succ]
          refine wpAnyJ_takeL (i := 4) (d := some 36) (v := ?_) #[true, true, true, true, true, false, false, false, false, false, false, false, false] (by kernel_rfl) rfl rfl (by kernel_rfl) (by kernel_rfl) (by kernel_rfl) (by kernel_rfl) (by kernel_rfl) (fun _ _ _ h => h) (Or.inl ⟨by rfl, ?_⟩) hHeld ?_
          rotate_left
          · (intro w hSw; (try dsimp only at hSw);  go_simp; try with_reducible rfl)
          try simp only [Act.put, List.setIfInBounds_toArray, List.set_cons_zero, List.set_cons_succ]
          refine wpAnyJ_takeL (i := 5) (d := some 37) (v := ?_) #[true, true, true, true, true, true, false, false, false, false, false, false, false] (by kernel_rfl) rfl rfl (by kernel_rfl) (by kernel_rfl) (by kernel_rfl) (by kernel_rfl) (by kernel_rfl) (fun _ _ _ h => h) (Or.inl ⟨by rfl, ?_⟩) hHeld ?_
          rotate_left
          · (intro w hSw; (try dsimp only at hSw);  go_simp; try with_reducible rfl)
          try simp only [Act.put, List.setIfInBounds_toArray, List.set_cons_zero, List.set_cons_succ]
          refine wpAnyJ_takeL (i := 6) (d := some 38) (v := ?_) #[true, true, true, true, true, true, true, false, false, false, false, false, false] (by kernel_rfl) rfl rfl (by kernel_rfl) (by kernel_rfl) (by kernel_rfl) (by kernel_rfl) (by kernel_rfl) (fun _ _ _ h => h) (Or.inl ⟨by rfl, ?_⟩) hHeld ?_
          rotate_left
          · (intro w hSw; (try dsimp only at hSw);  go_simp; try with_reducible rfl)
          try simp only [Act.put, List.setIfInBounds_toArray, List.set_cons_zero, List.set_cons_succ]
          refine wpAnyJ_takeL (i := 7) (d := some 39) (v := ?_) #[true, true, true, true, true, true, true, true, false, false, false, false, false] (by kernel_rfl) rfl rfl (by kernel_rfl) (by kernel_rfl) (by kernel_rfl) (by kernel_rfl) (by kernel_rfl) (fun _ _ _ h => h) (Or.inl ⟨by rfl, ?_⟩) hHeld ?_
          rotate_left
          · (intro w hSw; (try dsimp only at hSw);  go_simp; try with_reducible rfl)
          try simp only [Act.put, List.setIfInBounds_toArray, List.set_cons_zero, List.set_cons_succ]
          refine wpAnyJ_takeL (i := 8) (d := some 40) (v := ?_) #[true, true, true, true, true, true, true, true, true, false, false, false, false] (by kernel_rfl) rfl rfl (by kernel_rfl) (by kernel_rfl) (by kernel_rfl) (by kernel_rfl) (by kernel_rfl) (fun _ _ _ h => h) (Or.inl ⟨by rfl, ?_⟩) hHeld ?_
          rotate_left
          · (intro w hSw; (try dsimp only at hSw);  go_simp; try with_reducible rfl)
          try simp only [Act.put, List.setIfInBounds_toArray, List.set_cons_zero, List.set_cons_succ]
          refine wpAnyJ_oneL (k := 9) #[true, true, true, true, true, true, true, true, true, true, false, false, false] (by kernel_rfl) (by kernel_rfl) rfl (fun K hK => ?_)
          (go_simp; refine HBE.out.mono ?_; rintro e w4 ⟨rfl, hb4⟩; go_simp)
          refine hK.out _ _ (fun _ => ?_) (fun hHeld' => ?_)
          · exact ⟨keep_cell (below_grow hb4) HCS.out.1, keep_cell (below_grow hb4) HCS.out.2.1, keep_cell (below_grow hb4) HCS.out.2.2.1, keep_cell (below_grow hb4) HCS.out.2.2.2.1, keep_cell (below_grow hb4) HCS.out.2.2.2.2.1, keep_cell (below_grow hb4) HCS.out.2.2.2.2.2⟩
          replace hHeld := hHeld' rfl
          clear hHeld' hK K
          try dsimp only at hHeld
          refine wpAnyJ_takeL (i := 10) (d := some 42) (v := ?_) #[true, true, true, true, true, true, true, true, true, true, true, false, false] (by kernel_rfl) rfl rfl (by kernel_rfl) (by kernel_rfl) (by kernel_rfl) (by kernel_rfl) (by kernel_rfl) (fun _ _ _ h => h) (Or.inl ⟨by rfl, ?_⟩) hHeld ?_
          rotate_left
          · (intro w hSw; (try dsimp only at hSw);  go_simp; try with_reducible rfl)
          try simp only [Act.put, List.setIfInBounds_toArray, List.set_cons_zero, List.set_cons_succ]
          refine wpAnyJ_takeL (i := 11) (d := some 43) (v := ?_) #[true, true, true, true, true, true, true, true, true, true, true, true, false] (by kernel_rfl) rfl rfl (by kernel_rfl) (by kernel_rfl) (by kernel_rfl) (by kernel_rfl) (by kernel_rfl) (fun _ _ _ h => h) (Or.inl ⟨by rfl, ?_⟩) hHeld ?_
          rotate_left
          · (intro w hSw; (try dsimp only at hSw);  go_simp; try with_reducible rfl)
          try simp only [Act.put, List.setIfInBounds_toArray, List.set_cons_zero, List.set_cons_succ]
          refine wpAnyJ_takeL (i := 12) (d := some 31) (v := ?_) #[true, true, true, true, true, true, true, true, true, true, true, true, true] (by kernel_rfl) rfl rfl (by kernel_rfl) (by kernel_rfl) (by kernel_rfl) (by kernel_rfl) (by kernel_rfl) (fun _ _ _ h => h) (Or.inl ⟨by rfl, ?_⟩) hHeld ?_
          rotate_left
          · (intro w hSw; (try dsimp only at hSw);  go_simp; try with_reducible rfl)
          try simp only [Act.put, List.setIfInBounds_toArray, List.set_cons_zero, List.set_cons_succ]
          refine wpAnyJ_done (by kernel_rfl) ?_ _
          have HS4 := Lib.hid (HS3.out.drew.later (below_grow hb4))
          have HK4 := Lib.hid ((show Blk w3.drew wr.heap.size 29 #[.int .i64 d, .int .i64 p, .int .i64 q] from HK3.out).below (below_grow hb4) HK3.out.lt)
          clear hHeld hb4 HS3 HK3 HCS HBE HLT e1 qr
          have HNB := Lib.hid HOB.out
          have HEB : Hid (errAt ds ls i = if othL (ls.take i) ⟨d, p, q⟩ = true then 18 else if usdL (ls.take i) q = true then 4 else 0) := by unfold Hid; rw [HEA.out, if_neg (by rw [HNB.out]; simp)]
          clear HEA HOB HNB
          have HSL4 := Lib.hid (HS.out.below HS4.out.bl hBl)
          have hic : i ≤ c := by omega
          have HTK := Lib.hid (HSL4.out.takeK (fun _ => rfl) (by decide) hi)
          have HBX4 : Hid (w4.cell? ⟨wr.heap.size, 0, none⟩ = some (.int .i64 d) ∧ w4.cell? ⟨wr.heap.size, 1, none⟩ = some (.int .i64 p) ∧ w4.cell? ⟨wr.heap.size, 2, none⟩ = some (.int .i64 q)) := ⟨HK4.out.cell 0, HK4.out.cell 1, HK4.out.cell 2⟩
          have hz4 := HS4.out.bl.size
          have HOA := Lib.hid (other_any (some ⟨b, off, none⟩) i c Bl (ls.take i) d p q w4.drew HTK.out (by simp only [World.drew]; omega))
          go_wp2_with fail
          rcases ho : othL (ls.take i) ⟨d, p, q⟩ with _ | _
          rotate_left
          · rw [ho] at HOA HEB
            clear ho
            have HR : Hid (locksErr ns ds ls = 18) := HSTOP.out _ (by rw [HEB.out, if_pos rfl]) (by decide)
            go_upto_region 14 with (fail)
            refine wp_region_J (S := fun W' => W'.cell? ⟨wr.heap.size, 0, none⟩ = some (.int .i64 d) ∧ W'.cell? ⟨wr.heap.size, 1, none⟩ = some (.int .i64 p) ∧ W'.cell? ⟨wr.heap.size, 2, none⟩ = some (.int .i64 q)) (J := []) (by kernel_rfl) ?_ (fun hHeld => ?_)
            · exact HBX4.out
            try dsimp only at hHeld
            refine wpAnyJ_takeL (i := 0) (d := some 45) (v := ?_) #[true, false, false, false, false, false] (by kernel_rfl) rfl rfl (by kernel_rfl) (by kernel_rfl) (by kernel_rfl) (by kernel_rfl) (by kernel_rfl) (fun _ _ _ h => h) (Or.inl ⟨by rfl, ?_⟩) hHeld ?_
            rotate_left
            · (intro w hSw; (try dsimp only at hSw);  go_simp; try with_reducible rfl)
            try simp only [Act.put, List.setIfInBounds_toArray, List.set_cons_zero, List.set_cons_succ]
            refine wpAnyJ_takeL (i := 1) (d := some 46) (v := ?_) #[true, true, false, false, false, false] (by kernel_rfl) rfl rfl (by kernel_rfl) (by kernel_rfl) (by kernel_rfl) (by kernel_rfl) (by kernel_rfl) (fun _ _ _ h => h) (Or.inl ⟨by rfl, ?_⟩) hHeld ?_
            rotate_left
            · (intro w hSw; (try dsimp only at hSw);  go_simp; try with_reducible rfl)
            try simp only [Act.put, List.setIfInBounds_toArray, List.set_cons_zero, List.set_cons_succ]
            refine wpAnyJ_takeL (i := 2) (d := some 47) (v := ?_) #[true, true, true, false, false, false] (by kernel_rfl) rfl rfl (by kernel_rfl) (by kernel_rfl) (by kernel_rfl) (by kernel_rfl) (by kernel_rfl) (fun _ _ _ h => h) (Or.inl ⟨by rfl, ?_⟩) hHeld ?_
            rotate_left
            · (intro w hSw; (try dsimp only at hSw);  go_simp; try with_reducible rfl)
            try simp only [Act.put, List.setIfInBounds_toArray, List.set_cons_zero, List.set_cons_succ]
            refine wpAnyJ_takeL (i := 3) (d := some 48) (v := ?_) #[true, true, true, true, false, false] (by kernel_rfl) rfl rfl (by kernel_rfl) (by kernel_rfl) (by kernel_rfl) (by kernel_rfl) (by kernel_rfl) (fun _ _ _ h => h) (Or.inl ⟨by rfl, ?_⟩) hHeld ?_
            rotate_left
            · (intro w hSw; (try dsimp only at hSw);  go_simp; try with_reducible rfl)
            try simp only [Act.put, List.setIfInBounds_toArray, List.set_cons_zero, List.set_cons_succ]
            refine wpAnyJ_oneL (k := 4) #[true, true, true, true, true, false] (by kernel_rfl) (by kernel_rfl) rfl (fun K hK => ?_)
            (go_simp; refine HOA.out.mono ?_; rintro e w5 ⟨rfl, hb5⟩; go_simp)
            refine hK.out _ _ (fun _ => ?_) (fun hHeld' => ?_)
            · exact ⟨keep_cell hb5 HBX4.out.1, keep_cell hb5 HBX4.out.2.1, keep_cell hb5 HBX4.out.2.2⟩
            replace hHeld := hHeld' rfl
            clear hHeld' hK K
            try dsimp only at hHeld
            refine wpAnyJ_takeL (i := 5) (d := some 44) (v := ?_) #[true, true, true, true, true, true] (by kernel_rfl) rfl rfl (by kernel_rfl) (by kernel_rfl) (by kernel_rfl) (by kernel_rfl) (by kernel_rfl) (fun _ _ _ h => h) (Or.inl ⟨by rfl, ?_⟩) hHeld ?_
            rotate_left
            · (intro w hSw; (try dsimp only at hSw);  go_simp; try with_reducible rfl)
            try simp only [Act.put, List.setIfInBounds_toArray, List.set_cons_zero, List.set_cons_succ]
            refine wpAnyJ_done (by kernel_rfl) ?_ _
            have HS5 := Lib.hid (HS4.out.drew.later hb5)
            clear hHeld hb5
            go_wp2_with fail
            go_ret
            exact ⟨ret_int HR.out.symm, HS5.out.bl⟩
          rw [ho] at HOA HEB
          replace HEB : Hid (errAt ds ls i = if usdL (ls.take i) q = true then 4 else 0) := by unfold Hid; rw [HEB.out, if_neg (by simp)]
          clear ho
          go_upto_region 14 with (fail)
          refine wp_region_J (S := fun W' => W'.cell? ⟨wr.heap.size, 0, none⟩ = some (.int .i64 d) ∧ W'.cell? ⟨wr.heap.size, 1, none⟩ = some (.int .i64 p) ∧ W'.cell? ⟨wr.heap.size, 2, none⟩ = some (.int .i64 q)) (J := []) (by kernel_rfl) ?_ (fun hHeld => ?_)
          · exact HBX4.out
          try dsimp only at hHeld
          refine wpAnyJ_takeL (i := 0) (d := some 45) (v := ?_) #[true, false, false, false, false, false] (by kernel_rfl) rfl rfl (by kernel_rfl) (by kernel_rfl) (by kernel_rfl) (by kernel_rfl) (by kernel_rfl) (fun _ _ _ h => h) (Or.inl ⟨by rfl, ?_⟩) hHeld ?_
          rotate_left
          · (intro w hSw; (try dsimp only at hSw);  go_simp; try with_reducible rfl)
          try simp only [Act.put, List.setIfInBounds_toArray, List.set_cons_zero, List.set_cons_succ]
          refine wpAnyJ_takeL (i := 1) (d := some 46) (v := ?_) #[true, true, false, false, false, false] (by kernel_rfl) rfl rfl (by kernel_rfl) (by kernel_rfl) (by kernel_rfl) (by kernel_rfl) (by kernel_rfl) (fun _ _ _ h => h) (Or.inl ⟨by rfl, ?_⟩) hHeld ?_
          rotate_left
          · (intro w hSw; (try dsimp only at hSw);  go_simp; try with_reducible rfl)
          try simp only [Act.put, List.setIfInBounds_toArray, List.set_cons_zero, List.set_cons_succ]
          refine wpAnyJ_takeL (i := 2) (d := some 47) (v := ?_) #[true, true, true, false, false, false] (by kernel_rfl) rfl rfl (by kernel_rfl) (by kernel_rfl) (by kernel_rfl) (by kernel_rfl) (by kernel_rfl) (fun _ _ _ h => h) (Or.inl ⟨by rfl, ?_⟩) hHeld ?_
          rotate_left
          · (intro w hSw; (try dsimp only at hSw);  go_simp; try with_reducible rfl)
          try simp only [Act.put, List.setIfInBounds_toArray, List.set_cons_zero, List.set_cons_succ]
          refine wpAnyJ_takeL (i := 3) (d := some 48) (v := ?_) #[true, true, true, true, false, false] (by kernel_rfl) rfl rfl (by kernel_rfl) (by kernel_rfl) (by kernel_rfl) (by kernel_rfl) (by kernel_rfl) (fun _ _ _ h => h) (Or.inl ⟨by rfl, ?_⟩) hHeld ?_
          rotate_left
          · (intro w hSw; (try dsimp only at hSw);  go_simp; try with_reducible rfl)
          try simp only [Act.put, List.setIfInBounds_toArray, List.set_cons_zero, List.set_cons_succ]
          refine wpAnyJ_oneL (k := 4) #[true, true, true, true, true, false] (by kernel_rfl) (by kernel_rfl) rfl (fun K hK => ?_)
          (go_simp; refine HOA.out.mono ?_; rintro e w5 ⟨rfl, hb5⟩; go_simp)
          refine hK.out _ _ (fun _ => ?_) (fun hHeld' => ?_)
          · exact ⟨keep_cell hb5 HBX4.out.1, keep_cell hb5 HBX4.out.2.1, keep_cell hb5 HBX4.out.2.2⟩
          replace hHeld := hHeld' rfl
          clear hHeld' hK K
          try dsimp only at hHeld
          refine wpAnyJ_takeL (i := 5) (d := some 44) (v := ?_) #[true, true, true, true, true, true] (by kernel_rfl) rfl rfl (by kernel_rfl) (by kernel_rfl) (by kernel_rfl) (by kernel_rfl) (by kernel_rfl) (fun _ _ _ h => h) (Or.inl ⟨by rfl, ?_⟩) hHeld ?_
          rotate_left
          · (intro w hSw; (try dsimp only at hSw);  go_simp; try with_reducible rfl)
          try simp only [Act.put, List.setIfInBounds_toArray, List.set_cons_zero, List.set_cons_succ]
          refine wpAnyJ_done (by kernel_rfl) ?_ _
          have HS5 := Lib.hid (HS4.out.drew.later hb5)
          have HTK5 := Lib.hid (HTK.out.drew.below hb5 (by simp only [World.drew]; omega))
          have HC5 : Hid (w5.cell? ⟨wr.heap.size, 2, none⟩ = some (.int .i64 q)) := hHeld.2.2
          clear hHeld hb5 HOA HBX4 HSL4 HTK HK4
          have hz5 := HS5.out.bl.size
          have HUA := Lib.hid (used_any (some ⟨b, off, none⟩) i c Bl (ls.take i) q w5.drew HTK5.out (by simp only [World.drew]; omega))
          rcases hu : usdL (ls.take i) q with _ | _
          rotate_left
          · rw [hu] at HUA HEB
            clear hu
            have HR : Hid (locksErr ns ds ls = 4) := HSTOP.out _ (by rw [HEB.out, if_pos rfl]) (by decide)
            go_upto_region 16 with (fail)
            refine wp_region_J (S := fun W' => W'.cell? ⟨wr.heap.size, 2, none⟩ = some (.int .i64 q)) (J := []) (by kernel_rfl) ?_ (fun hHeld => ?_)
            · exact HC5.out
            try dsimp only at hHeld
            refine wpAnyJ_takeL (i := 0) (d := some 51) (v := ?_) #[true, false, false, false, false, false, false] (by kernel_rfl) rfl rfl (by kernel_rfl) (by kernel_rfl) (by kernel_rfl) (by kernel_rfl) (by kernel_rfl) (fun _ _ _ h => h) (Or.inl ⟨by rfl, ?_⟩) hHeld ?_
            rotate_left
            · (intro w hSw; (try dsimp only at hSw);  go_simp; try with_reducible rfl)
            try simp only [Act.put, List.setIfInBounds_toArray, List.set_cons_zero, List.set_cons_succ]
            refine wpAnyJ_takeL (i := 1) (d := some 52) (v := ?_) #[true, true, false, false, false, false, false] (by kernel_rfl) rfl rfl (by kernel_rfl) (by kernel_rfl) (by kernel_rfl) (by kernel_rfl) (by kernel_rfl) (fun _ _ _ h => h) (Or.inl ⟨by rfl, ?_⟩) hHeld ?_
            rotate_left
            · (intro w hSw; (try dsimp only at hSw);  go_simp; try with_reducible rfl)
            try simp only [Act.put, List.setIfInBounds_toArray, List.set_cons_zero, List.set_cons_succ]
            refine wpAnyJ_takeL (i := 2) (d := some 53) (v := ?_) #[true, true, true, false, false, false, false] (by kernel_rfl) rfl rfl (by kernel_rfl) (by kernel_rfl) (by kernel_rfl) (by kernel_rfl) (by kernel_rfl) (fun _ _ _ h => h) (Or.inl ⟨by rfl, ?_⟩) hHeld ?_
            rotate_left
            · (intro w hSw; (try dsimp only at hSw);  go_simp; try with_reducible rfl)
            try simp only [Act.put, List.setIfInBounds_toArray, List.set_cons_zero, List.set_cons_succ]
            refine wpAnyJ_takeL (i := 3) (d := some 54) (v := ?_) #[true, true, true, true, false, false, false] (by kernel_rfl) rfl rfl (by kernel_rfl) (by kernel_rfl) (by kernel_rfl) (by kernel_rfl) (by kernel_rfl) (fun _ _ _ h => h) (Or.inl ⟨by rfl, ?_⟩) hHeld ?_
            rotate_left
            · (intro w hSw; (try dsimp only at hSw);  go_simp; try with_reducible rfl)
            try simp only [Act.put, List.setIfInBounds_toArray, List.set_cons_zero, List.set_cons_succ]
            refine wpAnyJ_takeL (i := 4) (d := some 55) (v := ?_) #[true, true, true, true, true, false, false] (by kernel_rfl) rfl rfl (by kernel_rfl) (by kernel_rfl) (by kernel_rfl) (by kernel_rfl) (by kernel_rfl) (fun _ _ _ h => h) (Or.inl ⟨by rfl, ?_⟩) hHeld ?_
            rotate_left
            · (intro w hSw; (try dsimp only at hSw);  go_simp; try with_reducible rfl)
            try simp only [Act.put, List.setIfInBounds_toArray, List.set_cons_zero, List.set_cons_succ]
            refine wpAnyJ_oneL (k := 5) #[true, true, true, true, true, true, false] (by kernel_rfl) (by kernel_rfl) rfl (fun K hK => ?_)
            (go_simp; refine HUA.out.mono ?_; rintro e w6 ⟨rfl, hb6⟩; go_simp)
            refine hK.out _ _ (fun _ => ?_) (fun hHeld' => ?_)
            · exact keep_cell hb6 HC5.out
            replace hHeld := hHeld' rfl
            clear hHeld' hK K
            try dsimp only at hHeld
            refine wpAnyJ_takeL (i := 6) (d := some 50) (v := ?_) #[true, true, true, true, true, true, true] (by kernel_rfl) rfl rfl (by kernel_rfl) (by kernel_rfl) (by kernel_rfl) (by kernel_rfl) (by kernel_rfl) (fun _ _ _ h => h) (Or.inl ⟨by rfl, ?_⟩) hHeld ?_
            rotate_left
            · (intro w hSw; (try dsimp only at hSw);  go_simp; try with_reducible rfl)
            try simp only [Act.put, List.setIfInBounds_toArray, List.set_cons_zero, List.set_cons_succ]
            refine wpAnyJ_done (by kernel_rfl) ?_ _
            have HS6 := Lib.hid (HS5.out.drew.later hb6)
            clear hHeld hb6
            go_wp2_with fail
            go_ret
            exact ⟨ret_int HR.out.symm, HS6.out.bl⟩
          rw [hu] at HUA HEB
          clear hu
          have HFN : Hid (firstE ds ls (i + 1) = 0) := HNEXT.out (by rw [HEB.out, if_neg (by simp)])
          go_upto_region 16 with (fail)
          refine wp_region_J (S := fun W' => W'.cell? ⟨wr.heap.size, 2, none⟩ = some (.int .i64 q)) (J := []) (by kernel_rfl) ?_ (fun hHeld => ?_)
          · exact HC5.out
          try dsimp only at hHeld
          refine wpAnyJ_takeL (i := 0) (d := some 51) (v := ?_) #[true, false, false, false, false, false, false] (by kernel_rfl) rfl rfl (by kernel_rfl) (by kernel_rfl) (by kernel_rfl) (by kernel_rfl) (by kernel_rfl) (fun _ _ _ h => h) (Or.inl ⟨by rfl, ?_⟩) hHeld ?_
          rotate_left
          · (intro w hSw; (try dsimp only at hSw);  go_simp; try with_reducible rfl)
          try simp only [Act.put, List.setIfInBounds_toArray, List.set_cons_zero, List.set_cons_succ]
          refine wpAnyJ_takeL (i := 1) (d := some 52) (v := ?_) #[true, true, false, false, false, false, false] (by kernel_rfl) rfl rfl (by kernel_rfl) (by kernel_rfl) (by kernel_rfl) (by kernel_rfl) (by kernel_rfl) (fun _ _ _ h => h) (Or.inl ⟨by rfl, ?_⟩) hHeld ?_
          rotate_left
          · (intro w hSw; (try dsimp only at hSw);  go_simp; try with_reducible rfl)
          try simp only [Act.put, List.setIfInBounds_toArray, List.set_cons_zero, List.set_cons_succ]
          refine wpAnyJ_takeL (i := 2) (d := some 53) (v := ?_) #[true, true, true, false, false, false, false] (by kernel_rfl) rfl rfl (by kernel_rfl) (by kernel_rfl) (by kernel_rfl) (by kernel_rfl) (by kernel_rfl) (fun _ _ _ h => h) (Or.inl ⟨by rfl, ?_⟩) hHeld ?_
          rotate_left
          · (intro w hSw; (try dsimp only at hSw);  go_simp; try with_reducible rfl)
          try simp only [Act.put, List.setIfInBounds_toArray, List.set_cons_zero, List.set_cons_succ]
          refine wpAnyJ_takeL (i := 3) (d := some 54) (v := ?_) #[true, true, true, true, false, false, false] (by kernel_rfl) rfl rfl (by kernel_rfl) (by kernel_rfl) (by kernel_rfl) (by kernel_rfl) (by kernel_rfl) (fun _ _ _ h => h) (Or.inl ⟨by rfl, ?_⟩) hHeld ?_
          rotate_left
          · (intro w hSw; (try dsimp only at hSw);  go_simp; try with_reducible rfl)
          try simp only [Act.put, List.setIfInBounds_toArray, List.set_cons_zero, List.set_cons_succ]
          refine wpAnyJ_takeL (i := 4) (d := some 55) (v := ?_) #[true, true, true, true, true, false, false] (by kernel_rfl) rfl rfl (by kernel_rfl) (by kernel_rfl) (by kernel_rfl) (by kernel_rfl) (by kernel_rfl) (fun _ _ _ h => h) (Or.inl ⟨by rfl, ?_⟩) hHeld ?_
          rotate_left
          · (intro w hSw; (try dsimp only at hSw);  go_simp; try with_reducible rfl)
          try simp only [Act.put, List.setIfInBounds_toArray, List.set_cons_zero, List.set_cons_succ]
          refine wpAnyJ_oneL (k := 5) #[true, true, true, true, true, true, false] (by kernel_rfl) (by kernel_rfl) rfl (fun K hK => ?_)
          (go_simp; refine HUA.out.mono ?_; rintro e w6 ⟨rfl, hb6⟩; go_simp)
          refine hK.out _ _ (fun _ => ?_) (fun hHeld' => ?_)
          · exact keep_cell hb6 HC5.out
          replace hHeld := hHeld' rfl
          clear hHeld' hK K
          try dsimp only at hHeld
          refine wpAnyJ_takeL (i := 6) (d := some 50) (v := ?_) #[true, true, true, true, true, true, true] (by kernel_rfl) rfl rfl (by kernel_rfl) (by kernel_rfl) (by kernel_rfl) (by kernel_rfl) (by kernel_rfl) (fun _ _ _ h => h) (Or.inl ⟨by rfl, ?_⟩) hHeld ?_
          rotate_left
          · (intro w hSw; (try dsimp only at hSw);  go_simp; try with_reducible rfl)
          try simp only [Act.put, List.setIfInBounds_toArray, List.set_cons_zero, List.set_cons_succ]
          refine wpAnyJ_done (by kernel_rfl) ?_ _
          have HS6 := Lib.hid (HS5.out.drew.later hb6)
          clear hHeld hb6
          go_wp2_with fail
          go_roundg (n - (i + 1))
          case rel => exact ⟨i + 1, by go_num, by omega, rfl, HFN, HS6⟩
          case measure => omega
      · have e0 : i = 0 := by omega
        have HOB : Hid (ordBad ls i ⟨d, p, q⟩ = false) := by unfold Hid ordBad; rw [decide_eq_false hi0]; rfl
        have qi : decide (0 < i) = false := by simp; omega
        have qi2 : decide ((0 : Int) < (i : Int)) = false := by simp; omega
        clear e0
        go_upto_region 12 with (fail)
        refine wp_region_J (S := fun _ => True) (J := []) (by kernel_rfl) ?_ (fun hHeld => ?_)
        · exact trivial
        try dsimp only at hHeld
        refine wpAnyJ_takeL (i := 0) (d := some 32) (v := ?_) #[true, false, false, false, false, false, false, false, false, false, false, false, false] (by kernel_rfl) rfl rfl (by kernel_rfl) (by kernel_rfl) (by kernel_rfl) (by kernel_rfl) (by kernel_rfl) (fun _ _ _ h => h) (Or.inl ⟨by rfl, ?_⟩) hHeld ?_
        rotate_left
        · (intro w hSw; (try dsimp only at hSw);  go_simp; try with_reducible rfl)
        try simp only [Act.put, List.setIfInBounds_toArray, List.set_cons_zero, List.set_cons_succ]
        refine wpAnyJ_takeL (i := 1) (d := some 33) (v := ?_) #[true, true, false, false, false, false, false, false, false, false, false, false, false] (by kernel_rfl) rfl rfl (by kernel_rfl) (by kernel_rfl) (by kernel_rfl) (by kernel_rfl) (by kernel_rfl) (fun _ _ _ h => h) (Or.inl ⟨by rfl, ?_⟩) hHeld ?_
        rotate_left
        · (intro w hSw; (try dsimp only at hSw);  go_simp; try with_reducible rfl)
        try simp only [Act.put, List.setIfInBounds_toArray, List.set_cons_zero, List.set_cons_succ]
        refine wpAnyJ_takeL (i := 2) (d := some 34) (v := ?_) #[true, true, true, false, false, false, false, false, false, false, false, false, false] (by kernel_rfl) rfl rfl (by kernel_rfl) (by kernel_rfl) (by kernel_rfl) (by kernel_rfl) (by kernel_rfl) (fun _ _ _ h => h) (Or.inl ⟨by rfl, ?_⟩) hHeld ?_
        rotate_left
        · (intro w hSw; (try dsimp only at hSw);  go_simp; try with_reducible rfl)
        try simp only [Act.put, List.setIfInBounds_toArray, List.set_cons_zero, List.set_cons_succ]
        refine wpAnyJ_takeL (i := 3) (d := some 35) (v := undef) #[true, true, true, true, false, false, false, false, false, false, false, false, false] (by kernel_rfl) rfl rfl (by kernel_rfl) (by kernel_rfl) (by kernel_rfl) (by kernel_rfl) (by kernel_rfl) (fun _ _ _ h => h) (Or.inr ⟨by rfl, by rfl⟩) hHeld ?_
        try simp only [Act.put, List.setIfInBounds_toArray, List.set_cons_zero, List.set_cons_succ]
        refine wpAnyJ_takeL (i := 4) (d := some 36) (v := undef) #[true, true, true, true, true, false, false, false, false, false, false, false, false] (by kernel_rfl) rfl rfl (by kernel_rfl) (by kernel_rfl) (by kernel_rfl) (by kernel_rfl) (by kernel_rfl) (fun _ _ _ h => h) (Or.inr ⟨by rfl, by rfl⟩) hHeld ?_
        try simp only [Act.put, List.setIfInBounds_toArray, List.set_cons_zero, List.set_cons_succ]
        refine wpAnyJ_takeL (i := 5) (d := some 37) (v := undef) #[true, true, true, true, true, true, false, false, false, false, false, false, false] (by kernel_rfl) rfl rfl (by kernel_rfl) (by kernel_rfl) (by kernel_rfl) (by kernel_rfl) (by kernel_rfl) (fun _ _ _ h => h) (Or.inr ⟨by rfl, by rfl⟩) hHeld ?_
        try simp only [Act.put, List.setIfInBounds_toArray, List.set_cons_zero, List.set_cons_succ]
        refine wpAnyJ_takeL (i := 6) (d := some 38) (v := undef) #[true, true, true, true, true, true, true, false, false, false, false, false, false] (by kernel_rfl) rfl rfl (by kernel_rfl) (by kernel_rfl) (by kernel_rfl) (by kernel_rfl) (by kernel_rfl) (fun _ _ _ h => h) (Or.inr ⟨by rfl, by rfl⟩) hHeld ?_
        try simp only [Act.put, List.setIfInBounds_toArray, List.set_cons_zero, List.set_cons_succ]
        refine wpAnyJ_takeL (i := 7) (d := some 39) (v := undef) #[true, true, true, true, true, true, true, true, false, false, false, false, false] (by kernel_rfl) rfl rfl (by kernel_rfl) (by kernel_rfl) (by kernel_rfl) (by kernel_rfl) (by kernel_rfl) (fun _ _ _ h => h) (Or.inr ⟨by rfl, by rfl⟩) hHeld ?_
        try simp only [Act.put, List.setIfInBounds_toArray, List.set_cons_zero, List.set_cons_succ]
        refine wpAnyJ_takeL (i := 8) (d := some 40) (v := undef) #[true, true, true, true, true, true, true, true, true, false, false, false, false] (by kernel_rfl) rfl rfl (by kernel_rfl) (by kernel_rfl) (by kernel_rfl) (by kernel_rfl) (by kernel_rfl) (fun _ _ _ h => h) (Or.inr ⟨by rfl, by rfl⟩) hHeld ?_
        try simp only [Act.put, List.setIfInBounds_toArray, List.set_cons_zero, List.set_cons_succ]
        refine wpAnyJ_takeL (i := 9) (d := some 41) (v := undef) #[true, true, true, true, true, true, true, true, true, true, false, false, false] (by kernel_rfl) rfl rfl (by kernel_rfl) (by kernel_rfl) (by kernel_rfl) (by kernel_rfl) (by kernel_rfl) (fun _ _ _ h => h) (Or.inr ⟨by rfl, by rfl⟩) hHeld ?_
        try simp only [Act.put, List.setIfInBounds_toArray, List.set_cons_zero, List.set_cons_succ]
        refine wpAnyJ_takeL (i := 10) (d := some 42) (v := undef) #[true, true, true, true, true, true, true, true, true, true, true, false, false] (by kernel_rfl) rfl rfl (by kernel_rfl) (by kernel_rfl) (by kernel_rfl) (by kernel_rfl) (by kernel_rfl) (fun _ _ _ h => h) (Or.inr ⟨by rfl, by rfl⟩) hHeld ?_
        try simp only [Act.put, List.setIfInBounds_toArray, List.set_cons_zero, List.set_cons_succ]
        refine wpAnyJ_takeL (i := 11) (d := some 43) (v := ?_) #[true, true, true, true, true, true, true, true, true, true, true, true, false] (by kernel_rfl) rfl rfl (by kernel_rfl) (by kernel_rfl) (by kernel_rfl) (by kernel_rfl) (by kernel_rfl) (fun _ _ _ h => h) (Or.inl ⟨by rfl, ?_⟩) hHeld ?_
        rotate_left
        · (intro w hSw; (try dsimp only at hSw);  go_simp; try with_reducible rfl)
        try simp only [Act.put, List.setIfInBounds_toArray, List.set_cons_zero, List.set_cons_succ]
        refine wpAnyJ_takeL (i := 12) (d := some 31) (v := ?_) #[true, true, true, true, true, true, true, true, true, true, true, true, true] (by kernel_rfl) rfl rfl (by kernel_rfl) (by kernel_rfl) (by kernel_rfl) (by kernel_rfl) (by kernel_rfl) (fun _ _ _ h => h) (Or.inl ⟨by rfl, ?_⟩) hHeld ?_
        rotate_left
        · (intro w hSw; (try dsimp only at hSw);  go_simp; try with_reducible rfl)
        try simp only [Act.put, List.setIfInBounds_toArray, List.set_cons_zero, List.set_cons_succ]
        refine wpAnyJ_done (by kernel_rfl) ?_ _
        have HS4 := Lib.hid (HS3.out.drew)
        have HK4 := Lib.hid (show Blk w3.drew wr.heap.size 29 #[.int .i64 d, .int .i64 p, .int .i64 q] from HK3.out)
        have hz4d : wr.heap.size + 1 ≤ w3.drew.heap.size := by simp only [World.drew]; omega
        clear hHeld HS3 HK3 qi qi2 hz3
        generalize World.drew w3 = w4 at *
        have HNB := Lib.hid HOB.out
        have HEB : Hid (errAt ds ls i = if othL (ls.take i) ⟨d, p, q⟩ = true then 18 else if usdL (ls.take i) q = true then 4 else 0) := by unfold Hid; rw [HEA.out, if_neg (by rw [HNB.out]; simp)]
        clear HEA HOB HNB
        have HSL4 := Lib.hid (HS.out.below HS4.out.bl hBl)
        have hic : i ≤ c := by omega
        have HTK := Lib.hid (HSL4.out.takeK (fun _ => rfl) (by decide) hi)
        have HBX4 : Hid (w4.cell? ⟨wr.heap.size, 0, none⟩ = some (.int .i64 d) ∧ w4.cell? ⟨wr.heap.size, 1, none⟩ = some (.int .i64 p) ∧ w4.cell? ⟨wr.heap.size, 2, none⟩ = some (.int .i64 q)) := ⟨HK4.out.cell 0, HK4.out.cell 1, HK4.out.cell 2⟩
        have hz4 := HS4.out.bl.size
        have HOA := Lib.hid (other_any (some ⟨b, off, none⟩) i c Bl (ls.take i) d p q w4.drew HTK.out (by simp only [World.drew]; omega))
        go_wp2_with fail
        rcases ho : othL (ls.take i) ⟨d, p, q⟩ with _ | _
        rotate_left
        · rw [ho] at HOA HEB
          clear ho
          have HR : Hid (locksErr ns ds ls = 18) := HSTOP.out _ (by rw [HEB.out, if_pos rfl]) (by decide)
          go_upto_region 14 with (fail)
          refine wp_region_J (S := fun W' => W'.cell? ⟨wr.heap.size, 0, none⟩ = some (.int .i64 d) ∧ W'.cell? ⟨wr.heap.size, 1, none⟩ = some (.int .i64 p) ∧ W'.cell? ⟨wr.heap.size, 2, none⟩ = some (.int .i64 q)) (J := []) (by kernel_rfl) ?_ (fun hHeld => ?_)
          · exact HBX4.out
          try dsimp only at hHeld
          refine wpAnyJ_takeL (i := 0) (d := some 45) (v := ?_) #[true, false, false, false, false, false] (by kernel_rfl) rfl rfl (by kernel_rfl) (by kernel_rfl) (by kernel_rfl) (by kernel_rfl) (by kernel_rfl) (fun _ _ _ h => h) (Or.inl ⟨by rfl, ?_⟩) hHeld ?_
          rotate_left
          · (intro w hSw; (try dsimp only at hSw);  go_simp; try with_reducible rfl)
          try simp only [Act.put, List.setIfInBounds_toArray, List.set_cons_zero, List.set_cons_succ]
          refine wpAnyJ_takeL (i := 1) (d := some 46) (v := ?_) #[true, true, false, false, false, false] (by kernel_rfl) rfl rfl (by kernel_rfl) (by kernel_rfl) (by kernel_rfl) (by kernel_rfl) (by kernel_rfl) (fun _ _ _ h => h) (Or.inl ⟨by rfl, ?_⟩) hHeld ?_
          rotate_left
          · (intro w hSw; (try dsimp only at hSw);  go_simp; try with_reducible rfl)
          try simp only [Act.put, List.setIfInBounds_toArray, List.set_cons_zero, List.set_cons_succ]
          refine wpAnyJ_takeL (i := 2) (d := some 47) (v := ?_) #[true, true, true, false, false, false] (by kernel_rfl) rfl rfl (by kernel_rfl) (by kernel_rfl) (by kernel_rfl) (by kernel_rfl) (by kernel_rfl) (fun _ _ _ h => h) (Or.inl ⟨by rfl, ?_⟩) hHeld ?_
          rotate_left
          · (intro w hSw; (try dsimp only at hSw);  go_simp; try with_reducible rfl)
          try simp only [Act.put, List.setIfInBounds_toArray, List.set_cons_zero, List.set_cons_succ]
          refine wpAnyJ_takeL (i := 3) (d := some 48) (v := ?_) #[true, true, true, true, false, false] (by kernel_rfl) rfl rfl (by kernel_rfl) (by kernel_rfl) (by kernel_rfl) (by kernel_rfl) (by kernel_rfl) (fun _ _ _ h => h) (Or.inl ⟨by rfl, ?_⟩) hHeld ?_
          rotate_left
          · (intro w hSw; (try dsimp only at hSw);  go_simp; try with_reducible rfl)
          try simp only [Act.put, List.setIfInBounds_toArray, List.set_cons_zero, List.set_cons_succ]
          refine wpAnyJ_oneL (k := 4) #[true, true, true, true, true, false] (by kernel_rfl) (by kernel_rfl) rfl (fun K hK => ?_)
          (go_simp; refine HOA.out.mono ?_; rintro e w5 ⟨rfl, hb5⟩; go_simp)
          refine hK.out _ _ (fun _ => ?_) (fun hHeld' => ?_)
          · exact ⟨keep_cell hb5 HBX4.out.1, keep_cell hb5 HBX4.out.2.1, keep_cell hb5 HBX4.out.2.2⟩
          replace hHeld := hHeld' rfl
          clear hHeld' hK K
          try dsimp only at hHeld
          refine wpAnyJ_takeL (i := 5) (d := some 44) (v := ?_) #[true, true, true, true, true, true] (by kernel_rfl) rfl rfl (by kernel_rfl) (by kernel_rfl) (by kernel_rfl) (by kernel_rfl) (by kernel_rfl) (fun _ _ _ h => h) (Or.inl ⟨by rfl, ?_⟩) hHeld ?_
          rotate_left
          · (intro w hSw; (try dsimp only at hSw);  go_simp; try with_reducible rfl)
          try simp only [Act.put, List.setIfInBounds_toArray, List.set_cons_zero, List.set_cons_succ]
          refine wpAnyJ_done (by kernel_rfl) ?_ _
          have HS5 := Lib.hid (HS4.out.drew.later hb5)
          clear hHeld hb5
          go_wp2_with fail
          go_ret
          exact ⟨ret_int HR.out.symm, HS5.out.bl⟩
        rw [ho] at HOA HEB
        replace HEB : Hid (errAt ds ls i = if usdL (ls.take i) q = true then 4 else 0) := by unfold Hid; rw [HEB.out, if_neg (by simp)]
        clear ho
        go_upto_region 14 with (fail)
        refine wp_region_J (S := fun W' => W'.cell? ⟨wr.heap.size, 0, none⟩ = some (.int .i64 d) ∧ W'.cell? ⟨wr.heap.size, 1, none⟩ = some (.int .i64 p) ∧ W'.cell? ⟨wr.heap.size, 2, none⟩ = some (.int .i64 q)) (J := []) (by kernel_rfl) ?_ (fun hHeld => ?_)
        · exact HBX4.out
        try dsimp only at hHeld
        refine wpAnyJ_takeL (i := 0) (d := some 45) (v := ?_) #[true, false, false, false, false, false] (by kernel_rfl) rfl rfl (by kernel_rfl) (by kernel_rfl) (by kernel_rfl) (by kernel_rfl) (by kernel_rfl) (fun _ _ _ h => h) (Or.inl ⟨by rfl, ?_⟩) hHeld ?_
        rotate_left
        · (intro w hSw; (try dsimp only at hSw);  go_simp; try with_reducible rfl)
        try simp only [Act.put, List.setIfInBounds_toArray, List.set_cons_zero, List.set_cons_succ]
        refine wpAnyJ_takeL (i := 1) (d := some 46) (v := ?_) #[true, true, false, false, false, false] (by kernel_rfl) rfl rfl (by kernel_rfl) (by kernel_rfl) (by kernel_rfl) (by kernel_rfl) (by kernel_rfl) (fun _ _ _ h => h) (Or.inl ⟨by rfl, ?_⟩) hHeld ?_
        rotate_left
        · (intro w hSw; (try dsimp only at hSw);  go_simp; try with_reducible rfl)
        try simp only [Act.put, List.setIfInBounds_toArray, List.set_cons_zero, List.set_cons_succ]
        refine wpAnyJ_takeL (i := 2) (d := some 47) (v := ?_) #[true, true, true, false, false, false] (by kernel_rfl) rfl rfl (by kernel_rfl) (by kernel_rfl) (by kernel_rfl) (by kernel_rfl) (by kernel_rfl) (fun _ _ _ h => h) (Or.inl ⟨by rfl, ?_⟩) hHeld ?_
        rotate_left
        · (intro w hSw; (try dsimp only at hSw);  go_simp; try with_reducible rfl)
        try simp only [Act.put, List.setIfInBounds_toArray, List.set_cons_zero, List.set_cons_succ]
        refine wpAnyJ_takeL (i := 3) (d := some 48) (v := ?_) #[true, true, true, true, false, false] (by kernel_rfl) rfl rfl (by kernel_rfl) (by kernel_rfl) (by kernel_rfl) (by kernel_rfl) (by kernel_rfl) (fun _ _ _ h => h) (Or.inl ⟨by rfl, ?_⟩) hHeld ?_
        rotate_left
        · (intro w hSw; (try dsimp only at hSw);  go_simp; try with_reducible rfl)
        try simp only [Act.put, List.setIfInBounds_toArray, List.set_cons_zero, List.set_cons_succ]
        refine wpAnyJ_oneL (k := 4) #[true, true, true, true, true, false] (by kernel_rfl) (by kernel_rfl) rfl (fun K hK => ?_)
        (go_simp; refine HOA.out.mono ?_; rintro e w5 ⟨rfl, hb5⟩; go_simp)
        refine hK.out _ _ (fun _ => ?_) (fun hHeld' => ?_)
        · exact ⟨keep_cell hb5 HBX4.out.1, keep_cell hb5 HBX4.out.2.1, keep_cell hb5 HBX4.out.2.2⟩
        replace hHeld := hHeld' rfl
        clear hHeld' hK K
        try dsimp only at hHeld
        refine wpAnyJ_takeL (i := 5) (d := some 44) (v := ?_) #[true, true, true, true, true, true] (by kernel_rfl) rfl rfl (by kernel_rfl) (by kernel_rfl) (by kernel_rfl) (by kernel_rfl) (by kernel_rfl) (fun _ _ _ h => h) (Or.inl ⟨by rfl, ?_⟩) hHeld ?_
        rotate_left
        · (intro w hSw; (try dsimp only at hSw);  go_simp; try with_reducible rfl)
        try simp only [Act.put, List.setIfInBounds_toArray, List.set_cons_zero, List.set_cons_succ]
        refine wpAnyJ_done (by kernel_rfl) ?_ _
        have HS5 := Lib.hid (HS4.out.drew.later hb5)
        have HTK5 := Lib.hid (HTK.out.drew.below hb5 (by simp only [World.drew]; omega))
        have HC5 : Hid (w5.cell? ⟨wr.heap.size, 2, none⟩ = some (.int .i64 q)) := hHeld.2.2
        clear hHeld hb5 HOA HBX4 HSL4 HTK HK4
        have hz5 := HS5.out.bl.size
        have HUA := Lib.hid (used_any (some ⟨b, off, none⟩) i c Bl (ls.take i) q w5.drew HTK5.out (by simp only [World.drew]; omega))
        rcases hu : usdL (ls.take i) q with _ | _
        rotate_left
        · rw [hu] at HUA HEB
          clear hu
          have HR : Hid (locksErr ns ds ls = 4) := HSTOP.out _ (by rw [HEB.out, if_pos rfl]) (by decide)
          go_upto_region 16 with (fail)
          refine wp_region_J (S := fun W' => W'.cell? ⟨wr.heap.size, 2, none⟩ = some (.int .i64 q)) (J := []) (by kernel_rfl) ?_ (fun hHeld => ?_)
          · exact HC5.out
          try dsimp only at hHeld
          refine wpAnyJ_takeL (i := 0) (d := some 51) (v := ?_) #[true, false, false, false, false, false, false] (by kernel_rfl) rfl rfl (by kernel_rfl) (by kernel_rfl) (by kernel_rfl) (by kernel_rfl) (by kernel_rfl) (fun _ _ _ h => h) (Or.inl ⟨by rfl, ?_⟩) hHeld ?_
          rotate_left
          · (intro w hSw; (try dsimp only at hSw);  go_simp; try with_reducible rfl)
          try simp only [Act.put, List.setIfInBounds_toArray, List.set_cons_zero, List.set_cons_succ]
          refine wpAnyJ_takeL (i := 1) (d := some 52) (v := ?_) #[true, true, false, false, false, false, false] (by kernel_rfl) rfl rfl (by kernel_rfl) (by kernel_rfl) (by kernel_rfl) (by kernel_rfl) (by kernel_rfl) (fun _ _ _ h => h) (Or.inl ⟨by rfl, ?_⟩) hHeld ?_
          rotate_left
          · (intro w hSw; (try dsimp only at hSw);  go_simp; try with_reducible rfl)
          try simp only [Act.put, List.setIfInBounds_toArray, List.set_cons_zero, List.set_cons_succ]
          refine wpAnyJ_takeL (i := 2) (d := some 53) (v := ?_) #[true, true, true, false, false, false, false] (by kernel_rfl) rfl rfl (by kernel_rfl) (by kernel_rfl) (by kernel_rfl) (by kernel_rfl) (by kernel_rfl) (fun _ _ _ h => h) (Or.inl ⟨by rfl, ?_⟩) hHeld ?_
          rotate_left
          · (intro w hSw; (try dsimp only at hSw);  go_simp; try with_reducible rfl)
          try simp only [Act.put, List.setIfInBounds_toArray, List.set_cons_zero, List.set_cons_succ]
          refine wpAnyJ_takeL (i := 3) (d := some 54) (v := ?_) #[true, true, true, true, false, false, false] (by kernel_rfl) rfl rfl (by kernel_rfl) (by kernel_rfl) (by kernel_rfl) (by kernel_rfl) (by kernel_rfl) (fun _ _ _ h => h) (Or.inl ⟨by rfl, ?_⟩) hHeld ?_
          rotate_left
          · (intro w hSw; (try dsimp only at hSw);  go_simp; try with_reducible rfl)
          try simp only [Act.put, List.setIfInBounds_toArray, List.set_cons_zero, List.set_cons_succ]
          refine wpAnyJ_takeL (i := 4) (d := some 55) (v := ?_) #[true, true, true, true, true, false, false] (by kernel_rfl) rfl rfl (by kernel_rfl) (by kernel_rfl) (by kernel_rfl) (by kernel_rfl) (by kernel_rfl) (fun _ _ _ h => h) (Or.inl ⟨by rfl, ?_⟩) hHeld ?_
          rotate_left
          · (intro w hSw; (try dsimp only at hSw);  go_simp; try with_reducible rfl)
          try simp only [Act.put, List.setIfInBounds_toArray, List.set_cons_zero, List.set_cons_succ]
          refine wpAnyJ_oneL (k := 5) #[true, true, true, true, true, true, false] (by kernel_rfl) (by kernel_rfl) rfl (fun K hK => ?_)
          (go_simp; refine HUA.out.mono ?_; rintro e w6 ⟨rfl, hb6⟩; go_simp)
          refine hK.out _ _ (fun _ => ?_) (fun hHeld' => ?_)
          · exact keep_cell hb6 HC5.out
          replace hHeld := hHeld' rfl
          clear hHeld' hK K
          try dsimp only at hHeld
          refine wpAnyJ_takeL (i := 6) (d := some 50) (v := ?_) #[true, true, true, true, true, true, true] (by kernel_rfl) rfl rfl (by kernel_rfl) (by kernel_rfl) (by kernel_rfl) (by kernel_rfl) (by kernel_rfl) (fun _ _ _ h => h) (Or.inl ⟨by rfl, ?_⟩) hHeld ?_
          rotate_left
          · (intro w hSw; (try dsimp only at hSw);  go_simp; try with_reducible rfl)
          try simp only [Act.put, List.setIfInBounds_toArray, List.set_cons_zero, List.set_cons_succ]
          refine wpAnyJ_done (by kernel_rfl) ?_ _
          have HS6 := Lib.hid (HS5.out.drew.later hb6)
          clear hHeld hb6
          go_wp2_with fail
          go_ret
          exact ⟨ret_int HR.out.symm, HS6.out.bl⟩
        rw [hu] at HUA HEB
        clear hu
        have HFN : Hid (firstE ds ls (i + 1) = 0) := HNEXT.out (by rw [HEB.out, if_neg (by simp)])
        go_upto_region 16 with (fail)
        refine wp_region_J (S := fun W' => W'.cell? ⟨wr.heap.size, 2, none⟩ = some (.int .i64 q)) (J := []) (by kernel_rfl) ?_ (fun hHeld => ?_)
        · exact HC5.out
        try dsimp only at hHeld
        refine wpAnyJ_takeL (i := 0) (d := some 51) (v := ?_) #[true, false, false, false, false, false, false] (by kernel_rfl) rfl rfl (by kernel_rfl) (by kernel_rfl) (by kernel_rfl) (by kernel_rfl) (by kernel_rfl) (fun _ _ _ h => h) (Or.inl ⟨by rfl, ?_⟩) hHeld ?_
        rotate_left
        · (intro w hSw; (try dsimp only at hSw);  go_simp; try with_reducible rfl)
        try simp only [Act.put, List.setIfInBounds_toArray, List.set_cons_zero, List.set_cons_succ]
        refine wpAnyJ_takeL (i := 1) (d := some 52) (v := ?_) #[true, true, false, false, false, false, false] (by kernel_rfl) rfl rfl (by kernel_rfl) (by kernel_rfl) (by kernel_rfl) (by kernel_rfl) (by kernel_rfl) (fun _ _ _ h => h) (Or.inl ⟨by rfl, ?_⟩) hHeld ?_
        rotate_left
        · (intro w hSw; (try dsimp only at hSw);  go_simp; try with_reducible rfl)
        try simp only [Act.put, List.setIfInBounds_toArray, List.set_cons_zero, List.set_cons_succ]
        refine wpAnyJ_takeL (i := 2) (d := some 53) (v := ?_) #[true, true, true, false, false, false, false] (by kernel_rfl) rfl rfl (by kernel_rfl) (by kernel_rfl) (by kernel_rfl) (by kernel_rfl) (by kernel_rfl) (fun _ _ _ h => h) (Or.inl ⟨by rfl, ?_⟩) hHeld ?_
        rotate_left
        · (intro w hSw; (try dsimp only at hSw);  go_simp; try with_reducible rfl)
        try simp only [Act.put, List.setIfInBounds_toArray, List.set_cons_zero, List.set_cons_succ]
        refine wpAnyJ_takeL (i := 3) (d := some 54) (v := ?_) #[true, true, true, true, false, false, false] (by kernel_rfl) rfl rfl (by kernel_rfl) (by kernel_rfl) (by kernel_rfl) (by kernel_rfl) (by kernel_rfl) (fun _ _ _ h => h) (Or.inl ⟨by rfl, ?_⟩) hHeld ?_
        rotate_left
        · (intro w hSw; (try dsimp only at hSw);  go_simp; try with_reducible rfl)
        try simp only [Act.put, List.setIfInBounds_toArray, List.set_cons_zero, List.set_cons_succ]
        refine wpAnyJ_takeL (i := 4) (d := some 55) (v := ?_) #[true, true, true, true, true, false, false] (by kernel_rfl) rfl rfl (by kernel_rfl) (by kernel_rfl) (by kernel_rfl) (by kernel_rfl) (by kernel_rfl) (fun _ _ _ h => h) (Or.inl ⟨by rfl, ?_⟩) hHeld ?_
        rotate_left
        · (intro w hSw; (try dsimp only at hSw);  go_simp; try with_reducible rfl)
        try simp only [Act.put, List.setIfInBounds_toArray, List.set_cons_zero, List.set_cons_succ]
        refine wpAnyJ_oneL (k := 5) #[true, true, true, true, true, true, false] (by kernel_rfl) (by kernel_rfl) rfl (fun K hK => ?_)
        (go_simp; refine HUA.out.mono ?_; rintro e w6 ⟨rfl, hb6⟩; go_simp)
        refine hK.out _ _ (fun _ => ?_) (fun hHeld' => ?_)
        · exact keep_cell hb6 HC5.out
        replace hHeld := hHeld' rfl
        clear hHeld' hK K
        try dsimp only at hHeld
        refine wpAnyJ_takeL (i := 6) (d := some 50) (v := ?_) #[true, true, true, true, true, true, true] (by kernel_rfl) rfl rfl (by kernel_rfl) (by kernel_rfl) (by kernel_rfl) (by kernel_rfl) (by kernel_rfl) (fun _ _ _ h => h) (Or.inl ⟨by rfl, ?_⟩) hHeld ?_
        rotate_left
        · (intro w hSw; (try dsimp only at hSw);  go_simp; try with_reducible rfl)
        try simp only [Act.put, List.setIfInBounds_toArray, List.set_cons_zero, List.set_cons_succ]
        refine wpAnyJ_done (by kernel_rfl) ?_ _
        have HS6 := Lib.hid (HS5.out.drew.later hb6)
        clear hHeld hb6
        go_wp2_with fail
        go_roundg (n - (i + 1))
        case rel => exact ⟨i + 1, by go_num, by omega, rfl, HFN, HS6⟩
        case measure => omega
    · obtain rfl : i = n := by omega
      have hii : decide (i < i) = false := by simp
      have HR : Hid (locksErr ns ds ls = 0) := by unfold Hid; rw [HE.out, hfe.out]
      go_wp2_with fail
      go_ret
      exact ⟨ret_int HR.out.symm, hst.out.bl⟩
end Go.Proofs.YtbjndpjligpjaaaDoor
/-
  The program's layer 14: walks of those, Gaps, Earths, Worst.
-/
namespace Go.Proofs.YtbjndpjligpjaaaDoor
open Go.RowKit
def gapB (k : Int) : Bool := k == 1 || k == 3 || k == 6
def wrsAt (ds : List Dv) (ls : List Lk) (i : Nat) : Int := match lckL ls i with | some p => p | none => if kindOf ds i = 5 then 2 else 3
/-- The worst masks of the first devices. -/
def wrsTo (ds : List Dv) (ls : List Lk) (n : Nat) : List Int := (List.range n).map fun i => wrsAt ds ls i
def thoB (ds : List Dv) (ls : List Lk) (pos : Int) (p : Int → Bool) (i : Nat) : Bool := decide (lckL ls i = some pos) && p (kindOf ds i)
/-- The devices, of the first ones, that are locked in a position and of a kind that fits. -/
def thoTo (ds : List Dv) (ls : List Lk) (pos : Int) (p : Int → Bool) (n : Nat) : List Int := ((List.range n).filter (thoB ds ls pos p)).map fun i : Nat => (i : Int)
theorem wrsTo_len (ds : List Dv) (ls : List Lk) (n : Nat) : (wrsTo ds ls n).length = n := by simp [wrsTo]
theorem wrsTo_at {ds : List Dv} {ls : List Lk} {n i : Nat} (h : i < n) : (wrsTo ds ls n)[i]? = some (wrsAt ds ls i) := by simp [wrsTo, h]
theorem thoTo_succ (ds : List Dv) (ls : List Lk) (pos : Int) (p : Int → Bool) (n : Nat) : thoTo ds ls pos p (n + 1) = if thoB ds ls pos p n = true then thoTo ds ls pos p n ++ [(n : Int)] else thoTo ds ls pos p n := by
  unfold thoTo
  rw [List.range_succ, List.filter_append, List.map_append]
  rcases h : thoB ds ls pos p n with _ | _ <;> simp [h]
theorem thoTo_mem {ds : List Dv} {ls : List Lk} {pos : Int} {p : Int → Bool} {n i : Nat} (hi : i < n) : (i : Int) ∈ thoTo ds ls pos p n ↔ thoB ds ls pos p i = true := by
  unfold thoTo
  constructor
  · intro h
    obtain ⟨j, hj, e⟩ := List.mem_map.1 h
    obtain rfl : j = i := by omega
    exact (List.mem_filter.1 hj).2
  · intro h
    exact List.mem_map.2 ⟨i, List.mem_filter.2 ⟨List.mem_range.2 hi, h⟩, rfl⟩
def IntsEPost (w : World) (er : Int) (l : List Int) (e : Ending) (w' : World) : Prop :=
  (er ≠ 0 ∧ e = .returned (.tuple #[.slice none 0 0, .int .i64 er]) ∨ er = 0 ∧ ∃ (A : Option Addr) (c : Nat), e = .returned (.tuple #[.slice A l.length c, .int .i64 0]) ∧ Hid (IntsO w' w.heap.size A l.length c l)) ∧ Hid (Below w.heap.size w w')
theorem IntsEPost.ok {w w' : World} {er : Int} {l : List Int} {e : Ending} (h : IntsEPost w er l e w') (h0 : er = 0) : ∃ (A : Option Addr) (c : Nat), e = .returned (.tuple #[.slice A l.length c, .int .i64 0]) ∧ Hid (IntsO w' w.heap.size A l.length c l) ∧ Hid (Below w.heap.size w w') := by
  obtain ⟨⟨h1, _⟩ | ⟨_, A, c, h1, h2⟩, h3⟩ := h
  · exact absurd h0 h1
  · exact ⟨A, c, h1, h2, h3⟩
/-- A function value that tells something of a kind. -/
def PredK (g : Nat) (p : Int → Bool) : Prop := ∀ (W : World) (k : Int), Calls Tryd.prog g #[.int .i64 k] W fun e w' => e = .returned (.bool (p k)) ∧ W = w'
theorem gap_any : PredK 33 gapB := by
  intro w k
  by_cases h1 : k = 1
  · subst h1
    go_enter Tryd.func33, Tryd.ntmps33
    go_wp2_with fail
    go_ret
    exact ⟨rfl, rfl⟩
  · have q1 : (k == 1) = false := by simpa using h1
    by_cases h2 : k = 3
    · subst h2
      go_enter Tryd.func33, Tryd.ntmps33
      go_wp2_with fail
      go_ret
      exact ⟨rfl, rfl⟩
    · have q2 : (k == 3) = false := by simpa using h2
      have HR : Hid (gapB k = (k == 6)) := by unfold Hid gapB; rw [q1, q2]; simp
      go_enter Tryd.func33, Tryd.ntmps33
      go_wp2_with fail
      go_ret
      exact ⟨ret_bool HR.out.symm, rfl⟩
theorem isearth_any : PredK 35 (fun k => k == 4) := by
  intro w k
  go_enter Tryd.func35, Tryd.ntmps35
  go_wp2_with fail
  go_ret
  exact ⟨rfl, rfl⟩
def ThR (w : World) (N : Array Value) (ds : List Dv) (ls : List Lk) (pos : Int) (p : Int → Bool) (n gk : Nat) (ov iv : Value) (wr : World) : Prop := ∃ (i m c : Nat) (A : Option Addr), ov = .slice A m c ∧ iv = .int .i64 i ∧ i ≤ n ∧ gk = n - i ∧ m ≤ i ∧ Hid ((thoTo ds ls pos p i).length = m) ∧ Hid (IntsO wr (w.heap.size + 1) A m c (thoTo ds ls pos p i)) ∧ Hid (PcSt w N wr)
set_option maxRecDepth 100000 in
set_option maxHeartbeats 8000000 in
theorem those_any (g : Nat) (p : Int → Bool) (eg : ∀ args w, (callFunc g args).run Tryd.prog w = .ok (.enter g args) w) (hp : PredK g p) (pos : Int) (An Ad Al : Option Addr) (nn cn nd cd n c Bn Bd Bl : Nat) (ns : List Nd) (ds : List Dv) (ls : List Lk) (w : World) (hla : Laid w) (hn : Sl w Bn 3 An nn cn (ns.flatMap Nd.cells)) (hd : Sl w Bd 5 Ad nd cd (ds.flatMap Dv.cells)) (hs : Sl w Bl 3 Al n c (ls.flatMap Lk.cells)) (hBn : Bn ≤ w.heap.size) (hBd : Bd ≤ w.heap.size) (hBl : Bl ≤ w.heap.size) (hnd : nd ≤ 1000)
    (hsn : ∀ x ∈ ns, x.name.size ≤ 9223372036854775807) (hsd : ∀ x ∈ ds, x.name.size ≤ 9223372036854775807) :
    Calls Tryd.prog 32 #[.agg #[.slice An nn cn, .slice Ad nd cd], .slice Al n c, .int .i64 pos, .func (.func g) #[] #[]] w (IntsEPost w (locksErr ns ds ls) (thoTo ds ls pos p nd)) := by
  have HS := Lib.hid hs; have HD := Lib.hid hd
  have hdl := hd.le
  have HST : Hid (PcSt w #[.slice An nn cn, .slice Ad nd cd] (w.alloc (.cells #[.slice An nn cn, .slice Ad nd cd] 27))) := ⟨Blk.new _ _ _, (Below.refl _ _).alloc (Nat.le_refl _) _⟩
  have HCK := Lib.hid (lcheck_any An Ad Al nn cn nd cd n c Bn Bd Bl ns ds ls (w.alloc (.cells #[.slice An nn cn, .slice Ad nd cd] 27)) (hla.alloc _) (hn.below HST.out.bl hBn) (hd.below HST.out.bl hBd) (hs.below HST.out.bl hBl) (by simp; omega) (by simp; omega) (by simp; omega) hsn hsd)
  have HP := Lib.hid hp
  clear hn hd hs hsn hsd hla hp
  go_enter Tryd.func32, Tryd.ntmps32
  go_wp2_with fail
  generalize World.alloc _ _ = W at *
  refine HCK.out.mono ?_
  rintro e w1 ⟨rfl, hb1⟩
  have HS1 := Lib.hid (HST.out.later hb1)
  clear hb1 HST HCK
  by_cases h0 : locksErr ns ds ls = 0; rotate_left
  · have q0 : (locksErr ns ds ls != 0) = true := by simpa using h0
    have HNZ := Lib.hid h0
    clear h0
    go_wp2_with fail
    go_ret2
    exact ⟨.inl ⟨HNZ.out, rfl⟩, HS1.out.bl⟩
  have HZ := Lib.hid h0
  rw [h0]
  clear h0
  have k1 : w1.cell? ⟨w.heap.size, 1, none⟩ = some (.slice Ad nd cd) := HS1.out.bn.cell 1
  go_wp2_with fail
  clear k1
  go_loopg [11, 25] nd (ThR w #[.slice An nn cn, .slice Ad nd cd] ds ls pos p nd)
  case atStart => exact ⟨0, 0, 0, none, rfl, rfl, Nat.zero_le _, rfl, Nat.le_refl _, rfl, World.ownsRow_nil _ _ _ _, HS1⟩
  case round =>
    clear HS1
    obtain ⟨i, m, c3, A, rfl, rfl, hi, rfl, hmi, hlen, hO, hst⟩ := hrel
    by_cases hlt : i < nd
    · obtain ⟨b, off, x, rfl, hb, hx, hc⟩ := (HD.out.below hst.out.bl hBd).at (fun _ => rfl) (by decide) hlt
      have HKO := Lib.hid (kindOf_at hx)
      obtain ⟨nm, kd, xa, xb, co⟩ := x
      have c0 : wr.cell? ⟨b, off + i * 5, none⟩ = some (.string nm) := hc 0 _ rfl
      have c1 : wr.cell? ⟨b, off + i * 5 + 1, none⟩ = some (.int .i64 kd) := hc 1 _ rfl
      have c2 : wr.cell? ⟨b, off + i * 5 + 2, none⟩ = some (.int .i64 xa) := hc 2 _ rfl
      have c3' : wr.cell? ⟨b, off + i * 5 + 3, none⟩ = some (.int .i64 xb) := hc 3 _ rfl
      have c4 : wr.cell? ⟨b, off + i * 5 + 4, none⟩ = some (.int .i64 co) := hc 4 _ rfl
      clear hc hx
      have HS2 : Hid (PcSt w _ (wr.alloc (.cells #[.string nm, .int .i64 kd, .int .i64 xa, .int .i64 xb, .int .i64 co] 57))) := hst.out.later ((Below.refl _ _).alloc (Nat.le_refl _) _)
      have HK2 : Hid (Blk (wr.alloc (.cells #[.string nm, .int .i64 kd, .int .i64 xa, .int .i64 xb, .int .i64 co] 57)) wr.heap.size 57 #[.string nm, .int .i64 kd, .int .i64 xa, .int .i64 xb, .int .i64 co]) := Blk.new _ _ _
      have HO2 : Hid (IntsO (wr.alloc (.cells #[.string nm, .int .i64 kd, .int .i64 xa, .int .i64 xb, .int .i64 co] 57)) (w.heap.size + 1) A m c3 (thoTo ds ls pos p i)) := World.ownsRow.alloc hO.out _
      have hzr := hst.out.bn.lt
      clear hst hO
      go_upto_region 8 with (fail)
      clear c0 c1 c2 c3' c4
      generalize World.alloc wr _ = W2 at *
      have hz2 := HS2.out.bl.size
      go_wp2_with fail
      refine (locked_any Al n c Bl ls i W2 (HS.out.below HS2.out.bl hBl) (by omega)).mono ?_
      rintro e w3 ⟨rfl, hb3⟩
      have HS3 := Lib.hid (HS2.out.later hb3)
      have HK3 := Lib.hid (HK2.out.below hb3 HK2.out.lt)
      have HO3 := Lib.hid (HO2.out.later hb3)
      clear hb3 HS2 HK2 HO2 hz2
      unfold lckE
      have HSU := Lib.hid (thoTo_succ ds ls pos p i)
      have HTB : Hid (thoB ds ls pos p i = (decide (lckL ls i = some pos) && p kd)) := by unfold Hid thoB; rw [HKO.out]
      have hz3 := HS3.out.bn.lt
      rcases hl : lckL ls i with _ | pv
      · have HF : Hid (thoTo ds ls pos p (i + 1) = thoTo ds ls pos p i) := by unfold Hid; rw [HSU.out, HTB.out, hl]; rfl
        clear hl
        simp only [Option.getD_none, Option.isSome_none]
        go_wp2_with fail
        go_roundg (nd - (i + 1))
        case rel => exact ⟨i + 1, m, c3, A, rfl, by go_num, by omega, rfl, by omega, by rw [HF.out]; exact hlen, by rw [HF.out]; exact HO3, HS3⟩
        case measure => omega
      · simp only [Option.getD_some, Option.isSome_some]
        by_cases hpp : pv = pos
        · subst hpp
          have qp : (pv == pv) = true := by simp
          have k1 : w3.cell? ⟨wr.heap.size, 1, none⟩ = some (.int .i64 kd) := HK3.out.cell 1
          rcases hpk : p kd with _ | _
          · have hcall := HP.out w3 kd
            rw [hpk] at hcall
            have HF : Hid (thoTo ds ls pv p (i + 1) = thoTo ds ls pv p i) := by unfold Hid; rw [HSU.out, HTB.out, hl, hpk]; simp
            clear hl hpk
            go_wp2_with (go_at_fn g; refine hcall.mono ?_; rintro e w' ⟨rfl, rfl⟩)
            go_roundg (nd - (i + 1))
            case rel => exact ⟨i + 1, m, c3, A, rfl, by go_num, by omega, rfl, by omega, by rw [HF.out]; exact hlen, by rw [HF.out]; exact HO3, HS3⟩
            case measure => omega
          · have hcall := HP.out w3 kd
            rw [hpk] at hcall
            have HF : Hid (thoTo ds ls pv p (i + 1) = thoTo ds ls pv p i ++ [(i : Int)]) := by unfold Hid; rw [HSU.out, HTB.out, hl, hpk]; simp
            clear hl hpk
            go_upto_region 10 with (go_at_fn g; refine hcall.mono ?_; rintro e w' ⟨rfl, rfl⟩)
            clear k1 qp hcall
            go_wp2_with (at_builtin; go_must (refine wpList_app rfl (.tmp 48) (.tmp 50) rfl el_int (by rfl) (World.ownsRow.alloc HO3.out _) (by rfl) (Sl.newest (n := 1) (by simp) (by rfl) (by decide)) (by simp [Value.oneCell']) (by omega) (by omega) (by simp; omega) ?_; intro A' cap' w5 hown5 hgr5 hat5; have HO5 := Lib.hid hown5; have HG5 := Lib.hid hgr5; clear hown5 hgr5 hat5))
            go_roundg (nd - (i + 1))
            case rel =>
              have hr1 : ∀ b, (Value.slice A m c3).ownBlock = some b → w.heap.size + 1 ≤ b := fun b e => (HO3.out.lt b e).1
              have hg5 := HG5.out
              have hb5 : Below (w.heap.size + 1) w3 w5 := ((Below.refl _ _).alloc hz3 _).trans ⟨hg5.os, hg5.tape, hg5.output, hg5.size, fun t ht => hg5.block t (by simp; omega) (fun e => by have := hr1 t e.symm; omega)⟩
              refine ⟨i + 1, m + 1, cap', A', rfl, by go_num, by omega, rfl, by omega, ?_, ?_, ⟨HS3.out.bn.below hb5 (by omega), HS3.out.bl.trans (hb5.mono (by omega))⟩⟩
              · unfold Hid; rw [HF.out, List.length_append, hlen.out]; rfl
              · unfold Hid IntsO; rw [HF.out, intsV_append]; exact HO5.out
            case measure => omega
        · have qp : (pv == pos) = false := by simpa using hpp
          have HF : Hid (thoTo ds ls pos p (i + 1) = thoTo ds ls pos p i) := by unfold Hid; rw [HSU.out, HTB.out, hl]; simp [hpp]
          clear hl hpp
          go_wp2_with fail
          go_roundg (nd - (i + 1))
          case rel => exact ⟨i + 1, m, c3, A, rfl, by go_num, by omega, rfl, by omega, by rw [HF.out]; exact hlen, by rw [HF.out]; exact HO3, HS3⟩
          case measure => omega
    · obtain rfl : i = nd := by omega
      have hii : decide (i < i) = false := by simp
      go_wp2_with fail
      go_ret2
      refine ⟨.inr ⟨HZ.out, A, c3, by rw [hlen.out]; rfl, ?_⟩, hst.out.bl⟩
      unfold Hid; rw [hlen.out]; exact hO.out.mono (by omega)
theorem gaps_any (An Ad Al : Option Addr) (nn cn nd cd n c Bn Bd Bl : Nat) (ns : List Nd) (ds : List Dv) (ls : List Lk) (w : World) (hla : Laid w) (hn : Sl w Bn 3 An nn cn (ns.flatMap Nd.cells)) (hd : Sl w Bd 5 Ad nd cd (ds.flatMap Dv.cells)) (hs : Sl w Bl 3 Al n c (ls.flatMap Lk.cells)) (hBn : Bn ≤ w.heap.size) (hBd : Bd ≤ w.heap.size) (hBl : Bl ≤ w.heap.size) (hnd : nd ≤ 1000)
    (hsn : ∀ x ∈ ns, x.name.size ≤ 9223372036854775807) (hsd : ∀ x ∈ ds, x.name.size ≤ 9223372036854775807) :
    Calls Tryd.prog 12 #[.agg #[.slice An nn cn, .slice Ad nd cd], .slice Al n c] w (IntsEPost w (locksErr ns ds ls) (thoTo ds ls 1 gapB nd)) := by
  have HB : Hid (Below w.heap.size w (w.alloc (.cells #[.slice An nn cn, .slice Ad nd cd] 27))) := (Below.refl _ _).alloc (Nat.le_refl _) _
  have HC := Lib.hid (those_any 33 gapB (enters_of Tryd.func33 (by kernel_rfl) rfl) gap_any 1 An Ad Al nn cn nd cd n c Bn Bd Bl ns ds ls (w.alloc (.cells #[.slice An nn cn, .slice Ad nd cd] 27)) (hla.alloc _) (hn.below HB.out hBn) (hd.below HB.out hBd) (hs.below HB.out hBl) (by simp; omega) (by simp; omega) (by simp; omega) hnd hsn hsd)
  have HW : Hid ((w.alloc (.cells #[.slice An nn cn, .slice Ad nd cd] 27)).heap.size = w.heap.size + 1) := by unfold Hid; simp
  clear hn hd hs hla
  generalize thoTo ds ls 1 gapB nd = l at *
  go_enter Tryd.func12, Tryd.ntmps12
  go_wp2_with fail
  generalize World.alloc _ _ = W at *
  refine HC.out.mono ?_
  rintro e w1 ⟨⟨h1, rfl⟩ | ⟨h1, A, c1, rfl, hO⟩, hb⟩
  · have HNZ := Lib.hid h1
    clear h1
    go_wp2_with fail
    go_ret2
    exact ⟨.inl ⟨HNZ.out, rfl⟩, HB.out.trans (hb.out.mono HB.out.size)⟩
  · have HZ := Lib.hid h1
    clear h1
    go_wp2_with fail
    go_ret2
    exact ⟨.inr ⟨HZ.out, A, c1, rfl, hO.out.mono (by have := HW.out; omega)⟩, HB.out.trans (hb.out.mono HB.out.size)⟩
theorem earths_any (An Ad Al : Option Addr) (nn cn nd cd n c Bn Bd Bl : Nat) (ns : List Nd) (ds : List Dv) (ls : List Lk) (w : World) (hla : Laid w) (hn : Sl w Bn 3 An nn cn (ns.flatMap Nd.cells)) (hd : Sl w Bd 5 Ad nd cd (ds.flatMap Dv.cells)) (hs : Sl w Bl 3 Al n c (ls.flatMap Lk.cells)) (hBn : Bn ≤ w.heap.size) (hBd : Bd ≤ w.heap.size) (hBl : Bl ≤ w.heap.size) (hnd : nd ≤ 1000)
    (hsn : ∀ x ∈ ns, x.name.size ≤ 9223372036854775807) (hsd : ∀ x ∈ ds, x.name.size ≤ 9223372036854775807) :
    Calls Tryd.prog 14 #[.agg #[.slice An nn cn, .slice Ad nd cd], .slice Al n c] w (IntsEPost w (locksErr ns ds ls) (thoTo ds ls 2 (fun k => k == 4) nd)) := by
  have HB : Hid (Below w.heap.size w (w.alloc (.cells #[.slice An nn cn, .slice Ad nd cd] 27))) := (Below.refl _ _).alloc (Nat.le_refl _) _
  have HC := Lib.hid (those_any 35 (fun k => k == 4) (enters_of Tryd.func35 (by kernel_rfl) rfl) isearth_any 2 An Ad Al nn cn nd cd n c Bn Bd Bl ns ds ls (w.alloc (.cells #[.slice An nn cn, .slice Ad nd cd] 27)) (hla.alloc _) (hn.below HB.out hBn) (hd.below HB.out hBd) (hs.below HB.out hBl) (by simp; omega) (by simp; omega) (by simp; omega) hnd hsn hsd)
  have HW : Hid ((w.alloc (.cells #[.slice An nn cn, .slice Ad nd cd] 27)).heap.size = w.heap.size + 1) := by unfold Hid; simp
  clear hn hd hs hla
  generalize thoTo ds ls 2 (fun k => k == 4) nd = l at *
  go_enter Tryd.func14, Tryd.ntmps14
  go_wp2_with fail
  generalize World.alloc _ _ = W at *
  refine HC.out.mono ?_
  rintro e w1 ⟨⟨h1, rfl⟩ | ⟨h1, A, c1, rfl, hO⟩, hb⟩
  · have HNZ := Lib.hid h1
    clear h1
    go_wp2_with fail
    go_ret2
    exact ⟨.inl ⟨HNZ.out, rfl⟩, HB.out.trans (hb.out.mono HB.out.size)⟩
  · have HZ := Lib.hid h1
    clear h1
    go_wp2_with fail
    go_ret2
    exact ⟨.inr ⟨HZ.out, A, c1, rfl, hO.out.mono (by have := HW.out; omega)⟩, HB.out.trans (hb.out.mono HB.out.size)⟩
/-- The list that Worst fills: the first i are done, the others are zero. -/
def wrsMix (ds : List Dv) (ls : List Lk) (n i : Nat) : List Int := wrsTo ds ls i ++ List.replicate (n - i) 0
theorem wrsMix_zero (ds : List Dv) (ls : List Lk) (n : Nat) : wrsMix ds ls n 0 = List.replicate n 0 := by simp [wrsMix, wrsTo]
theorem wrsMix_all (ds : List Dv) (ls : List Lk) (n : Nat) : wrsMix ds ls n n = wrsTo ds ls n := by simp [wrsMix]
theorem wrsMix_set {ds : List Dv} {ls : List Lk} {n i : Nat} (h : i < n) : (wrsMix ds ls n i).set i (wrsAt ds ls i) = wrsMix ds ls n (i + 1) := by
  unfold wrsMix
  rw [List.set_append_right _ _ (by rw [wrsTo_len]; exact Nat.le_refl _), wrsTo_len, Nat.sub_self, show n - i = (n - (i + 1)) + 1 by omega, List.replicate_succ, List.set_cons_zero]
  have : wrsTo ds ls (i + 1) = wrsTo ds ls i ++ [wrsAt ds ls i] := by simp [wrsTo, List.range_succ]
  rw [this, List.append_assoc]; rfl
def WsR (w : World) (N : Array Value) (ds : List Dv) (ls : List Lk) (A : Option Addr) (n c gk : Nat) (iv : Value) (wr : World) : Prop := ∃ i : Nat, iv = .int .i64 i ∧ i ≤ n ∧ gk = n - i ∧ Hid (IntsO wr (w.heap.size + 1) A n c (wrsMix ds ls n i)) ∧ Hid (PcSt w N wr)
set_option maxRecDepth 100000 in
set_option maxHeartbeats 8000000 in
theorem worst_any (An Ad Al : Option Addr) (nn cn nd cd n c Bn Bd Bl : Nat) (ns : List Nd) (ds : List Dv) (ls : List Lk) (w : World) (hla : Laid w) (hn : Sl w Bn 3 An nn cn (ns.flatMap Nd.cells)) (hd : Sl w Bd 5 Ad nd cd (ds.flatMap Dv.cells)) (hs : Sl w Bl 3 Al n c (ls.flatMap Lk.cells)) (hBn : Bn ≤ w.heap.size) (hBd : Bd ≤ w.heap.size) (hBl : Bl ≤ w.heap.size) (hnd : nd ≤ 1000)
    (hsn : ∀ x ∈ ns, x.name.size ≤ 9223372036854775807) (hsd : ∀ x ∈ ds, x.name.size ≤ 9223372036854775807) :
    Calls Tryd.prog 16 #[.agg #[.slice An nn cn, .slice Ad nd cd], .slice Al n c] w (IntsEPost w (locksErr ns ds ls) (wrsTo ds ls nd)) := by
  have HS := Lib.hid hs; have HD := Lib.hid hd
  have hdl := hd.le
  have HST : Hid (PcSt w #[.slice An nn cn, .slice Ad nd cd] (w.alloc (.cells #[.slice An nn cn, .slice Ad nd cd] 27))) := ⟨Blk.new _ _ _, (Below.refl _ _).alloc (Nat.le_refl _) _⟩
  have HCK := Lib.hid (lcheck_any An Ad Al nn cn nd cd n c Bn Bd Bl ns ds ls (w.alloc (.cells #[.slice An nn cn, .slice Ad nd cd] 27)) (hla.alloc _) (hn.below HST.out.bl hBn) (hd.below HST.out.bl hBd) (hs.below HST.out.bl hBl) (by simp; omega) (by simp; omega) (by simp; omega) hsn hsd)
  clear hn hd hs hsn hsd hla
  go_enter Tryd.func16, Tryd.ntmps16
  go_wp2_with fail
  generalize World.alloc _ _ = W at *
  refine HCK.out.mono ?_
  rintro e w1 ⟨rfl, hb1⟩
  have HS1 := Lib.hid (HST.out.later hb1)
  clear hb1 HST HCK
  by_cases h0 : locksErr ns ds ls = 0; rotate_left
  · have q0 : (locksErr ns ds ls != 0) = true := by simpa using h0
    have HNZ := Lib.hid h0
    clear h0
    go_wp2_with fail
    go_ret2
    exact ⟨.inl ⟨HNZ.out, rfl⟩, HS1.out.bl⟩
  have HZ := Lib.hid h0
  rw [h0]
  clear h0
  have k1 : w1.cell? ⟨w.heap.size, 1, none⟩ = some (.slice Ad nd cd) := HS1.out.bn.cell 1
  have hmk := fun W => run_mk_int nd (by omega) W
  have hz1 := HS1.out.bn.lt
  have HO1 : Hid (IntsO (w1.alloc (.cells (intsV (List.replicate nd 0)).toArray 3)) (w.heap.size + 1) (some ⟨w1.heap.size, 0, none⟩) nd nd (wrsMix ds ls nd 0)) := by unfold Hid; rw [wrsMix_zero]; exact ints_new hz1 (by omega)
  have HS2 : Hid (PcSt w #[.slice An nn cn, .slice Ad nd cd] (w1.alloc (.cells (intsV (List.replicate nd 0)).toArray 3))) := HS1.out.later ((Below.refl _ _).alloc (Nat.le_refl _) _)
  have k2 : (w1.alloc (.cells (intsV (List.replicate nd 0)).toArray 3)).cell? ⟨w.heap.size, 1, none⟩ = some (.slice Ad nd cd) := HS2.out.bn.cell 1
  clear HS1
  go_wp2_with fail
  clear k1 k2 hmk
  generalize World.alloc w1 _ = W2 at *
  go_loopg [25] nd (WsR w #[.slice An nn cn, .slice Ad nd cd] ds ls (some ⟨w1.heap.size, 0, none⟩) nd nd)
  case atStart => exact ⟨0, rfl, Nat.zero_le _, rfl, HO1, HS2⟩
  case round =>
    clear HS2 HO1
    obtain ⟨i, rfl, hi, rfl, hO, hst⟩ := hrel
    by_cases hlt : i < nd
    · obtain ⟨b, off, x, rfl, hb, hx, hc⟩ := (HD.out.below hst.out.bl hBd).at (fun _ => rfl) (by decide) hlt
      have HKO := Lib.hid (kindOf_at hx)
      obtain ⟨nm, kd, xa, xb, co⟩ := x
      have c0 : wr.cell? ⟨b, off + i * 5, none⟩ = some (.string nm) := hc 0 _ rfl
      have c1 : wr.cell? ⟨b, off + i * 5 + 1, none⟩ = some (.int .i64 kd) := hc 1 _ rfl
      have c2 : wr.cell? ⟨b, off + i * 5 + 2, none⟩ = some (.int .i64 xa) := hc 2 _ rfl
      have c3' : wr.cell? ⟨b, off + i * 5 + 3, none⟩ = some (.int .i64 xb) := hc 3 _ rfl
      have c4 : wr.cell? ⟨b, off + i * 5 + 4, none⟩ = some (.int .i64 co) := hc 4 _ rfl
      clear hc hx
      have HS2 : Hid (PcSt w _ (wr.alloc (.cells #[.string nm, .int .i64 kd, .int .i64 xa, .int .i64 xb, .int .i64 co] 57))) := hst.out.later ((Below.refl _ _).alloc (Nat.le_refl _) _)
      have HK2 : Hid (Blk (wr.alloc (.cells #[.string nm, .int .i64 kd, .int .i64 xa, .int .i64 xb, .int .i64 co] 57)) wr.heap.size 57 #[.string nm, .int .i64 kd, .int .i64 xa, .int .i64 xb, .int .i64 co]) := Blk.new _ _ _
      have HO2 : Hid (IntsO (wr.alloc (.cells #[.string nm, .int .i64 kd, .int .i64 xa, .int .i64 xb, .int .i64 co] 57)) (w.heap.size + 1) (some ⟨w1.heap.size, 0, none⟩) nd nd (wrsMix ds ls nd i)) := World.ownsRow.alloc hO.out _
      clear hst hO
      go_upto_region 8 with (fail)
      clear c0 c1 c2 c3' c4
      generalize World.alloc wr _ = W3 at *
      have hz2 := HS2.out.bl.size
      go_wp2_with fail
      refine (locked_any Al n c Bl ls i W3 (HS.out.below HS2.out.bl hBl) (by omega)).mono ?_
      rintro e w3 ⟨rfl, hb3⟩
      have HS3 := Lib.hid (HS2.out.later hb3)
      have HK3 := Lib.hid (HK2.out.below hb3 HK2.out.lt)
      have HO3 := Lib.hid (HO2.out.later hb3)
      clear hb3 HS2 HK2 HO2 hz2
      have HW : Hid (wrsAt ds ls i = match lckL ls i with | some p => p | none => if kd = 5 then 2 else 3) := by unfold Hid wrsAt; rw [HKO.out]
      have HSE := Lib.hid (wrsMix_set (ds := ds) (ls := ls) hlt)
      obtain ⟨qb, y, hqe, hq1, hq2, hy, hcy, hfy, hst4⟩ := IntsO.at HO3.out hlt
      injection hqe with hqe; injection hqe with hqe; subst hqe
      have hz3 := HS3.out.bn.lt
      have HST4 : Hid (∀ v, PcSt w _ (w3.setCell ⟨w1.heap.size, i, none⟩ (.int .i64 v))) := fun v => ⟨HS3.out.bn.far (by simp; omega) _, HS3.out.bl.setCell (by simp; omega) _⟩
      have HO4 := Lib.hid hst4
      clear hst4 hy
      unfold lckE
      rcases hl : lckL ls i with _ | pv
      · simp only [Option.getD_none, Option.isSome_none]
        have k1 : w3.cell? ⟨wr.heap.size, 1, none⟩ = some (.int .i64 kd) := HK3.out.cell 1
        by_cases h5 : kd = 5
        · have HF : Hid (wrsAt ds ls i = 2) := by unfold Hid; rw [HW.out, hl]; simp [h5]
          have q5 : (kd == 5) = true := by simpa using h5
          clear hl h5
          go_wp2_with fail
          go_roundg (nd - (i + 1))
          case rel => exact ⟨i + 1, by go_num, by omega, rfl, by rw [← HSE.out, HF.out]; exact HO4.out 2, HST4.out 2⟩
          case measure => omega
        · have HF : Hid (wrsAt ds ls i = 3) := by unfold Hid; rw [HW.out, hl]; simp [h5]
          have q5 : (kd == 5) = false := by simpa using h5
          clear hl h5
          go_wp2_with fail
          go_roundg (nd - (i + 1))
          case rel => exact ⟨i + 1, by go_num, by omega, rfl, by rw [← HSE.out, HF.out]; exact HO4.out 3, HST4.out 3⟩
          case measure => omega
      · simp only [Option.getD_some, Option.isSome_some]
        have HF : Hid (wrsAt ds ls i = pv) := by unfold Hid; rw [HW.out, hl]
        clear hl
        go_wp2_with fail
        go_roundg (nd - (i + 1))
        case rel => exact ⟨i + 1, by go_num, by omega, rfl, by rw [← HSE.out, HF.out]; exact HO4.out pv, HST4.out pv⟩
        case measure => omega
    · obtain rfl : i = nd := by omega
      have hii : decide (i < i) = false := by simp
      have hlen := wrsTo_len ds ls i
      go_wp2_with fail
      go_ret2
      refine ⟨.inr ⟨HZ.out, some ⟨w1.heap.size, 0, none⟩, i, by rw [hlen]; rfl, ?_⟩, hst.out.bl⟩
      unfold Hid; rw [hlen, ← wrsMix_all]; exact hO.out.mono (by omega)
end Go.Proofs.YtbjndpjligpjaaaDoor
