import Derived.Test.YtlcaebfjdhgcfaaDoorZ24
/-
  The program's field: an event happens.
-/
namespace Go.Proofs.YtlcaebfjdhgcfaaDoor
open Go.RowKit
section
variable {ns : List Nd} {ds : List Dv} {F : Fd} {d p q : Int} {x : Dv}
theorem ev1 : evErr ns ds F 1 d p q = opErr (kindOf ds d) p (lckL F.ls d).isSome := rfl
theorem ev3 : evErr ns ds F 3 d p q = rnErr (kindOf ds d) p := rfl
theorem to1 {d : Nat} : evTo ds F 1 d p q = mvF F d p ((lckL F.ls d).isSome || decide ((d : Int) ∈ F.st)) := rfl
theorem to2 {d : Nat} : evTo ds F 2 d p q = mvF F d 1 ((lckL F.ls d).isSome || decide ((d : Int) ∈ F.st)) := rfl
theorem to3 {d : Nat} : evTo ds F 3 d p q = mvF F d p ((lckL F.ls d).isSome || decide ((d : Int) ∈ F.st)) := rfl
end
theorem sc_from {w wq w' : World} {B sb nn cn nd cd : Nat} {An Ad : Option Addr} {k d p q : Int} {lk sk : Bool} {F' : Fd} (hb : Below w.heap.size w wq) (h : ScTo wq B sb An nn cn Ad nd cd k d p q lk sk F' w') : ScTo w B sb An nn cn Ad nd cd k d p q lk sk F' w' := by
  obtain ⟨hg, r⟩ := h
  exact ⟨grown_trans (grown_of_below hb _) hg.out, r⟩
set_option maxRecDepth 100000 in
set_option maxHeartbeats 16000000 in
theorem happen_any (B sb : Nat) (An Ad As Al At : Option Addr) (nn cn nd cd n c nl cl nt ct : Nat) (ns : List Nd) (ds : List Dv) (F : Fd) (k p q : Int) (d : Nat) (lk sk : Bool) (w : World) (h : ScAt w B sb An nn cn ns Ad nd cd ds As n c Al nl cl At nt ct F k d p q lk sk)
    (hlk : lk = (lckL F.ls d).isSome) (hsk : sk = decide ((d : Int) ∈ F.st)) (h0 : fdErr ns ds F = 0) (hdn : d < ds.length) (hn : n ≤ 1000000) (ht : nt ≤ 1000000) :
    Calls Tryd.prog 24 #[.pointer (some ⟨sb, 0, none⟩)] w (ScPost w B sb An nn cn Ad nd cd k d p q lk sk (evErr ns ds F k d p q) (evTo ds F k d p q)) := by
  have hnl : F.ls.length = nl := h.hl.len (fun _ => rfl) (by decide)
  subst hnl
  obtain ⟨hse, hle, -, hst⟩ := fdErr_zero h0
  have hdl : ds.length = nd := h.hd.len (fun _ => rfl) (by decide)
  have hsl : F.s.length = n := h.hs.len (fun _ => rfl) (by decide)
  have hdd : d < n := by have := (stateErr_len hse).2.1; omega
  have hnd : d < nd := by omega
  obtain ⟨bd, off, x, hAd, hbd, hx, hc⟩ := h.hd.at (k := d) (fun _ => rfl) (by decide) hnd
  subst hAd
  have hkd : kindOf ds (d : Int) = x.kind := kindOf_at hx
  obtain ⟨nm, kd, xa, xb, xc⟩ := x
  have c1 : w.cell? ⟨bd, off + d * 5 + 1, none⟩ = some (.int .i64 kd) := hc 1 _ rfl
  have hndm := h.hd.le
  have HKD : Hid (kindOf ds (d : Int) = kd) := hkd
  have HLK := Lib.hid hlk; have HSK := Lib.hid hsk; have HLE := Lib.hid hle; have HST := Lib.hid hst; have HDL := Lib.hid hdl
  have HH := Lib.hid h
  have hb := h.b
  unfold scV at hb
  have a1 : w.cell? ⟨sb, 1, none⟩ = some (.slice (some ⟨bd, off, none⟩) nd cd) := hb.cell 1
  have a5 : w.cell? ⟨sb, 5, none⟩ = some (.int .i64 k) := hb.cell 5
  have a6 : w.cell? ⟨sb, 6, none⟩ = some (.int .i64 (d : Int)) := hb.cell 6
  have HGO : Hid (ScAt w B sb An nn cn ns (some ⟨bd, off, none⟩) nd cd ds As n c Al F.ls.length cl At nt ct F k d p q lk sk) := h
  clear hb h hc hx hkd hlk hsk h0 hse hle hst hdl hsl
  by_cases h1 : k = 1
  · subst h1
    go_enter Tryd.func24, Tryd.ntmps24
    go_wp2_with fail
    go_quiet (fail)
    have HQ := Lib.hid (HH.out.later (below_drewN (Below.refl _ _) nq))
    have HG0 : Hid (Below w.heap.size w (w.drewN nq)) := below_drewN (Below.refl _ _) nq
    generalize World.drewN w nq = wq at *
    have r5 : wq.cell? ⟨sb, 5, none⟩ = some (.int .i64 1) := by have := HQ.out.b; unfold scV at this; exact this.cell 5
    clear a1 a5 a6 c1
    go_wp2_with fail
    refine (operate_any B sb An (some ⟨bd, off, none⟩) As Al At nn cn nd cd n c F.ls.length cl nt ct ns ds F 1 p q kd d lk sk wq HQ.out hdd hn).mono ?_
    rintro e w1 ⟨rfl, hT⟩
    have HT := Lib.hid hT
    clear hT HQ
    go_wp2_with fail
    go_ret
    refine ⟨?_, _, sc_from HG0.out HT.out, fun hE => ?_⟩
    · rw [ev1, HKD.out, ← HLK.out]; rfl
    · rw [ev1, HKD.out, ← HLK.out] at hE
      rw [to1, hE, ← HLK.out, ← HSK.out]; rfl
  have q1 : (k == 1) = false := by simpa using h1
  by_cases h2 : k = 2
  · subst h2
    by_cases hk2 : kd = 2
    · subst hk2
      go_enter Tryd.func24, Tryd.ntmps24
      go_wp2_with fail
      go_quiet (fail)
      have HQ := Lib.hid (HH.out.later (below_drewN (Below.refl _ _) nq))
      have HG0 : Hid (Below w.heap.size w (w.drewN nq)) := below_drewN (Below.refl _ _) nq
      generalize World.drewN w nq = wq at *
      have r5 : wq.cell? ⟨sb, 5, none⟩ = some (.int .i64 2) := by have := HQ.out.b; unfold scV at this; exact this.cell 5
      clear a1 a5 a6 c1
      go_wp2_with fail
      refine (move_any B sb An (some ⟨bd, off, none⟩) As Al At nn cn nd cd n c F.ls.length cl nt ct ns ds F 2 p q 1 d lk sk wq HQ.out hdd hn).mono ?_
      rintro e w1 ⟨rfl, hT⟩
      have HT := Lib.hid hT
      clear hT HQ
      go_wp2_with fail
      go_ret
      refine ⟨?_, _, sc_from HG0.out HT.out, fun _ => ?_⟩
      · unfold evErr; rw [if_neg (by decide), if_pos rfl, if_pos HKD.out]; rfl
      · rw [to2, ← HLK.out, ← HSK.out]
    · have qk : (kd != 2) = true := by simpa using hk2
      have HE : Hid (evErr ns ds F 2 d p q = 6) := by unfold Hid evErr; rw [if_neg (by decide), if_pos rfl, if_neg (by rw [HKD.out]; exact hk2)]
      clear hk2
      go_enter Tryd.func24, Tryd.ntmps24
      go_wp2_with fail
      go_quiet (fail)
      have HQ := Lib.hid (HH.out.later (below_drewN (Below.refl _ _) nq))
      have HG0 : Hid (Below w.heap.size w (w.drewN nq)) := below_drewN (Below.refl _ _) nq
      generalize World.drewN w nq = wq at *
      have r5 : wq.cell? ⟨sb, 5, none⟩ = some (.int .i64 2) := by have := HQ.out.b; unfold scV at this; exact this.cell 5
      clear a1 a5 a6 c1
      go_wp2_with fail
      go_ret
      exact ⟨by rw [HE.out]; rfl, F, sc_from HG0.out HQ.out.same, fun hE => by rw [HE.out] at hE; cases hE⟩
  have q2 : (k == 2) = false := by simpa using h2
  by_cases h3 : k = 3
  · subst h3
    go_enter Tryd.func24, Tryd.ntmps24
    go_wp2_with fail
    go_quiet (fail)
    have HQ := Lib.hid (HH.out.later (below_drewN (Below.refl _ _) nq))
    have HG0 : Hid (Below w.heap.size w (w.drewN nq)) := below_drewN (Below.refl _ _) nq
    generalize World.drewN w nq = wq at *
    have r5 : wq.cell? ⟨sb, 5, none⟩ = some (.int .i64 3) := by have := HQ.out.b; unfold scV at this; exact this.cell 5
    clear a1 a5 a6 c1
    go_wp2_with fail
    refine (run_any B sb An (some ⟨bd, off, none⟩) As Al At nn cn nd cd n c F.ls.length cl nt ct ns ds F 3 p q kd d lk sk wq HQ.out hdd hn).mono ?_
    rintro e w1 ⟨rfl, hT⟩
    have HT := Lib.hid hT
    clear hT HQ
    go_wp2_with fail
    go_ret
    refine ⟨?_, _, sc_from HG0.out HT.out, fun hE => ?_⟩
    · rw [ev3, HKD.out]; rfl
    · rw [ev3, HKD.out] at hE
      rw [to3, hE, ← HLK.out, ← HSK.out]; rfl
  have q3 : (k == 3) = false := by simpa using h3
  by_cases h4 : k = 4
  · subst h4
    go_enter Tryd.func24, Tryd.ntmps24
    go_wp2_with fail
    go_quiet (fail)
    have HQ := Lib.hid (HH.out.later (below_drewN (Below.refl _ _) nq))
    have HG0 : Hid (Below w.heap.size w (w.drewN nq)) := below_drewN (Below.refl _ _) nq
    generalize World.drewN w nq = wq at *
    have r5 : wq.cell? ⟨sb, 5, none⟩ = some (.int .i64 4) := by have := HQ.out.b; unfold scV at this; exact this.cell 5
    clear a1 a5 a6 c1
    go_wp2_with fail
    refine (jam_any B sb An (some ⟨bd, off, none⟩) As Al At nn cn nd cd n c F.ls.length cl nt ct ns ds F 4 p q d lk sk true wq HQ.out HST.out hdn ht).mono ?_
    rintro e w1 ⟨rfl, hT⟩
    have HT := Lib.hid hT
    clear hT HQ
    go_wp2_with fail
    go_ret
    exact ⟨rfl, _, sc_from HG0.out HT.out, fun _ => rfl⟩
  have q4 : (k == 4) = false := by simpa using h4
  by_cases h5 : k = 5
  · subst h5
    go_enter Tryd.func24, Tryd.ntmps24
    go_wp2_with fail
    go_quiet (fail)
    have HQ := Lib.hid (HH.out.later (below_drewN (Below.refl _ _) nq))
    have HG0 : Hid (Below w.heap.size w (w.drewN nq)) := below_drewN (Below.refl _ _) nq
    generalize World.drewN w nq = wq at *
    have r5 : wq.cell? ⟨sb, 5, none⟩ = some (.int .i64 5) := by have := HQ.out.b; unfold scV at this; exact this.cell 5
    clear a1 a5 a6 c1
    go_wp2_with fail
    refine (jam_any B sb An (some ⟨bd, off, none⟩) As Al At nn cn nd cd n c F.ls.length cl nt ct ns ds F 5 p q d lk sk false wq HQ.out HST.out hdn ht).mono ?_
    rintro e w1 ⟨rfl, hT⟩
    have HT := Lib.hid hT
    clear hT HQ
    go_wp2_with fail
    go_ret
    exact ⟨rfl, _, sc_from HG0.out HT.out, fun _ => rfl⟩
  have q5 : (k == 5) = false := by simpa using h5
  by_cases h6 : k = 6
  · subst h6
    go_enter Tryd.func24, Tryd.ntmps24
    go_wp2_with fail
    go_quiet (fail)
    have HQ := Lib.hid (HH.out.later (below_drewN (Below.refl _ _) nq))
    have HG0 : Hid (Below w.heap.size w (w.drewN nq)) := below_drewN (Below.refl _ _) nq
    generalize World.drewN w nq = wq at *
    have r5 : wq.cell? ⟨sb, 5, none⟩ = some (.int .i64 6) := by have := HQ.out.b; unfold scV at this; exact this.cell 5
    clear a1 a5 a6 c1
    go_wp2_with fail
    refine (lock_any B sb An (some ⟨bd, off, none⟩) As Al At nn cn nd cd n c F.ls.length cl nt ct ns ds F 6 p q d lk sk wq HQ.out hdd).mono ?_
    rintro e w1 ⟨rfl, F', hT, hF⟩
    obtain ⟨E, hE⟩ : ∃ E, E = (if posB p = true ∧ F.s.getD d 0 = p then addErr ns ds F.ls ⟨(d : Int), p, q⟩ else 10) := ⟨_, rfl⟩
    rw [← hE] at hF ⊢
    have HT := Lib.hid hT; have HF := Lib.hid hF; have HE := Lib.hid hE
    clear hT hF hE HQ
    go_wp2_with fail
    go_ret
    exact ⟨by rw [HE.out]; rfl, F', sc_from HG0.out HT.out, fun h0 => HF.out (by rw [HE.out]; exact h0)⟩
  have q6 : (k == 6) = false := by simpa using h6
  by_cases h7 : k = 7
  · subst h7
    obtain ⟨E, hE⟩ : ∃ E, E = (if idxL (d : Int) q F.ls = none then (15 : Int) else 0) := ⟨_, rfl⟩
    have HE := Lib.hid hE
    clear hE
    go_enter Tryd.func24, Tryd.ntmps24
    go_wp2_with fail
    go_quiet (fail)
    have HQ := Lib.hid (HH.out.later (below_drewN (Below.refl _ _) nq))
    have HG0 : Hid (Below w.heap.size w (w.drewN nq)) := below_drewN (Below.refl _ _) nq
    generalize World.drewN w nq = wq at *
    have r5 : wq.cell? ⟨sb, 5, none⟩ = some (.int .i64 7) := by have := HQ.out.b; unfold scV at this; exact this.cell 5
    clear a1 a5 a6 c1
    go_wp2_with fail
    have HQD := Lib.hid (HQ.out.later (Below.refl _ _).drew)
    refine wp_region_K (S := fun W' => W'.cell? ⟨sb, 0, none⟩ = some (.slice An nn cn) ∧ W'.cell? ⟨sb, 1, none⟩ = some (.slice (some ⟨bd, off, none⟩) nd cd) ∧ W'.cell? ⟨sb, 3, none⟩ = some (.slice Al F.ls.length cl) ∧ W'.cell? ⟨sb, 6, none⟩ = some (.int .i64 (d : Int)) ∧ W'.cell? ⟨sb, 7, none⟩ = some (.int .i64 p) ∧ W'.cell? ⟨sb, 8, none⟩ = some (.int .i64 q)) (J := [27]) (by kernel_rfl) ?_ (fun hHeld => ?_)
    · exact sc_cells HQ.out.b
    try dsimp only at hHeld
    refine wpAnyK_takeTL (i := 0) (d := some 56) (v := ?_) #[true, false, false, false, false, false, false, false, false, false, false, false, false, false, false, false, false, false, false, false, false, false, false, false, false, false, false, false, false] (by kernel_rfl) rfl rfl (by kernel_rfl) (by kernel_rfl) (by kernel_rfl) (by kernel_rfl) (by kernel_rfl) (fun _ _ _ h => h) (Or.inl ⟨by rfl, ?_⟩) hHeld ?_
    rotate_left
    · (intro w hSw; (try dsimp only at hSw);  go_simp; try with_reducible rfl)
    try simp only [Act.put, List.setIfInBounds_toArray, List.set_cons_zero, List.set_cons_succ]
    refine wpAnyK_takeTL (i := 1) (d := some 57) (v := ?_) #[true, true, false, false, false, false, false, false, false, false, false, false, false, false, false, false, false, false, false, false, false, false, false, false, false, false, false, false, false] (by kernel_rfl) rfl rfl (by kernel_rfl) (by kernel_rfl) (by kernel_rfl) (by kernel_rfl) (by kernel_rfl) (fun _ _ _ h => h) (Or.inl ⟨by rfl, ?_⟩) hHeld ?_
    rotate_left
    · (intro w hSw; (try dsimp only at hSw);  go_simp; try with_reducible rfl)
    try simp only [Act.put, List.setIfInBounds_toArray, List.set_cons_zero, List.set_cons_succ]
    refine wpAnyK_takeTL (i := 2) (d := some 58) (v := ?_) #[true, true, true, false, false, false, false, false, false, false, false, false, false, false, false, false, false, false, false, false, false, false, false, false, false, false, false, false, false] (by kernel_rfl) rfl rfl (by kernel_rfl) (by kernel_rfl) (by kernel_rfl) (by kernel_rfl) (by kernel_rfl) (fun _ _ _ h => h) (Or.inl ⟨by rfl, ?_⟩) hHeld ?_
    rotate_left
    · (intro w hSw; (try dsimp only at hSw);  go_simp; try with_reducible rfl)
    try simp only [Act.put, List.setIfInBounds_toArray, List.set_cons_zero, List.set_cons_succ]
    refine wpAnyK_takeTL (i := 3) (d := some 59) (v := ?_) #[true, true, true, true, false, false, false, false, false, false, false, false, false, false, false, false, false, false, false, false, false, false, false, false, false, false, false, false, false] (by kernel_rfl) rfl rfl (by kernel_rfl) (by kernel_rfl) (by kernel_rfl) (by kernel_rfl) (by kernel_rfl) (fun _ _ _ h => h) (Or.inl ⟨by rfl, ?_⟩) hHeld ?_
    rotate_left
    · (intro w hSw; (try dsimp only at hSw);  go_simp; try with_reducible rfl)
    try simp only [Act.put, List.setIfInBounds_toArray, List.set_cons_zero, List.set_cons_succ]
    refine wpAnyK_takeL (i := 4) (d := some 60) (v := ?_) #[true, true, true, true, true, false, false, false, false, false, false, false, false, false, false, false, false, false, false, false, false, false, false, false, false, false, false, false, false] (by kernel_rfl) rfl rfl (by kernel_rfl) (by kernel_rfl) (by kernel_rfl) (by kernel_rfl) (by kernel_rfl) (by kernel_rfl) (fun _ _ _ h => h) (Or.inl ⟨by rfl, ?_⟩) hHeld ?_
    rotate_left
    · (intro w hSw; (try dsimp only at hSw);  go_simp; try with_reducible rfl)
    try simp only [Act.put, List.setIfInBounds_toArray, List.set_cons_zero, List.set_cons_succ]
    refine wpAnyK_takeTL (i := 5) (d := some 61) (v := ?_) #[true, true, true, true, true, true, false, false, false, false, false, false, false, false, false, false, false, false, false, false, false, false, false, false, false, false, false, false, false] (by kernel_rfl) rfl rfl (by kernel_rfl) (by kernel_rfl) (by kernel_rfl) (by kernel_rfl) (by kernel_rfl) (fun _ _ _ h => h) (Or.inl ⟨by rfl, ?_⟩) hHeld ?_
    rotate_left
    · (intro w hSw; (try dsimp only at hSw);  go_simp; try with_reducible rfl)
    try simp only [Act.put, List.setIfInBounds_toArray, List.set_cons_zero, List.set_cons_succ]
    refine wpAnyK_takeTL (i := 6) (d := some 62) (v := ?_) #[true, true, true, true, true, true, true, false, false, false, false, false, false, false, false, false, false, false, false, false, false, false, false, false, false, false, false, false, false] (by kernel_rfl) rfl rfl (by kernel_rfl) (by kernel_rfl) (by kernel_rfl) (by kernel_rfl) (by kernel_rfl) (fun _ _ _ h => h) (Or.inl ⟨by rfl, ?_⟩) hHeld ?_
    rotate_left
    · (intro w hSw; (try dsimp only at hSw);  go_simp; try with_reducible rfl)
    try simp only [Act.put, List.setIfInBounds_toArray, List.set_cons_zero, List.set_cons_succ]
    refine wpAnyK_takeTL (i := 7) (d := some 63) (v := ?_) #[true, true, true, true, true, true, true, true, false, false, false, false, false, false, false, false, false, false, false, false, false, false, false, false, false, false, false, false, false] (by kernel_rfl) rfl rfl (by kernel_rfl) (by kernel_rfl) (by kernel_rfl) (by kernel_rfl) (by kernel_rfl) (fun _ _ _ h => h) (Or.inl ⟨by rfl, ?_⟩) hHeld ?_
    rotate_left
    · (intro w hSw; (try dsimp only at hSw);  go_simp; try with_reducible rfl)
    try simp only [Act.put, List.setIfInBounds_toArray, List.set_cons_zero, List.set_cons_succ]
    refine wpAnyK_takeTL (i := 8) (d := some 64) (v := ?_) #[true, true, true, true, true, true, true, true, true, false, false, false, false, false, false, false, false, false, false, false, false, false, false, false, false, false, false, false, false] (by kernel_rfl) rfl rfl (by kernel_rfl) (by kernel_rfl) (by kernel_rfl) (by kernel_rfl) (by kernel_rfl) (fun _ _ _ h => h) (Or.inl ⟨by rfl, ?_⟩) hHeld ?_
    rotate_left
    · (intro w hSw; (try dsimp only at hSw);  go_simp; try with_reducible rfl)
    try simp only [Act.put, List.setIfInBounds_toArray, List.set_cons_zero, List.set_cons_succ]
    refine wpAnyK_takeL (i := 9) (d := some 65) (v := ?_) #[true, true, true, true, true, true, true, true, true, true, false, false, false, false, false, false, false, false, false, false, false, false, false, false, false, false, false, false, false] (by kernel_rfl) rfl rfl (by kernel_rfl) (by kernel_rfl) (by kernel_rfl) (by kernel_rfl) (by kernel_rfl) (by kernel_rfl) (fun _ _ _ h => h) (Or.inl ⟨by rfl, ?_⟩) hHeld ?_
    rotate_left
    · (intro w hSw; (try dsimp only at hSw);  go_simp; try with_reducible rfl)
    try simp only [Act.put, List.setIfInBounds_toArray, List.set_cons_zero, List.set_cons_succ]
    refine wpAnyK_takeTL (i := 10) (d := some 66) (v := ?_) #[true, true, true, true, true, true, true, true, true, true, true, false, false, false, false, false, false, false, false, false, false, false, false, false, false, false, false, false, false] (by kernel_rfl) rfl rfl (by kernel_rfl) (by kernel_rfl) (by kernel_rfl) (by kernel_rfl) (by kernel_rfl) (fun _ _ _ h => h) (Or.inl ⟨by rfl, ?_⟩) hHeld ?_
    rotate_left
    · (intro w hSw; (try dsimp only at hSw);  go_simp; try with_reducible rfl)
    try simp only [Act.put, List.setIfInBounds_toArray, List.set_cons_zero, List.set_cons_succ]
    refine wpAnyK_takeTL (i := 11) (d := some 67) (v := ?_) #[true, true, true, true, true, true, true, true, true, true, true, true, false, false, false, false, false, false, false, false, false, false, false, false, false, false, false, false, false] (by kernel_rfl) rfl rfl (by kernel_rfl) (by kernel_rfl) (by kernel_rfl) (by kernel_rfl) (by kernel_rfl) (fun _ _ _ h => h) (Or.inl ⟨by rfl, ?_⟩) hHeld ?_
    rotate_left
    · (intro w hSw; (try dsimp only at hSw);  go_simp; try with_reducible rfl)
    try simp only [Act.put, List.setIfInBounds_toArray, List.set_cons_zero, List.set_cons_succ]
    refine wpAnyK_takeTL (i := 12) (d := some 68) (v := ?_) #[true, true, true, true, true, true, true, true, true, true, true, true, true, false, false, false, false, false, false, false, false, false, false, false, false, false, false, false, false] (by kernel_rfl) rfl rfl (by kernel_rfl) (by kernel_rfl) (by kernel_rfl) (by kernel_rfl) (by kernel_rfl) (fun _ _ _ h => h) (Or.inl ⟨by rfl, ?_⟩) hHeld ?_
    rotate_left
    · (intro w hSw; (try dsimp only at hSw);  go_simp; try with_reducible rfl)
    try simp only [Act.put, List.setIfInBounds_toArray, List.set_cons_zero, List.set_cons_succ]
    refine wpAnyK_takeTL (i := 13) (d := some 69) (v := ?_) #[true, true, true, true, true, true, true, true, true, true, true, true, true, true, false, false, false, false, false, false, false, false, false, false, false, false, false, false, false] (by kernel_rfl) rfl rfl (by kernel_rfl) (by kernel_rfl) (by kernel_rfl) (by kernel_rfl) (by kernel_rfl) (fun _ _ _ h => h) (Or.inl ⟨by rfl, ?_⟩) hHeld ?_
    rotate_left
    · (intro w hSw; (try dsimp only at hSw);  go_simp; try with_reducible rfl)
    try simp only [Act.put, List.setIfInBounds_toArray, List.set_cons_zero, List.set_cons_succ]
    refine wpAnyK_takeL (i := 14) (d := some 70) (v := ?_) #[true, true, true, true, true, true, true, true, true, true, true, true, true, true, true, false, false, false, false, false, false, false, false, false, false, false, false, false, false] (by kernel_rfl) rfl rfl (by kernel_rfl) (by kernel_rfl) (by kernel_rfl) (by kernel_rfl) (by kernel_rfl) (by kernel_rfl) (fun _ _ _ h => h) (Or.inl ⟨by rfl, ?_⟩) hHeld ?_
    rotate_left
    · (intro w hSw; (try dsimp only at hSw);  go_simp; try with_reducible rfl)
    try simp only [Act.put, List.setIfInBounds_toArray, List.set_cons_zero, List.set_cons_succ]
    refine wpAnyK_takeTL (i := 15) (d := some 71) (v := ?_) #[true, true, true, true, true, true, true, true, true, true, true, true, true, true, true, true, false, false, false, false, false, false, false, false, false, false, false, false, false] (by kernel_rfl) rfl rfl (by kernel_rfl) (by kernel_rfl) (by kernel_rfl) (by kernel_rfl) (by kernel_rfl) (fun _ _ _ h => h) (Or.inl ⟨by rfl, ?_⟩) hHeld ?_
    rotate_left
    · (intro w hSw; (try dsimp only at hSw);  go_simp; try with_reducible rfl)
    try simp only [Act.put, List.setIfInBounds_toArray, List.set_cons_zero, List.set_cons_succ]
    refine wpAnyK_takeTL (i := 16) (d := some 72) (v := ?_) #[true, true, true, true, true, true, true, true, true, true, true, true, true, true, true, true, true, false, false, false, false, false, false, false, false, false, false, false, false] (by kernel_rfl) rfl rfl (by kernel_rfl) (by kernel_rfl) (by kernel_rfl) (by kernel_rfl) (by kernel_rfl) (fun _ _ _ h => h) (Or.inl ⟨by rfl, ?_⟩) hHeld ?_
    rotate_left
    · (intro w hSw; (try dsimp only at hSw);  go_simp; try with_reducible rfl)
    try simp only [Act.put, List.setIfInBounds_toArray, List.set_cons_zero, List.set_cons_succ]
    refine wpAnyK_takeTL (i := 17) (d := some 73) (v := ?_) #[true, true, true, true, true, true, true, true, true, true, true, true, true, true, true, true, true, true, false, false, false, false, false, false, false, false, false, false, false] (by kernel_rfl) rfl rfl (by kernel_rfl) (by kernel_rfl) (by kernel_rfl) (by kernel_rfl) (by kernel_rfl) (fun _ _ _ h => h) (Or.inl ⟨by rfl, ?_⟩) hHeld ?_
    rotate_left
    · (intro w hSw; (try dsimp only at hSw);  go_simp; try with_reducible rfl)
    try simp only [Act.put, List.setIfInBounds_toArray, List.set_cons_zero, List.set_cons_succ]
    refine wpAnyK_takeTL (i := 18) (d := some 74) (v := ?_) #[true, true, true, true, true, true, true, true, true, true, true, true, true, true, true, true, true, true, true, false, false, false, false, false, false, false, false, false, false] (by kernel_rfl) rfl rfl (by kernel_rfl) (by kernel_rfl) (by kernel_rfl) (by kernel_rfl) (by kernel_rfl) (fun _ _ _ h => h) (Or.inl ⟨by rfl, ?_⟩) hHeld ?_
    rotate_left
    · (intro w hSw; (try dsimp only at hSw);  go_simp; try with_reducible rfl)
    try simp only [Act.put, List.setIfInBounds_toArray, List.set_cons_zero, List.set_cons_succ]
    refine wpAnyK_takeL (i := 19) (d := some 75) (v := ?_) #[true, true, true, true, true, true, true, true, true, true, true, true, true, true, true, true, true, true, true, true, false, false, false, false, false, false, false, false, false] (by kernel_rfl) rfl rfl (by kernel_rfl) (by kernel_rfl) (by kernel_rfl) (by kernel_rfl) (by kernel_rfl) (by kernel_rfl) (fun _ _ _ h => h) (Or.inl ⟨by rfl, ?_⟩) hHeld ?_
    rotate_left
    · (intro w hSw; (try dsimp only at hSw);  go_simp; try with_reducible rfl)
    try simp only [Act.put, List.setIfInBounds_toArray, List.set_cons_zero, List.set_cons_succ]
    refine wpAnyK_oneL (k := 20) #[true, true, true, true, true, true, true, true, true, true, true, true, true, true, true, true, true, true, true, true, true, false, false, false, false, false, false, false, false] true (by kernel_rfl) (by kernel_rfl) (by kernel_rfl) rfl (fun K hK => ?_)
    (go_simp; refine (lremove_uni An (some ⟨bd, off, none⟩) Al nn cn nd cd cl _ _ _ ns ds F.ls d q wq.drew HLE.out HQD.out.la HQD.out.hn HQD.out.hd HQD.out.hl HQD.out.le HQD.out.le HQD.out.le HQD.out.sn HQD.out.sd).mono ?_; rintro e wx ⟨A', n', c', l', rfl, hS', hA', hn', hl', hb'⟩; rw [← HE.out]; go_simp)
    refine hK.out _ _ (fun _ => ?_) (fun hHeld' => ?_)
    · exact sc_cells (HQD.out.later hb'.out).b
    replace hHeld := hHeld' rfl
    clear hHeld' hK K
    try dsimp only at hHeld
    have HSX := Lib.hid hS'.out; have HAX := Lib.hid hA'.out; have HLX := Lib.hid hl'.out; have HNX := Lib.hid hn'.out; have HBX : Hid (Below w.heap.size w wx) := HG0.out.drew.trans (hb'.out.mono HG0.out.drew.size)
    have z3 := (HQD.out.later hb'.out).b.frozen 3
    clear hS' hA' hn' hl' hb'
    refine wpAnyK_takeTL (i := 21) (d := some 55) (v := ?_) #[true, true, true, true, true, true, true, true, true, true, true, true, true, true, true, true, true, true, true, true, true, true, false, false, false, false, false, false, false] (by kernel_rfl) rfl rfl (by kernel_rfl) (by kernel_rfl) (by kernel_rfl) (by kernel_rfl) (by kernel_rfl) (fun _ _ _ h => h) (Or.inl ⟨by rfl, ?_⟩) hHeld ?_
    rotate_left
    · (intro w hSw; (try dsimp only at hSw);  go_simp; try with_reducible rfl)
    try simp only [Act.put, List.setIfInBounds_toArray, List.set_cons_zero, List.set_cons_succ]
    refine wpAnyK_takeTL (i := 22) (d := some 77) (v := ?_) #[true, true, true, true, true, true, true, true, true, true, true, true, true, true, true, true, true, true, true, true, true, true, true, false, false, false, false, false, false] (by kernel_rfl) rfl rfl (by kernel_rfl) (by kernel_rfl) (by kernel_rfl) (by kernel_rfl) (by kernel_rfl) (fun _ _ _ h => h) (Or.inl ⟨by rfl, ?_⟩) hHeld ?_
    rotate_left
    · (intro w hSw; (try dsimp only at hSw);  go_simp; try with_reducible rfl)
    try simp only [Act.put, List.setIfInBounds_toArray, List.set_cons_zero, List.set_cons_succ]
    refine wpAnyK_takeTL (i := 23) (d := some 78) (v := ?_) #[true, true, true, true, true, true, true, true, true, true, true, true, true, true, true, true, true, true, true, true, true, true, true, true, false, false, false, false, false] (by kernel_rfl) rfl rfl (by kernel_rfl) (by kernel_rfl) (by kernel_rfl) (by kernel_rfl) (by kernel_rfl) (fun _ _ _ h => h) (Or.inl ⟨by rfl, ?_⟩) hHeld ?_
    rotate_left
    · (intro w hSw; (try dsimp only at hSw);  go_simp; try with_reducible rfl)
    try simp only [Act.put, List.setIfInBounds_toArray, List.set_cons_zero, List.set_cons_succ]
    refine wpAnyK_takeTL (i := 24) (d := some 79) (v := ?_) #[true, true, true, true, true, true, true, true, true, true, true, true, true, true, true, true, true, true, true, true, true, true, true, true, true, false, false, false, false] (by kernel_rfl) rfl rfl (by kernel_rfl) (by kernel_rfl) (by kernel_rfl) (by kernel_rfl) (by kernel_rfl) (fun _ _ _ h => h) (Or.inl ⟨by rfl, ?_⟩) hHeld ?_
    rotate_left
    · (intro w hSw; (try dsimp only at hSw);  go_simp; try with_reducible rfl)
    try simp only [Act.put, List.setIfInBounds_toArray, List.set_cons_zero, List.set_cons_succ]
    refine wpAnyK_takeTL (i := 25) (d := some 80) (v := ?_) #[true, true, true, true, true, true, true, true, true, true, true, true, true, true, true, true, true, true, true, true, true, true, true, true, true, true, false, false, false] (by kernel_rfl) rfl rfl (by kernel_rfl) (by kernel_rfl) (by kernel_rfl) (by kernel_rfl) (by kernel_rfl) (fun _ _ _ h => h) (Or.inl ⟨by rfl, ?_⟩) hHeld ?_
    rotate_left
    · (intro w hSw; (try dsimp only at hSw);  go_simp; try with_reducible rfl)
    try simp only [Act.put, List.setIfInBounds_toArray, List.set_cons_zero, List.set_cons_succ]
    refine wpAnyK_takeTL (i := 26) (d := some 81) (v := ?_) #[true, true, true, true, true, true, true, true, true, true, true, true, true, true, true, true, true, true, true, true, true, true, true, true, true, true, true, false, false] (by kernel_rfl) rfl rfl (by kernel_rfl) (by kernel_rfl) (by kernel_rfl) (by kernel_rfl) (by kernel_rfl) (fun _ _ _ h => h) (Or.inl ⟨by rfl, ?_⟩) hHeld ?_
    rotate_left
    · (intro w hSw; (try dsimp only at hSw);  go_simp; try with_reducible rfl)
    try simp only [Act.put, List.setIfInBounds_toArray, List.set_cons_zero, List.set_cons_succ]
    refine wpAnyK_oneL (k := 27) #[true, true, true, true, true, true, true, true, true, true, true, true, true, true, true, true, true, true, true, true, true, true, true, true, true, true, true, true, false] false (by kernel_rfl) (by kernel_rfl) (by kernel_rfl) rfl (fun K hK => ?_)
    go_simp
    refine hK.out _ _ (fun h => by cases h) (fun _ => ?_)
    try clear hHeld
    clear hK K
    refine wpAnyK_oneL (k := 28) #[true, true, true, true, true, true, true, true, true, true, true, true, true, true, true, true, true, true, true, true, true, true, true, true, true, true, true, true, true] false (by kernel_rfl) (by kernel_rfl) (by kernel_rfl) rfl (fun K hK => ?_)
    go_simp
    refine hK.out _ _ (fun h => by cases h) (fun _ => ?_)
    try clear hHeld
    clear hK K
    refine wpAnyK_done (by kernel_rfl) ?_ _
    go_wp2_with fail
    go_ret
    refine ⟨?_, _, HH.out.locks HBX.out HSX.out (fun b off e => by have := HAX.out b off e; have := HQD.out.b.lt; omega) HNX.out, fun h0 => ?_⟩
    · rw [HE.out]; rfl
    · rw [HLX.out (fun e => by have e2 : evErr ns ds F 7 d p q = (if idxL (d : Int) q F.ls = none then 15 else 0) := rfl
                               rw [e2, if_pos e] at h0; cases h0)]
      rfl
  have q7 : (k == 7) = false := by simpa using h7
  have HE : Hid (evErr ns ds F k d p q = 6) := by unfold Hid evErr; rw [if_neg h1, if_neg h2, if_neg h3, if_neg (by omega), if_neg h6, if_neg h7]
  clear h1 h2 h3 h4 h5 h6 h7
  go_enter Tryd.func24, Tryd.ntmps24
  go_wp2_with fail
  go_quiet (fail)
  have HQ := Lib.hid (HH.out.later (below_drewN (Below.refl _ _) nq))
  have HG0 : Hid (Below w.heap.size w (w.drewN nq)) := below_drewN (Below.refl _ _) nq
  generalize World.drewN w nq = wq at *
  have r5 : wq.cell? ⟨sb, 5, none⟩ = some (.int .i64 k) := by have := HQ.out.b; unfold scV at this; exact this.cell 5
  clear a1 a5 a6 c1
  go_wp2_with fail
  go_ret
  exact ⟨by rw [HE.out]; rfl, F, sc_from HG0.out HQ.out.same, fun hE => by rw [HE.out] at hE; cases hE⟩
end Go.Proofs.YtlcaebfjdhgcfaaDoor
