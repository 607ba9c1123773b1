import Derived.Test.YtbjndpjligpjaaaDoorZ17
/-
  The program's layer 14: walk of Remove.
-/
namespace Go.Proofs.YtbjndpjligpjaaaDoor
open Go.RowKit
def LkRmPost (w : World) (ns : List Nd) (ds : List Dv) (ls : List Lk) (d q : Int) (e : Ending) (w' : World) : Prop :=
  (locksErr ns ds ls ≠ 0 ∧ e = .returned (.tuple #[.slice none 0 0, .int .i64 (locksErr ns ds ls)]) ∨ locksErr ns ds ls = 0 ∧ idxL d q ls = none ∧ e = .returned (.tuple #[.slice none 0 0, .int .i64 15]) ∨
    locksErr ns ds ls = 0 ∧ ∃ (i : Nat) (A : Option Addr) (c : Nat), idxL d q ls = some i ∧ e = .returned (.tuple #[.slice A (ls.length - 1) c, .int .i64 0]) ∧ Hid (LocksO w' w.heap.size A (ls.length - 1) c (ls.eraseIdx i))) ∧ Hid (Below w.heap.size w w')
set_option maxRecDepth 100000 in
set_option maxHeartbeats 8000000 in
theorem lremove_any (An Ad Al : Option Addr) (nn cn nd cd c Bn Bd Bl : Nat) (ns : List Nd) (ds : List Dv) (ls : List Lk) (d q : Int) (w : World) (hla : Laid w) (hn : Sl w Bn 3 An nn cn (ns.flatMap Nd.cells)) (hd : Sl w Bd 5 Ad nd cd (ds.flatMap Dv.cells)) (hs : Sl w Bl 3 Al ls.length c (ls.flatMap Lk.cells)) (hBn : Bn ≤ w.heap.size) (hBd : Bd ≤ w.heap.size) (hBl : Bl ≤ w.heap.size)
    (hsn : ∀ x ∈ ns, x.name.size ≤ 9223372036854775807) (hsd : ∀ x ∈ ds, x.name.size ≤ 9223372036854775807) :
    Calls Tryd.prog 26 #[.agg #[.slice An nn cn, .slice Ad nd cd], .slice Al ls.length c, .int .i64 d, .int .i64 q] w (LkRmPost w ns ds ls d q) := by
  have HS := Lib.hid hs
  have HST : Hid (PcSt w #[.slice An nn cn, .slice Ad nd cd] (w.alloc (.cells #[.slice An nn cn, .slice Ad nd cd] 27))) := ⟨Blk.new _ _ _, (Below.refl _ _).alloc (Nat.le_refl _) _⟩
  have HCK := Lib.hid (lcheck_any An Ad Al nn cn nd cd ls.length c Bn Bd Bl ns ds ls (w.alloc (.cells #[.slice An nn cn, .slice Ad nd cd] 27)) (hla.alloc _) (hn.below HST.out.bl hBn) (hd.below HST.out.bl hBd) (hs.below HST.out.bl hBl) (by simp; omega) (by simp; omega) (by simp; omega) hsn hsd)
  clear hn hd hs hsn hsd hla
  go_enter Tryd.func26, Tryd.ntmps26
  go_wp2_with fail
  generalize World.alloc _ _ = W at *
  refine HCK.out.mono ?_
  rintro e w1 ⟨rfl, hb1⟩
  have HS1 := Lib.hid (HST.out.later hb1)
  clear hb1 HST HCK
  by_cases h0 : locksErr ns ds ls = 0; rotate_left
  · have q0 : (locksErr ns ds ls != 0) = true := by simpa using h0
    have HNZ := Lib.hid h0
    clear h0
    go_wp2_with fail
    go_ret2
    exact ⟨.inl ⟨HNZ.out, rfl⟩, HS1.out.bl⟩
  have HG := Lib.hid (locks_good h0)
  have HZ := Lib.hid h0
  rw [h0]
  clear h0
  have hz1 := HS1.out.bl.size
  go_wp2_with fail
  refine (locked_any Al ls.length c Bl ls d w1 (HS.out.below HS1.out.bl hBl) (by omega)).mono ?_
  rintro e w2 ⟨rfl, hb2⟩
  have HS2 := Lib.hid (HS1.out.later hb2)
  clear hb2 HS1 hz1
  have hz2 := HS2.out.bl.size
  unfold lckE
  rcases hl : lckL ls d with _ | p
  · have HN : Hid (idxL d q ls = none) := idxL_none (lck_none.1 hl)
    clear hl
    simp only [Option.getD_none, Option.isSome_none]
    go_wp2_with fail
    refine (idx_any Al ls.length c Bl ls d 0 q w2 (HS.out.below HS2.out.bl hBl) (by omega)).mono ?_
    rintro e w3 ⟨rfl, hb3⟩
    have HS3 := Lib.hid (HS2.out.later hb3)
    clear hb3 HS2
    generalize optI _ = r
    go_wp2_with fail
    go_ret2
    exact ⟨.inr (.inl ⟨HZ.out, HN.out, rfl⟩), HS3.out.bl⟩
  · have HI : Hid (idxE ⟨d, p, q⟩ ls = idxL d q ls) := idxE_idxL (ds := ds) fun x hx hxd => by
      have := lck_of HG.out hx
      rw [hxd, hl] at this
      injection this with this
      exact this.symm
    clear hl
    simp only [Option.getD_some, Option.isSome_some]
    go_wp2_with fail
    refine (idx_any Al ls.length c Bl ls d p q w2 (HS.out.below HS2.out.bl hBl) (by omega)).mono ?_
    rintro e w3 ⟨rfl, hb3⟩
    have HS3 := Lib.hid (HS2.out.later hb3)
    clear hb3 HS2 hz2
    rw [HI.out]
    rcases hi : idxL d q ls with _ | i
    · have HN := Lib.hid hi
      clear hi
      simp only [optI]
      go_wp2_with fail
      go_ret2
      exact ⟨.inr (.inl ⟨HZ.out, HN.out, rfl⟩), HS3.out.bl⟩
    · have hil := idxL_lt hi
      have HN := Lib.hid hi
      have hz3 := HS3.out.bl.size
      have h128 := HG.out.1
      clear hi
      simp only [optI]
      have qi : decide ((i : Int) < 0) = false := by simp
      go_wp2_with fail
      refine (clonelk_any Al ls.length c Bl ls w3 (HS.out.below HS3.out.bl hBl) (by omega) (by omega)).mono ?_
      rintro e w4 ⟨A4, c4, rfl, hO4, hb4⟩
      have HO4 : Hid (LocksO w4 w.heap.size A4 ls.length c4 ls) := World.ownsRow.mono hO4.out (by omega)
      have HS4 := Lib.hid (HS3.out.later hb4.out)
      clear hO4 hb4 HS3
      go_wp2_with fail
      refine (dellk_any A4 ls.length c4 w.heap.size i ls w4 HO4.out hil (by omega)).mono ?_
      rintro e w5 ⟨rfl, hO5, hg5⟩
      go_wp2_with fail
      go_ret2
      refine ⟨.inr (.inr ⟨HZ.out, i, A4, c4, HN.out, rfl, hO5⟩), ?_⟩
      have h1 := HS4.out.bl
      exact h1.trans ⟨hg5.out.os, hg5.out.tape, hg5.out.output, hg5.out.size, fun t ht => hg5.out.block t (by have := h1.size; omega) (fun e => by have := (HO4.out.lt t e.symm).1; omega)⟩
end Go.Proofs.YtbjndpjligpjaaaDoor
/-
  The reference of layer 14: walk of Remove; the statements' own Light.
-/
namespace Go.Proofs.YtbjndpjligpjaaaDoor
open Go.RowKit
theorem idxL_hit {d q : Int} : ∀ {ls : List Lk} {i : Nat} {p : Int}, (∀ x ∈ ls.take i, ¬ (x.dev = d ∧ x.key = q)) → ls[i]? = some ⟨d, p, q⟩ → idxL d q ls = some i
  | [], _, _, _, h => by simp at h
  | x :: l, 0, _, _, h => by simp at h; rw [idxL, if_pos (by rw [h]; exact ⟨rfl, rfl⟩)]
  | x :: l, i + 1, p, h1, h => by
    rw [idxL, if_neg (h1 x (by simp)), idxL_hit (ls := l) (i := i) (p := p) (fun y hy => h1 y (by simp [hy])) (by simpa using h)]; rfl
theorem idxL_miss {d q : Int} : ∀ {ls : List Lk}, (∀ x ∈ ls, ¬ (x.dev = d ∧ x.key = q)) → idxL d q ls = none
  | [], _ => rfl
  | x :: l, h => by rw [idxL, if_neg (h x (by simp)), idxL_miss (fun y hy => h y (by simp [hy]))]; rfl
def RrR (w : World) (N : Array Value) (ls : List Lk) (d q : Int) (n gk : Nat) (iv : Value) (wr : World) : Prop := ∃ i : Nat, iv = .int .i64 i ∧ i ≤ n ∧ gk = n - i ∧ Hid (∀ x ∈ ls.take i, ¬ (x.dev = d ∧ x.key = q)) ∧ Hid (PcSt w N wr)
set_option maxRecDepth 100000 in
set_option maxHeartbeats 8000000 in
theorem rremove_any (An Ad Al : Option Addr) (nn cn nd cd n c Bn Bd Bl : Nat) (ns : List Nd) (ds : List Dv) (ls : List Lk) (d q : Int) (w : World) (hln : ls.length = n) (hn : Sl w Bn 3 An nn cn (ns.flatMap Nd.cells)) (hd : Sl w Bd 5 Ad nd cd (ds.flatMap Dv.cells)) (hs : Sl w Bl 3 Al n c (ls.flatMap Lk.cells)) (hBn : Bn ≤ w.heap.size) (hBd : Bd ≤ w.heap.size) (hBl : Bl ≤ w.heap.size)
    (hsn : ∀ x ∈ ns, x.name.size ≤ 9223372036854775807) (hsd : ∀ x ∈ ds, x.name.size ≤ 9223372036854775807) :
    Calls Tryd.prog 27 #[.agg #[.slice An nn cn, .slice Ad nd cd], .slice Al n c, .int .i64 d, .int .i64 q] w (LkRmPost w ns ds ls d q) := by
  have HS := Lib.hid hs
  have HLN := Lib.hid hln
  have hle := hs.le
  have HST : Hid (PcSt w #[.slice An nn cn, .slice Ad nd cd] (w.alloc (.cells #[.slice An nn cn, .slice Ad nd cd] 27))) := ⟨Blk.new _ _ _, (Below.refl _ _).alloc (Nat.le_refl _) _⟩
  have HCK := Lib.hid (rlcheck_any An Ad Al nn cn nd cd n c Bn Bd Bl ns ds ls (w.alloc (.cells #[.slice An nn cn, .slice Ad nd cd] 27)) (hn.below HST.out.bl hBn) (hd.below HST.out.bl hBd) (hs.below HST.out.bl hBl) (by simp; omega) (by simp; omega) (by simp; omega) hsn hsd)
  clear hn hd hs hsn hsd hln
  go_enter Tryd.func27, Tryd.ntmps27
  go_wp2_with fail
  generalize World.alloc _ _ = W at *
  refine HCK.out.mono ?_
  rintro e w1 ⟨rfl, hb1⟩
  have HS1 := Lib.hid (HST.out.later hb1)
  clear hb1 HST HCK
  by_cases h0 : locksErr ns ds ls = 0; rotate_left
  · have q0 : (locksErr ns ds ls != 0) = true := by simpa using h0
    have HNZ := Lib.hid h0
    clear h0
    go_wp2_with fail
    go_ret2
    exact ⟨.inl ⟨HNZ.out, rfl⟩, HS1.out.bl⟩
  have hn128 : n ≤ 128 := by have := (locks_good h0).1; rw [HLN.out] at this; exact this
  have HZ := Lib.hid h0
  rw [h0]
  clear h0
  go_wp2_with fail
  go_loopg [11] n (RrR w #[.slice An nn cn, .slice Ad nd cd] ls d q n)
  case atStart => exact ⟨0, rfl, Nat.zero_le _, rfl, (fun x hx => by simp at hx), HS1⟩
  case round =>
    clear HS1
    obtain ⟨i, rfl, hi, rfl, hno, hst⟩ := hrel
    by_cases hlt : i < n
    · have hSL := HS.out.below hst.out.bl hBl
      obtain ⟨b, off, d1, p1, q1, hAe, hb, hx, c0, c1, c2⟩ := hSL.lock hlt
      have HX := Lib.hid hx
      clear hx c1
      subst hAe
      by_cases hd : d1 = d; rotate_left
      · have qd : (d1 == d) = false := by simpa using hd
        have HN : Hid (∀ x ∈ ls.take (i + 1), ¬ (x.dev = d ∧ x.key = q)) := fun x hx e => by
          rw [take_snoc HX.out] at hx
          rcases List.mem_append.1 hx with h | h
          · exact hno.out x h e
          · rw [List.mem_singleton.1 h] at e; exact hd e.1
        clear hd
        go_wp2_with fail
        go_roundg (n - (i + 1))
        case rel => exact ⟨i + 1, by go_num, by omega, rfl, HN, hst⟩
        case measure => omega
      subst hd
      have qd : (d1 == d1) = true := by simp
      by_cases hq : q1 = q; rotate_left
      · have qq : (q1 == q) = false := by simpa using hq
        have HN : Hid (∀ x ∈ ls.take (i + 1), ¬ (x.dev = d1 ∧ x.key = q)) := fun x hx e => by
          rw [take_snoc HX.out] at hx
          rcases List.mem_append.1 hx with h | h
          · exact hno.out x h e
          · rw [List.mem_singleton.1 h] at e; exact hq e.2
        clear hq
        go_wp2_with fail
        go_roundg (n - (i + 1))
        case rel => exact ⟨i + 1, by go_num, by omega, rfl, HN, hst⟩
        case measure => omega
      subst hq
      have qq : (q1 == q1) = true := by simp
      have HI : Hid (idxL d1 q1 ls = some i) := idxL_hit hno.out HX.out
      have hic : i ≤ c := by omega
      have HSK := Lib.hid (hSL.takeK (fun _ => rfl) (by decide) hi)
      have HSD := Lib.hid (hSL.dropK (k := i + 1) (fun _ => rfl) (by decide) (by omega))
      have hcut : ∀ W, (Instr.sliceAt 23 (.slice (some ⟨b, off, none⟩) n c) (some (.int .i64 ((i : Int) + 1))) none none).run Tryd.prog W = .ok (.slice (cutK (some ⟨b, off, none⟩) c (i + 1) 3) (n - (i + 1)) (c - (i + 1))) W := fun W => by
        have := run_from_lk W (some ⟨b, off, none⟩) n c (i + 1) (by omega)
        rw [← this]; rfl
      obtain ⟨Ad2, hAd2⟩ : ∃ Ad2, cutK (some (⟨b, off, none⟩ : Addr)) c (i + 1) 3 = Ad2 := ⟨_, rfl⟩
      rw [hAd2] at hcut HSD
      clear hAd2
      have hzr := hst.out.bl.size
      clear hSL
      go_upto_region 8 with (fail)
      clear c0 c2 qd qq
      go_upto_region 9 with (at_builtin; go_must (refine wpList_app rfl _ (.tmp 43) rfl el_lock (by rfl) (World.ownsRow_nil _ wr.heap.size _ _) (by rfl) HSK.out (locks_one _) (by omega) (by omega) (by simp) ?_; intro A1 c1 w4 hown4 hgr4 hat4; simp only [Nat.zero_add, List.nil_append] at hown4 hgr4 ⊢; have HO4 := Lib.hid hown4; have HG4 := Lib.hid hgr4; clear hown4 hgr4 hat4))
      have HBL4 := Lib.hid (below_none HG4.out)
      have HSD4 := Lib.hid (HSD.out.below HBL4.out (by omega))
      have hz4 := HBL4.out.size
      go_wp2_with (at_builtin; go_must (refine wpList_app rfl (.tmp 45) (.tmp 49) rfl el_lock (by rfl) HO4.out (by rfl) HSD4.out (locks_one _) (by omega) (by omega) (by omega) ?_; intro A2 c2 w5 hown5 hgr5 hat5; have HO5 := Lib.hid hown5; have HG5 := Lib.hid hgr5; clear hown5 hgr5 hat5))
      go_ret2
      have hll := HLN.out
      have hlen : ls.length - 1 = i + (n - (i + 1)) := by omega
      refine ⟨.inr (.inr ⟨HZ.out, i, A2, c2, HI.out, by rw [hlen]; rfl, ?_⟩), ?_⟩
      · unfold Hid LocksO; rw [hlen, List.eraseIdx_eq_take_drop_succ, List.flatMap_append]; exact World.ownsRow.mono HO5.out hzr
      · have h1 := hst.out.bl.trans (HBL4.out.mono hzr)
        exact h1.trans ⟨HG5.out.os, HG5.out.tape, HG5.out.output, HG5.out.size, fun t ht => HG5.out.block t (by omega) (fun e => by have := (HO4.out.lt t e.symm).1; omega)⟩
    · obtain rfl : i = n := by omega
      have hii : decide (i < i) = false := by simp
      have HN : Hid (idxL d q ls = none) := by
        have := hno.out
        rw [List.take_of_length_le (by rw [HLN.out]; exact Nat.le_refl _)] at this
        exact idxL_miss this
      go_wp2_with fail
      go_ret2
      exact ⟨.inr (.inl ⟨HZ.out, HN.out, rfl⟩), hst.out.bl⟩
def lightB (ns : List Nd) (ds : List Dv) (nn nd : Nat) : Bool := (decide ((nn : Int) ≤ 40) && decide ((nd : Int) ≤ 14)) || ((checkN ns ds != 0) && decide ((nn : Int) ≤ 100) && decide ((nd : Int) ≤ 200))
theorem lightB_le {ns : List Nd} {ds : List Dv} {nn nd : Nat} (h : lightB ns ds nn nd = true) : nd ≤ 200 := by
  simp only [lightB, Bool.or_eq_true, Bool.and_eq_true, decide_eq_true_eq] at h; omega
set_option maxHeartbeats 4000000 in
theorem light_any (An Ad : Option Addr) (nn cn nd cd Bn Bd : Nat) (ns : List Nd) (ds : List Dv) (w : World) (hn : Sl w Bn 3 An nn cn (ns.flatMap Nd.cells)) (hd : Sl w Bd 5 Ad nd cd (ds.flatMap Dv.cells)) (hBn : Bn ≤ w.heap.size) (hBd : Bd ≤ w.heap.size)
    (hsn : ∀ x ∈ ns, x.name.size ≤ 9223372036854775807) (hsd : ∀ x ∈ ds, x.name.size ≤ 9223372036854775807) :
    Calls Tryd.prog 5 #[.agg #[.slice An nn cn, .slice Ad nd cd]] w fun e w' => e = .returned (.bool (lightB ns ds nn nd)) ∧ Below w.heap.size w w' := by
  have HST : Hid (PcSt w #[.slice An nn cn, .slice Ad nd cd] (w.alloc (.cells #[.slice An nn cn, .slice Ad nd cd] 27))) := ⟨Blk.new _ _ _, (Below.refl _ _).alloc (Nat.le_refl _) _⟩
  have HCK := Lib.hid (rcheck_any An Ad nn cn nd cd Bn Bd ns ds (w.alloc (.cells #[.slice An nn cn, .slice Ad nd cd] 27)) (hn.below HST.out.bl hBn) (hd.below HST.out.bl hBd) (by simp; omega) (by simp; omega) hsn hsd)
  have hle := hn.le
  have hle2 := hd.le
  clear hn hd hsn hsd
  have HR : Hid (lightB ns ds nn nd = ((decide ((nn : Int) ≤ 40) && decide ((nd : Int) ≤ 14)) || ((checkN ns ds != 0) && decide ((nn : Int) ≤ 100) && decide ((nd : Int) ≤ 200)))) := rfl
  generalize lightB ns ds nn nd = lb at *
  have e1 : decide ((nn : Int) ≤ 40) = decide (nn ≤ 40) := by rw [decide_eq_decide]; omega
  have e2 : decide ((nd : Int) ≤ 14) = decide (nd ≤ 14) := by rw [decide_eq_decide]; omega
  have e3 : decide ((nn : Int) ≤ 100) = decide (nn ≤ 100) := by rw [decide_eq_decide]; omega
  have e4 : decide ((nd : Int) ≤ 200) = decide (nd ≤ 200) := by rw [decide_eq_decide]; omega
  rw [e1, e2, e3, e4] at HR
  by_cases hsm : nn ≤ 40 ∧ nd ≤ 14
  · have q1 : decide (nn ≤ 40) = true := by simpa using hsm.1
    have q2 : decide (nd ≤ 14) = true := by simpa using hsm.2
    rw [q1, q2] at HR
    have HB2 := Lib.hid HST.out.bl
    clear hsm HCK HST
    go_enter Tryd.func5, Tryd.ntmps5
    go_wp2_with fail
    go_ret
    exact ⟨ret_bool HR.out.symm, HB2.out⟩
  have hnot : (decide (nn ≤ 40) && decide (nd ≤ 14)) = false := by
    rw [Bool.and_eq_false_iff]
    by_cases h1 : nn ≤ 40
    · right; simp; omega
    · left; simpa using h1
  rw [hnot] at HR
  have hcase : decide (nn ≤ 40) = false ∨ (decide (nn ≤ 40) = true ∧ decide (nd ≤ 14) = false) := by
    by_cases h1 : nn ≤ 40
    · right; simp; omega
    · left; simpa using h1
  clear hsm hnot
  generalize checkN ns ds = er at *
  rcases hcase with q1 | ⟨q1, q2⟩
  all_goals
    go_enter Tryd.func5, Tryd.ntmps5
    go_wp2_with fail
    generalize World.alloc _ _ = W at *
    refine HCK.out.mono ?_
    rintro e w1 ⟨rfl, hb1⟩
    have HS1 := Lib.hid (HST.out.later hb1)
    clear hb1 HST HCK
    have k0 : w1.cell? ⟨w.heap.size, 0, none⟩ = some (.slice An nn cn) := HS1.out.bn.cell 0
    have k1 : w1.cell? ⟨w.heap.size, 1, none⟩ = some (.slice Ad nd cd) := HS1.out.bn.cell 1
    rcases he : (er != 0) with _ | _
    · rw [he] at HR
      go_wp2_with fail
      go_ret
      exact ⟨ret_bool HR.out.symm, HS1.out.bl⟩
    · rw [he] at HR
      rcases h3 : decide (nn ≤ 100) with _ | _
      · rw [h3] at HR
        go_wp2_with fail
        go_ret
        exact ⟨ret_bool HR.out.symm, HS1.out.bl⟩
      · rw [h3] at HR
        go_wp2_with fail
        go_ret
        exact ⟨ret_bool HR.out.symm, HS1.out.bl⟩
end Go.Proofs.YtbjndpjligpjaaaDoor
