/-
  Walk of TelegramAnswers.
-/
import Derived.Test.YtjinhfomfbcnjaaTeleAn0
import Derived.Test.YtjinhfomfbcnjaaOrd
import Derived.Deep.DeepCutAuto
namespace Go.Proofs.Ytjinhfomfbcnjaa
open Go.RowKit
attribute [local go_sem ↓] Go.wp_at_zero Go.wp_at_succ

set_option maxRecDepth 100000 in
set_option maxHeartbeats 20000000 in
theorem walk_TelegramAnswers (w : World) (A : Option Addr) (n c : Nat) (z : List Int) (hz : Sl w w.heap.size 1 A n c (intsV z)) (_ : ∀ x ∈ z, (Lit.int .i64 x).wf = true) (rst rsq : Int) (Ar : Option Addr) (nr cr : Nat) (lr : List Item) (hraw : Sl w w.heap.size 4 Ar nr cr (lr.flatMap Item.cells)) (Ab : Option Addr) (nb cb : Nat) (lb : List UInt8) (hbs : Sl w w.heap.size 1 Ab nb cb (bytesV lb)) (last : Int) (_ : (Lit.int .i64 last).wf = true) (seq : Int) (_ : (Lit.int .i64 seq).wf = true) :
    Calls Try.prog 8 #[.slice A n c, .agg #[.int .i64 rst, .int .i64 rsq, .slice Ar nr cr], .slice Ab nb cb, .int .i64 last, .int .i64 seq] w fun e w' => e = .returned (.bool true) ∧ Below w.heap.size w w' := by
  obtain ⟨hnc, hcm⟩ := hz.le
  obtain ⟨hnr, hcr⟩ := hraw.le
  obtain ⟨hnb, hcb⟩ := hbs.le
  have HZ := Lib.hid hz; have HRW := Lib.hid hraw; have HBS := Lib.hid hbs; clear hz hraw hbs
  go_enter Try.func8, Try.ntmps8
  go_wp2_with fail
  generalize hW : w.alloc (.cells #[.int .i64 rst, .int .i64 rsq, .slice Ar nr cr] 31) = W0
  have HBK : Hid (Blk W0 w.heap.size 31 #[.int .i64 rst, .int .i64 rsq, .slice Ar nr cr]) := hW ▸ Blk.new _ _ _
  have HB0 : Hid (Below w.heap.size w W0) := hW ▸ (Below.refl _ _).alloc (Nat.le_refl _) _
  have hW0 : w.heap.size + 1 = W0.heap.size := by rw [← hW]; simp
  clear hW
  have HW0 := Lib.hid hW0; clear hW0
  have hw0 : w.heap.size < W0.heap.size := by rw [← HW0.out]; omega
  have k2 : W0.cell? ⟨w.heap.size, 2, none⟩ = some (.slice Ar nr cr) := HBK.out.cell 2
  refine (few_any A n c _ (by omega)).mono ?_
  rintro e w1 ⟨rfl, rfl⟩
  by_cases hf : n ≤ 400 ∧ nr ≤ 40 ∧ nb ≤ 600; rotate_left
  · have fin : ∀ b1 b2 b3 : Bool, decide (n ≤ 400) = b1 → decide ((40 : Int) < (nr : Int)) = b2 → decide ((600 : Int) < (nb : Int)) = b3 → (b1 = false ∨ b2 = true ∨ b3 = true) := by
      rintro b1 b2 b3 rfl rfl rfl
      simp; omega
    have hcases : decide (n ≤ 400) = false ∨ (decide (n ≤ 400) = true ∧ decide ((40 : Int) < (nr : Int)) = true) ∨ (decide (n ≤ 400) = true ∧ decide ((40 : Int) < (nr : Int)) = false ∧ decide ((600 : Int) < (nb : Int)) = true) := by simp; omega
    clear fin hf
    rcases hcases with q1 | ⟨q1, q2⟩ | ⟨q1, q2, q3⟩
    all_goals
      go_wp2_with fail
      refine (awake_any _).mono ?_
      rintro e w1 ⟨rfl, hb⟩
      go_wp2_with fail
      go_ret
      exact ⟨rfl, HB0.out.trans (hb.mono (Nat.le_of_lt hw0))⟩
  obtain ⟨hf1, hf2, hf3⟩ := hf
  have q1 : decide (n ≤ 400) = true := by simpa using hf1
  have q2 : decide ((40 : Int) < (nr : Int)) = false := by simp; omega
  have q3 : decide ((600 : Int) < (nb : Int)) = false := by simp; omega
  go_wp2_with fail
  clear q1 q2 q3 k2
  refine (new_any A n c w.heap.size z _ (HZ.out.below HB0.out (Nat.le_refl _)) (Nat.le_of_lt hw0)).mono ?_
  rintro e w1 ⟨rfl, hd1, hb1, hs1⟩
  obtain ⟨g, hg⟩ : ∃ g, W0.heap.size = g := ⟨_, rfl⟩
  rw [hg] at hd1 hb1 hs1 ⊢
  have hwg : w.heap.size < g := by omega
  go_wp2_with fail
  refine (telegram_any g 5 w1 hd1.out (by decide)).mono ?_
  rintro e w2 ⟨st, sq, At, nt, ct, l, rfl, hst0, hst1, hsq0, hsq1, hn5, hok, hown, hd2, hg2⟩
  have HL := Lib.hid ((Sl.of_own hown).len (fun _ => rfl) (by decide))
  have HCH := Lib.hid (checkT_ok hst0 hst1 hsq0 hsq1 (by rw [HL.out]; omega) hok)
  have HST := Lib.hid (Sl.of_own hown)
  have HOT := Lib.hid hown
  have HS1 := Lib.hid hs1.out
  have HD2 := Lib.hid hd2
  have hsz2 : g < w2.heap.size := hd2.lt
  have hbg : Below g W0 w2 := hb1.out.trans (below_of_grown hg2 (Nat.le_refl _) (hg ▸ hb1.out.size))
  have HBK2 := Lib.hid (HBK.out.below hbg (by omega))
  have HB2 : Hid (Below w.heap.size w w2) := HB0.out.trans (hbg.mono (Nat.le_of_lt hwg))
  have hg1 : w1.heap.size = g + 1 := HS1.out
  replace HOT : Hid (w2.ownsRow (g + 1) 38 4 (.slice At nt ct) nt (l.flatMap Item.cells)) := by unfold Hid; rw [← hg1]; exact HOT.out
  clear hst0 hst1 hsq0 hsq1 hok hown hd2 hg2 hd1 hb1 hs1 hbg HBK HB0 hg HW0 HS1 hg1
  obtain ⟨hnt, hct⟩ := HST.out.le
  go_upto_if 68 with (at_builtin; go_must (refine wpList_app rfl (.const (.slice none 0 0)) (.tmp 62) rfl el_item (by rfl) (World.ownsRow_nil _ (w2.heap.size + 2) _ _) (by rfl) ((HST.out.alloc (Nat.le_refl _) _).alloc (by simp) _) (items_one _) (by omega) (by omega) (by simp) ?_; intro Ao co w3 ho3 hg3 hat3; rw [Nat.zero_add, List.nil_append] at ho3; rw [Nat.zero_add]; have HKT := Lib.hid (Blk.grown ((Blk.new w2 31 #[.int .i64 st, .int .i64 sq, .slice At nt ct]).alloc (.cells #[.int .i64 st, .int .i64 sq, .slice At nt ct] 31)) hg3 (fun e => by cases e)); have HKO := Lib.hid (Blk.grown (Blk.new (w2.alloc (.cells #[.int .i64 st, .int .i64 sq, .slice At nt ct] 31)) 31 #[.int .i64 st, .int .i64 sq, .slice At nt ct]) hg3 (fun e => by cases e)); simp only [World.size_alloc] at HKO; have c32 : w3.cell? ⟨w2.heap.size + 1, 2, none⟩ = some (.slice At nt ct) := HKO.out.cell 2; have f32 : w3.frozen? ⟨w2.heap.size + 1, 2, none⟩ = false := HKO.out.frozen 2))
  generalize hW3 : w3.setCell ⟨w2.heap.size + 1, 2, none⟩ (.slice Ao nt co) = W3
  have hOS : OddSt w g w2.heap.size (w2.heap.size + 1) rst rsq Ar nr cr st sq At nt ct l st Ao co l W3 := by
    rw [← hW3]
    have hb2 : Below w2.heap.size w2 ((w2.alloc (.cells #[.int .i64 st, .int .i64 sq, .slice At nt ct] 31)).alloc (.cells #[.int .i64 st, .int .i64 sq, .slice At nt ct] 31)) := ((Below.refl _ _).alloc (Nat.le_refl _) _).alloc (by simp) _
    have hb3 := belowNew (B := w2.heap.size) hg3 (by simp; omega)
    have hbb := hb2.trans (hb3.mono (Nat.le_refl _))
    have hg0 : w3.grownBy (w3.setCell ⟨w2.heap.size + 1, 2, none⟩ (.slice Ao nt co)) (some (w2.heap.size + 1)) := ⟨rfl, rfl, rfl, by simp [World.setCell], fun i _ hi => Below.heap_setCell w3 _ _ i (fun e => hi (by rw [e]))⟩
    exact ⟨⟨by omega, by omega, by omega⟩, (HD2.out.below hbb hsz2).setCell (by simp; omega) _, (HB2.out.trans (hbb.mono HB2.out.size)).setCell (by simp; omega) _, (HBK2.out.below hbb (by omega)).far (by simp; omega) _, HKT.out.far (by simp) _, HKO.out.set 2 _, (HOT.out.kept (grown_of_below hbb none) (Classical.em _)).kept hg0 (ne_of_ge fun b e => by have := (HOT.out.lt b e).2; omega), fun b e => (HOT.out.lt b e).2, ho3.kept hg0 (ne_of_ge fun b e => by have := (ho3.lt b e).1; omega)⟩
  have HOS := Lib.hid hOS
  clear hW3 hOS HKT HKO c32 f32 ho3 hg3 hat3 HBK2 HB2 HOT HD2 HST
  obtain ⟨bt, hbt⟩ : ∃ bt, w2.heap.size = bt := ⟨_, rfl⟩
  rw [hbt] at HOS ⊢
  obtain ⟨bo, hbo⟩ : ∃ bo, bt + 1 = bo := ⟨_, rfl⟩
  rw [hbo] at HOS ⊢
  clear hbt hbo hsz2
  go_cut [14] (fun _ wc => OddCut w g bt bo rst rsq Ar nr cr st sq At nt ct l wc)
  case first =>
    as_aux_lemma =>
    by_cases hnt0 : 0 < nt; rotate_left
    · have q0 : decide (0 < nt) = false := by simpa using hnt0
      go_wp2_with fail
      go_meet
      case rel => exact ⟨_, _, _, _, HOS.out⟩
    have q0 : decide (0 < nt) = true := by simpa using hnt0
    obtain ⟨go, rfl⟩ := own_some HOS.out.own hnt0
    have k2 : W3.cell? ⟨bo, 2, none⟩ = some (.slice (some ⟨go, 0, none⟩) nt co) := HOS.out.odd.cell 2
    go_wp2_with fail
    refine (next_any g nt W3 HOS.out.deck (by omega)).mono ?_
    rintro e w4 ⟨r, rfl, hr0, _, hr1, hd4, hg4, hs4⟩
    replace hr1 := hr1.out (by omega)
    obtain ⟨i, rfl⟩ := Int.eq_ofNat_of_zero_le hr0
    replace hr1 : i < nt := by omega
    have HO4 := Lib.hid (HOS.out.next hd4.out hg4.out)
    clear HOS hd4 hg4 hs4 hr0 k2
    go_wp2_with fail
    refine (next_any g 4 w4 HO4.out.deck (by decide)).mono ?_
    rintro e w5 ⟨s4, rfl, hs0, _, hs1, hd5, hg5, hs5⟩
    replace hs1 := hs1.out (by decide)
    have HO5 := Lib.hid (HO4.out.next hd5.out hg5.out)
    clear HO4 hd5 hg5 hs5
    have hl2 := (Sl.of_own HO5.out.own).len (fun _ => rfl) (by decide)
    obtain ⟨x, hx⟩ : ∃ x, l[i]? = some x := ⟨_, List.getElem?_eq_getElem (by omega)⟩
    obtain ⟨dv, pt, inv, tm⟩ := x
    have HX := Lib.hid hx; clear hx hl2
    have k2 : w5.cell? ⟨bo, 2, none⟩ = some (.slice (some ⟨go, 0, none⟩) nt co) := HO5.out.odd.cell 2
    have hi' : (i : Int) < (nt : Int) := by omega
    have cx : ∀ j u, (Item.cells ⟨dv, pt, inv, tm⟩)[j]? = some u → w5.cell? ⟨go, i * 4 + j, none⟩ = some u ∧ w5.frozen? ⟨go, i * 4 + j, none⟩ = false := fun j u hu => by
      have hj : j < 4 := (List.getElem?_eq_some_iff.1 hu).1
      refine ⟨?_, HO5.out.own.frozenAt _⟩
      rw [HO5.out.own.cellAt _ (by omega), flat_at (f := Item.cells) (size := 4) (fun _ => rfl) l i j _ HX.out hj]
      exact hu
    have HCX := Lib.hid cx; clear cx
    rcases (show s4 = 0 ∨ s4 = 1 ∨ s4 = 2 ∨ s4 = 3 by omega) with rfl | rfl | rfl | rfl
    · obtain ⟨y1, y2⟩ := HCX.out 0 _ rfl
      rw [Nat.add_zero] at y1 y2
      go_wp2_with fail
      go_meet
      case rel => exact ⟨_, _, _, _, HO5.out.item (j := 0) (x' := ⟨64, pt, inv, tm⟩) HX.out (by decide) rfl⟩
    · go_wp2_with fail
      refine wp_region_J (S := (fun w' => w'.cell? ⟨bo, 2, none⟩ = some (.slice (some ⟨go, 0, none⟩) nt co))) (J := [9]) (by as_aux_lemma => kernel_rfl) ?_ (fun hHeld => ?_)
      · exact k2
      try dsimp only at hHeld
      refine wpAnyJ_take (i := 0) (d := some 86) (v := ?_) rfl rfl (by as_aux_lemma => kernel_rfl) (by as_aux_lemma => kernel_rfl) (by as_aux_lemma => kernel_rfl) (by as_aux_lemma => kernel_rfl) (by as_aux_lemma => kernel_rfl) (fun _ _ _ h => h) (Or.inl ⟨by rfl, ?_⟩) hHeld ?_
      rotate_left
      · (intro w hSw; (try dsimp only at hSw); go_simp; try with_reducible rfl)
      try simp only [Act.put, List.setIfInBounds_toArray, List.set_cons_zero, List.set_cons_succ]
      refine wpAnyJ_take (i := 1) (d := some 87) (v := ?_) rfl rfl (by as_aux_lemma => kernel_rfl) (by as_aux_lemma => kernel_rfl) (by as_aux_lemma => kernel_rfl) (by as_aux_lemma => kernel_rfl) (by as_aux_lemma => kernel_rfl) (fun _ _ _ h => h) (Or.inl ⟨by rfl, ?_⟩) hHeld ?_
      rotate_left
      · (intro w hSw; (try dsimp only at hSw); go_simp; try with_reducible rfl)
      try simp only [Act.put, List.setIfInBounds_toArray, List.set_cons_zero, List.set_cons_succ]
      refine wpAnyJ_take (i := 2) (d := some 88) (v := ?_) rfl rfl (by as_aux_lemma => kernel_rfl) (by as_aux_lemma => kernel_rfl) (by as_aux_lemma => kernel_rfl) (by as_aux_lemma => kernel_rfl) (by as_aux_lemma => kernel_rfl) (fun _ _ _ h => h) (Or.inl ⟨by rfl, ?_⟩) hHeld ?_
      rotate_left
      · (intro w hSw; (try dsimp only at hSw); go_simp; try with_reducible rfl)
      try simp only [Act.put, List.setIfInBounds_toArray, List.set_cons_zero, List.set_cons_succ]
      refine wpAnyJ_take (i := 3) (d := some 89) (v := ?_) rfl rfl (by as_aux_lemma => kernel_rfl) (by as_aux_lemma => kernel_rfl) (by as_aux_lemma => kernel_rfl) (by as_aux_lemma => kernel_rfl) (by as_aux_lemma => kernel_rfl) (fun _ _ _ h => h) (Or.inl ⟨by rfl, ?_⟩) hHeld ?_
      rotate_left
      · (intro w hSw; (try dsimp only at hSw); go_simp; try with_reducible rfl)
      try simp only [Act.put, List.setIfInBounds_toArray, List.set_cons_zero, List.set_cons_succ]
      refine wpAnyJ_one (k := 4) (by as_aux_lemma => kernel_rfl) rfl (fun K hK => ?_)
      go_simp
      refine (next_any g 2 _ HO5.out.deck.drew (by decide)).mono ?_
      rintro e w6 ⟨r6, rfl, h60, _, h61, hd6, hg6, hs6⟩
      have HO6 := Lib.hid ((HO5.out.next HO5.out.deck.drew (grown_drew (grown_refl _ _))).next hd6.out hg6.out)
      clear hd6 hg6 hs6
      have y3 : ∃ u, w6.cell? ⟨go, i * 4 + 1, none⟩ = some u := by
        rw [HO6.out.own.cellAt _ (by omega), flat_at (f := Item.cells) (size := 4) (fun _ => rfl) l i 1 _ HX.out (by decide)]
        exact ⟨_, rfl⟩
      obtain ⟨y3v, y3⟩ := y3
      have y4 := HO6.out.own.frozenAt (i * 4 + 1)
      try go_simp
      refine hK.out _ _ (fun _ => ?_) (fun hHeld' => ?_)
      · exact HO6.out.odd.cell 2
      replace hHeld := hHeld' rfl
      clear hHeld'
      try dsimp only at hHeld
      clear hK K
      try simp only [Act.put, List.setIfInBounds_toArray, List.set_cons_zero, List.set_cons_succ]
      refine wpAnyJ_take (i := 5) (d := some 91) (v := ?_) rfl rfl (by as_aux_lemma => kernel_rfl) (by as_aux_lemma => kernel_rfl) (by as_aux_lemma => kernel_rfl) (by as_aux_lemma => kernel_rfl) (by as_aux_lemma => kernel_rfl) (fun _ _ _ h => h) (Or.inl ⟨by rfl, ?_⟩) hHeld ?_
      rotate_left
      · (intro w hSw; (try dsimp only at hSw); go_simp; try with_reducible rfl)
      try simp only [Act.put, List.setIfInBounds_toArray, List.set_cons_zero, List.set_cons_succ]
      refine wpAnyJ_take (i := 6) (d := some 92) (v := ?_) rfl rfl (by as_aux_lemma => kernel_rfl) (by as_aux_lemma => kernel_rfl) (by as_aux_lemma => kernel_rfl) (by as_aux_lemma => kernel_rfl) (by as_aux_lemma => kernel_rfl) (fun _ _ _ h => h) (Or.inl ⟨by rfl, ?_⟩) hHeld ?_
      rotate_left
      · (intro w hSw; (try dsimp only at hSw); go_simp; try with_reducible rfl)
      try simp only [Act.put, List.setIfInBounds_toArray, List.set_cons_zero, List.set_cons_succ]
      refine wpAnyJ_take (i := 7) (d := some 93) (v := ?_) rfl rfl (by as_aux_lemma => kernel_rfl) (by as_aux_lemma => kernel_rfl) (by as_aux_lemma => kernel_rfl) (by as_aux_lemma => kernel_rfl) (by as_aux_lemma => kernel_rfl) (fun _ _ _ h => h) (Or.inl ⟨by rfl, ?_⟩) hHeld ?_
      rotate_left
      · (intro w hSw; (try dsimp only at hSw); go_simp; try with_reducible rfl)
      try simp only [Act.put, List.setIfInBounds_toArray, List.set_cons_zero, List.set_cons_succ]
      refine wpAnyJ_take (i := 8) (d := some 94) (v := ?_) rfl rfl (by as_aux_lemma => kernel_rfl) (by as_aux_lemma => kernel_rfl) (by as_aux_lemma => kernel_rfl) (by as_aux_lemma => kernel_rfl) (by as_aux_lemma => kernel_rfl) (fun _ _ _ h => h) (Or.inl ⟨by rfl, ?_⟩) hHeld ?_
      rotate_left
      · (intro w hSw; (try dsimp only at hSw); go_simp; try with_reducible rfl)
      try simp only [Act.put, List.setIfInBounds_toArray, List.set_cons_zero, List.set_cons_succ]
      refine wpAnyJ_one (k := 9) (by as_aux_lemma => kernel_rfl) rfl (fun K hK => ?_)
      go_simp
      refine hK.out _ _ (fun h => by cases h) (fun _ => ?_)
      try clear hHeld
      clear hK K
      try simp only [Act.put, List.setIfInBounds_toArray, List.set_cons_zero, List.set_cons_succ]
      refine wpAnyJ_done (by as_aux_lemma => kernel_rfl) ?_ _
      go_wp2_with fail
      go_meet
      case rel => exact ⟨_, _, _, _, HO6.out.item (j := 1) (x' := ⟨dv, IntKind.i64.wrap (4 - IntKind.i64.wrap (5 * r6)), inv, tm⟩) HX.out (by decide) rfl⟩
    · go_wp2_with fail
      refine wp_region_J (S := (fun w' => w'.cell? ⟨bo, 2, none⟩ = some (.slice (some ⟨go, 0, none⟩) nt co))) (J := [8]) (by as_aux_lemma => kernel_rfl) ?_ (fun hHeld => ?_)
      · exact k2
      try dsimp only at hHeld
      refine wpAnyJ_take (i := 0) (d := some 97) (v := ?_) rfl rfl (by as_aux_lemma => kernel_rfl) (by as_aux_lemma => kernel_rfl) (by as_aux_lemma => kernel_rfl) (by as_aux_lemma => kernel_rfl) (by as_aux_lemma => kernel_rfl) (fun _ _ _ h => h) (Or.inl ⟨by rfl, ?_⟩) hHeld ?_
      rotate_left
      · (intro w hSw; (try dsimp only at hSw); go_simp; try with_reducible rfl)
      try simp only [Act.put, List.setIfInBounds_toArray, List.set_cons_zero, List.set_cons_succ]
      refine wpAnyJ_take (i := 1) (d := some 98) (v := ?_) rfl rfl (by as_aux_lemma => kernel_rfl) (by as_aux_lemma => kernel_rfl) (by as_aux_lemma => kernel_rfl) (by as_aux_lemma => kernel_rfl) (by as_aux_lemma => kernel_rfl) (fun _ _ _ h => h) (Or.inl ⟨by rfl, ?_⟩) hHeld ?_
      rotate_left
      · (intro w hSw; (try dsimp only at hSw); go_simp; try with_reducible rfl)
      try simp only [Act.put, List.setIfInBounds_toArray, List.set_cons_zero, List.set_cons_succ]
      refine wpAnyJ_take (i := 2) (d := some 99) (v := ?_) rfl rfl (by as_aux_lemma => kernel_rfl) (by as_aux_lemma => kernel_rfl) (by as_aux_lemma => kernel_rfl) (by as_aux_lemma => kernel_rfl) (by as_aux_lemma => kernel_rfl) (fun _ _ _ h => h) (Or.inl ⟨by rfl, ?_⟩) hHeld ?_
      rotate_left
      · (intro w hSw; (try dsimp only at hSw); go_simp; try with_reducible rfl)
      try simp only [Act.put, List.setIfInBounds_toArray, List.set_cons_zero, List.set_cons_succ]
      refine wpAnyJ_take (i := 3) (d := some 100) (v := ?_) rfl rfl (by as_aux_lemma => kernel_rfl) (by as_aux_lemma => kernel_rfl) (by as_aux_lemma => kernel_rfl) (by as_aux_lemma => kernel_rfl) (by as_aux_lemma => kernel_rfl) (fun _ _ _ h => h) (Or.inl ⟨by rfl, ?_⟩) hHeld ?_
      rotate_left
      · (intro w hSw; (try dsimp only at hSw); go_simp; try with_reducible rfl)
      try simp only [Act.put, List.setIfInBounds_toArray, List.set_cons_zero, List.set_cons_succ]
      refine wpAnyJ_one (k := 4) (by as_aux_lemma => kernel_rfl) rfl (fun K hK => ?_)
      go_simp
      refine (next_any g 2 _ HO5.out.deck.drew (by decide)).mono ?_
      rintro e w6 ⟨r6, rfl, h60, _, h61, hd6, hg6, hs6⟩
      have HO6 := Lib.hid ((HO5.out.next HO5.out.deck.drew (grown_drew (grown_refl _ _))).next hd6.out hg6.out)
      clear hd6 hg6 hs6
      have y3 : ∃ u, w6.cell? ⟨go, i * 4 + 3, none⟩ = some u := by
        rw [HO6.out.own.cellAt _ (by omega), flat_at (f := Item.cells) (size := 4) (fun _ => rfl) l i 3 _ HX.out (by decide)]
        exact ⟨_, rfl⟩
      obtain ⟨y3v, y3⟩ := y3
      have y4 := HO6.out.own.frozenAt (i * 4 + 3)
      try go_simp
      refine hK.out _ _ (fun _ => ?_) (fun hHeld' => ?_)
      · exact HO6.out.odd.cell 2
      replace hHeld := hHeld' rfl
      clear hHeld'
      try dsimp only at hHeld
      clear hK K
      try simp only [Act.put, List.setIfInBounds_toArray, List.set_cons_zero, List.set_cons_succ]
      refine wpAnyJ_take (i := 5) (d := some 102) (v := ?_) rfl rfl (by as_aux_lemma => kernel_rfl) (by as_aux_lemma => kernel_rfl) (by as_aux_lemma => kernel_rfl) (by as_aux_lemma => kernel_rfl) (by as_aux_lemma => kernel_rfl) (fun _ _ _ h => h) (Or.inl ⟨by rfl, ?_⟩) hHeld ?_
      rotate_left
      · (intro w hSw; (try dsimp only at hSw); go_simp; try with_reducible rfl)
      try simp only [Act.put, List.setIfInBounds_toArray, List.set_cons_zero, List.set_cons_succ]
      refine wpAnyJ_take (i := 6) (d := some 103) (v := ?_) rfl rfl (by as_aux_lemma => kernel_rfl) (by as_aux_lemma => kernel_rfl) (by as_aux_lemma => kernel_rfl) (by as_aux_lemma => kernel_rfl) (by as_aux_lemma => kernel_rfl) (fun _ _ _ h => h) (Or.inl ⟨by rfl, ?_⟩) hHeld ?_
      rotate_left
      · (intro w hSw; (try dsimp only at hSw); go_simp; try with_reducible rfl)
      try simp only [Act.put, List.setIfInBounds_toArray, List.set_cons_zero, List.set_cons_succ]
      refine wpAnyJ_take (i := 7) (d := some 104) (v := ?_) rfl rfl (by as_aux_lemma => kernel_rfl) (by as_aux_lemma => kernel_rfl) (by as_aux_lemma => kernel_rfl) (by as_aux_lemma => kernel_rfl) (by as_aux_lemma => kernel_rfl) (fun _ _ _ h => h) (Or.inl ⟨by rfl, ?_⟩) hHeld ?_
      rotate_left
      · (intro w hSw; (try dsimp only at hSw); go_simp; try with_reducible rfl)
      try simp only [Act.put, List.setIfInBounds_toArray, List.set_cons_zero, List.set_cons_succ]
      refine wpAnyJ_one (k := 8) (by as_aux_lemma => kernel_rfl) rfl (fun K hK => ?_)
      go_simp
      refine hK.out _ _ (fun h => by cases h) (fun _ => ?_)
      try clear hHeld
      clear hK K
      try simp only [Act.put, List.setIfInBounds_toArray, List.set_cons_zero, List.set_cons_succ]
      refine wpAnyJ_done (by as_aux_lemma => kernel_rfl) ?_ _
      go_wp2_with fail
      go_meet
      case rel => exact ⟨_, _, _, _, HO6.out.item (j := 3) (x' := ⟨dv, pt, inv, IntKind.i64.wrap (16777216 - r6)⟩) HX.out (by decide) rfl⟩
    · have k0 : w5.cell? ⟨bo, 0, none⟩ = some (.int .i64 st) := HO5.out.odd.cell 0
      have f0 := HO5.out.odd.frozen 0
      go_wp2_with fail
      go_meet
      case rel => exact ⟨_, _, _, _, HO5.out.station 256⟩
  case rest =>
    obtain ⟨st2, Ao, co, l2, hos⟩ := hcut
    have HOS := Lib.hid hos; clear hos
    have k0 : wc.cell? ⟨bt, 0, none⟩ = some (.int .i64 st) := HOS.out.tt.cell 0
    have k1 : wc.cell? ⟨bt, 1, none⟩ = some (.int .i64 sq) := HOS.out.tt.cell 1
    have k2 : wc.cell? ⟨bt, 2, none⟩ = some (.slice At nt ct) := HOS.out.tt.cell 2
    go_wp2_with fail
    clear k0 k1 k2
    refine (rencode_any st sq At nt ct wc.heap.size l wc (Sl.of_own HOS.out.ti) (Nat.le_refl _)).mono ?_
    rintro e w6 ⟨A6, c6, rfl, ho6, hb6⟩
    have hen : encT st sq l = frameT st sq l := by rw [encT, if_pos HCH.out]
    rw [hen, frame_len, HL.out] at ho6 ⊢
    rw [HCH.out]
    clear hen
    have HLF : Hid ((frameT st sq l).length = 6 + 5 * nt) := by unfold Hid; rw [frame_len, HL.out]
    obtain ⟨L, hL⟩ : ∃ L, 6 + 5 * nt = L := ⟨_, rfl⟩
    have hL6 : 6 ≤ L := by omega
    have hL31 : L ≤ 31 := by omega
    rw [hL] at ho6 HLF ⊢
    clear hL
    obtain ⟨fr, hfr⟩ : ∃ fr, frameT st sq l = fr := ⟨_, rfl⟩
    rw [hfr] at ho6 HLF
    clear hfr
    have HOS6 := Lib.hid (HOS.out.later hb6)
    have HF6 := Lib.hid (Sl.of_own ho6)
    have hgc : g + 1 ≤ wc.heap.size := HOS.out.deck.lt
    have hboc : bo < wc.heap.size := HOS.out.odd.lt
    have HAOC := Lib.hid (fun b e => (HOS.out.own.lt b e).2)
    have HFB := Lib.hid (fun b e => (ho6.lt b e).2)
    have HOF6 := Lib.hid (own_baseT ho6 hgc)
    have hl6 := hb6.size
    obtain ⟨hLc, hcm6⟩ := HF6.out.le
    clear ho6 hb6 HOS
    go_wp2_with (at_builtin; go_must (refine wpList_app rfl (.const (.slice none 0 0)) (.tmp 110) rfl el_u8 (by rfl) (World.ownsRow_nil _ w6.heap.size _ _) (by rfl) HF6.out (bytesV_one _) (by omega) (by omega) (Nat.le_refl _) ?_; intro A7 c7 w7 ho7 hg7 hat7; rw [Nat.zero_add, List.nil_append] at ho7; rw [Nat.zero_add]))
    have hb7 := belowNew (B := w6.heap.size) hg7 (Nat.le_refl _)
    have HOS7 := Lib.hid (HOS6.out.later hb7)
    have HF7 := Lib.hid (HF6.out.below hb7 (Nat.le_refl _))
    have hz67 := hb7.size
    obtain ⟨gb, rfl⟩ := own_some ho7 (by omega)
    have HO7 := Lib.hid ho7
    have hgb := (ho7.lt gb rfl)
    have HOF7 := Lib.hid (HOF6.out.kept (grown_of_below hb7 none) (Classical.em _))
    clear hb7 ho7 hg7 hat7 HOS6 HF6
    obtain ⟨hc7, hcm7⟩ := (Sl.of_own HO7.out).le
    have hgg : g < gb := by omega
    clear HF7 HOF6
    go_wp2_with fail
    have HSG : Hid (∀ q, q < L → w7.cell? ⟨gb, q, none⟩ = some (.int .u8 (byteI fr q))) := fun q hq => by
      rw [HO7.out.cellAt q (by omega)]; exact bytes_get _ _ (by rw [HLF.out]; exact hq)
    refine wp_region_J (S := (fun w' => ∀ q, q < L → w'.cell? ⟨gb, q, none⟩ = some (.int .u8 (byteI fr q)))) (J := [13]) (by as_aux_lemma => kernel_rfl) ?_ (fun hHeld => ?_)
    · exact HSG.out
    try dsimp only at hHeld
    refine wpAnyJ_take (i := 0) (d := some 112) (v := ?_) rfl rfl (by as_aux_lemma => kernel_rfl) (by as_aux_lemma => kernel_rfl) (by as_aux_lemma => kernel_rfl) (by as_aux_lemma => kernel_rfl) (by as_aux_lemma => kernel_rfl) (fun _ _ _ h => h) (Or.inl ⟨by rfl, ?_⟩) hHeld ?_
    rotate_left
    · (intro w hSw; (try dsimp only at hSw); go_simp; try with_reducible rfl)
    try simp only [Act.put, List.setIfInBounds_toArray, List.set_cons_zero, List.set_cons_succ]
    refine wpAnyJ_take (i := 1) (d := some 113) (v := ?_) rfl rfl (by as_aux_lemma => kernel_rfl) (by as_aux_lemma => kernel_rfl) (by as_aux_lemma => kernel_rfl) (by as_aux_lemma => kernel_rfl) (by as_aux_lemma => kernel_rfl) (fun _ _ _ h => h) (Or.inl ⟨by rfl, ?_⟩) hHeld ?_
    rotate_left
    · (intro w hSw; (try dsimp only at hSw); go_simp; try with_reducible rfl)
    try simp only [Act.put, List.setIfInBounds_toArray, List.set_cons_zero, List.set_cons_succ]
    refine wpAnyJ_take (i := 2) (d := some 114) (v := ?_) rfl rfl (by as_aux_lemma => kernel_rfl) (by as_aux_lemma => kernel_rfl) (by as_aux_lemma => kernel_rfl) (by as_aux_lemma => kernel_rfl) (by as_aux_lemma => kernel_rfl) (fun _ _ _ h => h) (Or.inl ⟨by rfl, ?_⟩) hHeld ?_
    rotate_left
    · (intro w hSw; (try dsimp only at hSw); go_simp; try with_reducible rfl)
    try simp only [Act.put, List.setIfInBounds_toArray, List.set_cons_zero, List.set_cons_succ]
    refine wpAnyJ_take (i := 3) (d := some 115) (v := ?_) rfl rfl (by as_aux_lemma => kernel_rfl) (by as_aux_lemma => kernel_rfl) (by as_aux_lemma => kernel_rfl) (by as_aux_lemma => kernel_rfl) (by as_aux_lemma => kernel_rfl) (fun _ _ _ h => h) (Or.inl ⟨by rfl, ?_⟩) hHeld ?_
    rotate_left
    · (intro w hSw; (try dsimp only at hSw); go_simp; try with_reducible rfl)
    try simp only [Act.put, List.setIfInBounds_toArray, List.set_cons_zero, List.set_cons_succ]
    refine wpAnyJ_take (i := 7) (d := some 119) (v := ?_) rfl rfl (by as_aux_lemma => kernel_rfl) (by as_aux_lemma => kernel_rfl) (by as_aux_lemma => kernel_rfl) (by as_aux_lemma => kernel_rfl) (by as_aux_lemma => kernel_rfl) (fun _ _ _ h => h) (Or.inl ⟨by rfl, ?_⟩) hHeld ?_
    rotate_left
    · (intro w hSw; (try dsimp only at hSw); go_simp; try with_reducible rfl)
    try simp only [Act.put, List.setIfInBounds_toArray, List.set_cons_zero, List.set_cons_succ]
    refine wpAnyJ_one (k := 4) (by as_aux_lemma => kernel_rfl) rfl (fun K hK => ?_)
    go_simp
    refine (next_any g L _ HOS7.out.deck.drew (by omega)).mono ?_
    rintro e w8 ⟨r, rfl, h80, _, h81, hd8, hg8, hs8⟩
    replace h81 := h81.out (by omega)
    obtain ⟨r, rfl⟩ := Int.eq_ofNat_of_zero_le h80
    replace h81 : r < L := by omega
    have h81' : (r : Int) < (L : Int) := by omega
    have HOS8 := Lib.hid ((HOS7.out.later (Below.refl _ _).drew).next hd8.out hg8.out)
    have HO8 := Lib.hid ((World.ownsRow.drew HO7.out).kept hg8.out (ne_of_ge fun b e => by have := (HO7.out.lt b e).1; omega))
    have HOF8 := Lib.hid ((World.ownsRow.drew HOF7.out).kept hg8.out (ne_of_ge fun b e => by have := (HOF7.out.lt b e).1; omega))
    have hz8 : w8.heap.size = w7.heap.size := hs8.out
    have HZ8 := Lib.hid hz8
    clear hd8 hg8 hs8 hz8
    try go_simp
    refine hK.out _ _ (fun _ => ?_) (fun hHeld' => ?_)
    · exact fun q hq => by rw [HO8.out.cellAt q (by omega)]; exact bytes_get _ _ (by rw [HLF.out]; exact hq)
    replace hHeld := hHeld' rfl
    clear hHeld'
    try dsimp only at hHeld
    clear hK K
    try simp only [Act.put, List.setIfInBounds_toArray, List.set_cons_zero, List.set_cons_succ]
    refine wpAnyJ_take (i := 5) (d := some 117) (v := ?_) rfl rfl (by as_aux_lemma => kernel_rfl) (by as_aux_lemma => kernel_rfl) (by as_aux_lemma => kernel_rfl) (by as_aux_lemma => kernel_rfl) (by as_aux_lemma => kernel_rfl) (fun _ _ _ h => h) (Or.inl ⟨by rfl, ?_⟩) hHeld ?_
    rotate_left
    · (intro w hSw; (try dsimp only at hSw); go_simp; try with_reducible rfl)
    try simp only [Act.put, List.setIfInBounds_toArray, List.set_cons_zero, List.set_cons_succ]
    refine wpAnyJ_take (i := 6) (d := some 118) (v := ?_) rfl rfl (by as_aux_lemma => kernel_rfl) (by as_aux_lemma => kernel_rfl) (by as_aux_lemma => kernel_rfl) (by as_aux_lemma => kernel_rfl) (by as_aux_lemma => kernel_rfl) (fun _ _ _ h => h) (Or.inl ⟨by rfl, ?_⟩) hHeld ?_
    rotate_left
    · (intro w hSw; (try dsimp only at hSw); have cq := hSw r (by omega); clear hSw; go_simp; try with_reducible rfl)
    try simp only [Act.put, List.setIfInBounds_toArray, List.set_cons_zero, List.set_cons_succ]
    refine wpAnyJ_one (k := 8) (by as_aux_lemma => kernel_rfl) rfl (fun K hK => ?_)
    go_simp
    refine (next_any g 255 _ HOS8.out.deck (by decide)).mono ?_
    rintro e w9 ⟨s9, rfl, h90, _, h91, hd9, hg9, hs9⟩
    have HOS9 := Lib.hid (HOS8.out.next hd9.out hg9.out)
    have HO9 := Lib.hid (HO8.out.kept hg9.out (ne_of_ge fun b e => by have := (HO8.out.lt b e).1; omega))
    have HOF9 := Lib.hid (HOF8.out.kept hg9.out (ne_of_ge fun b e => by have := (HOF8.out.lt b e).1; omega))
    have hz9 : w9.heap.size = w8.heap.size := hs9.out
    have HZ9 := Lib.hid hz9
    clear hd9 hg9 hs9 hz9
    have y3 : w9.cell? ⟨gb, r, none⟩ = some (.int .u8 (byteI fr r)) := by rw [HO9.out.cellAt r (by omega)]; exact bytes_get _ _ (by rw [HLF.out]; exact h81)
    have y4 := HO9.out.frozenAt r
    try go_simp
    refine hK.out _ _ (fun _ => ?_) (fun hHeld' => ?_)
    · exact fun q hq => by rw [HO9.out.cellAt q (by omega)]; exact bytes_get _ _ (by rw [HLF.out]; exact hq)
    replace hHeld := hHeld' rfl
    clear hHeld'
    try dsimp only at hHeld
    clear hK K
    try simp only [Act.put, List.setIfInBounds_toArray, List.set_cons_zero, List.set_cons_succ]
    refine wpAnyJ_take (i := 9) (d := some 121) (v := ?_) rfl rfl (by as_aux_lemma => kernel_rfl) (by as_aux_lemma => kernel_rfl) (by as_aux_lemma => kernel_rfl) (by as_aux_lemma => kernel_rfl) (by as_aux_lemma => kernel_rfl) (fun _ _ _ h => h) (Or.inl ⟨by rfl, ?_⟩) hHeld ?_
    rotate_left
    · (intro w hSw; (try dsimp only at hSw); go_simp; try with_reducible rfl)
    try simp only [Act.put, List.setIfInBounds_toArray, List.set_cons_zero, List.set_cons_succ]
    refine wpAnyJ_take (i := 10) (d := some 122) (v := ?_) rfl rfl (by as_aux_lemma => kernel_rfl) (by as_aux_lemma => kernel_rfl) (by as_aux_lemma => kernel_rfl) (by as_aux_lemma => kernel_rfl) (by as_aux_lemma => kernel_rfl) (fun _ _ _ h => h) (Or.inl ⟨by rfl, ?_⟩) hHeld ?_
    rotate_left
    · (intro w hSw; (try dsimp only at hSw); go_simp; try with_reducible rfl)
    try simp only [Act.put, List.setIfInBounds_toArray, List.set_cons_zero, List.set_cons_succ]
    refine wpAnyJ_take (i := 11) (d := some 123) (v := ?_) rfl rfl (by as_aux_lemma => kernel_rfl) (by as_aux_lemma => kernel_rfl) (by as_aux_lemma => kernel_rfl) (by as_aux_lemma => kernel_rfl) (by as_aux_lemma => kernel_rfl) (fun _ _ _ h => h) (Or.inl ⟨by rfl, ?_⟩) hHeld ?_
    rotate_left
    · (intro w hSw; (try dsimp only at hSw); go_simp; try with_reducible rfl)
    try simp only [Act.put, List.setIfInBounds_toArray, List.set_cons_zero, List.set_cons_succ]
    refine wpAnyJ_take (i := 12) (d := some 124) (v := ?_) rfl rfl (by as_aux_lemma => kernel_rfl) (by as_aux_lemma => kernel_rfl) (by as_aux_lemma => kernel_rfl) (by as_aux_lemma => kernel_rfl) (by as_aux_lemma => kernel_rfl) (fun _ _ _ h => h) (Or.inl ⟨by rfl, ?_⟩) hHeld ?_
    rotate_left
    · (intro w hSw; (try dsimp only at hSw); go_simp; try with_reducible rfl)
    try simp only [Act.put, List.setIfInBounds_toArray, List.set_cons_zero, List.set_cons_succ]
    refine wpAnyJ_one (k := 13) (by as_aux_lemma => kernel_rfl) rfl (fun K hK => ?_)
    go_simp
    refine hK.out _ _ (fun h => by cases h) (fun _ => ?_)
    try clear hHeld
    clear hK K
    try simp only [Act.put, List.setIfInBounds_toArray, List.set_cons_zero, List.set_cons_succ]
    refine wpAnyJ_done (by as_aux_lemma => kernel_rfl) ?_ _
    obtain ⟨y9, hy9⟩ := xor_u8_in (byteI fr r) (IntKind.u8.wrap (IntKind.i64.wrap (1 + s9)))
    rw [hy9]
    clear hy9 HSG y3 y4 HOS7 HO7 HOF7 HOS8 HO8 HOF8
    (try clear hHeld)
    generalize hW9 : w9.setCell ⟨gb, r, none⟩ (.int .u8 (y9.toNat : Int)) = W9
    have hst9 := HO9.out.stored r (.int .u8 (y9.toNat : Int))
    rw [bytes_set, hW9] at hst9
    have hz9 : W9.heap.size = w9.heap.size := by rw [← hW9]; simp [World.setCell]
    have HOS10 := Lib.hid (HOS9.out.far hst9.2 (by omega) fun b e => by have := HAOC.out b e; omega)
    have HOF10 := Lib.hid (HOF9.out.kept hst9.2 (ne_of_ge fun b e => by have := HFB.out b e; omega))
    have HOB10 := Lib.hid hst9.1
    have hg6 : g + 1 ≤ w6.heap.size := by omega
    clear hst9 hW9 hz9 HOS9 HOF9 HO9 HZ9 HZ8 HAOC HFB hgb hz67 hl6 hboc hgc
    have a0 : W9.cell? ⟨bt, 0, none⟩ = some (.int .i64 st) := HOS10.out.tt.cell 0
    have a1 : W9.cell? ⟨bt, 1, none⟩ = some (.int .i64 sq) := HOS10.out.tt.cell 1
    have a2 : W9.cell? ⟨bt, 2, none⟩ = some (.slice At nt ct) := HOS10.out.tt.cell 2
    have b0 : W9.cell? ⟨bo, 0, none⟩ = some (.int .i64 st2) := HOS10.out.odd.cell 0
    have b1 : W9.cell? ⟨bo, 1, none⟩ = some (.int .i64 sq) := HOS10.out.odd.cell 1
    have b2 : W9.cell? ⟨bo, 2, none⟩ = some (.slice Ao nt co) := HOS10.out.odd.cell 2
    have r0 : W9.cell? ⟨w.heap.size, 0, none⟩ = some (.int .i64 rst) := HOS10.out.raw.cell 0
    have r1 : W9.cell? ⟨w.heap.size, 1, none⟩ = some (.int .i64 rsq) := HOS10.out.raw.cell 1
    have r2 : W9.cell? ⟨w.heap.size, 2, none⟩ = some (.slice Ar nr cr) := HOS10.out.raw.cell 2
    go_wp2_with fail
    clear a0 a1 a2 b0 b1 b2 r0 r1 r2
    generalize hWA : W9.alloc (.cells #[.int .i64 st, .int .i64 sq, .slice At nt ct, .int .i64 rst, .int .i64 rsq, .slice Ar nr cr, .int .i64 st2, .int .i64 sq, .slice Ao nt co] 31) = WA
    have hbA : Below W9.heap.size W9 WA := hWA ▸ (Below.refl _ _).alloc (Nat.le_refl _) _
    have hzA : W9.heap.size + 1 = WA.heap.size := by rw [← hWA]; simp
    have hkA : Blk WA W9.heap.size 31 #[.int .i64 st, .int .i64 sq, .slice At nt ct, .int .i64 rst, .int .i64 rsq, .slice Ar nr cr, .int .i64 st2, .int .i64 sq, .slice Ao nt co] := hWA ▸ Blk.new _ _ _
    clear hWA
    have HOSA := Lib.hid (HOS10.out.later hbA)
    have HR3 := Lib.hid (rows3 (l0 := l) (l1 := lr) (l2 := l2) hkA (Sl.of_own HOSA.out.ti) ((HRW.out.below HOSA.out.below (Nat.le_refl _)).more HOSA.out.below.size) (Sl.of_own HOSA.out.own))
    have HOFA := Lib.hid (HOF10.out.kept (grown_of_below hbA none) (Classical.em _))
    have HOBA := Lib.hid (own_baseT (HOB10.out.kept (grown_of_below hbA none) (Classical.em _)) hg6)
    generalize W9.heap.size = bA at *
    have hbAl : bA < WA.heap.size := by omega
    clear hbA hzA hkA HOS10 HOF10 HOB10
    go_loopw [130] (fun i wr => ∃ (i' : Nat), i = .int .i64 i' ∧ i' ≤ 3 ∧ Hid (Below WA.heap.size WA wr)) (fun i _ => 3 - (intOf i).toNat)
    case atStart => exact ⟨0, rfl, Nat.zero_le _, Below.refl _ _⟩
    case round =>
      obtain ⟨i, rfl, hi, hbl⟩ := hrel
      by_cases hlt : i < 3; rotate_left
      · obtain rfl : i = 3 := by omega
        rw [show (((3 : Nat)) : Int) = 3 from rfl]
        go_wp2_with fail
        have HOSr := Lib.hid (HOSA.out.later hbl.out)
        have HOFr := Lib.hid (HOFA.out.kept (grown_of_below hbl.out none) (Classical.em _))
        have HOBr := Lib.hid (HOBA.out.kept (grown_of_below hbl.out none) (Classical.em _))
        clear HOSA HOFA HOBA HR3 hbl
        obtain ⟨hgr, _, _⟩ := HOSr.out.lt
        refine wp_region_J (S := (fun _ => True)) (J := []) (by as_aux_lemma => kernel_rfl) ?_ (fun hHeld => ?_)
        · trivial
        try dsimp only at hHeld
        refine wpAnyJ_take (i := 0) (d := some 170) (v := ?_) rfl rfl (by as_aux_lemma => kernel_rfl) (by as_aux_lemma => kernel_rfl) (by as_aux_lemma => kernel_rfl) (by as_aux_lemma => kernel_rfl) (by as_aux_lemma => kernel_rfl) (fun _ _ _ h => h) (Or.inl ⟨by rfl, ?_⟩) hHeld ?_
        rotate_left
        · (intro w hSw; (try dsimp only at hSw); go_simp; try with_reducible rfl)
        try simp only [Act.put, List.setIfInBounds_toArray, List.set_cons_zero, List.set_cons_succ]
        refine wpAnyJ_take (i := 1) (d := some 171) (v := ?_) rfl rfl (by as_aux_lemma => kernel_rfl) (by as_aux_lemma => kernel_rfl) (by as_aux_lemma => kernel_rfl) (by as_aux_lemma => kernel_rfl) (by as_aux_lemma => kernel_rfl) (fun _ _ _ h => h) (Or.inl ⟨by rfl, ?_⟩) hHeld ?_
        rotate_left
        · (intro w hSw; (try dsimp only at hSw); go_simp; try with_reducible rfl)
        try simp only [Act.put, List.setIfInBounds_toArray, List.set_cons_zero, List.set_cons_succ]
        refine wpAnyJ_take (i := 2) (d := some 172) (v := ?_) rfl rfl (by as_aux_lemma => kernel_rfl) (by as_aux_lemma => kernel_rfl) (by as_aux_lemma => kernel_rfl) (by as_aux_lemma => kernel_rfl) (by as_aux_lemma => kernel_rfl) (fun _ _ _ h => h) (Or.inl ⟨by rfl, ?_⟩) hHeld ?_
        rotate_left
        · (intro w hSw; (try dsimp only at hSw); go_simp; try with_reducible rfl)
        try simp only [Act.put, List.setIfInBounds_toArray, List.set_cons_zero, List.set_cons_succ]
        refine wpAnyJ_take (i := 3) (d := some 173) (v := ?_) rfl rfl (by as_aux_lemma => kernel_rfl) (by as_aux_lemma => kernel_rfl) (by as_aux_lemma => kernel_rfl) (by as_aux_lemma => kernel_rfl) (by as_aux_lemma => kernel_rfl) (fun _ _ _ h => h) (Or.inl ⟨by rfl, ?_⟩) hHeld ?_
        rotate_left
        · (intro w hSw; (try dsimp only at hSw); go_simp; try with_reducible rfl)
        try simp only [Act.put, List.setIfInBounds_toArray, List.set_cons_zero, List.set_cons_succ]
        refine wpAnyJ_take (i := 4) (d := some 174) (v := ?_) rfl rfl (by as_aux_lemma => kernel_rfl) (by as_aux_lemma => kernel_rfl) (by as_aux_lemma => kernel_rfl) (by as_aux_lemma => kernel_rfl) (by as_aux_lemma => kernel_rfl) (fun _ _ _ h => h) (Or.inl ⟨by rfl, ?_⟩) hHeld ?_
        rotate_left
        · (intro w hSw; (try dsimp only at hSw); go_simp; try with_reducible rfl)
        try simp only [Act.put, List.setIfInBounds_toArray, List.set_cons_zero, List.set_cons_succ]
        refine wpAnyJ_take (i := 5) (d := some 175) (v := ?_) rfl rfl (by as_aux_lemma => kernel_rfl) (by as_aux_lemma => kernel_rfl) (by as_aux_lemma => kernel_rfl) (by as_aux_lemma => kernel_rfl) (by as_aux_lemma => kernel_rfl) (fun _ _ _ h => h) (Or.inl ⟨by rfl, ?_⟩) hHeld ?_
        rotate_left
        · (intro w hSw; (try dsimp only at hSw); go_simp; try with_reducible rfl)
        try simp only [Act.put, List.setIfInBounds_toArray, List.set_cons_zero, List.set_cons_succ]
        refine wpAnyJ_take (i := 6) (d := some 176) (v := ?_) rfl rfl (by as_aux_lemma => kernel_rfl) (by as_aux_lemma => kernel_rfl) (by as_aux_lemma => kernel_rfl) (by as_aux_lemma => kernel_rfl) (by as_aux_lemma => kernel_rfl) (fun _ _ _ h => h) (Or.inl ⟨by rfl, ?_⟩) hHeld ?_
        rotate_left
        · (intro w hSw; (try dsimp only at hSw); go_simp; try with_reducible rfl)
        try simp only [Act.put, List.setIfInBounds_toArray, List.set_cons_zero, List.set_cons_succ]
        refine wpAnyJ_take (i := 9) (d := some 179) (v := ?_) rfl rfl (by as_aux_lemma => kernel_rfl) (by as_aux_lemma => kernel_rfl) (by as_aux_lemma => kernel_rfl) (by as_aux_lemma => kernel_rfl) (by as_aux_lemma => kernel_rfl) (fun _ _ _ h => h) (Or.inl ⟨by rfl, ?_⟩) hHeld ?_
        rotate_left
        · (intro w hSw; (try dsimp only at hSw); go_simp; try with_reducible rfl)
        try simp only [Act.put, List.setIfInBounds_toArray, List.set_cons_zero, List.set_cons_succ]
        refine wpAnyJ_take (i := 11) (d := some 181) (v := ?_) rfl rfl (by as_aux_lemma => kernel_rfl) (by as_aux_lemma => kernel_rfl) (by as_aux_lemma => kernel_rfl) (by as_aux_lemma => kernel_rfl) (by as_aux_lemma => kernel_rfl) (fun _ _ _ h => h) (Or.inl ⟨by rfl, ?_⟩) hHeld ?_
        rotate_left
        · (intro w hSw; (try dsimp only at hSw); go_simp; try with_reducible rfl)
        try simp only [Act.put, List.setIfInBounds_toArray, List.set_cons_zero, List.set_cons_succ]
        refine wpAnyJ_take (i := 13) (d := some 183) (v := ?_) rfl rfl (by as_aux_lemma => kernel_rfl) (by as_aux_lemma => kernel_rfl) (by as_aux_lemma => kernel_rfl) (by as_aux_lemma => kernel_rfl) (by as_aux_lemma => kernel_rfl) (fun _ _ _ h => h) (Or.inl ⟨by rfl, ?_⟩) hHeld ?_
        rotate_left
        · (intro w hSw; (try dsimp only at hSw); go_simp; try with_reducible rfl)
        try simp only [Act.put, List.setIfInBounds_toArray, List.set_cons_zero, List.set_cons_succ]
        refine wpAnyJ_take (i := 15) (d := some 185) (v := ?_) rfl rfl (by as_aux_lemma => kernel_rfl) (by as_aux_lemma => kernel_rfl) (by as_aux_lemma => kernel_rfl) (by as_aux_lemma => kernel_rfl) (by as_aux_lemma => kernel_rfl) (fun _ _ _ h => h) (Or.inl ⟨by rfl, ?_⟩) hHeld ?_
        rotate_left
        · (intro w hSw; (try dsimp only at hSw); go_simp; try with_reducible rfl)
        try simp only [Act.put, List.setIfInBounds_toArray, List.set_cons_zero, List.set_cons_succ]
        refine wpAnyJ_take (i := 19) (d := some 189) (v := ?_) rfl rfl (by as_aux_lemma => kernel_rfl) (by as_aux_lemma => kernel_rfl) (by as_aux_lemma => kernel_rfl) (by as_aux_lemma => kernel_rfl) (by as_aux_lemma => kernel_rfl) (fun _ _ _ h => h) (Or.inl ⟨by rfl, ?_⟩) hHeld ?_
        rotate_left
        · (intro w hSw; (try dsimp only at hSw); go_simp; try with_reducible rfl)
        try simp only [Act.put, List.setIfInBounds_toArray, List.set_cons_zero, List.set_cons_succ]
        refine wpAnyJ_one (k := 7) (by as_aux_lemma => kernel_rfl) rfl (fun K hK => ?_)
        go_simp
        refine (next_any g L _ HOSr.out.deck.drew (by omega)).mono ?_
        rintro e w18 ⟨k8, rfl, h80, _, h81, hd18, hg18, hs18⟩
        replace h81 := h81.out (by omega)
        obtain ⟨k8, rfl⟩ := Int.eq_ofNat_of_zero_le h80
        replace h81 : k8 < L := by omega
        have h81' : (k8 : Int) ≤ (c6 : Int) := by omega
        have HOS18 := Lib.hid ((HOSr.out.later (Below.refl _ _).drew).next hd18.out hg18.out)
        have HF18 := Lib.hid (Sl.of_own ((World.ownsRow.drew HOFr.out).kept hg18.out (ne_of_ge fun b e => by have := (HOFr.out.lt b e).1; omega)))
        have HB18 := Lib.hid (Sl.of_own ((World.ownsRow.drew HOBr.out).kept hg18.out (ne_of_ge fun b e => by have := (HOBr.out.lt b e).1; omega)))
        have HY18 := Lib.hid ((HBS.out.below HOS18.out.below (Nat.le_refl _)).more HOS18.out.below.size)
        clear hd18 hg18 hs18
        try go_simp
        refine hK.out _ _ (fun _ => ?_) (fun hHeld' => ?_)
        · trivial
        replace hHeld := hHeld' rfl
        clear hHeld'
        try dsimp only at hHeld
        clear hK K
        try simp only [Act.put, List.setIfInBounds_toArray, List.set_cons_zero, List.set_cons_succ]
        refine wpAnyJ_take (i := 8) (d := some 178) (v := ?_) rfl rfl (by as_aux_lemma => kernel_rfl) (by as_aux_lemma => kernel_rfl) (by as_aux_lemma => kernel_rfl) (by as_aux_lemma => kernel_rfl) (by as_aux_lemma => kernel_rfl) (fun _ _ _ h => h) (Or.inl ⟨by rfl, ?_⟩) hHeld ?_
        rotate_left
        · (intro w hSw; (try dsimp only at hSw); go_simp; try with_reducible rfl)
        try simp only [Act.put, List.setIfInBounds_toArray, List.set_cons_zero, List.set_cons_succ]
        refine wpAnyJ_one (k := 10) (by as_aux_lemma => kernel_rfl) rfl (fun K hK => ?_)
        refine step_app_d (d := some 180) (by rfl) (by rfl) (.const (.slice none 0 0)) (.tmp 179) (by rfl) el_u8 (by rfl) (World.ownsRow_nil _ w18.heap.size _ _) (by rfl) HB18.out (bytesV_one _) (by omega) (by omega) (Nat.le_refl _) ?_
        intro A19 c19 w19 ho19 hg19 hat19
        rw [Nat.zero_add, List.nil_append] at ho19
        rw [Nat.zero_add]
        have HO19 := Lib.hid ho19
        have HG19 := Lib.hid (belowNew (B := w18.heap.size) hg19 (Nat.le_refl _))
        have hz19 := HG19.out.size
        clear ho19 hg19 hat19
        refine hK.out _ _ (fun _ => ?_) (fun hHeld' => ?_)
        · trivial
        replace hHeld := hHeld' rfl
        clear hHeld'
        try dsimp only at hHeld
        clear hK K
        try simp only [Act.put, List.setIfInBounds_toArray, List.set_cons_zero, List.set_cons_succ]
        refine wpAnyJ_one (k := 12) (by as_aux_lemma => kernel_rfl) rfl (fun K hK => ?_)
        refine step_app_d (d := some 182) (by rfl) (by rfl) (.tmp 180) (.tmp 181) (by rfl) el_u8 (by rfl) HO19.out (by rfl) (HF18.out.below HG19.out (Nat.le_refl _)) (bytesV_one _) (by omega) (by omega) hz19 ?_
        intro A20 c20 w20 ho20 hg20 hat20
        rw [← bytesV_append] at ho20
        have HO20 := Lib.hid ho20
        have HG20 := Lib.hid (HG19.out.grown hg20 hz19 fun b e => (HO19.out.lt b e).1)
        have hz20 := HG20.out.size
        clear ho20 hg20 hat20
        refine hK.out _ _ (fun _ => ?_) (fun hHeld' => ?_)
        · trivial
        replace hHeld := hHeld' rfl
        clear hHeld'
        try dsimp only at hHeld
        clear hK K
        try simp only [Act.put, List.setIfInBounds_toArray, List.set_cons_zero, List.set_cons_succ]
        refine wpAnyJ_one (k := 14) (by as_aux_lemma => kernel_rfl) rfl (fun K hK => ?_)
        refine step_app_d (d := some 184) (by rfl) (by rfl) (.const (.slice none 0 0)) (.tmp 183) (by rfl) el_u8 (by rfl) (World.ownsRow_nil _ w20.heap.size _ _) (by rfl) (HF18.out.below HG20.out (Nat.le_refl _)) (bytesV_one _) (by omega) (by omega) (Nat.le_refl _) ?_
        intro A21 c21 w21 ho21 hg21 hat21
        rw [Nat.zero_add, List.nil_append] at ho21
        rw [Nat.zero_add]
        have HO21 := Lib.hid ho21
        have HG21 := Lib.hid (belowNew (B := w20.heap.size) hg21 (Nat.le_refl _))
        have hz21 := HG21.out.size
        clear ho21 hg21 hat21
        refine hK.out _ _ (fun _ => ?_) (fun hHeld' => ?_)
        · trivial
        replace hHeld := hHeld' rfl
        clear hHeld'
        try dsimp only at hHeld
        clear hK K
        try simp only [Act.put, List.setIfInBounds_toArray, List.set_cons_zero, List.set_cons_succ]
        refine wpAnyJ_one (k := 16) (by as_aux_lemma => kernel_rfl) rfl (fun K hK => ?_)
        refine step_app_d (d := some 186) (by rfl) (by rfl) (.tmp 184) (.tmp 185) (by rfl) el_u8 (by rfl) HO21.out (by rfl) ((HY18.out.below HG20.out (Nat.le_refl _)).below HG21.out hz20) (bytesV_one _) (by omega) (by omega) hz21 ?_
        intro A22 c22 w22 ho22 hg22 hat22
        rw [← bytesV_append] at ho22
        have HO22 := Lib.hid ho22
        have HG22 := Lib.hid (HG21.out.grown hg22 hz21 fun b e => (HO21.out.lt b e).1)
        have hz22 := HG22.out.size
        clear ho22 hg22 hat22
        refine hK.out _ _ (fun _ => ?_) (fun hHeld' => ?_)
        · trivial
        replace hHeld := hHeld' rfl
        clear hHeld'
        try dsimp only at hHeld
        clear hK K
        try simp only [Act.put, List.setIfInBounds_toArray, List.set_cons_zero, List.set_cons_succ]
        refine wpAnyJ_one (k := 17) (by as_aux_lemma => kernel_rfl) rfl (fun K hK => ?_)
        go_simp
        refine hK.out _ _ (fun _ => ?_) (fun hHeld' => ?_)
        · trivial
        replace hHeld := hHeld' rfl
        clear hHeld'
        try dsimp only at hHeld
        clear hK K
        try simp only [Act.put, List.setIfInBounds_toArray, List.set_cons_zero, List.set_cons_succ]
        refine wpAnyJ_take (i := 18) (d := some 188) (v := ?_) rfl rfl (by as_aux_lemma => kernel_rfl) (by as_aux_lemma => kernel_rfl) (by as_aux_lemma => kernel_rfl) (by as_aux_lemma => kernel_rfl) (by as_aux_lemma => kernel_rfl) (fun _ _ _ h => h) (Or.inl ⟨by rfl, ?_⟩) hHeld ?_
        rotate_left
        · (intro w hSw; (try dsimp only at hSw); go_simp; try with_reducible rfl)
        try simp only [Act.put, List.setIfInBounds_toArray, List.set_cons_zero, List.set_cons_succ]
        refine wpAnyJ_done (by as_aux_lemma => kernel_rfl) ?_ _
        go_wp2
        generalize hWB : w22.alloc (.cells #[.slice Ab nb cb, .slice A6 L c6, .slice (some ⟨gb, 0, none⟩) L c7, .slice A6 k8 c6, .slice A20 (L + L) c20, .slice A22 (L + nb) c22] 42) = WB
        have hbW : Below w22.heap.size w22 WB := hWB ▸ (Below.refl _ _).alloc (Nat.le_refl _) _
        have hkB : Blk WB w22.heap.size 42 #[.slice Ab nb cb, .slice A6 L c6, .slice (some ⟨gb, 0, none⟩) L c7, .slice A6 k8 c6, .slice A20 (L + L) c20, .slice A22 (L + nb) c22] := hWB ▸ Blk.new _ _ _
        clear hWB
        have hbBl : w22.heap.size < WB.heap.size := hkB.lt
        have bw2 : Below w20.heap.size w20 WB := HG22.out.trans (hbW.mono hz22)
        have bw1 : Below w18.heap.size w18 WB := HG20.out.trans (bw2.mono hz20)
        have HR6 := Lib.hid (rows6 hkB ((HY18.out.below bw1 (Nat.le_refl _)).more bw1.size) ((HF18.out.below bw1 (Nat.le_refl _)).more bw1.size) ((HB18.out.below bw1 (Nat.le_refl _)).more bw1.size) (((HF18.out.upto (k := k8) (by omega)).below bw1 (Nat.le_refl _)).more bw1.size) (((Sl.of_own HO20.out).below bw2 (Nat.le_refl _)).more bw2.size) (((Sl.of_own HO22.out).below hbW (Nat.le_refl _)).more hbW.size) (by omega))
        have HBB := Lib.hid (HOS18.out.below.trans (bw1.mono HOS18.out.below.size))
        have hszB := HBB.out.size
        clear hbW hkB bw1 bw2 HO19 HG19 HO20 HG20 HO21 HG21 HO22 HG22 HY18 HF18 HB18 HOS18 HOSr HOFr HOBr hz19 hz20 hz21 hz22
        obtain ⟨bB, hbB⟩ : ∃ bB, w22.heap.size = bB := ⟨_, rfl⟩
        rw [hbB] at HR6 hbBl ⊢
        clear hbB
        go_loopw [189] (fun i wr => ∃ (i' : Nat), i = .int .i64 i' ∧ i' ≤ 6 ∧ Hid (Below WB.heap.size WB wr)) (fun i _ => 6 - (intOf i).toNat)
        case atStart => exact ⟨0, rfl, Nat.zero_le _, Below.refl _ _⟩
        case round =>
          obtain ⟨i, rfl, hi, hbl⟩ := hrel
          obtain ⟨wo, rfl⟩ : ∃ wo : World, wo = wr := ⟨_, rfl⟩
          by_cases hlt : i < 6; rotate_left
          · obtain rfl : i = 6 := by omega
            rw [show (((6 : Nat)) : Int) = 6 from rfl]
            have hszr := hbl.out.size
            have HBr := Lib.hid (HBB.out.trans (hbl.out.mono hszB))
            have hszr2 := HBr.out.size
            clear hbl HBB HR6
            go_wp2_with fail
            refine (mod_any last 258 _ (by decide) (by decide)).mono ?_
            rintro e w30 ⟨⟨m1, rfl, hm1⟩, rfl⟩
            go_wp2_with fail
            refine (mod_any seq 258 _ (by decide) (by decide)).mono ?_
            rintro e w30 ⟨⟨m2, rfl, hm2⟩, rfl⟩
            go_wp2_with fail
            generalize hWE : wo.alloc (.cells #[.int .i64 last, .int .i64 seq, .int .i64 ((m1 : Int) - 1), .int .i64 ((m2 : Int) - 1)] 60) = WE
            have hbE : Below wo.heap.size wo WE := hWE ▸ (Below.refl _ _).alloc (Nat.le_refl _) _
            have hkE : Blk WE wo.heap.size 60 #[.int .i64 last, .int .i64 seq, .int .i64 ((m1 : Int) - 1), .int .i64 ((m2 : Int) - 1)] := hWE ▸ Blk.new _ _ _
            clear hWE
            have HP2 : Hid (∀ i, i < 2 → ∃ a b : Int, WE.cell? ⟨wo.heap.size, i * 2, none⟩ = some (.int .i64 a) ∧ WE.cell? ⟨wo.heap.size, i * 2 + 1, none⟩ = some (.int .i64 b)) := by
              intro i hi
              rcases (show i = 0 ∨ i = 1 by omega) with rfl | rfl
              · exact ⟨_, _, hkE.cell 0, hkE.cell 1⟩
              · exact ⟨_, _, hkE.cell 2, hkE.cell 3⟩
            have hbEl : wo.heap.size < WE.heap.size := hkE.lt
            have HBE := Lib.hid (HBr.out.trans (hbE.mono hszr2))
            have hszE := HBE.out.size
            clear hbE hkE HBr
            obtain ⟨bE, hbe⟩ : ∃ bE, wo.heap.size = bE := ⟨_, rfl⟩
            rw [hbe] at HP2 hbEl ⊢
            clear hbe
            go_loopw [270] (fun i wr => ∃ (i' : Nat), i = .int .i64 i' ∧ i' ≤ 2 ∧ Hid (Below WE.heap.size WE wr)) (fun i _ => 2 - (intOf i).toNat)
            case atStart => exact ⟨0, rfl, Nat.zero_le _, Below.refl _ _⟩
            case round =>
              obtain ⟨i, rfl, hi, hbl⟩ := hrel
              by_cases hlt : i < 2; rotate_left
              · obtain rfl : i = 2 := by omega
                go_wp2_with fail
                refine (awake_any _).mono ?_
                rintro e w40 ⟨rfl, hb40⟩
                go_wp2_with fail
                go_ret
                exact ⟨rfl, (HBE.out.trans (hbl.out.mono hszE)).trans (hb40.mono (Nat.le_trans hszE hbl.out.size))⟩
              obtain ⟨a, b, p0, p1⟩ := HP2.out i hlt
              replace p0 : wr.cell? ⟨bE, i * 2, none⟩ = some (.int .i64 a) := (hbl.out.cell (p := ⟨bE, i * 2, none⟩) hbEl).trans p0
              replace p1 : wr.cell? ⟨bE, i * 2 + 1, none⟩ = some (.int .i64 b) := (hbl.out.cell (p := ⟨bE, i * 2 + 1, none⟩) hbEl).trans p1
              have HL1 := Lib.hid (fun W => lost_any a b W)
              have HL2 := Lib.hid (fun W => rlost_any a b W)
              generalize lostT a b = lt at *
              generalize lostE a b = le at *
              go_wp2_with fail
              refine (HL1.out _).mono ?_
              rintro e w41 ⟨rfl, rfl⟩
              go_wp2_with fail
              refine (HL2.out _).mono ?_
              rintro e w41 ⟨rfl, rfl⟩
              go_wp2_with fail
              go_roundw
              case rel => exact ⟨i + 1, by go_num, by omega, hbl.out.alloc hbl.out.size _⟩
              case measure => simp [intOf]; omega
          as_aux_lemma =>
          obtain ⟨Ay, ny, cy, ly, hrow⟩ := HR6.out i hlt
          obtain ⟨x0, hsy, hny⟩ := hrow.below hbl.out hbBl
          have HSY := Lib.hid hsy
          clear hrow hsy
          have hszr := hbl.out.size
          have HD1 := Lib.hid (fun W h1 h2 => decode_any Ay ny cy wo.heap.size ly W h1 h2)
          have HD2 := Lib.hid (fun W h1 h2 => rdecode_any Ay ny cy wo.heap.size ly W h1 h2)
          have HD3 := Lib.hid (fun W h1 h2 => scan_any Ay ny cy wo.heap.size ly W h1 h2 (by omega))
          have HD4 := Lib.hid (fun W h1 h2 => rscan_any Ay ny cy wo.heap.size ly W h1 h2 (by omega))
          have HD5 := Lib.hid (fun W h1 => checksum_any Ay ny cy wo.heap.size ly W h1)
          have HD6 := Lib.hid (fun W h1 => rchecksum_any Ay ny cy wo.heap.size ly W h1)
          unfold RetTele at HD1 HD2
          unfold RetScan at HD3 HD4
          have hsl : (scanT ly).1.length ≤ 1000 := by
            have := scan_le ly
            have := HSY.out.len (fun _ => rfl) (by decide)
            omega
          generalize decSt ly = s1 at *
          generalize decSq ly = s2 at *
          generalize decL ly = dl at *
          generalize decErr ly = er at *
          generalize (scanT ly).1 = ts at *
          generalize (scanT ly).2 = pz at *
          generalize (crcAll ly).toNat = cs at *
          obtain ⟨nd, hnd⟩ : ∃ nd, dl.length = nd := ⟨_, rfl⟩
          obtain ⟨ns, hns⟩ : ∃ ns, ts.length = ns := ⟨_, rfl⟩
          rw [hnd] at HD1 HD2
          rw [hns] at HD3 HD4 hsl
          clear hnd hns
          go_wp2_with fail
          clear x0
          refine (HD1.out wo HSY.out (Nat.le_refl _)).mono ?_
          rintro e w31 ⟨A31, c31, rfl, ho31, hb31⟩
          have HS31 := Lib.hid (Sl.of_own ho31)
          have HY31 := Lib.hid (HSY.out.below hb31 (Nat.le_refl _))
          have hz31 := hb31.size
          have HB31 := Lib.hid hb31
          clear ho31 hb31
          go_wp2_with fail
          generalize hWC : w31.alloc (.cells #[.int .i64 s1, .int .i64 s2, .slice A31 nd c31] 31) = WC
          have hbC : Below w31.heap.size w31 WC := hWC ▸ (Below.refl _ _).alloc (Nat.le_refl _) _
          have hkC : Blk WC w31.heap.size 31 #[.int .i64 s1, .int .i64 s2, .slice A31 nd c31] := hWC ▸ Blk.new _ _ _
          have hzC : w31.heap.size < WC.heap.size := hkC.lt
          clear hWC
          have HYC := Lib.hid (HY31.out.below hbC hz31)
          have HSC := Lib.hid (HS31.out.below hbC (Nat.le_refl _))
          have HBC := Lib.hid (HB31.out.trans (hbC.mono hz31))
          have HKC := Lib.hid hkC
          clear hbC hkC HY31 HS31 HB31
          refine (HD2.out WC HYC.out (by omega)).mono ?_
          rintro e w32 ⟨A32, c32, rfl, ho32, hb32⟩
          have HS32 := Lib.hid (Sl.of_own ho32)
          replace HYC := Lib.hid (HYC.out.below hb32 (by omega))
          replace HSC := Lib.hid (HSC.out.below hb32 (by omega))
          replace HKC := Lib.hid (HKC.out.below hb32 hzC)
          replace HBC := Lib.hid (HBC.out.trans (hb32.mono (by omega)))
          have hz32 := hb32.size
          clear ho32 hb32
          go_wp2_with fail
          generalize hWD : w32.alloc (.cells #[.int .i64 s1, .int .i64 s2, .slice A32 nd c32] 31) = WD
          have hbD : Below w32.heap.size w32 WD := hWD ▸ (Below.refl _ _).alloc (Nat.le_refl _) _
          have hkD : Blk WD w32.heap.size 31 #[.int .i64 s1, .int .i64 s2, .slice A32 nd c32] := hWD ▸ Blk.new _ _ _
          have hzD : w32.heap.size < WD.heap.size := hkD.lt
          clear hWD
          replace HYC := Lib.hid (HYC.out.below hbD (by omega))
          replace HSC := Lib.hid (HSC.out.below hbD (by omega))
          replace HS32 := Lib.hid (HS32.out.below hbD (by omega))
          replace HKC := Lib.hid (HKC.out.below hbD (by omega))
          replace HBC := Lib.hid (HBC.out.trans (hbD.mono (by omega)))
          have HKD := Lib.hid hkD
          clear hbD hkD
          refine (HD3.out WD HYC.out (by omega)).mono ?_
          rintro e w33 ⟨A33, c33, rfl, ho33, hb33⟩
          replace HYC := Lib.hid (HYC.out.below hb33 (by omega))
          replace HSC := Lib.hid (HSC.out.below hb33 (by omega))
          replace HS32 := Lib.hid (HS32.out.below hb33 (by omega))
          replace HKC := Lib.hid (HKC.out.below hb33 (by omega))
          replace HKD := Lib.hid (HKD.out.below hb33 hzD)
          replace HBC := Lib.hid (HBC.out.trans (hb33.mono (by omega)))
          have HO33 := Lib.hid ho33
          have hz33 := hb33.size
          clear ho33 hb33
          go_wp2_with fail
          refine (HD4.out w33 HYC.out (by omega)).mono ?_
          rintro e w34 ⟨A34, c34, rfl, ho34, hb34⟩
          replace HYC := Lib.hid (HYC.out.below hb34 (by omega))
          replace HSC := Lib.hid (HSC.out.below hb34 (by omega))
          replace HS32 := Lib.hid (HS32.out.below hb34 (by omega))
          replace HKC := Lib.hid (HKC.out.below hb34 (by omega))
          replace HKD := Lib.hid (HKD.out.below hb34 (by omega))
          replace HBC := Lib.hid (HBC.out.trans (hb34.mono (by omega)))
          replace HO33 := Lib.hid (HO33.out.below hb34)
          have HO34 := Lib.hid ho34
          have hz34 := hb34.size
          clear ho34 hb34
          have u0 : w34.cell? ⟨w31.heap.size, 0, none⟩ = some (.int .i64 s1) := HKC.out.cell 0
          have u1 : w34.cell? ⟨w31.heap.size, 1, none⟩ = some (.int .i64 s2) := HKC.out.cell 1
          have u2' : w34.cell? ⟨w31.heap.size, 2, none⟩ = some (.slice A31 nd c31) := HKC.out.cell 2
          have v0 : w34.cell? ⟨w32.heap.size, 0, none⟩ = some (.int .i64 s1) := HKD.out.cell 0
          have v1 : w34.cell? ⟨w32.heap.size, 1, none⟩ = some (.int .i64 s2) := HKD.out.cell 1
          have v2 : w34.cell? ⟨w32.heap.size, 2, none⟩ = some (.slice A32 nd c32) := HKD.out.cell 2
          go_wp2_with fail
          clear u0 u1 u2' v0 v1 v2
          refine (same_any s1 s2 A31 A32 nd nd c31 c32 w31.heap.size w32.heap.size dl w34 HSC.out HS32.out (by omega) (by omega)).mono ?_
          rintro e w35 ⟨rfl, hb35⟩
          replace HYC := Lib.hid (HYC.out.below hb35 (by omega))
          replace HBC := Lib.hid (HBC.out.trans (hb35.mono (by omega)))
          replace HO33 := Lib.hid (HO33.out.below hb35)
          replace HO34 := Lib.hid (HO34.out.below hb35)
          have hz35 := hb35.size
          clear hb35 HSC HS32 HKC HKD
          go_wp2_with fail
          refine (HD5.out w35 HYC.out).mono ?_
          rintro e w36 ⟨rfl, rfl⟩
          go_wp2_with fail
          refine (HD6.out w35 HYC.out).mono ?_
          rintro e w36 ⟨rfl, rfl⟩
          go_wp2_with fail
          have HBD := Lib.hid (hbl.out.trans (HBC.out.mono hszr))
          clear HYC HBC hbl HD1 HD2 HD3 HD4 HD5 HD6
          go_loopw [243] (fun i wr => ∃ (i' : Nat), i = .int .i64 i' ∧ i' ≤ ns ∧ Hid (Below w35.heap.size w35 wr)) (fun i _ => ns - (intOf i).toNat)
          case atStart => exact ⟨0, rfl, Nat.zero_le _, Below.refl _ _⟩
          case round =>
            obtain ⟨j, rfl, hj, hbl⟩ := hrel
            by_cases hlj : j < ns; rotate_left
            · obtain rfl : j = ns := by omega
              have hjj : decide (j < j) = false := by simp
              go_wp2_with fail
              go_roundw
              case rel => exact ⟨i + 1, by go_num, by omega, HBD.out.trans (hbl.out.mono HBD.out.size)⟩
              case measure => simp [intOf]; omega
            have hlj' : (j : Int) < (ns : Int) := by omega
            obtain ⟨b1, r1, t1, rfl, hl1, ht1, e11, e12, hs1, x0, x1, x2⟩ := (HO33.out.below hbl.out).at hlj
            obtain ⟨b2, r2, t2, rfl, hl2, ht2, e21, e22, hs2, y0, y1, y2⟩ := (HO34.out.below hbl.out).at hlj
            rw [ht1] at ht2
            injection ht2 with ht2
            subst ht2
            rw [e11] at x0
            rw [e12] at x1
            rw [e21] at y0
            rw [e22] at y1
            obtain ⟨ts1, ts2, tsl⟩ := t1
            simp only at x0 x1 y0 y1 hs1 hs2
            have HR1 := Lib.hid hs1; have HR2 := Lib.hid hs2
            clear hs1 hs2 e11 e12 e21 e22 ht1
            go_wp2_with fail
            refine wp_region_J (S := (fun w' => w'.cell? ⟨b1, j * 3, none⟩ = some (.int .i64 ts1) ∧ w'.cell? ⟨b1, j * 3 + 1, none⟩ = some (.int .i64 ts2) ∧ w'.cell? ⟨b1, j * 3 + 2, none⟩ = some (.slice r1.A r1.n r1.c) ∧ w'.cell? ⟨b2, j * 3, none⟩ = some (.int .i64 ts1) ∧ w'.cell? ⟨b2, j * 3 + 1, none⟩ = some (.int .i64 ts2) ∧ w'.cell? ⟨b2, j * 3 + 2, none⟩ = some (.slice r2.A r2.n r2.c))) (J := []) (by as_aux_lemma => kernel_rfl) ?_ (fun hHeld => ?_)
            · exact ⟨x0, x1, x2, y0, y1, y2⟩
            try dsimp only at hHeld
            refine wpAnyJ_take (i := 0) (d := some 246) (v := ?_) rfl rfl (by as_aux_lemma => kernel_rfl) (by as_aux_lemma => kernel_rfl) (by as_aux_lemma => kernel_rfl) (by as_aux_lemma => kernel_rfl) (by as_aux_lemma => kernel_rfl) (fun _ _ _ h => h) (Or.inl ⟨by rfl, ?_⟩) hHeld ?_
            rotate_left
            · (intro w hSw; (try dsimp only at hSw); go_simp; try with_reducible rfl)
            try simp only [Act.put, List.setIfInBounds_toArray, List.set_cons_zero, List.set_cons_succ]
            refine wpAnyJ_take (i := 1) (d := some 247) (v := ?_) rfl rfl (by as_aux_lemma => kernel_rfl) (by as_aux_lemma => kernel_rfl) (by as_aux_lemma => kernel_rfl) (by as_aux_lemma => kernel_rfl) (by as_aux_lemma => kernel_rfl) (fun _ _ _ h => h) (Or.inl ⟨by rfl, ?_⟩) hHeld ?_
            rotate_left
            · (intro w hSw; (try dsimp only at hSw); go_simp; try with_reducible rfl)
            try simp only [Act.put, List.setIfInBounds_toArray, List.set_cons_zero, List.set_cons_succ]
            refine wpAnyJ_take (i := 2) (d := some 248) (v := ?_) rfl rfl (by as_aux_lemma => kernel_rfl) (by as_aux_lemma => kernel_rfl) (by as_aux_lemma => kernel_rfl) (by as_aux_lemma => kernel_rfl) (by as_aux_lemma => kernel_rfl) (fun _ _ _ h => h) (Or.inl ⟨by rfl, ?_⟩) hHeld ?_
            rotate_left
            · (intro w hSw; (try dsimp only at hSw); go_simp; try with_reducible rfl)
            try simp only [Act.put, List.setIfInBounds_toArray, List.set_cons_zero, List.set_cons_succ]
            refine wpAnyJ_take (i := 3) (d := some 249) (v := ?_) rfl rfl (by as_aux_lemma => kernel_rfl) (by as_aux_lemma => kernel_rfl) (by as_aux_lemma => kernel_rfl) (by as_aux_lemma => kernel_rfl) (by as_aux_lemma => kernel_rfl) (fun _ _ _ h => h) (Or.inl ⟨by rfl, ?_⟩) hHeld ?_
            rotate_left
            · (intro w hSw; (try dsimp only at hSw); go_simp; try with_reducible rfl)
            try simp only [Act.put, List.setIfInBounds_toArray, List.set_cons_zero, List.set_cons_succ]
            refine wpAnyJ_take (i := 4) (d := some 250) (v := ?_) rfl rfl (by as_aux_lemma => kernel_rfl) (by as_aux_lemma => kernel_rfl) (by as_aux_lemma => kernel_rfl) (by as_aux_lemma => kernel_rfl) (by as_aux_lemma => kernel_rfl) (fun _ _ _ h => h) (Or.inl ⟨by rfl, ?_⟩) hHeld ?_
            rotate_left
            · (intro w hSw; (try dsimp only at hSw); go_simp; try with_reducible rfl)
            try simp only [Act.put, List.setIfInBounds_toArray, List.set_cons_zero, List.set_cons_succ]
            refine wpAnyJ_take (i := 5) (d := some 251) (v := ?_) rfl rfl (by as_aux_lemma => kernel_rfl) (by as_aux_lemma => kernel_rfl) (by as_aux_lemma => kernel_rfl) (by as_aux_lemma => kernel_rfl) (by as_aux_lemma => kernel_rfl) (fun _ _ _ h => h) (Or.inl ⟨by rfl, ?_⟩) hHeld ?_
            rotate_left
            · (intro w hSw; (try dsimp only at hSw); go_simp; try with_reducible rfl)
            try simp only [Act.put, List.setIfInBounds_toArray, List.set_cons_zero, List.set_cons_succ]
            refine wpAnyJ_take (i := 6) (d := some 252) (v := ?_) rfl rfl (by as_aux_lemma => kernel_rfl) (by as_aux_lemma => kernel_rfl) (by as_aux_lemma => kernel_rfl) (by as_aux_lemma => kernel_rfl) (by as_aux_lemma => kernel_rfl) (fun _ _ _ h => h) (Or.inl ⟨by rfl, ?_⟩) hHeld ?_
            rotate_left
            · (intro w hSw; (try dsimp only at hSw); go_simp; try with_reducible rfl)
            try simp only [Act.put, List.setIfInBounds_toArray, List.set_cons_zero, List.set_cons_succ]
            refine wpAnyJ_take (i := 7) (d := some 253) (v := ?_) rfl rfl (by as_aux_lemma => kernel_rfl) (by as_aux_lemma => kernel_rfl) (by as_aux_lemma => kernel_rfl) (by as_aux_lemma => kernel_rfl) (by as_aux_lemma => kernel_rfl) (fun _ _ _ h => h) (Or.inl ⟨by rfl, ?_⟩) hHeld ?_
            rotate_left
            · (intro w hSw; (try dsimp only at hSw); go_simp; try with_reducible rfl)
            try simp only [Act.put, List.setIfInBounds_toArray, List.set_cons_zero, List.set_cons_succ]
            refine wpAnyJ_one (k := 8) (by as_aux_lemma => kernel_rfl) rfl (fun K hK => ?_)
            go_simp
            refine (same_any ts1 ts2 r1.A r2.A r1.n r2.n r1.c r2.c wr.heap.size wr.heap.size tsl _ HR1.out.drew HR2.out.drew (Nat.le_refl _) (Nat.le_refl _)).mono ?_
            rintro e w13 ⟨rfl, hb13⟩
            have HB13 := Lib.hid hb13
            clear hb13
            try go_simp
            refine hK.out _ _ (fun _ => ?_) (fun hHeld' => ?_)
            · exact ⟨(HB13.out.cell (p := ⟨b1, j * 3, none⟩) hl1).trans hHeld.1, (HB13.out.cell (p := ⟨b1, j * 3 + 1, none⟩) hl1).trans hHeld.2.1, (HB13.out.cell (p := ⟨b1, j * 3 + 2, none⟩) hl1).trans hHeld.2.2.1, (HB13.out.cell (p := ⟨b2, j * 3, none⟩) hl2).trans hHeld.2.2.2.1, (HB13.out.cell (p := ⟨b2, j * 3 + 1, none⟩) hl2).trans hHeld.2.2.2.2.1, (HB13.out.cell (p := ⟨b2, j * 3 + 2, none⟩) hl2).trans hHeld.2.2.2.2.2⟩
            replace hHeld := hHeld' rfl
            clear hHeld'
            try dsimp only at hHeld
            clear hK K
            try simp only [Act.put, List.setIfInBounds_toArray, List.set_cons_zero, List.set_cons_succ]
            refine wpAnyJ_take (i := 9) (d := some 255) (v := ?_) rfl rfl (by as_aux_lemma => kernel_rfl) (by as_aux_lemma => kernel_rfl) (by as_aux_lemma => kernel_rfl) (by as_aux_lemma => kernel_rfl) (by as_aux_lemma => kernel_rfl) (fun _ _ _ h => h) (Or.inl ⟨by rfl, ?_⟩) hHeld ?_
            rotate_left
            · (intro w hSw; (try dsimp only at hSw); go_simp; try with_reducible rfl)
            try simp only [Act.put, List.setIfInBounds_toArray, List.set_cons_zero, List.set_cons_succ]
            refine wpAnyJ_done (by as_aux_lemma => kernel_rfl) ?_ _
            go_wp2
            go_roundw
            case rel => exact ⟨j + 1, by go_num, by omega, hbl.out.drew.trans (HB13.out.mono hbl.out.size)⟩
            case measure => simp [intOf]; omega
      as_aux_lemma =>
      obtain ⟨xs, xq, Ax, nx, cx, lx, hrow⟩ := HR3.out i hlt
      obtain ⟨x0, x1, x2, hsx⟩ := hrow.below hbl.out hbAl
      have HSX := Lib.hid hsx
      clear hrow hsx
      have hszr := hbl.out.size
      go_wp2_with fail
      generalize hWX : wr.alloc (.cells #[.int .i64 xs, .int .i64 xq, .slice Ax nx cx] 31) = WX
      have hbX : Below wr.heap.size wr WX := hWX ▸ (Below.refl _ _).alloc (Nat.le_refl _) _
      have hkX : Blk WX wr.heap.size 31 #[.int .i64 xs, .int .i64 xq, .slice Ax nx cx] := hWX ▸ Blk.new _ _ _
      clear hWX x0 x1 x2
      have HE1 := Lib.hid (fun W h1 h2 => encode_any xs xq Ax nx cx wr.heap.size lx W h1 h2)
      have HE2 := Lib.hid (fun W h1 h2 => rencode_any xs xq Ax nx cx wr.heap.size lx W h1 h2)
      have HE3 := Lib.hid (fun W h1 h2 => check_any xs xq Ax nx cx wr.heap.size lx W h1 h2)
      have HE4 := Lib.hid (fun W h1 h2 => rcheck_any xs xq Ax nx cx wr.heap.size lx W h1 h2)
      have HE5 := Lib.hid (fun W h1 h2 => reports_any xs xq Ax nx cx wr.heap.size lx W h1 h2)
      have HE6 := Lib.hid (fun W h1 h2 => rreports_any xs xq Ax nx cx wr.heap.size lx W h1 h2)
      unfold RetBytes at HE1 HE2
      unfold RetReports at HE5 HE6
      generalize encT xs xq lx = E at *
      generalize checkT xs xq lx = er at *
      generalize reportsT xs xq lx = R at *
      obtain ⟨nE, hnE⟩ : ∃ nE, E.length = nE := ⟨_, rfl⟩
      obtain ⟨nR, hnR⟩ : ∃ nR, R.length = nR := ⟨_, rfl⟩
      rw [hnE] at HE1 HE2
      rw [hnR] at HE5 HE6
      clear hnE hnR
      have HSX1 := Lib.hid (HSX.out.below hbX (Nat.le_refl _))
      have hzX := hbX.size
      obtain ⟨bx, hbxe⟩ : ∃ bx, wr.heap.size = bx := ⟨_, rfl⟩
      have hbx : bx < WX.heap.size := hbxe ▸ hkX.lt
      rw [hbxe] at hkX HSX1 HE1 HE2 HE3 HE4 HE5 HE6 hzX ⊢
      have HKX := Lib.hid hkX
      have HBX := Lib.hid (hbl.out.trans (hbX.mono hszr))
      clear hkX hbX HSX
      refine (HE1.out WX HSX1.out hzX).mono ?_
      rintro e w11 ⟨A11, c11, rfl, ho11, hb11⟩
      have HA11 := Lib.hid (Sl.of_own ho11)
      have HK11 := Lib.hid (HKX.out.below hb11 hbx)
      have HS11 := Lib.hid (HSX1.out.below hb11 (Nat.le_of_lt hbx))
      have HB11 := Lib.hid (HBX.out.trans (hb11.mono HBX.out.size))
      have hz11 := hb11.size
      have x0 : w11.cell? ⟨bx, 0, none⟩ = some (.int .i64 xs) := HK11.out.cell 0
      have x1 : w11.cell? ⟨bx, 1, none⟩ = some (.int .i64 xq) := HK11.out.cell 1
      have x2 : w11.cell? ⟨bx, 2, none⟩ = some (.slice Ax nx cx) := HK11.out.cell 2
      clear ho11 hb11 HKX HSX1 HBX
      go_wp2_with fail
      clear x0 x1 x2
      refine (HE2.out w11 HS11.out (by omega)).mono ?_
      rintro e w12 ⟨A12, c12, rfl, ho12, hb12⟩
      have HA12 := Lib.hid (Sl.of_own ho12)
      replace HA11 := Lib.hid ((HA11.out.below hb12 (Nat.le_refl _)).more hb12.size)
      have hbx11 : bx < w11.heap.size := by omega
      have HK12 := Lib.hid (HK11.out.below hb12 hbx11)
      have HS12 := Lib.hid (HS11.out.below hb12 (Nat.le_of_lt hbx11))
      have HB12 := Lib.hid (HB11.out.trans (hb12.mono HB11.out.size))
      have hz12 := hb12.size
      have x0 : w12.cell? ⟨bx, 0, none⟩ = some (.int .i64 xs) := HK12.out.cell 0
      have x1 : w12.cell? ⟨bx, 1, none⟩ = some (.int .i64 xq) := HK12.out.cell 1
      have x2 : w12.cell? ⟨bx, 2, none⟩ = some (.slice Ax nx cx) := HK12.out.cell 2
      have hbx12 : bx < w12.heap.size := by omega
      clear ho12 hb12 HK11 HS11 HB11
      go_wp2_with fail
      refine wp_region_J (S := (fun w' => Below w12.heap.size w12 w')) (J := []) (by as_aux_lemma => kernel_rfl) ?_ (fun hHeld => ?_)
      · exact (Below.refl _ _).drew
      try dsimp only at hHeld
      refine wpAnyJ_take (i := 0) (d := some 144) (v := ?_) rfl rfl (by as_aux_lemma => kernel_rfl) (by as_aux_lemma => kernel_rfl) (by as_aux_lemma => kernel_rfl) (by as_aux_lemma => kernel_rfl) (by as_aux_lemma => kernel_rfl) (fun _ _ _ h => h) (Or.inl ⟨by rfl, ?_⟩) hHeld ?_
      rotate_left
      · (intro w hSw; (try dsimp only at hSw); go_simp; try with_reducible rfl)
      try simp only [Act.put, List.setIfInBounds_toArray, List.set_cons_zero, List.set_cons_succ]
      refine wpAnyJ_take (i := 1) (d := some 145) (v := ?_) rfl rfl (by as_aux_lemma => kernel_rfl) (by as_aux_lemma => kernel_rfl) (by as_aux_lemma => kernel_rfl) (by as_aux_lemma => kernel_rfl) (by as_aux_lemma => kernel_rfl) (fun _ _ _ h => h) (Or.inl ⟨by rfl, ?_⟩) hHeld ?_
      rotate_left
      · (intro w hSw; (try dsimp only at hSw); go_simp; try with_reducible rfl)
      try simp only [Act.put, List.setIfInBounds_toArray, List.set_cons_zero, List.set_cons_succ]
      refine wpAnyJ_take (i := 2) (d := some 146) (v := ?_) rfl rfl (by as_aux_lemma => kernel_rfl) (by as_aux_lemma => kernel_rfl) (by as_aux_lemma => kernel_rfl) (by as_aux_lemma => kernel_rfl) (by as_aux_lemma => kernel_rfl) (fun _ _ _ h => h) (Or.inl ⟨by rfl, ?_⟩) hHeld ?_
      rotate_left
      · (intro w hSw; (try dsimp only at hSw); go_simp; try with_reducible rfl)
      try simp only [Act.put, List.setIfInBounds_toArray, List.set_cons_zero, List.set_cons_succ]
      refine wpAnyJ_take (i := 3) (d := some 147) (v := ?_) rfl rfl (by as_aux_lemma => kernel_rfl) (by as_aux_lemma => kernel_rfl) (by as_aux_lemma => kernel_rfl) (by as_aux_lemma => kernel_rfl) (by as_aux_lemma => kernel_rfl) (fun _ _ _ h => h) (Or.inl ⟨by rfl, ?_⟩) hHeld ?_
      rotate_left
      · (intro w hSw; (try dsimp only at hSw); go_simp; try with_reducible rfl)
      try simp only [Act.put, List.setIfInBounds_toArray, List.set_cons_zero, List.set_cons_succ]
      refine wpAnyJ_take (i := 4) (d := some 148) (v := ?_) rfl rfl (by as_aux_lemma => kernel_rfl) (by as_aux_lemma => kernel_rfl) (by as_aux_lemma => kernel_rfl) (by as_aux_lemma => kernel_rfl) (by as_aux_lemma => kernel_rfl) (fun _ _ _ h => h) (Or.inl ⟨by rfl, ?_⟩) hHeld ?_
      rotate_left
      · (intro w hSw; (try dsimp only at hSw); go_simp; try with_reducible rfl)
      try simp only [Act.put, List.setIfInBounds_toArray, List.set_cons_zero, List.set_cons_succ]
      refine wpAnyJ_take (i := 5) (d := some 149) (v := ?_) rfl rfl (by as_aux_lemma => kernel_rfl) (by as_aux_lemma => kernel_rfl) (by as_aux_lemma => kernel_rfl) (by as_aux_lemma => kernel_rfl) (by as_aux_lemma => kernel_rfl) (fun _ _ _ h => h) (Or.inl ⟨by rfl, ?_⟩) hHeld ?_
      rotate_left
      · (intro w hSw; (try dsimp only at hSw); have hcx := run_string_of (P := Try.prog) Try.underlying42 Try.underlying5 Try.underlying9 (HA11.out.below hSw (Nat.le_refl _)); clear hSw; go_simp; try with_reducible rfl)
      try simp only [Act.put, List.setIfInBounds_toArray, List.set_cons_zero, List.set_cons_succ]
      refine wpAnyJ_take (i := 6) (d := some 150) (v := ?_) rfl rfl (by as_aux_lemma => kernel_rfl) (by as_aux_lemma => kernel_rfl) (by as_aux_lemma => kernel_rfl) (by as_aux_lemma => kernel_rfl) (by as_aux_lemma => kernel_rfl) (fun _ _ _ h => h) (Or.inl ⟨by rfl, ?_⟩) hHeld ?_
      rotate_left
      · (intro w hSw; (try dsimp only at hSw); go_simp; try with_reducible rfl)
      try simp only [Act.put, List.setIfInBounds_toArray, List.set_cons_zero, List.set_cons_succ]
      refine wpAnyJ_take (i := 7) (d := some 151) (v := ?_) rfl rfl (by as_aux_lemma => kernel_rfl) (by as_aux_lemma => kernel_rfl) (by as_aux_lemma => kernel_rfl) (by as_aux_lemma => kernel_rfl) (by as_aux_lemma => kernel_rfl) (fun _ _ _ h => h) (Or.inl ⟨by rfl, ?_⟩) hHeld ?_
      rotate_left
      · (intro w hSw; (try dsimp only at hSw); have hcx := run_string_of (P := Try.prog) Try.underlying42 Try.underlying5 Try.underlying9 (HA12.out.below hSw (Nat.le_refl _)); clear hSw; go_simp; try with_reducible rfl)
      try simp only [Act.put, List.setIfInBounds_toArray, List.set_cons_zero, List.set_cons_succ]
      refine wpAnyJ_take (i := 8) (d := some 152) (v := ?_) rfl rfl (by as_aux_lemma => kernel_rfl) (by as_aux_lemma => kernel_rfl) (by as_aux_lemma => kernel_rfl) (by as_aux_lemma => kernel_rfl) (by as_aux_lemma => kernel_rfl) (fun _ _ _ h => h) (Or.inl ⟨by rfl, ?_⟩) hHeld ?_
      rotate_left
      · (intro w hSw; (try dsimp only at hSw); go_simp; try with_reducible rfl)
      try simp only [Act.put, List.setIfInBounds_toArray, List.set_cons_zero, List.set_cons_succ]
      refine wpAnyJ_take (i := 9) (d := some 153) (v := ?_) rfl rfl (by as_aux_lemma => kernel_rfl) (by as_aux_lemma => kernel_rfl) (by as_aux_lemma => kernel_rfl) (by as_aux_lemma => kernel_rfl) (by as_aux_lemma => kernel_rfl) (fun _ _ _ h => h) (Or.inl ⟨by rfl, ?_⟩) hHeld ?_
      rotate_left
      · (intro w hSw; (try dsimp only at hSw); go_simp; try with_reducible rfl)
      try simp only [Act.put, List.setIfInBounds_toArray, List.set_cons_zero, List.set_cons_succ]
      refine wpAnyJ_take (i := 10) (d := some 154) (v := ?_) rfl rfl (by as_aux_lemma => kernel_rfl) (by as_aux_lemma => kernel_rfl) (by as_aux_lemma => kernel_rfl) (by as_aux_lemma => kernel_rfl) (by as_aux_lemma => kernel_rfl) (fun _ _ _ h => h) (Or.inl ⟨by rfl, ?_⟩) hHeld ?_
      rotate_left
      · (intro w hSw; (try dsimp only at hSw); go_simp; try with_reducible rfl)
      try simp only [Act.put, List.setIfInBounds_toArray, List.set_cons_zero, List.set_cons_succ]
      refine wpAnyJ_take (i := 11) (d := some 155) (v := ?_) rfl rfl (by as_aux_lemma => kernel_rfl) (by as_aux_lemma => kernel_rfl) (by as_aux_lemma => kernel_rfl) (by as_aux_lemma => kernel_rfl) (by as_aux_lemma => kernel_rfl) (fun _ _ _ h => h) (Or.inl ⟨by rfl, ?_⟩) hHeld ?_
      rotate_left
      · (intro w hSw; (try dsimp only at hSw); have x0 := (hSw.cell (p := ⟨bx, 0, none⟩) hbx12).trans x0; have x1 := (hSw.cell (p := ⟨bx, 1, none⟩) hbx12).trans x1; have x2 := (hSw.cell (p := ⟨bx, 2, none⟩) hbx12).trans x2; clear hSw; go_simp; try with_reducible rfl)
      try simp only [Act.put, List.setIfInBounds_toArray, List.set_cons_zero, List.set_cons_succ]
      refine wpAnyJ_take (i := 13) (d := some 157) (v := ?_) rfl rfl (by as_aux_lemma => kernel_rfl) (by as_aux_lemma => kernel_rfl) (by as_aux_lemma => kernel_rfl) (by as_aux_lemma => kernel_rfl) (by as_aux_lemma => kernel_rfl) (fun _ _ _ h => h) (Or.inl ⟨by rfl, ?_⟩) hHeld ?_
      rotate_left
      · (intro w hSw; (try dsimp only at hSw); have x0 := (hSw.cell (p := ⟨bx, 0, none⟩) hbx12).trans x0; have x1 := (hSw.cell (p := ⟨bx, 1, none⟩) hbx12).trans x1; have x2 := (hSw.cell (p := ⟨bx, 2, none⟩) hbx12).trans x2; clear hSw; go_simp; try with_reducible rfl)
      try simp only [Act.put, List.setIfInBounds_toArray, List.set_cons_zero, List.set_cons_succ]
      refine wpAnyJ_one (k := 12) (by as_aux_lemma => kernel_rfl) rfl (fun K hK => ?_)
      go_simp
      refine (HE3.out _ (HS12.out.below hHeld (Nat.le_of_lt hbx12)) (Nat.le_trans (Nat.le_of_lt hbx12) hHeld.size)).mono ?_
      rintro e w13 ⟨rfl, hb13⟩
      try go_simp
      refine hK.out _ _ (fun _ => ?_) (fun hHeld' => ?_)
      · exact hHeld.trans (hb13.mono hHeld.size)
      replace hHeld := hHeld' rfl
      clear hHeld'
      try dsimp only at hHeld
      clear hK K
      try simp only [Act.put, List.setIfInBounds_toArray, List.set_cons_zero, List.set_cons_succ]
      refine wpAnyJ_one (k := 14) (by as_aux_lemma => kernel_rfl) rfl (fun K hK => ?_)
      go_simp
      refine (HE4.out _ (HS12.out.below hHeld (Nat.le_of_lt hbx12)) (Nat.le_trans (Nat.le_of_lt hbx12) hHeld.size)).mono ?_
      rintro e w14 ⟨rfl, hb14⟩
      try go_simp
      refine hK.out _ _ (fun _ => ?_) (fun hHeld' => ?_)
      · exact hHeld.trans (hb14.mono hHeld.size)
      replace hHeld := hHeld' rfl
      clear hHeld'
      try dsimp only at hHeld
      clear hK K
      try simp only [Act.put, List.setIfInBounds_toArray, List.set_cons_zero, List.set_cons_succ]
      refine wpAnyJ_take (i := 15) (d := some 159) (v := ?_) rfl rfl (by as_aux_lemma => kernel_rfl) (by as_aux_lemma => kernel_rfl) (by as_aux_lemma => kernel_rfl) (by as_aux_lemma => kernel_rfl) (by as_aux_lemma => kernel_rfl) (fun _ _ _ h => h) (Or.inl ⟨by rfl, ?_⟩) hHeld ?_
      rotate_left
      · (intro w hSw; (try dsimp only at hSw); go_simp; try with_reducible rfl)
      try simp only [Act.put, List.setIfInBounds_toArray, List.set_cons_zero, List.set_cons_succ]
      refine wpAnyJ_take (i := 16) (d := some 160) (v := ?_) rfl rfl (by as_aux_lemma => kernel_rfl) (by as_aux_lemma => kernel_rfl) (by as_aux_lemma => kernel_rfl) (by as_aux_lemma => kernel_rfl) (by as_aux_lemma => kernel_rfl) (fun _ _ _ h => h) (Or.inl ⟨by rfl, ?_⟩) hHeld ?_
      rotate_left
      · (intro w hSw; (try dsimp only at hSw); go_simp; try with_reducible rfl)
      try simp only [Act.put, List.setIfInBounds_toArray, List.set_cons_zero, List.set_cons_succ]
      refine wpAnyJ_take (i := 17) (d := some 161) (v := ?_) rfl rfl (by as_aux_lemma => kernel_rfl) (by as_aux_lemma => kernel_rfl) (by as_aux_lemma => kernel_rfl) (by as_aux_lemma => kernel_rfl) (by as_aux_lemma => kernel_rfl) (fun _ _ _ h => h) (Or.inl ⟨by rfl, ?_⟩) hHeld ?_
      rotate_left
      · (intro w hSw; (try dsimp only at hSw); go_simp; try with_reducible rfl)
      try simp only [Act.put, List.setIfInBounds_toArray, List.set_cons_zero, List.set_cons_succ]
      refine wpAnyJ_take (i := 18) (d := some 162) (v := ?_) rfl rfl (by as_aux_lemma => kernel_rfl) (by as_aux_lemma => kernel_rfl) (by as_aux_lemma => kernel_rfl) (by as_aux_lemma => kernel_rfl) (by as_aux_lemma => kernel_rfl) (fun _ _ _ h => h) (Or.inl ⟨by rfl, ?_⟩) hHeld ?_
      rotate_left
      · (intro w hSw; (try dsimp only at hSw); have x0 := (hSw.cell (p := ⟨bx, 0, none⟩) hbx12).trans x0; have x1 := (hSw.cell (p := ⟨bx, 1, none⟩) hbx12).trans x1; have x2 := (hSw.cell (p := ⟨bx, 2, none⟩) hbx12).trans x2; clear hSw; go_simp; try with_reducible rfl)
      try simp only [Act.put, List.setIfInBounds_toArray, List.set_cons_zero, List.set_cons_succ]
      refine wpAnyJ_take (i := 20) (d := some 164) (v := ?_) rfl rfl (by as_aux_lemma => kernel_rfl) (by as_aux_lemma => kernel_rfl) (by as_aux_lemma => kernel_rfl) (by as_aux_lemma => kernel_rfl) (by as_aux_lemma => kernel_rfl) (fun _ _ _ h => h) (Or.inl ⟨by rfl, ?_⟩) hHeld ?_
      rotate_left
      · (intro w hSw; (try dsimp only at hSw); have x0 := (hSw.cell (p := ⟨bx, 0, none⟩) hbx12).trans x0; have x1 := (hSw.cell (p := ⟨bx, 1, none⟩) hbx12).trans x1; have x2 := (hSw.cell (p := ⟨bx, 2, none⟩) hbx12).trans x2; clear hSw; go_simp; try with_reducible rfl)
      try simp only [Act.put, List.setIfInBounds_toArray, List.set_cons_zero, List.set_cons_succ]
      refine wpAnyJ_one (k := 19) (by as_aux_lemma => kernel_rfl) rfl (fun K hK => ?_)
      go_simp
      refine (HE5.out _ (HS12.out.below hHeld (Nat.le_of_lt hbx12)) (Nat.le_trans (Nat.le_of_lt hbx12) hHeld.size)).mono ?_
      rintro e w15 ⟨A15, c15, rfl, ho15, hb15⟩
      have HR15 := Lib.hid (Sl.of_own ho15)
      clear ho15
      try go_simp
      refine hK.out _ _ (fun _ => ?_) (fun hHeld' => ?_)
      · exact hHeld.trans (hb15.mono hHeld.size)
      replace hHeld := hHeld' rfl
      clear hHeld'
      try dsimp only at hHeld
      clear hK K
      try simp only [Act.put, List.setIfInBounds_toArray, List.set_cons_zero, List.set_cons_succ]
      refine wpAnyJ_one (k := 21) (by as_aux_lemma => kernel_rfl) rfl (fun K hK => ?_)
      go_simp
      refine (HE6.out _ (HS12.out.below hHeld (Nat.le_of_lt hbx12)) (Nat.le_trans (Nat.le_of_lt hbx12) hHeld.size)).mono ?_
      rintro e w16 ⟨A16, c16, rfl, ho16, hb16⟩
      have HR16 := Lib.hid (Sl.of_own ho16)
      replace HR15 := Lib.hid ((HR15.out.below hb16 (Nat.le_refl _)).more hb16.size)
      clear ho16
      try go_simp
      refine hK.out _ _ (fun _ => ?_) (fun hHeld' => ?_)
      · exact hHeld.trans (hb16.mono hHeld.size)
      replace hHeld := hHeld' rfl
      clear hHeld'
      try dsimp only at hHeld
      clear hK K
      try simp only [Act.put, List.setIfInBounds_toArray, List.set_cons_zero, List.set_cons_succ]
      refine wpAnyJ_one (k := 22) (by as_aux_lemma => kernel_rfl) rfl (fun K hK => ?_)
      go_simp
      refine (sameReps_any A15 A16 nR c15 c16 w16.heap.size w16.heap.size R _ HR15.out HR16.out (Nat.le_refl _) (Nat.le_refl _)).mono ?_
      rintro e w17 ⟨rfl, hb17⟩
      try go_simp
      refine hK.out _ _ (fun _ => ?_) (fun hHeld' => ?_)
      · exact hHeld.trans (hb17.mono hHeld.size)
      replace hHeld := hHeld' rfl
      clear hHeld'
      try dsimp only at hHeld
      clear hK K
      try simp only [Act.put, List.setIfInBounds_toArray, List.set_cons_zero, List.set_cons_succ]
      refine wpAnyJ_take (i := 23) (d := some 167) (v := ?_) rfl rfl (by as_aux_lemma => kernel_rfl) (by as_aux_lemma => kernel_rfl) (by as_aux_lemma => kernel_rfl) (by as_aux_lemma => kernel_rfl) (by as_aux_lemma => kernel_rfl) (fun _ _ _ h => h) (Or.inl ⟨by rfl, ?_⟩) hHeld ?_
      rotate_left
      · (intro w hSw; (try dsimp only at hSw); go_simp; try with_reducible rfl)
      try simp only [Act.put, List.setIfInBounds_toArray, List.set_cons_zero, List.set_cons_succ]
      refine wpAnyJ_take (i := 24) (d := some 168) (v := ?_) rfl rfl (by as_aux_lemma => kernel_rfl) (by as_aux_lemma => kernel_rfl) (by as_aux_lemma => kernel_rfl) (by as_aux_lemma => kernel_rfl) (by as_aux_lemma => kernel_rfl) (fun _ _ _ h => h) (Or.inl ⟨by rfl, ?_⟩) hHeld ?_
      rotate_left
      · (intro w hSw; (try dsimp only at hSw); go_simp; try with_reducible rfl)
      try simp only [Act.put, List.setIfInBounds_toArray, List.set_cons_zero, List.set_cons_succ]
      refine wpAnyJ_done (by as_aux_lemma => kernel_rfl) ?_ _
      go_wp2
      go_roundw
      case rel => exact ⟨i + 1, by go_num, by omega, HB12.out.trans (hHeld.mono HB12.out.size)⟩
      case measure => simp [intOf]; omega
end Go.Proofs.Ytjinhfomfbcnjaa
