/-
  The references of layer 3: walk of Ints; the statements' own example.
-/
import Derived.Test.YtddjifkmaogpiaaDoorAwakeP
import Derived.Test.YtddjifkmaogpiaaDoorRef03
namespace Go.Proofs.YtddjifkmaogpiaaDoor
open Go.RowKit
def InR (w : World) (n : Nat) (l m : List Int) (gk : Nat) (iv : Value) (wr : World) : Prop := ∃ i : Nat, iv = .int .i64 i ∧ i ≤ n ∧ gk = n - i ∧ Hid (Below w.heap.size w wr) ∧ Hid (∀ j, j < i → l[j]? = m[j]?)
set_option maxHeartbeats 2000000 in
theorem ints_any (A B : Option Addr) (n c n2 c2 Ba Bb : Nat) (l m : List Int) (w : World) (ha : Sl w Ba 1 A n c (intsV l)) (hb : Sl w Bb 1 B n2 c2 (intsV m)) (hBa : Ba ≤ w.heap.size) (hBb : Bb ≤ w.heap.size) : Calls Tryd.prog 24 #[.slice A n c, .slice B n2 c2] w fun e w' => e = .returned (.bool (decide (l = m))) ∧ Below w.heap.size w w' := by
  have HLA := Lib.hid (ha.len (fun _ => rfl) (by decide)); have HLB := Lib.hid (hb.len (fun _ => rfl) (by decide))
  have hm1 := ha.le
  have hm2 := hb.le
  have HA := Lib.hid ha; have HB := Lib.hid hb
  clear ha hb
  by_cases hn : n = n2; rotate_left
  · have q : decide (n = n2) = false := by simpa using hn
    have q' : ((n : Int) != (n2 : Int)) = true := by simp; omega
    have HR : Hid (decide (l = m) = false) := decide_eq_false (fun e => hn (by rw [← HLA.out, ← HLB.out, e]))
    clear hn
    go_enter Tryd.func24, Tryd.ntmps24
    go_wp2_with fail
    go_ret
    exact ⟨ret_bool (by rw [HR.out]), Below.refl _ _⟩
  subst hn
  go_enter Tryd.func24, Tryd.ntmps24
  go_wp2_with fail
  go_loopg [5] n (InR w n l m)
  case atStart => exact ⟨0, rfl, Nat.zero_le _, rfl, Below.refl _ _, fun j hj => absurd hj (by omega)⟩
  case round =>
    obtain ⟨i, rfl, hi, rfl, hbl, hok⟩ := hrel
    by_cases hlt : i < n
    · obtain ⟨b1, o1, x, rfl, hb1, hx, hc1⟩ := (HA.out.below hbl.out hBa).at1 hlt
      obtain ⟨b2, o2, y, rfl, hb2, hy, hc2⟩ := (HB.out.below hbl.out hBb).at1 hlt
      have HX := Lib.hid hx; have HY := Lib.hid hy
      clear hx hy
      go_upto_region 6 with (fail)
      refine wp_region_J (S := fun W' => W'.cell? ⟨b1, o1 + i, none⟩ = some (.int .i64 x) ∧ W'.cell? ⟨b2, o2 + i, none⟩ = some (.int .i64 y)) (J := []) (by kernel_rfl) ?_ (fun hHeld => ?_)
      · exact ⟨hc1, hc2⟩
      try dsimp only at hHeld
      refine wpAnyJ_takeL (i := 0) (d := some 17) (v := ?_) #[true, false, false, false, false, false, false, false, false] (by kernel_rfl) rfl rfl (by kernel_rfl) (by kernel_rfl) (by kernel_rfl) (by kernel_rfl) (by kernel_rfl) (fun _ _ _ h => h) (Or.inl ⟨by rfl, ?_⟩) hHeld ?_
      rotate_left
      · (intro w hSw; (try dsimp only at hSw);  go_simp; try with_reducible rfl)
      try simp only [Act.put, List.setIfInBounds_toArray, List.set_cons_zero, List.set_cons_succ]
      refine wpAnyJ_takeL (i := 1) (d := some 18) (v := ?_) #[true, true, false, false, false, false, false, false, false] (by kernel_rfl) rfl rfl (by kernel_rfl) (by kernel_rfl) (by kernel_rfl) (by kernel_rfl) (by kernel_rfl) (fun _ _ _ h => h) (Or.inl ⟨by rfl, ?_⟩) hHeld ?_
      rotate_left
      · (intro w hSw; (try dsimp only at hSw);  go_simp; try with_reducible rfl)
      try simp only [Act.put, List.setIfInBounds_toArray, List.set_cons_zero, List.set_cons_succ]
      refine wpAnyJ_takeL (i := 2) (d := some 19) (v := ?_) #[true, true, true, false, false, false, false, false, false] (by kernel_rfl) rfl rfl (by kernel_rfl) (by kernel_rfl) (by kernel_rfl) (by kernel_rfl) (by kernel_rfl) (fun _ _ _ h => h) (Or.inl ⟨by rfl, ?_⟩) hHeld ?_
      rotate_left
      · (intro w hSw; (try dsimp only at hSw);  go_simp; try with_reducible rfl)
      try simp only [Act.put, List.setIfInBounds_toArray, List.set_cons_zero, List.set_cons_succ]
      refine wpAnyJ_takeL (i := 3) (d := some 20) (v := ?_) #[true, true, true, true, false, false, false, false, false] (by kernel_rfl) rfl rfl (by kernel_rfl) (by kernel_rfl) (by kernel_rfl) (by kernel_rfl) (by kernel_rfl) (fun _ _ _ h => h) (Or.inl ⟨by rfl, ?_⟩) hHeld ?_
      rotate_left
      · (intro w hSw; (try dsimp only at hSw);  go_simp; try with_reducible rfl)
      try simp only [Act.put, List.setIfInBounds_toArray, List.set_cons_zero, List.set_cons_succ]
      refine wpAnyJ_takeL (i := 4) (d := some 21) (v := ?_) #[true, true, true, true, true, false, false, false, false] (by kernel_rfl) rfl rfl (by kernel_rfl) (by kernel_rfl) (by kernel_rfl) (by kernel_rfl) (by kernel_rfl) (fun _ _ _ h => h) (Or.inl ⟨by rfl, ?_⟩) hHeld ?_
      rotate_left
      · (intro w hSw; (try dsimp only at hSw);  go_simp; try with_reducible rfl)
      try simp only [Act.put, List.setIfInBounds_toArray, List.set_cons_zero, List.set_cons_succ]
      refine wpAnyJ_takeL (i := 5) (d := some 22) (v := ?_) #[true, true, true, true, true, true, false, false, false] (by kernel_rfl) rfl rfl (by kernel_rfl) (by kernel_rfl) (by kernel_rfl) (by kernel_rfl) (by kernel_rfl) (fun _ _ _ h => h) (Or.inl ⟨by rfl, ?_⟩) hHeld ?_
      rotate_left
      · (intro w hSw; (try dsimp only at hSw);  go_simp; try with_reducible rfl)
      try simp only [Act.put, List.setIfInBounds_toArray, List.set_cons_zero, List.set_cons_succ]
      refine wpAnyJ_takeL (i := 6) (d := some 23) (v := ?_) #[true, true, true, true, true, true, true, false, false] (by kernel_rfl) rfl rfl (by kernel_rfl) (by kernel_rfl) (by kernel_rfl) (by kernel_rfl) (by kernel_rfl) (fun _ _ _ h => h) (Or.inl ⟨by rfl, ?_⟩) hHeld ?_
      rotate_left
      · (intro w hSw; (try dsimp only at hSw);  go_simp; try with_reducible rfl)
      try simp only [Act.put, List.setIfInBounds_toArray, List.set_cons_zero, List.set_cons_succ]
      refine wpAnyJ_takeL (i := 7) (d := some 24) (v := ?_) #[true, true, true, true, true, true, true, true, false] (by kernel_rfl) rfl rfl (by kernel_rfl) (by kernel_rfl) (by kernel_rfl) (by kernel_rfl) (by kernel_rfl) (fun _ _ _ h => h) (Or.inl ⟨by rfl, ?_⟩) hHeld ?_
      rotate_left
      · (intro w hSw; (try dsimp only at hSw);  go_simp; try with_reducible rfl)
      try simp only [Act.put, List.setIfInBounds_toArray, List.set_cons_zero, List.set_cons_succ]
      refine wpAnyJ_takeL (i := 8) (d := some 25) (v := ?_) #[true, true, true, true, true, true, true, true, true] (by kernel_rfl) rfl rfl (by kernel_rfl) (by kernel_rfl) (by kernel_rfl) (by kernel_rfl) (by kernel_rfl) (fun _ _ _ h => h) (Or.inl ⟨by rfl, ?_⟩) hHeld ?_
      rotate_left
      · (intro w hSw; (try dsimp only at hSw);  go_simp; try with_reducible rfl)
      try simp only [Act.put, List.setIfInBounds_toArray, List.set_cons_zero, List.set_cons_succ]
      refine wpAnyJ_done (by kernel_rfl) ?_ _
      clear hHeld
      by_cases hxy : x = y
      · subst hxy
        go_wp2_with fail
        go_roundg (n - (i + 1))
        case rel => exact ⟨i + 1, by go_num, by omega, rfl, hbl.out.drew, fun j hj => by
          rcases Nat.lt_succ_iff_lt_or_eq.1 hj with h | rfl
          · exact hok.out j h
          · rw [HX.out, HY.out]⟩
        case measure => omega
      · have q : (x != y) = true := by simpa using hxy
        have q2 : (x == y) = false := by simpa using hxy
        have HR : Hid (decide (l = m) = false) := decide_eq_false (fun e => hxy (by have := HX.out; rw [e, HY.out] at this; exact (Option.some.inj this).symm))
        clear hxy
        go_wp2_with fail
        go_ret
        exact ⟨ret_bool (by rw [HR.out]), hbl.out.drew⟩
    · obtain rfl : i = n := by omega
      have hii : decide (i < i) = false := by simp
      have HR : Hid (decide (l = m) = true) := decide_eq_true (by
        apply List.ext_getElem?
        intro j
        by_cases hj : j < i
        · exact hok.out j hj
        · rw [List.getElem?_eq_none (by rw [HLA.out]; omega), List.getElem?_eq_none (by rw [HLB.out]; omega)])
      go_wp2_with fail
      go_ret
      exact ⟨ret_bool (by rw [HR.out]), hbl.out⟩
set_option maxRecDepth 100000 in
set_option maxHeartbeats 4000000 in
theorem awake_any (w : World) (hl : Laid w) : Calls Tryd.prog 8 #[] w fun e w' => e = .returned (.bool true) ∧ Below w.heap.size w w' := by
  have HL := Lib.hid hl; clear hl
  go_enter Tryd.func8, Tryd.ntmps8
  go_wp2_with fail
  have HB : Hid (Below w.heap.size w ((((w.alloc (.cells #[.string ⟨#[65]⟩, .int .i64 0, .int .i64 0, .string ⟨#[66]⟩, .int .i64 0, .int .i64 0] 47)).alloc (.cells #[.string ⟨#[83]⟩, .int .i64 5, .int .i64 0, .int .i64 (-1), .int .i64 0, .string ⟨#[84]⟩, .int .i64 5, .int .i64 1, .int .i64 (-1), .int .i64 0, .string ⟨#[68]⟩, .int .i64 3, .int .i64 0, .int .i64 1, .int .i64 0] 38)).alloc (.cells #[.slice (some ⟨w.heap.size, 0, none⟩) 2 2, .slice (some ⟨w.heap.size + 1, 0, none⟩) 3 3] 30)).alloc (.cells #[.int .i64 2, .int .i64 2, .int .i64 1] 3))) := ((((Below.refl _ _).alloc (Nat.le_refl _) _).alloc (by simp) _).alloc (by simp <;> omega) _).alloc (by simp <;> omega) _
  have HN : Hid (Sl ((((w.alloc (.cells #[.string ⟨#[65]⟩, .int .i64 0, .int .i64 0, .string ⟨#[66]⟩, .int .i64 0, .int .i64 0] 47)).alloc (.cells #[.string ⟨#[83]⟩, .int .i64 5, .int .i64 0, .int .i64 (-1), .int .i64 0, .string ⟨#[84]⟩, .int .i64 5, .int .i64 1, .int .i64 (-1), .int .i64 0, .string ⟨#[68]⟩, .int .i64 3, .int .i64 0, .int .i64 1, .int .i64 0] 38)).alloc (.cells #[.slice (some ⟨w.heap.size, 0, none⟩) 2 2, .slice (some ⟨w.heap.size + 1, 0, none⟩) 3 3] 30)).alloc (.cells #[.int .i64 2, .int .i64 2, .int .i64 1] 3)) (w.heap.size + 1) 3 (some ⟨w.heap.size, 0, none⟩) 2 2 (nsA.flatMap Nd.cells)) :=
    ((((Sl.newest (w := w) (cs := #[.string ⟨#[65]⟩, .int .i64 0, .int .i64 0, .string ⟨#[66]⟩, .int .i64 0, .int .i64 0]) (T := 47) (fr := (0, 0)) (n := 2) (size := 3) rfl rfl (by decide)).alloc (by simp) _).alloc (by simp) _).alloc (by simp <;> omega) _)
  have HD : Hid (Sl ((((w.alloc (.cells #[.string ⟨#[65]⟩, .int .i64 0, .int .i64 0, .string ⟨#[66]⟩, .int .i64 0, .int .i64 0] 47)).alloc (.cells #[.string ⟨#[83]⟩, .int .i64 5, .int .i64 0, .int .i64 (-1), .int .i64 0, .string ⟨#[84]⟩, .int .i64 5, .int .i64 1, .int .i64 (-1), .int .i64 0, .string ⟨#[68]⟩, .int .i64 3, .int .i64 0, .int .i64 1, .int .i64 0] 38)).alloc (.cells #[.slice (some ⟨w.heap.size, 0, none⟩) 2 2, .slice (some ⟨w.heap.size + 1, 0, none⟩) 3 3] 30)).alloc (.cells #[.int .i64 2, .int .i64 2, .int .i64 1] 3)) (w.heap.size + 1 + 1) 5 (some ⟨w.heap.size + 1, 0, none⟩) 3 3 (dsA.flatMap Dv.cells)) :=
    (((Sl.newest (w := (w.alloc (.cells #[.string ⟨#[65]⟩, .int .i64 0, .int .i64 0, .string ⟨#[66]⟩, .int .i64 0, .int .i64 0] 47))) (cs := #[.string ⟨#[83]⟩, .int .i64 5, .int .i64 0, .int .i64 (-1), .int .i64 0, .string ⟨#[84]⟩, .int .i64 5, .int .i64 1, .int .i64 (-1), .int .i64 0, .string ⟨#[68]⟩, .int .i64 3, .int .i64 0, .int .i64 1, .int .i64 0]) (T := 38) (fr := (0, 0)) (n := 3) (size := 5) (by simp) rfl (by decide)).alloc (by simp) _).alloc (by simp) _)
  have HS : Hid (Sl ((((w.alloc (.cells #[.string ⟨#[65]⟩, .int .i64 0, .int .i64 0, .string ⟨#[66]⟩, .int .i64 0, .int .i64 0] 47)).alloc (.cells #[.string ⟨#[83]⟩, .int .i64 5, .int .i64 0, .int .i64 (-1), .int .i64 0, .string ⟨#[84]⟩, .int .i64 5, .int .i64 1, .int .i64 (-1), .int .i64 0, .string ⟨#[68]⟩, .int .i64 3, .int .i64 0, .int .i64 1, .int .i64 0] 38)).alloc (.cells #[.slice (some ⟨w.heap.size, 0, none⟩) 2 2, .slice (some ⟨w.heap.size + 1, 0, none⟩) 3 3] 30)).alloc (.cells #[.int .i64 2, .int .i64 2, .int .i64 1] 3)) (w.heap.size + 1 + 1 + 1 + 1) 1 (some ⟨w.heap.size + 1 + 1 + 1, 0, none⟩) 3 3 (intsV [2, 2, 1])) :=
    Sl.newest (w := (((w.alloc (.cells #[.string ⟨#[65]⟩, .int .i64 0, .int .i64 0, .string ⟨#[66]⟩, .int .i64 0, .int .i64 0] 47)).alloc (.cells #[.string ⟨#[83]⟩, .int .i64 5, .int .i64 0, .int .i64 (-1), .int .i64 0, .string ⟨#[84]⟩, .int .i64 5, .int .i64 1, .int .i64 (-1), .int .i64 0, .string ⟨#[68]⟩, .int .i64 3, .int .i64 0, .int .i64 1, .int .i64 0] 38)).alloc (.cells #[.slice (some ⟨w.heap.size, 0, none⟩) 2 2, .slice (some ⟨w.heap.size + 1, 0, none⟩) 3 3] 30))) (cs := #[.int .i64 2, .int .i64 2, .int .i64 1]) (T := 3) (fr := (0, 0)) (n := 3) (size := 1) (by simp) rfl (by decide)
  have HK : Hid (Blk ((((w.alloc (.cells #[.string ⟨#[65]⟩, .int .i64 0, .int .i64 0, .string ⟨#[66]⟩, .int .i64 0, .int .i64 0] 47)).alloc (.cells #[.string ⟨#[83]⟩, .int .i64 5, .int .i64 0, .int .i64 (-1), .int .i64 0, .string ⟨#[84]⟩, .int .i64 5, .int .i64 1, .int .i64 (-1), .int .i64 0, .string ⟨#[68]⟩, .int .i64 3, .int .i64 0, .int .i64 1, .int .i64 0] 38)).alloc (.cells #[.slice (some ⟨w.heap.size, 0, none⟩) 2 2, .slice (some ⟨w.heap.size + 1, 0, none⟩) 3 3] 30)).alloc (.cells #[.int .i64 2, .int .i64 2, .int .i64 1] 3)) (w.heap.size + 1 + 1) 30 #[.slice (some ⟨w.heap.size, 0, none⟩) 2 2, .slice (some ⟨w.heap.size + 1, 0, none⟩) 3 3]) := by
    have := Blk.new ((w.alloc (.cells #[.string ⟨#[65]⟩, .int .i64 0, .int .i64 0, .string ⟨#[66]⟩, .int .i64 0, .int .i64 0] 47)).alloc (.cells #[.string ⟨#[83]⟩, .int .i64 5, .int .i64 0, .int .i64 (-1), .int .i64 0, .string ⟨#[84]⟩, .int .i64 5, .int .i64 1, .int .i64 (-1), .int .i64 0, .string ⟨#[68]⟩, .int .i64 3, .int .i64 0, .int .i64 1, .int .i64 0] 38)) 30 #[.slice (some ⟨w.heap.size, 0, none⟩) 2 2, .slice (some ⟨w.heap.size + 1, 0, none⟩) 3 3]
    simp only [World.size_alloc] at this
    exact this.alloc _
  have hz : w.heap.size + 4 ≤ ((((w.alloc (.cells #[.string ⟨#[65]⟩, .int .i64 0, .int .i64 0, .string ⟨#[66]⟩, .int .i64 0, .int .i64 0] 47)).alloc (.cells #[.string ⟨#[83]⟩, .int .i64 5, .int .i64 0, .int .i64 (-1), .int .i64 0, .string ⟨#[84]⟩, .int .i64 5, .int .i64 1, .int .i64 (-1), .int .i64 0, .string ⟨#[68]⟩, .int .i64 3, .int .i64 0, .int .i64 1, .int .i64 0] 38)).alloc (.cells #[.slice (some ⟨w.heap.size, 0, none⟩) 2 2, .slice (some ⟨w.heap.size + 1, 0, none⟩) 3 3] 30)).alloc (.cells #[.int .i64 2, .int .i64 2, .int .i64 1] 3)).heap.size := by simp
  generalize World.alloc (World.alloc (World.alloc (World.alloc _ _) _) _) _ = W1 at *
  have HNS : Hid ((∀ x ∈ nsA, x.name.size ≤ 9223372036854775807) ∧ (∀ x ∈ dsA, x.name.size ≤ 9223372036854775807)) := by
    unfold Hid; constructor <;> intro x hx <;> simp [nsA, dsA] at hx <;> rcases hx with rfl | hx <;> first | decide | (rcases hx with rfl | rfl <;> decide) | (subst hx; decide)
  have HC := Lib.hid (Of_ok (some ⟨w.heap.size, 0, none⟩) (some ⟨w.heap.size + 1, 0, none⟩) (some ⟨w.heap.size + 1 + 1 + 1, 0, none⟩) 2 2 3 3 3 3 (w.heap.size + 1) (w.heap.size + 1 + 1) (w.heap.size + 1 + 1 + 1 + 1) 2 nsA dsA [2, 2, 1] ⟨⟨#[68]⟩, 3, 0, 1, 0⟩ W1 (HL.out.below HB.out (Nat.le_refl _)) HN.out (by omega) HD.out (by omega) HS.out (by omega) HNS.out.1 HNS.out.2 stateA1 (by decide) (by decide) (by decide) (by decide) rfl endsA.1 endsA.2)
  rw [dutyA1] at HC
  refine HC.out.mono ?_
  rintro e w2 ⟨rfl, hb2⟩
  have HB2 := Lib.hid (HB.out.trans (hb2.mono HB.out.size))
  have HK2 := Lib.hid (HK.out.below hb2 HK.out.lt)
  have HN2 := Lib.hid (HN.out.below hb2 (by omega))
  have HD2 := Lib.hid (HD.out.below hb2 (by omega))
  have hz2 := Nat.le_trans hz hb2.size
  clear hb2 HC HB HK HN HD HS
  have k0 : w2.cell? ⟨w.heap.size + 1 + 1, 0, none⟩ = some (.slice (some ⟨w.heap.size, 0, none⟩) 2 2) := HK2.out.cell 0
  have k1 : w2.cell? ⟨w.heap.size + 1 + 1, 1, none⟩ = some (.slice (some ⟨w.heap.size + 1, 0, none⟩) 3 3) := HK2.out.cell 1
  go_wp2_with fail
  clear k0 k1
  have HS3 : Hid (Sl (w2.alloc (.cells #[.int .i64 2, .int .i64 1, .int .i64 2] 3)) (w2.heap.size + 1) 1 (some ⟨w2.heap.size, 0, none⟩) 3 3 (intsV [2, 1, 2])) := Sl.newest (n := 3) (size := 1) rfl rfl (by decide)
  have hal : Below w2.heap.size w2 (w2.alloc (.cells #[.int .i64 2, .int .i64 1, .int .i64 2] 3)) := (Below.refl _ _).alloc (Nat.le_refl _) _
  have HZ3 : Hid ((w2.alloc (.cells #[.int .i64 2, .int .i64 1, .int .i64 2] 3)).heap.size = w2.heap.size + 1) := by unfold Hid; simp
  generalize World.alloc _ _ = w3 at *
  have HB3 := Lib.hid (HB2.out.trans (hal.mono HB2.out.size))
  have hz3 := HZ3.out
  have HC := Lib.hid (Of_ok (some ⟨w.heap.size, 0, none⟩) (some ⟨w.heap.size + 1, 0, none⟩) (some ⟨w2.heap.size, 0, none⟩) 2 2 3 3 3 3 (w.heap.size + 1) (w.heap.size + 1 + 1) (w2.heap.size + 1) 2 nsA dsA [2, 1, 2] ⟨⟨#[68]⟩, 3, 0, 1, 0⟩ w3 (HL.out.below HB3.out (Nat.le_refl _)) (HN2.out.below hal (by omega)) (by omega) (HD2.out.below hal (by omega)) (by omega) HS3.out (by omega) HNS.out.1 HNS.out.2 stateA2 (by decide) (by decide) (by decide) (by decide) rfl endsA.1 endsA.2)
  rw [dutyA2] at HC
  clear hz3
  refine HC.out.mono ?_
  rintro e w4 ⟨rfl, hb4⟩
  have HB4 := Lib.hid (HB3.out.trans (hb4.mono HB3.out.size))
  clear hb4 HC HB3 HB2 HK2 HN2 HD2 HS3 hal HZ3
  go_wp2_with fail
  have HSA : Hid (Sl (w4.alloc (.cells #[.int .i64 1, .int .i64 2] 3)) (w4.heap.size + 1) 1 (some ⟨w4.heap.size, 0, none⟩) 2 2 (intsV [1, 2])) := Sl.newest (n := 2) (size := 1) rfl rfl (by decide)
  have HB5 := Lib.hid (HB4.out.alloc HB4.out.size (.cells #[.int .i64 1, .int .i64 2] 3))
  have hz5 : (w4.alloc (.cells #[.int .i64 1, .int .i64 2] 3)).heap.size = w4.heap.size + 1 := by simp
  have HZ5 := Lib.hid hz5; clear hz5
  generalize World.alloc _ _ = w5 at *
  refine (with_any (some ⟨w4.heap.size, 0, none⟩) 2 2 (w4.heap.size + 1) [1, 2] 0 2 w5 HSA.out (by have := HZ5.out; omega) (by decide)).mono ?_
  rintro e w6 ⟨A6, c6, rfl, hO6, hb6⟩
  have HB6 := Lib.hid (HB5.out.trans (hb6.out.mono HB5.out.size))
  clear HSA HB5 HZ5 HB4 hb6
  go_wp2_with fail
  have HSB : Hid (Sl (w6.alloc (.cells #[.int .i64 2, .int .i64 2] 3)) (w6.heap.size + 1) 1 (some ⟨w6.heap.size, 0, none⟩) 2 2 (intsV [2, 2])) := Sl.newest (n := 2) (size := 1) rfl rfl (by decide)
  have HSW := Lib.hid (hO6.out.sl.alloc (Nat.le_refl _) (.cells #[.int .i64 2, .int .i64 2] 3))
  have HB7 := Lib.hid (HB6.out.alloc HB6.out.size (.cells #[.int .i64 2, .int .i64 2] 3))
  have hz7 : (w6.alloc (.cells #[.int .i64 2, .int .i64 2] 3)).heap.size = w6.heap.size + 1 := by simp
  have HZ7 := Lib.hid hz7; clear hz7 hO6
  generalize World.alloc _ _ = w7 at *
  have HC := Lib.hid (ints_any A6 (some ⟨w6.heap.size, 0, none⟩) (withL [1, 2] 0 2).length c6 2 2 w6.heap.size (w6.heap.size + 1) (withL [1, 2] 0 2) [2, 2] w7 HSW.out HSB.out (by have := HZ7.out; omega) (by have := HZ7.out; omega))
  rw [show decide (withL [1, 2] 0 2 = [2, 2]) = true from by decide] at HC
  refine HC.out.mono ?_
  rintro e w8 ⟨rfl, hb8⟩
  have HB8 := Lib.hid (HB7.out.trans (hb8.mono HB7.out.size))
  clear HC hb8 HB7 HSW HSB HB6 HZ7
  go_wp2_with fail
  go_ret
  exact ⟨rfl, HB8.out⟩
end Go.Proofs.YtddjifkmaogpiaaDoor
