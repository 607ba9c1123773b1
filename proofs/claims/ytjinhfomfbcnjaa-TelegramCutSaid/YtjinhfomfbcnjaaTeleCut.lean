/-
  Walk of TelegramCut: no beginning of a frame is a telegram, bytes behind it are refused, a stream that ends within a frame has those before it.
-/
import Derived.Test.YtjinhfomfbcnjaaTeleSc
import Derived.Test.YtjinhfomfbcnjaaTeleRep
import Derived.Test.YtjinhfomfbcnjaaOrd
import Derived.OpenShut
namespace Go.Proofs.Ytjinhfomfbcnjaa
open Go.RowKit
attribute [local go_sem ↓] Go.wp_at_zero Go.wp_at_succ

theorem cut_err {st sq : Int} {l : List Item} (h : checkT st sq l = 0) {k : Nat} (hk : k < (frameT st sq l).length) : decErr ((frameT st sq l).take k) = 13 := by
  have hlen := frame_len st sq l
  have hl : ((frameT st sq l).take k).length = k := by rw [List.length_take]; omega
  unfold decErr
  by_cases h6 : k < 6
  · rw [if_pos (by omega)]
  have hs := frame_size h []
  rw [List.append_nil] at hs
  have e : sizeT ((frameT st sq l).take k) = sizeT (frameT st sq l) := by
    have e0 : ∀ j, j < k → ((frameT st sq l).take k).getD j 0 = (frameT st sq l).getD j 0 := fun j hj => by
      rw [List.getD_eq_getElem?_getD, List.getD_eq_getElem?_getD, List.getElem?_take_of_lt hj]
    unfold sizeT
    rw [e0 0 (by omega), e0 3 (by omega), hl, if_neg h6, if_neg (show ¬ (frameT st sq l).length < 6 by omega)]
  rw [if_neg (by omega), e, hs, if_neg (by omega), if_pos (by omega)]
theorem more_err {st sq : Int} {l : List Item} (h : checkT st sq l = 0) (x : UInt8) : decErr (frameT st sq l ++ [x]) = 14 := by
  have hlen := frame_len st sq l
  have hs := frame_size h [x]
  unfold decErr
  rw [hs, List.length_append, hlen, if_neg (by omega), if_neg (by omega), if_neg (by simp), if_pos (by simp)]
theorem below_of_new {a b : World} {B : Nat} (h : a.grownBy b none) (hB : B ≤ a.heap.size) : Below B a b := ⟨h.os, h.tape, h.output, h.size, fun i hi => h.block i (by omega) (fun e => by cases e)⟩
theorem encT_ok {st sq : Int} {l : List Item} (h : checkT st sq l = 0) : encT st sq l = frameT st sq l := by rw [encT, if_pos h]

set_option maxRecDepth 100000 in
set_option maxHeartbeats 4000000 in
theorem walk_TelegramCut (w : World) (A : Option Addr) (n c : Nat) (z : List Int) (hz : Sl w w.heap.size 1 A n c (intsV z)) (_ : ∀ x ∈ z, (Lit.int .i64 x).wf = true) (at_ : Int) (wa : (Lit.int .u16 at_).wf = true) :
    Calls Try.prog 7 #[.slice A n c, .int .u16 at_] w fun e w' => e = .returned (.bool true) ∧ Below w.heap.size w w' := by
  obtain ⟨hnc, hcm⟩ := hz.le
  have HZ := Lib.hid hz; clear hz
  obtain ⟨ha0, ha1⟩ := bounds_u16 wa
  clear wa
  obtain ⟨a, rfl⟩ := Int.eq_ofNat_of_zero_le ha0
  by_cases hf : n ≤ 400; rotate_left
  · have hf' : decide (n ≤ 400) = false := by simpa using hf
    clear hf
    go_enter Try.func7, Try.ntmps7
    go_wp2_with fail
    refine (few_any A n c w (by omega)).mono ?_
    rintro e w1 ⟨rfl, rfl⟩
    go_wp2_with fail
    refine (awake_any _).mono ?_
    rintro e w1 ⟨rfl, hb⟩
    go_wp2_with fail
    go_ret
    exact ⟨rfl, hb⟩
  have hf' : decide (n ≤ 400) = true := by simpa using hf
  go_enter Try.func7, Try.ntmps7
  go_wp2_with fail
  refine (few_any A n c w (by omega)).mono ?_
  rintro e w1 ⟨rfl, rfl⟩
  go_wp2_with fail
  refine (new_any A n c w.heap.size z w HZ.out (Nat.le_refl _)).mono ?_
  rintro e w1 ⟨rfl, hd1, hb1, hs1⟩
  go_wp2_with fail
  refine (telegram_any w.heap.size 4 w1 hd1.out (by decide)).mono ?_
  rintro e w2 ⟨st, sq, Ai, ni, ci, l, rfl, hst0, hst1, hsq0, hsq1, hn4, hok, hown, hd2, hg2⟩
  have HOW := Lib.hid hown; have HG2 := Lib.hid hg2; have HD2 := Lib.hid hd2
  have HL := Lib.hid ((Sl.of_own hown).len (fun _ => rfl) (by decide))
  have HCH := Lib.hid (checkT_ok hst0 hst1 hsq0 hsq1 (by rw [HL.out]; omega) hok)
  clear hown hg2 hd2 hok
  go_wp2_with fail
  refine (telegram_any w.heap.size 4 w2 HD2.out (by decide)).mono ?_
  rintro e w3 ⟨st', sq', Ai', ni', ci', l', rfl, hst0', hst1', hsq0', hsq1', hn4', hok', hown', hd3, hg3⟩
  have HL' := Lib.hid ((Sl.of_own hown').len (fun _ => rfl) (by decide))
  have HCH' := Lib.hid (checkT_ok hst0' hst1' hsq0' hsq1' (by rw [HL'.out]; omega) hok')
  have hlt1 : w.heap.size < w1.heap.size := by rw [hs1.out]; omega
  have HS1 := Lib.hid (Sl.of_own (HOW.out.kept hg3 (by
    cases hv : (Value.slice Ai ni ci).ownBlock with
    | none => exact .inl rfl
    | some b => exact .inr fun e => by have := (HOW.out.lt b hv).1; injection e with e; omega)))
  have HS2 := Lib.hid (Sl.of_own hown')
  have HB3 : Hid (Below w.heap.size w w3) := (hb1.out.trans (below_of_grown HG2.out (Nat.le_refl _) hb1.out.size)).trans (below_of_grown hg3 (Nat.le_refl _) (Nat.le_trans hb1.out.size HG2.out.size))
  have hsz3 := HB3.out.size
  clear hown' hg3 hd3 hok' HOW HG2 HD2 hd1 hb1 hs1 hst0 hst1 hsq0 hsq1 hst0' hst1' hsq0' hsq1' hlt1
  go_wp2_with fail
  generalize hW : (w3.alloc (.cells #[.int .i64 st, .int .i64 sq, .slice Ai ni ci] 31)).alloc (.cells #[.int .i64 st', .int .i64 sq', .slice Ai' ni' ci'] 31) = W
  have HK1 : Hid (Blk W w3.heap.size 31 #[.int .i64 st, .int .i64 sq, .slice Ai ni ci]) := hW ▸ (Blk.new _ _ _).alloc _
  have HK2 : Hid (Blk W (w3.heap.size + 1) 31 #[.int .i64 st', .int .i64 sq', .slice Ai' ni' ci']) := by
    have := Blk.new (w3.alloc (.cells #[.int .i64 st, .int .i64 sq, .slice Ai ni ci] 31)) 31 #[.int .i64 st', .int .i64 sq', .slice Ai' ni' ci']
    rw [hW] at this
    unfold Hid
    simpa using this
  have hBW : Below w3.heap.size w3 W := hW ▸ ((Below.refl _ _).alloc (Nat.le_refl _) _).alloc (by simp) _
  have hWs : w3.heap.size + 2 ≤ W.heap.size := by rw [← hW]; simp
  clear hW
  replace HS1 := Lib.hid (HS1.out.below hBW (Nat.le_refl _))
  replace HS2 := Lib.hid (HS2.out.below hBW (Nat.le_refl _))
  have HBW := Lib.hid (HB3.out.trans (hBW.mono hsz3))
  clear hBW HB3
  refine (encode_any st sq Ai ni ci w3.heap.size l W HS1.out (by omega)).mono ?_
  rintro e w4 ⟨A4, c4, rfl, ho4, hb4⟩
  rw [encT_ok HCH.out] at ho4 ⊢
  rw [HCH.out]
  have hz4 := hb4.size
  have hf4 : (frameT st sq l).length = 6 + 5 * ni := by rw [frame_len, HL.out]
  have HF4 := Lib.hid hf4; clear hf4
  rw [HF4.out] at ho4 ⊢
  have HO4 := Lib.hid (Sl.of_own ho4)
  have HB4 := Lib.hid hb4
  have d0 : w4.cell? ⟨w3.heap.size + 1, 0, none⟩ = some (.int .i64 st') := (HK2.out.below hb4 HK2.out.lt).cell 0
  have d1 : w4.cell? ⟨w3.heap.size + 1, 1, none⟩ = some (.int .i64 sq') := (HK2.out.below hb4 HK2.out.lt).cell 1
  have d2 : w4.cell? ⟨w3.heap.size + 1, 2, none⟩ = some (.slice Ai' ni' ci') := (HK2.out.below hb4 HK2.out.lt).cell 2
  clear ho4 hb4
  go_wp2_with fail
  refine (encode_any st' sq' Ai' ni' ci' w3.heap.size l' w4 (HS2.out.below HB4.out (by omega)) (by omega)).mono ?_
  rintro e w5 ⟨A5, c5, rfl, ho5, hb5⟩
  rw [encT_ok HCH'.out] at ho5 ⊢
  rw [HCH'.out]
  have hz5 := hb5.size
  have hf5 : (frameT st' sq' l').length = 6 + 5 * ni' := by rw [frame_len, HL'.out]
  have HF5 := Lib.hid hf5; clear hf5
  rw [HF5.out] at ho5 ⊢
  have HO5 := Lib.hid (Sl.of_own ho5)
  have HB5 := Lib.hid (HB4.out.trans (hb5.mono hz4))
  replace HO4 := Lib.hid (HO4.out.below hb5 (Nat.le_refl _))
  clear ho5 hb5 d0 d1 d2 HB4 HK2
  have q6 : decide (((6 + 5 * ni' : Nat) : Int) < 6) = false := by simp; omega
  have q60 : (((6 + 5 * ni' : Nat) : Int) == 0) = false := by simp; omega
  have hk1 := Nat.mod_lt a (show 6 + 5 * ni' > 0 by omega)
  obtain ⟨k, hk⟩ : ∃ k, a % (6 + 5 * ni') = k := ⟨_, rfl⟩
  have hkm : ((a : Int) % ((6 + 5 * ni' : Nat) : Int)) = (k : Int) := by rw [← hk]; omega
  rw [hk] at hk1
  clear hk
  obtain ⟨L', hL'⟩ : ∃ L', 6 + 5 * ni' = L' := ⟨_, rfl⟩
  obtain ⟨L, hL⟩ : ∃ L, 6 + 5 * ni = L := ⟨_, rfl⟩
  have hLb : L' ≤ 26 := by omega
  have hLb6 : 6 ≤ L' := by omega
  have hLa : L ≤ 26 := by omega
  rw [hL'] at HF5 HO5 q6 q60 hk1 hkm ⊢
  rw [hL] at HF4 HO4 ⊢
  clear hL hL'
  obtain ⟨hc5, hc5m⟩ := HO5.out.le
  obtain ⟨hc4, hc4m⟩ := HO4.out.le
  go_wp2_with fail
  refine (decode_any A5 k c5 w5.heap.size ((frameT st' sq' l').take k) w5 (HO5.out.upto (by omega)) (Nat.le_refl _)).mono ?_
  rintro e w6 ⟨A6, c6, rfl, ho6, hb6⟩
  have e6 : decErr ((frameT st' sq' l').take k) = 13 := cut_err HCH'.out (by rw [HF5.out]; exact hk1)
  rw [e6]
  have HB6 := Lib.hid (HB5.out.trans (hb6.mono (Nat.le_trans hz4 hz5)))
  replace HO4 := Lib.hid (HO4.out.below hb6 hz5)
  replace HO5 := Lib.hid (HO5.out.below hb6 (Nat.le_refl _))
  have hz6 := hb6.size
  generalize decSt ((frameT st' sq' l').take k) = xs1
  generalize decSq ((frameT st' sq' l').take k) = xs2
  generalize (decL ((frameT st' sq' l').take k)).length = xs3
  clear ho6 hb6 e6 HB5
  go_wp2_with (at_builtin; first
    | (refine wpList_app rfl (.const (.slice none 0 0)) (.tmp 63) rfl el_u8 (by rfl) (World.ownsRow_nil _ w6.heap.size _ _) (by rfl) (HO5.out.alloc (by omega) _) (bytesV_one _) (by omega) (by omega) (by simp) ?_; intro A7 c7 w7 ho7 hg7 hat7; rw [Nat.zero_add, List.nil_append] at ho7; rw [Nat.zero_add]; have HO7 := Lib.hid ho7; have HB7 := Lib.hid ((HB6.out.alloc (Nat.le_trans hz4 (Nat.le_trans hz5 hz6)) _).trans (below_of_new hg7 (by simp; omega))); have HG7 := Lib.hid ((Below.refl w6.heap.size w6).alloc (Nat.le_refl _) (.cells #[.int .i64 xs1, .int .i64 xs2, .slice A6 xs3 c6] 31) |>.trans (below_of_new hg7 (by simp))); clear ho7 hg7 hat7)
    | (refine wpList_app rfl (.tmp 64) (.tmp 65) rfl el_u8 (by rfl) (HO7.out.alloc _) (by rfl) (Sl.newest (n := 1) rfl (by rfl) (by decide)) (by simp [Value.oneCell']) (by omega) (by omega) (by simp; have := HG7.out.size; omega) ?_; intro A8 c8 w8 ho8 hg8 hat8; have HO8 := Lib.hid (Sl.of_own ho8); have HG8 := Lib.hid ((HG7.out.alloc HG7.out.size _).grown hg8 (by simp; have := HG7.out.size; omega) fun g hg => (HO7.out.lt g hg).1); clear ho8 hg8 hat8))
  have e8 : bytesV (frameT st' sq' l') ++ [Value.int .u8 0] = bytesV (frameT st' sq' l' ++ [0]) := by rw [bytesV_append]; rfl
  replace HO8 : Hid (Sl w8 w8.heap.size 1 A8 (L' + 1) c8 (bytesV (frameT st' sq' l' ++ [0]))) := by unfold Hid; rw [← e8]; exact HO8.out
  clear e8
  have hz8 := HG8.out.size
  refine (decode_any A8 (L' + 1) c8 w8.heap.size (frameT st' sq' l' ++ [0]) w8 HO8.out (Nat.le_refl _)).mono ?_
  rintro e w9 ⟨A9, c9, rfl, ho9, hb9⟩
  rw [more_err HCH'.out]
  have HB9 := Lib.hid (HG8.out.trans (hb9.mono hz8))
  have hz9 := hb9.size
  generalize decSt (frameT st' sq' l' ++ [0]) = ys1
  generalize decSq (frameT st' sq' l' ++ [0]) = ys2
  generalize (decL (frameT st' sq' l' ++ [0])).length = ys3
  clear ho9 hb9 HO8 HG8 HB7 HG7 HO7
  go_wp2_with fail
  generalize hW9 : w9.alloc (.cells #[.int .i64 ys1, .int .i64 ys2, .slice A9 ys3 c9] 31) = W9
  have hB9 : Below w6.heap.size w6 W9 := hW9 ▸ HB9.out.alloc (by omega) _
  have hz9' : w6.heap.size ≤ W9.heap.size := hB9.size
  clear hW9
  replace HO4 := Lib.hid (HO4.out.below hB9 (by omega))
  replace HO5 := Lib.hid ((HO5.out.below hB9 hz6).upto (k := k) (by omega))
  have HBX := Lib.hid (HB6.out.trans (hB9.mono (by omega)))
  clear hB9 HB9 HB6
  have hkc : (k : Int) ≤ (c5 : Int) := by omega
  have hLL : L + k ≤ 1000000000 := by omega
  go_region_law
    (first
      | (refine step_app (by rfl) (.const (.slice none 0 0)) (.tmp 71) (by rfl) el_u8 (by rfl) (World.ownsRow_nil _ W9.heap.size _ _) (by rfl) (HO4.out.drew) (bytesV_one _) (by omega) (by omega) (by simp) ?_; intro A10 c10 w10 ho10 hg10 hat10; rw [Nat.zero_add, List.nil_append] at ho10; rw [Nat.zero_add]; have HO10 := Lib.hid ho10; have HG10 := Lib.hid (below_of_new (B := W9.heap.size) hg10 (by simp)); clear ho10 hg10 hat10)
      | (refine step_app (by rfl) (.tmp 72) (.tmp 75) (by rfl) el_u8 (by rfl) HO10.out (by rfl) (HO5.out.drew.below HG10.out (by omega)) (bytesV_one _) (by omega) (by omega) (by have := HG10.out.size; simp at this; omega) ?_; intro A11 c11 w11 ho11 hg11 hat11; have HO11 := Lib.hid (Sl.of_own ho11); have HG11 := Lib.hid (HG10.out.grown hg11 (by have := HG10.out.size; simp at this; omega) fun g hg => (HO10.out.lt g hg).1); clear ho11 hg11 hat11)
      | (go_simp; go_at_call 20; refine (scan_any A11 (L + k) c11 w11.heap.size (frameT st sq l ++ (frameT st' sq' l').take k) w11 (by rw [bytesV_append]; exact HO11.out) (Nat.le_refl _) hLL).mono ?_; rintro e w12 ⟨A12, c12, rfl, ho12, hb12⟩))
  rw [scan_frame HCH.out] at ho12 ⊢
  obtain ⟨m, hm⟩ : ∃ m, (scanT ((frameT st' sq' l').take k)).1.length = m := ⟨_, rfl⟩
  simp only [List.length_cons, hm] at ho12 ⊢
  generalize (scanT ((frameT st' sq' l').take k)).2 = pz
  obtain ⟨b12, r, t, rfl, hb12l, ht, hr1, hr2, hr3, k0, k1, k2⟩ := ho12.at (k := 0) (by omega)
  have hz12 := hb12.size
  have hz11 := HG11.out.size
  simp only [List.getElem?_cons_zero, Option.some.injEq] at ht
  subst ht
  simp only at hr1 hr2 hr3
  rw [hr1] at k0
  rw [hr2] at k1
  simp only [Nat.zero_mul, Nat.zero_add] at k0 k1 k2
  have HBZ := Lib.hid ((HBX.out.drew.trans (HG11.out.mono (by have := HBX.out.size; omega))).trans (hb12.mono (by have := HBX.out.size; have : W9.drew.heap.size = W9.heap.size := rfl; omega)))
  have hzz := HBZ.out.size
  have j0 : w12.cell? ⟨w3.heap.size, 0, none⟩ = some (.int .i64 st) := (HK1.out.below HBZ.out HK1.out.lt).cell 0
  have j1 : w12.cell? ⟨w3.heap.size, 1, none⟩ = some (.int .i64 sq) := (HK1.out.below HBZ.out HK1.out.lt).cell 1
  have j2 : w12.cell? ⟨w3.heap.size, 2, none⟩ = some (.slice Ai ni ci) := (HK1.out.below HBZ.out HK1.out.lt).cell 2
  have HR3 := Lib.hid hr3
  have HS1' := Lib.hid (HS1.out.below HBZ.out (by omega))
  have hw3 : w3.heap.size < w12.heap.size := by omega
  clear hm hr1 hr2 hr3 ho12 hb12 HO11 HG11 HO10 HG10 HO4 HO5 hz11 HBX
  obtain ⟨M, hM⟩ : ∃ M, m + 1 = M := ⟨_, rfl⟩
  have q1 : decide ((1 : Int) ≤ (M : Int)) = true := by simp; omega
  have q2 : (0 : Int) < (M : Int) := by omega
  have q3 : 0 < M := by omega
  simp only [hM]
  clear hM
  go_wp2
  simp only [List.getElem_toArray, List.getElem_cons_zero, List.getElem_cons_succ, Act.put, List.setIfInBounds_toArray, List.set_cons_zero, List.set_cons_succ]
  refine wp_region_J (S := (fun w' => w'.cell? ⟨b12, 0, none⟩ = some (.int .i64 st) ∧ w'.cell? ⟨b12, 1, none⟩ = some (.int .i64 sq) ∧ w'.cell? ⟨b12, 2, none⟩ = some (.slice r.A r.n r.c) ∧ w'.cell? ⟨w3.heap.size, 0, none⟩ = some (.int .i64 st) ∧ w'.cell? ⟨w3.heap.size, 1, none⟩ = some (.int .i64 sq) ∧ w'.cell? ⟨w3.heap.size, 2, none⟩ = some (.slice Ai ni ci))) (J := []) (by kernel_rfl) ?_ (fun hHeld => ?_)
  · exact ⟨k0, k1, k2, j0, j1, j2⟩
  try dsimp only at hHeld
  refine wpAnyJ_take (i := 0) (d := some 80) (v := ?_) rfl rfl (by kernel_rfl) (by kernel_rfl) (by kernel_rfl) (by kernel_rfl) (by kernel_rfl) (fun _ _ _ h => h) (Or.inl ⟨by rfl, ?_⟩) hHeld ?_
  rotate_left
  · (intro w hSw; (try dsimp only at hSw); go_simp; try with_reducible rfl)
  try simp only [Act.put, List.setIfInBounds_toArray, List.set_cons_zero, List.set_cons_succ]
  refine wpAnyJ_take (i := 1) (d := some 81) (v := ?_) rfl rfl (by kernel_rfl) (by kernel_rfl) (by kernel_rfl) (by kernel_rfl) (by kernel_rfl) (fun _ _ _ h => h) (Or.inl ⟨by rfl, ?_⟩) hHeld ?_
  rotate_left
  · (intro w hSw; (try dsimp only at hSw); go_simp; try with_reducible rfl)
  try simp only [Act.put, List.setIfInBounds_toArray, List.set_cons_zero, List.set_cons_succ]
  refine wpAnyJ_take (i := 2) (d := some 82) (v := ?_) rfl rfl (by kernel_rfl) (by kernel_rfl) (by kernel_rfl) (by kernel_rfl) (by kernel_rfl) (fun _ _ _ h => h) (Or.inl ⟨by rfl, ?_⟩) hHeld ?_
  rotate_left
  · (intro w hSw; (try dsimp only at hSw); go_simp; try with_reducible rfl)
  try simp only [Act.put, List.setIfInBounds_toArray, List.set_cons_zero, List.set_cons_succ]
  refine wpAnyJ_take (i := 3) (d := some 83) (v := undef) rfl rfl (by kernel_rfl) (by kernel_rfl) (by kernel_rfl) (by kernel_rfl) (by kernel_rfl) (fun _ _ _ h => h) (Or.inr ⟨by rfl, by rfl⟩) hHeld ?_
  try simp only [Act.put, List.setIfInBounds_toArray, List.set_cons_zero, List.set_cons_succ]
  refine wpAnyJ_take (i := 4) (d := some 84) (v := undef) rfl rfl (by kernel_rfl) (by kernel_rfl) (by kernel_rfl) (by kernel_rfl) (by kernel_rfl) (fun _ _ _ h => h) (Or.inr ⟨by rfl, by rfl⟩) hHeld ?_
  try simp only [Act.put, List.setIfInBounds_toArray, List.set_cons_zero, List.set_cons_succ]
  refine wpAnyJ_take (i := 5) (d := some 85) (v := ?_) rfl rfl (by kernel_rfl) (by kernel_rfl) (by kernel_rfl) (by kernel_rfl) (by kernel_rfl) (fun _ _ _ h => h) (Or.inl ⟨by rfl, ?_⟩) hHeld ?_
  rotate_left
  · (intro w hSw; (try dsimp only at hSw); go_simp; try with_reducible rfl)
  try simp only [Act.put, List.setIfInBounds_toArray, List.set_cons_zero, List.set_cons_succ]
  refine wpAnyJ_take (i := 6) (d := some 86) (v := ?_) rfl rfl (by kernel_rfl) (by kernel_rfl) (by kernel_rfl) (by kernel_rfl) (by kernel_rfl) (fun _ _ _ h => h) (Or.inl ⟨by rfl, ?_⟩) hHeld ?_
  rotate_left
  · (intro w hSw; (try dsimp only at hSw); go_simp; try with_reducible rfl)
  try simp only [Act.put, List.setIfInBounds_toArray, List.set_cons_zero, List.set_cons_succ]
  refine wpAnyJ_take (i := 7) (d := some 87) (v := ?_) rfl rfl (by kernel_rfl) (by kernel_rfl) (by kernel_rfl) (by kernel_rfl) (by kernel_rfl) (fun _ _ _ h => h) (Or.inl ⟨by rfl, ?_⟩) hHeld ?_
  rotate_left
  · (intro w hSw; (try dsimp only at hSw); go_simp; try with_reducible rfl)
  try simp only [Act.put, List.setIfInBounds_toArray, List.set_cons_zero, List.set_cons_succ]
  refine wpAnyJ_take (i := 8) (d := some 88) (v := ?_) rfl rfl (by kernel_rfl) (by kernel_rfl) (by kernel_rfl) (by kernel_rfl) (by kernel_rfl) (fun _ _ _ h => h) (Or.inl ⟨by rfl, ?_⟩) hHeld ?_
  rotate_left
  · (intro w hSw; (try dsimp only at hSw); go_simp; try with_reducible rfl)
  try simp only [Act.put, List.setIfInBounds_toArray, List.set_cons_zero, List.set_cons_succ]
  refine wpAnyJ_take (i := 9) (d := some 89) (v := ?_) rfl rfl (by kernel_rfl) (by kernel_rfl) (by kernel_rfl) (by kernel_rfl) (by kernel_rfl) (fun _ _ _ h => h) (Or.inl ⟨by rfl, ?_⟩) hHeld ?_
  rotate_left
  · (intro w hSw; (try dsimp only at hSw); go_simp; try with_reducible rfl)
  try simp only [Act.put, List.setIfInBounds_toArray, List.set_cons_zero, List.set_cons_succ]
  refine wpAnyJ_take (i := 10) (d := some 90) (v := ?_) rfl rfl (by kernel_rfl) (by kernel_rfl) (by kernel_rfl) (by kernel_rfl) (by kernel_rfl) (fun _ _ _ h => h) (Or.inl ⟨by rfl, ?_⟩) hHeld ?_
  rotate_left
  · (intro w hSw; (try dsimp only at hSw); go_simp; try with_reducible rfl)
  try simp only [Act.put, List.setIfInBounds_toArray, List.set_cons_zero, List.set_cons_succ]
  refine wpAnyJ_take (i := 11) (d := some 91) (v := ?_) rfl rfl (by kernel_rfl) (by kernel_rfl) (by kernel_rfl) (by kernel_rfl) (by kernel_rfl) (fun _ _ _ h => h) (Or.inl ⟨by rfl, ?_⟩) hHeld ?_
  rotate_left
  · (intro w hSw; (try dsimp only at hSw); go_simp; try with_reducible rfl)
  try simp only [Act.put, List.setIfInBounds_toArray, List.set_cons_zero, List.set_cons_succ]
  refine wpAnyJ_take (i := 12) (d := some 92) (v := ?_) rfl rfl (by kernel_rfl) (by kernel_rfl) (by kernel_rfl) (by kernel_rfl) (by kernel_rfl) (fun _ _ _ h => h) (Or.inl ⟨by rfl, ?_⟩) hHeld ?_
  rotate_left
  · (intro w hSw; (try dsimp only at hSw); go_simp; try with_reducible rfl)
  try simp only [Act.put, List.setIfInBounds_toArray, List.set_cons_zero, List.set_cons_succ]
  refine wpAnyJ_take (i := 13) (d := some 93) (v := ?_) rfl rfl (by kernel_rfl) (by kernel_rfl) (by kernel_rfl) (by kernel_rfl) (by kernel_rfl) (fun _ _ _ h => h) (Or.inl ⟨by rfl, ?_⟩) hHeld ?_
  rotate_left
  · (intro w hSw; (try dsimp only at hSw); go_simp; try with_reducible rfl)
  try simp only [Act.put, List.setIfInBounds_toArray, List.set_cons_zero, List.set_cons_succ]
  refine wpAnyJ_take (i := 14) (d := some 94) (v := ?_) rfl rfl (by kernel_rfl) (by kernel_rfl) (by kernel_rfl) (by kernel_rfl) (by kernel_rfl) (fun _ _ _ h => h) (Or.inl ⟨by rfl, ?_⟩) hHeld ?_
  rotate_left
  · (intro w hSw; (try dsimp only at hSw); go_simp; try with_reducible rfl)
  try simp only [Act.put, List.setIfInBounds_toArray, List.set_cons_zero, List.set_cons_succ]
  refine wpAnyJ_take (i := 15) (d := some 95) (v := ?_) rfl rfl (by kernel_rfl) (by kernel_rfl) (by kernel_rfl) (by kernel_rfl) (by kernel_rfl) (fun _ _ _ h => h) (Or.inl ⟨by rfl, ?_⟩) hHeld ?_
  rotate_left
  · (intro w hSw; (try dsimp only at hSw); go_simp; try with_reducible rfl)
  try simp only [Act.put, List.setIfInBounds_toArray, List.set_cons_zero, List.set_cons_succ]
  refine wpAnyJ_take (i := 16) (d := some 96) (v := ?_) rfl rfl (by kernel_rfl) (by kernel_rfl) (by kernel_rfl) (by kernel_rfl) (by kernel_rfl) (fun _ _ _ h => h) (Or.inl ⟨by rfl, ?_⟩) hHeld ?_
  rotate_left
  · (intro w hSw; (try dsimp only at hSw); go_simp; try with_reducible rfl)
  try simp only [Act.put, List.setIfInBounds_toArray, List.set_cons_zero, List.set_cons_succ]
  refine wpAnyJ_take (i := 17) (d := some 97) (v := ?_) rfl rfl (by kernel_rfl) (by kernel_rfl) (by kernel_rfl) (by kernel_rfl) (by kernel_rfl) (fun _ _ _ h => h) (Or.inl ⟨by rfl, ?_⟩) hHeld ?_
  rotate_left
  · (intro w hSw; (try dsimp only at hSw); go_simp; try with_reducible rfl)
  try simp only [Act.put, List.setIfInBounds_toArray, List.set_cons_zero, List.set_cons_succ]
  refine wpAnyJ_take (i := 18) (d := some 98) (v := ?_) rfl rfl (by kernel_rfl) (by kernel_rfl) (by kernel_rfl) (by kernel_rfl) (by kernel_rfl) (fun _ _ _ h => h) (Or.inl ⟨by rfl, ?_⟩) hHeld ?_
  rotate_left
  · (intro w hSw; (try dsimp only at hSw); go_simp; try with_reducible rfl)
  try simp only [Act.put, List.setIfInBounds_toArray, List.set_cons_zero, List.set_cons_succ]
  refine wpAnyJ_take (i := 19) (d := some 99) (v := ?_) rfl rfl (by kernel_rfl) (by kernel_rfl) (by kernel_rfl) (by kernel_rfl) (by kernel_rfl) (fun _ _ _ h => h) (Or.inl ⟨by rfl, ?_⟩) hHeld ?_
  rotate_left
  · (intro w hSw; (try dsimp only at hSw); go_simp; try with_reducible rfl)
  try simp only [Act.put, List.setIfInBounds_toArray, List.set_cons_zero, List.set_cons_succ]
  refine wpAnyJ_one (k := 20) (by kernel_rfl) rfl (fun K hK => ?_)
  go_simp
  refine (same_any st sq r.A Ai r.n ni r.c ci w12.heap.size w3.heap.size l _ HR3.out.drew HS1'.out.drew (Nat.le_refl _) (by exact Nat.le_of_lt hw3)).mono ?_
  rintro e w13 ⟨rfl, hb13⟩
  have HB13 := Lib.hid hb13
  clear hb13
  try go_simp
  refine hK.out _ _ (fun _ => ?_) (fun hHeld' => ?_)
  · exact ⟨(HB13.out.cell (p := ⟨b12, 0, none⟩) hb12l).trans hHeld.1, (HB13.out.cell (p := ⟨b12, 1, none⟩) hb12l).trans hHeld.2.1, (HB13.out.cell (p := ⟨b12, 2, none⟩) hb12l).trans hHeld.2.2.1, (HB13.out.cell (p := ⟨w3.heap.size, 0, none⟩) hw3).trans hHeld.2.2.2.1, (HB13.out.cell (p := ⟨w3.heap.size, 1, none⟩) hw3).trans hHeld.2.2.2.2.1, (HB13.out.cell (p := ⟨w3.heap.size, 2, none⟩) hw3).trans hHeld.2.2.2.2.2⟩
  replace hHeld := hHeld' rfl
  clear hHeld'
  try dsimp only at hHeld
  clear hK K
  try simp only [Act.put, List.setIfInBounds_toArray, List.set_cons_zero, List.set_cons_succ]
  refine wpAnyJ_take (i := 21) (d := some 101) (v := ?_) rfl rfl (by kernel_rfl) (by kernel_rfl) (by kernel_rfl) (by kernel_rfl) (by kernel_rfl) (fun _ _ _ h => h) (Or.inl ⟨by rfl, ?_⟩) hHeld ?_
  rotate_left
  · (intro w hSw; (try dsimp only at hSw); go_simp; try with_reducible rfl)
  try simp only [Act.put, List.setIfInBounds_toArray, List.set_cons_zero, List.set_cons_succ]
  refine wpAnyJ_take (i := 22) (d := some 102) (v := ?_) rfl rfl (by kernel_rfl) (by kernel_rfl) (by kernel_rfl) (by kernel_rfl) (by kernel_rfl) (fun _ _ _ h => h) (Or.inl ⟨by rfl, ?_⟩) hHeld ?_
  rotate_left
  · (intro w hSw; (try dsimp only at hSw); go_simp; try with_reducible rfl)
  try simp only [Act.put, List.setIfInBounds_toArray, List.set_cons_zero, List.set_cons_succ]
  refine wpAnyJ_one (k := 23) (by kernel_rfl) rfl (fun K hK => ?_)
  go_simp
  refine (awake_any _).mono ?_
  rintro e w14 ⟨rfl, hb14⟩
  have HB14 := Lib.hid hb14
  have hl13 : b12 < w13.heap.size := Nat.lt_of_lt_of_le hb12l HB13.out.size
  have hl14 : w3.heap.size < w13.heap.size := Nat.lt_of_lt_of_le hw3 HB13.out.size
  clear hb14
  try go_simp
  refine hK.out _ _ (fun _ => ?_) (fun hHeld' => ?_)
  · exact ⟨(HB14.out.cell (p := ⟨b12, 0, none⟩) hl13).trans hHeld.1, (HB14.out.cell (p := ⟨b12, 1, none⟩) hl13).trans hHeld.2.1, (HB14.out.cell (p := ⟨b12, 2, none⟩) hl13).trans hHeld.2.2.1, (HB14.out.cell (p := ⟨w3.heap.size, 0, none⟩) hl14).trans hHeld.2.2.2.1, (HB14.out.cell (p := ⟨w3.heap.size, 1, none⟩) hl14).trans hHeld.2.2.2.2.1, (HB14.out.cell (p := ⟨w3.heap.size, 2, none⟩) hl14).trans hHeld.2.2.2.2.2⟩
  replace hHeld := hHeld' rfl
  clear hHeld'
  try dsimp only at hHeld
  clear hK K
  try simp only [Act.put, List.setIfInBounds_toArray, List.set_cons_zero, List.set_cons_succ]
  refine wpAnyJ_take (i := 24) (d := some 104) (v := ?_) rfl rfl (by kernel_rfl) (by kernel_rfl) (by kernel_rfl) (by kernel_rfl) (by kernel_rfl) (fun _ _ _ h => h) (Or.inl ⟨by rfl, ?_⟩) hHeld ?_
  rotate_left
  · (intro w hSw; (try dsimp only at hSw); go_simp; try with_reducible rfl)
  try simp only [Act.put, List.setIfInBounds_toArray, List.set_cons_zero, List.set_cons_succ]
  refine wpAnyJ_take (i := 25) (d := some 4) (v := ?_) rfl rfl (by kernel_rfl) (by kernel_rfl) (by kernel_rfl) (by kernel_rfl) (by kernel_rfl) (fun _ _ _ h => h) (Or.inl ⟨by rfl, ?_⟩) hHeld ?_
  rotate_left
  · (intro w hSw; (try dsimp only at hSw); go_simp; try with_reducible rfl)
  try simp only [Act.put, List.setIfInBounds_toArray, List.set_cons_zero, List.set_cons_succ]
  refine wpAnyJ_done (by kernel_rfl) ?_ _
  go_wp2
  go_ret
  have hz13 : w12.heap.size ≤ w13.heap.size := HB13.out.size
  refine ⟨rfl, ((HBW.out.trans (HBZ.out.mono HBW.out.size)).drew.trans (HB13.out.mono (Nat.le_trans HBW.out.size hzz))).trans (HB14.out.mono (Nat.le_trans (Nat.le_trans HBW.out.size hzz) hz13))⟩
end Go.Proofs.Ytjinhfomfbcnjaa
