/-
  Walk of TelegramReturns: telegrams survive their frames, and frames one behind the other, with other bytes between them, are all found.
-/
import Derived.Test.YtjinhfomfbcnjaaTeleTw
import Derived.Test.YtjinhfomfbcnjaaTeleRep
import Derived.Test.YtjinhfomfbcnjaaOrd
import Derived.OpenShut
namespace Go.Proofs.Ytjinhfomfbcnjaa
open Go.RowKit
attribute [local go_sem ↓] Go.wp_at_zero Go.wp_at_succ

def RtPlain (bs : List UInt8) (ts : List Tele) (q : Nat) : Prop := ∀ rest, scanT (bs ++ rest) = (ts ++ (scanT rest).1, q + (scanT rest).2)
theorem RtPlain.nil : RtPlain [] [] 0 := fun rest => by simp
theorem RtPlain.frame {bs : List UInt8} {ts : List Tele} {q : Nat} (h : RtPlain bs ts q) {st sq : Int} {l : List Item} (hc : checkT st sq l = 0) : RtPlain (bs ++ frameT st sq l) (ts ++ [⟨st, sq, l⟩]) q := fun rest => by
  rw [List.append_assoc, h, scan_frame hc, List.append_assoc]; rfl
theorem RtPlain.noise {bs : List UInt8} {ts : List Tele} {q : Nat} (h : RtPlain bs ts q) {x : UInt8} (hx : x ≠ 104) : RtPlain (bs ++ [x]) ts (q + 1) := fun rest => by
  rw [List.append_assoc, h, List.singleton_append, scan_noise hx, Nat.add_assoc, Nat.add_comm 1]
theorem RtPlain.all {bs : List UInt8} {ts : List Tele} {q : Nat} (h : RtPlain bs ts q) : scanT bs = (ts, q) := by
  have := h []
  rw [List.append_nil, scan_nil] at this
  simpa using this
def RtRel (w : World) (all list noise kk : Value) (wr : World) : Prop :=
  ∃ (k q na nl ca cl : Nat) (Aa Al : Option Addr) (bs : List UInt8) (rows : List TRow) (ts : List Tele), all = .slice Aa na ca ∧ list = .slice Al nl cl ∧ noise = .int .i64 q ∧ kk = .int .i64 k ∧ na + 200 * k ≤ 1000 ∧ nl + k ≤ 4 ∧ q + 10 * k ≤ 100 ∧
    Hid (Two wr (w.heap.size + 1) Aa na ca Al nl cl bs rows ts) ∧ Hid (RtPlain bs ts q) ∧ Hid (DeckAt wr w.heap.size) ∧ Hid (Below w.heap.size w wr)
def RtIn (w : World) (k : Nat) (Al : Option Addr) (nl cl : Nat) (rows : List TRow) (ts : List Tele) (all noise ii : Value) (wr : World) : Prop :=
  ∃ (i q na ca : Nat) (Aa : Option Addr) (bs : List UInt8), all = .slice Aa na ca ∧ noise = .int .i64 q ∧ ii = .int .i64 i ∧ na + i + 200 * (k - 1) ≤ 1000 ∧ q + i + 10 * (k - 1) ≤ 100 ∧
    Hid (Two wr (w.heap.size + 1) Aa na ca Al nl cl bs rows ts) ∧ Hid (RtPlain bs ts q) ∧ Hid (DeckAt wr w.heap.size) ∧ Hid (Below w.heap.size w wr)
theorem encT_ok' {st sq : Int} {l : List Item} (h : checkT st sq l = 0) : encT st sq l = frameT st sq l := by rw [encT, if_pos h]

theorem Far.same {w w1 : World} {base : Nat} {X Y : Option Nat} {r : TRow} {t : Tele} (h : Far w base X Y r t) (hb : Below w.heap.size w w1) : Far w1 base X Y r t := h.keep hb.size (fun i hi _ _ _ => hb.block i hi) (fun _ _ h => h) (fun _ _ h => h)
theorem Far.drew' {w : World} {base : Nat} {X Y : Option Nat} {r : TRow} {t : Tele} (h : Far w base X Y r t) : Far w.drew base X Y r t := h.same (Below.refl _ _).drew
theorem Far.alloc' {w : World} {base : Nat} {X Y : Option Nat} {r : TRow} {t : Tele} (h : Far w base X Y r t) (o : Obj) : Far (w.alloc o) base X Y r t := h.same ((Below.refl _ _).alloc (Nat.le_refl _) _)
theorem far_all {w w1 : World} {base : Nat} {X Y X1 : Option Nat} {r : TRow} {t : Tele} (h : Far w base X Y r t) (hg : w.grownBy w1 X) (hv : X1 = X ∨ X1 = some w.heap.size) : Far w1 base X1 Y r t := by
  refine h.keep hg.size (fun i hi _ h1 _ => hg.block i hi h1) (fun i hi h => ?_) (fun _ _ h => h)
  rcases hv with e | e
  · rw [e]; exact h
  · rw [e]; intro e; injection e with e; omega
theorem Sl.of_blk {w : World} {g : Nat} {t : TypeId} {cs : Array Value} {n size : Nat} (h : Blk w g t cs) (hc : cs.size = n * size) (hn : n ≤ 9223372036854775807) : Sl w (g + 1) size (some ⟨g, 0, none⟩) n n cs.toList := by
  refine ⟨by simpa using hc, Nat.le_refl _, hn, (fun e => by cases e), fun _ => ⟨_, 0, rfl, by omega, fun j u hu => ?_⟩⟩
  rw [Nat.zero_add, h.cell]
  simpa using hu
set_option maxRecDepth 100000 in
set_option maxHeartbeats 4000000 in
theorem walk_TelegramReturns (w : World) (A : Option Addr) (n c : Nat) (z : List Int) (hz : Sl w w.heap.size 1 A n c (intsV z)) (_ : ∀ x ∈ z, (Lit.int .i64 x).wf = true) :
    Calls Try.prog 6 #[.slice A n c] w fun e w' => e = .returned (.bool true) ∧ Below w.heap.size w w' := by
  obtain ⟨hnc, hcm⟩ := hz.le
  have HZ := Lib.hid hz; clear hz
  by_cases hf : n ≤ 400; rotate_left
  · have hf' : decide (n ≤ 400) = false := by simpa using hf
    clear hf
    go_enter Try.func6, Try.ntmps6
    go_wp2_with fail
    refine (few_any A n c w (by omega)).mono ?_
    rintro e w1 ⟨rfl, rfl⟩
    go_wp2_with fail
    refine (awake_any _).mono ?_
    rintro e w1 ⟨rfl, hb⟩
    go_wp2_with fail
    go_ret
    exact ⟨rfl, hb⟩
  have hf' : decide (n ≤ 400) = true := by simpa using hf
  go_enter Try.func6, Try.ntmps6
  go_wp2_with fail
  refine (few_any A n c w (by omega)).mono ?_
  rintro e w1 ⟨rfl, rfl⟩
  go_wp2_with fail
  refine (new_any A n c w.heap.size z w HZ.out (Nat.le_refl _)).mono ?_
  rintro e w1 ⟨rfl, hd1, hb1, hs1⟩
  go_wp2_with fail
  refine (next_any w.heap.size 5 w1 hd1.out (by decide)).mono ?_
  rintro e w2 ⟨k, rfl, hk0, _, hk1, hd2, hg2, hs2⟩
  replace hk1 := hk1.out (by decide)
  obtain ⟨k, rfl⟩ := Int.eq_ofNat_of_zero_le hk0
  have HB2 : Hid (Below w.heap.size w w2) := hb1.out.trans (below_of_grown hg2.out (Nat.le_refl _) hb1.out.size)
  clear hd1 hb1 hs1 hg2 hs2
  go_wp2_with fail
  go_loopw [4, 5, 6, 7] (fun all list noise kk wr => RtRel w all list noise kk wr) (fun _ _ _ kk _ => (intOf kk).toNat)
  case atStart => exact ⟨k, 0, 0, 0, 0, 0, none, none, [], [], [], rfl, rfl, rfl, rfl, by omega, by omega, by omega, Two.nil _ _, RtPlain.nil, hd2, HB2⟩
  case round =>
    clear HB2 hd2 hk0 hk1
    obtain ⟨k, q, na, nl, ca, cl, Aa, Al, bs, rows, ts, rfl, rfl, rfl, rfl, hna, hnl, hq, htw, hpl, hdk, hbl⟩ := hrel
    obtain ⟨wo, rfl⟩ : ∃ wo : World, wo = wr := ⟨_, rfl⟩
    have hszo := hdk.out.lt
    by_cases hk : 0 < k; rotate_left
    · obtain rfl : k = 0 := by omega
      rw [show (((0 : Nat)) : Int) = 0 from rfl]
      have hsc := hpl.out.all
      have hlen := htw.out.lens
      have HO1 := Lib.hid htw.out.ownT
      have HB1 := Lib.hid (Sl.of_own htw.out.all)
      go_wp2_with fail
      refine (scan_any Aa na ca wo.heap.size bs wo HB1.out (Nat.le_refl _) (by omega)).mono ?_
      rintro e w2 ⟨A2, c2, rfl, ho2, hb2⟩
      rw [hsc] at ho2 ⊢
      simp only [hlen.2] at ho2 ⊢
      replace HO1 := Lib.hid (HO1.out.below hb2)
      have HO2 := Lib.hid ho2
      have HB2 := Lib.hid (hbl.out.trans (hb2.mono (Nat.le_of_lt hszo)))
      have hsz2 : w.heap.size < w2.heap.size := Nat.lt_of_lt_of_le hszo hb2.size
      clear hsc hlen ho2 hb2 htw hpl hdk hbl HB1
      go_wp2_with fail
      go_loopw [103] (fun i wr => ∃ (i' : Nat), i = .int .i64 i' ∧ i' ≤ nl ∧ Hid (Below w2.heap.size w2 wr)) (fun i _ => nl - (intOf i).toNat)
      case atStart => exact ⟨0, rfl, Nat.zero_le _, Below.refl _ _⟩
      case round =>
        obtain ⟨i, rfl, hi, hbl⟩ := hrel
        by_cases hlt : i < nl; rotate_left
        · obtain rfl : i = nl := by omega
          go_wp2_with fail
          refine (awake_any _).mono ?_
          rintro e w4 ⟨rfl, hb4⟩
          go_wp2_with fail
          go_ret
          exact ⟨rfl, (HB2.out.trans (hbl.out.mono (Nat.le_of_lt hsz2))).trans (hb4.mono (Nat.le_trans (Nat.le_of_lt hsz2) hbl.out.size))⟩
        have hlt' : (i : Int) < (nl : Int) := by omega
        obtain ⟨b1, r1, t1, rfl, hl1, ht1, e11, e12, hs1, x0, x1, x2⟩ := (HO2.out.below hbl.out).at hlt
        obtain ⟨b2, r2, t2, rfl, hl2, ht2, e21, e22, hs2, y0, y1, y2⟩ := (HO1.out.below hbl.out).at hlt
        rw [ht1] at ht2
        injection ht2 with ht2
        subst ht2
        rw [e11] at x0
        rw [e12] at x1
        rw [e21] at y0
        rw [e22] at y1
        obtain ⟨ts1, ts2, tsl⟩ := t1
        simp only at x0 x1 y0 y1 hs1 hs2
        have HR1 := Lib.hid hs1; have HR2 := Lib.hid hs2
        clear hs1 hs2 e11 e12 e21 e22 ht1
        go_wp2_with fail
        refine wp_region_J (S := (fun w' => w'.cell? ⟨b1, i * 3, none⟩ = some (.int .i64 ts1) ∧ w'.cell? ⟨b1, i * 3 + 1, none⟩ = some (.int .i64 ts2) ∧ w'.cell? ⟨b1, i * 3 + 2, none⟩ = some (.slice r1.A r1.n r1.c) ∧ w'.cell? ⟨b2, i * 3, none⟩ = some (.int .i64 ts1) ∧ w'.cell? ⟨b2, i * 3 + 1, none⟩ = some (.int .i64 ts2) ∧ w'.cell? ⟨b2, i * 3 + 2, none⟩ = some (.slice r2.A r2.n r2.c))) (J := []) (by kernel_rfl) ?_ (fun hHeld => ?_)
        · exact ⟨x0, x1, x2, y0, y1, y2⟩
        try dsimp only at hHeld
        refine wpAnyJ_take (i := 0) (d := some 106) (v := ?_) rfl rfl (by kernel_rfl) (by kernel_rfl) (by kernel_rfl) (by kernel_rfl) (by kernel_rfl) (fun _ _ _ h => h) (Or.inl ⟨by rfl, ?_⟩) hHeld ?_
        rotate_left
        · (intro w hSw; (try dsimp only at hSw); go_simp; try with_reducible rfl)
        try simp only [Act.put, List.setIfInBounds_toArray, List.set_cons_zero, List.set_cons_succ]
        refine wpAnyJ_take (i := 1) (d := some 107) (v := ?_) rfl rfl (by kernel_rfl) (by kernel_rfl) (by kernel_rfl) (by kernel_rfl) (by kernel_rfl) (fun _ _ _ h => h) (Or.inl ⟨by rfl, ?_⟩) hHeld ?_
        rotate_left
        · (intro w hSw; (try dsimp only at hSw); go_simp; try with_reducible rfl)
        try simp only [Act.put, List.setIfInBounds_toArray, List.set_cons_zero, List.set_cons_succ]
        refine wpAnyJ_take (i := 2) (d := some 108) (v := ?_) rfl rfl (by kernel_rfl) (by kernel_rfl) (by kernel_rfl) (by kernel_rfl) (by kernel_rfl) (fun _ _ _ h => h) (Or.inl ⟨by rfl, ?_⟩) hHeld ?_
        rotate_left
        · (intro w hSw; (try dsimp only at hSw); go_simp; try with_reducible rfl)
        try simp only [Act.put, List.setIfInBounds_toArray, List.set_cons_zero, List.set_cons_succ]
        refine wpAnyJ_take (i := 3) (d := some 109) (v := ?_) rfl rfl (by kernel_rfl) (by kernel_rfl) (by kernel_rfl) (by kernel_rfl) (by kernel_rfl) (fun _ _ _ h => h) (Or.inl ⟨by rfl, ?_⟩) hHeld ?_
        rotate_left
        · (intro w hSw; (try dsimp only at hSw); go_simp; try with_reducible rfl)
        try simp only [Act.put, List.setIfInBounds_toArray, List.set_cons_zero, List.set_cons_succ]
        refine wpAnyJ_take (i := 4) (d := some 110) (v := ?_) rfl rfl (by kernel_rfl) (by kernel_rfl) (by kernel_rfl) (by kernel_rfl) (by kernel_rfl) (fun _ _ _ h => h) (Or.inl ⟨by rfl, ?_⟩) hHeld ?_
        rotate_left
        · (intro w hSw; (try dsimp only at hSw); go_simp; try with_reducible rfl)
        try simp only [Act.put, List.setIfInBounds_toArray, List.set_cons_zero, List.set_cons_succ]
        refine wpAnyJ_take (i := 5) (d := some 111) (v := ?_) rfl rfl (by kernel_rfl) (by kernel_rfl) (by kernel_rfl) (by kernel_rfl) (by kernel_rfl) (fun _ _ _ h => h) (Or.inl ⟨by rfl, ?_⟩) hHeld ?_
        rotate_left
        · (intro w hSw; (try dsimp only at hSw); go_simp; try with_reducible rfl)
        try simp only [Act.put, List.setIfInBounds_toArray, List.set_cons_zero, List.set_cons_succ]
        refine wpAnyJ_take (i := 6) (d := some 112) (v := ?_) rfl rfl (by kernel_rfl) (by kernel_rfl) (by kernel_rfl) (by kernel_rfl) (by kernel_rfl) (fun _ _ _ h => h) (Or.inl ⟨by rfl, ?_⟩) hHeld ?_
        rotate_left
        · (intro w hSw; (try dsimp only at hSw); go_simp; try with_reducible rfl)
        try simp only [Act.put, List.setIfInBounds_toArray, List.set_cons_zero, List.set_cons_succ]
        refine wpAnyJ_take (i := 7) (d := some 113) (v := ?_) rfl rfl (by kernel_rfl) (by kernel_rfl) (by kernel_rfl) (by kernel_rfl) (by kernel_rfl) (fun _ _ _ h => h) (Or.inl ⟨by rfl, ?_⟩) hHeld ?_
        rotate_left
        · (intro w hSw; (try dsimp only at hSw); go_simp; try with_reducible rfl)
        try simp only [Act.put, List.setIfInBounds_toArray, List.set_cons_zero, List.set_cons_succ]
        refine wpAnyJ_one (k := 8) (by kernel_rfl) rfl (fun K hK => ?_)
        go_simp
        refine (same_any ts1 ts2 r1.A r2.A r1.n r2.n r1.c r2.c wr.heap.size wr.heap.size tsl _ HR1.out.drew HR2.out.drew (Nat.le_refl _) (Nat.le_refl _)).mono ?_
        rintro e w13 ⟨rfl, hb13⟩
        have HB13 := Lib.hid hb13
        clear hb13
        try go_simp
        refine hK.out _ _ (fun _ => ?_) (fun hHeld' => ?_)
        · exact ⟨(HB13.out.cell (p := ⟨b1, i * 3, none⟩) hl1).trans hHeld.1, (HB13.out.cell (p := ⟨b1, i * 3 + 1, none⟩) hl1).trans hHeld.2.1, (HB13.out.cell (p := ⟨b1, i * 3 + 2, none⟩) hl1).trans hHeld.2.2.1, (HB13.out.cell (p := ⟨b2, i * 3, none⟩) hl2).trans hHeld.2.2.2.1, (HB13.out.cell (p := ⟨b2, i * 3 + 1, none⟩) hl2).trans hHeld.2.2.2.2.1, (HB13.out.cell (p := ⟨b2, i * 3 + 2, none⟩) hl2).trans hHeld.2.2.2.2.2⟩
        replace hHeld := hHeld' rfl
        clear hHeld'
        try dsimp only at hHeld
        clear hK K
        try simp only [Act.put, List.setIfInBounds_toArray, List.set_cons_zero, List.set_cons_succ]
        refine wpAnyJ_take (i := 9) (d := some 115) (v := ?_) rfl rfl (by kernel_rfl) (by kernel_rfl) (by kernel_rfl) (by kernel_rfl) (by kernel_rfl) (fun _ _ _ h => h) (Or.inl ⟨by rfl, ?_⟩) hHeld ?_
        rotate_left
        · (intro w hSw; (try dsimp only at hSw); go_simp; try with_reducible rfl)
        try simp only [Act.put, List.setIfInBounds_toArray, List.set_cons_zero, List.set_cons_succ]
        refine wpAnyJ_done (by kernel_rfl) ?_ _
        go_wp2
        go_roundw
        case rel => exact ⟨i + 1, by go_num, by omega, hbl.out.drew.trans (HB13.out.mono hbl.out.size)⟩
        case measure => simp [intOf]; omega
    have hk' : decide ((0 : Int) < (k : Int)) = true := by simp; omega
    go_wp2_with fail
    refine (telegram_any w.heap.size 32 wo hdk.out (by decide)).mono ?_
    rintro e w2 ⟨st, sq, Ai, ni, ci, l, rfl, hst0, hst1, hsq0, hsq1, hn32, hok, hown, hd2, hg2⟩
    have HL := Lib.hid ((Sl.of_own hown).len (fun _ => rfl) (by decide))
    have HCH := Lib.hid (checkT_ok hst0 hst1 hsq0 hsq1 (by rw [HL.out]; omega) hok)
    have HTW2 := Lib.hid (htw.out.grown hg2 (fun g hg => by injection hg with hg; omega))
    have HFA2 := Lib.hid (Far.fresh (st := st) (sq := sq) htw.out (by omega) hown)
    have HS2 := Lib.hid (Sl.of_own hown)
    have HB2 := Lib.hid (hbl.out.trans (below_of_grown hg2 (Nat.le_refl _) (Nat.le_of_lt hszo)))
    have HD2 := Lib.hid hd2
    have hsz2 := HD2.out.lt
    clear hst0 hst1 hsq0 hsq1 hok hown hd2 hg2 htw hdk hbl
    go_wp2_with fail
    generalize hW2 : w2.alloc (.cells #[.int .i64 st, .int .i64 sq, .slice Ai ni ci] 31) = W2
    have hbw : Below w2.heap.size w2 W2 := hW2 ▸ (Below.refl _ _).alloc (Nat.le_refl _) _
    have HK2 : Hid (Blk W2 w2.heap.size 31 #[.int .i64 st, .int .i64 sq, .slice Ai ni ci]) := hW2 ▸ Blk.new _ _ _
    have hWs : w2.heap.size + 1 = W2.heap.size := by rw [← hW2]; simp
    clear hW2
    refine (encode_any st sq Ai ni ci w2.heap.size l W2 (HS2.out.below hbw (Nat.le_refl _)) (by omega)).mono ?_
    rintro e w3 ⟨A3, c3, rfl, ho3, hb3⟩
    rw [encT_ok' HCH.out] at ho3 ⊢
    rw [HCH.out]
    have hz3 := hb3.size
    have hf3 : (frameT st sq l).length = 6 + 5 * ni := by rw [frame_len, HL.out]
    have HF3 := Lib.hid hf3; clear hf3
    rw [HF3.out] at ho3 ⊢
    have HO3 := Lib.hid (Sl.of_own ho3)
    have HB3 := Lib.hid (hbw.trans (hb3.mono (by omega)))
    replace HK2 := Lib.hid (HK2.out.below hb3 (by omega))
    have hw23 : w2.heap.size < w3.heap.size := by omega
    clear ho3 hb3 hbw
    obtain ⟨L, hLL⟩ : ∃ L, 6 + 5 * ni = L := ⟨_, rfl⟩
    have hLb : L ≤ 166 := by omega
    rw [hLL] at HF3 HO3 ⊢
    have hLe : (5 : Int) * (ni : Int) = ((L : Int) - 6) := by omega
    have HLe := Lib.hid hLe
    have HLL := Lib.hid hLL; clear hLL hLe
    go_wp2_with fail
    refine (decode_any A3 L c3 w3.heap.size (frameT st sq l) w3 HO3.out (Nat.le_refl _)).mono ?_
    rintro e w4 ⟨A4, c4, rfl, ho4, hb4⟩
    obtain ⟨e1, e2, e3, e4⟩ := dec_frame HCH.out
    rw [e4] at ho4
    rw [e1, e2, e3, e4]
    rw [HL.out] at ho4 ⊢
    have hz4 := hb4.size
    have HS4 := Lib.hid (Sl.of_own ho4)
    replace HO3 := Lib.hid (HO3.out.below hb4 (Nat.le_refl _))
    replace HK2 := Lib.hid (HK2.out.below hb4 hw23)
    replace HB3 := Lib.hid (HB3.out.trans (hb4.mono (Nat.le_of_lt hw23)))
    clear ho4 hb4 e1 e2 e3 e4
    have hw24 : w2.heap.size < w4.heap.size := by omega
    have c0 : w4.cell? ⟨w2.heap.size, 0, none⟩ = some (.int .i64 st) := HK2.out.cell 0
    have c1 : w4.cell? ⟨w2.heap.size, 1, none⟩ = some (.int .i64 sq) := HK2.out.cell 1
    have c2 : w4.cell? ⟨w2.heap.size, 2, none⟩ = some (.slice Ai ni ci) := HK2.out.cell 2
    go_wp2_with fail
    clear c0 c1 c2
    generalize hW4 : w4.alloc (.cells #[.int .i64 st, .int .i64 sq, .slice A4 ni c4] 31) = W4
    have hbw4 : Below w4.heap.size w4 W4 := hW4 ▸ (Below.refl _ _).alloc (Nat.le_refl _) _
    have hzW4 := hbw4.size
    clear hW4
    refine (same_any st sq A4 Ai ni ni c4 ci w4.heap.size w2.heap.size l W4 (HS4.out.below hbw4 (Nat.le_refl _)) ((HS2.out.below HB3.out (Nat.le_refl _)).below hbw4 (by omega)) hzW4 (by omega)).mono ?_
    rintro e w5 ⟨rfl, hb5⟩
    have hb45 : Below w4.heap.size w4 w5 := hbw4.trans (hb5.mono hzW4)
    have hz5 := hb45.size
    have HK5 := Lib.hid (HK2.out.below hb45 hw24)
    have HO5 := Lib.hid (HO3.out.below hb45 hz4)
    have HB5 := Lib.hid (HB3.out.trans (hb45.mono (by omega)))
    clear hb45 hb5 hbw4 HO3 HK2 HB3 HS4
    have c2 : w5.cell? ⟨w2.heap.size, 2, none⟩ = some (.slice Ai ni ci) := HK5.out.cell 2
    have c0 : w5.cell? ⟨w2.heap.size, 0, none⟩ = some (.int .i64 st) := HK5.out.cell 0
    have c1 : w5.cell? ⟨w2.heap.size, 1, none⟩ = some (.int .i64 sq) := HK5.out.cell 1
    have qL : ((L : Int) != 6 + 5 * (ni : Int)) = false := by have := HLe.out; simp; omega
    go_wp2_with fail
    have HTW5 := Lib.hid (HTW2.out.below HB5.out)
    have HFA5 := Lib.hid (HFA2.out.keep HB5.out.size (fun i hi _ _ _ => HB5.out.block i hi) (fun _ _ h => h) (fun _ _ h => h))
    have hna : some w2.heap.size ≠ (Value.slice Aa na ca).ownBlock := fun e => by have := (HTW2.out.all.lt _ e.symm).2; omega
    have hza : ∀ g, (Value.slice Aa na ca).ownBlock = some g → w.heap.size + 1 ≤ g ∧ g < w5.heap.size := fun g hg => HTW5.out.all.lt g hg
    have hzl : ∀ g, (Value.slice Al nl cl).ownBlock = some g → w.heap.size + 1 ≤ g ∧ g < w5.heap.size := fun g hg => HTW5.out.list.lt g hg
    have HNA := Lib.hid hna; have HZA := Lib.hid hza; have HZL := Lib.hid hzl
    clear hna hza hzl HTW2 HFA2
    have hz25 := HB5.out.size
    have hb5w : w.heap.size + 1 ≤ w5.heap.size := by omega
    have hbw5 : w2.heap.size < w5.heap.size := by omega
    go_region_law
      (first
        | (refine step_app (by rfl) (.tmp 63) (.tmp 64) (by rfl) el_u8 (by rfl) HTW5.out.drew.all (by rfl) HO5.out.drew (bytesV_one _) (by omega) (by omega) (by exact hb5w) ?_; intro A6 c6 w6 ho6 hg6 hat6; rw [← bytesV_append] at ho6; have HTW6 := Lib.hid (HTW5.out.drew.pushAll ho6 hg6 hat6); have HG6 := Lib.hid (Below.grown ((Below.refl (w.heap.size + 1) w5).drew) hg6 hb5w fun g hg => (HZA.out g hg).1); have HK6 := Lib.hid (Blk.grown (w := w5.drew) HK5.out hg6 HNA.out); have HFA6 := Lib.hid (far_all HFA5.out.drew' hg6 hat6); clear ho6 hg6 hat6; have c20 : w6.cell? ⟨w2.heap.size, 0, none⟩ = some (.int .i64 st) := HK6.out.cell 0; have c21 : w6.cell? ⟨w2.heap.size, 1, none⟩ = some (.int .i64 sq) := HK6.out.cell 1; have c22 : w6.cell? ⟨w2.heap.size, 2, none⟩ = some (.slice Ai ni ci) := HK6.out.cell 2)
        | (refine step_app (by rfl) (.tmp 63) (.tmp 64) (by rfl) el_u8 (by rfl) (HTW5.out.drew.alloc _).all (by rfl) (HO5.out.drew.alloc (by simp; omega) _) (bytesV_one _) (by omega) (by omega) (by simp; omega) ?_; intro A6 c6 w6 ho6 hg6 hat6; rw [← bytesV_append] at ho6; have HTW6 := Lib.hid ((HTW5.out.drew.alloc _).pushAll ho6 hg6 hat6); have HG6 := Lib.hid (Below.grown ((Below.refl (w.heap.size + 1) w5).drew.alloc hb5w _) hg6 (by simp; omega) fun g hg => (HZA.out g hg).1); have HN6 := Lib.hid (Blk.grown (Blk.new w5.drew 31 #[.int .i64 st, .int .i64 sq, .slice Ai ni ci]) hg6 (fun e => absurd (HZA.out _ e.symm).2 (Nat.lt_irrefl _))); have HFA6 := Lib.hid (far_all (HFA5.out.drew'.alloc' _) hg6 hat6); clear ho6 hg6 hat6)
        | (refine step_app (by rfl) (.tmp 66) (.tmp 68) (by rfl) el_tele (by rfl) (HTW6.out.alloc _).list (by rfl) (Sl.newest (n := 1) rfl (by rfl) (by decide)) (by simp [Value.oneCell']) (by omega) (by omega) (by have := HG6.out.size; simp; omega) ?_; intro A7 c7 w7 ho7 hg7 hat7; have HTW7 := Lib.hid ((HTW6.out.alloc _).pushList (HFA6.out.alloc' _) ho7 hg7 hat7); have HG7 := Lib.hid ((HG6.out.alloc (by have := HG6.out.size; omega) _).grown hg7 (by have := HG6.out.size; simp; omega) fun g hg => (HZL.out g hg).1); clear ho7 hg7 hat7)
        | (refine step_app (by rfl) (.tmp 66) (.tmp 68) (by rfl) el_tele (by rfl) HTW6.out.list (by rfl) (Sl.of_blk (n := 1) HN6.out rfl (by decide)) (by simp [Value.oneCell']) (by omega) (by omega) (by have := HG6.out.size; omega) ?_; intro A7 c7 w7 ho7 hg7 hat7; have HTW7 := Lib.hid (HTW6.out.pushList HFA6.out ho7 hg7 hat7); have HG7 := Lib.hid (HG6.out.grown hg7 (by have := HG6.out.size; omega) fun g hg => (HZL.out g hg).1); clear ho7 hg7 hat7))
    all_goals
      have HD7 := Lib.hid ((HD2.out.below HB5.out hsz2).below HG7.out (Nat.lt_succ_self _))
      have HB7 := Lib.hid ((HB2.out.trans (HB5.out.mono (Nat.le_of_lt hsz2))).trans (HG7.out.mono (Nat.le_succ _)))
      have HPL := Lib.hid (hpl.out.frame HCH.out)
      clear HG7 HD2 HB2 HB5 HG6 HFA6 HTW6 HTW5 HFA5 HK5 HO5 c0 c1 c2 qL hpl HZA HZL HNA HCH HS2 HL HF3 HLe HLL
      (try clear HK6 c20 c21 c22)
      (try clear HN6)
      generalize frameT st sq l = fr at *
      generalize hbs' : bs ++ fr = bs' at *
      generalize hts' : ts ++ [(⟨st, sq, l⟩ : Tele)] = ts' at *
      generalize hrs' : rows ++ [(⟨st, sq, Ai, ni, ci⟩ : TRow)] = rows' at *
      clear hbs' hts' hrs'
      go_wp2_with fail
      refine (one_any w.heap.size 2 w7 HD7.out (by decide)).mono ?_
      rintro e w8 ⟨r, rfl, hd8, hg8, hs8⟩
      have HTW8 := Lib.hid (HTW7.out.grown hg8.out (fun g hg => by injection hg with hg; omega))
      have hsz7 := HD7.out.lt
      have HB8 := Lib.hid (HB7.out.trans (below_of_grown hg8.out (Nat.le_refl _) (Nat.le_of_lt hsz7)))
      clear hg8 hs8 HTW7 HB7 HD7
      cases r
      · go_wp2_with fail
        go_roundw
        case rel => exact ⟨k - 1, q, na + L, nl + 1, c6, c7, A6, A7, bs', rows', ts', rfl, rfl, rfl, by rw [show ((k - 1 : Nat) : Int) = (k : Int) - 1 from by omega], by omega, by omega, by omega, HTW8, HPL, hd8, HB8⟩
        case measure => simp [intOf]; omega
      · go_wp2_with fail
        refine (next_any w.heap.size 3 w8 hd8.out (by decide)).mono ?_
        rintro e w9 ⟨i, rfl, hi0, _, hi1, hd9, hg9, hs9⟩
        replace hi1 := hi1.out (by decide)
        obtain ⟨i, rfl⟩ := Int.eq_ofNat_of_zero_le hi0
        have HTW9 := Lib.hid (HTW8.out.grown hg9.out (fun g hg => by injection hg with hg; omega))
        have hsz8 := hd8.out.lt
        have HB9 := Lib.hid (HB8.out.trans (below_of_grown hg9.out (Nat.le_refl _) (Nat.le_of_lt hsz8)))
        clear hg9 hs9 HTW8 HB8 hd8
        go_wp2_with fail
        go_loopw [4, 6, 13] (fun all noise ii wr => RtIn w k A7 (nl + 1) c7 rows' ts' all noise ii wr) (fun _ _ ii _ => (intOf ii).toNat)
        case atStart => exact ⟨i, q, na + L, c6, A6, bs', rfl, rfl, rfl, by omega, by omega, HTW9, HPL, hd9, HB9⟩
        case round =>
          clear HTW9 HPL hd9 HB9 hi0 hi1
          obtain ⟨i, q, na, ca, Aa, bs, rfl, rfl, rfl, hna, hq, htw, hpl, hdk, hbl⟩ := hrel
          have hszr := hdk.out.lt
          by_cases hi : 0 < i
          · have hi' : decide ((0 : Int) < (i : Int)) = true := by simp; omega
            go_wp2_with fail
            refine (next_any w.heap.size 96 wr hdk.out (by decide)).mono ?_
            rintro e w10 ⟨x, rfl, hx0, _, hx1, hd10, hg10, hs10⟩
            replace hx1 := hx1.out (by decide)
            have HTW10 := Lib.hid (htw.out.grown hg10.out (fun g hg => by injection hg with hg; omega))
            have HB10 := Lib.hid (hbl.out.trans (below_of_grown hg10.out (Nat.le_refl _) (Nat.le_of_lt hszr)))
            have hsz10 := hd10.out.lt
            clear hg10 hs10
            have hxm : x % 256 = x := by omega
            go_wp2_with (at_builtin; refine wpList_app rfl (.tmp 78) (.tmp 82) rfl el_u8 (by rfl) (HTW10.out.alloc _).all (by rfl) (Sl.newest (n := 1) rfl (by rfl) (by decide)) (by simp [Value.oneCell']) (by omega) (by omega) (by simp; omega) ?_; intro A11 c11 w11 ho11 hg11 hat11)
            have hxu : ((UInt8.ofNat x.toNat).toNat : Int) = x := by rw [UInt8.toNat_ofNat']; omega
            have ho12 : w11.ownsRow (w.heap.size + 1) 5 1 (.slice A11 (na + 1) c11) (na + 1) (bytesV (bs ++ [UInt8.ofNat x.toNat])) := by
              rw [bytesV_append, show bytesV [UInt8.ofNat x.toNat] = [Value.int .u8 x] from by simp only [bytesV, List.flatMap_cons, List.flatMap_nil, List.append_nil, hxu]]
              exact ho11
            have HTW11 := Lib.hid ((HTW10.out.alloc _).pushAll ho12 hg11 hat11)
            have hg12 := fun g hg => (HTW10.out.all.lt g hg).1
            have HB11 := Lib.hid ((HB10.out.alloc (Nat.le_of_lt hsz10) _).grown hg11 (by simp; omega) fun g hg => Nat.le_of_lt (hg12 g hg))
            have HD11 := Lib.hid ((hd10.out.alloc _).grown hg11 fun g hg => hg12 g hg)
            have HP11 := Lib.hid (hpl.out.noise (x := UInt8.ofNat x.toNat) (fun e => by rw [e] at hxu; simp at hxu; omega))
            clear ho11 hg11 hat11 ho12 hg12 hxu hxm
            go_wp2_with fail
            go_roundw
            case rel => exact ⟨i - 1, q + 1, na + 1, c11, A11, _, rfl, by go_num, by rw [show ((i - 1 : Nat) : Int) = (i : Int) - 1 from by omega], by omega, by omega, HTW11, HP11, HD11, HB11⟩
            case measure => simp [intOf]; omega
          · obtain rfl : i = 0 := by omega
            go_wp2_with fail
            go_roundw
            case rel => exact ⟨k - 1, q, na, nl + 1, ca, c7, Aa, A7, bs, rows', ts', rfl, rfl, rfl, by rw [show ((k - 1 : Nat) : Int) = (k : Int) - 1 from by omega], by omega, by omega, by omega, htw, hpl, hdk, hbl⟩
            case measure => simp [intOf]; omega
end Go.Proofs.Ytjinhfomfbcnjaa
