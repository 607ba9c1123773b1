/-
  Walks of layer 9: Decode.
-/
import Derived.Test.YtjinhfomfbcnjaaTeleD
import Derived.Test.YtjinhfomfbcnjaaOrd
import Derived.Test.YtjinhfomfbcnjaaMkTele
import Derived.Deep.RegionHeld3
namespace Go.Proofs.Ytjinhfomfbcnjaa
open Go.RowKit
attribute [local go_sem ↓] Go.wp_at_zero Go.wp_at_succ

/-- A telegram and an error are returned; nothing that was there is changed. -/
def RetTele (w : World) (st sq : Int) (l : List Item) (er : Int) (e : Ending) (w' : World) : Prop :=
  ∃ A c, e = .returned (.tuple #[.agg #[.int .i64 st, .int .i64 sq, .slice A l.length c], .int .i64 er]) ∧ w'.ownsRow w.heap.size 38 4 (.slice A l.length c) l.length (l.flatMap Item.cells) ∧ Below w.heap.size w w'

set_option maxHeartbeats 4000000 in
theorem decode_any (A : Option Addr) (n c B : Nat) (l : List UInt8) (w : World) (hr : Sl w B 1 A n c (bytesV l)) (hB : B ≤ w.heap.size) : Calls Try.prog 16 #[.slice A n c] w (RetTele w (decSt l) (decSq l) (decL l) (decErr l)) := by
  have HL := Lib.hid (hr.len (fun _ => rfl) (by decide))
  obtain ⟨hnc, hcm⟩ := hr.le
  have HR := Lib.hid hr; clear hr
  have hfail : decErr l ≠ 0 → decSt l = 0 ∧ decSq l = 0 ∧ decL l = [] := fun h => ⟨if_neg h, if_neg h, if_neg h⟩
  have HF := Lib.hid hfail; clear hfail
  by_cases h6 : n < 6
  · have HE : Hid (decErr l = 13) := by unfold Hid; rw [decErr, if_pos (by rw [HL.out]; exact h6)]
    have h6' : decide ((n : Int) < 6) = true := by simp; omega
    go_enter Try.func16, Try.ntmps16
    go_wp2_with fail
    refine (size_any A n c B l _ (HR.out.alloc hB _)).mono ?_
    rintro e w1 ⟨rfl, rfl⟩
    generalize sizeT l = sz
    go_wp2_with fail
    refine bodyPost_ret (v := .tuple #[.agg #[.int .i64 0, .int .i64 0, .slice none 0 0], .int .i64 13]) (by simp [results, Try.results16, go_sem]) rfl ?_
    obtain ⟨e1, e2, e3⟩ := HF.out (by rw [HE.out]; decide)
    rw [HE.out, e1, e2, e3]
    exact ⟨none, 0, rfl, World.ownsRow_nil _ _ _ _, (Below.refl _ _).alloc (Nat.le_refl _) _⟩
  have h6' : decide ((n : Int) < 6) = false := by simp; omega
  by_cases h0 : sizeT l = 0
  · have HE : Hid (decErr l = 14) := by unfold Hid; rw [decErr, if_neg (by rw [HL.out]; exact h6), if_pos h0]
    have H0 := Lib.hid h0; clear h0
    go_enter Try.func16, Try.ntmps16
    go_wp2_with fail
    refine (size_any A n c B l _ (HR.out.alloc hB _)).mono ?_
    rintro e w1 ⟨rfl, rfl⟩
    rw [H0.out]
    go_wp2_with fail
    refine bodyPost_ret (v := .tuple #[.agg #[.int .i64 0, .int .i64 0, .slice none 0 0], .int .i64 14]) (by simp [results, Try.results16, go_sem]) rfl ?_
    obtain ⟨e1, e2, e3⟩ := HF.out (by rw [HE.out]; decide)
    rw [HE.out, e1, e2, e3]
    exact ⟨none, 0, rfl, World.ownsRow_nil _ _ _ _, (Below.refl _ _).alloc (Nat.le_refl _) _⟩
  have hsz : sizeT l = 6 + 5 * countT l ∧ countT l ≤ 32 := by
    unfold sizeT at h0 ⊢
    unfold countT
    split at h0
    · contradiction
    split at h0
    · contradiction
    split at h0
    · contradiction
    rw [if_neg (by assumption), if_neg (by assumption), if_neg (by assumption)]
    exact ⟨rfl, by omega⟩
  obtain ⟨hz1, hz2⟩ := hsz
  obtain ⟨m, hm⟩ : ∃ m, countT l = m := ⟨_, rfl⟩
  obtain ⟨sz, hszE⟩ : ∃ sz, sizeT l = sz := ⟨_, rfl⟩
  have herr : decErr l = if n < sz then 13 else if sz < n then 14 else if crcAll l ≠ 0 then 12 else firstI (decItemErr l) m := by
    rw [decErr, HL.out, hszE, hm, if_neg h6, if_neg (by rw [← hszE]; exact h0)]
  rw [hm] at hz1 hz2
  rw [hszE] at hz1 h0
  have HSZ := Lib.hid hszE; have HM := Lib.hid hm; have HER := Lib.hid herr; clear hszE hm herr
  subst hz1
  have q0 : (((6 + 5 * m : Nat) : Int) == 0) = false := by simp; omega
  by_cases h1 : n < 6 + 5 * m
  · have HE : Hid (decErr l = 13) := by unfold Hid; rw [HER.out, if_pos h1]
    have q1 : decide (n < 6 + 5 * m) = true := by simpa using h1
    go_enter Try.func16, Try.ntmps16
    go_wp2_with fail
    refine (size_any A n c B l _ (HR.out.alloc hB _)).mono ?_
    rintro e w1 ⟨rfl, rfl⟩
    rw [HSZ.out]
    go_wp2_with fail
    refine bodyPost_ret (v := .tuple #[.agg #[.int .i64 0, .int .i64 0, .slice none 0 0], .int .i64 13]) (by simp [results, Try.results16, go_sem]) rfl ?_
    obtain ⟨e1, e2, e3⟩ := HF.out (by rw [HE.out]; decide)
    rw [HE.out, e1, e2, e3]
    exact ⟨none, 0, rfl, World.ownsRow_nil _ _ _ _, (Below.refl _ _).alloc (Nat.le_refl _) _⟩
  have q1 : decide (n < 6 + 5 * m) = false := by simpa using h1
  by_cases h2 : 6 + 5 * m < n
  · have HE : Hid (decErr l = 14) := by unfold Hid; rw [HER.out, if_neg h1, if_pos h2]
    have q2 : decide (6 + 5 * m < n) = true := by simpa using h2
    go_enter Try.func16, Try.ntmps16
    go_wp2_with fail
    refine (size_any A n c B l _ (HR.out.alloc hB _)).mono ?_
    rintro e w1 ⟨rfl, rfl⟩
    rw [HSZ.out]
    go_wp2_with fail
    refine bodyPost_ret (v := .tuple #[.agg #[.int .i64 0, .int .i64 0, .slice none 0 0], .int .i64 14]) (by simp [results, Try.results16, go_sem]) rfl ?_
    obtain ⟨e1, e2, e3⟩ := HF.out (by rw [HE.out]; decide)
    rw [HE.out, e1, e2, e3]
    exact ⟨none, 0, rfl, World.ownsRow_nil _ _ _ _, (Below.refl _ _).alloc (Nat.le_refl _) _⟩
  have q2 : decide (6 + 5 * m < n) = false := by simpa using h2
  by_cases h3 : crcAll l = 0; rotate_left
  · have HE : Hid (decErr l = 12) := by unfold Hid; rw [HER.out, if_neg h1, if_neg h2, if_pos h3]
    have HC := Lib.hid (checksum_any A n c B l (w.alloc (.cells #[.int .i64 0, .int .i64 0, .slice none 0 0] 31)) (HR.out.alloc hB _))
    generalize crcAll l = cr at *
    have q3 : (((cr.toNat : Nat) : Int) != 0) = true := by
      have : cr.toNat ≠ 0 := fun e => h3 (BitVec.eq_of_toNat_eq (by simpa using e))
      simpa using by omega
    clear h3
    go_enter Try.func16, Try.ntmps16
    go_wp2_with fail
    refine (size_any A n c B l _ (HR.out.alloc hB _)).mono ?_
    rintro e w1 ⟨rfl, rfl⟩
    rw [HSZ.out]
    go_wp2_with fail
    refine HC.out.mono ?_
    rintro e w1 ⟨rfl, rfl⟩
    go_wp2_with fail
    refine bodyPost_ret (v := .tuple #[.agg #[.int .i64 0, .int .i64 0, .slice none 0 0], .int .i64 12]) (by simp [results, Try.results16, go_sem]) rfl ?_
    obtain ⟨e1, e2, e3⟩ := HF.out (by rw [HE.out]; decide)
    rw [HE.out, e1, e2, e3]
    exact ⟨none, 0, rfl, World.ownsRow_nil _ _ _ _, (Below.refl _ _).alloc (Nat.le_refl _) _⟩
  have hn1 : n ≤ 6 + 5 * m := by omega
  have hn2 : 6 + 5 * m ≤ n := by omega
  have HSN : Hid (sizeT l = n) := by unfold Hid; rw [HSZ.out]; omega
  have HE : Hid (decErr l = firstI (decItemErr l) m) := by unfold Hid; rw [HER.out, if_neg h1, if_neg h2, if_neg (by simpa using h3)]
  have HC3 := Lib.hid h3
  clear h1 h2 q0 q1 q2 h3
  obtain ⟨b, off, rfl, hb, hc⟩ := HR.out.bytes (by omega)
  have hbw : b < w.heap.size := by omega
  have c1 : w.cell? ⟨b, off + 1, none⟩ = some (.int .u8 (byteI l 1)) := hc 1 (by omega)
  have c2 : w.cell? ⟨b, off + 2, none⟩ = some (.int .u8 (byteI l 2)) := hc 2 (by omega)
  have c3 : w.cell? ⟨b, off + 3, none⟩ = some (.int .u8 m) := by rw [← HM.out]; exact hc 3 (by omega)
  have HC := Lib.hid hc; clear hc
  obtain ⟨st, hst⟩ : ∃ st, byteI l 1 = st := ⟨_, rfl⟩
  obtain ⟨sq, hsq⟩ : ∃ sq, byteI l 2 = sq := ⟨_, rfl⟩
  obtain ⟨hst0, hst1⟩ := byteI_in l 1
  obtain ⟨hsq0, hsq1⟩ := byteI_in l 2
  rw [hst] at c1 hst0 hst1
  rw [hsq] at c2 hsq0 hsq1
  have HST := Lib.hid hst; have HSQ := Lib.hid hsq; clear hst hsq
  have i1 : (1 : Int) < (n : Int) := by omega
  have i2 : (2 : Int) < (n : Int) := by omega
  have i3 : (3 : Int) < (n : Int) := by omega
  have q1 : decide (n < n) = false := by simp
  have q0 : ((n : Int) == 0) = false := by simp; omega
  go_enter Try.func16, Try.ntmps16
  go_wp2_with fail
  refine (size_any _ _ c B l _ (HR.out.alloc hB _)).mono ?_
  rintro e w1 ⟨rfl, rfl⟩
  rw [HSN.out]
  go_wp2_with fail
  refine (checksum_any _ _ c B l _ (HR.out.alloc hB _)).mono ?_
  rintro e w1 ⟨rfl, rfl⟩
  rw [HC3.out]
  go_wp2_with fail
  generalize hW : w.alloc (.cells #[.int .i64 0, .int .i64 0, .slice none 0 0] 31) = W
  have hb0 : Blk W w.heap.size 31 #[.int .i64 0, .int .i64 0, .slice none 0 0] := hW ▸ Blk.new _ _ _
  have hbl : Below w.heap.size w W := hW ▸ (Below.refl _ _).alloc (Nat.le_refl _) _
  have hWs : W.heap.size = w.heap.size + 1 := by rw [← hW]; simp
  clear hW
  replace c1 : W.cell? ⟨b, off + 1, none⟩ = some (.int .u8 st) := (hbl.cell (p := ⟨b, off + 1, none⟩) hbw).trans c1
  replace c2 : W.cell? ⟨b, off + 2, none⟩ = some (.int .u8 sq) := (hbl.cell (p := ⟨b, off + 2, none⟩) hbw).trans c2
  replace c3 : W.cell? ⟨b, off + 3, none⟩ = some (.int .u8 m) := (hbl.cell (p := ⟨b, off + 3, none⟩) hbw).trans c3
  have hbW : b < W.heap.size := by omega
  have hne1 := World.new_ne W _ c1
  have HB0 := Lib.hid hb0; have HBL := Lib.hid hbl; have HWS := Lib.hid hWs; clear hb0 hbl hWs
  have e1 : IntKind.i64.wrap st = st := IntWalk.i64_in _ (by omega)
  have e2 : IntKind.i64.wrap sq = sq := IntWalk.i64_in _ (by omega)
  go_region_held3 (fun w' => w'.cell? ⟨b, off + 1, none⟩ = some (.int .u8 st) ∧ w'.cell? ⟨b, off + 2, none⟩ = some (.int .u8 sq)) (go_keep) (fail)
  clear e1 e2 hne1
  go_wp2_with fail
  obtain ⟨tb, htb⟩ : ∃ tb, tb = W.heap.size := ⟨_, rfl⟩
  have htw : tb = w.heap.size + 1 := htb.trans HWS.out
  rw [← htb]
  generalize hW2 : (W.alloc (.cells #[.int .i64 st, .int .i64 sq, .slice none 0 0] 31)).drew = W2
  have hbt : Blk W2 tb 31 #[.int .i64 st, .int .i64 sq, .slice none 0 0] := by rw [← hW2, htb]; exact Blk.new _ _ _
  have hb0 : Blk W2 w.heap.size 31 #[.int .i64 0, .int .i64 0, .slice none 0 0] := by rw [← hW2]; exact HB0.out.alloc _
  have hbl : Below w.heap.size w W2 := by rw [← hW2]; exact (HBL.out.alloc (by rw [HWS.out]; omega) _).drew
  have htl : w.heap.size < tb := by omega
  have HBT := Lib.hid hbt; have HB0' := Lib.hid hb0; have HBL' := Lib.hid hbl; have HTW := Lib.hid htw
  clear hW2 htb hbt hb0 hbl htw c1 c2 c3 HB0 HBL HWS hbW
  go_loopw [49] (fun i wr => ∃ (k cap : Nat) (Av : Option Addr), k ≤ m ∧ i = .int .i64 k ∧ Hid (∀ j, j < k → decItemErr l j = 0) ∧ Hid (Blk wr tb 31 #[.int .i64 st, .int .i64 sq, .slice Av k cap]) ∧ Hid (wr.ownsRow (tb + 1) 38 4 (.slice Av k cap) k ((decItems l k).flatMap Item.cells)) ∧
    Hid (Blk wr w.heap.size 31 #[.int .i64 0, .int .i64 0, .slice none 0 0]) ∧ Hid (Below w.heap.size w wr)) (fun i _ => m - (intOf i).toNat)
  case atStart => exact ⟨0, 0, none, Nat.zero_le _, rfl, (fun j hj => absurd hj (by omega)), HBT, World.ownsRow_nil _ _ _ _, HB0', HBL'⟩
  case round =>
    obtain ⟨k, cap, Av, hk, rfl, hok, hbt, hown, hb0, hbl⟩ := hrel
    have d0 : wr.cell? ⟨w.heap.size, 0, none⟩ = some (.int .i64 0) := hb0.out.cell 0
    have d1 : wr.cell? ⟨w.heap.size, 1, none⟩ = some (.int .i64 0) := hb0.out.cell 1
    have d2 : wr.cell? ⟨w.heap.size, 2, none⟩ = some (.slice none 0 0) := hb0.out.cell 2
    have f0 := hb0.out.frozen 0
    have f1 := hb0.out.frozen 1
    have f2 := hb0.out.frozen 2
    by_cases hlt : k < m
    · have hcel : ∀ j, j < 5 → wr.cell? ⟨b, off + (4 + 5 * k) + j, none⟩ = some (.int .u8 (byteI l (4 + 5 * k + j))) := fun j hj => by
        rw [Nat.add_assoc]
        exact (hbl.out.cell (p := ⟨b, off + (4 + 5 * k + j), none⟩) hbw).trans (HC.out (4 + 5 * k + j) (by omega))
      have x0 : wr.cell? ⟨b, off + (4 + 5 * k), none⟩ = some (.int .u8 (byteI l (4 + 5 * k))) := hcel 0 (by decide)
      have x1 := hcel 1 (by decide)
      have x2 := hcel 2 (by decide)
      have x3 := hcel 3 (by decide)
      have x4 := hcel 4 (by decide)
      have HIE : Hid (decItemErr l k = if 64 ≤ byteI l (4 + 5 * k) then 8 else if byteI l (4 + 5 * k + 1) % 128 / 4 ≠ 0 then 14 else 0) := rfl
      have HIT : Hid (decItem l k = ⟨byteI l (4 + 5 * k), byteI l (4 + 5 * k + 1) % 4, decide (128 ≤ byteI l (4 + 5 * k + 1)), byteI l (4 + 5 * k + 2) * 65536 + byteI l (4 + 5 * k + 3) * 256 + byteI l (4 + 5 * k + 4)⟩) := rfl
      have b0 := byteI_in l (4 + 5 * k)
      have b1 := byteI_in l (4 + 5 * k + 1)
      have b2 := byteI_in l (4 + 5 * k + 2)
      have b3 := byteI_in l (4 + 5 * k + 3)
      have b4 := byteI_in l (4 + 5 * k + 4)
      clear hcel
      generalize byteI l (4 + 5 * k) = y0 at *
      generalize byteI l (4 + 5 * k + 1) = y1 at *
      generalize byteI l (4 + 5 * k + 2) = y2 at *
      generalize byteI l (4 + 5 * k + 3) = y3 at *
      generalize byteI l (4 + 5 * k + 4) = y4 at *
      obtain ⟨b00, b01⟩ := b0
      obtain ⟨b10, b11⟩ := b1
      obtain ⟨b20, b21⟩ := b2
      obtain ⟨b30, b31⟩ := b3
      obtain ⟨b40, b41⟩ := b4
      have hgo : ∀ e : Int, decItemErr l k = e → e ≠ 0 → decErr l = e := fun e he hne => by rw [HE.out, firstI_of _ hok.out hlt (by rw [he]; exact hne), he]
      have HGO := Lib.hid hgo; clear hgo
      by_cases g0 : 64 ≤ y0
      · have HY := Lib.hid (HGO.out 8 (by rw [HIE.out, if_pos g0]) (by decide))
        go_wp2_with fail
        refine bodyPost_ret (v := .tuple #[.agg #[.int .i64 0, .int .i64 0, .slice none 0 0], .int .i64 8]) (by simp [results, Try.results16, go_sem, d0, d1, d2]) rfl ?_
        obtain ⟨e1, e2, e3⟩ := HF.out (by rw [HY.out]; decide)
        rw [HY.out, e1, e2, e3]
        exact ⟨none, 0, rfl, World.ownsRow_nil _ _ _ _, ((hbl.out.setCell (Nat.le_refl _) _).setCell (Nat.le_refl _) _).setCell (Nat.le_refl _) _⟩
      have q9 := andNot131 y1 b10 b11
      by_cases g1 : y1 % 128 / 4 ≠ 0
      · have HY := Lib.hid (HGO.out 14 (by rw [HIE.out, if_neg g0, if_pos g1]) (by decide))
        have q10 : (bits .andNot .u8 y1 131 != 0) = true := by rw [q9]; simpa using by omega
        clear q9 g1
        go_wp2_with fail
        refine bodyPost_ret (v := .tuple #[.agg #[.int .i64 0, .int .i64 0, .slice none 0 0], .int .i64 14]) (by simp [results, Try.results16, go_sem, d0, d1, d2]) rfl ?_
        obtain ⟨e1, e2, e3⟩ := HF.out (by rw [HY.out]; decide)
        rw [HY.out, e1, e2, e3]
        exact ⟨none, 0, rfl, World.ownsRow_nil _ _ _ _, ((hbl.out.setCell (Nat.le_refl _) _).setCell (Nat.le_refl _) _).setCell (Nat.le_refl _) _⟩
      have HI0 : Hid (decItemErr l k = 0) := by unfold Hid; rw [HIE.out, if_neg g0, if_neg g1]
      have q10 : (bits .andNot .u8 y1 131 != 0) = false := by rw [q9]; simpa using by omega
      clear q9 g1
      have ct : wr.cell? ⟨tb, 2, none⟩ = some (.slice Av k cap) := hbt.out.cell 2
      have htr : tb < wr.heap.size := hbt.out.lt
      have hbr : b < wr.heap.size := by have := hbl.out.size; omega
      have hnt : some tb ≠ (Value.slice Av k cap).ownBlock := fun e => by have := (hown.out.lt tb e.symm).1; omega
      have hnb : some b ≠ (Value.slice Av k cap).ownBlock := fun e => by have := (hown.out.lt b e.symm).1; omega
      go_wp2_with fail
      have j5 : 5 ≤ n - (4 + 5 * k) := by omega
      generalize off + (4 + 5 * k) = o5 at *
      generalize n - (4 + 5 * k) = ln at *
      generalize c - (4 + 5 * k) = cn at *
      have j0 : 0 < ln := by omega
      have j1 : (1 : Int) < (ln : Int) := by omega
      have j2 : (2 : Int) < (ln : Int) := by omega
      have j3 : (3 : Int) < (ln : Int) := by omega
      have j4 : (4 : Int) < (ln : Int) := by omega
      refine wp_region_J (S := (fun w' => w'.cell? ⟨b, o5, none⟩ = some (.int .u8 y0) ∧ w'.cell? ⟨b, o5 + 1, none⟩ = some (.int .u8 y1) ∧ w'.cell? ⟨b, o5 + 2, none⟩ = some (.int .u8 y2) ∧ w'.cell? ⟨b, o5 + 3, none⟩ = some (.int .u8 y3) ∧ w'.cell? ⟨b, o5 + 4, none⟩ = some (.int .u8 y4) ∧ w'.cell? ⟨tb, 2, none⟩ = some (.slice Av k cap))) (J := [36]) (by kernel_rfl) ?_ (fun hHeld => ?_)
      · exact ⟨x0, x1, x2, x3, x4, ct⟩
      try dsimp only at hHeld
      refine wpAnyJ_take (i := 0) (d := some 68) (v := ?_) rfl rfl (by kernel_rfl) (by kernel_rfl) (by kernel_rfl) (by kernel_rfl) (by kernel_rfl) (fun _ _ _ h => h) (Or.inl ⟨by rfl, ?_⟩) hHeld ?_
      rotate_left
      · (intro w hSw; (try dsimp only at hSw); go_simp; try with_reducible rfl)
      try simp only [Act.put, List.setIfInBounds_toArray, List.set_cons_zero, List.set_cons_succ]
      refine wpAnyJ_take (i := 1) (d := some 69) (v := ?_) rfl rfl (by kernel_rfl) (by kernel_rfl) (by kernel_rfl) (by kernel_rfl) (by kernel_rfl) (fun _ _ _ h => h) (Or.inl ⟨by rfl, ?_⟩) hHeld ?_
      rotate_left
      · (intro w hSw; (try dsimp only at hSw); go_simp; try with_reducible rfl)
      try simp only [Act.put, List.setIfInBounds_toArray, List.set_cons_zero, List.set_cons_succ]
      refine wpAnyJ_take (i := 2) (d := some 70) (v := ?_) rfl rfl (by kernel_rfl) (by kernel_rfl) (by kernel_rfl) (by kernel_rfl) (by kernel_rfl) (fun _ _ _ h => h) (Or.inl ⟨by rfl, ?_⟩) hHeld ?_
      rotate_left
      · (intro w hSw; (try dsimp only at hSw); go_simp; try with_reducible rfl)
      try simp only [Act.put, List.setIfInBounds_toArray, List.set_cons_zero, List.set_cons_succ]
      refine wpAnyJ_take (i := 3) (d := some 71) (v := ?_) rfl rfl (by kernel_rfl) (by kernel_rfl) (by kernel_rfl) (by kernel_rfl) (by kernel_rfl) (fun _ _ _ h => h) (Or.inl ⟨by rfl, ?_⟩) hHeld ?_
      rotate_left
      · (intro w hSw; (try dsimp only at hSw); go_simp; try with_reducible rfl)
      try simp only [Act.put, List.setIfInBounds_toArray, List.set_cons_zero, List.set_cons_succ]
      refine wpAnyJ_take (i := 4) (d := some 72) (v := ?_) rfl rfl (by kernel_rfl) (by kernel_rfl) (by kernel_rfl) (by kernel_rfl) (by kernel_rfl) (fun _ _ _ h => h) (Or.inl ⟨by rfl, ?_⟩) hHeld ?_
      rotate_left
      · (intro w hSw; (try dsimp only at hSw); go_simp; try with_reducible rfl)
      try simp only [Act.put, List.setIfInBounds_toArray, List.set_cons_zero, List.set_cons_succ]
      refine wpAnyJ_take (i := 5) (d := some 73) (v := ?_) rfl rfl (by kernel_rfl) (by kernel_rfl) (by kernel_rfl) (by kernel_rfl) (by kernel_rfl) (fun _ _ _ h => h) (Or.inl ⟨by rfl, ?_⟩) hHeld ?_
      rotate_left
      · (intro w hSw; (try dsimp only at hSw); go_simp; try with_reducible rfl)
      try simp only [Act.put, List.setIfInBounds_toArray, List.set_cons_zero, List.set_cons_succ]
      refine wpAnyJ_take (i := 6) (d := some 74) (v := ?_) rfl rfl (by kernel_rfl) (by kernel_rfl) (by kernel_rfl) (by kernel_rfl) (by kernel_rfl) (fun _ _ _ h => h) (Or.inl ⟨by rfl, ?_⟩) hHeld ?_
      rotate_left
      · (intro w hSw; (try dsimp only at hSw); go_simp; try with_reducible rfl)
      try simp only [Act.put, List.setIfInBounds_toArray, List.set_cons_zero, List.set_cons_succ]
      refine wpAnyJ_take (i := 7) (d := some 75) (v := ?_) rfl rfl (by kernel_rfl) (by kernel_rfl) (by kernel_rfl) (by kernel_rfl) (by kernel_rfl) (fun _ _ _ h => h) (Or.inl ⟨by rfl, ?_⟩) hHeld ?_
      rotate_left
      · (intro w hSw; (try dsimp only at hSw); go_simp; try with_reducible rfl)
      try simp only [Act.put, List.setIfInBounds_toArray, List.set_cons_zero, List.set_cons_succ]
      refine wpAnyJ_take (i := 8) (d := some 76) (v := ?_) rfl rfl (by kernel_rfl) (by kernel_rfl) (by kernel_rfl) (by kernel_rfl) (by kernel_rfl) (fun _ _ _ h => h) (Or.inl ⟨by rfl, ?_⟩) hHeld ?_
      rotate_left
      · (intro w hSw; (try dsimp only at hSw); go_simp; try with_reducible rfl)
      try simp only [Act.put, List.setIfInBounds_toArray, List.set_cons_zero, List.set_cons_succ]
      refine wpAnyJ_take (i := 9) (d := some 77) (v := ?_) rfl rfl (by kernel_rfl) (by kernel_rfl) (by kernel_rfl) (by kernel_rfl) (by kernel_rfl) (fun _ _ _ h => h) (Or.inl ⟨by rfl, ?_⟩) hHeld ?_
      rotate_left
      · (intro w hSw; (try dsimp only at hSw); go_simp; try with_reducible rfl)
      try simp only [Act.put, List.setIfInBounds_toArray, List.set_cons_zero, List.set_cons_succ]
      refine wpAnyJ_take (i := 10) (d := some 78) (v := ?_) rfl rfl (by kernel_rfl) (by kernel_rfl) (by kernel_rfl) (by kernel_rfl) (by kernel_rfl) (fun _ _ _ h => h) (Or.inl ⟨by rfl, ?_⟩) hHeld ?_
      rotate_left
      · (intro w hSw; (try dsimp only at hSw); go_simp; try with_reducible rfl)
      try simp only [Act.put, List.setIfInBounds_toArray, List.set_cons_zero, List.set_cons_succ]
      refine wpAnyJ_take (i := 11) (d := some 79) (v := ?_) rfl rfl (by kernel_rfl) (by kernel_rfl) (by kernel_rfl) (by kernel_rfl) (by kernel_rfl) (fun _ _ _ h => h) (Or.inl ⟨by rfl, ?_⟩) hHeld ?_
      rotate_left
      · (intro w hSw; (try dsimp only at hSw); go_simp; try with_reducible rfl)
      try simp only [Act.put, List.setIfInBounds_toArray, List.set_cons_zero, List.set_cons_succ]
      refine wpAnyJ_take (i := 12) (d := some 80) (v := ?_) rfl rfl (by kernel_rfl) (by kernel_rfl) (by kernel_rfl) (by kernel_rfl) (by kernel_rfl) (fun _ _ _ h => h) (Or.inl ⟨by rfl, ?_⟩) hHeld ?_
      rotate_left
      · (intro w hSw; (try dsimp only at hSw); go_simp; try with_reducible rfl)
      try simp only [Act.put, List.setIfInBounds_toArray, List.set_cons_zero, List.set_cons_succ]
      refine wpAnyJ_take (i := 13) (d := some 81) (v := ?_) rfl rfl (by kernel_rfl) (by kernel_rfl) (by kernel_rfl) (by kernel_rfl) (by kernel_rfl) (fun _ _ _ h => h) (Or.inl ⟨by rfl, ?_⟩) hHeld ?_
      rotate_left
      · (intro w hSw; (try dsimp only at hSw); go_simp; try with_reducible rfl)
      try simp only [Act.put, List.setIfInBounds_toArray, List.set_cons_zero, List.set_cons_succ]
      refine wpAnyJ_take (i := 14) (d := some 82) (v := ?_) rfl rfl (by kernel_rfl) (by kernel_rfl) (by kernel_rfl) (by kernel_rfl) (by kernel_rfl) (fun _ _ _ h => h) (Or.inl ⟨by rfl, ?_⟩) hHeld ?_
      rotate_left
      · (intro w hSw; (try dsimp only at hSw); go_simp; try with_reducible rfl)
      try simp only [Act.put, List.setIfInBounds_toArray, List.set_cons_zero, List.set_cons_succ]
      refine wpAnyJ_take (i := 15) (d := some 83) (v := ?_) rfl rfl (by kernel_rfl) (by kernel_rfl) (by kernel_rfl) (by kernel_rfl) (by kernel_rfl) (fun _ _ _ h => h) (Or.inl ⟨by rfl, ?_⟩) hHeld ?_
      rotate_left
      · (intro w hSw; (try dsimp only at hSw); go_simp; try with_reducible rfl)
      try simp only [Act.put, List.setIfInBounds_toArray, List.set_cons_zero, List.set_cons_succ]
      refine wpAnyJ_take (i := 16) (d := some 84) (v := ?_) rfl rfl (by kernel_rfl) (by kernel_rfl) (by kernel_rfl) (by kernel_rfl) (by kernel_rfl) (fun _ _ _ h => h) (Or.inl ⟨by rfl, ?_⟩) hHeld ?_
      rotate_left
      · (intro w hSw; (try dsimp only at hSw); go_simp; try with_reducible rfl)
      try simp only [Act.put, List.setIfInBounds_toArray, List.set_cons_zero, List.set_cons_succ]
      refine wpAnyJ_take (i := 17) (d := some 85) (v := ?_) rfl rfl (by kernel_rfl) (by kernel_rfl) (by kernel_rfl) (by kernel_rfl) (by kernel_rfl) (fun _ _ _ h => h) (Or.inl ⟨by rfl, ?_⟩) hHeld ?_
      rotate_left
      · (intro w hSw; (try dsimp only at hSw); go_simp; try with_reducible rfl)
      try simp only [Act.put, List.setIfInBounds_toArray, List.set_cons_zero, List.set_cons_succ]
      refine wpAnyJ_take (i := 18) (d := some 86) (v := ?_) rfl rfl (by kernel_rfl) (by kernel_rfl) (by kernel_rfl) (by kernel_rfl) (by kernel_rfl) (fun _ _ _ h => h) (Or.inl ⟨by rfl, ?_⟩) hHeld ?_
      rotate_left
      · (intro w hSw; (try dsimp only at hSw); go_simp; try with_reducible rfl)
      try simp only [Act.put, List.setIfInBounds_toArray, List.set_cons_zero, List.set_cons_succ]
      refine wpAnyJ_take (i := 19) (d := some 87) (v := ?_) rfl rfl (by kernel_rfl) (by kernel_rfl) (by kernel_rfl) (by kernel_rfl) (by kernel_rfl) (fun _ _ _ h => h) (Or.inl ⟨by rfl, ?_⟩) hHeld ?_
      rotate_left
      · (intro w hSw; (try dsimp only at hSw); go_simp; try with_reducible rfl)
      try simp only [Act.put, List.setIfInBounds_toArray, List.set_cons_zero, List.set_cons_succ]
      refine wpAnyJ_take (i := 20) (d := some 88) (v := ?_) rfl rfl (by kernel_rfl) (by kernel_rfl) (by kernel_rfl) (by kernel_rfl) (by kernel_rfl) (fun _ _ _ h => h) (Or.inl ⟨by rfl, ?_⟩) hHeld ?_
      rotate_left
      · (intro w hSw; (try dsimp only at hSw); go_simp; try with_reducible rfl)
      try simp only [Act.put, List.setIfInBounds_toArray, List.set_cons_zero, List.set_cons_succ]
      refine wpAnyJ_take (i := 21) (d := some 89) (v := ?_) rfl rfl (by kernel_rfl) (by kernel_rfl) (by kernel_rfl) (by kernel_rfl) (by kernel_rfl) (fun _ _ _ h => h) (Or.inl ⟨by rfl, ?_⟩) hHeld ?_
      rotate_left
      · (intro w hSw; (try dsimp only at hSw); go_simp; try with_reducible rfl)
      try simp only [Act.put, List.setIfInBounds_toArray, List.set_cons_zero, List.set_cons_succ]
      refine wpAnyJ_take (i := 22) (d := some 90) (v := ?_) rfl rfl (by kernel_rfl) (by kernel_rfl) (by kernel_rfl) (by kernel_rfl) (by kernel_rfl) (fun _ _ _ h => h) (Or.inl ⟨by rfl, ?_⟩) hHeld ?_
      rotate_left
      · (intro w hSw; (try dsimp only at hSw); go_simp; try with_reducible rfl)
      try simp only [Act.put, List.setIfInBounds_toArray, List.set_cons_zero, List.set_cons_succ]
      refine wpAnyJ_take (i := 23) (d := some 91) (v := ?_) rfl rfl (by kernel_rfl) (by kernel_rfl) (by kernel_rfl) (by kernel_rfl) (by kernel_rfl) (fun _ _ _ h => h) (Or.inl ⟨by rfl, ?_⟩) hHeld ?_
      rotate_left
      · (intro w hSw; (try dsimp only at hSw); go_simp; try with_reducible rfl)
      try simp only [Act.put, List.setIfInBounds_toArray, List.set_cons_zero, List.set_cons_succ]
      refine wpAnyJ_take (i := 24) (d := some 92) (v := ?_) rfl rfl (by kernel_rfl) (by kernel_rfl) (by kernel_rfl) (by kernel_rfl) (by kernel_rfl) (fun _ _ _ h => h) (Or.inl ⟨by rfl, ?_⟩) hHeld ?_
      rotate_left
      · (intro w hSw; (try dsimp only at hSw); go_simp; try with_reducible rfl)
      try simp only [Act.put, List.setIfInBounds_toArray, List.set_cons_zero, List.set_cons_succ]
      refine wpAnyJ_take (i := 25) (d := some 93) (v := ?_) rfl rfl (by kernel_rfl) (by kernel_rfl) (by kernel_rfl) (by kernel_rfl) (by kernel_rfl) (fun _ _ _ h => h) (Or.inl ⟨by rfl, ?_⟩) hHeld ?_
      rotate_left
      · (intro w hSw; (try dsimp only at hSw); go_simp; try with_reducible rfl)
      try simp only [Act.put, List.setIfInBounds_toArray, List.set_cons_zero, List.set_cons_succ]
      refine wpAnyJ_take (i := 26) (d := some 94) (v := ?_) rfl rfl (by kernel_rfl) (by kernel_rfl) (by kernel_rfl) (by kernel_rfl) (by kernel_rfl) (fun _ _ _ h => h) (Or.inl ⟨by rfl, ?_⟩) hHeld ?_
      rotate_left
      · (intro w hSw; (try dsimp only at hSw); go_simp; try with_reducible rfl)
      try simp only [Act.put, List.setIfInBounds_toArray, List.set_cons_zero, List.set_cons_succ]
      refine wpAnyJ_take (i := 27) (d := some 95) (v := ?_) rfl rfl (by kernel_rfl) (by kernel_rfl) (by kernel_rfl) (by kernel_rfl) (by kernel_rfl) (fun _ _ _ h => h) (Or.inl ⟨by rfl, ?_⟩) hHeld ?_
      rotate_left
      · (intro w hSw; (try dsimp only at hSw); go_simp; try with_reducible rfl)
      try simp only [Act.put, List.setIfInBounds_toArray, List.set_cons_zero, List.set_cons_succ]
      refine wpAnyJ_take (i := 28) (d := some 96) (v := ?_) rfl rfl (by kernel_rfl) (by kernel_rfl) (by kernel_rfl) (by kernel_rfl) (by kernel_rfl) (fun _ _ _ h => h) (Or.inl ⟨by rfl, ?_⟩) hHeld ?_
      rotate_left
      · (intro w hSw; (try dsimp only at hSw); go_simp; try with_reducible rfl)
      try simp only [Act.put, List.setIfInBounds_toArray, List.set_cons_zero, List.set_cons_succ]
      refine wpAnyJ_take (i := 29) (d := some 97) (v := ?_) rfl rfl (by kernel_rfl) (by kernel_rfl) (by kernel_rfl) (by kernel_rfl) (by kernel_rfl) (fun _ _ _ h => h) (Or.inl ⟨by rfl, ?_⟩) hHeld ?_
      rotate_left
      · (intro w hSw; (try dsimp only at hSw); go_simp; try with_reducible rfl)
      try simp only [Act.put, List.setIfInBounds_toArray, List.set_cons_zero, List.set_cons_succ]
      refine wpAnyJ_take (i := 30) (d := some 98) (v := ?_) rfl rfl (by kernel_rfl) (by kernel_rfl) (by kernel_rfl) (by kernel_rfl) (by kernel_rfl) (fun _ _ _ h => h) (Or.inl ⟨by rfl, ?_⟩) hHeld ?_
      rotate_left
      · (intro w hSw; (try dsimp only at hSw); go_simp; try with_reducible rfl)
      try simp only [Act.put, List.setIfInBounds_toArray, List.set_cons_zero, List.set_cons_succ]
      refine wpAnyJ_take (i := 31) (d := some 99) (v := ?_) rfl rfl (by kernel_rfl) (by kernel_rfl) (by kernel_rfl) (by kernel_rfl) (by kernel_rfl) (fun _ _ _ h => h) (Or.inl ⟨by rfl, ?_⟩) hHeld ?_
      rotate_left
      · (intro w hSw; (try dsimp only at hSw); go_simp; try with_reducible rfl)
      try simp only [Act.put, List.setIfInBounds_toArray, List.set_cons_zero, List.set_cons_succ]
      refine wpAnyJ_take (i := 32) (d := some 100) (v := ?_) rfl rfl (by kernel_rfl) (by kernel_rfl) (by kernel_rfl) (by kernel_rfl) (by kernel_rfl) (fun _ _ _ h => h) (Or.inl ⟨by rfl, ?_⟩) hHeld ?_
      rotate_left
      · (intro w hSw; (try dsimp only at hSw); go_simp; try with_reducible rfl)
      try simp only [Act.put, List.setIfInBounds_toArray, List.set_cons_zero, List.set_cons_succ]
      refine wpAnyJ_one (k := 33) (by kernel_rfl) rfl (fun K hK => ?_)
      go_simp
      refine hK.out _ _ (fun _ => ?_) (fun hHeld' => ?_)
      · exact ⟨(World.cell?_alloc_lt _ _ _ hbr).trans x0, (World.cell?_alloc_lt _ _ _ hbr).trans x1, (World.cell?_alloc_lt _ _ _ hbr).trans x2, (World.cell?_alloc_lt _ _ _ hbr).trans x3, (World.cell?_alloc_lt _ _ _ hbr).trans x4, (World.cell?_alloc_lt _ _ _ htr).trans ct⟩
      replace hHeld := hHeld' rfl
      clear hHeld'
      try dsimp only at hHeld
      clear hK K
      try simp only [Act.put, List.setIfInBounds_toArray, List.set_cons_zero, List.set_cons_succ]
      refine wpAnyJ_one (k := 34) (by kernel_rfl) rfl (fun K hK => ?_)
      refine step_app_d (d := some 102) (by rfl) (by rfl) _ _ (by rfl) el_item (by rfl) (World.ownsRow.drew (hown.out.alloc _)) (by rfl) (Sl.drew (Sl.newest (n := 1) rfl (by rfl) (by decide))) (by simp [Value.oneCell']) (by omega) (by omega) (by simp; omega) ?_
      intro A' cap' we howne hgre hate
      have hfar : ∀ p : Addr, p.block < wr.heap.size → some p.block ≠ (Value.slice Av k cap).ownBlock → we.cell? p = wr.cell? p := fun p hp hne => (hgre.cell_far p (by simp; omega) hne).trans (World.cell?_alloc_lt _ _ _ hp)
      have hte := Lib.hid (Blk.grown (w := (wr.alloc _).drew) (hbt.out.alloc _) hgre hnt)
      have cte : we.cell? ⟨tb, 2, none⟩ = some (.slice Av k cap) := hte.out.cell 2
      have fte : we.frozen? ⟨tb, 2, none⟩ = false := hte.out.frozen 2
      refine hK.out _ _ (fun _ => ?_) (fun hHeld' => ?_)
      · exact ⟨(hfar _ hbr hnb).trans x0, (hfar _ hbr hnb).trans x1, (hfar _ hbr hnb).trans x2, (hfar _ hbr hnb).trans x3, (hfar _ hbr hnb).trans x4, cte⟩
      replace hHeld := hHeld' rfl
      clear hHeld'
      try dsimp only at hHeld
      clear hK K
      try simp only [Act.put, List.setIfInBounds_toArray, List.set_cons_zero, List.set_cons_succ]
      refine wpAnyJ_take (i := 35) (d := some 103) (v := ?_) rfl rfl (by kernel_rfl) (by kernel_rfl) (by kernel_rfl) (by kernel_rfl) (by kernel_rfl) (fun _ _ _ h => h) (Or.inl ⟨by rfl, ?_⟩) hHeld ?_
      rotate_left
      · (intro w hSw; (try dsimp only at hSw); go_simp; try with_reducible rfl)
      try simp only [Act.put, List.setIfInBounds_toArray, List.set_cons_zero, List.set_cons_succ]
      refine wpAnyJ_one (k := 36) (by kernel_rfl) rfl (fun K hK => ?_)
      go_simp
      refine hK.out _ _ (fun h => by cases h) (fun _ => ?_)
      clear hHeld
      clear hK K
      try simp only [Act.put, List.setIfInBounds_toArray, List.set_cons_zero, List.set_cons_succ]
      refine wpAnyJ_done (by kernel_rfl) ?_ _

      go_wp2_with fail
      go_roundw
      case rel =>
        refine ⟨k + 1, cap', A', by omega, by go_num, ?_, hte.out.set 2 _, ?_, ?_, ?_⟩
        · intro j hj
          rcases Nat.lt_succ_iff_lt_or_eq.1 hj with h | h
          · exact hok.out j h
          · rw [h]; exact HI0.out
        · unfold Hid
          rw [decItems_succ, List.flatMap_append, HIT.out]
          have e4 := and3 y1 b10 b11
          have e5 := and128 y1 b10 b11
          have e6 := or24 y2 y3 y4 ⟨b20, b21⟩ ⟨b30, b31⟩ ⟨b40, b41⟩
          have n0 : IntKind.i64.wrap y0 = y0 := IntWalk.i64_in _ (by omega)
          have n1 : IntKind.i64.wrap (y1 % 4) = y1 % 4 := IntWalk.i64_in _ (by omega)
          have n2 : IntKind.i64.wrap y2 = y2 := IntWalk.i64_in _ (by omega)
          have n3 : IntKind.i64.wrap y3 = y3 := IntWalk.i64_in _ (by omega)
          have n4 : IntKind.i64.wrap y4 = y4 := IntWalk.i64_in _ (by omega)
          have n5 : IntKind.i64.wrap (y2 * 65536) = y2 * 65536 := IntWalk.i64_in _ (by omega)
          have n6 : IntKind.i64.wrap (y3 * 256) = y3 * 256 := IntWalk.i64_in _ (by omega)
          rw [e4, e5, n0, n1, n2, n3, n4, n5, n6, e6] at howne
          exact ownsRow_setCell_below howne (a := ⟨tb, 2, none⟩) (by simp) _
        · exact (Blk.grown (w := (wr.alloc _).drew) (hb0.out.alloc _) hgre (fun e => by have := (hown.out.lt _ e.symm).1; omega)).far (by simpa using by omega) _
        · exact (Below.grown ((hbl.out.alloc hbl.out.size _).drew) hgre (by simp; have := hbl.out.size; omega) (fun g hg => by have := (hown.out.lt g hg).1; omega)).setCell (by simpa using by omega) _
      case measure => simp [intOf]; omega
    · have hkm : k = m := by omega
      subst hkm
      have c0 : wr.cell? ⟨tb, 0, none⟩ = some (.int .i64 st) := hbt.out.cell 0
      have c1 : wr.cell? ⟨tb, 1, none⟩ = some (.int .i64 sq) := hbt.out.cell 1
      have c2 : wr.cell? ⟨tb, 2, none⟩ = some (.slice Av k cap) := hbt.out.cell 2
      have h0 : Hid (decErr l = 0) := by unfold Hid; rw [HE.out]; exact firstI_zero _ hok.out
      go_wp2_with fail
      refine bodyPost_ret (v := .tuple #[.agg #[.int .i64 st, .int .i64 sq, .slice Av k cap], .int .i64 0]) (by simp [results, Try.results16, go_sem, d0, d1, d2]) rfl ?_
      rw [show decSt l = st from by rw [decSt, if_pos h0.out]; exact HST.out, show decSq l = sq from by rw [decSq, if_pos h0.out]; exact HSQ.out, show decL l = decItems l k from by rw [decL, if_pos h0.out, HM.out], h0.out]
      refine ⟨Av, cap, by rw [decItems_len], ?_, ((hbl.out.setCell (Nat.le_refl _) _).setCell (Nat.le_refl _) _).setCell (Nat.le_refl _) _⟩
      rw [decItems_len]
      exact (ownsRow_setCell_below (ownsRow_setCell_below (ownsRow_setCell_below hown.out (a := ⟨w.heap.size, 0, none⟩) (by simpa using by omega) _) (a := ⟨w.heap.size, 1, none⟩) (by simpa using by omega) _) (a := ⟨w.heap.size, 2, none⟩) (by simpa using by omega) _).mono (by omega)
end Go.Proofs.Ytjinhfomfbcnjaa
