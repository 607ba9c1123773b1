/-
  Walk of the references of layer 9: Decode.
-/
import Derived.Test.YtjinhfomfbcnjaaTeleR1
import Derived.Test.YtjinhfomfbcnjaaTeleCt
import Derived.Test.YtjinhfomfbcnjaaTeleL
import Derived.Test.YtjinhfomfbcnjaaOrd
namespace Go.Proofs.Ytjinhfomfbcnjaa
open Go.RowKit
attribute [local go_sem ↓] Go.wp_at_zero Go.wp_at_succ
theorem and124 (x : Int) (h0 : 0 ≤ x) (h1 : x < 256) : bits .and .u8 x 124 = x % 128 / 4 * 4 := by
  rw [u8_and x 124 h0 h1 (by decide) (by decide)]
  obtain ⟨n, rfl⟩ := Int.eq_ofNat_of_zero_le h0
  rw [Int.toNat_natCast, show ((124 : Int).toNat) = 124 from rfl]
  have hn : n < 256 := by omega
  have : ∀ m : Nat, m < 256 → m &&& 124 = m % 128 / 4 * 4 := by decide +kernel
  rw [this n hn]; omega

set_option maxRecDepth 100000 in
set_option maxHeartbeats 4000000 in
theorem rdecode_any (A : Option Addr) (n c B : Nat) (l : List UInt8) (w : World) (hr : Sl w B 1 A n c (bytesV l)) (hB : B ≤ w.heap.size) : Calls Try.prog 26 #[.slice A n c] w (RetTele w (decSt l) (decSq l) (decL l) (decErr l)) := by
  have HL := Lib.hid (hr.len (fun _ => rfl) (by decide))
  obtain ⟨hnc, hcm⟩ := hr.le
  have HR := Lib.hid hr; clear hr
  have hfail : decErr l ≠ 0 → decSt l = 0 ∧ decSq l = 0 ∧ decL l = [] := fun h => ⟨if_neg h, if_neg h, if_neg h⟩
  have HF := Lib.hid hfail; clear hfail
  by_cases h6 : n < 6
  · have HE : Hid (decErr l = 13) := by unfold Hid; rw [decErr, if_pos (by rw [HL.out]; exact h6)]
    have h6' : decide ((n : Int) < 6) = true := by simp; omega
    go_enter Try.func26, Try.ntmps26
    go_wp2_with fail
    refine bodyPost_ret (v := .tuple #[.agg #[.int .i64 0, .int .i64 0, .slice none 0 0], .int .i64 13]) (by simp [results, Try.results26, go_sem]) rfl ?_
    obtain ⟨e1, e2, e3⟩ := HF.out (by rw [HE.out]; decide)
    rw [HE.out, e1, e2, e3]
    exact ⟨none, 0, rfl, World.ownsRow_nil _ _ _ _, (Below.refl _ _).alloc (Nat.le_refl _) _⟩
  have h6' : decide ((n : Int) < 6) = false := by simp; omega
  obtain ⟨b, off, rfl, hb, hc⟩ := HR.out.bytes (by omega)
  have hbw : b < w.heap.size := by omega
  have c0 : w.cell? ⟨b, off, none⟩ = some (.int .u8 (l.getD 0 0).toNat) := hc 0 (by omega)
  have c1 : w.cell? ⟨b, off + 1, none⟩ = some (.int .u8 (byteI l 1)) := hc 1 (by omega)
  have c2 : w.cell? ⟨b, off + 2, none⟩ = some (.int .u8 (byteI l 2)) := hc 2 (by omega)
  have c3 : w.cell? ⟨b, off + 3, none⟩ = some (.int .u8 (l.getD 3 0).toNat) := hc 3 (by omega)
  have HC := Lib.hid hc; clear hc
  have i0 : 0 < n := by omega
  have i1 : (1 : Int) < (n : Int) := by omega
  have i2 : (2 : Int) < (n : Int) := by omega
  have i3 : (3 : Int) < (n : Int) := by omega
  have hsz : sizeT l = if l.getD 0 0 ≠ 104 then 0 else if 32 < (l.getD 3 0).toNat then 0 else 6 + 5 * (l.getD 3 0).toNat := by rw [sizeT, if_neg (by rw [HL.out]; omega)]
  have HS0 := Lib.hid hsz; clear hsz
  have HCT : Hid (countT l = (l.getD 3 0).toNat) := rfl
  obtain ⟨x0, hx0e⟩ : ∃ x0, l.getD 0 0 = x0 := ⟨_, rfl⟩
  obtain ⟨x3, hx3e⟩ : ∃ x3, l.getD 3 0 = x3 := ⟨_, rfl⟩
  rw [hx0e] at HS0 c0
  rw [hx3e] at HS0 c3 HCT
  clear hx0e hx3e
  have hx0 : x0.toNat < 256 := x0.toNat_lt
  have hx3 : x3.toNat < 256 := x3.toNat_lt
  by_cases e0 : x0 = 104; rotate_left
  · have q0 : ((x0.toNat : Int) != 104) = true := by simpa using u8_ne e0
    have HE : Hid (decErr l = 14) := by unfold Hid; rw [decErr, if_neg (by rw [HL.out]; exact h6), if_pos (by rw [HS0.out, if_pos e0])]
    clear e0
    go_enter Try.func26, Try.ntmps26
    go_wp2_with fail
    refine bodyPost_ret (v := .tuple #[.agg #[.int .i64 0, .int .i64 0, .slice none 0 0], .int .i64 14]) (by simp [results, Try.results26, go_sem]) rfl ?_
    obtain ⟨e1, e2, e3⟩ := HF.out (by rw [HE.out]; decide)
    rw [HE.out, e1, e2, e3]
    exact ⟨none, 0, rfl, World.ownsRow_nil _ _ _ _, (Below.refl _ _).alloc (Nat.le_refl _) _⟩
  subst e0
  by_cases e3 : 32 < x3.toNat
  · have q3 : decide ((32 : Int) < (x3.toNat : Int)) = true := by simp; omega
    have HE : Hid (decErr l = 14) := by unfold Hid; rw [decErr, if_neg (by rw [HL.out]; exact h6), if_pos (by rw [HS0.out, if_neg (by simp), if_pos e3])]
    go_enter Try.func26, Try.ntmps26
    go_wp2_with fail
    refine bodyPost_ret (v := .tuple #[.agg #[.int .i64 0, .int .i64 0, .slice none 0 0], .int .i64 14]) (by simp [results, Try.results26, go_sem]) rfl ?_
    obtain ⟨e1, e2, e3⟩ := HF.out (by rw [HE.out]; decide)
    rw [HE.out, e1, e2, e3]
    exact ⟨none, 0, rfl, World.ownsRow_nil _ _ _ _, (Below.refl _ _).alloc (Nat.le_refl _) _⟩
  have q3 : decide ((32 : Int) < (x3.toNat : Int)) = false := by simp; omega
  have HSZ : Hid (sizeT l = 6 + 5 * x3.toNat) := by unfold Hid; rw [HS0.out, if_neg (by simp), if_neg e3]
  obtain ⟨m, hm⟩ : ∃ m, x3.toNat = m := ⟨_, rfl⟩
  rw [hm] at HSZ HCT c3 e3 hx3 q3
  clear hm HS0
  have herr : decErr l = if n < 6 + 5 * m then 13 else if 6 + 5 * m < n then 14 else if crcAll l ≠ 0 then 12 else firstI (decItemErr l) m := by
    rw [decErr, HL.out, HSZ.out, HCT.out, if_neg h6, if_neg (by omega)]
  have HER := Lib.hid herr; clear herr
  by_cases h1 : n < 6 + 5 * m
  · have HE : Hid (decErr l = 13) := by unfold Hid; rw [HER.out, if_pos h1]
    have q1 : decide ((n : Int) < 6 + 5 * (m : Int)) = true := by simp; omega
    go_enter Try.func26, Try.ntmps26
    go_wp2_with fail
    refine bodyPost_ret (v := .tuple #[.agg #[.int .i64 0, .int .i64 0, .slice none 0 0], .int .i64 13]) (by simp [results, Try.results26, go_sem]) rfl ?_
    obtain ⟨e1, e2, e3⟩ := HF.out (by rw [HE.out]; decide)
    rw [HE.out, e1, e2, e3]
    exact ⟨none, 0, rfl, World.ownsRow_nil _ _ _ _, (Below.refl _ _).alloc (Nat.le_refl _) _⟩
  have q1 : decide ((n : Int) < 6 + 5 * (m : Int)) = false := by simp; omega
  by_cases h2 : 6 + 5 * m < n
  · have HE : Hid (decErr l = 14) := by unfold Hid; rw [HER.out, if_neg h1, if_pos h2]
    have q2 : decide (6 + 5 * (m : Int) < (n : Int)) = true := by simp; omega
    go_enter Try.func26, Try.ntmps26
    go_wp2_with fail
    refine bodyPost_ret (v := .tuple #[.agg #[.int .i64 0, .int .i64 0, .slice none 0 0], .int .i64 14]) (by simp [results, Try.results26, go_sem]) rfl ?_
    obtain ⟨e1, e2, e3⟩ := HF.out (by rw [HE.out]; decide)
    rw [HE.out, e1, e2, e3]
    exact ⟨none, 0, rfl, World.ownsRow_nil _ _ _ _, (Below.refl _ _).alloc (Nat.le_refl _) _⟩
  have q2 : decide (6 + 5 * (m : Int) < (n : Int)) = false := by simp; omega
  obtain ⟨N, hN⟩ : ∃ N, 4 + 5 * m = N := ⟨_, rfl⟩
  have hnN : n = N + 2 := by omega
  have HLN : Hid (l.length = N + 2) := by unfold Hid; rw [HL.out, hnN]
  have hcl := crc_last HLN.out
  have HCL := Lib.hid hcl; clear hcl
  have hN' : (6 + 5 * (m : Int)) - 2 = (N : Int) := by omega
  have hN'' : (6 + 5 * (m : Int)) - 1 = (N : Int) + 1 := by omega
  have cN : w.cell? ⟨b, off + N, none⟩ = some (.int .u8 (l.getD N 0).toNat) := HC.out N (by omega)
  have cN1 : w.cell? ⟨b, off + (N + 1), none⟩ = some (.int .u8 (l.getD (N + 1) 0).toNat) := HC.out (N + 1) (by omega)
  have HUP := Lib.hid (HR.out.upto (k := N) (by omega))
  have iN : (N : Int) < (n : Int) := by omega
  have iN1 : (N : Int) + 1 < (n : Int) := by omega
  have iNc : (N : Int) ≤ (c : Int) := by omega
  have iNt : ((N : Int) + 1).toNat = N + 1 := by omega
  generalize hcr : crcAll (l.take N) = cr at *
  have HCR := Lib.hid hcr; clear hcr
  have hcr16 : cr.toNat < 65536 := cr.isLt
  have cr1 : (cr.toNat : Int) / 256 % 256 = (cr.toNat : Int) / 256 := by omega
  have HU1 := Lib.hid (u8_toNat ((cr.toNat : Int) / 256))
  have HU2 := Lib.hid (u8_toNat (cr.toNat : Int))
  generalize hyN : l.getD N 0 = yN at *
  generalize hyM : l.getD (N + 1) 0 = yM at *
  have HN := Lib.hid hN; have HNN := Lib.hid hnN
  clear hN hnN hyN hyM
  have hyN : yN.toNat < 256 := yN.toNat_lt
  have hyM : yM.toNat < 256 := yM.toNat_lt
  have hiff : crcAll l = 0 ↔ ((yN.toNat : Int) = (cr.toNat : Int) / 256 ∧ (yM.toNat : Int) = (cr.toNat : Int) % 256) := by
    have h1 := HU1.out; have h2 := HU2.out
    rw [HCL.out]
    constructor
    · rintro ⟨g1, g2⟩; rw [g1, g2, h1, h2]; exact ⟨cr1, rfl⟩
    · rintro ⟨g1, g2⟩
      exact ⟨UInt8.toNat_inj.1 (by omega), UInt8.toNat_inj.1 (by omega)⟩
  have HIFF := Lib.hid hiff; clear hiff HCL HU1 HU2
  by_cases g1 : (yN.toNat : Int) = (cr.toNat : Int) / 256; rotate_left
  · have HE : Hid (decErr l = 12) := by unfold Hid; rw [HER.out, if_neg h1, if_neg h2, if_pos (fun e => g1 (HIFF.out.1 e).1)]
    have z1 : ((yN.toNat : Int) != (cr.toNat : Int) / 256) = true := by simpa using g1
    clear g1
    go_enter Try.func26, Try.ntmps26
    go_wp2_with fail
    refine (rchecksum_any _ N c B (l.take N) _ (HUP.out.alloc hB _)).mono ?_
    rintro e w1 ⟨rfl, rfl⟩
    rw [HCR.out]
    go_wp2_with fail
    refine bodyPost_ret (v := .tuple #[.agg #[.int .i64 0, .int .i64 0, .slice none 0 0], .int .i64 12]) (by simp [results, Try.results26, go_sem]) rfl ?_
    obtain ⟨e1, e2, e3⟩ := HF.out (by rw [HE.out]; decide)
    rw [HE.out, e1, e2, e3]
    exact ⟨none, 0, rfl, World.ownsRow_nil _ _ _ _, (Below.refl _ _).alloc (Nat.le_refl _) _⟩
  by_cases g2 : (yM.toNat : Int) = (cr.toNat : Int) % 256; rotate_left
  · have HE : Hid (decErr l = 12) := by unfold Hid; rw [HER.out, if_neg h1, if_neg h2, if_pos (fun e => g2 (HIFF.out.1 e).2)]
    have z1 : ((yN.toNat : Int) != (cr.toNat : Int) / 256) = false := by simpa using g1
    have z2 : ((yM.toNat : Int) != (cr.toNat : Int) % 256) = true := by simpa using g2
    clear g1 g2
    go_enter Try.func26, Try.ntmps26
    go_wp2_with fail
    refine (rchecksum_any _ N c B (l.take N) _ (HUP.out.alloc hB _)).mono ?_
    rintro e w1 ⟨rfl, rfl⟩
    rw [HCR.out]
    go_wp2_with fail
    refine bodyPost_ret (v := .tuple #[.agg #[.int .i64 0, .int .i64 0, .slice none 0 0], .int .i64 12]) (by simp [results, Try.results26, go_sem]) rfl ?_
    obtain ⟨e1, e2, e3⟩ := HF.out (by rw [HE.out]; decide)
    rw [HE.out, e1, e2, e3]
    exact ⟨none, 0, rfl, World.ownsRow_nil _ _ _ _, (Below.refl _ _).alloc (Nat.le_refl _) _⟩
  have HE : Hid (decErr l = firstI (decItemErr l) m) := by unfold Hid; rw [HER.out, if_neg h1, if_neg h2, if_neg (fun h => h (HIFF.out.2 ⟨g1, g2⟩))]
  have z1 : ((yN.toNat : Int) != (cr.toNat : Int) / 256) = false := by simpa using g1
  have z2 : ((yM.toNat : Int) != (cr.toNat : Int) % 256) = false := by simpa using g2
  clear g1 g2 HIFF HER
  obtain ⟨st, hst⟩ : ∃ st, byteI l 1 = st := ⟨_, rfl⟩
  obtain ⟨sq, hsq⟩ : ∃ sq, byteI l 2 = sq := ⟨_, rfl⟩
  obtain ⟨hst0, hst1⟩ := byteI_in l 1
  obtain ⟨hsq0, hsq1⟩ := byteI_in l 2
  rw [hst] at c1 hst0 hst1
  rw [hsq] at c2 hsq0 hsq1
  have HST := Lib.hid hst; have HSQ := Lib.hid hsq; clear hst hsq
  go_enter Try.func26, Try.ntmps26
  go_wp2_with fail
  refine (rchecksum_any _ N c B (l.take N) _ (HUP.out.alloc hB _)).mono ?_
  rintro e w1 ⟨rfl, rfl⟩
  rw [HCR.out]
  go_wp2_with fail
  generalize hW : w.alloc (.cells #[.int .i64 0, .int .i64 0, .slice none 0 0] 31) = W
  have hb0 : Blk W w.heap.size 31 #[.int .i64 0, .int .i64 0, .slice none 0 0] := hW ▸ Blk.new _ _ _
  have hbl : Below w.heap.size w W := hW ▸ (Below.refl _ _).alloc (Nat.le_refl _) _
  have hWs : W.heap.size = w.heap.size + 1 := by rw [← hW]; simp
  clear hW
  replace c1 : W.cell? ⟨b, off + 1, none⟩ = some (.int .u8 st) := (hbl.cell (p := ⟨b, off + 1, none⟩) hbw).trans c1
  replace c2 : W.cell? ⟨b, off + 2, none⟩ = some (.int .u8 sq) := (hbl.cell (p := ⟨b, off + 2, none⟩) hbw).trans c2
  have hbW : b < W.heap.size := by omega
  have hne1 := World.new_ne W _ c1
  have HB0 := Lib.hid hb0; have HBL := Lib.hid hbl; have HWS := Lib.hid hWs; clear hb0 hbl hWs
  have e1 : IntKind.i64.wrap st = st := IntWalk.i64_in _ (by omega)
  have e2 : IntKind.i64.wrap sq = sq := IntWalk.i64_in _ (by omega)
  clear c0 c3 cN cN1 z1 z2 cr1
  go_region_held3 (fun w' => w'.cell? ⟨b, off + 1, none⟩ = some (.int .u8 st) ∧ w'.cell? ⟨b, off + 2, none⟩ = some (.int .u8 sq)) (go_keep) (fail)
  clear e1 e2 hne1
  go_wp2_with fail
  obtain ⟨tb, htb⟩ : ∃ tb, tb = W.heap.size := ⟨_, rfl⟩
  have htw : tb = w.heap.size + 1 := htb.trans HWS.out
  rw [← htb]
  generalize hW2 : (W.alloc (.cells #[.int .i64 st, .int .i64 sq, .slice none 0 0] 31)).drew = W2
  have hbt : Blk W2 tb 31 #[.int .i64 st, .int .i64 sq, .slice none 0 0] := by rw [← hW2, htb]; exact Blk.new _ _ _
  have hb0 : Blk W2 w.heap.size 31 #[.int .i64 0, .int .i64 0, .slice none 0 0] := by rw [← hW2]; exact HB0.out.alloc _
  have hbl : Below w.heap.size w W2 := by rw [← hW2]; exact (HBL.out.alloc (by rw [HWS.out]; omega) _).drew
  have htl : w.heap.size < tb := by omega
  have HBT := Lib.hid hbt; have HB0' := Lib.hid hb0; have HBL' := Lib.hid hbl; have HTW := Lib.hid htw
  clear hW2 htb hbt hb0 hbl htw c1 c2 HB0 HBL HWS hbW
  go_loopw [7] (fun i wr => ∃ (k cap : Nat) (Av : Option Addr), k ≤ m ∧ i = .int .i64 ((4 + 5 * k : Nat) : Int) ∧ Hid (∀ j, j < k → decItemErr l j = 0) ∧ Hid (Blk wr tb 31 #[.int .i64 st, .int .i64 sq, .slice Av k cap]) ∧ Hid (wr.ownsRow (tb + 1) 38 4 (.slice Av k cap) k ((decItems l k).flatMap Item.cells)) ∧
    Hid (Blk wr w.heap.size 31 #[.int .i64 0, .int .i64 0, .slice none 0 0]) ∧ Hid (Below w.heap.size w wr)) (fun i _ => n - (intOf i).toNat)
  case atStart => exact ⟨0, 0, none, Nat.zero_le _, rfl, (fun j hj => absurd hj (by omega)), HBT, World.ownsRow_nil _ _ _ _, HB0', HBL'⟩
  case round =>
    obtain ⟨k, cap, Av, hk, rfl, hok, hbt, hown, hb0, hbl⟩ := hrel
    have d0 : wr.cell? ⟨w.heap.size, 0, none⟩ = some (.int .i64 0) := hb0.out.cell 0
    have d1 : wr.cell? ⟨w.heap.size, 1, none⟩ = some (.int .i64 0) := hb0.out.cell 1
    have d2 : wr.cell? ⟨w.heap.size, 2, none⟩ = some (.slice none 0 0) := hb0.out.cell 2
    have f0 := hb0.out.frozen 0
    have f1 := hb0.out.frozen 1
    have f2 := hb0.out.frozen 2
    have hNm := HN.out
    have hnN := HNN.out
    by_cases hlt : k < m
    · have hcel : ∀ j, j < 5 → wr.cell? ⟨b, off + (4 + 5 * k + j), none⟩ = some (.int .u8 (byteI l (4 + 5 * k + j))) := fun j hj =>
        (hbl.out.cell (p := ⟨b, off + (4 + 5 * k + j), none⟩) hbw).trans (HC.out (4 + 5 * k + j) (by omega))
      have x0 : wr.cell? ⟨b, off + (4 + 5 * k), none⟩ = some (.int .u8 (byteI l (4 + 5 * k))) := hcel 0 (by decide)
      have x1 := hcel 1 (by decide)
      have x2 := hcel 2 (by decide)
      have x3 := hcel 3 (by decide)
      have x4 := hcel 4 (by decide)
      have HIE : Hid (decItemErr l k = if 64 ≤ byteI l (4 + 5 * k) then 8 else if byteI l (4 + 5 * k + 1) % 128 / 4 ≠ 0 then 14 else 0) := rfl
      have HIT : Hid (decItem l k = ⟨byteI l (4 + 5 * k), byteI l (4 + 5 * k + 1) % 4, decide (128 ≤ byteI l (4 + 5 * k + 1)), byteI l (4 + 5 * k + 2) * 65536 + byteI l (4 + 5 * k + 3) * 256 + byteI l (4 + 5 * k + 4)⟩) := rfl
      obtain ⟨b00, b01⟩ := byteI_in l (4 + 5 * k)
      obtain ⟨b10, b11⟩ := byteI_in l (4 + 5 * k + 1)
      obtain ⟨b20, b21⟩ := byteI_in l (4 + 5 * k + 2)
      obtain ⟨b30, b31⟩ := byteI_in l (4 + 5 * k + 3)
      obtain ⟨b40, b41⟩ := byteI_in l (4 + 5 * k + 4)
      clear hcel
      generalize byteI l (4 + 5 * k) = y0 at *
      generalize byteI l (4 + 5 * k + 1) = y1 at *
      generalize byteI l (4 + 5 * k + 2) = y2 at *
      generalize byteI l (4 + 5 * k + 3) = y3 at *
      generalize byteI l (4 + 5 * k + 4) = y4 at *
      have hgo : ∀ e : Int, decItemErr l k = e → e ≠ 0 → decErr l = e := fun e he hne => by rw [HE.out, firstI_of _ hok.out hlt (by rw [he]; exact hne), he]
      have HGO := Lib.hid hgo; clear hgo
      obtain ⟨p, hp⟩ : ∃ p, 4 + 5 * k = p := ⟨_, rfl⟩
      rw [hp] at x0 x1 x2 x3 x4 ⊢
      have HP := Lib.hid hp
      have p5 : p + 5 ≤ N := by omega
      have pN : decide (p < N) = true := by simp; omega
      have p0 : (p : Int) < (n : Int) := by omega
      have p1 : (p : Int) + 1 < (n : Int) := by omega
      have p1t : ((p : Int) + 1).toNat = p + 1 := by omega
      clear hp hNm hnN
      by_cases g0 : 64 ≤ y0
      · have HY := Lib.hid (HGO.out 8 (by rw [HIE.out, if_pos g0]) (by decide))
        go_wp2_with fail
        refine bodyPost_ret (v := .tuple #[.agg #[.int .i64 0, .int .i64 0, .slice none 0 0], .int .i64 8]) (by simp [results, Try.results26, go_sem, d0, d1, d2]) rfl ?_
        obtain ⟨e1, e2, e3⟩ := HF.out (by rw [HY.out]; decide)
        rw [HY.out, e1, e2, e3]
        exact ⟨none, 0, rfl, World.ownsRow_nil _ _ _ _, ((hbl.out.setCell (Nat.le_refl _) _).setCell (Nat.le_refl _) _).setCell (Nat.le_refl _) _⟩
      have q9 := and124 y1 b10 b11
      by_cases g1 : y1 % 128 / 4 ≠ 0
      · have HY := Lib.hid (HGO.out 14 (by rw [HIE.out, if_neg g0, if_pos g1]) (by decide))
        have q10 : (bits .and .u8 y1 124 != 0) = true := by rw [q9]; simpa using by omega
        clear q9 g1
        go_wp2_with fail
        refine bodyPost_ret (v := .tuple #[.agg #[.int .i64 0, .int .i64 0, .slice none 0 0], .int .i64 14]) (by simp [results, Try.results26, go_sem, d0, d1, d2]) rfl ?_
        obtain ⟨e1, e2, e3⟩ := HF.out (by rw [HY.out]; decide)
        rw [HY.out, e1, e2, e3]
        exact ⟨none, 0, rfl, World.ownsRow_nil _ _ _ _, ((hbl.out.setCell (Nat.le_refl _) _).setCell (Nat.le_refl _) _).setCell (Nat.le_refl _) _⟩
      have HI0 : Hid (decItemErr l k = 0) := by unfold Hid; rw [HIE.out, if_neg g0, if_neg g1]
      have q10 : (bits .and .u8 y1 124 != 0) = false := by rw [q9]; simpa using by omega
      clear q9 g1
      have ct : wr.cell? ⟨tb, 2, none⟩ = some (.slice Av k cap) := hbt.out.cell 2
      have htr : tb < wr.heap.size := hbt.out.lt
      have hbr : b < wr.heap.size := by have := hbl.out.size; omega
      have hnt : some tb ≠ (Value.slice Av k cap).ownBlock := fun e => by have := (hown.out.lt tb e.symm).1; omega
      have hnb : some b ≠ (Value.slice Av k cap).ownBlock := fun e => by have := (hown.out.lt b e.symm).1; omega
      have p2 : (p : Int) + 2 < (n : Int) := by omega
      have p3 : (p : Int) + 3 < (n : Int) := by omega
      have p4 : (p : Int) + 4 < (n : Int) := by omega
      have r1 : (0 : Int) ≤ (p : Int) + 1 := by omega
      have r2 : (0 : Int) ≤ (p : Int) + 2 := by omega
      have r3 : (0 : Int) ≤ (p : Int) + 3 := by omega
      have r4 : (0 : Int) ≤ (p : Int) + 4 := by omega
      have p2t : ((p : Int) + 2).toNat = p + 2 := by omega
      have p3t : ((p : Int) + 3).toNat = p + 3 := by omega
      have p4t : ((p : Int) + 4).toNat = p + 4 := by omega
      have w1' : IntKind.i64.wrap ((p : Int) + 1) = (p : Int) + 1 := IntWalk.i64_in _ (by omega)
      have w2' : IntKind.i64.wrap ((p : Int) + 2) = (p : Int) + 2 := IntWalk.i64_in _ (by omega)
      have w3' : IntKind.i64.wrap ((p : Int) + 3) = (p : Int) + 3 := IntWalk.i64_in _ (by omega)
      have w4' : IntKind.i64.wrap ((p : Int) + 4) = (p : Int) + 4 := IntWalk.i64_in _ (by omega)
      go_wp2_with fail
      refine wp_region_J (S := (fun w' => w'.cell? ⟨b, off + p, none⟩ = some (.int .u8 y0) ∧ w'.cell? ⟨b, off + (p + 1), none⟩ = some (.int .u8 y1) ∧ w'.cell? ⟨b, off + (p + 2), none⟩ = some (.int .u8 y2) ∧ w'.cell? ⟨b, off + (p + 3), none⟩ = some (.int .u8 y3) ∧ w'.cell? ⟨b, off + (p + 4), none⟩ = some (.int .u8 y4) ∧ w'.cell? ⟨tb, 2, none⟩ = some (.slice Av k cap))) (J := [47]) (by kernel_rfl) ?_ (fun hHeld => ?_)
      · exact ⟨x0, x1, x2, x3, x4, ct⟩
      try dsimp only at hHeld
      refine wpAnyJ_take (i := 0) (d := some 95) (v := ?_) rfl rfl (by kernel_rfl) (by kernel_rfl) (by kernel_rfl) (by kernel_rfl) (by kernel_rfl) (fun _ _ _ h => h) (Or.inl ⟨by rfl, ?_⟩) hHeld ?_
      rotate_left
      · (intro w hSw; (try dsimp only at hSw); go_simp; try with_reducible rfl)
      try simp only [Act.put, List.setIfInBounds_toArray, List.set_cons_zero, List.set_cons_succ]
      refine wpAnyJ_take (i := 1) (d := some 96) (v := ?_) rfl rfl (by kernel_rfl) (by kernel_rfl) (by kernel_rfl) (by kernel_rfl) (by kernel_rfl) (fun _ _ _ h => h) (Or.inl ⟨by rfl, ?_⟩) hHeld ?_
      rotate_left
      · (intro w hSw; (try dsimp only at hSw); go_simp; try with_reducible rfl)
      try simp only [Act.put, List.setIfInBounds_toArray, List.set_cons_zero, List.set_cons_succ]
      refine wpAnyJ_take (i := 2) (d := some 97) (v := ?_) rfl rfl (by kernel_rfl) (by kernel_rfl) (by kernel_rfl) (by kernel_rfl) (by kernel_rfl) (fun _ _ _ h => h) (Or.inl ⟨by rfl, ?_⟩) hHeld ?_
      rotate_left
      · (intro w hSw; (try dsimp only at hSw); go_simp; try with_reducible rfl)
      try simp only [Act.put, List.setIfInBounds_toArray, List.set_cons_zero, List.set_cons_succ]
      refine wpAnyJ_take (i := 3) (d := some 98) (v := ?_) rfl rfl (by kernel_rfl) (by kernel_rfl) (by kernel_rfl) (by kernel_rfl) (by kernel_rfl) (fun _ _ _ h => h) (Or.inl ⟨by rfl, ?_⟩) hHeld ?_
      rotate_left
      · (intro w hSw; (try dsimp only at hSw); go_simp; try with_reducible rfl)
      try simp only [Act.put, List.setIfInBounds_toArray, List.set_cons_zero, List.set_cons_succ]
      refine wpAnyJ_take (i := 4) (d := some 99) (v := ?_) rfl rfl (by kernel_rfl) (by kernel_rfl) (by kernel_rfl) (by kernel_rfl) (by kernel_rfl) (fun _ _ _ h => h) (Or.inl ⟨by rfl, ?_⟩) hHeld ?_
      rotate_left
      · (intro w hSw; (try dsimp only at hSw); go_simp; try with_reducible rfl)
      try simp only [Act.put, List.setIfInBounds_toArray, List.set_cons_zero, List.set_cons_succ]
      refine wpAnyJ_take (i := 5) (d := some 100) (v := ?_) rfl rfl (by kernel_rfl) (by kernel_rfl) (by kernel_rfl) (by kernel_rfl) (by kernel_rfl) (fun _ _ _ h => h) (Or.inl ⟨by rfl, ?_⟩) hHeld ?_
      rotate_left
      · (intro w hSw; (try dsimp only at hSw); go_simp; try with_reducible rfl)
      try simp only [Act.put, List.setIfInBounds_toArray, List.set_cons_zero, List.set_cons_succ]
      refine wpAnyJ_take (i := 6) (d := some 101) (v := ?_) rfl rfl (by kernel_rfl) (by kernel_rfl) (by kernel_rfl) (by kernel_rfl) (by kernel_rfl) (fun _ _ _ h => h) (Or.inl ⟨by rfl, ?_⟩) hHeld ?_
      rotate_left
      · (intro w hSw; (try dsimp only at hSw); go_simp; try with_reducible rfl)
      try simp only [Act.put, List.setIfInBounds_toArray, List.set_cons_zero, List.set_cons_succ]
      refine wpAnyJ_take (i := 7) (d := some 102) (v := ?_) rfl rfl (by kernel_rfl) (by kernel_rfl) (by kernel_rfl) (by kernel_rfl) (by kernel_rfl) (fun _ _ _ h => h) (Or.inl ⟨by rfl, ?_⟩) hHeld ?_
      rotate_left
      · (intro w hSw; (try dsimp only at hSw); go_simp; try with_reducible rfl)
      try simp only [Act.put, List.setIfInBounds_toArray, List.set_cons_zero, List.set_cons_succ]
      refine wpAnyJ_take (i := 8) (d := some 103) (v := ?_) rfl rfl (by kernel_rfl) (by kernel_rfl) (by kernel_rfl) (by kernel_rfl) (by kernel_rfl) (fun _ _ _ h => h) (Or.inl ⟨by rfl, ?_⟩) hHeld ?_
      rotate_left
      · (intro w hSw; (try dsimp only at hSw); go_simp; try with_reducible rfl)
      try simp only [Act.put, List.setIfInBounds_toArray, List.set_cons_zero, List.set_cons_succ]
      refine wpAnyJ_take (i := 9) (d := some 104) (v := ?_) rfl rfl (by kernel_rfl) (by kernel_rfl) (by kernel_rfl) (by kernel_rfl) (by kernel_rfl) (fun _ _ _ h => h) (Or.inl ⟨by rfl, ?_⟩) hHeld ?_
      rotate_left
      · (intro w hSw; (try dsimp only at hSw); go_simp; try with_reducible rfl)
      try simp only [Act.put, List.setIfInBounds_toArray, List.set_cons_zero, List.set_cons_succ]
      refine wpAnyJ_take (i := 10) (d := some 105) (v := ?_) rfl rfl (by kernel_rfl) (by kernel_rfl) (by kernel_rfl) (by kernel_rfl) (by kernel_rfl) (fun _ _ _ h => h) (Or.inl ⟨by rfl, ?_⟩) hHeld ?_
      rotate_left
      · (intro w hSw; (try dsimp only at hSw); go_simp; try with_reducible rfl)
      try simp only [Act.put, List.setIfInBounds_toArray, List.set_cons_zero, List.set_cons_succ]
      refine wpAnyJ_take (i := 11) (d := some 106) (v := ?_) rfl rfl (by kernel_rfl) (by kernel_rfl) (by kernel_rfl) (by kernel_rfl) (by kernel_rfl) (fun _ _ _ h => h) (Or.inl ⟨by rfl, ?_⟩) hHeld ?_
      rotate_left
      · (intro w hSw; (try dsimp only at hSw); go_simp; try with_reducible rfl)
      try simp only [Act.put, List.setIfInBounds_toArray, List.set_cons_zero, List.set_cons_succ]
      refine wpAnyJ_take (i := 12) (d := some 107) (v := ?_) rfl rfl (by kernel_rfl) (by kernel_rfl) (by kernel_rfl) (by kernel_rfl) (by kernel_rfl) (fun _ _ _ h => h) (Or.inl ⟨by rfl, ?_⟩) hHeld ?_
      rotate_left
      · (intro w hSw; (try dsimp only at hSw); go_simp; try with_reducible rfl)
      try simp only [Act.put, List.setIfInBounds_toArray, List.set_cons_zero, List.set_cons_succ]
      refine wpAnyJ_take (i := 13) (d := some 108) (v := ?_) rfl rfl (by kernel_rfl) (by kernel_rfl) (by kernel_rfl) (by kernel_rfl) (by kernel_rfl) (fun _ _ _ h => h) (Or.inl ⟨by rfl, ?_⟩) hHeld ?_
      rotate_left
      · (intro w hSw; (try dsimp only at hSw); go_simp; try with_reducible rfl)
      try simp only [Act.put, List.setIfInBounds_toArray, List.set_cons_zero, List.set_cons_succ]
      refine wpAnyJ_take (i := 14) (d := some 109) (v := ?_) rfl rfl (by kernel_rfl) (by kernel_rfl) (by kernel_rfl) (by kernel_rfl) (by kernel_rfl) (fun _ _ _ h => h) (Or.inl ⟨by rfl, ?_⟩) hHeld ?_
      rotate_left
      · (intro w hSw; (try dsimp only at hSw); go_simp; try with_reducible rfl)
      try simp only [Act.put, List.setIfInBounds_toArray, List.set_cons_zero, List.set_cons_succ]
      refine wpAnyJ_take (i := 15) (d := some 110) (v := ?_) rfl rfl (by kernel_rfl) (by kernel_rfl) (by kernel_rfl) (by kernel_rfl) (by kernel_rfl) (fun _ _ _ h => h) (Or.inl ⟨by rfl, ?_⟩) hHeld ?_
      rotate_left
      · (intro w hSw; (try dsimp only at hSw); go_simp; try with_reducible rfl)
      try simp only [Act.put, List.setIfInBounds_toArray, List.set_cons_zero, List.set_cons_succ]
      refine wpAnyJ_take (i := 16) (d := some 111) (v := ?_) rfl rfl (by kernel_rfl) (by kernel_rfl) (by kernel_rfl) (by kernel_rfl) (by kernel_rfl) (fun _ _ _ h => h) (Or.inl ⟨by rfl, ?_⟩) hHeld ?_
      rotate_left
      · (intro w hSw; (try dsimp only at hSw); go_simp; try with_reducible rfl)
      try simp only [Act.put, List.setIfInBounds_toArray, List.set_cons_zero, List.set_cons_succ]
      refine wpAnyJ_take (i := 17) (d := some 112) (v := ?_) rfl rfl (by kernel_rfl) (by kernel_rfl) (by kernel_rfl) (by kernel_rfl) (by kernel_rfl) (fun _ _ _ h => h) (Or.inl ⟨by rfl, ?_⟩) hHeld ?_
      rotate_left
      · (intro w hSw; (try dsimp only at hSw); go_simp; try with_reducible rfl)
      try simp only [Act.put, List.setIfInBounds_toArray, List.set_cons_zero, List.set_cons_succ]
      refine wpAnyJ_take (i := 18) (d := some 113) (v := ?_) rfl rfl (by kernel_rfl) (by kernel_rfl) (by kernel_rfl) (by kernel_rfl) (by kernel_rfl) (fun _ _ _ h => h) (Or.inl ⟨by rfl, ?_⟩) hHeld ?_
      rotate_left
      · (intro w hSw; (try dsimp only at hSw); go_simp; try with_reducible rfl)
      try simp only [Act.put, List.setIfInBounds_toArray, List.set_cons_zero, List.set_cons_succ]
      refine wpAnyJ_take (i := 19) (d := some 114) (v := ?_) rfl rfl (by kernel_rfl) (by kernel_rfl) (by kernel_rfl) (by kernel_rfl) (by kernel_rfl) (fun _ _ _ h => h) (Or.inl ⟨by rfl, ?_⟩) hHeld ?_
      rotate_left
      · (intro w hSw; (try dsimp only at hSw); go_simp; try with_reducible rfl)
      try simp only [Act.put, List.setIfInBounds_toArray, List.set_cons_zero, List.set_cons_succ]
      refine wpAnyJ_take (i := 20) (d := some 115) (v := ?_) rfl rfl (by kernel_rfl) (by kernel_rfl) (by kernel_rfl) (by kernel_rfl) (by kernel_rfl) (fun _ _ _ h => h) (Or.inl ⟨by rfl, ?_⟩) hHeld ?_
      rotate_left
      · (intro w hSw; (try dsimp only at hSw); go_simp; try with_reducible rfl)
      try simp only [Act.put, List.setIfInBounds_toArray, List.set_cons_zero, List.set_cons_succ]
      refine wpAnyJ_take (i := 21) (d := some 116) (v := ?_) rfl rfl (by kernel_rfl) (by kernel_rfl) (by kernel_rfl) (by kernel_rfl) (by kernel_rfl) (fun _ _ _ h => h) (Or.inl ⟨by rfl, ?_⟩) hHeld ?_
      rotate_left
      · (intro w hSw; (try dsimp only at hSw); go_simp; try with_reducible rfl)
      try simp only [Act.put, List.setIfInBounds_toArray, List.set_cons_zero, List.set_cons_succ]
      refine wpAnyJ_take (i := 22) (d := some 117) (v := ?_) rfl rfl (by kernel_rfl) (by kernel_rfl) (by kernel_rfl) (by kernel_rfl) (by kernel_rfl) (fun _ _ _ h => h) (Or.inl ⟨by rfl, ?_⟩) hHeld ?_
      rotate_left
      · (intro w hSw; (try dsimp only at hSw); go_simp; try with_reducible rfl)
      try simp only [Act.put, List.setIfInBounds_toArray, List.set_cons_zero, List.set_cons_succ]
      refine wpAnyJ_take (i := 23) (d := some 118) (v := ?_) rfl rfl (by kernel_rfl) (by kernel_rfl) (by kernel_rfl) (by kernel_rfl) (by kernel_rfl) (fun _ _ _ h => h) (Or.inl ⟨by rfl, ?_⟩) hHeld ?_
      rotate_left
      · (intro w hSw; (try dsimp only at hSw); go_simp; try with_reducible rfl)
      try simp only [Act.put, List.setIfInBounds_toArray, List.set_cons_zero, List.set_cons_succ]
      refine wpAnyJ_take (i := 24) (d := some 119) (v := ?_) rfl rfl (by kernel_rfl) (by kernel_rfl) (by kernel_rfl) (by kernel_rfl) (by kernel_rfl) (fun _ _ _ h => h) (Or.inl ⟨by rfl, ?_⟩) hHeld ?_
      rotate_left
      · (intro w hSw; (try dsimp only at hSw); go_simp; try with_reducible rfl)
      try simp only [Act.put, List.setIfInBounds_toArray, List.set_cons_zero, List.set_cons_succ]
      refine wpAnyJ_take (i := 25) (d := some 120) (v := ?_) rfl rfl (by kernel_rfl) (by kernel_rfl) (by kernel_rfl) (by kernel_rfl) (by kernel_rfl) (fun _ _ _ h => h) (Or.inl ⟨by rfl, ?_⟩) hHeld ?_
      rotate_left
      · (intro w hSw; (try dsimp only at hSw); go_simp; try with_reducible rfl)
      try simp only [Act.put, List.setIfInBounds_toArray, List.set_cons_zero, List.set_cons_succ]
      refine wpAnyJ_take (i := 26) (d := some 121) (v := ?_) rfl rfl (by kernel_rfl) (by kernel_rfl) (by kernel_rfl) (by kernel_rfl) (by kernel_rfl) (fun _ _ _ h => h) (Or.inl ⟨by rfl, ?_⟩) hHeld ?_
      rotate_left
      · (intro w hSw; (try dsimp only at hSw); go_simp; try with_reducible rfl)
      try simp only [Act.put, List.setIfInBounds_toArray, List.set_cons_zero, List.set_cons_succ]
      refine wpAnyJ_take (i := 27) (d := some 122) (v := ?_) rfl rfl (by kernel_rfl) (by kernel_rfl) (by kernel_rfl) (by kernel_rfl) (by kernel_rfl) (fun _ _ _ h => h) (Or.inl ⟨by rfl, ?_⟩) hHeld ?_
      rotate_left
      · (intro w hSw; (try dsimp only at hSw); go_simp; try with_reducible rfl)
      try simp only [Act.put, List.setIfInBounds_toArray, List.set_cons_zero, List.set_cons_succ]
      refine wpAnyJ_take (i := 28) (d := some 123) (v := ?_) rfl rfl (by kernel_rfl) (by kernel_rfl) (by kernel_rfl) (by kernel_rfl) (by kernel_rfl) (fun _ _ _ h => h) (Or.inl ⟨by rfl, ?_⟩) hHeld ?_
      rotate_left
      · (intro w hSw; (try dsimp only at hSw); go_simp; try with_reducible rfl)
      try simp only [Act.put, List.setIfInBounds_toArray, List.set_cons_zero, List.set_cons_succ]
      refine wpAnyJ_take (i := 29) (d := some 124) (v := ?_) rfl rfl (by kernel_rfl) (by kernel_rfl) (by kernel_rfl) (by kernel_rfl) (by kernel_rfl) (fun _ _ _ h => h) (Or.inl ⟨by rfl, ?_⟩) hHeld ?_
      rotate_left
      · (intro w hSw; (try dsimp only at hSw); go_simp; try with_reducible rfl)
      try simp only [Act.put, List.setIfInBounds_toArray, List.set_cons_zero, List.set_cons_succ]
      refine wpAnyJ_take (i := 30) (d := some 125) (v := ?_) rfl rfl (by kernel_rfl) (by kernel_rfl) (by kernel_rfl) (by kernel_rfl) (by kernel_rfl) (fun _ _ _ h => h) (Or.inl ⟨by rfl, ?_⟩) hHeld ?_
      rotate_left
      · (intro w hSw; (try dsimp only at hSw); go_simp; try with_reducible rfl)
      try simp only [Act.put, List.setIfInBounds_toArray, List.set_cons_zero, List.set_cons_succ]
      refine wpAnyJ_take (i := 31) (d := some 126) (v := ?_) rfl rfl (by kernel_rfl) (by kernel_rfl) (by kernel_rfl) (by kernel_rfl) (by kernel_rfl) (fun _ _ _ h => h) (Or.inl ⟨by rfl, ?_⟩) hHeld ?_
      rotate_left
      · (intro w hSw; (try dsimp only at hSw); go_simp; try with_reducible rfl)
      try simp only [Act.put, List.setIfInBounds_toArray, List.set_cons_zero, List.set_cons_succ]
      refine wpAnyJ_take (i := 32) (d := some 127) (v := ?_) rfl rfl (by kernel_rfl) (by kernel_rfl) (by kernel_rfl) (by kernel_rfl) (by kernel_rfl) (fun _ _ _ h => h) (Or.inl ⟨by rfl, ?_⟩) hHeld ?_
      rotate_left
      · (intro w hSw; (try dsimp only at hSw); go_simp; try with_reducible rfl)
      try simp only [Act.put, List.setIfInBounds_toArray, List.set_cons_zero, List.set_cons_succ]
      refine wpAnyJ_take (i := 33) (d := some 128) (v := ?_) rfl rfl (by kernel_rfl) (by kernel_rfl) (by kernel_rfl) (by kernel_rfl) (by kernel_rfl) (fun _ _ _ h => h) (Or.inl ⟨by rfl, ?_⟩) hHeld ?_
      rotate_left
      · (intro w hSw; (try dsimp only at hSw); go_simp; try with_reducible rfl)
      try simp only [Act.put, List.setIfInBounds_toArray, List.set_cons_zero, List.set_cons_succ]
      refine wpAnyJ_take (i := 34) (d := some 129) (v := ?_) rfl rfl (by kernel_rfl) (by kernel_rfl) (by kernel_rfl) (by kernel_rfl) (by kernel_rfl) (fun _ _ _ h => h) (Or.inl ⟨by rfl, ?_⟩) hHeld ?_
      rotate_left
      · (intro w hSw; (try dsimp only at hSw); go_simp; try with_reducible rfl)
      try simp only [Act.put, List.setIfInBounds_toArray, List.set_cons_zero, List.set_cons_succ]
      refine wpAnyJ_take (i := 35) (d := some 130) (v := ?_) rfl rfl (by kernel_rfl) (by kernel_rfl) (by kernel_rfl) (by kernel_rfl) (by kernel_rfl) (fun _ _ _ h => h) (Or.inl ⟨by rfl, ?_⟩) hHeld ?_
      rotate_left
      · (intro w hSw; (try dsimp only at hSw); go_simp; try with_reducible rfl)
      try simp only [Act.put, List.setIfInBounds_toArray, List.set_cons_zero, List.set_cons_succ]
      refine wpAnyJ_take (i := 36) (d := some 131) (v := ?_) rfl rfl (by kernel_rfl) (by kernel_rfl) (by kernel_rfl) (by kernel_rfl) (by kernel_rfl) (fun _ _ _ h => h) (Or.inl ⟨by rfl, ?_⟩) hHeld ?_
      rotate_left
      · (intro w hSw; (try dsimp only at hSw); go_simp; try with_reducible rfl)
      try simp only [Act.put, List.setIfInBounds_toArray, List.set_cons_zero, List.set_cons_succ]
      refine wpAnyJ_take (i := 37) (d := some 132) (v := ?_) rfl rfl (by kernel_rfl) (by kernel_rfl) (by kernel_rfl) (by kernel_rfl) (by kernel_rfl) (fun _ _ _ h => h) (Or.inl ⟨by rfl, ?_⟩) hHeld ?_
      rotate_left
      · (intro w hSw; (try dsimp only at hSw); go_simp; try with_reducible rfl)
      try simp only [Act.put, List.setIfInBounds_toArray, List.set_cons_zero, List.set_cons_succ]
      refine wpAnyJ_take (i := 38) (d := some 133) (v := ?_) rfl rfl (by kernel_rfl) (by kernel_rfl) (by kernel_rfl) (by kernel_rfl) (by kernel_rfl) (fun _ _ _ h => h) (Or.inl ⟨by rfl, ?_⟩) hHeld ?_
      rotate_left
      · (intro w hSw; (try dsimp only at hSw); go_simp; try with_reducible rfl)
      try simp only [Act.put, List.setIfInBounds_toArray, List.set_cons_zero, List.set_cons_succ]
      refine wpAnyJ_take (i := 39) (d := some 134) (v := ?_) rfl rfl (by kernel_rfl) (by kernel_rfl) (by kernel_rfl) (by kernel_rfl) (by kernel_rfl) (fun _ _ _ h => h) (Or.inl ⟨by rfl, ?_⟩) hHeld ?_
      rotate_left
      · (intro w hSw; (try dsimp only at hSw); go_simp; try with_reducible rfl)
      try simp only [Act.put, List.setIfInBounds_toArray, List.set_cons_zero, List.set_cons_succ]
      refine wpAnyJ_take (i := 40) (d := some 135) (v := ?_) rfl rfl (by kernel_rfl) (by kernel_rfl) (by kernel_rfl) (by kernel_rfl) (by kernel_rfl) (fun _ _ _ h => h) (Or.inl ⟨by rfl, ?_⟩) hHeld ?_
      rotate_left
      · (intro w hSw; (try dsimp only at hSw); go_simp; try with_reducible rfl)
      try simp only [Act.put, List.setIfInBounds_toArray, List.set_cons_zero, List.set_cons_succ]
      refine wpAnyJ_take (i := 41) (d := some 136) (v := ?_) rfl rfl (by kernel_rfl) (by kernel_rfl) (by kernel_rfl) (by kernel_rfl) (by kernel_rfl) (fun _ _ _ h => h) (Or.inl ⟨by rfl, ?_⟩) hHeld ?_
      rotate_left
      · (intro w hSw; (try dsimp only at hSw); go_simp; try with_reducible rfl)
      try simp only [Act.put, List.setIfInBounds_toArray, List.set_cons_zero, List.set_cons_succ]
      refine wpAnyJ_take (i := 42) (d := some 137) (v := ?_) rfl rfl (by kernel_rfl) (by kernel_rfl) (by kernel_rfl) (by kernel_rfl) (by kernel_rfl) (fun _ _ _ h => h) (Or.inl ⟨by rfl, ?_⟩) hHeld ?_
      rotate_left
      · (intro w hSw; (try dsimp only at hSw); go_simp; try with_reducible rfl)
      try simp only [Act.put, List.setIfInBounds_toArray, List.set_cons_zero, List.set_cons_succ]
      refine wpAnyJ_take (i := 43) (d := some 138) (v := ?_) rfl rfl (by kernel_rfl) (by kernel_rfl) (by kernel_rfl) (by kernel_rfl) (by kernel_rfl) (fun _ _ _ h => h) (Or.inl ⟨by rfl, ?_⟩) hHeld ?_
      rotate_left
      · (intro w hSw; (try dsimp only at hSw); go_simp; try with_reducible rfl)
      try simp only [Act.put, List.setIfInBounds_toArray, List.set_cons_zero, List.set_cons_succ]
      refine wpAnyJ_one (k := 44) (by kernel_rfl) rfl (fun K hK => ?_)
      go_simp
      refine hK.out _ _ (fun _ => ?_) (fun hHeld' => ?_)
      · exact ⟨(World.cell?_alloc_lt _ _ _ hbr).trans x0, (World.cell?_alloc_lt _ _ _ hbr).trans x1, (World.cell?_alloc_lt _ _ _ hbr).trans x2, (World.cell?_alloc_lt _ _ _ hbr).trans x3, (World.cell?_alloc_lt _ _ _ hbr).trans x4, (World.cell?_alloc_lt _ _ _ htr).trans ct⟩
      replace hHeld := hHeld' rfl
      clear hHeld'
      try dsimp only at hHeld
      clear hK K
      try simp only [Act.put, List.setIfInBounds_toArray, List.set_cons_zero, List.set_cons_succ]
      refine wpAnyJ_one (k := 45) (by kernel_rfl) rfl (fun K hK => ?_)
      refine step_app_d (d := some 140) (by rfl) (by rfl) _ _ (by rfl) el_item (by rfl) (World.ownsRow.drew (hown.out.alloc _)) (by rfl) (Sl.drew (Sl.newest (n := 1) rfl (by rfl) (by decide))) (by simp [Value.oneCell']) (by omega) (by omega) (by simp; omega) ?_
      intro A' cap' we howne hgre hate
      have hfar : ∀ p : Addr, p.block < wr.heap.size → some p.block ≠ (Value.slice Av k cap).ownBlock → we.cell? p = wr.cell? p := fun p hp hne => (hgre.cell_far p (by simp; omega) hne).trans (World.cell?_alloc_lt _ _ _ hp)
      have hte := Lib.hid (Blk.grown (w := (wr.alloc _).drew) (hbt.out.alloc _) hgre hnt)
      have cte : we.cell? ⟨tb, 2, none⟩ = some (.slice Av k cap) := hte.out.cell 2
      have fte : we.frozen? ⟨tb, 2, none⟩ = false := hte.out.frozen 2
      refine hK.out _ _ (fun _ => ?_) (fun hHeld' => ?_)
      · exact ⟨(hfar _ hbr hnb).trans x0, (hfar _ hbr hnb).trans x1, (hfar _ hbr hnb).trans x2, (hfar _ hbr hnb).trans x3, (hfar _ hbr hnb).trans x4, cte⟩
      replace hHeld := hHeld' rfl
      clear hHeld'
      try dsimp only at hHeld
      clear hK K
      try simp only [Act.put, List.setIfInBounds_toArray, List.set_cons_zero, List.set_cons_succ]
      refine wpAnyJ_take (i := 46) (d := some 141) (v := ?_) rfl rfl (by kernel_rfl) (by kernel_rfl) (by kernel_rfl) (by kernel_rfl) (by kernel_rfl) (fun _ _ _ h => h) (Or.inl ⟨by rfl, ?_⟩) hHeld ?_
      rotate_left
      · (intro w hSw; (try dsimp only at hSw); go_simp; try with_reducible rfl)
      try simp only [Act.put, List.setIfInBounds_toArray, List.set_cons_zero, List.set_cons_succ]
      refine wpAnyJ_one (k := 47) (by kernel_rfl) rfl (fun K hK => ?_)
      go_simp
      refine hK.out _ _ (fun h => by cases h) (fun _ => ?_)
      try clear hHeld
      clear hK K
      try simp only [Act.put, List.setIfInBounds_toArray, List.set_cons_zero, List.set_cons_succ]
      refine wpAnyJ_done (by kernel_rfl) ?_ _
      clear p1 p1t p2 p3 p4 r1 r2 r3 r4 p2t p3t p4t w1' w2' w3' w4'
      go_wp2_with fail
      go_roundw
      case rel =>
        refine ⟨k + 1, cap', A', by omega, by rw [show ((4 + 5 * (k + 1) : Nat) : Int) = (p : Int) + 5 from by have := HP.out; omega], ?_, hte.out.set 2 _, ?_, ?_, ?_⟩
        · intro j hj
          rcases Nat.lt_succ_iff_lt_or_eq.1 hj with h | h
          · exact hok.out j h
          · rw [h]; exact HI0.out
        · unfold Hid
          rw [decItems_succ, List.flatMap_append, HIT.out]
          have e4 := and3 y1 b10 b11
          have e5 := and128 y1 b10 b11
          have e6 := or24 y2 y3 y4 ⟨b20, b21⟩ ⟨b30, b31⟩ ⟨b40, b41⟩
          have n0 : IntKind.i64.wrap y0 = y0 := IntWalk.i64_in _ (by omega)
          have n1 : IntKind.i64.wrap (y1 % 4) = y1 % 4 := IntWalk.i64_in _ (by omega)
          have n2 : IntKind.i64.wrap y2 = y2 := IntWalk.i64_in _ (by omega)
          have n3 : IntKind.i64.wrap y3 = y3 := IntWalk.i64_in _ (by omega)
          have n4 : IntKind.i64.wrap y4 = y4 := IntWalk.i64_in _ (by omega)
          have n5 : IntKind.i64.wrap (y2 * 65536) = y2 * 65536 := IntWalk.i64_in _ (by omega)
          have n6 : IntKind.i64.wrap (y3 * 256) = y3 * 256 := IntWalk.i64_in _ (by omega)
          rw [e4, e5, n0, n1, n2, n3, n4, n5, n6, e6] at howne
          exact ownsRow_setCell_below howne (a := ⟨tb, 2, none⟩) (by simp) _
        · exact (Blk.grown (w := (wr.alloc _).drew) (hb0.out.alloc _) hgre (fun e => by have := (hown.out.lt _ e.symm).1; omega)).far (by simpa using by omega) _
        · exact (Below.grown ((hbl.out.alloc hbl.out.size _).drew) hgre (by simp; have := hbl.out.size; omega) (fun g hg => by have := (hown.out.lt g hg).1; omega)).setCell (by simpa using by omega) _
      case measure => simp [intOf]; omega
    · have hkm : k = m := by omega
      subst hkm
      have c0 : wr.cell? ⟨tb, 0, none⟩ = some (.int .i64 st) := hbt.out.cell 0
      have c1 : wr.cell? ⟨tb, 1, none⟩ = some (.int .i64 sq) := hbt.out.cell 1
      have c2 : wr.cell? ⟨tb, 2, none⟩ = some (.slice Av k cap) := hbt.out.cell 2
      have h0 : Hid (decErr l = 0) := by unfold Hid; rw [HE.out]; exact firstI_zero _ hok.out
      rw [hNm]
      have pN : decide (N < N) = false := by simp
      clear hNm hnN
      go_wp2_with fail
      refine bodyPost_ret (v := .tuple #[.agg #[.int .i64 st, .int .i64 sq, .slice Av k cap], .int .i64 0]) (by simp [results, Try.results26, go_sem, d0, d1, d2]) rfl ?_
      rw [show decSt l = st from by rw [decSt, if_pos h0.out]; exact HST.out, show decSq l = sq from by rw [decSq, if_pos h0.out]; exact HSQ.out, show decL l = decItems l k from by rw [decL, if_pos h0.out, HCT.out], h0.out]
      refine ⟨Av, cap, by rw [decItems_len], ?_, ((hbl.out.setCell (Nat.le_refl _) _).setCell (Nat.le_refl _) _).setCell (Nat.le_refl _) _⟩
      rw [decItems_len]
      exact (ownsRow_setCell_below (ownsRow_setCell_below (ownsRow_setCell_below hown.out (a := ⟨w.heap.size, 0, none⟩) (by simpa using by omega) _) (a := ⟨w.heap.size, 1, none⟩) (by simpa using by omega) _) (a := ⟨w.heap.size, 2, none⟩) (by simpa using by omega) _).mono (by omega)
end Go.Proofs.Ytjinhfomfbcnjaa
