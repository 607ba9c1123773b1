/-
  Walk of TelegramBursts: a frame in which bits within two bytes in a row were changed is never taken as another telegram.
-/
import Derived.Test.YtjinhfomfbcnjaaTeleB
import Derived.Test.YtjinhfomfbcnjaaTeleW6
import Derived.Test.YtjinhfomfbcnjaaTeleRep
import Derived.OpenShut
namespace Go.Proofs.Ytjinhfomfbcnjaa
open Go.RowKit
theorem frame_crc (st sq : Int) (l : List Item) : crcAll (frameT st sq l) = 0 := crc_own _
theorem burst_err (st sq : Int) (l : List Item) (V b : Nat) (hV : V < 65536) (h0 : V ≠ 0) (hb : b + 16 ≤ 8 * (frameT st sq l).length) : decErr (burst (frameT st sq l) V b 16) ≠ 0 := by
  have hc := crc_burst (frameT st sq l) V b hV h0 hb
  rw [frame_crc] at hc
  unfold decErr
  repeat (split; · decide)
  decide
theorem bytesV_map (l : List UInt8) : bytesV l = l.map fun x => Value.int .u8 x.toNat := by
  unfold bytesV
  induction l with
  | nil => rfl
  | cons x l ih => rw [List.flatMap_cons, ih]; rfl
theorem bytesV_set (l : List UInt8) (q : Nat) (x : UInt8) : (bytesV l).set q (.int .u8 x.toNat) = bytesV (l.set q x) := by
  rw [bytesV_map, bytesV_map, List.map_set]
theorem bytesV_len (l : List UInt8) : (bytesV l).length = l.length := by rw [bytesV_map, List.length_map]
theorem bytesV_get (l : List UInt8) (q : Nat) (h : q < l.length) : (bytesV l)[q]? = some (.int .u8 (l.getD q 0).toNat) := by
  rw [bytesV_map, List.getElem?_map, List.getD_eq_getElem?_getD, List.getElem?_eq_getElem h]; rfl

theorem shr_test (V j : Nat) (hV : V < 65536) : (bits .and .u16 ((V : Int) / 2 ^ j) 1 == 1) = V.testBit j := by
  have e : ((V : Int) / 2 ^ j) = ((V / 2 ^ j : Nat) : Int) := by simp
  have hlt : V / 2 ^ j < 65536 := Nat.lt_of_le_of_lt (Nat.div_le_self _ _) hV
  rw [e, show (1 : Int) = ((1 : Nat) : Int) from rfl, u16_and_nat _ _ hlt (by decide), nat_mask1, Nat.testBit_eq_decide_div_mod_eq, Bool.eq_iff_iff]
  simp
  omega
theorem flip_val (x : UInt8) (r : Nat) (hr : r < 8) : bits .xor .u8 (x.toNat : Int) (128 / 2 ^ r) = ((x ^^^ UInt8.ofNat (128 / 2 ^ r)).toNat : Int) := by
  have h : ∀ a : Nat, a < 8 → (UInt8.ofNat (128 / 2 ^ a)).toNat = 128 / 2 ^ a ∧ 128 / 2 ^ a < 256 := by decide +kernel
  have e : ((128 : Int) / 2 ^ r) = ((128 / 2 ^ r : Nat) : Int) := by simp
  rw [e, u8_xor_nat _ _ x.toNat_lt (h r hr).2, UInt8.toNat_xor, (h r hr).1]

set_option maxRecDepth 100000 in
set_option maxHeartbeats 4000000 in
theorem walk_TelegramBursts (w : World) (A : Option Addr) (n c : Nat) (z : List Int) (hz : Sl w w.heap.size 1 A n c (intsV z)) (_ : ∀ x ∈ z, (Lit.int .i64 x).wf = true) (at_ : Int) (wa : (Lit.int .u16 at_).wf = true) (by_ : Int) (wb : (Lit.int .u16 by_).wf = true) :
    Calls Try.prog 5 #[.slice A n c, .int .u16 at_, .int .u16 by_] w fun e w' => e = .returned (.bool true) ∧ Below w.heap.size w w' := by
  obtain ⟨hnc, hcm⟩ := hz.le
  have HZ := Lib.hid hz; clear hz
  obtain ⟨ha0, ha1⟩ := bounds_u16 wa
  obtain ⟨hv0, hv1⟩ := bounds_u16 wb
  clear wa wb
  obtain ⟨V, rfl⟩ := Int.eq_ofNat_of_zero_le hv0
  obtain ⟨a, rfl⟩ := Int.eq_ofNat_of_zero_le ha0
  by_cases hf : n ≤ 400; rotate_left
  · have hf' : decide (n ≤ 400) = false := by simpa using hf
    clear hf
    go_enter Try.func5, Try.ntmps5
    go_wp2_with fail
    refine (few_any A n c w (by omega)).mono ?_
    rintro e w1 ⟨rfl, rfl⟩
    go_wp2_with fail
    refine (awake_any _).mono ?_
    rintro e w1 ⟨rfl, hb⟩
    go_wp2_with fail
    go_ret
    exact ⟨rfl, hb⟩
  have hf' : decide (n ≤ 400) = true := by simpa using hf
  by_cases hv : V = 0
  · subst hv
    go_enter Try.func5, Try.ntmps5
    go_wp2_with fail
    refine (few_any A n c w (by omega)).mono ?_
    rintro e w1 ⟨rfl, rfl⟩
    go_wp2_with fail
    refine (awake_any _).mono ?_
    rintro e w1 ⟨rfl, hb⟩
    go_wp2_with fail
    go_ret
    exact ⟨rfl, hb⟩
  have hv' : (((V : Nat) : Int) == 0) = false := by simpa using hv
  go_enter Try.func5, Try.ntmps5
  go_wp2_with fail
  refine (few_any A n c w (by omega)).mono ?_
  rintro e w1 ⟨rfl, rfl⟩
  go_wp2_with fail
  refine (new_any A n c w.heap.size z w HZ.out (Nat.le_refl _)).mono ?_
  rintro e w1 ⟨rfl, hd1, hb1, hs1⟩
  go_wp2_with fail
  refine (telegram_any w.heap.size 4 w1 hd1.out (by decide)).mono ?_
  rintro e w2 ⟨st, sq, Ai, ni, ci, l, rfl, hst0, hst1, hsq0, hsq1, hn4, hok, hown, hd2, hg2⟩
  have HOW := Lib.hid hown; have HOK := Lib.hid hok; have HG2 := Lib.hid hg2; clear hown hok hd2 hg2
  have HL := Lib.hid ((Sl.of_own HOW.out).len (fun _ => rfl) (by decide))
  have hb2 : Below w.heap.size w w2 := hb1.out.trans (below_of_grown HG2.out (Nat.le_refl _) hb1.out.size)
  have hle2 := hb2.size
  go_wp2_with fail
  refine (encode_any st sq Ai ni ci w2.heap.size l _ ((Sl.of_own HOW.out).alloc (Nat.le_refl _) _) (by simp)).mono ?_
  rintro e w3 ⟨Af, cf, rfl, hown3, hb3⟩
  have hch : checkT st sq l = 0 := checkT_ok hst0 hst1 hsq0 hsq1 (by rw [HL.out]; omega) HOK.out
  have henc : encT st sq l = frameT st sq l := by rw [encT, if_pos hch]
  rw [hch] 
  rw [henc] at hown3 ⊢
  have hlen := frame_len st sq l
  rw [HL.out] at hlen
  have HCE := fun (V b : Nat) => burst_err st sq l V b
  generalize frameT st sq l = fr at *
  obtain ⟨L, hL⟩ : ∃ L, fr.length = L := ⟨_, rfl⟩
  rw [hL] at hown3 hlen ⊢
  have hb : Below w.heap.size w w3 := (hb2.alloc hle2 _).trans (hb3.mono (by simp; omega))
  have hL1 : 6 ≤ L := by omega
  have hL2 : L ≤ 26 := by omega
  have HO3 := Lib.hid hown3; have HCE' := Lib.hid HCE; have HLL := Lib.hid hL
  clear hch henc hown3 hb3 hlen HCE hL hb1 hs1 hd1
  have hle3 := hb.size
  go_wp2_with (at_builtin; go_must (refine wpList_app rfl _ (.tmp 46) rfl el_u8 (by rfl) (World.ownsRow_nil _ w3.heap.size _ _) (by rfl) (Sl.of_own HO3.out) (bytesV_one _) (by omega) (by omega) (Nat.le_refl _) ?_; intro Ab cb w4 hown4 hgr4 hat4))
  simp only [Nat.zero_add, List.nil_append] at hown4 ⊢
  have hb4 : Below w.heap.size w w4 := hb.grown hgr4 hle3 (fun g hg => by simp [Value.ownBlock] at hg)
  obtain ⟨g, cap, hv4, hg4, hlt4⟩ := hown4.form (by omega)
  injection hv4 with e1 e2 e3
  subst e1 e3
  have hle4 := hb4.size
  have HO4 := Lib.hid hown4; clear hown4 hgr4 hat4 e2
  have hd15 : (1 : Int) ≤ 8 * (L : Int) - 15 := by omega
  go_wp2_with fail
  generalize hbit : (a : Int) % (8 * (L : Int) - 15) = bi
  have hbi0 : 0 ≤ bi := by rw [← hbit]; exact Int.emod_nonneg _ (by omega)
  have hbi1 : bi < 8 * (L : Int) - 15 := by rw [← hbit]; exact Int.emod_lt_of_pos _ (by omega)
  clear hbit
  obtain ⟨bit, rfl⟩ := Int.eq_ofNat_of_zero_le hbi0
  have hcl : (L : Int) ≤ (cb : Int) := by
    have := (Sl.of_own HO4.out).le; omega
  go_loopw [12] (fun i wr => ∃ j : Nat, j ≤ 16 ∧ i = .int .i64 j ∧ Hid (wr.ownsRow w3.heap.size 5 1 (.slice (some ⟨g, 0, none⟩) L cb) L (bytesV (burst fr V bit j))) ∧ Hid (Below w.heap.size w wr)) (fun i _ => 16 - (intOf i).toNat)
  case atStart => exact ⟨0, Nat.zero_le _, rfl, HO4, hb4⟩
  case round =>
    obtain ⟨j, hj, rfl, hown, hbl⟩ := hrel
    by_cases hlt : j < 16
    · generalize hcur : burst fr V bit j = cur at *
      have hcl : cur.length = L := by rw [← hcur, burst_len, HLL.out]
      have HCU := Lib.hid hcur; have HCL := Lib.hid hcl; clear hcur hcl
      have hq : (bit + j) / 8 < L := by omega
      have cq : wr.cell? ⟨g, (bit + j) / 8, none⟩ = some (.int .u8 (cur.getD ((bit + j) / 8) 0).toNat) := by
        rw [hown.out.cellAt _ (by omega), bytesV_get _ _ (by rw [HCL.out]; exact hq)]
      have fq := hown.out.frozenAt ((bit + j) / 8)
      have htv := shr_test V j (by omega)
      generalize hx : cur.getD ((bit + j) / 8) 0 = x at *
      have HXX := Lib.hid hx; clear hx
      by_cases ht : V.testBit j = true
      · rw [ht] at htv
        have HT := Lib.hid ht; clear ht
        go_wp2_with fail
        go_roundw
        case rel =>
          refine ⟨j + 1, by omega, by go_num, ?_, ?_⟩
          · unfold Hid
            have := hown.out.stored ((bit + j) / 8) (.int .u8 (x ^^^ UInt8.ofNat (128 / 2 ^ ((bit + j) % 8))).toNat)
            rw [flip_val x _ (by omega), burst, if_pos HT.out, HCU.out, flipAt, HXX.out, ← bytesV_set]
            exact this.1
          · exact hbl.out.setCell (by simpa using by omega) _
        case measure => simp [intOf]; omega
      · have ht' : V.testBit j = false := by simpa using ht
        rw [ht'] at htv
        have HT := Lib.hid ht; clear ht ht'
        go_wp2_with fail
        go_roundw
        case rel =>
          refine ⟨j + 1, by omega, by go_num, ?_, hbl⟩
          unfold Hid
          rw [burst, if_neg HT.out, HCU.out]; exact hown.out
        case measure => simp [intOf]; omega
    · obtain rfl : j = 16 := by omega
      have hne := HCE'.out V bit (by omega) hv (by rw [HLL.out]; omega)
      have hdl : decL (burst fr V bit 16) = [] := by rw [decL, if_neg hne]
      generalize burst fr V bit 16 = bad at *
      go_wp2_with fail
      refine (decode_any _ _ _ wr.heap.size bad wr (Sl.of_own hown.out) (Nat.le_refl _)).mono ?_
      rintro e w5 ⟨A5, c5, rfl, hown5, hb5⟩
      rw [hdl]
      have hbw5 : Below w.heap.size w w5 := hbl.out.trans (hb5.mono hbl.out.size)
      generalize decErr bad = er at *
      have hne' : (er != 0) = true := by simpa using hne
      clear hown5 hb5 hne hdl
      go_wp2_with fail
      refine (awake_any _).mono ?_
      rintro e w6 ⟨rfl, hb6⟩
      go_wp2_with fail
      go_ret
      refine ⟨rfl, (hbw5.alloc hbw5.size _).trans (hb6.mono ?_)⟩
      have := hbw5.size
      simp; omega
end Go.Proofs.Ytjinhfomfbcnjaa
