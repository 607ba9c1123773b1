/-
  Walks of the references of layer 9: Lost, Checksum, fault, Check.
-/
import Derived.Test.YtjinhfomfbcnjaaTeleW2
namespace Go.Proofs.Ytjinhfomfbcnjaa
open Go.RowKit

theorem rlost_any (a b : Int) (w : World) : Calls Try.prog 31 #[.int .i64 a, .int .i64 b] w fun e w' => e = .returned (.tuple #[.int .i64 (lostT a b), .int .i64 (lostE a b)]) ∧ w = w' := by
  have hl : lostT a b = if octB a = false then 0 else if octB b = false then 0 else (b - a + 255) % 256 := rfl
  have he : lostE a b = if octB a = false then 5 else if octB b = false then 5 else 0 := rfl
  by_cases ha : octB a = true; rotate_left
  · have ha2 : octB a = false := by simpa using ha
    rw [if_pos ha2] at hl he
    have HL := Lib.hid hl; have HE := Lib.hid he
    by_cases h0 : a < 0
    · clear hl he ha ha2
      go_enter Try.func31, Try.ntmps31
      go_wp2
      go_ret2
      exact ⟨by rw [HL.out, HE.out]; rfl, rfl⟩
    · have h1 : 255 < a := by simp [octB] at ha; omega
      clear hl he ha ha2
      go_enter Try.func31, Try.ntmps31
      go_wp2
      go_ret2
      exact ⟨by rw [HL.out, HE.out]; rfl, rfl⟩
  have ha' : 0 ≤ a ∧ a ≤ 255 := by simpa [octB] using ha
  rw [if_neg (by simp [ha])] at hl he
  obtain ⟨ha0, ha1⟩ := ha'
  by_cases hb : octB b = true; rotate_left
  · have hb2 : octB b = false := by simpa using hb
    rw [if_pos hb2] at hl he
    have HL := Lib.hid hl; have HE := Lib.hid he
    by_cases h0 : b < 0
    · clear hl he ha hb hb2
      go_enter Try.func31, Try.ntmps31
      go_wp2
      go_ret2
      exact ⟨by rw [HL.out, HE.out]; rfl, rfl⟩
    · have h1 : 255 < b := by simp [octB] at hb; omega
      clear hl he ha hb hb2
      go_enter Try.func31, Try.ntmps31
      go_wp2
      go_ret2
      exact ⟨by rw [HL.out, HE.out]; rfl, rfl⟩
  have hb' : 0 ≤ b ∧ b ≤ 255 := by simpa [octB] using hb
  obtain ⟨hb0, hb1⟩ := hb'
  rw [if_neg (by simp [hb])] at hl he
  have HL := Lib.hid hl; have HE := Lib.hid he; clear hl he ha hb
  go_enter Try.func31, Try.ntmps31
  go_wp2
  go_ret2
  exact ⟨by rw [HL.out, HE.out]; rfl, rfl⟩

theorem crc_top (c : BitVec 16) : (bits .and .u16 (c.toNat : Int) 32768 != 0) = decide (32768 ≤ c.toNat) := by
  have hc := c.isLt
  rw [show (32768 : Int) = ((32768 : Nat) : Int) from rfl, u16_and_nat _ _ (by omega) (by decide), show (32768 : Nat) = 2 ^ 15 from rfl, nat_bit, Bool.eq_iff_iff]
  simp
  omega
theorem crc_one (c : BitVec 16) (h : 32768 ≤ c.toNat) : bits .xor .u16 (IntKind.u16.wrap ((c.toNat : Int) * 2)) 4129 = ((crcBit c).toNat : Int) := by
  have hc := c.isLt
  rw [← crc_step, show (c.toNat : Int) / 32768 = 1 from by omega]; rfl
theorem crc_nil (c : BitVec 16) (h : c.toNat < 32768) : IntKind.u16.wrap ((c.toNat : Int) * 2) = ((crcBit c).toNat : Int) := by
  rw [← crc_step, show (c.toNat : Int) / 32768 = 0 from by omega, IntKind.wrap_u16, u16_xor _ _ (by omega) (by omega) (by omega) (by omega)]
  simp
  omega

set_option maxHeartbeats 400000 in
theorem rchecksum_any (A : Option Addr) (n c B : Nat) (l : List UInt8) (w : World) (hr : Sl w B 1 A n c (bytesV l)) : Calls Try.prog 29 #[.slice A n c] w fun e w' => e = .returned (.int .u16 (crcAll l).toNat) ∧ w = w' := by
  have HL := Lib.hid (hr.len (fun _ => rfl) (by decide))
  obtain ⟨hnc, hcm⟩ := hr.le
  have HR := Lib.hid hr; clear hr
  go_enter Try.func29, Try.ntmps29
  go_wp2
  go_loop [3, 4] (fun s i => ∃ k : Nat, k ≤ n ∧ i = .int .i64 k ∧ s = .int .u16 (crcAll (l.take k)).toNat) (fun _ i => n - (intOf i).toNat)
  case atStart => exact ⟨0, Nat.zero_le _, rfl, rfl⟩
  case round =>
    obtain ⟨k, hk, rfl, rfl⟩ := hrel
    by_cases hlt : k < n
    · obtain ⟨b, off, x, rfl, hb, hx, hcell⟩ := HR.out.at1 hlt
      have HX := Lib.hid hx; clear hx
      have hx256 : x.toNat < 256 := x.toNat_lt
      have hlt' : (k : Int) < (n : Int) := by omega
      generalize hs' : crcAll (l.take k) = s at *
      have HS := Lib.hid hs'; clear hs'
      have hs : s.toNat < 65536 := s.isLt
      go_wp2
      go_loop [3, 5] (fun s' i => ∃ j : Nat, j ≤ 8 ∧ i = .int .i64 j ∧ s' = .int .u16 (crcBits j (s ^^^ (BitVec.ofNat 16 x.toNat <<< 8))).toNat) (fun _ i => 8 - (intOf i).toNat)
      case atStart => exact ⟨0, Nat.zero_le _, rfl, by rw [crc_in]⟩
      case round =>
        obtain ⟨j, hj, rfl, rfl⟩ := hrel
        generalize hc' : crcBits j (s ^^^ (BitVec.ofNat 16 x.toNat <<< 8)) = c'
        have HC := Lib.hid hc'; clear hc'
        have hc16 : c'.toNat < 65536 := c'.isLt
        by_cases hj8 : j < 8
        · have ht := crc_top c'
          by_cases h3 : 32768 ≤ c'.toNat
          · rw [decide_eq_true h3] at ht
            have H1 := Lib.hid (crc_one c' h3)
            clear h3
            go_wp2
            go_round
            case rel => exact ⟨j + 1, by omega, by go_num, by rw [H1.out, ← HC.out]; rfl⟩
            case measure => simp [intOf]; omega
          · rw [decide_eq_false h3] at ht
            have H1 := Lib.hid (crc_nil c' (by omega))
            clear h3
            go_wp2
            go_round
            case rel => exact ⟨j + 1, by omega, by go_num, by rw [H1.out, ← HC.out]; rfl⟩
            case measure => simp [intOf]; omega
        · go_wp2
          go_round
          case rel =>
            obtain rfl : j = 8 := by omega
            exact ⟨k + 1, by omega, by go_num, by rw [take_snoc HX.out, crcAll, crcFrom, List.foldl_append, ← HC.out, ← HS.out]; rfl⟩
          case measure => simp [intOf]; omega
    · go_wp2
      go_ret
      have : k = n := by omega
      subst this
      exact ⟨ret_int (by rw [List.take_of_length_le (by rw [HL.out]; omega)]), rfl⟩

set_option maxHeartbeats 1000000 in
theorem rfault_any (dv pt : Int) (inv : Bool) (tm : Int) (w : World) : Calls Try.prog 34 #[.agg #[.int .i64 dv, .int .i64 pt, .bool inv, .int .i64 tm]] w fun e w' => e = .returned (.int .i64 (itemErr ⟨dv, pt, inv, tm⟩)) ∧ Below w.heap.size w w' := by
  have hE : itemErr ⟨dv, pt, inv, tm⟩ = if dv < 0 ∨ 64 ≤ dv then 8 else if pt < 0 ∨ 3 < pt then 5 else if tm < 0 ∨ 16777216 ≤ tm then 11 else 0 := rfl
  have HE := Lib.hid hE; clear hE
  by_cases d1 : dv < 0
  · go_enter Try.func34, Try.ntmps34
    go_wp2
    go_ret
    exact ⟨ret_int (by rw [HE.out, if_pos (.inl d1)]), (Below.refl _ _).alloc (Nat.le_refl _) _⟩
  by_cases d2 : 64 ≤ dv
  · go_enter Try.func34, Try.ntmps34
    go_wp2
    go_ret
    exact ⟨ret_int (by rw [HE.out, if_pos (.inr d2)]), (Below.refl _ _).alloc (Nat.le_refl _) _⟩
  by_cases d3 : pt < 0
  · go_enter Try.func34, Try.ntmps34
    go_wp2
    go_ret
    exact ⟨ret_int (by rw [HE.out, if_neg (by omega), if_pos (.inl d3)]), (Below.refl _ _).alloc (Nat.le_refl _) _⟩
  by_cases d4 : 3 < pt
  · go_enter Try.func34, Try.ntmps34
    go_wp2
    go_ret
    exact ⟨ret_int (by rw [HE.out, if_neg (by omega), if_pos (.inr d4)]), (Below.refl _ _).alloc (Nat.le_refl _) _⟩
  by_cases d5 : tm < 0
  · go_enter Try.func34, Try.ntmps34
    go_wp2
    go_ret
    exact ⟨ret_int (by rw [HE.out, if_neg (by omega), if_neg (by omega), if_pos (.inl d5)]), (Below.refl _ _).alloc (Nat.le_refl _) _⟩
  by_cases d6 : 16777216 ≤ tm
  · go_enter Try.func34, Try.ntmps34
    go_wp2
    go_ret
    exact ⟨ret_int (by rw [HE.out, if_neg (by omega), if_neg (by omega), if_pos (.inr d6)]), (Below.refl _ _).alloc (Nat.le_refl _) _⟩
  go_enter Try.func34, Try.ntmps34
  go_wp2
  go_ret
  exact ⟨ret_int (by rw [HE.out, if_neg (by omega), if_neg (by omega), if_neg (by omega)]), (Below.refl _ _).alloc (Nat.le_refl _) _⟩

set_option maxHeartbeats 1000000 in
theorem rcheck_any (st sq : Int) (A : Option Addr) (n c B : Nat) (l : List Item) (w : World) (hr : Sl w B 4 A n c (l.flatMap Item.cells)) (hB : B ≤ w.heap.size) : Calls Try.prog 23 #[.agg #[.int .i64 st, .int .i64 sq, .slice A n c]] w fun e w' => e = .returned (.int .i64 (checkT st sq l)) ∧ Below w.heap.size w w' := by
  have HL := Lib.hid (hr.len (fun _ => rfl) (by decide))
  obtain ⟨hnc, hcm⟩ := hr.le
  have HR := Lib.hid hr; clear hr
  have fin5 : checkT st sq l = 5 → (st < 0 ∨ 255 < st ∨ sq < 0 ∨ 255 < sq) → Calls Try.prog 23 #[.agg #[.int .i64 st, .int .i64 sq, .slice A n c]] w fun e w' => e = .returned (.int .i64 (checkT st sq l)) ∧ Below w.heap.size w w' := by
    intro hE hc
    have HE := Lib.hid hE; clear hE
    by_cases g1 : st < 0
    · clear hc
      go_enter Try.func23, Try.ntmps23
      go_wp2
      go_ret
      exact ⟨ret_int (by rw [HE.out]), (Below.refl _ _).alloc (Nat.le_refl _) _⟩
    by_cases g2 : 255 < st
    · clear hc
      go_enter Try.func23, Try.ntmps23
      go_wp2
      go_ret
      exact ⟨ret_int (by rw [HE.out]), (Below.refl _ _).alloc (Nat.le_refl _) _⟩
    by_cases g3 : sq < 0
    · clear hc
      go_enter Try.func23, Try.ntmps23
      go_wp2
      go_ret
      exact ⟨ret_int (by rw [HE.out]), (Below.refl _ _).alloc (Nat.le_refl _) _⟩
    have g4 : 255 < sq := by omega
    clear hc
    go_enter Try.func23, Try.ntmps23
    go_wp2
    go_ret
    exact ⟨ret_int (by rw [HE.out]), (Below.refl _ _).alloc (Nat.le_refl _) _⟩
  by_cases h1 : octB st = true; rotate_left
  · have h1' : octB st = false := by simpa using h1
    exact fin5 (by simp [checkT, h1']) (by simp [octB] at h1; omega)
  by_cases h2 : octB sq = true; rotate_left
  · have h2' : octB sq = false := by simpa using h2
    exact fin5 (by simp [checkT, h1, h2']) (by simp [octB] at h2; omega)
  clear fin5
  have hs : 0 ≤ st ∧ st ≤ 255 := by simpa [octB] using h1
  have hq : 0 ≤ sq ∧ sq ≤ 255 := by simpa [octB] using h2
  obtain ⟨hs0, hs1⟩ := hs
  obtain ⟨hq0, hq1⟩ := hq
  have z1 : decide (st < 0) = false := by simp; omega
  have z2 : decide (255 < st) = false := by simp; omega
  have z3 : decide (sq < 0) = false := by simp; omega
  have z4 : decide (255 < sq) = false := by simp; omega
  by_cases h3 : n ≤ 32; rotate_left
  · have HE : Hid (checkT st sq l = 1) := by unfold Hid; rw [checkT, if_neg (by simp [h1]), if_neg (by simp [h2]), if_pos (by rw [HL.out]; omega)]
    have h3' : decide (32 < (n : Int)) = true := by simp; omega
    clear h1 h2
    go_enter Try.func23, Try.ntmps23
    go_wp2
    go_ret
    exact ⟨ret_int (by rw [HE.out]), (Below.refl _ _).alloc (Nat.le_refl _) _⟩
  have HE : Hid (checkT st sq l = firstErr l) := by unfold Hid; rw [checkT, if_neg (by simp [h1]), if_neg (by simp [h2]), if_neg (by rw [HL.out]; omega)]
  have h3' : decide (32 < (n : Int)) = false := by simp; omega
  clear h1 h2
  go_enter Try.func23, Try.ntmps23
  go_wp2_with fail
  generalize hW : w.alloc (.cells #[.int .i64 st, .int .i64 sq, .slice A n c] 31) = W
  have HBK : Hid (Blk W w.heap.size 31 #[.int .i64 st, .int .i64 sq, .slice A n c]) := hW ▸ Blk.new _ _ _
  have HBW : Hid (Below w.heap.size w W) := hW ▸ (Below.refl _ _).alloc (Nat.le_refl _) _
  have hWs : w.heap.size < W.heap.size := by rw [← hW]; simp
  clear hW
  go_loopw [3] (fun i wr => ∃ k : Nat, k ≤ n ∧ i = .int .i64 k ∧ Hid (Below W.heap.size W wr) ∧ Hid (∀ x ∈ l.take k, itemErr x = 0)) (fun i _ => n - (intOf i).toNat)
  case atStart => exact ⟨0, Nat.zero_le _, rfl, Below.refl _ _, by simp [Hid]⟩
  case round =>
    obtain ⟨k, hk, rfl, hbl, hok⟩ := hrel
    have hsz := hbl.out.size
    have s2 : wr.cell? ⟨w.heap.size, 2, none⟩ = some (.slice A n c) := (HBK.out.below hbl.out hWs).cell 2
    by_cases hlt : k < n
    · obtain ⟨b, off, x, rfl, hb, hx, hc⟩ := ((HR.out.below HBW.out hB).below hbl.out (by omega)).at (fun _ => rfl) (by decide) hlt
      obtain ⟨dv, pt, inv, tm⟩ := x
      have c0 : wr.cell? ⟨b, off + k * 4, none⟩ = some (.int .i64 dv) := hc 0 _ rfl
      have c1 : wr.cell? ⟨b, off + k * 4 + 1, none⟩ = some (.int .i64 pt) := hc 1 _ rfl
      have c2 : wr.cell? ⟨b, off + k * 4 + 2, none⟩ = some (.bool inv) := hc 2 _ rfl
      have c3 : wr.cell? ⟨b, off + k * 4 + 3, none⟩ = some (.int .i64 tm) := hc 3 _ rfl
      have HX := Lib.hid hx; clear hc hx
      have hlt' : (k : Int) < (n : Int) := by omega
      go_wp2_with fail
      refine (rfault_any dv pt inv tm _).mono ?_
      rintro e w2 ⟨rfl, hb2⟩
      have HB2 := Lib.hid (hbl.out.trans (hb2.mono hsz))
      clear hb2
      by_cases h0 : itemErr ⟨dv, pt, inv, tm⟩ = 0
      · have H0 := Lib.hid h0
        rw [h0]
        clear h0
        go_wp2_with fail
        go_roundw
        case rel =>
          refine ⟨k + 1, by omega, by go_num, HB2, ?_⟩
          unfold Hid; rw [take_snoc HX.out]
          intro y hy
          rcases List.mem_append.1 hy with hy | hy
          · exact hok.out y hy
          · rw [List.mem_singleton.1 hy]; exact H0.out
        case measure => simp [intOf]; omega
      · have HF : Hid (checkT st sq l = itemErr ⟨dv, pt, inv, tm⟩) := by unfold Hid; rw [HE.out, firstErr_at hok.out HX.out h0]
        have h0' : (itemErr ⟨dv, pt, inv, tm⟩ != 0) = true := by simpa using h0
        generalize itemErr ⟨dv, pt, inv, tm⟩ = er at *
        clear h0
        go_wp2_with fail
        go_ret
        exact ⟨ret_int (by rw [HF.out]), HBW.out.trans (HB2.out.mono (Nat.le_of_lt hWs))⟩
    · go_wp2_with fail
      go_ret
      have : k = n := by omega
      subst this
      refine ⟨ret_int ?_, HBW.out.trans (hbl.out.mono (Nat.le_of_lt hWs))⟩
      rw [HE.out, firstErr_all]
      have := hok.out
      rwa [List.take_of_length_le (by rw [HL.out]; omega)] at this
end Go.Proofs.Ytjinhfomfbcnjaa
