/-
  Walks of layer 9: octet, Lost, Checksum, Check.
-/
import Derived.Test.YtjinhfomfbcnjaaProg
import Derived.Test.YtjinhfomfbcnjaaTeleM
import Derived.Outline
namespace Go.Proofs.Ytjinhfomfbcnjaa
open Go.RowKit

theorem octet_any (n : Int) (w : World) : Calls Try.prog 32 #[.int .i64 n] w fun e w' => e = .returned (.bool (octB n)) ∧ w = w' := by
  by_cases h0 : 0 ≤ n
  · go_enter Try.func32, Try.ntmps32
    go_wp2
    go_ret
    exact ⟨by simp [octB, h0], rfl⟩
  · have h0' : decide (0 ≤ n) = false := by simpa using h0
    go_enter Try.func32, Try.ntmps32
    go_wp2
    go_ret
    exact ⟨by simp [octB, h0'], rfl⟩

def lostT (last seq : Int) : Int := if octB last = false then 0 else if octB seq = false then 0 else (seq - last + 255) % 256
def lostE (last seq : Int) : Int := if octB last = false then 5 else if octB seq = false then 5 else 0
theorem lost_any (a b : Int) (w : World) : Calls Try.prog 9 #[.int .i64 a, .int .i64 b] w fun e w' => e = .returned (.tuple #[.int .i64 (lostT a b), .int .i64 (lostE a b)]) ∧ w = w' := by
  have hl : lostT a b = if octB a = false then 0 else if octB b = false then 0 else (b - a + 255) % 256 := rfl
  have he : lostE a b = if octB a = false then 5 else if octB b = false then 5 else 0 := rfl
  by_cases ha : octB a = true
  · have ha' : 0 ≤ a ∧ a ≤ 255 := by simpa [octB] using ha
    rw [if_neg (by simp [ha])] at hl he
    by_cases hb : octB b = true
    · have hb' : 0 ≤ b ∧ b ≤ 255 := by simpa [octB] using hb
      rw [if_neg (by simp [hb])] at hl he
      have HL := Lib.hid hl; have HE := Lib.hid he; clear hl he
      go_enter Try.func9, Try.ntmps9
      go_wp2_with (go_at_call 32; refine (octet_any _ _).mono ?_; rintro e w' ⟨rfl, rfl⟩)
      go_ret2
      exact ⟨by rw [HL.out, HE.out]; rfl, rfl⟩
    · have hb2 : octB b = false := by simpa using hb
      rw [if_pos hb2] at hl he
      have HL := Lib.hid hl; have HE := Lib.hid he; clear hl he hb
      go_enter Try.func9, Try.ntmps9
      go_wp2_with (go_at_call 32; refine (octet_any _ _).mono ?_; rintro e w' ⟨rfl, rfl⟩)
      go_ret2
      exact ⟨by rw [HL.out, HE.out]; rfl, rfl⟩
  · have ha2 : octB a = false := by simpa using ha
    rw [if_pos ha2] at hl he
    have HL := Lib.hid hl; have HE := Lib.hid he; clear hl he ha
    go_enter Try.func9, Try.ntmps9
    go_wp2_with (go_at_call 32; refine (octet_any _ _).mono ?_; rintro e w' ⟨rfl, rfl⟩)
    go_ret2
    exact ⟨by rw [HL.out, HE.out]; rfl, rfl⟩

set_option maxHeartbeats 400000 in
theorem checksum_any (A : Option Addr) (n c B : Nat) (l : List UInt8) (w : World) (hr : Sl w B 1 A n c (bytesV l)) : Calls Try.prog 28 #[.slice A n c] w fun e w' => e = .returned (.int .u16 (crcAll l).toNat) ∧ w = w' := by
  have HL := Lib.hid (hr.len (fun _ => rfl) (by decide))
  obtain ⟨hnc, hcm⟩ := hr.le
  have HR := Lib.hid hr; clear hr
  go_enter Try.func28, Try.ntmps28
  go_wp2
  go_loop [3, 5, 6, 9] (fun s _ _ i => ∃ k : Nat, k ≤ n ∧ i = .int .i64 k ∧ s = .int .u16 (crcAll (l.take k)).toNat) (fun _ _ _ i => n - (intOf i).toNat)
  case atStart => exact ⟨0, Nat.zero_le _, rfl, rfl⟩
  case round =>
    obtain ⟨k, hk, rfl, rfl⟩ := hrel
    by_cases hlt : k < n
    · obtain ⟨b, off, x, rfl, hb, hx, hcell⟩ := HR.out.at1 hlt
      have HX := Lib.hid hx; clear hx
      have hx256 : x.toNat < 256 := x.toNat_lt
      generalize hs' : crcAll (l.take k) = s at *
      have HS := Lib.hid hs'; clear hs'
      have hs : s.toNat < 65536 := s.isLt
      go_wp2
      go_loop [3, 6, 18] (fun s' _ i => ∃ j : Nat, j ≤ 8 ∧ i = .int .i64 j ∧ s' = .int .u16 (crcBits j (s ^^^ (BitVec.ofNat 16 x.toNat <<< 8))).toNat) (fun _ _ i => 8 - (intOf i).toNat)
      case atStart => exact ⟨0, Nat.zero_le _, rfl, by rw [crc_in]⟩
      case round =>
        obtain ⟨j, hj, rfl, rfl⟩ := hrel
        generalize hc' : crcBits j (s ^^^ (BitVec.ofNat 16 x.toNat <<< 8)) = c'
        have HC := Lib.hid hc'; clear hc'
        have hc16 : c'.toNat < 65536 := c'.isLt
        by_cases hj8 : j < 8
        · go_wp2
          go_round
          case rel => exact ⟨j + 1, by omega, by go_num, by rw [crc_step, ← HC.out]; rfl⟩
          case measure => simp [intOf]; omega
        · go_wp2
          go_round
          case rel =>
            obtain rfl : j = 8 := by omega
            exact ⟨k + 1, by omega, by go_num, by rw [take_snoc HX.out, crcAll, crcFrom, List.foldl_append, ← HC.out, ← HS.out]; rfl⟩
          case measure => simp [intOf]; omega
    · go_wp2
      go_ret
      have : k = n := by omega
      subst this
      exact ⟨ret_int (by rw [List.take_of_length_le (by rw [HL.out]; omega)]), rfl⟩
end Go.Proofs.Ytjinhfomfbcnjaa
