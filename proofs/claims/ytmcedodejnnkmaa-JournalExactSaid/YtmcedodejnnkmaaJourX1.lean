/-
  Walks of the reference's Whole, Payloads and Same, and of both Writes.
-/
import Derived.Test.YtmcedodejnnkmaaJourTn
namespace Go.Proofs.Ytmcedodejnnkmaa
open Go.RowKit

theorem rWhole_any (s : ByteArray) (w : World) (hs : s.size ≤ 1000000000) : Calls Try.prog 23 #[.string s] w fun e w' => e = .returned (.string (mkS (wholeJ (toL s)))) ∧ Below w.heap.size w w' := by
  have HR := Lib.hid (rread_any s w hs)
  have hle := readJ_size (toL s)
  rw [toL_len] at hle
  have hext : s.extract 0 (readJ (toL s)).size = mkS (wholeJ (toL s)) := by rw [extract_mk]; simp [wholeJ]
  generalize wholeJ (toL s) = wl at *
  generalize readJ (toL s) = r at *
  obtain ⟨rs, sz, sm, er⟩ := r
  simp only at hle hext
  have HX := Lib.hid hext; clear hext
  go_enter Try.func23, Try.ntmps23
  go_wp2_with fail
  refine HR.out.mono ?_
  rintro e w1 ⟨A, c, rfl, h1, h2⟩
  clear h1
  go_wp2_with fail
  go_ret
  exact ⟨by rw [← HX.out]; rfl, h2⟩
set_option maxHeartbeats 1000000 in
theorem rPayloads_any (s : ByteArray) (w : World) (hs : s.size ≤ 1000000000) : Calls Try.prog 24 #[.string s] w (RetStrs w (paysJ (toL s))) := by
  have HR := Lib.hid (rread_any s w hs)
  have hle := readJ_len (toL s)
  unfold paysJ
  generalize readJ (toL s) = r at *
  obtain ⟨rs, sz, sm, er⟩ := r
  simp only at hle
  obtain ⟨n, hn⟩ : ∃ n, rs.length = n := ⟨_, rfl⟩
  simp only [hn] at hle
  have HN := Lib.hid hn; clear hn
  go_enter Try.func24, Try.ntmps24
  go_wp2_with fail
  refine HR.out.mono ?_
  rintro e w1 ⟨A, c, rfl, h1, hb1⟩
  simp only [HN.out] at h1 ⊢
  have HSL := Lib.hid (Sl.of_own h1)
  obtain ⟨hc1, hc2⟩ := HSL.out.le
  have hz1 := hb1.size
  have HB1 := Lib.hid hb1
  clear h1 hb1 HR
  go_wp2_with fail
  go_loopw [6, 7] (fun o i wr => ∃ (i' c' : Nat) (A' : Option Addr), i = .int .i64 i' ∧ o = .slice A' i' c' ∧ i' ≤ n ∧ Hid (wr.ownsRow w1.heap.size 9 1 (.slice A' i' c') i' (strsV ((rs.take i').map (·.payload)))) ∧ Hid (Below w1.heap.size w1 wr)) (fun _ i _ => n - (intOf i).toNat)
  case atStart => exact ⟨0, 0, none, rfl, rfl, Nat.zero_le _, World.ownsRow_nil _ _ _ _, Below.refl _ _⟩
  case round =>
    obtain ⟨i, ci, Ai, rfl, rfl, hi, hown, hbl⟩ := hrel
    have hsz := hbl.out.size
    by_cases hlt : i < n
    · obtain ⟨br, offr, r, rfl, _, hr, hcr⟩ := (HSL.out.below hbl.out (Nat.le_refl _)).at (k := i) (fun _ => rfl) (by decide) hlt
      have hc2 := hcr 2 (.string (mkS r.payload)) rfl
      have HTK := Lib.hid (take_snoc hr)
      clear hcr hr
      go_wp2_with (at_builtin; go_must (refine wpList_app rfl (.tmp 20) (.tmp 26) rfl el_str (by rfl) (hown.out.alloc _) (by rfl) (Sl.newest (n := 1) (by simp) (by rfl) (by decide)) (by simp [Value.oneCell']) (by omega) (by omega) (by simp; omega) ?_; intro A' cap' w2 hown2 hgr2 hat2))
      go_roundw
      case rel =>
        refine ⟨i + 1, cap', A', by go_num, rfl, by omega, ?_, ?_⟩
        · unfold Hid
          rw [HTK.out, List.map_append, List.map_singleton, strsV_snoc]
          exact hown2
        · exact (hbl.out.alloc hsz _).grown hgr2 (by simp; omega) fun g hg => (own_lt hown.out g hg).1
      case measure => simp [intOf]; omega
    · obtain rfl : i = n := by omega
      have htk : rs.take i = rs := by rw [← HN.out, List.take_length]
      rw [htk] at hown
      go_wp2_with fail
      go_ret
      have hlm : (rs.map (·.payload)).length = i := by rw [List.length_map, HN.out]
      unfold RetStrs
      rw [hlm]
      exact ⟨Ai, ci, rfl, own_base hown.out hz1, HB1.out.trans (hbl.out.mono hz1)⟩
set_option maxHeartbeats 1000000 in
theorem Same_any (A1 A2 : Option Addr) (n c1 c2 B1 B2 : Nat) (rs : List Rec) (w : World) (h1 : Sl w B1 3 A1 n c1 (rs.flatMap Rec.cells)) (h2 : Sl w B2 3 A2 n c2 (rs.flatMap Rec.cells)) (hn : n ≤ 1000000000) (hB1 : B1 ≤ w.heap.size) (hB2 : B2 ≤ w.heap.size) :
    Calls Try.prog 22 #[.slice A1 n c1, .slice A2 n c2] w fun e w' => e = .returned (.bool true) ∧ Below w.heap.size w w' := by
  obtain ⟨hc1, hc2⟩ := h1.le
  obtain ⟨hc3, hc4⟩ := h2.le
  have H1 := Lib.hid h1; have H2 := Lib.hid h2; clear h1 h2
  go_enter Try.func22, Try.ntmps22
  go_wp2_with fail
  go_loopw [5] (fun i wr => ∃ (i' : Nat), i = .int .i64 i' ∧ i' ≤ n ∧ Hid (Below w.heap.size w wr)) (fun i _ => n - (intOf i).toNat)
  case atStart => exact ⟨0, rfl, Nat.zero_le _, Below.refl _ _⟩
  case round =>
    obtain ⟨i, rfl, hi, hbl⟩ := hrel
    by_cases hlt : i < n
    · obtain ⟨ba, offa, p, rfl, _, hp, hca⟩ := (H1.out.below hbl.out hB1).at (k := i) (fun _ => rfl) (by decide) hlt
      obtain ⟨bb, offb, q, rfl, _, hq, hcb⟩ := (H2.out.below hbl.out hB2).at (k := i) (fun _ => rfl) (by decide) hlt
      rw [hp] at hq
      injection hq with hq
      subst hq
      have a0 := hca 0 (.int .i64 p.number) rfl
      have a1 := hca 1 (.int .u64 p.before.toNat) rfl
      have a2 := hca 2 (.string (mkS p.payload)) rfl
      have b0 := hcb 0 (.int .i64 p.number) rfl
      have b1 := hcb 1 (.int .u64 p.before.toNat) rfl
      have b2 := hcb 2 (.string (mkS p.payload)) rfl
      rw [Nat.add_zero] at a0 b0
      generalize mkS p.payload = P at *
      generalize p.number = pn at *
      generalize p.before.toNat = pb at *
      clear hp hca hcb
      go_wp2_with fail
      go_quiet (fail)
      go_wp2_with fail
      go_roundw
      case rel => exact ⟨i + 1, by go_num, by omega, below_drewN hbl.out _⟩
      case measure => simp [intOf]; omega
    · obtain rfl : i = n := by omega
      go_wp2_with fail
      go_ret
      exact ⟨rfl, hbl.out⟩

def wrE (n : Int) (p : List UInt8) : Int := if n < 1 then 5 else if 1024 < n then 5 else if 16384 < p.length then 1 else 0
def wrJ (n : Int) (b : BitVec 64) (p : List UInt8) : List UInt8 := if wrE n p = 0 then recJ n.toNat b p else []
set_option maxHeartbeats 1000000 in
theorem Write_any (n : Int) (b : BitVec 64) (p : ByteArray) (w : World) (hp : p.size ≤ 999999000) :
    Calls Try.prog 27 #[.agg #[.int .i64 n, .int .u64 b.toNat, .string p]] w (RetStr w (wrJ n b (toL p)) (wrE n (toL p))) := by
  by_cases h1 : n < 1
  · have H1 : Hid (wrE n (toL p) = 5) := by unfold Hid; rw [wrE, if_pos h1]
    have H2 : Hid (wrJ n b (toL p) = []) := by unfold Hid; rw [wrJ, H1.out, if_neg (by decide)]
    go_enter Try.func27, Try.ntmps27
    go_wp2_with fail
    go_ret2
    exact ⟨by rw [H1.out, H2.out, ← empty_mk]; rfl, (Below.refl _ _).alloc (Nat.le_refl _) _⟩
  by_cases h2 : 1024 < n
  · have H1 : Hid (wrE n (toL p) = 5) := by unfold Hid; rw [wrE, if_neg h1, if_pos h2]
    have H2 : Hid (wrJ n b (toL p) = []) := by unfold Hid; rw [wrJ, H1.out, if_neg (by decide)]
    go_enter Try.func27, Try.ntmps27
    go_wp2_with fail
    go_ret2
    exact ⟨by rw [H1.out, H2.out, ← empty_mk]; rfl, (Below.refl _ _).alloc (Nat.le_refl _) _⟩
  by_cases h3 : 16384 < p.size
  · have H1 : Hid (wrE n (toL p) = 1) := by unfold Hid; rw [wrE, if_neg h1, if_neg h2, toL_len, if_pos h3]
    have H2 : Hid (wrJ n b (toL p) = []) := by unfold Hid; rw [wrJ, H1.out, if_neg (by decide)]
    have q2 : decide ((16384 : Int) < (p.size : Int)) = true := by simp; omega
    go_enter Try.func27, Try.ntmps27
    go_wp2_with fail
    go_ret2
    exact ⟨by rw [H1.out, H2.out, ← empty_mk]; rfl, (Below.refl _ _).alloc (Nat.le_refl _) _⟩
  have H1 : Hid (wrE n (toL p) = 0) := by unfold Hid; rw [wrE, if_neg h1, if_neg h2, toL_len, if_neg h3]
  have H2 : Hid (wrJ n b (toL p) = recJ n.toNat b (toL p)) := by unfold Hid; rw [wrJ, H1.out, if_pos rfl]
  have q2 : decide ((16384 : Int) < (p.size : Int)) = false := by simp; omega
  obtain ⟨m, rfl⟩ := Int.eq_ofNat_of_zero_le (show 0 ≤ n by omega)
  have q3 : decide ((m : Int) < 1) = false := by simp; omega
  have q4 : decide ((1024 : Int) < (m : Int)) = false := by simp; omega
  have hm : m ≤ 1024 := by omega
  go_enter Try.func27, Try.ntmps27
  go_wp2_with fail
  refine (write_any m b p _ (by omega) hp).mono ?_
  rintro e w2 ⟨rfl, hb2⟩
  go_wp2_with fail
  go_ret2
  exact ⟨by rw [H1.out, H2.out]; rfl, ((Below.refl w.heap.size w).alloc (Nat.le_refl _) _).trans (hb2.mono (by simp))⟩
set_option maxHeartbeats 1000000 in
theorem rWrite_any (n : Int) (b : BitVec 64) (p : ByteArray) (w : World) (hp : p.size ≤ 999999000) :
    Calls Try.prog 28 #[.agg #[.int .i64 n, .int .u64 b.toNat, .string p]] w (RetStr w (wrJ n b (toL p)) (wrE n (toL p))) := by
  by_cases h1 : n < 1
  · have H1 : Hid (wrE n (toL p) = 5) := by unfold Hid; rw [wrE, if_pos h1]
    have H2 : Hid (wrJ n b (toL p) = []) := by unfold Hid; rw [wrJ, H1.out, if_neg (by decide)]
    go_enter Try.func28, Try.ntmps28
    go_wp2_with fail
    go_ret2
    exact ⟨by rw [H1.out, H2.out, ← empty_mk]; rfl, (Below.refl _ _).alloc (Nat.le_refl _) _⟩
  by_cases h2 : 1024 < n
  · have H1 : Hid (wrE n (toL p) = 5) := by unfold Hid; rw [wrE, if_neg h1, if_pos h2]
    have H2 : Hid (wrJ n b (toL p) = []) := by unfold Hid; rw [wrJ, H1.out, if_neg (by decide)]
    go_enter Try.func28, Try.ntmps28
    go_wp2_with fail
    go_ret2
    exact ⟨by rw [H1.out, H2.out, ← empty_mk]; rfl, (Below.refl _ _).alloc (Nat.le_refl _) _⟩
  by_cases h3 : 16384 < p.size
  · have H1 : Hid (wrE n (toL p) = 1) := by unfold Hid; rw [wrE, if_neg h1, if_neg h2, toL_len, if_pos h3]
    have H2 : Hid (wrJ n b (toL p) = []) := by unfold Hid; rw [wrJ, H1.out, if_neg (by decide)]
    have q2 : decide ((16384 : Int) < (p.size : Int)) = true := by simp; omega
    go_enter Try.func28, Try.ntmps28
    go_wp2_with fail
    go_ret2
    exact ⟨by rw [H1.out, H2.out, ← empty_mk]; rfl, (Below.refl _ _).alloc (Nat.le_refl _) _⟩
  have H1 : Hid (wrE n (toL p) = 0) := by unfold Hid; rw [wrE, if_neg h1, if_neg h2, toL_len, if_neg h3]
  have H2 : Hid (wrJ n b (toL p) = recJ n.toNat b (toL p)) := by unfold Hid; rw [wrJ, H1.out, if_pos rfl]
  obtain ⟨m, rfl⟩ := Int.eq_ofNat_of_zero_le (show 0 ≤ n by omega)
  refine (rwrite_ok m b p w (by omega) (by omega) (by omega)).mono fun e w' ⟨he, hb⟩ => ⟨?_, hb⟩
  rw [he, H1.out, H2.out]; rfl
end Go.Proofs.Ytmcedodejnnkmaa
