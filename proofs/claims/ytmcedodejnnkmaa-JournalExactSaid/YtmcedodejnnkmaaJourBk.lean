/-
  Walks of Whole and of JournalBack.
-/
import Derived.Test.YtmcedodejnnkmaaJourDm
import Derived.BigQuiet
namespace Go.Proofs.Ytmcedodejnnkmaa
open Go.RowKit

def wholeJ (l : List UInt8) : List UInt8 := l.take (readJ l).size
theorem Whole_any (s : ByteArray) (w : World) (hs : s.size ≤ 1000000000) : Calls Try.prog 17 #[.string s] w fun e w' => e = .returned (.string (mkS (wholeJ (toL s)))) ∧ Below w.heap.size w w' := by
  have HR := Lib.hid (Read_any s w hs)
  have hle := readJ_size (toL s)
  rw [toL_len] at hle
  have hext : s.extract 0 (readJ (toL s)).size = mkS (wholeJ (toL s)) := by rw [extract_mk]; simp [wholeJ]
  generalize wholeJ (toL s) = wl at *
  generalize readJ (toL s) = r at *
  obtain ⟨rs, sz, sm, er⟩ := r
  simp only at hle hext
  have HX := Lib.hid hext; clear hext
  go_enter Try.func17, Try.ntmps17
  go_wp2_with fail
  refine HR.out.mono ?_
  rintro e w1 ⟨A, c, rfl, h1, h2⟩
  clear h1
  go_wp2_with fail
  go_ret
  exact ⟨by rw [← HX.out]; rfl, h2⟩
theorem take_rest (j r : List UInt8) : (j ++ r).take j.length = j := by simp
theorem app_next (ps : List (List UInt8)) (i : Nat) (p : List UInt8) (hs : Short ps) (hn : ps.length ≤ 1000) (h : ps[i]? = some p) : appE (chain 0 0#64 (ps.take i)) p = 0 ∧ appJ (chain 0 0#64 (ps.take i)) p = chain 0 0#64 (ps.take (i + 1)) := by
  rw [take_snoc h]
  exact app_chain (ps.take i) p (fun q hq => hs.small q (List.mem_of_mem_take hq)) (by rw [List.length_take]; omega) (hs.small p (List.mem_of_getElem? h))
theorem chain_front {ps : List (List UInt8)} {i : Nat} {p : List UInt8} (h : ps[i]? = some p) : (chain 0 0#64 (ps.take (i + 1))).take (pfx ps i) = chain 0 0#64 (ps.take i) := by
  rw [take_snoc h, chain_append, pfx]; exact take_rest _ _

set_option maxRecDepth 100000 in
set_option maxHeartbeats 4000000 in
theorem walk_JournalBack (w : World) (A : Option Addr) (n c : Nat) (z : List Int) (hz : Sl w w.heap.size 1 A n c (intsV z)) (_ : ∀ x ∈ z, (Lit.int .i64 x).wf = true) :
    Calls Try.prog 5 #[.slice A n c] w fun e w' => e = .returned (.bool true) ∧ Below w.heap.size w w' := by
  obtain ⟨hnc, hcm⟩ := hz.le
  have HZ := Lib.hid hz; clear hz
  go_enter Try.func5, Try.ntmps5
  go_wp2_with fail
  refine (awake_any _).mono ?_
  rintro e w0 ⟨rfl, hb0⟩
  go_wp2_with fail
  refine (few_any A n c _ (by omega)).mono ?_
  rintro e w1 ⟨rfl, rfl⟩
  by_cases hf : n ≤ 400; rotate_left
  · have hf' : decide (n ≤ 400) = false := by simpa using hf
    clear hf
    go_wp2_with fail
    refine (awake_any _).mono ?_
    rintro e w1 ⟨rfl, hb1⟩
    go_wp2_with fail
    go_ret
    exact ⟨rfl, hb0.trans (hb1.mono hb0.size)⟩
  have hf' : decide (n ≤ 400) = true := by simpa using hf
  go_wp2_with fail
  refine (new_any A n c w.heap.size z _ (HZ.out.below hb0 (Nat.le_refl _)) hb0.size).mono ?_
  rintro e w1 ⟨rfl, hd1, hb1, hs1⟩
  go_wp2_with fail
  refine (made_any w0.heap.size 8 w1 hd1.out (by decide)).mono ?_
  rintro e w2 ⟨ps, Ap, cp, rfl, hn5, hsh, hown, hd2, hg2⟩
  have hb2 : Below w.heap.size w w2 := (hb0.trans (hb1.out.mono hb0.size)).trans (below_of_grown hg2.out hb0.size (Nat.le_trans hb0.size hb1.out.size))
  have HB2 := Lib.hid hb2
  have HSL := Lib.hid (Sl.of_own hown.out)
  have hz2 := hb2.size
  obtain ⟨hc1, hc2⟩ := HSL.out.le
  have HAP := Lib.hid (fun i p h => app_next ps i p hsh.out (by omega) h)
  have HRD := Lib.hid (readJ_chain ps hsh.out.small (by omega))
  clear hb2 hown hd2 hg2 hd1 hb1 hs1
  obtain ⟨N, hN⟩ : ∃ N, ps.length = N := ⟨_, rfl⟩
  rw [hN] at hn5 HSL hc1 ⊢
  have HN := Lib.hid hN; clear hN
  generalize mkS (chain 0 0#64 ps) = S0 at *
  go_wp2_with fail
  go_loopw [5, 30] (fun j i wr => ∃ (i' : Nat) (S : ByteArray), i = .int .i64 i' ∧ j = .string S ∧ i' ≤ N ∧ S.size ≤ 57 * i' ∧ Hid (S = mkS (chain 0 0#64 (ps.take i'))) ∧ Hid (Below w2.heap.size w2 wr)) (fun _ i _ => N - (intOf i).toNat)
  case atStart => exact ⟨0, ⟨#[]⟩, rfl, rfl, Nat.zero_le _, by decide, rfl, Below.refl _ _⟩
  case round =>
    obtain ⟨i, S, rfl, rfl, hi, hS57, hS, hbl⟩ := hrel
    by_cases hlt : i < N
    · obtain ⟨bb, off, p, rfl, _, hp, hc⟩ := (HSL.out.below hbl.out (Nat.le_refl _)).at1 hlt
      have hp29 := hsh.out p (List.mem_of_getElem? hp)
      obtain ⟨ha1, ha2⟩ := HAP.out i p hp
      have HA1 := Lib.hid ha1; have HA2 := Lib.hid ha2; clear ha1 ha2
      have hfr := chain_front hp
      have hsu := pfx_succ hp
      have hpi : pfx ps i = S.size := by rw [hS.out]; rfl
      rw [hpi] at hfr hsu
      have hX : (mkS (chain 0 0#64 (ps.take (i + 1)))).size = pfx ps (i + 1) := rfl
      rw [hsu] at hX
      have hXe : (mkS (chain 0 0#64 (ps.take (i + 1)))).extract 0 S.size = S := by
        rw [extract_mk, toL_mk, List.drop_zero, Nat.sub_zero, hfr, ← hS.out]
      go_wp2_with fail
      refine (Append_any S (mkS p) _ (by omega) (by rw [size_mk]; omega)).mono ?_
      rintro e w3 ⟨rfl, hb3⟩
      rw [hS.out, toL_mk, toL_mk, HA1.out, HA2.out, ← hS.out]
      generalize hXD : mkS (chain 0 0#64 (ps.take (i + 1))) = X at *
      have HXD := Lib.hid hXD.symm
      obtain ⟨m, hm⟩ : ∃ m, m = S.size + (28 + p.length) := ⟨_, rfl⟩
      rw [← hm] at hX
      have q1 : decide ((m : Int) ≤ (S.size : Int)) = false := by simp; omega
      have q2 : (S.size : Int) ≤ (m : Int) := by omega
      have q3 : S.size < m := by omega
      have hm57 : m ≤ 57 * (i + 1) := by omega
      have HX : Hid (X.size ≤ 57 * (i + 1)) := by unfold Hid; rw [hX]; exact hm57
      have HXE : Hid (X = mkS (chain 0 0#64 (ps.take (i + 1)))) := HXD
      have hbn := Lib.hid (hbl.out.trans (hb3.mono hbl.out.size))
      clear hm hp hsu hfr hpi hXD
      go_wp2_with fail
      go_roundw
      case rel => exact ⟨i + 1, X, by go_num, rfl, by omega, HX.out, HXE, hbn⟩
      case measure => simp [intOf]; omega
    · obtain rfl : i = N := by omega
      have htk : ps.take i = ps := by rw [← HN.out, List.take_length]
      rw [htk] at hS
      have hwl : wholeJ (toL S) = toL S := by rw [hS.out, toL_mk, wholeJ, HRD.out]; simp
      have hrd : readJ (toL S) = ⟨recsOf 0 0#64 ps, S.size, endSum 0 0#64 ps, 0⟩ := by rw [hS.out, toL_mk, HRD.out]; rfl
      have HWL := Lib.hid hwl; have HR2 := Lib.hid hrd; clear hwl hrd
      go_wp2_with fail
      refine (Read_any S _ (by omega)).mono ?_
      rintro e w4 ⟨A4, c4, rfl, ho4, hb4⟩
      rw [HR2.out] at ho4 ⊢
      simp only [recsOf_len, HN.out] at ho4 ⊢
      have hn4 := Lib.hid (hbl.out.trans (hb4.mono hbl.out.size))
      have HO4 := Lib.hid ho4; clear ho4
      go_wp2_with fail
      refine (Whole_any S _ (by omega)).mono ?_
      rintro e w5 ⟨rfl, hb5⟩
      rw [HWL.out, mk_toL]
      have HN5 := Lib.hid (hn4.out.trans (hb5.mono hn4.out.size))
      have HR5 := Lib.hid ((Sl.of_own HO4.out).below hb5 (Nat.le_refl _))
      have HP5 := Lib.hid (HSL.out.below HN5.out (Nat.le_refl _))
      have HW45 := Lib.hid hb5.size
      clear hb5 hb4
      obtain ⟨hc41, hc42⟩ := HR5.out.le
      go_wp2_with fail
      go_loopw [88] (fun k wr => ∃ (k' : Nat), k = .int .i64 k' ∧ k' ≤ i ∧ Hid (Below w5.heap.size w5 wr)) (fun k _ => i - (intOf k).toNat)
      case atStart => exact ⟨0, rfl, Nat.zero_le _, Below.refl _ _⟩
      case round =>
        obtain ⟨k, rfl, hk, hbq⟩ := hrel
        by_cases hlt : k < i
        · obtain ⟨bb, off, p, rfl, _, hp, hc⟩ := (HP5.out.below hbq.out (Nat.le_trans HN5.out.size (Nat.le_refl _))).at1 hlt
          obtain ⟨br, offr, r, rfl, _, hr, hcr⟩ := (HR5.out.below hbq.out HW45.out).at (k := k) (fun _ => rfl) (by decide) hlt
          have hnum := recsOf_num 0 0#64 ps k r hr
          have hpay : r.payload = p := by
            have h1 := congrArg (fun l => l[k]?) (recsOf_pay 0 0#64 ps)
            simp only [List.getElem?_map, hr, hp] at h1
            simpa using h1
          have hc0 := hcr 0 (.int .i64 r.number) rfl
          have hc2 := hcr 2 (.string (mkS r.payload)) rfl
          rw [hnum, Nat.add_zero, show ((0 + k + 1 : Nat) : Int) = (k : Int) + 1 by omega] at hc0
          rw [hpay] at hc2
          generalize mkS p = P at *
          clear hcr hnum hpay hp hr
          go_wp2_with fail
          go_quiet (fail)
          go_wp2_with fail
          go_roundw
          case rel => exact ⟨k + 1, by go_num, by omega, below_drewN hbq.out _⟩
          case measure => simp [intOf]; omega
        · obtain rfl : k = i := by omega
          go_wp2_with fail
          go_ret
          exact ⟨rfl, HB2.out.trans ((HN5.out.trans (hbq.out.mono HN5.out.size)).mono hz2)⟩
end Go.Proofs.Ytmcedodejnnkmaa
