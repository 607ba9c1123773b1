/-
  Walks of the reference of layer 32: Append, and of the statements' maker of journals.
-/
import Derived.Test.YtmcedodejnnkmaaJourR3
import Derived.Test.YtmcedodejnnkmaaMk
namespace Go.Proofs.Ytmcedodejnnkmaa
open Go.RowKit

/-- The sum at the end of whole records is that of the last one. -/
theorem drop_last (l : List UInt8) (f k : Nat) (sum : BitVec 64) (h : (readF f k sum l).err = 0) (hf : l.length < f) : (readF f k sum l).size = l.length ∧ (l.length ≠ 0 → 8 ≤ l.length ∧ (readF f k sum l).sum = numJ (l.drop (l.length - 8))) ∧ (l.length = 0 → (readF f k sum l).sum = sum) := by
  induction f generalizing k sum l with
  | zero => omega
  | succ f ih =>
    rw [readF] at h ⊢
    split at h
    · next h0 => rw [if_pos h0]; exact ⟨by simp [h0], fun h => absurd h0 h, fun _ => rfl⟩
    · next h0 =>
      split at h
      · next he => exact absurd h he
      · next he =>
        have hne := nextE_ok (by simpa using he)
        rw [if_neg h0, if_neg he]
        have := ih (l.drop (28 + longJ l)) (k + 1) (lastJ l) h (by rw [List.length_drop]; omega)
        rw [List.length_drop] at this
        refine ⟨by simp only; omega, fun _ => ⟨by omega, ?_⟩, fun h => absurd h h0⟩
        simp only
        by_cases hz : l.length - (28 + longJ l) = 0
        · rw [this.2.2 hz, lastJ]
          congr 1
          rw [show l.length - 8 = 20 + longJ l from by omega, List.take_of_length_le (by rw [List.length_drop]; omega)]
        · obtain ⟨h8, hs⟩ := this.2.1 hz
          rw [hs, List.drop_drop]
          congr 2
          omega
theorem readJ_whole {l : List UInt8} (h : (readJ l).err = 0) : (readJ l).size = l.length := (drop_last l _ _ _ h (by omega)).1
theorem lastS_eq {l : List UInt8} (h : (readJ l).err = 0) : lastS l = (readJ l).sum := by
  obtain ⟨_, h1, h2⟩ := drop_last l _ _ _ h (by omega)
  unfold lastS
  by_cases h0 : l.length = 0
  · rw [if_pos (by omega)]; exact (h2 h0).symm
  · obtain ⟨h8, hs⟩ := h1 h0
    rw [if_neg (by omega)]; exact hs.symm

set_option maxHeartbeats 1000000 in
theorem rappend_any (s p : ByteArray) (w : World) (hs : s.size ≤ 1000000000) (hp : p.size ≤ 999999000) : Calls Try.prog 21 #[.string s, .string p] w (RetStr w (appJ (toL s) (toL p)) (appE (toL s) (toL p))) := by
  have HR := Lib.hid (rread_any s w hs)
  have heE : appE (toL s) (toL p) = if (readJ (toL s)).err ≠ 0 then (readJ (toL s)).err else if (readJ (toL s)).recs.length = 1024 then 1 else if 16384 < p.size then 1 else 0 := by rw [appE, toL_len]
  have heJ : appJ (toL s) (toL p) = if appE (toL s) (toL p) = 0 then toL s ++ recJ ((readJ (toL s)).recs.length + 1) (readJ (toL s)).sum (toL p) else [] := rfl
  have hla := fun h => lastS_eq (l := toL s) h
  have hlen := readJ_len (toL s)
  generalize appE (toL s) (toL p) = ae at *
  generalize appJ (toL s) (toL p) = aj at *
  generalize readJ (toL s) = r at *
  obtain ⟨rs, sz, sm, er⟩ := r
  simp only at heE heJ hlen hla
  generalize hk : rs.length = k at *
  have HE := Lib.hid heE; have HJ := Lib.hid heJ; have HK := Lib.hid hk; have HLA := Lib.hid hla; clear heE heJ hk hla
  by_cases h1 : er = 0; rotate_left
  · have H1 : Hid (ae = er) := by unfold Hid; rw [HE.out, if_pos h1]
    have H2 : Hid (aj = []) := by unfold Hid; rw [HJ.out, if_neg (by rw [H1.out]; exact h1)]
    have q1 : (er != 0) = true := by simpa using h1
    clear h1
    go_enter Try.func21, Try.ntmps21
    go_wp2_with fail
    refine HR.out.mono ?_
    rintro e w1 ⟨A, c, rfl, h1, h2⟩
    clear h1
    go_wp2_with fail
    go_ret2
    exact ⟨by rw [H1.out, H2.out, ← empty_mk]; rfl, h2⟩
  subst h1
  have HL := Lib.hid (HLA.out rfl)
  by_cases h2 : k = 1024
  · have H1 : Hid (ae = 1) := by unfold Hid; rw [HE.out, if_neg (by simp), if_pos h2]
    have H2 : Hid (aj = []) := by unfold Hid; rw [HJ.out, if_neg (by rw [H1.out]; decide)]
    have q1 : ((k : Int) == 1024) = true := by simpa using by omega
    clear h2
    go_enter Try.func21, Try.ntmps21
    go_wp2_with fail
    refine HR.out.mono ?_
    rintro e w1 ⟨A, c, rfl, h1, h2⟩
    clear h1
    simp only [HK.out]
    go_wp2_with fail
    go_ret2
    exact ⟨by rw [H1.out, H2.out, ← empty_mk]; rfl, h2⟩
  have q1 : ((k : Int) == 1024) = false := by simpa using by omega
  by_cases h3 : 16384 < p.size
  · have H1 : Hid (ae = 1) := by unfold Hid; rw [HE.out, if_neg (by simp), if_neg h2, if_pos h3]
    have H2 : Hid (aj = []) := by unfold Hid; rw [HJ.out, if_neg (by rw [H1.out]; decide)]
    have q2 : decide ((16384 : Int) < (p.size : Int)) = true := by simp; omega
    clear h2
    go_enter Try.func21, Try.ntmps21
    go_wp2_with fail
    refine HR.out.mono ?_
    rintro e w1 ⟨A, c, rfl, h1, h2⟩
    clear h1
    simp only [HK.out]
    go_wp2_with fail
    go_ret2
    exact ⟨by rw [H1.out, H2.out, ← empty_mk]; rfl, h2⟩
  have q2 : decide ((16384 : Int) < (p.size : Int)) = false := by simp; omega
  have H1 : Hid (ae = 0) := by unfold Hid; rw [HE.out, if_neg (by simp), if_neg h2, if_neg h3]
  have H2 : Hid (aj = toL s ++ recJ (k + 1) sm (toL p)) := by unfold Hid; rw [HJ.out, if_pos (by rw [H1.out])]
  have hk2 : k < 1024 := by omega
  clear h2
  go_enter Try.func21, Try.ntmps21
  go_wp2_with fail
  refine HR.out.mono ?_
  rintro e w1 ⟨A, c, rfl, h1, h2⟩
  clear h1
  simp only [HK.out]
  go_wp2_with fail
  refine (last_any s _ hs).mono ?_
  rintro e w3 ⟨rfl, rfl⟩
  rw [HL.out]
  go_wp2_with fail
  rw [show ((k : Int) + 1) = ((k + 1 : Nat) : Int) from by omega]
  refine (rwrite_ok (k + 1) sm p _ (by omega) (by omega) (by omega)).mono ?_
  rintro e w2 ⟨rfl, h3⟩
  have hrl : s.size + (mkS (recJ (k + 1) sm (toL p))).size ≤ 9223372036854775807 := by rw [size_mk, recJ_len, toL_len]; omega
  go_wp2_with fail
  go_ret2
  refine ⟨?_, h2.trans (h3.mono h2.size)⟩
  rw [H1.out, H2.out, ← toL_mk (recJ (k + 1) sm (toL p)), ← toL_append, mk_toL]; rfl
end Go.Proofs.Ytmcedodejnnkmaa
