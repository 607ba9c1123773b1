/-
  Walks of layer 32: Read, Append, Whole.
-/
import Derived.Test.YtmcedodejnnkmaaJourW5
import Derived.Test.YtmcedodejnnkmaaJourW2
namespace Go.Proofs.Ytmcedodejnnkmaa
open Go.RowKit

/-- The records, their bytes and an error are returned. -/
def RetRead3 (w : World) (r : Read) (e : Ending) (w' : World) : Prop :=
  ∃ A c, e = .returned (.tuple #[.slice A r.recs.length c, .int .i64 r.size, .int .i64 r.err]) ∧ w'.ownsRow w.heap.size 43 3 (.slice A r.recs.length c) r.recs.length (r.recs.flatMap Rec.cells) ∧ Below w.heap.size w w'
theorem Read_any (s : ByteArray) (w : World) (hs : s.size ≤ 1000000000) : Calls Try.prog 14 #[.string s] w (RetRead3 w (readJ (toL s))) := by
  have HR := Lib.hid (read_any s w hs)
  generalize readJ (toL s) = r at *
  obtain ⟨rs, sz, sm, er⟩ := r
  go_enter Try.func14, Try.ntmps14
  go_wp2_with fail
  refine HR.out.mono ?_
  rintro e w1 ⟨A, c, rfl, h1, h2⟩
  go_wp2_with fail
  go_ret3
  exact ⟨A, c, rfl, h1, h2⟩

def appE (l p : List UInt8) : Int := if (readJ l).err ≠ 0 then (readJ l).err else if (readJ l).recs.length = 1024 then 1 else if 16384 < p.length then 1 else 0
def appJ (l p : List UInt8) : List UInt8 := if appE l p = 0 then l ++ recJ ((readJ l).recs.length + 1) (readJ l).sum p else []
theorem recJ_len (n : Nat) (b : BitVec 64) (p : List UInt8) : (recJ n b p).length = 28 + p.length := by
  simp only [recJ, headJ, List.length_append, beB_len]; omega
theorem empty_mk : (⟨#[]⟩ : ByteArray) = mkS [] := rfl
set_option maxHeartbeats 1000000 in
theorem Append_any (s p : ByteArray) (w : World) (hs : s.size ≤ 1000000000) (hp : p.size ≤ 999999000) : Calls Try.prog 15 #[.string s, .string p] w (RetStr w (appJ (toL s) (toL p)) (appE (toL s) (toL p))) := by
  have HR := Lib.hid (read_any s w hs)
  have heE : appE (toL s) (toL p) = if (readJ (toL s)).err ≠ 0 then (readJ (toL s)).err else if (readJ (toL s)).recs.length = 1024 then 1 else if 16384 < p.size then 1 else 0 := by rw [appE, toL_len]
  have heJ : appJ (toL s) (toL p) = if appE (toL s) (toL p) = 0 then toL s ++ recJ ((readJ (toL s)).recs.length + 1) (readJ (toL s)).sum (toL p) else [] := rfl
  generalize appE (toL s) (toL p) = ae at *
  generalize appJ (toL s) (toL p) = aj at *
  have hlen := readJ_len (toL s)
  generalize readJ (toL s) = r at *
  obtain ⟨rs, sz, sm, er⟩ := r
  generalize hk : rs.length = k at *
  simp only at heE heJ hlen
  have HE := Lib.hid heE; have HJ := Lib.hid heJ; have HK := Lib.hid hk; clear heE heJ hk
  have hkb : k ≤ 1024 := hlen
  by_cases h1 : er = 0; rotate_left
  · have H1 : Hid (ae = er) := by unfold Hid; rw [HE.out, if_pos h1]
    have H2 : Hid (aj = []) := by unfold Hid; rw [HJ.out, if_neg (by rw [H1.out]; exact h1)]
    have q1 : (er != 0) = true := by simpa using h1
    clear h1
    go_enter Try.func15, Try.ntmps15
    go_wp2_with fail
    refine HR.out.mono ?_
    rintro e w1 ⟨A, c, rfl, h1, h2⟩
    clear h1
    go_wp2_with fail
    go_ret2
    exact ⟨by rw [H1.out, H2.out, ← empty_mk]; rfl, h2⟩
  subst h1
  by_cases h2 : k = 1024
  · have H1 : Hid (ae = 1) := by unfold Hid; rw [HE.out, if_neg (by simp), if_pos h2]
    have H2 : Hid (aj = []) := by unfold Hid; rw [HJ.out, if_neg (by rw [H1.out]; decide)]
    have q1 : ((k : Int) == 1024) = true := by simpa using by omega
    clear h2
    go_enter Try.func15, Try.ntmps15
    go_wp2_with fail
    refine HR.out.mono ?_
    rintro e w1 ⟨A, c, rfl, h1, h2⟩
    clear h1
    simp only [HK.out]
    go_wp2_with fail
    go_ret2
    exact ⟨by rw [H1.out, H2.out, ← empty_mk]; rfl, h2⟩
  have q1 : ((k : Int) == 1024) = false := by simpa using by omega
  by_cases h3 : 16384 < p.size
  · have H1 : Hid (ae = 1) := by unfold Hid; rw [HE.out, if_neg (by simp), if_neg h2, if_pos h3]
    have H2 : Hid (aj = []) := by unfold Hid; rw [HJ.out, if_neg (by rw [H1.out]; decide)]
    have q2 : decide ((16384 : Int) < (p.size : Int)) = true := by simp; omega
    clear h2
    go_enter Try.func15, Try.ntmps15
    go_wp2_with fail
    refine HR.out.mono ?_
    rintro e w1 ⟨A, c, rfl, h1, h2⟩
    clear h1
    simp only [HK.out]
    go_wp2_with fail
    go_ret2
    exact ⟨by rw [H1.out, H2.out, ← empty_mk]; rfl, h2⟩
  have q2 : decide ((16384 : Int) < (p.size : Int)) = false := by simp; omega
  have H1 : Hid (ae = 0) := by unfold Hid; rw [HE.out, if_neg (by simp), if_neg h2, if_neg h3]
  have H2 : Hid (aj = toL s ++ recJ (k + 1) sm (toL p)) := by unfold Hid; rw [HJ.out, if_pos (by rw [H1.out])]
  clear h2
  go_enter Try.func15, Try.ntmps15
  go_wp2_with fail
  refine HR.out.mono ?_
  rintro e w1 ⟨A, c, rfl, h1, h2⟩
  clear h1
  simp only [HK.out]
  go_wp2_with fail
  rw [show ((k : Int) + 1) = ((k + 1 : Nat) : Int) from by omega]
  refine (write_any (k + 1) sm p _ (by omega) hp).mono ?_
  rintro e w2 ⟨rfl, h3⟩
  have hrl : s.size + (mkS (recJ (k + 1) sm (toL p))).size ≤ 9223372036854775807 := by rw [size_mk, recJ_len, toL_len]; omega
  go_wp2_with fail
  go_ret2
  refine ⟨?_, h2.trans (h3.mono h2.size)⟩
  rw [H1.out, H2.out, ← toL_mk (recJ (k + 1) sm (toL p)), ← toL_append, mk_toL]; rfl
end Go.Proofs.Ytmcedodejnnkmaa
