/-
  Walks of layer 32: read.
-/
import Derived.Test.YtmcedodejnnkmaaJourW4
namespace Go.Proofs.Ytmcedodejnnkmaa
open Go.RowKit

def Rec.cells (r : Rec) : List Value := [.int .i64 r.number, .int .u64 r.before.toNat, .string (mkS r.payload)]
theorem el_rec : ElemI Try.prog 32 43 3 32 := ElemI.mk' (z := .agg #[.int .i64 0, .int .u64 0, .string ⟨#[]⟩]) Try.underlying32 (by kernel_rfl) rfl (by decide)
/-- The records, their bytes, the last sum and an error are returned. -/
def RetRead (w : World) (r : Read) (e : Ending) (w' : World) : Prop :=
  ∃ A c, e = .returned (.tuple #[.slice A r.recs.length c, .int .i64 r.size, .int .u64 r.sum.toNat, .int .i64 r.err]) ∧ w'.ownsRow w.heap.size 43 3 (.slice A r.recs.length c) r.recs.length (r.recs.flatMap Rec.cells) ∧ Below w.heap.size w w'
theorem results4 {fn : Func} {t u v x : Tmp} (h : fn.results = #[.tmp t, .tmp u, .tmp v, .tmp x]) (tmps : Array Value) (P : Program) (w : World) :
    (results fn tmps).run P w = .ok (.tuple #[tmps.getD t undef, tmps.getD u undef, tmps.getD v undef, tmps.getD x undef]) w := by simp [results, h]
/-- What has been read so far, and what is still to be read. -/
def ReadAt (l : List UInt8) (done : List Rec) (at_ : Nat) (sum : BitVec 64) : Prop :=
  ∃ f, (l.drop at_).length < f ∧ readJ l = ⟨done ++ (readF f done.length sum (l.drop at_)).recs, at_ + (readF f done.length sum (l.drop at_)).size, (readF f done.length sum (l.drop at_)).sum, (readF f done.length sum (l.drop at_)).err⟩
theorem readAt_start (l : List UInt8) : ReadAt l [] 0 0#64 := ⟨l.length + 1, by simp, by simp [readJ]⟩
theorem readAt_bad {l : List UInt8} {done : List Rec} {at_ : Nat} {sum : BitVec 64} (h : ReadAt l done at_ sum) (hlt : at_ < l.length) (he : nextE done.length sum (l.drop at_) ≠ 0) : readJ l = ⟨done, at_, sum, nextE done.length sum (l.drop at_)⟩ := by
  obtain ⟨f, hf, h⟩ := h
  rw [h]
  cases f with
  | zero => omega
  | succ f => rw [readF, if_neg (by rw [List.length_drop]; omega), if_pos he]; simp
theorem readAt_end {l : List UInt8} {done : List Rec} {at_ : Nat} {sum : BitVec 64} (h : ReadAt l done at_ sum) (hlt : at_ = l.length) : readJ l = ⟨done, at_, sum, 0⟩ := by
  obtain ⟨f, hf, h⟩ := h
  rw [h]
  cases f with
  | zero => omega
  | succ f => rw [readF, if_pos (by rw [List.length_drop]; omega)]; simp
theorem readAt_step {l : List UInt8} {done : List Rec} {at_ : Nat} {sum : BitVec 64} (h : ReadAt l done at_ sum) (hlt : at_ < l.length) (he : nextE done.length sum (l.drop at_) = 0) :
    ReadAt l (done ++ [⟨done.length + 1, sum, payJ (l.drop at_)⟩]) (at_ + (28 + longJ (l.drop at_))) (lastJ (l.drop at_)) := by
  obtain ⟨f, hf, h⟩ := h
  cases f with
  | zero => omega
  | succ f =>
    rw [readF, if_neg (by rw [List.length_drop]; omega), if_neg (by simpa using he)] at h
    refine ⟨f, ?_, ?_⟩
    · have := (nextE_ok he).2.2.1
      rw [← List.drop_drop, List.length_drop]; omega
    · rw [h, ← List.drop_drop, List.length_append, List.length_singleton]
      simp [Nat.add_assoc]

theorem own_below {w w' : World} {base : Nat} {e : TypeId} {size n : Nat} {v : Value} {xs : List Value} (h : w.ownsRow base e size v n xs) (hb : Below w.heap.size w w') : w'.ownsRow base e size v n xs :=
  h.kept (grown_of_below hb none) (by cases v.ownBlock <;> simp)
set_option maxHeartbeats 2000000 in
theorem read_any (s : ByteArray) (w : World) (hs : s.size ≤ 1000000000) : Calls Try.prog 29 #[.string s] w (RetRead w (readJ (toL s))) := by
  have hsl := toL_len s
  have HSL := Lib.hid hsl; clear hsl
  go_enter Try.func29, Try.ntmps29
  go_wp2
  go_loopw [2, 3, 4] (fun v a m wr => ∃ (at_ cap : Nat) (Av : Option Addr) (sum : BitVec 64) (done : List Rec), at_ ≤ s.size ∧ 28 * done.length ≤ at_ ∧ a = .int .i64 at_ ∧ m = .int .u64 sum.toNat ∧ v = .slice Av done.length cap ∧ Hid (ReadAt (toL s) done at_ sum) ∧
    Hid (wr.ownsRow w.heap.size 43 3 (.slice Av done.length cap) done.length (done.flatMap Rec.cells)) ∧ Hid (Below w.heap.size w wr)) (fun _ a _ _ => s.size - (intOf a).toNat)
  case atStart => exact ⟨0, 0, none, 0#64, [], Nat.zero_le _, Nat.le_refl _, rfl, rfl, rfl, readAt_start _, World.ownsRow_nil _ _ _ _, Below.refl _ _⟩
  case round =>
    obtain ⟨at_, cap, Av, sum, done, hat, hdn, rfl, rfl, rfl, hra, hown, hbl⟩ := hrel
    have hsz := hbl.out.size
    have HSU := Lib.hid sum.isLt
    by_cases hlt : at_ < s.size
    · have htl : toL (s.extract at_ s.size) = (toL s).drop at_ := by rw [toL_extract, List.take_of_length_le (by rw [List.length_drop, HSL.out]; omega)]
      have HTL := Lib.hid htl; clear htl
      by_cases he : nextE done.length sum ((toL s).drop at_) = 0
      · have HRS := Lib.hid (readAt_step hra.out (by rw [HSL.out]; exact hlt) he)
        have HN := Lib.hid (next_ok (s.extract at_ s.size) Av done.length cap sum wr (by simp; omega) (by omega) (by rw [HTL.out]; exact he))
        have hne := nextE_ok he
        rw [HTL.out] at HN
        have hlg := hne.2.2.1
        have hlg2 := hne.2.1
        rw [List.length_drop, HSL.out] at hlg
        have hlast : numJ (toL (s.extract (at_ + (20 + longJ ((toL s).drop at_))) (at_ + (28 + longJ ((toL s).drop at_))))) = lastJ ((toL s).drop at_) := by
          rw [toL_extract, lastJ, List.drop_drop]
          congr 2
          omega
        generalize hd : done.length = k at *
        have HD := Lib.hid hd; clear hd
        generalize longJ ((toL s).drop at_) = lg at *
        generalize payJ ((toL s).drop at_) = pay at *
        generalize lastJ ((toL s).drop at_) = last at *
        have HLA := Lib.hid hlast; clear hlast he hne
        go_wp2_with fail
        refine HN.out.mono ?_
        rintro e w1 ⟨rfl, hb1⟩
        have hz1 := hb1.size
        go_wp2_with (at_builtin; go_must (refine wpList_app rfl (.tmp 29) (.tmp 31) rfl el_rec (by rfl) (((own_below hown.out hb1).alloc _).alloc _) (by rfl) (Sl.newest (n := 1) (by simp) (by rfl) (by decide)) (by simp [Value.oneCell']) (by omega) (by omega) (by simp; omega) ?_; intro A' cap' w2 hown2 hgr2 hat2))
        refine (number_any _ _ (by simp; omega)).mono ?_
        rintro e w3 ⟨rfl, rfl⟩
        rw [show at_ + (28 + lg) - 8 = at_ + (20 + lg) from by omega, HLA.out]
        go_wp2_with fail
        go_roundw
        case rel =>
          refine ⟨at_ + (28 + lg), cap', A', last, done ++ [⟨k + 1, sum, pay⟩], by omega, ?_, rfl, rfl, ?_, HRS, ?_, ?_⟩
          · rw [List.length_append, HD.out, List.length_singleton]; omega
          · rw [List.length_append, HD.out, List.length_singleton]
          · unfold Hid
            rw [List.length_append, HD.out, List.length_singleton, List.flatMap_append]
            exact hown2
          · exact (((hbl.out.trans (hb1.mono hsz)).alloc (by omega) _).alloc (by simp; omega) _).grown hgr2 (by simp; omega) fun g hg => (own_lt hown.out g hg).1
        case measure => simp [intOf]; omega
      · have HRJ := Lib.hid (readAt_bad hra.out (by rw [HSL.out]; exact hlt) he)
        have HN := Lib.hid (next_bad (s.extract at_ s.size) Av done.length cap sum wr (by simp; omega) (by omega) (by rw [HTL.out]; exact he))
        generalize hd : done.length = k at *
        have HD := Lib.hid hd; clear hd
        rw [HTL.out] at HN
        generalize nextE k sum ((toL s).drop at_) = er at *
        have q : (er != 0) = true := by simpa using he
        clear he
        go_wp2_with fail
        refine HN.out.mono ?_
        rintro e w1 ⟨rfl, hb1⟩
        go_wp2_with fail
        refine bodyPost_ret (results4 rfl _ _ _) rfl ?_
        rw [HRJ.out]
        refine ⟨Av, cap, by rw [HD.out]; rfl, ?_, ?_⟩
        · rw [HD.out]
          exact (own_below hown.out hb1).alloc _
        · exact (hbl.out.trans (hb1.mono hsz)).alloc (Nat.le_trans hsz hb1.size) _
    · have HRJ := Lib.hid (readAt_end hra.out (by rw [HSL.out]; omega))
      generalize hd : done.length = k at *
      have HD := Lib.hid hd; clear hd
      go_wp2_with fail
      refine bodyPost_ret (results4 rfl _ _ _) rfl ?_
      rw [HRJ.out]
      refine ⟨Av, cap, by rw [HD.out]; rfl, by rw [HD.out]; exact hown.out, hbl.out⟩
end Go.Proofs.Ytmcedodejnnkmaa
