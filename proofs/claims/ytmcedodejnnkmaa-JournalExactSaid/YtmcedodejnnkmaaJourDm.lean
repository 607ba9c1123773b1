/-
  Walk of JournalDamage.
-/
import Derived.Test.YtmcedodejnnkmaaJourD
import Derived.OpenShut
namespace Go.Proofs.Ytmcedodejnnkmaa
open Go.RowKit

def pfx (ps : List (List UInt8)) (i : Nat) : Nat := (chain 0 0#64 (ps.take i)).length
theorem pfx_zero (ps : List (List UInt8)) : pfx ps 0 = 0 := by simp [pfx, chain]
theorem pfx_succ {ps : List (List UInt8)} {i : Nat} {p : List UInt8} (h : ps[i]? = some p) : pfx ps (i + 1) = pfx ps i + (28 + p.length) := by
  rw [pfx, pfx, take_snoc h, chain_len, chain_len, List.map_append, List.sum_append]; simp
theorem pfx_mono (ps : List (List UInt8)) {i j : Nat} (h : i ≤ j) : pfx ps i ≤ pfx ps j := by
  rw [pfx, pfx, show ps.take i = (ps.take j).take i by rw [List.take_take, Nat.min_eq_left h]]
  conv => rhs; rw [← List.take_append_drop i (ps.take j)]
  rw [chain_append, List.length_append]; omega
theorem pfx_all (ps : List (List UInt8)) : pfx ps ps.length = (chain 0 0#64 ps).length := by rw [pfx, List.take_length]
theorem split_at {ps : List (List UInt8)} {r : Nat} {p : List UInt8} (h : ps[r]? = some p) : ps = ps.take r ++ p :: ps.drop (r + 1) := by
  have hr : r < ps.length := (List.getElem?_eq_some_iff.1 h).1
  have hp : ps[r] = p := (List.getElem?_eq_some_iff.1 h).2
  conv => lhs; rw [← List.take_append_drop r ps, List.drop_eq_getElem_cons hr, hp]
/-- Where a place k lies: in record r. -/
def InRec (ps : List (List UInt8)) (k r i : Nat) : Prop := r ≤ i ∧ pfx ps r ≤ k ∧ (r < i → k < pfx ps (r + 1))
theorem InRec.up {ps : List (List UInt8)} {k r i : Nat} (h : InRec ps k r i) (hk : pfx ps (i + 1) ≤ k) : r = i ∧ InRec ps k (i + 1) (i + 1) := by
  have hr : r = i := by
    rcases Nat.lt_or_ge r i with h1 | h1
    · have := h.2.2 h1
      have := pfx_mono ps (show r + 1 ≤ i + 1 by omega)
      omega
    · have := h.1; omega
  exact ⟨hr, Nat.le_refl _, hk, fun h => absurd h (by omega)⟩
theorem InRec.stay {ps : List (List UInt8)} {k r i : Nat} (h : InRec ps k r i) (hk : k < pfx ps (i + 1)) : InRec ps k r (i + 1) := by
  refine ⟨by have := h.1; omega, h.2.1, fun _ => ?_⟩
  rcases Nat.lt_or_ge r i with h1 | h1
  · exact h.2.2 h1
  · have := h.1
    obtain rfl : r = i := by omega
    exact hk
theorem damage (ps : List (List UInt8)) (k r : Nat) (x : UInt8) (hs : Small ps) (hn : ps.length ≤ 1024) (hr : InRec ps k r ps.length) (hk : k < (chain 0 0#64 ps).length) (hno : ¬ (16 ≤ k - pfx ps r ∧ k - pfx ps r < 20)) (hx : (chain 0 0#64 ps)[k]? ≠ some x) :
    (readJ ((chain 0 0#64 ps).set k x)).err ≠ 0 ∧ (readJ ((chain 0 0#64 ps).set k x)).recs.length = r := by
  have hrl : r < ps.length := by
    rcases Nat.lt_or_ge r ps.length with h | h
    · exact h
    · have h1 := hr.1; obtain rfl : r = ps.length := by omega
      have := hr.2.1; rw [pfx_all] at this; omega
  have hp := List.getElem?_eq_getElem hrl
  have hlt := hr.2.2 hrl
  rw [pfx_succ hp] at hlt
  have hpk := hr.2.1
  have he := split_at hp
  generalize ps[r] = p at *
  have hlen : (ps.take r).length = r := by rw [List.length_take]; omega
  have hd := read_damage (ps.take r) (ps.drop (r + 1)) p (k - pfx ps r) x (by rw [← he]; exact hs) (by rw [← he]; exact hn) (by omega) hno
  rw [← he, show (chain 0 0#64 (ps.take r)).length = pfx ps r from rfl, show pfx ps r + (k - pfx ps r) = k by omega, hlen] at hd
  exact hd hx

set_option maxRecDepth 100000 in
set_option maxHeartbeats 4000000 in
theorem walk_JournalDamage (w : World) (A : Option Addr) (n c : Nat) (z : List Int) (hz : Sl w w.heap.size 1 A n c (intsV z)) (_ : ∀ x ∈ z, (Lit.int .i64 x).wf = true) (at_ : Int) (_ : (Lit.int .i64 at_).wf = true) (by_ : Int) (wb : (Lit.int .u8 by_).wf = true) :
    Calls Try.prog 3 #[.slice A n c, .int .i64 at_, .int .u8 by_] w fun e w' => e = .returned (.bool true) ∧ Below w.heap.size w w' := by
  obtain ⟨hnc, hcm⟩ := hz.le
  have HZ := Lib.hid hz; clear hz
  obtain ⟨hv0, hv1⟩ := bounds_u8 wb
  clear wb
  obtain ⟨V, rfl⟩ := Int.eq_ofNat_of_zero_le hv0
  go_enter Try.func3, Try.ntmps3
  go_wp2_with fail
  refine (awake_any _).mono ?_
  rintro e w0 ⟨rfl, hb0⟩
  go_wp2_with fail
  refine (few_any A n c _ (by omega)).mono ?_
  rintro e w1 ⟨rfl, rfl⟩
  by_cases hf : n ≤ 400; rotate_left
  · have hf' : decide (n ≤ 400) = false := by simpa using hf
    clear hf
    go_wp2_with fail
    refine (awake_any _).mono ?_
    rintro e w1 ⟨rfl, hb1⟩
    go_wp2_with fail
    go_ret
    exact ⟨rfl, hb0.trans (hb1.mono hb0.size)⟩
  have hf' : decide (n ≤ 400) = true := by simpa using hf
  by_cases hv : V = 0
  · subst hv
    go_wp2_with fail
    refine (awake_any _).mono ?_
    rintro e w1 ⟨rfl, hb1⟩
    go_wp2_with fail
    go_ret
    exact ⟨rfl, hb0.trans (hb1.mono hb0.size)⟩
  have hv' : (((V : Nat) : Int) == 0) = false := by simpa using hv
  go_wp2_with fail
  refine (new_any A n c w.heap.size z _ (HZ.out.below hb0 (Nat.le_refl _)) hb0.size).mono ?_
  rintro e w1 ⟨rfl, hd1, hb1, hs1⟩
  go_wp2_with fail
  refine (made_any w0.heap.size 5 w1 hd1.out (by decide)).mono ?_
  rintro e w2 ⟨ps, Ap, cp, rfl, hn5, hsh, hown, hd2, hg2⟩
  have hb2 : Below w.heap.size w w2 := (hb0.trans (hb1.out.mono hb0.size)).trans (below_of_grown hg2.out hb0.size (Nat.le_trans hb0.size hb1.out.size))
  have HB2 := Lib.hid hb2
  have hjl := hsh.out.len
  have HSL := Lib.hid (Sl.of_own hown.out)
  have hz2 := hb2.size
  obtain ⟨hc1, hc2⟩ := HSL.out.le
  obtain ⟨J, hJ⟩ : ∃ J, (chain 0 0#64 ps).length = J := ⟨_, rfl⟩
  have HJ := Lib.hid hJ
  have hsz : (mkS (chain 0 0#64 ps)).size = J := by rw [size_mk, hJ]
  have HDM := Lib.hid (fun k r x => damage ps k r x hsh.out.small (by omega))
  clear hb2 hown hd2 hg2 hd1 hb1 hs1
  generalize hS : mkS (chain 0 0#64 ps) = S at *
  have HS := Lib.hid hS; clear hS
  obtain ⟨N, hN⟩ : ∃ N, ps.length = N := ⟨_, rfl⟩
  rw [hN] at hn5 hjl HSL hc1 ⊢
  rw [hJ] at hjl
  have HN := Lib.hid hN; clear hN hJ
  by_cases hJ0 : J = 0
  · have q : ((J : Int) == 0) = true := by rw [hJ0]; rfl
    go_wp2_with fail
    go_ret
    exact ⟨rfl, HB2.out⟩
  have q : ((J : Int) == 0) = false := by simpa using hJ0
  go_wp2_with fail
  refine (mod_any at_ J _ (by omega) (by omega)).mono ?_
  rintro e w3 ⟨⟨k, rfl, hkJ⟩, rfl⟩
  replace hkJ : k < J := by omega
  go_wp2_with fail
  go_loopw [11, 12, 13, 48] (fun r s b i wr => ∃ (i' r' s' b' : Nat), i = .int .i64 i' ∧ r = .int .i64 r' ∧ s = .int .i64 s' ∧ b = .int .i64 b' ∧ i' ≤ N ∧ r' ≤ 5 ∧ s' ≤ 57 * i' ∧ b' ≤ k ∧ Hid (s' = pfx ps i') ∧ Hid (b' = pfx ps r') ∧ Hid (InRec ps k r' i') ∧ wr = w2) (fun _ _ _ i _ => N - (intOf i).toNat)
  case atStart => exact ⟨0, 0, 0, 0, rfl, rfl, rfl, rfl, Nat.zero_le _, by decide, by decide, Nat.zero_le _, (pfx_zero _).symm, (pfx_zero _).symm, ⟨Nat.le_refl _, by rw [pfx_zero]; omega, fun h => absurd h (by omega)⟩, rfl⟩
  case round =>
    obtain ⟨i, r, s, b, rfl, rfl, rfl, rfl, hi, hr5, hs57, hbk, hs, hb, hin, rfl⟩ := hrel
    by_cases hlt : i < N
    · obtain ⟨bb, off, p, rfl, _, hp, hc⟩ := HSL.out.at1 hlt
      have hsu := pfx_succ hp
      have hp29 := hsh.out p (List.mem_of_getElem? hp)
      have hpz : (mkS p).size = p.length := size_mk p
      rw [← hs.out] at hsu
      generalize mkS p = P at *
      generalize p.length = m at *
      have HSU := Lib.hid hsu; clear hsu hp
      by_cases hle : s + (28 + m) ≤ k
      · have hle' : decide ((s : Int) + (28 + (m : Int)) ≤ (k : Int)) = true := by simp; omega
        obtain ⟨hri, hin'⟩ := hin.out.up (by rw [HSU.out]; exact hle)
        subst hri
        have HIN := Lib.hid hin'; clear hin'
        go_wp2_with fail
        go_roundw
        case rel => exact ⟨r + 1, r + 1, s + (28 + m), s + (28 + m), by go_num, by go_num, by go_num, by go_num, by omega, by omega, by omega, hle, by unfold Hid; rw [HSU.out], by unfold Hid; rw [HSU.out], HIN, trivial⟩
        case measure => simp [intOf]; omega
      · have hle' : decide ((s : Int) + (28 + (m : Int)) ≤ (k : Int)) = false := by simp; omega
        have hin' := hin.out.stay (by rw [HSU.out]; omega)
        have HIN := Lib.hid hin'; clear hin'
        go_wp2_with fail
        go_roundw
        case rel => exact ⟨i + 1, r, s + (28 + m), b, by go_num, rfl, by go_num, rfl, by omega, by omega, by omega, hbk, by unfold Hid; rw [HSU.out], hb, HIN, trivial⟩
        case measure => simp [intOf]; omega
    · obtain rfl : i = N := by omega
      by_cases hno : 16 ≤ k - b ∧ k - b < 20
      · have q1 : decide ((16 : Int) ≤ (k : Int) - (b : Int)) = true := by simp; omega
        have q2 : decide ((k : Int) - (b : Int) < 20) = true := by simp; omega
        go_wp2_with fail
        go_ret
        exact ⟨rfl, HB2.out⟩
      obtain ⟨cb, W3, hcv, hcb, hcm2, hb3, hs3, hcell⟩ := run_bytes_ex wr S (by omega)
      obtain ⟨x0, hx0⟩ : ∃ x0, (toL S)[k]? = some x0 := ⟨_, List.getElem?_eq_getElem (by rw [toL_len, hsz]; exact hkJ)⟩
      obtain ⟨ck, fk⟩ := hcell k _ hx0
      have hts : toL S = chain 0 0#64 ps := by rw [← HS.out, toL_mk]
      have HD : ∀ x, x0 ≠ x → (readJ ((toL S).set k x)).err ≠ 0 ∧ (readJ ((toL S).set k x)).recs.length = r := by
        intro x hx
        have := HDM.out k r x (by rw [HN.out]; exact hin.out) (by rw [HJ.out]; exact hkJ) (by rw [← hb.out]; exact hno)
        rw [← hts, hx0] at this
        exact this (by simpa using hx)
      have hxv : bits .xor .u8 (x0.toNat : Int) (V : Int) = ((x0 ^^^ UInt8.ofNat V).toNat : Int) := by
        rw [u8_xor_nat _ _ (UInt8.toNat_lt _) (by omega), UInt8.toNat_xor]
        simp
        rw [Nat.mod_eq_of_lt (by omega)]
      have hne : x0 ≠ x0 ^^^ UInt8.ofNat V := by
        intro e
        have h2 : UInt8.ofNat V = 0 := by
          have := congrArg (fun t => x0 ^^^ t) e
          simpa [← UInt8.xor_assoc] using this.symm
        have h3 := congrArg UInt8.toNat h2
        simp at h3
        omega
      have hdx := HD _ hne
      have HSE := Lib.hid (Sl.set_byte (W := W3) (H := wr.heap.size) (k := k) (x := x0 ^^^ UInt8.ofNat V) (toL_len S) hcb hcm2 (fun i y hy => (hcell i y hy).1))
      generalize x0 ^^^ UInt8.ofNat V = x at *
      have HDX := Lib.hid hdx
      have HB3 := Lib.hid hb3; have HS3 := Lib.hid hs3
      rw [hsz] at hcv hcb HSE
      clear hcell HD hne hdx hb3 hs3 hts hx0
      have hlen : ((toL S).set k x).length = J := by rw [List.length_set, toL_len, hsz]
      generalize (toL S).set k x = L at *
      have HLN := Lib.hid hlen; clear hlen
      have hcv2 := run_string_of (P := Try.prog) Try.underlying31 Try.underlying5 Try.underlying9 HSE.out
      have hle3 : wr.heap.size ≤ W3.heap.size := HB3.out.size
      have hkc : (k : Int) < (J : Int) := by omega
      rcases (show (decide ((16 : Int) ≤ (k : Int) - (b : Int)) = true ∧ decide ((k : Int) - (b : Int) < 20) = false) ∨ decide ((16 : Int) ≤ (k : Int) - (b : Int)) = false by simp; omega) with ⟨q1, q2⟩ | q1
      all_goals
        go_wp2_with fail
        refine (Read_any (mkS L) _ (by rw [size_mk, HLN.out]; omega)).mono ?_
        rintro e w4 ⟨A4, c4, rfl, ho4, hb4⟩
        rw [toL_mk] at ho4 ⊢
        rw [HDX.out.2]
        have q4 : ((readJ L).err != 0) = true := by simpa using HDX.out.1
        generalize (readJ L).err = er at *
        clear ho4
        go_wp2_with fail
        go_ret
        exact ⟨rfl, ((HB2.out.trans (HB3.out.mono hz2)).setCell hz2 _).trans (hb4.mono (by simp; omega))⟩
end Go.Proofs.Ytmcedodejnnkmaa
