/-
  Walks of Payloads, SameTexts and JournalTorn.
-/
import Derived.Test.YtmcedodejnnkmaaJourBk
namespace Go.Proofs.Ytmcedodejnnkmaa
open Go.RowKit

theorem strsV_len (ps : List (List UInt8)) : (strsV ps).length = ps.length := by rw [strsV, flat_len (size := 1) (f := fun p : List UInt8 => [Value.string (mkS p)]) (fun _ => rfl), Nat.mul_one]
theorem strsV_snoc (ps : List (List UInt8)) (p : List UInt8) : strsV (ps ++ [p]) = strsV ps ++ [.string (mkS p)] := by rw [strsV, List.flatMap_append]; rfl
theorem Sl.take1 {w : World} {B : Nat} {A : Option Addr} {n c k : Nat} {ps : List (List UInt8)} (h : Sl w B 1 A n c (strsV ps)) (hk : k ≤ n) : Sl w B 1 A k c (strsV (ps.take k)) := by
  have hl : ps.length = n := h.len (fun _ => rfl) (by decide)
  refine ⟨by rw [strsV_len, List.length_take]; omega, by have := h.2.1; omega, h.2.2.1, h.2.2.2.1, fun h0 => ?_⟩
  obtain ⟨b, off, rfl, hb, hc⟩ := h.2.2.2.2 (by omega)
  refine ⟨b, off, rfl, hb, fun j u hu => hc j u ?_⟩
  have he : strsV ps = strsV (ps.take k) ++ strsV (ps.drop k) := by
    conv => lhs; rw [← List.take_append_drop k ps]
    rw [strsV, List.flatMap_append]; rfl
  rw [he, List.getElem?_append_left (List.getElem?_eq_some_iff.1 hu).1]; exact hu

theorem own_base {w : World} {base base' : Nat} {e : TypeId} {size n : Nat} {v : Value} {xs : List Value} (h : w.ownsRow base e size v n xs) (hb : base' ≤ base) : w.ownsRow base' e size v n xs :=
  ⟨h.1, h.2.imp id fun ⟨g, cap, cur, h1, h2, h3⟩ => ⟨g, cap, cur, h1, Nat.le_trans hb h2, h3⟩⟩
def paysJ (l : List UInt8) : List (List UInt8) := (readJ l).recs.map (·.payload)
def RetStrs (w : World) (ps : List (List UInt8)) (e : Ending) (w' : World) : Prop := ∃ A c, e = .returned (.slice A ps.length c) ∧ w'.ownsRow w.heap.size 9 1 (.slice A ps.length c) ps.length (strsV ps) ∧ Below w.heap.size w w'
set_option maxHeartbeats 1000000 in
theorem Payloads_any (s : ByteArray) (w : World) (hs : s.size ≤ 1000000000) : Calls Try.prog 19 #[.string s] w (RetStrs w (paysJ (toL s))) := by
  have HR := Lib.hid (Read_any s w hs)
  have hle := readJ_len (toL s)
  unfold paysJ
  generalize readJ (toL s) = r at *
  obtain ⟨rs, sz, sm, er⟩ := r
  simp only at hle
  obtain ⟨n, hn⟩ : ∃ n, rs.length = n := ⟨_, rfl⟩
  simp only [hn] at hle
  have HN := Lib.hid hn; clear hn
  go_enter Try.func19, Try.ntmps19
  go_wp2_with fail
  refine HR.out.mono ?_
  rintro e w1 ⟨A, c, rfl, h1, hb1⟩
  simp only [HN.out] at h1 ⊢
  have HSL := Lib.hid (Sl.of_own h1)
  obtain ⟨hc1, hc2⟩ := HSL.out.le
  have hz1 := hb1.size
  have HB1 := Lib.hid hb1
  clear h1 hb1 HR
  go_wp2_with fail
  go_loopw [6, 17] (fun o i wr => ∃ (i' c' : Nat) (A' : Option Addr), i = .int .i64 i' ∧ o = .slice A' i' c' ∧ i' ≤ n ∧ Hid (wr.ownsRow w1.heap.size 9 1 (.slice A' i' c') i' (strsV ((rs.take i').map (·.payload)))) ∧ Hid (Below w1.heap.size w1 wr)) (fun _ i _ => n - (intOf i).toNat)
  case atStart => exact ⟨0, 0, none, rfl, rfl, Nat.zero_le _, World.ownsRow_nil _ _ _ _, Below.refl _ _⟩
  case round =>
    obtain ⟨i, ci, Ai, rfl, rfl, hi, hown, hbl⟩ := hrel
    have hsz := hbl.out.size
    by_cases hlt : i < n
    · obtain ⟨br, offr, r, rfl, _, hr, hcr⟩ := (HSL.out.below hbl.out (Nat.le_refl _)).at (k := i) (fun _ => rfl) (by decide) hlt
      have hc0 := hcr 0 (.int .i64 r.number) rfl
      have hcb := hcr 1 (.int .u64 r.before.toNat) rfl
      have hc2 := hcr 2 (.string (mkS r.payload)) rfl
      rw [Nat.add_zero] at hc0
      have HTK := Lib.hid (take_snoc hr)
      clear hcr hr
      go_wp2_with (at_builtin; go_must (refine wpList_app rfl (.tmp 21) (.tmp 24) rfl el_str (by rfl) ((hown.out.alloc _).alloc _) (by rfl) (Sl.newest (n := 1) (by simp) (by rfl) (by decide)) (by simp [Value.oneCell']) (by omega) (by omega) (by simp; omega) ?_; intro A' cap' w2 hown2 hgr2 hat2))
      go_roundw
      case rel =>
        refine ⟨i + 1, cap', A', by go_num, rfl, by omega, ?_, ?_⟩
        · unfold Hid
          rw [HTK.out, List.map_append, List.map_singleton, strsV_snoc]
          exact hown2
        · exact ((hbl.out.alloc hsz _).alloc (by simp; omega) _).grown hgr2 (by simp; omega) fun g hg => (own_lt hown.out g hg).1
      case measure => simp [intOf]; omega
    · obtain rfl : i = n := by omega
      have htk : rs.take i = rs := by rw [← HN.out, List.take_length]
      rw [htk] at hown
      go_wp2_with fail
      go_ret
      have hlm : (rs.map (·.payload)).length = i := by rw [List.length_map, HN.out]
      unfold RetStrs
      rw [hlm]
      exact ⟨Ai, ci, rfl, own_base hown.out hz1, HB1.out.trans (hbl.out.mono hz1)⟩
theorem SameTexts_any (A1 A2 : Option Addr) (n c1 c2 B1 B2 : Nat) (ps : List (List UInt8)) (w : World) (h1 : Sl w B1 1 A1 n c1 (strsV ps)) (h2 : Sl w B2 1 A2 n c2 (strsV ps)) (hn : n ≤ 1000000000) (hB1 : B1 ≤ w.heap.size) (hB2 : B2 ≤ w.heap.size) :
    Calls Try.prog 18 #[.slice A1 n c1, .slice A2 n c2] w fun e w' => e = .returned (.bool true) ∧ Below w.heap.size w w' := by
  obtain ⟨hc1, hc2⟩ := h1.le
  obtain ⟨hc3, hc4⟩ := h2.le
  have H1 := Lib.hid h1; have H2 := Lib.hid h2; clear h1 h2
  go_enter Try.func18, Try.ntmps18
  go_wp2_with fail
  go_loopw [5] (fun i wr => ∃ (i' : Nat), i = .int .i64 i' ∧ i' ≤ n ∧ Hid (Below w.heap.size w wr)) (fun i _ => n - (intOf i).toNat)
  case atStart => exact ⟨0, rfl, Nat.zero_le _, Below.refl _ _⟩
  case round =>
    obtain ⟨i, rfl, hi, hbl⟩ := hrel
    by_cases hlt : i < n
    · obtain ⟨ba, offa, p, rfl, _, hp, hca⟩ := (H1.out.below hbl.out hB1).at1 hlt
      obtain ⟨bb, offb, q, rfl, _, hq, hcb⟩ := (H2.out.below hbl.out hB2).at1 hlt
      rw [hp] at hq
      injection hq with hq
      subst hq
      generalize mkS p = P at *
      clear hp
      go_wp2_with fail
      go_quiet (fail)
      go_wp2_with fail
      go_roundw
      case rel => exact ⟨i + 1, by go_num, by omega, below_drewN hbl.out _⟩
      case measure => simp [intOf]; omega
    · obtain rfl : i = n := by omega
      go_wp2_with fail
      go_ret
      exact ⟨rfl, hbl.out⟩

theorem nextE_cut (k : Nat) (b : BitVec 64) (p : List UInt8) (o : Nat) (hk : k < 1024) (hp : p.length ≤ 16384) (ho : o < 28 + p.length) : nextE k b ((recJ (k + 1) b p).take o) = 13 := by
  have hl : ((recJ (k + 1) b p).take o).length = o := by rw [List.length_take, rec_len]; omega
  rw [nextE, if_neg (by omega), hl]
  by_cases h20 : o < 20
  · rw [if_pos h20]
  · have hlo : longJ ((recJ (k + 1) b p).take o) = p.length := by
      have := rec_long (k + 1) b p [] (by omega)
      rw [List.append_nil] at this
      rw [← this, longJ, longJ, List.drop_take, List.take_take, Nat.min_eq_left (by omega)]
    rw [if_neg h20, hlo, if_neg (by omega), if_pos ho]
theorem torn (ps : List (List UInt8)) (k r : Nat) (hs : Small ps) (hn : ps.length ≤ 1024) (hr : InRec ps k r ps.length) (hk : k ≤ (chain 0 0#64 ps).length) :
    readJ ((chain 0 0#64 ps).take k) = ⟨recsOf 0 0#64 (ps.take r), pfx ps r, endSum 0 0#64 (ps.take r), if k = pfx ps r then 0 else 13⟩ := by
  have hsr : Small (ps.take r) := fun q hq => hs q (List.mem_of_mem_take hq)
  rcases Nat.lt_or_ge r ps.length with hrl | hrl
  · have hp := List.getElem?_eq_getElem hrl
    have hlt := hr.2.2 hrl
    rw [pfx_succ hp] at hlt
    have hpk := hr.2.1
    have he := split_at hp
    have hps := hs ps[r] (List.getElem_mem hrl)
    generalize ps[r] = p at *
    have hlen : (ps.take r).length = r := by rw [List.length_take]; omega
    have hch : (chain 0 0#64 ps).take k = chain 0 0#64 (ps.take r) ++ (recJ (0 + r + 1) (endSum 0 0#64 (ps.take r)) p).take (k - pfx ps r) := by
      conv => lhs; rw [he, chain_append, chain, hlen]
      rw [List.take_append, List.take_of_length_le (show (chain 0 0#64 (ps.take r)).length ≤ k from hpk), show (chain 0 0#64 (ps.take r)).length = pfx ps r from rfl, List.take_append_of_le_length (by rw [rec_len]; omega)]
    rw [hch, readJ, read_chain (ps.take r) 0 0#64 _ _ hsr (by omega) (by omega), hlen]
    by_cases hkp : k = pfx ps r
    · rw [if_pos hkp, show k - pfx ps r = 0 by omega]
      simp [readF, pfx]
    · rw [if_neg hkp]
      rw [readF, if_neg (by rw [List.length_take, rec_len]; omega), nextE_cut (0 + r) _ p _ (by omega) hps (by omega), if_pos (by decide)]
      simp [pfx]
  · have h1 := hr.1
    obtain rfl : r = ps.length := by omega
    have := hr.2.1
    have hkk : k = pfx ps ps.length := by rw [pfx_all] at this ⊢; omega
    rw [if_pos hkk, List.take_length, pfx_all, List.take_of_length_le (by rw [hkk, pfx_all]; omega), readJ_chain ps hs hn]
end Go.Proofs.Ytmcedodejnnkmaa
