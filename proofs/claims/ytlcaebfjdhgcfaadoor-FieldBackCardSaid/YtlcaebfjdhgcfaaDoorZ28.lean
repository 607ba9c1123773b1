import Derived.Test.YtlcaebfjdhgcfaaDoorZ19
import Derived.Test.YtlcaebfjdhgcfaaDoorZ04
import Derived.Deep.LoopGhost
/-
  The reference of layer 14: walk of Remove; the statements' own Light.
-/
namespace Go.Proofs.YtlcaebfjdhgcfaaDoor
open Go.RowKit
theorem idxL_hit {d q : Int} : ∀ {ls : List Lk} {i : Nat} {p : Int}, (∀ x ∈ ls.take i, ¬ (x.dev = d ∧ x.key = q)) → ls[i]? = some ⟨d, p, q⟩ → idxL d q ls = some i
  | [], _, _, _, h => by simp at h
  | x :: l, 0, _, _, h => by simp at h; rw [idxL, if_pos (by rw [h]; exact ⟨rfl, rfl⟩)]
  | x :: l, i + 1, p, h1, h => by
    rw [idxL, if_neg (h1 x (by simp)), idxL_hit (ls := l) (i := i) (p := p) (fun y hy => h1 y (by simp [hy])) (by simpa using h)]; rfl
theorem idxL_miss {d q : Int} : ∀ {ls : List Lk}, (∀ x ∈ ls, ¬ (x.dev = d ∧ x.key = q)) → idxL d q ls = none
  | [], _ => rfl
  | x :: l, h => by rw [idxL, if_neg (h x (by simp)), idxL_miss (fun y hy => h y (by simp [hy]))]; rfl
def RrR (w : World) (N : Array Value) (ls : List Lk) (d q : Int) (n gk : Nat) (iv : Value) (wr : World) : Prop := ∃ i : Nat, iv = .int .i64 i ∧ i ≤ n ∧ gk = n - i ∧ Hid (∀ x ∈ ls.take i, ¬ (x.dev = d ∧ x.key = q)) ∧ Hid (PcSt w N wr)
set_option maxRecDepth 100000 in
set_option maxHeartbeats 8000000 in
theorem rremove_any (An Ad Al : Option Addr) (nn cn nd cd n c Bn Bd Bl : Nat) (ns : List Nd) (ds : List Dv) (ls : List Lk) (d q : Int) (w : World) (hln : ls.length = n) (hn : Sl w Bn 3 An nn cn (ns.flatMap Nd.cells)) (hd : Sl w Bd 5 Ad nd cd (ds.flatMap Dv.cells)) (hs : Sl w Bl 3 Al n c (ls.flatMap Lk.cells)) (hBn : Bn ≤ w.heap.size) (hBd : Bd ≤ w.heap.size) (hBl : Bl ≤ w.heap.size)
    (hsn : ∀ x ∈ ns, x.name.size ≤ 9223372036854775807) (hsd : ∀ x ∈ ds, x.name.size ≤ 9223372036854775807) :
    Calls Tryd.prog 35 #[.agg #[.slice An nn cn, .slice Ad nd cd], .slice Al n c, .int .i64 d, .int .i64 q] w (LkRmPost w ns ds ls d q) := by
  have HS := Lib.hid hs
  have HLN := Lib.hid hln
  have hle := hs.le
  have HST : Hid (PcSt w #[.slice An nn cn, .slice Ad nd cd] (w.alloc (.cells #[.slice An nn cn, .slice Ad nd cd] 30))) := ⟨Blk.new _ _ _, (Below.refl _ _).alloc (Nat.le_refl _) _⟩
  have HCK := Lib.hid (rlcheck_any An Ad Al nn cn nd cd n c Bn Bd Bl ns ds ls (w.alloc (.cells #[.slice An nn cn, .slice Ad nd cd] 30)) (hn.below HST.out.bl hBn) (hd.below HST.out.bl hBd) (hs.below HST.out.bl hBl) (by simp; omega) (by simp; omega) (by simp; omega) hsn hsd)
  clear hn hd hs hsn hsd hln
  go_enter Tryd.func35, Tryd.ntmps35
  go_wp2_with fail
  generalize World.alloc _ _ = W at *
  refine HCK.out.mono ?_
  rintro e w1 ⟨rfl, hb1⟩
  have HS1 := Lib.hid (HST.out.later hb1)
  clear hb1 HST HCK
  by_cases h0 : locksErr ns ds ls = 0; rotate_left
  · have q0 : (locksErr ns ds ls != 0) = true := by simpa using h0
    have HNZ := Lib.hid h0
    clear h0
    go_wp2_with fail
    go_ret2
    exact ⟨.inl ⟨HNZ.out, rfl⟩, HS1.out.bl⟩
  have hn128 : n ≤ 128 := by have := (locks_good h0).1; rw [HLN.out] at this; exact this
  have HZ := Lib.hid h0
  rw [h0]
  clear h0
  go_wp2_with fail
  go_loopg [11] n (RrR w #[.slice An nn cn, .slice Ad nd cd] ls d q n)
  case atStart => exact ⟨0, rfl, Nat.zero_le _, rfl, (fun x hx => by simp at hx), HS1⟩
  case round =>
    clear HS1
    obtain ⟨i, rfl, hi, rfl, hno, hst⟩ := hrel
    by_cases hlt : i < n
    · have hSL := HS.out.below hst.out.bl hBl
      obtain ⟨b, off, d1, p1, q1, hAe, hb, hx, c0, c1, c2⟩ := hSL.lock hlt
      have HX := Lib.hid hx
      clear hx c1
      subst hAe
      by_cases hd : d1 = d; rotate_left
      · have qd : (d1 == d) = false := by simpa using hd
        have HN : Hid (∀ x ∈ ls.take (i + 1), ¬ (x.dev = d ∧ x.key = q)) := fun x hx e => by
          rw [take_snoc HX.out] at hx
          rcases List.mem_append.1 hx with h | h
          · exact hno.out x h e
          · rw [List.mem_singleton.1 h] at e; exact hd e.1
        clear hd
        go_wp2_with fail
        go_roundg (n - (i + 1))
        case rel => exact ⟨i + 1, by go_num, by omega, rfl, HN, hst⟩
        case measure => omega
      subst hd
      have qd : (d1 == d1) = true := by simp
      by_cases hq : q1 = q; rotate_left
      · have qq : (q1 == q) = false := by simpa using hq
        have HN : Hid (∀ x ∈ ls.take (i + 1), ¬ (x.dev = d1 ∧ x.key = q)) := fun x hx e => by
          rw [take_snoc HX.out] at hx
          rcases List.mem_append.1 hx with h | h
          · exact hno.out x h e
          · rw [List.mem_singleton.1 h] at e; exact hq e.2
        clear hq
        go_wp2_with fail
        go_roundg (n - (i + 1))
        case rel => exact ⟨i + 1, by go_num, by omega, rfl, HN, hst⟩
        case measure => omega
      subst hq
      have qq : (q1 == q1) = true := by simp
      have HI : Hid (idxL d1 q1 ls = some i) := idxL_hit hno.out HX.out
      have hic : i ≤ c := by omega
      have HSK := Lib.hid (hSL.takeK (fun _ => rfl) (by decide) hi)
      have HSD := Lib.hid (hSL.dropK (k := i + 1) (fun _ => rfl) (by decide) (by omega))
      have hcut : ∀ W, (Instr.sliceAt 31 (.slice (some ⟨b, off, none⟩) n c) (some (.int .i64 ((i : Int) + 1))) none none).run Tryd.prog W = .ok (.slice (cutK (some ⟨b, off, none⟩) c (i + 1) 3) (n - (i + 1)) (c - (i + 1))) W := fun W => by
        have := run_from_lk W (some ⟨b, off, none⟩) n c (i + 1) (by omega)
        rw [← this]; rfl
      obtain ⟨Ad2, hAd2⟩ : ∃ Ad2, cutK (some (⟨b, off, none⟩ : Addr)) c (i + 1) 3 = Ad2 := ⟨_, rfl⟩
      rw [hAd2] at hcut HSD
      clear hAd2
      have hzr := hst.out.bl.size
      clear hSL
      go_upto_region 8 with (fail)
      clear c0 c2 qd qq
      go_upto_region 9 with (at_builtin; go_must (refine wpList_app rfl _ (.tmp 43) rfl el_lock (by rfl) (World.ownsRow_nil _ wr.heap.size _ _) (by rfl) HSK.out (locks_one _) (by omega) (by omega) (by simp) ?_; intro A1 c1 w4 hown4 hgr4 hat4; simp only [Nat.zero_add, List.nil_append] at hown4 hgr4 ⊢; have HO4 := Lib.hid hown4; have HG4 := Lib.hid hgr4; clear hown4 hgr4 hat4))
      have HBL4 := Lib.hid (below_none HG4.out)
      have HSD4 := Lib.hid (HSD.out.below HBL4.out (by omega))
      have hz4 := HBL4.out.size
      go_wp2_with (at_builtin; go_must (refine wpList_app rfl (.tmp 45) (.tmp 49) rfl el_lock (by rfl) HO4.out (by rfl) HSD4.out (locks_one _) (by omega) (by omega) (by omega) ?_; intro A2 c2 w5 hown5 hgr5 hat5; have HO5 := Lib.hid hown5; have HG5 := Lib.hid hgr5; clear hown5 hgr5 hat5))
      go_ret2
      have hll := HLN.out
      have hlen : ls.length - 1 = i + (n - (i + 1)) := by omega
      refine ⟨.inr (.inr ⟨HZ.out, i, A2, c2, HI.out, by rw [hlen]; rfl, ?_⟩), ?_⟩
      · unfold Hid LocksO; rw [hlen, List.eraseIdx_eq_take_drop_succ, List.flatMap_append]; exact World.ownsRow.mono HO5.out hzr
      · have h1 := hst.out.bl.trans (HBL4.out.mono hzr)
        exact h1.trans ⟨HG5.out.os, HG5.out.tape, HG5.out.output, HG5.out.size, fun t ht => HG5.out.block t (by omega) (fun e => by have := (HO4.out.lt t e.symm).1; omega)⟩
    · obtain rfl : i = n := by omega
      have hii : decide (i < i) = false := by simp
      have HN : Hid (idxL d q ls = none) := by
        have := hno.out
        rw [List.take_of_length_le (by rw [HLN.out]; exact Nat.le_refl _)] at this
        exact idxL_miss this
      go_wp2_with fail
      go_ret2
      exact ⟨.inr (.inl ⟨HZ.out, HN.out, rfl⟩), hst.out.bl⟩
def lightB (ns : List Nd) (ds : List Dv) (nn nd : Nat) : Bool := (decide ((nn : Int) ≤ 40) && decide ((nd : Int) ≤ 14)) || ((checkN ns ds != 0) && decide ((nn : Int) ≤ 100) && decide ((nd : Int) ≤ 200))
theorem lightB_le {ns : List Nd} {ds : List Dv} {nn nd : Nat} (h : lightB ns ds nn nd = true) : nd ≤ 200 := by
  simp only [lightB, Bool.or_eq_true, Bool.and_eq_true, decide_eq_true_eq] at h; omega
end Go.Proofs.YtlcaebfjdhgcfaaDoor
/-
  The reference of layer 3: walk of Has.
-/
namespace Go.Proofs.YtlcaebfjdhgcfaaDoor
open Go.RowKit
def HaR (w : World) (l : List Int) (x : Int) (n gk : Nat) (iv : Value) (wr : World) : Prop := ∃ i : Nat, iv = .int .i64 i ∧ i ≤ n ∧ gk = n - i ∧ wr = w ∧ Hid (∀ k, k < i → l[k]? ≠ some x)
set_option maxHeartbeats 2000000 in
theorem rhas_any (A : Option Addr) (n c : Nat) (l : List Int) (x : Int) (w : World) (hs : Sl w w.heap.size 1 A n c (intsV l)) :
    Calls Tryd.prog 13 #[.slice A n c, .int .i64 x] w fun e w' => e = .returned (.bool (decide (x ∈ l))) ∧ w = w' := by
  have hnm := hs.le
  have HS := Lib.hid hs
  have HLN := Lib.hid (hs.len (fun _ => rfl) (by decide))
  clear hs
  go_enter Tryd.func13, Tryd.ntmps13
  go_wp2_with fail
  go_loopg [5] n (HaR w l x n)
  case atStart => exact ⟨0, rfl, Nat.zero_le _, rfl, rfl, fun k hk => absurd hk (by omega)⟩
  case round =>
    obtain ⟨i, rfl, hi, rfl, rfl, hno⟩ := hrel
    by_cases hlt : i < n
    · obtain ⟨b, off, y, rfl, hb, hy, hc⟩ := HS.out.at1 hlt
      have HY := Lib.hid hy
      clear hy
      by_cases hxy : y = x
      · have q : (y == x) = true := by simpa using hxy
        have HR : Hid (decide (x ∈ l) = true) := by
          unfold Hid
          rw [decide_eq_true_eq, ← hxy]
          exact List.mem_of_getElem? HY.out
        clear hxy
        go_wp2_with fail
        go_ret
        exact ⟨ret_bool HR.out.symm, rfl⟩
      · have q : (y == x) = false := by simpa using hxy
        have HN : Hid (∀ k, k < i + 1 → l[k]? ≠ some x) := fun k hk e => by
          rcases Nat.lt_succ_iff_lt_or_eq.1 hk with h | rfl
          · exact hno.out k h e
          · rw [HY.out] at e; injection e with e; exact hxy e
        clear hxy
        go_wp2_with fail
        go_roundg (n - (i + 1))
        case rel => exact ⟨i + 1, by go_num, by omega, rfl, rfl, HN⟩
        case measure => omega
    · obtain rfl : i = n := by omega
      have hii : decide (i < i) = false := by simp
      have HR : Hid (decide (x ∈ l) = false) := by
        unfold Hid
        rw [decide_eq_false_iff_not]
        intro hm
        obtain ⟨k, hk⟩ := List.mem_iff_getElem?.1 hm
        exact hno.out k (by have := (List.getElem?_eq_some_iff.1 hk).1; rw [HLN.out] at this; exact this) hk
      go_wp2_with fail
      go_ret
      exact ⟨ret_bool HR.out.symm, rfl⟩
end Go.Proofs.YtlcaebfjdhgcfaaDoor
