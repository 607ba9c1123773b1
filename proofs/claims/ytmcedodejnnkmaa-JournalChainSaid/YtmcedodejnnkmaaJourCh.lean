/-
  Walk of JournalChain.
-/
import Derived.Test.YtmcedodejnnkmaaJourCp
import Derived.Test.YtmcedodejnnkmaaJourTn
import Derived.Test.YtmcedodejnnkmaaOrdK
namespace Go.Proofs.Ytmcedodejnnkmaa
open Go.RowKit

theorem strsV_one (l : List (List UInt8)) : ∀ u ∈ strsV l, u.oneCell' = true := by
  intro u hu
  simp only [strsV, List.mem_flatMap, List.mem_singleton] at hu
  obtain ⟨x, _, rfl⟩ := hu
  rfl
theorem strsV_map (l : List (List UInt8)) : strsV l = l.map fun x => Value.string (mkS x) := by
  unfold strsV
  induction l with
  | nil => rfl
  | cons x l ih => rw [List.flatMap_cons, ih]; rfl
theorem strsV_set (l : List (List UInt8)) (q : Nat) (x : List UInt8) : (strsV l).set q (.string (mkS x)) = strsV (l.set q x) := by rw [strsV_map, strsV_map, List.map_set]
theorem strsV_get {l : List (List UInt8)} {q : Nat} {x : List UInt8} (h : l[q]? = some x) : (strsV l)[q]? = some (.string (mkS x)) := by rw [strsV_map, List.getElem?_map, h]; rfl
theorem strsV_app (a b : List (List UInt8)) : strsV (a ++ b) = strsV a ++ strsV b := by simp [strsV_map]
theorem own_take {w : World} {base e g n cap : Nat} {xs : List Value} (h : w.ownsRow base e 1 (.slice (some ⟨g, 0, none⟩) n cap) n xs) {m : Nat} (hm : m ≤ n) : w.ownsRow base e 1 (.slice (some ⟨g, 0, none⟩) m cap) m (xs.take m) := by
  rcases h.2 with ⟨h', _⟩ | ⟨g', cap', cur, h', hb, hg, hnc, hcm, hcs, htake⟩
  · simp at h'
  · injection h' with e1 _ e3
    injection e1 with e1
    injection e1 with e1
    subst e1 e3
    refine ⟨by rw [List.length_take, h.1]; omega, .inr ⟨g, cap, cur, rfl, hb, hg, by omega, hcm, hcs, ?_⟩⟩
    rw [← htake, List.take_take]
    congr 1
    omega
theorem sl_part {w : World} {B g n cap : Nat} {l : List (List UInt8)} (h : Sl w B 1 (some ⟨g, 0, none⟩) n cap (strsV l)) {m : Nat} (hm : m < n) : Sl w B 1 (some ⟨g, m, none⟩) (n - m) (cap - m) (strsV (l.drop m)) := by
  have hl : l.length = n := by have := h.1; rw [strsV_len] at this; omega
  obtain ⟨h1, h2⟩ := h.le
  refine ⟨by rw [strsV_len, List.length_drop]; omega, by omega, by omega, (fun e => by cases e), fun _ => ?_⟩
  obtain ⟨b, off, e, hb, hc⟩ := h.2.2.2.2 (by omega)
  injection e with e
  injection e with e1 e2
  subst e1 e2
  refine ⟨g, m, rfl, hb, fun j u hu => ?_⟩
  have := hc (m + j) u (by rw [strsV_map, List.getElem?_map] at hu ⊢; rw [List.getElem?_drop] at hu; exact hu)
  rw [Nat.zero_add] at this
  exact this
theorem bent0 {R : List (List UInt8)} {m : Nat} {x y : List UInt8} (hm : m + 1 < R.length) : ((R.set m x).set (m + 1) y).take m = R.take m ∧ ((R.set m x).set (m + 1) y)[m]? = some x := by
  constructor
  · rw [List.take_set, List.take_set, List.set_eq_of_length_le (by simp; omega), List.set_eq_of_length_le (by simp; omega)]
  · rw [List.getElem?_set_ne (by omega), List.getElem?_set_self (by omega)]
theorem bent1 {R : List (List UInt8)} {m : Nat} {x : List UInt8} (hx : R[m + 1]? = some x) (hm : m < R.length) : (R.take m ++ R.drop (m + 1)).take m = R.take m ∧ (R.take m ++ R.drop (m + 1))[m]? = some x := by
  have hl : (R.take m).length = m := by rw [List.length_take]; omega
  constructor
  · rw [List.take_append_of_le_length (by omega), List.take_of_length_le (by omega)]
  · rw [List.getElem?_append_right (by omega), hl, Nat.sub_self, List.getElem?_drop]; exact hx
theorem bent2 {R : List (List UInt8)} {m : Nat} {x : List UInt8} (hm : m + 1 < R.length) : (R.set (m + 1) x).take (m + 1) = R.take (m + 1) ∧ (R.set (m + 1) x)[m + 1]? = some x := by
  constructor
  · rw [List.take_set, List.set_eq_of_length_le (by simp; omega)]
  · rw [List.getElem?_set_self (by omega)]
theorem all_set {R : List (List UInt8)} {x : List UInt8} {k : Nat} (h : ∀ y ∈ R, y.length ≤ 57) (hx : x.length ≤ 57) : ∀ y ∈ R.set k x, y.length ≤ 57 := by
  intro y hy
  rcases List.mem_or_eq_of_mem_set hy with h1 | rfl
  · exact h y h1
  · exact hx
set_option maxRecDepth 100000 in
set_option maxHeartbeats 4000000 in
theorem walk_JournalChain (w : World) (A : Option Addr) (n c : Nat) (z : List Int) (hz : Sl w w.heap.size 1 A n c (intsV z)) (_ : ∀ x ∈ z, (Lit.int .i64 x).wf = true) :
    Calls Try.prog 4 #[.slice A n c] w fun e w' => e = .returned (.bool true) ∧ Below w.heap.size w w' := by
  obtain ⟨hnc, hcm⟩ := hz.le
  have HZ := Lib.hid hz; clear hz
  go_enter Try.func4, Try.ntmps4
  go_wp2_with fail
  refine (awake_any _).mono ?_
  rintro e w0 ⟨rfl, hb0⟩
  go_wp2_with fail
  refine (few_any A n c _ (by omega)).mono ?_
  rintro e w1 ⟨rfl, rfl⟩
  by_cases hf : n ≤ 400; rotate_left
  · have hf' : decide (n ≤ 400) = false := by simpa using hf
    clear hf
    go_wp2_with fail
    refine (awake_any _).mono ?_
    rintro e w1 ⟨rfl, hb1⟩
    go_wp2_with fail
    go_ret
    exact ⟨rfl, hb0.trans (hb1.mono hb0.size)⟩
  have hf' : decide (n ≤ 400) = true := by simpa using hf
  go_wp2_with fail
  refine (new_any A n c w.heap.size z _ (HZ.out.below hb0 (Nat.le_refl _)) hb0.size).mono ?_
  rintro e w1 ⟨rfl, hd1, hb1, hs1⟩
  go_wp2_with fail
  refine (made_any w0.heap.size 6 w1 hd1.out (by decide)).mono ?_
  rintro e w2 ⟨ps, Ap, cp, rfl, hn5, hsh, hown, hd2, hg2⟩
  have hb2 : Below w.heap.size w w2 := (hb0.trans (hb1.out.mono hb0.size)).trans (below_of_grown hg2.out hb0.size (Nat.le_trans hb0.size hb1.out.size))
  have HB2 := Lib.hid hb2
  have HSL := Lib.hid (Sl.of_own hown.out)
  have hz2 := hb2.size
  have hg0 : w.heap.size ≤ w0.heap.size := hb0.size
  have hg2' : w0.heap.size < w2.heap.size := hd2.out.lt
  obtain ⟨hc1, hc2⟩ := HSL.out.le
  have HAP := Lib.hid (fun i p h => app_next ps i p hsh.out (by omega) h)
  have HBR := Lib.hid (fun R m n b q => bent_read ps R m n b q hsh.out.small (by omega))
  clear hb2 hown hg2 hd1 hb1 hs1
  obtain ⟨N, hN⟩ : ∃ N, ps.length = N := ⟨_, rfl⟩
  rw [hN] at hn5 HSL hc1 ⊢
  have HN := Lib.hid hN; clear hN
  generalize mkS (chain 0 0#64 ps) = S0 at *
  generalize w0.heap.size = gd at *
  by_cases hN2 : N < 2
  · have q : decide ((N : Int) < 2) = true := by simp; omega
    go_wp2_with fail
    go_ret
    exact ⟨rfl, HB2.out⟩
  have q : decide ((N : Int) < 2) = false := by simp; omega
  replace hN2 : 2 ≤ N := by omega
  go_wp2_with fail
  go_loopw [6, 7, 40] (fun j o i wr => ∃ (i' c' : Nat) (S : ByteArray) (A' : Option Addr), i = .int .i64 i' ∧ j = .string S ∧ o = .slice A' i' c' ∧ i' ≤ N ∧ S.size ≤ 57 * i' ∧ Hid (S = mkS (chain 0 0#64 (ps.take i'))) ∧ Hid (wr.ownsRow w2.heap.size 9 1 (.slice A' i' c') i' (strsV (recB 0 0#64 (ps.take i')))) ∧ Hid (Below w2.heap.size w2 wr)) (fun _ _ i _ => N - (intOf i).toNat)
  case atStart => exact ⟨0, 0, ⟨#[]⟩, none, rfl, rfl, rfl, Nat.zero_le _, by decide, rfl, World.ownsRow_nil _ _ _ _, Below.refl _ _⟩
  case round =>
    obtain ⟨i, ci, S, Ai, rfl, rfl, rfl, hi, hS57, hS, hown, hbl⟩ := hrel
    have hsz := hbl.out.size
    by_cases hlt : i < N
    · obtain ⟨bb, off, p, rfl, _, hp, hc⟩ := (HSL.out.below hbl.out (Nat.le_refl _)).at1 hlt
      have hp29 := hsh.out p (List.mem_of_getElem? hp)
      obtain ⟨ha1, ha2⟩ := HAP.out i p hp
      have HA1 := Lib.hid ha1; have HA2 := Lib.hid ha2; clear ha1 ha2
      have hsu := pfx_succ hp
      have hrest := recB_rest hp
      have HSN := Lib.hid (recB_snoc hp)
      have hpi : pfx ps i = S.size := by rw [hS.out]; rfl
      rw [hpi] at hsu hrest
      have hX : (mkS (chain 0 0#64 (ps.take (i + 1)))).size = pfx ps (i + 1) := rfl
      rw [hsu] at hX
      have hXe : (mkS (chain 0 0#64 (ps.take (i + 1)))).extract S.size (mkS (chain 0 0#64 (ps.take (i + 1)))).size = mkS (recJ (i + 1) (endSum 0 0#64 (ps.take i)) p) := by
        rw [extract_mk, toL_mk, hrest, List.take_of_length_le (by rw [hX, rec_len]; omega)]
      rw [hX] at hXe
      go_wp2_with fail
      refine (Append_any S (mkS p) _ (by omega) (by rw [size_mk]; omega)).mono ?_
      rintro e w3 ⟨rfl, hb3⟩
      rw [hS.out, toL_mk, toL_mk, HA1.out, HA2.out, ← hS.out]
      generalize hXD : mkS (chain 0 0#64 (ps.take (i + 1))) = X at *
      have HXD := Lib.hid hXD.symm
      obtain ⟨m, hm⟩ : ∃ m, m = S.size + (28 + p.length) := ⟨_, rfl⟩
      rw [← hm] at hX hXe
      have q2 : (S.size : Int) ≤ (m : Int) := by omega
      have q3 : S.size ≤ m := by omega
      have HX : Hid (X.size ≤ 57 * (i + 1)) := by unfold Hid; rw [hX]; omega
      have hz3 : w2.heap.size ≤ w3.heap.size := Nat.le_trans hsz hb3.size
      have HO3 := Lib.hid (own_below hown.out hb3)
      have HB3 := Lib.hid (hbl.out.trans (hb3.mono hbl.out.size))
      generalize hRR : mkS (recJ (i + 1) (endSum 0 0#64 (ps.take i)) p) = RR at *
      have HRR := Lib.hid hRR
      clear hm hp hsu hrest hpi hXD hb3 hRR
      go_wp2_with (at_builtin; go_must (refine wpList_app rfl (.tmp 52) (.tmp 57) rfl el_str (by rfl) (HO3.out.alloc _) (by rfl) (Sl.newest (n := 1) (by simp) (by rfl) (by decide)) (by simp [Value.oneCell']) (by omega) (by omega) (by simp; omega) ?_; intro A' cap' w4 hown4 hgr4 hat4))
      go_roundw
      case rel =>
        refine ⟨i + 1, cap', X, A', by go_num, rfl, rfl, by omega, HX.out, HXD, ?_, ?_⟩
        · unfold Hid
          rw [HSN.out, strsV_snoc, HRR.out]
          exact hown4
        · exact (HB3.out.alloc hz3 _).grown hgr4 (by simp; omega) fun g hg => (own_lt HO3.out g hg).1
      case measure => simp [intOf]; omega
    · obtain rfl : i = N := by omega
      have htk : ps.take i = ps := by rw [← HN.out, List.take_length]
      rw [htk] at hown
      have HD4 := Lib.hid (hd2.out.below hbl.out hg2')
      have hRl : (recB 0 0#64 ps).length = i := by rw [recB_len, HN.out]
      have HRl := Lib.hid hRl; clear hRl
      have HBL := Lib.hid (HB2.out.trans (hbl.out.mono hz2))
      go_wp2_with fail
      refine (next_any gd _ _ HD4.out (by omega)).mono ?_
      rintro e w4 ⟨m, rfl, hm0, _, hm1, HD5, HG5, HS5⟩
      replace hm1 := hm1.out (by omega)
      obtain ⟨m, rfl⟩ := Int.eq_ofNat_of_zero_le hm0
      have hnv : (Value.slice Ai i ci).ownBlock = none ∨ (Value.slice Ai i ci).ownBlock ≠ some gd := by
        cases hv : (Value.slice Ai i ci).ownBlock with
        | none => exact .inl rfl
        | some b => exact .inr (fun e => by injection e with e; have := (hown.out.lt b hv).1; omega)
      have HO5 := Lib.hid (hown.out.kept HG5.out hnv)
      have hz5 : w2.heap.size ≤ w4.heap.size := Nat.le_trans hsz HG5.out.size
      have hbw4 : Below w.heap.size w w4 := HBL.out.trans (below_of_grown HG5.out hg0 (Nat.le_trans hz2 hsz))
      have HB5 := Lib.hid hbw4; clear hbw4 hnv
      go_wp2_with (at_builtin; go_must (refine wpList_app rfl _ (.tmp 66) rfl el_str (by rfl) (World.ownsRow_nil _ w4.heap.size _ _) (by rfl) (Sl.of_own HO5.out) (strsV_one _) (by omega) (by omega) (Nat.le_refl _) ?_; intro Ab cb w5 hown5 hgr5 hat5))
      simp only [Nat.zero_add, List.nil_append] at hown5 ⊢
      obtain ⟨gb, cap, hv5, hg5, hlt5⟩ := hown5.form (by omega)
      injection hv5 with e1 e2 e3
      subst e1 e3
      have HB6 := Lib.hid (HB5.out.grown hgr5 (by omega) (fun g hg => by simp [Value.ownBlock] at hg))
      have HD6 := Lib.hid (HD5.out.grown hgr5 (fun g hg => by simp [Value.ownBlock] at hg))
      have HO6 := Lib.hid hown5
      have hgdb : gd < gb := by omega
      clear hown5 hgr5 hat5 e2
      refine (next_any gd 3 _ HD6.out (by decide)).mono ?_
      rintro e w6 ⟨t, rfl, ht0, _, ht1, HD7, HG7, HS7⟩
      replace ht1 := ht1.out (by decide)
      have HO7 := Lib.hid (HO6.out.kept HG7.out (.inr (fun e => by injection e with e; simp only at e; omega)))
      have HB7 := Lib.hid (HB6.out.trans (below_of_grown HG7.out hg0 (by have := HB6.out.size; omega)))
      obtain ⟨p0, hp0⟩ : ∃ p, ps[m]? = some p := ⟨_, List.getElem?_eq_getElem (by rw [HN.out]; omega)⟩
      obtain ⟨p1, hp1⟩ : ∃ p, ps[m + 1]? = some p := ⟨_, List.getElem?_eq_getElem (by rw [HN.out]; omega)⟩
      have hr0 := recB_at hp0
      have hr1 := recB_at hp1
      have hq0 := List.mem_of_getElem? hp0
      have hq1 := List.mem_of_getElem? hp1
      have hall : ∀ x ∈ recB 0 0#64 ps, x.length ≤ 57 := by
        intro x hx
        obtain ⟨j, hj⟩ := List.getElem?_of_mem hx
        have hjl : j < ps.length := by have := (List.getElem?_eq_some_iff.1 hj).1; rwa [recB_len] at this
        rw [recB_at (List.getElem?_eq_getElem hjl)] at hj
        injection hj with hj
        have := hsh.out _ (List.getElem_mem hjl)
        rw [← hj, rec_len]; omega
      generalize hb0 : endSum 0 0#64 (ps.take m) = bs0 at *
      generalize hb1 : endSum 0 0#64 (ps.take (m + 1)) = bs1 at *
      have c0 := (HO7.out.cellAt m (by omega)).trans (strsV_get hr0)
      have c1 := (HO7.out.cellAt (m + 1) (by omega)).trans (strsV_get hr1)
      have f0 := HO7.out.frozenAt m
      have f1 := HO7.out.frozenAt (m + 1)
      generalize hR : recB 0 0#64 ps = R at *
      have hb1' : w4.heap.size ≤ gb := hg5
      have hwgb : w.heap.size ≤ gb := by omega
      have HALL := Lib.hid hall; have HR0 := Lib.hid hr0; have HR1 := Lib.hid hr1; have HQ0 := Lib.hid hq0; have HQ1 := Lib.hid hq1
      have hx0 : (recJ (m + 1) bs0 p0).length ≤ 57 := hall _ (List.mem_of_getElem? hr0)
      have hx1 : (recJ (m + 1 + 1) bs1 p1).length ≤ 57 := hall _ (List.mem_of_getElem? hr1)
      have HX0 := Lib.hid hx0; have HX1 := Lib.hid hx1
      obtain ⟨hcb1, hcb2⟩ := (Sl.of_own HO7.out).le
      have hgw6 : gb < w6.heap.size := (HO7.out.lt gb rfl).2
      clear hall hr0 hr1 hq0 hq1 hb0 hb1 hp0 hp1 hR HO6 HO5 hx0 hx1
      rcases (show t = 0 ∨ t = 1 ∨ t = 2 by omega) with rfl | rfl | rfl
      · go_wp2_with fail
        have hw64 : IntKind.i64.wrap ((m : Int) + 1) = (m : Int) + 1 := IntWalk.i64_in _ (by omega)
        have hmN : (m : Int) < (i : Int) := by omega
        have hmN1 : (m : Int) + 1 < (i : Int) := by omega
        have hmt : ((m : Int) + 1).toNat = m + 1 := by omega
        have hmN2 : m < i := by omega
        have hmN3 : m + 1 < i := by omega
        have hm01 : (0 : Int) ≤ (m : Int) + 1 := by omega
        refine wp_region_K (S := (fun w1 => w1.cell? ⟨gb, m, none⟩ = some (.string (mkS (recJ (m + 1) bs0 p0))) ∧ w1.cell? ⟨gb, m + 1, none⟩ = some (.string (mkS (recJ (m + 1 + 1) bs1 p1))))) (J := [15, 16, 17]) (by kernel_rfl) ?_ (fun hHeld => ?_)
        · exact ⟨c0, c1⟩
        try dsimp only at hHeld
        refine wpAnyK_takeT (i := 0) (d := some 82) (v := ?_) rfl rfl (by kernel_rfl) (by kernel_rfl) (by kernel_rfl) (by kernel_rfl) (by kernel_rfl) (fun _ _ _ h => h) (Or.inl ⟨by rfl, ?_⟩) hHeld ?_
        rotate_left
        · (intro w hSw; (try dsimp only at hSw); go_simp; try with_reducible rfl)
        try simp only [Act.put, List.setIfInBounds_toArray, List.set_cons_zero, List.set_cons_succ]
        refine wpAnyK_takeT (i := 1) (d := some 83) (v := ?_) rfl rfl (by kernel_rfl) (by kernel_rfl) (by kernel_rfl) (by kernel_rfl) (by kernel_rfl) (fun _ _ _ h => h) (Or.inl ⟨by rfl, ?_⟩) hHeld ?_
        rotate_left
        · (intro w hSw; (try dsimp only at hSw); go_simp; try with_reducible rfl)
        try simp only [Act.put, List.setIfInBounds_toArray, List.set_cons_zero, List.set_cons_succ]
        refine wpAnyK_takeT (i := 2) (d := some 84) (v := ?_) rfl rfl (by kernel_rfl) (by kernel_rfl) (by kernel_rfl) (by kernel_rfl) (by kernel_rfl) (fun _ _ _ h => h) (Or.inl ⟨by rfl, ?_⟩) hHeld ?_
        rotate_left
        · (intro w hSw; (try dsimp only at hSw); go_simp; try with_reducible rfl)
        try simp only [Act.put, List.setIfInBounds_toArray, List.set_cons_zero, List.set_cons_succ]
        refine wpAnyK_takeT (i := 3) (d := some 85) (v := ?_) rfl rfl (by kernel_rfl) (by kernel_rfl) (by kernel_rfl) (by kernel_rfl) (by kernel_rfl) (fun _ _ _ h => h) (Or.inl ⟨by rfl, ?_⟩) hHeld ?_
        rotate_left
        · (intro w hSw; (try dsimp only at hSw); go_simp; try with_reducible rfl)
        try simp only [Act.put, List.setIfInBounds_toArray, List.set_cons_zero, List.set_cons_succ]
        refine wpAnyK_takeT (i := 4) (d := some 86) (v := ?_) rfl rfl (by kernel_rfl) (by kernel_rfl) (by kernel_rfl) (by kernel_rfl) (by kernel_rfl) (fun _ _ _ h => h) (Or.inl ⟨by rfl, ?_⟩) hHeld ?_
        rotate_left
        · (intro w hSw; (try dsimp only at hSw); go_simp; try with_reducible rfl)
        try simp only [Act.put, List.setIfInBounds_toArray, List.set_cons_zero, List.set_cons_succ]
        refine wpAnyK_takeT (i := 5) (d := some 87) (v := ?_) rfl rfl (by kernel_rfl) (by kernel_rfl) (by kernel_rfl) (by kernel_rfl) (by kernel_rfl) (fun _ _ _ h => h) (Or.inl ⟨by rfl, ?_⟩) hHeld ?_
        rotate_left
        · (intro w hSw; (try dsimp only at hSw); go_simp; try with_reducible rfl)
        try simp only [Act.put, List.setIfInBounds_toArray, List.set_cons_zero, List.set_cons_succ]
        refine wpAnyK_takeT (i := 6) (d := some 88) (v := ?_) rfl rfl (by kernel_rfl) (by kernel_rfl) (by kernel_rfl) (by kernel_rfl) (by kernel_rfl) (fun _ _ _ h => h) (Or.inl ⟨by rfl, ?_⟩) hHeld ?_
        rotate_left
        · (intro w hSw; (try dsimp only at hSw); go_simp; try with_reducible rfl)
        try simp only [Act.put, List.setIfInBounds_toArray, List.set_cons_zero, List.set_cons_succ]
        refine wpAnyK_takeT (i := 7) (d := some 89) (v := ?_) rfl rfl (by kernel_rfl) (by kernel_rfl) (by kernel_rfl) (by kernel_rfl) (by kernel_rfl) (fun _ _ _ h => h) (Or.inl ⟨by rfl, ?_⟩) hHeld ?_
        rotate_left
        · (intro w hSw; (try dsimp only at hSw); go_simp; try with_reducible rfl)
        try simp only [Act.put, List.setIfInBounds_toArray, List.set_cons_zero, List.set_cons_succ]
        refine wpAnyK_takeT (i := 8) (d := some 90) (v := ?_) rfl rfl (by kernel_rfl) (by kernel_rfl) (by kernel_rfl) (by kernel_rfl) (by kernel_rfl) (fun _ _ _ h => h) (Or.inl ⟨by rfl, ?_⟩) hHeld ?_
        rotate_left
        · (intro w hSw; (try dsimp only at hSw); go_simp; try with_reducible rfl)
        try simp only [Act.put, List.setIfInBounds_toArray, List.set_cons_zero, List.set_cons_succ]
        refine wpAnyK_take (i := 9) (d := some 91) (v := ?_) rfl rfl (by kernel_rfl) (by kernel_rfl) (by kernel_rfl) (by kernel_rfl) (by kernel_rfl) (by kernel_rfl) (fun _ _ _ h => h) (Or.inl ⟨by rfl, ?_⟩) hHeld ?_
        rotate_left
        · (intro w hSw; (try dsimp only at hSw); go_simp; try with_reducible rfl)
        try simp only [Act.put, List.setIfInBounds_toArray, List.set_cons_zero, List.set_cons_succ]
        refine wpAnyK_takeT (i := 10) (d := some 92) (v := ?_) rfl rfl (by kernel_rfl) (by kernel_rfl) (by kernel_rfl) (by kernel_rfl) (by kernel_rfl) (fun _ _ _ h => h) (Or.inl ⟨by rfl, ?_⟩) hHeld ?_
        rotate_left
        · (intro w hSw; (try dsimp only at hSw); go_simp; try with_reducible rfl)
        try simp only [Act.put, List.setIfInBounds_toArray, List.set_cons_zero, List.set_cons_succ]
        refine wpAnyK_takeT (i := 11) (d := some 93) (v := ?_) rfl rfl (by kernel_rfl) (by kernel_rfl) (by kernel_rfl) (by kernel_rfl) (by kernel_rfl) (fun _ _ _ h => h) (Or.inl ⟨by rfl, ?_⟩) hHeld ?_
        rotate_left
        · (intro w hSw; (try dsimp only at hSw); go_simp; try with_reducible rfl)
        try simp only [Act.put, List.setIfInBounds_toArray, List.set_cons_zero, List.set_cons_succ]
        refine wpAnyK_takeT (i := 12) (d := some 94) (v := ?_) rfl rfl (by kernel_rfl) (by kernel_rfl) (by kernel_rfl) (by kernel_rfl) (by kernel_rfl) (fun _ _ _ h => h) (Or.inl ⟨by rfl, ?_⟩) hHeld ?_
        rotate_left
        · (intro w hSw; (try dsimp only at hSw); go_simp; try with_reducible rfl)
        try simp only [Act.put, List.setIfInBounds_toArray, List.set_cons_zero, List.set_cons_succ]
        refine wpAnyK_take (i := 13) (d := some 95) (v := ?_) rfl rfl (by kernel_rfl) (by kernel_rfl) (by kernel_rfl) (by kernel_rfl) (by kernel_rfl) (by kernel_rfl) (fun _ _ _ h => h) (Or.inl ⟨by rfl, ?_⟩) hHeld ?_
        rotate_left
        · (intro w hSw; (try dsimp only at hSw); go_simp; try with_reducible rfl)
        try simp only [Act.put, List.setIfInBounds_toArray, List.set_cons_zero, List.set_cons_succ]
        refine wpAnyK_takeT (i := 14) (d := some 96) (v := ?_) rfl rfl (by kernel_rfl) (by kernel_rfl) (by kernel_rfl) (by kernel_rfl) (by kernel_rfl) (fun _ _ _ h => h) (Or.inl ⟨by rfl, ?_⟩) hHeld ?_
        rotate_left
        · (intro w hSw; (try dsimp only at hSw); go_simp; try with_reducible rfl)
        try simp only [Act.put, List.setIfInBounds_toArray, List.set_cons_zero, List.set_cons_succ]
        refine wpAnyK_one (k := 15) false (by kernel_rfl) (by kernel_rfl) rfl (fun K hK => ?_)
        go_simp
        refine hK.out _ _ (fun h => by cases h) (fun _ => ?_)
        try clear hHeld
        clear hK K
        try simp only [Act.put, List.setIfInBounds_toArray, List.set_cons_zero, List.set_cons_succ]
        refine wpAnyK_one (k := 16) false (by kernel_rfl) (by kernel_rfl) rfl (fun K hK => ?_)
        go_simp
        refine hK.out _ _ (fun h => by cases h) (fun _ => ?_)
        try clear hHeld
        clear hK K
        try simp only [Act.put, List.setIfInBounds_toArray, List.set_cons_zero, List.set_cons_succ]
        refine wpAnyK_one (k := 17) false (by kernel_rfl) (by kernel_rfl) rfl (fun K hK => ?_)
        go_simp
        refine hK.out _ _ (fun h => by cases h) (fun _ => ?_)
        try clear hHeld
        clear hK K
        try simp only [Act.put, List.setIfInBounds_toArray, List.set_cons_zero, List.set_cons_succ]
        refine wpAnyK_done (by kernel_rfl) ?_ _

        clear hw64 hmt hm01 hmN hmN1 hmN2 hmN3 c0 c1 f0 f1
        have hof := World.ownsRow.drew ((HO7.out.stored m (.string (mkS (recJ (m + 1 + 1) bs1 p1)))).1.stored (m + 1) (.string (mkS (recJ (m + 1) bs0 p0)))).1
        rw [strsV_set, strsV_set] at hof
        have HLL := Lib.hid (all_set (k := m + 1) (all_set (k := m) HALL.out HX1.out) HX0.out)
        have HRD := Lib.hid (HBR.out _ m _ _ _ (by rw [HN.out]; omega) (bent0 (R := R) (x := recJ (m + 1 + 1) bs1 p1) (y := recJ (m + 1) bs0 p0) (by rw [HRl.out]; omega)).1 (bent0 (R := R) (x := recJ (m + 1 + 1) bs1 p1) (y := recJ (m + 1) bs0 p0) (by rw [HRl.out]; omega)).2 (by omega) (by omega) HQ1.out)
        have HNN : Hid (((R.set m (recJ (m + 1 + 1) bs1 p1)).set (m + 1) (recJ (m + 1) bs0 p0)).length = i) := by unfold Hid; rw [List.length_set, List.length_set, HRl.out]
        have HBW := Lib.hid ((((HB7.out).setCell (p := ⟨gb, m, none⟩) hwgb (.string (mkS (recJ (m + 1 + 1) bs1 p1)))).setCell (p := ⟨gb, m + 1, none⟩) hwgb (.string (mkS (recJ (m + 1) bs0 p0)))).drew)
        generalize (((w6.setCell ⟨gb, m, none⟩ (.string (mkS (recJ (m + 1 + 1) bs1 p1)))).setCell ⟨gb, m + 1, none⟩ (.string (mkS (recJ (m + 1) bs0 p0)))).drew) = WW at *
        generalize (R.set m (recJ (m + 1 + 1) bs1 p1)).set (m + 1) (recJ (m + 1) bs0 p0) = RR at *
        clear HN
        obtain ⟨NN, hNNe⟩ : ∃ NN, NN = i := ⟨_, rfl⟩
        obtain rfl := hNNe
        have HSf := Lib.hid (Sl.of_own hof)
        obtain ⟨hn1, hn2⟩ := HSf.out.le
        clear hof HO7
        go_wp2_with fail
        go_loop [14, 110] (fun s k => ∃ (k' : Nat) (S : ByteArray), k = .int .i64 k' ∧ s = .string S ∧ k' ≤ NN ∧ S.size ≤ 57 * k' ∧ Hid (toL S = (RR.take k').flatten)) (fun _ k => NN - (intOf k).toNat)
        case atStart => exact ⟨0, ⟨#[]⟩, rfl, rfl, Nat.zero_le _, by decide, rfl⟩
        case round =>
          obtain ⟨k, T, rfl, rfl, hk, hT, hTT⟩ := hrel
          by_cases hlt : k < NN
          · obtain ⟨bb, off, p, e1, _, hp, hc⟩ := HSf.out.at1 hlt
            injection e1 with e1
            injection e1 with e1 e2 _
            subst e1 e2
            rw [Nat.zero_add] at hc
            have hp57 := HLL.out p (List.mem_of_getElem? hp)
            have hps : (mkS p).size = p.length := rfl
            have hcat : T.size + (mkS p).size ≤ 9223372036854775807 := by rw [hps]; omega
            have HT : Hid ((T ++ mkS p).size ≤ 57 * (k + 1)) := by unfold Hid; rw [← toL_len, toL_append, List.length_append, toL_len, toL_len, hps]; omega
            have HTT : Hid (toL (T ++ mkS p) = (RR.take (k + 1)).flatten) := by unfold Hid; rw [take_snoc hp, List.flatten_append, toL_append, hTT.out, toL_mk]; simp
            have hkN : (k : Int) < (NN : Int) := by omega
            generalize mkS p = Pp at *
            clear hp hps
            go_wp2_with fail
            go_round
            case rel => exact ⟨k + 1, _, by go_num, rfl, by omega, HT.out, HTT⟩
            case measure => simp [intOf]; omega
          · obtain rfl : k = NN := by omega
            have hkN : decide ((k : Int) < (k : Int)) = false := by simp
            have hTe : toL T = RR.flatten := by rw [hTT.out, List.take_of_length_le (by rw [HNN.out]; exact Nat.le_refl _)]
            have HTe := Lib.hid hTe; clear hTe
            go_wp2_with fail
            refine (Read_any T _ (by omega)).mono ?_
            rintro e w9 ⟨A9, c9, rfl, ho9, hb9⟩
            rw [HTe.out, HRD.out.1, HRD.out.2]
            clear ho9
            go_wp2_with fail
            go_ret
            exact ⟨rfl, HBW.out.trans (hb9.mono HBW.out.size)⟩
      · go_wp2_with fail
        have hw64 : IntKind.i64.wrap ((m : Int) + 1) = (m : Int) + 1 := IntWalk.i64_in _ (by omega)
        have hmN : (m : Int) ≤ (cb : Int) := by omega
        have hmN1 : (m : Int) + 1 ≤ (i : Int) := by omega
        have hmt : ((m : Int) + 1).toNat = m + 1 := by omega
        have hmN2 : m ≤ cb := by omega
        have hmN3 : m + 1 ≤ i := by omega
        have hm01 : (0 : Int) ≤ (m : Int) + 1 := by omega
        have hcbm : cb ≠ m + 1 := by omega
        have HSR := Lib.hid (sl_part (Sl.of_own HO7.out) (m := m + 1) (by omega))
        refine wp_region_K (S := (fun _ => True)) (J := [7, 8]) (by kernel_rfl) ?_ (fun hHeld => ?_)
        · trivial
        try dsimp only at hHeld
        refine wpAnyK_takeT (i := 0) (d := some 100) (v := ?_) rfl rfl (by kernel_rfl) (by kernel_rfl) (by kernel_rfl) (by kernel_rfl) (by kernel_rfl) (fun _ _ _ h => h) (Or.inl ⟨by rfl, ?_⟩) hHeld ?_
        rotate_left
        · (intro w hSw; (try dsimp only at hSw); go_simp; try with_reducible rfl)
        try simp only [Act.put, List.setIfInBounds_toArray, List.set_cons_zero, List.set_cons_succ]
        refine wpAnyK_takeT (i := 1) (d := some 101) (v := ?_) rfl rfl (by kernel_rfl) (by kernel_rfl) (by kernel_rfl) (by kernel_rfl) (by kernel_rfl) (fun _ _ _ h => h) (Or.inl ⟨by rfl, ?_⟩) hHeld ?_
        rotate_left
        · (intro w hSw; (try dsimp only at hSw); go_simp; try with_reducible rfl)
        try simp only [Act.put, List.setIfInBounds_toArray, List.set_cons_zero, List.set_cons_succ]
        refine wpAnyK_takeT (i := 2) (d := some 102) (v := ?_) rfl rfl (by kernel_rfl) (by kernel_rfl) (by kernel_rfl) (by kernel_rfl) (by kernel_rfl) (fun _ _ _ h => h) (Or.inl ⟨by rfl, ?_⟩) hHeld ?_
        rotate_left
        · (intro w hSw; (try dsimp only at hSw); go_simp; try with_reducible rfl)
        try simp only [Act.put, List.setIfInBounds_toArray, List.set_cons_zero, List.set_cons_succ]
        refine wpAnyK_takeT (i := 3) (d := some 103) (v := ?_) rfl rfl (by kernel_rfl) (by kernel_rfl) (by kernel_rfl) (by kernel_rfl) (by kernel_rfl) (fun _ _ _ h => h) (Or.inl ⟨by rfl, ?_⟩) hHeld ?_
        rotate_left
        · (intro w hSw; (try dsimp only at hSw); go_simp; try with_reducible rfl)
        try simp only [Act.put, List.setIfInBounds_toArray, List.set_cons_zero, List.set_cons_succ]
        refine wpAnyK_takeT (i := 4) (d := some 104) (v := ?_) rfl rfl (by kernel_rfl) (by kernel_rfl) (by kernel_rfl) (by kernel_rfl) (by kernel_rfl) (fun _ _ _ h => h) (Or.inl ⟨by rfl, ?_⟩) hHeld ?_
        rotate_left
        · (intro w hSw; (try dsimp only at hSw); go_simp; try with_reducible rfl)
        try simp only [Act.put, List.setIfInBounds_toArray, List.set_cons_zero, List.set_cons_succ]
        refine wpAnyK_takeT (i := 5) (d := some 105) (v := ?_) rfl rfl (by kernel_rfl) (by kernel_rfl) (by kernel_rfl) (by kernel_rfl) (by kernel_rfl) (fun _ _ _ h => h) (Or.inl ⟨by rfl, ?_⟩) hHeld ?_
        rotate_left
        · (intro w hSw; (try dsimp only at hSw); go_simp; try with_reducible rfl)
        try simp only [Act.put, List.setIfInBounds_toArray, List.set_cons_zero, List.set_cons_succ]
        refine wpAnyK_takeT (i := 6) (d := some 106) (v := ?_) rfl rfl (by kernel_rfl) (by kernel_rfl) (by kernel_rfl) (by kernel_rfl) (by kernel_rfl) (fun _ _ _ h => h) (Or.inl ⟨by rfl, ?_⟩) hHeld ?_
        rotate_left
        · (intro w hSw; (try dsimp only at hSw); go_simp; try with_reducible rfl)
        try simp only [Act.put, List.setIfInBounds_toArray, List.set_cons_zero, List.set_cons_succ]
        refine wpAnyK_one (k := 7) false (by kernel_rfl) (by kernel_rfl) rfl (fun K hK => ?_)
        (refine step_app_d (d := some 107) (by rfl) (by rfl) _ _ (by rfl) el_str (by rfl) (own_take HO7.out (m := m) (by omega)).drew (by rfl) (Sl.drew HSR.out) (strsV_one _) (by omega) (by omega) (by simp; omega) ?_; intro Af cf w8 hown8 hgr8 hat8)
        refine hK.out _ _ (fun h => by cases h) (fun _ => ?_)
        try clear hHeld
        clear hK K
        try simp only [Act.put, List.setIfInBounds_toArray, List.set_cons_zero, List.set_cons_succ]
        refine wpAnyK_one (k := 8) false (by kernel_rfl) (by kernel_rfl) rfl (fun K hK => ?_)
        go_simp
        refine hK.out _ _ (fun h => by cases h) (fun _ => ?_)
        try clear hHeld
        clear hK K
        try simp only [Act.put, List.setIfInBounds_toArray, List.set_cons_zero, List.set_cons_succ]
        refine wpAnyK_done (by kernel_rfl) ?_ _

        clear hw64 hmt hm01 hmN hmN1 hmN2 hmN3 c0 c1 f0 f1 hcbm
        have hof := hown8
        obtain ⟨g8, cap8, hv8, hg8, hlt8⟩ := hof.form (by omega)
        injection hv8 with e1 _ e3
        subst e1 e3
        rw [strsV_map R, ← List.map_take, ← strsV_map, ← strsV_app] at hof
        have HLL : Hid (∀ y ∈ R.take m ++ R.drop (m + 1), y.length ≤ 57) := fun y hy => by
          rcases List.mem_append.1 hy with h | h
          · exact HALL.out y (List.mem_of_mem_take h)
          · exact HALL.out y (List.mem_of_mem_drop h)
        have hb1 := bent1 HR1.out (by rw [HRl.out]; omega)
        have HRD := Lib.hid (HBR.out _ m _ _ _ (by rw [HN.out]; omega) hb1.1 hb1.2 (by omega) (by omega) HQ1.out)
        have HNN : Hid ((R.take m ++ R.drop (m + 1)).length = m + (i - (m + 1))) := by unfold Hid; rw [List.length_append, List.length_take, List.length_drop, HRl.out]; omega
        have HBW := Lib.hid ((below_drewN HB7.out 1).trans (below_of_grown hgr8 hwgb (by simp; omega)))
        generalize R.take m ++ R.drop (m + 1) = RR at *
        clear HN hb1 hgr8 hat8 hown8 HSR
        obtain ⟨NN, hNNe⟩ : ∃ NN, m + (i - (m + 1)) = NN := ⟨_, rfl⟩
        rw [hNNe] at hof HNN ⊢
        have hNN6 : NN ≤ 6 := by omega
        clear hNNe
        have HSf := Lib.hid (Sl.of_own hof)
        obtain ⟨hn1, hn2⟩ := HSf.out.le
        clear hof HO7
        go_wp2_with fail
        go_loop [14, 110] (fun s k => ∃ (k' : Nat) (S : ByteArray), k = .int .i64 k' ∧ s = .string S ∧ k' ≤ NN ∧ S.size ≤ 57 * k' ∧ Hid (toL S = (RR.take k').flatten)) (fun _ k => NN - (intOf k).toNat)
        case atStart => exact ⟨0, ⟨#[]⟩, rfl, rfl, Nat.zero_le _, by decide, rfl⟩
        case round =>
          obtain ⟨k, T, rfl, rfl, hk, hT, hTT⟩ := hrel
          by_cases hlt : k < NN
          · obtain ⟨bb, off, p, e1, _, hp, hc⟩ := HSf.out.at1 hlt
            injection e1 with e1
            injection e1 with e1 e2 _
            subst e1 e2
            rw [Nat.zero_add] at hc
            have hp57 := HLL.out p (List.mem_of_getElem? hp)
            have hps : (mkS p).size = p.length := rfl
            have hcat : T.size + (mkS p).size ≤ 9223372036854775807 := by rw [hps]; omega
            have HT : Hid ((T ++ mkS p).size ≤ 57 * (k + 1)) := by unfold Hid; rw [← toL_len, toL_append, List.length_append, toL_len, toL_len, hps]; omega
            have HTT : Hid (toL (T ++ mkS p) = (RR.take (k + 1)).flatten) := by unfold Hid; rw [take_snoc hp, List.flatten_append, toL_append, hTT.out, toL_mk]; simp
            have hkN : (k : Int) < (NN : Int) := by omega
            generalize mkS p = Pp at *
            clear hp hps
            go_wp2_with fail
            go_round
            case rel => exact ⟨k + 1, _, by go_num, rfl, by omega, HT.out, HTT⟩
            case measure => simp [intOf]; omega
          · obtain rfl : k = NN := by omega
            have hkN : decide ((k : Int) < (k : Int)) = false := by simp
            have hTe : toL T = RR.flatten := by rw [hTT.out, List.take_of_length_le (by rw [HNN.out]; exact Nat.le_refl _)]
            have HTe := Lib.hid hTe; clear hTe
            go_wp2_with fail
            refine (Read_any T _ (by omega)).mono ?_
            rintro e w9 ⟨A9, c9, rfl, ho9, hb9⟩
            rw [HTe.out, HRD.out.1, HRD.out.2]
            clear ho9
            go_wp2_with fail
            go_ret
            exact ⟨rfl, HBW.out.trans (hb9.mono HBW.out.size)⟩
      · go_wp2_with fail
        clear c0 c1 f0 f1
        have hof := (HO7.out.stored (m + 1) (.string (mkS (recJ (m + 1) bs0 p0)))).1
        rw [strsV_set] at hof
        have HLL := Lib.hid (all_set (k := m + 1) HALL.out HX0.out)
        have hb1 := bent2 (R := R) (m := m) (x := recJ (m + 1) bs0 p0) (by rw [HRl.out]; omega)
        have HRD := Lib.hid (HBR.out _ (m + 1) _ _ _ (by rw [HN.out]; omega) hb1.1 hb1.2 (by omega) (by omega) HQ0.out)
        have HNN : Hid ((R.set (m + 1) (recJ (m + 1) bs0 p0)).length = i) := by unfold Hid; rw [List.length_set, HRl.out]
        have HBW := Lib.hid (HB7.out.setCell (p := ⟨gb, m + 1, none⟩) hwgb (.string (mkS (recJ (m + 1) bs0 p0))))
        generalize w6.setCell ⟨gb, m + 1, none⟩ (.string (mkS (recJ (m + 1) bs0 p0))) = WW at *
        generalize R.set (m + 1) (recJ (m + 1) bs0 p0) = RR at *
        clear HN hb1
        obtain ⟨NN, hNNe⟩ : ∃ NN, NN = i := ⟨_, rfl⟩
        obtain rfl := hNNe
        have HSf := Lib.hid (Sl.of_own hof)
        obtain ⟨hn1, hn2⟩ := HSf.out.le
        clear hof HO7
        go_wp2_with fail
        go_loop [14, 110] (fun s k => ∃ (k' : Nat) (S : ByteArray), k = .int .i64 k' ∧ s = .string S ∧ k' ≤ NN ∧ S.size ≤ 57 * k' ∧ Hid (toL S = (RR.take k').flatten)) (fun _ k => NN - (intOf k).toNat)
        case atStart => exact ⟨0, ⟨#[]⟩, rfl, rfl, Nat.zero_le _, by decide, rfl⟩
        case round =>
          obtain ⟨k, T, rfl, rfl, hk, hT, hTT⟩ := hrel
          by_cases hlt : k < NN
          · obtain ⟨bb, off, p, e1, _, hp, hc⟩ := HSf.out.at1 hlt
            injection e1 with e1
            injection e1 with e1 e2 _
            subst e1 e2
            rw [Nat.zero_add] at hc
            have hp57 := HLL.out p (List.mem_of_getElem? hp)
            have hps : (mkS p).size = p.length := rfl
            have hcat : T.size + (mkS p).size ≤ 9223372036854775807 := by rw [hps]; omega
            have HT : Hid ((T ++ mkS p).size ≤ 57 * (k + 1)) := by unfold Hid; rw [← toL_len, toL_append, List.length_append, toL_len, toL_len, hps]; omega
            have HTT : Hid (toL (T ++ mkS p) = (RR.take (k + 1)).flatten) := by unfold Hid; rw [take_snoc hp, List.flatten_append, toL_append, hTT.out, toL_mk]; simp
            have hkN : (k : Int) < (NN : Int) := by omega
            generalize mkS p = Pp at *
            clear hp hps
            go_wp2_with fail
            go_round
            case rel => exact ⟨k + 1, _, by go_num, rfl, by omega, HT.out, HTT⟩
            case measure => simp [intOf]; omega
          · obtain rfl : k = NN := by omega
            have hkN : decide ((k : Int) < (k : Int)) = false := by simp
            have hTe : toL T = RR.flatten := by rw [hTT.out, List.take_of_length_le (by rw [HNN.out]; exact Nat.le_refl _)]
            have HTe := Lib.hid hTe; clear hTe
            go_wp2_with fail
            refine (Read_any T _ (by omega)).mono ?_
            rintro e w9 ⟨A9, c9, rfl, ho9, hb9⟩
            rw [HTe.out, HRD.out.1, HRD.out.2]
            clear ho9
            go_wp2_with fail
            go_ret
            exact ⟨rfl, HBW.out.trans (hb9.mono HBW.out.size)⟩
end Go.Proofs.Ytmcedodejnnkmaa
