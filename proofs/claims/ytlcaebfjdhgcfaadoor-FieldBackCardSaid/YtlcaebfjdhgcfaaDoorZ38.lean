import Derived.Test.YtlcaebfjdhgcfaaDoorZ31
import Derived.Test.YtlcaebfjdhgcfaaDoorZ36
import Derived.Test.YtlcaebfjdhgcfaaDoorZ13
import Derived.Test.YtlcaebfjdhgcfaaDoorZ34
/-
  permitofficefield.Tie: its walk.
-/
namespace Go.Proofs.YtlcaebfjdhgcfaaDoor
open Go.RowKit
/-- The nodes while they are made. -/
def TieR (w : World) (g : Nat) (gk : Nat) (iv : Value) (wr : World) : Prop := ∃ (i : Nat) (An : Option Addr) (cn : Nat) (ns : List Nd), iv = .int .i64 i ∧ i ≤ 6 ∧ gk = 6 - i ∧ Hid (TieSt w g An i cn ns none 0 0 [] wr) ∧ Hid (ns.length = i) ∧ Hid (TieNs ns)
theorem TieSt.nb_rown {w0 W W' : World} {g : Nat} {An Ad : Option Addr} {nn cn nd cd : Nat} {ns : List Nd} {ds : List Dv} (h : TieSt w0 g An nn cn ns Ad nd cd ds W) (hg : W.grownBy W' (Value.slice An nn cn).ownBlock) : Blk W' (w0.heap.size + 1) 30 #[.slice An nn cn, .slice Ad nd cd] := h.nb.grown hg (fun e => by have := (h.rn.lt _ e.symm).1; omega)
theorem TieSt.nb_row {w0 W W' : World} {g : Nat} {An Ad : Option Addr} {nn cn nd cd : Nat} {ns : List Nd} {ds : List Dv} (h : TieSt w0 g An nn cn ns Ad nd cd ds W) (hg : W.grownBy W' (Value.slice Ad nd cd).ownBlock) : Blk W' (w0.heap.size + 1) 30 #[.slice An nn cn, .slice Ad nd cd] := h.nb.grown hg (fun e => by have := (h.rd.lt _ e.symm).1; omega)
/-- What Tie's drawn region holds: the row of the two kinds, and what comes of it. -/
def TieG (H : Nat) (j : Nat) (_ : Unit) (v : Value) (w : World) : Prop := match j with
  | 4 => ∃ x, v = .slice (some ⟨x, 0, none⟩) 2 2 ∧ Blk w x 3 #[.int .i64 1, .int .i64 3] ∧ H ≤ x
  | 6 => ∃ r : Nat, v = .int .i64 r ∧ r < 2
  | 7 => ∃ x r : Nat, v = .pointer (some ⟨x, r, none⟩) ∧ Blk w x 3 #[.int .i64 1, .int .i64 3] ∧ H ≤ x ∧ r < 2
  | 8 => ∃ k : Int, v = .int .i64 k ∧ (k = 1 ∨ k = 3)
  | 10 => ∃ r : Int, v = .int .i64 r ∧ 0 ≤ r ∧ r < 2
  | 11 => ∃ c : Int, v = .int .i64 c ∧ (c = 1 ∨ c = 2)
  | 12 => ∃ k c : Int, v = .agg #[.string ⟨#[88, 50]⟩, .int .i64 k, .int .i64 2, .int .i64 3, .int .i64 c] ∧ (k = 1 ∨ k = 3) ∧ (c = 1 ∨ c = 2)
  | _ => True
theorem TieG.later {H j : Nat} {u : Unit} {v : Value} {w w' : World} (h : TieG H j u v w) (hb : Below w.heap.size w w') : TieG H j u v w' := by
  unfold TieG at h ⊢
  split at h
  · obtain ⟨x, h1, h2, h3⟩ := h; exact ⟨x, h1, h2.below hb h2.lt, h3⟩
  · exact h
  · obtain ⟨x, r, h1, h2, h3⟩ := h; exact ⟨x, r, h1, h2.below hb h2.lt, h3⟩
  all_goals exact h
theorem TieG.grown {g H j : Nat} {u : Unit} {v : Value} {w w' : World} (h : TieG H j u v w) (hg : w.grownBy w' (some g)) (hl : g < H) : TieG H j u v w' := by
  unfold TieG at h ⊢
  split at h
  · obtain ⟨x, h1, h2, h3⟩ := h; exact ⟨x, h1, h2.grown hg (fun e => by injection e; omega), h3⟩
  · exact h
  · obtain ⟨x, r, h1, h2, h3, h4⟩ := h; exact ⟨x, r, h1, h2.grown hg (fun e => by injection e; omega), h3, h4⟩
  all_goals exact h
set_option maxRecDepth 100000 in
set_option maxHeartbeats 16000000 in
theorem tie_any (g : Nat) (w : World) (hd : DeckAt w g) : Calls Tryd.prog 18 #[.pointer (some ⟨g, 0, none⟩)] w (TiePost w g) := by
  have hlt := hd.lt
  have HD := Lib.hid hd; clear hd
  go_enter Tryd.func18, Tryd.ntmps18
  go_wp2_with fail
  have HS0 : Hid (TieSt w g none 0 0 [] none 0 0 [] ((w.alloc (.cells #[.slice none 0 0, .slice none 0 0] 30)).alloc (.cells #[.slice none 0 0, .slice none 0 0] 30))) := by
    refine ⟨hlt, (HD.out.alloc _).alloc _, ?_, (Blk.new w _ _).alloc _, ?_, World.ownsRow_nil _ _ _ _, World.ownsRow_nil _ _ _ _, .inl rfl⟩
    · exact grown_of_below (((Below.refl _ _).alloc (Nat.le_refl _) _).alloc (by simp) _) _
    · have := Blk.new (w.alloc (.cells #[.slice none 0 0, .slice none 0 0] 30)) 30 #[.slice none 0 0, .slice none 0 0]
      rw [World.size_alloc] at this
      exact this
  generalize World.alloc (World.alloc _ _) _ = wa at *
  refine wp_loop_u1 [(4, 0), (0, 2), (0, 1), (0, 0), (25, 1), (58, 0)] 5 (6) (TieR w g) (by (try dsimp only [gt]); exact ⟨0, none, 0, [], rfl, Nat.zero_le _, rfl, HS0, rfl, fun i x h => by simp at h⟩) (by kernel_rfl) ?_
  intro u1 p5 gk wr a hrel ha J1 K1 hJ1 hK1
  dsimp only [relaxR, v1, Nat.reduceAdd] at ha
  subst ha
  clear HS0 wa
  obtain ⟨i, An, cn, ns, rfl, hi, rfl, HST, HLN, HTN⟩ := hrel
  have hsz := HST.out.size
  by_cases hlk : i < 6
  · have e3 : (i : Int) / 3 = ((i / 3 : Nat) : Int) := by omega
    have hq3 : i / 3 < 2 := by omega
    have HQ : Hid (i / 3 = ns.length / 3) := by unfold Hid; rw [HLN.out]
    have HS : Hid ((⟨#[78]⟩ : ByteArray) ++ mkS [UInt8.ofNat (48 + i)] = nm1 i) := by
      unfold Hid
      apply toL_inj
      rw [toL_append, nm1, toL_mk, toL_mk]
      rfl
    have HU : Hid ((48 : Int) + (i : Int) = ((UInt8.ofNat (48 + i)).toNat : Int)) := by unfold Hid; rw [UInt8.toNat_ofNat']; omega
    have hcv : (convert 73 9 (.slice (some ⟨wr.heap.size, 0, none⟩) 1 1)).run Tryd.prog (wr.alloc (.cells #[.int .u8 (48 + (i : Int))] 5)) = .ok (.string (mkS [UInt8.ofNat (48 + i)])) (wr.alloc (.cells #[.int .u8 (48 + (i : Int))] 5)) := by
      refine run_string_of (B := wr.heap.size + 1) Tryd.underlying73 Tryd.underlying5 Tryd.underlying9 ?_
      have := Sl.newest (w := wr) (cs := #[.int .u8 (48 + (i : Int))]) (T := 5) (fr := (0, 0)) (n := 1) (size := 1) rfl rfl (by decide)
      simp only [bytesV, List.flatMap_cons, List.flatMap_nil, List.append_nil, ← HU.out]
      exact this
    have hz : (mkS [UInt8.ofNat (48 + i)]).size = 1 := by rw [size_mk]; rfl
    generalize i / 3 = q3 at *
    generalize mkS [UInt8.ofNat (48 + i)] = S2 at *
    have hcat : ¬ (9223372036854775807 < (⟨#[78]⟩ : ByteArray).size + S2.size) := by rw [hz]; decide
    clear hz
    have HST0 := Lib.hid (HST.out.alloc (.cells #[.int .u8 (48 + (i : Int))] 5))
    go_upto_region 6 with (fail)
    obtain ⟨nm, hnm⟩ : ∃ nm, nm = (⟨#[78]⟩ : ByteArray) ++ S2 := ⟨_, rfl⟩
    rw [← hnm]
    have HNM : Hid (nm = nm1 ns.length) := by unfold Hid; rw [HLN.out, ← HS.out, hnm]
    have HB1 : Hid (Blk ((wr.alloc (.cells #[.int .u8 (48 + (i : Int))] 5)).alloc (.cells #[.string nm, .int .i64 0, .int .i64 (1 + (q3 : Int))] 55)) (wr.heap.size + 1) 55 #[.string nm, .int .i64 0, .int .i64 (1 + (q3 : Int))]) := by
      have := Blk.new (wr.alloc (.cells #[.int .u8 (48 + (i : Int))] 5)) 55 #[.string nm, .int .i64 0, .int .i64 (1 + (q3 : Int))]
      rw [World.size_alloc] at this
      exact this
    have HST1 := Lib.hid (HST0.out.alloc (.cells #[.string nm, .int .i64 0, .int .i64 (1 + (q3 : Int))] 55))
    have HN9 : Hid (∀ q, (Value.slice An i cn).ownBlock = some q → q ≠ wr.heap.size + 1) := fun q e => by have := (HST.out.rn.lt q e).2; omega
    have HD9 : Hid (∀ q, (Value.slice none 0 0).ownBlock = some q → q ≠ wr.heap.size + 1) := fun q e => by cases e
    have hb4 : w.heap.size + 2 ≤ wr.heap.size + 1 := by omega
    have hbg : g < wr.heap.size + 1 := by omega
    clear hcv hcat e3 HST0 HS HU hnm
    generalize World.alloc (World.alloc _ _) _ = w1 at *
    generalize wr.heap.size + 1 = b9 at *
    clear HST
    go_wp2_with fail
    refine (one_any g 2 w1 HST1.out.deck (by decide)).mono ?_
    rintro e w2 ⟨r, rfl, hd1, hg1, hs1⟩
    have HST2 := Lib.hid (HST1.out.next hd1.out hg1.out)
    have HB2 := Lib.hid (HB1.out.grown hg1.out (fun e => by injection e with e; omega))
    clear hd1 hg1 hs1 HST1 HB1
    rcases r with _ | _
    · skip
      have kd : w2.cell? ⟨w.heap.size + 1, 0, none⟩ = some (.slice An i cn) := HST2.out.nb.cell 0
      have e0 : w2.cell? ⟨b9, 0, none⟩ = some (.string nm) := HB2.out.cell 0
      have e1 : w2.cell? ⟨b9, 1, none⟩ = some (.int .i64 0) := HB2.out.cell 1
      have e2 : w2.cell? ⟨b9, 2, none⟩ = some (.int .i64 (1 + (q3 : Int))) := HB2.out.cell 2
      have hz4 := HST2.out.size
      go_wp2_with (at_builtin; go_must (refine wpList_app rfl (.tmp 29) (.tmp 31) rfl el_node (by rfl) (HST2.out.rn.alloc _) (by rfl) (Sl.newest (n := 1) (by rfl) (by rfl) (by decide)) (by simp [Value.oneCell']) (by omega) (by omega) (by simp; omega) ?_; intro A' cap' w8 hown8 hgr8 hat8; have hnb := (HST2.out.alloc _).nb_rown hgr8; have HN8 := Lib.hid ((HST2.out.alloc _).node (x := ⟨nm, 0, 1 + (q3 : Int)⟩) hown8 hgr8 hat8); have kn : w8.cell? ⟨w.heap.size + 1, 0, none⟩ = some (.slice An i cn) := hnb.cell 0; have fn := hnb.frozen 0; clear hown8 hgr8 hat8 hnb))
      refine Handed.intro (6 - (i + 1)) (by omega) (hJ1 _ _ _ (LpI1.back 5 ?_ (by kernel_rfl)))
      dsimp only [gt]
      exact ⟨i + 1, A', cap', _, by go_num, by omega, rfl, HN8, by unfold Hid; rw [List.length_append, HLN.out]; rfl, HTN.out.snoc ⟨HNM.out, by simp only; omega, by simp only; omega, by simp only; rw [HQ.out]⟩⟩
    · go_wp2_with fail
      refine (next_any g 30 w2 HST2.out.deck (by decide)).mono ?_
      rintro e w3 ⟨y, rfl, hy0, hy1, hy2, hd1, hg1, hs1⟩
      have hy3 : y < 30 := hy2.out (by decide)
      have HST3 := Lib.hid (HST2.out.next hd1.out hg1.out)
      have HB3 := Lib.hid (HB2.out.grown hg1.out (fun e => by injection e with e; omega))
      clear hy1 hy2 hd1 hg1 hs1
      have c4 : w3.cell? ⟨b9, 1, none⟩ = some (.int .i64 0) := HB3.out.cell 1
      have f4 := HB3.out.frozen 1
      have HST4 := Lib.hid (HST3.out.store (u := .int .i64 (1 + y)) (j := 1) hb4 HN9.out HD9.out)
      have HB4 := Lib.hid (HB3.out.set 1 (.int .i64 (1 + y)))
      go_upto_region 8 with (fail)
      clear c4 f4
      generalize World.setCell _ _ _ = w4 at *
      have kd : w4.cell? ⟨w.heap.size + 1, 0, none⟩ = some (.slice An i cn) := HST4.out.nb.cell 0
      have e0 : w4.cell? ⟨b9, 0, none⟩ = some (.string nm) := HB4.out.cell 0
      have e1 : w4.cell? ⟨b9, 1, none⟩ = some (.int .i64 (1 + y)) := HB4.out.cell 1
      have e2 : w4.cell? ⟨b9, 2, none⟩ = some (.int .i64 (1 + (q3 : Int))) := HB4.out.cell 2
      have hz4 := HST4.out.size
      go_wp2_with (at_builtin; go_must (refine wpList_app rfl (.tmp 29) (.tmp 31) rfl el_node (by rfl) (HST4.out.rn.alloc _) (by rfl) (Sl.newest (n := 1) (by rfl) (by rfl) (by decide)) (by simp [Value.oneCell']) (by omega) (by omega) (by simp; omega) ?_; intro A' cap' w8 hown8 hgr8 hat8; have hnb := (HST4.out.alloc _).nb_rown hgr8; have HN8 := Lib.hid ((HST4.out.alloc _).node (x := ⟨nm, (1 + y), 1 + (q3 : Int)⟩) hown8 hgr8 hat8); have kn : w8.cell? ⟨w.heap.size + 1, 0, none⟩ = some (.slice An i cn) := hnb.cell 0; have fn := hnb.frozen 0; clear hown8 hgr8 hat8 hnb))
      refine Handed.intro (6 - (i + 1)) (by omega) (hJ1 _ _ _ (LpI1.back 5 ?_ (by kernel_rfl)))
      dsimp only [gt]
      exact ⟨i + 1, A', cap', _, by go_num, by omega, rfl, HN8, by unfold Hid; rw [List.length_append, HLN.out]; rfl, HTN.out.snoc ⟨HNM.out, by simp only; omega, by simp only; omega, by simp only; rw [HQ.out]⟩⟩
  have h66 : i = 6 := by omega
  subst h66
  have hii : decide (((6 : Nat) : Int) < 6) = false := by decide
  go_upto_region 9 with (fail)
  clear hii hlk hi
  have hgH : g < w.heap.size + 2 := by omega
  refine wp_region_phi (S := fun _ => True) (J := []) (n := _) ((0, true) :: (1, true) :: (2, true) :: (3, true) :: (5, true) :: (9, true) :: (13, true) :: (14, true) :: (15, true) :: (16, true) :: []) ((17, false) :: (18, true) :: (19, false) :: []) (phiG [(4, []), (6, []), (7, [4, 6]), (8, [7]), (10, [6]), (11, [10]), (12, [8, 11])]) 7 #[true, true, true, true, false, true, false, false, false, true, false, false, false, true, true, true, true, false, false, false] #[true, true, true, true, true, true, true, true, true, true, true, true, true, true, true, true, true, false, false, false] (by as_aux_lemma => kernel_rfl) (by rfl) (base_cons (k := 0) (by go_simp; rfl) (base_cons (k := 4) (by go_simp; rfl) base_nil)) ?_ (fun _ _ _ _ _ h => h) (fun Q2 A hsz hbase hn2 hHeld => ?_)
  · trivial
  try dsimp only at hHeld
  obtain ⟨b0, b4, -⟩ := hbase
  refine ⟨Phi A [(4, 38), (6, 40), (7, 41), (8, 42), (10, 44), (11, 45), (12, 46)] [(50, .agg #[.string ⟨#[83, 53]⟩, .int .i64 5, .int .i64 5, .int .i64 (-1), .int .i64 2]), (49, .agg #[.string ⟨#[88, 52]⟩, .int .i64 2, .int .i64 4, .int .i64 5, .int .i64 2]), (48, .agg #[.string ⟨#[88, 51]⟩, .int .i64 3, .int .i64 3, .int .i64 4, .int .i64 2]), (47, .agg #[.string ⟨#[69, 51]⟩, .int .i64 4, .int .i64 3, .int .i64 (-1), .int .i64 2]), (43, .pointer (some ⟨g, 0, none⟩)), (39, .pointer (some ⟨g, 0, none⟩)), (37, .agg #[.string ⟨#[69, 50]⟩, .int .i64 4, .int .i64 2, .int .i64 (-1), .int .i64 1]), (36, .agg #[.string ⟨#[88, 49]⟩, .int .i64 3, .int .i64 1, .int .i64 2, .int .i64 1]), (35, .agg #[.string ⟨#[88, 48]⟩, .int .i64 2, .int .i64 0, .int .i64 1, .int .i64 1]), (34, .agg #[.string ⟨#[83, 48]⟩, .int .i64 5, .int .i64 0, .int .i64 (-1), .int .i64 1])] 20 (TieSt w g An 6 cn ns none 0 0 []) (TieG (w.heap.size + 2)), ?_, ?_, ?_⟩
  · refine ord_take (i := 0) (d := 34) (v := ?_) rfl rfl (wanted_none rfl) hHeld (fun ρ hρ w hSw => ?_) ?_
    rotate_left
    · (have hc := hρ.const; clear hρ; (try dsimp only at hSw); go_simp; try with_reducible rfl)
    show wpOrd _ _ _ _ _ _ _ _
    refine ord_take (i := 1) (d := 35) (v := ?_) rfl rfl (wanted_none rfl) hHeld (fun ρ hρ w hSw => ?_) ?_
    rotate_left
    · (have hc := hρ.const; clear hρ; (try dsimp only at hSw); go_simp; try with_reducible rfl)
    show wpOrd _ _ _ _ _ _ _ _
    refine ord_take (i := 2) (d := 36) (v := ?_) rfl rfl (wanted_none rfl) hHeld (fun ρ hρ w hSw => ?_) ?_
    rotate_left
    · (have hc := hρ.const; clear hρ; (try dsimp only at hSw); go_simp; try with_reducible rfl)
    show wpOrd _ _ _ _ _ _ _ _
    refine ord_take (i := 3) (d := 37) (v := ?_) rfl rfl (wanted_none rfl) hHeld (fun ρ hρ w hSw => ?_) ?_
    rotate_left
    · (have hc := hρ.const; clear hρ; (try dsimp only at hSw); go_simp; try with_reducible rfl)
    show wpOrd _ _ _ _ _ _ _ _
    refine ord_move (i := 5) (d := 39) (v := ?_) rfl rfl rfl (wanted_none rfl) hHeld (fun ρ hρ => ?_) ?_
    rotate_left
    · (have e0 := Eq.trans (hρ.tmp hsz 0 rfl) (miss4 rfl rfl rfl rfl (lkp_base b0)); exact e0)
    show wpOrd _ _ _ _ _ _ _ _
    refine ord_move (i := 9) (d := 43) (v := ?_) rfl rfl rfl (wanted_none rfl) hHeld (fun ρ hρ => ?_) ?_
    rotate_left
    · (have e0 := Eq.trans (hρ.tmp hsz 0 rfl) (miss4 rfl rfl rfl rfl (miss1 rfl (lkp_base b0))); exact e0)
    show wpOrd _ _ _ _ _ _ _ _
    refine ord_take (i := 13) (d := 47) (v := ?_) rfl rfl (wanted_none rfl) hHeld (fun ρ hρ w hSw => ?_) ?_
    rotate_left
    · (have hc := hρ.const; clear hρ; (try dsimp only at hSw); go_simp; try with_reducible rfl)
    show wpOrd _ _ _ _ _ _ _ _
    refine ord_take (i := 14) (d := 48) (v := ?_) rfl rfl (wanted_none rfl) hHeld (fun ρ hρ w hSw => ?_) ?_
    rotate_left
    · (have hc := hρ.const; clear hρ; (try dsimp only at hSw); go_simp; try with_reducible rfl)
    show wpOrd _ _ _ _ _ _ _ _
    refine ord_take (i := 15) (d := 49) (v := ?_) rfl rfl (wanted_none rfl) hHeld (fun ρ hρ w hSw => ?_) ?_
    rotate_left
    · (have hc := hρ.const; clear hρ; (try dsimp only at hSw); go_simp; try with_reducible rfl)
    show wpOrd _ _ _ _ _ _ _ _
    refine ord_take (i := 16) (d := 50) (v := ?_) rfl rfl (wanted_none rfl) hHeld (fun ρ hρ w hSw => ?_) ?_
    rotate_left
    · (have hc := hρ.const; clear hρ; (try dsimp only at hSw); go_simp; try with_reducible rfl)
    show wpOrd _ _ _ _ _ _ _ _
    exact lat_pre (phi_start (l := #[true, true, true, true, false, true, false, false, false, true, false, false, false, true, true, true, true, false, false, false]) () (by decide) rfl HST.out.drew)
  · intro l i a w0 hg h
    obtain ⟨vs, γ, hl, rfl, hB, hG⟩ := h
    obtain ⟨hf, ds, hm, hds⟩ := phiG_out hg
    clear hg
    simp only [List.mem_cons, Prod.mk.injEq, List.not_mem_nil, or_false] at hm
    rcases hm with ⟨rfl, rfl⟩ | ⟨rfl, rfl⟩ | ⟨rfl, rfl⟩ | ⟨rfl, rfl⟩ | ⟨rfl, rfl⟩ | ⟨rfl, rfl⟩ | ⟨rfl, rfl⟩
    · clear hds
      refine lat_run (d := 38) (v := ?_) (w' := ?_) rfl rfl rfl (fun ρ hρ => ?_) ?_
      rotate_left 2
      · (have hc := hρ.const; clear hρ; go_simp; first | with_reducible rfl | (constructor <;> with_reducible rfl))
      exact ⟨fun _ => trivial, phi_step (γ' := γ) (by decide) (by decide) hl (by decide) hf (hB.later ((Below.refl _ _).alloc (Nat.le_refl _) _)) hG (fun j u _ _ h => h.later ((Below.refl _ _).alloc (Nat.le_refl _) _)) (⟨w0.heap.size, rfl, Blk.new _ _ _, hB.size⟩)⟩
    · clear hds
      refine lat_call (d := 40) (vs := #[.pointer (some ⟨g, 0, none⟩), .int .i64 2]) rfl rfl rfl rfl (fun ρ hρ => ?_) ?_ ?_
      · (have hc := hρ.const; have e39 := Eq.trans (hρ.tmp hsz 39 rfl) ((slots_miss _ rfl (miss1 rfl (miss1 rfl (miss1 rfl (miss1 rfl (miss1 rfl lkp_hit))))))); simp only [List.map_toArray, List.map_cons, List.map_nil, e39, hc])
      · (intro w; go_simp)
      refine (next_any g 2 w0 hB.deck (by decide)).mono ?_
      rintro e w6 ⟨r, rfl, r0, r1, r2, hd6, hg6, hs6⟩
      have r3 : r < 2 := r2.out (by decide)
      obtain ⟨r, rfl⟩ := Int.eq_ofNat_of_zero_le r0
      refine ⟨_, rfl, fun _ => trivial, phi_step (γ' := γ) (by decide) (by decide) hl (by decide) hf (hB.next hd6.out hg6.out) hG (fun j u _ _ h => h.grown hg6.out hgH) (⟨r, rfl, by omega⟩)⟩
    · have f4 : flag l 4 = true := hds 4 (by simp)
      have f6 : flag l 6 = true := hds 6 (by simp)
      have G4 := hG 4 f4 (by decide)
      have G6 := hG 6 f6 (by decide)
      clear hds
      obtain ⟨x, h4, hx, hxH⟩ := G4
      obtain ⟨r, h6, hr⟩ := G6
      have hri : (r : Int) < 2 := by omega
      refine lat_run (d := 41) (v := ?_) (w' := ?_) rfl rfl rfl (fun ρ hρ => ?_) ?_
      rotate_left 2
      · (have e38 := Eq.trans (hρ.tmp hsz 38 rfl) ((slots_get (i := 4) f4 _ (by decide) (by decide)).trans h4); have e40 := Eq.trans (hρ.tmp hsz 40 rfl) ((slots_get (i := 6) f6 _ (by decide) (by decide)).trans h6); clear hρ; go_simp; first | with_reducible rfl | (constructor <;> with_reducible rfl))
      exact ⟨fun _ => trivial, phi_step (γ' := γ) (by decide) (by decide) hl (by decide) hf (hB) hG (fun j u _ _ h => h) (⟨x, r, rfl, hx, hxH, hr⟩)⟩
    · have f7 : flag l 7 = true := hds 7 (by simp)
      have G7 := hG 7 f7 (by decide)
      clear hds
      obtain ⟨x, r, h7, hx, hxH, hr⟩ := G7
      obtain ⟨k, hk, hc⟩ : ∃ k : Int, (k = 1 ∨ k = 3) ∧ w0.cell? ⟨x, r, none⟩ = some (.int .i64 k) := by
            rcases (show r = 0 ∨ r = 1 by omega) with rfl | rfl
            · exact ⟨1, .inl rfl, hx.cell 0⟩
            · exact ⟨3, .inr rfl, hx.cell 1⟩
      refine lat_run (d := 42) (v := ?_) (w' := ?_) rfl rfl rfl (fun ρ hρ => ?_) ?_
      rotate_left 2
      · (have e41 := Eq.trans (hρ.tmp hsz 41 rfl) ((slots_get (i := 7) f7 _ (by decide) (by decide)).trans h7); clear hρ; go_simp; first | with_reducible rfl | (constructor <;> with_reducible rfl))
      exact ⟨fun _ => trivial, phi_step (γ' := γ) (by decide) (by decide) hl (by decide) hf (hB) hG (fun j u _ _ h => h) (⟨k, rfl, hk⟩)⟩
    · have f6 : flag l 6 = true := hds 6 (by simp)
      have G6 := hG 6 f6 (by decide)
      clear hds
      refine lat_call (d := 44) (vs := #[.pointer (some ⟨g, 0, none⟩), .int .i64 2]) rfl rfl rfl rfl (fun ρ hρ => ?_) ?_ ?_
      · (have hc := hρ.const; have e43 := Eq.trans (hρ.tmp hsz 43 rfl) ((slots_miss _ rfl (miss1 rfl (miss1 rfl (miss1 rfl (miss1 rfl lkp_hit)))))); simp only [List.map_toArray, List.map_cons, List.map_nil, e43, hc])
      · (intro w; go_simp)
      refine (next_any g 2 w0 hB.deck (by decide)).mono ?_
      rintro e w6 ⟨r, rfl, r0, r1, r2, hd6, hg6, hs6⟩
      have r3 : r < 2 := r2.out (by decide)
      refine ⟨_, rfl, fun _ => trivial, phi_step (γ' := γ) (by decide) (by decide) hl (by decide) hf (hB.next hd6.out hg6.out) hG (fun j u _ _ h => h.grown hg6.out hgH) (⟨r, rfl, r0, r3⟩)⟩
    · have f10 : flag l 10 = true := hds 10 (by simp)
      have G10 := hG 10 f10 (by decide)
      clear hds
      obtain ⟨r, h10, r0, r1⟩ := G10
      have hwr : IntKind.i64.wrap (1 + r) = 1 + r := IntWalk.i64_in _ (by omega)
      refine lat_run (d := 45) (v := ?_) (w' := ?_) rfl rfl rfl (fun ρ hρ => ?_) ?_
      rotate_left 2
      · (have hc := hρ.const; have e44 := Eq.trans (hρ.tmp hsz 44 rfl) ((slots_get (i := 10) f10 _ (by decide) (by decide)).trans h10); clear hρ; go_simp; first | with_reducible rfl | (constructor <;> with_reducible rfl))
      exact ⟨fun _ => trivial, phi_step (γ' := γ) (by decide) (by decide) hl (by decide) hf (hB) hG (fun j u _ _ h => h) (⟨1 + r, rfl, by omega⟩)⟩
    · have f8 : flag l 8 = true := hds 8 (by simp)
      have f11 : flag l 11 = true := hds 11 (by simp)
      have G8 := hG 8 f8 (by decide)
      have G11 := hG 11 f11 (by decide)
      clear hds
      obtain ⟨k, h8, hk⟩ := G8
      obtain ⟨c, h11, hc'⟩ := G11
      refine lat_run (d := 46) (v := ?_) (w' := ?_) rfl rfl rfl (fun ρ hρ => ?_) ?_
      rotate_left 2
      · (have hc := hρ.const; have e42 := Eq.trans (hρ.tmp hsz 42 rfl) ((slots_get (i := 8) f8 _ (by decide) (by decide)).trans h8); have e45 := Eq.trans (hρ.tmp hsz 45 rfl) ((slots_get (i := 11) f11 _ (by decide) (by decide)).trans h11); clear hρ; go_simp; first | with_reducible rfl | (constructor <;> with_reducible rfl))
      exact ⟨fun _ => trivial, phi_step (γ' := γ) (by decide) (by decide) hl (by decide) hf (hB) hG (fun j u _ _ h => h) (⟨k, c, rfl, hk, hc'⟩)⟩
  intro a w0 h
  obtain ⟨vs, γ, -, rfl, hB, hG⟩ := h
  show wpOrd _ _ _ _ _ _ (puts A ((38, vs 4) :: (40, vs 6) :: (41, vs 7) :: (42, vs 8) :: (44, vs 10) :: (45, vs 11) :: (46, vs 12) :: [(50, .agg #[.string ⟨#[83, 53]⟩, .int .i64 5, .int .i64 5, .int .i64 (-1), .int .i64 2]), (49, .agg #[.string ⟨#[88, 52]⟩, .int .i64 2, .int .i64 4, .int .i64 5, .int .i64 2]), (48, .agg #[.string ⟨#[88, 51]⟩, .int .i64 3, .int .i64 3, .int .i64 4, .int .i64 2]), (47, .agg #[.string ⟨#[69, 51]⟩, .int .i64 4, .int .i64 3, .int .i64 (-1), .int .i64 2]), (43, .pointer (some ⟨g, 0, none⟩)), (39, .pointer (some ⟨g, 0, none⟩)), (37, .agg #[.string ⟨#[69, 50]⟩, .int .i64 4, .int .i64 2, .int .i64 (-1), .int .i64 1]), (36, .agg #[.string ⟨#[88, 49]⟩, .int .i64 3, .int .i64 1, .int .i64 2, .int .i64 1]), (35, .agg #[.string ⟨#[88, 48]⟩, .int .i64 2, .int .i64 0, .int .i64 1, .int .i64 1]), (34, .agg #[.string ⟨#[83, 48]⟩, .int .i64 5, .int .i64 0, .int .i64 (-1), .int .i64 1])])) _
  replace hHeld : (fun _ => True) w0 := trivial
  obtain ⟨k, c, h12, hk, hc⟩ := hG 12 rfl (by decide)
  obtain ⟨v4, hv4⟩ : ∃ v, v = vs 4 := ⟨_, rfl⟩
  obtain ⟨v6, hv6⟩ : ∃ v, v = vs 6 := ⟨_, rfl⟩
  obtain ⟨v7, hv7⟩ : ∃ v, v = vs 7 := ⟨_, rfl⟩
  obtain ⟨v8, hv8⟩ : ∃ v, v = vs 8 := ⟨_, rfl⟩
  obtain ⟨v10, hv10⟩ : ∃ v, v = vs 10 := ⟨_, rfl⟩
  obtain ⟨v11, hv11⟩ : ∃ v, v = vs 11 := ⟨_, rfl⟩
  rw [h12, ← hv4, ← hv6, ← hv7, ← hv8, ← hv10, ← hv11]
  clear h12 hG hv4 hv6 hv7 hv8 hv10 hv11 vs
  have HTL := Lib.hid (hB.lit (x := tieD k c) (n := 9) rfl (by decide))
  have y1 := (hB.nb.alloc (.cells ((tieD k c).flatMap Dv.cells).toArray 52)).frozen 1
  have y2 := (hB.nb.alloc (.cells ((tieD k c).flatMap Dv.cells).toArray 52)).cell 1
  obtain ⟨w7, hw7⟩ : ∃ w7, w7 = w0.alloc (.cells ((tieD k c).flatMap Dv.cells).toArray 52) := ⟨_, rfl⟩
  rw [← hw7] at HTL y1 y2
  show wpOrd _ _ _ _ _ _ _ _
  refine ord_run (i := 17) (d := 51) (v := ?_) (w' := ?_) rfl rfl (wanted_none rfl) (fun ρ hρ => ?_) ?_ ?_
  rotate_left 2
  · (have e34 := Eq.trans (hρ.tmp hsz 34 rfl) (miss4 rfl rfl rfl rfl (miss4 rfl rfl rfl rfl (miss4 rfl rfl rfl rfl (miss4 rfl rfl rfl rfl lkp_hit)))); have e35 := Eq.trans (hρ.tmp hsz 35 rfl) (miss4 rfl rfl rfl rfl (miss4 rfl rfl rfl rfl (miss4 rfl rfl rfl rfl (miss1 rfl (miss1 rfl (miss1 rfl lkp_hit)))))); have e36 := Eq.trans (hρ.tmp hsz 36 rfl) (miss4 rfl rfl rfl rfl (miss4 rfl rfl rfl rfl (miss4 rfl rfl rfl rfl (miss1 rfl (miss1 rfl lkp_hit))))); have e37 := Eq.trans (hρ.tmp hsz 37 rfl) (miss4 rfl rfl rfl rfl (miss4 rfl rfl rfl rfl (miss4 rfl rfl rfl rfl (miss1 rfl lkp_hit)))); have e46 := Eq.trans (hρ.tmp hsz 46 rfl) (miss4 rfl rfl rfl rfl (miss1 rfl (miss1 rfl lkp_hit))); have e47 := Eq.trans (hρ.tmp hsz 47 rfl) (miss4 rfl rfl rfl rfl (miss4 rfl rfl rfl rfl (miss1 rfl (miss1 rfl lkp_hit)))); have e48 := Eq.trans (hρ.tmp hsz 48 rfl) (miss4 rfl rfl rfl rfl (miss4 rfl rfl rfl rfl (miss1 rfl lkp_hit))); have e49 := Eq.trans (hρ.tmp hsz 49 rfl) (miss4 rfl rfl rfl rfl (miss4 rfl rfl rfl rfl lkp_hit)); have e50 := Eq.trans (hρ.tmp hsz 50 rfl) (miss4 rfl rfl rfl rfl (miss1 rfl (miss1 rfl (miss1 rfl lkp_hit)))); clear hρ; go_simp; first | with_reducible rfl | (constructor <;> with_reducible rfl))
  · refine fun _ => ?_
    trivial
  intro hHeld'
  replace hHeld := hHeld' rfl
  clear hHeld'
  try dsimp only at hHeld
  show wpOrd _ _ _ _ _ _ _ _
  show wpOrd _ _ _ _ _ _ _ (w0.alloc (.cells ((tieD k c).flatMap Dv.cells).toArray 52))
  show wpOrd _ _ _ _ _ _ _ _
  rw [← hw7]
  show wpOrd _ _ _ _ _ _ _ _
  clear hw7 hB
  show wpOrd _ _ _ _ _ _ _ _
  refine ord_take (i := 18) (d := 52) (v := ?_) rfl rfl (wanted_none rfl) hHeld (fun ρ hρ w hSw => ?_) ?_
  rotate_left
  · (have e4 := Eq.trans (hρ.tmp hsz 4 rfl) (miss4 rfl rfl rfl rfl (miss4 rfl rfl rfl rfl (miss4 rfl rfl rfl rfl (miss4 rfl rfl rfl rfl (miss1 rfl (miss1 rfl (lkp_base b4))))))); clear hρ; (try dsimp only at hSw); go_simp; try with_reducible rfl)
  show wpOrd _ _ _ _ _ _ _ _
  refine ord_store (i := 19) (w' := ?_) rfl rfl (wanted_none rfl) (fun ρ hρ => ?_) (fun _ => ?_) ?_
  rotate_left
  · (have e52 := Eq.trans (hρ.tmp hsz 52 rfl) lkp_hit; have e51 := Eq.trans (hρ.tmp hsz 51 rfl) (miss1 rfl lkp_hit); clear hρ; go_simp; try with_reducible rfl)
  · trivial
  show wpOrd _ _ _ _ _ _ _ _
  refine ord_done hn2 ?_
  clear hHeld hn2 b0 b4 hsz A Q2
  simp only [puts_nil, puts_cons, put_lit, set_1, set_0]
  clear y1 y2
  generalize World.setCell w7 _ _ = wt at *
  generalize (some (⟨w0.heap.size, 0, none⟩ : Addr)) = Ad at *
  go_upto_region 11 with (fail)
  have HX0 : Hid (TieX w g An cn ns Ad 9 9 (tieD k c) (some ⟨wt.heap.size, 0, none⟩) 9 9 tieS (wt.alloc (.cells #[.int .i64 2, .int .i64 2, .int .i64 2, .int .i64 1, .int .i64 2, .int .i64 1, .int .i64 2, .int .i64 2, .int .i64 2] 3))) := TieX.lit HTL.out (by decide) rfl
  generalize (some (⟨wt.heap.size, 0, none⟩ : Addr)) = As at *
  generalize World.alloc wt _ = wu at *
  clear HTL
  go_wp2_with fail
  refine (next_any g 4 wu HX0.out.t.deck (by decide)).mono ?_
  rintro e w1 ⟨r, rfl, r0, r1, r2, hd6, hg6, hs6⟩
  have r3 : r < 4 := r2.out (by decide)
  have HX1 := Lib.hid (HX0.out.next hd6.out hg6.out)
  clear hd6 hg6 hs6 r1 r2 HX0
  have HKC := Lib.hid (And.intro hk hc)
  clear hk hc
  rcases (show r = 0 ∨ r = 1 ∨ r = 2 ∨ r = 3 by omega) with rfl | rfl | rfl | rfl
  · have hz1 := HX1.out.t.size
    have kd : w1.cell? ⟨w.heap.size + 1, 1, none⟩ = some (.slice Ad 9 9) := HX1.out.t.nb.cell 1
    go_wp2_with (at_builtin; go_must (refine wpList_app rfl (.tmp 59) (.tmp 61) rfl el_dev (by rfl) (HX1.out.t.rd.alloc _) (by rfl) (Sl.newest (n := 1) (by rfl) (by rfl) (by decide)) (by simp [Value.oneCell']) (by omega) (by omega) (by simp; omega) ?_; intro A' cap' w8 hown8 hgr8 hat8; have hnb := (HX1.out.t.alloc _).nb_row hgr8; have HX8 := Lib.hid ((HX1.out.alloc _).dev (x := dvG) hown8 hgr8 hat8); have kn : w8.cell? ⟨w.heap.size + 1, 1, none⟩ = some (.slice Ad 9 9) := hnb.cell 1; have fn := hnb.frozen 1; clear hown8 hgr8 hat8 hnb))
    clear kd kn fn
    generalize World.setCell w8 _ _ = w2 at *
    clear HX1
    refine (next_any g 2 w2 HX8.out.t.deck (by decide)).mono ?_
    rintro e w3 ⟨y, rfl, r0, r1, r2, hd6, hg6, hs6⟩
    have r3 : y < 2 := r2.out (by decide)
    have HX2 := Lib.hid (HX8.out.next hd6.out hg6.out)
    have hz2 := HX2.out.t.size
    clear hd6 hg6 hs6 r1 r2 HX8
    go_wp2_with (at_builtin; go_must (refine wpList_app rfl (.tmp 64) (.tmp 68) rfl el_int (by rfl) (World.ownsRow.alloc HX2.out.o _) (by rfl) (Sl.newest (n := 1) (by rfl) (by rfl) (by decide)) (by simp [Value.oneCell']) (by omega) (by omega) (by simp; omega) ?_; intro A2 cap2 w9 hown9 hgr9 hat9; have HX9 := Lib.hid ((HX2.out.alloc _).row (l := tieS ++ [1 + y]) (by unfold IntsO; rw [intsV_append]; exact hown9) hgr9 hat9); clear hown9 hgr9 hat9; have HTV : Hid (TieV (tieD k c ++ [dvG]) (tieS ++ [1 + y])) := ⟨k, c, HKC.out.1, HKC.out.2, .inr (.inl ⟨rfl, by rcases (show y = 0 ∨ y = 1 by omega) with rfl | rfl <;> simp [tieS]⟩)⟩; have d0 := HX9.out.t.rb.cell 0; have d1 := HX9.out.t.rb.cell 1; have y0 := HX9.out.t.rb.frozen 0; have y1 := HX9.out.t.rb.frozen 1; have k0 := HX9.out.t.nb.cell 0; have k1 := HX9.out.t.nb.cell 1; have HB := Lib.hid ((HX9.out.t.rb.set 0 (.slice An 6 cn)).set 1 (.slice A' 10 cap')); have HF := Lib.hid (HX9.out.fin rfl HTN.out HLN.out HTV.out (.slice An 6 cn) (.slice A' 10 cap'))))
    clear d0 d1 y0 y1 k0 k1
    generalize World.setCell (World.setCell _ _ _) _ _ = wz at *
    have t0 : wz.cell? ⟨w.heap.size, 0, none⟩ = some (.slice An 6 cn) := HB.out.cell 0
    have t1 : wz.cell? ⟨w.heap.size, 1, none⟩ = some (.slice A' 10 cap') := HB.out.cell 1
    exact bodyPost_ret (v := .tuple #[.agg #[.slice An 6 cn, .slice A' 10 cap'], .slice A2 10 cap2]) (by simp [results, Tryd.results18, go_sem, t0, t1]) rfl HF.out
  · have kd : w1.cell? ⟨w.heap.size + 1, 1, none⟩ = some (.slice Ad 9 9) := HX1.out.t.nb.cell 1
    have HD1 := Lib.hid (HX1.out.later (Below.refl _ _).drew)
    go_upto_region 16 with (fail)
    clear kd
    refine wp_region_J (S := fun W' => W'.cell? ⟨w.heap.size + 1, 1, none⟩ = some (.slice Ad 9 9)) (J := [9]) (by kernel_rfl) ?_ (fun hHeld => ?_)
    · exact HD1.out.t.nb.cell 1
    try dsimp only at hHeld
    refine wpAnyJ_takeL (i := 0) (d := some 72) (v := ?_) #[true, false, false, false, false, false, false, false, false, false] (by kernel_rfl) rfl rfl (by kernel_rfl) (by kernel_rfl) (by kernel_rfl) (by kernel_rfl) (by kernel_rfl) (fun _ _ _ h => h) (Or.inl ⟨by rfl, ?_⟩) hHeld ?_
    rotate_left
    · (intro w hSw; (try dsimp only at hSw);  go_simp; try with_reducible rfl)
    try simp only [Act.put, List.setIfInBounds_toArray, List.set_cons_zero, List.set_cons_succ]
    refine wpAnyJ_takeL (i := 1) (d := some 73) (v := ?_) #[true, true, false, false, false, false, false, false, false, false] (by kernel_rfl) rfl rfl (by kernel_rfl) (by kernel_rfl) (by kernel_rfl) (by kernel_rfl) (by kernel_rfl) (fun _ _ _ h => h) (Or.inl ⟨by rfl, ?_⟩) hHeld ?_
    rotate_left
    · (intro w hSw; (try dsimp only at hSw);  go_simp; try with_reducible rfl)
    try simp only [Act.put, List.setIfInBounds_toArray, List.set_cons_zero, List.set_cons_succ]
    refine wpAnyJ_takeL (i := 2) (d := some 74) (v := ?_) #[true, true, true, false, false, false, false, false, false, false] (by kernel_rfl) rfl rfl (by kernel_rfl) (by kernel_rfl) (by kernel_rfl) (by kernel_rfl) (by kernel_rfl) (fun _ _ _ h => h) (Or.inl ⟨by rfl, ?_⟩) hHeld ?_
    rotate_left
    · (intro w hSw; (try dsimp only at hSw);  go_simp; try with_reducible rfl)
    try simp only [Act.put, List.setIfInBounds_toArray, List.set_cons_zero, List.set_cons_succ]
    refine wpAnyJ_oneL (k := 3) #[true, true, true, true, false, false, false, false, false, false] (by kernel_rfl) (by kernel_rfl) rfl (fun K hK => ?_)
    (go_simp; refine (next_any g 2 w1.drew HD1.out.t.deck (by decide)).mono ?_; rintro e w3 ⟨y, rfl, r0, r1, r2, hd6, hg6, hs6⟩; go_simp)
    refine hK.out _ _ (fun _ => ?_) (fun hHeld' => ?_)
    · exact (HD1.out.next hd6.out hg6.out).t.nb.cell 1
    replace hHeld := hHeld' rfl
    clear hHeld' hK K
    try dsimp only at hHeld
    have r3 : y < 2 := r2.out (by decide)
    have HX2 := Lib.hid (HD1.out.next hd6.out hg6.out)
    have hz2 := HX2.out.t.size
    clear hd6 hg6 hs6 r1 r2
    have hwr : IntKind.i64.wrap (1 + y) = 1 + y := IntWalk.i64_in _ (by omega)
    refine wpAnyJ_takeL (i := 4) (d := some 76) (v := ?_) #[true, true, true, true, true, false, false, false, false, false] (by kernel_rfl) rfl rfl (by kernel_rfl) (by kernel_rfl) (by kernel_rfl) (by kernel_rfl) (by kernel_rfl) (fun _ _ _ h => h) (Or.inl ⟨by rfl, ?_⟩) hHeld ?_
    rotate_left
    · (intro w hSw; (try dsimp only at hSw);  go_simp; try with_reducible rfl)
    try simp only [Act.put, List.setIfInBounds_toArray, List.set_cons_zero, List.set_cons_succ]
    refine wpAnyJ_takeL (i := 5) (d := some 77) (v := ?_) #[true, true, true, true, true, true, false, false, false, false] (by kernel_rfl) rfl rfl (by kernel_rfl) (by kernel_rfl) (by kernel_rfl) (by kernel_rfl) (by kernel_rfl) (fun _ _ _ h => h) (Or.inl ⟨by rfl, ?_⟩) hHeld ?_
    rotate_left
    · (intro w hSw; (try dsimp only at hSw);  go_simp; try with_reducible rfl)
    try simp only [Act.put, List.setIfInBounds_toArray, List.set_cons_zero, List.set_cons_succ]
    refine wpAnyJ_oneL (k := 6) #[true, true, true, true, true, true, true, false, false, false] (by kernel_rfl) (by kernel_rfl) rfl (fun K hK => ?_)
    go_simp
    refine hK.out _ _ (fun _ => ?_) (fun hHeld' => ?_)
    · exact (HX2.out.alloc _).t.nb.cell 1
    replace hHeld := hHeld' rfl
    clear hHeld' hK K
    try dsimp only at hHeld
    refine wpAnyJ_oneL (k := 7) #[true, true, true, true, true, true, true, true, false, false] (by kernel_rfl) (by kernel_rfl) rfl (fun K hK => ?_)
    (refine step_app_d (d := some 79) (by rfl) (by rfl) (.tmp 73) (.tmp 78) (by rfl) el_dev (by rfl) (HX2.out.t.rd.alloc _) (by rfl) (Sl.newest (n := 1) (by simp) (by rfl) (by decide)) (by simp [Value.oneCell']) (by omega) (by omega) (by simp; omega) ?_; intro A' cap' w8 hown8 hgr8 hat8)
    refine hK.out _ _ (fun _ => ?_) (fun hHeld' => ?_)
    · exact ((HX2.out.t.alloc _).nb_row hgr8).cell 1
    replace hHeld := hHeld' rfl
    clear hHeld' hK K
    try dsimp only at hHeld
    have hnb := (HX2.out.t.alloc _).nb_row hgr8
    have HX8 := Lib.hid ((HX2.out.alloc _).dev (x := dvD (1 + y)) hown8 hgr8 hat8)
    have kn : w8.cell? ⟨w.heap.size + 1, 1, none⟩ = some (.slice Ad 9 9) := hnb.cell 1
    have fn := hnb.frozen 1
    clear hown8 hgr8 hat8 hnb
    refine wpAnyJ_takeL (i := 8) (d := some 80) (v := ?_) #[true, true, true, true, true, true, true, true, true, false] (by kernel_rfl) rfl rfl (by kernel_rfl) (by kernel_rfl) (by kernel_rfl) (by kernel_rfl) (by kernel_rfl) (fun _ _ _ h => h) (Or.inl ⟨by rfl, ?_⟩) hHeld ?_
    rotate_left
    · (intro w hSw; (try dsimp only at hSw);  go_simp; try with_reducible rfl)
    try simp only [Act.put, List.setIfInBounds_toArray, List.set_cons_zero, List.set_cons_succ]
    refine wpAnyJ_oneL (k := 9) #[true, true, true, true, true, true, true, true, true, true] (by kernel_rfl) (by kernel_rfl) rfl (fun K hK => ?_)
    go_simp
    refine hK.out _ _ (fun h => by cases h) (fun _ => ?_)
    try clear hHeld
    clear hK K
    refine wpAnyJ_done (by kernel_rfl) ?_ _
    clear kn fn HX2 HD1 HX1
    generalize World.setCell w8 _ _ = w2 at *
    have hz3 := HX8.out.t.size
    go_wp2_with (at_builtin; go_must (refine wpList_app rfl (.tmp 81) (.tmp 82) rfl el_int (by rfl) (World.ownsRow.alloc HX8.out.o _) (by rfl) (Sl.newest (n := 1) (by rfl) (by rfl) (by decide)) (by simp [Value.oneCell']) (by omega) (by omega) (by simp; omega) ?_; intro A2 cap2 w9 hown9 hgr9 hat9; have HX9 := Lib.hid ((HX8.out.alloc _).row (l := tieS ++ [1]) (by unfold IntsO; rw [intsV_append]; exact hown9) hgr9 hat9); clear hown9 hgr9 hat9; have HTV : Hid (TieV (tieD k c ++ [dvD (1 + y)]) (tieS ++ [1])) := ⟨k, c, HKC.out.1, HKC.out.2, .inr (.inr ⟨1 + y, by omega, rfl, rfl⟩)⟩; have d0 := HX9.out.t.rb.cell 0; have d1 := HX9.out.t.rb.cell 1; have y0 := HX9.out.t.rb.frozen 0; have y1 := HX9.out.t.rb.frozen 1; have k0 := HX9.out.t.nb.cell 0; have k1 := HX9.out.t.nb.cell 1; have HB := Lib.hid ((HX9.out.t.rb.set 0 (.slice An 6 cn)).set 1 (.slice A' 10 cap')); have HF := Lib.hid (HX9.out.fin rfl HTN.out HLN.out HTV.out (.slice An 6 cn) (.slice A' 10 cap'))))
    clear d0 d1 y0 y1 k0 k1
    generalize World.setCell (World.setCell _ _ _) _ _ = wz at *
    have t0 : wz.cell? ⟨w.heap.size, 0, none⟩ = some (.slice An 6 cn) := HB.out.cell 0
    have t1 : wz.cell? ⟨w.heap.size, 1, none⟩ = some (.slice A' 10 cap') := HB.out.cell 1
    exact bodyPost_ret (v := .tuple #[.agg #[.slice An 6 cn, .slice A' 10 cap'], .slice A2 10 cap2]) (by simp [results, Tryd.results18, go_sem, t0, t1]) rfl HF.out
  · go_wp2_with fail
    refine (next_any g 2 w1 HX1.out.t.deck (by decide)).mono ?_
    rintro e w3 ⟨y, rfl, r0, r1, r2, hd6, hg6, hs6⟩
    have r3 : y < 2 := r2.out (by decide)
    have HX2 := Lib.hid (HX1.out.next hd6.out hg6.out)
    clear hd6 hg6 hs6 r1 r2 HX1
    obtain ⟨i, rfl⟩ := Int.eq_ofNat_of_zero_le r0
    obtain ⟨q, x, rfl, c1, f1, hset⟩ := HX2.out.at (i := 1 + i) (by omega)
    have hei : (1 : Int) + (i : Int) = ((1 + i : Nat) : Int) := by omega
    have HX3 := Lib.hid (hset 1)
    have HTV : Hid (TieV (tieD k c) (tieS.set (1 + i) 1)) := ⟨k, c, HKC.out.1, HKC.out.2, .inl ⟨rfl, by rcases (show i = 0 ∨ i = 1 by omega) with rfl | rfl <;> simp [tieS]⟩⟩
    clear hset
    have hi3 : 1 + i < 9 := by omega
    generalize 1 + i = j at *
    go_upto_region 20 with (fail)
    clear c1 f1 r0 r3 hei HX2
    generalize World.setCell w3 _ _ = w4 at *
    generalize (some (⟨q, 0, none⟩ : Addr)) = As at *
    have d0 := HX3.out.t.rb.cell 0
    have d1 := HX3.out.t.rb.cell 1
    have y0 := HX3.out.t.rb.frozen 0
    have y1 := HX3.out.t.rb.frozen 1
    have k0 := HX3.out.t.nb.cell 0
    have k1 := HX3.out.t.nb.cell 1
    have HB := Lib.hid ((HX3.out.t.rb.set 0 (.slice An 6 cn)).set 1 (.slice Ad 9 9))
    have HF := Lib.hid (HX3.out.fin rfl HTN.out HLN.out HTV.out (.slice An 6 cn) (.slice Ad 9 9))
    go_wp2_with fail
    clear d0 d1 y0 y1 k0 k1
    generalize World.setCell (World.setCell _ _ _) _ _ = wz at *
    have t0 : wz.cell? ⟨w.heap.size, 0, none⟩ = some (.slice An 6 cn) := HB.out.cell 0
    have t1 : wz.cell? ⟨w.heap.size, 1, none⟩ = some (.slice Ad 9 9) := HB.out.cell 1
    exact bodyPost_ret (v := .tuple #[.agg #[.slice An 6 cn, .slice Ad 9 9], .slice As 9 9]) (by simp [results, Tryd.results18, go_sem, t0, t1]) rfl HF.out
  · have HTV : Hid (TieV (tieD k c) tieS) := ⟨k, c, HKC.out.1, HKC.out.2, .inl ⟨rfl, .inl rfl⟩⟩
    go_upto_region 20 with (fail)
    have d0 := HX1.out.t.rb.cell 0
    have d1 := HX1.out.t.rb.cell 1
    have y0 := HX1.out.t.rb.frozen 0
    have y1 := HX1.out.t.rb.frozen 1
    have k0 := HX1.out.t.nb.cell 0
    have k1 := HX1.out.t.nb.cell 1
    have HB := Lib.hid ((HX1.out.t.rb.set 0 (.slice An 6 cn)).set 1 (.slice Ad 9 9))
    have HF := Lib.hid (HX1.out.fin rfl HTN.out HLN.out HTV.out (.slice An 6 cn) (.slice Ad 9 9))
    go_wp2_with fail
    clear d0 d1 y0 y1 k0 k1
    generalize World.setCell (World.setCell _ _ _) _ _ = wz at *
    have t0 : wz.cell? ⟨w.heap.size, 0, none⟩ = some (.slice An 6 cn) := HB.out.cell 0
    have t1 : wz.cell? ⟨w.heap.size, 1, none⟩ = some (.slice Ad 9 9) := HB.out.cell 1
    exact bodyPost_ret (v := .tuple #[.agg #[.slice An 6 cn, .slice Ad 9 9], .slice As 9 9]) (by simp [results, Tryd.results18, go_sem, t0, t1]) rfl HF.out
end Go.Proofs.YtlcaebfjdhgcfaaDoor
