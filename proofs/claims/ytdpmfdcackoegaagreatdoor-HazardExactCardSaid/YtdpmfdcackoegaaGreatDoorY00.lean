import Derived.Test.YtdpmfdcackoegaaGreatDoorZ41
import Derived.Test.YtdpmfdcackoegaaGreatDoorZ31
import Derived.Test.YtdpmfdcackoegaaGreatDoorZ38
/-
  Layers 6 and 13: walks of Witness and of the reference's Agrees.
-/
namespace Go.Proofs.YtdpmfdcackoegaaGreatDoor
open Go.RowKit
/-- What Witness returns: the first state with a hazard. -/
def WitPost (w : World) (ns : List Nd) (ds : List Dv) (m : List Int) (d p co : Int) (ls : List Lk) (pr : List Int) (h : Int) (e : Ending) (w' : World) : Prop :=
  (stsErr ns ds m d p co ≠ 0 ∧ e = .returned (.tuple #[.slice none 0 0, .bool false, .int .i64 (stsErr ns ds m d p co)]) ∨
   stsErr ns ds m d p co = 0 ∧ ∃ x : Dv, ds[d.toNat]? = some x ∧
    ((∃ (k : Nat) (s : List Int) (A : Option Addr) (c : Nat), (allOf m)[k]? = some s ∧ h ∈ hzAt ns.length ns ds s d.toNat p co ls pr x ∧ (∀ t ∈ (allOf m).take k, h ∉ hzAt ns.length ns ds t d.toNat p co ls pr x) ∧ e = .returned (.tuple #[.slice A s.length c, .bool true, .int .i64 0]) ∧ Hid (Sl w' w'.heap.size 1 A s.length c (intsV s))) ∨
     (∀ t ∈ allOf m, h ∉ hzAt ns.length ns ds t d.toNat p co ls pr x) ∧ e = .returned (.tuple #[.slice none 0 0, .bool false, .int .i64 0]))) ∧ Hid (Below w.heap.size w w')
def WiR (w1 : World) (N : Nat → Prop) (n gk : Nat) (iv : Value) (wr : World) : Prop := ∃ k : Nat, iv = .int .i64 k ∧ k ≤ n ∧ gk = n - k ∧ Hid (Below w1.heap.size w1 wr) ∧ Hid (N k)
set_option maxRecDepth 100000 in
set_option maxHeartbeats 4000000 in
theorem Witness_any (An Ad As Al Ap : Option Addr) (nn cn nd cd n c nl cl np cp : Nat) (ns : List Nd) (ds : List Dv) (m : List Int) (ls : List Lk) (pr : List Int) (d p co h : Int) (w : World) (hm : HzMem w An Ad As Al Ap nn cn nd cd n c nl cl np cp ns ds m ls pr) :
    Calls Tryz.prog 26 #[.agg #[.slice An nn cn, .slice Ad nd cd], .slice As n c, .agg #[.int .i64 d, .int .i64 p], .agg #[.int .i64 co, .slice Al nl cl, .slice Ap np cp], .int .i64 h] w (WitPost w ns ds m d p co ls pr h) := by
  obtain ⟨hln, hld, hls⟩ := hm.ln
  subst hln
  have HB := Lib.hid (Bx3.new w #[.slice An ns.length cn, .slice Ad nd cd] #[.int .i64 d, .int .i64 p] #[.int .i64 co, .slice Al nl cl, .slice Ap np cp])
  have HH := Lib.hid hm
  clear hm
  go_enter Tryz.func26, Tryz.ntmps26
  go_wp2_with fail
  generalize World.alloc (World.alloc (World.alloc w _) _) _ = W at *
  have HM := Lib.hid (HH.out.below HB.out.bl)
  refine (states_any An Ad As Al Ap ns.length cn nd cd n c nl cl np cp ns ds m ls pr d p co W HM.out).mono ?_
  rintro e w1 ⟨⟨h1, rfl⟩ | ⟨h1, AR, kR, cR, rfl, hR⟩, hb1⟩
  · have H1 := Lib.hid h1
    have HB1 := Lib.hid (HB.out.later hb1.out)
    clear h1 hb1 HB HM
    go_wp2_with fail
    go_loopg [27] 0 (WiR w1 (fun _ => True) 0)
    case atStart => exact ⟨0, rfl, Nat.le_refl _, rfl, Below.refl _ _, trivial⟩
    case round =>
      obtain ⟨k, rfl, hk, rfl, hbl, -⟩ := hrel
      obtain rfl : k = 0 := by omega
      go_wp2_with fail
      go_ret3
      exact ⟨.inl ⟨H1.out, rfl⟩, HB1.out.bl.trans (hbl.out.mono HB1.out.bl.size)⟩
  have HB1 := Lib.hid (HB.out.later hb1.out)
  have HM1 := Lib.hid (HH.out.below HB1.out.bl)
  have H1 := Lib.hid h1
  have HLR := Lib.hid hR.out.len
  have hRl := hR.out.le
  obtain ⟨hmk, hze, hce⟩ := stsErr_ok h1
  obtain ⟨hd, hp, hco⟩ := hzErr_ok hze
  have HMK := Lib.hid hmk; have HZE := Lib.hid hze
  obtain ⟨k, rfl⟩ := Int.eq_ofNat_of_zero_le hd.1
  have hk : k < ds.length := by omega
  obtain ⟨x, hx⟩ : ∃ x, ds[k]? = some x := ⟨_, List.getElem?_eq_getElem hk⟩
  have HX := Lib.hid hx
  clear HB HM hb1 hce hmk hze hx h1
  have hz1 := HB1.out.bl.size
  go_wp2_with fail
  go_loopg [27] kR (WiR w1 (fun i => ∀ t ∈ (allOf m).take i, h ∉ hzAt ns.length ns ds t k p co ls pr x) kR)
  case atStart => exact ⟨0, rfl, Nat.zero_le _, rfl, Below.refl _ _, (fun t ht => by simp at ht)⟩
  case round =>
    obtain ⟨kk, rfl, hkk, rfl, hbl, hno⟩ := hrel
    by_cases hlt : kk < kR
    · obtain ⟨br, ofr, s, As2, cs2, rfl, hbr, hs, hcr, hsr⟩ := (hR.out.below hbl.out (Nat.le_refl _)).at hlt
      have HSE : Hid (stateErr ns ds s = 0) := state_of_mask HMK.out (List.mem_of_getElem? hs)
      have HS := Lib.hid hs
      have HBr := Lib.hid (HB1.out.later hbl.out)
      have HMr := Lib.hid (HM1.out.below hbl.out)
      have HSR := Lib.hid (hsr.more hbl.out.size)
      obtain ⟨⟨k0, k1⟩, ⟨o0, o1⟩, g0, g1, g2⟩ := HBr.out.cells
      clear hs hsr
      go_upto_region 5 with (fail)
      clear hcr
      obtain ⟨x', hx', hinn⟩ := in_ok (s := s) (As := As2) (n := s.length) (c := cs2) ⟨HMr.out.hn, HMr.out.hd, HSR.out, HMr.out.hl, HMr.out.hp, HMr.out.la, HMr.out.sn, HMr.out.sd⟩ HSE.out (show hzErr nd (k : Int) p co = 0 by rw [← hld]; exact HZE.out)
      simp only [Int.toNat_natCast] at hx' hinn
      obtain rfl : x = x' := by have := HX.out; rw [this] at hx'; exact Option.some.inj hx'
      have HIN := Lib.hid hinn
      clear hinn hx'
      go_wp2_with fail
      clear k0 k1 o0 o1 g0 g1 g2
      refine HIN.out.mono ?_
      rintro e w4 ⟨AH, cH, rfl, hOH, hb4⟩
      have HB4 := Lib.hid (hbl.out.trans (hb4.out.mono hbl.out.size))
      have HCO := Lib.hid (contains_any AH _ cH w4.heap.size _ h w4 hOH.out.sl)
      have HS4 := Lib.hid ((HSR.out.below hb4.out (Nat.le_refl _)).more hb4.out.size)
      clear HIN hbl hb4 hOH HBr HMr HSR HSE
      go_wp2_with fail
      rcases hq : hasB (hzAt ns.length ns ds s k p co ls pr x) h with _ | _
      · rw [hq] at HCO
        have HN1 : Hid (∀ t ∈ (allOf m).take (kk + 1), h ∉ hzAt ns.length ns ds t k p co ls pr x) := fun t ht => by
          rw [take_snoc HS.out] at ht
          rcases List.mem_append.1 ht with h1 | h1
          · exact hno.out t h1
          · rw [List.mem_singleton.1 h1]; exact (hasB_not _ _).1 hq
        clear hq
        refine HCO.out.mono ?_
        rintro e w5 ⟨rfl, rfl⟩
        go_wp2_with fail
        go_roundg (kR - (kk + 1))
        case rel => exact ⟨kk + 1, by go_num, by omega, rfl, HB4, HN1⟩
        case measure => omega
      · rw [hq] at HCO
        have HQ := Lib.hid ((hasB_iff _ _).1 hq)
        clear hq
        refine HCO.out.mono ?_
        rintro e w5 ⟨rfl, rfl⟩
        go_wp2_with fail
        go_ret3
        exact ⟨.inr ⟨H1.out, x, by simpa using HX.out, .inl ⟨kk, s, As2, cs2, HS.out, by simpa using HQ.out, by simpa using hno.out, rfl, HS4⟩⟩, HB1.out.bl.trans (HB4.out.mono hz1)⟩
    · obtain rfl : kk = kR := by omega
      have hii : decide (kk < kk) = false := by simp
      have HNA : ∀ t ∈ (allOf m).take kk, h ∉ hzAt ns.length ns ds t k p co ls pr x := hno.out
      rw [List.take_of_length_le (by rw [HLR.out]; exact Nat.le_refl _)] at HNA
      have HNB := Lib.hid HNA
      clear HNA
      go_wp2_with fail
      go_ret3
      exact ⟨.inr ⟨H1.out, x, by simpa using HX.out, .inr ⟨by simpa using HNB.out, rfl⟩⟩, HB1.out.bl.trans (hbl.out.mono hz1)⟩
def AgR (w : World) (n gk : Nat) (iv : Value) (wr : World) : Prop := ∃ i : Nat, iv = .int .i64 i ∧ i ≤ n ∧ gk = n - i ∧ Hid (Below w.heap.size w wr)
set_option maxRecDepth 100000 in
set_option maxHeartbeats 4000000 in
/-- Agrees, at a state that agrees. -/
theorem agrees_true (A A2 : Option Addr) (n c c2 B B2 : Nat) (s m : List Int) (w : World) (hs : Sl w B 1 A n c (intsV s)) (hB : B ≤ w.heap.size) (hm : Sl w B2 1 A2 n c2 (intsV m)) (hB2 : B2 ≤ w.heap.size) (hk : m.all maskB = true) (ha : s ∈ allOf m) :
    Calls Tryz.prog 27 #[.slice A n c, .slice A2 n c2] w fun e w' => e = .returned (.bool true) ∧ Below w.heap.size w w' := by
  have HS := Lib.hid hs; have HM := Lib.hid hm
  have hsl := hs.le; have hml := hm.le
  have HLM : Hid (m.length = n) := hm.len (fun _ => rfl) (by decide)
  have HA := Lib.hid ((mem_allN m m.length s).1 ha)
  have HK := Lib.hid hk
  have HC := Lib.hid (masked_any A2 n c2 B2 m w hm hB2)
  rw [hk] at HC
  clear hs hm hk ha
  go_enter Tryz.func27, Tryz.ntmps27
  go_wp2_with fail
  refine HC.out.mono ?_
  rintro e w1 ⟨rfl, hb1⟩
  have HB1 := Lib.hid hb1
  clear hb1 HC
  go_wp2_with fail
  go_loopg [5] n (AgR w n)
  case atStart => exact ⟨0, rfl, Nat.zero_le _, rfl, HB1⟩
  case round =>
    clear HB1
    obtain ⟨i, rfl, hi, rfl, hbl⟩ := hrel
    by_cases hlt : i < n
    · obtain ⟨b, off, sv, rfl, hb, hsv, hcs⟩ := (HS.out.below hbl.out hB).at1 hlt
      obtain ⟨b2, of2, mv, rfl, hb2, hmv, hcm⟩ := (HM.out.below hbl.out hB2).at1 hlt
      have hsm : (sv = 1 ∧ mv = 1) ∨ (sv = 1 ∧ mv = 3) ∨ (sv = 2 ∧ mv = 2) ∨ (sv = 2 ∧ mv = 3) := by
        obtain ⟨h1, h2⟩ := HA.out.2 i (by rw [HLM.out]; exact hlt)
        have h3 := List.all_eq_true.1 HK.out mv (List.mem_of_getElem? hmv)
        simp [maskB] at h3
        by_cases h4 : mv = 3
        · rcases h1 (by rw [hmv, h4]) with h5 | h5 <;> rw [hsv] at h5 <;> injection h5 with h5 <;> omega
        · have h5 := h2 (fun e => h4 (by rw [hmv] at e; exact Option.some.inj e))
          rw [hsv] at h5
          injection h5 with h5
          rw [getD_of hmv] at h5
          omega
      have HCC : Hid (wr.cell? ⟨b, off + i, none⟩ = some (.int .i64 sv) ∧ wr.cell? ⟨b2, of2 + i, none⟩ = some (.int .i64 mv)) := ⟨hcs, hcm⟩
      clear hcs hcm hsv hmv
      go_upto_region 6 with (fail)
      rcases hsm with ⟨rfl, rfl⟩ | ⟨rfl, rfl⟩ | ⟨rfl, rfl⟩ | ⟨rfl, rfl⟩
      · have q : (bits .and .i64 1 1 == 0) = false := by kernel_rfl
        refine wp_region_ord (S := fun W' => W'.cell? ⟨b, off + i, none⟩ = some (.int .i64 1) ∧ W'.cell? ⟨b2, of2 + i, none⟩ = some (.int .i64 1)) (J := []) (n := _) ((0, true) :: (1, true) :: (2, true) :: (3, true) :: (4, true) :: (5, true) :: (6, true) :: (7, true) :: (8, true) :: (9, true) :: (10, true) :: (11, true) :: (12, true) :: (13, true) :: (14, true) :: (15, true) :: (16, true) :: (17, true) :: (18, true) :: (19, true) :: (20, true) :: (21, true) :: (22, true) :: (23, true) :: []) (by as_aux_lemma => kernel_rfl) (by rfl) (base_cons (k := 0) (by go_simp; rfl) (base_cons (k := 5) (by go_simp; rfl) (base_cons (k := 1) (by go_simp; rfl) base_nil))) ?_ (fun _ _ _ _ _ h => h) (fun Q2 A hsz hbase hn2 hHeld => ?_)
        · exact HCC.out
        try dsimp only at hHeld
        obtain ⟨b0, b5, b1, -⟩ := hbase
        refine ord_move (i := 0) (d := 22) (v := ?_) rfl rfl rfl (wanted_none rfl) hHeld (fun ρ hρ => ?_) ?_
        rotate_left
        · (have e0 := Eq.trans (hρ.tmp hsz 0 rfl) (lkp_base b0); exact e0)
        show wpOrd _ _ _ _ _ _ _ _
        refine ord_move (i := 1) (d := 23) (v := ?_) rfl rfl rfl (wanted_none rfl) hHeld (fun ρ hρ => ?_) ?_
        rotate_left
        · (have e5 := Eq.trans (hρ.tmp hsz 5 rfl) (miss1 rfl (lkp_base b5)); exact e5)
        show wpOrd _ _ _ _ _ _ _ _
        refine ord_take (i := 2) (d := 24) (v := ?_) rfl rfl (wanted_none rfl) hHeld (fun ρ hρ w hSw => ?_) ?_
        rotate_left
        · (have e22 := Eq.trans (hρ.tmp hsz 22 rfl) (miss1 rfl lkp_hit); have e23 := Eq.trans (hρ.tmp hsz 23 rfl) lkp_hit; clear hρ; (try dsimp only at hSw); go_simp; try with_reducible rfl)
        show wpOrd _ _ _ _ _ _ _ _
        refine ord_take (i := 3) (d := 25) (v := ?_) rfl rfl (wanted_none rfl) hHeld (fun ρ hρ w hSw => ?_) ?_
        rotate_left
        · (have e24 := Eq.trans (hρ.tmp hsz 24 rfl) lkp_hit; clear hρ; (try dsimp only at hSw); go_simp; try with_reducible rfl)
        show wpOrd _ _ _ _ _ _ _ _
        refine ord_take (i := 4) (d := 26) (v := ?_) rfl rfl (wanted_none rfl) hHeld (fun ρ hρ w hSw => ?_) ?_
        rotate_left
        · (have hc := hρ.const; have e25 := Eq.trans (hρ.tmp hsz 25 rfl) lkp_hit; clear hρ; (try dsimp only at hSw); go_simp; try with_reducible rfl)
        show wpOrd _ _ _ _ _ _ _ _
        refine ord_move (i := 5) (d := 27) (v := ?_) rfl rfl rfl (wanted_none rfl) hHeld (fun ρ hρ => ?_) ?_
        rotate_left
        · (have e26 := Eq.trans (hρ.tmp hsz 26 rfl) lkp_hit; exact e26)
        show wpOrd _ _ _ _ _ _ _ _
        refine ord_skip (i := 6) (d := 28) rfl rfl (wanted_no (j := 5) (dj := 27) (b := true) (b' := false) rfl hsz rfl rfl rfl lkp_hit rfl) hHeld ?_
        show wpOrd _ _ _ _ _ _ _ _
        refine ord_skip (i := 7) (d := 29) rfl rfl (wanted_no (j := 5) (dj := 27) (b := true) (b' := false) rfl hsz rfl rfl rfl (miss1 rfl lkp_hit) rfl) hHeld ?_
        show wpOrd _ _ _ _ _ _ _ _
        refine ord_skip (i := 8) (d := 30) rfl rfl (wanted_no (j := 5) (dj := 27) (b := true) (b' := false) rfl hsz rfl rfl rfl (miss1 rfl (miss1 rfl lkp_hit)) rfl) hHeld ?_
        show wpOrd _ _ _ _ _ _ _ _
        refine ord_skip (i := 9) (d := 31) rfl rfl (wanted_no (j := 5) (dj := 27) (b := true) (b' := false) rfl hsz rfl rfl rfl (miss1 rfl (miss1 rfl (miss1 rfl lkp_hit))) rfl) hHeld ?_
        show wpOrd _ _ _ _ _ _ _ _
        refine ord_skip (i := 10) (d := 32) rfl rfl (wanted_no (j := 5) (dj := 27) (b := true) (b' := false) rfl hsz rfl rfl rfl (miss4 rfl rfl rfl rfl lkp_hit) rfl) hHeld ?_
        show wpOrd _ _ _ _ _ _ _ _
        refine ord_take (i := 11) (d := 33) (v := ?_) rfl rfl (wanted_none rfl) hHeld (fun ρ hρ w hSw => ?_) ?_
        rotate_left
        · (have hc := hρ.const; have e27 := Eq.trans (hρ.tmp hsz 27 rfl) (miss4 rfl rfl rfl rfl (miss1 rfl lkp_hit)); have e32 := Eq.trans (hρ.tmp hsz 32 rfl) lkp_hit; clear hρ; (try dsimp only at hSw); go_simp; try with_reducible rfl)
        show wpOrd _ _ _ _ _ _ _ _
        refine ord_move (i := 12) (d := 34) (v := ?_) rfl rfl rfl (wanted_none rfl) hHeld (fun ρ hρ => ?_) ?_
        rotate_left
        · (have e33 := Eq.trans (hρ.tmp hsz 33 rfl) lkp_hit; exact e33)
        show wpOrd _ _ _ _ _ _ _ _
        refine ord_move (i := 13) (d := 35) (v := ?_) rfl rfl rfl (wanted_yes (j := 12) (dj := 34) (b := false) rfl hsz rfl rfl rfl lkp_hit) hHeld (fun ρ hρ => ?_) ?_
        rotate_left
        · (have e1 := Eq.trans (hρ.tmp hsz 1 rfl) (miss4 rfl rfl rfl rfl (miss4 rfl rfl rfl rfl (miss4 rfl rfl rfl rfl (miss1 rfl (lkp_base b1))))); exact e1)
        show wpOrd _ _ _ _ _ _ _ _
        refine ord_move (i := 14) (d := 36) (v := ?_) rfl rfl rfl (wanted_yes (j := 12) (dj := 34) (b := false) rfl hsz rfl rfl rfl (miss1 rfl lkp_hit)) hHeld (fun ρ hρ => ?_) ?_
        rotate_left
        · (have e5 := Eq.trans (hρ.tmp hsz 5 rfl) (miss4 rfl rfl rfl rfl (miss4 rfl rfl rfl rfl (miss4 rfl rfl rfl rfl (miss1 rfl (miss1 rfl (lkp_base b5)))))); exact e5)
        show wpOrd _ _ _ _ _ _ _ _
        refine ord_take (i := 15) (d := 37) (v := ?_) rfl rfl (wanted_yes (j := 12) (dj := 34) (b := false) rfl hsz rfl rfl rfl (miss1 rfl (miss1 rfl lkp_hit))) hHeld (fun ρ hρ w hSw => ?_) ?_
        rotate_left
        · (have e35 := Eq.trans (hρ.tmp hsz 35 rfl) (miss1 rfl lkp_hit); have e36 := Eq.trans (hρ.tmp hsz 36 rfl) lkp_hit; clear hρ; (try dsimp only at hSw); go_simp; try with_reducible rfl)
        show wpOrd _ _ _ _ _ _ _ _
        refine ord_take (i := 16) (d := 38) (v := ?_) rfl rfl (wanted_yes (j := 12) (dj := 34) (b := false) rfl hsz rfl rfl rfl (miss1 rfl (miss1 rfl (miss1 rfl lkp_hit)))) hHeld (fun ρ hρ w hSw => ?_) ?_
        rotate_left
        · (have e37 := Eq.trans (hρ.tmp hsz 37 rfl) lkp_hit; clear hρ; (try dsimp only at hSw); go_simp; try with_reducible rfl)
        show wpOrd _ _ _ _ _ _ _ _
        refine ord_move (i := 17) (d := 39) (v := ?_) rfl rfl rfl (wanted_yes (j := 12) (dj := 34) (b := false) rfl hsz rfl rfl rfl (miss4 rfl rfl rfl rfl lkp_hit)) hHeld (fun ρ hρ => ?_) ?_
        rotate_left
        · (have e0 := Eq.trans (hρ.tmp hsz 0 rfl) (miss4 rfl rfl rfl rfl (miss4 rfl rfl rfl rfl (miss4 rfl rfl rfl rfl (miss4 rfl rfl rfl rfl (miss1 rfl (lkp_base b0)))))); exact e0)
        show wpOrd _ _ _ _ _ _ _ _
        refine ord_move (i := 18) (d := 40) (v := ?_) rfl rfl rfl (wanted_yes (j := 12) (dj := 34) (b := false) rfl hsz rfl rfl rfl (miss4 rfl rfl rfl rfl (miss1 rfl lkp_hit))) hHeld (fun ρ hρ => ?_) ?_
        rotate_left
        · (have e5 := Eq.trans (hρ.tmp hsz 5 rfl) (miss4 rfl rfl rfl rfl (miss4 rfl rfl rfl rfl (miss4 rfl rfl rfl rfl (miss4 rfl rfl rfl rfl (miss1 rfl (miss1 rfl (lkp_base b5))))))); exact e5)
        show wpOrd _ _ _ _ _ _ _ _
        refine ord_take (i := 19) (d := 41) (v := ?_) rfl rfl (wanted_yes (j := 12) (dj := 34) (b := false) rfl hsz rfl rfl rfl (miss4 rfl rfl rfl rfl (miss1 rfl (miss1 rfl lkp_hit)))) hHeld (fun ρ hρ w hSw => ?_) ?_
        rotate_left
        · (have e39 := Eq.trans (hρ.tmp hsz 39 rfl) (miss1 rfl lkp_hit); have e40 := Eq.trans (hρ.tmp hsz 40 rfl) lkp_hit; clear hρ; (try dsimp only at hSw); go_simp; try with_reducible rfl)
        show wpOrd _ _ _ _ _ _ _ _
        refine ord_take (i := 20) (d := 42) (v := ?_) rfl rfl (wanted_yes (j := 12) (dj := 34) (b := false) rfl hsz rfl rfl rfl (miss4 rfl rfl rfl rfl (miss1 rfl (miss1 rfl (miss1 rfl lkp_hit))))) hHeld (fun ρ hρ w hSw => ?_) ?_
        rotate_left
        · (have e41 := Eq.trans (hρ.tmp hsz 41 rfl) lkp_hit; clear hρ; (try dsimp only at hSw); go_simp; try with_reducible rfl)
        show wpOrd _ _ _ _ _ _ _ _
        refine ord_take (i := 21) (d := 43) (v := ?_) rfl rfl (wanted_yes (j := 12) (dj := 34) (b := false) rfl hsz rfl rfl rfl (miss4 rfl rfl rfl rfl (miss4 rfl rfl rfl rfl lkp_hit))) hHeld (fun ρ hρ w hSw => ?_) ?_
        rotate_left
        · (have e38 := Eq.trans (hρ.tmp hsz 38 rfl) (miss4 rfl rfl rfl rfl lkp_hit); have e42 := Eq.trans (hρ.tmp hsz 42 rfl) lkp_hit; clear hρ; (try dsimp only at hSw); go_simp; try with_reducible rfl)
        show wpOrd _ _ _ _ _ _ _ _
        refine ord_take (i := 22) (d := 44) (v := ?_) rfl rfl (wanted_yes (j := 12) (dj := 34) (b := false) rfl hsz rfl rfl rfl (miss4 rfl rfl rfl rfl (miss4 rfl rfl rfl rfl (miss1 rfl lkp_hit)))) hHeld (fun ρ hρ w hSw => ?_) ?_
        rotate_left
        · (have hc := hρ.const; have e43 := Eq.trans (hρ.tmp hsz 43 rfl) lkp_hit; clear hρ; (try dsimp only at hSw); go_simp; try with_reducible rfl)
        show wpOrd _ _ _ _ _ _ _ _
        refine ord_take (i := 23) (d := 45) (v := ?_) rfl rfl (wanted_none rfl) hHeld (fun ρ hρ w hSw => ?_) ?_
        rotate_left
        · (have hc := hρ.const; have e34 := Eq.trans (hρ.tmp hsz 34 rfl) (miss4 rfl rfl rfl rfl (miss4 rfl rfl rfl rfl (miss1 rfl (miss1 rfl lkp_hit)))); have e44 := Eq.trans (hρ.tmp hsz 44 rfl) lkp_hit; clear hρ; (try dsimp only at hSw); go_simp; try with_reducible rfl)
        show wpOrd _ _ _ _ _ _ _ _
        refine ord_done hn2 ?_
        clear hHeld hn2 b0 b5 b1 hsz A Q2
        simp only [puts_nil, puts_cons, put_lit, set_1, set_0]
        go_wp2_with fail
        go_roundg (n - (i + 1))
        case rel => exact ⟨i + 1, by go_num, by omega, rfl, hbl.out.drew⟩
        case measure => omega
      · have q : (bits .and .i64 3 1 == 0) = false := by kernel_rfl
        refine wp_region_ord (S := fun W' => W'.cell? ⟨b, off + i, none⟩ = some (.int .i64 1) ∧ W'.cell? ⟨b2, of2 + i, none⟩ = some (.int .i64 3)) (J := []) (n := _) ((0, true) :: (1, true) :: (2, true) :: (3, true) :: (4, true) :: (5, true) :: (6, true) :: (7, true) :: (8, true) :: (9, true) :: (10, true) :: (11, true) :: (12, true) :: (13, true) :: (14, true) :: (15, true) :: (16, true) :: (17, true) :: (18, true) :: (19, true) :: (20, true) :: (21, true) :: (22, true) :: (23, true) :: []) (by as_aux_lemma => kernel_rfl) (by rfl) (base_cons (k := 0) (by go_simp; rfl) (base_cons (k := 5) (by go_simp; rfl) (base_cons (k := 1) (by go_simp; rfl) base_nil))) ?_ (fun _ _ _ _ _ h => h) (fun Q2 A hsz hbase hn2 hHeld => ?_)
        · exact HCC.out
        try dsimp only at hHeld
        obtain ⟨b0, b5, b1, -⟩ := hbase
        refine ord_move (i := 0) (d := 22) (v := ?_) rfl rfl rfl (wanted_none rfl) hHeld (fun ρ hρ => ?_) ?_
        rotate_left
        · (have e0 := Eq.trans (hρ.tmp hsz 0 rfl) (lkp_base b0); exact e0)
        show wpOrd _ _ _ _ _ _ _ _
        refine ord_move (i := 1) (d := 23) (v := ?_) rfl rfl rfl (wanted_none rfl) hHeld (fun ρ hρ => ?_) ?_
        rotate_left
        · (have e5 := Eq.trans (hρ.tmp hsz 5 rfl) (miss1 rfl (lkp_base b5)); exact e5)
        show wpOrd _ _ _ _ _ _ _ _
        refine ord_take (i := 2) (d := 24) (v := ?_) rfl rfl (wanted_none rfl) hHeld (fun ρ hρ w hSw => ?_) ?_
        rotate_left
        · (have e22 := Eq.trans (hρ.tmp hsz 22 rfl) (miss1 rfl lkp_hit); have e23 := Eq.trans (hρ.tmp hsz 23 rfl) lkp_hit; clear hρ; (try dsimp only at hSw); go_simp; try with_reducible rfl)
        show wpOrd _ _ _ _ _ _ _ _
        refine ord_take (i := 3) (d := 25) (v := ?_) rfl rfl (wanted_none rfl) hHeld (fun ρ hρ w hSw => ?_) ?_
        rotate_left
        · (have e24 := Eq.trans (hρ.tmp hsz 24 rfl) lkp_hit; clear hρ; (try dsimp only at hSw); go_simp; try with_reducible rfl)
        show wpOrd _ _ _ _ _ _ _ _
        refine ord_take (i := 4) (d := 26) (v := ?_) rfl rfl (wanted_none rfl) hHeld (fun ρ hρ w hSw => ?_) ?_
        rotate_left
        · (have hc := hρ.const; have e25 := Eq.trans (hρ.tmp hsz 25 rfl) lkp_hit; clear hρ; (try dsimp only at hSw); go_simp; try with_reducible rfl)
        show wpOrd _ _ _ _ _ _ _ _
        refine ord_move (i := 5) (d := 27) (v := ?_) rfl rfl rfl (wanted_none rfl) hHeld (fun ρ hρ => ?_) ?_
        rotate_left
        · (have e26 := Eq.trans (hρ.tmp hsz 26 rfl) lkp_hit; exact e26)
        show wpOrd _ _ _ _ _ _ _ _
        refine ord_skip (i := 6) (d := 28) rfl rfl (wanted_no (j := 5) (dj := 27) (b := true) (b' := false) rfl hsz rfl rfl rfl lkp_hit rfl) hHeld ?_
        show wpOrd _ _ _ _ _ _ _ _
        refine ord_skip (i := 7) (d := 29) rfl rfl (wanted_no (j := 5) (dj := 27) (b := true) (b' := false) rfl hsz rfl rfl rfl (miss1 rfl lkp_hit) rfl) hHeld ?_
        show wpOrd _ _ _ _ _ _ _ _
        refine ord_skip (i := 8) (d := 30) rfl rfl (wanted_no (j := 5) (dj := 27) (b := true) (b' := false) rfl hsz rfl rfl rfl (miss1 rfl (miss1 rfl lkp_hit)) rfl) hHeld ?_
        show wpOrd _ _ _ _ _ _ _ _
        refine ord_skip (i := 9) (d := 31) rfl rfl (wanted_no (j := 5) (dj := 27) (b := true) (b' := false) rfl hsz rfl rfl rfl (miss1 rfl (miss1 rfl (miss1 rfl lkp_hit))) rfl) hHeld ?_
        show wpOrd _ _ _ _ _ _ _ _
        refine ord_skip (i := 10) (d := 32) rfl rfl (wanted_no (j := 5) (dj := 27) (b := true) (b' := false) rfl hsz rfl rfl rfl (miss4 rfl rfl rfl rfl lkp_hit) rfl) hHeld ?_
        show wpOrd _ _ _ _ _ _ _ _
        refine ord_take (i := 11) (d := 33) (v := ?_) rfl rfl (wanted_none rfl) hHeld (fun ρ hρ w hSw => ?_) ?_
        rotate_left
        · (have hc := hρ.const; have e27 := Eq.trans (hρ.tmp hsz 27 rfl) (miss4 rfl rfl rfl rfl (miss1 rfl lkp_hit)); have e32 := Eq.trans (hρ.tmp hsz 32 rfl) lkp_hit; clear hρ; (try dsimp only at hSw); go_simp; try with_reducible rfl)
        show wpOrd _ _ _ _ _ _ _ _
        refine ord_move (i := 12) (d := 34) (v := ?_) rfl rfl rfl (wanted_none rfl) hHeld (fun ρ hρ => ?_) ?_
        rotate_left
        · (have e33 := Eq.trans (hρ.tmp hsz 33 rfl) lkp_hit; exact e33)
        show wpOrd _ _ _ _ _ _ _ _
        refine ord_move (i := 13) (d := 35) (v := ?_) rfl rfl rfl (wanted_yes (j := 12) (dj := 34) (b := false) rfl hsz rfl rfl rfl lkp_hit) hHeld (fun ρ hρ => ?_) ?_
        rotate_left
        · (have e1 := Eq.trans (hρ.tmp hsz 1 rfl) (miss4 rfl rfl rfl rfl (miss4 rfl rfl rfl rfl (miss4 rfl rfl rfl rfl (miss1 rfl (lkp_base b1))))); exact e1)
        show wpOrd _ _ _ _ _ _ _ _
        refine ord_move (i := 14) (d := 36) (v := ?_) rfl rfl rfl (wanted_yes (j := 12) (dj := 34) (b := false) rfl hsz rfl rfl rfl (miss1 rfl lkp_hit)) hHeld (fun ρ hρ => ?_) ?_
        rotate_left
        · (have e5 := Eq.trans (hρ.tmp hsz 5 rfl) (miss4 rfl rfl rfl rfl (miss4 rfl rfl rfl rfl (miss4 rfl rfl rfl rfl (miss1 rfl (miss1 rfl (lkp_base b5)))))); exact e5)
        show wpOrd _ _ _ _ _ _ _ _
        refine ord_take (i := 15) (d := 37) (v := ?_) rfl rfl (wanted_yes (j := 12) (dj := 34) (b := false) rfl hsz rfl rfl rfl (miss1 rfl (miss1 rfl lkp_hit))) hHeld (fun ρ hρ w hSw => ?_) ?_
        rotate_left
        · (have e35 := Eq.trans (hρ.tmp hsz 35 rfl) (miss1 rfl lkp_hit); have e36 := Eq.trans (hρ.tmp hsz 36 rfl) lkp_hit; clear hρ; (try dsimp only at hSw); go_simp; try with_reducible rfl)
        show wpOrd _ _ _ _ _ _ _ _
        refine ord_take (i := 16) (d := 38) (v := ?_) rfl rfl (wanted_yes (j := 12) (dj := 34) (b := false) rfl hsz rfl rfl rfl (miss1 rfl (miss1 rfl (miss1 rfl lkp_hit)))) hHeld (fun ρ hρ w hSw => ?_) ?_
        rotate_left
        · (have e37 := Eq.trans (hρ.tmp hsz 37 rfl) lkp_hit; clear hρ; (try dsimp only at hSw); go_simp; try with_reducible rfl)
        show wpOrd _ _ _ _ _ _ _ _
        refine ord_move (i := 17) (d := 39) (v := ?_) rfl rfl rfl (wanted_yes (j := 12) (dj := 34) (b := false) rfl hsz rfl rfl rfl (miss4 rfl rfl rfl rfl lkp_hit)) hHeld (fun ρ hρ => ?_) ?_
        rotate_left
        · (have e0 := Eq.trans (hρ.tmp hsz 0 rfl) (miss4 rfl rfl rfl rfl (miss4 rfl rfl rfl rfl (miss4 rfl rfl rfl rfl (miss4 rfl rfl rfl rfl (miss1 rfl (lkp_base b0)))))); exact e0)
        show wpOrd _ _ _ _ _ _ _ _
        refine ord_move (i := 18) (d := 40) (v := ?_) rfl rfl rfl (wanted_yes (j := 12) (dj := 34) (b := false) rfl hsz rfl rfl rfl (miss4 rfl rfl rfl rfl (miss1 rfl lkp_hit))) hHeld (fun ρ hρ => ?_) ?_
        rotate_left
        · (have e5 := Eq.trans (hρ.tmp hsz 5 rfl) (miss4 rfl rfl rfl rfl (miss4 rfl rfl rfl rfl (miss4 rfl rfl rfl rfl (miss4 rfl rfl rfl rfl (miss1 rfl (miss1 rfl (lkp_base b5))))))); exact e5)
        show wpOrd _ _ _ _ _ _ _ _
        refine ord_take (i := 19) (d := 41) (v := ?_) rfl rfl (wanted_yes (j := 12) (dj := 34) (b := false) rfl hsz rfl rfl rfl (miss4 rfl rfl rfl rfl (miss1 rfl (miss1 rfl lkp_hit)))) hHeld (fun ρ hρ w hSw => ?_) ?_
        rotate_left
        · (have e39 := Eq.trans (hρ.tmp hsz 39 rfl) (miss1 rfl lkp_hit); have e40 := Eq.trans (hρ.tmp hsz 40 rfl) lkp_hit; clear hρ; (try dsimp only at hSw); go_simp; try with_reducible rfl)
        show wpOrd _ _ _ _ _ _ _ _
        refine ord_take (i := 20) (d := 42) (v := ?_) rfl rfl (wanted_yes (j := 12) (dj := 34) (b := false) rfl hsz rfl rfl rfl (miss4 rfl rfl rfl rfl (miss1 rfl (miss1 rfl (miss1 rfl lkp_hit))))) hHeld (fun ρ hρ w hSw => ?_) ?_
        rotate_left
        · (have e41 := Eq.trans (hρ.tmp hsz 41 rfl) lkp_hit; clear hρ; (try dsimp only at hSw); go_simp; try with_reducible rfl)
        show wpOrd _ _ _ _ _ _ _ _
        refine ord_take (i := 21) (d := 43) (v := ?_) rfl rfl (wanted_yes (j := 12) (dj := 34) (b := false) rfl hsz rfl rfl rfl (miss4 rfl rfl rfl rfl (miss4 rfl rfl rfl rfl lkp_hit))) hHeld (fun ρ hρ w hSw => ?_) ?_
        rotate_left
        · (have e38 := Eq.trans (hρ.tmp hsz 38 rfl) (miss4 rfl rfl rfl rfl lkp_hit); have e42 := Eq.trans (hρ.tmp hsz 42 rfl) lkp_hit; clear hρ; (try dsimp only at hSw); go_simp; try with_reducible rfl)
        show wpOrd _ _ _ _ _ _ _ _
        refine ord_take (i := 22) (d := 44) (v := ?_) rfl rfl (wanted_yes (j := 12) (dj := 34) (b := false) rfl hsz rfl rfl rfl (miss4 rfl rfl rfl rfl (miss4 rfl rfl rfl rfl (miss1 rfl lkp_hit)))) hHeld (fun ρ hρ w hSw => ?_) ?_
        rotate_left
        · (have hc := hρ.const; have e43 := Eq.trans (hρ.tmp hsz 43 rfl) lkp_hit; clear hρ; (try dsimp only at hSw); go_simp; try with_reducible rfl)
        show wpOrd _ _ _ _ _ _ _ _
        refine ord_take (i := 23) (d := 45) (v := ?_) rfl rfl (wanted_none rfl) hHeld (fun ρ hρ w hSw => ?_) ?_
        rotate_left
        · (have hc := hρ.const; have e34 := Eq.trans (hρ.tmp hsz 34 rfl) (miss4 rfl rfl rfl rfl (miss4 rfl rfl rfl rfl (miss1 rfl (miss1 rfl lkp_hit)))); have e44 := Eq.trans (hρ.tmp hsz 44 rfl) lkp_hit; clear hρ; (try dsimp only at hSw); go_simp; try with_reducible rfl)
        show wpOrd _ _ _ _ _ _ _ _
        refine ord_done hn2 ?_
        clear hHeld hn2 b0 b5 b1 hsz A Q2
        simp only [puts_nil, puts_cons, put_lit, set_1, set_0]
        go_wp2_with fail
        go_roundg (n - (i + 1))
        case rel => exact ⟨i + 1, by go_num, by omega, rfl, hbl.out.drew⟩
        case measure => omega
      · have q : (bits .and .i64 2 2 == 0) = false := by kernel_rfl
        refine wp_region_ord (S := fun W' => W'.cell? ⟨b, off + i, none⟩ = some (.int .i64 2) ∧ W'.cell? ⟨b2, of2 + i, none⟩ = some (.int .i64 2)) (J := []) (n := _) ((0, true) :: (1, true) :: (2, true) :: (3, true) :: (4, true) :: (5, true) :: (6, true) :: (7, true) :: (8, true) :: (9, true) :: (10, true) :: (11, true) :: (12, true) :: (13, true) :: (14, true) :: (15, true) :: (16, true) :: (17, true) :: (18, true) :: (19, true) :: (20, true) :: (21, true) :: (22, true) :: (23, true) :: []) (by as_aux_lemma => kernel_rfl) (by rfl) (base_cons (k := 0) (by go_simp; rfl) (base_cons (k := 5) (by go_simp; rfl) (base_cons (k := 1) (by go_simp; rfl) base_nil))) ?_ (fun _ _ _ _ _ h => h) (fun Q2 A hsz hbase hn2 hHeld => ?_)
        · exact HCC.out
        try dsimp only at hHeld
        obtain ⟨b0, b5, b1, -⟩ := hbase
        refine ord_move (i := 0) (d := 22) (v := ?_) rfl rfl rfl (wanted_none rfl) hHeld (fun ρ hρ => ?_) ?_
        rotate_left
        · (have e0 := Eq.trans (hρ.tmp hsz 0 rfl) (lkp_base b0); exact e0)
        show wpOrd _ _ _ _ _ _ _ _
        refine ord_move (i := 1) (d := 23) (v := ?_) rfl rfl rfl (wanted_none rfl) hHeld (fun ρ hρ => ?_) ?_
        rotate_left
        · (have e5 := Eq.trans (hρ.tmp hsz 5 rfl) (miss1 rfl (lkp_base b5)); exact e5)
        show wpOrd _ _ _ _ _ _ _ _
        refine ord_take (i := 2) (d := 24) (v := ?_) rfl rfl (wanted_none rfl) hHeld (fun ρ hρ w hSw => ?_) ?_
        rotate_left
        · (have e22 := Eq.trans (hρ.tmp hsz 22 rfl) (miss1 rfl lkp_hit); have e23 := Eq.trans (hρ.tmp hsz 23 rfl) lkp_hit; clear hρ; (try dsimp only at hSw); go_simp; try with_reducible rfl)
        show wpOrd _ _ _ _ _ _ _ _
        refine ord_take (i := 3) (d := 25) (v := ?_) rfl rfl (wanted_none rfl) hHeld (fun ρ hρ w hSw => ?_) ?_
        rotate_left
        · (have e24 := Eq.trans (hρ.tmp hsz 24 rfl) lkp_hit; clear hρ; (try dsimp only at hSw); go_simp; try with_reducible rfl)
        show wpOrd _ _ _ _ _ _ _ _
        refine ord_take (i := 4) (d := 26) (v := ?_) rfl rfl (wanted_none rfl) hHeld (fun ρ hρ w hSw => ?_) ?_
        rotate_left
        · (have hc := hρ.const; have e25 := Eq.trans (hρ.tmp hsz 25 rfl) lkp_hit; clear hρ; (try dsimp only at hSw); go_simp; try with_reducible rfl)
        show wpOrd _ _ _ _ _ _ _ _
        refine ord_move (i := 5) (d := 27) (v := ?_) rfl rfl rfl (wanted_none rfl) hHeld (fun ρ hρ => ?_) ?_
        rotate_left
        · (have e26 := Eq.trans (hρ.tmp hsz 26 rfl) lkp_hit; exact e26)
        show wpOrd _ _ _ _ _ _ _ _
        refine ord_move (i := 6) (d := 28) (v := ?_) rfl rfl rfl (wanted_yes (j := 5) (dj := 27) (b := true) rfl hsz rfl rfl rfl lkp_hit) hHeld (fun ρ hρ => ?_) ?_
        rotate_left
        · (have e0 := Eq.trans (hρ.tmp hsz 0 rfl) (miss4 rfl rfl rfl rfl (miss1 rfl (miss1 rfl (lkp_base b0)))); exact e0)
        show wpOrd _ _ _ _ _ _ _ _
        refine ord_move (i := 7) (d := 29) (v := ?_) rfl rfl rfl (wanted_yes (j := 5) (dj := 27) (b := true) rfl hsz rfl rfl rfl (miss1 rfl lkp_hit)) hHeld (fun ρ hρ => ?_) ?_
        rotate_left
        · (have e5 := Eq.trans (hρ.tmp hsz 5 rfl) (miss4 rfl rfl rfl rfl (miss1 rfl (miss1 rfl (miss1 rfl (lkp_base b5))))); exact e5)
        show wpOrd _ _ _ _ _ _ _ _
        refine ord_take (i := 8) (d := 30) (v := ?_) rfl rfl (wanted_yes (j := 5) (dj := 27) (b := true) rfl hsz rfl rfl rfl (miss1 rfl (miss1 rfl lkp_hit))) hHeld (fun ρ hρ w hSw => ?_) ?_
        rotate_left
        · (have e28 := Eq.trans (hρ.tmp hsz 28 rfl) (miss1 rfl lkp_hit); have e29 := Eq.trans (hρ.tmp hsz 29 rfl) lkp_hit; clear hρ; (try dsimp only at hSw); go_simp; try with_reducible rfl)
        show wpOrd _ _ _ _ _ _ _ _
        refine ord_take (i := 9) (d := 31) (v := ?_) rfl rfl (wanted_yes (j := 5) (dj := 27) (b := true) rfl hsz rfl rfl rfl (miss1 rfl (miss1 rfl (miss1 rfl lkp_hit)))) hHeld (fun ρ hρ w hSw => ?_) ?_
        rotate_left
        · (have e30 := Eq.trans (hρ.tmp hsz 30 rfl) lkp_hit; clear hρ; (try dsimp only at hSw); go_simp; try with_reducible rfl)
        show wpOrd _ _ _ _ _ _ _ _
        refine ord_take (i := 10) (d := 32) (v := ?_) rfl rfl (wanted_yes (j := 5) (dj := 27) (b := true) rfl hsz rfl rfl rfl (miss4 rfl rfl rfl rfl lkp_hit)) hHeld (fun ρ hρ w hSw => ?_) ?_
        rotate_left
        · (have hc := hρ.const; have e31 := Eq.trans (hρ.tmp hsz 31 rfl) lkp_hit; clear hρ; (try dsimp only at hSw); go_simp; try with_reducible rfl)
        show wpOrd _ _ _ _ _ _ _ _
        refine ord_take (i := 11) (d := 33) (v := ?_) rfl rfl (wanted_none rfl) hHeld (fun ρ hρ w hSw => ?_) ?_
        rotate_left
        · (have hc := hρ.const; have e27 := Eq.trans (hρ.tmp hsz 27 rfl) (miss4 rfl rfl rfl rfl (miss1 rfl lkp_hit)); have e32 := Eq.trans (hρ.tmp hsz 32 rfl) lkp_hit; clear hρ; (try dsimp only at hSw); go_simp; try with_reducible rfl)
        show wpOrd _ _ _ _ _ _ _ _
        refine ord_move (i := 12) (d := 34) (v := ?_) rfl rfl rfl (wanted_none rfl) hHeld (fun ρ hρ => ?_) ?_
        rotate_left
        · (have e33 := Eq.trans (hρ.tmp hsz 33 rfl) lkp_hit; exact e33)
        show wpOrd _ _ _ _ _ _ _ _
        refine ord_move (i := 13) (d := 35) (v := ?_) rfl rfl rfl (wanted_yes (j := 12) (dj := 34) (b := false) rfl hsz rfl rfl rfl lkp_hit) hHeld (fun ρ hρ => ?_) ?_
        rotate_left
        · (have e1 := Eq.trans (hρ.tmp hsz 1 rfl) (miss4 rfl rfl rfl rfl (miss4 rfl rfl rfl rfl (miss4 rfl rfl rfl rfl (miss1 rfl (lkp_base b1))))); exact e1)
        show wpOrd _ _ _ _ _ _ _ _
        refine ord_move (i := 14) (d := 36) (v := ?_) rfl rfl rfl (wanted_yes (j := 12) (dj := 34) (b := false) rfl hsz rfl rfl rfl (miss1 rfl lkp_hit)) hHeld (fun ρ hρ => ?_) ?_
        rotate_left
        · (have e5 := Eq.trans (hρ.tmp hsz 5 rfl) (miss4 rfl rfl rfl rfl (miss4 rfl rfl rfl rfl (miss4 rfl rfl rfl rfl (miss1 rfl (miss1 rfl (lkp_base b5)))))); exact e5)
        show wpOrd _ _ _ _ _ _ _ _
        refine ord_take (i := 15) (d := 37) (v := ?_) rfl rfl (wanted_yes (j := 12) (dj := 34) (b := false) rfl hsz rfl rfl rfl (miss1 rfl (miss1 rfl lkp_hit))) hHeld (fun ρ hρ w hSw => ?_) ?_
        rotate_left
        · (have e35 := Eq.trans (hρ.tmp hsz 35 rfl) (miss1 rfl lkp_hit); have e36 := Eq.trans (hρ.tmp hsz 36 rfl) lkp_hit; clear hρ; (try dsimp only at hSw); go_simp; try with_reducible rfl)
        show wpOrd _ _ _ _ _ _ _ _
        refine ord_take (i := 16) (d := 38) (v := ?_) rfl rfl (wanted_yes (j := 12) (dj := 34) (b := false) rfl hsz rfl rfl rfl (miss1 rfl (miss1 rfl (miss1 rfl lkp_hit)))) hHeld (fun ρ hρ w hSw => ?_) ?_
        rotate_left
        · (have e37 := Eq.trans (hρ.tmp hsz 37 rfl) lkp_hit; clear hρ; (try dsimp only at hSw); go_simp; try with_reducible rfl)
        show wpOrd _ _ _ _ _ _ _ _
        refine ord_move (i := 17) (d := 39) (v := ?_) rfl rfl rfl (wanted_yes (j := 12) (dj := 34) (b := false) rfl hsz rfl rfl rfl (miss4 rfl rfl rfl rfl lkp_hit)) hHeld (fun ρ hρ => ?_) ?_
        rotate_left
        · (have e0 := Eq.trans (hρ.tmp hsz 0 rfl) (miss4 rfl rfl rfl rfl (miss4 rfl rfl rfl rfl (miss4 rfl rfl rfl rfl (miss4 rfl rfl rfl rfl (miss1 rfl (lkp_base b0)))))); exact e0)
        show wpOrd _ _ _ _ _ _ _ _
        refine ord_move (i := 18) (d := 40) (v := ?_) rfl rfl rfl (wanted_yes (j := 12) (dj := 34) (b := false) rfl hsz rfl rfl rfl (miss4 rfl rfl rfl rfl (miss1 rfl lkp_hit))) hHeld (fun ρ hρ => ?_) ?_
        rotate_left
        · (have e5 := Eq.trans (hρ.tmp hsz 5 rfl) (miss4 rfl rfl rfl rfl (miss4 rfl rfl rfl rfl (miss4 rfl rfl rfl rfl (miss4 rfl rfl rfl rfl (miss1 rfl (miss1 rfl (lkp_base b5))))))); exact e5)
        show wpOrd _ _ _ _ _ _ _ _
        refine ord_take (i := 19) (d := 41) (v := ?_) rfl rfl (wanted_yes (j := 12) (dj := 34) (b := false) rfl hsz rfl rfl rfl (miss4 rfl rfl rfl rfl (miss1 rfl (miss1 rfl lkp_hit)))) hHeld (fun ρ hρ w hSw => ?_) ?_
        rotate_left
        · (have e39 := Eq.trans (hρ.tmp hsz 39 rfl) (miss1 rfl lkp_hit); have e40 := Eq.trans (hρ.tmp hsz 40 rfl) lkp_hit; clear hρ; (try dsimp only at hSw); go_simp; try with_reducible rfl)
        show wpOrd _ _ _ _ _ _ _ _
        refine ord_take (i := 20) (d := 42) (v := ?_) rfl rfl (wanted_yes (j := 12) (dj := 34) (b := false) rfl hsz rfl rfl rfl (miss4 rfl rfl rfl rfl (miss1 rfl (miss1 rfl (miss1 rfl lkp_hit))))) hHeld (fun ρ hρ w hSw => ?_) ?_
        rotate_left
        · (have e41 := Eq.trans (hρ.tmp hsz 41 rfl) lkp_hit; clear hρ; (try dsimp only at hSw); go_simp; try with_reducible rfl)
        show wpOrd _ _ _ _ _ _ _ _
        refine ord_take (i := 21) (d := 43) (v := ?_) rfl rfl (wanted_yes (j := 12) (dj := 34) (b := false) rfl hsz rfl rfl rfl (miss4 rfl rfl rfl rfl (miss4 rfl rfl rfl rfl lkp_hit))) hHeld (fun ρ hρ w hSw => ?_) ?_
        rotate_left
        · (have e38 := Eq.trans (hρ.tmp hsz 38 rfl) (miss4 rfl rfl rfl rfl lkp_hit); have e42 := Eq.trans (hρ.tmp hsz 42 rfl) lkp_hit; clear hρ; (try dsimp only at hSw); go_simp; try with_reducible rfl)
        show wpOrd _ _ _ _ _ _ _ _
        refine ord_take (i := 22) (d := 44) (v := ?_) rfl rfl (wanted_yes (j := 12) (dj := 34) (b := false) rfl hsz rfl rfl rfl (miss4 rfl rfl rfl rfl (miss4 rfl rfl rfl rfl (miss1 rfl lkp_hit)))) hHeld (fun ρ hρ w hSw => ?_) ?_
        rotate_left
        · (have hc := hρ.const; have e43 := Eq.trans (hρ.tmp hsz 43 rfl) lkp_hit; clear hρ; (try dsimp only at hSw); go_simp; try with_reducible rfl)
        show wpOrd _ _ _ _ _ _ _ _
        refine ord_take (i := 23) (d := 45) (v := ?_) rfl rfl (wanted_none rfl) hHeld (fun ρ hρ w hSw => ?_) ?_
        rotate_left
        · (have hc := hρ.const; have e34 := Eq.trans (hρ.tmp hsz 34 rfl) (miss4 rfl rfl rfl rfl (miss4 rfl rfl rfl rfl (miss1 rfl (miss1 rfl lkp_hit)))); have e44 := Eq.trans (hρ.tmp hsz 44 rfl) lkp_hit; clear hρ; (try dsimp only at hSw); go_simp; try with_reducible rfl)
        show wpOrd _ _ _ _ _ _ _ _
        refine ord_done hn2 ?_
        clear hHeld hn2 b0 b5 b1 hsz A Q2
        simp only [puts_nil, puts_cons, put_lit, set_1, set_0]
        go_wp2_with fail
        go_roundg (n - (i + 1))
        case rel => exact ⟨i + 1, by go_num, by omega, rfl, hbl.out.drew⟩
        case measure => omega
      · have q : (bits .and .i64 3 2 == 0) = false := by kernel_rfl
        refine wp_region_ord (S := fun W' => W'.cell? ⟨b, off + i, none⟩ = some (.int .i64 2) ∧ W'.cell? ⟨b2, of2 + i, none⟩ = some (.int .i64 3)) (J := []) (n := _) ((0, true) :: (1, true) :: (2, true) :: (3, true) :: (4, true) :: (5, true) :: (6, true) :: (7, true) :: (8, true) :: (9, true) :: (10, true) :: (11, true) :: (12, true) :: (13, true) :: (14, true) :: (15, true) :: (16, true) :: (17, true) :: (18, true) :: (19, true) :: (20, true) :: (21, true) :: (22, true) :: (23, true) :: []) (by as_aux_lemma => kernel_rfl) (by rfl) (base_cons (k := 0) (by go_simp; rfl) (base_cons (k := 5) (by go_simp; rfl) (base_cons (k := 1) (by go_simp; rfl) base_nil))) ?_ (fun _ _ _ _ _ h => h) (fun Q2 A hsz hbase hn2 hHeld => ?_)
        · exact HCC.out
        try dsimp only at hHeld
        obtain ⟨b0, b5, b1, -⟩ := hbase
        refine ord_move (i := 0) (d := 22) (v := ?_) rfl rfl rfl (wanted_none rfl) hHeld (fun ρ hρ => ?_) ?_
        rotate_left
        · (have e0 := Eq.trans (hρ.tmp hsz 0 rfl) (lkp_base b0); exact e0)
        show wpOrd _ _ _ _ _ _ _ _
        refine ord_move (i := 1) (d := 23) (v := ?_) rfl rfl rfl (wanted_none rfl) hHeld (fun ρ hρ => ?_) ?_
        rotate_left
        · (have e5 := Eq.trans (hρ.tmp hsz 5 rfl) (miss1 rfl (lkp_base b5)); exact e5)
        show wpOrd _ _ _ _ _ _ _ _
        refine ord_take (i := 2) (d := 24) (v := ?_) rfl rfl (wanted_none rfl) hHeld (fun ρ hρ w hSw => ?_) ?_
        rotate_left
        · (have e22 := Eq.trans (hρ.tmp hsz 22 rfl) (miss1 rfl lkp_hit); have e23 := Eq.trans (hρ.tmp hsz 23 rfl) lkp_hit; clear hρ; (try dsimp only at hSw); go_simp; try with_reducible rfl)
        show wpOrd _ _ _ _ _ _ _ _
        refine ord_take (i := 3) (d := 25) (v := ?_) rfl rfl (wanted_none rfl) hHeld (fun ρ hρ w hSw => ?_) ?_
        rotate_left
        · (have e24 := Eq.trans (hρ.tmp hsz 24 rfl) lkp_hit; clear hρ; (try dsimp only at hSw); go_simp; try with_reducible rfl)
        show wpOrd _ _ _ _ _ _ _ _
        refine ord_take (i := 4) (d := 26) (v := ?_) rfl rfl (wanted_none rfl) hHeld (fun ρ hρ w hSw => ?_) ?_
        rotate_left
        · (have hc := hρ.const; have e25 := Eq.trans (hρ.tmp hsz 25 rfl) lkp_hit; clear hρ; (try dsimp only at hSw); go_simp; try with_reducible rfl)
        show wpOrd _ _ _ _ _ _ _ _
        refine ord_move (i := 5) (d := 27) (v := ?_) rfl rfl rfl (wanted_none rfl) hHeld (fun ρ hρ => ?_) ?_
        rotate_left
        · (have e26 := Eq.trans (hρ.tmp hsz 26 rfl) lkp_hit; exact e26)
        show wpOrd _ _ _ _ _ _ _ _
        refine ord_move (i := 6) (d := 28) (v := ?_) rfl rfl rfl (wanted_yes (j := 5) (dj := 27) (b := true) rfl hsz rfl rfl rfl lkp_hit) hHeld (fun ρ hρ => ?_) ?_
        rotate_left
        · (have e0 := Eq.trans (hρ.tmp hsz 0 rfl) (miss4 rfl rfl rfl rfl (miss1 rfl (miss1 rfl (lkp_base b0)))); exact e0)
        show wpOrd _ _ _ _ _ _ _ _
        refine ord_move (i := 7) (d := 29) (v := ?_) rfl rfl rfl (wanted_yes (j := 5) (dj := 27) (b := true) rfl hsz rfl rfl rfl (miss1 rfl lkp_hit)) hHeld (fun ρ hρ => ?_) ?_
        rotate_left
        · (have e5 := Eq.trans (hρ.tmp hsz 5 rfl) (miss4 rfl rfl rfl rfl (miss1 rfl (miss1 rfl (miss1 rfl (lkp_base b5))))); exact e5)
        show wpOrd _ _ _ _ _ _ _ _
        refine ord_take (i := 8) (d := 30) (v := ?_) rfl rfl (wanted_yes (j := 5) (dj := 27) (b := true) rfl hsz rfl rfl rfl (miss1 rfl (miss1 rfl lkp_hit))) hHeld (fun ρ hρ w hSw => ?_) ?_
        rotate_left
        · (have e28 := Eq.trans (hρ.tmp hsz 28 rfl) (miss1 rfl lkp_hit); have e29 := Eq.trans (hρ.tmp hsz 29 rfl) lkp_hit; clear hρ; (try dsimp only at hSw); go_simp; try with_reducible rfl)
        show wpOrd _ _ _ _ _ _ _ _
        refine ord_take (i := 9) (d := 31) (v := ?_) rfl rfl (wanted_yes (j := 5) (dj := 27) (b := true) rfl hsz rfl rfl rfl (miss1 rfl (miss1 rfl (miss1 rfl lkp_hit)))) hHeld (fun ρ hρ w hSw => ?_) ?_
        rotate_left
        · (have e30 := Eq.trans (hρ.tmp hsz 30 rfl) lkp_hit; clear hρ; (try dsimp only at hSw); go_simp; try with_reducible rfl)
        show wpOrd _ _ _ _ _ _ _ _
        refine ord_take (i := 10) (d := 32) (v := ?_) rfl rfl (wanted_yes (j := 5) (dj := 27) (b := true) rfl hsz rfl rfl rfl (miss4 rfl rfl rfl rfl lkp_hit)) hHeld (fun ρ hρ w hSw => ?_) ?_
        rotate_left
        · (have hc := hρ.const; have e31 := Eq.trans (hρ.tmp hsz 31 rfl) lkp_hit; clear hρ; (try dsimp only at hSw); go_simp; try with_reducible rfl)
        show wpOrd _ _ _ _ _ _ _ _
        refine ord_take (i := 11) (d := 33) (v := ?_) rfl rfl (wanted_none rfl) hHeld (fun ρ hρ w hSw => ?_) ?_
        rotate_left
        · (have hc := hρ.const; have e27 := Eq.trans (hρ.tmp hsz 27 rfl) (miss4 rfl rfl rfl rfl (miss1 rfl lkp_hit)); have e32 := Eq.trans (hρ.tmp hsz 32 rfl) lkp_hit; clear hρ; (try dsimp only at hSw); go_simp; try with_reducible rfl)
        show wpOrd _ _ _ _ _ _ _ _
        refine ord_move (i := 12) (d := 34) (v := ?_) rfl rfl rfl (wanted_none rfl) hHeld (fun ρ hρ => ?_) ?_
        rotate_left
        · (have e33 := Eq.trans (hρ.tmp hsz 33 rfl) lkp_hit; exact e33)
        show wpOrd _ _ _ _ _ _ _ _
        refine ord_move (i := 13) (d := 35) (v := ?_) rfl rfl rfl (wanted_yes (j := 12) (dj := 34) (b := false) rfl hsz rfl rfl rfl lkp_hit) hHeld (fun ρ hρ => ?_) ?_
        rotate_left
        · (have e1 := Eq.trans (hρ.tmp hsz 1 rfl) (miss4 rfl rfl rfl rfl (miss4 rfl rfl rfl rfl (miss4 rfl rfl rfl rfl (miss1 rfl (lkp_base b1))))); exact e1)
        show wpOrd _ _ _ _ _ _ _ _
        refine ord_move (i := 14) (d := 36) (v := ?_) rfl rfl rfl (wanted_yes (j := 12) (dj := 34) (b := false) rfl hsz rfl rfl rfl (miss1 rfl lkp_hit)) hHeld (fun ρ hρ => ?_) ?_
        rotate_left
        · (have e5 := Eq.trans (hρ.tmp hsz 5 rfl) (miss4 rfl rfl rfl rfl (miss4 rfl rfl rfl rfl (miss4 rfl rfl rfl rfl (miss1 rfl (miss1 rfl (lkp_base b5)))))); exact e5)
        show wpOrd _ _ _ _ _ _ _ _
        refine ord_take (i := 15) (d := 37) (v := ?_) rfl rfl (wanted_yes (j := 12) (dj := 34) (b := false) rfl hsz rfl rfl rfl (miss1 rfl (miss1 rfl lkp_hit))) hHeld (fun ρ hρ w hSw => ?_) ?_
        rotate_left
        · (have e35 := Eq.trans (hρ.tmp hsz 35 rfl) (miss1 rfl lkp_hit); have e36 := Eq.trans (hρ.tmp hsz 36 rfl) lkp_hit; clear hρ; (try dsimp only at hSw); go_simp; try with_reducible rfl)
        show wpOrd _ _ _ _ _ _ _ _
        refine ord_take (i := 16) (d := 38) (v := ?_) rfl rfl (wanted_yes (j := 12) (dj := 34) (b := false) rfl hsz rfl rfl rfl (miss1 rfl (miss1 rfl (miss1 rfl lkp_hit)))) hHeld (fun ρ hρ w hSw => ?_) ?_
        rotate_left
        · (have e37 := Eq.trans (hρ.tmp hsz 37 rfl) lkp_hit; clear hρ; (try dsimp only at hSw); go_simp; try with_reducible rfl)
        show wpOrd _ _ _ _ _ _ _ _
        refine ord_move (i := 17) (d := 39) (v := ?_) rfl rfl rfl (wanted_yes (j := 12) (dj := 34) (b := false) rfl hsz rfl rfl rfl (miss4 rfl rfl rfl rfl lkp_hit)) hHeld (fun ρ hρ => ?_) ?_
        rotate_left
        · (have e0 := Eq.trans (hρ.tmp hsz 0 rfl) (miss4 rfl rfl rfl rfl (miss4 rfl rfl rfl rfl (miss4 rfl rfl rfl rfl (miss4 rfl rfl rfl rfl (miss1 rfl (lkp_base b0)))))); exact e0)
        show wpOrd _ _ _ _ _ _ _ _
        refine ord_move (i := 18) (d := 40) (v := ?_) rfl rfl rfl (wanted_yes (j := 12) (dj := 34) (b := false) rfl hsz rfl rfl rfl (miss4 rfl rfl rfl rfl (miss1 rfl lkp_hit))) hHeld (fun ρ hρ => ?_) ?_
        rotate_left
        · (have e5 := Eq.trans (hρ.tmp hsz 5 rfl) (miss4 rfl rfl rfl rfl (miss4 rfl rfl rfl rfl (miss4 rfl rfl rfl rfl (miss4 rfl rfl rfl rfl (miss1 rfl (miss1 rfl (lkp_base b5))))))); exact e5)
        show wpOrd _ _ _ _ _ _ _ _
        refine ord_take (i := 19) (d := 41) (v := ?_) rfl rfl (wanted_yes (j := 12) (dj := 34) (b := false) rfl hsz rfl rfl rfl (miss4 rfl rfl rfl rfl (miss1 rfl (miss1 rfl lkp_hit)))) hHeld (fun ρ hρ w hSw => ?_) ?_
        rotate_left
        · (have e39 := Eq.trans (hρ.tmp hsz 39 rfl) (miss1 rfl lkp_hit); have e40 := Eq.trans (hρ.tmp hsz 40 rfl) lkp_hit; clear hρ; (try dsimp only at hSw); go_simp; try with_reducible rfl)
        show wpOrd _ _ _ _ _ _ _ _
        refine ord_take (i := 20) (d := 42) (v := ?_) rfl rfl (wanted_yes (j := 12) (dj := 34) (b := false) rfl hsz rfl rfl rfl (miss4 rfl rfl rfl rfl (miss1 rfl (miss1 rfl (miss1 rfl lkp_hit))))) hHeld (fun ρ hρ w hSw => ?_) ?_
        rotate_left
        · (have e41 := Eq.trans (hρ.tmp hsz 41 rfl) lkp_hit; clear hρ; (try dsimp only at hSw); go_simp; try with_reducible rfl)
        show wpOrd _ _ _ _ _ _ _ _
        refine ord_take (i := 21) (d := 43) (v := ?_) rfl rfl (wanted_yes (j := 12) (dj := 34) (b := false) rfl hsz rfl rfl rfl (miss4 rfl rfl rfl rfl (miss4 rfl rfl rfl rfl lkp_hit))) hHeld (fun ρ hρ w hSw => ?_) ?_
        rotate_left
        · (have e38 := Eq.trans (hρ.tmp hsz 38 rfl) (miss4 rfl rfl rfl rfl lkp_hit); have e42 := Eq.trans (hρ.tmp hsz 42 rfl) lkp_hit; clear hρ; (try dsimp only at hSw); go_simp; try with_reducible rfl)
        show wpOrd _ _ _ _ _ _ _ _
        refine ord_take (i := 22) (d := 44) (v := ?_) rfl rfl (wanted_yes (j := 12) (dj := 34) (b := false) rfl hsz rfl rfl rfl (miss4 rfl rfl rfl rfl (miss4 rfl rfl rfl rfl (miss1 rfl lkp_hit)))) hHeld (fun ρ hρ w hSw => ?_) ?_
        rotate_left
        · (have hc := hρ.const; have e43 := Eq.trans (hρ.tmp hsz 43 rfl) lkp_hit; clear hρ; (try dsimp only at hSw); go_simp; try with_reducible rfl)
        show wpOrd _ _ _ _ _ _ _ _
        refine ord_take (i := 23) (d := 45) (v := ?_) rfl rfl (wanted_none rfl) hHeld (fun ρ hρ w hSw => ?_) ?_
        rotate_left
        · (have hc := hρ.const; have e34 := Eq.trans (hρ.tmp hsz 34 rfl) (miss4 rfl rfl rfl rfl (miss4 rfl rfl rfl rfl (miss1 rfl (miss1 rfl lkp_hit)))); have e44 := Eq.trans (hρ.tmp hsz 44 rfl) lkp_hit; clear hρ; (try dsimp only at hSw); go_simp; try with_reducible rfl)
        show wpOrd _ _ _ _ _ _ _ _
        refine ord_done hn2 ?_
        clear hHeld hn2 b0 b5 b1 hsz A Q2
        simp only [puts_nil, puts_cons, put_lit, set_1, set_0]
        go_wp2_with fail
        go_roundg (n - (i + 1))
        case rel => exact ⟨i + 1, by go_num, by omega, rfl, hbl.out.drew⟩
        case measure => omega
    · obtain rfl : i = n := by omega
      have hii : decide (i < i) = false := by simp
      go_wp2_with fail
      go_ret
      exact ⟨rfl, hbl.out⟩
end Go.Proofs.YtdpmfdcackoegaaGreatDoor
/-
  The statements' maker of masks.
-/
namespace Go.Proofs.YtdpmfdcackoegaaGreatDoor
open Go.RowKit
def MasksPost (w : World) (g nd most : Nat) (e : Ending) (w' : World) : Prop :=
  ∃ (A : Option Addr) (c : Nat) (m : List Int), e = .returned (.slice A nd c) ∧ Hid (DeckAt w' g) ∧ Hid (w.grownBy w' (some g)) ∧ Hid (IntsO w' (w.heap.size + 1) A nd c m) ∧ Hid (∀ p ∈ m, maskB p = true) ∧ Hid (cntN m m.length ≤ most)
theorem cnt_state {s : List Int} (h : ∀ p ∈ s, posB p = true) : ∀ n, cntN s n = 0
  | 0 => rfl
  | n + 1 => by
    rw [cntN_succ, cnt_state h n, if_neg]
    intro e
    have := h 3 (List.mem_of_getElem? e)
    simp [posB] at this
theorem cnt_set (m : List Int) (i : Nat) : ∀ n, cntN (m.set i 3) n ≤ cntN m n + 1 ∧ (n ≤ i → cntN (m.set i 3) n = cntN m n)
  | 0 => ⟨by simp [cntN, unkN], fun _ => rfl⟩
  | n + 1 => by
    obtain ⟨h1, h2⟩ := cnt_set m i n
    rw [cntN_succ, cntN_succ]
    by_cases hn : n = i
    · subst hn
      have := h2 (Nat.le_refl _)
      refine ⟨?_, fun h => by omega⟩
      rw [this]
      split <;> split <;> omega
    · rw [List.getElem?_set_ne (by omega)]
      exact ⟨by omega, fun h => by rw [h2 (by omega)]⟩
def MmR (W : World) (g nd most : Nat) (A : Option Addr) (c gk : Nat) (iv : Value) (wr : World) : Prop :=
  ∃ (i : Nat) (m : List Int), iv = .int .i64 i ∧ i ≤ most ∧ gk = most - i ∧ Hid (IntsO wr (W.heap.size + 1) A nd c m) ∧ Hid (DeckAt wr g) ∧ Hid (W.grownBy wr (some g)) ∧ Hid (∀ p ∈ m, maskB p = true) ∧ Hid (cntN m m.length ≤ i)
set_option maxRecDepth 100000 in
set_option maxHeartbeats 4000000 in
theorem mkmasks_any (g : Nat) (An Ad : Option Addr) (nn cn nd cd most : Nat) (ds : List Dv) (w : World) (hd : DeckAt w g) (hx : SlX w g 5 Ad nd cd (ds.flatMap Dv.cells)) (hnd : nd ≤ 1000) (hmo : most ≤ 1000) :
    Calls Tryz.prog 12 #[.pointer (some ⟨g, 0, none⟩), .agg #[.slice An nn cn, .slice Ad nd cd], .int .i64 (most : Int)] w (MasksPost w g nd most) := by
  have hlt := hd.lt
  have HST := Lib.hid (mkstate_any g An Ad nn cn nd cd ds (w.alloc (.cells #[.slice An nn cn, .slice Ad nd cd] 30)) (hd.alloc _) (hx.alloc _) hnd)
  have HB0 : Hid (w.grownBy (w.alloc (.cells #[.slice An nn cn, .slice Ad nd cd] 30)) (some g)) := grown_of_below ((Below.refl _ _).alloc (Nat.le_refl _) _) _
  have HW : Hid ((w.alloc (.cells #[.slice An nn cn, .slice Ad nd cd] 30)).heap.size = w.heap.size + 1) := by unfold Hid; simp
  clear hd hx
  go_enter Tryz.func12, Tryz.ntmps12
  go_wp2_with fail
  generalize World.alloc _ _ = W at *
  refine HST.out.mono ?_
  rintro e w1 ⟨A, c, s, rfl, hd1, hg1, hO1, hp1⟩
  have HM1 : Hid (∀ p ∈ s, maskB p = true) := fun p hp => by have := hp1.out p hp; simp [posB, maskB] at *; omega
  have HC1 : Hid (cntN s s.length ≤ 0) := by unfold Hid; rw [cnt_state hp1.out]; exact Nat.le_refl _
  have hWz := HW.out
  have hgW : g < W.heap.size := by omega
  clear HST hp1 hWz
  go_wp2_with fail
  go_loopg [8] most (MmR W g nd most A c)
  case atStart => exact ⟨0, s, rfl, Nat.zero_le _, rfl, hO1, hd1, hg1, HM1, HC1⟩
  case round =>
    clear hO1 hd1 hg1 HM1 HC1
    obtain ⟨i, m, rfl, hi, rfl, hO, hD, hG, hM, hC⟩ := hrel
    by_cases hgo : i < most ∧ 0 < nd
    · obtain ⟨hlt2, hnd0⟩ := hgo
      go_wp2_with fail
      refine (one_any g 2 wr hD.out (by decide)).mono ?_
      rintro e w3 ⟨r, rfl, hd3, hg3, hs3⟩
      have HO3 := Lib.hid (hO.out.kept hg3.out (ne_row fun b e => by have := (hO.out.lt b e).1; omega))
      have HG3 := Lib.hid (grown_trans hG.out hg3.out)
      clear hD hG hg3 hs3 hO
      rcases r with _ | _
      · have HC2 : Hid (cntN m m.length ≤ i + 1) := by have := hC.out; unfold Hid; omega
        go_wp2_with fail
        go_roundg (most - (i + 1))
        case rel => exact ⟨i + 1, m, by go_num, by omega, rfl, HO3, hd3, HG3, hM, HC2⟩
        case measure => omega
      · go_wp2_with fail
        refine (next_any g (nd : Int) w3 hd3.out (by omega)).mono ?_
        rintro e w4 ⟨v, rfl, hv0, _, hv1, hd4, hg4, hs4⟩
        have hvn := hv1.out (by omega)
        obtain ⟨t, rfl⟩ := Int.eq_ofNat_of_zero_le hv0
        have htn : t < nd := by omega
        have HO4 := Lib.hid (HO3.out.kept hg4.out (ne_row fun b e => by have := (HO3.out.lt b e).1; omega))
        have HG4 := Lib.hid (grown_trans HG3.out hg4.out)
        clear hd3 hg4 hs4 HO3 HG3 hv1 hvn hv0
        obtain ⟨q, y, rfl, hq1, hq2, hy, hcy, hfy, hst⟩ := IntsO.at HO4.out htn
        have HSW := Lib.hid (hst 3)
        have HD5 := Lib.hid (hd4.out.setCell (p := ⟨q, t, none⟩) (by simp; omega) (.int .i64 3))
        have HG5 := Lib.hid (grown_set HG4.out (p := ⟨q, t, none⟩) (by simp; omega) (.int .i64 3))
        have HM5 : Hid (∀ p ∈ m.set t 3, maskB p = true) := fun p hp => by
          rcases List.mem_or_eq_of_mem_set hp with h1 | h1
          · exact hM.out p h1
          · rw [h1]; rfl
        have HC5 : Hid (cntN (m.set t 3) (m.set t 3).length ≤ i + 1) := by
          have h1 := (cnt_set m t m.length).1
          have h2 := hC.out
          unfold Hid; rw [List.length_set]; omega
        clear hst hd4 HO4 HG4 hy
        go_wp2_with fail
        go_roundg (most - (i + 1))
        case rel => exact ⟨i + 1, _, by go_num, by omega, rfl, HSW, HD5, HG5, HM5, HC5⟩
        case measure => omega
    · have HEND : Hid (MasksPost w g nd most (.returned (.slice A nd c)) wr) := ⟨A, c, m, rfl, hD, grown_trans HB0.out hG.out, hO.out.mono (by have := HW.out; omega), hM, (by have := hC.out; unfold Hid; omega)⟩
      by_cases hl : i < most
      · obtain rfl : nd = 0 := by omega
        go_wp2_with fail
        go_ret
        exact HEND.out
      · have ql : decide ((i : Int) < (most : Int)) = false := by simp; omega
        have ql2 : decide (i < most) = false := by simp; omega
        go_wp2_with fail
        go_ret
        exact HEND.out
end Go.Proofs.YtdpmfdcackoegaaGreatDoor
