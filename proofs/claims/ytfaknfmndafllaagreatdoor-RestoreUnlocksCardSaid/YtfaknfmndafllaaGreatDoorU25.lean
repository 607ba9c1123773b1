import Derived.Test.YtfaknfmndafllaaGreatDoorU20
import Derived.Test.YtfaknfmndafllaaGreatDoorU18
set_option maxRecDepth 100000
set_option maxHeartbeats 8000000
namespace Go.Proofs.YtfaknfmndafllaaGreatDoor
open Go.RowKit
def LkMade (ds : List Dv) (s : List Int) (most : Nat) (ls : List Lk) : Prop := GoodL ds ls ∧ ls.length ≤ most ∧ ∀ k ∈ ls, 10 ≤ k.key ∧ k.key < 10 + 3 * (most : Int) ∧ ∀ x, s[k.dev.toNat]? = some x → 0 < x → x ≤ 2 → k.pos = x
def LocksPost (w : World) (g most : Nat) (ds : List Dv) (s : List Int) (e : Ending) (w' : World) : Prop :=
 ∃ (A : Option Addr) (m c : Nat) (ls : List Lk), e = .returned (.slice A m c) ∧ Hid (DeckAt w' g) ∧ Hid (w.grownBy w' (some g)) ∧ Hid (LocksO w' (w.heap.size + 1) A m c ls) ∧ Hid (LkMade ds s most ls)
theorem LkMade.nil (ds : List Dv) (s : List Int) (most : Nat) : LkMade ds s most [] := ⟨⟨by simp, by simp, List.Pairwise.nil⟩, by simp, by simp⟩
theorem LkMade.more {ds : List Dv} {s : List Int} {most : Nat} {ls : List Lk} (h : LkMade ds s most ls) : LkMade ds s (most + 1) ls := ⟨h.1, by have := h.2.1; omega, fun k hk => by obtain ⟨h1, h2, h3⟩ := h.2.2 k hk; exact ⟨h1, by omega, h3⟩⟩
theorem addm_zero {ns : List Nd} {ds : List Dv} {ls : List Lk} {k : Lk} (h : addErr ns ds ls k = 0) : GoodL ds (insL k ls) := by
 unfold addErr at h
 split at h
 ·next h1 => exact absurd h h1
 ·next h1 =>
  split at h
  ·next h2 => exact absurd h h2
  ·next h2 =>
   split at h
   ·omega
   ·next h3 =>
    split at h
    ·omega
    ·next h4 =>
     split at h
     ·omega
     ·next h5 =>
      have hg := locks_good (by simpa using h1 : locksErr ns ds ls = 0)
      exact ins_good hg (by simpa using h2) (by simpa using h3) (by simpa using h4) (by have := hg.1; omega)
theorem LkMade.put {ns : List Nd} {ds : List Dv} {s : List Int} {j : Nat} {ls : List Lk} {k : Lk} (h : LkMade ds s j ls) (ha : addErr ns ds ls k = 0) (h1 : 10 ≤ k.key) (h2 : k.key < 10 + 3 * ((j : Int) + 1)) (h3 : ∀ x, s[k.dev.toNat]? = some x → 0 < x → x ≤ 2 → k.pos = x) : LkMade ds s (j + 1) (insL k ls) := by
 refine ⟨addm_zero ha, by rw [ins_len]; have := h.2.1; omega, fun y hy => ?_⟩
 rcases (ins_mem k y ls).1 hy with rfl | hy
 ·exact ⟨h1, by omega, h3⟩
 ·obtain ⟨a, b, c⟩ := h.2.2 y hy
  exact ⟨a, by omega, c⟩
theorem LkMade.upto {ds : List Dv} {s : List Int} {a b : Nat} {ls : List Lk} (h : LkMade ds s a ls) (hab : a ≤ b) : LkMade ds s b ls := ⟨h.1, by have := h.2.1; omega, fun k hk => by obtain ⟨h1, h2, h3⟩ := h.2.2 k hk; exact ⟨h1, by omega, h3⟩⟩
theorem radd_one (An Ad Al : Option Addr) (nn cn nd cd c Bn Bd Bl : Nat) (ns : List Nd) (ds : List Dv) (ls : List Lk) (d p q : Int) (w : World) (hn : Sl w Bn 3 An nn cn (ns.flatMap Nd.cells)) (hd : Sl w Bd 5 Ad nd cd (ds.flatMap Dv.cells)) (hs : Sl w Bl 3 Al ls.length c (ls.flatMap Lk.cells)) (hBn : Bn ≤ w.heap.size) (hBd : Bd ≤ w.heap.size) (hBl : Bl ≤ w.heap.size)
 (hsn : ∀ x ∈ ns, x.name.size ≤ 9223372036854775807) (hsd : ∀ x ∈ ds, x.name.size ≤ 9223372036854775807) :
 Calls Tryz.prog 46 #[.agg #[.slice An nn cn, .slice Ad nd cd], .slice Al ls.length c, .agg #[.int .i64 d, .int .i64 p, .int .i64 q]] w fun e w' => ∃ (A' : Option Addr) (m' c' : Nat) (er : Int), e = .returned (.tuple #[.slice A' m' c', .int .i64 er]) ∧ Hid (er = 0 → m' = ls.length + 1 ∧ addErr ns ds ls ⟨d, p, q⟩ = 0 ∧ LocksO w' w.heap.size A' m' c' (insL ⟨d, p, q⟩ ls)) ∧ Hid (Below w.heap.size w w') := by
 refine (radd_any An Ad Al nn cn nd cd c Bn Bd Bl ns ds ls d p q w hn hd hs hBn hBd hBl hsn hsd).mono ?_
 rintro e w' ⟨⟨h1, rfl⟩ | ⟨h1, A', c', rfl, hO⟩, hb⟩
 ·exact ⟨none, 0, 0, _, rfl, fun h => absurd h h1, hb⟩
 ·exact ⟨A', _, c', 0, rfl, fun _ => ⟨rfl, h1, hO.out⟩, hb⟩
theorem key_wrap {k : Nat} {v : Int} (hk : k ≤ 1000) (h0 : 0 ≤ v) (h1 : v < 3) : IntKind.i64.wrap (IntKind.i64.wrap (10 + IntKind.i64.wrap (3 * (k : Int))) + v) = 10 + 3 * (k : Int) + v := by
 rw [IntWalk.i64_in (3 * (k : Int)) (by omega), IntWalk.i64_in (10 + 3 * (k : Int)) (by omega), IntWalk.i64_in _ (by omega)]
def MlR (w W : World) (g most : Nat) (ds : List Dv) (s : List Int) (gk : Nat) (ov kv : Value) (wr : World) : Prop :=
 ∃ (k c : Nat) (A : Option Addr) (ls : List Lk), ov = .slice A ls.length c ∧ kv = .int .i64 k ∧ k ≤ most ∧ gk = most - k ∧ Hid (LocksO wr (w.heap.size + 1) A ls.length c ls) ∧ Hid (DeckAt wr g) ∧ Hid (W.grownBy wr (some g)) ∧ Hid (LkMade ds s k ls)
theorem mklocks_any (g : Nat) (An Ad As : Option Addr) (nn cn nd cd n c most : Nat) (ns : List Nd) (ds : List Dv) (s : List Int) (w : World) (hd : DeckAt w g) (hxn : SlX w g 3 An nn cn (ns.flatMap Nd.cells)) (hxd : SlX w g 5 Ad nd cd (ds.flatMap Dv.cells)) (hxs : SlX w g 1 As n c (intsV s)) (hnd : nd ≤ 1000) (hmo : most ≤ 1000)
 (hsn : ∀ x ∈ ns, x.name.size ≤ 9223372036854775807) (hsd : ∀ x ∈ ds, x.name.size ≤ 9223372036854775807) :
 Calls Tryz.prog 19 #[.pointer (some ⟨g, 0, none⟩), .agg #[.slice An nn cn, .slice Ad nd cd], .slice As n c, .int .i64 (most : Int)] w (LocksPost w g most ds s) := by
 have hlt := hd.lt
 have HSN := Lib.hid hsn; have HSD := Lib.hid hsd
 have HD0 := Lib.hid (hd.alloc (.cells #[.slice An nn cn, .slice Ad nd cd] 30))
 have HXN := Lib.hid (hxn.alloc (.cells #[.slice An nn cn, .slice Ad nd cd] 30))
 have HXD := Lib.hid (hxd.alloc (.cells #[.slice An nn cn, .slice Ad nd cd] 30))
 have HXS := Lib.hid (hxs.alloc (.cells #[.slice An nn cn, .slice Ad nd cd] 30))
 have HSL := Lib.hid (hxs.1.len (f := fun x : Int => [Value.int .i64 x]) (fun _ => rfl) (by decide))
 have HK0 := Lib.hid (Blk.new w 30 #[.slice An nn cn, .slice Ad nd cd])
 have HB0 : Hid (w.grownBy (w.alloc (.cells #[.slice An nn cn, .slice Ad nd cd] 30)) (some g)) := grown_of_below ((Below.refl _ _).alloc (Nat.le_refl _) _) _
 have HW : Hid ((w.alloc (.cells #[.slice An nn cn, .slice Ad nd cd] 30)).heap.size = w.heap.size + 1) := by unfold Hid; simp
 have hcd := hxd.1.le
 have hcs := hxs.1.le
 clear hd hxn hxd hxs hsn hsd
 go_enter Tryz.func19, Tryz.ntmps19
 go_wp2_with fail
 generalize World.alloc _ _ = W at *
 go_loopg [9, 10] most (MlR w W g most ds s)
 case atStart => exact ⟨0, 0, none, [], rfl, rfl, Nat.zero_le _, rfl, World.ownsRow_nil _ _ _ _, HD0, grown_refl _ _, LkMade.nil _ _ _⟩
 case round =>
  clear HD0
  obtain ⟨k, c', A, ls, rfl, rfl, hk, rfl, hO, hD, hG, hM⟩ := hrel
  have HKr := Lib.hid (HK0.out.grown hG.out (fun e => by injection e with e; omega))
  have k1 := HKr.out.c1
  by_cases hgo : k < most ∧ 0 < nd
  ·obtain ⟨hlt2, hnd0⟩ := hgo
   go_wp2_with fail
   clear k1
   refine (one_any g 3 wr hD.out (by decide)).mono ?_
   rintro e w3 ⟨r, rfl, hd3, hg3, hs3⟩
   have HO3 := Lib.hid (hO.out.kept hg3.out (ne_row fun b e => by have := (hO.out.lt b e).1; omega))
   have HG3 := Lib.hid (grown_trans hG.out hg3.out)
   clear hD hG hg3 hs3 hO HKr
   rcases r with _ | _
   rotate_left
   ·have HM2 := Lib.hid (hM.out.more)
    go_wp2_with fail
    go_roundg (most - (k + 1))
    case rel => exact ⟨k + 1, c', A, ls, rfl, by go_num, by omega, rfl, HO3, hd3, HG3, HM2⟩
    case measure => omega
   have HK3 := Lib.hid (HK0.out.grown HG3.out (fun e => by injection e with e; omega))
   have k1 := HK3.out.c1
   go_wp2_with fail
   clear k1 HK3
   refine (next_any g (nd : Int) w3 hd3.out (by omega)).mono ?_
   rintro e w4 ⟨v, rfl, hv0, _, hv1, hd4, hg4, hs4⟩
   have hvn := hv1.out (by omega)
   obtain ⟨t, rfl⟩ := Int.eq_ofNat_of_zero_le hv0
   have htn : t < nd := by omega
   have HO4 := Lib.hid (HO3.out.kept hg4.out (ne_row fun b e => by have := (HO3.out.lt b e).1; omega))
   have HG4 := Lib.hid (grown_trans HG3.out hg4.out)
   clear hd3 hg4 hs4 HO3 HG3 hv1 hvn hv0
   have HXS4 := Lib.hid (HXS.out.grown HG4.out)
   have hcase : (∃ x b off, t < n ∧ As = some ⟨b, off, none⟩ ∧ b < W.heap.size ∧ b ≠ g ∧ s[t]? = some x ∧ 0 < x ∧ w4.cell? ⟨b, off + t, none⟩ = some (.int .i64 x)) ∨ (∃ x b off, t < n ∧ As = some ⟨b, off, none⟩ ∧ s[t]? = some x ∧ ¬ 0 < x ∧ w4.cell? ⟨b, off + t, none⟩ = some (.int .i64 x)) ∨ ¬ t < n := by
    by_cases hts : t < n
    ·obtain ⟨b, off, x, rfl, hb, hx, hc⟩ := HXS4.out.1.at1 hts
     have hbg := HXS4.out.2 b off rfl
     by_cases h0 : 0 < x
     ·refine .inl ⟨x, b, off, hts, rfl, ?_, hbg, hx, h0, hc⟩
      obtain ⟨b', off', _, e', hb', _⟩ := HXS.out.1.at1 hts
      injection e' with e'; injection e' with e1 e2
      omega
     ·exact .inr (.inl ⟨x, b, off, hts, rfl, hx, h0, hc⟩)
    ·exact .inr (.inr hts)
   have hpos : ∃ p : Int, Hid (∀ x, s[t]? = some x → 0 < x → x ≤ 2 → p = x) ∧ ((∃ x b off, t < n ∧ As = some ⟨b, off, none⟩ ∧ b < W.heap.size ∧ b ≠ g ∧ 0 < x ∧ 2 < x ∧ Hid (∀ y, s[t]? = some y → 0 < y → y ≤ 2 → False) ∧ w4.cell? ⟨b, off + t, none⟩ = some (.int .i64 x)) ∨ (∃ b off, t < n ∧ As = some ⟨b, off, none⟩ ∧ 0 < p ∧ ¬ 2 < p ∧ w4.cell? ⟨b, off + t, none⟩ = some (.int .i64 p)) ∨ (p = 1 ∧ ∃ x b off, t < n ∧ As = some ⟨b, off, none⟩ ∧ ¬ 0 < x ∧ w4.cell? ⟨b, off + t, none⟩ = some (.int .i64 x)) ∨ (p = 1 ∧ ¬ t < n)) := by
    rcases hcase with ⟨x, b, off, h1, h2, h3, h4, h5, h6, h7⟩ | ⟨x, b, off, h1, h2, h5, h6, h7⟩ | h1
    ·by_cases h8 : 2 < x
     ·exact ⟨0, fun y hy _ hy2 => by rw [h5] at hy; injection hy with hy; omega, .inl ⟨x, b, off, h1, h2, h3, h4, h6, h8, fun y hy _ _ => by rw [h5] at hy; injection hy with hy; omega, h7⟩⟩
     ·exact ⟨x, fun y hy _ _ => by rw [h5] at hy; injection hy, .inr (.inl ⟨b, off, h1, h2, h6, h8, h7⟩)⟩
    ·exact ⟨1, fun y hy _ _ => by rw [h5] at hy; injection hy with hy; omega, .inr (.inr (.inl ⟨rfl, x, b, off, h1, h2, h6, h7⟩))⟩
    ·exact ⟨1, fun y hy _ _ => by have h9 := (List.getElem?_eq_some_iff.1 hy).1; have := HSL.out; omega, .inr (.inr (.inr ⟨rfl, h1⟩))⟩
   clear hcase HXS4
   obtain ⟨p, HPP, hcase⟩ := hpos
   rcases hcase with ⟨x, b, off, h1, rfl, h3, h4, h6, h8, HNO, c1⟩ | ⟨b, off, h1, rfl, h6, h8, c1⟩ | ⟨rfl, x, b, off, h1, rfl, h6, c1⟩ | ⟨rfl, h1⟩
   ·have q1 : decide (0 < x) = true := by simpa using h6
    have q2 : decide (2 < x) = true := by simpa using h8
    go_wp2_with fail
    clear c1 q1 q2 HPP
    refine (next_any g 2 w4 hd4.out (by decide)).mono ?_
    rintro e w5 ⟨v, rfl, hv0, _, hv1, hd5, hg5, hs5⟩
    have hv2 := hv1.out (by decide)
    have HO5 := Lib.hid (HO4.out.kept hg5.out (ne_row fun b e => by have := (HO4.out.lt b e).1; omega))
    have HG5 := Lib.hid (grown_trans HG4.out hg5.out)
    have HPP : Hid (∀ y, s[t]? = some y → 0 < y → y ≤ 2 → 1 + v = y) := fun y a b c => (HNO.out y a b c).elim
    clear hd4 HO4 HG4 hg5 hs5 hv1 HNO h3 h4 h6 h8
    go_upto_region 12 with (fail)
    have HKr := Lib.hid (HK0.out.grown HG5.out (fun e => by injection e with e; omega))
    have hbl := HKr.out.lt
    have HCE : Hid (w5.cell? ⟨w.heap.size, 0, none⟩ = some (.slice An nn cn) ∧ w5.cell? ⟨w.heap.size, 1, none⟩ = some (.slice Ad nd cd)) := ⟨HKr.out.cell 0, HKr.out.cell 1⟩
    clear HKr
    refine wp_region_J (S := fun W' => W'.cell? ⟨w.heap.size, 0, none⟩ = some (.slice An nn cn) ∧ W'.cell? ⟨w.heap.size, 1, none⟩ = some (.slice Ad nd cd)) (J := []) (by kernel_rfl) ?_ (fun hHeld => ?_)
    ·exact HCE.out
    try dsimp only at hHeld
    refine tk 0 54 (mf 17 1) hHeld ?_
    refine tk 1 55 (mf 17 2) hHeld ?_
    refine tk 2 56 (mf 17 3) hHeld ?_
    refine tk 3 57 (mf 17 4) hHeld ?_
    refine tk 4 58 (mf 17 5) hHeld ?_
    refine tk 5 59 (mf 17 6) hHeld ?_
    refine tk 6 60 (mf 17 7) hHeld ?_
    refine tk 7 61 (mf 17 8) hHeld ?_
    refine wpAnyJ_oneL (k := 8) (mf 17 9) (by kernel_rfl) (by kernel_rfl) rfl (fun K hK => ?_)
    (go_simp; refine (next_any g 3 w5.drew hd5.out.drew (by decide)).mono ?_; rintro e w6 ⟨v6, rfl, h60, _, h61, hd6, hg6, hs6⟩; have h62 := h61.out (by decide); have HG6 := Lib.hid (grown_undrew hg6.out); clear h61 hs6; go_simp)
    refine hK.out _ _ (fun _ => ?_) (fun hHeld' => ?_)
    ·exact ⟨(World.cell?_of_block (HG6.out.block w.heap.size hbl (fun e => by injection e with e; omega))).trans HCE.out.1, (World.cell?_of_block (HG6.out.block w.heap.size hbl (fun e => by injection e with e; omega))).trans HCE.out.2⟩
    replace hHeld := hHeld' rfl
    clear hHeld' hK K
    try dsimp only at hHeld
    refine tk 9 63 (mf 17 10) hHeld ?_
    refine tk 10 64 (mf 17 11) hHeld ?_
    refine wpAnyJ_oneL (k := 11) (mf 17 12) (by kernel_rfl) (by kernel_rfl) rfl (fun K hK => ?_)
    (have HO6 := Lib.hid (HO5.out.kept HG6.out (ne_row fun b e => by have := (HO5.out.lt b e).1; omega)); have HGG := Lib.hid (grown_trans HG5.out HG6.out); have hz6 := HGG.out.size; rw [HW.out] at hz6; have HXN6 := Lib.hid (HXN.out.grown HGG.out); have HXD6 := Lib.hid (HXD.out.grown HGG.out); go_simp; refine (radd_one An Ad A nn cn nd cd c' _ _ _ ns ds ls t _ _ w6 HXN6.out.1 HXD6.out.1 (Sl.of_own HO6.out) (Nat.le_refl _) (Nat.le_refl _) (Nat.le_refl _) HSN.out HSD.out).mono ?_; rintro e w7 ⟨A7, m7, c7, er, rfl, hr7, hb7⟩; go_simp)
    refine hK.out _ _ (fun _ => ?_) (fun hHeld' => ?_)
    ·exact ⟨(hb7.out.cell (p := ⟨w.heap.size, 0, none⟩) (by simp only; omega)).trans hHeld.1, (hb7.out.cell (p := ⟨w.heap.size, 1, none⟩) (by simp only; omega)).trans hHeld.2⟩
    replace hHeld := hHeld' rfl
    clear hHeld' hK K
    try dsimp only at hHeld
    refine tk 12 53 (mf 17 13) hHeld ?_
    refine tk 13 66 (mf 17 14) hHeld ?_
    refine tk 14 67 (mf 17 15) hHeld ?_
    refine tk 15 13 (mf 17 16) hHeld ?_
    refine tk 16 14 (mf 17 17) hHeld ?_
    refine wpAnyJ_done (by kernel_rfl) ?_ _
    clear hHeld HCE
    have HG7 := Lib.hid (grown_trans HGG.out (grown_of_below hb7.out (some g)))
    have hd7 := Lib.hid (hd6.out.grown (grown_of_below hb7.out none) (fun k e => by cases e))
    have HO7 := Lib.hid (own_later HO6.out (hb7.out.mono (Nat.le_refl _)))
    clear hb7 HO6 hd6 HG6 HXN6 HXD6 HGG
    by_cases her : er = 0
    ·obtain ⟨rfl, hadd, hOn⟩ := hr7.out her
     subst her
     have HON := Lib.hid hOn
     have HM2 := Lib.hid (hM.out.put hadd (by simp only; rw [key_wrap (by omega) h60 h62]; omega) (by simp only; rw [key_wrap (by omega) h60 h62]; omega) (fun x hx h0 h2 => HPP.out x (by simpa using hx) h0 h2))
     clear hr7 hadd hOn
     go_wp2_with fail
     go_roundg (most - (k + 1))
     case rel => exact ⟨k + 1, c7, A7, _, by rw [ins_len], by go_num, by omega, rfl, by rw [ins_len]; exact World.ownsRow.mono HON.out (by omega), hd7, HG7, HM2⟩
     case measure => omega
    ·have qe : (er == 0) = false := by simpa using her
     have HM2 := Lib.hid hM.out.more
     clear hr7
     go_wp2_with fail
     go_roundg (most - (k + 1))
     case rel => exact ⟨k + 1, c', A, ls, rfl, by go_num, by omega, rfl, HO7, hd7, HG7, HM2⟩
     case measure => omega
   ·have q1 : decide (0 < p) = true := by simpa using h6
    have q2 : decide (2 < p) = false := by simpa using h8
    go_upto_region 12 with (fail)
    clear c1 q1 q2 h6 h8
    have HKr := Lib.hid (HK0.out.grown HG4.out (fun e => by injection e with e; omega))
    have hbl := HKr.out.lt
    have HCE : Hid (w4.cell? ⟨w.heap.size, 0, none⟩ = some (.slice An nn cn) ∧ w4.cell? ⟨w.heap.size, 1, none⟩ = some (.slice Ad nd cd)) := ⟨HKr.out.cell 0, HKr.out.cell 1⟩
    clear HKr
    refine wp_region_J (S := fun W' => W'.cell? ⟨w.heap.size, 0, none⟩ = some (.slice An nn cn) ∧ W'.cell? ⟨w.heap.size, 1, none⟩ = some (.slice Ad nd cd)) (J := []) (by kernel_rfl) ?_ (fun hHeld => ?_)
    ·exact HCE.out
    try dsimp only at hHeld
    refine tk 0 54 (mf 17 1) hHeld ?_
    refine tk 1 55 (mf 17 2) hHeld ?_
    refine tk 2 56 (mf 17 3) hHeld ?_
    refine tk 3 57 (mf 17 4) hHeld ?_
    refine tk 4 58 (mf 17 5) hHeld ?_
    refine tk 5 59 (mf 17 6) hHeld ?_
    refine tk 6 60 (mf 17 7) hHeld ?_
    refine tk 7 61 (mf 17 8) hHeld ?_
    refine wpAnyJ_oneL (k := 8) (mf 17 9) (by kernel_rfl) (by kernel_rfl) rfl (fun K hK => ?_)
    (go_simp; refine (next_any g 3 w4.drew hd4.out.drew (by decide)).mono ?_; rintro e w6 ⟨v6, rfl, h60, _, h61, hd6, hg6, hs6⟩; have h62 := h61.out (by decide); have HG6 := Lib.hid (grown_undrew hg6.out); clear h61 hs6; go_simp)
    refine hK.out _ _ (fun _ => ?_) (fun hHeld' => ?_)
    ·exact ⟨(World.cell?_of_block (HG6.out.block w.heap.size hbl (fun e => by injection e with e; omega))).trans HCE.out.1, (World.cell?_of_block (HG6.out.block w.heap.size hbl (fun e => by injection e with e; omega))).trans HCE.out.2⟩
    replace hHeld := hHeld' rfl
    clear hHeld' hK K
    try dsimp only at hHeld
    refine tk 9 63 (mf 17 10) hHeld ?_
    refine tk 10 64 (mf 17 11) hHeld ?_
    refine wpAnyJ_oneL (k := 11) (mf 17 12) (by kernel_rfl) (by kernel_rfl) rfl (fun K hK => ?_)
    (have HO6 := Lib.hid (HO4.out.kept HG6.out (ne_row fun b e => by have := (HO4.out.lt b e).1; omega)); have HGG := Lib.hid (grown_trans HG4.out HG6.out); have hz6 := HGG.out.size; rw [HW.out] at hz6; have HXN6 := Lib.hid (HXN.out.grown HGG.out); have HXD6 := Lib.hid (HXD.out.grown HGG.out); go_simp; refine (radd_one An Ad A nn cn nd cd c' _ _ _ ns ds ls t _ _ w6 HXN6.out.1 HXD6.out.1 (Sl.of_own HO6.out) (Nat.le_refl _) (Nat.le_refl _) (Nat.le_refl _) HSN.out HSD.out).mono ?_; rintro e w7 ⟨A7, m7, c7, er, rfl, hr7, hb7⟩; go_simp)
    refine hK.out _ _ (fun _ => ?_) (fun hHeld' => ?_)
    ·exact ⟨(hb7.out.cell (p := ⟨w.heap.size, 0, none⟩) (by simp only; omega)).trans hHeld.1, (hb7.out.cell (p := ⟨w.heap.size, 1, none⟩) (by simp only; omega)).trans hHeld.2⟩
    replace hHeld := hHeld' rfl
    clear hHeld' hK K
    try dsimp only at hHeld
    refine tk 12 53 (mf 17 13) hHeld ?_
    refine tk 13 66 (mf 17 14) hHeld ?_
    refine tk 14 67 (mf 17 15) hHeld ?_
    refine tk 15 13 (mf 17 16) hHeld ?_
    refine tk 16 14 (mf 17 17) hHeld ?_
    refine wpAnyJ_done (by kernel_rfl) ?_ _
    clear hHeld HCE
    have HG7 := Lib.hid (grown_trans HGG.out (grown_of_below hb7.out (some g)))
    have hd7 := Lib.hid (hd6.out.grown (grown_of_below hb7.out none) (fun k e => by cases e))
    have HO7 := Lib.hid (own_later HO6.out (hb7.out.mono (Nat.le_refl _)))
    clear hb7 HO6 hd6 HG6 HXN6 HXD6 HGG
    by_cases her : er = 0
    ·obtain ⟨rfl, hadd, hOn⟩ := hr7.out her
     subst her
     have HON := Lib.hid hOn
     have HM2 := Lib.hid (hM.out.put hadd (by simp only; rw [key_wrap (by omega) h60 h62]; omega) (by simp only; rw [key_wrap (by omega) h60 h62]; omega) (fun x hx h0 h2 => HPP.out x (by simpa using hx) h0 h2))
     clear hr7 hadd hOn
     go_wp2_with fail
     go_roundg (most - (k + 1))
     case rel => exact ⟨k + 1, c7, A7, _, by rw [ins_len], by go_num, by omega, rfl, by rw [ins_len]; exact World.ownsRow.mono HON.out (by omega), hd7, HG7, HM2⟩
     case measure => omega
    ·have qe : (er == 0) = false := by simpa using her
     have HM2 := Lib.hid hM.out.more
     clear hr7
     go_wp2_with fail
     go_roundg (most - (k + 1))
     case rel => exact ⟨k + 1, c', A, ls, rfl, by go_num, by omega, rfl, HO7, hd7, HG7, HM2⟩
     case measure => omega
   ·have q1 : decide (0 < x) = false := by simpa using h6
    go_upto_region 12 with (fail)
    clear c1 q1 h6
    have HKr := Lib.hid (HK0.out.grown HG4.out (fun e => by injection e with e; omega))
    have hbl := HKr.out.lt
    have HCE : Hid (w4.cell? ⟨w.heap.size, 0, none⟩ = some (.slice An nn cn) ∧ w4.cell? ⟨w.heap.size, 1, none⟩ = some (.slice Ad nd cd)) := ⟨HKr.out.cell 0, HKr.out.cell 1⟩
    clear HKr
    refine wp_region_J (S := fun W' => W'.cell? ⟨w.heap.size, 0, none⟩ = some (.slice An nn cn) ∧ W'.cell? ⟨w.heap.size, 1, none⟩ = some (.slice Ad nd cd)) (J := []) (by kernel_rfl) ?_ (fun hHeld => ?_)
    ·exact HCE.out
    try dsimp only at hHeld
    refine tk 0 54 (mf 17 1) hHeld ?_
    refine tk 1 55 (mf 17 2) hHeld ?_
    refine tk 2 56 (mf 17 3) hHeld ?_
    refine tk 3 57 (mf 17 4) hHeld ?_
    refine tk 4 58 (mf 17 5) hHeld ?_
    refine tk 5 59 (mf 17 6) hHeld ?_
    refine tk 6 60 (mf 17 7) hHeld ?_
    refine tk 7 61 (mf 17 8) hHeld ?_
    refine wpAnyJ_oneL (k := 8) (mf 17 9) (by kernel_rfl) (by kernel_rfl) rfl (fun K hK => ?_)
    (go_simp; refine (next_any g 3 w4.drew hd4.out.drew (by decide)).mono ?_; rintro e w6 ⟨v6, rfl, h60, _, h61, hd6, hg6, hs6⟩; have h62 := h61.out (by decide); have HG6 := Lib.hid (grown_undrew hg6.out); clear h61 hs6; go_simp)
    refine hK.out _ _ (fun _ => ?_) (fun hHeld' => ?_)
    ·exact ⟨(World.cell?_of_block (HG6.out.block w.heap.size hbl (fun e => by injection e with e; omega))).trans HCE.out.1, (World.cell?_of_block (HG6.out.block w.heap.size hbl (fun e => by injection e with e; omega))).trans HCE.out.2⟩
    replace hHeld := hHeld' rfl
    clear hHeld' hK K
    try dsimp only at hHeld
    refine tk 9 63 (mf 17 10) hHeld ?_
    refine tk 10 64 (mf 17 11) hHeld ?_
    refine wpAnyJ_oneL (k := 11) (mf 17 12) (by kernel_rfl) (by kernel_rfl) rfl (fun K hK => ?_)
    (have HO6 := Lib.hid (HO4.out.kept HG6.out (ne_row fun b e => by have := (HO4.out.lt b e).1; omega)); have HGG := Lib.hid (grown_trans HG4.out HG6.out); have hz6 := HGG.out.size; rw [HW.out] at hz6; have HXN6 := Lib.hid (HXN.out.grown HGG.out); have HXD6 := Lib.hid (HXD.out.grown HGG.out); go_simp; refine (radd_one An Ad A nn cn nd cd c' _ _ _ ns ds ls t _ _ w6 HXN6.out.1 HXD6.out.1 (Sl.of_own HO6.out) (Nat.le_refl _) (Nat.le_refl _) (Nat.le_refl _) HSN.out HSD.out).mono ?_; rintro e w7 ⟨A7, m7, c7, er, rfl, hr7, hb7⟩; go_simp)
    refine hK.out _ _ (fun _ => ?_) (fun hHeld' => ?_)
    ·exact ⟨(hb7.out.cell (p := ⟨w.heap.size, 0, none⟩) (by simp only; omega)).trans hHeld.1, (hb7.out.cell (p := ⟨w.heap.size, 1, none⟩) (by simp only; omega)).trans hHeld.2⟩
    replace hHeld := hHeld' rfl
    clear hHeld' hK K
    try dsimp only at hHeld
    refine tk 12 53 (mf 17 13) hHeld ?_
    refine tk 13 66 (mf 17 14) hHeld ?_
    refine tk 14 67 (mf 17 15) hHeld ?_
    refine tk 15 13 (mf 17 16) hHeld ?_
    refine tk 16 14 (mf 17 17) hHeld ?_
    refine wpAnyJ_done (by kernel_rfl) ?_ _
    clear hHeld HCE
    have HG7 := Lib.hid (grown_trans HGG.out (grown_of_below hb7.out (some g)))
    have hd7 := Lib.hid (hd6.out.grown (grown_of_below hb7.out none) (fun k e => by cases e))
    have HO7 := Lib.hid (own_later HO6.out (hb7.out.mono (Nat.le_refl _)))
    clear hb7 HO6 hd6 HG6 HXN6 HXD6 HGG
    by_cases her : er = 0
    ·obtain ⟨rfl, hadd, hOn⟩ := hr7.out her
     subst her
     have HON := Lib.hid hOn
     have HM2 := Lib.hid (hM.out.put hadd (by simp only; rw [key_wrap (by omega) h60 h62]; omega) (by simp only; rw [key_wrap (by omega) h60 h62]; omega) (fun x hx h0 h2 => HPP.out x (by simpa using hx) h0 h2))
     clear hr7 hadd hOn
     go_wp2_with fail
     go_roundg (most - (k + 1))
     case rel => exact ⟨k + 1, c7, A7, _, by rw [ins_len], by go_num, by omega, rfl, by rw [ins_len]; exact World.ownsRow.mono HON.out (by omega), hd7, HG7, HM2⟩
     case measure => omega
    ·have qe : (er == 0) = false := by simpa using her
     have HM2 := Lib.hid hM.out.more
     clear hr7
     go_wp2_with fail
     go_roundg (most - (k + 1))
     case rel => exact ⟨k + 1, c', A, ls, rfl, by go_num, by omega, rfl, HO7, hd7, HG7, HM2⟩
     case measure => omega
   ·have q1 : decide (t < n) = false := by simpa using h1
    go_upto_region 12 with (fail)
    clear q1
    have HKr := Lib.hid (HK0.out.grown HG4.out (fun e => by injection e with e; omega))
    have hbl := HKr.out.lt
    have HCE : Hid (w4.cell? ⟨w.heap.size, 0, none⟩ = some (.slice An nn cn) ∧ w4.cell? ⟨w.heap.size, 1, none⟩ = some (.slice Ad nd cd)) := ⟨HKr.out.cell 0, HKr.out.cell 1⟩
    clear HKr
    refine wp_region_J (S := fun W' => W'.cell? ⟨w.heap.size, 0, none⟩ = some (.slice An nn cn) ∧ W'.cell? ⟨w.heap.size, 1, none⟩ = some (.slice Ad nd cd)) (J := []) (by kernel_rfl) ?_ (fun hHeld => ?_)
    ·exact HCE.out
    try dsimp only at hHeld
    refine tk 0 54 (mf 17 1) hHeld ?_
    refine tk 1 55 (mf 17 2) hHeld ?_
    refine tk 2 56 (mf 17 3) hHeld ?_
    refine tk 3 57 (mf 17 4) hHeld ?_
    refine tk 4 58 (mf 17 5) hHeld ?_
    refine tk 5 59 (mf 17 6) hHeld ?_
    refine tk 6 60 (mf 17 7) hHeld ?_
    refine tk 7 61 (mf 17 8) hHeld ?_
    refine wpAnyJ_oneL (k := 8) (mf 17 9) (by kernel_rfl) (by kernel_rfl) rfl (fun K hK => ?_)
    (go_simp; refine (next_any g 3 w4.drew hd4.out.drew (by decide)).mono ?_; rintro e w6 ⟨v6, rfl, h60, _, h61, hd6, hg6, hs6⟩; have h62 := h61.out (by decide); have HG6 := Lib.hid (grown_undrew hg6.out); clear h61 hs6; go_simp)
    refine hK.out _ _ (fun _ => ?_) (fun hHeld' => ?_)
    ·exact ⟨(World.cell?_of_block (HG6.out.block w.heap.size hbl (fun e => by injection e with e; omega))).trans HCE.out.1, (World.cell?_of_block (HG6.out.block w.heap.size hbl (fun e => by injection e with e; omega))).trans HCE.out.2⟩
    replace hHeld := hHeld' rfl
    clear hHeld' hK K
    try dsimp only at hHeld
    refine tk 9 63 (mf 17 10) hHeld ?_
    refine tk 10 64 (mf 17 11) hHeld ?_
    refine wpAnyJ_oneL (k := 11) (mf 17 12) (by kernel_rfl) (by kernel_rfl) rfl (fun K hK => ?_)
    (have HO6 := Lib.hid (HO4.out.kept HG6.out (ne_row fun b e => by have := (HO4.out.lt b e).1; omega)); have HGG := Lib.hid (grown_trans HG4.out HG6.out); have hz6 := HGG.out.size; rw [HW.out] at hz6; have HXN6 := Lib.hid (HXN.out.grown HGG.out); have HXD6 := Lib.hid (HXD.out.grown HGG.out); go_simp; refine (radd_one An Ad A nn cn nd cd c' _ _ _ ns ds ls t _ _ w6 HXN6.out.1 HXD6.out.1 (Sl.of_own HO6.out) (Nat.le_refl _) (Nat.le_refl _) (Nat.le_refl _) HSN.out HSD.out).mono ?_; rintro e w7 ⟨A7, m7, c7, er, rfl, hr7, hb7⟩; go_simp)
    refine hK.out _ _ (fun _ => ?_) (fun hHeld' => ?_)
    ·exact ⟨(hb7.out.cell (p := ⟨w.heap.size, 0, none⟩) (by simp only; omega)).trans hHeld.1, (hb7.out.cell (p := ⟨w.heap.size, 1, none⟩) (by simp only; omega)).trans hHeld.2⟩
    replace hHeld := hHeld' rfl
    clear hHeld' hK K
    try dsimp only at hHeld
    refine tk 12 53 (mf 17 13) hHeld ?_
    refine tk 13 66 (mf 17 14) hHeld ?_
    refine tk 14 67 (mf 17 15) hHeld ?_
    refine tk 15 13 (mf 17 16) hHeld ?_
    refine tk 16 14 (mf 17 17) hHeld ?_
    refine wpAnyJ_done (by kernel_rfl) ?_ _
    clear hHeld HCE
    have HG7 := Lib.hid (grown_trans HGG.out (grown_of_below hb7.out (some g)))
    have hd7 := Lib.hid (hd6.out.grown (grown_of_below hb7.out none) (fun k e => by cases e))
    have HO7 := Lib.hid (own_later HO6.out (hb7.out.mono (Nat.le_refl _)))
    clear hb7 HO6 hd6 HG6 HXN6 HXD6 HGG
    by_cases her : er = 0
    ·obtain ⟨rfl, hadd, hOn⟩ := hr7.out her
     subst her
     have HON := Lib.hid hOn
     have HM2 := Lib.hid (hM.out.put hadd (by simp only; rw [key_wrap (by omega) h60 h62]; omega) (by simp only; rw [key_wrap (by omega) h60 h62]; omega) (fun x hx h0 h2 => HPP.out x (by simpa using hx) h0 h2))
     clear hr7 hadd hOn
     go_wp2_with fail
     go_roundg (most - (k + 1))
     case rel => exact ⟨k + 1, c7, A7, _, by rw [ins_len], by go_num, by omega, rfl, by rw [ins_len]; exact World.ownsRow.mono HON.out (by omega), hd7, HG7, HM2⟩
     case measure => omega
    ·have qe : (er == 0) = false := by simpa using her
     have HM2 := Lib.hid hM.out.more
     clear hr7
     go_wp2_with fail
     go_roundg (most - (k + 1))
     case rel => exact ⟨k + 1, c', A, ls, rfl, by go_num, by omega, rfl, HO7, hd7, HG7, HM2⟩
     case measure => omega
  ·have HEND : Hid (LocksPost w g most ds s (.returned (.slice A ls.length c')) wr) := ⟨A, _, c', ls, rfl, hD, grown_trans HB0.out hG.out, hO, hM.out.upto hk⟩
   by_cases hl : k < most
   ·obtain rfl : nd = 0 := by omega
    go_wp2_with fail
    go_ret
    exact HEND.out
   ·have ql : decide ((k : Int) < (most : Int)) = false := by simp; omega
    have ql2 : decide (k < most) = false := by simp; omega
    go_wp2_with fail
    go_ret
    exact HEND.out
end Go.Proofs.YtfaknfmndafllaaGreatDoor
