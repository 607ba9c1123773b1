import Derived.Test.YtddddlhgaeameaaGreatDoorM24
import Derived.Test.YtddddlhgaeameaaGreatDoorM20
set_option maxRecDepth 100000
set_option maxHeartbeats 8000000
namespace Go.Proofs.YtddddlhgaeameaaGreatDoor
open Go.RowKit
def xP (ds : List Dv) (s : List Int) (most : Nat) (ls : List Lk) : Prop := xq ds ls ∧ ls.length ≤ most ∧ ∀ k ∈ ls, 10 ≤ k.key ∧ k.key < 10 + 3 * (most : Int) ∧ ∀ x, s[k.dev.toNat]? = some x → 0 < x → x ≤ 2 → k.pos = x
def qP (w : World) (g most : Nat) (ds : List Dv) (s : List Int) (e : Ending) (w' : World) : Prop :=
 ∃ (A : Option Addr) (m c : Nat) (ls : List Lk), e = .returned (.slice A m c) ∧ Hid (zS w' g) ∧ Hid (w.grownBy w' (some g)) ∧ Hid (zt w' (w.heap.size + 1) A m c ls) ∧ Hid (xP ds s most ls)
theorem xP.nil (ds : List Dv) (s : List Int) (most : Nat) : xP ds s most [] := ⟨⟨by simp, by simp, List.Pairwise.nil⟩, by simp, by simp⟩
theorem xP.more {ds : List Dv} {s : List Int} {most : Nat} {ls : List Lk} (h : xP ds s most ls) : xP ds s (most + 1) ls := ⟨h.1, by have := h.2.1; omega, fun k hk => by obtain ⟨h1, h2, h3⟩ := h.2.2 k hk; exact ⟨h1, by omega, h3⟩⟩
theorem lB {ns : List Nd} {ds : List Dv} {ls : List Lk} {k : Lk} (h : zg ns ds ls k = 0) : xq ds (xw k ls) := by
 unfold zg at h
 split at h
 ·next h1 => exact absurd h h1
 ·next h1 =>
  split at h
  ·next h2 => exact absurd h h2
  ·next h2 =>
   split at h
   ·omega
   ·next h3 =>
    split at h
    ·omega
    ·next h4 =>
     split at h
     ·omega
     ·next h5 =>
      have hg := xA (by simpa using h1 : zO ns ds ls = 0)
      exact sy hg (by simpa using h2) (by simpa using h3) (by simpa using h4) (by have := hg.1; omega)
theorem xP.put {ns : List Nd} {ds : List Dv} {s : List Int} {j : Nat} {ls : List Lk} {k : Lk} (h : xP ds s j ls) (ha : zg ns ds ls k = 0) (h1 : 10 ≤ k.key) (h2 : k.key < 10 + 3 * ((j : Int) + 1)) (h3 : ∀ x, s[k.dev.toNat]? = some x → 0 < x → x ≤ 2 → k.pos = x) : xP ds s (j + 1) (xw k ls) := by
 refine ⟨lB ha, by rw [xe]; have := h.2.1; omega, fun y hy => ?_⟩
 rcases (mA k y ls).1 hy with rfl | hy
 ·exact ⟨h1, by omega, h3⟩
 ·obtain ⟨a, b, c⟩ := h.2.2 y hy
  exact ⟨a, by omega, c⟩
theorem xP.upto {ds : List Dv} {s : List Int} {a b : Nat} {ls : List Lk} (h : xP ds s a ls) (hab : a ≤ b) : xP ds s b ls := ⟨h.1, by have := h.2.1; omega, fun k hk => by obtain ⟨h1, h2, h3⟩ := h.2.2 k hk; exact ⟨h1, by omega, h3⟩⟩
theorem uy (An Ad Al : Option Addr) (nn cn nd cd c Bn Bd Bl : Nat) (ns : List Nd) (ds : List Dv) (ls : List Lk) (d p q : Int) (w : World) (hn : Sl w Bn 3 An nn cn (ns.flatMap Nd.cells)) (hd : Sl w Bd 5 Ad nd cd (ds.flatMap Dv.cells)) (hs : Sl w Bl 3 Al ls.length c (ls.flatMap Lk.cells)) (hBn : Bn ≤ w.heap.size) (hBd : Bd ≤ w.heap.size) (hBl : Bl ≤ w.heap.size)
 (hsn : ∀ x ∈ ns, x.name.size ≤ 9223372036854775807) (hsd : ∀ x ∈ ds, x.name.size ≤ 9223372036854775807) :
 Calls Tryz.prog 36 #[.agg #[.slice An nn cn, .slice Ad nd cd], .slice Al ls.length c, .agg #[.int .i64 d, .int .i64 p, .int .i64 q]] w fun e w' => ∃ (A' : Option Addr) (m' c' : Nat) (er : Int), e = .returned (.tuple #[.slice A' m' c', .int .i64 er]) ∧ Hid (er = 0 → m' = ls.length + 1 ∧ zg ns ds ls ⟨d, p, q⟩ = 0 ∧ zt w' w.heap.size A' m' c' (xw ⟨d, p, q⟩ ls)) ∧ Hid (Below w.heap.size w w') := by
 refine (lW An Ad Al nn cn nd cd c Bn Bd Bl ns ds ls d p q w hn hd hs hBn hBd hBl hsn hsd).mono ?_
 rintro e w' ⟨⟨h1, rfl⟩ | ⟨h1, A', c', rfl, hO⟩, hb⟩
 ·exact ⟨none, 0, 0, _, rfl, fun h => absurd h h1, hb⟩
 ·exact ⟨A', _, c', 0, rfl, fun _ => ⟨rfl, h1, hO.out⟩, hb⟩
theorem wI {k : Nat} {v : Int} (hk : k ≤ 1000) (h0 : 0 ≤ v) (h1 : v < 3) : IntKind.i64.wrap (IntKind.i64.wrap (10 + IntKind.i64.wrap (3 * (k : Int))) + v) = 10 + 3 * (k : Int) + v := by
 rw [IntWalk.i64_in (3 * (k : Int)) (by omega), IntWalk.i64_in (10 + 3 * (k : Int)) (by omega), IntWalk.i64_in _ (by omega)]
def MlR (w W : World) (g most : Nat) (ds : List Dv) (s : List Int) (gk : Nat) (ov kv : Value) (wr : World) : Prop :=
 ∃ (k c : Nat) (A : Option Addr) (ls : List Lk), ov = .slice A ls.length c ∧ kv = .int .i64 k ∧ k ≤ most ∧ gk = most - k ∧ Hid (zt wr (w.heap.size + 1) A ls.length c ls) ∧ Hid (zS wr g) ∧ Hid (W.grownBy wr (some g)) ∧ Hid (xP ds s k ls)
theorem pn (g : Nat) (An Ad As : Option Addr) (nn cn nd cd n c most : Nat) (ns : List Nd) (ds : List Dv) (s : List Int) (w : World) (hd : zS w g) (hxn : SlX w g 3 An nn cn (ns.flatMap Nd.cells)) (hxd : SlX w g 5 Ad nd cd (ds.flatMap Dv.cells)) (hxs : SlX w g 1 As n c (zK s)) (hnd : nd ≤ 1000) (hmo : most ≤ 1000)
 (hsn : ∀ x ∈ ns, x.name.size ≤ 9223372036854775807) (hsd : ∀ x ∈ ds, x.name.size ≤ 9223372036854775807) :
 Calls Tryz.prog 13 #[.pointer (some ⟨g, 0, none⟩), .agg #[.slice An nn cn, .slice Ad nd cd], .slice As n c, .int .i64 (most : Int)] w (qP w g most ds s) := by
 have hlt := hd.lt
 have HSN := iD hsn; have HSD := iD hsd
 have HD0 := iD (hd.alloc (.cells #[.slice An nn cn, .slice Ad nd cd] 26))
 have HXN := iD (hxn.alloc (.cells #[.slice An nn cn, .slice Ad nd cd] 26))
 have HXD := iD (hxd.alloc (.cells #[.slice An nn cn, .slice Ad nd cd] 26))
 have HXS := iD (hxs.alloc (.cells #[.slice An nn cn, .slice Ad nd cd] 26))
 have HSL := iD (hxs.1.len (f := fun x : Int => [Value.int .i64 x]) (fun _ => rfl) (by decide))
 have HK0 := iD (Blk.new w 26 #[.slice An nn cn, .slice Ad nd cd])
 have HB0 : Hid (w.grownBy (w.alloc (.cells #[.slice An nn cn, .slice Ad nd cd] 26)) (some g)) := zN ((Below.refl _ _).alloc lR _) _
 have HW : Hid ((w.alloc (.cells #[.slice An nn cn, .slice Ad nd cd] 26)).heap.size = w.heap.size + 1) := by unfold Hid; simp
 have hcd := hxd.1.le
 have hcs := hxs.1.le
 clear hd hxn hxd hxs hsn hsd
 go_enter Tryz.func13, Tryz.ntmps13
 go_wp2_with fail
 generalize World.alloc _ _ = W at *
 go_loopg [9, 10] most (MlR w W g most ds s)
 case atStart => exact ⟨0, 0, none, [], rfl, rfl, Nat.zero_le _, rfl, World.ownsRow_nil _ _ _ _, HD0, xC _ _, xP.nil _ _ _⟩
 case round =>
  clear HD0
  obtain ⟨k, c', A, ls, rfl, rfl, hk, rfl, hO, hD, hG, hM⟩ := hrel
  have HKr := iD (HK0.out.grown hG.out (fun e => by injection e with e; omega))
  have k1 := HKr.out.c1
  by_cases hgo : k < most ∧ 0 < nd
  ·obtain ⟨hlt2, hnd0⟩ := hgo
   go_wp2_with fail
   clear k1
   refine (wQ g 3 wr hD.out (by decide)).mono ?_
   rintro e w3 ⟨r, rfl, hd3, hg3, hs3⟩
   have HO3 := iD (hO.out.kept hg3.out (zm fun b e => by have := (hO.out.lt b e).1; omega))
   have HG3 := iD (zP hG.out hg3.out)
   clear hD hG hg3 hs3 hO HKr
   rcases r with _ | _
   rotate_left
   ·have HM2 := iD (hM.out.more)
    go_wp2_with fail
    go_roundg (most - (k + 1))
    case rel => exact ⟨k + 1, c', A, ls, rfl, by go_num, by omega, rfl, HO3, hd3, HG3, HM2⟩
    case measure => omega
   have HK3 := iD (HK0.out.grown HG3.out (fun e => by injection e with e; omega))
   have k1 := HK3.out.c1
   go_wp2_with fail
   clear k1 HK3
   refine (zW g (nd : Int) w3 hd3.out (by omega)).mono ?_
   rintro e w4 ⟨v, rfl, hv0, _, hv1, hd4, hg4, hs4⟩
   have hvn := hv1.out (by omega)
   obtain ⟨t, rfl⟩ := Int.eq_ofNat_of_zero_le hv0
   have htn : t < nd := by omega
   have HO4 := iD (HO3.out.kept hg4.out (zm fun b e => by have := (HO3.out.lt b e).1; omega))
   have HG4 := iD (zP HG3.out hg4.out)
   clear hd3 hg4 hs4 HO3 HG3 hv1 hvn hv0
   have HXS4 := iD (HXS.out.grown HG4.out)
   have hcase : (∃ x b off, t < n ∧ As = some ⟨b, off, none⟩ ∧ b < W.heap.size ∧ b ≠ g ∧ s[t]? = some x ∧ 0 < x ∧ w4.cell? ⟨b, off + t, none⟩ = some (.int .i64 x)) ∨ (∃ x b off, t < n ∧ As = some ⟨b, off, none⟩ ∧ s[t]? = some x ∧ ¬ 0 < x ∧ w4.cell? ⟨b, off + t, none⟩ = some (.int .i64 x)) ∨ ¬ t < n := by
    by_cases hts : t < n
    ·obtain ⟨b, off, x, rfl, hb, hx, hc⟩ := HXS4.out.1.at1 hts
     have hbg := HXS4.out.2 b off rfl
     by_cases h0 : 0 < x
     ·refine .inl ⟨x, b, off, hts, rfl, ?_, hbg, hx, h0, hc⟩
      obtain ⟨b', off', _, e', hb', _⟩ := HXS.out.1.at1 hts
      injection e' with e'; injection e' with e1 e2
      omega
     ·exact .inr (.inl ⟨x, b, off, hts, rfl, hx, h0, hc⟩)
    ·exact .inr (.inr hts)
   have hpos : ∃ p : Int, Hid (∀ x, s[t]? = some x → 0 < x → x ≤ 2 → p = x) ∧ ((∃ x b off, t < n ∧ As = some ⟨b, off, none⟩ ∧ b < W.heap.size ∧ b ≠ g ∧ 0 < x ∧ 2 < x ∧ Hid (∀ y, s[t]? = some y → 0 < y → y ≤ 2 → False) ∧ w4.cell? ⟨b, off + t, none⟩ = some (.int .i64 x)) ∨ (∃ b off, t < n ∧ As = some ⟨b, off, none⟩ ∧ 0 < p ∧ ¬ 2 < p ∧ w4.cell? ⟨b, off + t, none⟩ = some (.int .i64 p)) ∨ (p = 1 ∧ ∃ x b off, t < n ∧ As = some ⟨b, off, none⟩ ∧ ¬ 0 < x ∧ w4.cell? ⟨b, off + t, none⟩ = some (.int .i64 x)) ∨ (p = 1 ∧ ¬ t < n)) := by
    rcases hcase with ⟨x, b, off, h1, h2, h3, h4, h5, h6, h7⟩ | ⟨x, b, off, h1, h2, h5, h6, h7⟩ | h1
    ·by_cases h8 : 2 < x
     ·exact ⟨0, fun y hy _ hy2 => by rw [h5] at hy; injection hy with hy; omega, .inl ⟨x, b, off, h1, h2, h3, h4, h6, h8, fun y hy _ _ => by rw [h5] at hy; injection hy with hy; omega, h7⟩⟩
     ·exact ⟨x, fun y hy _ _ => by rw [h5] at hy; injection hy, .inr (.inl ⟨b, off, h1, h2, h6, h8, h7⟩)⟩
    ·exact ⟨1, fun y hy _ _ => by rw [h5] at hy; injection hy with hy; omega, .inr (.inr (.inl ⟨rfl, x, b, off, h1, h2, h6, h7⟩))⟩
    ·exact ⟨1, fun y hy _ _ => by have h9 := (List.getElem?_eq_some_iff.1 hy).1; have := HSL.out; omega, .inr (.inr (.inr ⟨rfl, h1⟩))⟩
   clear hcase HXS4
   obtain ⟨p, HPP, hcase⟩ := hpos
   rcases hcase with ⟨x, b, off, h1, rfl, h3, h4, h6, h8, HNO, c1⟩ | ⟨b, off, h1, rfl, h6, h8, c1⟩ | ⟨rfl, x, b, off, h1, rfl, h6, c1⟩ | ⟨rfl, h1⟩
   ·have q1 : decide (0 < x) = true := by simpa using h6
    have q2 : decide (2 < x) = true := by simpa using h8
    go_wp2_with fail
    clear c1 q1 q2 HPP
    refine (zW g 2 w4 hd4.out (by decide)).mono ?_
    rintro e w5 ⟨v, rfl, hv0, _, hv1, hd5, hg5, hs5⟩
    have hv2 := hv1.out (by decide)
    have HO5 := iD (HO4.out.kept hg5.out (zm fun b e => by have := (HO4.out.lt b e).1; omega))
    have HG5 := iD (zP HG4.out hg5.out)
    have HPP : Hid (∀ y, s[t]? = some y → 0 < y → y ≤ 2 → 1 + v = y) := fun y a b c => (HNO.out y a b c).elim
    clear hd4 HO4 HG4 hg5 hs5 hv1 HNO h3 h4 h6 h8
    go_upto_region 12 with (fail)
    have HKr := iD (HK0.out.grown HG5.out (fun e => by injection e with e; omega))
    have hbl := HKr.out.lt
    have HCE : Hid (w5.cell? ⟨w.heap.size, 0, none⟩ = some (.slice An nn cn) ∧ w5.cell? ⟨w.heap.size, 1, none⟩ = some (.slice Ad nd cd)) := ⟨HKr.out.cell 0, HKr.out.cell 1⟩
    clear HKr
    refine zF (S := fun W' => W'.cell? ⟨w.heap.size, 0, none⟩ = some (.slice An nn cn) ∧ W'.cell? ⟨w.heap.size, 1, none⟩ = some (.slice Ad nd cd)) (J := []) (by kernel_rfl) ?_ (fun AA => ?_)
    ·exact HCE.out
    try dsimp only at AA
    refine tk 0 54 (mf 17 1) AA ?_
    refine tk 1 55 (mf 17 2) AA ?_
    refine tk 2 56 (mf 17 3) AA ?_
    refine tk 3 57 (mf 17 4) AA ?_
    refine tk 4 58 (mf 17 5) AA ?_
    refine tk 5 59 (mf 17 6) AA ?_
    refine tk 6 60 (mf 17 7) AA ?_
    refine tk 7 61 (mf 17 8) AA ?_
    refine tb 8 (mf 17 9) fun K hK => ?_
    (go_simp; refine (zW g 3 w5.drew hd5.out.drew (by decide)).mono ?_; rintro e w6 ⟨v6, rfl, h60, _, h61, hd6, hg6, hs6⟩; have h62 := h61.out (by decide); have HG6 := iD (xg hg6.out); clear h61 hs6; go_simp)
    refine hK.out _ _ (fun _ => ?_) (fun AA' => ?_)
    ·exact ⟨(World.cell?_of_block (HG6.out.block w.heap.size hbl (fun e => by injection e with e; omega))).trans HCE.out.1, (World.cell?_of_block (HG6.out.block w.heap.size hbl (fun e => by injection e with e; omega))).trans HCE.out.2⟩
    replace AA := AA' rfl
    clear AA' hK K
    try dsimp only at AA
    refine tk 9 63 (mf 17 10) AA ?_
    refine tk 10 64 (mf 17 11) AA ?_
    refine tb 11 (mf 17 12) fun K hK => ?_
    (have HO6 := iD (HO5.out.kept HG6.out (zm fun b e => by have := (HO5.out.lt b e).1; omega)); have HGG := iD (zP HG5.out HG6.out); have hz6 := HGG.out.size; rw [HW.out] at hz6; have HXN6 := iD (HXN.out.grown HGG.out); have HXD6 := iD (HXD.out.grown HGG.out); go_simp; refine (uy An Ad A nn cn nd cd c' _ _ _ ns ds ls t _ _ w6 HXN6.out.1 HXD6.out.1 (Sl.of_own HO6.out) lR lR lR HSN.out HSD.out).mono ?_; rintro e w7 ⟨A7, m7, c7, er, rfl, hr7, hb7⟩; go_simp)
    refine hK.out _ _ (fun _ => ?_) (fun AA' => ?_)
    ·exact ⟨(hb7.out.cell (p := ⟨w.heap.size, 0, none⟩) (by simp only; omega)).trans AA.1, (hb7.out.cell (p := ⟨w.heap.size, 1, none⟩) (by simp only; omega)).trans AA.2⟩
    replace AA := AA' rfl
    clear AA' hK K
    try dsimp only at AA
    refine tk 12 53 (mf 17 13) AA ?_
    refine tk 13 66 (mf 17 14) AA ?_
    refine tk 14 67 (mf 17 15) AA ?_
    refine tk 15 13 (mf 17 16) AA ?_
    refine tk 16 14 (mf 17 17) AA ?_
    refine zC (by kernel_rfl) ?_ _
    clear AA HCE
    have HG7 := iD (zP HGG.out (zN hb7.out (some g)))
    have hd7 := iD (hd6.out.grown (zN hb7.out none) (fun k e => by cases e))
    have HO7 := iD (zx HO6.out (hb7.out.mono lR))
    clear hb7 HO6 hd6 HG6 HXN6 HXD6 HGG
    by_cases her : er = 0
    ·obtain ⟨rfl, hadd, hOn⟩ := hr7.out her
     subst her
     have HON := iD hOn
     have HM2 := iD (hM.out.put hadd (by simp only; rw [wI (by omega) h60 h62]; omega) (by simp only; rw [wI (by omega) h60 h62]; omega) (fun x hx h0 h2 => HPP.out x (by simpa using hx) h0 h2))
     clear hr7 hadd hOn
     go_wp2_with fail
     go_roundg (most - (k + 1))
     case rel => exact ⟨k + 1, c7, A7, _, by rw [xe], by go_num, by omega, rfl, by rw [xe]; exact World.ownsRow.mono HON.out (by omega), hd7, HG7, HM2⟩
     case measure => omega
    ·have qe : (er == 0) = false := by simpa using her
     have HM2 := iD hM.out.more
     clear hr7
     go_wp2_with fail
     go_roundg (most - (k + 1))
     case rel => exact ⟨k + 1, c', A, ls, rfl, by go_num, by omega, rfl, HO7, hd7, HG7, HM2⟩
     case measure => omega
   ·have q1 : decide (0 < p) = true := by simpa using h6
    have q2 : decide (2 < p) = false := by simpa using h8
    go_upto_region 12 with (fail)
    clear c1 q1 q2 h6 h8
    have HKr := iD (HK0.out.grown HG4.out (fun e => by injection e with e; omega))
    have hbl := HKr.out.lt
    have HCE : Hid (w4.cell? ⟨w.heap.size, 0, none⟩ = some (.slice An nn cn) ∧ w4.cell? ⟨w.heap.size, 1, none⟩ = some (.slice Ad nd cd)) := ⟨HKr.out.cell 0, HKr.out.cell 1⟩
    clear HKr
    refine zF (S := fun W' => W'.cell? ⟨w.heap.size, 0, none⟩ = some (.slice An nn cn) ∧ W'.cell? ⟨w.heap.size, 1, none⟩ = some (.slice Ad nd cd)) (J := []) (by kernel_rfl) ?_ (fun AA => ?_)
    ·exact HCE.out
    try dsimp only at AA
    refine tk 0 54 (mf 17 1) AA ?_
    refine tk 1 55 (mf 17 2) AA ?_
    refine tk 2 56 (mf 17 3) AA ?_
    refine tk 3 57 (mf 17 4) AA ?_
    refine tk 4 58 (mf 17 5) AA ?_
    refine tk 5 59 (mf 17 6) AA ?_
    refine tk 6 60 (mf 17 7) AA ?_
    refine tk 7 61 (mf 17 8) AA ?_
    refine tb 8 (mf 17 9) fun K hK => ?_
    (go_simp; refine (zW g 3 w4.drew hd4.out.drew (by decide)).mono ?_; rintro e w6 ⟨v6, rfl, h60, _, h61, hd6, hg6, hs6⟩; have h62 := h61.out (by decide); have HG6 := iD (xg hg6.out); clear h61 hs6; go_simp)
    refine hK.out _ _ (fun _ => ?_) (fun AA' => ?_)
    ·exact ⟨(World.cell?_of_block (HG6.out.block w.heap.size hbl (fun e => by injection e with e; omega))).trans HCE.out.1, (World.cell?_of_block (HG6.out.block w.heap.size hbl (fun e => by injection e with e; omega))).trans HCE.out.2⟩
    replace AA := AA' rfl
    clear AA' hK K
    try dsimp only at AA
    refine tk 9 63 (mf 17 10) AA ?_
    refine tk 10 64 (mf 17 11) AA ?_
    refine tb 11 (mf 17 12) fun K hK => ?_
    (have HO6 := iD (HO4.out.kept HG6.out (zm fun b e => by have := (HO4.out.lt b e).1; omega)); have HGG := iD (zP HG4.out HG6.out); have hz6 := HGG.out.size; rw [HW.out] at hz6; have HXN6 := iD (HXN.out.grown HGG.out); have HXD6 := iD (HXD.out.grown HGG.out); go_simp; refine (uy An Ad A nn cn nd cd c' _ _ _ ns ds ls t _ _ w6 HXN6.out.1 HXD6.out.1 (Sl.of_own HO6.out) lR lR lR HSN.out HSD.out).mono ?_; rintro e w7 ⟨A7, m7, c7, er, rfl, hr7, hb7⟩; go_simp)
    refine hK.out _ _ (fun _ => ?_) (fun AA' => ?_)
    ·exact ⟨(hb7.out.cell (p := ⟨w.heap.size, 0, none⟩) (by simp only; omega)).trans AA.1, (hb7.out.cell (p := ⟨w.heap.size, 1, none⟩) (by simp only; omega)).trans AA.2⟩
    replace AA := AA' rfl
    clear AA' hK K
    try dsimp only at AA
    refine tk 12 53 (mf 17 13) AA ?_
    refine tk 13 66 (mf 17 14) AA ?_
    refine tk 14 67 (mf 17 15) AA ?_
    refine tk 15 13 (mf 17 16) AA ?_
    refine tk 16 14 (mf 17 17) AA ?_
    refine zC (by kernel_rfl) ?_ _
    clear AA HCE
    have HG7 := iD (zP HGG.out (zN hb7.out (some g)))
    have hd7 := iD (hd6.out.grown (zN hb7.out none) (fun k e => by cases e))
    have HO7 := iD (zx HO6.out (hb7.out.mono lR))
    clear hb7 HO6 hd6 HG6 HXN6 HXD6 HGG
    by_cases her : er = 0
    ·obtain ⟨rfl, hadd, hOn⟩ := hr7.out her
     subst her
     have HON := iD hOn
     have HM2 := iD (hM.out.put hadd (by simp only; rw [wI (by omega) h60 h62]; omega) (by simp only; rw [wI (by omega) h60 h62]; omega) (fun x hx h0 h2 => HPP.out x (by simpa using hx) h0 h2))
     clear hr7 hadd hOn
     go_wp2_with fail
     go_roundg (most - (k + 1))
     case rel => exact ⟨k + 1, c7, A7, _, by rw [xe], by go_num, by omega, rfl, by rw [xe]; exact World.ownsRow.mono HON.out (by omega), hd7, HG7, HM2⟩
     case measure => omega
    ·have qe : (er == 0) = false := by simpa using her
     have HM2 := iD hM.out.more
     clear hr7
     go_wp2_with fail
     go_roundg (most - (k + 1))
     case rel => exact ⟨k + 1, c', A, ls, rfl, by go_num, by omega, rfl, HO7, hd7, HG7, HM2⟩
     case measure => omega
   ·have q1 : decide (0 < x) = false := by simpa using h6
    go_upto_region 12 with (fail)
    clear c1 q1 h6
    have HKr := iD (HK0.out.grown HG4.out (fun e => by injection e with e; omega))
    have hbl := HKr.out.lt
    have HCE : Hid (w4.cell? ⟨w.heap.size, 0, none⟩ = some (.slice An nn cn) ∧ w4.cell? ⟨w.heap.size, 1, none⟩ = some (.slice Ad nd cd)) := ⟨HKr.out.cell 0, HKr.out.cell 1⟩
    clear HKr
    refine zF (S := fun W' => W'.cell? ⟨w.heap.size, 0, none⟩ = some (.slice An nn cn) ∧ W'.cell? ⟨w.heap.size, 1, none⟩ = some (.slice Ad nd cd)) (J := []) (by kernel_rfl) ?_ (fun AA => ?_)
    ·exact HCE.out
    try dsimp only at AA
    refine tk 0 54 (mf 17 1) AA ?_
    refine tk 1 55 (mf 17 2) AA ?_
    refine tk 2 56 (mf 17 3) AA ?_
    refine tk 3 57 (mf 17 4) AA ?_
    refine tk 4 58 (mf 17 5) AA ?_
    refine tk 5 59 (mf 17 6) AA ?_
    refine tk 6 60 (mf 17 7) AA ?_
    refine tk 7 61 (mf 17 8) AA ?_
    refine tb 8 (mf 17 9) fun K hK => ?_
    (go_simp; refine (zW g 3 w4.drew hd4.out.drew (by decide)).mono ?_; rintro e w6 ⟨v6, rfl, h60, _, h61, hd6, hg6, hs6⟩; have h62 := h61.out (by decide); have HG6 := iD (xg hg6.out); clear h61 hs6; go_simp)
    refine hK.out _ _ (fun _ => ?_) (fun AA' => ?_)
    ·exact ⟨(World.cell?_of_block (HG6.out.block w.heap.size hbl (fun e => by injection e with e; omega))).trans HCE.out.1, (World.cell?_of_block (HG6.out.block w.heap.size hbl (fun e => by injection e with e; omega))).trans HCE.out.2⟩
    replace AA := AA' rfl
    clear AA' hK K
    try dsimp only at AA
    refine tk 9 63 (mf 17 10) AA ?_
    refine tk 10 64 (mf 17 11) AA ?_
    refine tb 11 (mf 17 12) fun K hK => ?_
    (have HO6 := iD (HO4.out.kept HG6.out (zm fun b e => by have := (HO4.out.lt b e).1; omega)); have HGG := iD (zP HG4.out HG6.out); have hz6 := HGG.out.size; rw [HW.out] at hz6; have HXN6 := iD (HXN.out.grown HGG.out); have HXD6 := iD (HXD.out.grown HGG.out); go_simp; refine (uy An Ad A nn cn nd cd c' _ _ _ ns ds ls t _ _ w6 HXN6.out.1 HXD6.out.1 (Sl.of_own HO6.out) lR lR lR HSN.out HSD.out).mono ?_; rintro e w7 ⟨A7, m7, c7, er, rfl, hr7, hb7⟩; go_simp)
    refine hK.out _ _ (fun _ => ?_) (fun AA' => ?_)
    ·exact ⟨(hb7.out.cell (p := ⟨w.heap.size, 0, none⟩) (by simp only; omega)).trans AA.1, (hb7.out.cell (p := ⟨w.heap.size, 1, none⟩) (by simp only; omega)).trans AA.2⟩
    replace AA := AA' rfl
    clear AA' hK K
    try dsimp only at AA
    refine tk 12 53 (mf 17 13) AA ?_
    refine tk 13 66 (mf 17 14) AA ?_
    refine tk 14 67 (mf 17 15) AA ?_
    refine tk 15 13 (mf 17 16) AA ?_
    refine tk 16 14 (mf 17 17) AA ?_
    refine zC (by kernel_rfl) ?_ _
    clear AA HCE
    have HG7 := iD (zP HGG.out (zN hb7.out (some g)))
    have hd7 := iD (hd6.out.grown (zN hb7.out none) (fun k e => by cases e))
    have HO7 := iD (zx HO6.out (hb7.out.mono lR))
    clear hb7 HO6 hd6 HG6 HXN6 HXD6 HGG
    by_cases her : er = 0
    ·obtain ⟨rfl, hadd, hOn⟩ := hr7.out her
     subst her
     have HON := iD hOn
     have HM2 := iD (hM.out.put hadd (by simp only; rw [wI (by omega) h60 h62]; omega) (by simp only; rw [wI (by omega) h60 h62]; omega) (fun x hx h0 h2 => HPP.out x (by simpa using hx) h0 h2))
     clear hr7 hadd hOn
     go_wp2_with fail
     go_roundg (most - (k + 1))
     case rel => exact ⟨k + 1, c7, A7, _, by rw [xe], by go_num, by omega, rfl, by rw [xe]; exact World.ownsRow.mono HON.out (by omega), hd7, HG7, HM2⟩
     case measure => omega
    ·have qe : (er == 0) = false := by simpa using her
     have HM2 := iD hM.out.more
     clear hr7
     go_wp2_with fail
     go_roundg (most - (k + 1))
     case rel => exact ⟨k + 1, c', A, ls, rfl, by go_num, by omega, rfl, HO7, hd7, HG7, HM2⟩
     case measure => omega
   ·have q1 : decide (t < n) = false := by simpa using h1
    go_upto_region 12 with (fail)
    clear q1
    have HKr := iD (HK0.out.grown HG4.out (fun e => by injection e with e; omega))
    have hbl := HKr.out.lt
    have HCE : Hid (w4.cell? ⟨w.heap.size, 0, none⟩ = some (.slice An nn cn) ∧ w4.cell? ⟨w.heap.size, 1, none⟩ = some (.slice Ad nd cd)) := ⟨HKr.out.cell 0, HKr.out.cell 1⟩
    clear HKr
    refine zF (S := fun W' => W'.cell? ⟨w.heap.size, 0, none⟩ = some (.slice An nn cn) ∧ W'.cell? ⟨w.heap.size, 1, none⟩ = some (.slice Ad nd cd)) (J := []) (by kernel_rfl) ?_ (fun AA => ?_)
    ·exact HCE.out
    try dsimp only at AA
    refine tk 0 54 (mf 17 1) AA ?_
    refine tk 1 55 (mf 17 2) AA ?_
    refine tk 2 56 (mf 17 3) AA ?_
    refine tk 3 57 (mf 17 4) AA ?_
    refine tk 4 58 (mf 17 5) AA ?_
    refine tk 5 59 (mf 17 6) AA ?_
    refine tk 6 60 (mf 17 7) AA ?_
    refine tk 7 61 (mf 17 8) AA ?_
    refine tb 8 (mf 17 9) fun K hK => ?_
    (go_simp; refine (zW g 3 w4.drew hd4.out.drew (by decide)).mono ?_; rintro e w6 ⟨v6, rfl, h60, _, h61, hd6, hg6, hs6⟩; have h62 := h61.out (by decide); have HG6 := iD (xg hg6.out); clear h61 hs6; go_simp)
    refine hK.out _ _ (fun _ => ?_) (fun AA' => ?_)
    ·exact ⟨(World.cell?_of_block (HG6.out.block w.heap.size hbl (fun e => by injection e with e; omega))).trans HCE.out.1, (World.cell?_of_block (HG6.out.block w.heap.size hbl (fun e => by injection e with e; omega))).trans HCE.out.2⟩
    replace AA := AA' rfl
    clear AA' hK K
    try dsimp only at AA
    refine tk 9 63 (mf 17 10) AA ?_
    refine tk 10 64 (mf 17 11) AA ?_
    refine tb 11 (mf 17 12) fun K hK => ?_
    (have HO6 := iD (HO4.out.kept HG6.out (zm fun b e => by have := (HO4.out.lt b e).1; omega)); have HGG := iD (zP HG4.out HG6.out); have hz6 := HGG.out.size; rw [HW.out] at hz6; have HXN6 := iD (HXN.out.grown HGG.out); have HXD6 := iD (HXD.out.grown HGG.out); go_simp; refine (uy An Ad A nn cn nd cd c' _ _ _ ns ds ls t _ _ w6 HXN6.out.1 HXD6.out.1 (Sl.of_own HO6.out) lR lR lR HSN.out HSD.out).mono ?_; rintro e w7 ⟨A7, m7, c7, er, rfl, hr7, hb7⟩; go_simp)
    refine hK.out _ _ (fun _ => ?_) (fun AA' => ?_)
    ·exact ⟨(hb7.out.cell (p := ⟨w.heap.size, 0, none⟩) (by simp only; omega)).trans AA.1, (hb7.out.cell (p := ⟨w.heap.size, 1, none⟩) (by simp only; omega)).trans AA.2⟩
    replace AA := AA' rfl
    clear AA' hK K
    try dsimp only at AA
    refine tk 12 53 (mf 17 13) AA ?_
    refine tk 13 66 (mf 17 14) AA ?_
    refine tk 14 67 (mf 17 15) AA ?_
    refine tk 15 13 (mf 17 16) AA ?_
    refine tk 16 14 (mf 17 17) AA ?_
    refine zC (by kernel_rfl) ?_ _
    clear AA HCE
    have HG7 := iD (zP HGG.out (zN hb7.out (some g)))
    have hd7 := iD (hd6.out.grown (zN hb7.out none) (fun k e => by cases e))
    have HO7 := iD (zx HO6.out (hb7.out.mono lR))
    clear hb7 HO6 hd6 HG6 HXN6 HXD6 HGG
    by_cases her : er = 0
    ·obtain ⟨rfl, hadd, hOn⟩ := hr7.out her
     subst her
     have HON := iD hOn
     have HM2 := iD (hM.out.put hadd (by simp only; rw [wI (by omega) h60 h62]; omega) (by simp only; rw [wI (by omega) h60 h62]; omega) (fun x hx h0 h2 => HPP.out x (by simpa using hx) h0 h2))
     clear hr7 hadd hOn
     go_wp2_with fail
     go_roundg (most - (k + 1))
     case rel => exact ⟨k + 1, c7, A7, _, by rw [xe], by go_num, by omega, rfl, by rw [xe]; exact World.ownsRow.mono HON.out (by omega), hd7, HG7, HM2⟩
     case measure => omega
    ·have qe : (er == 0) = false := by simpa using her
     have HM2 := iD hM.out.more
     clear hr7
     go_wp2_with fail
     go_roundg (most - (k + 1))
     case rel => exact ⟨k + 1, c', A, ls, rfl, by go_num, by omega, rfl, HO7, hd7, HG7, HM2⟩
     case measure => omega
  ·have HEND : Hid (qP w g most ds s (.returned (.slice A ls.length c')) wr) := ⟨A, _, c', ls, rfl, hD, zP HB0.out hG.out, hO, hM.out.upto hk⟩
   by_cases hl : k < most
   ·obtain rfl : nd = 0 := by omega
    go_wp2_with fail
    go_ret
    exact HEND.out
   ·have ql : decide ((k : Int) < (most : Int)) = false := by simp; omega
    have ql2 : decide (k < most) = false := by simp; omega
    go_wp2_with fail
    go_ret
    exact HEND.out
end Go.Proofs.YtddddlhgaeameaaGreatDoor
