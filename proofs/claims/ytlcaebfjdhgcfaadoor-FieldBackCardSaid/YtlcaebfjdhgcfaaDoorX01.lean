import Derived.Test.YtlcaebfjdhgcfaaDoorX00
import Derived.Test.YtlcaebfjdhgcfaaDoorZ18
/-
  The reference's Same at two readings of one field.
-/
namespace Go.Proofs.YtlcaebfjdhgcfaaDoor
open Go.RowKit
/-- A field in a box. -/
structure Fx (g bx : Nat) (An Ad A1 A2 A3 : Option Addr) (cn nd cd n1 c1 n2 c2 n3 c3 : Nat) (ns : List Nd) (ds : List Dv) (G : Fd) (wr : World) : Prop where
  f : Blk wr bx 33 #[.slice A1 n1 c1, .slice A2 n2 c2, .slice A3 n3 c3]
  y : FdX g An Ad A1 A2 A3 6 cn nd cd n1 c1 n2 c2 n3 c3 ns ds G wr
theorem Fx.later {g bx : Nat} {An Ad A1 A2 A3 : Option Addr} {cn nd cd n1 c1 n2 c2 n3 c3 : Nat} {ns : List Nd} {ds : List Dv} {G : Fd} {wr wr' : World} (h : Fx g bx An Ad A1 A2 A3 cn nd cd n1 c1 n2 c2 n3 c3 ns ds G wr) (hb : Below wr.heap.size wr wr') : Fx g bx An Ad A1 A2 A3 cn nd cd n1 c1 n2 c2 n3 c3 ns ds G wr' :=
  ⟨h.f.below hb h.f.lt, h.y.later hb⟩
theorem FlM.fx {w wr wr' : World} {nb : Nat} {An Ad As Al At A1 A2 A3 : Option Addr} {cn nd cd n c nl cl nt ct n1 c1 n2 c2 n3 c3 : Nat} {ns : List Nd} {ds : List Dv} {F G : Fd} (h : FlM w nb An Ad As Al At cn nd cd n c nl cl nt ct ns ds F wr) (hb : Below wr.heap.size wr wr') (hi : IntsO wr' wr.heap.size A1 n1 c1 G.s ∧ LocksO wr' wr.heap.size A2 n2 c2 G.ls ∧ IntsO wr' wr.heap.size A3 n3 c3 G.st) :
    Fx w.heap.size wr'.heap.size An Ad A1 A2 A3 cn nd cd n1 c1 n2 c2 n3 c3 ns ds G (wr'.alloc (.cells #[.slice A1 n1 c1, .slice A2 n2 c2, .slice A3 n3 c3] 33)) :=
  ⟨Blk.new _ _ _, (h.step hb hi.1 hi.2.1 hi.2.2).alloc _⟩
set_option maxRecDepth 100000 in
set_option maxHeartbeats 4000000 in
theorem rsame_any (A1 A2 A3 B1 B2 B3 : Option Addr) (n1 c1 n2 c2 n3 c3 m1 d1 m2 d2 m3 d3 : Nat) (F : Fd) (w : World) (a1 : Sl w w.heap.size 1 A1 n1 c1 (intsV F.s)) (a2 : Sl w w.heap.size 3 A2 n2 c2 (F.ls.flatMap Lk.cells)) (a3 : Sl w w.heap.size 1 A3 n3 c3 (intsV F.st))
    (b1 : Sl w w.heap.size 1 B1 m1 d1 (intsV F.s)) (b2 : Sl w w.heap.size 3 B2 m2 d2 (F.ls.flatMap Lk.cells)) (b3 : Sl w w.heap.size 1 B3 m3 d3 (intsV F.st)) :
    Calls Tryd.prog 17 #[.agg #[.slice A1 n1 c1, .slice A2 n2 c2, .slice A3 n3 c3], .agg #[.slice B1 m1 d1, .slice B2 m2 d2, .slice B3 m3 d3]] w fun e w' => e = .returned (.bool true) ∧ Below w.heap.size w w' := by
  have HB0 : Hid (Below w.heap.size w ((w.alloc (.cells #[.slice A1 n1 c1, .slice A2 n2 c2, .slice A3 n3 c3] 33)).alloc (.cells #[.slice B1 m1 d1, .slice B2 m2 d2, .slice B3 m3 d3] 33))) := ((Below.refl _ _).alloc (Nat.le_refl _) _).alloc (by simp) _
  have HX0 : Hid (Blk ((w.alloc (.cells #[.slice A1 n1 c1, .slice A2 n2 c2, .slice A3 n3 c3] 33)).alloc (.cells #[.slice B1 m1 d1, .slice B2 m2 d2, .slice B3 m3 d3] 33)) w.heap.size 33 #[.slice A1 n1 c1, .slice A2 n2 c2, .slice A3 n3 c3]) := (Blk.new w _ _).alloc _
  have HY0 : Hid (Blk ((w.alloc (.cells #[.slice A1 n1 c1, .slice A2 n2 c2, .slice A3 n3 c3] 33)).alloc (.cells #[.slice B1 m1 d1, .slice B2 m2 d2, .slice B3 m3 d3] 33)) (w.heap.size + 1) 33 #[.slice B1 m1 d1, .slice B2 m2 d2, .slice B3 m3 d3]) := by
    have hy := Blk.new (w.alloc (.cells #[.slice A1 n1 c1, .slice A2 n2 c2, .slice A3 n3 c3] 33)) 33 #[.slice B1 m1 d1, .slice B2 m2 d2, .slice B3 m3 d3]
    rwa [World.size_alloc] at hy
  have HS := Lib.hid (And.intro (And.intro a1 (And.intro a2 a3)) (And.intro b1 (And.intro b2 b3)))
  clear a1 a2 a3 b1 b2 b3
  go_enter Tryd.func17, Tryd.ntmps17
  go_upto_region 1 with (fail)
  generalize World.alloc (World.alloc _ _) _ = w1 at *
  have hz := HB0.out.size
  have x0 := HX0.out.cell 0
  have y0 := HY0.out.cell 0
  go_wp2_with fail
  clear x0 y0
  refine (ints_any A1 B1 n1 c1 m1 d1 w.heap.size w.heap.size F.s F.s w1 (HS.out.1.1.below HB0.out (Nat.le_refl _)) (HS.out.2.1.below HB0.out (Nat.le_refl _)) hz hz).mono ?_
  rintro e w2 ⟨rfl, hb2⟩
  rw [decide_eq_true rfl]
  have HB2 := Lib.hid (HB0.out.trans (hb2.mono hz))
  have HX2 := Lib.hid (HX0.out.below hb2 HX0.out.lt)
  have HY2 := Lib.hid (HY0.out.below hb2 HY0.out.lt)
  clear hb2 HB0 HX0 HY0 hz
  have hz := HB2.out.size
  have x1 := HX2.out.cell 1
  have y1 := HY2.out.cell 1
  go_wp2_with fail
  clear x1 y1
  refine (same_any A2 B2 n2 c2 m2 d2 w.heap.size w.heap.size F.ls F.ls w2 (HS.out.1.2.1.below HB2.out (Nat.le_refl _)) (HS.out.2.2.1.below HB2.out (Nat.le_refl _)) hz hz).mono ?_
  rintro e w3 ⟨rfl, hb3⟩
  have hdd : ∀ (I : Decidable (F.ls = F.ls)), @decide (F.ls = F.ls) I = true := fun I => @decide_eq_true _ I rfl
  rw [hdd]
  clear hdd
  have HB3 := Lib.hid (HB2.out.trans (hb3.mono hz))
  have HX3 := Lib.hid (HX2.out.below hb3 HX2.out.lt)
  have HY3 := Lib.hid (HY2.out.below hb3 HY2.out.lt)
  clear hb3 HB2 HX2 HY2 hz
  have hz := HB3.out.size
  have x2 := HX3.out.cell 2
  have y2 := HY3.out.cell 2
  go_wp2_with fail
  clear x2 y2
  refine (ints_any A3 B3 n3 c3 m3 d3 w.heap.size w.heap.size F.st F.st w3 (HS.out.1.2.2.below HB3.out (Nat.le_refl _)) (HS.out.2.2.2.below HB3.out (Nat.le_refl _)) hz hz).mono ?_
  rintro e w4 ⟨rfl, hb4⟩
  rw [decide_eq_true rfl]
  go_wp2_with fail
  go_ret
  exact ⟨rfl, HB3.out.trans (hb4.mono hz)⟩
end Go.Proofs.YtlcaebfjdhgcfaaDoor
/-
  FieldBack: its walk.
-/
namespace Go.Proofs.YtlcaebfjdhgcfaaDoor
open Go.RowKit
set_option maxRecDepth 100000 in
set_option maxHeartbeats 16000000 in
theorem walk_FieldBack (w : World) (hl : Laid w) (A : Option Addr) (n c : Nat) (zs : List Int) (hs : Sl w w.heap.size 1 A n c (intsV zs)) (_hz : ∀ z ∈ zs, (Lit.int .i64 z).wf = true) :
    Calls Tryd.prog 5 #[.slice A n c] w fun e w' => e = .returned (.bool true) ∧ Below w.heap.size w w' := by
  have hnm := hs.le
  have HL0 := Lib.hid hl; have HS0 := Lib.hid hs
  clear hl hs _hz
  go_enter Tryd.func5, Tryd.ntmps5
  go_wp2_with fail
  refine (awake_any w HL0.out).mono ?_
  rintro e w1 ⟨rfl, hb1⟩
  have HB0 := Lib.hid hb1
  have HL := Lib.hid (HL0.out.below hb1 (Nat.le_refl _))
  have HS := Lib.hid (HS0.out.below hb1 (Nat.le_refl _))
  have hsz := hb1.size
  clear hb1 HL0 HS0
  have HF := Lib.hid (few_any A n c w1 (by omega))
  rcases hf : decide (n ≤ 400) with _ | _
  · rw [hf] at HF
    clear hf
    go_wp2_with fail
    refine HF.out.mono ?_
    rintro e w2 ⟨rfl, rfl⟩
    go_wp2_with fail
    refine (awake_any w1 HL.out).mono ?_
    rintro e w2 ⟨rfl, hb⟩
    go_wp2_with fail
    go_ret
    exact ⟨rfl, HB0.out.trans (hb.mono hsz)⟩
  rw [hf] at HF
  clear hf
  go_wp2_with fail
  refine HF.out.mono ?_
  rintro e w2 ⟨rfl, rfl⟩
  clear HF
  go_wp2_with fail
  refine (new_any A n c w.heap.size zs w1 HS.out hsz).mono ?_
  rintro e w2 ⟨rfl, hd2, hb2, hs2⟩
  go_wp2_with fail
  refine (start_any w1.heap.size w2 w1 hd2.out (HL.out.below hb2.out (Nat.le_refl _)) HL.out (Nat.le_refl _)).mono ?_
  rintro e w3 ⟨An, Ad, As, Al, At, cn, nd, cd, n0, c0, nl, cl, nt, ct, ns, ds, F, rfl, hg3, hX3, hF3, hn3, hL3⟩
  have HM4 := Lib.hid (FlM.mk0 hb2.out hs2.out hg3.out hX3.out)
  have HF4 := Lib.hid hF3.out
  have HK4 := Lib.hid hL3.out
  obtain ⟨hnd9, hnd10⟩ := hn3.out
  clear hd2 hb2 hs2 hg3 hX3 hF3 hn3 hL3 HS
  go_upto_region 5 with (fail)
  obtain ⟨nb, hnb⟩ : ∃ x, x = w3.heap.size := ⟨_, rfl⟩
  rw [← hnb] at HM4 ⊢
  clear hnb
  generalize World.alloc (World.alloc w3 _) _ = w4 at *
  obtain rfl : nd = n0 := by have h1 := HM4.out.ln; have h2 := (stateErr_len (fdErr_zero HF4.out).1).2.1; omega
  have hdl : ds.length = nd := HM4.out.ln.2.1
  have HMD := Lib.hid (HM4.out.later (Below.refl _ _).drew)
  clear HM4
  refine wp_region_ord (S := fun W' => W'.cell? ⟨nb, 1, none⟩ = some (.slice Ad nd cd)) (J := []) (n := _) ((0, true) :: (1, true) :: (2, true) :: (3, true) :: (5, true) :: (6, true) :: (7, true) :: (8, true) :: (4, false) :: (9, false) :: (10, true) :: (11, true) :: []) (by as_aux_lemma => kernel_rfl) (by rfl) (base_cons (k := 3) (by go_simp; rfl) (base_cons (k := 4) (by go_simp; rfl) base_nil)) ?_ (fun _ _ _ _ _ h => h) (fun Q2 A hsz hbase hn2 hHeld => ?_)
  · exact HMD.out.bn.cell 1
  try dsimp only at hHeld
  obtain ⟨b3, b4, -⟩ := hbase
  refine ord_move (i := 0) (d := 34) (v := ?_) rfl rfl rfl (wanted_none rfl) hHeld (fun ρ hρ => ?_) ?_
  rotate_left
  · (have e3 := Eq.trans (hρ.tmp hsz 3 rfl) (lkp_base b3); exact e3)
  show wpOrd _ _ _ _ _ _ _ _
  refine ord_take (i := 1) (d := 35) (v := ?_) rfl rfl (wanted_none rfl) hHeld (fun ρ hρ w hSw => ?_) ?_
  rotate_left
  · (have e4 := Eq.trans (hρ.tmp hsz 4 rfl) (miss1 rfl (lkp_base b4)); clear hρ; (try dsimp only at hSw); go_simp; try with_reducible rfl)
  show wpOrd _ _ _ _ _ _ _ _
  refine ord_take (i := 2) (d := 36) (v := ?_) rfl rfl (wanted_none rfl) hHeld (fun ρ hρ w hSw => ?_) ?_
  rotate_left
  · (have e35 := Eq.trans (hρ.tmp hsz 35 rfl) lkp_hit; clear hρ; (try dsimp only at hSw); go_simp; try with_reducible rfl)
  show wpOrd _ _ _ _ _ _ _ _
  refine ord_take (i := 3) (d := 37) (v := ?_) rfl rfl (wanted_none rfl) hHeld (fun ρ hρ w hSw => ?_) ?_
  rotate_left
  · (have e36 := Eq.trans (hρ.tmp hsz 36 rfl) lkp_hit; clear hρ; (try dsimp only at hSw); go_simp; try with_reducible rfl)
  show wpOrd _ _ _ _ _ _ _ _
  refine ord_move (i := 5) (d := 39) (v := ?_) rfl rfl rfl (wanted_none rfl) hHeld (fun ρ hρ => ?_) ?_
  rotate_left
  · (have e3 := Eq.trans (hρ.tmp hsz 3 rfl) (miss4 rfl rfl rfl rfl (lkp_base b3)); exact e3)
  show wpOrd _ _ _ _ _ _ _ _
  refine ord_take (i := 6) (d := 40) (v := ?_) rfl rfl (wanted_none rfl) hHeld (fun ρ hρ w hSw => ?_) ?_
  rotate_left
  · (have e4 := Eq.trans (hρ.tmp hsz 4 rfl) (miss4 rfl rfl rfl rfl (miss1 rfl (lkp_base b4))); clear hρ; (try dsimp only at hSw); go_simp; try with_reducible rfl)
  show wpOrd _ _ _ _ _ _ _ _
  refine ord_take (i := 7) (d := 41) (v := ?_) rfl rfl (wanted_none rfl) hHeld (fun ρ hρ w hSw => ?_) ?_
  rotate_left
  · (have e40 := Eq.trans (hρ.tmp hsz 40 rfl) lkp_hit; clear hρ; (try dsimp only at hSw); go_simp; try with_reducible rfl)
  show wpOrd _ _ _ _ _ _ _ _
  refine ord_take (i := 8) (d := 42) (v := ?_) rfl rfl (wanted_none rfl) hHeld (fun ρ hρ w hSw => ?_) ?_
  rotate_left
  · (have e41 := Eq.trans (hρ.tmp hsz 41 rfl) lkp_hit; clear hρ; (try dsimp only at hSw); go_simp; try with_reducible rfl)
  show wpOrd _ _ _ _ _ _ _ _
  refine ord_call (i := 4) (d := 38) (vs := ?_) rfl rfl rfl (wanted_none rfl) (fun ρ hρ => ?_) ?_ ?_
  rotate_left
  · (have e34 := Eq.trans (hρ.tmp hsz 34 rfl) (miss4 rfl rfl rfl rfl (miss1 rfl (miss1 rfl (miss1 rfl lkp_hit)))); have e37 := Eq.trans (hρ.tmp hsz 37 rfl) (miss4 rfl rfl rfl rfl lkp_hit); simp only [List.map_toArray, List.map_cons, List.map_nil, e34, e37]; try with_reducible rfl)
  · (intro w; go_simp)
  refine (next_any w1.heap.size (nd : Int) w4.drew HMD.out.x.dk (by omega)).mono ?_
  rintro e w5 ⟨r1, rfl, ra1, -, rb1, hd5, hg5, -⟩
  have HM5 := Lib.hid (HMD.out.grown HL.out hg5.out hd5.out)
  clear hd5 hg5
  refine ⟨_, rfl, fun _ => ?_, fun hHeld' => ?_⟩
  · exact HM5.out.bn.cell 1
  replace hHeld := hHeld' rfl
  clear hHeld'
  try dsimp only at hHeld
  show wpOrd _ _ _ _ _ _ _ _
  refine ord_call (i := 9) (d := 43) (vs := ?_) rfl rfl rfl (wanted_none rfl) (fun ρ hρ => ?_) ?_ ?_
  rotate_left
  · (have e39 := Eq.trans (hρ.tmp hsz 39 rfl) (miss4 rfl rfl rfl rfl lkp_hit); have e42 := Eq.trans (hρ.tmp hsz 42 rfl) (miss1 rfl lkp_hit); simp only [List.map_toArray, List.map_cons, List.map_nil, e39, e42]; try with_reducible rfl)
  · (intro w; go_simp)
  refine (next_any w1.heap.size (nd : Int) w5 HM5.out.x.dk (by omega)).mono ?_
  rintro e w6 ⟨r2, rfl, ra2, -, rb2, hd6, hg6, -⟩
  have HM6 := Lib.hid (HM5.out.grown HL.out hg6.out hd6.out)
  clear hd6 hg6
  refine ⟨_, rfl, fun _ => ?_, fun hHeld' => ?_⟩
  · exact HM6.out.bn.cell 1
  replace hHeld := hHeld' rfl
  clear hHeld'
  try dsimp only at hHeld
  show wpOrd _ _ _ _ _ _ _ _
  refine ord_take (i := 10) (d := 6) (v := ?_) rfl rfl (wanted_none rfl) hHeld (fun ρ hρ w hSw => ?_) ?_
  rotate_left
  · (have e38 := Eq.trans (hρ.tmp hsz 38 rfl) (miss1 rfl lkp_hit); clear hρ; (try dsimp only at hSw); go_simp; try with_reducible rfl)
  show wpOrd _ _ _ _ _ _ _ _
  refine ord_take (i := 11) (d := 7) (v := ?_) rfl rfl (wanted_none rfl) hHeld (fun ρ hρ w hSw => ?_) ?_
  rotate_left
  · (have e43 := Eq.trans (hρ.tmp hsz 43 rfl) (miss1 rfl lkp_hit); clear hρ; (try dsimp only at hSw); go_simp; try with_reducible rfl)
  show wpOrd _ _ _ _ _ _ _ _
  refine ord_done hn2 ?_
  clear hHeld hn2 b3 b4 hsz A Q2
  simp only [puts_nil, puts_cons, put_lit, set_1, set_0]
  clear HMD HM5
  obtain ⟨i, rfl⟩ := Int.eq_ofNat_of_zero_le ra1
  obtain ⟨j, rfl⟩ := Int.eq_ofNat_of_zero_le ra2
  have hi : i < nd := by have := rb1.out (by omega); omega
  have hj : j < nd := by have := rb2.out (by omega); omega
  clear ra1 ra2 rb1 rb2
  have hil : i < ds.length := by omega
  have hjl : j < ds.length := by omega
  have hlen : F.ls.length < 127 := by have := HK4.out.1; omega
  have hk1 : ∀ x ∈ F.ls, x.key ≠ 801 := fun x hx => by have := HK4.out.2 x hx; omega
  have hk2 : ∀ x ∈ F.ls, x.key ≠ 802 := fun x hx => by have := HK4.out.2 x hx; omega
  have HC1 := Lib.hid (lck_cases (q := 801) HF4.out hil (by omega) hk1 (by decide))
  have HC2 := Lib.hid (lck_cases (q := 802) HF4.out hjl (by omega) hk2 (by decide))
  have HKK := Lib.hid (And.intro hk1 hk2)
  clear hk1 hk2 HK4
  have HM7 := Lib.hid HM6.out
  clear HM6
  have kf0 : w6.cell? ⟨nb + 1, 0, none⟩ = some (.slice As nd c0) := HM7.out.bf.cell 0
  have kf1 : w6.cell? ⟨nb + 1, 1, none⟩ = some (.slice Al nl cl) := HM7.out.bf.cell 1
  have kf2 : w6.cell? ⟨nb + 1, 2, none⟩ = some (.slice At nt ct) := HM7.out.bf.cell 2
  go_wp2_with fail
  clear kf0 kf1 kf2
  refine (lockc_any nb An Ad As Al At As Al At cn nd cd nd c0 nl cl nt ct nd c0 nl cl nt ct i ns ds F.s F 801 w6 HM7.out.x.fdm HM7.out.bn HM7.out.bf HM7.out.x.fdm.hs (by omega)).mono ?_
  rintro e w7 ⟨A1, A2, A3, n1, c1, n2, c2, n3, c3, rfl, hres, hb⟩

  obtain ⟨E1, hE1⟩ : ∃ E, E = stpErr ns ds F 6 (i : Int) (F.s.getD i 0) 801 := ⟨_, rfl⟩
  rw [← hE1] at HC1 hres ⊢
  have HE1 := Lib.hid hE1
  clear hE1
  have HXA : Hid (E1 = 0 → Fx w1.heap.size w7.heap.size An Ad A1 A2 A3 cn nd cd n1 c1 n2 c2 n3 c3 ns ds (lckF F i 801) (w7.alloc (.cells #[.slice A1 n1 c1, .slice A2 n2 c2, .slice A3 n3 c3] 33))) := fun h => HM7.out.fx hb.out (hres.out h)
  have HM8 := Lib.hid ((HM7.out.later hb.out).later ((Below.refl _ _).alloc (Nat.le_refl _) (.cells #[.slice A1 n1 c1, .slice A2 n2 c2, .slice A3 n3 c3] 33)))
  clear hres hb HM7
  go_upto_region 8 with (fail)
  obtain ⟨ab, hab⟩ : ∃ x, x = w7.heap.size := ⟨_, rfl⟩
  rw [← hab] at HXA ⊢
  clear hab
  generalize World.alloc w7 _ = w8 at *
  have kf0 : w8.cell? ⟨nb + 1, 0, none⟩ = some (.slice As nd c0) := HM8.out.bf.cell 0
  have kf1 : w8.cell? ⟨nb + 1, 1, none⟩ = some (.slice Al nl cl) := HM8.out.bf.cell 1
  have kf2 : w8.cell? ⟨nb + 1, 2, none⟩ = some (.slice At nt ct) := HM8.out.bf.cell 2
  go_wp2_with fail
  clear kf0 kf1 kf2
  refine (lockc_any nb An Ad As Al At As Al At cn nd cd nd c0 nl cl nt ct nd c0 nl cl nt ct j ns ds F.s F 802 w8 HM8.out.x.fdm HM8.out.bn HM8.out.bf HM8.out.x.fdm.hs (by omega)).mono ?_
  rintro e w9 ⟨B1, B2, B3, m1, d1, m2, d2, m3, d3, rfl, hres, hb⟩

  obtain ⟨E2, hE2⟩ : ∃ E, E = stpErr ns ds F 6 (j : Int) (F.s.getD j 0) 802 := ⟨_, rfl⟩
  rw [← hE2] at HC2 hres ⊢
  have HE2 := Lib.hid hE2
  clear hE2
  have HXA9 : Hid (E1 = 0 → Fx w1.heap.size ab An Ad A1 A2 A3 cn nd cd n1 c1 n2 c2 n3 c3 ns ds (lckF F i 801) (w9.alloc (.cells #[.slice B1 m1 d1, .slice B2 m2 d2, .slice B3 m3 d3] 33))) := fun h => ((HXA.out h).later hb.out).later ((Below.refl _ _).alloc (Nat.le_refl _) _)
  have HXB : Hid (E2 = 0 → Fx w1.heap.size w9.heap.size An Ad B1 B2 B3 cn nd cd m1 d1 m2 d2 m3 d3 ns ds (lckF F j 802) (w9.alloc (.cells #[.slice B1 m1 d1, .slice B2 m2 d2, .slice B3 m3 d3] 33))) := fun h => HM8.out.fx hb.out (hres.out h)
  have HM10 := Lib.hid ((HM8.out.later hb.out).later ((Below.refl _ _).alloc (Nat.le_refl _) (.cells #[.slice B1 m1 d1, .slice B2 m2 d2, .slice B3 m3 d3] 33)))
  clear hres hb HM8 HXA
  go_upto_region 9 with (fail)
  obtain ⟨bb, hbb⟩ : ∃ x, x = w9.heap.size := ⟨_, rfl⟩
  rw [← hbb] at HXB ⊢
  clear hbb
  generalize World.alloc w9 _ = w10 at *
  obtain ⟨bd, off, x1, hAd, hbd, hx1, hc1⟩ := HM10.out.x.hd.1.at (k := i) (fun _ => rfl) (by decide) hi
  obtain ⟨bd', off', x2, hAd', hbd', hx2, hc2⟩ := HM10.out.x.hd.1.at (k := j) (fun _ => rfl) (by decide) hj
  have HK1 : Hid (kindOf ds (i : Int) = x1.kind) := kindOf_at hx1
  have HK2 : Hid (kindOf ds (j : Int) = x2.kind) := kindOf_at hx2
  have g1 := hc1 1 _ rfl
  have g2 := hc2 1 _ rfl
  clear hx1 hx2 hc1 hc2 hbd hbd'
  rw [hAd] at hAd'
  injection hAd' with hAd'
  injection hAd' with hAd1 hAd2
  subst hAd1 hAd2
  have HAd := Lib.hid hAd
  have k1 : w10.cell? ⟨nb, 1, none⟩ = some (.slice (some ⟨bd, off, none⟩) nd cd) := by rw [← HAd.out]; exact HM10.out.bn.cell 1
  clear hAd
  by_cases h1 : E1 = 0; rotate_left
  · have q1 : (E1 != 0) = true := by simpa using h1
    have hk : (x1.kind == 5) = true := by rcases HC1.out with ⟨-, h2⟩ | ⟨h2, -⟩; rw [HK1.out] at h2; simpa using h2; exact absurd h2 h1
    clear h1
    go_wp2_with fail
    go_ret
    exact ⟨rfl, HB0.out.trans (HM10.out.bl.mono hsz)⟩
  by_cases h2 : E2 = 0; rotate_left
  · have q1 : (E1 != 0) = false := by simpa using h1
    have q2 : (E2 != 0) = true := by simpa using h2
    have hk : (x2.kind == 5) = true := by rcases HC2.out with ⟨-, h3⟩ | ⟨h3, -⟩; rw [HK2.out] at h3; simpa using h3; exact absurd h3 h2
    clear h1 h2
    rcases hkk : (x1.kind == 5) with _ | _
    all_goals
      go_wp2_with fail
      go_ret
      exact ⟨rfl, HB0.out.trans (HM10.out.bl.mono hsz)⟩
  have hk1 : kindOf ds (i : Int) ≠ 5 := by rcases HC1.out with ⟨h3, -⟩ | ⟨-, h3⟩; exact absurd h1 h3; exact h3
  have hk2 : kindOf ds (j : Int) ≠ 5 := by rcases HC2.out with ⟨h3, -⟩ | ⟨-, h3⟩; exact absurd h2 h3; exact h3
  have HA := Lib.hid (HXA9.out h1)
  have HB := Lib.hid (HXB.out h2)
  have hz1 := HE1.out.symm.trans h1
  have hz2 := HE2.out.symm.trans h2
  have hz3 := lck_two (q := 801) (r := 802) (i := i) hjl hlen HKK.out.2 (by decide) (by decide) hz1 hk2
  have hz4 := lck_two (q := 802) (r := 801) (i := j) hil hlen HKK.out.1 (by decide) (by decide) hz2 hk1
  have hsw := lck_swap hz3 hz4
  obtain ⟨hz5, hun⟩ := unl_ok hil HKK.out.1 hz1
  have HZ3 := Lib.hid hz3
  have HZ4 := Lib.hid hz4
  have HZ5 := Lib.hid hz5
  have HSW := Lib.hid hsw
  have HUN := Lib.hid hun
  subst h1 h2
  clear k1 g1 g2 HXA9 HXB HC1 HC2 HE1 HE2 HK1 HK2 HAd hk1 hk2 hz1 hz2 hz3 hz4 hz5 hsw hun HKK
  have kx0 : w10.cell? ⟨ab, 0, none⟩ = some (.slice A1 n1 c1) := HA.out.f.cell 0
  have kx1 : w10.cell? ⟨ab, 1, none⟩ = some (.slice A2 n2 c2) := HA.out.f.cell 1
  have kx2 : w10.cell? ⟨ab, 2, none⟩ = some (.slice A3 n3 c3) := HA.out.f.cell 2
  go_wp2_with fail
  clear kx0 kx1 kx2
  refine (lockc_any nb An Ad As Al At A1 A2 A3 cn nd cd nd c0 nl cl nt ct n1 c1 n2 c2 n3 c3 j ns ds F.s (lckF F i 801) 802 w10 HA.out.y.fdm HM10.out.bn HM10.out.bf HM10.out.x.fdm.hs (by omega)).mono ?_
  rintro e w11 ⟨P1, P2, P3, a1, b1, a2, b2, a3, b3, rfl, hres, hb⟩

  rw [HZ3.out]
  have HC := Lib.hid (HM10.out.fx hb.out (hres.out HZ3.out))
  have HM12 := Lib.hid ((HM10.out.later hb.out).later ((Below.refl _ _).alloc (Nat.le_refl _) (.cells #[.slice P1 a1 b1, .slice P2 a2 b2, .slice P3 a3 b3] 33)))
  have HA12 := Lib.hid ((HA.out.later hb.out).later ((Below.refl _ _).alloc (Nat.le_refl _) (.cells #[.slice P1 a1 b1, .slice P2 a2 b2, .slice P3 a3 b3] 33)))
  have HB12 := Lib.hid ((HB.out.later hb.out).later ((Below.refl _ _).alloc (Nat.le_refl _) (.cells #[.slice P1 a1 b1, .slice P2 a2 b2, .slice P3 a3 b3] 33)))
  clear hres hb HA HB HM10 HZ3
  go_upto_region 12 with (fail)
  obtain ⟨cb, hcb⟩ : ∃ x, x = w11.heap.size := ⟨_, rfl⟩
  rw [← hcb] at HC ⊢
  clear hcb
  generalize World.alloc w11 _ = w12 at *
  have kx0 : w12.cell? ⟨bb, 0, none⟩ = some (.slice B1 m1 d1) := HB12.out.f.cell 0
  have kx1 : w12.cell? ⟨bb, 1, none⟩ = some (.slice B2 m2 d2) := HB12.out.f.cell 1
  have kx2 : w12.cell? ⟨bb, 2, none⟩ = some (.slice B3 m3 d3) := HB12.out.f.cell 2
  go_wp2_with fail
  clear kx0 kx1 kx2
  refine (lockc_any nb An Ad As Al At B1 B2 B3 cn nd cd nd c0 nl cl nt ct m1 d1 m2 d2 m3 d3 i ns ds F.s (lckF F j 802) 801 w12 HB12.out.y.fdm HM12.out.bn HM12.out.bf HM12.out.x.fdm.hs (by omega)).mono ?_
  rintro e w13 ⟨Q1, Q2, Q3, s1, t1, s2, t2, s3, t3, rfl, hres, hb⟩

  rw [HZ4.out]
  have HX := Lib.hid (HM12.out.fx hb.out (hres.out HZ4.out))
  have HM14 := Lib.hid ((HM12.out.later hb.out).later ((Below.refl _ _).alloc (Nat.le_refl _) (.cells #[.slice Q1 s1 t1, .slice Q2 s2 t2, .slice Q3 s3 t3] 33)))
  have HA14 := Lib.hid ((HA12.out.later hb.out).later ((Below.refl _ _).alloc (Nat.le_refl _) (.cells #[.slice Q1 s1 t1, .slice Q2 s2 t2, .slice Q3 s3 t3] 33)))
  have HC14 := Lib.hid ((HC.out.later hb.out).later ((Below.refl _ _).alloc (Nat.le_refl _) (.cells #[.slice Q1 s1 t1, .slice Q2 s2 t2, .slice Q3 s3 t3] 33)))
  clear hres hb HA12 HB12 HM12 HC HZ4
  rw [← HSW.out] at HX
  clear HSW
  go_upto_region 13 with (fail)
  obtain ⟨xb, hxb⟩ : ∃ x, x = w13.heap.size := ⟨_, rfl⟩
  rw [← hxb] at HX ⊢
  clear hxb
  generalize World.alloc w13 _ = w14 at *
  have k0 : w14.cell? ⟨nb, 0, none⟩ = some (.slice An 6 cn) := HM14.out.bn.cell 0
  have k1 : w14.cell? ⟨nb, 1, none⟩ = some (.slice Ad nd cd) := HM14.out.bn.cell 1
  have kx0 : w14.cell? ⟨ab, 0, none⟩ = some (.slice A1 n1 c1) := HA14.out.f.cell 0
  have kx1 : w14.cell? ⟨ab, 1, none⟩ = some (.slice A2 n2 c2) := HA14.out.f.cell 1
  have kx2 : w14.cell? ⟨ab, 2, none⟩ = some (.slice A3 n3 c3) := HA14.out.f.cell 2
  go_wp2_with fail
  clear k0 k1 kx0 kx1 kx2
  refine (fstep_any An Ad A1 A2 A3 6 cn nd cd n1 c1 n2 c2 n3 c3 ns ds (lckF F i 801) 7 (i : Int) 0 801 w14 HA14.out.y.fdm).mono ?_
  intro e w15 hpost
  obtain ⟨Y1, Y2, Y3, u1, v1, u2, v2, u3, v3, rfl, hi1, hi2, hi3, hb⟩ := hpost.ok HZ5.out
  rw [HUN.out] at hi1 hi2 hi3
  have HY := Lib.hid (HM14.out.fx hb.out ⟨hi1.out, hi2.out, hi3.out⟩)
  have HM16 := Lib.hid ((HM14.out.later hb.out).later ((Below.refl _ _).alloc (Nat.le_refl _) (.cells #[.slice Y1 u1 v1, .slice Y2 u2 v2, .slice Y3 u3 v3] 33)))
  have HC16 := Lib.hid ((HC14.out.later hb.out).later ((Below.refl _ _).alloc (Nat.le_refl _) (.cells #[.slice Y1 u1 v1, .slice Y2 u2 v2, .slice Y3 u3 v3] 33)))
  have HX16 := Lib.hid ((HX.out.later hb.out).later ((Below.refl _ _).alloc (Nat.le_refl _) (.cells #[.slice Y1 u1 v1, .slice Y2 u2 v2, .slice Y3 u3 v3] 33)))
  clear hpost hi1 hi2 hi3 hb HA14 HC14 HX HM14 HZ5 HUN
  go_upto_region 14 with (fail)
  obtain ⟨yb, hyb⟩ : ∃ x, x = w15.heap.size := ⟨_, rfl⟩
  rw [← hyb] at HY ⊢
  clear hyb
  generalize World.alloc w15 _ = w16 at *
  have kc0 := HC16.out.f.cell 0
  have kc1 := HC16.out.f.cell 1
  have kc2 := HC16.out.f.cell 2
  have kx0 := HX16.out.f.cell 0
  have kx1 := HX16.out.f.cell 1
  have kx2 := HX16.out.f.cell 2
  go_wp2_with fail
  clear kc0 kc1 kc2 kx0 kx1 kx2
  refine (rsame_any P1 P2 P3 Q1 Q2 Q3 a1 b1 a2 b2 a3 b3 s1 t1 s2 t2 s3 t3 _ w16 HC16.out.y.fdm.hs HC16.out.y.fdm.hl HC16.out.y.fdm.ht HX16.out.y.fdm.hs HX16.out.y.fdm.hl HX16.out.y.fdm.ht).mono ?_
  rintro e w17 ⟨rfl, hb⟩
  have HM17 := Lib.hid (HM16.out.later hb)
  have HY17 := Lib.hid (HY.out.later hb)
  clear hb HM16 HY HC16 HX16
  have kf0 : w17.cell? ⟨nb + 1, 0, none⟩ = some (.slice As nd c0) := HM17.out.bf.cell 0
  have kf1 : w17.cell? ⟨nb + 1, 1, none⟩ = some (.slice Al nl cl) := HM17.out.bf.cell 1
  have kf2 : w17.cell? ⟨nb + 1, 2, none⟩ = some (.slice At nt ct) := HM17.out.bf.cell 2
  have kx0 : w17.cell? ⟨yb, 0, none⟩ = some (.slice Y1 u1 v1) := HY17.out.f.cell 0
  have kx1 : w17.cell? ⟨yb, 1, none⟩ = some (.slice Y2 u2 v2) := HY17.out.f.cell 1
  have kx2 : w17.cell? ⟨yb, 2, none⟩ = some (.slice Y3 u3 v3) := HY17.out.f.cell 2
  go_wp2_with fail
  clear kf0 kf1 kf2 kx0 kx1 kx2
  refine (rsame_any Y1 Y2 Y3 As Al At u1 v1 u2 v2 u3 v3 nd c0 nl cl nt ct F w17 HY17.out.y.fdm.hs HY17.out.y.fdm.hl HY17.out.y.fdm.ht HM17.out.x.fdm.hs HM17.out.x.fdm.hl HM17.out.x.fdm.ht).mono ?_
  rintro e w18 ⟨rfl, hb⟩
  have HM18 := Lib.hid (HM17.out.later hb)
  clear hb HM17 HY17
  go_wp2_with fail
  go_ret
  exact ⟨rfl, HB0.out.trans (HM18.out.bl.mono hsz)⟩
end Go.Proofs.YtlcaebfjdhgcfaaDoor
