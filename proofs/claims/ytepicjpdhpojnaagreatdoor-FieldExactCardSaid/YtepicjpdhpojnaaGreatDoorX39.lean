import Derived.Test.YtepicjpdhpojnaaGreatDoorX38
set_option maxRecDepth 100000
set_option maxHeartbeats 4000000
namespace Go.Proofs.YtepicjpdhpojnaaGreatDoor
section
open Go.RowKit
section
variable {ns : List Nd} {ds : List Dv} {F : Fd} {ls : List Lk} {k x y : Lk}
end
end
section
open Go.RowKit
def InR (w : World) (n : Nat) (l m : List Int) (gk : Nat) (iv : Value) (wr : World) : Prop := ∃ i : Nat, iv = .int .i64 i ∧ i ≤ n ∧ gk = n - i ∧ Hid (Below w.heap.size w wr) ∧ Hid (∀ j, j < i → l[j]? = m[j]?)
theorem rt (A B : Option Addr) (n c n2 c2 Ba Bb : Nat) (l m : List Int) (w : World) (ha : Sl w Ba 1 A n c (zK l)) (hb : Sl w Bb 1 B n2 c2 (zK m)) (hBa : Ba ≤ w.heap.size) (hBb : Bb ≤ w.heap.size) : Calls Tryz.prog 34 #[.slice A n c, .slice B n2 c2] w fun e w' => e = .returned (.bool (decide (l = m))) ∧ Below w.heap.size w w' := by
 have HLA := iD (ha.len (fun _ => rfl) (by decide)); have HLB := iD (hb.len (fun _ => rfl) (by decide))
 have hm1 := ha.le
 have hm2 := hb.le
 have HA := iD ha; have HB := iD hb
 clear ha hb
 by_cases hn : n = n2; rotate_left
 ·have q : decide (n = n2) = false := by simpa using hn
  have q' : ((n : Int) != (n2 : Int)) = true := by simp; omega
  have HR : Hid (decide (l = m) = false) := decide_eq_false (fun e => hn (by rw [← HLA.out, ← HLB.out, e]))
  clear hn
  go_enter Tryz.func34, Tryz.ntmps34
  go_wp2_with fail
  go_ret
  exact ⟨zP (by rw [HR.out]), Below.refl _ _⟩
 subst hn
 go_enter Tryz.func34, Tryz.ntmps34
 go_wp2_with fail
 go_loopg [5] n (InR w n l m)
 case atStart => exact ⟨0, rfl, Nat.zero_le _, rfl, Below.refl _ _, fun j hj => absurd hj (by omega)⟩
 case round =>
  obtain ⟨i, rfl, hi, rfl, hbl, hok⟩ := hrel
  by_cases hlt : i < n
  ·obtain ⟨b1, o1, x, rfl, hb1, hx, hc1⟩ := (HA.out.below hbl.out hBa).at1 hlt
   obtain ⟨b2, o2, y, rfl, hb2, hy, hc2⟩ := (HB.out.below hbl.out hBb).at1 hlt
   have HX := iD hx; have HY := iD hy
   clear hx hy
   go_upto_region 6 with (fail)
   refine zJ (S := fun W' => W'.cell? ⟨b1, o1 + i, none⟩ = some (.int .i64 x) ∧ W'.cell? ⟨b2, o2 + i, none⟩ = some (.int .i64 y)) (J := []) (by kernel_rfl) ?_ (fun AA => ?_)
   ·exact ⟨hc1, hc2⟩
   try dsimp only at AA
   refine tk 0 17 (mf 9 1) AA ?_
   refine tk 1 18 (mf 9 2) AA ?_
   refine tk 2 19 (mf 9 3) AA ?_
   refine tk 3 20 (mf 9 4) AA ?_
   refine tk 4 21 (mf 9 5) AA ?_
   refine tk 5 22 (mf 9 6) AA ?_
   refine tk 6 23 (mf 9 7) AA ?_
   refine tk 7 24 (mf 9 8) AA ?_
   refine tk 8 25 (mf 9 9) AA ?_
   refine zH (by kernel_rfl) ?_ _
   clear AA
   by_cases hxy : x = y
   ·subst hxy
    go_wp2_with fail
    go_roundg (n - (i + 1))
    case rel => exact ⟨i + 1, by go_num, by omega, rfl, hbl.out.drew, fun j hj => by
     rcases Nat.lt_succ_iff_lt_or_eq.1 hj with h | rfl
     ·exact hok.out j h
     ·rw [HX.out, HY.out]⟩
    case measure => omega
   ·have q : (x != y) = true := by simpa using hxy
    have q2 : (x == y) = false := by simpa using hxy
    have HR : Hid (decide (l = m) = false) := decide_eq_false (fun e => hxy (by have := HX.out; rw [e, HY.out] at this; exact (Option.some.inj this).symm))
    clear hxy
    go_wp2_with fail
    go_ret
    exact ⟨zP (by rw [HR.out]), hbl.out.drew⟩
  ·obtain rfl : i = n := by omega
   have hii : decide (i < i) = false := by simp
   have HR : Hid (decide (l = m) = true) := decide_eq_true (by
    apply List.ext_getElem?
    intro j
    by_cases hj : j < i
    ·exact hok.out j hj
    ·rw [List.getElem?_eq_none (by rw [HLA.out]; omega), List.getElem?_eq_none (by rw [HLB.out]; omega)])
   go_wp2_with fail
   go_ret
   exact ⟨zP (by rw [HR.out]), hbl.out⟩
end
section
open Go.RowKit
structure Fx (g bx : Nat) (An Ad A1 A2 A3 : Option Addr) (cn nd cd n1 c1 n2 c2 n3 c3 : Nat) (ns : List Nd) (ds : List Dv) (G : Fd) (wr : World) : Prop where
 f : Blk wr bx 35 #[.slice A1 n1 c1, .slice A2 n2 c2, .slice A3 n3 c3]
 y : FdX g An Ad A1 A2 A3 6 cn nd cd n1 c1 n2 c2 n3 c3 ns ds G wr
theorem Fx.later {g bx : Nat} {An Ad A1 A2 A3 : Option Addr} {cn nd cd n1 c1 n2 c2 n3 c3 : Nat} {ns : List Nd} {ds : List Dv} {G : Fd} {wr wr' : World} (h : Fx g bx An Ad A1 A2 A3 cn nd cd n1 c1 n2 c2 n3 c3 ns ds G wr) (hb : Below wr.heap.size wr wr') : Fx g bx An Ad A1 A2 A3 cn nd cd n1 c1 n2 c2 n3 c3 ns ds G wr' :=
 ⟨h.f.below hb h.f.lt, h.y.later hb⟩
theorem qX (A1 A2 A3 B1 B2 B3 : Option Addr) (n1 c1 n2 c2 n3 c3 m1 d1 m2 d2 m3 d3 : Nat) (F : Fd) (w : World) (a1 : Sl w w.heap.size 1 A1 n1 c1 (zK F.s)) (a2 : Sl w w.heap.size 3 A2 n2 c2 (F.ls.flatMap Lk.cells)) (a3 : Sl w w.heap.size 1 A3 n3 c3 (zK F.st))
 (b1 : Sl w w.heap.size 1 B1 m1 d1 (zK F.s)) (b2 : Sl w w.heap.size 3 B2 m2 d2 (F.ls.flatMap Lk.cells)) (b3 : Sl w w.heap.size 1 B3 m3 d3 (zK F.st)) :
 Calls Tryz.prog 29 #[.agg #[.slice A1 n1 c1, .slice A2 n2 c2, .slice A3 n3 c3], .agg #[.slice B1 m1 d1, .slice B2 m2 d2, .slice B3 m3 d3]] w fun e w' => e = .returned (.bool true) ∧ Below w.heap.size w w' := by
 have HB0 : Hid (Below w.heap.size w ((w.alloc (.cells #[.slice A1 n1 c1, .slice A2 n2 c2, .slice A3 n3 c3] 35)).alloc (.cells #[.slice B1 m1 d1, .slice B2 m2 d2, .slice B3 m3 d3] 35))) := ((Below.refl _ _).alloc lR _).alloc (by simp) _
 have HX0 : Hid (Blk ((w.alloc (.cells #[.slice A1 n1 c1, .slice A2 n2 c2, .slice A3 n3 c3] 35)).alloc (.cells #[.slice B1 m1 d1, .slice B2 m2 d2, .slice B3 m3 d3] 35)) w.heap.size 35 #[.slice A1 n1 c1, .slice A2 n2 c2, .slice A3 n3 c3]) := (Blk.new w _ _).alloc _
 have HY0 : Hid (Blk ((w.alloc (.cells #[.slice A1 n1 c1, .slice A2 n2 c2, .slice A3 n3 c3] 35)).alloc (.cells #[.slice B1 m1 d1, .slice B2 m2 d2, .slice B3 m3 d3] 35)) (w.heap.size + 1) 35 #[.slice B1 m1 d1, .slice B2 m2 d2, .slice B3 m3 d3]) := by
  have hy := Blk.new (w.alloc (.cells #[.slice A1 n1 c1, .slice A2 n2 c2, .slice A3 n3 c3] 35)) 35 #[.slice B1 m1 d1, .slice B2 m2 d2, .slice B3 m3 d3]
  rwa [World.size_alloc] at hy
 have HS := iD (And.intro (And.intro a1 (And.intro a2 a3)) (And.intro b1 (And.intro b2 b3)))
 clear a1 a2 a3 b1 b2 b3
 go_enter Tryz.func29, Tryz.ntmps29
 go_upto_region 1 with (fail)
 generalize World.alloc (World.alloc _ _) _ = w1 at *
 have hz := HB0.out.size
 have x0 := HX0.out.cell 0
 have y0 := HY0.out.cell 0
 go_wp2_with fail
 clear x0 y0
 refine (rt A1 B1 n1 c1 m1 d1 w.heap.size w.heap.size F.s F.s w1 (HS.out.1.1.below HB0.out lR) (HS.out.2.1.below HB0.out lR) hz hz).mono ?_
 rintro e w2 ⟨rfl, hb2⟩
 rw [decide_eq_true rfl]
 have HB2 := iD (HB0.out.trans (hb2.mono hz))
 have HX2 := iD (HX0.out.below hb2 HX0.out.lt)
 have HY2 := iD (HY0.out.below hb2 HY0.out.lt)
 clear hb2 HB0 HX0 HY0 hz
 have hz := HB2.out.size
 have x1 := HX2.out.cell 1
 have y1 := HY2.out.cell 1
 go_wp2_with fail
 clear x1 y1
 refine (lr A2 B2 n2 c2 m2 d2 w.heap.size w.heap.size F.ls F.ls w2 (HS.out.1.2.1.below HB2.out lR) (HS.out.2.2.1.below HB2.out lR) hz hz).mono ?_
 rintro e w3 ⟨rfl, hb3⟩
 have hdd : ∀ (I : Decidable (F.ls = F.ls)), @decide (F.ls = F.ls) I = true := fun I => @decide_eq_true _ I rfl
 rw [hdd]
 clear hdd
 have HB3 := iD (HB2.out.trans (hb3.mono hz))
 have HX3 := iD (HX2.out.below hb3 HX2.out.lt)
 have HY3 := iD (HY2.out.below hb3 HY2.out.lt)
 clear hb3 HB2 HX2 HY2 hz
 have hz := HB3.out.size
 have x2 := HX3.out.cell 2
 have y2 := HY3.out.cell 2
 go_wp2_with fail
 clear x2 y2
 refine (rt A3 B3 n3 c3 m3 d3 w.heap.size w.heap.size F.st F.st w3 (HS.out.1.2.2.below HB3.out lR) (HS.out.2.2.2.below HB3.out lR) hz hz).mono ?_
 rintro e w4 ⟨rfl, hb4⟩
 rw [decide_eq_true rfl]
 go_wp2_with fail
 go_ret
 exact ⟨rfl, HB3.out.trans (hb4.mono hz)⟩
end
section
open Go.RowKit
def HlR (w0 : World) (kb : Nat) (d p q : Int) (ls : List Lk) (n gk : Nat) (iv : Value) (wr : World) : Prop := ∃ j : Nat, iv = .int .i64 j ∧ j ≤ n ∧ gk = n - j ∧ Hid (mH ls ⟨d, p, q⟩ j = false) ∧ Hid (Below w0.heap.size w0 wr) ∧ Hid (Blk wr kb 46 #[.int .i64 d, .int .i64 p, .int .i64 q])
theorem nx (A : Option Addr) (n c : Nat) (ls : List Lk) (d p q : Int) (w : World) (hs : Sl w w.heap.size 3 A n c (ls.flatMap Lk.cells)) :
 Calls Tryz.prog 68 #[.slice A n c, .agg #[.int .i64 d, .int .i64 p, .int .i64 q]] w fun e w' => e = .returned (.bool (xu ls ⟨d, p, q⟩)) ∧ Hid (Below w.heap.size w w') := by
 have HL := iD (hs.len (fun _ => rfl) (by decide))
 have hle := hs.le
 have HS := iD hs
 have HB : Hid (Below w.heap.size w (w.alloc (.cells #[.int .i64 d, .int .i64 p, .int .i64 q] 46))) := (Below.refl _ _).alloc lR _
 have HK := iD (Blk.new w 46 #[.int .i64 d, .int .i64 p, .int .i64 q])
 clear hs
 go_enter Tryz.func68, Tryz.ntmps68
 go_wp2_with fail
 generalize World.alloc w _ = W at *
 refine yO [(3, 0), (0, 1), (0, 2), (11, 1)] 5 (n) (HlR w w.heap.size d p q ls n) (by (try dsimp only [gt]); exact ⟨0, rfl, Nat.zero_le _, rfl, rfl, HB, HK⟩) (by kernel_rfl) ?_
 intro u1 p5 gk wr a hrel ha J1 K1 hJ1 hK1
 dsimp only [zi, Go.Proofs.YtepicjpdhpojnaaGreatDoor.v1, Nat.reduceAdd] at ha
 subst ha
 clear HB HK W
 obtain ⟨j, rfl, hj, rfl, HF, HB, HK⟩ := hrel
 by_cases hlt : j < n; rotate_left
 ·have hii : decide ((j : Int) < (n : Int)) = false := by simp; omega
  have hii2 : decide (j < n) = false := by simp; omega
  have HR : Hid (xu ls ⟨d, p, q⟩ = false) := (lU (by have := HL.out; omega)).symm.trans HF.out
  go_wp2_with fail
  go_ret
  exact ⟨zP HR.out.symm, HB⟩
 obtain ⟨b2, off2, d2, p2, q2, hA2, hbb2, hx2, l0, l1, l2⟩ := (HS.out.below HB.out lR).lock hlt
 have HFS := iD (lT (k := ⟨d, p, q⟩) hx2)
 have HX := iD hx2
 have heql := fun W => rU d2 p2 q2 d p q W
 have x0 : wr.cell? ⟨w.heap.size, 0, none⟩ = some (.int .i64 d) := HK.out.cell 0
 have x1 : wr.cell? ⟨w.heap.size, 1, none⟩ = some (.int .i64 p) := HK.out.cell 1
 have x2 : wr.cell? ⟨w.heap.size, 2, none⟩ = some (.int .i64 q) := HK.out.cell 2
 subst hA2
 clear hx2
 rcases hee : sT ⟨d2, p2, q2⟩ ⟨d, p, q⟩ with _ | _
 ·rw [hee] at heql
  have HN : Hid (mH ls ⟨d, p, q⟩ (j + 1) = false) := by unfold Hid; rw [HFS.out, HF.out, hee]; rfl
  clear hee
  go_wp2_with fail
  go_quiet (fail)
  go_wp2_with fail
  refine Handed.intro (n - (j + 1)) (by omega) (hJ1 _ _ _ (vL.back 5 ?_ (by kernel_rfl)))
  dsimp only [gt]
  exact ⟨j + 1, by go_num, by omega, rfl, HN, below_drewN HB.out _, HK.out.below (below_drewN bR _) HK.out.lt⟩
 ·rw [hee] at heql
  have HR : Hid (xu ls ⟨d, p, q⟩ = true) := by
   rw [(yl _ _).1 hee] at HX
   exact (q8 _ _).2 (List.mem_of_getElem? HX.out)
  clear hee
  go_wp2_with fail
  go_quiet (fail)
  go_wp2_with fail
  go_ret
  exact ⟨zP HR.out.symm, below_drewN HB.out _⟩
def ua (cl : List Int) (n : Nat) : List Int := ((List.range n).filter fun v => cl.getD v 0 == 3).map fun v : Nat => (v : Int)
theorem ml {cl : List Int} {n : Nat} {x : Int} (h : cl[n]? = some x) (hx : x = 3) : ua cl (n + 1) = ua cl n ++ [(n : Int)] := by
 unfold ua
 rw [List.range_succ, List.filter_append, List.map_append]
 simp [List.getD_eq_getElem?_getD, h, hx]
theorem kZ {cl : List Int} {n : Nat} {x : Int} (h : cl[n]? = some x) (hx : x ≠ 3) : ua cl (n + 1) = ua cl n := by
 unfold ua
 rw [List.range_succ, List.filter_append, List.map_append]
 simp [List.getD_eq_getElem?_getD, h, hx]
def mS (w : World) (nn : Nat) (ds : List Dv) (s : List Int) (e : Ending) (w' : World) : Prop :=
 ∃ (cl : List Int) (A : Option Addr) (m c : Nat), e = .returned (.tuple #[.slice A m c, .int .i64 0]) ∧ Hid (uJ nn ds s cl) ∧ Hid (zQ w' w.heap.size A m c (ua cl nn)) ∧ Hid (Below w.heap.size w w')
def FaR (w1 : World) (nn : Nat) (cl : List Int) (gk : Nat) (ov iv : Value) (wr : World) : Prop :=
 ∃ (i m co : Nat) (Ao : Option Addr), ov = .slice Ao m co ∧ iv = .int .i64 i ∧ i ≤ nn ∧ gk = nn - i ∧ m ≤ i ∧ Hid (Below w1.heap.size w1 wr) ∧ Hid (zQ wr w1.heap.size Ao m co (ua cl i))
theorem oO (An Ad As : Option Addr) (nn cn nd cd n c : Nat) (ns : List Nd) (ds : List Dv) (s : List Int) (w : World) (hl : Laid w) (hn : Sl w w.heap.size 3 An nn cn (ns.flatMap Nd.cells)) (hd : Sl w w.heap.size 5 Ad nd cd (ds.flatMap Dv.cells)) (hs : Sl w w.heap.size 1 As n c (zK s))
 (hsn : ∀ x ∈ ns, x.name.size ≤ 9223372036854775807) (hsd : ∀ x ∈ ds, x.name.size ≤ 9223372036854775807) (hse : zV ns ds s = 0) :
 Calls Tryz.prog 65 #[.agg #[.slice An nn cn, .slice Ad nd cd], .slice As n c] w (mS w nn ds s) := by
 have HLN := iD (hn.len (fun _ => rfl) (by decide)); have HLD := iD (hd.len (fun _ => rfl) (by decide)); have HLS := iD (hs.len (fun _ => rfl) (by decide))
 have HOK := iD (vu.of (yD hse).1)
 have hnn : nn ≤ 32 := by have := HOK.out.nl; have := HLN.out; omega
 have hndn : nd ≤ n := by have := (yD hse).2.1; have := HLD.out; have := HLS.out; omega
 have HB : Hid (Below w.heap.size w (w.alloc (.cells #[.slice An nn cn, .slice Ad nd cd] 30))) := (Below.refl _ _).alloc lR _
 have HCK := iD (qc An Ad As nn cn nd cd n c ns ds s (w.alloc (.cells #[.slice An nn cn, .slice Ad nd cd] 30)) (hl.alloc _) ((hn.alloc lR _).more (by simp)) ((hd.alloc lR _).more (by simp)) ((hs.alloc lR _).more (by simp)) hsn hsd)
 have HSE := iD hse
 clear hn hd hs hsn hsd hse hl
 go_enter Tryz.func65, Tryz.ntmps65
 go_wp2_with fail
 refine HCK.out.mono ?_
 rintro e w1 ⟨hb1, hcase⟩
 rcases hcase with ⟨he, _⟩ | ⟨_, Ac, cl, rfl, hO, hC⟩
 ·exact absurd HSE.out he
 have HO := iD hO.out
 have HC := iD hC.out
 have HB1 := iD (HB.out.trans (hb1.out.mono HB.out.size))
 clear hb1 hO hC
 clear HCK HB
 have hcl := HO.out.sl.le
 have HLC := iD HO.out.len
 go_wp2_with fail
 refine xw [(7, 0), (0, 2), (1, 1), (7, 0), (0, 3), (10, 1), (1, 0)] 8 19 (nn) (FaR w1 nn cl) (by (try dsimp only [gt]); exact ⟨0, 0, 0, none, rfl, rfl, Nat.zero_le _, rfl, Nat.le_refl _, Below.refl _ _, World.ownsRow_nil _ _ _ _⟩) (by kernel_rfl) ?_
 intro u1 p8 p19 gk wr a hrel ha J1 K1 hJ1 hK1
 dsimp only [zi, Go.Proofs.YtepicjpdhpojnaaGreatDoor.v2, Nat.reduceAdd] at ha
 subst ha
 obtain ⟨i, m, co, Ao, rfl, rfl, hi, rfl, hm, hB, hO⟩ := hrel
 by_cases hlt : i < nn; rotate_left
 ·have hii : decide ((i : Int) < (nn : Int)) = false := by simp; omega
  have hii2 : decide (i < nn) = false := by simp; omega
  go_wp2_with fail
  go_ret2
  exact ⟨cl, Ao, m, co, rfl, HC, by have h := hO.out; rw [show i = nn by omega] at h; exact World.ownsRow.mono h HB1.out.size, HB1.out.trans (hB.out.mono HB1.out.size)⟩
 obtain ⟨gc, x, hAc, hg1, hg2, hxc, hcc, -, -⟩ := (zQ.later HO.out (hB.out.mono lR)).at hlt
 have HX := iD hxc
 subst hAc
 clear hxc
 have hmc := hO.out.sl.le
 by_cases hx3 : x = 3
 ·have q3 : (x == 3) = true := by simpa using hx3
  have HY := iD (ml HX.out hx3)
  clear hx3
  go_wp2_with (at_builtin; go_must (refine zW rfl (.tmp 26) (.tmp 28) rfl yX (by rfl) (World.ownsRow.alloc hO.out _) (by rfl) (Sl.newest (n := 1) (by simp) (by rfl) (by decide)) (by simp [Value.oneCell']) (by omega) (by omega) (by have := hB.out.size; simp; omega) ?_; intro A' cap' w3 hown3 hgr3 hat3; (try simp only [Act.put, sA, s0, s1]); have HO3 := iD hown3; have HG3 := iD hgr3; clear hown3 hgr3 hat3))
  have HB3 : Hid (Below w1.heap.size w1 w3) := by
   have hg3 := HG3.out
   exact (hB.out.alloc hB.out.size _).trans ⟨hg3.os, hg3.tape, hg3.output, hg3.size, fun t ht => hg3.block t (by have := hB.out.size; simp; omega) (fun e => by have := (hO.out.lt t e.symm).1; omega)⟩
  have HO4 : Hid (zQ w3 w1.heap.size A' (m + 1) cap' (ua cl (i + 1))) := by
   unfold Hid zQ; rw [HY.out]; unfold zK; rw [List.flatMap_append]; exact HO3.out
  clear HO3 HG3 HY
  go_wp2_with fail
  refine Handed.intro (nn - (i + 1)) (by omega) (hJ1 _ _ _ (uP.back 8 19 ?_ (by kernel_rfl)))
  dsimp only [gt]
  exact ⟨i + 1, m + 1, cap', A', rfl, by go_num, by omega, rfl, by omega, HB3, HO4⟩
 ·have q3 : (x == 3) = false := by simpa using hx3
  have HY := iD (kZ HX.out hx3)
  clear hx3
  go_wp2_with fail
  refine Handed.intro (nn - (i + 1)) (by omega) (hJ1 _ _ _ (uP.back 8 19 ?_ (by kernel_rfl)))
  dsimp only [gt]
  exact ⟨i + 1, m, co, Ao, rfl, by go_num, by omega, rfl, by omega, hB, by unfold Hid; rw [HY.out]; exact hO.out⟩
theorem pU (An Ad As : Option Addr) (nn cn nd cd n c : Nat) (ns : List Nd) (ds : List Dv) (s : List Int) (w : World) (_hl : Laid w) (hn : Sl w w.heap.size 3 An nn cn (ns.flatMap Nd.cells)) (hd : Sl w w.heap.size 5 Ad nd cd (ds.flatMap Dv.cells)) (hs : Sl w w.heap.size 1 As n c (zK s))
 (hsn : ∀ x ∈ ns, x.name.size ≤ 9223372036854775807) (hsd : ∀ x ∈ ds, x.name.size ≤ 9223372036854775807) (hse : zV ns ds s = 0) :
 Calls Tryz.prog 66 #[.agg #[.slice An nn cn, .slice Ad nd cd], .slice As n c] w (mS w nn ds s) := by
 have HLN := iD (hn.len (fun _ => rfl) (by decide)); have HLD := iD (hd.len (fun _ => rfl) (by decide)); have HLS := iD (hs.len (fun _ => rfl) (by decide))
 have HOK := iD (vu.of (yD hse).1)
 have hnn : nn ≤ 32 := by have := HOK.out.nl; have := HLN.out; omega
 have hndn : nd ≤ n := by have := (yD hse).2.1; have := HLD.out; have := HLS.out; omega
 have HB : Hid (Below w.heap.size w (w.alloc (.cells #[.slice An nn cn, .slice Ad nd cd] 30))) := (Below.refl _ _).alloc lR _
 have HCK := iD (qa An Ad As nn cn nd cd n c w.heap.size w.heap.size w.heap.size ns ds s (w.alloc (.cells #[.slice An nn cn, .slice Ad nd cd] 30)) (hn.alloc lR _) (hd.alloc lR _) (hs.alloc lR _) (by simp) (by simp) (by simp) hsn hsd (by omega) (fun _ => ⟨hndn, by have := HOK.out.e; rwa [HLN.out] at this, HOK.out.ne⟩) (fun _ => ⟨by have := HOK.out.a; rwa [HLN.out] at this, HOK.out.k⟩))
 have HSE := iD hse
 clear hn hd hs hsn hsd hse
 go_enter Tryz.func66, Tryz.ntmps66
 go_wp2_with fail
 refine HCK.out.mono ?_
 rintro e w1 ⟨hb1, hcase⟩
 rcases hcase with ⟨he, _⟩ | ⟨_, Ac, cl, rfl, hO, hC⟩
 ·exact absurd HSE.out he
 have HO := iD hO.out
 have HC := iD hC.out
 have HB1 := iD (HB.out.trans (hb1.out.mono HB.out.size))
 clear hb1 hO hC
 clear HCK HB
 have hcl := HO.out.sl.le
 have HLC := iD HO.out.len
 go_wp2_with fail
 refine xw [(7, 0), (0, 2), (0, 3), (5, 0), (14, 1), (1, 0)] 8 9 (nn) (FaR w1 nn cl) (by (try dsimp only [gt]); exact ⟨0, 0, 0, none, rfl, rfl, Nat.zero_le _, rfl, Nat.le_refl _, Below.refl _ _, World.ownsRow_nil _ _ _ _⟩) (by kernel_rfl) ?_
 intro u1 p8 p9 gk wr a hrel ha J1 K1 hJ1 hK1
 dsimp only [zi, Go.Proofs.YtepicjpdhpojnaaGreatDoor.v2, Nat.reduceAdd] at ha
 subst ha
 obtain ⟨i, m, co, Ao, rfl, rfl, hi, rfl, hm, hB, hO⟩ := hrel
 by_cases hlt : i < nn; rotate_left
 ·have hii : decide ((i : Int) < (nn : Int)) = false := by simp; omega
  have hii2 : decide (i < nn) = false := by simp; omega
  go_wp2_with fail
  go_ret2
  exact ⟨cl, Ao, m, co, rfl, HC, by have h := hO.out; rw [show i = nn by omega] at h; exact World.ownsRow.mono h HB1.out.size, HB1.out.trans (hB.out.mono HB1.out.size)⟩
 obtain ⟨gc, x, hAc, hg1, hg2, hxc, hcc, -, -⟩ := (zQ.later HO.out (hB.out.mono lR)).at hlt
 have HX := iD hxc
 subst hAc
 clear hxc
 have hmc := hO.out.sl.le
 by_cases hx3 : x = 3
 ·have q3 : (x == 3) = true := by simpa using hx3
  have HY := iD (ml HX.out hx3)
  clear hx3
  go_wp2_with (at_builtin; go_must (refine zW rfl (.tmp 27) (.tmp 29) rfl yX (by rfl) (World.ownsRow.alloc hO.out _) (by rfl) (Sl.newest (n := 1) (by simp) (by rfl) (by decide)) (by simp [Value.oneCell']) (by omega) (by omega) (by have := hB.out.size; simp; omega) ?_; intro A' cap' w3 hown3 hgr3 hat3; (try simp only [Act.put, sA, s0, s1]); have HO3 := iD hown3; have HG3 := iD hgr3; clear hown3 hgr3 hat3))
  have HB3 : Hid (Below w1.heap.size w1 w3) := by
   have hg3 := HG3.out
   exact (hB.out.alloc hB.out.size _).trans ⟨hg3.os, hg3.tape, hg3.output, hg3.size, fun t ht => hg3.block t (by have := hB.out.size; simp; omega) (fun e => by have := (hO.out.lt t e.symm).1; omega)⟩
  have HO4 : Hid (zQ w3 w1.heap.size A' (m + 1) cap' (ua cl (i + 1))) := by
   unfold Hid zQ; rw [HY.out]; unfold zK; rw [List.flatMap_append]; exact HO3.out
  clear HO3 HG3 HY
  go_wp2_with fail
  refine Handed.intro (nn - (i + 1)) (by omega) (hJ1 _ _ _ (uP.back 8 9 ?_ (by kernel_rfl)))
  dsimp only [gt]
  exact ⟨i + 1, m + 1, cap', A', rfl, by go_num, by omega, rfl, by omega, HB3, HO4⟩
 ·have q3 : (x == 3) = false := by simpa using hx3
  have HY := iD (kZ HX.out hx3)
  clear hx3
  go_wp2_with fail
  refine Handed.intro (nn - (i + 1)) (by omega) (hJ1 _ _ _ (uP.back 8 9 ?_ (by kernel_rfl)))
  dsimp only [gt]
  exact ⟨i + 1, m, co, Ao, rfl, by go_num, by omega, rfl, by omega, hB, by unfold Hid; rw [HY.out]; exact hO.out⟩
end
end Go.Proofs.YtepicjpdhpojnaaGreatDoor
