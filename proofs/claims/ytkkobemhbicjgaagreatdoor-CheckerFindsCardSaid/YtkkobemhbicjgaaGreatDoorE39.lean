import Derived.Test.YtkkobemhbicjgaaGreatDoorE37
import Derived.Test.YtkkobemhbicjgaaGreatDoorE38
set_option maxRecDepth 100000
set_option maxHeartbeats 32000000
namespace Go.Proofs.YtkkobemhbicjgaaGreatDoor
open Go.RowKit
def qj (w : World) (ns : List Nd) (ds : List Dv) (m : List Int) (co : Int) (ls : List Lk) (pr : List Int) (nm : ByteArray) (xs : List Sp) (e : Ending) (w' : World) : Prop :=
 (yn ns ds m co ls pr nm xs ≠ 0 ∧ e = .returned (.tuple #[.agg #[.slice none 0 0, .slice none 0 0, .int .i64 0, .slice none 0 0, .slice none 0 0], .int .i64 (yn ns ds m co ls pr nm xs)]) ∨
  yn ns ds m co ls pr nm xs = 0 ∧ (zf ns ds co 0 [] ⟨m, ls, pr⟩ xs).e ≠ 0 ∧ e = .returned (.tuple #[.agg #[.slice none 0 0, .slice none 0 0, .int .i64 0, .slice none 0 0, .slice none 0 0], .int .i64 (zf ns ds co 0 [] ⟨m, ls, pr⟩ xs).e]) ∨
  yn ns ds m co ls pr nm xs = 0 ∧ (zf ns ds co 0 [] ⟨m, ls, pr⟩ xs).e = 0 ∧ ∃ (A1 A2 Al Ap : Option Addr) (n1 c1 n2 c2 nl cl np cp : Nat), e = .returned (.tuple #[.agg #[.slice A1 n1 c1, .slice A2 n2 c2, .int .i64 co, .slice Al nl cl, .slice Ap np cp], .int .i64 0]) ∧ Hid (vG w' A1 A2 Al Ap n1 c1 n2 c2 nl cl np cp (zf ns ds co 0 [] ⟨m, ls, pr⟩ xs).o (zf ns ds co 0 [] ⟨m, ls, pr⟩ xs).t)) ∧ Hid (Below w.heap.size w w')
structure lz (B : Nat) (A1 A2 Al Ap : Option Addr) (n1 n2 nl np : Nat) : Prop where
 o : 0 < n1 → ∀ b off, A1 = some ⟨b, off, none⟩ → B ≤ b
 s : 0 < n2 → ∀ b off, A2 = some ⟨b, off, none⟩ → B ≤ b
 l : 0 < nl → ∀ b off, Al = some ⟨b, off, none⟩ → B ≤ b
 p : 0 < np → ∀ b off, Ap = some ⟨b, off, none⟩ → B ≤ b
def uv (w : World) (ns : List Nd) (ds : List Dv) (m : List Int) (co : Int) (ls : List Lk) (pr : List Int) (nm : ByteArray) (xs : List Sp) (e : Ending) (w' : World) : Prop :=
 (yn ns ds m co ls pr nm xs ≠ 0 ∧ e = .returned (.tuple #[.agg #[.slice none 0 0, .slice none 0 0, .int .i64 0, .slice none 0 0, .slice none 0 0], .int .i64 (yn ns ds m co ls pr nm xs)]) ∨
  yn ns ds m co ls pr nm xs = 0 ∧ (zf ns ds co 0 [] ⟨m, ls, pr⟩ xs).e ≠ 0 ∧ e = .returned (.tuple #[.agg #[.slice none 0 0, .slice none 0 0, .int .i64 0, .slice none 0 0, .slice none 0 0], .int .i64 (zf ns ds co 0 [] ⟨m, ls, pr⟩ xs).e]) ∨
  yn ns ds m co ls pr nm xs = 0 ∧ (zf ns ds co 0 [] ⟨m, ls, pr⟩ xs).e = 0 ∧ ∃ (A1 A2 Al Ap : Option Addr) (n1 c1 n2 c2 nl cl np cp : Nat), e = .returned (.tuple #[.agg #[.slice A1 n1 c1, .slice A2 n2 c2, .int .i64 co, .slice Al nl cl, .slice Ap np cp], .int .i64 0]) ∧ Hid (vG w' A1 A2 Al Ap n1 c1 n2 c2 nl cl np cp (zf ns ds co 0 [] ⟨m, ls, pr⟩ xs).o (zf ns ds co 0 [] ⟨m, ls, pr⟩ xs).t) ∧ Hid (lz w.heap.size A1 A2 Al Ap n1 n2 nl np)) ∧ Hid (Below w.heap.size w w')
theorem uv.any {w w' : World} {ns : List Nd} {ds : List Dv} {m : List Int} {co : Int} {ls : List Lk} {pr : List Int} {nm : ByteArray} {xs : List Sp} {e : Ending} (h : uv w ns ds m co ls pr nm xs e w') : qj w ns ds m co ls pr nm xs e w' := by
 obtain ⟨h | h | ⟨h1, h2, A1, A2, A3, A4, n1, c1, n2, c2, n3, c3, n4, c4, h3, hR, -⟩, hb⟩ := h
 ·exact ⟨.inl h, hb⟩
 ·exact ⟨.inr (.inl h), hb⟩
 ·exact ⟨.inr (.inr ⟨h1, h2, A1, A2, A3, A4, n1, c1, n2, c2, n3, c3, n4, c4, h3, hR⟩), hb⟩
def ChR (w : World) (bb : Nat) (L : List (TypeId × Array Value)) (co : Int) (ns : List Nd) (ds : List Dv) (xs : List Sp) (R : Cr) (nx gk : Nat) (iv ov : Value) (wr : World) : Prop :=
 ∃ (i n c nl cl np cp mo cx : Nat) (As Al Ap Ao : Option Addr) (t : Sm) (out : List Fn), iv = .int .i64 i ∧ ov = .slice Ao mo cx ∧ i ≤ nx ∧ gk = nx - i ∧ mo ≤ 8 * i ∧ Hid (CM w bb L co As Al Ap Ao n c nl cl np cp mo cx t out false wr) ∧ Hid (wX ns ds t) ∧ Hid (zf ns ds co i out t (xs.drop i) = R)
def ChD (w : World) (bb nb : Nat) (L : List (TypeId × Array Value)) (co : Int) (As Al Ap : Option Addr) (n c nl cl np cp mo i : Nat) (t : Sm) (out : List Fn) (B1 B2 B3 B4 : Option Addr) (m1 e1 m2 e2 m3 e3 m4 e4 : Nat) (O : Co) (gk : Nat) (jv ov : Value) (wr : World) : Prop :=
 ∃ (j cx : Nat) (Ao : Option Addr), jv = .int .i64 j ∧ ov = .slice Ao (mo + j) cx ∧ j ≤ m1 ∧ gk = m1 - j ∧ Hid (CM w bb L co As Al Ap Ao n c nl cl np cp (mo + j) cx t (out ++ zi i (O.h.take j)) false wr) ∧ Hid (CK w bb nb co Ao B1 B2 B3 B4 m1 e1 m2 e2 m3 e3 m4 e4 O.h O.t O.ov wr)
theorem jZ {h : List Int} {j i : Nat} {y : Int} (hy : h[j]? = some y) : zi i (h.take (j + 1)) = zi i (h.take j) ++ [⟨i, y⟩] := by
 unfold zi; rw [zQ hy, List.map_append]; rfl
theorem vG.of {w wr : World} {bb : Nat} {L : List (TypeId × Array Value)} {co : Int} {As Al Ap Ao : Option Addr} {n c nl cl np cp mo cx : Nat} {t : Sm} {out : List Fn} {fl : Bool} {a b d e f : Value} (k : CM w bb L co As Al Ap Ao n c nl cl np cp mo cx t out fl wr) : vG (st5 wr (w.heap.size + 3) a b d e f) Ao As Al Ap mo cx n c nl cl np cp out t := by
 have hw := k.hb
 have of : ∀ {A : Option Addr} {m : Nat}, KeB (w.heap.size + 4) bb Ao A m → 0 < m → ∀ b off, A = some ⟨b, off, none⟩ → b ≠ w.heap.size + 3 := fun hk hm b off e => by have := (hk hm b off e).1; omega
 exact ⟨sl5 (Sl.of_own k.o) (fun b off e => by have := vP k.o b off e; omega), uV k.s (of k.ks), uV k.l (of k.kl), uV k.p (of k.kp)⟩
theorem lz.of {w wr : World} {bb : Nat} {L : List (TypeId × Array Value)} {co : Int} {As Al Ap Ao : Option Addr} {n c nl cl np cp mo cx : Nat} {t : Sm} {out : List Fn} {fl : Bool} (k : CM w bb L co As Al Ap Ao n c nl cl np cp mo cx t out fl wr) : lz w.heap.size Ao As Al Ap mo n nl np := by
 have hw := k.hb
 have of : ∀ {A : Option Addr} {m : Nat}, KeB (w.heap.size + 4) bb Ao A m → 0 < m → ∀ b off, A = some ⟨b, off, none⟩ → w.heap.size ≤ b := fun hk hm b off e => by have := (hk hm b off e).1; omega
 exact ⟨fun _ b off e => by have := vP k.o b off e; omega, of k.ks, of k.kl, of k.kp⟩
theorem lk (An Ad As Al Ap Ax : Option Addr) (nn cn nd cd n c nl cl np cp nx cx : Nat) (ns : List Nd) (ds : List Dv) (m : List Int) (ls : List Lk) (pr : List Int) (co : Int) (nm : ByteArray) (xs : List Sp) (w : World) (h : uB w An Ad As Al Ap Ax nn cn nd cd n c nl cl np cp nx cx ns ds m ls pr nm xs) :
 Calls Tryz.prog 19 #[.agg #[.slice An nn cn, .slice Ad nd cd], .slice As n c, .agg #[.int .i64 co, .slice Al nl cl, .slice Ap np cp], .agg #[.string nm, .slice Ax nx cx]] w (uv w ns ds m co ls pr nm xs) := by
 obtain ⟨hln, hld, hls⟩ := h.h.ln
 have hll : ls.length = nl := h.h.hl.len (fun _ => rfl) (by decide)
 have hlp : pr.length = np := h.h.hp.len (fun _ => rfl) (by decide)
 have hlx : xs.length = nx := h.x.len (fun _ => rfl) (by decide)
 have HH := iD h
 have HB := iD (Bxs.new4 w (30, #[.slice An nn cn, .slice Ad nd cd]) (37, #[.int .i64 co, .slice Al nl cl, .slice Ap np cp]) (41, #[.string nm, .slice Ax nx cx]) (47, #[.slice none 0 0, .slice none 0 0, .int .i64 0, .slice none 0 0, .slice none 0 0]))
 clear h
 go_enter Tryz.func19, Tryz.ntmps19
 go_upto_region 1 with (fail)
 dsimp only at HB
 generalize World.alloc (World.alloc (World.alloc (World.alloc w _) _) _) _ = W at *
 rw [show w.heap.size + 1 + 1 = w.heap.size + 2 from rfl, show w.heap.size + 2 + 1 = w.heap.size + 3 from rfl]
 have k0 := HB.out.b0.cell 0; have k1 := HB.out.b0.cell 1; have g0 := HB.out.b1.cell 0; have g1 := HB.out.b1.cell 1; have g2 := HB.out.b1.cell 2; have p0 := HB.out.b2.cell 0; have p1 := HB.out.b2.cell 1
 have HCC := iD (oB An Ad As Al Ap Ax nn cn nd cd n c nl cl np cp nx cx ns ds m ls pr co nm xs W (HH.out.below HB.out.l))
 go_wp2_with fail
 clear k0 k1 g0 g1 g2 p0 p1
 refine HCC.out.mono ?_
 rintro e w1 ⟨rfl, hb1⟩
 have HBE := iD (HB.out.later hb1)
 clear hb1 HCC HB
 obtain ⟨E, hE⟩ : ∃ E, E = yn ns ds m co ls pr nm xs := ⟨_, rfl⟩
 rw [← hE]
 have HEE := iD hE
 clear hE
 by_cases he : E = 0; rotate_left
 ·have q1 : (E != 0) = true := by simpa using he
  have HNZ := iD he
  clear he
  have d0 := HBE.out.b3.cell 0; have d1 := HBE.out.b3.cell 1; have d2 := HBE.out.b3.cell 2; have d3 := HBE.out.b3.cell 3; have d4 := HBE.out.b3.cell 4
  have y0 := HBE.out.b3.frozen 0; have y1 := HBE.out.b3.frozen 1; have y2 := HBE.out.b3.frozen 2; have y3 := HBE.out.b3.frozen 3; have y4 := HBE.out.b3.frozen 4
  have HF := iD (HBE.out.st5 (.slice none 0 0) (.slice none 0 0) (.int .i64 0) (.slice none 0 0) (.slice none 0 0)); unfold st5 at HF
  go_wp2_with fail
  clear d0 d1 d2 d3 d4 y0 y1 y2 y3 y4
  generalize World.setCell (World.setCell (World.setCell (World.setCell (World.setCell w1 _ _) _ _) _ _) _ _) _ _ = u at *
  have q0 := HF.out.b3.c0
  have q1 := HF.out.b3.c1
  have q2 := HF.out.b3.c2
  have q3 := HF.out.b3.c3
  have q4 := HF.out.b3.c4
  exact bodyPost_ret (v := .tuple #[.agg #[.slice none 0 0, .slice none 0 0, .int .i64 0, .slice none 0 0, .slice none 0 0], .int .i64 E]) (by simp [results, Tryz.results19, go_sem, q0, q1, q2, q3, q4]) rfl ⟨.inl ⟨by rw [← HEE.out]; exact HNZ.out, by rw [← HEE.out]⟩, HF.out.l⟩
 subst he
 have HOK := iD (jj HEE.out.symm)
 have hnd : nd ≤ 64 := by have := (yt.of (zV HOK.out.1.s).1).dl; omega
 have hnn : nn ≤ 32 := by have := (yt.of (zV HOK.out.1.s).1).nl; omega
 have hnl : nl ≤ 128 := by have := (ym HOK.out.1.l).1; dsimp only at this; omega
 have hnp : np ≤ 32 := by have := uc HOK.out.1.p; dsimp only at this; omega
 have hnx : nx ≤ 64 := by have := HOK.out.2.2.1; omega
 have hsl := (zV HOK.out.1.s).2.1
 dsimp only at hsl
 go_upto_region 4 with (fail)
 refine zC (S := fun W' => Bxs w [(30, #[.slice An nn cn, .slice Ad nd cd]), (37, #[.int .i64 co, .slice Al nl cl, .slice Ap np cp]), (41, #[.string nm, .slice Ax nx cx]), (47, #[.slice none 0 0, .slice none 0 0, .int .i64 0, .slice none 0 0, .slice none 0 0])] W') (J := [6]) (by kernel_rfl) ?_ (fun AA => ?_)
 ·exact HBE.out.drew
 try dsimp only at AA
 refine tk 0 29 (mf 7 1) AA ?_
 refine tx 2 31 ?_ (ma 7 5) ?_ AA ?_
 rotate_left
 ·(intro w hSw; (try dsimp only at hSw); have g0 := hSw.b1.cell 0; have g1 := hSw.b1.cell 1; have g2 := hSw.b1.cell 2; go_simp; try with_reducible rfl)
 try simp only [Act.put, sA, sB, sC]
 refine vI (i := 1) (k := 5) (mf 7 3) (ma 7 37) (by kernel_rfl) (by kernel_rfl) (by kernel_rfl) rfl rfl (fun K hK => ?_) (fun K hK => ?_)
 focus
  (have HGA := iD AA.b3.lt; go_simp; refine (yQ As n c _ m w1.drew (HH.out.h.below AA.l).hs lR (by omega)).mono ?_; rintro e w3 ⟨A2, c2, rfl, hO2, hb2⟩; rw [hls] at hO2 ⊢; have HO2 := iD (World.ownsRow.mono hO2.out HGA.out); have HBb := iD hb2.out; clear hO2 hb2; go_simp)
  refine hK.out _ _ (fun _ => ?_) (fun AA' => ?_)
  ·exact AA.later HBb.out
  replace AA := AA' rfl
  clear AA' hK K
  try dsimp only at AA
  clear HBb
  refine vI (i := 3) (k := 5) (mf 7 4) (ma 7 39) (by kernel_rfl) (by kernel_rfl) (by kernel_rfl) rfl rfl (fun K hK => ?_) (fun K hK => ?_)
  focus
   (have HGB := iD AA.b3.lt; go_simp; refine (vk Al Ap nl cl np cp _ co ls pr w3 (HH.out.h.below AA.l).hl (HH.out.h.below AA.l).hp lR (by omega) (by omega)).mono ?_; rintro e w4 ⟨A3, A4, c3, c4, rfl, hO3, hO4, hb2⟩; have HO3 := iD (World.ownsRow.mono hO3.out HGB.out); have HO4 := iD (World.ownsRow.mono hO4.out HGB.out); have HBb := iD hb2.out; clear hO3 hO4 hb2; go_simp)
   refine hK.out _ _ (fun _ => ?_) (fun AA' => ?_)
   ·exact AA.later HBb.out
   replace AA := AA' rfl
   clear AA' hK K
   try dsimp only at AA
   have HO2 := iD (zt HO2.out HBb.out)
   clear HBb
   refine tk 4 33 (mf 7 5) AA ?_
   refine tb 5 (mf 7 6) fun K hK => ?_
   (have HXW0 := iD AA.b3.lt; go_simp)
   refine hK.out _ _ (fun _ => ?_) (fun AA' => ?_)
   ·exact AA.later ((Below.refl _ _).alloc lR _)
   replace AA := AA' rfl
   clear AA' hK K
   try dsimp only at AA
   have HAL : Hid (Below w4.heap.size w4 (w4.alloc (.cells #[.slice none 0 0, .int .i64 0, .slice none 0 0, .slice none 0 0, .bool false] 96))) := (Below.refl w4.heap.size w4).alloc lR (.cells #[.slice none 0 0, .int .i64 0, .slice none 0 0, .slice none 0 0, .bool false] 96)
   have HX : Hid (Blk (w4.alloc (.cells #[.slice none 0 0, .int .i64 0, .slice none 0 0, .slice none 0 0, .bool false] 96)) w4.heap.size 96 #[.slice none 0 0, .int .i64 0, .slice none 0 0, .slice none 0 0, .bool false]) := Blk.new w4 96 #[.slice none 0 0, .int .i64 0, .slice none 0 0, .slice none 0 0, .bool false]
   generalize World.alloc w4 _ = wa at *
   have HO2 := iD (zt HO2.out HAL.out)
   have HO3 := iD (zt HO3.out HAL.out)
   have HO4 := iD (zt HO4.out HAL.out)
   obtain ⟨x, hxd⟩ : ∃ x, x = w4.heap.size := ⟨_, rfl⟩
   rw [← hxd] at HX ⊢
   have HXW : Hid (w.heap.size + 4 ≤ x) := by unfold Hid; rw [hxd]; exact HXW0.out
   clear hxd HAL
   have HTT := iD AA
   have k0 := HX.out.cell 0; have k1 := HX.out.cell 1; have k2 := HX.out.cell 2; have k3 := HX.out.cell 3; have k4 := HX.out.cell 4; have z0 := HX.out.frozen 0; have z1 := HX.out.frozen 1; have z2 := HX.out.frozen 2; have z3 := HX.out.frozen 3; have z4 := HX.out.frozen 4
   refine tb 6 (mf 7 7) fun K hK => ?_
   go_simp
   refine hK.out _ _ (fun h => by cases h) (fun _ => ?_)
   try clear AA
   clear hK K
   refine zA (by kernel_rfl) ?_ _
   have HCM : Hid (CM w x [(30, #[.slice An nn cn, .slice Ad nd cd]), (37, #[.int .i64 co, .slice Al nl cl, .slice Ap np cp]), (41, #[.string nm, .slice Ax nx cx]), (47, #[.slice none 0 0, .slice none 0 0, .int .i64 0, .slice none 0 0, .slice none 0 0])] co A2 A3 A4 none n c2 nl c3 np c4 0 0 ⟨m, ls, pr⟩ [] false (st5 wa x (.slice A2 n c2) (.int .i64 co) (.slice A3 nl c3) (.slice A4 np c4) (.bool false))) := ⟨((((HTT.out.put HXW.out 0 _).put HXW.out 1 _).put HXW.out 2 _).put HXW.out 3 _).put HXW.out 4 _, ((((HX.out.set 0 _).set 1 _).set 2 _).set 3 _).set 4 _, sl5 (Sl.of_own HO2.out) (yN HO2.out HX.out (by decide)), sl5 (Sl.of_own HO3.out) (yN HO3.out HX.out (by decide)), sl5 (Sl.of_own HO4.out) (yN HO4.out HX.out (by decide)), World.ownsRow_nil _ _ _ _, KeB.own HO2.out lR (yN HO2.out HX.out (by decide)), KeB.own HO3.out lR (yN HO3.out HX.out (by decide)), KeB.own HO4.out lR (yN HO4.out HX.out (by decide)), HXW.out, rfl⟩
   unfold st5 at HCM
   clear k0 k1 k2 k3 k4 z0 z1 z2 z3 z4 HTT HX HO2 HO3 HO4
   generalize World.setCell (World.setCell (World.setCell (World.setCell (World.setCell wa _ _) _ _) _ _) _ _) _ _ = z at *
  rotate_left 1
  focus
   (have HXW0 := iD AA.b3.lt; go_simp)
   refine hK.out _ _ (fun _ => ?_) (fun AA' => ?_)
   ·exact AA.later ((Below.refl _ _).alloc lR _)
   replace AA := AA' rfl
   clear AA' hK K
   try dsimp only at AA
   have HAL : Hid (Below w3.heap.size w3 (w3.alloc (.cells #[.slice none 0 0, .int .i64 0, .slice none 0 0, .slice none 0 0, .bool false] 96))) := (Below.refl w3.heap.size w3).alloc lR (.cells #[.slice none 0 0, .int .i64 0, .slice none 0 0, .slice none 0 0, .bool false] 96)
   have HX : Hid (Blk (w3.alloc (.cells #[.slice none 0 0, .int .i64 0, .slice none 0 0, .slice none 0 0, .bool false] 96)) w3.heap.size 96 #[.slice none 0 0, .int .i64 0, .slice none 0 0, .slice none 0 0, .bool false]) := Blk.new w3 96 #[.slice none 0 0, .int .i64 0, .slice none 0 0, .slice none 0 0, .bool false]
   generalize World.alloc w3 _ = wa at *
   have HO2 := iD (zt HO2.out HAL.out)
   obtain ⟨x, hxd⟩ : ∃ x, x = w3.heap.size := ⟨_, rfl⟩
   rw [← hxd] at HX ⊢
   have HXW : Hid (w.heap.size + 4 ≤ x) := by unfold Hid; rw [hxd]; exact HXW0.out
   clear hxd HAL
   refine tb 3 (ma 7 47) fun K hK => ?_
   (have HGB := iD AA.b3.lt; go_simp; refine (vk Al Ap nl cl np cp _ co ls pr wa (HH.out.h.below AA.l).hl (HH.out.h.below AA.l).hp lR (by omega) (by omega)).mono ?_; rintro e w4 ⟨A3, A4, c3, c4, rfl, hO3, hO4, hb2⟩; have HO3 := iD (World.ownsRow.mono hO3.out HGB.out); have HO4 := iD (World.ownsRow.mono hO4.out HGB.out); have HBb := iD hb2.out; clear hO3 hO4 hb2; go_simp)
   refine hK.out _ _ (fun _ => ?_) (fun AA' => ?_)
   ·exact AA.later HBb.out
   replace AA := AA' rfl
   clear AA' hK K
   try dsimp only at AA
   have HO2 := iD (zt HO2.out HBb.out)
   have HX := iD (HX.out.below HBb.out HX.out.lt)
   clear HBb
   refine tk 4 33 (mf 7 6) AA ?_
   have HTT := iD AA
   have k0 := HX.out.cell 0; have k1 := HX.out.cell 1; have k2 := HX.out.cell 2; have k3 := HX.out.cell 3; have k4 := HX.out.cell 4; have z0 := HX.out.frozen 0; have z1 := HX.out.frozen 1; have z2 := HX.out.frozen 2; have z3 := HX.out.frozen 3; have z4 := HX.out.frozen 4
   refine tb 6 (mf 7 7) fun K hK => ?_
   go_simp
   refine hK.out _ _ (fun h => by cases h) (fun _ => ?_)
   try clear AA
   clear hK K
   refine zA (by kernel_rfl) ?_ _
   have HCM : Hid (CM w x [(30, #[.slice An nn cn, .slice Ad nd cd]), (37, #[.int .i64 co, .slice Al nl cl, .slice Ap np cp]), (41, #[.string nm, .slice Ax nx cx]), (47, #[.slice none 0 0, .slice none 0 0, .int .i64 0, .slice none 0 0, .slice none 0 0])] co A2 A3 A4 none n c2 nl c3 np c4 0 0 ⟨m, ls, pr⟩ [] false (st5 w4 x (.slice A2 n c2) (.int .i64 co) (.slice A3 nl c3) (.slice A4 np c4) (.bool false))) := ⟨((((HTT.out.put HXW.out 0 _).put HXW.out 1 _).put HXW.out 2 _).put HXW.out 3 _).put HXW.out 4 _, ((((HX.out.set 0 _).set 1 _).set 2 _).set 3 _).set 4 _, sl5 (Sl.of_own HO2.out) (yN HO2.out HX.out (by decide)), sl5 (Sl.of_own HO3.out) (yN HO3.out HX.out (by decide)), sl5 (Sl.of_own HO4.out) (yN HO4.out HX.out (by decide)), World.ownsRow_nil _ _ _ _, KeB.own HO2.out lR (yN HO2.out HX.out (by decide)), KeB.own HO3.out lR (yN HO3.out HX.out (by decide)), KeB.own HO4.out lR (yN HO4.out HX.out (by decide)), HXW.out, rfl⟩
   unfold st5 at HCM
   clear k0 k1 k2 k3 k4 z0 z1 z2 z3 z4 HTT HX HO2 HO3 HO4
   generalize World.setCell (World.setCell (World.setCell (World.setCell (World.setCell w4 _ _) _ _) _ _) _ _) _ _ = z at *
  rotate_left 1
 rotate_left 2
 focus
  go_simp
  refine hK.out _ _ (fun _ => ?_) (fun AA' => ?_)
  ·exact HBE.out.later ((Below.refl w1.heap.size w1).alloc lR (.cells #[.slice none 0 0, .int .i64 0, .slice none 0 0, .slice none 0 0, .bool false] 96)).drew
  replace AA := AA' rfl
  clear AA' hK K
  try dsimp only at AA
  have HAL : Hid (Below w1.heap.size w1 (w1.alloc (.cells #[.slice none 0 0, .int .i64 0, .slice none 0 0, .slice none 0 0, .bool false] 96)).drew) := ((Below.refl w1.heap.size w1).alloc lR (.cells #[.slice none 0 0, .int .i64 0, .slice none 0 0, .slice none 0 0, .bool false] 96)).drew
  have HX : Hid (Blk (w1.alloc (.cells #[.slice none 0 0, .int .i64 0, .slice none 0 0, .slice none 0 0, .bool false] 96)).drew w1.heap.size 96 #[.slice none 0 0, .int .i64 0, .slice none 0 0, .slice none 0 0, .bool false]) := Blk.new w1 96 #[.slice none 0 0, .int .i64 0, .slice none 0 0, .slice none 0 0, .bool false]
  have HXW : Hid (w.heap.size + 4 ≤ w1.heap.size) := HBE.out.b3.lt
  generalize World.drew (World.alloc w1 _) = wa at *
  obtain ⟨x, hxd⟩ : ∃ x, x = w1.heap.size := ⟨_, rfl⟩
  rw [← hxd] at HX HXW ⊢
  clear hxd HAL
  refine tb 1 (ma 7 39) fun K hK => ?_
  (have HGA := iD AA.b3.lt; go_simp; refine (yQ As n c _ m wa (HH.out.h.below AA.l).hs lR (by omega)).mono ?_; rintro e w3 ⟨A2, c2, rfl, hO2, hb2⟩; rw [hls] at hO2 ⊢; have HO2 := iD (World.ownsRow.mono hO2.out HGA.out); have HBb := iD hb2.out; clear hO2 hb2; go_simp)
  refine hK.out _ _ (fun _ => ?_) (fun AA' => ?_)
  ·exact AA.later HBb.out
  replace AA := AA' rfl
  clear AA' hK K
  try dsimp only at AA
  have HX := iD (HX.out.below HBb.out HX.out.lt)
  clear HBb
  refine tb 3 (ma 7 47) fun K hK => ?_
  (have HGB := iD AA.b3.lt; go_simp; refine (vk Al Ap nl cl np cp _ co ls pr w3 (HH.out.h.below AA.l).hl (HH.out.h.below AA.l).hp lR (by omega) (by omega)).mono ?_; rintro e w4 ⟨A3, A4, c3, c4, rfl, hO3, hO4, hb2⟩; have HO3 := iD (World.ownsRow.mono hO3.out HGB.out); have HO4 := iD (World.ownsRow.mono hO4.out HGB.out); have HBb := iD hb2.out; clear hO3 hO4 hb2; go_simp)
  refine hK.out _ _ (fun _ => ?_) (fun AA' => ?_)
  ·exact AA.later HBb.out
  replace AA := AA' rfl
  clear AA' hK K
  try dsimp only at AA
  have HO2 := iD (zt HO2.out HBb.out)
  have HX := iD (HX.out.below HBb.out HX.out.lt)
  clear HBb
  refine tk 4 33 (mf 7 6) AA ?_
  have HTT := iD AA
  have k0 := HX.out.cell 0; have k1 := HX.out.cell 1; have k2 := HX.out.cell 2; have k3 := HX.out.cell 3; have k4 := HX.out.cell 4; have z0 := HX.out.frozen 0; have z1 := HX.out.frozen 1; have z2 := HX.out.frozen 2; have z3 := HX.out.frozen 3; have z4 := HX.out.frozen 4
  refine tb 6 (mf 7 7) fun K hK => ?_
  go_simp
  refine hK.out _ _ (fun h => by cases h) (fun _ => ?_)
  try clear AA
  clear hK K
  refine zA (by kernel_rfl) ?_ _
  have HCM : Hid (CM w x [(30, #[.slice An nn cn, .slice Ad nd cd]), (37, #[.int .i64 co, .slice Al nl cl, .slice Ap np cp]), (41, #[.string nm, .slice Ax nx cx]), (47, #[.slice none 0 0, .slice none 0 0, .int .i64 0, .slice none 0 0, .slice none 0 0])] co A2 A3 A4 none n c2 nl c3 np c4 0 0 ⟨m, ls, pr⟩ [] false (st5 w4 x (.slice A2 n c2) (.int .i64 co) (.slice A3 nl c3) (.slice A4 np c4) (.bool false))) := ⟨((((HTT.out.put HXW.out 0 _).put HXW.out 1 _).put HXW.out 2 _).put HXW.out 3 _).put HXW.out 4 _, ((((HX.out.set 0 _).set 1 _).set 2 _).set 3 _).set 4 _, sl5 (Sl.of_own HO2.out) (yN HO2.out HX.out (by decide)), sl5 (Sl.of_own HO3.out) (yN HO3.out HX.out (by decide)), sl5 (Sl.of_own HO4.out) (yN HO4.out HX.out (by decide)), World.ownsRow_nil _ _ _ _, KeB.own HO2.out lR (yN HO2.out HX.out (by decide)), KeB.own HO3.out lR (yN HO3.out HX.out (by decide)), KeB.own HO4.out lR (yN HO4.out HX.out (by decide)), HXW.out, rfl⟩
  unfold st5 at HCM
  clear k0 k1 k2 k3 k4 z0 z1 z2 z3 z4 HTT HX HO2 HO3 HO4
  generalize World.setCell (World.setCell (World.setCell (World.setCell (World.setCell w4 _ _) _ _) _ _) _ _) _ _ = z at *
 rotate_left 1
 all_goals
  clear HBE
  have p1 := HCM.out.x.b2.c1
  go_upto_region 7 with (fail)
  clear p1
  obtain ⟨R, hR⟩ : ∃ R, R = zf ns ds co 0 [] ⟨m, ls, pr⟩ xs := ⟨_, rfl⟩
  have HRR : Hid (zf ns ds co 0 [] ⟨m, ls, pr⟩ xs = R) := hR.symm
  have HR0 : Hid (zf ns ds co 0 [] ⟨m, ls, pr⟩ (xs.drop 0) = R) := hR.symm
  have HOK0 := iD HOK.out.1
  clear hR
  refine wZ [(8, 0), (0, 1), (1, 0), (0, 3), (4, 1), (0, 0), (0, 1), (16, 0), (0, 2), (32, 1), (5, 0)] 37 12 (nx) (ChR w x [(30, #[.slice An nn cn, .slice Ad nd cd]), (37, #[.int .i64 co, .slice Al nl cl, .slice Ap np cp]), (41, #[.string nm, .slice Ax nx cx]), (47, #[.slice none 0 0, .slice none 0 0, .int .i64 0, .slice none 0 0, .slice none 0 0])] co ns ds xs R nx) (by (try dsimp only [gt]); exact ⟨0, _, _, _, _, _, _, _, _, _, _, _, _, ⟨m, ls, pr⟩, [], rfl, rfl, Nat.zero_le _, rfl, by omega, HCM, HOK0, HR0⟩) (by kernel_rfl) ?_
  intro u1 p37 p12 gk wr a hrel ha J1 K1 hJ1 hK1
  dsimp only [zZ, Go.Proofs.YtkkobemhbicjgaaGreatDoor.v2, Nat.reduceAdd] at ha
  subst ha
  clear HCM HR0 HOK0
  obtain ⟨i, nq, cq, nlq, clq, npq, cpq, mo, cxo, Asq, Alq, Apq, Ao, t, out, rfl, rfl, hi, rfl, hmo, hC, hO, hR⟩ := hrel
  have HC := iD hC.out; have HT := iD hO.out; have HR := iD hR.out
  clear hC hO hR
  by_cases hlt : i < nx; rotate_left
  ·have q1 : decide (i < nx) = false := by simpa using hlt
   have HRE : Hid ((⟨0, out, t⟩ : Cr) = R) := by unfold Hid; rw [← HR.out, lm (by omega)]
   go_upto_region 20 with (fail)
   clear q1
   have g0 := HC.out.b.cell 0; have g1 := HC.out.b.cell 1; have g2 := HC.out.b.cell 2; have g3 := HC.out.b.cell 3; have g4 := HC.out.b.cell 4
   have d0 := HC.out.x.b3.cell 0; have d1 := HC.out.x.b3.cell 1; have d2 := HC.out.x.b3.cell 2; have d3 := HC.out.x.b3.cell 3; have d4 := HC.out.x.b3.cell 4
   have y0 := HC.out.x.b3.frozen 0; have y1 := HC.out.x.b3.frozen 1; have y2 := HC.out.x.b3.frozen 2; have y3 := HC.out.x.b3.frozen 3; have y4 := HC.out.x.b3.frozen 4
   have HF := iD (HC.out.x.st5 (.slice Ao mo cxo) (.slice Asq nq cq) (.int .i64 co) (.slice Alq nlq clq) (.slice Apq npq cpq))
   have HRA := iD (vG.of (a := .slice Ao mo cxo) (b := .slice Asq nq cq) (d := .int .i64 co) (e := .slice Alq nlq clq) (f := .slice Apq npq cpq) HC.out)
   unfold st5 at HF HRA
   go_wp2_with fail
   clear g0 g1 g2 g3 g4 d0 d1 d2 d3 d4 y0 y1 y2 y3 y4
   generalize World.setCell (World.setCell (World.setCell (World.setCell (World.setCell wr _ _) _ _) _ _) _ _) _ _ = u at *
   have q0 := HF.out.b3.c0
   have q1 := HF.out.b3.c1
   have q2 := HF.out.b3.c2
   have q3 := HF.out.b3.c3
   have q4 := HF.out.b3.c4
   exact bodyPost_ret (v := .tuple #[.agg #[.slice Ao mo cxo, .slice Asq nq cq, .int .i64 co, .slice Alq nlq clq, .slice Apq npq cpq], .int .i64 0]) (by simp [results, Tryz.results19, go_sem, q0, q1, q2, q3, q4]) rfl ⟨.inr (.inr ⟨HEE.out.symm, by rw [HRR.out, ← HRE.out], _, _, _, _, _, _, _, _, _, _, _, _, rfl, by rw [HRR.out, ← HRE.out]; exact HRA, iD (lz.of HC.out)⟩), HF.out.l⟩
  have q1 : decide (i < nx) = true := by simpa using hlt
  obtain ⟨be, oe, sx, hAx, hbe, hsx, hcx⟩ := HH.out.x.at (fun _ => rfl) (by decide) hlt
  obtain ⟨kd, dv, no, ps, ky⟩ := sx
  have HAX := iD hAx
  have HSX : Hid (xs[i]? = some ⟨kd, dv, no, ps, ky⟩) := hsx
  have HSP : Hid (zT ns.length ds.length ⟨kd, dv, no, ps, ky⟩ = 0) := wd HOK.out.2.2.2 _ (List.mem_of_getElem? hsx)
  have HCX : Hid (∀ j u, (Sp.cells ⟨kd, dv, no, ps, ky⟩)[j]? = some u → wr.cell? ⟨be, oe + i * 5 + j, none⟩ = some u) := fun j u h => (HC.out.x.l.cell (p := ⟨be, oe + i * 5 + j, none⟩) hbe).trans (hcx j u h)
  clear hAx hbe hsx hcx
  have a0 : wr.cell? ⟨be, oe + i * 5, none⟩ = some (.int .i64 kd) := HCX.out 0 _ rfl
  have a1 : wr.cell? ⟨be, oe + i * 5 + 1, none⟩ = some (.int .i64 dv) := HCX.out 1 _ rfl
  have a2 : wr.cell? ⟨be, oe + i * 5 + 2, none⟩ = some (.int .i64 no) := HCX.out 2 _ rfl
  have a3 : wr.cell? ⟨be, oe + i * 5 + 3, none⟩ = some (.int .i64 ps) := HCX.out 3 _ rfl
  have a4 : wr.cell? ⟨be, oe + i * 5 + 4, none⟩ = some (.int .i64 ky) := HCX.out 4 _ rfl
  have hn9 : nx ≤ 9223372036854775807 := by omega
  rw [HAX.out]
  go_upto_region 9 with (fail)
  clear a0 a1 a2 a3 a4 HCX
  have HCV := iD (HC.out.later ((Below.refl _ wr).alloc lR (.cells #[.int .i64 kd, .int .i64 dv, .int .i64 no, .int .i64 ps, .int .i64 ky] 43)))
  have HSB := iD (Blk.new wr 43 #[.int .i64 kd, .int .i64 dv, .int .i64 no, .int .i64 ps, .int .i64 ky])
  clear HC
  generalize World.alloc wr _ = V at *
  obtain ⟨sb, hsb⟩ : ∃ x, x = wr.heap.size := ⟨_, rfl⟩
  rw [← hsb] at HSB ⊢
  clear hsb
  have k0 := HCV.out.x.b0.cell 0; have k1 := HCV.out.x.b0.cell 1
  have g0 := HCV.out.b.cell 0; have g1 := HCV.out.b.cell 1; have g2 := HCV.out.b.cell 2; have g3 := HCV.out.b.cell 3; have g4 := HCV.out.b.cell 4
  have s0 := HSB.out.cell 0; have s1 := HSB.out.cell 1; have s2 := HSB.out.cell 2; have s3 := HSB.out.cell 3; have s4 := HSB.out.cell 4
  obtain ⟨O, hO⟩ : ∃ O, O = zu ns ds co t ⟨kd, dv, no, ps, ky⟩ := ⟨_, rfl⟩
  have HOO := iD hO
  have HCL := iD (nR An Ad Asq Alq Apq nn cn nd cd nq cq nlq clq npq cpq ns ds t.s t.ls t.pr co kd dv no ps ky V (HCV.out.mem HH.out.h) HT.out HSP.out HOK.out.2.1)
  rw [show (⟨t.s, t.ls, t.pr⟩ : Sm) = t from rfl, ← hO] at HCL
  clear hO
  go_wp2_with fail
  clear k0 k1 g0 g1 g2 g3 g4 s0 s1 s2 s3 s4 HSB
  refine HCL.out.mono ?_
  rintro e w5 ⟨B1, B2, B3, B4, m1, e1, m2, e2, m3, e3, m4, e4, rfl, hS, hF, hb⟩
  have HC5 := iD (HCV.out.later hb.out)
  have HS5 := iD hS.out
  have HVZ : Hid (x < V.heap.size) := HCV.out.b.lt
  have HVW : Hid (w.heap.size + 4 ≤ V.heap.size) := by have := HCV.out.hb; have := HVZ.out; unfold Hid; omega
  have HAV := iD (kg HCV.out.o)
  have HAV5 := iD (kg HC5.out.o)
  have HK5 : Hid (KeB (w.heap.size + 4) x Ao B1 m1 ∧ KeB (w.heap.size + 4) x Ao B2 m2 ∧ KeB (w.heap.size + 4) x Ao B3 m3 ∧ KeB (w.heap.size + 4) x Ao B4 m4) := ⟨(KeB.nil 0).fre hF.out.1 HVZ.out HVW.out HAV.out, HCV.out.ks.fre hF.out.2.1 HVZ.out HVW.out HAV.out, HCV.out.kl.fre hF.out.2.2.1 HVZ.out HVW.out HAV.out, HCV.out.kp.fre hF.out.2.2.2 HVZ.out HVW.out HAV.out⟩
  clear hS hF hb HCL HCV HVZ HVW HAV
  go_upto_region 10 with (fail)
  have HCU := iD (HC5.out.later ((Below.refl _ w5).alloc lR (.cells #[.slice B2 m2 e2, .int .i64 co, .slice B3 m3 e3, .slice B4 m4 e4, .bool O.ov] 96)))
  have HNB := iD (Blk.new w5 96 #[.slice B2 m2 e2, .int .i64 co, .slice B3 m3 e3, .slice B4 m4 e4, .bool O.ov])
  have HSU : Hid (O.e = 0 → yZ (w5.alloc (.cells #[.slice B2 m2 e2, .int .i64 co, .slice B3 m3 e3, .slice B4 m4 e4, .bool O.ov] 96)) B1 B2 B3 B4 m1 e1 m2 e2 m3 e3 m4 e4 ⟨O.h, O.t, true⟩) := fun h0 => (HS5.out h0).later ((Below.refl _ w5).alloc lR _)
  have HNX : Hid (x < w5.heap.size ∧ ∀ o', Ao ≠ some ⟨w5.heap.size, o', none⟩) := ⟨HC5.out.b.lt, fun o' e => by have := HAV5.out _ o' e; omega⟩
  clear HC5 HS5 HAV5
  generalize World.alloc w5 _ = U at *
  obtain ⟨nb, hnb⟩ : ∃ x, x = w5.heap.size := ⟨_, rfl⟩
  rw [← hnb] at HNB HNX ⊢
  clear hnb
  by_cases he : O.e = 0; rotate_left
  ·have q2 : (O.e != 0) = true := by simpa using he
   have HNZ := iD he
   have HRE : Hid ((⟨O.e, [], ⟨[], [], []⟩⟩ : Cr) = R) := by unfold Hid; rw [← HR.out, ll HSX.out (by rw [← HOO.out]; exact HNZ.out), ← HOO.out]
   clear he
   have d0 := HCU.out.x.b3.cell 0; have d1 := HCU.out.x.b3.cell 1; have d2 := HCU.out.x.b3.cell 2; have d3 := HCU.out.x.b3.cell 3; have d4 := HCU.out.x.b3.cell 4
   have y0 := HCU.out.x.b3.frozen 0; have y1 := HCU.out.x.b3.frozen 1; have y2 := HCU.out.x.b3.frozen 2; have y3 := HCU.out.x.b3.frozen 3; have y4 := HCU.out.x.b3.frozen 4
   have HF := iD (HCU.out.x.st5 (.slice none 0 0) (.slice none 0 0) (.int .i64 0) (.slice none 0 0) (.slice none 0 0)); unfold st5 at HF
   go_wp2_with fail
   clear d0 d1 d2 d3 d4 y0 y1 y2 y3 y4
   generalize World.setCell (World.setCell (World.setCell (World.setCell (World.setCell U _ _) _ _) _ _) _ _) _ _ = u at *
   have q0 := HF.out.b3.c0
   have q1 := HF.out.b3.c1
   have q2 := HF.out.b3.c2
   have q3 := HF.out.b3.c3
   have q4 := HF.out.b3.c4
   exact bodyPost_ret (v := .tuple #[.agg #[.slice none 0 0, .slice none 0 0, .int .i64 0, .slice none 0 0, .slice none 0 0], .int .i64 O.e]) (by simp [results, Tryz.results19, go_sem, q0, q1, q2, q3, q4]) rfl ⟨.inr (.inl ⟨HEE.out.symm, by rw [HRR.out, ← HRE.out]; exact HNZ.out, by rw [HRR.out, ← HRE.out]⟩), HF.out.l⟩
  have q2 : (O.e != 0) = false := by simp [he]
  have HCK : Hid (CK w x nb co Ao B1 B2 B3 B4 m1 e1 m2 e2 m3 e3 m4 e4 O.h O.t O.ov U) := ⟨HSU.out he, HK5.out.1, HK5.out.2.1, HK5.out.2.2.1, HK5.out.2.2.2, HNB.out, HNX.out⟩
  have HE0 := iD he
  have hm1 : m1 ≤ 8 := by
   have h1 : O.h.length = m1 := HCK.out.a.h.len (fun _ => rfl) (by decide)
   have := jf ns ds co t ⟨kd, dv, no, ps, ky⟩
   rw [← HOO.out] at this; omega
  have HHL : Hid (O.h.length = m1) := HCK.out.a.h.len (fun _ => rfl) (by decide)
  clear he HSU HK5 HNB HNX
  go_upto_region 13 with (fail)
  clear q2 q1
  refine wZ [(11, 0), (0, 3), (5, 0), (0, 1), (35, 0), (0, 2), (9, 1), (9, 0)] 56 12 (m1) (ChD w x nb [(30, #[.slice An nn cn, .slice Ad nd cd]), (37, #[.int .i64 co, .slice Al nl cl, .slice Ap np cp]), (41, #[.string nm, .slice Ax nx cx]), (47, #[.slice none 0 0, .slice none 0 0, .int .i64 0, .slice none 0 0, .slice none 0 0])] co Asq Alq Apq nq cq nlq clq npq cpq mo i t out B1 B2 B3 B4 m1 e1 m2 e2 m3 e3 m4 e4 O) (by (try dsimp only [gt]); exact ⟨0, _, _, rfl, rfl, Nat.zero_le _, rfl, by rw [List.take_zero, show zi i [] = [] from rfl, List.append_nil]; exact HCU, HCK⟩) (by kernel_rfl) ?_
  intro u2 p56 p12 gk2 wr2 a hrel ha J2 K2 hJ2 hK2
  dsimp only [zZ, Go.Proofs.YtkkobemhbicjgaaGreatDoor.v2, Nat.reduceAdd] at ha
  subst ha
  clear HCU HCK
  obtain ⟨j, cxo2, Ao2, rfl, rfl, hj, rfl, hC, hK⟩ := hrel
  have HC := iD hC.out; have HK := iD hK.out
  clear hC hK
  by_cases hjl : j < m1
  ·have q3 : decide (j < m1) = true := by simpa using hjl
   obtain ⟨b1, o1, y, hB1, hbb, hy, hcy⟩ := HK.out.a.h.at1 hjl
   have HY : Hid (O.h[j]? = some y) := hy
   have HB1 := iD hB1
   clear hy hbb hB1
   rw [HB1.out]
   have hm9 : m1 ≤ 9223372036854775807 := by omega
   go_upto_region 15 with (fail)
   clear hcy q3
   have HCA := iD (HC.out.later ((Below.refl _ wr2).alloc lR (.cells #[.int .i64 i, .int .i64 y] 53)))
   have HKA := iD (HK.out.later ((Below.refl _ wr2).alloc lR (.cells #[.int .i64 i, .int .i64 y] 53)))
   have hob1 : x + 1 ≤ (wr2.alloc (.cells #[.int .i64 i, .int .i64 y] 53)).heap.size := by have := HC.out.b.lt; simp; omega
   have hmj : mo + j ≤ 100000 := by omega
   go_upto_region 16 with (at_builtin; go_must (refine zR rfl (.tmp 60) (.tmp 64) rfl mO (by rfl) HCA.out.o (by rfl) (Sl.newest (n := 1) rfl rfl (by decide)) (by simp [Value.oneCell']) (by omega) (by omega) hob1 ?_; intro A' cx2 w7 hown7 hgr7 hat7))
   have HC7 : Hid (CM w x [(30, #[.slice An nn cn, .slice Ad nd cd]), (37, #[.int .i64 co, .slice Al nl cl, .slice Ap np cp]), (41, #[.string nm, .slice Ax nx cx]), (47, #[.slice none 0 0, .slice none 0 0, .int .i64 0, .slice none 0 0, .slice none 0 0])] co Asq Alq Apq A' nq cq nlq clq npq cpq (mo + j + 1) cx2 t ((out ++ zi i (O.h.take j)) ++ [⟨i, y⟩]) false w7) := HCA.out.app hgr7 hat7 (f := ⟨i, y⟩) hown7
   have HK7 := iD (HKA.out.app HCA.out.o hgr7 hat7 ((yv hown7).imp id fun ⟨g, e, _⟩ => ⟨g, e⟩))
   have HC8 : Hid (CM w x [(30, #[.slice An nn cn, .slice Ad nd cd]), (37, #[.int .i64 co, .slice Al nl cl, .slice Ap np cp]), (41, #[.string nm, .slice Ax nx cx]), (47, #[.slice none 0 0, .slice none 0 0, .int .i64 0, .slice none 0 0, .slice none 0 0])] co Asq Alq Apq A' nq cq nlq clq npq cpq (mo + (j + 1)) cx2 t (out ++ zi i (O.h.take (j + 1))) false w7) := by
    unfold Hid
    rw [jZ HY.out, ← List.append_assoc, ← Nat.add_assoc]; exact HC7.out
   clear hown7 hgr7 hat7 HCA HKA HC7 HC HK hob1 hmj
   have hkk : IntKind.i64.wrap ((j : Int) + 1) = (j : Int) + 1 := IntWalk.i64_in _ (by omega)
   go_wp2_with fail
   rw [← HB1.out]
   refine Handed.intro (m1 - (j + 1)) (by omega) (hJ2 _ _ _ (qh.back 56 12 ?_ (by kernel_rfl)))
   dsimp only [gt]
   exact ⟨j + 1, cx2, A', by go_num, rfl, by omega, rfl, HC8, HK7⟩
  have q3 : decide (j < m1) = false := by simpa using hjl
  have HJM : Hid (zi i (O.h.take j) = zi i O.h) := by unfold Hid; rw [List.take_of_length_le (by rw [HHL.out]; omega)]
  have hjm : j = m1 := by omega
  rw [HJM.out] at HC
  have HQ := iD hjm
  clear hjl hjm
  have k0 := HK.out.bx.cell 0; have k1 := HK.out.bx.cell 1; have k2 := HK.out.bx.cell 2; have k3 := HK.out.bx.cell 3; have k4 := HK.out.bx.cell 4
  have g0 := HC.out.b.cell 0; have g1 := HC.out.b.cell 1; have g2 := HC.out.b.cell 2; have g3 := HC.out.b.cell 3; have g4 := HC.out.b.cell 4
  have f0 := HC.out.b.frozen 0; have f1 := HC.out.b.frozen 1; have f2 := HC.out.b.frozen 2; have f3 := HC.out.b.frozen 3; have f4 := HC.out.b.frozen 4
  have HCN := iD (HC.out.put HK.out)
  unfold st5 at HCN
  go_upto_region 18 with (fail)
  clear q3 k0 k1 k2 k3 k4 g0 g1 g2 g3 g4 f0 f1 f2 f3 f4 HC HK HJM
  generalize World.setCell (World.setCell (World.setCell (World.setCell (World.setCell wr2 _ _) _ _) _ _) _ _) _ _ = X at *
  have HON : Hid (wX ns ds O.t) := by unfold Hid; rw [HOO.out]; exact vo HT.out HSP.out
  have g4 := HCN.out.b.c4
  rcases hov : O.ov with _ | _
  ·rw [hov] at g4 HCN
   have HRN : Hid (zf ns ds co (i + 1) (out ++ zi i O.h) O.t (xs.drop (i + 1)) = R) := by unfold Hid; rw [← HR.out, oC HSX.out (by rw [← HOO.out]; exact HE0.out) (by rw [← HOO.out]; exact hov), ← HOO.out]
   clear hov
   have hkk : IntKind.i64.wrap ((i : Int) + 1) = (i : Int) + 1 := IntWalk.i64_in _ (by omega)
   have hmb : mo + j ≤ 8 * (i + 1) := by omega
   go_wp2_with fail
   clear g4
   rw [← HAX.out]
   refine Handed.intro (nx - (i + 1)) (by omega) (hJ1 _ _ _ (qh.back 37 12 ?_ (by kernel_rfl)))
   dsimp only [gt]
   exact ⟨i + 1, _, _, _, _, _, _, _, _, _, _, _, _, O.t, out ++ zi i O.h, by go_num, rfl, by omega, rfl, hmb, HCN, HON, HRN⟩
  ·rw [hov] at g4 HCN
   have HRE : Hid ((⟨0, out ++ zi i O.h, O.t⟩ : Cr) = R) := by unfold Hid; rw [← HR.out, nT HSX.out (by rw [← HOO.out]; exact HE0.out) (by rw [← HOO.out]; exact hov), ← HOO.out]
   clear hov
   go_upto_region 20 with (fail)
   clear g4
   have g0 := HCN.out.b.cell 0; have g1 := HCN.out.b.cell 1; have g2 := HCN.out.b.cell 2; have g3 := HCN.out.b.cell 3; have g4 := HCN.out.b.cell 4
   have d0 := HCN.out.x.b3.cell 0; have d1 := HCN.out.x.b3.cell 1; have d2 := HCN.out.x.b3.cell 2; have d3 := HCN.out.x.b3.cell 3; have d4 := HCN.out.x.b3.cell 4
   have y0 := HCN.out.x.b3.frozen 0; have y1 := HCN.out.x.b3.frozen 1; have y2 := HCN.out.x.b3.frozen 2; have y3 := HCN.out.x.b3.frozen 3; have y4 := HCN.out.x.b3.frozen 4
   have HF := iD (HCN.out.x.st5 (.slice Ao2 (mo + j) cxo2) (.slice B2 m2 e2) (.int .i64 co) (.slice B3 m3 e3) (.slice B4 m4 e4))
   have HRA := iD (vG.of (a := .slice Ao2 (mo + j) cxo2) (b := .slice B2 m2 e2) (d := .int .i64 co) (e := .slice B3 m3 e3) (f := .slice B4 m4 e4) HCN.out)
   unfold st5 at HF HRA
   go_wp2_with fail
   clear g0 g1 g2 g3 g4 d0 d1 d2 d3 d4 y0 y1 y2 y3 y4
   generalize World.setCell (World.setCell (World.setCell (World.setCell (World.setCell X _ _) _ _) _ _) _ _) _ _ = u at *
   have q0 := HF.out.b3.c0
   have q1 := HF.out.b3.c1
   have q2 := HF.out.b3.c2
   have q3 := HF.out.b3.c3
   have q4 := HF.out.b3.c4
   exact bodyPost_ret (v := .tuple #[.agg #[.slice Ao2 (mo + j) cxo2, .slice B2 m2 e2, .int .i64 co, .slice B3 m3 e3, .slice B4 m4 e4], .int .i64 0]) (by simp [results, Tryz.results19, go_sem, q0, q1, q2, q3, q4]) rfl ⟨.inr (.inr ⟨HEE.out.symm, by rw [HRR.out, ← HRE.out], _, _, _, _, _, _, _, _, _, _, _, _, rfl, by rw [HRR.out, ← HRE.out]; exact HRA, iD (lz.of HCN.out)⟩), HF.out.l⟩
theorem rf (An Ad As Al Ap Ax : Option Addr) (nn cn nd cd n c nl cl np cp nx cx : Nat) (ns : List Nd) (ds : List Dv) (m : List Int) (ls : List Lk) (pr : List Int) (co : Int) (nm : ByteArray) (xs : List Sp) (w : World) (h : uB w An Ad As Al Ap Ax nn cn nd cd n c nl cl np cp nx cx ns ds m ls pr nm xs) :
 Calls Tryz.prog 19 #[.agg #[.slice An nn cn, .slice Ad nd cd], .slice As n c, .agg #[.int .i64 co, .slice Al nl cl, .slice Ap np cp], .agg #[.string nm, .slice Ax nx cx]] w (qj w ns ds m co ls pr nm xs) :=
 (lk An Ad As Al Ap Ax nn cn nd cd n c nl cl np cp nx cx ns ds m ls pr co nm xs w h).mono fun _ _ h => h.any
end Go.Proofs.YtkkobemhbicjgaaGreatDoor
