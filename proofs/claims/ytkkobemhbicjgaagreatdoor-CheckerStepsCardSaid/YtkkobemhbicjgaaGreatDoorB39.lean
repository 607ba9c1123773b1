import Derived.Test.YtkkobemhbicjgaaGreatDoorB34
import Derived.Test.YtkkobemhbicjgaaGreatDoorB21
set_option maxRecDepth 100000
set_option maxHeartbeats 32000000
namespace Go.Proofs.YtkkobemhbicjgaaGreatDoor
open Go.RowKit Tryz
def oU (w : World) (ns : List Nd) (ds : List Dv) (m : List Int) (co : Int) (ls : List Lk) (pr : List Int) (nm : ByteArray) (xs : List Sp) (e : Ending) (w' : World) : Prop :=
 (yX ns ds m co ls pr nm xs ≠ 0 ∧ e = .returned (.tuple #[.agg #[.slice none 0 0, .slice none 0 0, .int .i64 0, .slice none 0 0, .slice none 0 0], .int .i64 (yX ns ds m co ls pr nm xs)]) ∨
  yX ns ds m co ls pr nm xs = 0 ∧ (zo ns ds co 0 [] ⟨m, ls, pr⟩ xs).e ≠ 0 ∧ e = .returned (.tuple #[.agg #[.slice none 0 0, .slice none 0 0, .int .i64 0, .slice none 0 0, .slice none 0 0], .int .i64 (zo ns ds co 0 [] ⟨m, ls, pr⟩ xs).e]) ∨
  yX ns ds m co ls pr nm xs = 0 ∧ (zo ns ds co 0 [] ⟨m, ls, pr⟩ xs).e = 0 ∧ ∃ (A1 A2 Al Ap : Option Addr) (n1 c1 n2 c2 nl cl np cp : Nat), e = .returned (.tuple #[.agg #[.slice A1 n1 c1, .slice A2 n2 c2, .int .i64 co, .slice Al nl cl, .slice Ap np cp], .int .i64 0]) ∧ Hid (rD w' A1 A2 Al Ap n1 c1 n2 c2 nl cl np cp (zo ns ds co 0 [] ⟨m, ls, pr⟩ xs).o (zo ns ds co 0 [] ⟨m, ls, pr⟩ xs).t)) ∧ Hid (Below w.heap.size w w')
structure jh (B : Nat) (A1 A2 Al Ap : Option Addr) (n1 n2 nl np : Nat) : Prop where
 o : 0 < n1 → ∀ b off, A1 = some ⟨b, off, none⟩ → B ≤ b
 s : 0 < n2 → ∀ b off, A2 = some ⟨b, off, none⟩ → B ≤ b
 l : 0 < nl → ∀ b off, Al = some ⟨b, off, none⟩ → B ≤ b
 p : 0 < np → ∀ b off, Ap = some ⟨b, off, none⟩ → B ≤ b
def tq (w : World) (ns : List Nd) (ds : List Dv) (m : List Int) (co : Int) (ls : List Lk) (pr : List Int) (nm : ByteArray) (xs : List Sp) (e : Ending) (w' : World) : Prop :=
 (yX ns ds m co ls pr nm xs ≠ 0 ∧ e = .returned (.tuple #[.agg #[.slice none 0 0, .slice none 0 0, .int .i64 0, .slice none 0 0, .slice none 0 0], .int .i64 (yX ns ds m co ls pr nm xs)]) ∨
  yX ns ds m co ls pr nm xs = 0 ∧ (zo ns ds co 0 [] ⟨m, ls, pr⟩ xs).e ≠ 0 ∧ e = .returned (.tuple #[.agg #[.slice none 0 0, .slice none 0 0, .int .i64 0, .slice none 0 0, .slice none 0 0], .int .i64 (zo ns ds co 0 [] ⟨m, ls, pr⟩ xs).e]) ∨
  yX ns ds m co ls pr nm xs = 0 ∧ (zo ns ds co 0 [] ⟨m, ls, pr⟩ xs).e = 0 ∧ ∃ (A1 A2 Al Ap : Option Addr) (n1 c1 n2 c2 nl cl np cp : Nat), e = .returned (.tuple #[.agg #[.slice A1 n1 c1, .slice A2 n2 c2, .int .i64 co, .slice Al nl cl, .slice Ap np cp], .int .i64 0]) ∧ Hid (rD w' A1 A2 Al Ap n1 c1 n2 c2 nl cl np cp (zo ns ds co 0 [] ⟨m, ls, pr⟩ xs).o (zo ns ds co 0 [] ⟨m, ls, pr⟩ xs).t) ∧ Hid (jh w.heap.size A1 A2 Al Ap n1 n2 nl np)) ∧ Hid (Below w.heap.size w w')
theorem tq.any {w w' : World} {ns : List Nd} {ds : List Dv} {m : List Int} {co : Int} {ls : List Lk} {pr : List Int} {nm : ByteArray} {xs : List Sp} {e : Ending} (h : tq w ns ds m co ls pr nm xs e w') : oU w ns ds m co ls pr nm xs e w' := by
 obtain ⟨h | h | ⟨h1, h2, A1, A2, A3, A4, n1, c1, n2, c2, n3, c3, n4, c4, h3, hR, -⟩, hb⟩ := h
 ·exact ⟨.inl h, hb⟩
 ·exact ⟨.inr (.inl h), hb⟩
 ·exact ⟨.inr (.inr ⟨h1, h2, A1, A2, A3, A4, n1, c1, n2, c2, n3, c3, n4, c4, h3, hR⟩), hb⟩
def ChR (w : World) (bb : Nat) (L : List (TypeId × Array Value)) (co : Int) (ns : List Nd) (ds : List Dv) (xs : List Sp) (R : Cr) (nx gk : Nat) (iv ov : Value) (wr : World) : Prop :=
 ∃ (i n c nl cl np cp mo cx : Nat) (As Al Ap Ao : Option Addr) (t : Sm) (out : List Fn), iv = .int .i64 i ∧ ov = .slice Ao mo cx ∧ i ≤ nx ∧ gk = nx - i ∧ mo ≤ 8 * i ∧ Hid (CM w bb L co As Al Ap Ao n c nl cl np cp mo cx t out false wr) ∧ Hid (uL ns ds t) ∧ Hid (zo ns ds co i out t (xs.drop i) = R)
def ChD (w : World) (bb nb : Nat) (L : List (TypeId × Array Value)) (co : Int) (As Al Ap : Option Addr) (n c nl cl np cp mo i : Nat) (t : Sm) (out : List Fn) (B1 B2 B3 B4 : Option Addr) (m1 e1 m2 e2 m3 e3 m4 e4 : Nat) (O : Co) (gk : Nat) (jv ov : Value) (wr : World) : Prop :=
 ∃ (j cx : Nat) (Ao : Option Addr), jv = .int .i64 j ∧ ov = .slice Ao (mo + j) cx ∧ j ≤ m1 ∧ gk = m1 - j ∧ Hid (CM w bb L co As Al Ap Ao n c nl cl np cp (mo + j) cx t (out ++ yD i (O.h.take j)) false wr) ∧ Hid (CK w bb nb co Ao B1 B2 B3 B4 m1 e1 m2 e2 m3 e3 m4 e4 O.h O.t O.ov wr)
theorem ni {h : List Int} {j i : Nat} {y : Int} (hy : h[j]? = some y) : yD i (h.take (j + 1)) = yD i (h.take j) ++ [⟨i, y⟩] := by
 unfold yD; rw [zP hy, List.map_append]; rfl
theorem rD.of {w wr : World} {bb : Nat} {L : List (TypeId × Array Value)} {co : Int} {As Al Ap Ao : Option Addr} {n c nl cl np cp mo cx : Nat} {t : Sm} {out : List Fn} {fl : Bool} {a b d e f : Value} (k : CM w bb L co As Al Ap Ao n c nl cl np cp mo cx t out fl wr) : rD (st5 wr (w.heap.size + 3) a b d e f) Ao As Al Ap mo cx n c nl cl np cp out t := by
 have hw := k.hb;have of : ∀ {A : Option Addr} {m : Nat}, Bu (w.heap.size + 4) bb Ao A m → 0 < m → ∀ b off, A = some ⟨b, off, none⟩ → b ≠ w.heap.size + 3 := fun hk hm b off e => by have := (hk hm b off e).1; omega
 exact ⟨KG (Sl.of_own k.o) (fun b off e => by have := yj k.o b off e; omega), tN k.s (of k.ks), tN k.l (of k.kl), tN k.p (of k.kp)⟩
theorem jh.of {w wr : World} {bb : Nat} {L : List (TypeId × Array Value)} {co : Int} {As Al Ap Ao : Option Addr} {n c nl cl np cp mo cx : Nat} {t : Sm} {out : List Fn} {fl : Bool} (k : CM w bb L co As Al Ap Ao n c nl cl np cp mo cx t out fl wr) : jh w.heap.size Ao As Al Ap mo n nl np := by
 have hw := k.hb;have of : ∀ {A : Option Addr} {m : Nat}, Bu (w.heap.size + 4) bb Ao A m → 0 < m → ∀ b off, A = some ⟨b, off, none⟩ → w.heap.size ≤ b := fun hk hm b off e => by have := (hk hm b off e).1; omega
 exact ⟨fun _ b off e => by have := yj k.o b off e; omega, of k.ks, of k.kl, of k.kp⟩
theorem jY (An Ad As Al Ap Ax : Option Addr) (nn cn nd cd n c nl cl np cp nx cx : Nat) (ns : List Nd) (ds : List Dv) (m : List Int) (ls : List Lk) (pr : List Int) (co : Int) (nm : ByteArray) (xs : List Sp) (w : World) (h : sr w An Ad As Al Ap Ax nn cn nd cd n c nl cl np cp nx cx ns ds m ls pr nm xs) :
 Calls prog 19 #[.agg #[.slice An nn cn, .slice Ad nd cd], .slice As n c, .agg #[.int .i64 co, .slice Al nl cl, .slice Ap np cp], .agg #[.string nm, .slice Ax nx cx]] w (tq w ns ds m co ls pr nm xs) := by
 obtain ⟨Da, Hl, ES⟩ := h.h.ln;have Oj : ls.length = nl := h.h.hl.len (fun _ => rfl) (by decide);have RL : pr.length = np := h.h.hp.len (fun _ => rfl) (by decide);have AY : xs.length = nx := h.x.len (fun _ => rfl) (by decide);have HH := iD h;have HB := iD (Bw.new4 w (30, #[.slice An nn cn, .slice Ad nd cd]) (37, #[.int .i64 co, .slice Al nl cl, .slice Ap np cp]) (41, #[.string nm, .slice Ax nx cx]) (47, #[.slice none 0 0, .slice none 0 0, .int .i64 0, .slice none 0 0, .slice none 0 0]));clear h
 go_enter func19, ntmps19
 go_upto_region 1 with (fail);dsimp only at HB;generalize World.alloc (World.alloc (World.alloc (World.alloc w _) _) _) _ = W at *;rw [show w.heap.size + 1 + 1 = w.heap.size + 2 from rfl, show w.heap.size + 2 + 1 = w.heap.size + 3 from rfl];obtain ⟨k0, k1⟩ := HB.b0.d2;obtain ⟨g0, g1, g2⟩ := HB.b1.d3;obtain ⟨p0, p1⟩ := HB.b2.d2;have Ql := iD (sg An Ad As Al Ap Ax nn cn nd cd n c nl cl np cp nx cx ns ds m ls pr co nm xs W (HH.below HB.l))
 go_wp2_with fail
 clear k0 k1 g0 g1 g2 p0 p1;refine Ql.mono ?_;rintro e w1 ⟨rfl, AV⟩;have EY := iD (HB.later AV);clear AV Ql HB;obtain ⟨E, hE⟩ := eX (yX ns ds m co ls pr nm xs);rw [← hE];have Cu := iD hE;clear hE;by_cases he : E = 0; rotate_left
 ·have q1 : (E != 0) = true := by simpa using he
  have Ht := iD he;clear he;obtain ⟨d0, d1, d2, d3, d4⟩ := EY.b3.d5;obtain ⟨y0, y1, y2, y3⟩ := EY.b3.e4;have y4 := EY.b3.frozen 4;have HF := iD (EY.st5 (.slice none 0 0) (.slice none 0 0) (.int .i64 0) (.slice none 0 0) (.slice none 0 0)); unfold st5 at HF
  go_wp2_with fail
  clear d0 d1 d2 d3 d4 y0 y1 y2 y3 y4;generalize World.setCell (World.setCell (World.setCell (World.setCell (World.setCell w1 _ _) _ _) _ _) _ _) _ _ = u at *;obtain ⟨q0, q1, q2, q3, q4⟩ := HF.b3.d5;exact bodyPost_ret (v := .tuple #[.agg #[.slice none 0 0, .slice none 0 0, .int .i64 0, .slice none 0 0, .slice none 0 0], .int .i64 E]) (by simp [results, results19, go_sem, q0, q1, q2, q3, q4]) rfl ⟨.inl ⟨by rw [← Cu.out]; exact Ht, by rw [← Cu.out]⟩, HF.l⟩
 subst he;have Bv := iD (qH Cu.symm);have AU : nd ≤ 64 := by have := (xk.of (zS Bv.1.s).1).dl; omega
 have Bq : nn ≤ 32 := by have := (xk.of (zS Bv.1.s).1).nl; omega
 have Hg : nl ≤ 128 := by have := (yw Bv.1.l).1; dsimp only at this; omega
 have TQ : np ≤ 32 := by have := rV Bv.1.p; dsimp only at this; omega
 have AP : nx ≤ 64 := by have := Bv.2.2.1; omega
 have hsl := (zS Bv.1.s).2.1;dsimp only at hsl;go_upto_region 4 with (fail);refine fv (fun W' => Bw w [(30, #[.slice An nn cn, .slice Ad nd cd]), (37, #[.int .i64 co, .slice Al nl cl, .slice Ap np cp]), (41, #[.string nm, .slice Ax nx cx]), (47, #[.slice none 0 0, .slice none 0 0, .int .i64 0, .slice none 0 0, .slice none 0 0])] W') [6] ?_ fun AA => ?_
 ·exact EY.drew
 try dsimp only at AA
 refine tk 0 29 (mf 7 1) AA ?_;refine ty 2 31 (ma 7 5) AA (y := by intro w AL; have g0 := AL.b1.cell 0; have g1 := AL.b1.cell 1; have g2 := AL.b1.cell 2; go_simp; try with_reducible rfl) (h := ?_);refine yM (i := 1) (k := 5) (mf 7 3) (ma 7 37) (by kernel_rfl) (by kernel_rfl) (by kernel_rfl) rfl rfl (fun K hK => ?_) (fun K hK => ?_)
 focus
  (have Sg := iD AA.b3.lt; go_simp; refine (yo As n c _ m w1.drew (HH.h.below AA.l).hs lR (by omega)).mono ?_; rintro e w3 ⟨A2, c2, rfl, Dc, AZ⟩; rw [ES] at Dc ⊢; have Ay := iD (World.ownsRow.mono Dc Sg); have BZ := iD AZ.out; clear Dc AZ; go_simp)
  refine hK _ _ (fun _ => AA.later BZ.out) fun p => (fun AA => ?_) (p rfl)
  clear p hK K;(try dsimp only at AA);clear BZ;refine yM (i := 3) (k := 5) (mf 7 4) (ma 7 39) (by kernel_rfl) (by kernel_rfl) (by kernel_rfl) rfl rfl (fun K hK => ?_) (fun K hK => ?_)
  focus
   (have JF := iD AA.b3.lt; go_simp; refine (wn Al Ap nl cl np cp _ co ls pr w3 (HH.h.below AA.l).hl (HH.h.below AA.l).hp lR (by omega) (by omega)).mono ?_; rintro e w4 ⟨A3, A4, c3, c4, rfl, Ep, EA, AZ⟩; have Az := iD (World.ownsRow.mono Ep JF); have BC := iD (World.ownsRow.mono EA JF); have BZ := iD AZ.out; clear Ep EA AZ; go_simp)
   refine hK _ _ (fun _ => AA.later BZ.out) fun p => (fun AA => ?_) (p rfl)
   clear p hK K;(try dsimp only at AA);have Ay := iD (zI Ay BZ);clear BZ;refine tk 4 33 (mf 7 5) AA ?_;refine tb 5 (mf 7 6) fun K hK => ?_
   (have Ia := iD AA.b3.lt; go_simp)
   refine hK _ _ (fun _ => AA.later ((Below.refl _ _).alloc lR _)) fun p => (fun AA => ?_) (p rfl)
   clear p hK K;(try dsimp only at AA);have Dz : Hid (Below w4.heap.size w4 (w4.alloc (.cells #[.slice none 0 0, .int .i64 0, .slice none 0 0, .slice none 0 0, .bool false] 96))) := (Below.refl w4.heap.size w4).alloc lR (.cells #[.slice none 0 0, .int .i64 0, .slice none 0 0, .slice none 0 0, .bool false] 96);have HX : Hid (AJ (w4.alloc (.cells #[.slice none 0 0, .int .i64 0, .slice none 0 0, .slice none 0 0, .bool false] 96)) w4.heap.size 96 #[.slice none 0 0, .int .i64 0, .slice none 0 0, .slice none 0 0, .bool false]) := AJ.new w4 96 #[.slice none 0 0, .int .i64 0, .slice none 0 0, .slice none 0 0, .bool false];generalize World.alloc w4 _ = wa at *;have Ay := iD (zI Ay Dz);have Az := iD (zI Az Dz);have BC := iD (zI BC Dz);obtain ⟨x, DI⟩ := eX w4.heap.size;rw [← DI] at HX ⊢;have CE : Hid (w.heap.size + 4 ≤ x) := by unfold Hid; rw [DI]; exact Ia.out
   clear DI Dz;have EK := iD AA;obtain ⟨k0, k1, k2, k3, k4⟩ := HX.d5;obtain ⟨z0, z1, z2, z3⟩ := HX.e4;have z4 := HX.frozen 4;refine tb 6 (mf 7 7) fun K hK => ?_
   go_simp
   refine hK _ _ (fun h => by cases h) (fun _ => ?_)
   try clear AA
   clear hK K;refine tK ?_;have Lh : Hid (CM w x [(30, #[.slice An nn cn, .slice Ad nd cd]), (37, #[.int .i64 co, .slice Al nl cl, .slice Ap np cp]), (41, #[.string nm, .slice Ax nx cx]), (47, #[.slice none 0 0, .slice none 0 0, .int .i64 0, .slice none 0 0, .slice none 0 0])] co A2 A3 A4 none n c2 nl c3 np c4 0 0 ⟨m, ls, pr⟩ [] false (st5 wa x (.slice A2 n c2) (.int .i64 co) (.slice A3 nl c3) (.slice A4 np c4) (.bool false))) := ⟨((((EK.put CE 0 _).put CE 1 _).put CE 2 _).put CE 3 _).put CE 4 _, ((((HX.set 0 _).set 1 _).set 2 _).set 3 _).set 4 _, KG (Sl.of_own Ay) (zO Ay HX (by decide)), KG (Sl.of_own Az) (zO Az HX (by decide)), KG (Sl.of_own BC) (zO BC HX (by decide)), World.ownsRow_nil _ _ _ _, Bu.own Ay lR (zO Ay HX (by decide)), Bu.own Az lR (zO Az HX (by decide)), Bu.own BC lR (zO BC HX (by decide)), CE, rfl⟩;unfold st5 at Lh;clear k0 k1 k2 k3 k4 z0 z1 z2 z3 z4 EK HX Ay Az BC
   generalize World.setCell (World.setCell (World.setCell (World.setCell (World.setCell wa _ _) _ _) _ _) _ _) _ _ = z at *
  rotate_left 1
  focus
   (have Ia := iD AA.b3.lt; go_simp)
   refine hK _ _ (fun _ => AA.later ((Below.refl _ _).alloc lR _)) fun p => (fun AA => ?_) (p rfl)
   clear p hK K;(try dsimp only at AA);have Dz : Hid (Below w3.heap.size w3 (w3.alloc (.cells #[.slice none 0 0, .int .i64 0, .slice none 0 0, .slice none 0 0, .bool false] 96))) := (Below.refl w3.heap.size w3).alloc lR (.cells #[.slice none 0 0, .int .i64 0, .slice none 0 0, .slice none 0 0, .bool false] 96);have HX : Hid (AJ (w3.alloc (.cells #[.slice none 0 0, .int .i64 0, .slice none 0 0, .slice none 0 0, .bool false] 96)) w3.heap.size 96 #[.slice none 0 0, .int .i64 0, .slice none 0 0, .slice none 0 0, .bool false]) := AJ.new w3 96 #[.slice none 0 0, .int .i64 0, .slice none 0 0, .slice none 0 0, .bool false];generalize World.alloc w3 _ = wa at *;have Ay := iD (zI Ay Dz);obtain ⟨x, DI⟩ := eX w3.heap.size;rw [← DI] at HX ⊢;have CE : Hid (w.heap.size + 4 ≤ x) := by unfold Hid; rw [DI]; exact Ia.out
   clear DI Dz;refine tb 3 (ma 7 47) fun K hK => ?_
   (have JF := iD AA.b3.lt; go_simp; refine (wn Al Ap nl cl np cp _ co ls pr wa (HH.h.below AA.l).hl (HH.h.below AA.l).hp lR (by omega) (by omega)).mono ?_; rintro e w4 ⟨A3, A4, c3, c4, rfl, Ep, EA, AZ⟩; have Az := iD (World.ownsRow.mono Ep JF); have BC := iD (World.ownsRow.mono EA JF); have BZ := iD AZ.out; clear Ep EA AZ; go_simp)
   refine hK _ _ (fun _ => AA.later BZ.out) fun p => (fun AA => ?_) (p rfl)
   clear p hK K;(try dsimp only at AA);have Ay := iD (zI Ay BZ);have HX := iD (HX.below BZ HX.lt);clear BZ;refine tk 4 33 (mf 7 6) AA ?_;have EK := iD AA;obtain ⟨k0, k1, k2, k3, k4⟩ := HX.d5;obtain ⟨z0, z1, z2, z3⟩ := HX.e4;have z4 := HX.frozen 4;refine tb 6 (mf 7 7) fun K hK => ?_
   go_simp
   refine hK _ _ (fun h => by cases h) (fun _ => ?_)
   try clear AA
   clear hK K;refine tK ?_;have Lh : Hid (CM w x [(30, #[.slice An nn cn, .slice Ad nd cd]), (37, #[.int .i64 co, .slice Al nl cl, .slice Ap np cp]), (41, #[.string nm, .slice Ax nx cx]), (47, #[.slice none 0 0, .slice none 0 0, .int .i64 0, .slice none 0 0, .slice none 0 0])] co A2 A3 A4 none n c2 nl c3 np c4 0 0 ⟨m, ls, pr⟩ [] false (st5 w4 x (.slice A2 n c2) (.int .i64 co) (.slice A3 nl c3) (.slice A4 np c4) (.bool false))) := ⟨((((EK.put CE 0 _).put CE 1 _).put CE 2 _).put CE 3 _).put CE 4 _, ((((HX.set 0 _).set 1 _).set 2 _).set 3 _).set 4 _, KG (Sl.of_own Ay) (zO Ay HX (by decide)), KG (Sl.of_own Az) (zO Az HX (by decide)), KG (Sl.of_own BC) (zO BC HX (by decide)), World.ownsRow_nil _ _ _ _, Bu.own Ay lR (zO Ay HX (by decide)), Bu.own Az lR (zO Az HX (by decide)), Bu.own BC lR (zO BC HX (by decide)), CE, rfl⟩;unfold st5 at Lh;clear k0 k1 k2 k3 k4 z0 z1 z2 z3 z4 EK HX Ay Az BC
   generalize World.setCell (World.setCell (World.setCell (World.setCell (World.setCell w4 _ _) _ _) _ _) _ _) _ _ = z at *
  rotate_left 1
 rotate_left 2
 focus
  go_simp
  refine hK _ _ (fun _ => EY.later ((Below.refl w1.heap.size w1).alloc lR (.cells #[.slice none 0 0, .int .i64 0, .slice none 0 0, .slice none 0 0, .bool false] 96)).drew) fun p => (fun AA => ?_) (p rfl)
  clear p hK K;(try dsimp only at AA);have Dz : Hid (Below w1.heap.size w1 (w1.alloc (.cells #[.slice none 0 0, .int .i64 0, .slice none 0 0, .slice none 0 0, .bool false] 96)).drew) := ((Below.refl w1.heap.size w1).alloc lR (.cells #[.slice none 0 0, .int .i64 0, .slice none 0 0, .slice none 0 0, .bool false] 96)).drew;have HX : Hid (AJ (w1.alloc (.cells #[.slice none 0 0, .int .i64 0, .slice none 0 0, .slice none 0 0, .bool false] 96)).drew w1.heap.size 96 #[.slice none 0 0, .int .i64 0, .slice none 0 0, .slice none 0 0, .bool false]) := AJ.new w1 96 #[.slice none 0 0, .int .i64 0, .slice none 0 0, .slice none 0 0, .bool false];have CE : Hid (w.heap.size + 4 ≤ w1.heap.size) := EY.b3.lt;generalize World.drew (World.alloc w1 _) = wa at *;obtain ⟨x, DI⟩ := eX w1.heap.size;rw [← DI] at HX CE ⊢;clear DI Dz;refine tb 1 (ma 7 39) fun K hK => ?_
  (have Sg := iD AA.b3.lt; go_simp; refine (yo As n c _ m wa (HH.h.below AA.l).hs lR (by omega)).mono ?_; rintro e w3 ⟨A2, c2, rfl, Dc, AZ⟩; rw [ES] at Dc ⊢; have Ay := iD (World.ownsRow.mono Dc Sg); have BZ := iD AZ.out; clear Dc AZ; go_simp)
  refine hK _ _ (fun _ => AA.later BZ.out) fun p => (fun AA => ?_) (p rfl)
  clear p hK K;(try dsimp only at AA);have HX := iD (HX.below BZ HX.lt);clear BZ;refine tb 3 (ma 7 47) fun K hK => ?_
  (have JF := iD AA.b3.lt; go_simp; refine (wn Al Ap nl cl np cp _ co ls pr w3 (HH.h.below AA.l).hl (HH.h.below AA.l).hp lR (by omega) (by omega)).mono ?_; rintro e w4 ⟨A3, A4, c3, c4, rfl, Ep, EA, AZ⟩; have Az := iD (World.ownsRow.mono Ep JF); have BC := iD (World.ownsRow.mono EA JF); have BZ := iD AZ.out; clear Ep EA AZ; go_simp)
  refine hK _ _ (fun _ => AA.later BZ.out) fun p => (fun AA => ?_) (p rfl)
  clear p hK K;(try dsimp only at AA);have Ay := iD (zI Ay BZ);have HX := iD (HX.below BZ HX.lt);clear BZ;refine tk 4 33 (mf 7 6) AA ?_;have EK := iD AA;obtain ⟨k0, k1, k2, k3, k4⟩ := HX.d5;obtain ⟨z0, z1, z2, z3⟩ := HX.e4;have z4 := HX.frozen 4;refine tb 6 (mf 7 7) fun K hK => ?_
  go_simp
  refine hK _ _ (fun h => by cases h) (fun _ => ?_)
  try clear AA
  clear hK K;refine tK ?_;have Lh : Hid (CM w x [(30, #[.slice An nn cn, .slice Ad nd cd]), (37, #[.int .i64 co, .slice Al nl cl, .slice Ap np cp]), (41, #[.string nm, .slice Ax nx cx]), (47, #[.slice none 0 0, .slice none 0 0, .int .i64 0, .slice none 0 0, .slice none 0 0])] co A2 A3 A4 none n c2 nl c3 np c4 0 0 ⟨m, ls, pr⟩ [] false (st5 w4 x (.slice A2 n c2) (.int .i64 co) (.slice A3 nl c3) (.slice A4 np c4) (.bool false))) := ⟨((((EK.put CE 0 _).put CE 1 _).put CE 2 _).put CE 3 _).put CE 4 _, ((((HX.set 0 _).set 1 _).set 2 _).set 3 _).set 4 _, KG (Sl.of_own Ay) (zO Ay HX (by decide)), KG (Sl.of_own Az) (zO Az HX (by decide)), KG (Sl.of_own BC) (zO BC HX (by decide)), World.ownsRow_nil _ _ _ _, Bu.own Ay lR (zO Ay HX (by decide)), Bu.own Az lR (zO Az HX (by decide)), Bu.own BC lR (zO BC HX (by decide)), CE, rfl⟩;unfold st5 at Lh;clear k0 k1 k2 k3 k4 z0 z1 z2 z3 z4 EK HX Ay Az BC
  generalize World.setCell (World.setCell (World.setCell (World.setCell (World.setCell w4 _ _) _ _) _ _) _ _) _ _ = z at *
 rotate_left 1
 all_goals
  clear EY;have p1 := Lh.x.b2.cell 1;go_upto_region 7 with (fail);clear p1;obtain ⟨R, hR⟩ := eX (zo ns ds co 0 [] ⟨m, ls, pr⟩ xs);have Jd : Hid (zo ns ds co 0 [] ⟨m, ls, pr⟩ xs = R) := hR.symm;have Gq : Hid (zo ns ds co 0 [] ⟨m, ls, pr⟩ (xs.drop 0) = R) := hR.symm;have WJ := iD Bv.1;clear hR;refine vY [(8, 0), (0, 1), (1, 0), (0, 3), (4, 1), (0, 0), (0, 1), (16, 0), (0, 2), (32, 1), (5, 0)] 37 12 (nx) (ChR w x [(30, #[.slice An nn cn, .slice Ad nd cd]), (37, #[.int .i64 co, .slice Al nl cl, .slice Ap np cp]), (41, #[.string nm, .slice Ax nx cx]), (47, #[.slice none 0 0, .slice none 0 0, .int .i64 0, .slice none 0 0, .slice none 0 0])] co ns ds xs R nx) (by (try dsimp only [gt]); exact ⟨0, _, _, _, _, _, _, _, _, _, _, _, _, ⟨m, ls, pr⟩, [], rfl, rfl, Nat.zero_le _, rfl, by omega, Lh, WJ, Gq⟩) (by kernel_rfl) ?_;intro u1 p37 AG gk wr a hrel ha J1 K1 EB ME
  dsimp only [za, Go.Proofs.YtkkobemhbicjgaaGreatDoor.v2, Nat.reduceAdd] at ha;subst ha;clear Lh Gq WJ;obtain ⟨i, nq, cq, Qw, Ro, Qv, Rn, mo, Vf, TF, TH, TG, Ao, t, out, rfl, rfl, hi, rfl, QD, hC, hO, hR⟩ := hrel;have HC := iD hC.out; have HT := iD hO.out; have HR := iD hR.out;clear hC hO hR;by_cases hlt : i < nx; rotate_left
  ·have q1 : decide (i < nx) = false := by simpa using hlt
   have Ex : Hid ((⟨0, out, t⟩ : Cr) = R) := by unfold Hid; rw [← HR.out, pS (by omega)]
   go_upto_region 20 with (fail);clear q1;obtain ⟨g0, g1, g2, g3, g4⟩ := HC.b.d5;obtain ⟨d0, d1, d2, d3, d4⟩ := HC.x.b3.d5;obtain ⟨y0, y1, y2, y3⟩ := HC.x.b3.e4;have y4 := HC.x.b3.frozen 4;have HF := iD (HC.x.st5 (.slice Ao mo Vf) (.slice TF nq cq) (.int .i64 co) (.slice TH Qw Ro) (.slice TG Qv Rn));have Vv := iD (rD.of (a := .slice Ao mo Vf) (b := .slice TF nq cq) (d := .int .i64 co) (e := .slice TH Qw Ro) (f := .slice TG Qv Rn) HC);unfold st5 at HF Vv
   go_wp2_with fail
   clear g0 g1 g2 g3 g4 d0 d1 d2 d3 d4 y0 y1 y2 y3 y4;generalize World.setCell (World.setCell (World.setCell (World.setCell (World.setCell wr _ _) _ _) _ _) _ _) _ _ = u at *;obtain ⟨q0, q1, q2, q3, q4⟩ := HF.b3.d5;exact bodyPost_ret (v := .tuple #[.agg #[.slice Ao mo Vf, .slice TF nq cq, .int .i64 co, .slice TH Qw Ro, .slice TG Qv Rn], .int .i64 0]) (by simp [results, results19, go_sem, q0, q1, q2, q3, q4]) rfl ⟨.inr (.inr ⟨Cu.symm, by rw [Jd.out, ← Ex.out], _, _, _, _, _, _, _, _, _, _, _, _, rfl, by rw [Jd.out, ← Ex.out]; exact Vv, iD (jh.of HC)⟩), HF.l⟩
  have q1 : decide (i < nx) = true := by simpa using hlt
  obtain ⟨be, oe, sx, VY, Fz, Jm, Ir⟩ := HH.x.at (fun _ => rfl) (by decide) hlt;obtain ⟨kd, dv, no, ps, ky⟩ := sx;have TC := iD VY;have CX : Hid (xs[i]? = some ⟨kd, dv, no, ps, ky⟩) := Jm;have Gp : Hid (zc ns.length ds.length ⟨kd, dv, no, ps, ky⟩ = 0) := vc Bv.2.2.2 _ (List.mem_of_getElem? Jm);have Qk : Hid (∀ j u, (Sp.cells ⟨kd, dv, no, ps, ky⟩)[j]? = some u → wr.cell? ⟨be, oe + i * 5 + j, none⟩ = some u) := fun j u h => (HC.x.l.cell (p := ⟨be, oe + i * 5 + j, none⟩) Fz).trans (Ir j u h)
  clear VY Fz Jm Ir;have a0 : wr.cell? ⟨be, oe + i * 5, none⟩ = some (.int .i64 kd) := Qk 0 _ rfl;have a1 : wr.cell? ⟨be, oe + i * 5 + 1, none⟩ = some (.int .i64 dv) := Qk 1 _ rfl;have a2 : wr.cell? ⟨be, oe + i * 5 + 2, none⟩ = some (.int .i64 no) := Qk 2 _ rfl;have a3 : wr.cell? ⟨be, oe + i * 5 + 3, none⟩ = some (.int .i64 ps) := Qk 3 _ rfl;have a4 : wr.cell? ⟨be, oe + i * 5 + 4, none⟩ = some (.int .i64 ky) := Qk 4 _ rfl;have AW : nx ≤ 9223372036854775807 := by omega
  rw [TC.out];go_upto_region 9 with (fail);clear a0 a1 a2 a3 a4 Qk;have FN := iD (HC.later ((Below.refl _ wr).alloc lR (.cells #[.int .i64 kd, .int .i64 dv, .int .i64 no, .int .i64 ps, .int .i64 ky] 43)));have NM := iD (AJ.new wr 43 #[.int .i64 kd, .int .i64 dv, .int .i64 no, .int .i64 ps, .int .i64 ky]);clear HC;generalize World.alloc wr _ = V at *;obtain ⟨sb, Py⟩ := eX wr.heap.size;rw [← Py] at NM ⊢;clear Py;obtain ⟨k0, k1⟩ := FN.x.b0.d2;obtain ⟨g0, g1, g2, g3, g4⟩ := FN.b.d5;obtain ⟨s0, s1, s2, s3, s4⟩ := NM.d5;obtain ⟨O, hO⟩ := eX (zn ns ds co t ⟨kd, dv, no, ps, ky⟩);have Cj := iD hO;have Pk := iD (vB An Ad TF TH TG nn cn nd cd nq cq Qw Ro Qv Rn ns ds t.s t.ls t.pr co kd dv no ps ky V (FN.mem HH.h) HT Gp Bv.2.1);rw [show (⟨t.s, t.ls, t.pr⟩ : Sm) = t from rfl, ← hO] at Pk;clear hO
  go_wp2_with fail
  clear k0 k1 g0 g1 g2 g3 g4 s0 s1 s2 s3 s4 NM;refine Pk.mono ?_;rintro e w5 ⟨B1, B2, B3, B4, m1, e1, m2, e2, m3, e3, m4, e4, rfl, hS, hF, hb⟩;have IJ := iD (FN.later hb);have EW := iD hS.out;have QX : Hid (x < V.heap.size) := FN.b.lt;have Vk : Hid (w.heap.size + 4 ≤ V.heap.size) := by have := FN.hb; have := QX.out; unfold Hid; omega
  have Ni := iD (rZ FN.o);have Ww := iD (rZ IJ.o);have JE : Hid (Bu (w.heap.size + 4) x Ao B1 m1 ∧ Bu (w.heap.size + 4) x Ao B2 m2 ∧ Bu (w.heap.size + 4) x Ao B3 m3 ∧ Bu (w.heap.size + 4) x Ao B4 m4) := ⟨(Bu.nil 0).fre hF.1 QX Vk Ni, FN.ks.fre hF.2.1 QX Vk Ni, FN.kl.fre hF.2.2.1 QX Vk Ni, FN.kp.fre hF.2.2.2 QX Vk Ni⟩;clear hS hF hb Pk FN QX Vk Ni;go_upto_region 10 with (fail);have UC := iD (IJ.later ((Below.refl _ w5).alloc lR (.cells #[.slice B2 m2 e2, .int .i64 co, .slice B3 m3 e3, .slice B4 m4 e4, .bool O.ov] 96)));have Fh := iD (AJ.new w5 96 #[.slice B2 m2 e2, .int .i64 co, .slice B3 m3 e3, .slice B4 m4 e4, .bool O.ov]);have Vn : Hid (O.e = 0 → xF (w5.alloc (.cells #[.slice B2 m2 e2, .int .i64 co, .slice B3 m3 e3, .slice B4 m4 e4, .bool O.ov] 96)) B1 B2 B3 B4 m1 e1 m2 e2 m3 e3 m4 e4 ⟨O.h, O.t, true⟩) := fun h0 => (EW h0).later ((Below.refl _ w5).alloc lR _)
  have Hu : Hid (x < w5.heap.size ∧ ∀ o', Ao ≠ some ⟨w5.heap.size, o', none⟩) := ⟨IJ.b.lt, fun o' e => by have := Ww _ o' e; omega⟩;clear IJ EW Ww;generalize World.alloc w5 _ = U at *;obtain ⟨nb, CF⟩ := eX w5.heap.size;rw [← CF] at Fh Hu ⊢;clear CF;by_cases he : O.e = 0; rotate_left
  ·have q2 : (O.e != 0) = true := by simpa using he
   have Ht := iD he;have Ex : Hid ((⟨O.e, [], ⟨[], [], []⟩⟩ : Cr) = R) := by unfold Hid; rw [← HR.out, jZ CX.out (by rw [← Cj.out]; exact Ht.out), ← Cj.out]
   clear he;obtain ⟨d0, d1, d2, d3, d4⟩ := UC.x.b3.d5;obtain ⟨y0, y1, y2, y3⟩ := UC.x.b3.e4;have y4 := UC.x.b3.frozen 4;have HF := iD (UC.x.st5 (.slice none 0 0) (.slice none 0 0) (.int .i64 0) (.slice none 0 0) (.slice none 0 0)); unfold st5 at HF
   go_wp2_with fail
   clear d0 d1 d2 d3 d4 y0 y1 y2 y3 y4;generalize World.setCell (World.setCell (World.setCell (World.setCell (World.setCell U _ _) _ _) _ _) _ _) _ _ = u at *;obtain ⟨q0, q1, q2, q3, q4⟩ := HF.b3.d5;exact bodyPost_ret (v := .tuple #[.agg #[.slice none 0 0, .slice none 0 0, .int .i64 0, .slice none 0 0, .slice none 0 0], .int .i64 O.e]) (by simp [results, results19, go_sem, q0, q1, q2, q3, q4]) rfl ⟨.inr (.inl ⟨Cu.symm, by rw [Jd.out, ← Ex.out]; exact Ht, by rw [Jd.out, ← Ex.out]⟩), HF.l⟩
  have q2 : (O.e != 0) = false := by simp [he]
  have Cm : Hid (CK w x nb co Ao B1 B2 B3 B4 m1 e1 m2 e2 m3 e3 m4 e4 O.h O.t O.ov U) := ⟨Vn he, JE.1, JE.2.1, JE.2.2.1, JE.2.2.2, Fh, Hu⟩;have AE := iD he
  have QF : m1 ≤ 8 := by
   have h1 : O.h.length = m1 := Cm.a.h.len (fun _ => rfl) (by decide);have := mI ns ds co t ⟨kd, dv, no, ps, ky⟩;rw [← Cj.out] at this; omega
  have Tz : Hid (O.h.length = m1) := Cm.a.h.len (fun _ => rfl) (by decide);clear he Vn JE Fh Hu;go_upto_region 13 with (fail);clear q2 q1;refine vY [(11, 0), (0, 3), (5, 0), (0, 1), (35, 0), (0, 2), (9, 1), (9, 0)] 56 12 (m1) (ChD w x nb [(30, #[.slice An nn cn, .slice Ad nd cd]), (37, #[.int .i64 co, .slice Al nl cl, .slice Ap np cp]), (41, #[.string nm, .slice Ax nx cx]), (47, #[.slice none 0 0, .slice none 0 0, .int .i64 0, .slice none 0 0, .slice none 0 0])] co TF TH TG nq cq Qw Ro Qv Rn mo i t out B1 B2 B3 B4 m1 e1 m2 e2 m3 e3 m4 e4 O) (by (try dsimp only [gt]); exact ⟨0, _, _, rfl, rfl, Nat.zero_le _, rfl, by rw [List.take_zero, show yD i [] = [] from rfl, List.append_nil]; exact UC, Cm⟩) (by kernel_rfl) ?_;intro u2 p56 AG Ab Io a hrel ha J2 K2 AK Aa;dsimp only [za, Go.Proofs.YtkkobemhbicjgaaGreatDoor.v2, Nat.reduceAdd] at ha;subst ha;clear UC Cm
  obtain ⟨j, GD, KF, rfl, rfl, hj, rfl, hC, hK⟩ := hrel;have HC := iD hC.out; have HK := iD hK.out;clear hC hK;by_cases Mk : j < m1
  ·have q3 : decide (j < m1) = true := by simpa using Mk
   obtain ⟨b1, o1, y, PE, Fb, hy, JV⟩ := HK.a.h.at1 Mk;have HY : Hid (O.h[j]? = some y) := hy;have AQ := iD PE;clear hy Fb PE;rw [AQ.out];have AX : m1 ≤ 9223372036854775807 := by omega
   go_upto_region 15 with (fail);clear JV q3;have MP := iD (HC.later ((Below.refl _ Io).alloc lR (.cells #[.int .i64 i, .int .i64 y] 53)));have WV := iD (HK.later ((Below.refl _ Io).alloc lR (.cells #[.int .i64 i, .int .i64 y] 53)));have Mg : x + 1 ≤ (Io.alloc (.cells #[.int .i64 i, .int .i64 y] 53)).heap.size := by have := HC.b.lt; simp; omega
   have AH : mo + j ≤ 100000 := by omega
   go_upto_region 16 with (at_builtin; go_must (refine zM rfl (.tmp 60) (.tmp 64) rfl fZ (by rfl) MP.o (by rfl) (Sl.newest (n := 1) rfl rfl (by decide)) (by simp [Value.oneCell']) (by omega) (by omega) Mg ?_; intro A' Rl w7 BQ CQ Cy))
   have Wj : Hid (CM w x [(30, #[.slice An nn cn, .slice Ad nd cd]), (37, #[.int .i64 co, .slice Al nl cl, .slice Ap np cp]), (41, #[.string nm, .slice Ax nx cx]), (47, #[.slice none 0 0, .slice none 0 0, .int .i64 0, .slice none 0 0, .slice none 0 0])] co TF TH TG A' nq cq Qw Ro Qv Rn (mo + j + 1) Rl t ((out ++ yD i (O.h.take j)) ++ [⟨i, y⟩]) false w7) := MP.app CQ Cy (f := ⟨i, y⟩) BQ;have Qg := iD (WV.app MP.o CQ Cy ((yk BQ).imp id fun ⟨g, e, _⟩ => ⟨g, e⟩))
   have AO : Hid (CM w x [(30, #[.slice An nn cn, .slice Ad nd cd]), (37, #[.int .i64 co, .slice Al nl cl, .slice Ap np cp]), (41, #[.string nm, .slice Ax nx cx]), (47, #[.slice none 0 0, .slice none 0 0, .int .i64 0, .slice none 0 0, .slice none 0 0])] co TF TH TG A' nq cq Qw Ro Qv Rn (mo + (j + 1)) Rl t (out ++ yD i (O.h.take (j + 1))) false w7) := by
    unfold Hid;rw [ni HY.out, ← List.append_assoc, ← Nat.add_assoc]; exact Wj.out
   clear BQ CQ Cy MP WV Wj HC HK Mg AH;have Jo : IntKind.i64.wrap ((j : Int) + 1) = (j : Int) + 1 := IntWalk.i64_in _ (by omega)
   go_wp2_with fail
   rw [← AQ.out];refine Handed.intro (m1 - (j + 1)) (by omega) (AK _ _ _ (oS.back 56 12 ?_ (by kernel_rfl)));dsimp only [gt];exact ⟨j + 1, Rl, A', by go_num, rfl, by omega, rfl, AO, Qg⟩
  have q3 : decide (j < m1) = false := by simpa using Mk
  have WW : Hid (yD i (O.h.take j) = yD i O.h) := by unfold Hid; rw [List.take_of_length_le (by rw [Tz.out]; omega)]
  have AB : j = m1 := by omega
  rw [WW.out] at HC;have HQ := iD AB;clear Mk AB;obtain ⟨k0, k1, k2, k3, k4⟩ := HK.bx.d5;obtain ⟨g0, g1, g2, g3, g4⟩ := HC.b.d5;obtain ⟨f0, f1, f2, f3⟩ := HC.b.e4;have f4 := HC.b.frozen 4;have Gu := iD (HC.put HK);unfold st5 at Gu;go_upto_region 18 with (fail);clear q3 k0 k1 k2 k3 k4 g0 g1 g2 g3 g4 f0 f1 f2 f3 f4 HC HK WW;generalize World.setCell (World.setCell (World.setCell (World.setCell (World.setCell Io _ _) _ _) _ _) _ _) _ _ = X at *;have GG : Hid (uL ns ds O.t) := by unfold Hid; rw [Cj.out]; exact oN HT Gp.out
  have g4 := Gu.b.cell 4;rcases hov : O.ov with _ | _
  ·rw [hov] at g4 Gu;have NQ : Hid (zo ns ds co (i + 1) (out ++ yD i O.h) O.t (xs.drop (i + 1)) = R) := by unfold Hid; rw [← HR.out, vJ CX.out (by rw [← Cj.out]; exact AE.out) (by rw [← Cj.out]; exact hov), ← Cj.out]
   clear hov;have Jo : IntKind.i64.wrap ((i : Int) + 1) = (i : Int) + 1 := IntWalk.i64_in _ (by omega);have Ga : mo + j ≤ 8 * (i + 1) := by omega
   go_wp2_with fail
   clear g4;rw [← TC.out];refine Handed.intro (nx - (i + 1)) (by omega) (EB _ _ _ (oS.back 37 12 ?_ (by kernel_rfl)));dsimp only [gt];exact ⟨i + 1, _, _, _, _, _, _, _, _, _, _, _, _, O.t, out ++ yD i O.h, by go_num, rfl, by omega, rfl, Ga, Gu, GG, NQ⟩
  ·rw [hov] at g4 Gu;have Ex : Hid ((⟨0, out ++ yD i O.h, O.t⟩ : Cr) = R) := by unfold Hid; rw [← HR.out, qG CX.out (by rw [← Cj.out]; exact AE.out) (by rw [← Cj.out]; exact hov), ← Cj.out]
   clear hov;go_upto_region 20 with (fail);clear g4;obtain ⟨g0, g1, g2, g3, g4⟩ := Gu.b.d5;obtain ⟨d0, d1, d2, d3, d4⟩ := Gu.x.b3.d5;obtain ⟨y0, y1, y2, y3⟩ := Gu.x.b3.e4;have y4 := Gu.x.b3.frozen 4;have HF := iD (Gu.x.st5 (.slice KF (mo + j) GD) (.slice B2 m2 e2) (.int .i64 co) (.slice B3 m3 e3) (.slice B4 m4 e4));have Vv := iD (rD.of (a := .slice KF (mo + j) GD) (b := .slice B2 m2 e2) (d := .int .i64 co) (e := .slice B3 m3 e3) (f := .slice B4 m4 e4) Gu);unfold st5 at HF Vv
   go_wp2_with fail
   clear g0 g1 g2 g3 g4 d0 d1 d2 d3 d4 y0 y1 y2 y3 y4;generalize World.setCell (World.setCell (World.setCell (World.setCell (World.setCell X _ _) _ _) _ _) _ _) _ _ = u at *;obtain ⟨q0, q1, q2, q3, q4⟩ := HF.b3.d5;exact bodyPost_ret (v := .tuple #[.agg #[.slice KF (mo + j) GD, .slice B2 m2 e2, .int .i64 co, .slice B3 m3 e3, .slice B4 m4 e4], .int .i64 0]) (by simp [results, results19, go_sem, q0, q1, q2, q3, q4]) rfl ⟨.inr (.inr ⟨Cu.symm, by rw [Jd.out, ← Ex.out], _, _, _, _, _, _, _, _, _, _, _, _, rfl, by rw [Jd.out, ← Ex.out]; exact Vv, iD (jh.of Gu)⟩), HF.l⟩
theorem pT (An Ad As Al Ap Ax : Option Addr) (nn cn nd cd n c nl cl np cp nx cx : Nat) (ns : List Nd) (ds : List Dv) (m : List Int) (ls : List Lk) (pr : List Int) (co : Int) (nm : ByteArray) (xs : List Sp) (w : World) (h : sr w An Ad As Al Ap Ax nn cn nd cd n c nl cl np cp nx cx ns ds m ls pr nm xs) :
 Calls prog 19 #[.agg #[.slice An nn cn, .slice Ad nd cd], .slice As n c, .agg #[.int .i64 co, .slice Al nl cl, .slice Ap np cp], .agg #[.string nm, .slice Ax nx cx]] w (oU w ns ds m co ls pr nm xs) :=
 (jY An Ad As Al Ap Ax nn cn nd cd n c nl cl np cp nx cx ns ds m ls pr co nm xs w h).mono fun _ _ h => h.any
variable {W W' w w' : World} {base c g n nn x : Nat} {A : Option Addr} {xs : List Sp} {ds : List Dv} {m pr s : List Int} {ls : List Lk} {ns : List Nd} {co : Int} {nm : ByteArray}
section
open Classical in
theorem tz (Al Ap Bl Bp : Option Addr) (nl cl np cp ml dl mp dp : Nat) (IZ Bi : Int) (l1 l2 : List Lk) (p1 p2 : List Int) (w : World) (h1 : BI w 3 Al nl cl (l1.flatMap Lk.cells)) (h2 : BI w 1 Ap np cp (zE p1)) (h3 : BI w 3 Bl ml dl (l2.flatMap Lk.cells)) (h4 : BI w 1 Bp mp dp (zE p2)) :
 Calls prog 31 #[.agg #[.int .i64 IZ, .slice Al nl cl, .slice Ap np cp], .agg #[.int .i64 Bi, .slice Bl ml dl, .slice Bp mp dp]] w fun e w' => e = .returned (.bool (decide (IZ = Bi) && decide (l1 = l2) && decide (p1 = p2))) ∧ bW w w' := by
 have HB : Hid (Below w.heap.size w ((w.alloc (.cells #[.int .i64 IZ, .slice Al nl cl, .slice Ap np cp] 37)).alloc (.cells #[.int .i64 Bi, .slice Bl ml dl, .slice Bp mp dp] 37))) := ((Below.refl _ _).alloc lR _).alloc (by simp) _;have CB := iD ((AJ.new w 37 #[.int .i64 IZ, .slice Al nl cl, .slice Ap np cp]).alloc (.cells #[.int .i64 Bi, .slice Bl ml dl, .slice Bp mp dp] 37))
 have AQ : Hid (AJ ((w.alloc (.cells #[.int .i64 IZ, .slice Al nl cl, .slice Ap np cp] 37)).alloc (.cells #[.int .i64 Bi, .slice Bl ml dl, .slice Bp mp dp] 37)) (w.heap.size + 1) 37 #[.int .i64 Bi, .slice Bl ml dl, .slice Bp mp dp]) := by
  have := AJ.new (w.alloc (.cells #[.int .i64 IZ, .slice Al nl cl, .slice Ap np cp] 37)) 37 #[.int .i64 Bi, .slice Bl ml dl, .slice Bp mp dp];unfold Hid; simpa using this
 have H1 := iD h1; have H2 := iD h2; have H3 := iD h3; have H4 := iD h4;clear h1 h2 h3 h4
 go_enter func31, ntmps31
 go_upto_region 1 with (fail);generalize World.alloc (World.alloc w _) _ = W at *;obtain ⟨a0, a1⟩ := CB.d2;obtain ⟨b0, b1⟩ := AQ.d2;by_cases hc : IZ = Bi; rotate_left
 ·have q1 : (IZ == Bi) = false := by simpa using hc
  have HV : Hid ((decide (IZ = Bi) && decide (l1 = l2) && decide (p1 = p2)) = false) := by unfold Hid; simp [hc]
  clear hc
  go_wp2_with fail
  go_ret;exact ⟨by rw [HV.out]; rfl, HB⟩
 have q1 : (IZ == Bi) = true := by simpa using hc
 have HV : Hid ((decide (IZ = Bi) && decide (l1 = l2) && decide (p1 = p2)) = (decide (l1 = l2) && decide (p1 = p2))) := by unfold Hid; simp [hc]
 clear hc;have Hr := iD (jw Al Bl nl cl ml dl w.heap.size w.heap.size l1 l2 W (H1.below HB lR) (H3.below HB lR) HB.size HB.size)
 go_wp2_with fail
 clear a0 a1 b0 b1 q1;refine Hr.mono ?_;rintro e w1 ⟨rfl, AV⟩;have Ai := iD (HB.trans (AV.mono HB.size));have a2 := (CB.below AV CB.lt).c2;have b2 := (AQ.below AV AQ.lt).c2;clear AV Hr;by_cases hl : l1 = l2; rotate_left
 ·have PP : Hid ((decide (l1 = l2) && decide (p1 = p2)) = false) := by unfold Hid; simp [hl]
  rw [decide_eq_false hl];clear hl
  go_wp2_with fail
  go_ret;exact ⟨by rw [HV.out, PP.out]; rfl, Ai⟩
 have PP : Hid ((decide (l1 = l2) && decide (p1 = p2)) = decide (p1 = p2)) := by unfold Hid; simp [hl]
 rw [decide_eq_true hl];clear hl;have Aa := iD (xm Ap Bp np cp mp dp w.heap.size w.heap.size p1 p2 w1 (H2.below Ai lR) (H4.below Ai lR) Ai.size Ai.size)
 go_wp2_with fail
 clear a2 b2;refine Aa.mono ?_;rintro e w2 ⟨rfl, AZ⟩;have CO := iD (Ai.trans (AZ.mono Ai.size));clear AZ Aa
 go_wp2_with fail
 go_ret;exact ⟨by rw [HV.out, PP.out]; rfl, CO⟩
def Fn.eqB (a b : Fn) : Bool := a.st == b.st && a.hz == b.hz
theorem mm (a b c d : Int) (w : World) : (binOp .neq 53 (.agg #[.int .i64 a, .int .i64 b]) (.agg #[.int .i64 c, .int .i64 d])).run prog w = .ok (.bool (!Fn.eqB ⟨a, b⟩ ⟨c, d⟩)) w := by
 have u3 := underlying3;have a3 := isAgg3;have z3 := sizeOf3;have hS : prog.underlying 53 = some (.struct (prog.fieldsOf 53)) := by kernel_rfl
 have hp : prog.stoodInHeld 53 = false := by kernel_rfl
 rw [run_neq_struct, show (10000 : Nat) = 9999 + 1 from rfl, run_equalIn_agg w 9999 53 _ _ hS hp];simp only [Program.fieldsOf, underlying53]
 go_simp
 by_cases h0 : a = c <;> by_cases h1 : b = d <;> simp [h0, h1, Fn.eqB]
def SfR (w : World) (a b : List Fn) (n gk : Nat) (iv : Value) (wr : World) : Prop := ∃ i : Nat, iv = .int .i64 i ∧ i ≤ n ∧ gk = n - i ∧ Hid (a.take i = b.take i) ∧ Hid (bW w wr)
theorem sD (A A2 : Option Addr) (n c n2 c2 B B2 : Nat) (a b : List Fn) (w : World) (ha : Sl w B 2 A n c (a.flatMap Fn.cells)) (hb : Sl w B2 2 A2 n2 c2 (b.flatMap Fn.cells)) (hB : B ≤ w.heap.size) (EU : B2 ≤ w.heap.size) :
 Calls prog 38 #[.slice A n c, .slice A2 n2 c2] w fun e w' => e = .returned (.bool (decide (a = b))) ∧ bW w w' := by
 have HA := iD ha; have HB := iD hb;have GV := iD (ha.len (fun _ => rfl) (by decide)); have NW := iD (hb.len (fun _ => rfl) (by decide));have QF := ha.le;have BN := hb.le;clear ha hb;by_cases hl : n = n2; rotate_left
 ·have q1 : ((n : Int) != (n2 : Int)) = true := by simp; omega
  have q2 : (n != n2) = true := by simpa using hl
  have HV : Hid (decide (a = b) = false) := by
   refine decide_eq_false fun e => hl ?_
   have h1 := GV.out; have h2 := NW.out; rw [e] at h1; omega
  clear hl
  go_enter func38, ntmps38
  go_wp2_with fail
  go_ret;exact ⟨by rw [HV.out]; rfl, Below.refl _ _⟩
 subst hl
 go_enter func38, ntmps38
 go_upto_region 4 with (fail);refine xY [(3, 0), (0, 1), (0, 2), (4, 0), (14, 1)] 5 (n) (SfR w a b n) (by (try dsimp only [gt]); exact ⟨0, rfl, Nat.zero_le _, rfl, rfl, Below.refl _ _⟩) (by kernel_rfl) ?_;intro u1 p5 gk wr a hrel ha J1 K1 EB ME;dsimp only [za, Go.Proofs.YtkkobemhbicjgaaGreatDoor.v1, Nat.reduceAdd] at ha;subst ha;obtain ⟨i, rfl, hi, rfl, HE, Bh⟩ := hrel;by_cases hlt : i < n; rotate_left
 ·have Cw : decide ((i : Int) < (n : Int)) = false := by simp; omega
  have RU : decide (i < n) = false := by simp; omega
  have HV : Hid (decide (a = b) = true) := by
   have h := HE.out;rw [List.take_of_length_le (by have := GV.out; omega), List.take_of_length_le (by have := NW.out; omega)] at h;exact decide_eq_true h
  go_wp2_with fail
  go_ret;exact ⟨by rw [HV.out]; rfl, Bh⟩
 obtain ⟨b1, o1, x, hA, AV, hx, hc⟩ := (HA.below Bh hB).at (fun _ => rfl) (by decide) hlt;obtain ⟨b2, o2, y, Cc, AZ, hy, hd⟩ := (HB.below Bh EU).at (fun _ => rfl) (by decide) hlt;obtain ⟨x1, x2⟩ := x;obtain ⟨y1, y2⟩ := y;have BK : Hid ((wr.cell? ⟨b1, o1 + i * 2, none⟩ = some (.int .i64 x1) ∧ wr.cell? ⟨b1, o1 + i * 2 + 1, none⟩ = some (.int .i64 x2)) ∧ wr.cell? ⟨b2, o2 + i * 2, none⟩ = some (.int .i64 y1) ∧ wr.cell? ⟨b2, o2 + i * 2 + 1, none⟩ = some (.int .i64 y2)) := ⟨⟨hc 0 _ rfl, hc 1 _ rfl⟩, hd 0 _ rfl, hd 1 _ rfl⟩;have HX := iD hx; have HY := iD hy;subst hA Cc;clear hc hd hx hy AV AZ;have hq := mm x1 x2 y1 y2;go_upto_region 6 with (fail)
 refine fv (fun W' => (W'.cell? ⟨b1, o1 + i * 2, none⟩ = some (.int .i64 x1) ∧ W'.cell? ⟨b1, o1 + i * 2 + 1, none⟩ = some (.int .i64 x2)) ∧ W'.cell? ⟨b2, o2 + i * 2, none⟩ = some (.int .i64 y1) ∧ W'.cell? ⟨b2, o2 + i * 2 + 1, none⟩ = some (.int .i64 y2)) [] ?_ fun AA => ?_
 ·exact BK.out
 try dsimp only at AA
 refine tk 0 17 (mf 9 1) AA ?_;refine tk 1 18 (mf 9 2) AA ?_;refine tk 2 19 (mf 9 3) AA ?_;refine ty 3 20 (mf 9 4) AA (y := by intro w AL; (try dsimp only at AL); obtain ⟨⟨u0, u1⟩, -⟩ := AL; go_simp; try with_reducible rfl) (h := ?_);refine tk 4 21 (mf 9 5) AA ?_;refine tk 5 22 (mf 9 6) AA ?_;refine tk 6 23 (mf 9 7) AA ?_;refine ty 7 24 (mf 9 8) AA (y := by intro w AL; (try dsimp only at AL); obtain ⟨-, u0, u1⟩ := AL; go_simp; try with_reducible rfl) (h := ?_);refine tk 8 25 (mf 9 9) AA ?_;refine tK ?_;clear AA hq;have AE : Hid (Fn.eqB ⟨x1, x2⟩ ⟨y1, y2⟩ = true ↔ (⟨x1, x2⟩ : Fn) = ⟨y1, y2⟩) := by unfold Hid Fn.eqB; simp
 generalize Fn.eqB ⟨x1, x2⟩ ⟨y1, y2⟩ = bb at *;rcases bb with _ | _
 ·have HV : Hid (decide (a = b) = false) := by
   refine decide_eq_false fun e => ?_
   have h1 := HX.out; rw [e, HY.out] at h1;have h2 := AE.mpr (Option.some.inj h1).symm;cases h2
  clear AE
  go_wp2_with fail
  go_ret;exact ⟨by rw [HV.out]; rfl, Bh.drew⟩
 ·have HN : Hid (a.take (i + 1) = b.take (i + 1)) := by unfold Hid; rw [zP HX.out, zP HY.out, HE.out, AE.mp rfl]
  clear AE
  go_wp2_with fail
  refine Handed.intro (n - (i + 1)) (by omega) (EB _ _ _ (wW.back 5 ?_ (by kernel_rfl)));dsimp only [gt];exact ⟨i + 1, by go_num, by omega, rfl, HN, Bh.drew⟩
end
theorem pp (ρ : Operand → Value) (o : Oper) (x y : Operand) (w0 : World) (x7 : Nat) (co : Int) (Ag Ap : Option Addr) (mg cg np cp : Nat) (ho : o.op = .store 37 x y) (e7 : ρ x = .pointer (some ⟨x7, 0, none⟩)) (Rk : ρ y = .agg #[.int .i64 co, .slice Ag mg cg, .slice Ap np cp])
 (h : AJ w0 x7 37 #[.int .i64 0, .slice none 0 0, .slice none 0 0]) :
 (execOp ρ o).run prog w0 = .ok .skip (((w0.setCell ⟨x7, 0, none⟩ (.int .i64 co)).setCell ⟨x7, 1, none⟩ (.slice Ag mg cg)).setCell ⟨x7, 2, none⟩ (.slice Ap np cp)) := by
 obtain ⟨a0, a1, a2⟩ := h.d3;obtain ⟨a3, a4, a5⟩ := h.e3;clear h;unfold execOp;rw [ho];simp only [e7, Rk]
 go_simp
theorem rY {size : Nat} {e T : TypeId} {xs : List Value} {cs : Array Value} (h : w.ownsRow base e size (.slice A n c) n xs) (hb : AJ w x T cs) (hne : e ≠ T) : ∀ b, (Value.slice A n c).ownBlock = some b → b ≠ x := by
 intro b hv Du;subst Du;rcases h.2 with ⟨h0, _⟩ | ⟨g, cap, cur, h0, _, hh, _⟩
 ·injection h0 with h1; subst h1; cases hv
 ·injection h0 with h1; subst h1;have : g = b := by injection hv
  subst this;unfold AJ at hb;rw [hh] at hb;injection hb with hb;injection hb with _ hb;exact hne hb
def KD (W : World) (g : Nat) (W' : World) : Prop := zN W' g ∧ W.grownBy W' (some g)
def Po (ds : List Dv) (s : List Int) (nn most : Nat) (W : World) (g : Nat) : List Value → World → Prop
 | [], W' => KD W g W'
 | [v1], W' => KD W g W' ∧ ∃ (Ag : Option Addr) (mg cg : Nat) (ls : List Lk), v1 = .slice Ag mg cg ∧ zk W' W.heap.size Ag mg cg ls ∧ xQ ds s most ls
 | [v1, v2], W' => KD W g W' ∧ ∃ (Ag : Option Addr) (mg cg : Nat) (ls : List Lk) (co : Int) (Ap : Option Addr) (np cp : Nat) (pr : List Int), v1 = .slice Ag mg cg ∧ v2 = .agg #[.int .i64 co, .slice Ag mg cg, .slice Ap np cp] ∧ (0 ≤ co ∧ co ≤ 7) ∧ zk W' W.heap.size Ag mg cg ls ∧ zL W' W.heap.size Ap np cp pr ∧ xQ ds s most ls ∧ np ≤ nn ∧ yr nn (-1) pr = true
 | _, _ => False
theorem KD.alloc (h : KD W g W') (o : Obj) : KD W g (W'.alloc o) := ⟨h.1.alloc o, zG h.2 (zH ((Below.refl _ _).alloc lR o) _)⟩
theorem Po.bas {most : Nat} : ∀ {vs : List Value}, Po ds s nn most W g vs W' → KD W g W'
 | [], h => h
 | [_], h => h.1
 | [_, _], h => h.1
 | _ :: _ :: _ :: _, h => h.elim
theorem Po.alloc {most : Nat} : ∀ {vs : List Value} (o : Obj), Po ds s nn most W g vs W' → Po ds s nn most W g vs (W'.alloc o)
 | [], o, h => KD.alloc h o
 | [_], o, ⟨h, Ag, mg, cg, ls, e, h1, h2⟩ => ⟨h.alloc o, Ag, mg, cg, ls, e, World.ownsRow.alloc h1 o, h2⟩
 | [_, _], o, ⟨h, Ag, mg, cg, ls, co, Ap, np, cp, pr, e1, e2, hc, h1, h2, h3⟩ => ⟨h.alloc o, Ag, mg, cg, ls, co, Ap, np, cp, pr, e1, e2, hc, World.ownsRow.alloc h1 o, World.ownsRow.alloc h2 o, h3⟩
 | _ :: _ :: _ :: _, _, h => h.elim
theorem KD.set (h : KD W g W') (hg : g < W.heap.size) (hx : W.heap.size ≤ x) (i : Nat) (u : Value) : KD W g (W'.setCell ⟨x, i, none⟩ u) :=
 ⟨h.1.setCell (by simp only; omega) u, zj h.2 (by simp only; omega) u⟩
theorem uO {size : Nat} {e : TypeId} {xs : List Value} (h : w.ownsRow base e size (.slice A n c) n xs) (hne : ∀ b, (Value.slice A n c).ownBlock = some b → b ≠ x) (i : Nat) (u : Value) : (w.setCell ⟨x, i, none⟩ u).ownsRow base e size (.slice A n c) n xs :=
 h.kept (zg _ _ _) (zb hne)
def set3 (w : World) (x : Nat) (u0 u1 u2 : Value) : World := ((w.setCell ⟨x, 0, none⟩ u0).setCell ⟨x, 1, none⟩ u1).setCell ⟨x, 2, none⟩ u2
structure eN (W : World) (g x7 : Nat) (Ag : Option Addr) (mg cg : Nat) (ls : List Lk) (co : Int) (Ap : Option Addr) (np cp : Nat) (pr : List Int) (W' : World) : Prop where
 b : KD W g W'
 b7 : AJ W' x7 37 #[.int .i64 co, .slice Ag mg cg, .slice Ap np cp]
 hl : zk W' W.heap.size Ag mg cg ls
 hp : zL W' W.heap.size Ap np cp pr
theorem eN.of {x7 mg cg np cp : Nat} {Ag Ap : Option Addr} (hB : KD W g W') (h7 : AJ W' x7 37 #[.int .i64 0, .slice none 0 0, .slice none 0 0]) (MV : W.heap.size ≤ x7) (hg : g < W.heap.size)
 (hO : zk W' W.heap.size Ag mg cg ls) (Dc : zL W' W.heap.size Ap np cp pr) (co : Int) : eN W g x7 Ag mg cg ls co Ap np cp pr (set3 W' x7 (.int .i64 co) (.slice Ag mg cg) (.slice Ap np cp)) := by
 have n7 := rY hO h7 (by decide);have p7 := rY Dc h7 (by decide);unfold set3;exact ⟨(((hB.set hg MV _ _).set hg MV _ _).set hg MV _ _), ((h7.set 0 _).set 1 _).set 2 _, uO (uO (uO hO n7 _ _) n7 _ _) n7 _ _, uO (uO (uO Dc p7 _ _) p7 _ _) p7 _ _⟩
theorem js {nd : Nat} : ∀ {xs : List Sp}, (∀ x ∈ xs, zc nn nd x = 0) → zz nn nd xs = 0
 | [], _ => rfl
 | x :: r, h => by
  unfold zz;rw [if_neg (by simp [h x (by simp)])];exact js fun y hy => h y (List.mem_cons_of_mem _ hy)
theorem kN (hm : zU ns ds m = 0) (DT : 0 ≤ co ∧ co ≤ 7) (hg : xz ds ls) (hp : yr ns.length (-1) pr = true) (hn : yO (BA nm) = true) (hl : xs.length ≤ 64) (hx : ∀ x ∈ xs, zc ns.length ds.length x = 0) : yX ns ds m co ls pr nm xs = 0 := by
 have hc := (zS hm).1
 have h1 : xJ ns ds co ls pr = 0 := by
  unfold xJ; rw [if_neg (by omega), if_neg (by rw [tM hc hg]; simp), if_neg (by simp [hp])]
 have h2 : xw ns ds nm xs = 0 := by
  unfold xw; rw [if_neg (by simp [hc]), if_neg (by simp [hn]), if_neg (by omega)]; exact js hx
 unfold yX; rw [if_neg (by simp [hm]), if_neg (by simp [h1]), h2]
theorem oU.okay {e : Ending} (h : oU w ns ds m co ls pr nm xs e w') (h0 : yX ns ds m co ls pr nm xs = 0) (h1 : (zo ns ds co 0 [] ⟨m, ls, pr⟩ xs).e = 0) :
 ∃ (A1 A2 Al Ap : Option Addr) (n1 c1 n2 c2 nl cl np cp : Nat), e = .returned (.tuple #[.agg #[.slice A1 n1 c1, .slice A2 n2 c2, .int .i64 co, .slice Al nl cl, .slice Ap np cp], .int .i64 0]) ∧ Hid (rD w' A1 A2 Al Ap n1 c1 n2 c2 nl cl np cp (zo ns ds co 0 [] ⟨m, ls, pr⟩ xs).o (zo ns ds co 0 [] ⟨m, ls, pr⟩ xs).t) ∧ Hid (bW w w') := by
 obtain ⟨⟨g, -⟩ | ⟨-, g, -⟩ | ⟨-, -, A1, A2, A3, A4, n1, c1, n2, c2, n3, c3, n4, c4, rfl, hR⟩, hb⟩ := h
 ·exact absurd h0 g
 ·exact absurd h1 g
 ·exact ⟨A1, A2, A3, A4, n1, c1, n2, c2, n3, c3, n4, c4, rfl, hR, hb⟩
theorem tq.okay {e : Ending} (h : tq w ns ds m co ls pr nm xs e w') (h0 : yX ns ds m co ls pr nm xs = 0) (h1 : (zo ns ds co 0 [] ⟨m, ls, pr⟩ xs).e = 0) :
 ∃ (A1 A2 Al Ap : Option Addr) (n1 c1 n2 c2 nl cl np cp : Nat), e = .returned (.tuple #[.agg #[.slice A1 n1 c1, .slice A2 n2 c2, .int .i64 co, .slice Al nl cl, .slice Ap np cp], .int .i64 0]) ∧ Hid (rD w' A1 A2 Al Ap n1 c1 n2 c2 nl cl np cp (zo ns ds co 0 [] ⟨m, ls, pr⟩ xs).o (zo ns ds co 0 [] ⟨m, ls, pr⟩ xs).t) ∧ Hid (jh w.heap.size A1 A2 Al Ap n1 n2 nl np) ∧ Hid (bW w w') := by
 obtain ⟨⟨g, -⟩ | ⟨-, g, -⟩ | ⟨-, -, A1, A2, A3, A4, n1, c1, n2, c2, n3, c3, n4, c4, rfl, hR, hH⟩, hb⟩ := h
 ·exact absurd h0 g
 ·exact absurd h1 g
 ·exact ⟨A1, A2, A3, A4, n1, c1, n2, c2, n3, c3, n4, c4, rfl, hR, hH, hb⟩
theorem rD.later8 {A1 A2 Al Ap : Option Addr} {n1 c1 n2 c2 nl cl np cp : Nat} {o : List Fn} {t : Sm} (h : rD w A1 A2 Al Ap n1 c1 n2 c2 nl cl np cp o t) (hb : bW w w') : rD w' A1 A2 Al Ap n1 c1 n2 c2 nl cl np cp o t :=
 ⟨(h.o.below hb lR).more hb.size, (h.s.below hb lR).more hb.size, (h.l.below hb lR).more hb.size, (h.p.below hb lR).more hb.size⟩
theorem Sl.fnd {B i : Nat} {fs : List Fn} (h : Sl w B 2 A n c (fs.flatMap Fn.cells)) (hi : i < n) : ∃ b off d p, A = some ⟨b, off, none⟩ ∧ b < B ∧ fs[i]? = some ⟨d, p⟩ ∧ w.cell? ⟨b, off + i * 2, none⟩ = some (.int .i64 d) ∧ w.cell? ⟨b, off + i * 2 + 1, none⟩ = some (.int .i64 p) := by
 obtain ⟨b, off, ⟨d, p⟩, e, hb, hx, hc⟩ := h.at (fun _ => rfl) (by decide) hi;exact ⟨b, off, d, p, e, hb, hx, hc 0 _ rfl, hc 1 _ rfl⟩
def fg (g : Nat) (lb : Array Value) (p : Fn → Bool) (w : World) : Prop :=
 ∀ (W : World) (d q : Int), Below w.heap.size w W → Calls prog g (#[.agg #[.int .i64 d, .int .i64 q]] ++ lb) W fun e w' => e = .returned (.bool (p ⟨d, q⟩)) ∧ Below w.heap.size w w'
def cC (w : World) (ls : List Fn) (p : Fn → Bool) (n gk : Nat) (_kv iv : Value) (wr : World) : Prop := ∃ i : Nat, iv = .int .i64 i ∧ i ≤ n ∧ gk = n - i ∧ Hid (∀ x ∈ ls.take i, p x = false) ∧ Hid (bW w wr)
theorem jM (g : Nat) (lb : Array Value) (p : Fn → Bool) (eg : ∀ args w, (callFunc g args).run prog w = .ok (.enter g args) w) (A : Option Addr) (n c B : Nat) (ls : List Fn) (w : World) (hs : Sl w B 2 A n c (ls.flatMap Fn.cells)) (hB : B ≤ w.heap.size) (hp : fg g lb p w) :
 Calls prog 89 #[.slice A n c, .func (.func g) #[] lb] w fun e w' => (∃ i : Int, e = .returned (.int .i64 i) ∧ Hid (decide (0 ≤ i) = ls.any p)) ∧ bW w w' := by
 have Cb := iD (hs.len (fun _ => rfl) (by decide)); have HS := iD hs;have hle := hs.le;have HP := iD hp;clear hs hp
 go_enter func89, ntmps89
 go_wp2_with fail
 go_loopg [5, 8] n (cC w ls p n)
 case atStart => exact ⟨0, rfl, Nat.zero_le _, rfl, (fun x hx => by simp at hx), Below.refl _ _⟩
 case round =>
  obtain ⟨i, rfl, hi, rfl, hno, AU⟩ := hrel;by_cases hlt : i < n
  ·obtain ⟨b, off, d1, p1, rfl, hb, hx, c0, c1⟩ := (HS.below AU hB).fnd hlt;have HX := iD hx;have FE := HP wr d1 p1 AU.out;clear hx;rcases hq : p ⟨d1, p1⟩ with _ | _
   ·rw [hq] at FE
    have HN : Hid (∀ x ∈ ls.take (i + 1), p x = false) := fun x hx => by
     rw [zP HX.out] at hx;rcases List.mem_append.1 hx with h | h
     ·exact hno x h
     ·rw [List.mem_singleton.1 h]; exact hq
    clear hq
    go_wp2_with (go_at_fn g; refine FE.mono ?_; rintro e w' ⟨rfl, hb'⟩)
    go_roundg (n - (i + 1))
    ·exact ⟨i + 1, by go_num, by omega, rfl, HN, hb'⟩
    omega
   ·rw [hq] at FE
    have HR : Hid (decide (0 ≤ (i : Int)) = ls.any p) := by
     unfold Hid;rw [decide_eq_true (by omega)]
     symm
     rw [List.any_eq_true];exact ⟨_, List.mem_of_getElem? HX, hq⟩
    clear hq
    go_wp2_with (go_at_fn g; refine FE.mono ?_; rintro e w' ⟨rfl, hb'⟩)
    go_ret;exact ⟨⟨_, rfl, HR⟩, hb'⟩
  ·obtain rfl : i = n := by omega
   have Cw : decide (i < i) = false := by simp
   have HR : Hid (decide (0 ≤ (-1 : Int)) = ls.any p) := by
    have := hno.out;rw [List.take_of_length_le (by rw [Cb.out]; exact Nat.le_refl _)] at this;unfold Hid;rw [decide_eq_false (by omega)]
    symm
    rw [List.any_eq_false];intro x hx;rw [this x hx]; simp
   go_wp2_with fail
   go_ret;exact ⟨⟨_, rfl, HR⟩, AU⟩
theorem lQ (g : Nat) (lb : Array Value) (p : Fn → Bool) (eg : ∀ args w, (callFunc g args).run prog w = .ok (.enter g args) w) (A : Option Addr) (n c B : Nat) (ls : List Fn) (w : World) (hs : Sl w B 2 A n c (ls.flatMap Fn.cells)) (hB : B ≤ w.heap.size) (hp : fg g lb p w) :
 Calls prog 61 #[.slice A n c, .func (.func g) #[] lb] w fun e w' => e = .returned (.bool (ls.any p)) ∧ bW w w' := by
 have HI := iD (jM g lb p eg A n c B ls w hs hB hp);clear hs hp
 go_enter func61, ntmps61
 go_wp2_with fail
 refine HI.mono ?_;rintro e w1 ⟨⟨i, rfl, hi⟩, hb⟩
 go_wp2_with fail
 go_ret;exact ⟨zF hi, hb⟩
def el (fs : List Fn) (but : List Int) : Bool := !fs.any fun f => !vV but f.hz
theorem jX (A A2 Al Ap Ab : Option Addr) (n c n2 c2 nl cl np cp mb cb : Nat) (co : Int) (fs : List Fn) (but : List Int) (w : World) (hf : BI w 2 A n c (fs.flatMap Fn.cells)) (hb : BI w 1 Ab mb cb (zE but)) :
 Calls prog 34 #[.agg #[.slice A n c, .slice A2 n2 c2, .int .i64 co, .slice Al nl cl, .slice Ap np cp], .slice Ab mb cb] w fun e w' => e = .returned (.bool (el fs but)) ∧ bW w w' := by
 have HB : Hid (Below w.heap.size w ((w.alloc (.cells #[.slice A n c, .slice A2 n2 c2, .int .i64 co, .slice Al nl cl, .slice Ap np cp] 47)).alloc (.cells #[.slice Ab mb cb] 22))) := ((Below.refl _ _).alloc lR _).alloc (by simp) _;have H0 : Hid (AJ ((w.alloc (.cells #[.slice A n c, .slice A2 n2 c2, .int .i64 co, .slice Al nl cl, .slice Ap np cp] 47)).alloc (.cells #[.slice Ab mb cb] 22)) w.heap.size 47 #[.slice A n c, .slice A2 n2 c2, .int .i64 co, .slice Al nl cl, .slice Ap np cp]) := (AJ.new w _ _).alloc _
 have H1 : Hid (AJ ((w.alloc (.cells #[.slice A n c, .slice A2 n2 c2, .int .i64 co, .slice Al nl cl, .slice Ap np cp] 47)).alloc (.cells #[.slice Ab mb cb] 22)) (w.heap.size + 1) 22 #[.slice Ab mb cb]) := by
  have := AJ.new (w.alloc (.cells #[.slice A n c, .slice A2 n2 c2, .int .i64 co, .slice Al nl cl, .slice Ap np cp] 47)) 22 #[.slice Ab mb cb];unfold Hid; simpa using this
 have HF := iD hf; have HU := iD hb;clear hf hb
 go_enter func34, ntmps34
 go_upto_region 1 with (fail);generalize World.alloc (World.alloc w _) _ = W at *
 have HC := iD (lQ 62 #[.pointer (some ⟨w.heap.size + 1, 0, none⟩)] (fun f => !vV but f.hz) (enters_of func62 (by kernel_rfl) rfl) A n c w.heap.size fs W (HF.below HB lR) HB.size (fun V d q hV => by
  have HV := iD hV;have HK := iD (H1.below hV H1.lt);clear hV
  show Calls prog 62 #[.agg #[.int .i64 d, .int .i64 q], .pointer (some ⟨w.heap.size + 1, 0, none⟩)] V _
  have Bh : Hid (Below V.heap.size V (V.alloc (.cells #[.int .i64 d, .int .i64 q] 53))) := (Below.refl _ _).alloc lR _;have HQ := iD (HK.alloc (.cells #[.int .i64 d, .int .i64 q] 53));have HN := iD (AJ.new V 53 #[.int .i64 d, .int .i64 q])
  go_enter func62, ntmps62
  go_upto_region 1 with (fail);generalize World.alloc V _ = X at *;have b0 := HQ.c0;have e1 := HN.cell 1;have HZ := iD (wZ Ab mb cb w.heap.size but q X ((((HU.below HB lR).below HV HB.size)).below Bh (Nat.le_trans HB.size HV.size)))
  go_wp2_with fail
  clear b0 e1;refine HZ.mono ?_;rintro e w2 ⟨rfl, rfl⟩
  go_wp2_with fail
  go_ret;exact ⟨rfl, HV.trans (Bh.mono HV.size)⟩))
 have k0 := H0.cell 0
 go_wp2_with fail
 clear k0;refine HC.mono ?_;rintro e w1 ⟨rfl, AV⟩
 go_wp2_with fail
 go_ret;exact ⟨rfl, HB.trans (AV.mono HB.size)⟩
def nsC : List Nd := [⟨⟨#[65]⟩, 0, 0⟩]
def dsC : List Dv := [⟨⟨#[83]⟩, 5, 0, -1, 0⟩, ⟨⟨#[69]⟩, 4, 0, -1, 0⟩]
structure Wz (w wr : World) : Prop where
 bn : AJ wr (w.heap.size + 1 + 1) 30 #[.slice (some ⟨w.heap.size, 0, none⟩) 1 1, .slice (some ⟨w.heap.size + 1, 0, none⟩) 2 2]
 sn : Sl wr (w.heap.size + 1) 3 (some ⟨w.heap.size, 0, none⟩) 1 1 (nsC.flatMap Nd.cells)
 sd : Sl wr (w.heap.size + 1 + 1) 5 (some ⟨w.heap.size + 1, 0, none⟩) 2 2 (dsC.flatMap Dv.cells)
 bl : bW w wr
 la : Laid wr
 sz : w.heap.size + 3 ≤ wr.heap.size
theorem Wz.later {wr wr' : World} (h : Wz w wr) (hb : bW wr wr') : Wz w wr' :=
 ⟨h.bn.below hb h.bn.lt, h.sn.below hb (by have := h.sz; omega), h.sd.below hb (by have := h.sz; omega), h.bl.trans (hb.mono h.bl.size), h.la.below hb lR, Nat.le_trans h.sz hb.size⟩
theorem Wz.mk0 (w : World) (hl : Laid w) : Wz w (((w.alloc (.cells #[.string ⟨#[65]⟩, .int .i64 0, .int .i64 0] 85)).alloc (.cells #[.string ⟨#[83]⟩, .int .i64 5, .int .i64 0, .int .i64 (-1), .int .i64 0, .string ⟨#[69]⟩, .int .i64 4, .int .i64 0, .int .i64 (-1), .int .i64 0] 57)).alloc (.cells #[.slice (some ⟨w.heap.size, 0, none⟩) 1 1, .slice (some ⟨w.heap.size + 1, 0, none⟩) 2 2] 30)) := by
 refine ⟨?_, ?_, ?_, ?_, ((hl.alloc _).alloc _).alloc _, by simp⟩
 ·have := AJ.new ((w.alloc (.cells #[.string ⟨#[65]⟩, .int .i64 0, .int .i64 0] 85)).alloc (.cells #[.string ⟨#[83]⟩, .int .i64 5, .int .i64 0, .int .i64 (-1), .int .i64 0, .string ⟨#[69]⟩, .int .i64 4, .int .i64 0, .int .i64 (-1), .int .i64 0] 57)) 30 #[.slice (some ⟨w.heap.size, 0, none⟩) 1 1, .slice (some ⟨w.heap.size + 1, 0, none⟩) 2 2];simpa using this
 ·refine Sl.alloc (Sl.alloc ?_ (by simp) _) (by simp) _;exact Sl.newest (n := 1) (size := 3) rfl rfl (by decide)
 ·refine Sl.alloc ?_ (by simp) _;exact Sl.newest (n := 2) (size := 5) (by simp) rfl (by decide)
 ·exact (((Below.refl _ _).alloc lR _).alloc (by simp) _).alloc (by simp; omega) _
def pd (w : World) (g nd most : Nat) (e : Ending) (w' : World) : Prop :=
 ∃ (A : Option Addr) (c : Nat) (m : List Int), e = .returned (.slice A nd c) ∧ Hid (zN w' g) ∧ Hid (w.grownBy w' (some g)) ∧ Hid (zL w' (w.heap.size + 1) A nd c m) ∧ Hid (∀ p ∈ m, zl p = true) ∧ Hid (zm m m.length ≤ most)
theorem pP (h : ∀ p ∈ s, posB p = true) : ∀ n, zm s n = 0
 | 0 => rfl
 | n + 1 => by
  rw [yn, pP h n, if_neg];intro e;have := h 3 (List.mem_of_getElem? e);simp [posB] at this
theorem kH (m : List Int) (i : Nat) : ∀ n, zm (m.set i 3) n ≤ zm m n + 1 ∧ (n ≤ i → zm (m.set i 3) n = zm m n)
 | 0 => ⟨by simp [zm, wA], fun _ => rfl⟩
 | n + 1 => by
  obtain ⟨h1, h2⟩ := kH m i n;rw [yn, yn];by_cases hn : n = i
  ·subst hn;have := h2 lR;refine ⟨?_, fun h => by omega⟩;rw [this];split <;> split <;> omega
  ·rw [List.getElem?_set_ne (by omega)];exact ⟨by omega, fun h => by rw [h2 (by omega)]⟩
def MmR (W : World) (g nd most : Nat) (A : Option Addr) (c gk : Nat) (iv : Value) (wr : World) : Prop :=
 ∃ (i : Nat) (m : List Int), iv = .int .i64 i ∧ i ≤ most ∧ gk = most - i ∧ Hid (zL wr (W.heap.size + 1) A nd c m) ∧ Hid (zN wr g) ∧ Hid (W.grownBy wr (some g)) ∧ Hid (∀ p ∈ m, zl p = true) ∧ Hid (zm m m.length ≤ i)
theorem nP (g : Nat) (An Ad : Option Addr) (nn cn nd cd most : Nat) (ds : List Dv) (w : World) (hd : zN w g) (hx : Dx w g 5 Ad nd cd (ds.flatMap Dv.cells)) (Ae : nd ≤ 1000) (QD : most ≤ 1000) :
 Calls prog 14 #[.pointer (some ⟨g, 0, none⟩), .agg #[.slice An nn cn, .slice Ad nd cd], .int .i64 (most : Int)] w (pd w g nd most) := by
 have hlt := hd.lt;have BG := iD (nO g An Ad nn cn nd cd ds (w.alloc (.cells #[.slice An nn cn, .slice Ad nd cd] 30)) (hd.alloc _) (hx.alloc _) Ae);have CB : Hid (w.grownBy (w.alloc (.cells #[.slice An nn cn, .slice Ad nd cd] 30)) (some g)) := zH ((Below.refl _ _).alloc lR _) _;have HW : Hid ((w.alloc (.cells #[.slice An nn cn, .slice Ad nd cd] 30)).heap.size = w.heap.size + 1) := by unfold Hid; simp
 clear hd hx
 go_enter func14, ntmps14
 go_wp2_with fail
 generalize World.alloc _ _ = W at *;refine BG.mono ?_;rintro e w1 ⟨A, c, s, rfl, BB, Av, Hq, Kt⟩;have Fj : Hid (∀ p ∈ s, zl p = true) := fun p hp => by have := Kt p hp; simp [posB, zl] at *; omega
 have Fu : Hid (zm s s.length ≤ 0) := by unfold Hid; rw [pP Kt.out]; exact Nat.le_refl _
 have Ah := HW.out;have TW : g < W.heap.size := by omega
 clear BG Kt Ah
 go_wp2_with fail
 go_loopg [8] most (MmR W g nd most A c)
 case atStart => exact ⟨0, s, rfl, Nat.zero_le _, rfl, Hq, BB, Av, Fj, Fu⟩
 case round =>
  clear Hq BB Av Fj Fu;obtain ⟨i, m, rfl, hi, rfl, hO, hD, hG, hM, hC⟩ := hrel;by_cases hgo : i < most ∧ 0 < nd
  ·obtain ⟨FZ, Ac⟩ := hgo
   go_wp2_with fail
   refine (wK g 2 wr hD (by decide)).mono ?_;rintro e w3 ⟨r, rfl, Hm, EI, Ls⟩;have Az := iD (hO.kept EI (zb fun b e => by have := (hO.lt b e).1; omega));have CU := iD (zG hG EI);clear hD hG EI Ls hO;rcases r with _ | _
   ·have JH : Hid (zm m m.length ≤ i + 1) := by have := hC.out; unfold Hid; omega
    go_wp2_with fail
    go_roundg (most - (i + 1))
    ·exact ⟨i + 1, m, by go_num, by omega, rfl, Az, Hm, CU, hM, JH⟩
    omega
   ·go_wp2_with fail
    refine (zT g (nd : Int) w3 Hm (by omega)).mono ?_;rintro e w4 ⟨v, rfl, IQ, _, Ci, LJ, Fa, Uk⟩;have KJ := Ci (by omega);obtain ⟨t, rfl⟩ := Int.eq_ofNat_of_zero_le IQ;have Ua : t < nd := by omega
    have BC := iD (Az.kept Fa (zb fun b e => by have := (Az.lt b e).1; omega));have Fq := iD (zG CU Fa);clear Hm Fa Uk Az CU Ci KJ IQ;obtain ⟨q, y, rfl, IU, TP, hy, JV, VA, hst⟩ := zL.at BC Ua;have NL := iD (hst 3);have Pj := iD (LJ.setCell (p := ⟨q, t, none⟩) (by simp; omega) (.int .i64 3));have Jw := iD (zj Fq (p := ⟨q, t, none⟩) (by simp; omega) (.int .i64 3))
    have JC : Hid (∀ p ∈ m.set t 3, zl p = true) := fun p hp => by
     rcases List.mem_or_eq_of_mem_set hp with h1 | h1
     ·exact hM p h1
     ·rw [h1]; rfl
    have IJ : Hid (zm (m.set t 3) (m.set t 3).length ≤ i + 1) := by
     have h1 := (kH m t m.length).1;have h2 := hC.out;unfold Hid; rw [List.length_set]; omega
    clear hst LJ BC Fq hy
    go_wp2_with fail
    go_roundg (most - (i + 1))
    ·exact ⟨i + 1, _, by go_num, by omega, rfl, NL, Pj, Jw, JC, IJ⟩
    omega
  ·have DW : Hid (pd w g nd most (.returned (.slice A nd c)) wr) := ⟨A, c, m, rfl, hD, zG CB hG, hO.mono (by have := HW.out; omega), hM, (by have := hC.out; unfold Hid; omega)⟩;by_cases hl : i < most
   ·obtain rfl : nd = 0 := by omega
    go_wp2_with fail
    go_ret;exact DW.out
   ·have ql : decide ((i : Int) < (most : Int)) = false := by simp; omega
    have BF : decide (i < most) = false := by simp; omega
    go_wp2_with fail
    go_ret;exact DW.out
theorem xj.appL {ls : List (List Int)} {vs : List Value} (h : xj w base A n c ls vs) {A1 An : Option Addr} {c1 cn ln : Nat} {l : List Int} (Da : l.length = ln) (Eb : w'.ownsRow base 22 1 (.slice A1 (n + 1) c1) (n + 1) (vs ++ [.slice An ln cn])) (hg : w.grownBy w' (Value.slice A n c).ownBlock)
 (FR : (Value.slice A1 (n + 1) c1).ownBlock = (Value.slice A n c).ownBlock ∨ (Value.slice A1 (n + 1) c1).ownBlock = some w.heap.size) (hl : BI w 1 An ln cn (zE l)) (hlt : ∀ b off, An = some ⟨b, off, none⟩ → b < w.heap.size ∧ some b ≠ (Value.slice A n c).ownBlock) : xj w' base A1 (n + 1) c1 (ls ++ [l]) (vs ++ [.slice An ln cn]) := by
 subst Da;exact h.app Eb hg FR hl hlt
def uB (x : Int) (o : List Int) (p : Nat) : List (List Int) := (if 2 ≤ p ∧ x ≠ 2 then [o ++ [1]] else []) ++ (if 3 ≤ p ∧ x ≠ 1 then [o ++ [2]] else [])
theorem jE (x : Int) (o : List Int) : uB x o 1 = [] := rfl
theorem mv {x : Int} (o : List Int) (h : x = 1 ∨ x = 2 ∨ x = 3) : uB x o 3 = xx (some x) o := by
 rcases h with rfl | rfl | rfl <;> rfl
theorem jF (x : Int) (o : List Int) (p : Nat) : (uB x o p).length ≤ 2 := by
 unfold uB; split <;> split <;> simp
theorem iR (x : Option Int) (ls : List (List Int)) : (ls.flatMap (xx x)).length ≤ 2 * ls.length := by
 induction ls with
 | nil => simp
 | cons o ls ih =>
  rw [List.flatMap_cons, List.length_append, List.length_cons];have : (xx x o).length ≤ 2 := by unfold xx; split <;> simp
  omega
theorem pU (h : yG m = 0) : (∀ x ∈ m, zl x = true) ∧ zm m m.length ≤ 8 := by
 unfold yG at h;split at h
 ·next hv =>
  split at h
  ·omega
  ·exact ⟨List.all_eq_true.1 hv, by omega⟩
 ·omega
def dj (w : World) (m : List Int) (gk : Nat) (ov iv : Value) (wr : World) : Prop := ∃ (i no co : Nat) (Ao : Option Addr), iv = .int .i64 i ∧ ov = .slice Ao no co ∧ i ≤ m.length ∧ gk = m.length - i ∧ Hid (xG wr wr.heap.size Ao no co (wU m i)) ∧ Hid (bW w wr)
def dh (W : World) (m : List Int) (i no gk : Nat) (ov iv : Value) (wr : World) : Prop := ∃ (k nx cx : Nat) (Ax : Option Addr) (vs : List Value), iv = .int .i64 k ∧ ov = .slice Ax nx cx ∧ k ≤ no ∧ gk = no - k ∧ Hid (xj wr W.heap.size Ax nx cx (((wU m i).take k).flatMap (xx m[i]?)) vs) ∧ Hid (bW W wr)
def dg (W : World) (m : List Int) (i k : Nat) (x : Int) (o : List Int) (gk : Nat) (ov pv : Value) (wr : World) : Prop := ∃ (p nx cx : Nat) (Ax : Option Addr) (vs : List Value), pv = .int .i64 p ∧ ov = .slice Ax nx cx ∧ 1 ≤ p ∧ p ≤ 3 ∧ gk = 3 - p ∧ Hid (xj wr W.heap.size Ax nx cx (((wU m i).take k).flatMap (xx m[i]?) ++ uB x o p) vs) ∧ Hid (bW W wr)
theorem iE (A : Option Addr) (c B : Nat) (m : List Int) (w : World) (hs : Sl w B 1 A m.length c (zE m)) (hB : B ≤ w.heap.size) (hn : m.length ≤ 1000) : Calls prog 39 #[.slice A m.length c] w (mQ w m) := by
 have HC := iD (mr A m.length c B m w hs hB (by omega));have HS := iD hs;clear hs;by_cases he : yG m = 0; rotate_left
 ·have q : (yG m != 0) = true := by simpa using he
  have HE := iD he;clear he
  go_enter func39, ntmps39
  go_wp2_with fail
  refine HC.mono ?_;rintro e w1 ⟨rfl, AV⟩
  go_wp2_with fail
  go_ret2;exact ⟨.inl ⟨HE, rfl⟩, AV⟩
 have Ay := iD (pU he).1;have Vl := iD (pU he).2;have HE := iD he;rw [he] at HC;clear he;generalize uH m = cv at *
 go_enter func39, ntmps39
 go_wp2_with fail
 refine HC.mono ?_;rintro e w1 ⟨rfl, AV⟩
 go_wp2_with fail
 have Gq : Hid (xG (w1.alloc (.cells #[.slice none 0 0] 22)) (w1.alloc (.cells #[.slice none 0 0] 22)).heap.size (some ⟨w1.heap.size, 0, none⟩) 1 1 (wU m 0)) :=
  ⟨[.slice none 0 0], (Sl.newest (n := 1) (size := 1) (w := w1) rfl (by rfl) (by decide)).more (by simp), rfl, fun i l hl => by
   cases i with
   | zero => simp [wU] at hl; subst hl; exact ⟨none, 0, rfl, Sl.nil _ _ _⟩
   | succ i => simp [wU] at hl⟩
 have CB := iD (AV.alloc AV.size (.cells #[.slice none 0 0] 22));clear HC AV;generalize World.alloc _ _ = w2 at *
 go_loopg [6, 7] m.length (dj w m)
 case atStart => exact ⟨0, 1, 1, _, rfl, rfl, Nat.zero_le _, rfl, Gq, CB⟩
 case round =>
  clear Gq CB;obtain ⟨i, no, co, Ao, rfl, rfl, hi, rfl, AB, AU⟩ := hrel;by_cases hlt : i < m.length
  ·have hno : no ≤ 256 := by
    have h1 := AB.len;rw [tl] at h1;have := Nat.pow_le_pow_right (n := 2) (by decide) (Nat.le_trans (uV m (Nat.le_of_lt hlt)) Vl);omega
   have OO := AU.size
   go_wp2_with fail
   generalize wr = W at *
   go_loopg [8, 9] no (dh W m i no)
   case atStart => exact ⟨0, 0, 0, none, [], rfl, rfl, Nat.zero_le _, rfl, xj.nil _ _, Below.refl _ _⟩
   case round =>
    obtain ⟨k, nx, cx, Ax, vs, rfl, rfl, hk, rfl, Me, Bo⟩ := hrel;by_cases Af : k < no
    ·obtain ⟨rb, ro, o, Ak, ck, rfl, RH, ho, AG, AW⟩ := AB.at Af;have HO := iD ho;have Iz : Hid (o.length = i) := ((wP m i o).1 (List.mem_of_getElem? ho)).1;have BJ : o.length ≤ 1000 := by have := Iz.out; omega
     have Aq := iD AW;obtain ⟨x, hx⟩ : ∃ x, m[i]? = some x := ⟨_, List.getElem?_eq_getElem hlt⟩
     have HX := iD hx
     have GX : x = 1 ∨ x = 2 ∨ x = 3 := by
      have := Ay x (List.mem_of_getElem? hx);simp [zl] at this; omega
     have QW := iD GX
     have Vo : Hid (((wU m i).take (k + 1)).flatMap (xx m[i]?) = ((wU m i).take k).flatMap (xx m[i]?) ++ uB x o 3) := by
      unfold Hid;rw [zP ho, List.flatMap_append, mv o GX, hx]; simp
     have Aj : Hid ((((wU m i).take k).flatMap (xx m[i]?)).length ≤ 512) := by
      have h1 := iR m[i]? ((wU m i).take k);have h2 : ((wU m i).take k).length ≤ k := List.length_take_le _ _;unfold Hid; omega
     have Au := iD AG;clear ho AW hx GX AG
     go_wp2_with fail
     go_loopg [8, 10] 2 (dg W m i k x o)
     case atStart => exact ⟨1, nx, cx, Ax, vs, rfl, rfl, Nat.le_refl _, by omega, rfl, (by unfold Hid; rw [jE, List.append_nil]; exact Me), Bo⟩
     case round =>
      clear Me Bo;obtain ⟨p, nx, cx, Ax, vs, rfl, rfl, Kt, BH, rfl, Me, Bo⟩ := hrel
      have BL : nx ≤ 600 := by
       have h1 := Me.2.1;rw [List.length_append] at h1;have := jF x o p;have := Aj.out;omega
      by_cases AX : p = 3
      ·subst AX;have AK : Hid (xj wr W.heap.size Ax nx cx (((wU m i).take (k + 1)).flatMap (xx m[i]?)) vs) := by unfold Hid; rw [Vo.out]; exact Me.out
       go_wp2_with fail
       go_roundg (no - (k + 1))
       ·exact ⟨k + 1, nx, cx, Ax, vs, by go_num, rfl, by omega, rfl, AK, Bo⟩
       omega
      ·obtain ⟨mb, mo, x', rfl, Ga, hx', BM⟩ := ((HS.below AU hB).below Bo (by omega)).at1 hlt;obtain rfl : x' = x := by rw [HX.out] at hx'; injection hx' with h; exact h.symm
       have Pz : p ≤ 2 := by omega
       have q2 : decide ((p : Int) ≤ 2) = true := by simp; omega
       clear hx' AX;by_cases OT : (p = 1 ∧ x' ≠ 2) ∨ (p = 2 ∧ x' ≠ 1)
       ·have qa : (bits BinOp.and IntKind.i64 x' (p : Int) != 0) = true := by
         have := QW.out;rcases OT with ⟨rfl, h⟩ | ⟨rfl, h⟩ <;> rcases this with rfl | rfl | rfl <;> first | rfl | exact absurd rfl h
        have AO : Hid (((wU m i).take k).flatMap (xx m[i]?) ++ uB x' o (p + 1) = (((wU m i).take k).flatMap (xx m[i]?) ++ uB x' o p) ++ [o ++ [(p : Int)]]) := by
         unfold Hid;rw [List.append_assoc]
         congr 1
         have := QW.out;rcases OT with ⟨rfl, h⟩ | ⟨rfl, h⟩ <;> rcases this with rfl | rfl | rfl <;> first | rfl | exact absurd rfl h
        have AG : wr.cell? ⟨rb, ro + k, none⟩ = some (.slice Ak o.length ck) := (Bo.cell (p := ⟨rb, ro + k, none⟩) RH).trans Au.out;have AH := iD ((Aq.below Bo lR).more Bo.size);clear OT;have Kq := Bo.size
        go_wp2_with (at_builtin; go_must (first
         | (refine zM rfl _ (.tmp 47) rfl yU (by rfl) (World.ownsRow_nil _ wr.heap.size _ _) (by rfl) AH (xI o) (by omega) (by omega) lR ?_; intro A1 IZ w4 CY Bt IX; simp only [Nat.zero_add, List.nil_append] at CY Bt ⊢; have BC : Hid (zL w4 wr.heap.size A1 o.length IZ o) := CY; have DF : Hid (Below wr.heap.size wr w4) := ⟨Bt.os, Bt.tape, Bt.output, Bt.size, fun i hi => Bt.block i hi (by simp [Value.ownBlock])⟩; clear CY Bt IX)
         | (refine zM rfl (.tmp 48) (.tmp 50) rfl yU (by rfl) (BC.alloc _) (by rfl) (Sl.newest (n := 1) (by simp) (by rfl) (by decide)) (by simp [Value.oneCell']) (by omega) (by omega) (by have := DF.size; simp; omega) ?_; intro A2 Bi w5 Ar Am EJ; have La := iD Ar; have Cf : Hid (Below wr.heap.size wr w5) := (DF.alloc DF.size _).trans ⟨Am.os, Am.tape, Am.output, Am.size, fun t ht => Am.block t (by have := DF.size; simp; omega) (fun e => by have := (BC.lt t e.symm).1; omega)⟩; clear Ar Am EJ)
         | (refine zM rfl (.tmp 43) (.tmp 52) rfl fE (by rfl) ((Me.kept (Cf.alloc Cf.size (.cells #[.slice A2 (o.length + 1) Bi] 22)) lR).1) (by rfl) (Sl.newest (n := 1) (by simp) (by rfl) (by decide)) (by simp [Value.oneCell']) (by omega) (by omega) (by have := Cf.size; simp; omega) ?_; intro A3 AY w6 BV BD Dw; have Di := iD BV; have Dy := iD BD; have AP := iD Dw; clear BV BD Dw)))
        have DZ := iD (Cf.alloc Cf.size (.cells #[.slice A2 (o.length + 1) Bi] 22))
        have Aw : Hid (xj w6 W.heap.size A3 (nx + 1) AY (((wU m i).take k).flatMap (xx m[i]?) ++ uB x' o (p + 1)) (vs ++ [.slice A2 (o.length + 1) Bi])) := by
         unfold Hid;rw [AO.out];refine (Me.kept DZ lR).appL (by simp) Di Dy AP ?_ ?_
         ·have h1 := (Sl.of_own La);have h2 : Sl (w5.alloc (.cells #[.slice A2 (o.length + 1) Bi] 22)) w5.heap.size 1 A2 (o.length + 1) Bi (zE (o ++ [(p : Int)])) := by rw [ze]; exact h1.alloc lR _
          exact h2.more (by simp)
         ·intro b off e;have h1 := La.lt b (by rw [e]; rfl);refine ⟨by simp; omega, fun e2 => ?_⟩;have := (Me.lt b e2.symm).2;omega
        have Df : Hid (Below W.heap.size W w6) := by
         have h1 := Bo.trans (DZ.mono Kq);refine h1.trans ⟨Dy.os, Dy.tape, Dy.output, Dy.size, fun t ht => Dy.block t (by have := h1.size; omega) (fun e => by have := (Me.lt t e.symm).1; omega)⟩
        go_roundg (3 - (p + 1))
        ·exact ⟨p + 1, nx + 1, AY, A3, _, by go_num, rfl, by omega, by omega, rfl, Aw, Df⟩
        omega
       ·have qa : (bits BinOp.and IntKind.i64 x' (p : Int) != 0) = false := by
         have := QW.out;have : (p = 1 ∧ x' = 2) ∨ (p = 2 ∧ x' = 1) := by omega
         rcases this with ⟨rfl, rfl⟩ | ⟨rfl, rfl⟩ <;> rfl
        have AO : Hid (uB x' o (p + 1) = uB x' o p) := by
         have : (p = 1 ∧ x' = 2) ∨ (p = 2 ∧ x' = 1) := by omega
         rcases this with ⟨rfl, rfl⟩ | ⟨rfl, rfl⟩ <;> rfl
        clear OT
        go_wp2_with fail
        go_roundg (3 - (p + 1))
        ·exact ⟨p + 1, nx, cx, Ax, vs, by go_num, rfl, by omega, by omega, rfl, (by unfold Hid; rw [AO.out]; exact Me), Bo⟩
        omega
    ·obtain rfl : k = no := by omega
     have Jo : decide (k < k) = false := by simp
     have AK : Hid (xG wr wr.heap.size Ax nx cx (wU m (i + 1))) := by
      have := Me.read;rw [List.take_of_length_le (by rw [AB.len]; exact Nat.le_refl _)] at this;exact this
     go_wp2_with fail
     go_roundg (m.length - (i + 1))
     ·exact ⟨i + 1, nx, cx, Ax, by go_num, rfl, by omega, rfl, AK, AU.trans (Bo.mono OO)⟩
     omega
  ·obtain rfl : i = m.length := by omega
   have Cw : decide (m.length < m.length) = false := by simp
   go_wp2_with fail
   go_ret2;exact ⟨.inr ⟨HE, Ao, no, co, rfl, AB⟩, AU⟩
end Go.Proofs.YtkkobemhbicjgaaGreatDoor
