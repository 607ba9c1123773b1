import Derived.Test.YtkkobemhbicjgaaGreatDoorB39
set_option maxRecDepth 100000
set_option maxHeartbeats 16000000
namespace Go.Proofs.YtkkobemhbicjgaaGreatDoor
open Go.RowKit Tryz
def mR (C : List Int) (v : Nat) (out : List Int) : Prop := out.length ≤ v ∧ ∀ x : Int, x ∈ out ↔ ∃ k : Nat, k < v ∧ x = k ∧ C.getD k 0 = 3
theorem mR.start (C : List Int) : mR C 0 [] := ⟨Nat.le_refl _, fun x => ⟨(fun h => by cases h), (fun ⟨k, hk, _⟩ => by omega)⟩⟩
theorem mR.pass {C out : List Int} {v : Nat} (h : mR C v out) (hn : C.getD v 0 ≠ 3) : mR C (v + 1) out := by
 refine ⟨by have := h.1; omega, fun x => (h.2 x).trans ⟨?_, ?_⟩⟩
 ·rintro ⟨k, hk, r⟩; exact ⟨k, by omega, r⟩
 ·rintro ⟨k, hk, e, hc⟩;rcases Nat.lt_succ_iff_lt_or_eq.1 hk with hk | rfl
  ·exact ⟨k, hk, e, hc⟩
  ·exact absurd hc hn
theorem mR.put {C out : List Int} {v : Nat} (h : mR C v out) (hc : C.getD v 0 = 3) : mR C (v + 1) (out ++ [(v : Int)]) := by
 refine ⟨by have := h.1; simp; omega, fun x => ?_⟩;rw [List.mem_append, h.2 x, List.mem_singleton]
 constructor
 ·rintro (⟨k, hk, r⟩ | rfl)
  ·exact ⟨k, by omega, r⟩
  ·exact ⟨v, by omega, rfl, hc⟩
 ·rintro ⟨k, hk, e, r⟩;rcases Nat.lt_succ_iff_lt_or_eq.1 hk with hk | rfl
  ·exact .inl ⟨k, hk, e, r⟩
  ·exact .inr e
section
variable {nn : Nat} {ns : List Nd} {ds : List Dv} {s s' m : List Int} {x : Dv} {i : Nat}
theorem dT {v : Int} : tg ds s v = 3 ↔ ud yg ds s v ∧ ud (· = 4) ds s v := by
 unfold tg;rcases yI (ud yg ds s v) 1 with ⟨h, e⟩ | ⟨h, e⟩ <;> rcases yI (ud (· = 4) ds s v) 2 with ⟨h2, e2⟩ | ⟨h2, e2⟩ <;> rw [e, e2] <;> simp [h, h2]
def FB (ds : List Dv) (x : Dv) (i : Nat) (s : List Int) : Prop := tg ds (zX s i 2) x.a = 3 ∨ zV x.kind = true ∧ tg ds (zX s i 2) x.b = 3
theorem lM (he : yf nn ds) (ha : Im nn ds) (hx : x ∈ ds) : yy x.kind x.a x.b (zW nn ds s) = true ↔ tg ds s x.a = 3 ∨ zV x.kind = true ∧ tg ds s x.b = 3 := by
 have hC := lS nn ds s;have h1 := qD hC (ha x hx).1 (ha x hx).2;unfold yy;rw [Bool.or_eq_true, Bool.and_eq_true, beq_iff_eq, beq_iff_eq, h1]
 constructor
 ·rintro (h | ⟨h, h2⟩)
  ·exact .inl h
  ·exact .inr ⟨h, by rw [qD hC (he x hx h).2.1 (he x hx h).2.2] at h2; exact h2⟩
 ·rintro (h | ⟨h, h2⟩)
  ·exact .inl h
  ·exact .inr ⟨h, by rw [qD hC (he x hx h).2.1 (he x hx h).2.2]; exact h2⟩
theorem ei (he : yf nn ds) (ha : Im nn ds) (hx : x ∈ ds) : yz nn ns ds s i x = 4 ↔ FB ds x i s := by
 unfold yz xL FB;rw [← lM he ha hx]
 constructor
 ·intro h;split at h
  ·assumption
  ·split at h
   ·cases h
   ·split at h
    ·cases h
    ·split at h <;> cases h
 ·intro h; rw [if_pos h]
theorem fB (m : List Int) : xe m 2 ∈ yp m := by
 refine (wP m m.length _).2 ⟨wo m 2, fun d hd => ?_⟩;unfold xe;rw [List.getElem?_map, List.getElem?_eq_getElem hd];simp only [Option.map_some]
 constructor
 ·intro h; injection h with h; rw [if_pos h]; exact .inr rfl
 ·intro h;rw [if_neg (fun e => h (by rw [e])), List.getD_eq_getElem?_getD, List.getElem?_eq_getElem hd]; rfl
end
section
variable {ns : List Nd} {ds : List Dv} {m s : List Int} {d p co h : Int} {ls : List Lk} {pr AX : List Int} {x : Dv}
theorem fI : s ∈ yp m ↔ fR m m.length s := wP m m.length s
theorem eF (hs : s ∈ yp m) {i : Nat} (hi : i < m.length) : m[i]? = some 3 ∧ (s[i]? = some 1 ∨ s[i]? = some 2) ∨ m[i]? ≠ some 3 ∧ s[i]? = m[i]? := by
 obtain ⟨h1, h2⟩ := (fI.1 hs).2 i hi;by_cases h3 : m[i]? = some 3
 ·exact .inl ⟨h3, h1 h3⟩
 ·refine .inr ⟨h3, ?_⟩;rw [h2 h3, List.getD_eq_getElem?_getD, List.getElem?_eq_getElem hi]; rfl
end
section
variable {ns : List Nd} {ds : List Dv} {co : Int} {t u : Sm} {x : Sp}
end
section
variable {ns : List Nd} {ds : List Dv} {co : Int} {t t2 u : Sm} {x : Sp} {m s : List Int}
theorem gG (hd : ds.length ≤ 8) (hc : uL ns ds t) : (zn ns ds co t x).e = 0 := by
 unfold zn;split
 ·exact kP hc.s hd
 split
 ·split <;> rfl
 split
 ·split <;> rfl
 split
 ·rfl
 split
 ·rfl
 split <;> rfl
theorem kO (hd : ds.length ≤ 8) : ∀ (xs : List Sp) (i : Nat) (out : List Fn) (t : Sm), uL ns ds t → (∀ x ∈ xs, zc ns.length ds.length x = 0) → (zo ns ds co i out t xs).e = 0
 | [], _, _, _, _, _ => rfl
 | x :: r, i, out, t, hc, hx => by
  rw [zo, if_neg (by simp [gG hd hc])];split
  ·rfl
  ·exact kO hd r _ _ _ (oN hc (hx x (by simp))) fun y hy => hx y (List.mem_cons_of_mem _ hy)
end
section
variable {ns : List Nd} {ds : List Dv} {m s : List Int} {i : Nat} {x : Dv}
end
def MS : List Nd := [⟨⟨#[65]⟩, 0, 0⟩]
def Jp : List Dv := [⟨⟨#[69]⟩, 4, 0, -1, 0⟩]
def UQ : List Sp := [⟨2, 0, 0, 0, 0⟩, ⟨3, 0, 0, 2, 4⟩]
theorem iS : FP MS ∧ (∀ x ∈ Jp, x.name.size ≤ 9223372036854775807) := by
 constructor <;> intro x hx <;> simp [MS, Jp] at hx <;> rcases hx with rfl | rfl <;> decide
theorem chW : yX MS Jp [1] 0 [] [] ⟨#[80]⟩ UQ = 0 := by decide
theorem lq (s : List Int) (v : Int) : ¬ ud yg Jp s v := by
 rintro ⟨k, x, hx, -, hk, -⟩;rcases k with _ | k
 ·simp [Jp] at hx; subst hx; rcases hk with hk | hk <;> cases hk
 ·simp [Jp] at hx
theorem dQ : vk MS Jp [1] 0 2 0 [] [] = [5] := by
 have hx : Jp[(0 : Int).toNat]? = some ⟨⟨#[69]⟩, 4, 0, -1, 0⟩ := rfl;have Uu := xk.of (ns := MS) (ds := Jp) (by decide);refine (oC hx ⟨by decide, by simp, fun h => ?_⟩).symm;rw [List.mem_singleton]
 have h1 : ∀ s ∈ yp ([1] : List Int), s[0]? = some 1 := fun s hs => by
  rcases eF hs (i := 0) (by decide) with ⟨h, -⟩ | ⟨-, h⟩
  ·cases h
  ·exact h
 constructor
 ·rintro rfl;refine ⟨xe [1] 2, fB _, ?_, .inl (by decide)⟩;unfold vU;rw [if_neg (by decide), tc];exact .inr (.inr (.inr (.inr (.inl ⟨rfl, by simp [vV]⟩))))
 ·rintro ⟨s, hs, hz, -⟩;have Bc := h1 s hs;unfold vU at hz;rw [if_neg (by show ¬ s.getD 0 0 = 2; rw [kF Bc]; decide), tc] at hz;rcases hz with ⟨-, hz⟩ | ⟨-, hz⟩ | ⟨-, hz⟩ | ⟨-, hz⟩ | ⟨h, -⟩ | ⟨-, hz⟩ | ⟨-, hz⟩
  ·simp only [Bool.and_eq_true, decide_eq_true_eq] at hz;have := (ei Uu.e Uu.a (by simp [Jp])).1 hz.2;rcases this with h | ⟨h, -⟩
   ·exact absurd (dT.1 h).1 (lq _ _)
   ·cases h
  ·simp [yV] at hz
  ·unfold yR at hz;simp only [decide_eq_true_eq] at hz;obtain ⟨k, y, -, -, h, -⟩ := hz;exact absurd h.1 (lq _ _)
  ·simp [zi] at hz
  ·exact h
  ·simp at hz
  ·cases hz
theorem eW : zo MS Jp 0 0 [] ⟨[1], [], []⟩ UQ = ⟨0, [⟨0, 5⟩], ⟨[2], [⟨0, 2, 4⟩], []⟩⟩ := by
 have e1 : zn MS Jp 0 ⟨[1], [], []⟩ ⟨2, 0, 0, 0, 0⟩ = ⟨0, [5], ⟨[2], [], []⟩, false⟩ := by
  rw [gH (.inr rfl)];dsimp only;rw [dQ]; rfl
 have e2 : zn MS Jp 0 ⟨[2], [], []⟩ ⟨3, 0, 0, 2, 4⟩ = ⟨0, [], ⟨[2], [⟨0, 2, 4⟩], []⟩, false⟩ := by
  rw [qF (.inl rfl)]
  have e3 : yA MS Jp [] ⟨3, 0, 0, 2, 4⟩ = ([⟨0, 2, 4⟩], true) := by
   unfold yA;rw [if_pos rfl, if_neg (by decide)]; rfl
  dsimp only;rw [e3]; rfl
 unfold UQ;rw [zo, e1, if_neg (by decide), if_neg (by decide), zo, e2, if_neg (by decide), if_neg (by decide), zo]; rfl
theorem AJ.sl {w : World} {g n size : Nat} {T : TypeId} {cs : Array Value} {xs : List Value} (h : AJ w g T cs) (hc : cs.toList = xs) (hs : cs.size = n * size) (hn : n ≤ 100) : BI w size (some ⟨g, 0, none⟩) n n xs := by
 subst hc;refine ⟨by simpa using hs, Nat.le_refl _, by omega, (fun e => by cases e), fun _ => ⟨g, 0, rfl, h.lt, fun j u hu => ?_⟩⟩;rw [Nat.zero_add, h.cell]; simpa using hu
def nW : Array Value := #[.string ⟨#[65]⟩, .int .i64 0, .int .i64 0]
def dW : Array Value := #[.string ⟨#[69]⟩, .int .i64 4, .int .i64 0, .int .i64 (-1), .int .i64 0]
def xW : Array Value := #[.int .i64 2, .int .i64 0, .int .i64 0, .int .i64 0, .int .i64 0, .int .i64 3, .int .i64 0, .int .i64 0, .int .i64 2, .int .i64 4]
theorem sS (w : World) (hl : Laid w) : Calls prog 11 #[] w fun e w' => e = .returned (.bool true) ∧ bW w w' := by
 have HB : Hid (Bw w [(85, nW), (57, dW), (30, #[.slice (some ⟨w.heap.size, 0, none⟩) 1 1, .slice (some ⟨w.heap.size + 1, 0, none⟩) 1 1]), (43, xW), (41, #[.string ⟨#[80]⟩, .slice (some ⟨w.heap.size + 1 + 1 + 1, 0, none⟩) 2 2])] _) := (Bw.new4 w (85, nW) (57, dW) (30, #[.slice (some ⟨w.heap.size, 0, none⟩) 1 1, .slice (some ⟨w.heap.size + 1, 0, none⟩) 1 1]) (43, xW)).add (by simp) 41 #[.string ⟨#[80]⟩, .slice (some ⟨w.heap.size + 1 + 1 + 1, 0, none⟩) 2 2];have GV := iD hl;clear hl;dsimp only [nW, dW, xW] at HB
 go_enter func11, ntmps11
 go_upto_region 3 with (fail);generalize World.alloc (World.alloc (World.alloc (World.alloc (World.alloc w _) _) _) _) _ = W at *;rw [show w.heap.size + 1 + 1 = w.heap.size + 2 from rfl, show w.heap.size + 2 + 1 = w.heap.size + 3 from rfl, show w.heap.size + 3 + 1 = w.heap.size + 4 from rfl];obtain ⟨k0, k1⟩ := HB.b2.d2;obtain ⟨p0, p1⟩ := HB.b4.d2;have hlt := HB.b4.lt
 go_wp2_with fail
 clear k0 k1 p0 p1 hlt;have AQ := iD (HB.later ((Below.refl _ W).alloc lR (.cells #[.int .i64 1] 3)));have BO : Hid (Sl (W.alloc (.cells #[.int .i64 1] 3)) (W.alloc (.cells #[.int .i64 1] 3)).heap.size 1 (some ⟨W.heap.size, 0, none⟩) 1 1 (zE [1])) := (Sl.newest (n := 1) (size := 1) rfl rfl (by decide)).more (by simp);clear HB;generalize World.alloc W _ = w1 at *;have Fj : Hid (sr w1 (some ⟨w.heap.size, 0, none⟩) (some ⟨w.heap.size + 1, 0, none⟩) (some ⟨W.heap.size, 0, none⟩) none none (some ⟨w.heap.size + 3, 0, none⟩) 1 1 1 1 1 1 0 0 0 0 2 2 MS Jp [1] [] [] ⟨#[80]⟩ UQ) := ⟨⟨AQ.b0.sl rfl rfl (by decide), AQ.b1.sl rfl rfl (by decide), BO, Sl.nil _ _ _, Sl.nil _ _ _, GV.below AQ.l lR, iS.1, iS.2⟩, AQ.b3.sl rfl rfl (by decide), by decide⟩;refine (pT _ _ _ _ _ _ 1 1 1 1 1 1 0 0 0 0 2 2 MS Jp [1] [] [] 0 ⟨#[80]⟩ UQ w1 Fj).mono ?_
 rintro e w2 ⟨⟨h1, -⟩ | ⟨-, h1, -⟩ | ⟨-, -, A1, A2, A3, A4, n1, c1, n2, c2, n3, c3, n4, c4, rfl, hR⟩, AZ⟩
 ·exact absurd chW h1
 ·rw [eW] at h1; exact absurd rfl h1
 rw [eW] at hR;obtain rfl : 1 = n1 := hR.o.len (f := Fn.cells) (fun _ => rfl) (by decide);obtain rfl : 1 = n3 := hR.l.len (f := Lk.cells) (fun _ => rfl) (by decide);have Ai : Hid (Below w.heap.size w w2) := AQ.l.trans (AZ.mono AQ.l.size);have FJ := iD hR.out;clear hR AZ AQ BO Fj;go_upto_region 4 with (fail);have Jw := iD (AJ.new w2 47 #[.slice A1 1 c1, .slice A2 n2 c2, .int .i64 0, .slice A3 1 c3, .slice A4 n4 c4]);have CO : Hid (Below w2.heap.size w2 (w2.alloc (.cells #[.slice A1 1 c1, .slice A2 n2 c2, .int .i64 0, .slice A3 1 c3, .slice A4 n4 c4] 47))) := (Below.refl _ _).alloc lR _;have UA := iD ((FJ.o.below CO lR).more CO.size);have FK := iD ((FJ.s.below CO lR).more CO.size);replace CO := iD (Ai.trans (CO.mono Ai.size));clear Ai FJ;dsimp only at UA FK;generalize World.alloc w2 _ = w3 at *;obtain ⟨rb, RH⟩ := eX w2.heap.size;rw [← RH] at Jw ⊢;clear RH;have r0 := Jw.c0
 go_wp2_with fail
 clear r0;have Bh : Hid (Below w3.heap.size w3 (w3.alloc (.cells #[.int .i64 0, .int .i64 5] 53))) := (Below.refl _ _).alloc lR _;have HN : Hid (Sl (w3.alloc (.cells #[.int .i64 0, .int .i64 5] 53)) (w3.alloc (.cells #[.int .i64 0, .int .i64 5] 53)).heap.size 2 (some ⟨w3.heap.size, 0, none⟩) 1 1 (([⟨0, 5⟩] : List Fn).flatMap Fn.cells)) := (Sl.newest (n := 1) (size := 2) rfl rfl (by decide)).more (by simp);have AE := iD ((UA.below Bh lR).more Bh.size);have ML := iD ((FK.below Bh lR).more Bh.size);have Fq := iD (Jw.below Bh Jw.lt);have DF := iD (CO.trans (Bh.mono CO.size));clear UA FK Jw CO Bh;generalize World.alloc w3 _ = w4 at *;refine (sD A1 _ 1 c1 1 1 w4.heap.size w4.heap.size _ _ w4 AE HN lR lR).mono ?_;rintro e w5 ⟨rfl, BN⟩;rw [show decide (([⟨0, 5⟩] : List Fn) = [⟨0, 5⟩]) = true from rfl];have Qh := iD ((AE.below BN lR).more BN.size);have JC := iD ((ML.below BN lR).more BN.size)
 have Dy := iD (Fq.below BN Fq.lt);have Cf := iD (DF.trans (BN.mono DF.size));clear BN AE ML Fq DF HN;have r1 := Dy.c1;have r3 := Dy.c3;have hlt := Dy.lt
 go_wp2_with fail
 clear r1 r3 hlt;have Bh : Hid (Below w5.heap.size w5 (w5.alloc (.cells #[.int .i64 2] 3))) := (Below.refl _ _).alloc lR _;have HN : Hid (Sl (w5.alloc (.cells #[.int .i64 2] 3)) (w5.alloc (.cells #[.int .i64 2] 3)).heap.size 1 (some ⟨w5.heap.size, 0, none⟩) 1 1 (zE [2])) := (Sl.newest (n := 1) (size := 1) rfl rfl (by decide)).more (by simp);have AK := iD ((Qh.below Bh lR).more Bh.size);have Gs := iD ((JC.below Bh lR).more Bh.size);have Ca := iD (Dy.below Bh Dy.lt);have DZ := iD (Cf.trans (Bh.mono Cf.size));clear Qh JC Dy Cf Bh;generalize World.alloc w5 _ = w6 at *;refine (xm A2 _ n2 c2 1 1 w6.heap.size w6.heap.size [2] [2] w6 Gs HN lR lR).mono ?_;rintro e w7 ⟨rfl, Cx⟩;rw [show decide (([2] : List Int) = [2]) = true from rfl];have AH := iD ((AK.below Cx lR).more Cx.size);have AB := iD (Ca.below Cx Ca.lt);have Df := iD (DZ.trans (Cx.mono DZ.size));clear Cx AK Gs Ca DZ HN
 obtain ⟨r0, r1, r2, r3, r4⟩ := AB.d5;have hlt := AB.lt
 go_wp2_with fail
 clear r0 r1 r2 r3 r4 hlt;have Bh : Hid (Below w7.heap.size w7 (w7.alloc (.cells #[.int .i64 5] 3))) := (Below.refl _ _).alloc lR _;have HN : Hid (Sl (w7.alloc (.cells #[.int .i64 5] 3)) (w7.alloc (.cells #[.int .i64 5] 3)).heap.size 1 (some ⟨w7.heap.size, 0, none⟩) 1 1 (zE [5])) := (Sl.newest (n := 1) (size := 1) rfl rfl (by decide)).more (by simp);have AW := iD ((AH.below Bh lR).more Bh.size);have AO := iD (Df.trans (Bh.mono Df.size));clear AH AB Df Bh;generalize World.alloc w7 _ = w8 at *;refine (jX A1 A2 A3 A4 _ 1 c1 n2 c2 1 c3 n4 c4 1 1 0 [⟨0, 5⟩] [5] w8 AW HN).mono ?_;rintro e w9 ⟨rfl, Gz⟩;rw [show el [⟨0, 5⟩] [5] = true from by decide]
 go_wp2_with fail
 go_ret;exact ⟨rfl, AO.trans (Gz.mono AO.size)⟩
structure GN (w : World) (g x : Nat) (nt st : Array Value) (wr : World) : Prop where
 b0 : AJ wr w.heap.size 30 nt
 b1 : AJ wr (w.heap.size + 1) 43 #[.int .i64 0, .int .i64 0, .int .i64 0, .int .i64 0, .int .i64 0]
 bx : AJ wr x 43 st
 dk : zN wr g
 gr : w.grownBy wr (some g)
section
variable {w wr wr' : World} {g x : Nat} {nt st : Array Value}
theorem GN.grown (h : GN w g x nt st wr) (hg : wr.grownBy wr' (some g)) (hd : zN wr' g) (h0 : g < w.heap.size) (hx : w.heap.size + 1 < x) : GN w g x nt st wr' :=
 ⟨h.b0.grown hg (fun e => by injection e with e; omega), h.b1.grown hg (fun e => by injection e with e; omega), h.bx.grown hg (fun e => by injection e with e; omega), hd, zG h.gr hg⟩
theorem GN.put (h : GN w g x nt st wr) (h0 : g < w.heap.size) (hx : w.heap.size + 1 < x) (i : Nat) (u : Value) : GN w g x nt (st.setIfInBounds i u) (wr.setCell ⟨x, i, none⟩ u) :=
 ⟨h.b0.far (by show w.heap.size ≠ x; omega) _, h.b1.far (by show w.heap.size + 1 ≠ x; omega) _, h.bx.set i u, h.dk.setCell (by show g < x; omega) _, zj h.gr (by show w.heap.size ≤ x; omega) _⟩
theorem GN.fin {a b c d e : Value} (h : GN w g x nt #[a, b, c, d, e] wr) (h0 : g < w.heap.size) : AJ (tO wr (w.heap.size + 1) a b c d e) (w.heap.size + 1) 43 #[a, b, c, d, e] ∧ zN (tO wr (w.heap.size + 1) a b c d e) g ∧ w.grownBy (tO wr (w.heap.size + 1) a b c d e) (some g) :=
 ⟨h.b1.all5, ((((h.dk.setCell (p := ⟨w.heap.size + 1, 0, none⟩) (by simp; omega) a).setCell (p := ⟨w.heap.size + 1, 1, none⟩) (by simp; omega) b).setCell (p := ⟨w.heap.size + 1, 2, none⟩) (by simp; omega) c).setCell (p := ⟨w.heap.size + 1, 3, none⟩) (by simp; omega) d).setCell (p := ⟨w.heap.size + 1, 4, none⟩) (by simp; omega) e,
  zj (zj (zj (zj (zj h.gr (p := ⟨w.heap.size + 1, 0, none⟩) (by simp) a) (p := ⟨w.heap.size + 1, 1, none⟩) (by simp) b) (p := ⟨w.heap.size + 1, 2, none⟩) (by simp) c) (p := ⟨w.heap.size + 1, 3, none⟩) (by simp) d) (p := ⟨w.heap.size + 1, 4, none⟩) (by simp) e⟩
end
def fM (w : World) (g nn nd : Nat) (e : Ending) (w' : World) : Prop := ∃ (k d no p q : Int), e = .returned (.agg #[.int .i64 k, .int .i64 d, .int .i64 no, .int .i64 p, .int .i64 q]) ∧ Hid (zc nn nd ⟨k, d, no, p, q⟩ = 0) ∧ Hid (zN w' g) ∧ Hid (w.grownBy w' (some g))
theorem lA (g : Nat) (An Ad : Option Addr) (nn cn nd cd : Nat) (w : World) (hd : zN w g) (Bq : 0 < nn) (Us : nn ≤ 1000) (AU : 0 < nd) (Uv : nd ≤ 1000) :
 Calls prog 18 #[.pointer (some ⟨g, 0, none⟩), .agg #[.slice An nn cn, .slice Ad nd cd]] w (fM w g nn nd) := by
 have hlt := hd.lt;have CB := iD ((AJ.new w 30 #[.slice An nn cn, .slice Ad nd cd]).alloc (.cells #[.int .i64 0, .int .i64 0, .int .i64 0, .int .i64 0, .int .i64 0] 43))
 have AQ : Hid (AJ ((w.alloc (.cells #[.slice An nn cn, .slice Ad nd cd] 30)).alloc (.cells #[.int .i64 0, .int .i64 0, .int .i64 0, .int .i64 0, .int .i64 0] 43)) (w.heap.size + 1) 43 #[.int .i64 0, .int .i64 0, .int .i64 0, .int .i64 0, .int .i64 0]) := by
  have := AJ.new (w.alloc (.cells #[.slice An nn cn, .slice Ad nd cd] 30)) 43 #[.int .i64 0, .int .i64 0, .int .i64 0, .int .i64 0, .int .i64 0];unfold Hid; simpa using this
 have Bh : Hid (Below w.heap.size w ((w.alloc (.cells #[.slice An nn cn, .slice Ad nd cd] 30)).alloc (.cells #[.int .i64 0, .int .i64 0, .int .i64 0, .int .i64 0, .int .i64 0] 43))) := ((Below.refl _ _).alloc lR _).alloc (by simp) _;have JG := iD ((hd.alloc (.cells #[.slice An nn cn, .slice Ad nd cd] 30)).alloc (.cells #[.int .i64 0, .int .i64 0, .int .i64 0, .int .i64 0, .int .i64 0] 43));clear hd
 go_enter func18, ntmps18
 go_upto_region 1 with (fail);generalize World.alloc (World.alloc w _) _ = W at *
 go_wp2_with fail
 refine (zT g 6 W JG (by decide)).mono ?_;rintro e w1 ⟨r, rfl, IQ, _, Ci, BB, Av, Bc⟩;have KJ := Ci (by decide);have hx : w.heap.size + 1 < w1.heap.size := by have := AQ.lt; have := Av.size; omega
 have DR := iD (zG (zH Bh (some g)) Av);have KA := iD (CB.grown Av (fun e => by injection e with e; omega));have Fu := iD (AQ.grown Av (fun e => by injection e with e; omega));have Jz := iD BB.out;clear Ci BB Av Bc CB AQ Bh JG;rcases (show r = 0 ∨ r = 1 ∨ r = 2 ∨ r = 3 ∨ r = 4 ∨ r = 5 by omega) with rfl | rfl | rfl | rfl | rfl | rfl
 ·clear IQ KJ;go_upto_region 2 with (fail);have HM : Hid (GN w g w1.heap.size #[.slice An nn cn, .slice Ad nd cd] #[.int .i64 1, .int .i64 0, .int .i64 0, .int .i64 0, .int .i64 0] (w1.alloc (.cells #[.int .i64 1, .int .i64 0, .int .i64 0, .int .i64 0, .int .i64 0] 43))) := ⟨KA.alloc _, Fu.alloc _, AJ.new _ _ _, Jz.alloc _, zG DR (zH ((Below.refl _ _).alloc lR _) _)⟩;clear KA Fu Jz DR;generalize World.alloc w1 _ = V at *;obtain ⟨x, GK⟩ := eX w1.heap.size;rw [← GK] at HM hx ⊢;clear GK;obtain ⟨b0, b1⟩ := HM.b0.d2;have s0 := HM.bx.cell 0
  go_wp2_with fail
  clear b0 b1 s0;refine (zT g (nd : Int) V HM.dk (by omega)).mono ?_;rintro e w2 ⟨v1, rfl, Ve, _, Ci, BB, Av, Bc⟩;have Ri := Ci (by omega);have HM := iD (HM.grown Av BB hlt hx);clear Ci BB Av Bc;have c0 := HM.bx.c1;have f0 := HM.bx.frozen 1;have HM := iD (HM.put hlt hx 1 (.int .i64 v1));go_upto_region 6 with (fail);clear c0 f0;generalize World.setCell w2 _ _ = X1 at *;have HM : Hid (GN w g x #[.slice An nn cn, .slice Ad nd cd] #[.int .i64 1, .int .i64 v1, .int .i64 0, .int .i64 0, .int .i64 0] X1) := HM.out;obtain ⟨s0, s1, s2, s3, s4⟩ := HM.bx.d5;have d0 := HM.b1.cell 0;have UO := HM.b1.frozen 0;have d1 := HM.b1.cell 1;have UN := HM.b1.frozen 1;have d2 := HM.b1.cell 2;have UM := HM.b1.frozen 2;have d3 := HM.b1.cell 3;have UL := HM.b1.frozen 3;have d4 := HM.b1.cell 4;have UK := HM.b1.frozen 4;have HF := iD (HM.fin hlt);unfold tO at HF
  go_wp2_with fail
  generalize World.setCell (World.setCell (World.setCell (World.setCell (World.setCell X1 _ _) _ _) _ _) _ _) _ _ = z at *;obtain ⟨q0, q1, q2, q3, q4⟩ := HF.1.d5;exact bodyPost_ret (v := .agg #[.int .i64 1, .int .i64 v1, .int .i64 0, .int .i64 0, .int .i64 0]) (by simp [results, results18, go_sem, q0, q1, q2, q3, q4]) rfl ⟨_, _, _, _, _, rfl, by unfold Hid; rw [eV, if_neg (by omega), if_neg (by omega)], HF.2.1, HF.2.2⟩
 ·clear IQ KJ;go_upto_region 2 with (fail);have HM : Hid (GN w g w1.heap.size #[.slice An nn cn, .slice Ad nd cd] #[.int .i64 2, .int .i64 0, .int .i64 0, .int .i64 0, .int .i64 0] (w1.alloc (.cells #[.int .i64 2, .int .i64 0, .int .i64 0, .int .i64 0, .int .i64 0] 43))) := ⟨KA.alloc _, Fu.alloc _, AJ.new _ _ _, Jz.alloc _, zG DR (zH ((Below.refl _ _).alloc lR _) _)⟩;clear KA Fu Jz DR;generalize World.alloc w1 _ = V at *;obtain ⟨x, GK⟩ := eX w1.heap.size;rw [← GK] at HM hx ⊢;clear GK;obtain ⟨b0, b1⟩ := HM.b0.d2;have s0 := HM.bx.cell 0
  go_wp2_with fail
  clear b0 b1 s0;refine (zT g (nd : Int) V HM.dk (by omega)).mono ?_;rintro e w2 ⟨v1, rfl, Ve, _, Ci, BB, Av, Bc⟩;have Ri := Ci (by omega);have HM := iD (HM.grown Av BB hlt hx);clear Ci BB Av Bc;have c0 := HM.bx.c1;have f0 := HM.bx.frozen 1;have HM := iD (HM.put hlt hx 1 (.int .i64 v1));go_upto_region 6 with (fail);clear c0 f0;generalize World.setCell w2 _ _ = X1 at *;have HM : Hid (GN w g x #[.slice An nn cn, .slice Ad nd cd] #[.int .i64 2, .int .i64 v1, .int .i64 0, .int .i64 0, .int .i64 0] X1) := HM.out;obtain ⟨s0, s1, s2, s3, s4⟩ := HM.bx.d5;have d0 := HM.b1.cell 0;have UO := HM.b1.frozen 0;have d1 := HM.b1.cell 1;have UN := HM.b1.frozen 1;have d2 := HM.b1.cell 2;have UM := HM.b1.frozen 2;have d3 := HM.b1.cell 3;have UL := HM.b1.frozen 3;have d4 := HM.b1.cell 4;have UK := HM.b1.frozen 4;have HF := iD (HM.fin hlt);unfold tO at HF
  go_wp2_with fail
  generalize World.setCell (World.setCell (World.setCell (World.setCell (World.setCell X1 _ _) _ _) _ _) _ _) _ _ = z at *;obtain ⟨q0, q1, q2, q3, q4⟩ := HF.1.d5;exact bodyPost_ret (v := .agg #[.int .i64 2, .int .i64 v1, .int .i64 0, .int .i64 0, .int .i64 0]) (by simp [results, results18, go_sem, q0, q1, q2, q3, q4]) rfl ⟨_, _, _, _, _, rfl, by unfold Hid; rw [eU, if_neg (by omega), if_neg (by omega)], HF.2.1, HF.2.2⟩
 ·clear IQ KJ;go_upto_region 2 with (fail);have HM : Hid (GN w g w1.heap.size #[.slice An nn cn, .slice Ad nd cd] #[.int .i64 3, .int .i64 0, .int .i64 0, .int .i64 0, .int .i64 0] (w1.alloc (.cells #[.int .i64 3, .int .i64 0, .int .i64 0, .int .i64 0, .int .i64 0] 43))) := ⟨KA.alloc _, Fu.alloc _, AJ.new _ _ _, Jz.alloc _, zG DR (zH ((Below.refl _ _).alloc lR _) _)⟩;clear KA Fu Jz DR;generalize World.alloc w1 _ = V at *;obtain ⟨x, GK⟩ := eX w1.heap.size;rw [← GK] at HM hx ⊢;clear GK;obtain ⟨b0, b1⟩ := HM.b0.d2;have s0 := HM.bx.cell 0
  go_wp2_with fail
  clear b0 b1 s0;refine (zT g (nd : Int) V HM.dk (by omega)).mono ?_;rintro e w2 ⟨v1, rfl, Ve, _, Ci, BB, Av, Bc⟩;have Ri := Ci (by omega);have HM := iD (HM.grown Av BB hlt hx);clear Ci BB Av Bc;have c0 := HM.bx.c1;have f0 := HM.bx.frozen 1;have HM := iD (HM.put hlt hx 1 (.int .i64 v1));go_upto_region 6 with (fail);clear c0 f0;generalize World.setCell w2 _ _ = X1 at *;have HM : Hid (GN w g x #[.slice An nn cn, .slice Ad nd cd] #[.int .i64 3, .int .i64 v1, .int .i64 0, .int .i64 0, .int .i64 0] X1) := HM.out;obtain ⟨b0, b1⟩ := HM.b0.d2;have s0 := HM.bx.cell 0
  go_wp2_with fail
  clear b0 b1 s0;refine (zT g 2 X1 HM.dk (by omega)).mono ?_;rintro e w3 ⟨v2, rfl, Vd, _, Ci, BB, Av, Bc⟩;have Vb := Ci (by omega);have HM := iD (HM.grown Av BB hlt hx);clear Ci BB Av Bc;have c0 := HM.bx.c3;have f0 := HM.bx.frozen 3;have HM := iD (HM.put hlt hx 3 (.int .i64 (1 + v2)));go_upto_region 8 with (fail);clear c0 f0;generalize World.setCell w3 _ _ = X2 at *;have HM : Hid (GN w g x #[.slice An nn cn, .slice Ad nd cd] #[.int .i64 3, .int .i64 v1, .int .i64 0, .int .i64 (1 + v2), .int .i64 0] X2) := HM.out;obtain ⟨b0, b1⟩ := HM.b0.d2;have s0 := HM.bx.cell 0
  go_wp2_with fail
  clear b0 b1 s0;refine (zT g 12 X2 HM.dk (by omega)).mono ?_;rintro e w4 ⟨v3, rfl, Ab, _, Ci, BB, Av, Bc⟩;have Aa := Ci (by omega);have HM := iD (HM.grown Av BB hlt hx);clear Ci BB Av Bc;have c0 := HM.bx.c4;have f0 := HM.bx.frozen 4;have HM := iD (HM.put hlt hx 4 (.int .i64 (10 + v3)));go_upto_region 10 with (fail);clear c0 f0;generalize World.setCell w4 _ _ = X3 at *;have HM : Hid (GN w g x #[.slice An nn cn, .slice Ad nd cd] #[.int .i64 3, .int .i64 v1, .int .i64 0, .int .i64 (1 + v2), .int .i64 (10 + v3)] X3) := HM.out;obtain ⟨s0, s1, s2, s3, s4⟩ := HM.bx.d5;have d0 := HM.b1.cell 0;have UO := HM.b1.frozen 0;have d1 := HM.b1.cell 1;have UN := HM.b1.frozen 1;have d2 := HM.b1.cell 2;have UM := HM.b1.frozen 2;have d3 := HM.b1.cell 3;have UL := HM.b1.frozen 3;have d4 := HM.b1.cell 4;have UK := HM.b1.frozen 4;have HF := iD (HM.fin hlt);unfold tO at HF
  go_wp2_with fail
  generalize World.setCell (World.setCell (World.setCell (World.setCell (World.setCell X3 _ _) _ _) _ _) _ _) _ _ = z at *;obtain ⟨q0, q1, q2, q3, q4⟩ := HF.1.d5;exact bodyPost_ret (v := .agg #[.int .i64 3, .int .i64 v1, .int .i64 0, .int .i64 (1 + v2), .int .i64 (10 + v3)]) (by simp [results, results18, go_sem, q0, q1, q2, q3, q4]) rfl ⟨_, _, _, _, _, rfl, by unfold Hid; rw [eT, if_neg (by omega), if_neg (by omega), if_neg (by omega), if_neg (by omega)], HF.2.1, HF.2.2⟩
 ·clear IQ KJ;go_upto_region 2 with (fail);have HM : Hid (GN w g w1.heap.size #[.slice An nn cn, .slice Ad nd cd] #[.int .i64 4, .int .i64 0, .int .i64 0, .int .i64 0, .int .i64 0] (w1.alloc (.cells #[.int .i64 4, .int .i64 0, .int .i64 0, .int .i64 0, .int .i64 0] 43))) := ⟨KA.alloc _, Fu.alloc _, AJ.new _ _ _, Jz.alloc _, zG DR (zH ((Below.refl _ _).alloc lR _) _)⟩;clear KA Fu Jz DR;generalize World.alloc w1 _ = V at *;obtain ⟨x, GK⟩ := eX w1.heap.size;rw [← GK] at HM hx ⊢;clear GK;obtain ⟨b0, b1⟩ := HM.b0.d2;have s0 := HM.bx.cell 0
  go_wp2_with fail
  clear b0 b1 s0;refine (zT g (nd : Int) V HM.dk (by omega)).mono ?_;rintro e w2 ⟨v1, rfl, Ve, _, Ci, BB, Av, Bc⟩;have Ri := Ci (by omega);have HM := iD (HM.grown Av BB hlt hx);clear Ci BB Av Bc;have c0 := HM.bx.c1;have f0 := HM.bx.frozen 1;have HM := iD (HM.put hlt hx 1 (.int .i64 v1));go_upto_region 6 with (fail);clear c0 f0;generalize World.setCell w2 _ _ = X1 at *;have HM : Hid (GN w g x #[.slice An nn cn, .slice Ad nd cd] #[.int .i64 4, .int .i64 v1, .int .i64 0, .int .i64 0, .int .i64 0] X1) := HM.out;obtain ⟨b0, b1⟩ := HM.b0.d2;have s0 := HM.bx.cell 0
  go_wp2_with fail
  clear b0 b1 s0;refine (zT g 12 X1 HM.dk (by omega)).mono ?_;rintro e w3 ⟨v2, rfl, Vd, _, Ci, BB, Av, Bc⟩;have Vb := Ci (by omega);have HM := iD (HM.grown Av BB hlt hx);clear Ci BB Av Bc;have c0 := HM.bx.c4;have f0 := HM.bx.frozen 4;have HM := iD (HM.put hlt hx 4 (.int .i64 (10 + v2)));go_upto_region 10 with (fail);clear c0 f0;generalize World.setCell w3 _ _ = X2 at *;have HM : Hid (GN w g x #[.slice An nn cn, .slice Ad nd cd] #[.int .i64 4, .int .i64 v1, .int .i64 0, .int .i64 0, .int .i64 (10 + v2)] X2) := HM.out;obtain ⟨s0, s1, s2, s3, s4⟩ := HM.bx.d5;have d0 := HM.b1.cell 0;have UO := HM.b1.frozen 0;have d1 := HM.b1.cell 1;have UN := HM.b1.frozen 1;have d2 := HM.b1.cell 2;have UM := HM.b1.frozen 2;have d3 := HM.b1.cell 3;have UL := HM.b1.frozen 3;have d4 := HM.b1.cell 4;have UK := HM.b1.frozen 4;have HF := iD (HM.fin hlt);unfold tO at HF
  go_wp2_with fail
  generalize World.setCell (World.setCell (World.setCell (World.setCell (World.setCell X2 _ _) _ _) _ _) _ _) _ _ = z at *;obtain ⟨q0, q1, q2, q3, q4⟩ := HF.1.d5;exact bodyPost_ret (v := .agg #[.int .i64 4, .int .i64 v1, .int .i64 0, .int .i64 0, .int .i64 (10 + v2)]) (by simp [results, results18, go_sem, q0, q1, q2, q3, q4]) rfl ⟨_, _, _, _, _, rfl, by unfold Hid; rw [eS, if_neg (by omega), if_neg (by omega), if_neg (by omega)], HF.2.1, HF.2.2⟩
 ·clear IQ KJ;go_upto_region 2 with (fail);have HM : Hid (GN w g w1.heap.size #[.slice An nn cn, .slice Ad nd cd] #[.int .i64 5, .int .i64 0, .int .i64 0, .int .i64 0, .int .i64 0] (w1.alloc (.cells #[.int .i64 5, .int .i64 0, .int .i64 0, .int .i64 0, .int .i64 0] 43))) := ⟨KA.alloc _, Fu.alloc _, AJ.new _ _ _, Jz.alloc _, zG DR (zH ((Below.refl _ _).alloc lR _) _)⟩;clear KA Fu Jz DR;generalize World.alloc w1 _ = V at *;obtain ⟨x, GK⟩ := eX w1.heap.size;rw [← GK] at HM hx ⊢;clear GK;obtain ⟨b0, b1⟩ := HM.b0.d2;have s0 := HM.bx.cell 0
  go_wp2_with fail
  clear b0 b1 s0;refine (zT g (nn : Int) V HM.dk (by omega)).mono ?_;rintro e w2 ⟨v1, rfl, Ve, _, Ci, BB, Av, Bc⟩;have Ri := Ci (by omega);have HM := iD (HM.grown Av BB hlt hx);clear Ci BB Av Bc;have c0 := HM.bx.c2;have f0 := HM.bx.frozen 2;have HM := iD (HM.put hlt hx 2 (.int .i64 v1));go_upto_region 4 with (fail);clear c0 f0;generalize World.setCell w2 _ _ = X1 at *;have HM : Hid (GN w g x #[.slice An nn cn, .slice Ad nd cd] #[.int .i64 5, .int .i64 0, .int .i64 v1, .int .i64 0, .int .i64 0] X1) := HM.out;obtain ⟨s0, s1, s2, s3, s4⟩ := HM.bx.d5;have d0 := HM.b1.cell 0;have UO := HM.b1.frozen 0;have d1 := HM.b1.cell 1;have UN := HM.b1.frozen 1;have d2 := HM.b1.cell 2;have UM := HM.b1.frozen 2;have d3 := HM.b1.cell 3;have UL := HM.b1.frozen 3;have d4 := HM.b1.cell 4;have UK := HM.b1.frozen 4;have HF := iD (HM.fin hlt);unfold tO at HF
  go_wp2_with fail
  generalize World.setCell (World.setCell (World.setCell (World.setCell (World.setCell X1 _ _) _ _) _ _) _ _) _ _ = z at *;obtain ⟨q0, q1, q2, q3, q4⟩ := HF.1.d5;exact bodyPost_ret (v := .agg #[.int .i64 5, .int .i64 0, .int .i64 v1, .int .i64 0, .int .i64 0]) (by simp [results, results18, go_sem, q0, q1, q2, q3, q4]) rfl ⟨_, _, _, _, _, rfl, by unfold Hid; rw [eR, if_neg (by omega), if_neg (by omega)], HF.2.1, HF.2.2⟩
 ·clear IQ KJ;go_upto_region 2 with (fail);have HM : Hid (GN w g w1.heap.size #[.slice An nn cn, .slice Ad nd cd] #[.int .i64 6, .int .i64 0, .int .i64 0, .int .i64 0, .int .i64 0] (w1.alloc (.cells #[.int .i64 6, .int .i64 0, .int .i64 0, .int .i64 0, .int .i64 0] 43))) := ⟨KA.alloc _, Fu.alloc _, AJ.new _ _ _, Jz.alloc _, zG DR (zH ((Below.refl _ _).alloc lR _) _)⟩;clear KA Fu Jz DR;generalize World.alloc w1 _ = V at *;obtain ⟨x, GK⟩ := eX w1.heap.size;rw [← GK] at HM hx ⊢;clear GK;obtain ⟨b0, b1⟩ := HM.b0.d2;have s0 := HM.bx.cell 0
  go_wp2_with fail
  clear b0 b1 s0;refine (zT g (nd : Int) V HM.dk (by omega)).mono ?_;rintro e w2 ⟨v1, rfl, Ve, _, Ci, BB, Av, Bc⟩;have Ri := Ci (by omega);have HM := iD (HM.grown Av BB hlt hx);clear Ci BB Av Bc;have c0 := HM.bx.c1;have f0 := HM.bx.frozen 1;have HM := iD (HM.put hlt hx 1 (.int .i64 v1));go_upto_region 6 with (fail);clear c0 f0;generalize World.setCell w2 _ _ = X1 at *;have HM : Hid (GN w g x #[.slice An nn cn, .slice Ad nd cd] #[.int .i64 6, .int .i64 v1, .int .i64 0, .int .i64 0, .int .i64 0] X1) := HM.out;obtain ⟨b0, b1⟩ := HM.b0.d2;have s0 := HM.bx.cell 0
  go_wp2_with fail
  clear b0 b1 s0;refine (zT g 2 X1 HM.dk (by omega)).mono ?_;rintro e w3 ⟨v2, rfl, Vd, _, Ci, BB, Av, Bc⟩;have Vb := Ci (by omega);have HM := iD (HM.grown Av BB hlt hx);clear Ci BB Av Bc;have c0 := HM.bx.c3;have f0 := HM.bx.frozen 3;have HM := iD (HM.put hlt hx 3 (.int .i64 (1 + v2)));go_upto_region 8 with (fail);clear c0 f0;generalize World.setCell w3 _ _ = X2 at *;have HM : Hid (GN w g x #[.slice An nn cn, .slice Ad nd cd] #[.int .i64 6, .int .i64 v1, .int .i64 0, .int .i64 (1 + v2), .int .i64 0] X2) := HM.out;obtain ⟨s0, s1, s2, s3, s4⟩ := HM.bx.d5;have d0 := HM.b1.cell 0;have UO := HM.b1.frozen 0;have d1 := HM.b1.cell 1;have UN := HM.b1.frozen 1;have d2 := HM.b1.cell 2;have UM := HM.b1.frozen 2;have d3 := HM.b1.cell 3;have UL := HM.b1.frozen 3;have d4 := HM.b1.cell 4;have UK := HM.b1.frozen 4;have HF := iD (HM.fin hlt);unfold tO at HF
  go_wp2_with fail
  generalize World.setCell (World.setCell (World.setCell (World.setCell (World.setCell X2 _ _) _ _) _ _) _ _) _ _ = z at *;obtain ⟨q0, q1, q2, q3, q4⟩ := HF.1.d5;exact bodyPost_ret (v := .agg #[.int .i64 6, .int .i64 v1, .int .i64 0, .int .i64 (1 + v2), .int .i64 0]) (by simp [results, results18, go_sem, q0, q1, q2, q3, q4]) rfl ⟨_, _, _, _, _, rfl, by unfold Hid; rw [eQ, if_neg (by omega), if_neg (by omega), if_neg (by omega)], HF.2.1, HF.2.2⟩
theorem fD : xC prog 39 43 5 40 := xC.mk' (z := .agg #[.int .i64 0, .int .i64 0, .int .i64 0, .int .i64 0, .int .i64 0]) underlying39 (by kernel_rfl) rfl (by decide)
def sT (w : World) (base : Nat) (A : Option Addr) (n c : Nat) (xs : List Sp) : Prop := w.ownsRow base 43 5 (.slice A n c) n (xs.flatMap Sp.cells)
theorem sT.len {w : World} {base : Nat} {A : Option Addr} {n c : Nat} {xs : List Sp} (h : sT w base A n c xs) : xs.length = n := (Sl.of_own h).len (fun _ => rfl) (by decide)
structure JY (w : World) (g x : Nat) (nt : Array Value) (nm : ByteArray) (A : Option Addr) (n c : Nat) (xs : List Sp) (wr : World) : Prop where
 b0 : AJ wr w.heap.size 30 nt
 b1 : AJ wr (w.heap.size + 1) 41 #[.string ⟨#[]⟩, .slice none 0 0]
 bx : AJ wr x 41 #[.string nm, .slice A n c]
 dk : zN wr g
 gr : w.grownBy wr (some g)
 o : wr.ownsRow (x + 1) 43 5 (.slice A n c) n (xs.flatMap Sp.cells)
 hx : w.heap.size + 1 < x
section
variable {w wr wr' : World} {g x : Nat} {nt : Array Value} {nm : ByteArray} {A A' : Option Addr} {n c c' : Nat} {xs : List Sp} {f : Sp}
theorem JY.grown (h : JY w g x nt nm A n c xs wr) (hg : wr.grownBy wr' (some g)) (hd : zN wr' g) (h0 : g < w.heap.size) : JY w g x nt nm A n c xs wr' :=
 have := h.hx
 ⟨h.b0.grown hg (fun e => by injection e with e; omega), h.b1.grown hg (fun e => by injection e with e; omega), h.bx.grown hg (fun e => by injection e with e; omega), hd, zG h.gr hg, h.o.kept hg (zb fun b e => by have := (h.o.lt b e).1; omega), h.hx⟩
theorem JY.later (h : JY w g x nt nm A n c xs wr) (hb : bW wr wr') : JY w g x nt nm A n c xs wr' :=
 ⟨h.b0.below hb h.b0.lt, h.b1.below hb h.b1.lt, h.bx.below hb h.bx.lt, h.dk.below hb h.dk.lt, vl h.gr (hb.mono h.gr.size), zI h.o hb, h.hx⟩
theorem JY.drw (h : JY w g x nt nm A n c xs wr) : JY w g x nt nm A n c xs wr.drew := h.later (Below.refl _ wr).drew
theorem JY.app (h : JY w g x nt nm A n c xs wr) (hg : wr.grownBy wr' (Value.slice A n c).ownBlock) (hr : wr'.ownsRow (x + 1) 43 5 (.slice A' (n + 1) c') (n + 1) (xs.flatMap Sp.cells ++ f.cells)) (h0 : g < w.heap.size) :
 AJ wr' x 41 #[.string nm, .slice A n c] ∧ AJ wr' w.heap.size 30 nt ∧ JY w g x nt nm A' (n + 1) c' (xs ++ [f]) (wr'.setCell ⟨x, 1, none⟩ (.slice A' (n + 1) c')) := by
 have hx := h.hx;have nb : ∀ {b : Nat}, b ≤ x → some b ≠ (Value.slice A n c).ownBlock := fun {b} hb e => by have := (h.o.lt b e.symm).1; omega
 have hB : Below w.heap.size w w := Below.refl _ _;refine ⟨h.bx.grown hg (nb lR), h.b0.grown hg (nb (by omega)), (h.b0.grown hg (nb (by omega))).far (by show w.heap.size ≠ x; omega) _, (h.b1.grown hg (nb (by omega))).far (by show w.heap.size + 1 ≠ x; omega) _, (h.bx.grown hg (nb lR)).set 1 _, ?_, ?_, ?_, hx⟩
 ·exact (h.dk.grown hg (fun k e => by have := (h.o.lt k e).1; omega)).setCell (p := ⟨x, 1, none⟩) (by show g < x; omega) _
 ·have hb : Below w.heap.size wr wr' := ⟨hg.os, hg.tape, hg.output, hg.size, fun i hi => hg.block i (Nat.lt_of_lt_of_le hi h.gr.size) (nb (by omega))⟩;exact vl h.gr (hb.setCell (by show w.heap.size ≤ x; omega) _)
 ·rw [List.flatMap_append, List.flatMap_cons, List.flatMap_nil, List.append_nil];exact hr.kept (zg _ _ _) (zb fun b e => by have := (hr.lt b e).1; simp; omega)
theorem JY.fin (h : JY w g x nt nm A n c xs wr) (h0 : g < w.heap.size) : sT ((wr.setCell ⟨w.heap.size + 1, 0, none⟩ (.string nm)).setCell ⟨w.heap.size + 1, 1, none⟩ (.slice A n c)) w.heap.size A n c xs ∧ zN ((wr.setCell ⟨w.heap.size + 1, 0, none⟩ (.string nm)).setCell ⟨w.heap.size + 1, 1, none⟩ (.slice A n c)) g ∧ w.grownBy ((wr.setCell ⟨w.heap.size + 1, 0, none⟩ (.string nm)).setCell ⟨w.heap.size + 1, 1, none⟩ (.slice A n c)) (some g) := by
 have hx := h.hx;exact ⟨(vh (vh h.o (by omega)) (by omega)).mono (by omega), (h.dk.setCell (p := ⟨w.heap.size + 1, 0, none⟩) (by simp; omega) _).setCell (p := ⟨w.heap.size + 1, 1, none⟩) (by simp; omega) _, zj (zj h.gr (p := ⟨w.heap.size + 1, 0, none⟩) (by simp) _) (p := ⟨w.heap.size + 1, 1, none⟩) (by simp) _⟩
end
def fK (w : World) (g nn nd most : Nat) (e : Ending) (w' : World) : Prop := ∃ (nm : ByteArray) (A : Option Addr) (n c : Nat) (xs : List Sp), e = .returned (.agg #[.string nm, .slice A n c]) ∧ Hid (yO (BA nm) = true) ∧ Hid (zz nn nd xs = 0 ∧ xs.length = n ∧ n ≤ most) ∧ Hid (sT w' w.heap.size A n c xs) ∧ Hid (zN w' g) ∧ Hid (w.grownBy w' (some g))
theorem oc {nn nd : Nat} {f : Sp} : ∀ {xs : List Sp}, zz nn nd xs = 0 → zc nn nd f = 0 → zz nn nd (xs ++ [f]) = 0
 | [], _, h => by rw [List.nil_append, zz, if_neg (by omega)]; rfl
 | x :: xs, h, hf => by
  rw [zz] at h;split at h
  ·next h1 => exact absurd h h1
  ·next h1 => rw [List.cons_append, zz, if_neg h1]; exact oc h hf
def MpR (w : World) (g x : Nat) (An Ad : Option Addr) (nn cn nd cd most : Nat) (nm : ByteArray) (gk : Nat) (kv : Value) (wr : World) : Prop :=
 ∃ (k n c : Nat) (A : Option Addr) (xs : List Sp), kv = .int .i64 (k : Int) ∧ gk = k ∧ n + k ≤ most ∧ Hid (JY w g x #[.slice An nn cn, .slice Ad nd cd] nm A n c xs wr) ∧ Hid (zz nn nd xs = 0)
theorem lC (g : Nat) (An Ad : Option Addr) (nn cn nd cd most : Nat) (w : World) (hd : zN w g) (Bq : 0 < nn) (Us : nn ≤ 1000) (AU : 0 < nd) (Uv : nd ≤ 1000) (QD : most ≤ 1000) :
 Calls prog 28 #[.pointer (some ⟨g, 0, none⟩), .agg #[.slice An nn cn, .slice Ad nd cd], .int .i64 (most : Int)] w (fK w g nn nd most) := by
 have hlt := hd.lt;have CB := iD ((AJ.new w 30 #[.slice An nn cn, .slice Ad nd cd]).alloc (.cells #[.string ⟨#[]⟩, .slice none 0 0] 41))
 have AQ : Hid (AJ ((w.alloc (.cells #[.slice An nn cn, .slice Ad nd cd] 30)).alloc (.cells #[.string ⟨#[]⟩, .slice none 0 0] 41)) (w.heap.size + 1) 41 #[.string ⟨#[]⟩, .slice none 0 0]) := by
  have := AJ.new (w.alloc (.cells #[.slice An nn cn, .slice Ad nd cd] 30)) 41 #[.string ⟨#[]⟩, .slice none 0 0];unfold Hid; simpa using this
 have Bh : Hid (Below w.heap.size w ((w.alloc (.cells #[.slice An nn cn, .slice Ad nd cd] 30)).alloc (.cells #[.string ⟨#[]⟩, .slice none 0 0] 41))) := ((Below.refl _ _).alloc lR _).alloc (by simp) _;have JG := iD ((hd.alloc (.cells #[.slice An nn cn, .slice Ad nd cd] 30)).alloc (.cells #[.string ⟨#[]⟩, .slice none 0 0] 41));clear hd
 go_enter func28, ntmps28
 go_upto_region 1 with (fail);generalize World.alloc (World.alloc w _) _ = W at *
 go_wp2_with fail
 refine (zT g 50 W JG (by decide)).mono ?_;rintro e w1 ⟨r, rfl, IQ, _, Ci, BB, Av, Bc⟩;have KJ := Ci (by decide);obtain ⟨r, rfl⟩ := Int.eq_ofNat_of_zero_le IQ;have DR := iD (zG (zH Bh (some g)) Av);have KA := iD (CB.grown Av (fun e => by injection e with e; omega));have Fu := iD (AQ.grown Av (fun e => by injection e with e; omega));have Jz := iD BB.out;clear Ci BB Av Bc CB AQ Bh JG
 go_wp2_with fail
 refine (wu ⟨#[80]⟩ r w1 (by decide) (by omega)).mono ?_;rintro e w2 ⟨rfl, AZ⟩;obtain ⟨nm, EH⟩ := eX (Ea (Dm (BA ⟨#[80]⟩) r));rw [← EH];have Fw : Hid (yO (BA nm) = true) := by unfold Hid; rw [EH, vZ]; exact re 80 r (by decide) (by omega)
 have HX : Hid (w.heap.size + 1 < w2.heap.size) := by have := Fu.lt; have := AZ.size; unfold Hid; omega
 have HM : Hid (JY w g w2.heap.size #[.slice An nn cn, .slice Ad nd cd] nm none 0 0 [] (w2.alloc (.cells #[.string nm, .slice none 0 0] 41))) :=
  ⟨(KA.below AZ KA.lt).alloc _, (Fu.below AZ Fu.lt).alloc _, AJ.new _ _ _, (Jz.below AZ Jz.lt).alloc _, vl DR ((AZ.mono DR.size).alloc (Nat.le_trans DR.size AZ.size) _), World.ownsRow_nil _ _ _ _, HX⟩
 clear EH AZ KA Fu Jz DR;go_upto_region 2 with (fail);generalize World.alloc w2 _ = V at *;obtain ⟨x, GK⟩ := eX w2.heap.size;rw [← GK] at HM HX ⊢;clear GK HX;have AP : IntKind.i64.wrap ((most : Int) + 1) = (most : Int) + 1 := IntWalk.i64_in _ (by omega)
 go_wp2_with fail
 refine (zT g ((most : Int) + 1) V HM.dk (by omega)).mono ?_;rintro e w3 ⟨k, rfl, TU, _, AG, Hm, EI, Ls⟩;have Gx := AG (by omega);obtain ⟨k, rfl⟩ := Int.eq_ofNat_of_zero_le TU;have OG := iD (HM.grown EI Hm hlt);clear AG Hm EI Ls AP HM V;go_upto_region 3 with (fail);refine xY [(7, 0), (0, 2), (7, 0), (11, 1), (0, 0)] 8 (k) (MpR w g x An Ad nn cn nd cd most nm) (by (try dsimp only [gt]); exact ⟨k, 0, 0, none, [], rfl, rfl, by omega, OG, rfl⟩) (by kernel_rfl) ?_;intro u1 p8 gk wr a hrel ha J1 K1 EB ME;dsimp only [za, Go.Proofs.YtkkobemhbicjgaaGreatDoor.v1, Nat.reduceAdd] at ha;subst ha;clear OG Gx TU;obtain ⟨k', n, c, A, xs, rfl, rfl, hk, HM, CX⟩ := hrel;by_cases FZ : 0 < gk; rotate_left
 ·obtain rfl : gk = 0 := by omega
  go_upto_region 6 with (fail);obtain ⟨c0, c1⟩ := HM.bx.d2;obtain ⟨d0, d1⟩ := HM.b1.d2;obtain ⟨y0, y1⟩ := HM.b1.e2;have HF : Hid (AJ ((wr.setCell ⟨w.heap.size + 1, 0, none⟩ (.string nm)).setCell ⟨w.heap.size + 1, 1, none⟩ (.slice A n c)) (w.heap.size + 1) 41 #[.string nm, .slice A n c]) := (HM.b1.set 0 _).set 1 _;have HE : Hid (sT ((wr.setCell ⟨w.heap.size + 1, 0, none⟩ (.string nm)).setCell ⟨w.heap.size + 1, 1, none⟩ (.slice A n c)) w.heap.size A n c xs ∧ zN ((wr.setCell ⟨w.heap.size + 1, 0, none⟩ (.string nm)).setCell ⟨w.heap.size + 1, 1, none⟩ (.slice A n c)) g ∧ w.grownBy ((wr.setCell ⟨w.heap.size + 1, 0, none⟩ (.string nm)).setCell ⟨w.heap.size + 1, 1, none⟩ (.slice A n c)) (some g)) := HM.fin hlt
  go_wp2_with fail
  clear c0 c1 d0 d1 y0 y1;generalize World.setCell (World.setCell wr _ _) _ _ = z at *;obtain ⟨q0, q1⟩ := HF.d2;exact bodyPost_ret (v := .agg #[.string nm, .slice A n c]) (by simp [results, results28, go_sem, q0, q1]) rfl ⟨nm, A, n, c, xs, rfl, Fw, ⟨CX, sT.len HE.1, by omega⟩, HE.1, HE.2.1, HE.2.2⟩
 have q1 : decide ((gk : Int) > 0) = true := by simpa using FZ
 have q2 : decide (0 < (gk : Int)) = true := by simpa using FZ
 go_upto_region 5 with (fail);clear q1 q2;have AY := HM.bx.frozen 1;refine fv (fun W' => W'.cell? ⟨x, 1, none⟩ = some (.slice A n c) ∧ W'.cell? ⟨w.heap.size, 0, none⟩ = some (.slice An nn cn) ∧ W'.cell? ⟨w.heap.size, 1, none⟩ = some (.slice Ad nd cd)) [8] ?_ fun AA => ?_
 ·exact ⟨HM.bx.cell 1, HM.b0.cell 0, HM.b0.cell 1⟩
 try dsimp only at AA
 refine tk 0 21 (mf 9 1) AA ?_;refine tk 2 23 (ma 9 5) AA ?_;refine ty 1 22 (mf 9 3) AA (y := by intro w AL; have u0 := AL.1; go_simp; try with_reducible rfl) (h := ?_);refine ty 3 24 (mf 9 4) AA (y := by intro w AL; have u0 := AL.2.1; have u1 := AL.2.2; go_simp; try with_reducible rfl) (h := ?_);refine tb 4 (mf 9 5) fun K hK => ?_
 (go_simp; refine (lA g An Ad nn cn nd cd wr.drew HM.drw.dk (by omega) (by omega) (by omega) (by omega)).mono ?_; rintro e w3 ⟨k, d, no, p, q, rfl, hsp, Hm, EI⟩; have FK := iD (HM.drw.grown EI Hm hlt); have Gp := iD hsp.out; clear Hm EI hsp; go_simp)
 refine hK _ _ (fun _ => ⟨FK.bx.cell 1, FK.b0.cell 0, FK.b0.cell 1⟩) fun p => (fun AA => ?_) (p rfl)
 clear p hK K;(try dsimp only at AA);refine tb 5 (mf 9 6) fun K hK => ?_
 (go_simp)
 refine hK _ _ (fun _ => ⟨(FK.later ((Below.refl _ w3).alloc lR (.cells #[.int .i64 k, .int .i64 d, .int .i64 no, .int .i64 p, .int .i64 q] 43))).bx.cell 1, (FK.later ((Below.refl _ w3).alloc lR (.cells #[.int .i64 k, .int .i64 d, .int .i64 no, .int .i64 p, .int .i64 q] 43))).b0.cell 0, (FK.later ((Below.refl _ w3).alloc lR (.cells #[.int .i64 k, .int .i64 d, .int .i64 no, .int .i64 p, .int .i64 q] 43))).b0.cell 1⟩) fun p => (fun AA => ?_) (p rfl)
 clear p hK K;(try dsimp only at AA);refine tb 6 (mf 9 7) fun K hK => ?_
 (refine zt (d := some 27) (by rfl) (by rfl) (.tmp 22) (.tmp 26) (by rfl) fD (by rfl) (FK.later ((Below.refl _ w3).alloc lR (.cells #[.int .i64 k, .int .i64 d, .int .i64 no, .int .i64 p, .int .i64 q] 43))).o (by rfl) (Sl.newest (n := 1) rfl rfl (by decide)) (by simp [Value.oneCell']) (by omega) (by omega) (by have := (FK.bx).lt; simp; omega) ?_; intro A' c' w7 BQ CQ Cy; have JB := iD (JY.app (f := ⟨k, d, no, p, q⟩) (FK.later ((Below.refl _ w3).alloc lR (.cells #[.int .i64 k, .int .i64 d, .int .i64 no, .int .i64 p, .int .i64 q] 43))) CQ BQ hlt); have q0 := JB.1.cell 1; have q1 := JB.1.frozen 1; clear BQ CQ Cy)
 refine hK _ _ (fun _ => ⟨JB.1.cell 1, JB.2.1.cell 0, JB.2.1.cell 1⟩) fun p => (fun AA => ?_) (p rfl)
 clear p hK K;(try dsimp only at AA);refine tk 7 28 (mf 9 8) AA ?_;refine tb 8 (mf 9 9) fun K hK => ?_
 go_simp
 refine hK _ _ (fun h => by cases h) (fun _ => ?_)
 try clear AA
 clear hK K;refine tK ?_;have MK := iD JB.2.2;have AV := iD (oc CX Gp);clear JB q0 q1 FK HM CX Gp;generalize World.setCell w7 _ _ = w8 at *
 go_wp2_with fail
 refine Handed.intro (gk - 1) (by omega) (EB _ _ _ (wW.back 8 ?_ (by kernel_rfl)));dsimp only [gt];exact ⟨gk - 1, n + 1, c', A', xs ++ [⟨k, d, no, p, q⟩], by go_num, rfl, by omega, MK, AV⟩
structure Rt (w : World) (nb gb pb : Nat) (An Ad As Al Ap Ax : Option Addr) (nn cn nd cd cs nl cl np cp nx cx : Nat) (ns : List Nd) (ds : List Dv) (m : List Int) (ls : List Lk) (pr : List Int) (co : Int) (nm : ByteArray) (xs : List Sp) (wr : World) : Prop where
 n : Jr w nb An nn cn ns Ad nd cd ds wr
 s : BI wr 1 As nd cs (zE m)
 g : AJ wr gb 37 #[.int .i64 co, .slice Al nl cl, .slice Ap np cp]
 l : BI wr 3 Al nl cl (ls.flatMap Lk.cells)
 r : BI wr 1 Ap np cp (zE pr)
 p : AJ wr pb 41 #[.string nm, .slice Ax nx cx]
 x : BI wr 5 Ax nx cx (xs.flatMap Sp.cells)
section
variable {w wr wr' : World} {nb gb pb rb : Nat} {An Ad As Al Ap Ax : Option Addr} {nn cn nd cd cs nl cl np cp nx cx : Nat} {ns : List Nd} {ds : List Dv} {m : List Int} {ls : List Lk} {pr : List Int} {co : Int} {nm : ByteArray} {xs : List Sp}
theorem Rt.later (h : Rt w nb gb pb An Ad As Al Ap Ax nn cn nd cd cs nl cl np cp nx cx ns ds m ls pr co nm xs wr) (hb : bW wr wr') : Rt w nb gb pb An Ad As Al Ap Ax nn cn nd cd cs nl cl np cp nx cx ns ds m ls pr co nm xs wr' :=
 ⟨h.n.later hb, (h.s.below hb lR).more hb.size, h.g.below hb h.g.lt, (h.l.below hb lR).more hb.size, (h.r.below hb lR).more hb.size, h.p.below hb h.p.lt, (h.x.below hb lR).more hb.size⟩
theorem Rt.mem {A : Option Addr} {n c : Nat} {s : List Int} (h : Rt w nb gb pb An Ad As Al Ap Ax nn cn nd cd cs nl cl np cp nx cx ns ds m ls pr co nm xs wr) (hn : (∀ x ∈ ns, x.name.size ≤ 9223372036854775807) ∧ ∀ x ∈ ds, x.name.size ≤ 9223372036854775807) (hm : nm.size ≤ 9223372036854775807) (hs : BI wr 1 A n c (zE s)) :
 sr wr An Ad A Al Ap Ax nn cn nd cd n c nl cl np cp nx cx ns ds s ls pr nm xs :=
 ⟨⟨h.n.hn.1, h.n.hd.1, hs, h.l, h.r, h.n.la, hn.1, hn.2⟩, h.x, hm⟩
structure PH (w : World) (nb gb pb rb : Nat) (An Ad As Al Ap Ax : Option Addr) (nn cn nd cd cs nl cl np cp nx cx : Nat) (ns : List Nd) (ds : List Dv) (m : List Int) (ls : List Lk) (pr : List Int) (co : Int) (nm : ByteArray) (xs : List Sp) (A1 A2 A3 A4 : Option Addr) (n1 c1 n2 c2 n3 c3 n4 c4 : Nat) (o : List Fn) (t : Sm) (wr : World) : Prop where
 z : Rt w nb gb pb An Ad As Al Ap Ax nn cn nd cd cs nl cl np cp nx cx ns ds m ls pr co nm xs wr
 b : AJ wr rb 47 #[.slice A1 n1 c1, .slice A2 n2 c2, .int .i64 co, .slice A3 n3 c3, .slice A4 n4 c4]
 o : rD wr A1 A2 A3 A4 n1 c1 n2 c2 n3 c3 n4 c4 o t
theorem PH.later {A1 A2 A3 A4 : Option Addr} {n1 c1 n2 c2 n3 c3 n4 c4 : Nat} {o : List Fn} {t : Sm} (h : PH w nb gb pb rb An Ad As Al Ap Ax nn cn nd cd cs nl cl np cp nx cx ns ds m ls pr co nm xs A1 A2 A3 A4 n1 c1 n2 c2 n3 c3 n4 c4 o t wr) (hb : bW wr wr') :
 PH w nb gb pb rb An Ad As Al Ap Ax nn cn nd cd cs nl cl np cp nx cx ns ds m ls pr co nm xs A1 A2 A3 A4 n1 c1 n2 c2 n3 c3 n4 c4 o t wr' :=
 ⟨h.z.later hb, h.b.below hb h.b.lt, h.o.later8 hb⟩
end
end Go.Proofs.YtkkobemhbicjgaaGreatDoor
