import Derived.Test.YtddddlhgaeameaaGreatDoorJ13
set_option maxRecDepth 100000
set_option maxHeartbeats 8000000
namespace Go.Proofs.YtddddlhgaeameaaGreatDoor
open Go.RowKit Tryz
structure ww (w : World) (N : Array Value) (go nn : Nat) (out : List Int) (wr : World) : Prop where
 bx : AJ wr w.heap.size 26 N
 ob : zN wr (w.heap.size + 1) (some ⟨go, 0, none⟩) nn nn out
 bl : bW w wr
section
variable {w wr wr' : World} {N : Array Value} {go nn : Nat} {out : List Int}
theorem ww.ge (h : ww w N go nn out wr) : w.heap.size + 1 ≤ go ∧ go < wr.heap.size := h.ob.lt go rfl
theorem ww.later (h : ww w N go nn out wr) (hb : bW wr wr') : ww w N go nn out wr' := ⟨h.bx.below hb h.bx.lt, h.ob.later hb, h.bl.trans (hb.mono h.bl.size)⟩
theorem ww.alloc (h : ww w N go nn out wr) (o : Obj) : ww w N go nn out (wr.alloc o) := h.later ((Below.refl _ _).alloc lR _)
theorem ww.drew (h : ww w N go nn out wr) : ww w N go nn out wr.drew := h.later (Below.refl _ _).drew
theorem ww.put (h : ww w N go nn out wr) {k : Nat} (hk : k < nn) (v : Int) : ww w N go nn (out.set k v) (wr.setCell ⟨go, k, none⟩ (.int .i64 v)) := by
 have hg := h.ge;obtain ⟨g, x, hA, h1, h2, hx, hc, hf, hst⟩ := h.ob.at hk;injection hA with hA;injection hA with hA;subst hA;exact ⟨h.bx.far (by simp; omega) _, hst v, h.bl.setCell (by simp; omega) _⟩
theorem ww.cell (h : ww w N go nn out wr) {k : Nat} (hk : k < nn) : ∃ x, out[k]? = some x ∧ wr.cell? ⟨go, k, none⟩ = some (.int .i64 x) ∧ wr.frozen? ⟨go, k, none⟩ = false := by
 obtain ⟨g, x, hA, h1, h2, hx, hc, hf, hst⟩ := h.ob.at hk;injection hA with hA;injection hA with hA;subst hA;exact ⟨x, hx, hc, hf⟩
end
def mV (w : World) (nn : Nat) (er : Int) (ds : List Dv) (s : List Int) (e : Ending) (w' : World) : Prop :=
 Hid (Below w.heap.size w w') ∧ ((er ≠ 0 ∧ e = .returned (.tuple #[.slice none 0 0, .int .i64 er])) ∨ (er = 0 ∧ ∃ (A : Option Addr) (out : List Int), e = .returned (.tuple #[.slice A nn nn, .int .i64 0]) ∧ Hid (zN w' w.heap.size A nn nn out) ∧ Hid (yZ nn ds s out)))
def fE (w : World) (N : Array Value) (go nn gk : Nat) (iv : Value) (wr : World) : Prop := ∃ (i : Nat) (out : List Int), iv = .int .i64 i ∧ i ≤ nn ∧ gk = nn - i ∧ Hid (ww w N go nn out wr) ∧ Hid (∀ j : Nat, j < i → out[j]? = some (j : Int))
def fD (w : World) (N : Array Value) (go nn : Nat) (ds : List Dv) (s : List Int) (gk : Nat) (cv : Value) (wr : World) : Prop := ∃ (ch : Bool) (out : List Int), cv = .bool ch ∧ gk = tc out + ch.toNat ∧ Hid (ww w N go nn out wr) ∧ Hid (rz nn ds s out) ∧ Hid (ch = false → ∀ i, i < ds.length → kN ds s out i)
def fC (w : World) (N : Array Value) (go nn nd : Nat) (ds : List Dv) (s : List Int) (S0 : Nat) (gk : Nat) (cv iv : Value) (wr : World) : Prop := ∃ (ch : Bool) (j : Nat) (out : List Int), cv = .bool ch ∧ iv = .int .i64 j ∧ j ≤ nd ∧ gk = nd - j ∧ Hid (ww w N go nn out wr) ∧ Hid (rz nn ds s out) ∧ Hid (ch = false → ∀ i, i < j → kN ds s out i) ∧ Hid (tc out ≤ S0 ∧ (ch = true → tc out < S0))
theorem ui (An Ad As : Option Addr) (nn cn nd cd n c Bn Bd Bs : Nat) (ns : List Nd) (ds : List Dv) (s : List Int) (w : World) (hn : Sl w Bn 3 An nn cn (ns.flatMap Nd.cells)) (hd : Sl w Bd 5 Ad nd cd (ds.flatMap Dv.cells)) (hs : Sl w Bs 1 As n c (zF s)) (Ce : Bn ≤ w.heap.size) (BN : Bd ≤ w.heap.size) (Ci : Bs ≤ w.heap.size)
 (Bj : FO ns) (Bc : GH ds) (Bq : nn ≤ 10000) (Ae : zG ns ds s = 0 → nd ≤ n ∧ xA nn ds ∧ ∀ x ∈ ds, zV x.kind = true → x.b ≠ x.a) :
 Calls prog 46 #[.agg #[.slice An nn cn, .slice Ad nd cd], .slice As n c] w (mV w nn (zG ns ds s) ds s) := by
 have Fx := iD (hd.len (fun _ => rfl) (by decide));obtain ⟨Vs, MO⟩ := hd.le;obtain ⟨AQ, hsm⟩ := hs.le;have Cy := iD (vW An Ad As nn cn nd cd n c Bn Bd Bs ns ds s (w.alloc (.cells #[.slice An nn cn, .slice Ad nd cd] 26)) (hn.alloc Ce _) (hd.alloc BN _) (hs.alloc Ci _) (by simp; omega) (by simp; omega) (by simp; omega) Bj Bc);have HD := iD hd; have HS := iD hs; have Jz := iD Ae;clear hn hd hs Bj Bc Ae;have Js : Hid (uH w #[.slice An nn cn, .slice Ad nd cd] (w.alloc (.cells #[.slice An nn cn, .slice Ad nd cd] 26))) := ⟨AJ.new _ _ _, (Below.refl _ _).alloc lR _⟩;generalize zG ns ds s = er at *;by_cases h0 : er = 0; rotate_left
 ·have h0' : (er != 0) = true := by simpa using h0
  have H0 := iD h0; clear h0
  go_enter func46, ntmps46
  go_wp2_with fail
  refine Cy.mono ?_;rintro e w1 ⟨rfl, AX⟩;have CZ := iD (Js.later AX)
  go_wp2_with fail
  go_ret2;exact ⟨CZ.bl, .inl ⟨H0, rfl⟩⟩
 subst h0;have Ae := Jz rfl;have Py : nd ≤ n := Ae.1;have HE := iD Ae.2.1; have CQ := iD Ae.2.2;clear Ae Jz
 go_enter func46, ntmps46
 go_wp2_with fail
 refine Cy.mono ?_;rintro e w1 ⟨rfl, AX⟩;have CZ := iD (Js.later AX);clear AX Cy Js;have k0 := CZ.bx.c0;have Kn := vU nn (by omega) w1
 have TM : Hid (ww w #[.slice An nn cn, .slice Ad nd cd] w1.heap.size nn (List.replicate nn 0) (w1.alloc (.cells (zF (List.replicate nn 0)).toArray 3))) :=
  ⟨CZ.bx.alloc _, tU CZ.bx.lt (by omega), (CZ.alloc _).bl⟩
 clear CZ
 go_wp2_with fail
 clear Kn k0;generalize World.alloc _ _ = W at *;obtain ⟨go, hgo⟩ := eX w1.heap.size;rw [← hgo] at TM ⊢;clear hgo
 go_loopg [8] nn (fE w #[.slice An nn cn, .slice Ad nd cd] go nn)
 case atStart => exact ⟨0, _, rfl, Nat.zero_le _, rfl, TM, fun j hj => absurd hj (by omega)⟩
 case round =>
  clear TM;obtain ⟨i, out, rfl, hi, rfl, hst, hf⟩ := hrel;by_cases hlt : i < nn
  ·obtain ⟨x, hx, hcell, AZ⟩ := hst.cell hlt;clear hx;have HM := iD (hst.put hlt i);have KU := iD hst.ob.len
   go_wp2_with fail
   go_roundg (nn - (i + 1))
   case rel =>
    refine ⟨i + 1, _, by go_num, by omega, rfl, HM, fun j hj => ?_⟩;rw [List.getElem?_set];split
    ·rename_i e; subst e; rw [if_pos (by rw [KU.out]; exact hlt)]
    ·exact hf j (by omega)
   case measure => omega
  ·obtain rfl : i = nn := by omega
   have Ck : decide (i < i) = false := by simp
   have Pd := iD (rz.start i ds s out hst.ob.len hf);clear hf
   go_wp2_with fail
   clear Ck
   go_loopg [9] (tc out + 1) (fD w #[.slice An i cn, .slice Ad nd cd] go i ds s)
   case atStart => exact ⟨true, out, rfl, rfl, hst, Pd, fun h => by cases h⟩
   case round =>
    clear hst Pd;obtain ⟨ch, out, rfl, rfl, hst, OA, hdone⟩ := hrel;rcases ch with _ | _
    ·go_wp2_with fail
     go_ret2;exact ⟨hst.bl, .inr ⟨rfl, _, out, rfl, hst.ob.mono (by omega), OA.final (hdone (by simp))⟩⟩
    ·clear hdone
     go_wp2_with fail
     go_loopg [9, 10] nd (fC w #[.slice An i cn, .slice Ad nd cd] go i nd ds s (tc out))
     case atStart => exact ⟨false, 0, out, rfl, rfl, Nat.zero_le _, rfl, hst, OA, fun _ t ht => absurd ht (by omega), ⟨Nat.le_refl _, fun h => by cases h⟩⟩
     case round =>
      obtain ⟨S0, AK⟩ := eX (tc out);rw [← AK] at hrel;have NF := iD AK;clear hst OA AK;obtain ⟨ch, j, out, rfl, rfl, hj, rfl, hst, OA, Pt, Jh⟩ := hrel;have k1 := hst.bx.c1;by_cases PM : j < nd; rotate_left
      ·obtain rfl : j = nd := by omega
       have KJ : decide (j < j) = false := by simp
       go_wp2_with fail
       go_roundg (tc out + ch.toNat)
       case rel => exact ⟨ch, out, rfl, rfl, hst, OA, fun h t ht => Pt h t (by rw [Fx.out] at ht; exact ht)⟩
       case measure =>
        have h1 := Jh.out;have h2 := NF.out;rcases ch with _ | _
        ·simp; omega
        ·have := h1.2 rfl; simp; omega
      obtain ⟨b0, off, x, rfl, hb, hx, hc⟩ := (HD.below hst.bl BN).at (fun _ => rfl) (by decide) PM;have HX := iD hx;have SC := HE x (List.mem_of_getElem? hx);have Qs := CQ x (List.mem_of_getElem? hx);obtain ⟨nm, kd, xa, xb, co⟩ := x;simp only at SC Qs;have AO := iD SC; have GU := iD Qs;have c0 : wr.cell? ⟨b0, off + j * 5, none⟩ = some (.string nm) := hc 0 _ rfl;have c1 : wr.cell? ⟨b0, off + j * 5 + 1, none⟩ = some (.int .i64 kd) := hc 1 _ rfl;have c2 : wr.cell? ⟨b0, off + j * 5 + 2, none⟩ = some (.int .i64 xa) := hc 2 _ rfl;have c3 : wr.cell? ⟨b0, off + j * 5 + 3, none⟩ = some (.int .i64 xb) := hc 3 _ rfl;have c4 : wr.cell? ⟨b0, off + j * 5 + 4, none⟩ = some (.int .i64 co) := hc 4 _ rfl;clear hc hx SC Qs;go_upto_region 16 with (fail);clear c0 c1 c2 c3 c4 k1;have HK := iD (AJ.new wr 75 #[.string nm, .int .i64 kd, .int .i64 xa, .int .i64 xb, .int .i64 co])
      have BD := iD (hst.alloc (.cells #[.string nm, .int .i64 kd, .int .i64 xa, .int .i64 xb, .int .i64 co] 75));have AU : go < wr.heap.size := hst.ge.2;generalize World.alloc _ _ = w2 at *;obtain ⟨bq, Fb⟩ := eX wr.heap.size;rw [← Fb] at HK ⊢;have GN : go < bq := by omega
      clear Fb hst AU;obtain ⟨sb, NQ, sx, rfl, Oz, Qt, VX⟩ := (HS.below BD.bl Ci).at1 (k := j) (by omega);have EU : Hid (ud s j = (sx == 2)) := by unfold Hid ud; rw [List.getD_eq_getElem?_getD, Qt]; rfl
      clear Qt;have AY : j < n := by omega
      have e1 := HK.c1;have e2 := HK.c2;have e3 := HK.c3;have Cw := iD (vX kd);by_cases h2 : sx = 2; rotate_left
      ·have q2 : (sx != 2) = true := by simpa using h2
       have Hl : Hid (ch = false → ∀ t, t < j + 1 → kN ds s out t) := fun h t ht => by
        rcases Nat.lt_succ_iff_lt_or_eq.1 ht with h3 | rfl
        ·exact Pt h t h3
        ·intro x hx hc; rw [EU.out] at hc; exact absurd (by simpa using hc) h2
       clear h2 e1 e2 e3;refine fX (fun W' => W'.cell? ⟨sb, NQ + j, none⟩ = some (.int .i64 sx)) [] ?_ fun AA => ?_
       ·exact VX
       try dsimp only at AA
       refine tk 0 46 (mf 24 1) AA ?_;refine tk 1 47 (mf 24 2) AA ?_;refine tk 2 48 (mf 24 3) AA ?_;refine tk 3 49 (mf 24 4) AA ?_;refine tk 4 50 (mf 24 5) AA ?_;refine tk 5 51 (mf 24 6) AA ?_;refine ts 6 52 (mf 24 7) AA ?_;refine ts 7 53 (mf 24 8) AA ?_;refine ts 8 54 (mf 24 9) AA ?_;refine ts 9 55 (mf 24 10) AA ?_;refine tk 10 56 (mf 24 11) AA ?_;refine tk 11 57 (mf 24 12) AA ?_;refine ts 12 58 (mf 24 13) AA ?_;refine ts 13 59 (mf 24 14) AA ?_;refine ts 14 60 (mf 24 15) AA ?_;refine ts 15 61 (mf 24 16) AA ?_;refine ts 16 62 (mf 24 17) AA ?_;refine ts 17 63 (mf 24 18) AA ?_;refine ts 18 64 (mf 24 19) AA ?_;refine ts 19 65 (mf 24 20) AA ?_;refine ts 20 66 (mf 24 21) AA ?_;refine ts 21 67 (mf 24 22) AA ?_;refine ts 22 68 (mf 24 23) AA ?_;refine tk 23 69 (mf 24 24) AA ?_;refine tK ?_;clear AA
       go_wp2_with fail
       go_roundg (nd - (j + 1))
       ·exact ⟨ch, j + 1, out, rfl, by go_num, by omega, rfl, BD.drew, OA, Hl, (by have := Jh.out; rw [NF.out] at this; exact this)⟩
       omega
      subst h2;rcases Fq : zV kd with _ | _
      ·have Hl : Hid (ch = false → ∀ t, t < j + 1 → kN ds s out t) := fun h t ht => by
        rcases Nat.lt_succ_iff_lt_or_eq.1 ht with h3 | rfl
        ·exact Pt h t h3
        ·intro x hx hc AL;rw [HX.out] at hx;injection hx with hx;subst hx;rw [Fq] at AL; cases AL
       rw [Fq] at Cw;clear Fq e2 e3;refine fX (fun W' => W'.cell? ⟨sb, NQ + j, none⟩ = some (.int .i64 2) ∧ W'.cell? ⟨bq, 1, none⟩ = some (.int .i64 kd)) [] ?_ fun AA => ?_
       ·exact ⟨VX, e1⟩
       try dsimp only at AA
       refine tk 0 46 (mf 24 1) AA ?_;refine tk 1 47 (mf 24 2) AA ?_;refine tk 2 48 (mf 24 3) AA ?_;refine tk 3 49 (mf 24 4) AA ?_;refine tk 4 50 (mf 24 5) AA ?_;refine tk 5 51 (mf 24 6) AA ?_;refine tk 6 52 (mf 24 7) AA ?_;refine tk 7 53 (mf 24 8) AA ?_;refine tb 8 (mf 24 9) fun K hK => ?_
       (go_simp; refine (Cw _).mono ?_; rintro e w3 ⟨rfl, rfl⟩; go_simp)
       refine hK _ _ (fun _ => AA) fun p => (fun AA => ?_) (p rfl)
       clear p hK K;(try dsimp only at AA);refine tk 9 55 (mf 24 10) AA ?_;refine tk 10 56 (mf 24 11) AA ?_;refine tk 11 57 (mf 24 12) AA ?_;refine ts 12 58 (mf 24 13) AA ?_;refine ts 13 59 (mf 24 14) AA ?_;refine ts 14 60 (mf 24 15) AA ?_;refine ts 15 61 (mf 24 16) AA ?_;refine ts 16 62 (mf 24 17) AA ?_;refine ts 17 63 (mf 24 18) AA ?_;refine ts 18 64 (mf 24 19) AA ?_;refine ts 19 65 (mf 24 20) AA ?_;refine ts 20 66 (mf 24 21) AA ?_;refine ts 21 67 (mf 24 22) AA ?_;refine ts 22 68 (mf 24 23) AA ?_;refine tk 23 69 (mf 24 24) AA ?_;refine tK ?_;clear AA
       go_wp2_with fail
       go_roundg (nd - (j + 1))
       ·exact ⟨ch, j + 1, out, rfl, by go_num, by omega, rfl, BD.drew, OA, Hl, (by have := Jh.out; rw [NF.out] at this; exact this)⟩
       omega
      have AV := iD Fq;have SC := AO Fq;have Qs := GU Fq;rw [Fq] at Cw;clear Fq AO GU;obtain ⟨a, rfl⟩ := Int.eq_ofNat_of_zero_le SC.1.1;obtain ⟨b, rfl⟩ := Int.eq_ofNat_of_zero_le SC.2.1;have AE : a < i := by omega
      have AB : b < i := by omega
      obtain ⟨pv, AH, Nr, Ab⟩ := BD.cell AE;obtain ⟨qv, AG, KL, Aa⟩ := BD.cell AB;obtain ⟨p, PK, PI, _⟩ := OA.2 a AE;obtain ⟨q, JP, Va, _⟩ := OA.2 b AB;obtain rfl : pv = (p : Int) := by rw [AH] at PK; exact Option.some.inj PK
      obtain rfl : qv = (q : Int) := by rw [AG] at JP; exact Option.some.inj JP
      have AP := iD AH; have Ur := iD AG;have Uc : a ≠ b := by omega
      clear AH AG PK JP SC Qs;refine fX (fun W' => W'.cell? ⟨sb, NQ + j, none⟩ = some (.int .i64 2) ∧ W'.cell? ⟨bq, 1, none⟩ = some (.int .i64 kd) ∧ W'.cell? ⟨bq, 2, none⟩ = some (.int .i64 a) ∧ W'.cell? ⟨bq, 3, none⟩ = some (.int .i64 b) ∧ W'.cell? ⟨go, a, none⟩ = some (.int .i64 p) ∧ W'.cell? ⟨go, b, none⟩ = some (.int .i64 q)) [] ?_ fun AA => ?_
      ·exact ⟨VX, e1, e2, e3, Nr, KL⟩
      try dsimp only at AA
      refine tk 0 46 (mf 24 1) AA ?_;refine tk 1 47 (mf 24 2) AA ?_;refine tk 2 48 (mf 24 3) AA ?_;refine tk 3 49 (mf 24 4) AA ?_;refine tk 4 50 (mf 24 5) AA ?_;refine tk 5 51 (mf 24 6) AA ?_;refine tk 6 52 (mf 24 7) AA ?_;refine tk 7 53 (mf 24 8) AA ?_;refine tb 8 (mf 24 9) fun K hK => ?_
      (go_simp; refine (Cw _).mono ?_; rintro e w3 ⟨rfl, rfl⟩; go_simp)
      refine hK _ _ (fun _ => AA) fun p => (fun AA => ?_) (p rfl)
      clear p hK K;(try dsimp only at AA);refine tk 9 55 (mf 24 10) AA ?_;refine tk 10 56 (mf 24 11) AA ?_;refine tk 11 57 (mf 24 12) AA ?_;refine tk 12 58 (mf 24 13) AA ?_;refine tk 13 59 (mf 24 14) AA ?_;refine tk 14 60 (mf 24 15) AA ?_;refine tk 15 61 (mf 24 16) AA ?_;refine tk 16 62 (mf 24 17) AA ?_;refine tk 17 63 (mf 24 18) AA ?_;refine tk 18 64 (mf 24 19) AA ?_;refine tk 19 65 (mf 24 20) AA ?_;refine tk 20 66 (mf 24 21) AA ?_;refine tk 21 67 (mf 24 22) AA ?_;refine tk 22 68 (mf 24 23) AA ?_;refine tk 23 69 (mf 24 24) AA ?_;refine tK ?_;clear AA;by_cases Er : p = q
      ·subst Er
       have Hl : Hid (ch = false → ∀ t, t < j + 1 → kN ds s out t) := fun h t ht => by
        rcases Nat.lt_succ_iff_lt_or_eq.1 ht with h3 | rfl
        ·exact Pt h t h3
        ·intro x hx _ _;rw [HX.out] at hx;injection hx with hx;subst hx;simp only [Int.toNat_natCast];rw [AP.out, Ur.out]
       go_wp2_with fail
       go_roundg (nd - (j + 1))
       ·exact ⟨ch, j + 1, out, rfl, by go_num, by omega, rfl, BD.drew, OA, Hl, (by have := Jh.out; rw [NF.out] at this; exact this)⟩
       omega
      ·have AW : ((p : Int) == (q : Int)) = false := by simp; omega
       have Dr := OA.put HX (by rw [EU.out]; rfl) AV rfl rfl AE AB Uc AP Ur Er;go_upto_region 17 with (fail);refine fX (fun W' => W'.cell? ⟨bq, 2, none⟩ = some (.int .i64 a) ∧ W'.cell? ⟨bq, 3, none⟩ = some (.int .i64 b) ∧ W'.cell? ⟨go, a, none⟩ = some (.int .i64 p) ∧ W'.cell? ⟨go, b, none⟩ = some (.int .i64 q)) [] ?_ fun AA => ?_
       ·exact ⟨e2, e3, Nr, KL⟩
       try dsimp only at AA
       refine tk 0 70 (mf 12 1) AA ?_;refine tk 1 71 (mf 12 2) AA ?_;refine tk 2 72 (mf 12 3) AA ?_;refine tk 3 73 (mf 12 4) AA ?_;refine tk 4 74 (mf 12 5) AA ?_;refine tk 5 75 (mf 12 6) AA ?_;refine tk 6 76 (mf 12 7) AA ?_;refine tk 7 77 (mf 12 8) AA ?_;refine tk 8 78 (mf 12 9) AA ?_;refine tk 9 79 (mf 12 10) AA ?_;refine tk 10 80 (mf 12 11) AA ?_;refine tk 11 12 (mf 12 12) AA ?_;refine tK ?_;clear AA;go_upto_region 18 with (fail)
       first | rw [show (if q < p then (q : Int) else (p : Int)) = ((min p q : Nat) : Int) by split <;> omega] | rw [show min (p : Int) (q : Int) = ((min p q : Nat) : Int) by omega]
       obtain ⟨m, hm⟩ := eX (min p q);rw [← hm] at Dr ⊢;have LK := iD Dr;have Hg := iD ((BD.put AE (m : Int)).put AB (m : Int));have PS : ¬ b = a := fun e => Uc e.symm
       clear Dr hm;refine fX (fun W' => W'.cell? ⟨bq, 2, none⟩ = some (.int .i64 a) ∧ W'.cell? ⟨bq, 3, none⟩ = some (.int .i64 b)) [] ?_ fun AA => ?_
       ·exact ⟨e2, e3⟩
       try dsimp only at AA
       refine tk 0 81 (mf 12 1) AA ?_;refine tk 1 82 (mf 12 2) AA ?_;refine tk 2 83 (mf 12 3) AA ?_;refine tk 3 84 (mf 12 4) AA ?_;refine tk 4 85 (mf 12 5) AA ?_;refine tk 5 86 (mf 12 6) AA ?_;refine tk 6 87 (mf 12 7) AA ?_;refine tk 7 88 (mf 12 8) AA ?_;refine tk 8 89 (mf 12 9) AA ?_;refine tb 9 (mf 12 10) fun K hK => ?_
       go_simp
       refine hK _ _ (fun _ => ⟨(World.cell?_setCell_other _ _ _ _ (fun e => by injection e with e1; omega)).trans e2, (World.cell?_setCell_other _ _ _ _ (fun e => by injection e with e1; omega)).trans e3⟩) fun p => (fun AA => ?_) (p rfl)
       clear p hK K;(try dsimp only at AA);refine tk 10 90 (mf 12 11) AA ?_;refine tb 11 (mf 12 12) fun K hK => ?_
       go_simp
       refine hK _ _ (fun _ => ⟨(World.cell?_setCell_other _ _ _ _ (fun e => by injection e with e1; omega)).trans ((World.cell?_setCell_other _ _ _ _ (fun e => by injection e with e1; omega)).trans e2), (World.cell?_setCell_other _ _ _ _ (fun e => by injection e with e1; omega)).trans ((World.cell?_setCell_other _ _ _ _ (fun e => by injection e with e1; omega)).trans e3)⟩) fun p => (fun AA => ?_) (p rfl)
       clear p hK K;(try dsimp only at AA);refine tK ?_;clear AA
       go_wp2_with fail
       go_roundg (nd - (j + 1))
       ·exact ⟨true, j + 1, _, rfl, by go_num, by omega, rfl, Hg.drew.drew.drew, LK.1, (fun h => by cases h), ⟨by have := Jh.1; have := LK.2; have := NF.out; omega, fun _ => by have := Jh.1; have := LK.2; have := NF.out; omega⟩⟩
       omega
end Go.Proofs.YtddddlhgaeameaaGreatDoor
