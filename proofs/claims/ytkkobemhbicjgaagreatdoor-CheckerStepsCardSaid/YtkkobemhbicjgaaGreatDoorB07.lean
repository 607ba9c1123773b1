import Derived.Test.YtkkobemhbicjgaaGreatDoorB03
set_option maxRecDepth 100000
set_option maxHeartbeats 8000000
namespace Go.Proofs.YtkkobemhbicjgaaGreatDoor
open Go.RowKit Tryz
open Go.Maps (Keyed)
theorem ly : Keyed prog 3 := Go.Maps.int_keyed underlying3
def yZ (w : World) (b n : Nat) (f : Int → Int) : Prop :=
 ∃ (D : DataW Unit), w.ownsMap prog 3 (plainElem prog 3) b n D ∧ Go.Maps.IsMap D ∧ ∀ k, D.atKey (.int .i64 k) (.lit (.int .i64 0)) = .lit (.int .i64 (f k))
theorem rN {k : Int} (h0 : -1000000 ≤ k) (h1 : k ≤ 1000000) : (Lit.int .i64 k).wf = true := by
 have e : IntKind.i64.min = -9223372036854775808 := by kernel_rfl
 simp [Lit.wf, e]; omega
section
variable {w w' : World} {b n : Nat} {f g : Int → Int}
theorem jb (w : World) : yZ (w.alloc (.map #[] 0)) w.heap.size 0 (fun _ => 0) := ⟨.map [], World.ownsMap_made _ _ _ _, ⟨[], rfl⟩, fun k => by simp [DataW.atKey]⟩
theorem yZ.lt (h : yZ w b n f) : b < w.heap.size := by
 obtain ⟨D, h1, _⟩ := h;exact h1.lt
theorem yZ.congr (h : yZ w b n f) (e : ∀ k, f k = g k) : yZ w b n g := by
 obtain ⟨D, h1, h2, h3⟩ := h;exact ⟨D, h1, h2, fun k => by rw [h3, e]⟩
theorem yZ.kept {row : Option Nat} (h : yZ w b n f) (hg : w.grownBy w' row) (hne : some b ≠ row) : yZ w' b n f := by
 obtain ⟨D, h1, h2, h3⟩ := h;exact ⟨D, h1.kept hg hne, h2, h3⟩
theorem yZ.below (h : yZ w b n f) (hb : bW w w') : yZ w' b n f := h.kept (zH hb none) (by simp)
theorem yZ.alloc (h : yZ w b n f) (o : Obj) : yZ (w.alloc o) b n f := h.below ((Below.refl _ _).alloc lR _)
theorem yZ.look (h : yZ w b n f) (k : Int) (h0 : -1000000 ≤ k) (h1 : k ≤ 1000000) :
 (Instr.lookup 190 (.map (some b)) (.int .i64 k) false).run prog w = .ok (.int .i64 (f k)) w := by
 obtain ⟨D, hD, _, h3⟩ := h;obtain ⟨v, ps, hr, hv⟩ := hD.lookup ly underlying190 (z := .int .i64 0) (by kernel_rfl) (plainElem_int underlying3 (by decide)) (Go.Maps.keyOf_int_mk underlying3 (rN h0 h1));obtain ⟨x, rfl, hx, _⟩ := plainElem_int_inv underlying3 hv;rw [h3] at hx;simp only [Prod.mk.injEq, DataW.lit.injEq, Lit.int.injEq, true_and] at hx;rw [hr, hx.1]
theorem yZ.put (h : yZ w b n f) (hn : n ≤ 1000000) (k x : Int) (h0 : -1000000 ≤ k) (h1 : k ≤ 1000000) (x0 : -1000000 ≤ x) (x1 : x ≤ 1000000) :
 ∃ w', (Instr.mapUpdate 190 (.map (some b)) (.int .i64 k) (.int .i64 x)).run prog w = .ok () w' ∧ yZ w' b (n + 1) (fun j => if j = k then x else f j) ∧ w.grownBy w' (some b) := by
 obtain ⟨D, hD, h2, h3⟩ := h;obtain ⟨w', hr, ho, hg⟩ := hD.update ly underlying190 (by unfold maxLen; omega) (Go.Maps.keyOf_int_mk underlying3 (rN h0 h1)) (plainElem_int underlying3 (rN x0 x1));refine ⟨w', hr, ⟨_, ho, ?_, fun j => ?_⟩, hg⟩
 ·obtain ⟨es, rfl⟩ := h2;exact ⟨_, rfl⟩
 ·by_cases e : j = k
  ·rw [e, Go.Maps.atKey_put_same h2 (by simp [WideAt.IsKeyLit])]; simp only [if_true]
  ·rw [Go.Maps.atKey_put_other (fun e' => e (by injection e')), h3]; simp only [if_neg e]
end
structure ue (w : World) (N : Array Value) (mb j : Nat) (f : Int → Int) (wr : World) : Prop where
 bx : AJ wr w.heap.size 30 N
 mp : yZ wr mb j f
 bl : bW w wr
 ge : w.heap.size < mb
section
variable {w wr wr' : World} {N : Array Value} {mb j : Nat} {f : Int → Int}
theorem ue.later (h : ue w N mb j f wr) (hb : bW wr wr') : ue w N mb j f wr' := ⟨h.bx.below hb h.bx.lt, h.mp.below hb, h.bl.trans (hb.mono h.bl.size), h.ge⟩
theorem ue.alloc (h : ue w N mb j f wr) (o : Obj) : ue w N mb j f (wr.alloc o) := h.later ((Below.refl _ _).alloc lR _)
theorem ue.put {f' : Int → Int} (h : ue w N mb j f wr) (hm : yZ wr' mb (j + 1) f') (hg : wr.grownBy wr' (some mb)) : ue w N mb (j + 1) f' wr' :=
 ⟨h.bx.grown hg (fun e => by injection e with e; have := h.ge; omega), hm, h.bl.trans (yE hg (Nat.le_of_lt h.ge) h.bl.size), h.ge⟩
theorem ue.skip (h : ue w N mb j f wr) {f' : Int → Int} (e : ∀ k, f k = f' k) : ue w N mb (j + 1) f' wr := ⟨h.bx, by
 obtain ⟨D, ⟨es, cl, a1, a2, a3, a4⟩, h2, h3⟩ := h.mp;exact ⟨D, ⟨es, cl, a1, a2, by omega, a4⟩, h2, fun k => by rw [h3, e]⟩, h.bl, h.ge⟩
end
def gT (w : World) (nn : Nat) (ds : List Dv) (s : List Int) (e : Ending) (w' : World) : Prop :=
 ∃ (A : Option Addr) (out : List Int), e = .returned (.slice A nn nn) ∧ Hid (zL w' w.heap.size A nn nn out) ∧ Hid (wJ nn ds s out) ∧ Hid (Below w.heap.size w w')
def cJ (w : World) (N : Array Value) (mb nd : Nat) (parts : List Int) (ds : List Dv) (s : List Int) (gk : Nat) (iv : Value) (wr : World) : Prop :=
 ∃ (j : Nat), iv = .int .i64 j ∧ j ≤ nd ∧ gk = nd - j ∧ Hid (ue w N mb j (zK parts ds s j) wr)
def cI (w : World) (N : Array Value) (mb nd nn go : Nat) (parts : List Int) (f : Int → Int) (gk : Nat) (iv : Value) (wr : World) : Prop :=
 ∃ (i : Nat) (out : List Int), iv = .int .i64 i ∧ i ≤ nn ∧ gk = nn - i ∧ Hid (ue w N mb nd f wr) ∧ Hid (zL wr (mb + 1) (some ⟨go, 0, none⟩) nn nn out) ∧ Hid (∀ (j : Nat) (q : Int), j < i → parts[j]? = some q → out[j]? = some (f q))
theorem xr {parts s : List Int} {ds : List Dv} {j : Nat} {x : Dv} {p v : Int} (hx : ds[j]? = some x) (_hs : s[j]? = some 2) (_hk : x.kind = 4) (hp : parts[x.a.toNat]? = some p) (hv : zK parts ds s (j + 1) p = v) (k : Int) : (if k = p then v else zK parts ds s j k) = zK parts ds s (j + 1) k := by
 by_cases e : k = p
 ·subst e; rw [if_pos rfl, hv]
 ·rw [if_neg e];refine (xf hx (fun K _ h => e ?_)).symm;have := h.2.2;rw [hp] at this;exact (Option.some.inj this).symm
theorem wM {parts s : List Int} {ds : List Dv} {j : Nat} {x : Dv} {p v : Int} (hx : ds[j]? = some x) (_hs : s[j]? = some 2) (_hk : yg x.kind) (hp : parts[x.a.toNat]? = some p) (hv : zK parts ds s (j + 1) p = v) (k : Int) : (if k = p then v else zK parts ds s j k) = zK parts ds s (j + 1) k := by
 by_cases e : k = p
 ·subst e; rw [if_pos rfl, hv]
 ·rw [if_neg e];refine (xf hx (fun K _ h => e ?_)).symm;have := h.2.2;rw [hp] at this;exact (Option.some.inj this).symm
theorem mC (An Ad As Ap : Option Addr) (nn cn nd cd n c cp Bd Bs Bp : Nat) (ds : List Dv) (s parts : List Int) (w : World)
 (hd : Sl w Bd 5 Ad nd cd (ds.flatMap Dv.cells)) (BP : Bd ≤ w.heap.size) (hs : Sl w Bs 1 As n c (zE s)) (CJ : Bs ≤ w.heap.size) (hp : Sl w Bp 1 Ap nn cp (zE parts)) (AE : Bp ≤ w.heap.size) (Bq : nn ≤ 10000) (AP : nd ≤ 10000) (hn : nd ≤ n) (hA : Im nn ds) (hP : yW nn ds s parts) :
 Calls prog 127 #[.agg #[.slice An nn cn, .slice Ad nd cd], .slice As n c, .slice Ap nn cp] w (gT w nn ds s) := by
 have FL := iD (hd.len (fun _ => rfl) (by decide)); have OH := iD (hp.len (fun _ => rfl) (by decide));have JU := hd.le;have hsm := hs.le;have AO := hp.le;have HD := iD hd; have HS := iD hs; have HP := iD hp; have HA := iD hA; have Sa := iD hP;clear hd hs hp hA hP;have AK := @run_makeMap prog
 have BG : Hid (ue w #[.slice An nn cn, .slice Ad nd cd] (w.heap.size + 1) 0 (zK parts ds s 0) ((w.alloc (.cells #[.slice An nn cn, .slice Ad nd cd] 30)).alloc (.map #[] 0))) := by
  refine ⟨(AJ.new w _ _).alloc _, ?_, ((Below.refl _ _).alloc lR _).alloc (by simp) _, by omega⟩;have := jb (w.alloc (.cells #[.slice An nn cn, .slice Ad nd cd] 30));rw [World.size_alloc] at this;exact this.congr (fun k => pV.symm)
 go_enter func127, ntmps127
 go_wp2_with fail
 clear AK;obtain ⟨mb, Ga⟩ := eX (w.heap.size + 1);rw [← Ga] at BG ⊢;have AL : w.heap.size + 1 ≤ mb := by omega
 clear Ga;generalize World.alloc (World.alloc _ _) _ = W at *
 go_loopg [17] nd (cJ w #[.slice An nn cn, .slice Ad nd cd] mb nd parts ds s)
 case atStart => exact ⟨0, rfl, Nat.zero_le _, rfl, BG⟩
 case round =>
  clear BG;obtain ⟨j, rfl, hj, rfl, hst⟩ := hrel;by_cases hlt : j < nd
  ·obtain ⟨b, off, x, rfl, hb, hx, hc⟩ := (HD.below hst.bl BP).at (fun _ => rfl) (by decide) hlt;have HX := iD hx;have Ms := HA x (List.mem_of_getElem? hx);obtain ⟨nm, kd, xa, xb, co⟩ := x;simp only at Ms;obtain ⟨a, rfl⟩ := Int.eq_ofNat_of_zero_le Ms.1;have Iw : a < nn := by omega
   have c0 : wr.cell? ⟨b, off + j * 5, none⟩ = some (.string nm) := hc 0 _ rfl;have c1 : wr.cell? ⟨b, off + j * 5 + 1, none⟩ = some (.int .i64 kd) := hc 1 _ rfl;have c2 : wr.cell? ⟨b, off + j * 5 + 2, none⟩ = some (.int .i64 a) := hc 2 _ rfl;have c3 : wr.cell? ⟨b, off + j * 5 + 3, none⟩ = some (.int .i64 xb) := hc 3 _ rfl;have c4 : wr.cell? ⟨b, off + j * 5 + 4, none⟩ = some (.int .i64 co) := hc 4 _ rfl;clear hc hx Ms;go_upto_region 5 with (fail);clear c0 c1 c2 c3 c4;have HK := iD (AJ.new wr 57 #[.string nm, .int .i64 kd, .int .i64 a, .int .i64 xb, .int .i64 co]);have BF := iD (hst.alloc (.cells #[.string nm, .int .i64 kd, .int .i64 a, .int .i64 xb, .int .i64 co] 57));generalize World.alloc _ _ = w1 at *;obtain ⟨bq, FQ⟩ := eX wr.heap.size;rw [← FQ] at HK ⊢;clear FQ hst;obtain ⟨sb, MQ, sx, rfl, Py, Jm, Uj⟩ := (HS.below BF.bl CJ).at1 (k := j) (by omega)
   obtain ⟨pb, Cn, p, rfl, Ob, Np, AG⟩ := (HP.below BF.bl AE).at1 (k := a) Iw;have CX := iD Jm; have KZ := iD Np
   have AH : 0 ≤ p ∧ p ≤ 10000 := by
    obtain ⟨q, h1, h2, _⟩ := Sa.2 a Iw;rw [Np] at h1;injection h1 with h1;omega
   clear Jm Np;have e1 := HK.c1;have e2 := HK.c2;by_cases h2 : sx = 2; rotate_left
   ·have q2 : (sx != 2) = true := by simpa using h2
    have PR := iD (BF.skip (fun k => (xf HX (fun K _ h => h2 (by have := h.1; rw [CX.out] at this; exact Option.some.inj this))).symm));clear h2
    go_wp2_with fail
    go_roundg (nd - (j + 1))
    ·exact ⟨j + 1, by go_num, by omega, rfl, PR⟩
    omega
   ·subst h2;have Eg := BF.mp.look p (by omega) (by omega);by_cases h4 : kd = 4
    ·subst h4;have Fz := qK HX CX rfl KZ.out;rcases vn (parts := parts) (ds := ds) (s := s) (j := j) (p := p) with e | e | e | e
     ·have hn := Fz.1 e;obtain ⟨w2, FW, EU, DD⟩ := BF.mp.put (by omega) p 2 (by omega) (by omega) (by decide) (by decide);have Ih := iD (BF.put (EU.congr (xr HX CX rfl KZ hn)) DD);rw [e] at Eg;clear hn EU DD Fz e;have Oc : bits BinOp.or IntKind.i64 0 2 = 2 := by kernel_rfl
      go_wp2_with fail
      go_roundg (nd - (j + 1))
      ·exact ⟨j + 1, by go_num, by omega, rfl, Ih⟩
      omega
     ·have hn := Fz.2.1 e;obtain ⟨w2, FW, EU, DD⟩ := BF.mp.put (by omega) p 3 (by omega) (by omega) (by decide) (by decide);have Ih := iD (BF.put (EU.congr (xr HX CX rfl KZ hn)) DD);rw [e] at Eg;clear hn EU DD Fz e;have Oc : bits BinOp.or IntKind.i64 1 2 = 3 := by kernel_rfl
      go_wp2_with fail
      go_roundg (nd - (j + 1))
      ·exact ⟨j + 1, by go_num, by omega, rfl, Ih⟩
      omega
     ·have hn := Fz.2.2.1 e;obtain ⟨w2, FW, EU, DD⟩ := BF.mp.put (by omega) p 2 (by omega) (by omega) (by decide) (by decide);have Ih := iD (BF.put (EU.congr (xr HX CX rfl KZ hn)) DD);rw [e] at Eg;clear hn EU DD Fz e;have Oc : bits BinOp.or IntKind.i64 2 2 = 2 := by kernel_rfl
      go_wp2_with fail
      go_roundg (nd - (j + 1))
      ·exact ⟨j + 1, by go_num, by omega, rfl, Ih⟩
      omega
     ·have hn := Fz.2.2.2 e;obtain ⟨w2, FW, EU, DD⟩ := BF.mp.put (by omega) p 3 (by omega) (by omega) (by decide) (by decide);have Ih := iD (BF.put (EU.congr (xr HX CX rfl KZ hn)) DD);rw [e] at Eg;clear hn EU DD Fz e;have Oc : bits BinOp.or IntKind.i64 3 2 = 3 := by kernel_rfl
      go_wp2_with fail
      go_roundg (nd - (j + 1))
      ·exact ⟨j + 1, by go_num, by omega, rfl, Ih⟩
      omega
    ·have q4 : (kd == 4) = false := by simpa using h4
     by_cases h5 : yg kd
     ·have Fz := pW HX CX h5 KZ.out
      have q5 : (kd == 5) = true ∨ (kd == 5) = false ∧ (kd == 6) = true := by
       rcases h5 with rfl | rfl
       ·exact .inl rfl
       ·exact .inr ⟨rfl, rfl⟩
      rcases vn (parts := parts) (ds := ds) (s := s) (j := j) (p := p) with e | e | e | e
      ·have hn := Fz.1 e;obtain ⟨w2, FW, EU, DD⟩ := BF.mp.put (by omega) p 1 (by omega) (by omega) (by decide) (by decide);have Ih := iD (BF.put (EU.congr (wM HX CX h5 KZ hn)) DD);rw [e] at Eg;clear hn EU DD Fz e;have Oc : bits BinOp.or IntKind.i64 0 1 = 1 := by kernel_rfl
       clear h5;rcases q5 with q5 | ⟨q5, q6⟩
       ·go_wp2_with fail
        go_roundg (nd - (j + 1))
        ·exact ⟨j + 1, by go_num, by omega, rfl, Ih⟩
        omega
       ·go_wp2_with fail
        go_roundg (nd - (j + 1))
        ·exact ⟨j + 1, by go_num, by omega, rfl, Ih⟩
        omega
      ·have hn := Fz.2.1 e;obtain ⟨w2, FW, EU, DD⟩ := BF.mp.put (by omega) p 1 (by omega) (by omega) (by decide) (by decide);have Ih := iD (BF.put (EU.congr (wM HX CX h5 KZ hn)) DD);rw [e] at Eg;clear hn EU DD Fz e;have Oc : bits BinOp.or IntKind.i64 1 1 = 1 := by kernel_rfl
       clear h5;rcases q5 with q5 | ⟨q5, q6⟩
       ·go_wp2_with fail
        go_roundg (nd - (j + 1))
        ·exact ⟨j + 1, by go_num, by omega, rfl, Ih⟩
        omega
       ·go_wp2_with fail
        go_roundg (nd - (j + 1))
        ·exact ⟨j + 1, by go_num, by omega, rfl, Ih⟩
        omega
      ·have hn := Fz.2.2.1 e;obtain ⟨w2, FW, EU, DD⟩ := BF.mp.put (by omega) p 3 (by omega) (by omega) (by decide) (by decide);have Ih := iD (BF.put (EU.congr (wM HX CX h5 KZ hn)) DD);rw [e] at Eg;clear hn EU DD Fz e;have Oc : bits BinOp.or IntKind.i64 2 1 = 3 := by kernel_rfl
       clear h5;rcases q5 with q5 | ⟨q5, q6⟩
       ·go_wp2_with fail
        go_roundg (nd - (j + 1))
        ·exact ⟨j + 1, by go_num, by omega, rfl, Ih⟩
        omega
       ·go_wp2_with fail
        go_roundg (nd - (j + 1))
        ·exact ⟨j + 1, by go_num, by omega, rfl, Ih⟩
        omega
      ·have hn := Fz.2.2.2 e;obtain ⟨w2, FW, EU, DD⟩ := BF.mp.put (by omega) p 3 (by omega) (by omega) (by decide) (by decide);have Ih := iD (BF.put (EU.congr (wM HX CX h5 KZ hn)) DD);rw [e] at Eg;clear hn EU DD Fz e;have Oc : bits BinOp.or IntKind.i64 3 1 = 3 := by kernel_rfl
       clear h5;rcases q5 with q5 | ⟨q5, q6⟩
       ·go_wp2_with fail
        go_roundg (nd - (j + 1))
        ·exact ⟨j + 1, by go_num, by omega, rfl, Ih⟩
        omega
       ·go_wp2_with fail
        go_roundg (nd - (j + 1))
        ·exact ⟨j + 1, by go_num, by omega, rfl, Ih⟩
        omega
     ·have q5 : (kd == 5) = false := by unfold yg at h5; simp; omega
      have q6 : (kd == 6) = false := by unfold yg at h5; simp; omega
      have PR := iD (BF.skip (fun k => (xf HX (fun K hK h => by
       rcases hK with rfl | rfl
       ·exact h5 h.2.1
       ·exact h4 h.2.1)).symm))
      clear h4 h5 Eg
      go_wp2_with fail
      go_roundg (nd - (j + 1))
      ·exact ⟨j + 1, by go_num, by omega, rfl, PR⟩
      omega
  ·obtain rfl : j = nd := by omega
   have IV : decide (j < j) = false := by simp
   have k0 := hst.bx.c0;have FX := vf nn (by omega) wr;have HO := iD (tZ (w := wr) (base := mb + 1) (n := nn) hst.mp.lt (by omega));have BF := iD (hst.alloc (.cells (zE (List.replicate nn 0)).toArray 3));clear hst
   go_wp2_with fail
   clear FX k0 IV;generalize World.alloc _ _ = w1 at *;obtain ⟨go, hgo⟩ := eX wr.heap.size;rw [← hgo] at HO ⊢;clear hgo
   go_loopg [64] nn (cI w #[.slice An nn cn, .slice Ad j cd] mb j nn go parts (zK parts ds s j))
   case atStart => exact ⟨0, _, rfl, Nat.zero_le _, rfl, BF, HO, fun i q hi => absurd hi (by omega)⟩
   case round =>
    clear BF HO;obtain ⟨i, out, rfl, hi, rfl, hst, ho, hf⟩ := hrel;by_cases AA : i < nn
    ·obtain ⟨pb, Cn, p, rfl, Ob, Np, AG⟩ := (HP.below hst.bl AE).at1 (k := i) AA
     have AH : 0 ≤ p ∧ p ≤ 10000 := by
      obtain ⟨q, h1, h2, _⟩ := Sa.2 i AA;rw [Np] at h1;injection h1 with h1;omega
     have KZ := iD Np; clear Np;have Eg := hst.mp.look p (by omega) (by omega);obtain ⟨g, x, hA, Av, DD, hx, hcell, AQ, Md⟩ := ho.at AA;injection hA with hA;injection hA with hA;subst hA;clear hx;have Iz := iD ho.len;have TV := hst.ge
     have EM : Hid (ue w #[.slice An nn cn, .slice Ad j cd] mb j (zK parts ds s j) (wr.setCell ⟨go, i, none⟩ (.int .i64 (zK parts ds s j p)))) :=
      ⟨hst.bx.far (by simp; omega) _, hst.mp.kept (zg wr _ _) (by simp; omega), hst.bl.setCell (by simp; omega) _, TV⟩
     have AB := iD (Md (zK parts ds s j p));clear Md
     have HF : Hid (∀ (y : Nat) (q : Int), y < i + 1 → parts[y]? = some q → (out.set i (zK parts ds s j p))[y]? = some (zK parts ds s j q)) := by
      intro y q hy hq;rw [List.getElem?_set];split
      ·rename_i e
       subst e;rw [if_pos (by rw [Iz.out]; exact AA)];rw [KZ.out] at hq;injection hq with hq;rw [hq]
      ·exact hf y q (by omega) hq
     generalize zK parts ds s j p = bp at *
     go_wp2_with fail
     go_roundg (nn - (i + 1))
     ·exact ⟨i + 1, _, by go_num, by omega, rfl, EM, AB, HF⟩
     omega
    ·obtain rfl : i = nn := by omega
     have Cw : decide (i < i) = false := by simp
     go_wp2_with fail
     go_ret;refine ⟨_, out, rfl, ho.mono (by omega), ⟨ho.len, fun v hv => ?_⟩, hst.bl⟩;obtain ⟨q, h1, _⟩ := Sa.2 v hv;rw [hf.out v q hv h1, ← mL Sa.out HA.out hv h1, FL.out]
def zX (l : List Int) (d p : Int) : List Int := if 0 ≤ d ∧ d < l.length then l.set d.toNat p else l
theorem xD (l : List Int) (d p : Int) : (zX l d p).length = l.length := by unfold zX; split <;> simp
theorem yt {w w' : World} {l : List Int} {A : Option Addr} {n c : Nat} (hl : l.length = n) (h : zL w' w.heap.size A n c l) (hb : bW w w') : xB w l (.returned (.slice A n c)) w' := by subst hl; exact ⟨A, c, rfl, h, hb⟩
theorem tG (A : Option Addr) (n c B : Nat) (l : List Int) (d p : Int) (w : World) (hs : Sl w B 1 A n c (zE l)) (hB : B ≤ w.heap.size) (hn : n ≤ 1000000) : Calls prog 150 #[.slice A n c, .int .i64 d, .int .i64 p] w (xB w (zX l d p)) := by
 have HL := iD (hs.len (fun _ => rfl) (by decide));have HC := iD (yo A n c B l w hs hB hn);clear hs;by_cases h0 : 0 ≤ d
 ·by_cases h1 : d < n
  ·obtain ⟨k, rfl⟩ := Int.eq_ofNat_of_zero_le h0;have HW : Hid (zX l k p = l.set k p) := by unfold Hid zX; rw [if_pos ⟨h0, by rw [HL.out]; exact h1⟩]; rfl
   go_enter func150, ntmps150
   go_wp2_with fail
   refine HC.mono ?_;rintro e w1 ⟨A1, c1, rfl, hO, hb⟩;rw [HL.out] at hO ⊢;obtain ⟨g, x, rfl, Av, DD, hx, hcell, AK, hst⟩ := hO.at (i := k) (by omega);have BG := iD (hst p);clear hst hx;have Bq : n ≤ 9223372036854775807 := by omega
   have Gx : k < n := by omega
   go_wp2_with fail
   go_ret;exact yt (by rw [HW.out, List.length_set, HL.out]) (by rw [HW.out]; exact BG) (hb.setCell Av _)
  ·have q1 : decide (d < (n : Int)) = false := by simpa using h1
   have HW : Hid (zX l d p = l) := by unfold Hid zX; rw [if_neg (by rw [HL.out]; omega)]
   go_enter func150, ntmps150
   go_wp2_with fail
   refine HC.mono ?_;rintro e w1 ⟨A1, c1, rfl, hO, hb⟩;rw [HL.out] at hO ⊢;have Bq : n ≤ 9223372036854775807 := by omega
   go_wp2_with fail
   go_ret;exact yt (by rw [HW.out, HL.out]) (by rw [HW.out]; exact hO) hb.out
 ·have q0 : decide (0 ≤ d) = false := by simpa using h0
  have HW : Hid (zX l d p = l) := by unfold Hid zX; rw [if_neg (by omega)]
  go_enter func150, ntmps150
  go_wp2_with fail
  refine HC.mono ?_;rintro e w1 ⟨A1, c1, rfl, hO, hb⟩;rw [HL.out] at hO ⊢
  go_wp2_with fail
  go_ret;exact yt (by rw [HW.out, HL.out]) (by rw [HW.out]; exact hO) hb.out
def gU (w : World) (nn : Nat) (ds : List Dv) (s : List Int) (e : Ending) (w' : World) : Prop :=
 ∃ (A B : Option Addr) (p c : List Int), e = .returned (.tuple #[.slice A nn nn, .slice B nn nn]) ∧ Hid (zL w' w.heap.size A nn nn p) ∧ Hid (zL w' w.heap.size B nn nn c) ∧ Hid (yW nn ds s p) ∧ Hid (wJ nn ds s c) ∧ Hid (Below w.heap.size w w')
theorem vX (An Ad As : Option Addr) (nn cn nd cd n c Bd Bs : Nat) (ds : List Dv) (s : List Int) (w : World)
 (hd : Sl w Bd 5 Ad nd cd (ds.flatMap Dv.cells)) (BP : Bd ≤ w.heap.size) (hs : Sl w Bs 1 As n c (zE s)) (CJ : Bs ≤ w.heap.size) (Bq : nn ≤ 10000) (AB : nd ≤ 10000) (hn : nd ≤ n) (Ae : yf nn ds) (hA : Im nn ds) :
 Calls prog 102 #[.agg #[.slice An nn cn, .slice Ad nd cd], .slice As n c] w (gU w nn ds s) := by
 have HD := iD hd; have HS := iD hs; have HE := iD Ae; have HA := iD hA;clear hd hs Ae hA;have HB : Hid (Below w.heap.size w (w.alloc (.cells #[.slice An nn cn, .slice Ad nd cd] 30))) := (Below.refl _ _).alloc lR _;have HK := iD (AJ.new w 30 #[.slice An nn cn, .slice Ad nd cd])
 go_enter func102, ntmps102
 go_wp2_with fail
 generalize World.alloc _ _ = W at *;have hz := HB.size;refine (jD An Ad As nn cn nd cd n c Bd Bs ds s W (HD.below HB BP) (by omega) (HS.below HB CJ) (by omega) Bq hn HE).mono ?_;rintro e w1 ⟨A, p, rfl, hO, hP, AV⟩;have AQ := iD (HB.trans (AV.mono hz));have De := iD (HK.below AV HK.lt);have ER := AQ.size;clear AV HB HK;obtain ⟨k0, k1⟩ := De.d2
 go_wp2_with fail
 clear k0 k1;refine (mC An Ad As A nn cn nd cd n c nn Bd Bs w1.heap.size ds s p w1 (HD.below AQ BP) (by omega) (HS.below AQ CJ) (by omega) hO.sl lR Bq AB hn HA hP).mono ?_;rintro e w2 ⟨B, q, rfl, Dc, hC, AZ⟩
 go_wp2_with fail
 go_ret2;exact ⟨A, B, p, q, rfl, (hO.later AZ).mono hz, Dc.mono ER, hP, hC, AQ.trans (AZ.mono ER)⟩
def xP (x : Int) : Bool := !(bits BinOp.and IntKind.i64 x 1 == 0)
def Cg (An : Option Addr) (nn cn : Nat) (Ad : Option Addr) (nd cd : Nat) (nm : ByteArray) (kd a b co : Int) (Ap Ao Ac : Option Addr) : Array Value :=
 #[.slice An nn cn, .slice Ad nd cd, .string nm, .int .i64 kd, .int .i64 a, .int .i64 b, .int .i64 co, .slice Ap nn nn, .slice Ao nn nn, .slice Ac nn nn]
structure uc (w : World) (nn : Nat) (kd a b : Int) (Ap Ao Ac : Option Addr) (parts op cl : List Int) : Prop where
 hp : BI w 1 Ap nn nn (zE parts)
 ho : BI w 1 Ao nn nn (zE op)
 hc : BI w 1 Ac nn nn (zE cl)
 a0 : 0 ≤ a ∧ a < nn
 b0 : zV kd = true → 0 ≤ b ∧ b < nn
 n0 : nn ≤ 10000
section
variable {w w' : World} {nn : Nat} {kd a b : Int} {Ap Ao Ac : Option Addr} {parts op cl : List Int}
theorem uc.later (h : uc w nn kd a b Ap Ao Ac parts op cl) (hb : bW w w') : uc w' nn kd a b Ap Ao Ac parts op cl :=
 ⟨(h.hp.below hb lR).more hb.size, (h.ho.below hb lR).more hb.size, (h.hc.below hb lR).more hb.size, h.a0, h.b0, h.n0⟩
theorem uc.alloc (h : uc w nn kd a b Ap Ao Ac parts op cl) (o : Obj) : uc (w.alloc o) nn kd a b Ap Ao Ac parts op cl := h.later ((Below.refl _ _).alloc lR _)
end
theorem yB {l : List Int} {k : Nat} {x : Int} (h : l[k]? = some x) : l.getD k 0 = x := by rw [List.getD_eq_getElem?_getD, h]; rfl
theorem sH (vb nn : Nat) (Ao : Option Addr) (op : List Int) (v : Int) (w : World) (hc : w.cell? ⟨vb, 8, none⟩ = some (.slice Ao nn nn)) (ho : BI w 1 Ao nn nn (zE op)) (hv : 0 ≤ v ∧ v < nn) :
 Calls prog 227 #[.int .i64 v, .pointer (some ⟨vb, 0, none⟩)] w fun e w' => e = .returned (.bool (xP (op.getD v.toNat 0))) ∧ w = w' := by
 obtain ⟨k, rfl⟩ := Int.eq_ofNat_of_zero_le hv.1;obtain ⟨b, off, x, rfl, hb, hx, Ir⟩ := ho.at1 (k := k) (by omega);have hm := ho.le;have HL : Hid (xP (op.getD (k : Int).toNat 0) = !(bits BinOp.and IntKind.i64 x 1 == 0)) := by unfold Hid; rw [Int.toNat_natCast, yB hx]; rfl
 have Gx : k < nn := by omega
 clear ho hx
 go_enter func227, ntmps227
 go_wp2_with fail
 go_ret;exact ⟨zF (by rw [HL.out]; rfl), rfl⟩
def yy (kd a b : Int) (cl : List Int) : Bool := (cl.getD a.toNat 0 == 3) || (zV kd && (cl.getD b.toNat 0 == 3))
theorem jR (An Ad Ap Ao Ac : Option Addr) (nn cn nd cd : Nat) (nm : ByteArray) (kd a b co : Int) (parts op cl : List Int) (w : World) (h : uc w nn kd a b Ap Ao Ac parts op cl) :
 Calls prog 189 #[.agg (Cg An nn cn Ad nd cd nm kd a b co Ap Ao Ac)] w fun e w' => e = .returned (.bool (yy kd a b cl)) ∧ bW w w' := by
 have ha := h.a0;have hn := h.n0;obtain ⟨ka, rfl⟩ := Int.eq_ofNat_of_zero_le ha.1;obtain ⟨cb, Vg, x, rfl, TZ, hx, Ir⟩ := (h.alloc (.cells (Cg An nn cn Ad nd cd nm kd ka b co Ap Ao Ac) 219)).hc.at1 (k := ka) (by omega);have HX : Hid (cl.getD (ka : Int).toNat 0 = x) := by unfold Hid; rw [Int.toNat_natCast, yB hx]
 have AH : ka < nn := by omega
 have HB : Hid (Below w.heap.size w (w.alloc (.cells (Cg An nn cn Ad nd cd nm kd ka b co Ap Ao (some ⟨cb, Vg, none⟩)) 219))) := (Below.refl _ _).alloc lR _;have HF : Hid (yy kd ka b cl = ((x == 3) || (zV kd && (cl.getD b.toNat 0 == 3)))) := by unfold Hid yy; rw [HX.out]
 have Cq := iD (wD kd);have HO := iD h;clear h hx;simp only [Cg] at Ir HB ⊢;by_cases h3 : x = 3
 ·subst h3
  go_enter func189, ntmps189
  go_wp2_with fail
  go_ret;exact ⟨zF (by rw [HF.out]; rfl), HB⟩
 ·have q3 : (x == 3) = false := by simpa using h3
  rcases hj : zV kd with _ | _
  ·rw [hj] at Cq HF;clear hj
   go_enter func189, ntmps189
   go_wp2_with fail
   refine (Cq _).mono ?_;rintro e w1 ⟨rfl, rfl⟩
   go_wp2_with fail
   go_ret;exact ⟨zF (by rw [HF.out, q3]; rfl), HB⟩
  ·have Fe := HO.b0 hj;rw [hj] at Cq HF;clear hj;obtain ⟨kb, rfl⟩ := Int.eq_ofNat_of_zero_le Fe.1;obtain ⟨AL, AA, y, Cc, AE, hy, JV⟩ := (HO.alloc (.cells (Cg An nn cn Ad nd cd nm kd ka kb co Ap Ao (some ⟨cb, Vg, none⟩)) 219)).hc.at1 (k := kb) (by omega);injection Cc with Cc;injection Cc with h1 h2;subst h1 h2;have HY : Hid (cl.getD (kb : Int).toNat 0 = y) := by unfold Hid; rw [Int.toNat_natCast, yB hy]
   rw [HY.out] at HF;have AG : kb < nn := by omega
   clear hy;simp only [Cg] at JV
   go_enter func189, ntmps189
   go_wp2_with fail
   refine (Cq _).mono ?_;rintro e w1 ⟨rfl, rfl⟩
   go_wp2_with fail
   go_ret;exact ⟨zF (by rw [HF.out, q3]; simp), HB⟩
def JM (op : List Int) (v : Int) : Bool := xP (op.getD v.toNat 0)
def FC (kd a b : Int) (parts : List Int) : Bool := if kd = 4 then false else if zV kd = false then true else !(parts.getD a.toNat 0 == parts.getD b.toNat 0)
def EZ (kd a : Int) (op : List Int) : Bool := if kd = 4 then false else if zV kd = false then true else JM op a
def Ev (kd a b : Int) (op : List Int) : Bool := if kd = 4 then false else if zV kd = false then JM op a else JM op b
def KH (kd a : Int) : Int := if kd = 4 then 0 else if zV kd = false then -1 else a
def Jk (kd a b : Int) : Int := if kd = 4 then 0 else if zV kd = false then a else b
theorem zw (W : World) (p c : Nat) (h : c ≠ p) (i j k : Nat) (u v : Value) : ((W.setCell ⟨p, i, none⟩ u).setCell ⟨p, j, none⟩ v).cell? ⟨c, k, none⟩ = W.cell? ⟨c, k, none⟩ :=
 (World.cell?_setCell_other _ _ _ _ (fun e => h (by injection e with e1; exact e1.symm))).trans (World.cell?_setCell_other _ _ _ _ (fun e => h (by injection e with e1; exact e1.symm)))
def uY (w : World) (l0 l1 ok : Bool) (n0 n1 : Int) (e : Ending) (w' : World) : Prop := e = .returned (.tuple #[.agg #[.bool l0, .bool l1], .agg #[.int .i64 n0, .int .i64 n1], .bool ok]) ∧ bW w w'
theorem oo (An Ad Ap Ao Ac : Option Addr) (nn cn nd cd : Nat) (nm : ByteArray) (kd a b co : Int) (parts op cl : List Int) (w : World) (h : uc w nn kd a b Ap Ao Ac parts op cl) (h4 : kd = 4) :
 Calls prog 216 #[.agg (Cg An nn cn Ad nd cd nm kd a b co Ap Ao Ac)] w (uY w (EZ kd a op) (Ev kd a b op) (FC kd a b parts) (KH kd a) (Jk kd a b)) := by
 subst h4;have HB : Hid (Below w.heap.size w (((w.alloc (.cells (Cg An nn cn Ad nd cd nm 4 a b co Ap Ao Ac) 219)).alloc (.cells #[.bool false, .bool false] 239)).alloc (.cells #[.int .i64 0, .int .i64 0] 240))) := (((Below.refl _ _).alloc lR _).alloc (by simp) _).alloc (by simp; omega) _;have HV : Hid (AJ (((w.alloc (.cells (Cg An nn cn Ad nd cd nm 4 a b co Ap Ao Ac) 219)).alloc (.cells #[.bool false, .bool false] 239)).alloc (.cells #[.int .i64 0, .int .i64 0] 240)) w.heap.size 219 (Cg An nn cn Ad nd cd nm 4 a b co Ap Ao Ac)) := ((AJ.new w _ _).alloc _).alloc _
 have H1 : Hid (AJ (((w.alloc (.cells (Cg An nn cn Ad nd cd nm 4 a b co Ap Ao Ac) 219)).alloc (.cells #[.bool false, .bool false] 239)).alloc (.cells #[.int .i64 0, .int .i64 0] 240)) (w.heap.size + 1) 239 #[.bool false, .bool false]) := by
  have := AJ.new (w.alloc (.cells (Cg An nn cn Ad nd cd nm 4 a b co Ap Ao Ac) 219)) 239 #[.bool false, .bool false];rw [World.size_alloc] at this;exact this.alloc _
 have H2 : Hid (AJ (((w.alloc (.cells (Cg An nn cn Ad nd cd nm 4 a b co Ap Ao Ac) 219)).alloc (.cells #[.bool false, .bool false] 239)).alloc (.cells #[.int .i64 0, .int .i64 0] 240)) (w.heap.size + 1 + 1) 240 #[.int .i64 0, .int .i64 0]) := by
  have := AJ.new ((w.alloc (.cells (Cg An nn cn Ad nd cd nm 4 a b co Ap Ao Ac) 219)).alloc (.cells #[.bool false, .bool false] 239)) 240 #[.int .i64 0, .int .i64 0];simp only [World.size_alloc] at this;exact this
 have HO := iD (h.later HB);have AB := iD h;clear h;have QE : ∀ (fn : Fn) (first cap : Array Value) (w : World), (Instr.makeFunc fn first cap).run prog w = .ok (.func fn first cap) w := fun _ _ _ _ => rfl
 simp only [Cg] at HB HV H1 H2 HO ⊢;have Cq := iD (wD 4)
 go_enter func216, ntmps216
 go_upto_region 2 with (fail);clear QE;generalize World.alloc (World.alloc (World.alloc _ _) _) _ = W at *;obtain ⟨vb, Dt⟩ := eX w.heap.size;rw [← Dt] at H1 H2 HV ⊢;have PN := iD Dt; clear Dt;have e3 := HV.c3;obtain ⟨TJ, TI⟩ := H1.d2;obtain ⟨z20, z21⟩ := H2.d2;obtain ⟨f10, f11⟩ := H1.e2;obtain ⟨f20, f21⟩ := H2.e2;have AE : w.heap.size ≤ vb := Nat.le_of_eq PN.symm;go_upto_region 3 with (fail);clear e3;have HE : Hid (EZ 4 a op = false ∧ Ev 4 a b op = false ∧ KH 4 a = 0 ∧ Jk 4 a b = 0 ∧ FC 4 a b parts = false) := by unfold Hid EZ Ev KH Jk FC; simp
 have Lj : Hid (Below w.heap.size w (((((W.setCell ⟨vb + 1, 0, none⟩ (.bool false)).setCell ⟨vb + 1, 1, none⟩ (.bool false)).setCell ⟨vb + 1 + 1, 0, none⟩ (.int .i64 0)).setCell ⟨vb + 1 + 1, 1, none⟩ (.int .i64 0)).drew)) := (((((HB.setCell (by simp; omega) _).setCell (by simp; omega) _).setCell (by simp; omega) _).setCell (by simp; omega) _).drew);refine fv (fun W' => W'.cell? ⟨vb + 1, 0, none⟩ = some (.bool false) ∧ W'.cell? ⟨vb + 1, 1, none⟩ = some (.bool false) ∧ W'.cell? ⟨vb + 1 + 1, 0, none⟩ = some (.int .i64 0) ∧ W'.cell? ⟨vb + 1 + 1, 1, none⟩ = some (.int .i64 0)) [3, 4] ?_ fun AA => ?_
 ·exact ⟨TJ, TI, z20, z21⟩
 try dsimp only at AA
 refine tk 0 12 (mf 5 1) AA ?_;refine tk 1 13 (mf 5 2) AA ?_;refine tb 2 (mf 5 3) fun K hK => ?_
 go_simp
 refine hK _ _ (fun _ => ⟨((H1.set 0 _).set 1 _).cell 0, ((H1.set 0 _).set 1 _).cell 1, (zw W (vb + 1) _ (by omega) _ _ _ _ _).trans z20, (zw W (vb + 1) _ (by omega) _ _ _ _ _).trans z21⟩) fun p => (fun AA => ?_) (p rfl)
 clear p hK K;(try dsimp only at AA);refine tb 3 (mf 5 4) fun K hK => ?_
 go_simp
 refine hK _ _ (fun h => by cases h) (fun _ => ?_)
 try clear AA
 clear hK K;refine tb 4 (mf 5 5) fun K hK => ?_
 go_simp
 refine hK _ _ (fun h => by cases h) (fun _ => ?_)
 try clear AA
 clear hK K;refine tK ?_
 go_wp2_with fail
 exact bodyPost_ret (v := .tuple #[.agg #[.bool false, .bool false], .agg #[.int .i64 0, .int .i64 0], .bool false]) (by simp [results, results216, go_sem, TJ, TI, z20, z21]; try rfl) rfl ⟨by rw [HE.1, HE.2.1, HE.2.2.1, HE.2.2.2.1, HE.2.2.2.2], Lj⟩
theorem mZ (An Ad Ap Ao Ac : Option Addr) (nn cn nd cd : Nat) (nm : ByteArray) (kd a b co : Int) (parts op cl : List Int) (w : World) (h : uc w nn kd a b Ap Ao Ac parts op cl) (h4 : ¬ kd = 4) (hj : zV kd = false) :
 Calls prog 216 #[.agg (Cg An nn cn Ad nd cd nm kd a b co Ap Ao Ac)] w (uY w (EZ kd a op) (Ev kd a b op) (FC kd a b parts) (KH kd a) (Jk kd a b)) := by
 have HB : Hid (Below w.heap.size w (((w.alloc (.cells (Cg An nn cn Ad nd cd nm kd a b co Ap Ao Ac) 219)).alloc (.cells #[.bool false, .bool false] 239)).alloc (.cells #[.int .i64 0, .int .i64 0] 240))) := (((Below.refl _ _).alloc lR _).alloc (by simp) _).alloc (by simp; omega) _;have HV : Hid (AJ (((w.alloc (.cells (Cg An nn cn Ad nd cd nm kd a b co Ap Ao Ac) 219)).alloc (.cells #[.bool false, .bool false] 239)).alloc (.cells #[.int .i64 0, .int .i64 0] 240)) w.heap.size 219 (Cg An nn cn Ad nd cd nm kd a b co Ap Ao Ac)) := ((AJ.new w _ _).alloc _).alloc _
 have H1 : Hid (AJ (((w.alloc (.cells (Cg An nn cn Ad nd cd nm kd a b co Ap Ao Ac) 219)).alloc (.cells #[.bool false, .bool false] 239)).alloc (.cells #[.int .i64 0, .int .i64 0] 240)) (w.heap.size + 1) 239 #[.bool false, .bool false]) := by
  have := AJ.new (w.alloc (.cells (Cg An nn cn Ad nd cd nm kd a b co Ap Ao Ac) 219)) 239 #[.bool false, .bool false];rw [World.size_alloc] at this;exact this.alloc _
 have H2 : Hid (AJ (((w.alloc (.cells (Cg An nn cn Ad nd cd nm kd a b co Ap Ao Ac) 219)).alloc (.cells #[.bool false, .bool false] 239)).alloc (.cells #[.int .i64 0, .int .i64 0] 240)) (w.heap.size + 1 + 1) 240 #[.int .i64 0, .int .i64 0]) := by
  have := AJ.new ((w.alloc (.cells (Cg An nn cn Ad nd cd nm kd a b co Ap Ao Ac) 219)).alloc (.cells #[.bool false, .bool false] 239)) 240 #[.int .i64 0, .int .i64 0];simp only [World.size_alloc] at this;exact this
 have HO := iD (h.later HB);have AB := iD h;clear h;have QE : ∀ (fn : Fn) (first cap : Array Value) (w : World), (Instr.makeFunc fn first cap).run prog w = .ok (.func fn first cap) w := fun _ _ _ _ => rfl
 simp only [Cg] at HB HV H1 H2 HO ⊢;have Cq := iD (wD kd)
 go_enter func216, ntmps216
 go_upto_region 2 with (fail);clear QE;generalize World.alloc (World.alloc (World.alloc _ _) _) _ = W at *;obtain ⟨vb, Dt⟩ := eX w.heap.size;rw [← Dt] at H1 H2 HV ⊢;have PN := iD Dt; clear Dt;have e3 := HV.c3;obtain ⟨TJ, TI⟩ := H1.d2;obtain ⟨z20, z21⟩ := H2.d2;obtain ⟨f10, f11⟩ := H1.e2;obtain ⟨f20, f21⟩ := H2.e2;have AE : w.heap.size ≤ vb := Nat.le_of_eq PN.symm;have q4 : (kd == 4) = false := by simpa using h4
 have Ho := HO.a0;have e4 := HV.c4;have e8 := HV.c8;have CB := iD HB.out;have HE : Hid (EZ kd a op = true ∧ Ev kd a b op = xP (op.getD a.toNat 0) ∧ KH kd a = -1 ∧ Jk kd a b = a ∧ FC kd a b parts = true) := by unfold Hid EZ Ev KH Jk FC JM; simp [h4, hj]
 rw [hj] at Cq;clear hj
 go_wp2_with fail
 refine (Cq _).mono ?_;rintro e w1 ⟨rfl, rfl⟩;go_upto_region 5 with (fail);clear e3;have Lj : Hid (Below w.heap.size w (((((W.setCell ⟨vb + 1, 0, none⟩ (.bool true)).setCell ⟨vb + 1, 1, none⟩ (.bool (xP (op.getD a.toNat 0)))).setCell ⟨vb + 1 + 1, 0, none⟩ (.int .i64 (-1))).setCell ⟨vb + 1 + 1, 1, none⟩ (.int .i64 a)).drew)) := (((((HB.setCell (by simp; omega) _).setCell (by simp; omega) _).setCell (by simp; omega) _).setCell (by simp; omega) _).drew);refine fv (fun W' => W'.cell? ⟨vb, 4, none⟩ = some (.int .i64 a)) [] ?_ fun AA => ?_
 ·exact e4
 try dsimp only at AA
 refine tk 0 20 (mf 13 1) AA ?_;refine tk 1 21 (mf 13 2) AA ?_;refine tk 2 22 (mf 13 3) AA ?_;refine tk 3 23 (mf 13 4) AA ?_;refine tk 6 26 (ma 13 79) AA ?_;refine tk 7 27 (ma 13 207) AA ?_;refine tk 8 28 (ma 13 463) AA ?_;refine tk 9 29 (ma 13 975) AA ?_;refine tb 4 (ma 13 991) fun K hK => ?_
 (go_simp; refine (sH vb nn Ao op a W.drew e8 HO.ho Ho).mono ?_; rintro e w3 ⟨rfl, rfl⟩; go_simp)
 refine hK _ _ (fun _ => AA) fun p => (fun AA => ?_) (p rfl)
 clear p hK K;(try dsimp only at AA);refine tk 5 25 (mf 13 10) AA ?_;refine tb 10 (mf 13 11) fun K hK => ?_
 go_simp
 refine hK _ _ (fun _ => (zw W (vb + 1) _ (by omega) _ _ _ _ _).trans e4) fun p => (fun AA => ?_) (p rfl)
 clear p hK K;(try dsimp only at AA);refine tb 11 (mf 13 12) fun K hK => ?_
 go_simp
 refine hK _ _ (fun _ => (zw _ (vb + 1 + 1) _ (by omega) _ _ _ _ _).trans ((zw W (vb + 1) _ (by omega) _ _ _ _ _).trans e4)) fun p => (fun AA => ?_) (p rfl)
 clear p hK K;(try dsimp only at AA);refine tb 12 (mf 13 13) fun K hK => ?_
 go_simp
 refine hK _ _ (fun _ => AA) fun p => (fun AA => ?_) (p rfl)
 clear p hK K;(try dsimp only at AA);refine tK ?_
 go_wp2_with fail
 exact bodyPost_ret (v := .tuple #[.agg #[.bool true, .bool (xP (op.getD a.toNat 0))], .agg #[.int .i64 (-1), .int .i64 a], .bool true]) (by simp [results, results216, go_sem, TJ, TI, z20, z21]; try rfl) rfl ⟨by rw [HE.1, HE.2.1, HE.2.2.1, HE.2.2.2.1, HE.2.2.2.2], Lj⟩
theorem mc (An Ad Ap Ao Ac : Option Addr) (nn cn nd cd : Nat) (nm : ByteArray) (kd a b co : Int) (parts op cl : List Int) (w : World) (h : uc w nn kd a b Ap Ao Ac parts op cl) (h4 : ¬ kd = 4) (hj : zV kd = true) :
 Calls prog 216 #[.agg (Cg An nn cn Ad nd cd nm kd a b co Ap Ao Ac)] w (uY w (EZ kd a op) (Ev kd a b op) (FC kd a b parts) (KH kd a) (Jk kd a b)) := by
 have HB : Hid (Below w.heap.size w (((w.alloc (.cells (Cg An nn cn Ad nd cd nm kd a b co Ap Ao Ac) 219)).alloc (.cells #[.bool false, .bool false] 239)).alloc (.cells #[.int .i64 0, .int .i64 0] 240))) := (((Below.refl _ _).alloc lR _).alloc (by simp) _).alloc (by simp; omega) _;have HV : Hid (AJ (((w.alloc (.cells (Cg An nn cn Ad nd cd nm kd a b co Ap Ao Ac) 219)).alloc (.cells #[.bool false, .bool false] 239)).alloc (.cells #[.int .i64 0, .int .i64 0] 240)) w.heap.size 219 (Cg An nn cn Ad nd cd nm kd a b co Ap Ao Ac)) := ((AJ.new w _ _).alloc _).alloc _
 have H1 : Hid (AJ (((w.alloc (.cells (Cg An nn cn Ad nd cd nm kd a b co Ap Ao Ac) 219)).alloc (.cells #[.bool false, .bool false] 239)).alloc (.cells #[.int .i64 0, .int .i64 0] 240)) (w.heap.size + 1) 239 #[.bool false, .bool false]) := by
  have := AJ.new (w.alloc (.cells (Cg An nn cn Ad nd cd nm kd a b co Ap Ao Ac) 219)) 239 #[.bool false, .bool false];rw [World.size_alloc] at this;exact this.alloc _
 have H2 : Hid (AJ (((w.alloc (.cells (Cg An nn cn Ad nd cd nm kd a b co Ap Ao Ac) 219)).alloc (.cells #[.bool false, .bool false] 239)).alloc (.cells #[.int .i64 0, .int .i64 0] 240)) (w.heap.size + 1 + 1) 240 #[.int .i64 0, .int .i64 0]) := by
  have := AJ.new ((w.alloc (.cells (Cg An nn cn Ad nd cd nm kd a b co Ap Ao Ac) 219)).alloc (.cells #[.bool false, .bool false] 239)) 240 #[.int .i64 0, .int .i64 0];simp only [World.size_alloc] at this;exact this
 have HO := iD (h.later HB);have AB := iD h;clear h;have QE : ∀ (fn : Fn) (first cap : Array Value) (w : World), (Instr.makeFunc fn first cap).run prog w = .ok (.func fn first cap) w := fun _ _ _ _ => rfl
 simp only [Cg] at HB HV H1 H2 HO ⊢;have Cq := iD (wD kd)
 go_enter func216, ntmps216
 go_upto_region 2 with (fail);clear QE;generalize World.alloc (World.alloc (World.alloc _ _) _) _ = W at *;obtain ⟨vb, Dt⟩ := eX w.heap.size;rw [← Dt] at H1 H2 HV ⊢;have PN := iD Dt; clear Dt;have e3 := HV.c3;obtain ⟨TJ, TI⟩ := H1.d2;obtain ⟨z20, z21⟩ := H2.d2;obtain ⟨f10, f11⟩ := H1.e2;obtain ⟨f20, f21⟩ := H2.e2;have AE : w.heap.size ≤ vb := Nat.le_of_eq PN.symm;have q4 : (kd == 4) = false := by simpa using h4
 have Ho := HO.a0;have e4 := HV.c4;have e8 := HV.c8;have CB := iD HB.out;have Fe := HO.b0 hj;have e5 := HV.c5;have e7 := HV.c7;obtain ⟨ka, rfl⟩ := Int.eq_ofNat_of_zero_le Ho.1;obtain ⟨kb, rfl⟩ := Int.eq_ofNat_of_zero_le Fe.1;have Hg := HO.n0;have AL : ka < nn := by omega
 have AK : kb < nn := by omega
 obtain ⟨pb, Cn, x, rfl, Ob, hx, Ir⟩ := AB.hp.at1 AL;obtain ⟨UR, JK, y, Cc, Uq, hy, JV⟩ := AB.hp.at1 AK;injection Cc with Cc;injection Cc with h1 h2;subst h1 h2
 have HE : Hid (EZ kd ka op = xP (op.getD (ka : Int).toNat 0) ∧ Ev kd ka kb op = xP (op.getD (kb : Int).toNat 0) ∧ KH kd ka = ka ∧ Jk kd ka kb = kb ∧ FC kd ka kb parts = !(x == y)) := by
  have e1 : parts.getD (ka : Int).toNat 0 = x := by rw [Int.toNat_natCast, yB hx]
  have e2 : parts.getD (kb : Int).toNat 0 = y := by rw [Int.toNat_natCast, yB hy]
  unfold Hid EZ Ev KH Jk FC JM;rw [e1, e2];simp [h4, hj]
 have p1 : W.cell? ⟨pb, Cn + ka, none⟩ = some (.int .i64 x) := (CB.cell (p := ⟨pb, Cn + ka, none⟩) Ob).trans Ir;have p2 : W.cell? ⟨pb, Cn + kb, none⟩ = some (.int .i64 y) := (CB.cell (p := ⟨pb, Cn + kb, none⟩) Ob).trans JV;have AH : ¬ pb = vb + 1 := by omega
 have AG : ¬ pb = vb + 1 + 1 := by omega
 rw [hj] at Cq;clear hj hx hy Ir JV Ob Uq
 go_wp2_with fail
 refine (Cq _).mono ?_;rintro e w1 ⟨rfl, rfl⟩;go_upto_region 6 with (fail);clear e3;have Lj : Hid (Below w.heap.size w (((((W.setCell ⟨vb + 1, 0, none⟩ (.bool (xP (op.getD (ka : Int).toNat 0)))).setCell ⟨vb + 1, 1, none⟩ (.bool (xP (op.getD (kb : Int).toNat 0)))).setCell ⟨vb + 1 + 1, 0, none⟩ (.int .i64 ka)).setCell ⟨vb + 1 + 1, 1, none⟩ (.int .i64 kb)).drew)) := (((((HB.setCell (by simp; omega) _).setCell (by simp; omega) _).setCell (by simp; omega) _).setCell (by simp; omega) _).drew);refine fv (fun W' => W'.cell? ⟨vb, 4, none⟩ = some (.int .i64 ka) ∧ W'.cell? ⟨vb, 5, none⟩ = some (.int .i64 kb) ∧ W'.cell? ⟨vb, 7, none⟩ = some (.slice (some ⟨pb, Cn, none⟩) nn nn) ∧ W'.cell? ⟨pb, Cn + ka, none⟩ = some (.int .i64 x) ∧ W'.cell? ⟨pb, Cn + kb, none⟩ = some (.int .i64 y)) [] ?_ fun AA => ?_
 ·exact ⟨e4, e5, e7, p1, p2⟩
 try dsimp only at AA
 refine tk 0 30 (mf 36 1) AA ?_;refine tk 1 31 (mf 36 2) AA ?_;refine tk 2 32 (mf 36 3) AA ?_;refine tk 3 33 (mf 36 4) AA ?_;refine tk 5 35 (ma 36 47) AA ?_;refine tk 6 36 (ma 36 111) AA ?_;refine tk 7 37 (ma 36 239) AA ?_;refine tk 8 38 (ma 36 495) AA ?_;refine tk 11 41 (ma 36 2543) AA ?_
 as_aux_lemma =>
  refine tk 12 42 (ma 36 6639) AA ?_;refine tk 13 43 (ma 36 14831) AA ?_;refine tk 14 44 (ma 36 31215) AA ?_;refine tk 15 45 (ma 36 63983) AA ?_;refine tk 16 46 (ma 36 129519) AA ?_;refine tk 17 47 (ma 36 260591) AA ?_;refine tk 18 48 (ma 36 522735) AA ?_;refine tk 19 49 (ma 36 1047023) AA ?_;refine tk 20 50 (ma 36 2095599) AA ?_;refine tk 21 51 (ma 36 4192751) AA ?_;refine tk 22 52 (ma 36 8387055) AA ?_
  as_aux_lemma =>
   refine tk 23 53 (ma 36 16775663) AA ?_;refine tk 24 54 (ma 36 33552879) AA ?_;refine tk 25 55 (ma 36 67107311) AA ?_;refine tk 26 56 (ma 36 134216175) AA ?_;refine tk 27 57 (ma 36 268433903) AA ?_;refine tk 28 58 (ma 36 536869359) AA ?_;refine tk 29 59 (ma 36 1073740271) AA ?_;refine tk 30 60 (ma 36 2147482095) AA ?_;refine tk 31 61 (ma 36 4294965743) AA ?_;refine tk 32 62 (ma 36 8589933039) AA ?_
   as_aux_lemma =>
    refine tb 4 (ma 36 8589933055) fun K hK => ?_
    (go_simp; refine (sH vb nn Ao op ka W.drew e8 HO.ho Ho).mono ?_; rintro e w3 ⟨rfl, rfl⟩; go_simp)
    refine hK _ _ (fun _ => AA) fun p => (fun AA => ?_) (p rfl)
    clear p hK K;(try dsimp only at AA);refine tb 9 (ma 36 8589933567) fun K hK => ?_
    (go_simp; refine (sH vb nn Ao op kb W.drew e8 HO.ho Fe).mono ?_; rintro e w3 ⟨rfl, rfl⟩; go_simp)
    refine hK _ _ (fun _ => AA) fun p => (fun AA => ?_) (p rfl)
    clear p hK K;(try dsimp only at AA);refine tk 10 40 (mf 36 33) AA ?_;refine tb 33 (mf 36 34) fun K hK => ?_
    go_simp
    refine hK _ _ (fun _ => ⟨(zw W (vb + 1) _ (by omega) _ _ _ _ _).trans e4, (zw W (vb + 1) _ (by omega) _ _ _ _ _).trans e5, (zw W (vb + 1) _ (by omega) _ _ _ _ _).trans e7, (zw W (vb + 1) _ (by omega) _ _ _ _ _).trans p1, (zw W (vb + 1) _ (by omega) _ _ _ _ _).trans p2⟩) fun p => (fun AA => ?_) (p rfl)
    clear p hK K;(try dsimp only at AA);refine tb 34 (mf 36 35) fun K hK => ?_
    go_simp
    refine hK _ _ (fun _ => ⟨(zw _ (vb + 1 + 1) _ (by omega) _ _ _ _ _).trans ((zw W (vb + 1) _ (by omega) _ _ _ _ _).trans e4), (zw _ (vb + 1 + 1) _ (by omega) _ _ _ _ _).trans ((zw W (vb + 1) _ (by omega) _ _ _ _ _).trans e5), (zw _ (vb + 1 + 1) _ (by omega) _ _ _ _ _).trans ((zw W (vb + 1) _ (by omega) _ _ _ _ _).trans e7), (zw _ (vb + 1 + 1) _ (by omega) _ _ _ _ _).trans ((zw W (vb + 1) _ (by omega) _ _ _ _ _).trans p1), (zw _ (vb + 1 + 1) _ (by omega) _ _ _ _ _).trans ((zw W (vb + 1) _ (by omega) _ _ _ _ _).trans p2)⟩) fun p => (fun AA => ?_) (p rfl)
    clear p hK K;(try dsimp only at AA);refine tb 35 (mf 36 36) fun K hK => ?_
    go_simp
    refine hK _ _ (fun _ => AA) fun p => (fun AA => ?_) (p rfl)
    clear p hK K;(try dsimp only at AA);refine tK ?_
    go_wp2_with fail
    exact bodyPost_ret (v := .tuple #[.agg #[.bool (xP (op.getD (ka : Int).toNat 0)), .bool (xP (op.getD (kb : Int).toNat 0))], .agg #[.int .i64 ka, .int .i64 kb], .bool (!(x == y))]) (by simp [results, results216, go_sem, TJ, TI, z20, z21]; try rfl) rfl ⟨by rw [HE.1, HE.2.1, HE.2.2.1, HE.2.2.2.1, HE.2.2.2.2], Lj⟩
theorem qn (An Ad Ap Ao Ac : Option Addr) (nn cn nd cd : Nat) (nm : ByteArray) (kd a b co : Int) (parts op cl : List Int) (w : World) (h : uc w nn kd a b Ap Ao Ac parts op cl) :
 Calls prog 216 #[.agg (Cg An nn cn Ad nd cd nm kd a b co Ap Ao Ac)] w (uY w (EZ kd a op) (Ev kd a b op) (FC kd a b parts) (KH kd a) (Jk kd a b)) := by
 by_cases h4 : kd = 4
 ·exact oo An Ad Ap Ao Ac nn cn nd cd nm kd a b co parts op cl w h h4
 ·rcases hj : zV kd with _ | _
  ·exact mZ An Ad Ap Ao Ac nn cn nd cd nm kd a b co parts op cl w h h4 hj
  ·exact mc An Ad Ap Ao Ac nn cn nd cd nm kd a b co parts op cl w h h4 hj
end Go.Proofs.YtkkobemhbicjgaaGreatDoor
