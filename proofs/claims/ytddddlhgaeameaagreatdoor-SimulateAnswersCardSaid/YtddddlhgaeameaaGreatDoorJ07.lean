import Derived.Test.YtddddlhgaeameaaGreatDoorJ06
set_option maxRecDepth 100000
set_option maxHeartbeats 8000000
namespace Go.Proofs.YtddddlhgaeameaaGreatDoor
open Go.RowKit Tryz
open Go.Maps (Keyed)
theorem mw : Keyed prog 3 := Go.Maps.int_keyed underlying3
def yg (w : World) (b n : Nat) (f : Int → Int) : Prop :=
 ∃ (D : DataW Unit), w.ownsMap prog 3 (plainElem prog 3) b n D ∧ Go.Maps.IsMap D ∧ ∀ k, D.atKey (.int .i64 k) (.lit (.int .i64 0)) = .lit (.int .i64 (f k))
theorem sr {k : Int} (h0 : -1000000 ≤ k) (h1 : k ≤ 1000000) : (Lit.int .i64 k).wf = true := by
 have e : IntKind.i64.min = -9223372036854775808 := by kernel_rfl
 simp [Lit.wf, e]; omega
section
variable {w w' : World} {b n : Nat} {f g : Int → Int}
theorem kG (w : World) : yg (w.alloc (.map #[] 0)) w.heap.size 0 (fun _ => 0) := ⟨.map [], World.ownsMap_made _ _ _ _, ⟨[], rfl⟩, fun k => by simp [DataW.atKey]⟩
theorem yg.lt (h : yg w b n f) : b < w.heap.size := by
 obtain ⟨D, h1, _⟩ := h;exact h1.lt
theorem yg.congr (h : yg w b n f) (e : ∀ k, f k = g k) : yg w b n g := by
 obtain ⟨D, h1, h2, h3⟩ := h;exact ⟨D, h1, h2, fun k => by rw [h3, e]⟩
theorem yg.kept {row : Option Nat} (h : yg w b n f) (hg : w.grownBy w' row) (hne : some b ≠ row) : yg w' b n f := by
 obtain ⟨D, h1, h2, h3⟩ := h;exact ⟨D, h1.kept hg hne, h2, h3⟩
theorem yg.below (h : yg w b n f) (hb : bW w w') : yg w' b n f := h.kept (zI hb none) (by simp)
theorem yg.alloc (h : yg w b n f) (o : Obj) : yg (w.alloc o) b n f := h.below ((Below.refl _ _).alloc lR _)
theorem yg.look (h : yg w b n f) (k : Int) (h0 : -1000000 ≤ k) (h1 : k ≤ 1000000) :
 (Instr.lookup 161 (.map (some b)) (.int .i64 k) false).run prog w = .ok (.int .i64 (f k)) w := by
 obtain ⟨D, hD, _, h3⟩ := h;obtain ⟨v, ps, hr, hv⟩ := hD.lookup mw underlying161 (z := .int .i64 0) (by kernel_rfl) (plainElem_int underlying3 (by decide)) (Go.Maps.keyOf_int_mk underlying3 (sr h0 h1));obtain ⟨x, rfl, hx, _⟩ := plainElem_int_inv underlying3 hv;rw [h3] at hx;simp only [Prod.mk.injEq, DataW.lit.injEq, Lit.int.injEq, true_and] at hx;rw [hr, hx.1]
theorem yg.put (h : yg w b n f) (hn : n ≤ 1000000) (k x : Int) (h0 : -1000000 ≤ k) (h1 : k ≤ 1000000) (x0 : -1000000 ≤ x) (x1 : x ≤ 1000000) :
 ∃ w', (Instr.mapUpdate 161 (.map (some b)) (.int .i64 k) (.int .i64 x)).run prog w = .ok () w' ∧ yg w' b (n + 1) (fun j => if j = k then x else f j) ∧ w.grownBy w' (some b) := by
 obtain ⟨D, hD, h2, h3⟩ := h;obtain ⟨w', hr, ho, hg⟩ := hD.update mw underlying161 (by unfold maxLen; omega) (Go.Maps.keyOf_int_mk underlying3 (sr h0 h1)) (plainElem_int underlying3 (sr x0 x1));refine ⟨w', hr, ⟨_, ho, ?_, fun j => ?_⟩, hg⟩
 ·obtain ⟨es, rfl⟩ := h2;exact ⟨_, rfl⟩
 ·by_cases e : j = k
  ·rw [e, Go.Maps.atKey_put_same h2 (by simp [WideAt.IsKeyLit])]; simp only [if_true]
  ·rw [Go.Maps.atKey_put_other (fun e' => e (by injection e')), h3]; simp only [if_neg e]
end
structure ub (w : World) (N : Array Value) (mb j : Nat) (f : Int → Int) (wr : World) : Prop where
 bx : AJ wr w.heap.size 26 N
 mp : yg wr mb j f
 bl : bW w wr
 ge : w.heap.size < mb
section
variable {w wr wr' : World} {N : Array Value} {mb j : Nat} {f : Int → Int}
theorem ub.later (h : ub w N mb j f wr) (hb : bW wr wr') : ub w N mb j f wr' := ⟨h.bx.below hb h.bx.lt, h.mp.below hb, h.bl.trans (hb.mono h.bl.size), h.ge⟩
theorem ub.alloc (h : ub w N mb j f wr) (o : Obj) : ub w N mb j f (wr.alloc o) := h.later ((Below.refl _ _).alloc lR _)
theorem ub.put {f' : Int → Int} (h : ub w N mb j f wr) (hm : yg wr' mb (j + 1) f') (hg : wr.grownBy wr' (some mb)) : ub w N mb (j + 1) f' wr' :=
 ⟨h.bx.grown hg (fun e => by injection e with e; have := h.ge; omega), hm, h.bl.trans (yX hg (Nat.le_of_lt h.ge) h.bl.size), h.ge⟩
theorem ub.skip (h : ub w N mb j f wr) {f' : Int → Int} (e : ∀ k, f k = f' k) : ub w N mb (j + 1) f' wr := ⟨h.bx, by
 obtain ⟨D, ⟨es, cl, a1, a2, a3, a4⟩, h2, h3⟩ := h.mp;exact ⟨D, ⟨es, cl, a1, a2, by omega, a4⟩, h2, fun k => by rw [h3, e]⟩, h.bl, h.ge⟩
end
def jr (w : World) (nn : Nat) (ds : List Dv) (s : List Int) (e : Ending) (w' : World) : Prop :=
 ∃ (A : Option Addr) (out : List Int), e = .returned (.slice A nn nn) ∧ Hid (zN w' w.heap.size A nn nn out) ∧ Hid (vH nn ds s out) ∧ Hid (Below w.heap.size w w')
def fT (w : World) (N : Array Value) (mb nd : Nat) (parts : List Int) (ds : List Dv) (s : List Int) (gk : Nat) (iv : Value) (wr : World) : Prop :=
 ∃ (j : Nat), iv = .int .i64 j ∧ j ≤ nd ∧ gk = nd - j ∧ Hid (ub w N mb j (zK parts ds s j) wr)
def fS (w : World) (N : Array Value) (mb nd nn go : Nat) (parts : List Int) (f : Int → Int) (gk : Nat) (iv : Value) (wr : World) : Prop :=
 ∃ (i : Nat) (out : List Int), iv = .int .i64 i ∧ i ≤ nn ∧ gk = nn - i ∧ Hid (ub w N mb nd f wr) ∧ Hid (zN wr (mb + 1) (some ⟨go, 0, none⟩) nn nn out) ∧ Hid (∀ (j : Nat) (q : Int), j < i → parts[j]? = some q → out[j]? = some (f q))
theorem xm {parts s : List Int} {ds : List Dv} {j : Nat} {x : Dv} {p v : Int} (hx : ds[j]? = some x) (_hs : s[j]? = some 2) (_hk : x.kind = 4) (hp : parts[x.a.toNat]? = some p) (hv : zK parts ds s (j + 1) p = v) (k : Int) : (if k = p then v else zK parts ds s j k) = zK parts ds s (j + 1) k := by
 by_cases e : k = p
 ·subst e; rw [if_pos rfl, hv]
 ·rw [if_neg e];refine (xZ hx (fun K _ h => e ?_)).symm;have := h.2.2;rw [hp] at this;exact (Option.some.inj this).symm
theorem wI {parts s : List Int} {ds : List Dv} {j : Nat} {x : Dv} {p v : Int} (hx : ds[j]? = some x) (_hs : s[j]? = some 2) (_hk : yv x.kind) (hp : parts[x.a.toNat]? = some p) (hv : zK parts ds s (j + 1) p = v) (k : Int) : (if k = p then v else zK parts ds s j k) = zK parts ds s (j + 1) k := by
 by_cases e : k = p
 ·subst e; rw [if_pos rfl, hv]
 ·rw [if_neg e];refine (xZ hx (fun K _ h => e ?_)).symm;have := h.2.2;rw [hp] at this;exact (Option.some.inj this).symm
theorem nH (An Ad As Ap : Option Addr) (nn cn nd cd n c cp Bd Bs Bp : Nat) (ds : List Dv) (s parts : List Int) (w : World)
 (hd : Sl w Bd 5 Ad nd cd (ds.flatMap Dv.cells)) (BN : Bd ≤ w.heap.size) (hs : Sl w Bs 1 As n c (zF s)) (Ci : Bs ≤ w.heap.size) (hp : Sl w Bp 1 Ap nn cp (zF parts)) (AE : Bp ≤ w.heap.size) (Bq : nn ≤ 10000) (AO : nd ≤ 10000) (hn : nd ≤ n) (hA : Ki nn ds) (hP : yZ nn ds s parts) :
 Calls prog 90 #[.agg #[.slice An nn cn, .slice Ad nd cd], .slice As n c, .slice Ap nn cp] w (jr w nn ds s) := by
 have Fx := iD (hd.len (fun _ => rfl) (by decide)); have NK := iD (hp.len (fun _ => rfl) (by decide));have MO := hd.le;have hsm := hs.le;have AL := hp.le;have HD := iD hd; have HS := iD hs; have HP := iD hp; have HA := iD hA; have Tg := iD hP;clear hd hs hp hA hP;have Vk := @run_makeMap prog
 have Ar : Hid (ub w #[.slice An nn cn, .slice Ad nd cd] (w.heap.size + 1) 0 (zK parts ds s 0) ((w.alloc (.cells #[.slice An nn cn, .slice Ad nd cd] 26)).alloc (.map #[] 0))) := by
  refine ⟨(AJ.new w _ _).alloc _, ?_, ((Below.refl _ _).alloc lR _).alloc (by simp) _, by omega⟩;have := kG (w.alloc (.cells #[.slice An nn cn, .slice Ad nd cd] 26));rw [World.size_alloc] at this;exact this.congr (fun k => qw.symm)
 go_enter func90, ntmps90
 go_wp2_with fail
 clear Vk;obtain ⟨mb, UT⟩ := eX (w.heap.size + 1);rw [← UT] at Ar ⊢;have AK : w.heap.size + 1 ≤ mb := by omega
 clear UT;generalize World.alloc (World.alloc _ _) _ = W at *
 go_loopg [17] nd (fT w #[.slice An nn cn, .slice Ad nd cd] mb nd parts ds s)
 case atStart => exact ⟨0, rfl, Nat.zero_le _, rfl, Ar⟩
 case round =>
  clear Ar;obtain ⟨j, rfl, hj, rfl, hst⟩ := hrel;by_cases hlt : j < nd
  ·obtain ⟨b, off, x, rfl, hb, hx, hc⟩ := (HD.below hst.bl BN).at (fun _ => rfl) (by decide) hlt;have HX := iD hx;have Nt := HA x (List.mem_of_getElem? hx);obtain ⟨nm, kd, xa, xb, co⟩ := x;simp only at Nt;obtain ⟨a, rfl⟩ := Int.eq_ofNat_of_zero_le Nt.1;have JS : a < nn := by omega
   have c0 : wr.cell? ⟨b, off + j * 5, none⟩ = some (.string nm) := hc 0 _ rfl;have c1 : wr.cell? ⟨b, off + j * 5 + 1, none⟩ = some (.int .i64 kd) := hc 1 _ rfl;have c2 : wr.cell? ⟨b, off + j * 5 + 2, none⟩ = some (.int .i64 a) := hc 2 _ rfl;have c3 : wr.cell? ⟨b, off + j * 5 + 3, none⟩ = some (.int .i64 xb) := hc 3 _ rfl;have c4 : wr.cell? ⟨b, off + j * 5 + 4, none⟩ = some (.int .i64 co) := hc 4 _ rfl;clear hc hx Nt;go_upto_region 5 with (fail);clear c0 c1 c2 c3 c4;have HK := iD (AJ.new wr 75 #[.string nm, .int .i64 kd, .int .i64 a, .int .i64 xb, .int .i64 co]);have BB := iD (hst.alloc (.cells #[.string nm, .int .i64 kd, .int .i64 a, .int .i64 xb, .int .i64 co] 75));generalize World.alloc _ _ = w1 at *;obtain ⟨bq, Fb⟩ := eX wr.heap.size;rw [← Fb] at HK ⊢;clear Fb hst;obtain ⟨sb, NQ, sx, rfl, Oz, Qt, VX⟩ := (HS.below BB.bl Ci).at1 (k := j) (by omega)
   obtain ⟨pb, Cu, p, rfl, UO, PH, AG⟩ := (HP.below BB.bl AE).at1 (k := a) JS;have EU := iD Qt; have LJ := iD PH
   have AH : 0 ≤ p ∧ p ≤ 10000 := by
    obtain ⟨q, h1, h2, _⟩ := Tg.2 a JS;rw [PH] at h1;injection h1 with h1;omega
   clear Qt PH;have e1 := HK.c1;have e2 := HK.c2;by_cases h2 : sx = 2; rotate_left
   ·have q2 : (sx != 2) = true := by simpa using h2
    have Cb := iD (BB.skip (fun k => (xZ HX (fun K _ h => h2 (by have := h.1; rw [EU.out] at this; exact Option.some.inj this))).symm));clear h2
    go_wp2_with fail
    go_roundg (nd - (j + 1))
    ·exact ⟨j + 1, by go_num, by omega, rfl, Cb⟩
    omega
   ·subst h2;have En := BB.mp.look p (by omega) (by omega);by_cases h4 : kd = 4
    ·subst h4;have DZ := re HX EU rfl LJ.out;rcases vh (parts := parts) (ds := ds) (s := s) (j := j) (p := p) with e | e | e | e
     ·have hn := DZ.1 e;obtain ⟨w2, Dr, FV, Cc⟩ := BB.mp.put (by omega) p 2 (by omega) (by omega) (by decide) (by decide);have Fv := iD (BB.put (FV.congr (xm HX EU rfl LJ hn)) Cc);rw [e] at En;clear hn FV Cc DZ e;have Ps : bits BinOp.or IntKind.i64 0 2 = 2 := by kernel_rfl
      go_wp2_with fail
      go_roundg (nd - (j + 1))
      ·exact ⟨j + 1, by go_num, by omega, rfl, Fv⟩
      omega
     ·have hn := DZ.2.1 e;obtain ⟨w2, Dr, FV, Cc⟩ := BB.mp.put (by omega) p 3 (by omega) (by omega) (by decide) (by decide);have Fv := iD (BB.put (FV.congr (xm HX EU rfl LJ hn)) Cc);rw [e] at En;clear hn FV Cc DZ e;have Ps : bits BinOp.or IntKind.i64 1 2 = 3 := by kernel_rfl
      go_wp2_with fail
      go_roundg (nd - (j + 1))
      ·exact ⟨j + 1, by go_num, by omega, rfl, Fv⟩
      omega
     ·have hn := DZ.2.2.1 e;obtain ⟨w2, Dr, FV, Cc⟩ := BB.mp.put (by omega) p 2 (by omega) (by omega) (by decide) (by decide);have Fv := iD (BB.put (FV.congr (xm HX EU rfl LJ hn)) Cc);rw [e] at En;clear hn FV Cc DZ e;have Ps : bits BinOp.or IntKind.i64 2 2 = 2 := by kernel_rfl
      go_wp2_with fail
      go_roundg (nd - (j + 1))
      ·exact ⟨j + 1, by go_num, by omega, rfl, Fv⟩
      omega
     ·have hn := DZ.2.2.2 e;obtain ⟨w2, Dr, FV, Cc⟩ := BB.mp.put (by omega) p 3 (by omega) (by omega) (by decide) (by decide);have Fv := iD (BB.put (FV.congr (xm HX EU rfl LJ hn)) Cc);rw [e] at En;clear hn FV Cc DZ e;have Ps : bits BinOp.or IntKind.i64 3 2 = 3 := by kernel_rfl
      go_wp2_with fail
      go_roundg (nd - (j + 1))
      ·exact ⟨j + 1, by go_num, by omega, rfl, Fv⟩
      omega
    ·have q4 : (kd == 4) = false := by simpa using h4
     by_cases h5 : yv kd
     ·have DZ := qx HX EU h5 LJ.out
      have q5 : (kd == 5) = true ∨ (kd == 5) = false ∧ (kd == 6) = true := by
       rcases h5 with rfl | rfl
       ·exact .inl rfl
       ·exact .inr ⟨rfl, rfl⟩
      rcases vh (parts := parts) (ds := ds) (s := s) (j := j) (p := p) with e | e | e | e
      ·have hn := DZ.1 e;obtain ⟨w2, Dr, FV, Cc⟩ := BB.mp.put (by omega) p 1 (by omega) (by omega) (by decide) (by decide);have Fv := iD (BB.put (FV.congr (wI HX EU h5 LJ hn)) Cc);rw [e] at En;clear hn FV Cc DZ e;have Ps : bits BinOp.or IntKind.i64 0 1 = 1 := by kernel_rfl
       clear h5;rcases q5 with q5 | ⟨q5, q6⟩
       ·go_wp2_with fail
        go_roundg (nd - (j + 1))
        ·exact ⟨j + 1, by go_num, by omega, rfl, Fv⟩
        omega
       ·go_wp2_with fail
        go_roundg (nd - (j + 1))
        ·exact ⟨j + 1, by go_num, by omega, rfl, Fv⟩
        omega
      ·have hn := DZ.2.1 e;obtain ⟨w2, Dr, FV, Cc⟩ := BB.mp.put (by omega) p 1 (by omega) (by omega) (by decide) (by decide);have Fv := iD (BB.put (FV.congr (wI HX EU h5 LJ hn)) Cc);rw [e] at En;clear hn FV Cc DZ e;have Ps : bits BinOp.or IntKind.i64 1 1 = 1 := by kernel_rfl
       clear h5;rcases q5 with q5 | ⟨q5, q6⟩
       ·go_wp2_with fail
        go_roundg (nd - (j + 1))
        ·exact ⟨j + 1, by go_num, by omega, rfl, Fv⟩
        omega
       ·go_wp2_with fail
        go_roundg (nd - (j + 1))
        ·exact ⟨j + 1, by go_num, by omega, rfl, Fv⟩
        omega
      ·have hn := DZ.2.2.1 e;obtain ⟨w2, Dr, FV, Cc⟩ := BB.mp.put (by omega) p 3 (by omega) (by omega) (by decide) (by decide);have Fv := iD (BB.put (FV.congr (wI HX EU h5 LJ hn)) Cc);rw [e] at En;clear hn FV Cc DZ e;have Ps : bits BinOp.or IntKind.i64 2 1 = 3 := by kernel_rfl
       clear h5;rcases q5 with q5 | ⟨q5, q6⟩
       ·go_wp2_with fail
        go_roundg (nd - (j + 1))
        ·exact ⟨j + 1, by go_num, by omega, rfl, Fv⟩
        omega
       ·go_wp2_with fail
        go_roundg (nd - (j + 1))
        ·exact ⟨j + 1, by go_num, by omega, rfl, Fv⟩
        omega
      ·have hn := DZ.2.2.2 e;obtain ⟨w2, Dr, FV, Cc⟩ := BB.mp.put (by omega) p 3 (by omega) (by omega) (by decide) (by decide);have Fv := iD (BB.put (FV.congr (wI HX EU h5 LJ hn)) Cc);rw [e] at En;clear hn FV Cc DZ e;have Ps : bits BinOp.or IntKind.i64 3 1 = 3 := by kernel_rfl
       clear h5;rcases q5 with q5 | ⟨q5, q6⟩
       ·go_wp2_with fail
        go_roundg (nd - (j + 1))
        ·exact ⟨j + 1, by go_num, by omega, rfl, Fv⟩
        omega
       ·go_wp2_with fail
        go_roundg (nd - (j + 1))
        ·exact ⟨j + 1, by go_num, by omega, rfl, Fv⟩
        omega
     ·have q5 : (kd == 5) = false := by unfold yv at h5; simp; omega
      have q6 : (kd == 6) = false := by unfold yv at h5; simp; omega
      have Cb := iD (BB.skip (fun k => (xZ HX (fun K hK h => by
       rcases hK with rfl | rfl
       ·exact h5 h.2.1
       ·exact h4 h.2.1)).symm))
      clear h4 h5 En
      go_wp2_with fail
      go_roundg (nd - (j + 1))
      ·exact ⟨j + 1, by go_num, by omega, rfl, Cb⟩
      omega
  ·obtain rfl : j = nd := by omega
   have KJ : decide (j < j) = false := by simp
   have k0 := hst.bx.c0;have Kn := vU nn (by omega) wr;have HO := iD (tU (w := wr) (base := mb + 1) (n := nn) hst.mp.lt (by omega));have BB := iD (hst.alloc (.cells (zF (List.replicate nn 0)).toArray 3));clear hst
   go_wp2_with fail
   clear Kn k0 KJ;generalize World.alloc _ _ = w1 at *;obtain ⟨go, hgo⟩ := eX wr.heap.size;rw [← hgo] at HO ⊢;clear hgo
   go_loopg [64] nn (fS w #[.slice An nn cn, .slice Ad j cd] mb j nn go parts (zK parts ds s j))
   case atStart => exact ⟨0, _, rfl, Nat.zero_le _, rfl, BB, HO, fun i q hi => absurd hi (by omega)⟩
   case round =>
    clear BB HO;obtain ⟨i, out, rfl, hi, rfl, hst, ho, hf⟩ := hrel;by_cases AA : i < nn
    ·obtain ⟨pb, Cu, p, rfl, UO, PH, AG⟩ := (HP.below hst.bl AE).at1 (k := i) AA
     have AH : 0 ≤ p ∧ p ≤ 10000 := by
      obtain ⟨q, h1, h2, _⟩ := Tg.2 i AA;rw [PH] at h1;injection h1 with h1;omega
     have LJ := iD PH; clear PH;have En := hst.mp.look p (by omega) (by omega);obtain ⟨g, x, hA, Am, Cc, hx, hcell, AP, IJ⟩ := ho.at AA;injection hA with hA;injection hA with hA;subst hA;clear hx;have KU := iD ho.len;have Sb := hst.ge
     have EX : Hid (ub w #[.slice An nn cn, .slice Ad j cd] mb j (zK parts ds s j) (wr.setCell ⟨go, i, none⟩ (.int .i64 (zK parts ds s j p)))) :=
      ⟨hst.bx.far (by simp; omega) _, hst.mp.kept (zo wr _ _) (by simp; omega), hst.bl.setCell (by simp; omega) _, Sb⟩
     have AB := iD (IJ (zK parts ds s j p));clear IJ
     have HF : Hid (∀ (y : Nat) (q : Int), y < i + 1 → parts[y]? = some q → (out.set i (zK parts ds s j p))[y]? = some (zK parts ds s j q)) := by
      intro y q hy hq;rw [List.getElem?_set];split
      ·rename_i e
       subst e;rw [if_pos (by rw [KU.out]; exact AA)];rw [LJ.out] at hq;injection hq with hq;rw [hq]
      ·exact hf y q (by omega) hq
     generalize zK parts ds s j p = bp at *
     go_wp2_with fail
     go_roundg (nn - (i + 1))
     ·exact ⟨i + 1, _, by go_num, by omega, rfl, EX, AB, HF⟩
     omega
    ·obtain rfl : i = nn := by omega
     have Ck : decide (i < i) = false := by simp
     go_wp2_with fail
     go_ret;refine ⟨_, out, rfl, ho.mono (by omega), ⟨ho.len, fun v hv => ?_⟩, hst.bl⟩;obtain ⟨q, h1, _⟩ := Tg.2 v hv;rw [hf.out v q hv h1, ← nN Tg.out HA.out hv h1, Fx.out]
end Go.Proofs.YtddddlhgaeameaaGreatDoor
