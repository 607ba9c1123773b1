import Derived.Test.YtddddlhgaeameaaGreatDoorJ14
import Derived.Deep.RegionLaw
import Derived.Deep.RegionWith
import Derived.Deep.DrawnRows
set_option maxRecDepth 100000
set_option maxHeartbeats 8000000
namespace Go.Proofs.YtddddlhgaeameaaGreatDoor
variable {ds : List Dv} {x : Dv}
section
open Go.RowKit
def kK (w : World) (nn : Nat) (er : Int) (ds : List Dv) (s : List Int) (e : Ending) (w' : World) : Prop :=
 Hid (Below w.heap.size w w') ∧ ((er ≠ 0 ∧ e = .returned (.tuple #[.slice none 0 0, .int .i64 er])) ∨ (er = 0 ∧ ∃ (A : Option Addr) (out : List Int), e = .returned (.tuple #[.slice A nn nn, .int .i64 0]) ∧ Hid (zN w' w.heap.size A nn nn out) ∧ Hid (vH nn ds s out)))
def fJ (w : World) (N : Array Value) (go nn nd : Nat) (A : Option Addr) (P : List Int) (ds : List Dv) (s : List Int) (gk : Nat) (iv : Value) (wr : World) : Prop := ∃ (j : Nat) (out : List Int), iv = .int .i64 j ∧ j ≤ nd ∧ gk = nd - j ∧ Hid (ww w N go nn out wr) ∧ Hid (Sl wr go 1 A nn nn (zF P)) ∧ Hid (∀ (t : Nat) (q : Int), P[t]? = some q → out[t]? = some (zK P ds s j q))
def gW (w : World) (N : Array Value) (go nn bq : Nat) (nm : ByteArray) (kd a xb co : Int) (A : Option Addr) (P : List Int) (f f' : Int → Int) (gk : Nat) (iv : Value) (wr : World) : Prop := ∃ (v : Nat) (out : List Int), iv = .int .i64 v ∧ v ≤ nn ∧ gk = nn - v ∧ Hid (ww w N go nn out wr) ∧ Hid (AJ wr bq 75 #[.string nm, .int .i64 kd, .int .i64 a, .int .i64 xb, .int .i64 co]) ∧ Hid (Sl wr go 1 A nn nn (zF P)) ∧ Hid (∀ (t : Nat) (q : Int), P[t]? = some q → out[t]? = some (if t < v then f' q else f q))
theorem kz {parts s : List Int} {j : Nat} {p : Int} (hx : ds[j]? = some x) (hs : s[j]? = some 2) (hk : x.kind = 4) (hp : parts[x.a.toNat]? = some p) : bits BinOp.or IntKind.i64 (zK parts ds s j p) 2 = zK parts ds s (j + 1) p := by
 have h := re hx hs hk hp;rcases vh (parts := parts) (ds := ds) (s := s) (j := j) (p := p) with e | e | e | e
 ·rw [h.1 e, e] <;> first | rfl | kernel_rfl
 ·rw [h.2.1 e, e] <;> first | rfl | kernel_rfl
 ·rw [h.2.2.1 e, e] <;> first | rfl | kernel_rfl
 ·rw [h.2.2.2 e, e] <;> first | rfl | kernel_rfl
theorem iE {parts s : List Int} {j : Nat} {p : Int} (hx : ds[j]? = some x) (hs : s[j]? = some 2) (hk : yv x.kind) (hp : parts[x.a.toNat]? = some p) : bits BinOp.or IntKind.i64 (zK parts ds s j p) 1 = zK parts ds s (j + 1) p := by
 have h := qx hx hs hk hp;rcases vh (parts := parts) (ds := ds) (s := s) (j := j) (p := p) with e | e | e | e
 ·rw [h.1 e, e] <;> first | rfl | kernel_rfl
 ·rw [h.2.1 e, e] <;> first | rfl | kernel_rfl
 ·rw [h.2.2.1 e, e] <;> first | rfl | kernel_rfl
 ·rw [h.2.2.2 e, e] <;> first | rfl | kernel_rfl
theorem wX (An Ad As : Option Addr) (nn cn nd cd n c Bn Bd Bs : Nat) (ns : List Nd) (ds : List Dv) (s : List Int) (w : World) (hn : Sl w Bn 3 An nn cn (ns.flatMap Nd.cells)) (hd : Sl w Bd 5 Ad nd cd (ds.flatMap Dv.cells)) (hs : Sl w Bs 1 As n c (zF s)) (Ce : Bn ≤ w.heap.size) (BN : Bd ≤ w.heap.size) (Ci : Bs ≤ w.heap.size)
 (Bj : FO ns) (Bc : GH ds) (Bq : nn ≤ 10000) (Ae : zG ns ds s = 0 → nd ≤ n ∧ xA nn ds ∧ ∀ x ∈ ds, zV x.kind = true → x.b ≠ x.a) (hA : zG ns ds s = 0 → Ki nn ds ∧ ∀ x ∈ ds, 1 ≤ x.kind ∧ x.kind ≤ 6) :
 Calls Tryz.prog 25 #[.agg #[.slice An nn cn, .slice Ad nd cd], .slice As n c] w (kK w nn (zG ns ds s) ds s) := by
 have Fx := iD (hd.len (fun _ => rfl) (by decide));obtain ⟨Vs, MO⟩ := hd.le;obtain ⟨Ac, hsm⟩ := hs.le;have Cy := iD (ui An Ad As nn cn nd cd n c Bn Bd Bs ns ds s (w.alloc (.cells #[.slice An nn cn, .slice Ad nd cd] 26)) (hn.alloc Ce _) (hd.alloc BN _) (hs.alloc Ci _) (by simp; omega) (by simp; omega) (by simp; omega) Bj Bc Bq Ae);have HD := iD hd; have HS := iD hs; have Jz := iD Ae; have AO := iD hA;clear hn hd hs Bj Bc Ae hA;have Js : Hid (uH w #[.slice An nn cn, .slice Ad nd cd] (w.alloc (.cells #[.slice An nn cn, .slice Ad nd cd] 26))) := ⟨AJ.new _ _ _, (Below.refl _ _).alloc lR _⟩;generalize zG ns ds s = er at *
 go_enter Tryz.func25, Tryz.ntmps25
 go_wp2_with fail
 refine Cy.mono ?_;rintro e w1 ⟨AX, ⟨h0, rfl⟩ | ⟨rfl, A, P, rfl, hO, hP⟩⟩
 ·have h0' : (er != 0) = true := by simpa using h0
  have H0 := iD h0; clear h0;have CZ := iD (Js.later AX)
  go_wp2_with fail
  go_ret2;exact ⟨CZ.bl, .inl ⟨H0, rfl⟩⟩
 have Py : nd ≤ n := (Jz rfl).1;have HA := iD (AO rfl).1; have Al := iD (AO rfl).2;have CZ := iD (Js.later AX);have Tg := iD hP.out;have NK := iD hO.len;have k0 := CZ.bx.c0;have Kn := vU nn (by omega) w1
 have TM : Hid (ww w #[.slice An nn cn, .slice Ad nd cd] w1.heap.size nn (List.replicate nn 0) (w1.alloc (.cells (zF (List.replicate nn 0)).toArray 3))) :=
  ⟨CZ.bx.alloc _, tU CZ.bx.lt (by omega), (CZ.alloc _).bl⟩
 have AK := iD (hO.sl.alloc lR (.cells (zF (List.replicate nn 0)).toArray 3));clear CZ Js Cy AX hO hP Jz AO
 go_wp2_with fail
 clear Kn k0;generalize World.alloc _ _ = W at *;obtain ⟨go, hgo⟩ := eX w1.heap.size;rw [← hgo] at TM AK ⊢;clear hgo
 go_loopg [9] nd (fJ w #[.slice An nn cn, .slice Ad nd cd] go nn nd A P ds s)
 case atStart => exact ⟨0, _, rfl, Nat.zero_le _, rfl, TM, AK, fun t q hq => by
  have ht : t < nn := by have := (List.getElem?_eq_some_iff.1 hq).1; rw [NK.out] at this; exact this
  rw [List.getElem?_replicate, if_pos ht, qw]⟩
 case round =>
  clear TM AK;obtain ⟨j, out, rfl, hj, rfl, hst, Li, hf⟩ := hrel;have k1 := hst.bx.c1;by_cases PM : j < nd; rotate_left
  ·obtain rfl : j = nd := by omega
   have KJ : decide (j < j) = false := by simp
   go_wp2_with fail
   go_ret2;refine ⟨hst.bl, .inr ⟨rfl, _, out, rfl, hst.ob.mono (by omega), hst.ob.len, fun v hv => ?_⟩⟩;obtain ⟨q, h1, _⟩ := Tg.2 v hv;rw [hf.out v q h1, ← nN Tg.out HA.out hv h1, Fx.out]
  obtain ⟨b0, off, x, rfl, hb, hx, hc⟩ := (HD.below hst.bl BN).at (fun _ => rfl) (by decide) PM;have HX := iD hx;have Nt := HA x (List.mem_of_getElem? hx);have Af := Al x (List.mem_of_getElem? hx);obtain ⟨nm, kd, xa, xb, co⟩ := x;simp only at Nt Af;obtain ⟨a, rfl⟩ := Int.eq_ofNat_of_zero_le Nt.1;have JS : a < nn := by omega
  have c0 : wr.cell? ⟨b0, off + j * 5, none⟩ = some (.string nm) := hc 0 _ rfl;have c1 : wr.cell? ⟨b0, off + j * 5 + 1, none⟩ = some (.int .i64 kd) := hc 1 _ rfl;have c2 : wr.cell? ⟨b0, off + j * 5 + 2, none⟩ = some (.int .i64 a) := hc 2 _ rfl;have c3 : wr.cell? ⟨b0, off + j * 5 + 3, none⟩ = some (.int .i64 xb) := hc 3 _ rfl;have c4 : wr.cell? ⟨b0, off + j * 5 + 4, none⟩ = some (.int .i64 co) := hc 4 _ rfl;clear hc hx Nt;go_upto_region 9 with (fail);clear c0 c1 c2 c3 c4 k1;have HK := iD (AJ.new wr 75 #[.string nm, .int .i64 kd, .int .i64 a, .int .i64 xb, .int .i64 co]);have BD := iD (hst.alloc (.cells #[.string nm, .int .i64 kd, .int .i64 a, .int .i64 xb, .int .i64 co] 75));have LM := iD (Li.alloc (Nat.le_of_lt hst.ge.2) (.cells #[.string nm, .int .i64 kd, .int .i64 a, .int .i64 xb, .int .i64 co] 75));have Ah : go < wr.heap.size := hst.ge.2;generalize World.alloc _ _ = w2 at *
  obtain ⟨bq, Fb⟩ := eX wr.heap.size;rw [← Fb] at HK ⊢;have GN : go < bq := by omega
  clear Fb hst Li Ah;obtain ⟨sb, NQ, sx, rfl, Oz, Qt, VX⟩ := (HS.below BD.bl Ci).at1 (k := j) (by omega);have EU := iD Qt; clear Qt;have Aq : j < n := by omega
  have e1 := HK.c1;have Cw := iD (vX kd);by_cases h2 : sx = 2; rotate_left
  ·have q2 : (sx != 2) = true := by simpa using h2
   have BI : Hid (∀ (t : Nat) (q : Int), P[t]? = some q → out[t]? = some (zK P ds s (j + 1) q)) := fun t q hq => by
    rw [hf.out t q hq, xZ HX.out (fun K _ h => h2 (by have := h.1; rw [EU.out] at this; exact Option.some.inj this))]
   clear h2
   go_wp2_with fail
   go_roundg (nd - (j + 1))
   ·exact ⟨j + 1, out, by go_num, by omega, rfl, BD, LM, BI⟩
   omega
  subst h2;rcases Fq : zV kd with _ | _; rotate_left
  ·have BI : Hid (∀ (t : Nat) (q : Int), P[t]? = some q → out[t]? = some (zK P ds s (j + 1) q)) := fun t q hq => by
    rw [hf.out t q hq, xZ HX.out (fun K hK h => by
     have h3 := h.2.1;have h4 : 1 ≤ kd ∧ kd ≤ 3 := by simpa [zV] using Fq
     rcases hK with rfl | rfl
     ·unfold yv at h3; simp only at h3; omega
     ·simp only at h3; omega)]
   rw [Fq] at Cw;clear Fq
   go_wp2_with fail
   refine (Cw _).mono ?_;rintro e w3 ⟨rfl, rfl⟩
   go_wp2_with fail
   go_roundg (nd - (j + 1))
   ·exact ⟨j + 1, out, by go_num, by omega, rfl, BD, LM, BI⟩
   omega
  have Ag : 4 ≤ kd := by
   have h5 : ¬ (1 ≤ kd ∧ kd ≤ 3) := by
    intro h6;have h7 : zV kd = true := by simp [zV]; omega
    rw [h7] at Fq;cases Fq
   omega
  rw [Fq] at Cw;clear Fq;obtain ⟨pb, Cu, pa, rfl, _, AQ, _⟩ := LM.at1 (k := a) JS;have Ea := iD AQ; clear AQ;by_cases h4 : kd = 4
  ·subst h4
   go_wp2_with fail
   refine (Cw _).mono ?_;rintro e w3 ⟨rfl, rfl⟩
   go_wp2_with fail
   go_loopg [12] nn (gW w #[.slice An nn cn, .slice (some ⟨b0, off, none⟩) nd cd] go nn bq nm 4 a xb co (some ⟨pb, Cu, none⟩) P (zK P ds s j) (zK P ds s (j + 1)))
   case atStart => exact ⟨0, out, rfl, Nat.zero_le _, rfl, BD, HK, LM, fun v q hq => by rw [if_neg (by omega)]; exact hf v q hq⟩
   case round =>
    clear BD HK LM e1;obtain ⟨v, out', rfl, hv, rfl, hst, hk, Li, QC⟩ := hrel;by_cases IL : v < nn; rotate_left
    ·obtain rfl : v = nn := by omega
     have Ab : decide (v < v) = false := by simp
     have BI : Hid (∀ (t : Nat) (q : Int), P[t]? = some q → out'[t]? = some (zK P ds s (j + 1) q)) := fun t q hq => by
      have := QC t q hq
      rwa [if_pos (by have := (List.getElem?_eq_some_iff.1 hq).1; rw [NK.out] at this; exact this)] at this
     go_wp2_with fail
     go_roundg (nd - (j + 1))
     ·exact ⟨j + 1, out', by go_num, by omega, rfl, hst, Li, BI⟩
     omega
    obtain ⟨VK, Jb, q, Cm, _, hq, hcv⟩ := Li.at1 (k := v) IL;injection Cm with Cm;injection Cm with h3 h4;subst h3 h4;have HQ := iD hq; clear hq;obtain ⟨VK, Jb, pa', Cm, _, hpa', Nr⟩ := Li.at1 (k := a) JS;injection Cm with Cm;injection Cm with h3 h4;subst h3 h4;obtain rfl : pa = pa' := by rw [Ea.out] at hpa'; exact Option.some.inj hpa'
    clear hpa';have e2 := hk.c2;go_upto_region 16 with (fail);refine fX (fun W' => W'.cell? ⟨pb, Cu + v, none⟩ = some (.int .i64 q) ∧ W'.cell? ⟨bq, 2, none⟩ = some (.int .i64 a) ∧ W'.cell? ⟨pb, Cu + a, none⟩ = some (.int .i64 pa)) [] ?_ fun AA => ?_
    ·exact ⟨hcv, e2, Nr⟩
    try dsimp only at AA
    refine tk 0 57 (mf 10 1) AA ?_;refine tk 1 58 (mf 10 2) AA ?_;refine tk 2 59 (mf 10 3) AA ?_;refine tk 3 60 (mf 10 4) AA ?_;refine tk 4 61 (mf 10 5) AA ?_;refine tk 5 62 (mf 10 6) AA ?_;refine tk 6 63 (mf 10 7) AA ?_;refine tk 7 64 (mf 10 8) AA ?_;refine tk 8 65 (mf 10 9) AA ?_;refine tk 9 66 (mf 10 10) AA ?_;refine tK ?_;clear AA hcv Nr e2;have Qb := iD (QC v q HQ);rw [if_neg (by omega)] at Qb;by_cases Pp : q = pa; rotate_left
    ·have Aa : (q == pa) = false := by simpa using Pp
     have IB : Hid (∀ (t : Nat) (r : Int), P[t]? = some r → out'[t]? = some (if t < v + 1 then zK P ds s (j + 1) r else zK P ds s j r)) := fun t r hr => by
      by_cases Pm : t = v
      ·subst Pm;rw [HQ.out] at hr;injection hr with hr;subst hr;rw [if_pos (by omega), Qb.out, xZ HX.out (fun K _ h => Pp (by have := h.2.2; simp only [Int.toNat_natCast] at this; rw [Ea.out] at this; exact (Option.some.inj this).symm))]
      ·rw [QC.out t r hr];by_cases h5 : t < v
       ·rw [if_pos h5, if_pos (by omega)]
       ·rw [if_neg h5, if_neg (by omega)]
     clear Pp
     go_wp2_with fail
     go_roundg (nn - (v + 1))
     ·exact ⟨v + 1, out', by go_num, by omega, rfl, hst.drew, hk, Li, IB⟩
     omega
    ·subst Pp;obtain ⟨x0, Na, hcell, Aj⟩ := hst.cell IL;obtain rfl : zK P ds s j q = x0 := by rw [Qb.out] at Na; exact Option.some.inj Na
     have Ps : bits BinOp.or IntKind.i64 (zK P ds s j q) 2 = zK P ds s (j + 1) q := kz HX EU rfl Ea.out;have KU := iD hst.ob.len;have LK := iD (hst.put IL (zK P ds s (j + 1) q));have Ai : go < bq := GN;have EE : Hid (AJ (wr.setCell ⟨go, v, none⟩ (.int .i64 (zK P ds s (j + 1) q))) bq 75 #[.string nm, .int .i64 4, .int .i64 a, .int .i64 xb, .int .i64 co]) := hk.far (by simp; omega) _;have TR : Hid (Sl (wr.setCell ⟨go, v, none⟩ (.int .i64 (zK P ds s (j + 1) q))) go 1 (some ⟨pb, Cu, none⟩) nn nn (zF P)) := Li.setCell lR _
     have IB : Hid (∀ (t : Nat) (r : Int), P[t]? = some r → (out'.set v (zK P ds s (j + 1) q))[t]? = some (if t < v + 1 then zK P ds s (j + 1) r else zK P ds s j r)) := fun t r hr => by
      rw [List.getElem?_set];by_cases Pm : v = t
      ·subst Pm;rw [HQ.out] at hr;injection hr with hr;subst hr;rw [if_pos rfl, if_pos (by rw [KU.out]; exact IL), if_pos (by omega)]
      ·rw [if_neg Pm, QC.out t r hr];by_cases h5 : t < v
       ·rw [if_pos h5, if_pos (by omega)]
       ·rw [if_neg h5, if_neg (by omega)]
     clear Na Qb;generalize zK P ds s (j + 1) q = b1 at *;generalize zK P ds s j q = b2 at *
     go_wp2_with fail
     go_roundg (nn - (v + 1))
     ·exact ⟨v + 1, _, by go_num, by omega, rfl, LK.drew, EE, TR, IB⟩
     omega
  ·have q4 : (kd == 4) = false := by simpa using h4
   have Tc : Hid (yv kd) := by unfold Hid yv; omega
   go_wp2_with fail
   refine (Cw _).mono ?_;rintro e w3 ⟨rfl, rfl⟩
   go_wp2_with fail
   go_loopg [12] nn (gW w #[.slice An nn cn, .slice (some ⟨b0, off, none⟩) nd cd] go nn bq nm kd a xb co (some ⟨pb, Cu, none⟩) P (zK P ds s j) (zK P ds s (j + 1)))
   case atStart => exact ⟨0, out, rfl, Nat.zero_le _, rfl, BD, HK, LM, fun v q hq => by rw [if_neg (by omega)]; exact hf v q hq⟩
   case round =>
    clear BD HK LM e1;obtain ⟨v, out', rfl, hv, rfl, hst, hk, Li, QC⟩ := hrel;by_cases IL : v < nn; rotate_left
    ·obtain rfl : v = nn := by omega
     have Ab : decide (v < v) = false := by simp
     have BI : Hid (∀ (t : Nat) (q : Int), P[t]? = some q → out'[t]? = some (zK P ds s (j + 1) q)) := fun t q hq => by
      have := QC t q hq
      rwa [if_pos (by have := (List.getElem?_eq_some_iff.1 hq).1; rw [NK.out] at this; exact this)] at this
     go_wp2_with fail
     go_roundg (nd - (j + 1))
     ·exact ⟨j + 1, out', by go_num, by omega, rfl, hst, Li, BI⟩
     omega
    obtain ⟨VK, Jb, q, Cm, _, hq, hcv⟩ := Li.at1 (k := v) IL;injection Cm with Cm;injection Cm with h3 h4;subst h3 h4;have HQ := iD hq; clear hq;obtain ⟨VK, Jb, pa', Cm, _, hpa', Nr⟩ := Li.at1 (k := a) JS;injection Cm with Cm;injection Cm with h3 h4;subst h3 h4;obtain rfl : pa = pa' := by rw [Ea.out] at hpa'; exact Option.some.inj hpa'
    clear hpa';have e2 := hk.c2;go_upto_region 16 with (fail);refine fX (fun W' => W'.cell? ⟨pb, Cu + v, none⟩ = some (.int .i64 q) ∧ W'.cell? ⟨bq, 2, none⟩ = some (.int .i64 a) ∧ W'.cell? ⟨pb, Cu + a, none⟩ = some (.int .i64 pa)) [] ?_ fun AA => ?_
    ·exact ⟨hcv, e2, Nr⟩
    try dsimp only at AA
    refine tk 0 57 (mf 10 1) AA ?_;refine tk 1 58 (mf 10 2) AA ?_;refine tk 2 59 (mf 10 3) AA ?_;refine tk 3 60 (mf 10 4) AA ?_;refine tk 4 61 (mf 10 5) AA ?_;refine tk 5 62 (mf 10 6) AA ?_;refine tk 6 63 (mf 10 7) AA ?_;refine tk 7 64 (mf 10 8) AA ?_;refine tk 8 65 (mf 10 9) AA ?_;refine tk 9 66 (mf 10 10) AA ?_;refine tK ?_;clear AA hcv Nr e2;have Qb := iD (QC v q HQ);rw [if_neg (by omega)] at Qb;by_cases Pp : q = pa; rotate_left
    ·have Aa : (q == pa) = false := by simpa using Pp
     have IB : Hid (∀ (t : Nat) (r : Int), P[t]? = some r → out'[t]? = some (if t < v + 1 then zK P ds s (j + 1) r else zK P ds s j r)) := fun t r hr => by
      by_cases Pm : t = v
      ·subst Pm;rw [HQ.out] at hr;injection hr with hr;subst hr;rw [if_pos (by omega), Qb.out, xZ HX.out (fun K _ h => Pp (by have := h.2.2; simp only [Int.toNat_natCast] at this; rw [Ea.out] at this; exact (Option.some.inj this).symm))]
      ·rw [QC.out t r hr];by_cases h5 : t < v
       ·rw [if_pos h5, if_pos (by omega)]
       ·rw [if_neg h5, if_neg (by omega)]
     clear Pp
     go_wp2_with fail
     go_roundg (nn - (v + 1))
     ·exact ⟨v + 1, out', by go_num, by omega, rfl, hst.drew, hk, Li, IB⟩
     omega
    ·subst Pp;obtain ⟨x0, Na, hcell, Aj⟩ := hst.cell IL;obtain rfl : zK P ds s j q = x0 := by rw [Qb.out] at Na; exact Option.some.inj Na
     have Ps : bits BinOp.or IntKind.i64 (zK P ds s j q) 1 = zK P ds s (j + 1) q := iE HX EU Tc Ea.out;have KU := iD hst.ob.len;have LK := iD (hst.put IL (zK P ds s (j + 1) q));have Ai : go < bq := GN;have EE : Hid (AJ (wr.setCell ⟨go, v, none⟩ (.int .i64 (zK P ds s (j + 1) q))) bq 75 #[.string nm, .int .i64 kd, .int .i64 a, .int .i64 xb, .int .i64 co]) := hk.far (by simp; omega) _;have TR : Hid (Sl (wr.setCell ⟨go, v, none⟩ (.int .i64 (zK P ds s (j + 1) q))) go 1 (some ⟨pb, Cu, none⟩) nn nn (zF P)) := Li.setCell lR _
     have IB : Hid (∀ (t : Nat) (r : Int), P[t]? = some r → (out'.set v (zK P ds s (j + 1) q))[t]? = some (if t < v + 1 then zK P ds s (j + 1) r else zK P ds s j r)) := fun t r hr => by
      rw [List.getElem?_set];by_cases Pm : v = t
      ·subst Pm;rw [HQ.out] at hr;injection hr with hr;subst hr;rw [if_pos rfl, if_pos (by rw [KU.out]; exact IL), if_pos (by omega)]
      ·rw [if_neg Pm, QC.out t r hr];by_cases h5 : t < v
       ·rw [if_pos h5, if_pos (by omega)]
       ·rw [if_neg h5, if_neg (by omega)]
     clear Na Qb;generalize zK P ds s (j + 1) q = b1 at *;generalize zK P ds s j q = b2 at *
     go_wp2_with fail
     go_roundg (nn - (v + 1))
     ·exact ⟨v + 1, _, by go_num, by omega, rfl, LK.drew, EE, TR, IB⟩
     omega
end
section
open Go.RowKit
def HaR (w : World) (l : List Int) (x : Int) (n gk : Nat) (iv : Value) (wr : World) : Prop := ∃ i : Nat, iv = .int .i64 i ∧ i ≤ n ∧ gk = n - i ∧ wr = w ∧ Hid (∀ k, k < i → l[k]? ≠ some x)
theorem tN (A : Option Addr) (n c : Nat) (l : List Int) (x : Int) (w : World) (hs : Av w 1 A n c (zF l)) :
 Calls Tryz.prog 28 #[.slice A n c, .int .i64 x] w fun e w' => e = .returned (.bool (decide (x ∈ l))) ∧ w = w' := by
 have Ef := hs.le;have HS := iD hs;have Ch := iD (hs.len (fun _ => rfl) (by decide));clear hs
 go_enter Tryz.func28, Tryz.ntmps28
 go_wp2_with fail
 go_loopg [5] n (HaR w l x n)
 case atStart => exact ⟨0, rfl, Nat.zero_le _, rfl, rfl, fun k hk => absurd hk (by omega)⟩
 case round =>
  obtain ⟨i, rfl, hi, rfl, rfl, hno⟩ := hrel;by_cases hlt : i < n
  ·obtain ⟨b, off, y, rfl, hb, hy, hc⟩ := HS.at1 hlt;have HY := iD hy;clear hy;by_cases Je : y = x
   ·have q : (y == x) = true := by simpa using Je
    have HR : Hid (decide (x ∈ l) = true) := by
     unfold Hid;rw [decide_eq_true_eq, ← Je];exact List.mem_of_getElem? HY.out
    clear Je
    go_wp2_with fail
    go_ret;exact ⟨zE HR.symm, rfl⟩
   ·have q : (y == x) = false := by simpa using Je
    have HN : Hid (∀ k, k < i + 1 → l[k]? ≠ some x) := fun k hk e => by
     rcases Nat.lt_succ_iff_lt_or_eq.1 hk with h | rfl
     ·exact hno k h e
     ·rw [HY.out] at e; injection e with e; exact Je e
    clear Je
    go_wp2_with fail
    go_roundg (n - (i + 1))
    ·exact ⟨i + 1, by go_num, by omega, rfl, rfl, HN⟩
    omega
  ·obtain rfl : i = n := by omega
   have Ck : decide (i < i) = false := by simp
   have HR : Hid (decide (x ∈ l) = false) := by
    unfold Hid;rw [decide_eq_false_iff_not];intro hm;obtain ⟨k, hk⟩ := List.mem_iff_getElem?.1 hm;exact hno k (by have := (List.getElem?_eq_some_iff.1 hk).1; rw [Ch.out] at this; exact this) hk
   go_wp2_with fail
   go_ret;exact ⟨zE HR.symm, rfl⟩
def gx (w : World) (nb : Nat) (V : Array Value) (n gk : Nat) (kv iv : Value) (wr : World) : Prop := ∃ (i : Nat) (k : Int), iv = .int .i64 i ∧ kv = .int .i64 k ∧ i ≤ n ∧ gk = n - i ∧ Hid (bW w wr) ∧ Hid (AJ wr nb 26 V)
theorem kc (An Ad A : Option Addr) (nn cn nd cd n c : Nat) (ns : List Nd) (l : List Int) (w : World) (hn : Av w 3 An nn cn (ns.flatMap Nd.cells)) (hs : Av w 1 A n c (zF l)) (hl : ∀ x ∈ l, 0 ≤ x ∧ x < nn) :
 Calls Tryz.prog 97 #[.agg #[.slice An nn cn, .slice Ad nd cd], .slice A n c] w fun e w' => (∃ k : Int, e = .returned (.int .i64 k)) ∧ bW w w' := by
 have Ef := hs.le;have Bq := hn.le;have HS := iD hs;have HN := iD hn;have HL := iD hl;clear hs hn hl
 go_enter Tryz.func97, Tryz.ntmps97
 go_upto_region 1 with (fail);have HB := iD (AJ.new w 26 #[.slice An nn cn, .slice Ad nd cd]);have HW : Hid (Below w.heap.size w (w.alloc (.cells #[.slice An nn cn, .slice Ad nd cd] 26))) := (Below.refl _ _).alloc lR _;generalize World.alloc _ _ = w1 at *;obtain ⟨nb, CP⟩ := eX w.heap.size;rw [← CP] at HB ⊢;clear CP
 go_wp2_with fail
 go_loopg [5, 6] n (gx w nb #[.slice An nn cn, .slice Ad nd cd] n)
 case atStart => exact ⟨0, 0, rfl, rfl, Nat.zero_le _, rfl, HW, HB⟩
 case round =>
  clear HB HW;obtain ⟨i, k, rfl, rfl, hi, rfl, AZ, IP⟩ := hrel;by_cases hlt : i < n
  ·obtain ⟨b, off, y, rfl, hb, hy, hc⟩ := (HS.below AZ lR).at1 hlt;have AP := HL y (List.mem_of_getElem? hy);obtain ⟨v, rfl⟩ := Int.eq_ofNat_of_zero_le AP.1;have hv : v < nn := by omega
   obtain ⟨b1, NR, z, rfl, AX, hz, Lp⟩ := (HN.below AZ lR).at (fun _ => rfl) (by decide) hv;obtain ⟨EC, cu, Cn⟩ := z;have c1 : wr.cell? ⟨b1, NR + v * 3 + 1, none⟩ = some (.int .i64 cu) := Lp 1 _ rfl;have k0 := IP.c0;clear Lp hz hy AP;go_upto_region 5 with (fail);refine fX (fun W' => W'.cell? ⟨nb, 0, none⟩ = some (.slice (some ⟨b1, NR, none⟩) nn cn) ∧ W'.cell? ⟨b, off + i, none⟩ = some (.int .i64 (v : Nat)) ∧ W'.cell? ⟨b1, NR + v * 3 + 1, none⟩ = some (.int .i64 cu)) [] ?_ fun AA => ?_
   ·exact ⟨k0, hc, c1⟩
   try dsimp only at AA
   refine tk 0 13 (mf 12 1) AA ?_;refine tk 1 14 (mf 12 2) AA ?_;refine tk 2 15 (mf 12 3) AA ?_;refine tk 3 16 (mf 12 4) AA ?_;refine tk 4 17 (mf 12 5) AA ?_;refine tk 5 18 (mf 12 6) AA ?_;refine tk 6 19 (mf 12 7) AA ?_;refine tk 7 20 (mf 12 8) AA ?_;refine tk 8 21 (mf 12 9) AA ?_;refine tk 9 22 (mf 12 10) AA ?_;refine tk 10 23 (mf 12 11) AA ?_;refine tk 11 5 (mf 12 12) AA ?_;refine tK ?_;clear AA
   go_wp2_with fail
   go_roundg (n - (i + 1))
   ·exact ⟨i + 1, _, by go_num, rfl, by omega, rfl, AZ.drew, IP⟩
   omega
  ·obtain rfl : i = n := by omega
   have Ck : decide (i < i) = false := by simp
   go_wp2_with fail
   go_ret;exact ⟨⟨_, rfl⟩, AZ⟩
end
section
open Go.RowKit
attribute [local go_sem ↓] Go.wp_at_zero Go.wp_at_succ
def xM (k : Nat) : List UInt8 := [[], [76], [81], [68], [69], [83], [71]].getD k []
def iY (w0 : World) (g : Nat) (AV : Int) (An : Option Addr) (nn cn : Nat) (ns : List Nd) (nd : Nat) (ds : List Dv) (kind : Nat) (a b : Int) (e : Ending) (w' : World) : Prop :=
 e = .returned (.tuple #[]) ∧ ∃ (Ad' : Option Addr) (nd' cd' : Nat) (ds' : List Dv), yG w0 g AV An nn cn ns Ad' nd' cd' ds' w' ∧ (AV ≤ nd → nd' = nd ∧ ds' = ds) ∧ (nd < AV → nd' = nd + 1 ∧ ∃ comp : Int, 0 ≤ comp ∧ comp ≤ 2 ∧ ds' = ds ++ [⟨Ei (EC (xM kind) nd), kind, a, b, comp⟩])
def mZ (w0 : World) (g : Nat) (AV : Int) (An : Option Addr) (nn cn : Nat) (ns : List Nd) (Ad : Option Addr) (nd cd : Nat) (ds : List Dv) (kind : Nat) (a b : Int) (s9 : Value) (wc : World) : Prop :=
 ∃ b9 : Nat, s9 = .pointer (some ⟨b9, 0, none⟩) ∧ yG w0 g AV An nn cn ns Ad nd cd ds wc ∧ AJ wc b9 75 #[.string (Ei (EC (xM kind) nd)), .int .i64 kind, .int .i64 a, .int .i64 b, .int .i64 0] ∧ w0.heap.size + 4 ≤ b9 ∧ (∀ q, (Value.slice An nn cn).ownBlock = some q → q ≠ b9) ∧ (∀ q, (Value.slice Ad nd cd).ownBlock = some q → q ≠ b9)
def nS (w0 : World) (g : Nat) (AV : Int) (An : Option Addr) (nn cn : Nat) (ns : List Nd) (Ad : Option Addr) (nd cd : Nat) (ds : List Dv) (w W : World) : Prop := yG w0 g AV An nn cn ns Ad nd cd ds W ∧ w.heap.size ≤ W.heap.size
def kQ (w0 : World) (g : Nat) (AV : Int) (An : Option Addr) (nn cn : Nat) (ns : List Nd) (Ad : Option Addr) (nd cd : Nat) (ds : List Dv) (w : World) (LT : ByteArray) (kind t : Nat) (W : World) : Prop := nS w0 g AV An nn cn ns Ad nd cd ds w W ∧ W.cell? ⟨t, kind, none⟩ = some (.string LT)
def iZ (w0 : World) (g : Nat) (AV : Int) (An : Option Addr) (nn cn : Nat) (ns : List Nd) (Ad : Option Addr) (nd cd : Nat) (ds : List Dv) (w : World) (LT : ByteArray) (kind t q : Nat) (W : World) : Prop := kQ w0 g AV An nn cn ns Ad nd cd ds w LT kind t W ∧ AJ W q 75 #[.string ⟨#[]⟩, .int .i64 0, .int .i64 0, .int .i64 0, .int .i64 0]
section
variable {w0 w W W' : World} {g : Nat} {AV : Int} {An Ad : Option Addr} {nn cn nd cd kind t : Nat} {ns : List Nd} {ds : List Dv} {LT : ByteArray}
theorem ux (h : nS w0 g AV An nn cn ns Ad nd cd ds w W) (o : Obj) : nS w0 g AV An nn cn ns Ad nd cd ds w (W.alloc o) := ⟨h.1.alloc o, by have := h.2; simp; omega⟩
theorem mS (h : nS w0 g AV An nn cn ns Ad nd cd ds w W) (hb : bW W W') : nS w0 g AV An nn cn ns Ad nd cd ds w W' := ⟨h.1.later hb, Nat.le_trans h.2 hb.size⟩
theorem uw (h : kQ w0 g AV An nn cn ns Ad nd cd ds w LT kind t W) (hb : bW W W') : kQ w0 g AV An nn cn ns Ad nd cd ds w LT kind t W' := ⟨mS h.1 hb, (hb.cell (p := ⟨t, kind, none⟩) (wU h.2)).trans h.2⟩
theorem rh (h : kQ w0 g AV An nn cn ns Ad nd cd ds w LT kind t W) (o : Obj) : kQ w0 g AV An nn cn ns Ad nd cd ds w LT kind t (W.alloc o) := uw h ((Below.refl _ _).alloc lR _)
theorem ri {q : Nat} (h : iZ w0 g AV An nn cn ns Ad nd cd ds w LT kind t q W) (hb : bW W W') : iZ w0 g AV An nn cn ns Ad nd cd ds w LT kind t q W' := ⟨uw h.1 hb, h.2.below hb h.2.lt⟩
theorem mT {a b : Int} (hT : BA LT = xM kind) (h : nS w0 g AV An nn cn ns Ad nd cd ds w W) (hn : ∀ b, (Value.slice An nn cn).ownBlock = some b → b < w.heap.size) (hd : ∀ b, (Value.slice Ad nd cd).ownBlock = some b → b < w.heap.size) :
 mZ w0 g AV An nn cn ns Ad nd cd ds kind a b (.pointer (some ⟨W.heap.size, 0, none⟩)) (W.alloc (.cells #[.string (Ei (EC (BA LT) nd)), .int .i64 kind, .int .i64 a, .int .i64 b, .int .i64 0] 75)) := by
 have := h.2;have hz := h.1.size;rw [hT];exact ⟨W.heap.size, rfl, h.1.alloc _, AJ.new _ _ _, hz, fun q e => by have := hn q e; omega, fun q e => by have := hd q e; omega⟩
theorem qz {a b : Int} {q : Nat} (hT : BA LT = xM kind) (h : nS w0 g AV An nn cn ns Ad nd cd ds w W) (hB : AJ W q 75 #[.string ⟨#[]⟩, .int .i64 0, .int .i64 0, .int .i64 0, .int .i64 0]) (hq : w.heap.size ≤ q) (hw : w0.heap.size + 4 ≤ w.heap.size) (hn : ∀ b, (Value.slice An nn cn).ownBlock = some b → b < w.heap.size) (hd : ∀ b, (Value.slice Ad nd cd).ownBlock = some b → b < w.heap.size) :
 mZ w0 g AV An nn cn ns Ad nd cd ds kind a b (.pointer (some ⟨q, 0, none⟩)) (((((W.setCell ⟨q, 0, none⟩ (.string (Ei (EC (BA LT) nd)))).setCell ⟨q, 1, none⟩ (.int .i64 kind)).setCell ⟨q, 2, none⟩ (.int .i64 a)).setCell ⟨q, 3, none⟩ (.int .i64 b)).setCell ⟨q, 4, none⟩ (.int .i64 0)) := by
 have e1 : ∀ r, (Value.slice An nn cn).ownBlock = some r → r ≠ q := fun r e => by have := hn r e; omega
 have e2 : ∀ r, (Value.slice Ad nd cd).ownBlock = some r → r ≠ q := fun r e => by have := hd r e; omega
 have UN : w0.heap.size + 4 ≤ q := by omega
 rw [hT];exact ⟨q, rfl, ((((h.1.store UN e1 e2).store UN e1 e2).store UN e1 e2).store UN e1 e2).store UN e1 e2, ((((hB.set 0 _).set 1 _).set 2 _).set 3 _).set 4 _, UN, e1, e2⟩
theorem yG.nb_row (h : yG w0 g AV An nn cn ns Ad nd cd ds W) (hg : W.grownBy W' (Value.slice Ad nd cd).ownBlock) : AJ W' (w0.heap.size + 3) 26 #[.slice An nn cn, .slice Ad nd cd] := h.nb.grown hg (fun e => by have := (h.rd.lt _ e.symm).1; omega)
end
theorem iS (w0 : World) (g : Nat) (AV : Int) (An : Option Addr) (nn cn : Nat) (ns : List Nd) (Ad : Option Addr) (nd cd : Nat) (ds : List Dv) (kind : Nat) (a b : Int) (w : World) (h : yG w0 g AV An nn cn ns Ad nd cd ds w) (hk : 1 ≤ kind ∧ kind ≤ 6) (AB : nd < 100) :
 Calls Tryz.prog 34 #[.int .i64 kind, .int .i64 a, .int .i64 b, .pointer (some ⟨w0.heap.size + 3, 0, none⟩), .pointer (some ⟨w0.heap.size + 1, 0, none⟩), .pointer (some ⟨w0.heap.size, 0, none⟩)] w (iY w0 g AV An nn cn ns nd ds kind a b) := by
 have H := iD h; clear h;have k1 := H.nb.c1;have k2 := H.db.c0;by_cases h1 : AV ≤ nd
 ·have q1 : decide (AV ≤ (nd : Int)) = true := by simpa using h1
  go_enter Tryz.func34, Tryz.ntmps34
  go_wp2_with fail
  go_end0
  exact ⟨rfl, Ad, nd, cd, ds, H, fun _ => ⟨rfl, rfl⟩, fun h => absurd h (by omega)⟩
 have q1 : decide (AV ≤ (nd : Int)) = false := by simpa using h1
 go_enter Tryz.func34, Tryz.ntmps34
 go_upto_region 1 with (fail);clear q1 k2;have hsz := H.size;have KS := iD (fun b e => (H.rn.lt b e).2);have AH := iD (fun b e => (H.rd.lt b e).2);have BJ : w0.heap.size + 3 < w.heap.size := by omega
 have hnd' : (nd : Int) ≤ 9223372036854775807 := by omega
 go_cut [9] (fun s9 wc => mZ w0 g AV An nn cn ns Ad nd cd ds kind a b s9 wc)
 case first =>
  have Vm : (#[.string ⟨#[]⟩, .string ⟨#[76]⟩, .string ⟨#[81]⟩, .string ⟨#[68]⟩, .string ⟨#[69]⟩, .string ⟨#[83]⟩, .string ⟨#[71]⟩] : Array Value)[kind]? = some (.string (Ei (xM kind))) := by
   rcases (show kind = 1 ∨ kind = 2 ∨ kind = 3 ∨ kind = 4 ∨ kind = 5 ∨ kind = 6 by omega) with rfl | rfl | rfl | rfl | rfl | rfl <;> rfl
  have AE : (Ei (xM kind)).size ≤ 1000 := by
   rcases (show kind = 1 ∨ kind = 2 ∨ kind = 3 ∨ kind = 4 ∨ kind = 5 ∨ kind = 6 by omega) with rfl | rfl | rfl | rfl | rfl | rfl <;> decide
  have HT : Hid (BA (Ei (xM kind)) = xM kind) := vR _;generalize Ei (xM kind) = LT at *;have Ap : (kind : Int) < 7 := by omega
  refine zB (S := nS w0 g AV An nn cn ns Ad nd cd ds w) (J := [13]) (by kernel_rfl) ⟨H.drew, Nat.le_refl _⟩ (fun AA => ?_);refine ti 1 16 ?_ ?_ AA ?_;rotate_left
  ·(intro W AR; clear AR; go_simp; try with_reducible rfl)
  try simp only [Act.put, sA, sB, sC]
  refine ti 4 19 ?_ ?_ AA ?_;rotate_left
  ·(intro W AR; clear AR; go_simp; try with_reducible rfl)
  try simp only [Act.put, sA, sB, sC]
  refine ti 5 20 ?_ ?_ AA ?_;rotate_left
  ·(intro W AR; have k1 : W.cell? ⟨w0.heap.size + 3, 1, none⟩ = some (.slice Ad nd cd) := AR.1.nb.cell 1; clear AR; go_simp; try with_reducible rfl)
  try simp only [Act.put, sA, sB, sC]
  refine ti 6 21 ?_ ?_ AA ?_;rotate_left
  ·(intro W AR; clear AR; go_simp; try with_reducible rfl)
  try simp only [Act.put, sA, sB, sC]
  refine ti 8 23 ?_ ?_ AA ?_;rotate_left
  ·(intro W AR; clear AR; go_simp; try with_reducible rfl)
  try simp only [Act.put, sA, sB, sC]
  refine ti 9 24 ?_ ?_ AA ?_;rotate_left
  ·(intro W AR; clear AR; go_simp; try with_reducible rfl)
  try simp only [Act.put, sA, sB, sC]
  refine ti 10 25 ?_ ?_ AA ?_;rotate_left
  ·(intro W AR; clear AR; go_simp; try with_reducible rfl)
  try simp only [Act.put, sA, sB, sC]
  clear k1;refine ug (i := 0) (k := 12) (by kernel_rfl) rfl rfl (fun K hK => ?_) (fun K hK => ?_)
  ·go_simp
   refine hK _ _ (fun _ => ux AA _) fun p => (fun AA => ?_) (p rfl)
   clear p hK K
   try simp only [Act.put, sA, sB, sC]
   refine vw (kQ w0 g AV An nn cn ns Ad nd cd ds w LT kind w.heap.size) (fun _ h => h.1) ⟨AA, ((AJ.new _ _ _).cell _).trans Vm⟩ (fun AA => ?_);refine ti 2 17 ?_ ?_ AA ?_;rotate_left
   ·(intro W AR; have kt := AR.2; clear AR; go_simp; try with_reducible rfl)
   try simp only [Act.put, sA, sB, sC]
   refine ti 3 18 ?_ ?_ AA ?_;rotate_left
   ·(intro W AR; have kt := AR.2; clear AR; go_simp; try with_reducible rfl)
   try simp only [Act.put, sA, sB, sC]
   generalize RD : World.alloc _ _ = W1 at *;refine ug (i := 7) (k := 12) (by kernel_rfl) rfl rfl (fun K hK => ?_) (fun K hK => ?_)
   ·go_simp
    refine (wj LT nd _ AE AB).mono ?_;rintro e wa ⟨rfl, PS⟩
    go_simp
    refine hK _ _ (fun _ => uw AA PS) fun p => (fun AA => ?_) (p rfl)
    clear p hK K
    try simp only [Act.put, sA, sB, sC]
    refine ti 11 26 ?_ ?_ AA ?_;rotate_left
    ·(intro W AR; clear AR; go_simp; try with_reducible rfl)
    try simp only [Act.put, sA, sB, sC]
    have Ak := iD AA;refine yT (k := 12) (by kernel_rfl) rfl (fun K hK => ?_)
    go_simp
    refine hK _ _ (fun _ => rh AA _) fun p => (fun AA => ?_) (p rfl)
    clear p hK K
    try simp only [Act.put, sA, sB, sC]
    refine yT (k := 13) (by kernel_rfl) rfl (fun K hK => ?_)
    go_simp
    refine hK _ _ (fun h => by cases h) (fun _ => ?_);clear hK K
    try simp only [Act.put, sA, sB, sC]
    refine tK ?_
    go_wp2_with fail
    go_meet
    case rel => exact mT HT Ak.1 KS AH.out
   ·go_simp
    refine hK _ _ (fun _ => rh AA _) fun p => (fun AA => ?_) (p rfl)
    clear p hK K
    try simp only [Act.put, sA, sB, sC]
    have SV : w.heap.size ≤ W1.heap.size := by rw [← RD]; simp
    refine vw (iZ w0 g AV An nn cn ns Ad nd cd ds w LT kind (w.heap.size) (W1.heap.size)) (fun _ h => h.1) ⟨AA, AJ.new _ _ _⟩ (fun AA => ?_);refine yT (k := 7) (by kernel_rfl) rfl (fun K hK => ?_)
    go_simp
    refine (wj LT nd _ AE AB).mono ?_;rintro e wa ⟨rfl, PS⟩
    go_simp
    refine hK _ _ (fun _ => ri AA PS) fun p => (fun AA => ?_) (p rfl)
    clear p hK K
    try simp only [Act.put, sA, sB, sC]
    refine ti 11 26 ?_ ?_ AA ?_;rotate_left
    ·(intro W AR; clear AR; go_simp; try with_reducible rfl)
    try simp only [Act.put, sA, sB, sC]
    have Dp := iD AA.2;have AG := iD AA.1.1;have z0 := Dp.c0;have f0 : wa.frozen? ⟨W1.heap.size, 0, none⟩ = false := Dp.frozen 0;have z1 := Dp.c1;have f1 : wa.frozen? ⟨W1.heap.size, 1, none⟩ = false := Dp.frozen 1;have z2 := Dp.c2;have f2 : wa.frozen? ⟨W1.heap.size, 2, none⟩ = false := Dp.frozen 2;have z3 := Dp.c3;have f3 : wa.frozen? ⟨W1.heap.size, 3, none⟩ = false := Dp.frozen 3;have z4 := Dp.c4;have f4 : wa.frozen? ⟨W1.heap.size, 4, none⟩ = false := Dp.frozen 4;refine yT (k := 13) (by kernel_rfl) rfl (fun K hK => ?_)
    go_simp
    refine hK _ _ (fun h => by cases h) (fun _ => ?_);clear hK K
    try simp only [Act.put, sA, sB, sC]
    refine tK ?_
    go_wp2_with fail
    go_meet
    case rel => exact qz HT AG Dp SV hsz KS AH.out
  ·go_simp
   refine hK _ _ (fun _ => ux AA _) fun p => (fun AA => ?_) (p rfl)
   clear p hK K
   try simp only [Act.put, sA, sB, sC]
   generalize RD : World.alloc _ _ = W1 at *;have Ky : AJ W1 w.heap.size 75 #[.string ⟨#[]⟩, .int .i64 0, .int .i64 0, .int .i64 0, .int .i64 0] := by rw [← RD]; exact AJ.new _ _ _
   have SV : w.heap.size ≤ w.heap.size := Nat.le_refl _;refine yT (k := 0) (by kernel_rfl) rfl (fun K hK => ?_)
   go_simp
   refine hK _ _ (fun _ => ux AA _) fun p => (fun AA => ?_) (p rfl)
   clear p hK K
   try simp only [Act.put, sA, sB, sC]
   refine vw (iZ w0 g AV An nn cn ns Ad nd cd ds w LT kind (W1.heap.size) (w.heap.size)) (fun _ h => h.1.1) ⟨⟨AA, ((AJ.new _ _ _).cell _).trans Vm⟩, Ky.alloc _⟩ (fun AA => ?_);clear Ky;refine ti 2 17 ?_ ?_ AA ?_;rotate_left
   ·(intro W AR; have kt := AR.1.2; clear AR; go_simp; try with_reducible rfl)
   try simp only [Act.put, sA, sB, sC]
   refine ti 3 18 ?_ ?_ AA ?_;rotate_left
   ·(intro W AR; have kt := AR.1.2; clear AR; go_simp; try with_reducible rfl)
   try simp only [Act.put, sA, sB, sC]
   refine yT (k := 7) (by kernel_rfl) rfl (fun K hK => ?_)
   go_simp
   refine (wj LT nd _ AE AB).mono ?_;rintro e wa ⟨rfl, PS⟩
   go_simp
   refine hK _ _ (fun _ => ri AA PS) fun p => (fun AA => ?_) (p rfl)
   clear p hK K
   try simp only [Act.put, sA, sB, sC]
   refine ti 11 26 ?_ ?_ AA ?_;rotate_left
   ·(intro W AR; clear AR; go_simp; try with_reducible rfl)
   try simp only [Act.put, sA, sB, sC]
   have Dp := iD AA.2;have AG := iD AA.1.1;have z0 := Dp.c0;have f0 : wa.frozen? ⟨w.heap.size, 0, none⟩ = false := Dp.frozen 0;have z1 := Dp.c1;have f1 : wa.frozen? ⟨w.heap.size, 1, none⟩ = false := Dp.frozen 1;have z2 := Dp.c2;have f2 : wa.frozen? ⟨w.heap.size, 2, none⟩ = false := Dp.frozen 2;have z3 := Dp.c3;have f3 : wa.frozen? ⟨w.heap.size, 3, none⟩ = false := Dp.frozen 3;have z4 := Dp.c4;have f4 : wa.frozen? ⟨w.heap.size, 4, none⟩ = false := Dp.frozen 4;refine yT (k := 13) (by kernel_rfl) rfl (fun K hK => ?_)
   go_simp
   refine hK _ _ (fun h => by cases h) (fun _ => ?_);clear hK K
   try simp only [Act.put, sA, sB, sC]
   refine tK ?_
   go_wp2_with fail
   go_meet
   case rel => exact qz HT AG Dp SV hsz KS AH.out
 case rest =>
  obtain ⟨b9, rfl, AU, hblk, BX, AW, AY⟩ := hcut;have Ar := iD AU; have VB := iD hblk; have Rc := iD AW; have XV := iD AY;clear AU hblk AW AY
  rename_i wc _
  have kp := Ar.pb.c0
  go_wp2_with fail
  clear kp;refine (wT g 8 wc Ar.deck (by decide)).mono ?_;rintro e w1 ⟨r, rfl, BC, Am, BS⟩;have BB := iD (Ar.next BC Am);have La := iD (VB.grown Am (fun e => by have := Ar.lt; injection e with e; omega));clear BC Am BS;rcases r with _ | _
  ·skip
   have kd := BB.nb.c1;obtain ⟨e0, e1, e2, e3, e4⟩ := La.d5;have Pi := BB.size
   go_wp2_with (at_builtin; go_must (refine zL rfl (.tmp 34) (.tmp 36) rfl jZ (by rfl) (BB.rd.alloc _) (by rfl) (Sl.newest (n := 1) (by rfl) (by rfl) (by decide)) (by simp [Value.oneCell']) (by omega) (by omega) (by simp; omega) ?_; intro A' cap' w3 Bv Cr ER; have CP := (BB.alloc _).nb_row Cr; have Io := iD ((BB.alloc _).dev (x := ⟨Ei (EC (xM kind) nd), kind, a, b, 0⟩) Bv Cr ER); have kn : w3.cell? ⟨w0.heap.size + 3, 1, none⟩ = some (.slice Ad nd cd) := CP.cell 1; have fn := CP.frozen 1; clear Bv Cr ER CP))
   go_end0
   exact ⟨rfl, A', nd + 1, cap', _, Io, fun h => absurd h (by omega), fun _ => ⟨rfl, 0, by decide, by decide, rfl⟩⟩
  ·have kp := BB.pb.c0
   go_wp2_with fail
   clear kp;refine (zS g 2 w1 BB.deck (by decide)).mono ?_;rintro e w2 ⟨r, rfl, Ao, Km, Po, Ih, Cc, IK⟩;have PG : r < 2 := Po (by decide);have EX := iD (BB.next Ih Cc);have Tw := iD (La.grown Cc (fun e => by have := Ar.lt; injection e with e; omega));clear Km Po Ih Cc IK;have c4 := Tw.c4;have f4 := Tw.frozen 4;have FX := iD (EX.store (u := .int .i64 (1 + r)) (j := 4) BX Rc XV);have AL := iD (Tw.set 4 (.int .i64 (1 + r)));go_upto_region 4 with (fail);clear c4 f4;generalize World.setCell _ _ _ = w4 at *;have kd := FX.nb.c1;obtain ⟨e0, e1, e2, e3, e4⟩ := AL.d5;have Pi := FX.size
   go_wp2_with (at_builtin; go_must (refine zL rfl (.tmp 34) (.tmp 36) rfl jZ (by rfl) (FX.rd.alloc _) (by rfl) (Sl.newest (n := 1) (by rfl) (by rfl) (by decide)) (by simp [Value.oneCell']) (by omega) (by omega) (by simp; omega) ?_; intro A' cap' w3 Bv Cr ER; have CP := (FX.alloc _).nb_row Cr; have Io := iD ((FX.alloc _).dev (x := ⟨Ei (EC (xM kind) nd), kind, a, b, (1 + r)⟩) Bv Cr ER); have kn : w3.cell? ⟨w0.heap.size + 3, 1, none⟩ = some (.slice Ad nd cd) := CP.cell 1; have fn := CP.frozen 1; clear Bv Cr ER CP))
   go_end0
   exact ⟨rfl, A', nd + 1, cap', _, Io, fun h => absurd h (by omega), fun _ => ⟨rfl, 1 + r, by omega, by omega, rfl⟩⟩
end
section
open Go.RowKit
def gF (i : Nat) (x : Nd) : Prop := x.name = Ei (EC [78] i) ∧ 0 ≤ x.cust ∧ x.cust ≤ 50 ∧ 0 ≤ x.comp ∧ x.comp ≤ 2
def gm (k i : Nat) (x : Dv) : Prop := x.name = Ei (EC (xM x.kind.toNat) i) ∧ 1 ≤ x.kind ∧ x.kind ≤ 6 ∧ xW x.kind x.a x.b k = true ∧ 0 ≤ x.comp ∧ x.comp ≤ 2
def pB (ns : List Nd) : Prop := ∀ i x, ns[i]? = some x → gF i x
def pC (k : Nat) (ds : List Dv) : Prop := ∀ i x, ds[i]? = some x → gm k i x
theorem pB.snoc {ns : List Nd} (h : pB ns) {x : Nd} (hx : gF ns.length x) : pB (ns ++ [x]) := by
 intro i y hy;rcases Nat.lt_trichotomy i ns.length with h1 | h1 | h1
 ·rw [List.getElem?_append_left h1] at hy; exact h i y hy
 ·subst h1; simp at hy; subst hy; exact hx
 ·rw [List.getElem?_eq_none (by simp; omega)] at hy; cases hy
theorem pC.snoc {k : Nat} (h : pC k ds) (hx : gm k ds.length x) : pC k (ds ++ [x]) := by
 intro i y hy;rcases Nat.lt_trichotomy i ds.length with h1 | h1 | h1
 ·rw [List.getElem?_append_left h1] at hy; exact h i y hy
 ·subst h1; simp at hy; subst hy; exact hx
 ·rw [List.getElem?_eq_none (by simp; omega)] at hy; cases hy
def rl (lo : Nat) (w0 : World) (g : Nat) (AV : Int) (An : Option Addr) (k cn : Nat) (ns : List Nd) (w : World) : Prop :=
 ∃ (Ad : Option Addr) (nd cd : Nat) (ds : List Dv), yG w0 g AV An k cn ns Ad nd cd ds w ∧ (nd : Int) ≤ AV ∧ lo ≤ nd ∧ ds.length = nd ∧ pC k ds
section
variable {w0 w w' : World} {g lo k cn : Nat} {AV : Int} {An : Option Addr} {ns : List Nd}
theorem rl.next (h : rl lo w0 g AV An k cn ns w) (hd : zP w' g) (hg : w.grownBy w' (some g)) : rl lo w0 g AV An k cn ns w' := by
 obtain ⟨Ad, nd, cd, ds, h1, h2⟩ := h;exact ⟨Ad, nd, cd, ds, h1.next hd hg, h2⟩
theorem rl.deck (h : rl lo w0 g AV An k cn ns w) : zP w g := by
 obtain ⟨Ad, nd, cd, ds, h1, h2⟩ := h;exact h1.deck
theorem rl.pc (h : rl lo w0 g AV An k cn ns w) : w.cell? ⟨w0.heap.size, 0, none⟩ = some (.pointer (some ⟨g, 0, none⟩)) := by
 obtain ⟨Ad, nd, cd, ds, h1, h2⟩ := h;exact h1.pb.cell 0
def gK (w0 : World) (g : Nat) (AV : Int) (An : Option Addr) (k cn : Nat) (ns : List Nd) (e : Ending) (w' : World) : Prop := e = .returned (.tuple #[]) ∧ Hid (rl 1 w0 g AV An k cn ns w')
theorem vi (kind a b : Int) (h : rl lo w0 g AV An k cn ns w) (hk : 1 ≤ kind ∧ kind ≤ 6) (hm : 1 ≤ AV ∧ AV ≤ 90) (he : xW kind a b k = true) :
 Calls Tryz.prog 34 #[.int .i64 kind, .int .i64 a, .int .i64 b, .pointer (some ⟨w0.heap.size + 3, 0, none⟩), .pointer (some ⟨w0.heap.size + 1, 0, none⟩), .pointer (some ⟨w0.heap.size, 0, none⟩)] w (gK w0 g AV An k cn ns) := by
 obtain ⟨Ad, nd, cd, ds, h1, h2, h3, h4, h5⟩ := h;obtain ⟨q, rfl⟩ := Int.eq_ofNat_of_zero_le (show 0 ≤ kind by omega);refine (iS w0 g AV An k cn ns Ad nd cd ds q a b w h1 (by omega) (by omega)).mono ?_;rintro e w1 ⟨rfl, Ad', nd', cd', ds', hs, hA, hB⟩;refine ⟨rfl, Ad', nd', cd', ds', hs, ?_⟩;by_cases hc : AV ≤ nd
 ·obtain ⟨rfl, rfl⟩ := hA hc;exact ⟨h2, by omega, h4, h5⟩
 ·obtain ⟨rfl, comp, Mv, Mt, rfl⟩ := hB (by omega);refine ⟨by omega, by omega, by simp [h4], h5.snoc ?_⟩;rw [h4];exact ⟨rfl, hk.1, hk.2, he, Mv, Mt⟩
end
structure uW (nodes AV : Int) (ns : List Nd) (ds : List Dv) : Prop where
 n2 : 2 ≤ ns.length
 nm : (ns.length : Int) ≤ nodes
 d1 : 1 ≤ ds.length
 dm : (ds.length : Int) ≤ AV
 nok : pB ns
 dok : pC ns.length ds
def lP (w : World) (g : Nat) (nodes AV : Int) (e : Ending) (w' : World) : Prop :=
 ∃ (An : Option Addr) (nn cn : Nat) (ns : List Nd) (Ad : Option Addr) (nd cd : Nat) (ds : List Dv), e = .returned (.agg #[.slice An nn cn, .slice Ad nd cd]) ∧ Hid (zP w' g) ∧ Hid (w.grownBy w' (some g)) ∧
  Hid (w'.ownsRow (w.heap.size + 4) 73 3 (.slice An nn cn) nn (ns.flatMap Nd.cells)) ∧ Hid (w'.ownsRow (w.heap.size + 4) 75 5 (.slice Ad nd cd) nd (ds.flatMap Dv.cells)) ∧ Hid (uW nodes AV ns ds)
theorem mC {w wr : World} {g nn cn : Nat} {nodes AV : Int} {An : Option Addr} {ns : List Nd} (Ad : Option Addr) (nd cd : Nat) (ds : List Dv) (h : yG w g AV An nn cn ns Ad nd cd ds wr) (h1 : (nd : Int) ≤ AV ∧ 1 ≤ nd ∧ ds.length = nd ∧ pC nn ds) (h2 : ns.length = nn ∧ pB ns) (h3 : 2 ≤ nn ∧ (nn : Int) ≤ nodes) (u v : Value) :
 lP w g nodes AV (.returned (.agg #[.slice An nn cn, .slice Ad nd cd])) ((wr.setCell ⟨w.heap.size + 2, 0, none⟩ u).setCell ⟨w.heap.size + 2, 1, none⟩ v) := by
 have hl := h.lt;have Am : wr.grownBy ((wr.setCell ⟨w.heap.size + 2, 0, none⟩ u).setCell ⟨w.heap.size + 2, 1, none⟩ v) (some (w.heap.size + 2)) := ⟨rfl, rfl, rfl, by simp [World.setCell], fun i _ hi => (Below.heap_setCell _ _ _ i (fun e => hi (by rw [e]))).trans (Below.heap_setCell wr _ _ i (fun e => hi (by rw [e])))⟩;refine ⟨An, nn, cn, ns, Ad, nd, cd, ds, rfl, ?_, ?_, ?_, ?_, ?_⟩
 ·exact (h.deck.setCell (by simp; omega) _).setCell (by simp; omega) _
 ·exact zr (zr h.gr (by simp) _) (by simp) _
 ·exact h.rn.kept Am (zj fun b e => by have := (h.rn.lt b e).1; omega)
 ·exact h.rd.kept Am (zj fun b e => by have := (h.rd.lt b e).1; omega)
 ·exact ⟨by rw [h2.1]; exact h3.1, by rw [h2.1]; exact h3.2, by omega, by omega, h2.2, by rw [h2.1]; exact h1.2.2.2⟩
end
end Go.Proofs.YtddddlhgaeameaaGreatDoor
