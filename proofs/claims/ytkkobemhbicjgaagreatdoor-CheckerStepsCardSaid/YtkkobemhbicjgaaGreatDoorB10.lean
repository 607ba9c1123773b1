import Derived.Test.YtkkobemhbicjgaaGreatDoorB07
import Derived.Laws.EntriesVeiled
import Derived.Test.YtkkobemhbicjgaaGreatDoorB03
set_option maxRecDepth 100000
set_option maxHeartbeats 8000000
namespace Go.Proofs.YtkkobemhbicjgaaGreatDoor
open Go.RowKit Tryz
variable {nn : Nat} {ds : List Dv} {c o s : List Int} {W : World} {v : Int}
section
def sy (kd a b : Int) (parts op : List Int) : Bool := FC kd a b parts && EZ kd a op && Ev kd a b op
def Gi (kd a b : Int) (parts op : List Int) : Bool := FC kd a b parts && !(EZ kd a op == Ev kd a b op)
def dN (kd a b : Int) (parts op : List Int) : Int := if Gi kd a b parts op = true then (if EZ kd a op = true then Jk kd a b else KH kd a) else 0
theorem pw (An Ad Ap Ao Ac : Option Addr) (nn cn nd cd : Nat) (nm : ByteArray) (kd a b co : Int) (parts op cl : List Int) (w : World) (h : uc w nn kd a b Ap Ao Ac parts op cl) :
 Calls prog 190 #[.agg (Cg An nn cn Ad nd cd nm kd a b co Ap Ao Ac)] w fun e w' => e = .returned (.bool (sy kd a b parts op)) ∧ bW w w' := by
 have Ce := iD (qn An Ad Ap Ao Ac nn cn nd cd nm kd a b co parts op cl (w.alloc (.cells (Cg An nn cn Ad nd cd nm kd a b co Ap Ao Ac) 219)) (h.alloc _));have HB : Hid (Below w.heap.size w (w.alloc (.cells (Cg An nn cn Ad nd cd nm kd a b co Ap Ao Ac) 219))) := (Below.refl _ _).alloc lR _;have HP : Hid (sy kd a b parts op = (FC kd a b parts && EZ kd a op && Ev kd a b op)) := rfl;clear h;simp only [Cg] at Ce HB ⊢;generalize FC kd a b parts = ok at *;generalize EZ kd a op = l0 at *;generalize Ev kd a b op = l1 at *
 go_enter func190, ntmps190
 go_wp2_with fail
 refine Ce.mono ?_;rintro e w1 ⟨rfl, AV⟩;have AQ := iD (HB.trans (AV.mono HB.size));have hz := AQ.size;clear AV HB Ce;rcases ok with _ | _
 ·go_wp2_with fail
  go_ret;exact ⟨zF (by rw [HP.out]; rfl), (AQ.alloc hz _).alloc (by simp; omega) _⟩
 ·rcases l0 with _ | _
  ·go_wp2_with fail
   go_ret;exact ⟨zF (by rw [HP.out]; rfl), (AQ.alloc hz _).alloc (by simp; omega) _⟩
  ·go_wp2_with fail
   go_ret;exact ⟨zF (by rw [HP.out]; simp), (AQ.alloc hz _).alloc (by simp; omega) _⟩
def gR (w : World) (n : Int) (ok : Bool) (e : Ending) (w' : World) : Prop := e = .returned (.tuple #[.int .i64 n, .bool ok]) ∧ bW w w'
theorem nz (An Ad Ap Ao Ac : Option Addr) (nn cn nd cd : Nat) (nm : ByteArray) (kd a b co : Int) (parts op cl : List Int) (w : World) (h : uc w nn kd a b Ap Ao Ac parts op cl) :
 Calls prog 217 #[.agg (Cg An nn cn Ad nd cd nm kd a b co Ap Ao Ac)] w (gR w (dN kd a b parts op) (Gi kd a b parts op)) := by
 have Ce := iD (qn An Ad Ap Ao Ac nn cn nd cd nm kd a b co parts op cl (w.alloc (.cells (Cg An nn cn Ad nd cd nm kd a b co Ap Ao Ac) 219)) (h.alloc _));have HB : Hid (Below w.heap.size w (w.alloc (.cells (Cg An nn cn Ad nd cd nm kd a b co Ap Ao Ac) 219))) := (Below.refl _ _).alloc lR _;have HP : Hid (Gi kd a b parts op = (FC kd a b parts && !(EZ kd a op == Ev kd a b op)) ∧ dN kd a b parts op = if Gi kd a b parts op = true then (if EZ kd a op = true then Jk kd a b else KH kd a) else 0) := ⟨rfl, rfl⟩;clear h;simp only [Cg] at Ce HB ⊢;generalize FC kd a b parts = ok at *;generalize EZ kd a op = l0 at *;generalize Ev kd a b op = l1 at *;generalize KH kd a = n0 at *;generalize Jk kd a b = n1 at *;generalize dN kd a b parts op = dn at *;generalize Gi kd a b parts op = dk at *
 go_enter func217, ntmps217
 go_wp2_with fail
 refine Ce.mono ?_;rintro e w1 ⟨rfl, AV⟩;have AQ := iD (HB.trans (AV.mono HB.size));have hz := AQ.size;clear AV HB Ce;have Lj : Hid (∀ (x y : Obj), Below w.heap.size w ((w1.alloc x).alloc y)) := fun x y => (AQ.alloc hz _).alloc (by simp; omega) _
 rcases ok with _ | _
 ·go_wp2_with fail
  go_ret2;exact ⟨by rw [HP.2, HP.1]; rfl, Lj _ _⟩
 ·rcases l0 with _ | _ <;> rcases l1 with _ | _ <;>
  ·go_wp2_with fail
   go_ret2;exact ⟨by rw [HP.2, HP.1]; rfl, Lj _ _⟩
theorem oL (An Ad Ap Ao Ac : Option Addr) (nn cn nd cd : Nat) (nm : ByteArray) (kd a b co : Int) (parts op cl : List Int) (w : World) (h : uc w nn kd a b Ap Ao Ac parts op cl) :
 Calls prog 192 #[.agg (Cg An nn cn Ad nd cd nm kd a b co Ap Ao Ac)] w fun e w' => e = .returned (.bool (Gi kd a b parts op)) ∧ bW w w' := by
 have Ce := iD (nz An Ad Ap Ao Ac nn cn nd cd nm kd a b co parts op cl (w.alloc (.cells (Cg An nn cn Ad nd cd nm kd a b co Ap Ao Ac) 219)) (h.alloc _));have HB : Hid (Below w.heap.size w (w.alloc (.cells (Cg An nn cn Ad nd cd nm kd a b co Ap Ao Ac) 219))) := (Below.refl _ _).alloc lR _;clear h;simp only [Cg] at Ce HB ⊢;generalize dN kd a b parts op = dn at *;generalize Gi kd a b parts op = dk at *
 go_enter func192, ntmps192
 go_wp2_with fail
 refine Ce.mono ?_;rintro e w1 ⟨rfl, AV⟩;have AQ := iD (HB.trans (AV.mono HB.size));clear AV HB Ce
 go_wp2_with fail
 go_ret;exact ⟨rfl, AQ⟩
theorem ej {kd a b : Int} {parts op : List Int} (h : Gi kd a b parts op = true) : dN kd a b parts op = a ∨ (zV kd = true ∧ dN kd a b parts op = b) := by
 unfold dN;rw [if_pos h];unfold Gi FC EZ Ev at h;unfold EZ Jk KH;by_cases h4 : kd = 4
 ·rw [if_pos h4] at h; cases h
 ·simp only [if_neg h4] at h ⊢;rcases hj : zV kd with _ | _
  ·simp
  ·simp only [hj] at h ⊢;simp;rcases JM op a with _ | _ <;> simp
def xZ (kd a b : Int) (ns : List Nd) (parts op : List Int) (j : Nat) : Prop := ∃ (i : Nat) (x : Nd), i < j ∧ ns[i]? = some x ∧ 0 < x.cust ∧ parts.getD i 0 = parts.getD (dN kd a b parts op).toNat 0
open Classical in
noncomputable def wY (kd a b : Int) (ns : List Nd) (parts op : List Int) : Bool := Gi kd a b parts op && decide (xZ kd a b ns parts op ns.length)
def LoR (w : World) (V : Array Value) (vb nn : Nat) (kd a b : Int) (ns : List Nd) (parts op : List Int) (gk : Nat) (iv : Value) (wr : World) : Prop := ∃ i : Nat, iv = .int .i64 i ∧ i ≤ nn ∧ gk = nn - i ∧ Hid (AJ wr vb 219 V) ∧ Hid (bW w wr) ∧ Hid (¬ xZ kd a b ns parts op i)
theorem ic (An Ad Ap Ao Ac : Option Addr) (nn cn nd cd : Nat) (nm : ByteArray) (kd a b co : Int) (ns : List Nd) (parts op cl : List Int) (w : World) (h : uc w nn kd a b Ap Ao Ac parts op cl) (hn : BI w 3 An nn cn (ns.flatMap Nd.cells)) :
 Calls prog 191 #[.agg (Cg An nn cn Ad nd cd nm kd a b co Ap Ao Ac)] w fun e w' => e = .returned (.bool (wY kd a b ns parts op)) ∧ bW w w' := by
 have Ce := iD (nz An Ad Ap Ao Ac nn cn nd cd nm kd a b co parts op cl (w.alloc (.cells (Cg An nn cn Ad nd cd nm kd a b co Ap Ao Ac) 219)) (h.alloc _));have HB : Hid (Below w.heap.size w (w.alloc (.cells (Cg An nn cn Ad nd cd nm kd a b co Ap Ao Ac) 219))) := (Below.refl _ _).alloc lR _;have HV := iD (AJ.new w 219 (Cg An nn cn Ad nd cd nm kd a b co Ap Ao Ac));have Cb := iD (hn.len (fun _ => rfl) (by decide));have EH := hn.le;have HO := iD h; have HN := iD hn;clear h hn;simp only [Cg] at Ce HB HV ⊢;rcases hk : Gi kd a b parts op with _ | _
 ·have HR : Hid (wY kd a b ns parts op = false) := by unfold Hid wY; rw [hk]; rfl
  rw [hk] at Ce;clear hk;generalize dN kd a b parts op = dn at *
  go_enter func191, ntmps191
  go_wp2_with fail
  refine Ce.mono ?_;rintro e w1 ⟨rfl, AV⟩;have AQ := iD (HB.trans (AV.mono HB.size));clear AV HB Ce
  go_wp2_with fail
  go_ret;exact ⟨zF (by rw [HR.out]), AQ⟩
 ·have Iq : 0 ≤ dN kd a b parts op ∧ dN kd a b parts op < nn := by
   rcases ej hk with e | ⟨hj, e⟩ <;> rw [e]
   ·exact HO.a0
   ·exact HO.b0 hj
  have NW : Hid (∀ t : Bool, (t = true ↔ xZ kd a b ns parts op ns.length) → wY kd a b ns parts op = t) := by
   intro t ht;unfold wY;rw [hk];rw [Bool.eq_iff_iff, ht];simp
  rw [hk] at Ce;clear hk;obtain ⟨sd, BU⟩ := Int.eq_ofNat_of_zero_le Iq.1;have GU : Hid (∀ j, xZ kd a b ns parts op j ↔ ∃ (i : Nat) (x : Nd), i < j ∧ ns[i]? = some x ∧ 0 < x.cust ∧ parts.getD i 0 = parts.getD sd 0) := fun j => by unfold xZ; rw [BU, Int.toNat_natCast]
  rw [BU] at Ce Iq;have AH : sd < nn := by omega
  clear BU Iq;have BH := HO.n0
  go_enter func191, ntmps191
  go_wp2_with fail
  refine Ce.mono ?_;rintro e w1 ⟨rfl, AV⟩;have AQ := iD (HB.trans (AV.mono HB.size));have Ja := iD (HV.below AV HV.lt);clear AV HB Ce HV;obtain ⟨vb, Dt⟩ := eX w.heap.size;rw [← Dt] at Ja ⊢;have PN := iD Dt; clear Dt;have e0 := Ja.c0
  go_wp2_with fail
  clear e0
  go_loopg [18] nn (LoR w #[.slice An nn cn, .slice Ad nd cd, .string nm, .int .i64 kd, .int .i64 a, .int .i64 b, .int .i64 co, .slice Ap nn nn, .slice Ao nn nn, .slice Ac nn nn] vb nn kd a b ns parts op)
  case atStart => exact ⟨0, rfl, Nat.zero_le _, rfl, Ja, AQ, fun hc => by obtain ⟨i, x, hi, _⟩ := hc; omega⟩
  case round =>
   clear Ja AQ;obtain ⟨i, rfl, hi, rfl, hv, AU, hno⟩ := hrel;by_cases hlt : i < nn
   ·obtain ⟨b0, off, BF, rfl, hb, hx, hc⟩ := (HN.below AU lR).at (fun _ => rfl) (by decide) hlt;have HX := iD hx;obtain ⟨Dm, cu, Bi⟩ := BF;have c0 : wr.cell? ⟨b0, off + i * 3, none⟩ = some (.string Dm) := hc 0 _ rfl;have c1 : wr.cell? ⟨b0, off + i * 3 + 1, none⟩ = some (.int .i64 cu) := hc 1 _ rfl;have c2 : wr.cell? ⟨b0, off + i * 3 + 2, none⟩ = some (.int .i64 Bi) := hc 2 _ rfl;clear hc hx;have OO := AU.size;go_upto_region 7 with (fail);clear c0 c1 c2;have HK := iD (AJ.new wr 85 #[.string Dm, .int .i64 cu, .int .i64 Bi]);have PP := iD (hv.alloc (.cells #[.string Dm, .int .i64 cu, .int .i64 Bi] 85));have Ai := iD (AU.alloc OO (.cells #[.string Dm, .int .i64 cu, .int .i64 Bi] 85));generalize World.alloc _ _ = w2 at *;obtain ⟨bq, FQ⟩ := eX wr.heap.size;rw [← FQ] at HK ⊢;clear FQ hv AU OO;have e1 := HK.c1;by_cases DK : 0 < cu; rotate_left
    ·have BW : decide (0 < cu) = false := by simpa using DK
     have JA : Hid (¬ xZ kd a b ns parts op (i + 1)) := fun hc => by
      obtain ⟨t, x, ht, hx, CW, GX⟩ := (GU _).1 hc;rcases Nat.lt_succ_iff_lt_or_eq.1 ht with h | rfl
      ·exact hno ((GU _).2 ⟨t, x, h, hx, CW, GX⟩)
      ·rw [HX.out] at hx; injection hx with hx; subst hx; exact DK CW
     refine fv (fun W' => W'.cell? ⟨bq, 1, none⟩ = some (.int .i64 cu)) [] ?_ fun AA => ?_
     ·exact e1
     try dsimp only at AA
     refine tk 0 23 (mf 16 1) AA ?_;refine tk 1 24 (mf 16 2) AA ?_;refine tk 2 25 (mf 16 3) AA ?_;refine tk 3 26 (mf 16 4) AA ?_;refine ts 4 27 (mf 16 5) AA ?_;refine ts 5 28 (mf 16 6) AA ?_;refine ts 6 29 (mf 16 7) AA ?_;refine ts 7 30 (mf 16 8) AA ?_;refine ts 8 31 (mf 16 9) AA ?_;refine ts 9 32 (mf 16 10) AA ?_;refine ts 10 33 (mf 16 11) AA ?_;refine ts 11 34 (mf 16 12) AA ?_;refine ts 12 35 (mf 16 13) AA ?_;refine ts 13 36 (mf 16 14) AA ?_;refine ts 14 37 (mf 16 15) AA ?_;refine tk 15 38 (mf 16 16) AA ?_;refine tK ?_;clear AA
     go_wp2_with fail
     go_roundg (nn - (i + 1))
     ·exact ⟨i + 1, by go_num, by omega, rfl, PP, Ai.drew, JA⟩
     omega
    ·obtain ⟨pb, Cn, x, rfl, Ob, Np, Ir⟩ := (HO.hp.below Ai lR).at1 (k := i) hlt;obtain ⟨UR, JK, y, Cc, Uq, Al, JV⟩ := (HO.hp.below Ai lR).at1 (k := sd) AH;injection Cc with Cc;injection Cc with h1 h2;subst h1 h2;have p1 : w2.cell? ⟨pb, Cn + i, none⟩ = some (.int .i64 x) := Ir;have p2 : w2.cell? ⟨pb, Cn + sd, none⟩ = some (.int .i64 y) := JV;have KZ := iD (yB Np); have Aw := iD (yB Al);have e7 := PP.c7;clear Np Al Ir JV;refine fv (fun W' => W'.cell? ⟨bq, 1, none⟩ = some (.int .i64 cu) ∧ W'.cell? ⟨vb, 7, none⟩ = some (.slice (some ⟨pb, Cn, none⟩) nn nn) ∧ W'.cell? ⟨pb, Cn + i, none⟩ = some (.int .i64 x) ∧ W'.cell? ⟨pb, Cn + sd, none⟩ = some (.int .i64 y)) [] ?_ fun AA => ?_
     ·exact ⟨e1, e7, p1, p2⟩
     try dsimp only at AA
     refine tk 0 23 (mf 16 1) AA ?_;refine tk 1 24 (mf 16 2) AA ?_;refine tk 2 25 (mf 16 3) AA ?_;refine tk 3 26 (mf 16 4) AA ?_;refine tk 4 27 (mf 16 5) AA ?_;refine tk 5 28 (mf 16 6) AA ?_;refine tk 6 29 (mf 16 7) AA ?_;refine tk 7 30 (mf 16 8) AA ?_;refine tk 8 31 (mf 16 9) AA ?_;refine tk 9 32 (mf 16 10) AA ?_;refine tk 10 33 (mf 16 11) AA ?_;refine tk 11 34 (mf 16 12) AA ?_;refine tk 12 35 (mf 16 13) AA ?_;refine tk 13 36 (mf 16 14) AA ?_;refine tk 14 37 (mf 16 15) AA ?_;refine tk 15 38 (mf 16 16) AA ?_;refine tK ?_;clear AA;by_cases JO : x = y
     ·subst JO;have HR : Hid (wY kd a b ns parts op = true) := NW true ⟨fun _ => (GU _).2 ⟨i, _, by rw [Cb.out]; exact hlt, HX, DK, by rw [KZ.out, Aw.out]⟩, fun _ => rfl⟩
      go_wp2_with fail
      go_ret;exact ⟨zF (by rw [HR.out]), Ai.drew⟩
     ·have BV : (x == y) = false := by simpa using JO
      have JA : Hid (¬ xZ kd a b ns parts op (i + 1)) := fun hc => by
       obtain ⟨t, z, ht, hz, GJ, JN⟩ := (GU _).1 hc;rcases Nat.lt_succ_iff_lt_or_eq.1 ht with h | rfl
       ·exact hno ((GU _).2 ⟨t, z, h, hz, GJ, JN⟩)
       ·rw [KZ.out, Aw.out] at JN; exact JO JN
      clear JO
      go_wp2_with fail
      go_roundg (nn - (i + 1))
      ·exact ⟨i + 1, by go_num, by omega, rfl, PP, Ai.drew, JA⟩
      omega
   ·obtain rfl : i = nn := by omega
    have Cw : decide (i < i) = false := by simp
    have HR : Hid (wY kd a b ns parts op = false) := NW false ⟨(fun h => by cases h), (fun h => by rw [Cb.out] at h; exact absurd h hno)⟩
    go_wp2_with fail
    go_ret;exact ⟨zF (by rw [HR.out]), AU⟩
end
noncomputable def tU (nn : Nat) (ds : List Dv) (s : List Int) : List Int := Classical.epsilon (yW nn ds s)
noncomputable def zW (nn : Nat) (ds : List Dv) (s : List Int) : List Int := Classical.epsilon (wJ nn ds s)
theorem uu {p : List Int} (h : yW nn ds s p) : tU nn ds s = p := (Classical.epsilon_spec ⟨p, h⟩ : yW nn ds s (tU nn ds s)).unique h
theorem xO {p : List Int} (h : wJ nn ds s p) : zW nn ds s = p := (Classical.epsilon_spec ⟨p, h⟩ : wJ nn ds s (zW nn ds s)).unique h
noncomputable def xL (kd a b : Int) (ns : List Nd) (parts op cl : List Int) : Int := if yy kd a b cl = true then 4 else if sy kd a b parts op = true then 3 else if wY kd a b ns parts op = true then 2 else if Gi kd a b parts op = true then 1 else 0
noncomputable def yz (nn : Nat) (ns : List Nd) (ds : List Dv) (s : List Int) (i : Int) (x : Dv) : Int := xL x.kind x.a x.b ns (tU nn ds (zX s i 1)) (zW nn ds (zX s i 1)) (zW nn ds (zX s i 2))
theorem we {p : Addr} {v : Value} (o : Obj) (h : W.cell? p = some v) : (W.alloc o).cell? p = some v := (World.cell?_alloc_lt W o p (vK h)).trans h
theorem wv {base n c q : Nat} {A : Option Addr} {l : List Int} (h : zL W base A n c l) (hq : q < base) (j : Nat) (u : Value) : zL (W.setCell ⟨q, j, none⟩ u) base A n c l := h.kept (zg W _ _) (zb fun b e => by have := (h.lt b e).1; simp; omega)
def OfR (w7 : World) (f p l c : Bool) (gk : Nat) (iv : Value) (wr : World) : Prop := ∃ i : Nat, iv = .int .i64 i ∧ i ≤ 4 ∧ gk = 4 - i ∧ Hid (bW w7 wr) ∧ Hid ((0 < i → f = false) ∧ (1 < i → p = false) ∧ (2 < i → l = false) ∧ (3 < i → c = false))
theorem jp {vb : Nat} {An Ad : Option Addr} {cn nd cd : Nat} {nm : ByteArray} {kd a b co : Int} {X Y Z : Value} (h : AJ W vb 219 #[.slice An nn cn, .slice Ad nd cd, .string nm, .int .i64 kd, .int .i64 a, .int .i64 b, .int .i64 co, X, Y, Z]) (P Q : Value) :
 AJ ((W.setCell ⟨vb, 7, none⟩ P).setCell ⟨vb, 8, none⟩ Q) vb 219 #[.slice An nn cn, .slice Ad nd cd, .string nm, .int .i64 kd, .int .i64 a, .int .i64 b, .int .i64 co, P, Q, Z] := (h.set 7 _).set 8 _
theorem fq (An Ad As : Option Addr) (nn cn nd cd n c Bn Bd Bs i : Nat) (ns : List Nd) (ds : List Dv) (s : List Int) (x : Dv) (w : World)
 (hn : Sl w Bn 3 An nn cn (ns.flatMap Nd.cells)) (CS : Bn ≤ w.heap.size) (hd : Sl w Bd 5 Ad nd cd (ds.flatMap Dv.cells)) (BP : Bd ≤ w.heap.size) (hs : Sl w Bs 1 As n c (zE s)) (CJ : Bs ≤ w.heap.size) (Bq : nn ≤ 10000) (TR : n ≤ 10000) (AB : nd ≤ n) (hi : i < nd) (hx : ds[i]? = some x) (Ae : yf nn ds) (hA : Im nn ds) :
 Calls prog 175 #[.agg #[.slice An nn cn, .slice Ad nd cd], .slice As n c, .int .i64 i] w fun e w' => e = .returned (.int .i64 (yz nn ns ds s i x)) ∧ bW w w' := by
 have FU := iD (hs.len (fun _ => rfl) (by decide));have JU := hd.le;have hsm := hs.le;have HN := iD hn; have HD := iD hd; have HS := iD hs; have HE := iD Ae; have HA := iD hA; have HX := iD hx;have Ho := hA x (List.mem_of_getElem? hx);have Ay := iD (Ae x (List.mem_of_getElem? hx));clear hn hd hs Ae hA;have CB : Hid (Below w.heap.size w (w.alloc (.cells #[.slice An nn cn, .slice Ad nd cd] 30))) := (Below.refl _ _).alloc lR _;have Hy := iD (AJ.new w 30 #[.slice An nn cn, .slice Ad nd cd])
 go_enter func175, ntmps175
 go_upto_region 1 with (fail);generalize World.alloc _ _ = W at *;obtain ⟨nb, CF⟩ := eX w.heap.size;rw [← CF] at Hy ⊢;have Fh := iD CF; clear CF;obtain ⟨b0, off, x', rfl, hb, hx', hc⟩ := (HD.below CB BP).at (fun _ => rfl) (by decide) hi;obtain rfl : x = x' := by rw [hx] at hx'; exact Option.some.inj hx'
 obtain ⟨nm, kd, a, b, co⟩ := x;simp only at Ho Ay;have c0 : W.cell? ⟨b0, off + i * 5, none⟩ = some (.string nm) := hc 0 _ rfl;have c1 : W.cell? ⟨b0, off + i * 5 + 1, none⟩ = some (.int .i64 kd) := hc 1 _ rfl;have c2 : W.cell? ⟨b0, off + i * 5 + 2, none⟩ = some (.int .i64 a) := hc 2 _ rfl;have c3 : W.cell? ⟨b0, off + i * 5 + 3, none⟩ = some (.int .i64 b) := hc 3 _ rfl;have c4 : W.cell? ⟨b0, off + i * 5 + 4, none⟩ = some (.int .i64 co) := hc 4 _ rfl;obtain ⟨k0, k1⟩ := Hy.d2;clear hc hx hx'
 refine fv (fun W' => W'.cell? ⟨nb, 0, none⟩ = some (.slice An nn cn) ∧ W'.cell? ⟨nb, 1, none⟩ = some (.slice (some ⟨b0, off, none⟩) nd cd) ∧ W'.cell? ⟨b0, off + i * 5, none⟩ = some (.string nm) ∧ W'.cell? ⟨b0, off + i * 5 + 1, none⟩ = some (.int .i64 kd) ∧ W'.cell? ⟨b0, off + i * 5 + 2, none⟩ = some (.int .i64 a) ∧ W'.cell? ⟨b0, off + i * 5 + 3, none⟩ = some (.int .i64 b) ∧ W'.cell? ⟨b0, off + i * 5 + 4, none⟩ = some (.int .i64 co)) [8] ?_ fun AA => ?_
 ·exact ⟨k0, k1, c0, c1, c2, c3, c4⟩
 try dsimp only at AA
 refine tk 0 10 (mf 9 1) AA ?_;refine tk 1 11 (mf 9 2) AA ?_;refine tk 2 12 (mf 9 3) AA ?_;refine tk 3 13 (mf 9 4) AA ?_;refine tk 4 14 (mf 9 5) AA ?_;refine tk 5 15 (mf 9 6) AA ?_;refine tk 6 16 (mf 9 7) AA ?_;refine tb 7 (mf 9 8) fun K hK => ?_
 go_simp
 refine hK _ _ (fun _ => ⟨we _ AA.1, we _ AA.2.1, we _ AA.2.2.1, we _ AA.2.2.2.1, we _ AA.2.2.2.2.1, we _ AA.2.2.2.2.2.1, we _ AA.2.2.2.2.2.2⟩) fun p => (fun AA => ?_) (p rfl)
 clear p hK K;(try dsimp only at AA);refine tb 8 (mf 9 9) fun K hK => ?_
 go_simp
 refine hK _ _ (fun h => by cases h) (fun _ => ?_)
 try clear AA
 clear hK K;refine tK ?_;clear c0 c1 c2 c3 c4 k0 k1;go_upto_region 2 with (fail);have AK := Hy.lt;have Ja : Hid (AJ (W.alloc (.cells #[.slice An nn cn, .slice (some ⟨b0, off, none⟩) nd cd, .string nm, .int .i64 kd, .int .i64 a, .int .i64 b, .int .i64 co, .slice none 0 0, .slice none 0 0, .slice none 0 0] 219)).drew W.heap.size 219 #[.slice An nn cn, .slice (some ⟨b0, off, none⟩) nd cd, .string nm, .int .i64 kd, .int .i64 a, .int .i64 b, .int .i64 co, .slice none 0 0, .slice none 0 0, .slice none 0 0]) := AJ.new W _ _;have De : Hid (AJ (W.alloc (.cells #[.slice An nn cn, .slice (some ⟨b0, off, none⟩) nd cd, .string nm, .int .i64 kd, .int .i64 a, .int .i64 b, .int .i64 co, .slice none 0 0, .slice none 0 0, .slice none 0 0] 219)).drew nb 30 #[.slice An nn cn, .slice (some ⟨b0, off, none⟩) nd cd]) := Hy.alloc _
 have AQ : Hid (Below w.heap.size w (W.alloc (.cells #[.slice An nn cn, .slice (some ⟨b0, off, none⟩) nd cd, .string nm, .int .i64 kd, .int .i64 a, .int .i64 b, .int .i64 co, .slice none 0 0, .slice none 0 0, .slice none 0 0] 219)).drew) := (CB.alloc CB.size _).drew;generalize World.drew (World.alloc _ _) = w1 at *;obtain ⟨vb, Dt⟩ := eX W.heap.size;rw [← Dt] at Ja ⊢;have Bc : nb < vb := by omega
 have Ba : w.heap.size ≤ vb := by have := CB.size; omega
 clear Dt CB Hy AK;refine fv (fun W' => AJ W' nb 30 #[.slice An nn cn, .slice (some ⟨b0, off, none⟩) nd cd]) [] ?_ fun AA => ?_
 ·exact De.out
 try dsimp only at AA
 refine ty 0 18 (mf 12 1) AA (y := by intro w AL; have k0 : w.cell? ⟨nb, 0, none⟩ = some (.slice An nn cn) := AL.cell 0; have k1 : w.cell? ⟨nb, 1, none⟩ = some (.slice (some ⟨b0, off, none⟩) nd cd) := AL.cell 1; clear AL; go_simp; try with_reducible rfl) (h := ?_);refine ty 1 19 (mf 12 2) AA (y := by intro w AL; (try dsimp only at AL); clear AL; go_simp; try with_reducible rfl) (h := ?_);refine ty 2 20 (mf 12 3) AA (y := by intro w AL; (try dsimp only at AL); clear AL; go_simp; try with_reducible rfl) (h := ?_);refine tb 3 (mf 12 4) fun K hK => ?_
 (go_simp; refine (tG As n c Bs s i 1 w1.drew (HS.below AQ.drew CJ) (by have := AQ.size; simp at this ⊢; omega) (by omega)).mono ?_; rintro e Aj ⟨BS, BM, rfl, AX, AE⟩; go_simp)
 refine hK _ _ (fun _ => AA.below AE AA.lt) fun p => (fun AA => ?_) (p rfl)
 clear p hK K;(try dsimp only at AA);have Nh := iD (AQ.drew.trans (AE.mono AQ.drew.size));have OW := AJ.below (w := w1.drew) Ja AE Ja.lt;have Ld := iD OW.lt;rw [xD, FU.out] at AX ⊢;refine tb 4 (mf 12 5) fun K hK => ?_
 (go_simp; refine (vX An (some ⟨b0, off, none⟩) BS nn cn nd cd n BM Bd Aj.heap.size ds (zX s i 1) Aj (HD.below Nh BP) (by have := Nh.size; omega) AX.sl lR Bq (by omega) (by omega) HE HA).mono ?_; rintro e BD ⟨Pq, Ps, LA, LW, rfl, VK, VM, VQ, VU, Ow⟩; go_simp)
 refine hK _ _ (fun _ => AA.below Ow AA.lt) fun p => (fun AA => ?_) (p rfl)
 clear p hK K;(try dsimp only at AA);have Wq := iD (Nh.trans (Ow.mono Nh.size));have LX := iD (OW.below Ow OW.lt);have z7 := LX.c7;have z8 := LX.c8;have f7 := LX.frozen 7;have f8 := LX.frozen 8;refine ty 5 17 (mf 12 6) AA (y := by intro w AL; (try dsimp only at AL); clear AL; go_simp; try with_reducible rfl) (h := ?_);refine ty 6 23 (mf 12 7) AA (y := by intro w AL; (try dsimp only at AL); clear AL; go_simp; try with_reducible rfl) (h := ?_);refine ty 7 24 (mf 12 8) AA (y := by intro w AL; (try dsimp only at AL); clear AL; go_simp; try with_reducible rfl) (h := ?_);refine ty 8 25 (mf 12 9) AA (y := by intro w AL; (try dsimp only at AL); clear AL; go_simp; try with_reducible rfl) (h := ?_);refine tb 9 (mf 12 10) fun K hK => ?_
 go_simp
 refine hK _ _ (fun _ => AA.far (by simp; omega) _) fun p => (fun AA => ?_) (p rfl)
 clear p hK K;(try dsimp only at AA);refine ty 10 26 (mf 12 11) AA (y := by intro w AL; (try dsimp only at AL); clear AL; go_simp; try with_reducible rfl) (h := ?_);refine tb 11 (mf 12 12) fun K hK => ?_
 go_simp
 refine hK _ _ (fun _ => AA.far (by simp; omega) _) fun p => (fun AA => ?_) (p rfl)
 clear p hK K;(try dsimp only at AA);refine tK ?_;have JE := iD AA;clear AA z7 z8 f7 f8;go_upto_region 3 with (fail);have Aa := iD (jp LX (.slice Pq nn nn) (.slice Ps nn nn));have Cf : Hid (Below w.heap.size w ((BD.setCell ⟨vb, 7, none⟩ (.slice Pq nn nn)).setCell ⟨vb, 8, none⟩ (.slice Ps nn nn))) := (Wq.setCell (by simp; omega) _).setCell (by simp; omega) _;have WC := iD (wv (wv VK Ld 7 (.slice Pq nn nn)) Ld 8 (.slice Ps nn nn));have WI := iD (wv (wv VM Ld 7 (.slice Pq nn nn)) Ld 8 (.slice Ps nn nn));clear Nh Wq LX VK VM Ja AQ De Ow;clear AE AX OW;generalize World.setCell (World.setCell _ _ _) _ _ = w5 at *;refine fv (fun W' => AJ W' nb 30 #[.slice An nn cn, .slice (some ⟨b0, off, none⟩) nd cd]) [] ?_ fun AA => ?_
 ·exact JE.out
 try dsimp only at AA
 refine ty 0 28 (mf 10 1) AA (y := by intro w AL; have k0 : w.cell? ⟨nb, 0, none⟩ = some (.slice An nn cn) := AL.cell 0; have k1 : w.cell? ⟨nb, 1, none⟩ = some (.slice (some ⟨b0, off, none⟩) nd cd) := AL.cell 1; clear AL; go_simp; try with_reducible rfl) (h := ?_);refine ty 1 29 (mf 10 2) AA (y := by intro w AL; (try dsimp only at AL); clear AL; go_simp; try with_reducible rfl) (h := ?_);refine ty 2 30 (mf 10 3) AA (y := by intro w AL; (try dsimp only at AL); clear AL; go_simp; try with_reducible rfl) (h := ?_);refine tb 3 (mf 10 4) fun K hK => ?_
 (go_simp; refine (tG As n c Bs s i 2 w5.drew (HS.below Cf.drew CJ) (by have := Cf.size; simp at this ⊢; omega) (by omega)).mono ?_; rintro e Ah ⟨BR, BL, rfl, AW, Tc⟩; go_simp)
 refine hK _ _ (fun _ => AA.below Tc AA.lt) fun p => (fun AA => ?_) (p rfl)
 clear p hK K;(try dsimp only at AA);have Ng := iD (Cf.drew.trans (Tc.mono Cf.drew.size));have OV := AJ.below (w := w5.drew) Aa Tc Aa.lt;have Af := iD OV.lt;rw [xD, FU.out] at AW ⊢;refine tb 4 (mf 10 5) fun K hK => ?_
 (go_simp; refine (vX An (some ⟨b0, off, none⟩) BR nn cn nd cd n BL Bd Ah.heap.size ds (zX s i 2) Ah (HD.below Ng BP) (by have := Ng.size; omega) AW.sl lR Bq (by omega) (by omega) HE HA).mono ?_; rintro e Qp ⟨Be, Ko, BZ, PG, rfl, AP, VL, AY, VT, LQ⟩; go_simp)
 refine hK _ _ (fun _ => AA.below LQ AA.lt) fun p => (fun AA => ?_) (p rfl)
 clear p hK K;(try dsimp only at AA);have Wp := iD (Ng.trans (LQ.mono Ng.size));have PO := iD (OV.below LQ OV.lt);have WB := iD ((zL.later (w := w5.drew) WC Tc).later LQ);have WH := iD ((zL.later (w := w5.drew) WI Tc).later LQ);clear OV AW Tc;have z9 := PO.c9;have f9 := PO.frozen 9;refine ty 5 27 (mf 10 6) AA (y := by intro w AL; (try dsimp only at AL); clear AL; go_simp; try with_reducible rfl) (h := ?_);refine ty 6 33 (mf 10 7) AA (y := by intro w AL; (try dsimp only at AL); clear AL; go_simp; try with_reducible rfl) (h := ?_);refine ty 7 34 (mf 10 8) AA (y := by intro w AL; (try dsimp only at AL); clear AL; go_simp; try with_reducible rfl) (h := ?_);refine ty 8 35 (mf 10 9) AA (y := by intro w AL; (try dsimp only at AL); clear AL; go_simp; try with_reducible rfl) (h := ?_);refine tb 9 (mf 10 10) fun K hK => ?_
 go_simp
 refine hK _ _ (fun _ => AA.far (by simp; omega) _) fun p => (fun AA => ?_) (p rfl)
 clear p hK K;(try dsimp only at AA);refine tK ?_;clear AA z9 f9;have Av := iD (PO.set 9 (.slice Ko nn nn));have DZ : Hid (Below w.heap.size w (Qp.setCell ⟨vb, 9, none⟩ (.slice Ko nn nn))) := Wp.setCell (by simp; omega) _;have WA := iD (wv WB Ld 9 (.slice Ko nn nn));have WG := iD (wv WH Ld 9 (.slice Ko nn nn));have WK := iD (wv VL Af 9 (.slice Ko nn nn));clear Ng Wp PO AP VL Aa Cf JE LQ WB WH WC WI
 go_wp2_with fail
 have AG := iD (AJ.new (Qp.setCell ⟨vb, 9, none⟩ (.slice Ko nn nn)) 221 #[.func (.func 189) #[] #[], .int .i64 4, .func (.func 190) #[] #[], .int .i64 3, .func (.func 191) #[] #[], .int .i64 2, .func (.func 192) #[] #[], .int .i64 1]);have Au := iD (Av.alloc (.cells #[.func (.func 189) #[] #[], .int .i64 4, .func (.func 190) #[] #[], .int .i64 3, .func (.func 191) #[] #[], .int .i64 2, .func (.func 192) #[] #[], .int .i64 1] 221));have Df := iD (DZ.alloc DZ.size (.cells #[.func (.func 189) #[] #[], .int .i64 4, .func (.func 190) #[] #[], .int .i64 3, .func (.func 191) #[] #[], .int .i64 2, .func (.func 192) #[] #[], .int .i64 1] 221))
 have Ab : Hid (uc ((Qp.setCell ⟨vb, 9, none⟩ (.slice Ko nn nn)).alloc (.cells #[.func (.func 189) #[] #[], .int .i64 4, .func (.func 190) #[] #[], .int .i64 3, .func (.func 191) #[] #[], .int .i64 2, .func (.func 192) #[] #[], .int .i64 1] 221)) nn kd a b Pq Ps Ko LA LW PG) := by
  have hl : Below (Qp.setCell ⟨vb, 9, none⟩ (.slice Ko nn nn)).heap.size (Qp.setCell ⟨vb, 9, none⟩ (.slice Ko nn nn)) ((Qp.setCell ⟨vb, 9, none⟩ (.slice Ko nn nn)).alloc (.cells #[.func (.func 189) #[] #[], .int .i64 4, .func (.func 190) #[] #[], .int .i64 3, .func (.func 191) #[] #[], .int .i64 2, .func (.func 192) #[] #[], .int .i64 1] 221)) := (Below.refl _ _).alloc lR _;exact ⟨(WA.later hl).sl, (WG.later hl).sl, (WK.later hl).sl, Ho, fun hj => (Ay hj).2, Bq⟩
 have Fs : Hid (yz nn ns ds s i ⟨nm, kd, a, b, co⟩ = xL kd a b ns LA LW PG) := by unfold Hid yz; rw [uu VQ.out, xO VU.out, xO VT.out]
 clear Av DZ WA WG WK VQ VU VT AY;rw [World.size_setCell] at AG;generalize World.alloc _ _ = w7 at *;obtain ⟨tb, Ak⟩ := eX Qp.heap.size;rw [← Ak] at AG ⊢;clear Ak;have MN : Hid (xL kd a b ns LA LW PG = if yy kd a b PG = true then 4 else if sy kd a b LA LW = true then 3 else if wY kd a b ns LA LW = true then 2 else if Gi kd a b LA LW = true then 1 else 0) := rfl;have FO := iD (fun W h => jR An (some ⟨b0, off, none⟩) Pq Ps Ko nn cn nd cd nm kd a b co LA LW PG W h);have Az := iD (fun W h => pw An (some ⟨b0, off, none⟩) Pq Ps Ko nn cn nd cd nm kd a b co LA LW PG W h);have Pk := iD (fun W h h2 => ic An (some ⟨b0, off, none⟩) Pq Ps Ko nn cn nd cd nm kd a b co ns LA LW PG W h h2);have Ql := iD (fun W h => oL An (some ⟨b0, off, none⟩) Pq Ps Ko nn cn nd cd nm kd a b co LA LW PG W h);simp only [Cg] at FO Az Pk Ql;generalize yy kd a b PG = fb at *;generalize sy kd a b LA LW = pb at *
 generalize wY kd a b ns LA LW = lb at *;generalize Gi kd a b LA LW = kb at *
 go_loopg [42] 4 (OfR w7 fb pb lb kb)
 case atStart => exact ⟨0, rfl, by decide, rfl, Below.refl _ _, by unfold Hid; refine ⟨?_, ?_, ?_, ?_⟩ <;> intro h <;> omega⟩
 case round =>
  obtain ⟨k, rfl, hk, rfl, AU, DL⟩ := hrel;have hv := iD (Au.below AU Au.lt);have ht := iD (AG.below AU AG.lt);have CP := iD (Ab.later AU);have Bo := iD (Df.trans (AU.mono Df.size));have OO := AU.size;obtain ⟨g0, g1, g2, g3, g4⟩ := hv.d5;have g5 := hv.c5;have g6 := hv.c6;have g7 := hv.c7;have g8 := hv.c8;have g9 := hv.c9;have Bb := hv.lt;rcases (show k = 0 ∨ k = 1 ∨ k = 2 ∨ k = 3 ∨ k = 4 by omega) with rfl | rfl | rfl | rfl | rfl
  ·obtain ⟨t0, t1⟩ := ht.d2
   go_wp2_with fail
   clear g0 g1 g2 g3 g4 g5 g6 g7 g8 g9 t0 t1;have GA : Below wr.heap.size wr (wr.alloc (.cells #[.func (.func 189) #[] #[], .int .i64 4] 221)) := (Below.refl _ _).alloc lR _;have Ki := iD (AJ.new wr 221 #[.func (.func 189) #[] #[], .int .i64 4]);generalize World.alloc _ _ = w8 at *;refine (FO w8 (CP.later GA)).mono ?_;rintro e w9 ⟨rfl, Gz⟩;have EQ := iD (AU.trans ((GA.trans (Gz.mono GA.size)).mono OO));have AV := (Ki.below Gz Ki.lt).c1;clear GA Gz Ki;rcases fb with _ | _
   ·clear AV
    go_wp2_with fail
    go_roundg (4 - 1)
    case rel => exact ⟨1, rfl, by decide, rfl, EQ, by have hc := DL.out; unfold Hid; refine ⟨?_, ?_, ?_, ?_⟩ <;> intro h <;> first | rfl | exact hc.1 (by omega) | exact hc.2.1 (by omega) | exact hc.2.2.1 (by omega) | omega⟩
    case measure => decide
   ·go_wp2_with fail
    go_ret;exact ⟨zC (by rw [Fs.out, MN.out]; simp), Df.trans (EQ.mono Df.size)⟩
  ·have t0 := ht.c2;have t1 := ht.c3
   go_wp2_with fail
   clear g0 g1 g2 g3 g4 g5 g6 g7 g8 g9 t0 t1;have GA : Below wr.heap.size wr (wr.alloc (.cells #[.func (.func 190) #[] #[], .int .i64 3] 221)) := (Below.refl _ _).alloc lR _;have Ki := iD (AJ.new wr 221 #[.func (.func 190) #[] #[], .int .i64 3]);generalize World.alloc _ _ = w8 at *;refine (Az w8 (CP.later GA)).mono ?_;rintro e w9 ⟨rfl, Gz⟩;have EQ := iD (AU.trans ((GA.trans (Gz.mono GA.size)).mono OO));have AV := (Ki.below Gz Ki.lt).c1;clear GA Gz Ki;rcases pb with _ | _
   ·clear AV
    go_wp2_with fail
    go_roundg (4 - 2)
    case rel => exact ⟨2, rfl, by decide, rfl, EQ, by have hc := DL.out; unfold Hid; refine ⟨?_, ?_, ?_, ?_⟩ <;> intro h <;> first | rfl | exact hc.1 (by omega) | exact hc.2.1 (by omega) | exact hc.2.2.1 (by omega) | omega⟩
    case measure => decide
   ·go_wp2_with fail
    go_ret;exact ⟨zC (by rw [Fs.out, MN.out]; simp [DL.1 (by decide)]), Df.trans (EQ.mono Df.size)⟩
  ·have t0 := ht.c4;have t1 := ht.c5
   go_wp2_with fail
   clear g0 g1 g2 g3 g4 g5 g6 g7 g8 g9 t0 t1;have GA : Below wr.heap.size wr (wr.alloc (.cells #[.func (.func 191) #[] #[], .int .i64 2] 221)) := (Below.refl _ _).alloc lR _;have Ki := iD (AJ.new wr 221 #[.func (.func 191) #[] #[], .int .i64 2]);generalize World.alloc _ _ = w8 at *;refine (Pk w8 (CP.later GA) (((HN.below Bo CS).more (by have := Bo.size; omega)).below GA lR |> fun h => h.more GA.size)).mono ?_;rintro e w9 ⟨rfl, Gz⟩;have EQ := iD (AU.trans ((GA.trans (Gz.mono GA.size)).mono OO));have AV := (Ki.below Gz Ki.lt).c1;clear GA Gz Ki;rcases lb with _ | _
   ·clear AV
    go_wp2_with fail
    go_roundg (4 - 3)
    case rel => exact ⟨3, rfl, by decide, rfl, EQ, by have hc := DL.out; unfold Hid; refine ⟨?_, ?_, ?_, ?_⟩ <;> intro h <;> first | rfl | exact hc.1 (by omega) | exact hc.2.1 (by omega) | exact hc.2.2.1 (by omega) | omega⟩
    case measure => decide
   ·go_wp2_with fail
    go_ret;exact ⟨zC (by rw [Fs.out, MN.out]; simp [DL.1 (by decide), DL.2.1 (by decide)]), Df.trans (EQ.mono Df.size)⟩
  ·have t0 := ht.c6;have t1 := ht.c7
   go_wp2_with fail
   clear g0 g1 g2 g3 g4 g5 g6 g7 g8 g9 t0 t1;have GA : Below wr.heap.size wr (wr.alloc (.cells #[.func (.func 192) #[] #[], .int .i64 1] 221)) := (Below.refl _ _).alloc lR _;have Ki := iD (AJ.new wr 221 #[.func (.func 192) #[] #[], .int .i64 1]);generalize World.alloc _ _ = w8 at *;refine (Ql w8 (CP.later GA)).mono ?_;rintro e w9 ⟨rfl, Gz⟩;have EQ := iD (AU.trans ((GA.trans (Gz.mono GA.size)).mono OO));have AV := (Ki.below Gz Ki.lt).c1;clear GA Gz Ki;rcases kb with _ | _
   ·clear AV
    go_wp2_with fail
    go_roundg (4 - 4)
    case rel => exact ⟨4, rfl, by decide, rfl, EQ, by have hc := DL.out; unfold Hid; refine ⟨?_, ?_, ?_, ?_⟩ <;> intro h <;> first | rfl | exact hc.1 (by omega) | exact hc.2.1 (by omega) | exact hc.2.2.1 (by omega) | omega⟩
    case measure => decide
   ·go_wp2_with fail
    go_ret;exact ⟨zC (by rw [Fs.out, MN.out]; simp [DL.1 (by decide), DL.2.1 (by decide), DL.2.2.1 (by decide)]), Df.trans (EQ.mono Df.size)⟩
  ·go_wp2_with fail
   go_ret;exact ⟨zC (by rw [Fs.out, MN.out]; simp [DL.1 (by decide), DL.2.1 (by decide), DL.2.2.1 (by decide), DL.2.2.2 (by decide)]), Bo⟩
def dC (W : World) (mb nn : Nat) (ns : List Nd) (iv : Value) (wr : World) : Prop :=
 ∃ (i : Nat) (U : List (List UInt8)), iv = .int .i64 i ∧ i ≤ nn ∧ U.length ≤ i ∧ Hid (xA wr mb U) ∧ Hid (vC [] ns = vC U (ns.drop i) ∧ vr [] ns = vr U (ns.drop i)) ∧ Hid (Below W.heap.size W wr)
def dB (W : World) (mb nn nd : Nat) (ns : List Nd) (ds : List Dv) (iv : Value) (wr : World) : Prop :=
 ∃ (i : Nat) (U : List (List UInt8)), iv = .int .i64 i ∧ i ≤ nd ∧ U.length ≤ i + nn ∧ Hid (xA wr mb U) ∧ Hid (zR ns ds = vm nn U (ds.drop i)) ∧ Hid (Below W.heap.size W wr)
theorem vj (An Ad : Option Addr) (nn cn nd cd Bn Bd : Nat) (ns : List Nd) (ds : List Dv) (w : World) (hl : Laid w) (hn : Sl w Bn 3 An nn cn (ns.flatMap Nd.cells)) (hd : Sl w Bd 5 Ad nd cd (ds.flatMap Dv.cells)) (CS : Bn ≤ w.heap.size) (BP : Bd ≤ w.heap.size)
 (Bg : FP ns) (BU : Fv ds) :
 Calls prog 109 #[.agg #[.slice An nn cn, .slice Ad nd cd]] w fun e w' => e = .returned (.int .i64 (zR ns ds)) ∧ bW w w' := by
 have Cb := iD (hn.len (fun _ => rfl) (by decide)); have FL := iD (hd.len (fun _ => rfl) (by decide));obtain ⟨Ip, LM⟩ := hn.le;obtain ⟨TY, JU⟩ := hd.le;have HL := iD hl; have HN := iD hn; have HD := iD hd; have Ej := iD Bg; have Ce := iD BU;clear hl hn hd Bg BU;have HC : Hid (zR ns ds = if 32 < nn then 1 else if 64 < nd then 1 else if vC [] ns = 0 then vm nn (vr [] ns) ds else vC [] ns) := by unfold Hid; rw [zR, Cb.out, FL.out]
 have BJ := @run_makeMap prog;by_cases h1 : 32 < nn
 ·have q1 : decide ((32 : Int) < (nn : Int)) = true := by simp; omega
  go_enter func109, ntmps109
  go_wp2_with fail
  go_ret;exact ⟨zC (by rw [HC.out, if_pos h1]), (Below.refl _ _).alloc lR _⟩
 have q1 : decide ((32 : Int) < (nn : Int)) = false := by simp; omega
 by_cases h2 : 64 < nd
 ·have q2 : decide ((64 : Int) < (nd : Int)) = true := by simp; omega
  go_enter func109, ntmps109
  go_wp2_with fail
  go_ret;exact ⟨zC (by rw [HC.out, if_neg h1, if_pos h2]), (Below.refl _ _).alloc lR _⟩
 have q2 : decide ((64 : Int) < (nd : Int)) = false := by simp; omega
 go_enter func109, ntmps109
 go_wp2_with fail
 clear q1 q2 BJ;generalize hW : w.alloc (.cells #[.slice An nn cn, .slice Ad nd cd] 30) = W;have HK : Hid (AJ W w.heap.size 30 #[.slice An nn cn, .slice Ad nd cd]) := hW ▸ AJ.new _ _ _;have CB : Hid (Below w.heap.size w W) := hW ▸ (Below.refl _ _).alloc lR _;have QL : w.heap.size < W.heap.size := HK.lt;have Am : w.heap.size + 1 = W.heap.size := by rw [← hW]; simp
 clear hW;rw [Am];have AO := kf W;obtain ⟨mb, Ga⟩ : ∃ mb, W.heap.size = mb := ⟨_, rfl⟩
 have Bj : Hid (Below W.heap.size W (W.alloc (.map #[] 0))) := (Below.refl _ _).alloc lR _;rw [Ga] at AO ⊢;have Ax := iD Ga; clear Ga Am
 go_loopw [22] (fun iv wr => dC W mb nn ns iv wr) (fun iv _ => nn - (intOf iv).toNat)
 case atStart => exact ⟨0, [], rfl, Nat.zero_le _, Nat.le_refl _, AO, ⟨rfl, rfl⟩, Bj⟩
 case round =>
  clear AO Bj;obtain ⟨i, U, rfl, hi, BK, hU, hch, AU⟩ := hrel;have hsz := AU.size;obtain ⟨k0, k1⟩ := (HK.below AU QL).d2;by_cases hlt : i < nn; rotate_left
  ·obtain rfl : i = nn := by omega
   have IV : decide (i < i) = false := by simp
   have VG : ns.drop i = [] := List.drop_eq_nil_of_le (by rw [Cb.out]; omega);have hch' := hch.out;rw [VG] at hch';simp only [vC, vr] at hch'
   have Ql : Hid (zR ns ds = vm i U (ds.drop 0)) := by
    unfold Hid;rw [HC.out, if_neg h1, if_neg h2, if_pos hch'.1, hch'.2, List.drop_zero]
   clear hch' hch VG
   go_wp2_with fail
   go_loopw [58] (fun iv wr => dB W mb i nd ns ds iv wr) (fun iv _ => nd - (intOf iv).toNat)
   case atStart => exact ⟨0, U, rfl, Nat.zero_le _, by omega, hU, Ql, AU⟩
   case round =>
    clear hU Ql AU k0 k1 IV;obtain ⟨j, U, rfl, hj, BK, hU, hch, AU⟩ := hrel;have hsz := AU.size;have k0 := (HK.below AU QL).c0;by_cases Nq : j < nd; rotate_left
    ·obtain rfl : j = nd := by omega
     have IV : decide (j < j) = false := by simp
     have VG : ds.drop j = [] := List.drop_eq_nil_of_le (by rw [FL.out]; omega);have hch' := hch.out;rw [VG] at hch';simp only [vm] at hch';have BQ := iD hch';clear hch' hch VG
     go_wp2_with fail
     go_ret;exact ⟨zC (by rw [BQ.out]), CB.trans (AU.mono (Nat.le_of_lt QL))⟩
    obtain ⟨b, off, x, rfl, hb, hx, hc⟩ := ((HD.below CB BP).below AU (Nat.le_trans BP (Nat.le_of_lt QL))).at (fun _ => rfl) (by decide) Nq;have Tp := iD (Ce x (List.mem_of_getElem? hx));have HX := iD hx;obtain ⟨nm, kd, xa, xb, co⟩ := x;have c0 : wr.cell? ⟨b, off + j * 5, none⟩ = some (.string nm) := hc 0 _ rfl;have c1 : wr.cell? ⟨b, off + j * 5 + 1, none⟩ = some (.int .i64 kd) := hc 1 _ rfl;have c2 : wr.cell? ⟨b, off + j * 5 + 2, none⟩ = some (.int .i64 xa) := hc 2 _ rfl;have c3 : wr.cell? ⟨b, off + j * 5 + 3, none⟩ = some (.int .i64 xb) := hc 3 _ rfl;have c4 : wr.cell? ⟨b, off + j * 5 + 4, none⟩ = some (.int .i64 co) := hc 4 _ rfl;clear hc hx;have EH := Tp.out;simp only at EH
    have ED : ∀ e : Int, xp i U ⟨nm, kd, xa, xb, co⟩ = e → e ≠ 0 → zR ns ds = e := fun e he hne => by
     rw [hch.out, pR HX.out (by rw [he]; exact hne), he]
    have BG := iD ED; clear ED;have Cu : Hid (xp i U ⟨nm, kd, xa, xb, co⟩ = if yO (BA nm) = false then 3 else if BA nm ∈ U then 4 else if kd < 1 ∨ 6 < kd then 6 else if xX kd xa xb i = false then 7 else if yh co = false then 5 else 0) := rfl;have Hw := iD ((HL.below CB lR).below AU lR)
    go_wp2_with fail
    clear c0 c1 c2 c3 c4;generalize Ra : wr.alloc (.cells #[.string nm, .int .i64 kd, .int .i64 xa, .int .i64 xb, .int .i64 co] 57) = WX;have Ox : Below wr.heap.size wr WX := Ra ▸ (Below.refl _ _).alloc lR _;have RQ : AJ WX wr.heap.size 57 #[.string nm, .int .i64 kd, .int .i64 xa, .int .i64 xb, .int .i64 co] := Ra ▸ AJ.new _ _ _;clear Ra;refine (rg nm WX (Hw.below Ox lR) EH).mono ?_;rintro e w1 ⟨rfl, AV⟩;have KT : Below wr.heap.size wr w1 := Ox.trans (AV.mono Ox.size);have De := iD (RQ.below AV RQ.lt);have Ff := iD (hU.below KT);have AQ := iD (AU.trans (KT.mono hsz));have KC := iD (CB.trans (AQ.mono (Nat.le_of_lt QL)));obtain ⟨x0, x1, x2, x3, x4⟩ := De.d5;have y0 := (HK.below AQ QL).c0;clear AV Ox RQ KT k0;rcases CF : yO (BA nm) with _ | _
    ·have HR := iD (BG 3 (by rw [Cu.out, if_pos CF]) (by decide));clear CF
     go_wp2_with fail
     go_ret;exact ⟨zC (by rw [HR.out]), KC⟩
    have Fh := iD CF; clear CF;have LH := Ff.look nm EH;by_cases FY : BA nm ∈ U
    ·have HR := iD (BG 4 (by rw [Cu.out, if_neg (by rw [Fh.out]; simp), if_pos FY]) (by decide));rw [decide_eq_true FY] at LH;clear FY
     go_wp2_with fail
     go_ret;exact ⟨zC (by rw [HR.out]), KC⟩
    rw [decide_eq_false FY] at LH;have SN := iD FY; clear FY;have h6 : kd < 1 ∨ 6 < kd → zR ns ds = 6 := fun h => BG 6 (by rw [Cu.out, if_neg (by rw [Fh.out]; simp), if_neg SN.out, if_pos h]) (by decide)
    have H6 := iD h6; clear h6;by_cases g1 : kd < 1
    ·have HR := iD (H6 (.inl g1))
     go_wp2_with fail
     go_ret;exact ⟨zC (by rw [HR.out]), KC⟩
    have g1' : decide (kd < 1) = false := by simpa using g1
    by_cases g2 : 6 < kd
    ·have HR := iD (H6 (.inr g2))
     go_wp2_with fail
     go_ret;exact ⟨zC (by rw [HR.out]), KC⟩
    have g2' : decide (6 < kd) = false := by simpa using g2
    have Ik := iD (gD nm kd xa xb co i);rcases Mo : xX kd xa xb i with _ | _
    ·have HR := iD (BG 7 (by rw [Cu.out, if_neg (by rw [Fh.out]; simp), if_neg SN.out, if_neg (by omega), if_pos Mo]) (by decide));rw [Mo] at Ik;clear Mo
     go_wp2_with fail
     refine (Ik _).mono ?_;rintro e w2 ⟨rfl, AZ⟩
     go_wp2_with fail
     go_ret;exact ⟨zC (by rw [HR.out]), KC.trans (AZ.mono KC.size)⟩
    rw [Mo] at Ik;have Je := iD Mo; clear Mo
    go_wp2_with fail
    clear x0 x1 x2 x3 x4 y0 LH;refine (Ik _).mono ?_;rintro e w2 ⟨rfl, AZ⟩;have EP := iD (De.below AZ De.lt);have DJ := iD (Ff.below AZ);have Ai := iD (AQ.trans (AZ.mono AQ.size));have Ag := iD (KC.trans (AZ.mono KC.size));have x0 := EP.c0;have x4 := EP.c4;clear AZ;have EX := iD (sf co);rcases DT : yh co with _ | _
    ·have HR := iD (BG 5 (by rw [Cu.out, if_neg (by rw [Fh.out]; simp), if_neg SN.out, if_neg (by omega), if_neg (by rw [Je.out]; simp), if_pos DT]) (by decide));rw [DT] at EX;clear DT
     go_wp2_with fail
     refine (EX _).mono ?_;rintro e w3 ⟨rfl, rfl⟩
     go_wp2_with fail
     go_ret;exact ⟨zC (by rw [HR.out]), Ag⟩
    have Bv : Hid (xp i U ⟨nm, kd, xa, xb, co⟩ = 0) := by unfold Hid; rw [Cu.out, if_neg (by rw [Fh.out]; simp), if_neg SN.out, if_neg (by omega), if_neg (by rw [Je.out]; simp), if_neg (by rw [DT]; simp)]
    rw [DT] at EX;clear DT;obtain ⟨w4, FW, Aq, Fa⟩ := DJ.put (by omega) nm EH;have BN := iD Aq; have Fq := iD Fa;clear Aq Fa
    go_wp2_with fail
    refine (EX _).mono ?_;rintro e w3 ⟨rfl, rfl⟩
    go_wp2_with fail
    go_roundw
    case rel =>
     refine ⟨j + 1, BA nm :: U, by go_num, by omega, by simp; omega, BN, hch.trans (uW HX Bv), Ai.trans (yE Fq (by rw [Ax.out]; exact Nat.le_refl _) Ai.size)⟩
    case measure => simp [intOf]; omega
  obtain ⟨b, off, x, rfl, hb, hx, hc⟩ := ((HN.below CB CS).below AU (Nat.le_trans CS (Nat.le_of_lt QL))).at (fun _ => rfl) (by decide) hlt;have Tp := iD (Ej x (List.mem_of_getElem? hx));have HX := iD hx;obtain ⟨nm, cu, co⟩ := x;have c0 : wr.cell? ⟨b, off + i * 3, none⟩ = some (.string nm) := hc 0 _ rfl;have c1 : wr.cell? ⟨b, off + i * 3 + 1, none⟩ = some (.int .i64 cu) := hc 1 _ rfl;have c2 : wr.cell? ⟨b, off + i * 3 + 2, none⟩ = some (.int .i64 co) := hc 2 _ rfl;clear hc hx;have EH := Tp.out;simp only at EH
  have ED : ∀ e : Int, vS U ⟨nm, cu, co⟩ = e → e ≠ 0 → zR ns ds = e := fun e he hne => by
   have hs := pQ HX (by rw [he]; exact hne);have hcc := hch.1;rw [hs, he] at hcc;rw [HC.out, if_neg h1, if_neg h2, if_neg (by rw [hcc]; exact hne), hcc]
  have BG := iD ED; clear ED;have Cu : Hid (vS U ⟨nm, cu, co⟩ = if yO (BA nm) = false then 3 else if BA nm ∈ U then 4 else if cu < 0 ∨ 1048576 < cu then 5 else if yh co = false then 5 else 0) := rfl;have Hw := iD ((HL.below CB lR).below AU lR)
  go_wp2_with fail
  clear c0 c1 c2;generalize Ra : wr.alloc (.cells #[.string nm, .int .i64 cu, .int .i64 co] 85) = WX;have Ox : Below wr.heap.size wr WX := Ra ▸ (Below.refl _ _).alloc lR _;have RQ : AJ WX wr.heap.size 85 #[.string nm, .int .i64 cu, .int .i64 co] := Ra ▸ AJ.new _ _ _;clear Ra;refine (rg nm WX (Hw.below Ox lR) EH).mono ?_;rintro e w1 ⟨rfl, AV⟩;have KT : Below wr.heap.size wr w1 := Ox.trans (AV.mono Ox.size);have De := iD (RQ.below AV RQ.lt);have Ff := iD (hU.below KT);have AQ := iD (AU.trans (KT.mono hsz));have KC := iD (CB.trans (AQ.mono (Nat.le_of_lt QL)));obtain ⟨x0, x1, x2⟩ := De.d3;clear AV Ox RQ KT;rcases CF : yO (BA nm) with _ | _
  ·have HR := iD (BG 3 (by rw [Cu.out, if_pos CF]) (by decide));clear CF
   go_wp2_with fail
   go_ret;exact ⟨zC (by rw [HR.out]), KC⟩
  have Fh := iD CF; clear CF;have LH := Ff.look nm EH;by_cases FY : BA nm ∈ U
  ·have HR := iD (BG 4 (by rw [Cu.out, if_neg (by rw [Fh.out]; simp), if_pos FY]) (by decide));rw [decide_eq_true FY] at LH;clear FY
   go_wp2_with fail
   go_ret;exact ⟨zC (by rw [HR.out]), KC⟩
  rw [decide_eq_false FY] at LH;have SN := iD FY; clear FY
  have h5 : cu < 0 ∨ 1048576 < cu ∨ yh co = false → zR ns ds = 5 := fun h => BG 5 (by
   rw [Cu.out, if_neg (by rw [Fh.out]; simp), if_neg SN.out];by_cases hh : cu < 0 ∨ 1048576 < cu
   ·rw [if_pos hh]
   ·rw [if_neg hh, if_pos (h.elim (fun h => absurd (.inl h) hh) (fun h => h.elim (fun h => absurd (.inr h) hh) id))]) (by decide)
  have H5 := iD h5; clear h5;by_cases g1 : cu < 0
  ·have HR := iD (H5 (.inl g1))
   go_wp2_with fail
   go_ret;exact ⟨zC (by rw [HR.out]), KC⟩
  have g1' : decide (cu < 0) = false := by simpa using g1
  by_cases g2 : 1048576 < cu
  ·have HR := iD (H5 (.inr (.inl g2)))
   go_wp2_with fail
   go_ret;exact ⟨zC (by rw [HR.out]), KC⟩
  have g2' : decide (1048576 < cu) = false := by simpa using g2
  have EX := iD (sf co);rcases DT : yh co with _ | _
  ·have HR := iD (H5 (.inr (.inr DT)));rw [DT] at EX;clear DT
   go_wp2_with fail
   refine (EX _).mono ?_;rintro e w2 ⟨rfl, rfl⟩
   go_wp2_with fail
   go_ret;exact ⟨zC (by rw [HR.out]), KC⟩
  have Bv : Hid (vS U ⟨nm, cu, co⟩ = 0) := by unfold Hid; rw [Cu.out, if_neg (by rw [Fh.out]; simp), if_neg SN.out, if_neg (by omega), if_neg (by rw [DT]; simp)]
  rw [DT] at EX;clear DT;obtain ⟨w2, FW, Ar, DD⟩ := Ff.put (by omega) nm EH;have DJ := iD Ar; have Hz := iD DD;clear Ar DD
  go_wp2_with fail
  refine (EX _).mono ?_;rintro e w3 ⟨rfl, rfl⟩
  go_wp2_with fail
  go_roundw
  case rel =>
   have hst := sO HX Bv.out;refine ⟨i + 1, BA nm :: U, by go_num, by omega, by simp; omega, DJ, ⟨hch.1.trans hst.1, hch.2.trans hst.2⟩, AQ.trans (yE Hz (by rw [Ax.out]; exact Nat.le_refl _) AQ.size)⟩
  case measure => simp [intOf]; omega
theorem pt (p : Int) (w : World) (hl : Laid w) : Calls prog 122 #[.int .i64 p] w fun e w' => e = .returned (.bool (posB p)) ∧ w = w' := by
 have c1 := hl.2 1 _ rfl;have c3 := hl.2 3 _ rfl;have c5 := hl.2 5 _ rfl;have c7 := hl.2 7 _ rfl;clear hl;by_cases h0 : 0 ≤ p; rotate_left
 ·have h0' : decide (0 ≤ p) = false := by simpa using h0
  have HP : Hid (posB p = false) := by unfold Hid; simp [posB]; omega
  go_enter func122, ntmps122
  go_wp2_with fail
  go_ret;exact ⟨zF (by rw [HP.out]), rfl⟩
 by_cases h4 : p < 4; rotate_left
 ·have h4' : decide (p < 4) = false := by simpa using h4
  have HP : Hid (posB p = false) := by unfold Hid; simp [posB]; omega
  go_enter func122, ntmps122
  go_wp2_with fail
  go_ret;exact ⟨zF (by rw [HP.out]), rfl⟩
 rcases (show p = 0 ∨ p = 1 ∨ p = 2 ∨ p = 3 by omega) with rfl | rfl | rfl | rfl
 all_goals
  go_enter func122, ntmps122
  go_wp2_with fail
  go_ret;exact ⟨zF (by decide), rfl⟩
def zQ (ns : List Nd) (ds : List Dv) (s : List Int) : Int := if zR ns ds ≠ 0 then zR ns ds else if s.length ≠ ds.length then 9 else if ∀ p ∈ s, posB p = true then 0 else 10
theorem lD (An Ad As : Option Addr) (nn cn nd cd n c Bn Bd Bs : Nat) (ns : List Nd) (ds : List Dv) (s : List Int) (w : World) (hl : Laid w) (hn : Sl w Bn 3 An nn cn (ns.flatMap Nd.cells)) (hd : Sl w Bd 5 Ad nd cd (ds.flatMap Dv.cells)) (hs : Sl w Bs 1 As n c (zE s)) (CS : Bn ≤ w.heap.size) (BP : Bd ≤ w.heap.size) (CJ : Bs ≤ w.heap.size)
 (Bg : FP ns) (BU : Fv ds) :
 Calls prog 105 #[.agg #[.slice An nn cn, .slice Ad nd cd], .slice As n c, .func (.func 122) #[] #[]] w fun e w' => e = .returned (.int .i64 (zQ ns ds s)) ∧ bW w w' := by
 have FU := iD (hs.len (fun _ => rfl) (by decide)); have FL := iD (hd.len (fun _ => rfl) (by decide));obtain ⟨Ip, LM⟩ := hs.le;obtain ⟨TY, JU⟩ := hd.le;have HE : Hid (zQ ns ds s = if zR ns ds ≠ 0 then zR ns ds else if n ≠ nd then 9 else if ∀ p ∈ s, posB p = true then 0 else 10) := by unfold Hid; rw [zQ, FU.out, FL.out]
 have HL := iD hl; have HN := iD hn; have HD := iD hd; have HS := iD hs;have Cm := iD (vj An Ad nn cn nd cd Bn Bd ns ds (w.alloc (.cells #[.slice An nn cn, .slice Ad nd cd] 30)) (hl.alloc _) (hn.alloc CS _) (hd.alloc BP _) (by simp; omega) (by simp; omega) Bg BU);clear hl hn hd hs Bg BU;generalize zR ns ds = er at *;have Bj : Hid (Below w.heap.size w (w.alloc (.cells #[.slice An nn cn, .slice Ad nd cd] 30))) := (Below.refl _ _).alloc lR _;by_cases h0 : er = 0; rotate_left
 ·have h0' : (er != 0) = true := by simpa using h0
  have HR : Hid (zQ ns ds s = er) := by unfold Hid; rw [HE.out, if_pos h0]
  clear h0
  go_enter func105, ntmps105
  go_wp2_with fail
  refine Cm.mono ?_;rintro e w1 ⟨rfl, AV⟩
  go_wp2_with fail
  go_ret;exact ⟨zC (by rw [HR.out]), Bj.trans (AV.mono (by simp))⟩
 subst h0
 go_enter func105, ntmps105
 go_wp2_with fail
 refine Cm.mono ?_;rintro e w1 ⟨rfl, AV⟩;have De := iD ((AJ.new w 30 #[.slice An nn cn, .slice Ad nd cd]).below AV (by simp));have AQ := iD (Bj.trans (AV.mono (by simp)));have k1 := De.c1;have ER := AQ.size;clear AV Cm;by_cases AB : n = nd; rotate_left
 ·have q : decide (n = nd) = false := by simpa using AB
  have q' : ((n : Int) != (nd : Int)) = true := by simp; omega
  have HR : Hid (zQ ns ds s = 9) := by unfold Hid; rw [HE.out, if_neg (by simp), if_pos AB]
  clear AB
  go_wp2_with fail
  go_ret;exact ⟨zC (by rw [HR.out]), AQ⟩
 subst AB;have Hw := iD (HL.below AQ lR);have BO := iD (HS.below AQ CJ)
 go_wp2_with fail
 clear k1
 go_loop [9, 23] (fun _ iv => ∃ i : Nat, iv = .int .i64 i ∧ i ≤ n ∧ Hid (∀ p ∈ s.take i, posB p = true)) (fun _ iv => n - (intOf iv).toNat)
 case atStart => exact ⟨0, rfl, Nat.zero_le _, by simp [Hid]⟩
 case round =>
  obtain ⟨i, rfl, hi, CP⟩ := hrel;by_cases hlt : i < n
  ·obtain ⟨b, off, x, rfl, hb, hx, hc⟩ := BO.at1 hlt;have HX := iD hx; clear hx;have Ig := iD (pt x w1 Hw);rcases hp : posB x with _ | _
   ·have HR : Hid (zQ ns ds s = 10) := by
     unfold Hid;rw [HE.out, if_neg (by simp), if_neg (by simp), if_neg (fun h => by have := h x (List.mem_of_getElem? HX.out); rw [hp] at this; cases this)]
    rw [hp] at Ig;clear hp
    go_wp2_with fail
    refine Ig.mono ?_;rintro e w2 ⟨rfl, rfl⟩
    go_wp2_with fail
    go_ret;exact ⟨zC (by rw [HR.out]), AQ⟩
   ·rw [hp] at Ig;have HP := iD hp; clear hp
    go_wp2_with fail
    refine Ig.mono ?_;rintro e w2 ⟨rfl, rfl⟩
    go_wp2_with fail
    go_round
    case rel =>
     refine ⟨i + 1, by go_num, by omega, fun p hp => ?_⟩;rw [zP HX.out] at hp;rcases List.mem_append.1 hp with h | h
     ·exact CP p h
     ·rw [List.mem_singleton.1 h]; exact HP.out
    case measure => simp [intOf]; omega
  ·obtain rfl : i = n := by omega
   have IV : decide (i < i) = false := by simp
   have HR : Hid (zQ ns ds s = 0) := by
    unfold Hid;have := CP.out;rw [List.take_of_length_le (by rw [FU.out]; exact Nat.le_refl _)] at this;rw [HE.out, if_neg (by simp), if_neg (by simp), if_pos this]
   go_wp2_with fail
   go_ret;exact ⟨zC (by rw [HR.out]), AQ⟩
theorem rh (An Ad As : Option Addr) (nn cn nd cd n c Bn Bd Bs : Nat) (ns : List Nd) (ds : List Dv) (s : List Int) (w : World) (hl : Laid w) (hn : Sl w Bn 3 An nn cn (ns.flatMap Nd.cells)) (hd : Sl w Bd 5 Ad nd cd (ds.flatMap Dv.cells)) (hs : Sl w Bs 1 As n c (zE s)) (CS : Bn ≤ w.heap.size) (BP : Bd ≤ w.heap.size) (CJ : Bs ≤ w.heap.size)
 (Bg : FP ns) (BU : Fv ds) :
 Calls prog 98 #[.agg #[.slice An nn cn, .slice Ad nd cd], .slice As n c] w fun e w' => e = .returned (.int .i64 (zQ ns ds s)) ∧ bW w w' := by
 have HC := iD (lD An Ad As nn cn nd cd n c Bn Bd Bs ns ds s (w.alloc (.cells #[.slice An nn cn, .slice Ad nd cd] 30)) (hl.alloc _) (hn.alloc CS _) (hd.alloc BP _) (hs.alloc CJ _) (by simp; omega) (by simp; omega) (by simp; omega) Bg BU);clear hl hn hd hs Bg BU
 go_enter func98, ntmps98
 go_wp2_with fail
 refine HC.mono ?_;rintro e w1 ⟨rfl, AV⟩
 go_wp2_with fail
 go_ret;exact ⟨rfl, ((Below.refl _ _).alloc lR _).trans (AV.mono (by simp))⟩
def oI (nd : Nat) (d : Int) : Int := if d < 0 then 8 else if (nd : Int) ≤ d then 8 else 0
theorem lP (An Ad : Option Addr) (nn cn nd cd : Nat) (d : Int) (w : World) (_hnd : nd ≤ 9223372036854775807) : Calls prog 174 #[.agg #[.slice An nn cn, .slice Ad nd cd], .int .i64 d] w fun e w' => e = .returned (.int .i64 (oI nd d)) ∧ bW w w' := by
 have HE : Hid (oI nd d = if d < 0 then 8 else if (nd : Int) ≤ d then 8 else 0) := rfl;by_cases h1 : d < 0
 ·go_enter func174, ntmps174
  go_wp2_with fail
  go_ret;exact ⟨zC (by rw [HE.out, if_pos h1]), (Below.refl _ _).alloc lR _⟩
 ·have q1 : decide (d < 0) = false := by simpa using h1
  by_cases h2 : (nd : Int) ≤ d
  ·go_enter func174, ntmps174
   go_wp2_with fail
   go_ret;exact ⟨zC (by rw [HE.out, if_neg (by omega), if_pos h2]), (Below.refl _ _).alloc lR _⟩
  ·have q2 : decide ((nd : Int) ≤ d) = false := by simpa using h2
   go_enter func174, ntmps174
   go_wp2_with fail
   go_ret;exact ⟨zC (by rw [HE.out, if_neg (by omega), if_neg (by omega)]), (Below.refl _ _).alloc lR _⟩
theorem ez (An Ad As : Option Addr) (nn cn nd cd n c Bn Bd Bs i : Nat) (ns : List Nd) (ds : List Dv) (s : List Int) (x : Dv) (w : World) (hl : Laid w)
 (hn : Sl w Bn 3 An nn cn (ns.flatMap Nd.cells)) (CS : Bn ≤ w.heap.size) (hd : Sl w Bd 5 Ad nd cd (ds.flatMap Dv.cells)) (BP : Bd ≤ w.heap.size) (hs : Sl w Bs 1 As n c (zE s)) (CJ : Bs ≤ w.heap.size) (Bg : FP ns) (BU : Fv ds)
 (h0 : zQ ns ds s = 0) (Bq : nn ≤ 10000) (TR : n ≤ 10000) (AB : nd ≤ n) (hi : i < nd) (hx : ds[i]? = some x) (Ae : yf nn ds) (hA : Im nn ds) :
 Calls prog 148 #[.agg #[.slice An nn cn, .slice Ad nd cd], .slice As n c, .int .i64 i] w fun e w' => e = .returned (.tuple #[.int .i64 (yz nn ns ds s i x), .int .i64 0]) ∧ bW w w' := by
 have HB : Hid (Below w.heap.size w (w.alloc (.cells #[.slice An nn cn, .slice Ad nd cd] 30))) := (Below.refl _ _).alloc lR _;have HK := iD (AJ.new w 30 #[.slice An nn cn, .slice Ad nd cd]);have HL := iD hl; have HN := iD hn; have HD := iD hd; have HS := iD hs; have Ej := iD Bg; have Ce := iD BU; have H0 := iD h0; have HX := iD hx; have HE := iD Ae; have HA := iD hA;have RI := hd.le;clear hl hn hd hs Bg BU h0 hx Ae hA;have MO : Hid (oI nd i = 0) := by unfold Hid oI; rw [if_neg (by omega), if_neg (by omega)]
 go_enter func148, ntmps148
 go_wp2_with fail
 generalize World.alloc _ _ = W at *;have hz := HB.size;have HC := iD (rh An Ad As nn cn nd cd n c Bn Bd Bs ns ds s W (HL.below HB lR) (HN.below HB CS) (HD.below HB BP) (HS.below HB CJ) (by omega) (by omega) (by omega) Ej Ce);rw [H0.out] at HC;refine HC.mono ?_;rintro e w1 ⟨rfl, AV⟩;have AQ := iD (HB.trans (AV.mono hz));have De := iD (HK.below AV HK.lt);have ER := AQ.size;clear AV HC HB HK hz;obtain ⟨k0, k1⟩ := De.d2
 go_wp2_with fail
 have HC := iD (lP An Ad nn cn nd cd i w1 (by omega));rw [MO.out] at HC;refine HC.mono ?_;rintro e w2 ⟨rfl, AZ⟩;have Ai := iD (AQ.trans (AZ.mono ER));have EP := iD (De.below AZ De.lt);have GJ := Ai.size;clear AZ HC AQ De ER k0 k1;obtain ⟨k0, k1⟩ := EP.d2
 go_wp2_with fail
 clear k0 k1;refine (fq An Ad As nn cn nd cd n c Bn Bd Bs i ns ds s x w2 (HN.below Ai CS) (by omega) (HD.below Ai BP) (by omega) (HS.below Ai CJ) (by omega) Bq TR AB hi HX HE HA).mono ?_;rintro e w3 ⟨rfl, BX⟩
 go_wp2_with fail
 go_ret2;exact ⟨rfl, Ai.trans (BX.mono GJ)⟩
section
variable {nn : Nat} {ns : List Nd} {ds : List Dv} {s : List Int} {i : Nat} {x : Dv}
theorem qD (hc : wJ nn ds s c) (h0 : 0 ≤ v) (h1 : v < nn) : c.getD v.toNat 0 = tg ds s v := by
 obtain ⟨k, rfl⟩ := Int.eq_ofNat_of_zero_le h0;rw [Int.toNat_natCast, yB (hc.2 k (by omega))]
end
theorem cM {Q : Nat → Prop} : ∀ n, Q n → ∃ m, Q m ∧ ∀ k, Q k → m ≤ k := by
 intro n
 induction n using Nat.strongRecOn with
 | ind n ih =>
  intro h;by_cases hx : ∃ k, k < n ∧ Q k
  ·obtain ⟨k, hk, hq⟩ := hx; exact ih k hk hq
  ·exact ⟨n, h, fun k hk => Nat.le_of_not_lt (fun hl => hx ⟨k, hl, hk⟩)⟩
theorem lS (nn : Nat) (ds : List Dv) (s : List Int) : wJ nn ds s (zW nn ds s) := by
 have h : wJ nn ds s ((List.range nn).map fun v => tg ds s (v : Nat)) := ⟨by simp, fun v hv => by simp [List.getElem?_range hv]⟩;rw [xO h]; exact h
def Gj (ds : List Dv) (s : List Int) (v : Int) : Prop := ud yg ds s v ∧ ¬ ud (· = 4) ds s v
theorem lm : tg ds s v = 1 ↔ Gj ds s v := by
 unfold tg Gj;rcases yI (ud yg ds s v) 1 with ⟨h, e⟩ | ⟨h, e⟩ <;> rcases yI (ud (· = 4) ds s v) 2 with ⟨h2, e2⟩ | ⟨h2, e2⟩ <;> rw [e, e2] <;> simp [h, h2]
section
variable {nn : Nat} {ns : List Nd} {ds : List Dv} {s : List Int} {i : Nat} {x : Dv}
theorem jC {P : List Int} (hP : yW nn ds s P) {u : Int} (hu : 0 ≤ u ∧ u < nn) (hv : 0 ≤ v ∧ v < nn) : P.getD u.toNat 0 = P.getD v.toNat 0 ↔ yH ds s u v := by
 obtain ⟨a, rfl⟩ := Int.eq_ofNat_of_zero_le hu.1;obtain ⟨b, rfl⟩ := Int.eq_ofNat_of_zero_le hv.1;rw [Int.toNat_natCast, Int.toNat_natCast, ← hP.iff (by omega) (by omega)];obtain ⟨p, hp, _⟩ := hP.2 a (by omega);obtain ⟨q, hq, _⟩ := hP.2 b (by omega);rw [yB hp, yB hq, hp, hq];simp
def pZ (ns : List Nd) (ds : List Dv) (o c : List Int) (d : Int) : Prop :=
 (d = 0 ∨ d = 1 → ∀ (v : Nat) (y : Nd), ns[v]? = some y → 0 < y.cust → (Gj ds c v ↔ Gj ds o v)) ∧
 (d = 2 → (∃ (v : Nat) (y : Nd), ns[v]? = some y ∧ 0 < y.cust ∧ Gj ds c v ∧ ¬ Gj ds o v) ∧ ∀ v : Int, Gj ds o v → Gj ds c v) ∧
 (d = 3 → ∀ v : Int, Gj ds c v ↔ Gj ds o v)
theorem pZ.fault : pZ ns ds o c 4 := ⟨fun h => by omega, fun h => by omega, fun h => by omega⟩
theorem pZ.same {d : Int} (h : ∀ v : Int, Gj ds c v ↔ Gj ds o v) (hd : d ≠ 2) : pZ ns ds o c d := ⟨fun _ v _ _ _ => h v, fun e => absurd e hd, fun _ => h⟩
open Classical in
theorem pZ.one {P : List Int} {q : Int} (hP : yW nn ds o P) (hl : ns.length = nn) (hq : 0 ≤ q ∧ q < nn)
 (h1 : ∀ v, yH ds o q v → Gj ds c v ∧ ¬ Gj ds o v) (h2 : ∀ v, ¬ yH ds o q v → (Gj ds c v ↔ Gj ds o v)) :
 pZ ns ds o c (if ∃ (v : Nat) (y : Nd), v < ns.length ∧ ns[v]? = some y ∧ 0 < y.cust ∧ P.getD v 0 = P.getD q.toNat 0 then 2 else 1) := by
 have pc : ∀ v : Nat, v < nn → (P.getD v 0 = P.getD q.toNat 0 ↔ yH ds o q v) := by
  intro v hv;have h := jC hP (u := q) (v := v) hq ⟨by omega, by omega⟩;rw [Int.toNat_natCast] at h;exact ⟨fun e => h.1 e.symm, fun e => (h.2 e).symm⟩
 split
 ·rename_i hx
  obtain ⟨v, y, hv, hy, hc, hp⟩ := hx;have k := h1 v ((pc v (by omega)).1 hp);refine ⟨fun h => by omega, fun _ => ⟨⟨v, y, hy, hc, k.1, k.2⟩, fun u hu => ?_⟩, fun h => by omega⟩;by_cases GM : yH ds o q u
  ·exact (h1 u GM).1
  ·exact (h2 u GM).2 hu
 ·rename_i hx
  refine ⟨fun _ v y hy hc => h2 v (fun GM => hx ?_), fun h => by omega, fun h => by omega⟩;have hv := (List.getElem?_eq_some_iff.1 hy).1;exact ⟨v, y, hv, hy, hc, (pc v (by omega)).2 GM⟩
end
variable {m : List Int} {d u v : Value} {k n : Nat} {A : Act}
def wA (m : List Int) : Nat → List Nat
 | 0 => []
 | n + 1 => if m[n]? = some 3 then wA m n ++ [n] else wA m n
def zm (m : List Int) (n : Nat) : Nat := (wA m n).length
theorem kK (m : List Int) (n : Nat) : zm m n ≤ n := by
 unfold zm
 induction n with
 | zero => exact Nat.le_refl _
 | succ n ih =>
  rw [wA]; split
  ·simp; omega
  ·omega
theorem yn (m : List Int) (n : Nat) : zm m (n + 1) = zm m n + if m[n]? = some 3 then 1 else 0 := by
 unfold zm; rw [wA]; split <;> simp
theorem uV (m : List Int) {a b : Nat} (h : a ≤ b) : zm m a ≤ zm m b := by
 induction b with
 | zero => obtain rfl : a = 0 := by omega
           exact Nat.le_refl _
 | succ b ih =>
  rcases Nat.lt_or_ge a (b + 1) with h1 | h1
  ·have := ih (by omega); rw [yn]; omega
  ·obtain rfl : a = b + 1 := by omega
   exact Nat.le_refl _
theorem uM (m : List Int) : ∀ (n j d : Nat), (wA m n)[j]? = some d → m[d]? = some 3 ∧ d < n ∧ zm m d = j
 | 0, j, d, h => by simp [wA] at h
 | n + 1, j, d, h => by
  rw [wA] at h;split at h
  ·next h3 =>
   rw [List.getElem?_append] at h;split at h
   ·have := uM m n j d h; exact ⟨this.1, by omega, this.2.2⟩
   ·next hj =>
    have hz : j - (wA m n).length = 0 := by
     rcases Nat.eq_zero_or_pos (j - (wA m n).length) with h0 | h0
     ·exact h0
     ·rw [List.getElem?_eq_none (by simp; omega)] at h; cases h
    rw [hz] at h;simp at h;subst h;exact ⟨h3, by omega, by unfold zm; omega⟩
  ·have := uM m n j d h; exact ⟨this.1, by omega, this.2.2⟩
theorem mE {d e : Nat} (hd : m[d]? = some 3) (he : m[e]? = some 3) (h : zm m d = zm m e) : d = e := by
 rcases Nat.lt_trichotomy d e with hlt | rfl | hlt
 ·have := uV m (show d + 1 ≤ e by omega);rw [yn, if_pos hd] at this; omega
 ·rfl
 ·have := uV m (show e + 1 ≤ d by omega);rw [yn, if_pos he] at this; omega
theorem oK {d : Nat} (hd : m[d]? = some 3) (h : d < n) : zm m d < zm m n := by
 have := uV m (show d + 1 ≤ n by omega);rw [yn, if_pos hd] at this; omega
def xx (x : Option Int) (o : List Int) : List (List Int) := if x = some 3 then [o ++ [1], o ++ [2]] else [o ++ [x.getD 0]]
def wU (m : List Int) : Nat → List (List Int)
 | 0 => [[]]
 | n + 1 => (wU m n).flatMap (xx m[n]?)
def yp (m : List Int) : List (List Int) := wU m m.length
def fR (m : List Int) (n : Nat) (s : List Int) : Prop := s.length = n ∧ ∀ d, d < n → (m[d]? = some 3 → s[d]? = some 1 ∨ s[d]? = some 2) ∧ (m[d]? ≠ some 3 → s[d]? = some (m.getD d 0))
theorem ry (m : List Int) (d : Nat) : m[d]?.getD 0 = m.getD d 0 := by rw [List.getD_eq_getElem?_getD]
theorem wP (m : List Int) : ∀ (n : Nat) (s : List Int), s ∈ wU m n ↔ fR m n s
 | 0, s => by
  simp only [wU, List.mem_singleton, fR]
  constructor
  ·rintro rfl; exact ⟨rfl, fun d hd => by omega⟩
  ·rintro ⟨h, _⟩; exact List.eq_nil_of_length_eq_zero h
 | n + 1, s => by
  simp only [wU, List.mem_flatMap]
  constructor
  ·rintro ⟨o, ho, hs⟩;obtain ⟨hl, ha⟩ := (wP m n o).1 ho
   have old : ∀ x : Int, fR m n o → ∀ d, d < n → (m[d]? = some 3 → (o ++ [x])[d]? = some 1 ∨ (o ++ [x])[d]? = some 2) ∧ (m[d]? ≠ some 3 → (o ++ [x])[d]? = some (m.getD d 0)) := by
    intro x _ d hd;rw [List.getElem?_append_left (by omega)];exact ha d hd
   have newest : ∀ x : Int, (o ++ [x])[n]? = some x := by
    intro x; rw [List.getElem?_append_right (by omega), hl, Nat.sub_self]; rfl
   unfold xx at hs;split at hs
   ·next h3 =>
    simp only [List.mem_cons, List.not_mem_nil, or_false] at hs;rcases hs with rfl | rfl
    ·refine ⟨by simp [hl], fun d hd => ?_⟩;rcases Nat.lt_succ_iff_lt_or_eq.1 hd with h | rfl
     ·exact old 1 ⟨hl, ha⟩ d h
     ·exact ⟨fun _ => .inl (newest 1), fun h => absurd h3 h⟩
    ·refine ⟨by simp [hl], fun d hd => ?_⟩;rcases Nat.lt_succ_iff_lt_or_eq.1 hd with h | rfl
     ·exact old 2 ⟨hl, ha⟩ d h
     ·exact ⟨fun _ => .inr (newest 2), fun h => absurd h3 h⟩
   ·next h3 =>
    simp only [List.mem_cons, List.not_mem_nil, or_false] at hs;subst hs;refine ⟨by simp [hl], fun d hd => ?_⟩;rcases Nat.lt_succ_iff_lt_or_eq.1 hd with h | rfl
    ·exact old _ ⟨hl, ha⟩ d h
    ·exact ⟨fun h => absurd h h3, fun _ => by rw [newest, ry]⟩
  ·rintro ⟨hl, ha⟩
   have e : s = s.take n ++ [s.getD n 0] := by
    have h1 : s.take (n + 1) = s := List.take_of_length_le (by omega);rw [List.take_add_one, List.getElem?_eq_getElem (by omega)] at h1;rw [List.getD_eq_getElem?_getD, List.getElem?_eq_getElem (by omega)];exact h1.symm
   refine ⟨s.take n, (wP m n _).2 ⟨by simp; omega, fun d hd => ?_⟩, ?_⟩
   ·rw [List.getElem?_take, if_pos hd]; exact ha d (by omega)
   ·have hn := ha n (by omega);unfold xx;split
    ·next h3 =>
     rcases hn.1 h3 with h | h
     ·rw [show s.getD n 0 = 1 by rw [List.getD_eq_getElem?_getD, h]; rfl] at e;rw [← e]; simp
     ·rw [show s.getD n 0 = 2 by rw [List.getD_eq_getElem?_getD, h]; rfl] at e;rw [← e]; simp
    ·next h3 =>
     have h := hn.2 h3;rw [show s.getD n 0 = m.getD n 0 by rw [List.getD_eq_getElem?_getD, h]; rfl] at e;rw [ry, ← e]; simp
def oX (m : List Int) (n k d : Nat) : Int := if m[d]? = some 3 then 1 + ((k >>> (zm m n - 1 - zm m d)) % 2 : Nat) else m.getD d 0
def Jj (m : List Int) (n k : Nat) : List Int := (List.range n).map (oX m n k)
theorem kw (n : Nat) : List.range (2 * n) = (List.range n).flatMap fun k => [2 * k, 2 * k + 1] := by
 induction n with
 | zero => rfl
 | succ n ih =>
  rw [show 2 * (n + 1) = 2 * n + 1 + 1 by omega, List.range_succ, List.range_succ, ih, List.range_succ, List.flatMap_append];simp
theorem oP (m : List Int) : ∀ n, wU m n = (List.range (2 ^ zm m n)).map (Jj m n)
 | 0 => by simp [wU, zm, wA, Jj]
 | n + 1 => by
  rw [wU, oP m n, List.flatMap_map];by_cases h3 : m[n]? = some 3
  ·have hc : zm m (n + 1) = zm m n + 1 := by rw [yn, if_pos h3]
   rw [hc, Nat.pow_succ, Nat.mul_comm, kw, List.map_flatMap]
   congr 1
   funext k
   have step : ∀ b, b < 2 → Jj m (n + 1) (2 * k + b) = Jj m n k ++ [1 + (b : Int)] := by
    intro b hb;unfold Jj;rw [List.range_succ, List.map_append]
    congr 1
    ·apply List.map_congr_left
     intro d hd;have hd := List.mem_range.1 hd;unfold oX;split
     ·next h =>
      have := oK h hd;rw [hc, show zm m n + 1 - 1 - zm m d = (zm m n - 1 - zm m d) + 1 by omega, Nat.shiftRight_add, Nat.shiftRight_eq_div_pow, Nat.shiftRight_eq_div_pow, Nat.shiftRight_eq_div_pow];rw [Nat.div_div_eq_div_mul, Nat.mul_comm (2 ^ _) (2 ^ 1), ← Nat.div_div_eq_div_mul, show (2 * k + b) / 2 ^ 1 = k by omega]
     ·rfl
    ·simp only [List.map_cons, List.map_nil, oX, if_pos h3, hc];rw [show zm m n + 1 - 1 - zm m n = 0 by omega, Nat.shiftRight_zero, show (2 * k + b) % 2 = b by omega]
   simp only [xx, h3, if_true, List.map_cons, List.map_nil];rw [show 2 * k = 2 * k + 0 from rfl, step 0 (by omega), step 1 (by omega)];rfl
  ·have hc : zm m (n + 1) = zm m n := by rw [yn, if_neg h3]; rfl
   rw [hc];simp only [xx, if_neg h3];rw [← List.map_eq_flatMap]
   apply List.map_congr_left
   intro k _;unfold Jj;rw [List.range_succ, List.map_append]
   congr 1
   ·apply List.map_congr_left
    intro d _;unfold oX; rw [hc]
   ·simp only [List.map_cons, List.map_nil, oX, if_neg h3, ry]
theorem tl (m : List Int) (n : Nat) : (wU m n).length = 2 ^ zm m n := by rw [oP]; simp
theorem gK (m : List Int) (hk : k < 2 ^ zm m n) : (wU m n)[k]? = some (Jj m n k) := by rw [oP, List.getElem?_map, List.getElem?_range hk]; rfl
def vp (m : List Int) (k j : Nat) (l : List Int) : Prop := l.length = m.length ∧ ∀ d, d < m.length → l[d]? = some (if m[d]? = some 3 ∧ zm m d < j then oX m m.length k d else m.getD d 0)
theorem vp.start (m : List Int) (k : Nat) : vp m k 0 m := ⟨rfl, fun d hd => by rw [if_neg (by omega), List.getD_eq_getElem?_getD, List.getElem?_eq_getElem hd]; rfl⟩
theorem vp.step {l : List Int} {j d : Nat} (h : vp m k j l) (hd : (wA m m.length)[j]? = some d) : vp m k (j + 1) (l.set d (1 + ((k >>> (zm m m.length - 1 - j)) % 2 : Nat))) := by
 obtain ⟨h3, hlt, hc⟩ := uM m _ _ _ hd;refine ⟨by simp [h.1], fun e he => ?_⟩;rw [List.getElem?_set];by_cases RZ : d = e
 ·subst RZ;rw [if_pos rfl, if_pos (by rw [h.1]; exact he), if_pos ⟨h3, by omega⟩];unfold oX; rw [if_pos h3, hc]
 ·rw [if_neg RZ, h.2 e he]
  congr 1
  by_cases NF : m[e]? = some 3
  ·have : zm m e ≠ j := fun hh => RZ (mE h3 NF (by omega))
   by_cases FZ : zm m e < j
   ·rw [if_pos ⟨NF, FZ⟩, if_pos ⟨NF, by omega⟩]
   ·rw [if_neg (fun x => FZ x.2), if_neg (fun x => by omega)]
  ·rw [if_neg (fun x => NF x.1), if_neg (fun x => NF x.1)]
theorem vp.done {l : List Int} (h : vp m k (zm m m.length) l) : l = Jj m m.length k := by
 apply List.ext_getElem?
 intro d;by_cases hd : d < m.length
 ·rw [h.2 d hd];unfold Jj;rw [List.getElem?_map, List.getElem?_range hd];simp only [Option.map_some, Option.some.injEq];by_cases h3 : m[d]? = some 3
  ·rw [if_pos ⟨h3, oK h3 hd⟩]
  ·rw [if_neg (fun x => h3 x.1)]; unfold oX; rw [if_neg h3]
 ·rw [List.getElem?_eq_none (by rw [h.1]; omega), List.getElem?_eq_none (by unfold Jj; simp; omega)]
section
variable {P : Program} {ops : Array Oper} {Q : Exit → Act → World → Prop} {S : World → Prop} {J : List Nat}
end
def LB : List (Nat × Value) → Nat → Value → Value
 | [], _, d => d
 | (k, v) :: L, n, d => if n = k then v else LB L n d
theorem ya {L : List (Nat × Value)} : LB ((k, v) :: L) k d = v := if_pos rfl
theorem xV (h : d = u) : LB [] k d = u := h
theorem zx {L : List (Nat × Value)} (h : Nat.beq n k = false) (r : LB L n d = u) : LB ((k, v) :: L) n d = u := (if_neg (fun e => by rw [e, Nat.beq_refl] at h; cases h)).trans r
theorem iU {k1 k2 k3 k4 : Nat} {v1 v2 v3 v4 : Value} {L : List (Nat × Value)} (h1 : Nat.beq n k1 = false) (h2 : Nat.beq n k2 = false) (h3 : Nat.beq n k3 = false) (h4 : Nat.beq n k4 = false) (r : LB L n d = u) : LB ((k1, v1) :: (k2, v2) :: (k3, v3) :: (k4, v4) :: L) n d = u := zx h1 (zx h2 (zx h3 (zx h4 r)))
def yJ (A : Act) : List (Nat × Value) → Act
 | [] => A
 | (k, v) :: L => (yJ A L).put (some k) v
theorem nE (A : Act) : yJ A [] = A := by cases A <;> rfl
theorem qz (A : Act) (k : Nat) (v : Value) (L : List (Nat × Value)) : yJ A ((k, v) :: L) = (yJ A L).put (some k) v := by cases L <;> rfl
theorem lp (xs : List Value) (ds : List Deferred) (k : Nat) (v : Value) : (Act.mk xs.toArray ds).put (some k) v = Act.mk (xs.set k v).toArray ds := by simp [Act.put]
theorem fV (x v : Value) (t : List Value) : (x :: t).set 0 v = v :: t := by cases t <;> rfl
theorem fU (x v : Value) (t : List Value) (n : Nat) : (x :: t).set (n + 1) v = x :: t.set n v := by cases t <;> rfl
theorem qy (A : Act) : ∀ L : List (Nat × Value), (yJ A L).tmps.size = A.tmps.size
 | [] => rfl
 | (k, v) :: L => by simp [yJ, Act.put, qy A L]
theorem pL (A : Act) (k : Nat) (hk : k < A.tmps.size) : ∀ L : List (Nat × Value), (yJ A L).eval (.tmp k) = LB L k (A.eval (.tmp k))
 | [] => rfl
 | (j, v) :: L => by
  have ih := pL A k hk L;have hs := qy A L;unfold LB;split
  ·next h =>
   subst h;simp [yJ, Act.put, Act.eval, Array.getD, hs, hk]
  ·next h =>
   rw [← ih];simp only [yJ, Act.put, Act.eval];rw [Array.getD_eq_getD_getElem?, Array.getD_eq_getD_getElem?, Array.getElem?_setIfInBounds_ne (Ne.symm h)]
def sU (A : Act) : List (Nat × Value) → Prop
 | [] => True
 | (k, v) :: r => A.eval (.tmp k) = v ∧ sU A r
theorem mM : sU A [] := trivial
theorem xg {r : List (Nat × Value)} (h : A.eval (.tmp k) = v) (hr : sU A r) : sU A ((k, v) :: r) := ⟨h, hr⟩
def Rd (A : Act) (L : List (Nat × Value)) (ρ : Operand → Value) : Prop := ρ = (yJ A L).eval
theorem Rd.tmp {L : List (Nat × Value)} {ρ : Operand → Value} (h : Rd A L ρ) (hn : A.tmps.size = n) (k : Nat) (hk : Nat.blt k n = true) : ρ (.tmp k) = LB L k (A.eval (.tmp k)) := by
 unfold Rd at h; rw [h]; exact pL A k (by rw [hn]; simpa [Nat.blt_eq] using hk) L
theorem Rd.const {L : List (Nat × Value)} {ρ : Operand → Value} (h : Rd A L ρ) (v : Value) : ρ (.const v) = v := by unfold Rd at h; rw [h]; rfl
theorem Rd.func {L : List (Nat × Value)} {ρ : Operand → Value} (h : Rd A L ρ) (f : FuncId) : ρ (.func f) = .func (.func f) #[] #[] := by unfold Rd at h; rw [h]; rfl
section
variable {P : Program} {ops : Array Oper} {Q : Exit → Act → World → Prop} {md : Region.Mode} {S : World → Prop} {J : List Nat}
def tr (P : Program) (ops : Array Oper) (Q : Exit → Act → World → Prop) (S : World → Prop) (J : List Nat) : List (Nat × Bool) → Act → World → Prop
 | [], a, w => Q .normal a w
 | (i, true) :: r, a, w => S w ∧ ∃ oi v, ops[i]? = some oi ∧ YieldsIf P ops S oi v a ∧ tr P ops Q S J r (a.put oi.dst v) w
 | (i, false) :: r, a, w => wpOp P ops Q i (fun a' w' => (J.contains i = false → S w') ∧ tr P ops Q S J r a' w') a w
structure Ch (P : Program) (ops : Array Oper) (Q : Exit → Act → World → Prop) (S : World → Prop) (J : List Nat) (tk : List (Nat × Bool)) (a : Act) (w : World) : Prop where
 out : tr P ops Q S J tk a w
def sN (md : Region.Mode) (ops : Array Oper) (J : List Nat) : List (Nat × Bool) → Array Bool → Bool
 | [], listed => (Region.ready md ops listed).isEmpty
 | (i, true) :: r, listed => Region.free md ops listed i && (Region.ready md ops listed).contains i && xq md ops listed && J.all (vv md ops i ops.size) && sN md ops J r (listed.setIfInBounds i true)
 | (i, false) :: r, listed => Region.ready md ops listed == [i] && sN md ops J r (listed.setIfInBounds i true)
theorem vL (hs : Region.noSelect ops = true) (hQ : ∀ c a d v w, Q (.panic c) (a.put (some d) v) w → Q (.panic c) a w) : ∀ (tk : List (Nat × Bool)) (m : Nat) (listed : Array Bool) (a : Act) (w : World),
 sN md ops J tk listed = true → tr P ops Q S J tk a w → zZ P md ops Q S J (tk.length + m) listed a w
 | [], m, listed, a, w, hc, h => zA (List.isEmpty_iff.1 hc) h _
 | (i, true) :: r, m, listed, a, w, hc, h => by
  simp only [sN, Bool.and_eq_true] at hc;obtain ⟨⟨⟨⟨h1, h2⟩, h3⟩, h4⟩, h5⟩ := hc;obtain ⟨hS, oi, v, Oe, hy, hr⟩ := h;rw [List.length_cons, Nat.add_right_comm];exact vx Oe rfl hs h1 h2 h3 h4 (fun c a w q => by cases hd : oi.dst with | none => rw [hd] at q; exact q | some d => rw [hd] at q; exact hQ c a d v w q) hy hS (vL hs hQ r m _ _ _ h5 hr)
 | (i, false) :: r, m, listed, a, w, hc, h => by
  simp only [sN, Bool.and_eq_true, beq_iff_eq] at hc;rw [List.length_cons, Nat.add_right_comm];refine ⟨fun h0 => (by rw [hc.1] at h0; cases h0), fun j hj => ?_⟩;rw [hc.1] at hj;obtain rfl := List.mem_singleton.1 hj;exact wpOp_mono (fun a' w' h' => ⟨h'.1, vL hs hQ r m _ _ _ hc.2 h'.2⟩) h
theorem nI {a : Act} {L : List (Nat × Value)} {w : World} {Q2 : Exit → Act → World → Prop} (hn : Hid (∀ L w', Q .normal (yJ a L) w' → Q2 .normal (yJ A L) w')) (h : Q .normal (yJ a L) w) : Ch P ops Q2 S J [] (yJ A L) w := ⟨hn.out L w h⟩
section
variable {A : Act} {L : List (Nat × Value)} {w : World} {n i d : Nat} {oi : Oper} {r : List (Nat × Bool)} {v : Value}
theorem zd {y : Nat → Option Bool} (hg : oi.guard = none) : Region.wanted oi y = true := by unfold Region.wanted; rw [hg]
theorem nH (hi : ops[i]? = some oi) (hd : oi.dst = some d) (hw : Region.wanted oi (yielded ops (yJ A L).tmps) = true) (hS : S w)
 (hv : ∀ ρ : Operand → Value, Rd A L ρ → ∀ w, S w → (execOp ρ oi).run P w = .ok (.value v) w) (h : Ch P ops Q S J r (yJ A ((d, v) :: L)) w) : Ch P ops Q S J ((i, true) :: r) (yJ A L) w :=
 ⟨⟨hS, oi, v, hi, Or.inl ⟨hw, fun w hw => hv _ rfl w hw⟩, by rw [hd]; exact h.out⟩⟩
theorem iN {x : Operand} (hi : ops[i]? = some oi) (hd : oi.dst = some d) (ho : oi.op = .move x) (hw : Region.wanted oi (yielded ops (yJ A L).tmps) = true) (hS : S w)
 (hv : ∀ ρ : Operand → Value, Rd A L ρ → ρ x = v) (h : Ch P ops Q S J r (yJ A ((d, v) :: L)) w) : Ch P ops Q S J ((i, true) :: r) (yJ A L) w :=
 nH hi hd hw hS (fun ρ AB w _ => by unfold execOp; rw [ho]; simp only [hv ρ AB]; rfl) h
theorem oT (i d : Nat) (v : Value) (hi : ops[i]? = some oi) (hd : oi.dst = some d) (hw : Region.wanted oi (yielded ops (yJ A L).tmps) = true) (hS : S w)
 (hv : ∀ ρ : Operand → Value, Rd A L ρ → ∀ w, S w → (execOp ρ oi).run P w = .ok (.value v) w) (h : Ch P ops Q S J r (yJ A ((d, v) :: L)) w) : Ch P ops Q S J ((i, true) :: r) (yJ A L) w := nH hi hd hw hS hv h
theorem oM (i d : Nat) (v : Value) {x : Operand} (hi : ops[i]? = some oi) (hd : oi.dst = some d) (ho : oi.op = .move x) (hw : Region.wanted oi (yielded ops (yJ A L).tmps) = true) (hS : S w)
 (hv : ∀ ρ : Operand → Value, Rd A L ρ → ρ x = v) (h : Ch P ops Q S J r (yJ A ((d, v) :: L)) w) : Ch P ops Q S J ((i, true) :: r) (yJ A L) w := iN hi hd ho hw hS hv h
theorem tm {ρ : Operand → Value} {x : Value} (h : Rd A L ρ) (hn : A.tmps.size = n) (k : Nat) (hk : Nat.blt k n = true) (e : LB L k (A.eval (.tmp k)) = x) : ρ (.tmp k) = x := (h.tmp hn k hk).trans e
end
end
def rj (b : Int) : Bool := (decide (65 ≤ b) && decide (b ≤ 90)) || (decide (97 ≤ b) && decide (b ≤ 122))
def nr (b : Int) : Bool := decide (48 ≤ b) && decide (b ≤ 57)
theorem uv (b : Int) (w : World) : Calls prog 77 #[.int .u8 b] w fun e w' => e = .returned (.bool (rj b)) ∧ w = w' := by
 by_cases h1 : 65 ≤ b
 ·by_cases h2 : b ≤ 90
  ·go_enter func77, ntmps77
   go_wp2
   go_ret;exact ⟨zF (by simp [rj, h1, h2]), rfl⟩
  ·have h2' : decide (b ≤ 90) = false := by simpa using h2
   by_cases h3 : 97 ≤ b
   ·go_enter func77, ntmps77
    go_wp2
    go_ret;exact ⟨zF (by simp [rj, h2', h3]), rfl⟩
   ·have h3' : decide (97 ≤ b) = false := by simpa using h3
    go_enter func77, ntmps77
    go_wp2
    go_ret;exact ⟨zF (by simp [rj, h2', h3']), rfl⟩
 ·have h1' : decide (65 ≤ b) = false := by simpa using h1
  have h3' : decide (97 ≤ b) = false := by simp; omega
  go_enter func77, ntmps77
  go_wp2
  go_ret;exact ⟨zF (by simp [rj, h1', h3']), rfl⟩
theorem jT (b : Int) (w : World) : Calls prog 78 #[.int .u8 b] w fun e w' => e = .returned (.bool (nr b)) ∧ w = w' := by
 by_cases h1 : 48 ≤ b
 ·go_enter func78, ntmps78
  go_wp2
  go_ret;exact ⟨zF (by simp [nr, h1]), rfl⟩
 ·have h1' : decide (48 ≤ b) = false := by simpa using h1
  go_enter func78, ntmps78
  go_wp2
  go_ret;exact ⟨zF (by simp [nr, h1']), rfl⟩
theorem sJ (b : Int) : vW b true = rj b := by
 unfold vW rj;by_cases h1 : 65 ≤ b ∧ b ≤ 90
 ·simp [h1]
 ·by_cases h2 : 97 ≤ b ∧ b ≤ 122
  ·simp [h2]
  ·rw [if_neg h1, if_neg h2];have : (decide (65 ≤ b) && decide (b ≤ 90)) = false := by simpa using h1
   have h2' : (decide (97 ≤ b) && decide (b ≤ 122)) = false := by simpa using h2
   rw [this, h2'];split
   ·rfl
   ·split <;> rfl
theorem pK (b : Int) : vW b false = (rj b || nr b || decide (b = 95)) := by
 unfold vW rj nr;by_cases h1 : 65 ≤ b ∧ b ≤ 90
 ·simp [h1]
 ·by_cases h2 : 97 ≤ b ∧ b ≤ 122
  ·simp [h2]
  ·rw [if_neg h1, if_neg h2];have : (decide (65 ≤ b) && decide (b ≤ 90)) = false := by simpa using h1
   have h2' : (decide (97 ≤ b) && decide (b ≤ 122)) = false := by simpa using h2
   rw [this, h2'];by_cases h3 : 48 ≤ b ∧ b ≤ 57
   ·simp [h3]
   ·have h3' : (decide (48 ≤ b) && decide (b ≤ 57)) = false := by simpa using h3
    rw [if_neg h3, h3'];by_cases h4 : b = 95 <;> simp [h4]
theorem qt (s : ByteArray) (w : World) (hs : s.size ≤ 9223372036854775807) : Calls prog 52 #[.string s] w fun e w' => e = .returned (.bool (yO (BA s))) ∧ w = w' := by
 have HN : Hid (yO (BA s) = (decide (∀ i, i < s.size → vW ((BA s).getD i 0).toNat (i == 0) = true) && decide (1 ≤ s.size) && decide (s.size ≤ 12))) := by unfold Hid; rw [yO, tH]
 by_cases h1 : s.size < 1
 ·have q1 : decide ((s.size : Int) < 1) = true := by simp; omega
  go_enter func52, ntmps52
  go_wp2_with fail
  go_ret;exact ⟨zF (by rw [HN.out, decide_eq_false (show ¬ 1 ≤ s.size by omega)]; simp), rfl⟩
 have q1 : decide ((s.size : Int) < 1) = false := by simp; omega
 by_cases h2 : 12 < s.size
 ·have q2 : decide ((12 : Int) < (s.size : Int)) = true := by simp; omega
  go_enter func52, ntmps52
  go_wp2_with fail
  go_ret;exact ⟨zF (by rw [HN.out, decide_eq_false (show ¬ s.size ≤ 12 by omega)]; simp), rfl⟩
 have q2 : decide ((12 : Int) < (s.size : Int)) = false := by simp; omega
 have hg : ∀ i (h : i < s.size), (BA s).getD i 0 = s[i] := fun i h => by rw [List.getD_eq_getElem?_getD, List.getElem?_eq_getElem (by rw [tH]; exact h)]; rfl
 have AE : 0 < s.size := by omega
 have H0 : Hid ((BA s).getD 0 0 = s[0]) := hg 0 AE;have HG := iD hg; clear hg;rcases Ns : rj ((s[0]).toNat : Int) with _ | _
 ·have HL := iD (uv ((s[0]).toNat : Int));rw [Ns] at HL
  have HR : Hid (yO (BA s) = false) := by
   unfold Hid;rw [HN.out, decide_eq_false (fun h => by have := h 0 AE; rw [H0.out] at this; simp only [beq_self_eq_true] at this; rw [sJ, Ns] at this; cases this)];rfl
  clear Ns
  go_enter func52, ntmps52
  go_wp2_with fail
  refine (HL.out _).mono ?_;rintro e w1 ⟨rfl, rfl⟩
  go_wp2_with fail
  go_ret;exact ⟨zF (by rw [HR.out]), rfl⟩
 ·have HL := iD (uv ((s[0]).toNat : Int));rw [Ns] at HL;have JD := iD Ns;clear Ns
  go_enter func52, ntmps52
  go_wp2_with fail
  refine (HL.out _).mono ?_;rintro e w1 ⟨rfl, rfl⟩;clear q1 q2
  go_wp2_with fail
  go_loopg [3] s.size (fun gk iv wr => ∃ i : Nat, iv = .int .i64 i ∧ i ≤ s.size ∧ gk = s.size - i ∧ Hid (∀ j, j < i → vW ((BA s).getD j 0).toNat false = true) ∧ Hid (w = wr))
  case atStart => exact ⟨0, rfl, Nat.zero_le _, rfl, fun j hj => absurd hj (by omega), rfl⟩
  case round =>
   obtain ⟨i, rfl, hi, rfl, CP, hw⟩ := hrel;obtain rfl := hw.out;clear hw;by_cases hlt : i < s.size
   ·have AA := iD (HG.out i hlt);have Lv := pK ((s[i]).toNat : Int);have OI := iD (uv ((s[i]).toNat : Int));have We := iD (jT ((s[i]).toNat : Int));rcases hl : rj ((s[i]).toNat : Int) with _ | _
    ·rcases hd : nr ((s[i]).toNat : Int) with _ | _
     ·rw [hl] at OI;rw [hd] at We;rw [hl, hd] at Lv;by_cases Tm : ((s[i]).toNat : Int) = 95
      ·have AG : (((s[i]).toNat : Int) != 95) = false := by simpa using Tm
       have Bv : Hid (vW ((BA s).getD i 0).toNat false = true) := by unfold Hid; rw [AA.out, Lv]; simpa using Tm
       clear Lv hl hd Tm
       go_wp2_with fail
       refine (OI.out _).mono ?_;rintro e w1 ⟨rfl, rfl⟩
       go_wp2_with fail
       refine (We.out _).mono ?_;rintro e w1 ⟨rfl, rfl⟩
       go_wp2_with fail
       go_roundg (s.size - (i + 1))
       case rel => exact ⟨i + 1, by go_num, by omega, rfl, fun j hj => by
        rcases Nat.lt_succ_iff_lt_or_eq.1 hj with h | h
        ·exact CP.out j h
        ·rw [h]; exact Bv.out, rfl⟩
       case measure => omega
      ·have AG : (((s[i]).toNat : Int) != 95) = true := by simpa using Tm
       have HR : Hid (yO (BA s) = false) := by
        unfold Hid
        rw [HN.out, decide_eq_false (fun h => by
         have := h i hlt;rw [AA.out] at this;rcases hb : (i == 0) with _ | _
         ·rw [hb, Lv] at this; simp [Tm] at this
         ·rw [hb, sJ, hl] at this; cases this)]
        rfl
       clear Lv hl hd Tm
       go_wp2_with fail
       refine (OI.out _).mono ?_;rintro e w1 ⟨rfl, rfl⟩
       go_wp2_with fail
       refine (We.out _).mono ?_;rintro e w1 ⟨rfl, rfl⟩
       go_wp2_with fail
       go_ret;exact ⟨zF (by rw [HR.out]), rfl⟩
     ·rw [hl] at OI;rw [hd] at We;have Bv : Hid (vW ((BA s).getD i 0).toNat false = true) := by unfold Hid; rw [AA.out, Lv, hl, hd]; rfl
      clear Lv hl hd
      go_wp2_with fail
      refine (OI.out _).mono ?_;rintro e w1 ⟨rfl, rfl⟩
      go_wp2_with fail
      refine (We.out _).mono ?_;rintro e w1 ⟨rfl, rfl⟩
      go_wp2_with fail
      go_roundg (s.size - (i + 1))
      case rel => exact ⟨i + 1, by go_num, by omega, rfl, fun j hj => by
       rcases Nat.lt_succ_iff_lt_or_eq.1 hj with h | h
       ·exact CP.out j h
       ·rw [h]; exact Bv.out, rfl⟩
      case measure => omega
    ·rw [hl] at OI;have Bv : Hid (vW ((BA s).getD i 0).toNat false = true) := by unfold Hid; rw [AA.out, Lv, hl]; rfl
     clear Lv hl
     go_wp2_with fail
     refine (OI.out _).mono ?_;rintro e w1 ⟨rfl, rfl⟩
     go_wp2_with fail
     go_roundg (s.size - (i + 1))
     case rel => exact ⟨i + 1, by go_num, by omega, rfl, fun j hj => by
      rcases Nat.lt_succ_iff_lt_or_eq.1 hj with h | h
      ·exact CP.out j h
      ·rw [h]; exact Bv.out, rfl⟩
     case measure => omega
   ·obtain rfl : i = s.size := by omega
    have Cw : decide (s.size < s.size) = false := by simp
    have HR : Hid (yO (BA s) = true) := by
     unfold Hid
     rw [HN.out, decide_eq_true (show 1 ≤ s.size by omega), decide_eq_true (show s.size ≤ 12 by omega), decide_eq_true (fun j hj => by
      cases j with
      | zero => rw [H0.out]; simp only [beq_self_eq_true]; rw [sJ]; exact JD.out
      | succ j => have := CP.out (j + 1) hj; simpa using this)]
     rfl
    go_wp2_with fail
    go_ret;exact ⟨zF (by rw [HR.out]), rfl⟩
end Go.Proofs.YtkkobemhbicjgaaGreatDoor
