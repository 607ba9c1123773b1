import Derived.Test.YtddddlhgaeameaaGreatDoorJ09
import Derived.Laws.EntriesVeiled
set_option maxRecDepth 100000
set_option maxHeartbeats 8000000
namespace Go.Proofs.YtddddlhgaeameaaGreatDoor
open Go.RowKit Tryz
variable {nn : Nat} {ds : List Dv} {c o s : List Int} {W : World}
section
def sU (kd a b : Int) (parts op : List Int) : Bool := FN kd a b parts && Eh kd a op && FH kd a b op
def Gz (kd a b : Int) (parts op : List Int) : Bool := FN kd a b parts && !(Eh kd a op == FH kd a b op)
def dN (kd a b : Int) (parts op : List Int) : Int := if Gz kd a b parts op = true then (if Eh kd a op = true then KE kd a b else Kj kd a) else 0
theorem pS (An Ad Ap Ao Ac : Option Addr) (nn cn nd cd : Nat) (nm : ByteArray) (kd a b co : Int) (parts op cl : List Int) (w : World) (h : uZ w nn kd a b Ap Ao Ac parts op cl) :
 Calls prog 148 #[.agg (Cq An nn cn Ad nd cd nm kd a b co Ap Ao Ac)] w fun e w' => e = .returned (.bool (sU kd a b parts op)) ∧ bW w w' := by
 have CU := iD (qJ An Ad Ap Ao Ac nn cn nd cd nm kd a b co parts op cl (w.alloc (.cells (Cq An nn cn Ad nd cd nm kd a b co Ap Ao Ac) 190)) (h.alloc _));have HB : Hid (Below w.heap.size w (w.alloc (.cells (Cq An nn cn Ad nd cd nm kd a b co Ap Ao Ac) 190))) := (Below.refl _ _).alloc lR _;have HP : Hid (sU kd a b parts op = (FN kd a b parts && Eh kd a op && FH kd a b op)) := rfl;clear h;simp only [Cq] at CU HB ⊢;generalize FN kd a b parts = ok at *;generalize Eh kd a op = l0 at *;generalize FH kd a b op = l1 at *
 go_enter func148, ntmps148
 go_wp2_with fail
 refine CU.mono ?_;rintro e w1 ⟨rfl, AX⟩;have AL := iD (HB.trans (AX.mono HB.size));have hz := AL.size;clear AX HB CU;rcases ok with _ | _
 ·go_wp2_with fail
  go_ret;exact ⟨zE (by rw [HP.out]; rfl), (AL.alloc hz _).alloc (by simp; omega) _⟩
 ·rcases l0 with _ | _
  ·go_wp2_with fail
   go_ret;exact ⟨zE (by rw [HP.out]; rfl), (AL.alloc hz _).alloc (by simp; omega) _⟩
  ·go_wp2_with fail
   go_ret;exact ⟨zE (by rw [HP.out]; simp), (AL.alloc hz _).alloc (by simp; omega) _⟩
def jp (w : World) (n : Int) (ok : Bool) (e : Ending) (w' : World) : Prop := e = .returned (.tuple #[.int .i64 n, .bool ok]) ∧ bW w w'
theorem nF (An Ad Ap Ao Ac : Option Addr) (nn cn nd cd : Nat) (nm : ByteArray) (kd a b co : Int) (parts op cl : List Int) (w : World) (h : uZ w nn kd a b Ap Ao Ac parts op cl) :
 Calls prog 173 #[.agg (Cq An nn cn Ad nd cd nm kd a b co Ap Ao Ac)] w (jp w (dN kd a b parts op) (Gz kd a b parts op)) := by
 have CU := iD (qJ An Ad Ap Ao Ac nn cn nd cd nm kd a b co parts op cl (w.alloc (.cells (Cq An nn cn Ad nd cd nm kd a b co Ap Ao Ac) 190)) (h.alloc _));have HB : Hid (Below w.heap.size w (w.alloc (.cells (Cq An nn cn Ad nd cd nm kd a b co Ap Ao Ac) 190))) := (Below.refl _ _).alloc lR _;have HP : Hid (Gz kd a b parts op = (FN kd a b parts && !(Eh kd a op == FH kd a b op)) ∧ dN kd a b parts op = if Gz kd a b parts op = true then (if Eh kd a op = true then KE kd a b else Kj kd a) else 0) := ⟨rfl, rfl⟩;clear h;simp only [Cq] at CU HB ⊢;generalize FN kd a b parts = ok at *;generalize Eh kd a op = l0 at *;generalize FH kd a b op = l1 at *;generalize Kj kd a = n0 at *;generalize KE kd a b = n1 at *;generalize dN kd a b parts op = dn at *;generalize Gz kd a b parts op = dk at *
 go_enter func173, ntmps173
 go_wp2_with fail
 refine CU.mono ?_;rintro e w1 ⟨rfl, AX⟩;have AL := iD (HB.trans (AX.mono HB.size));have hz := AL.size;clear AX HB CU;have Rh : Hid (∀ (x y : Obj), Below w.heap.size w ((w1.alloc x).alloc y)) := fun x y => (AL.alloc hz _).alloc (by simp; omega) _
 rcases ok with _ | _
 ·go_wp2_with fail
  go_ret2;exact ⟨by rw [HP.2, HP.1]; rfl, Rh _ _⟩
 ·rcases l0 with _ | _ <;> rcases l1 with _ | _ <;>
  ·go_wp2_with fail
   go_ret2;exact ⟨by rw [HP.2, HP.1]; rfl, Rh _ _⟩
theorem pk (An Ad Ap Ao Ac : Option Addr) (nn cn nd cd : Nat) (nm : ByteArray) (kd a b co : Int) (parts op cl : List Int) (w : World) (h : uZ w nn kd a b Ap Ao Ac parts op cl) :
 Calls prog 150 #[.agg (Cq An nn cn Ad nd cd nm kd a b co Ap Ao Ac)] w fun e w' => e = .returned (.bool (Gz kd a b parts op)) ∧ bW w w' := by
 have CU := iD (nF An Ad Ap Ao Ac nn cn nd cd nm kd a b co parts op cl (w.alloc (.cells (Cq An nn cn Ad nd cd nm kd a b co Ap Ao Ac) 190)) (h.alloc _));have HB : Hid (Below w.heap.size w (w.alloc (.cells (Cq An nn cn Ad nd cd nm kd a b co Ap Ao Ac) 190))) := (Below.refl _ _).alloc lR _;clear h;simp only [Cq] at CU HB ⊢;generalize dN kd a b parts op = dn at *;generalize Gz kd a b parts op = dk at *
 go_enter func150, ntmps150
 go_wp2_with fail
 refine CU.mono ?_;rintro e w1 ⟨rfl, AX⟩;have AL := iD (HB.trans (AX.mono HB.size));clear AX HB CU
 go_wp2_with fail
 go_ret;exact ⟨rfl, AL⟩
theorem gT {kd a b : Int} {parts op : List Int} (h : Gz kd a b parts op = true) : dN kd a b parts op = a ∨ (zV kd = true ∧ dN kd a b parts op = b) := by
 unfold dN;rw [if_pos h];unfold Gz FN Eh FH at h;unfold Eh KE Kj;by_cases h4 : kd = 4
 ·rw [if_pos h4] at h; cases h
 ·simp only [if_neg h4] at h ⊢;rcases hj : zV kd with _ | _
  ·simp
  ·simp only [hj] at h ⊢;simp;rcases JN op a with _ | _ <;> simp
def xX (kd a b : Int) (ns : List Nd) (parts op : List Int) (j : Nat) : Prop := ∃ (i : Nat) (x : Nd), i < j ∧ ns[i]? = some x ∧ 0 < x.cust ∧ parts.getD i 0 = parts.getD (dN kd a b parts op).toNat 0
open Classical in
noncomputable def wS (kd a b : Int) (ns : List Nd) (parts op : List Int) : Bool := Gz kd a b parts op && decide (xX kd a b ns parts op ns.length)
def LoR (w : World) (V : Array Value) (vb nn : Nat) (kd a b : Int) (ns : List Nd) (parts op : List Int) (gk : Nat) (iv : Value) (wr : World) : Prop := ∃ i : Nat, iv = .int .i64 i ∧ i ≤ nn ∧ gk = nn - i ∧ Hid (AJ wr vb 190 V) ∧ Hid (bW w wr) ∧ Hid (¬ xX kd a b ns parts op i)
theorem jF (An Ad Ap Ao Ac : Option Addr) (nn cn nd cd : Nat) (nm : ByteArray) (kd a b co : Int) (ns : List Nd) (parts op cl : List Int) (w : World) (h : uZ w nn kd a b Ap Ao Ac parts op cl) (hn : Av w 3 An nn cn (ns.flatMap Nd.cells)) :
 Calls prog 149 #[.agg (Cq An nn cn Ad nd cd nm kd a b co Ap Ao Ac)] w fun e w' => e = .returned (.bool (wS kd a b ns parts op)) ∧ bW w w' := by
 have CU := iD (nF An Ad Ap Ao Ac nn cn nd cd nm kd a b co parts op cl (w.alloc (.cells (Cq An nn cn Ad nd cd nm kd a b co Ap Ao Ac) 190)) (h.alloc _));have HB : Hid (Below w.heap.size w (w.alloc (.cells (Cq An nn cn Ad nd cd nm kd a b co Ap Ao Ac) 190))) := (Below.refl _ _).alloc lR _;have HV := iD (AJ.new w 190 (Cq An nn cn Ad nd cd nm kd a b co Ap Ao Ac));have Ch := iD (hn.len (fun _ => rfl) (by decide));have Ef := hn.le;have HO := iD h; have HN := iD hn;clear h hn;simp only [Cq] at CU HB HV ⊢;rcases hk : Gz kd a b parts op with _ | _
 ·have HR : Hid (wS kd a b ns parts op = false) := by unfold Hid wS; rw [hk]; rfl
  rw [hk] at CU;clear hk;generalize dN kd a b parts op = dn at *
  go_enter func149, ntmps149
  go_wp2_with fail
  refine CU.mono ?_;rintro e w1 ⟨rfl, AX⟩;have AL := iD (HB.trans (AX.mono HB.size));clear AX HB CU
  go_wp2_with fail
  go_ret;exact ⟨zE (by rw [HR.out]), AL⟩
 ·have PP : 0 ≤ dN kd a b parts op ∧ dN kd a b parts op < nn := by
   rcases gT hk with e | ⟨hj, e⟩ <;> rw [e]
   ·exact HO.a0
   ·exact HO.b0 hj
  have Jw : Hid (∀ t : Bool, (t = true ↔ xX kd a b ns parts op ns.length) → wS kd a b ns parts op = t) := by
   intro t ht;unfold wS;rw [hk];rw [Bool.eq_iff_iff, ht];simp
  rw [hk] at CU;clear hk;obtain ⟨sd, Bc⟩ := Int.eq_ofNat_of_zero_le PP.1;have Fw : Hid (∀ j, xX kd a b ns parts op j ↔ ∃ (i : Nat) (x : Nd), i < j ∧ ns[i]? = some x ∧ 0 < x.cust ∧ parts.getD i 0 = parts.getD sd 0) := fun j => by unfold xX; rw [Bc, Int.toNat_natCast]
  rw [Bc] at CU PP;have AG : sd < nn := by omega
  clear Bc PP;have BI := HO.n0
  go_enter func149, ntmps149
  go_wp2_with fail
  refine CU.mono ?_;rintro e w1 ⟨rfl, AX⟩;have AL := iD (HB.trans (AX.mono HB.size));have Jq := iD (HV.below AX HV.lt);clear AX HB CU HV;obtain ⟨vb, EF⟩ := eX w.heap.size;rw [← EF] at Jq ⊢;have QQ := iD EF; clear EF;have e0 := Jq.c0
  go_wp2_with fail
  clear e0
  go_loopg [18] nn (LoR w #[.slice An nn cn, .slice Ad nd cd, .string nm, .int .i64 kd, .int .i64 a, .int .i64 b, .int .i64 co, .slice Ap nn nn, .slice Ao nn nn, .slice Ac nn nn] vb nn kd a b ns parts op)
  case atStart => exact ⟨0, rfl, Nat.zero_le _, rfl, Jq, AL, fun hc => by obtain ⟨i, x, hi, _⟩ := hc; omega⟩
  case round =>
   clear Jq AL;obtain ⟨i, rfl, hi, rfl, hv, AZ, hno⟩ := hrel;by_cases hlt : i < nn
   ·obtain ⟨b0, off, BH, rfl, hb, hx, hc⟩ := (HN.below AZ lR).at (fun _ => rfl) (by decide) hlt;have HX := iD hx;obtain ⟨EC, cu, Cn⟩ := BH;have c0 : wr.cell? ⟨b0, off + i * 3, none⟩ = some (.string EC) := hc 0 _ rfl;have c1 : wr.cell? ⟨b0, off + i * 3 + 1, none⟩ = some (.int .i64 cu) := hc 1 _ rfl;have c2 : wr.cell? ⟨b0, off + i * 3 + 2, none⟩ = some (.int .i64 Cn) := hc 2 _ rfl;clear hc hx;have Ph := AZ.size;go_upto_region 7 with (fail);clear c0 c1 c2;have HK := iD (AJ.new wr 73 #[.string EC, .int .i64 cu, .int .i64 Cn]);have QT := iD (hv.alloc (.cells #[.string EC, .int .i64 cu, .int .i64 Cn] 73));have AY := iD (AZ.alloc Ph (.cells #[.string EC, .int .i64 cu, .int .i64 Cn] 73));generalize World.alloc _ _ = w2 at *;obtain ⟨bq, Fb⟩ := eX wr.heap.size;rw [← Fb] at HK ⊢;clear Fb hv AZ Ph;have e1 := HK.c1;by_cases DY : 0 < cu; rotate_left
    ·have BU : decide (0 < cu) = false := by simpa using DY
     have JU : Hid (¬ xX kd a b ns parts op (i + 1)) := fun hc => by
      obtain ⟨t, x, ht, hx, Ca, Jf⟩ := (Fw _).1 hc;rcases Nat.lt_succ_iff_lt_or_eq.1 ht with h | rfl
      ·exact hno ((Fw _).2 ⟨t, x, h, hx, Ca, Jf⟩)
      ·rw [HX.out] at hx; injection hx with hx; subst hx; exact DY Ca
     refine fX (fun W' => W'.cell? ⟨bq, 1, none⟩ = some (.int .i64 cu)) [] ?_ fun AA => ?_
     ·exact e1
     try dsimp only at AA
     refine tk 0 23 (mf 16 1) AA ?_;refine tk 1 24 (mf 16 2) AA ?_;refine tk 2 25 (mf 16 3) AA ?_;refine tk 3 26 (mf 16 4) AA ?_;refine ts 4 27 (mf 16 5) AA ?_;refine ts 5 28 (mf 16 6) AA ?_;refine ts 6 29 (mf 16 7) AA ?_;refine ts 7 30 (mf 16 8) AA ?_;refine ts 8 31 (mf 16 9) AA ?_;refine ts 9 32 (mf 16 10) AA ?_;refine ts 10 33 (mf 16 11) AA ?_;refine ts 11 34 (mf 16 12) AA ?_;refine ts 12 35 (mf 16 13) AA ?_;refine ts 13 36 (mf 16 14) AA ?_;refine ts 14 37 (mf 16 15) AA ?_;refine tk 15 38 (mf 16 16) AA ?_;refine tK ?_;clear AA
     go_wp2_with fail
     go_roundg (nn - (i + 1))
     ·exact ⟨i + 1, by go_num, by omega, rfl, QT, AY.drew, JU⟩
     omega
    ·obtain ⟨pb, Cu, x, rfl, UO, PH, Np⟩ := (HO.hp.below AY lR).at1 (k := i) hlt;obtain ⟨VK, Jb, y, Cm, Vb, Aj, Gu⟩ := (HO.hp.below AY lR).at1 (k := sd) AG;injection Cm with Cm;injection Cm with h1 h2;subst h1 h2;have p1 : w2.cell? ⟨pb, Cu + i, none⟩ = some (.int .i64 x) := Np;have p2 : w2.cell? ⟨pb, Cu + sd, none⟩ = some (.int .i64 y) := Gu;have LJ := iD (yM PH); have Aw := iD (yM Aj);have e7 := QT.c7;clear PH Aj Np Gu;refine fX (fun W' => W'.cell? ⟨bq, 1, none⟩ = some (.int .i64 cu) ∧ W'.cell? ⟨vb, 7, none⟩ = some (.slice (some ⟨pb, Cu, none⟩) nn nn) ∧ W'.cell? ⟨pb, Cu + i, none⟩ = some (.int .i64 x) ∧ W'.cell? ⟨pb, Cu + sd, none⟩ = some (.int .i64 y)) [] ?_ fun AA => ?_
     ·exact ⟨e1, e7, p1, p2⟩
     try dsimp only at AA
     refine tk 0 23 (mf 16 1) AA ?_;refine tk 1 24 (mf 16 2) AA ?_;refine tk 2 25 (mf 16 3) AA ?_;refine tk 3 26 (mf 16 4) AA ?_;refine tk 4 27 (mf 16 5) AA ?_;refine tk 5 28 (mf 16 6) AA ?_;refine tk 6 29 (mf 16 7) AA ?_;refine tk 7 30 (mf 16 8) AA ?_;refine tk 8 31 (mf 16 9) AA ?_;refine tk 9 32 (mf 16 10) AA ?_;refine tk 10 33 (mf 16 11) AA ?_;refine tk 11 34 (mf 16 12) AA ?_;refine tk 12 35 (mf 16 13) AA ?_;refine tk 13 36 (mf 16 14) AA ?_;refine tk 14 37 (mf 16 15) AA ?_;refine tk 15 38 (mf 16 16) AA ?_;refine tK ?_;clear AA;by_cases Je : x = y
     ·subst Je;have HR : Hid (wS kd a b ns parts op = true) := Jw true ⟨fun _ => (Fw _).2 ⟨i, _, by rw [Ch.out]; exact hlt, HX, DY, by rw [LJ.out, Aw.out]⟩, fun _ => rfl⟩
      go_wp2_with fail
      go_ret;exact ⟨zE (by rw [HR.out]), AY.drew⟩
     ·have BS : (x == y) = false := by simpa using Je
      have JU : Hid (¬ xX kd a b ns parts op (i + 1)) := fun hc => by
       obtain ⟨t, z, ht, hz, GD, JO⟩ := (Fw _).1 hc;rcases Nat.lt_succ_iff_lt_or_eq.1 ht with h | rfl
       ·exact hno ((Fw _).2 ⟨t, z, h, hz, GD, JO⟩)
       ·rw [LJ.out, Aw.out] at JO; exact Je JO
      clear Je
      go_wp2_with fail
      go_roundg (nn - (i + 1))
      ·exact ⟨i + 1, by go_num, by omega, rfl, QT, AY.drew, JU⟩
      omega
   ·obtain rfl : i = nn := by omega
    have Ck : decide (i < i) = false := by simp
    have HR : Hid (wS kd a b ns parts op = false) := Jw false ⟨(fun h => by cases h), (fun h => by rw [Ch.out] at h; exact absurd h hno)⟩
    go_wp2_with fail
    go_ret;exact ⟨zE (by rw [HR.out]), AZ⟩
end
noncomputable def tP (nn : Nat) (ds : List Dv) (s : List Int) : List Int := Classical.epsilon (yZ nn ds s)
noncomputable def zW (nn : Nat) (ds : List Dv) (s : List Int) : List Int := Classical.epsilon (vH nn ds s)
theorem ul {p : List Int} (h : yZ nn ds s p) : tP nn ds s = p := (Classical.epsilon_spec ⟨p, h⟩ : yZ nn ds s (tP nn ds s)).unique h
theorem xN {p : List Int} (h : vH nn ds s p) : zW nn ds s = p := (Classical.epsilon_spec ⟨p, h⟩ : vH nn ds s (zW nn ds s)).unique h
noncomputable def xS (kd a b : Int) (ns : List Nd) (parts op cl : List Int) : Int := if xG kd a b cl = true then 4 else if sU kd a b parts op = true then 3 else if wS kd a b ns parts op = true then 2 else if Gz kd a b parts op = true then 1 else 0
noncomputable def xI (nn : Nat) (ns : List Nd) (ds : List Dv) (s : List Int) (i : Int) (x : Dv) : Int := xS x.kind x.a x.b ns (tP nn ds (zX s i 1)) (zW nn ds (zX s i 1)) (zW nn ds (zX s i 2))
theorem wV {p : Addr} {v : Value} (o : Obj) (h : W.cell? p = some v) : (W.alloc o).cell? p = some v := (World.cell?_alloc_lt W o p (wU h)).trans h
theorem wm {base n c q : Nat} {A : Option Addr} {l : List Int} (h : zN W base A n c l) (hq : q < base) (j : Nat) (u : Value) : zN (W.setCell ⟨q, j, none⟩ u) base A n c l := h.kept (zo W _ _) (zj fun b e => by have := (h.lt b e).1; simp; omega)
def OfR (w7 : World) (f p l c : Bool) (gk : Nat) (iv : Value) (wr : World) : Prop := ∃ i : Nat, iv = .int .i64 i ∧ i ≤ 4 ∧ gk = 4 - i ∧ Hid (bW w7 wr) ∧ Hid ((0 < i → f = false) ∧ (1 < i → p = false) ∧ (2 < i → l = false) ∧ (3 < i → c = false))
theorem kU {vb : Nat} {An Ad : Option Addr} {cn nd cd : Nat} {nm : ByteArray} {kd a b co : Int} {X Y Z : Value} (h : AJ W vb 190 #[.slice An nn cn, .slice Ad nd cd, .string nm, .int .i64 kd, .int .i64 a, .int .i64 b, .int .i64 co, X, Y, Z]) (P Q : Value) :
 AJ ((W.setCell ⟨vb, 7, none⟩ P).setCell ⟨vb, 8, none⟩ Q) vb 190 #[.slice An nn cn, .slice Ad nd cd, .string nm, .int .i64 kd, .int .i64 a, .int .i64 b, .int .i64 co, P, Q, Z] := (h.set 7 _).set 8 _
theorem iq (An Ad As : Option Addr) (nn cn nd cd n c Bn Bd Bs i : Nat) (ns : List Nd) (ds : List Dv) (s : List Int) (x : Dv) (w : World)
 (hn : Sl w Bn 3 An nn cn (ns.flatMap Nd.cells)) (Ce : Bn ≤ w.heap.size) (hd : Sl w Bd 5 Ad nd cd (ds.flatMap Dv.cells)) (BN : Bd ≤ w.heap.size) (hs : Sl w Bs 1 As n c (zF s)) (Ci : Bs ≤ w.heap.size) (Bq : nn ≤ 10000) (Vj : n ≤ 10000) (AB : nd ≤ n) (hi : i < nd) (hx : ds[i]? = some x) (Ae : xA nn ds) (hA : Ki nn ds) :
 Calls prog 135 #[.agg #[.slice An nn cn, .slice Ad nd cd], .slice As n c, .int .i64 i] w fun e w' => e = .returned (.int .i64 (xI nn ns ds s i x)) ∧ bW w w' := by
 have GV := iD (hs.len (fun _ => rfl) (by decide));have MO := hd.le;have hsm := hs.le;have HN := iD hn; have HD := iD hd; have HS := iD hs; have HE := iD Ae; have HA := iD hA; have HX := iD hx;have IQ := hA x (List.mem_of_getElem? hx);have Tj := iD (Ae x (List.mem_of_getElem? hx));clear hn hd hs Ae hA;have Bi : Hid (Below w.heap.size w (w.alloc (.cells #[.slice An nn cn, .slice Ad nd cd] 26))) := (Below.refl _ _).alloc lR _;have GY := iD (AJ.new w 26 #[.slice An nn cn, .slice Ad nd cd])
 go_enter func135, ntmps135
 go_upto_region 1 with (fail);generalize World.alloc _ _ = W at *;obtain ⟨nb, CP⟩ := eX w.heap.size;rw [← CP] at GY ⊢;have JH := iD CP; clear CP;obtain ⟨b0, off, x', rfl, hb, hx', hc⟩ := (HD.below Bi BN).at (fun _ => rfl) (by decide) hi;obtain rfl : x = x' := by rw [hx] at hx'; exact Option.some.inj hx'
 obtain ⟨nm, kd, a, b, co⟩ := x;simp only at IQ Tj;have c0 : W.cell? ⟨b0, off + i * 5, none⟩ = some (.string nm) := hc 0 _ rfl;have c1 : W.cell? ⟨b0, off + i * 5 + 1, none⟩ = some (.int .i64 kd) := hc 1 _ rfl;have c2 : W.cell? ⟨b0, off + i * 5 + 2, none⟩ = some (.int .i64 a) := hc 2 _ rfl;have c3 : W.cell? ⟨b0, off + i * 5 + 3, none⟩ = some (.int .i64 b) := hc 3 _ rfl;have c4 : W.cell? ⟨b0, off + i * 5 + 4, none⟩ = some (.int .i64 co) := hc 4 _ rfl;obtain ⟨k0, k1⟩ := GY.d2;clear hc hx hx'
 refine fX (fun W' => W'.cell? ⟨nb, 0, none⟩ = some (.slice An nn cn) ∧ W'.cell? ⟨nb, 1, none⟩ = some (.slice (some ⟨b0, off, none⟩) nd cd) ∧ W'.cell? ⟨b0, off + i * 5, none⟩ = some (.string nm) ∧ W'.cell? ⟨b0, off + i * 5 + 1, none⟩ = some (.int .i64 kd) ∧ W'.cell? ⟨b0, off + i * 5 + 2, none⟩ = some (.int .i64 a) ∧ W'.cell? ⟨b0, off + i * 5 + 3, none⟩ = some (.int .i64 b) ∧ W'.cell? ⟨b0, off + i * 5 + 4, none⟩ = some (.int .i64 co)) [8] ?_ fun AA => ?_
 ·exact ⟨k0, k1, c0, c1, c2, c3, c4⟩
 try dsimp only at AA
 refine tk 0 10 (mf 9 1) AA ?_;refine tk 1 11 (mf 9 2) AA ?_;refine tk 2 12 (mf 9 3) AA ?_;refine tk 3 13 (mf 9 4) AA ?_;refine tk 4 14 (mf 9 5) AA ?_;refine tk 5 15 (mf 9 6) AA ?_;refine tk 6 16 (mf 9 7) AA ?_;refine tb 7 (mf 9 8) fun K hK => ?_
 go_simp
 refine hK _ _ (fun _ => ⟨wV _ AA.1, wV _ AA.2.1, wV _ AA.2.2.1, wV _ AA.2.2.2.1, wV _ AA.2.2.2.2.1, wV _ AA.2.2.2.2.2.1, wV _ AA.2.2.2.2.2.2⟩) fun p => (fun AA => ?_) (p rfl)
 clear p hK K;(try dsimp only at AA);refine tb 8 (mf 9 9) fun K hK => ?_
 go_simp
 refine hK _ _ (fun h => by cases h) (fun _ => ?_)
 try clear AA
 clear hK K;refine tK ?_;clear c0 c1 c2 c3 c4 k0 k1;go_upto_region 2 with (fail);have AH := GY.lt;have Jq : Hid (AJ (W.alloc (.cells #[.slice An nn cn, .slice (some ⟨b0, off, none⟩) nd cd, .string nm, .int .i64 kd, .int .i64 a, .int .i64 b, .int .i64 co, .slice none 0 0, .slice none 0 0, .slice none 0 0] 190)).drew W.heap.size 190 #[.slice An nn cn, .slice (some ⟨b0, off, none⟩) nd cd, .string nm, .int .i64 kd, .int .i64 a, .int .i64 b, .int .i64 co, .slice none 0 0, .slice none 0 0, .slice none 0 0]) := AJ.new W _ _;have DV : Hid (AJ (W.alloc (.cells #[.slice An nn cn, .slice (some ⟨b0, off, none⟩) nd cd, .string nm, .int .i64 kd, .int .i64 a, .int .i64 b, .int .i64 co, .slice none 0 0, .slice none 0 0, .slice none 0 0] 190)).drew nb 26 #[.slice An nn cn, .slice (some ⟨b0, off, none⟩) nd cd]) := GY.alloc _
 have AL : Hid (Below w.heap.size w (W.alloc (.cells #[.slice An nn cn, .slice (some ⟨b0, off, none⟩) nd cd, .string nm, .int .i64 kd, .int .i64 a, .int .i64 b, .int .i64 co, .slice none 0 0, .slice none 0 0, .slice none 0 0] 190)).drew) := (Bi.alloc Bi.size _).drew;generalize World.drew (World.alloc _ _) = w1 at *;obtain ⟨vb, EF⟩ := eX W.heap.size;rw [← EF] at Jq ⊢;have BZ : nb < vb := by omega
 have BW : w.heap.size ≤ vb := by have := Bi.size; omega
 clear EF Bi GY AH;refine fX (fun W' => AJ W' nb 26 #[.slice An nn cn, .slice (some ⟨b0, off, none⟩) nd cd]) [] ?_ fun AA => ?_
 ·exact DV.out
 try dsimp only at AA
 refine ty 0 18 (mf 12 1) AA (y := by intro w AR; have k0 : w.cell? ⟨nb, 0, none⟩ = some (.slice An nn cn) := AR.cell 0; have k1 : w.cell? ⟨nb, 1, none⟩ = some (.slice (some ⟨b0, off, none⟩) nd cd) := AR.cell 1; clear AR; go_simp; try with_reducible rfl) (h := ?_);refine ty 1 19 (mf 12 2) AA (y := by intro w AR; (try dsimp only at AR); clear AR; go_simp; try with_reducible rfl) (h := ?_);refine ty 2 20 (mf 12 3) AA (y := by intro w AR; (try dsimp only at AR); clear AR; go_simp; try with_reducible rfl) (h := ?_);refine tb 3 (mf 12 4) fun K hK => ?_
 (go_simp; refine (tB As n c Bs s i 1 w1.drew (HS.below AL.drew Ci) (by have := AL.size; simp at this ⊢; omega) (by omega)).mono ?_; rintro e Ah ⟨BQ, BM, rfl, AU, AE⟩; go_simp)
 refine hK _ _ (fun _ => AA.below AE AA.lt) fun p => (fun AA => ?_) (p rfl)
 clear p hK K;(try dsimp only at AA);have Oq := iD (AL.drew.trans (AE.mono AL.drew.size));have Pk := AJ.below (w := w1.drew) Jq AE Jq.lt;have Ma := iD Pk.lt;rw [yy, GV.out] at AU ⊢;refine tb 4 (mf 12 5) fun K hK => ?_
 (go_simp; refine (uG An (some ⟨b0, off, none⟩) BQ nn cn nd cd n BM Bd Ah.heap.size ds (zX s i 1) Ah (HD.below Oq BN) (by have := Oq.size; omega) AU.sl lR Bq (by omega) (by omega) HE HA).mono ?_; rintro e BG ⟨Ql, Qm, MF, MW, rfl, Vy, WA, WG, WK, QE⟩; go_simp)
 refine hK _ _ (fun _ => AA.below QE AA.lt) fun p => (fun AA => ?_) (p rfl)
 clear p hK K;(try dsimp only at AA);have Xc := iD (Oq.trans (QE.mono Oq.size));have MX := iD (Pk.below QE Pk.lt);have z7 := MX.c7;have z8 := MX.c8;have f7 := MX.frozen 7;have f8 := MX.frozen 8;refine ty 5 17 (mf 12 6) AA (y := by intro w AR; (try dsimp only at AR); clear AR; go_simp; try with_reducible rfl) (h := ?_);refine ty 6 23 (mf 12 7) AA (y := by intro w AR; (try dsimp only at AR); clear AR; go_simp; try with_reducible rfl) (h := ?_);refine ty 7 24 (mf 12 8) AA (y := by intro w AR; (try dsimp only at AR); clear AR; go_simp; try with_reducible rfl) (h := ?_);refine ty 8 25 (mf 12 9) AA (y := by intro w AR; (try dsimp only at AR); clear AR; go_simp; try with_reducible rfl) (h := ?_);refine tb 9 (mf 12 10) fun K hK => ?_
 go_simp
 refine hK _ _ (fun _ => AA.far (by simp; omega) _) fun p => (fun AA => ?_) (p rfl)
 clear p hK K;(try dsimp only at AA);refine ty 10 26 (mf 12 11) AA (y := by intro w AR; (try dsimp only at AR); clear AR; go_simp; try with_reducible rfl) (h := ?_);refine tb 11 (mf 12 12) fun K hK => ?_
 go_simp
 refine hK _ _ (fun _ => AA.far (by simp; omega) _) fun p => (fun AA => ?_) (p rfl)
 clear p hK K;(try dsimp only at AA);refine tK ?_;have LV := iD AA;clear AA z7 z8 f7 f8;go_upto_region 3 with (fail);have AW := iD (kU MX (.slice Ql nn nn) (.slice Qm nn nn));have Cj : Hid (Below w.heap.size w ((BG.setCell ⟨vb, 7, none⟩ (.slice Ql nn nn)).setCell ⟨vb, 8, none⟩ (.slice Qm nn nn))) := (Xc.setCell (by simp; omega) _).setCell (by simp; omega) _;have Ww := iD (wm (wm Vy Ma 7 (.slice Ql nn nn)) Ma 8 (.slice Qm nn nn));have Wz := iD (wm (wm WA Ma 7 (.slice Ql nn nn)) Ma 8 (.slice Qm nn nn));clear Oq Xc MX Vy WA Jq AL DV QE;clear AE AU Pk;generalize World.setCell (World.setCell _ _ _) _ _ = w5 at *;refine fX (fun W' => AJ W' nb 26 #[.slice An nn cn, .slice (some ⟨b0, off, none⟩) nd cd]) [] ?_ fun AA => ?_
 ·exact LV.out
 try dsimp only at AA
 refine ty 0 28 (mf 10 1) AA (y := by intro w AR; have k0 : w.cell? ⟨nb, 0, none⟩ = some (.slice An nn cn) := AR.cell 0; have k1 : w.cell? ⟨nb, 1, none⟩ = some (.slice (some ⟨b0, off, none⟩) nd cd) := AR.cell 1; clear AR; go_simp; try with_reducible rfl) (h := ?_);refine ty 1 29 (mf 10 2) AA (y := by intro w AR; (try dsimp only at AR); clear AR; go_simp; try with_reducible rfl) (h := ?_);refine ty 2 30 (mf 10 3) AA (y := by intro w AR; (try dsimp only at AR); clear AR; go_simp; try with_reducible rfl) (h := ?_);refine tb 3 (mf 10 4) fun K hK => ?_
 (go_simp; refine (tB As n c Bs s i 2 w5.drew (HS.below Cj.drew Ci) (by have := Cj.size; simp at this ⊢; omega) (by omega)).mono ?_; rintro e Ag ⟨BP, BL, rfl, AP, Ub⟩; go_simp)
 refine hK _ _ (fun _ => AA.below Ub AA.lt) fun p => (fun AA => ?_) (p rfl)
 clear p hK K;(try dsimp only at AA);have Oo := iD (Cj.drew.trans (Ub.mono Cj.drew.size));have Pj := AJ.below (w := w5.drew) AW Ub AW.lt;have Ab := iD Pj.lt;rw [yy, GV.out] at AP ⊢;refine tb 4 (mf 10 5) fun K hK => ?_
 (go_simp; refine (uG An (some ⟨b0, off, none⟩) BP nn cn nd cd n BL Bd Ag.heap.size ds (zX s i 2) Ag (HD.below Oo BN) (by have := Oo.size; omega) AP.sl lR Bq (by omega) (by omega) HE HA).mono ?_; rintro e Rl ⟨Ba, Lc, BV, QL, rfl, AO, Vz, AV, WJ, MQ⟩; go_simp)
 refine hK _ _ (fun _ => AA.below MQ AA.lt) fun p => (fun AA => ?_) (p rfl)
 clear p hK K;(try dsimp only at AA);have Xb := iD (Oo.trans (MQ.mono Oo.size));have QS := iD (Pj.below MQ Pj.lt);have Wv := iD ((zN.later (w := w5.drew) Ww Ub).later MQ);have Wy := iD ((zN.later (w := w5.drew) Wz Ub).later MQ);clear Pj AP Ub;have z9 := QS.c9;have f9 := QS.frozen 9;refine ty 5 27 (mf 10 6) AA (y := by intro w AR; (try dsimp only at AR); clear AR; go_simp; try with_reducible rfl) (h := ?_);refine ty 6 33 (mf 10 7) AA (y := by intro w AR; (try dsimp only at AR); clear AR; go_simp; try with_reducible rfl) (h := ?_);refine ty 7 34 (mf 10 8) AA (y := by intro w AR; (try dsimp only at AR); clear AR; go_simp; try with_reducible rfl) (h := ?_);refine ty 8 35 (mf 10 9) AA (y := by intro w AR; (try dsimp only at AR); clear AR; go_simp; try with_reducible rfl) (h := ?_);refine tb 9 (mf 10 10) fun K hK => ?_
 go_simp
 refine hK _ _ (fun _ => AA.far (by simp; omega) _) fun p => (fun AA => ?_) (p rfl)
 clear p hK K;(try dsimp only at AA);refine tK ?_;clear AA z9 f9;have Au := iD (QS.set 9 (.slice Lc nn nn));have Dh : Hid (Below w.heap.size w (Rl.setCell ⟨vb, 9, none⟩ (.slice Lc nn nn))) := Xb.setCell (by simp; omega) _;have Wu := iD (wm Wv Ma 9 (.slice Lc nn nn));have Wx := iD (wm Wy Ma 9 (.slice Lc nn nn));have XC := iD (wm Vz Ab 9 (.slice Lc nn nn));clear Oo Xb QS AO Vz AW Cj LV MQ Wv Wy Ww Wz
 go_wp2_with fail
 have TH := iD (AJ.new (Rl.setCell ⟨vb, 9, none⟩ (.slice Lc nn nn)) 192 #[.func (.func 147) #[] #[], .int .i64 4, .func (.func 148) #[] #[], .int .i64 3, .func (.func 149) #[] #[], .int .i64 2, .func (.func 150) #[] #[], .int .i64 1]);have Aq := iD (Au.alloc (.cells #[.func (.func 147) #[] #[], .int .i64 4, .func (.func 148) #[] #[], .int .i64 3, .func (.func 149) #[] #[], .int .i64 2, .func (.func 150) #[] #[], .int .i64 1] 192));have Eg := iD (Dh.alloc Dh.size (.cells #[.func (.func 147) #[] #[], .int .i64 4, .func (.func 148) #[] #[], .int .i64 3, .func (.func 149) #[] #[], .int .i64 2, .func (.func 150) #[] #[], .int .i64 1] 192))
 have Aa : Hid (uZ ((Rl.setCell ⟨vb, 9, none⟩ (.slice Lc nn nn)).alloc (.cells #[.func (.func 147) #[] #[], .int .i64 4, .func (.func 148) #[] #[], .int .i64 3, .func (.func 149) #[] #[], .int .i64 2, .func (.func 150) #[] #[], .int .i64 1] 192)) nn kd a b Ql Qm Lc MF MW QL) := by
  have hl : Below (Rl.setCell ⟨vb, 9, none⟩ (.slice Lc nn nn)).heap.size (Rl.setCell ⟨vb, 9, none⟩ (.slice Lc nn nn)) ((Rl.setCell ⟨vb, 9, none⟩ (.slice Lc nn nn)).alloc (.cells #[.func (.func 147) #[] #[], .int .i64 4, .func (.func 148) #[] #[], .int .i64 3, .func (.func 149) #[] #[], .int .i64 2, .func (.func 150) #[] #[], .int .i64 1] 192)) := (Below.refl _ _).alloc lR _;exact ⟨(Wu.later hl).sl, (Wx.later hl).sl, (XC.later hl).sl, IQ, fun hj => (Tj hj).2, Bq⟩
 have GA : Hid (xI nn ns ds s i ⟨nm, kd, a, b, co⟩ = xS kd a b ns MF MW QL) := by unfold Hid xI; rw [ul WG.out, xN WK.out, xN WJ.out]
 clear Au Dh Wu Wx XC WG WK WJ AV;rw [World.size_setCell] at TH;generalize World.alloc _ _ = w7 at *;obtain ⟨tb, Ai⟩ := eX Rl.heap.size;rw [← Ai] at TH ⊢;clear Ai;have NM : Hid (xS kd a b ns MF MW QL = if xG kd a b QL = true then 4 else if sU kd a b MF MW = true then 3 else if wS kd a b ns MF MW = true then 2 else if Gz kd a b MF MW = true then 1 else 0) := rfl;have XX := iD (fun W h => ly An (some ⟨b0, off, none⟩) Ql Qm Lc nn cn nd cd nm kd a b co MF MW QL W h);have Ay := iD (fun W h => pS An (some ⟨b0, off, none⟩) Ql Qm Lc nn cn nd cd nm kd a b co MF MW QL W h);have Az := iD (fun W h h2 => jF An (some ⟨b0, off, none⟩) Ql Qm Lc nn cn nd cd nm kd a b co ns MF MW QL W h h2);have XY := iD (fun W h => pk An (some ⟨b0, off, none⟩) Ql Qm Lc nn cn nd cd nm kd a b co MF MW QL W h);simp only [Cq] at XX Ay Az XY;generalize xG kd a b QL = fb at *;generalize sU kd a b MF MW = pb at *
 generalize wS kd a b ns MF MW = lb at *;generalize Gz kd a b MF MW = kb at *
 go_loopg [42] 4 (OfR w7 fb pb lb kb)
 case atStart => exact ⟨0, rfl, by decide, rfl, Below.refl _ _, by unfold Hid; refine ⟨?_, ?_, ?_, ?_⟩ <;> intro h <;> omega⟩
 case round =>
  obtain ⟨k, rfl, hk, rfl, AZ, DT⟩ := hrel;have hv := iD (Aq.below AZ Aq.lt);have ht := iD (TH.below AZ TH.lt);have CB := iD (Aa.later AZ);have Ua := iD (Eg.trans (AZ.mono Eg.size));have Ph := AZ.size;obtain ⟨g0, g1, g2, g3, g4⟩ := hv.d5;have g5 := hv.c5;have g6 := hv.c6;have g7 := hv.c7;have g8 := hv.c8;have g9 := hv.c9;have BX := hv.lt;rcases (show k = 0 ∨ k = 1 ∨ k = 2 ∨ k = 3 ∨ k = 4 by omega) with rfl | rfl | rfl | rfl | rfl
  ·obtain ⟨t0, t1⟩ := ht.d2
   go_wp2_with fail
   clear g0 g1 g2 g3 g4 g5 g6 g7 g8 g9 t0 t1;have Eu : Below wr.heap.size wr (wr.alloc (.cells #[.func (.func 147) #[] #[], .int .i64 4] 192)) := (Below.refl _ _).alloc lR _;have IX := iD (AJ.new wr 192 #[.func (.func 147) #[] #[], .int .i64 4]);generalize World.alloc _ _ = w8 at *;refine (XX w8 (CB.later Eu)).mono ?_;rintro e w9 ⟨rfl, JR⟩;have Dp := iD (AZ.trans ((Eu.trans (JR.mono Eu.size)).mono Ph));have AX := (IX.below JR IX.lt).c1;clear Eu JR IX;rcases fb with _ | _
   ·clear AX
    go_wp2_with fail
    go_roundg (4 - 1)
    case rel => exact ⟨1, rfl, by decide, rfl, Dp, by have hc := DT.out; unfold Hid; refine ⟨?_, ?_, ?_, ?_⟩ <;> intro h <;> first | rfl | exact hc.1 (by omega) | exact hc.2.1 (by omega) | exact hc.2.2.1 (by omega) | omega⟩
    case measure => decide
   ·go_wp2_with fail
    go_ret;exact ⟨zC (by rw [GA.out, NM.out]; simp), Eg.trans (Dp.mono Eg.size)⟩
  ·have t0 := ht.c2;have t1 := ht.c3
   go_wp2_with fail
   clear g0 g1 g2 g3 g4 g5 g6 g7 g8 g9 t0 t1;have Eu : Below wr.heap.size wr (wr.alloc (.cells #[.func (.func 148) #[] #[], .int .i64 3] 192)) := (Below.refl _ _).alloc lR _;have IX := iD (AJ.new wr 192 #[.func (.func 148) #[] #[], .int .i64 3]);generalize World.alloc _ _ = w8 at *;refine (Ay w8 (CB.later Eu)).mono ?_;rintro e w9 ⟨rfl, JR⟩;have Dp := iD (AZ.trans ((Eu.trans (JR.mono Eu.size)).mono Ph));have AX := (IX.below JR IX.lt).c1;clear Eu JR IX;rcases pb with _ | _
   ·clear AX
    go_wp2_with fail
    go_roundg (4 - 2)
    case rel => exact ⟨2, rfl, by decide, rfl, Dp, by have hc := DT.out; unfold Hid; refine ⟨?_, ?_, ?_, ?_⟩ <;> intro h <;> first | rfl | exact hc.1 (by omega) | exact hc.2.1 (by omega) | exact hc.2.2.1 (by omega) | omega⟩
    case measure => decide
   ·go_wp2_with fail
    go_ret;exact ⟨zC (by rw [GA.out, NM.out]; simp [DT.1 (by decide)]), Eg.trans (Dp.mono Eg.size)⟩
  ·have t0 := ht.c4;have t1 := ht.c5
   go_wp2_with fail
   clear g0 g1 g2 g3 g4 g5 g6 g7 g8 g9 t0 t1;have Eu : Below wr.heap.size wr (wr.alloc (.cells #[.func (.func 149) #[] #[], .int .i64 2] 192)) := (Below.refl _ _).alloc lR _;have IX := iD (AJ.new wr 192 #[.func (.func 149) #[] #[], .int .i64 2]);generalize World.alloc _ _ = w8 at *;refine (Az w8 (CB.later Eu) (((HN.below Ua Ce).more (by have := Ua.size; omega)).below Eu lR |> fun h => h.more Eu.size)).mono ?_;rintro e w9 ⟨rfl, JR⟩;have Dp := iD (AZ.trans ((Eu.trans (JR.mono Eu.size)).mono Ph));have AX := (IX.below JR IX.lt).c1;clear Eu JR IX;rcases lb with _ | _
   ·clear AX
    go_wp2_with fail
    go_roundg (4 - 3)
    case rel => exact ⟨3, rfl, by decide, rfl, Dp, by have hc := DT.out; unfold Hid; refine ⟨?_, ?_, ?_, ?_⟩ <;> intro h <;> first | rfl | exact hc.1 (by omega) | exact hc.2.1 (by omega) | exact hc.2.2.1 (by omega) | omega⟩
    case measure => decide
   ·go_wp2_with fail
    go_ret;exact ⟨zC (by rw [GA.out, NM.out]; simp [DT.1 (by decide), DT.2.1 (by decide)]), Eg.trans (Dp.mono Eg.size)⟩
  ·have t0 := ht.c6;have t1 := ht.c7
   go_wp2_with fail
   clear g0 g1 g2 g3 g4 g5 g6 g7 g8 g9 t0 t1;have Eu : Below wr.heap.size wr (wr.alloc (.cells #[.func (.func 150) #[] #[], .int .i64 1] 192)) := (Below.refl _ _).alloc lR _;have IX := iD (AJ.new wr 192 #[.func (.func 150) #[] #[], .int .i64 1]);generalize World.alloc _ _ = w8 at *;refine (XY w8 (CB.later Eu)).mono ?_;rintro e w9 ⟨rfl, JR⟩;have Dp := iD (AZ.trans ((Eu.trans (JR.mono Eu.size)).mono Ph));have AX := (IX.below JR IX.lt).c1;clear Eu JR IX;rcases kb with _ | _
   ·clear AX
    go_wp2_with fail
    go_roundg (4 - 4)
    case rel => exact ⟨4, rfl, by decide, rfl, Dp, by have hc := DT.out; unfold Hid; refine ⟨?_, ?_, ?_, ?_⟩ <;> intro h <;> first | rfl | exact hc.1 (by omega) | exact hc.2.1 (by omega) | exact hc.2.2.1 (by omega) | omega⟩
    case measure => decide
   ·go_wp2_with fail
    go_ret;exact ⟨zC (by rw [GA.out, NM.out]; simp [DT.1 (by decide), DT.2.1 (by decide), DT.2.2.1 (by decide)]), Eg.trans (Dp.mono Eg.size)⟩
  ·go_wp2_with fail
   go_ret;exact ⟨zC (by rw [GA.out, NM.out]; simp [DT.1 (by decide), DT.2.1 (by decide), DT.2.2.1 (by decide), DT.2.2.2 (by decide)]), Ua⟩
def ga (W : World) (mb nn : Nat) (ns : List Nd) (iv : Value) (wr : World) : Prop :=
 ∃ (i : Nat) (U : List (List UInt8)), iv = .int .i64 i ∧ i ≤ nn ∧ U.length ≤ i ∧ Hid (yu wr mb U) ∧ Hid (wo [] ns = wo U (ns.drop i) ∧ vj [] ns = vj U (ns.drop i)) ∧ Hid (Below W.heap.size W wr)
def gZ (W : World) (mb nn nd : Nat) (ns : List Nd) (ds : List Dv) (iv : Value) (wr : World) : Prop :=
 ∃ (i : Nat) (U : List (List UInt8)), iv = .int .i64 i ∧ i ≤ nd ∧ U.length ≤ i + nn ∧ Hid (yu wr mb U) ∧ Hid (zR ns ds = vg nn U (ds.drop i)) ∧ Hid (Below W.heap.size W wr)
theorem um (An Ad : Option Addr) (nn cn nd cd Bn Bd : Nat) (ns : List Nd) (ds : List Dv) (w : World) (hl : yr w) (hn : Sl w Bn 3 An nn cn (ns.flatMap Nd.cells)) (hd : Sl w Bd 5 Ad nd cd (ds.flatMap Dv.cells)) (Ce : Bn ≤ w.heap.size) (BN : Bd ≤ w.heap.size)
 (Bj : FO ns) (Bc : GH ds) :
 Calls prog 83 #[.agg #[.slice An nn cn, .slice Ad nd cd]] w fun e w' => e = .returned (.int .i64 (zR ns ds)) ∧ bW w w' := by
 have Ch := iD (hn.len (fun _ => rfl) (by decide)); have Fx := iD (hd.len (fun _ => rfl) (by decide));obtain ⟨Ir, Nq⟩ := hn.le;obtain ⟨Vs, MO⟩ := hd.le;have HL := iD hl; have HN := iD hn; have HD := iD hd; have Da := iD Bj; have CU := iD Bc;clear hl hn hd Bj Bc;have HC : Hid (zR ns ds = if 32 < nn then 1 else if 64 < nd then 1 else if wo [] ns = 0 then vg nn (vj [] ns) ds else wo [] ns) := by unfold Hid; rw [zR, Ch.out, Fx.out]
 have Vk := @run_makeMap prog;by_cases h1 : 32 < nn
 ·have q1 : decide ((32 : Int) < (nn : Int)) = true := by simp; omega
  go_enter func83, ntmps83
  go_wp2_with fail
  go_ret;exact ⟨zC (by rw [HC.out, if_pos h1]), (Below.refl _ _).alloc lR _⟩
 have q1 : decide ((32 : Int) < (nn : Int)) = false := by simp; omega
 by_cases h2 : 64 < nd
 ·have q2 : decide ((64 : Int) < (nd : Int)) = true := by simp; omega
  go_enter func83, ntmps83
  go_wp2_with fail
  go_ret;exact ⟨zC (by rw [HC.out, if_neg h1, if_pos h2]), (Below.refl _ _).alloc lR _⟩
 have q2 : decide ((64 : Int) < (nd : Int)) = false := by simp; omega
 go_enter func83, ntmps83
 go_wp2_with fail
 clear q1 q2 Vk;generalize hW : w.alloc (.cells #[.slice An nn cn, .slice Ad nd cd] 26) = W;have HK : Hid (AJ W w.heap.size 26 #[.slice An nn cn, .slice Ad nd cd]) := hW ▸ AJ.new _ _ _;have Bi : Hid (Below w.heap.size w W) := hW ▸ (Below.refl _ _).alloc lR _;have RB : w.heap.size < W.heap.size := HK.lt;have Ak : w.heap.size + 1 = W.heap.size := by rw [← hW]; simp
 clear hW;rw [Ak];have AK := lU W;obtain ⟨mb, UT⟩ : ∃ mb, W.heap.size = mb := ⟨_, rfl⟩
 have BF : Hid (Below W.heap.size W (W.alloc (.map #[] 0))) := (Below.refl _ _).alloc lR _;rw [UT] at AK ⊢;have Ax := iD UT; clear UT Ak
 go_loopw [22] (fun iv wr => ga W mb nn ns iv wr) (fun iv _ => nn - (intOf iv).toNat)
 case atStart => exact ⟨0, [], rfl, Nat.zero_le _, Nat.le_refl _, AK, ⟨rfl, rfl⟩, BF⟩
 case round =>
  clear AK BF;obtain ⟨i, U, rfl, hi, BK, hU, hch, AZ⟩ := hrel;have hsz := AZ.size;obtain ⟨k0, k1⟩ := (HK.below AZ RB).d2;by_cases hlt : i < nn; rotate_left
  ·obtain rfl : i = nn := by omega
   have KJ : decide (i < i) = false := by simp
   have Vv : ns.drop i = [] := List.drop_eq_nil_of_le (by rw [Ch.out]; omega);have hch' := hch.out;rw [Vv] at hch';simp only [wo, vj] at hch'
   have XY : Hid (zR ns ds = vg i U (ds.drop 0)) := by
    unfold Hid;rw [HC.out, if_neg h1, if_neg h2, if_pos hch'.1, hch'.2, List.drop_zero]
   clear hch' hch Vv
   go_wp2_with fail
   go_loopw [58] (fun iv wr => gZ W mb i nd ns ds iv wr) (fun iv _ => nd - (intOf iv).toNat)
   case atStart => exact ⟨0, U, rfl, Nat.zero_le _, by omega, hU, XY, AZ⟩
   case round =>
    clear hU XY AZ k0 k1 KJ;obtain ⟨j, U, rfl, hj, BK, hU, hch, AZ⟩ := hrel;have hsz := AZ.size;have k0 := (HK.below AZ RB).c0;by_cases PM : j < nd; rotate_left
    ·obtain rfl : j = nd := by omega
     have KJ : decide (j < j) = false := by simp
     have Vv : ds.drop j = [] := List.drop_eq_nil_of_le (by rw [Fx.out]; omega);have hch' := hch.out;rw [Vv] at hch';simp only [vg] at hch';have BO := iD hch';clear hch' hch Vv
     go_wp2_with fail
     go_ret;exact ⟨zC (by rw [BO.out]), Bi.trans (AZ.mono (Nat.le_of_lt RB))⟩
    obtain ⟨b, off, x, rfl, hb, hx, hc⟩ := ((HD.below Bi BN).below AZ (Nat.le_trans BN (Nat.le_of_lt RB))).at (fun _ => rfl) (by decide) PM;have RQ := iD (CU x (List.mem_of_getElem? hx));have HX := iD hx;obtain ⟨nm, kd, xa, xb, co⟩ := x;have c0 : wr.cell? ⟨b, off + j * 5, none⟩ = some (.string nm) := hc 0 _ rfl;have c1 : wr.cell? ⟨b, off + j * 5 + 1, none⟩ = some (.int .i64 kd) := hc 1 _ rfl;have c2 : wr.cell? ⟨b, off + j * 5 + 2, none⟩ = some (.int .i64 xa) := hc 2 _ rfl;have c3 : wr.cell? ⟨b, off + j * 5 + 3, none⟩ = some (.int .i64 xb) := hc 3 _ rfl;have c4 : wr.cell? ⟨b, off + j * 5 + 4, none⟩ = some (.int .i64 co) := hc 4 _ rfl;clear hc hx;have Ef := RQ.out;simp only at Ef
    have EM : ∀ e : Int, xk i U ⟨nm, kd, xa, xb, co⟩ = e → e ≠ 0 → zR ns ds = e := fun e he hne => by
     rw [hch.out, qt HX.out (by rw [he]; exact hne), he]
    have Ar := iD EM; clear EM;have CJ : Hid (xk i U ⟨nm, kd, xa, xb, co⟩ = if yI (BA nm) = false then 3 else if BA nm ∈ U then 4 else if kd < 1 ∨ 6 < kd then 6 else if xW kd xa xb i = false then 7 else if ym co = false then 5 else 0) := rfl;have EK := iD ((HL.below Bi lR).below AZ lR)
    go_wp2_with fail
    clear c0 c1 c2 c3 c4;generalize Sg : wr.alloc (.cells #[.string nm, .int .i64 kd, .int .i64 xa, .int .i64 xb, .int .i64 co] 75) = WX;have QF : Below wr.heap.size wr WX := Sg ▸ (Below.refl _ _).alloc lR _;have SX : AJ WX wr.heap.size 75 #[.string nm, .int .i64 kd, .int .i64 xa, .int .i64 xb, .int .i64 co] := Sg ▸ AJ.new _ _ _;clear Sg;refine (rM nm WX (EK.below QF lR) Ef).mono ?_;rintro e w1 ⟨rfl, AX⟩;have Kw : Below wr.heap.size wr w1 := QF.trans (AX.mono QF.size);have DV := iD (SX.below AX SX.lt);have Eo := iD (hU.below Kw);have AL := iD (AZ.trans (Kw.mono hsz));have KZ := iD (Bi.trans (AL.mono (Nat.le_of_lt RB)));obtain ⟨x0, x1, x2, x3, x4⟩ := DV.d5;have y0 := (HK.below AL RB).c0;clear AX QF SX Kw k0;rcases CP : yI (BA nm) with _ | _
    ·have HR := iD (Ar 3 (by rw [CJ.out, if_pos CP]) (by decide));clear CP
     go_wp2_with fail
     go_ret;exact ⟨zC (by rw [HR.out]), KZ⟩
    have JH := iD CP; clear CP;have MN := Eo.look nm Ef;by_cases Fp : BA nm ∈ U
    ·have HR := iD (Ar 4 (by rw [CJ.out, if_neg (by rw [JH.out]; simp), if_pos Fp]) (by decide));rw [decide_eq_true Fp] at MN;clear Fp
     go_wp2_with fail
     go_ret;exact ⟨zC (by rw [HR.out]), KZ⟩
    rw [decide_eq_false Fp] at MN;have TW := iD Fp; clear Fp;have h6 : kd < 1 ∨ 6 < kd → zR ns ds = 6 := fun h => Ar 6 (by rw [CJ.out, if_neg (by rw [JH.out]; simp), if_neg TW.out, if_pos h]) (by decide)
    have H6 := iD h6; clear h6;by_cases g1 : kd < 1
    ·have HR := iD (H6 (.inl g1))
     go_wp2_with fail
     go_ret;exact ⟨zC (by rw [HR.out]), KZ⟩
    have g1' : decide (kd < 1) = false := by simpa using g1
    by_cases g2 : 6 < kd
    ·have HR := iD (H6 (.inr g2))
     go_wp2_with fail
     go_ret;exact ⟨zC (by rw [HR.out]), KZ⟩
    have g2' : decide (6 < kd) = false := by simpa using g2
    have Jz := iD (jY nm kd xa xb co i);rcases hen : xW kd xa xb i with _ | _
    ·have HR := iD (Ar 7 (by rw [CJ.out, if_neg (by rw [JH.out]; simp), if_neg TW.out, if_neg (by omega), if_pos hen]) (by decide));rw [hen] at Jz;clear hen
     go_wp2_with fail
     refine (Jz _).mono ?_;rintro e w2 ⟨rfl, AQ⟩
     go_wp2_with fail
     go_ret;exact ⟨zC (by rw [HR.out]), KZ.trans (AQ.mono KZ.size)⟩
    rw [hen] at Jz;have DR := iD hen; clear hen
    go_wp2_with fail
    clear x0 x1 x2 x3 x4 y0 MN;refine (Jz _).mono ?_;rintro e w2 ⟨rfl, AQ⟩;have EE := iD (DV.below AQ DV.lt);have Ct := iD (Eo.below AQ);have AY := iD (AL.trans (AQ.mono AL.size));have Af := iD (KZ.trans (AQ.mono KZ.size));have x0 := EE.c0;have x4 := EE.c4;clear AQ;have Mg := iD (sR co);rcases FT : ym co with _ | _
    ·have HR := iD (Ar 5 (by rw [CJ.out, if_neg (by rw [JH.out]; simp), if_neg TW.out, if_neg (by omega), if_neg (by rw [DR.out]; simp), if_pos FT]) (by decide));rw [FT] at Mg;clear FT
     go_wp2_with fail
     refine (Mg _).mono ?_;rintro e w3 ⟨rfl, rfl⟩
     go_wp2_with fail
     go_ret;exact ⟨zC (by rw [HR.out]), Af⟩
    have BR : Hid (xk i U ⟨nm, kd, xa, xb, co⟩ = 0) := by unfold Hid; rw [CJ.out, if_neg (by rw [JH.out]; simp), if_neg TW.out, if_neg (by omega), if_neg (by rw [DR.out]; simp), if_neg (by rw [FT]; simp)]
    rw [FT] at Mg;clear FT;obtain ⟨w4, Dr, Al, Gt⟩ := Ct.put (by omega) nm Ef;have Uq := iD Al; have GK := iD Gt;clear Al Gt
    go_wp2_with fail
    refine (Mg _).mono ?_;rintro e w3 ⟨rfl, rfl⟩
    go_wp2_with fail
    go_roundw
    case rel =>
     refine ⟨j + 1, BA nm :: U, by go_num, by omega, by simp; omega, Uq, hch.trans (uT HX BR), AY.trans (yX GK (by rw [Ax.out]; exact Nat.le_refl _) AY.size)⟩
    case measure => simp [intOf]; omega
  obtain ⟨b, off, x, rfl, hb, hx, hc⟩ := ((HN.below Bi Ce).below AZ (Nat.le_trans Ce (Nat.le_of_lt RB))).at (fun _ => rfl) (by decide) hlt;have RQ := iD (Da x (List.mem_of_getElem? hx));have HX := iD hx;obtain ⟨nm, cu, co⟩ := x;have c0 : wr.cell? ⟨b, off + i * 3, none⟩ = some (.string nm) := hc 0 _ rfl;have c1 : wr.cell? ⟨b, off + i * 3 + 1, none⟩ = some (.int .i64 cu) := hc 1 _ rfl;have c2 : wr.cell? ⟨b, off + i * 3 + 2, none⟩ = some (.int .i64 co) := hc 2 _ rfl;clear hc hx;have Ef := RQ.out;simp only at Ef
  have EM : ∀ e : Int, vM U ⟨nm, cu, co⟩ = e → e ≠ 0 → zR ns ds = e := fun e he hne => by
   have hs := qo HX (by rw [he]; exact hne);have hcc := hch.1;rw [hs, he] at hcc;rw [HC.out, if_neg h1, if_neg h2, if_neg (by rw [hcc]; exact hne), hcc]
  have Ar := iD EM; clear EM;have CJ : Hid (vM U ⟨nm, cu, co⟩ = if yI (BA nm) = false then 3 else if BA nm ∈ U then 4 else if cu < 0 ∨ 1048576 < cu then 5 else if ym co = false then 5 else 0) := rfl;have EK := iD ((HL.below Bi lR).below AZ lR)
  go_wp2_with fail
  clear c0 c1 c2;generalize Sg : wr.alloc (.cells #[.string nm, .int .i64 cu, .int .i64 co] 73) = WX;have QF : Below wr.heap.size wr WX := Sg ▸ (Below.refl _ _).alloc lR _;have SX : AJ WX wr.heap.size 73 #[.string nm, .int .i64 cu, .int .i64 co] := Sg ▸ AJ.new _ _ _;clear Sg;refine (rM nm WX (EK.below QF lR) Ef).mono ?_;rintro e w1 ⟨rfl, AX⟩;have Kw : Below wr.heap.size wr w1 := QF.trans (AX.mono QF.size);have DV := iD (SX.below AX SX.lt);have Eo := iD (hU.below Kw);have AL := iD (AZ.trans (Kw.mono hsz));have KZ := iD (Bi.trans (AL.mono (Nat.le_of_lt RB)));obtain ⟨x0, x1, x2⟩ := DV.d3;clear AX QF SX Kw;rcases CP : yI (BA nm) with _ | _
  ·have HR := iD (Ar 3 (by rw [CJ.out, if_pos CP]) (by decide));clear CP
   go_wp2_with fail
   go_ret;exact ⟨zC (by rw [HR.out]), KZ⟩
  have JH := iD CP; clear CP;have MN := Eo.look nm Ef;by_cases Fp : BA nm ∈ U
  ·have HR := iD (Ar 4 (by rw [CJ.out, if_neg (by rw [JH.out]; simp), if_pos Fp]) (by decide));rw [decide_eq_true Fp] at MN;clear Fp
   go_wp2_with fail
   go_ret;exact ⟨zC (by rw [HR.out]), KZ⟩
  rw [decide_eq_false Fp] at MN;have TW := iD Fp; clear Fp
  have h5 : cu < 0 ∨ 1048576 < cu ∨ ym co = false → zR ns ds = 5 := fun h => Ar 5 (by
   rw [CJ.out, if_neg (by rw [JH.out]; simp), if_neg TW.out];by_cases hh : cu < 0 ∨ 1048576 < cu
   ·rw [if_pos hh]
   ·rw [if_neg hh, if_pos (h.elim (fun h => absurd (.inl h) hh) (fun h => h.elim (fun h => absurd (.inr h) hh) id))]) (by decide)
  have H5 := iD h5; clear h5;by_cases g1 : cu < 0
  ·have HR := iD (H5 (.inl g1))
   go_wp2_with fail
   go_ret;exact ⟨zC (by rw [HR.out]), KZ⟩
  have g1' : decide (cu < 0) = false := by simpa using g1
  by_cases g2 : 1048576 < cu
  ·have HR := iD (H5 (.inr (.inl g2)))
   go_wp2_with fail
   go_ret;exact ⟨zC (by rw [HR.out]), KZ⟩
  have g2' : decide (1048576 < cu) = false := by simpa using g2
  have Mg := iD (sR co);rcases FT : ym co with _ | _
  ·have HR := iD (H5 (.inr (.inr FT)));rw [FT] at Mg;clear FT
   go_wp2_with fail
   refine (Mg _).mono ?_;rintro e w2 ⟨rfl, rfl⟩
   go_wp2_with fail
   go_ret;exact ⟨zC (by rw [HR.out]), KZ⟩
  have BR : Hid (vM U ⟨nm, cu, co⟩ = 0) := by unfold Hid; rw [CJ.out, if_neg (by rw [JH.out]; simp), if_neg TW.out, if_neg (by omega), if_neg (by rw [FT]; simp)]
  rw [FT] at Mg;clear FT;obtain ⟨w2, Dr, Am, Cc⟩ := Eo.put (by omega) nm Ef;have Ct := iD Am; have FL := iD Cc;clear Am Cc
  go_wp2_with fail
  refine (Mg _).mono ?_;rintro e w3 ⟨rfl, rfl⟩
  go_wp2_with fail
  go_roundw
  case rel =>
   have hst := tw HX BR.out;refine ⟨i + 1, BA nm :: U, by go_num, by omega, by simp; omega, Ct, ⟨hch.1.trans hst.1, hch.2.trans hst.2⟩, AL.trans (yX FL (by rw [Ax.out]; exact Nat.le_refl _) AL.size)⟩
  case measure => simp [intOf]; omega
theorem pR (p : Int) (w : World) (hl : yr w) : Calls prog 80 #[.int .i64 p] w fun e w' => e = .returned (.bool (posB p)) ∧ w = w' := by
 have c1 := hl.2 1 _ rfl;have c3 := hl.2 3 _ rfl;have c5 := hl.2 5 _ rfl;have c7 := hl.2 7 _ rfl;clear hl;by_cases h0 : 0 ≤ p; rotate_left
 ·have h0' : decide (0 ≤ p) = false := by simpa using h0
  have HP : Hid (posB p = false) := by unfold Hid; simp [posB]; omega
  go_enter func80, ntmps80
  go_wp2_with fail
  go_ret;exact ⟨zE (by rw [HP.out]), rfl⟩
 by_cases h4 : p < 4; rotate_left
 ·have h4' : decide (p < 4) = false := by simpa using h4
  have HP : Hid (posB p = false) := by unfold Hid; simp [posB]; omega
  go_enter func80, ntmps80
  go_wp2_with fail
  go_ret;exact ⟨zE (by rw [HP.out]), rfl⟩
 rcases (show p = 0 ∨ p = 1 ∨ p = 2 ∨ p = 3 by omega) with rfl | rfl | rfl | rfl
 all_goals
  go_enter func80, ntmps80
  go_wp2_with fail
  go_ret;exact ⟨zE (by decide), rfl⟩
def zG (ns : List Nd) (ds : List Dv) (s : List Int) : Int := if zR ns ds ≠ 0 then zR ns ds else if s.length ≠ ds.length then 9 else if ∀ p ∈ s, posB p = true then 0 else 10
theorem mE (An Ad As : Option Addr) (nn cn nd cd n c Bn Bd Bs : Nat) (ns : List Nd) (ds : List Dv) (s : List Int) (w : World) (hl : yr w) (hn : Sl w Bn 3 An nn cn (ns.flatMap Nd.cells)) (hd : Sl w Bd 5 Ad nd cd (ds.flatMap Dv.cells)) (hs : Sl w Bs 1 As n c (zF s)) (Ce : Bn ≤ w.heap.size) (BN : Bd ≤ w.heap.size) (Ci : Bs ≤ w.heap.size)
 (Bj : FO ns) (Bc : GH ds) :
 Calls prog 79 #[.agg #[.slice An nn cn, .slice Ad nd cd], .slice As n c, .func (.func 80) #[] #[]] w fun e w' => e = .returned (.int .i64 (zG ns ds s)) ∧ bW w w' := by
 have GV := iD (hs.len (fun _ => rfl) (by decide)); have Fx := iD (hd.len (fun _ => rfl) (by decide));obtain ⟨Ir, Nq⟩ := hs.le;obtain ⟨Vs, MO⟩ := hd.le;have HE : Hid (zG ns ds s = if zR ns ds ≠ 0 then zR ns ds else if n ≠ nd then 9 else if ∀ p ∈ s, posB p = true then 0 else 10) := by unfold Hid; rw [zG, GV.out, Fx.out]
 have HL := iD hl; have HN := iD hn; have HD := iD hd; have HS := iD hs;have Cy := iD (um An Ad nn cn nd cd Bn Bd ns ds (w.alloc (.cells #[.slice An nn cn, .slice Ad nd cd] 26)) (hl.alloc _) (hn.alloc Ce _) (hd.alloc BN _) (by simp; omega) (by simp; omega) Bj Bc);clear hl hn hd hs Bj Bc;generalize zR ns ds = er at *;have BF : Hid (Below w.heap.size w (w.alloc (.cells #[.slice An nn cn, .slice Ad nd cd] 26))) := (Below.refl _ _).alloc lR _;by_cases h0 : er = 0; rotate_left
 ·have h0' : (er != 0) = true := by simpa using h0
  have HR : Hid (zG ns ds s = er) := by unfold Hid; rw [HE.out, if_pos h0]
  clear h0
  go_enter func79, ntmps79
  go_wp2_with fail
  refine Cy.mono ?_;rintro e w1 ⟨rfl, AX⟩
  go_wp2_with fail
  go_ret;exact ⟨zC (by rw [HR.out]), BF.trans (AX.mono (by simp))⟩
 subst h0
 go_enter func79, ntmps79
 go_wp2_with fail
 refine Cy.mono ?_;rintro e w1 ⟨rfl, AX⟩;have DV := iD ((AJ.new w 26 #[.slice An nn cn, .slice Ad nd cd]).below AX (by simp));have AL := iD (BF.trans (AX.mono (by simp)));have k1 := DV.c1;have Fj := AL.size;clear AX Cy;by_cases AB : n = nd; rotate_left
 ·have q : decide (n = nd) = false := by simpa using AB
  have q' : ((n : Int) != (nd : Int)) = true := by simp; omega
  have HR : Hid (zG ns ds s = 9) := by unfold Hid; rw [HE.out, if_neg (by simp), if_pos AB]
  clear AB
  go_wp2_with fail
  go_ret;exact ⟨zC (by rw [HR.out]), AL⟩
 subst AB;have EK := iD (HL.below AL lR);have BD := iD (HS.below AL Ci)
 go_wp2_with fail
 clear k1
 go_loop [9, 23] (fun _ iv => ∃ i : Nat, iv = .int .i64 i ∧ i ≤ n ∧ Hid (∀ p ∈ s.take i, posB p = true)) (fun _ iv => n - (intOf iv).toNat)
 case atStart => exact ⟨0, rfl, Nat.zero_le _, by simp [Hid]⟩
 case round =>
  obtain ⟨i, rfl, hi, CB⟩ := hrel;by_cases hlt : i < n
  ·obtain ⟨b, off, x, rfl, hb, hx, hc⟩ := BD.at1 hlt;have HX := iD hx; clear hx;have Ea := iD (pR x w1 EK);rcases hp : posB x with _ | _
   ·have HR : Hid (zG ns ds s = 10) := by
     unfold Hid;rw [HE.out, if_neg (by simp), if_neg (by simp), if_neg (fun h => by have := h x (List.mem_of_getElem? HX.out); rw [hp] at this; cases this)]
    rw [hp] at Ea;clear hp
    go_wp2_with fail
    refine Ea.mono ?_;rintro e w2 ⟨rfl, rfl⟩
    go_wp2_with fail
    go_ret;exact ⟨zC (by rw [HR.out]), AL⟩
   ·rw [hp] at Ea;have HP := iD hp; clear hp
    go_wp2_with fail
    refine Ea.mono ?_;rintro e w2 ⟨rfl, rfl⟩
    go_wp2_with fail
    go_round
    case rel =>
     refine ⟨i + 1, by go_num, by omega, fun p hp => ?_⟩;rw [zO HX.out] at hp;rcases List.mem_append.1 hp with h | h
     ·exact CB p h
     ·rw [List.mem_singleton.1 h]; exact HP.out
    case measure => simp [intOf]; omega
  ·obtain rfl : i = n := by omega
   have KJ : decide (i < i) = false := by simp
   have HR : Hid (zG ns ds s = 0) := by
    unfold Hid;have := CB.out;rw [List.take_of_length_le (by rw [GV.out]; exact Nat.le_refl _)] at this;rw [HE.out, if_neg (by simp), if_neg (by simp), if_pos this]
   go_wp2_with fail
   go_ret;exact ⟨zC (by rw [HR.out]), AL⟩
theorem vc (An Ad As : Option Addr) (nn cn nd cd n c Bn Bd Bs : Nat) (ns : List Nd) (ds : List Dv) (s : List Int) (w : World) (hl : yr w) (hn : Sl w Bn 3 An nn cn (ns.flatMap Nd.cells)) (hd : Sl w Bd 5 Ad nd cd (ds.flatMap Dv.cells)) (hs : Sl w Bs 1 As n c (zF s)) (Ce : Bn ≤ w.heap.size) (BN : Bd ≤ w.heap.size) (Ci : Bs ≤ w.heap.size)
 (Bj : FO ns) (Bc : GH ds) :
 Calls prog 58 #[.agg #[.slice An nn cn, .slice Ad nd cd], .slice As n c] w fun e w' => e = .returned (.int .i64 (zG ns ds s)) ∧ bW w w' := by
 have HC := iD (mE An Ad As nn cn nd cd n c Bn Bd Bs ns ds s (w.alloc (.cells #[.slice An nn cn, .slice Ad nd cd] 26)) (hl.alloc _) (hn.alloc Ce _) (hd.alloc BN _) (hs.alloc Ci _) (by simp; omega) (by simp; omega) (by simp; omega) Bj Bc);clear hl hn hd hs Bj Bc
 go_enter func58, ntmps58
 go_wp2_with fail
 refine HC.mono ?_;rintro e w1 ⟨rfl, AX⟩
 go_wp2_with fail
 go_ret;exact ⟨rfl, ((Below.refl _ _).alloc lR _).trans (AX.mono (by simp))⟩
def pj (nd : Nat) (d : Int) : Int := if d < 0 then 8 else if (nd : Int) ≤ d then 8 else 0
theorem mM (An Ad : Option Addr) (nn cn nd cd : Nat) (d : Int) (w : World) (_hnd : nd ≤ 9223372036854775807) : Calls prog 134 #[.agg #[.slice An nn cn, .slice Ad nd cd], .int .i64 d] w fun e w' => e = .returned (.int .i64 (pj nd d)) ∧ bW w w' := by
 have HE : Hid (pj nd d = if d < 0 then 8 else if (nd : Int) ≤ d then 8 else 0) := rfl;by_cases h1 : d < 0
 ·go_enter func134, ntmps134
  go_wp2_with fail
  go_ret;exact ⟨zC (by rw [HE.out, if_pos h1]), (Below.refl _ _).alloc lR _⟩
 ·have q1 : decide (d < 0) = false := by simpa using h1
  by_cases h2 : (nd : Int) ≤ d
  ·go_enter func134, ntmps134
   go_wp2_with fail
   go_ret;exact ⟨zC (by rw [HE.out, if_neg (by omega), if_pos h2]), (Below.refl _ _).alloc lR _⟩
  ·have q2 : decide ((nd : Int) ≤ d) = false := by simpa using h2
   go_enter func134, ntmps134
   go_wp2_with fail
   go_ret;exact ⟨zC (by rw [HE.out, if_neg (by omega), if_neg (by omega)]), (Below.refl _ _).alloc lR _⟩
theorem gX (An Ad As : Option Addr) (nn cn nd cd n c Bn Bd Bs i : Nat) (ns : List Nd) (ds : List Dv) (s : List Int) (x : Dv) (w : World) (hl : yr w)
 (hn : Sl w Bn 3 An nn cn (ns.flatMap Nd.cells)) (Ce : Bn ≤ w.heap.size) (hd : Sl w Bd 5 Ad nd cd (ds.flatMap Dv.cells)) (BN : Bd ≤ w.heap.size) (hs : Sl w Bs 1 As n c (zF s)) (Ci : Bs ≤ w.heap.size) (Bj : FO ns) (Bc : GH ds)
 (h0 : zG ns ds s = 0) (Bq : nn ≤ 10000) (Vj : n ≤ 10000) (AB : nd ≤ n) (hi : i < nd) (hx : ds[i]? = some x) (Ae : xA nn ds) (hA : Ki nn ds) :
 Calls prog 111 #[.agg #[.slice An nn cn, .slice Ad nd cd], .slice As n c, .int .i64 i] w fun e w' => e = .returned (.tuple #[.int .i64 (xI nn ns ds s i x), .int .i64 0]) ∧ bW w w' := by
 have HB : Hid (Below w.heap.size w (w.alloc (.cells #[.slice An nn cn, .slice Ad nd cd] 26))) := (Below.refl _ _).alloc lR _;have HK := iD (AJ.new w 26 #[.slice An nn cn, .slice Ad nd cd]);have HL := iD hl; have HN := iD hn; have HD := iD hd; have HS := iD hs; have Da := iD Bj; have CU := iD Bc; have H0 := iD h0; have HX := iD hx; have HE := iD Ae; have HA := iD hA;have Vg := hd.le;clear hl hn hd hs Bj Bc h0 hx Ae hA;have NN : Hid (pj nd i = 0) := by unfold Hid pj; rw [if_neg (by omega), if_neg (by omega)]
 go_enter func111, ntmps111
 go_wp2_with fail
 generalize World.alloc _ _ = W at *;have hz := HB.size;have HC := iD (vc An Ad As nn cn nd cd n c Bn Bd Bs ns ds s W (HL.below HB lR) (HN.below HB Ce) (HD.below HB BN) (HS.below HB Ci) (by omega) (by omega) (by omega) Da CU);rw [H0.out] at HC;refine HC.mono ?_;rintro e w1 ⟨rfl, AX⟩;have AL := iD (HB.trans (AX.mono hz));have DV := iD (HK.below AX HK.lt);have Fj := AL.size;clear AX HC HB HK hz;obtain ⟨k0, k1⟩ := DV.d2
 go_wp2_with fail
 have HC := iD (mM An Ad nn cn nd cd i w1 (by omega));rw [NN.out] at HC;refine HC.mono ?_;rintro e w2 ⟨rfl, AQ⟩;have AY := iD (AL.trans (AQ.mono Fj));have EE := iD (DV.below AQ DV.lt);have GD := AY.size;clear AQ HC AL DV Fj k0 k1;obtain ⟨k0, k1⟩ := EE.d2
 go_wp2_with fail
 clear k0 k1;refine (iq An Ad As nn cn nd cd n c Bn Bd Bs i ns ds s x w2 (HN.below AY Ce) (by omega) (HD.below AY BN) (by omega) (HS.below AY Ci) (by omega) Bq Vj AB hi HX HE HA).mono ?_;rintro e w3 ⟨rfl, BJ⟩
 go_wp2_with fail
 go_ret2;exact ⟨rfl, AY.trans (BJ.mono GD)⟩
section
variable {nn : Nat} {ns : List Nd} {ds : List Dv} {s : List Int} {i : Nat} {x : Dv}
end
theorem fW {Q : Nat → Prop} : ∀ n, Q n → ∃ m, Q m ∧ ∀ k, Q k → m ≤ k := by
 intro n
 induction n using Nat.strongRecOn with
 | ind n ih =>
  intro h;by_cases hx : ∃ k, k < n ∧ Q k
  ·obtain ⟨k, hk, hq⟩ := hx; exact ih k hk hq
  ·exact ⟨n, h, fun k hk => Nat.le_of_not_lt (fun hl => hx ⟨k, hl, hk⟩)⟩
def Ha (ds : List Dv) (s : List Int) (v : Int) : Prop := rm yv ds s v ∧ ¬ rm (· = 4) ds s v
theorem mc {v : Int} : kD ds s v = 1 ↔ Ha ds s v := by
 unfold kD Ha;rcases yh (rm yv ds s v) 1 with ⟨h, e⟩ | ⟨h, e⟩ <;> rcases yh (rm (· = 4) ds s v) 2 with ⟨h2, e2⟩ | ⟨h2, e2⟩ <;> rw [e, e2] <;> simp [h, h2]
section
variable {nn : Nat} {ns : List Nd} {ds : List Dv} {s : List Int} {i : Nat} {x : Dv}
theorem lg {P : List Int} (hP : yZ nn ds s P) {u v : Int} (hu : 0 ≤ u ∧ u < nn) (hv : 0 ≤ v ∧ v < nn) : P.getD u.toNat 0 = P.getD v.toNat 0 ↔ yH ds s u v := by
 obtain ⟨a, rfl⟩ := Int.eq_ofNat_of_zero_le hu.1;obtain ⟨b, rfl⟩ := Int.eq_ofNat_of_zero_le hv.1;rw [Int.toNat_natCast, Int.toNat_natCast, ← hP.iff (by omega) (by omega)];obtain ⟨p, hp, _⟩ := hP.2 a (by omega);obtain ⟨q, hq, _⟩ := hP.2 b (by omega);rw [yM hp, yM hq, hp, hq];simp
def pA (ns : List Nd) (ds : List Dv) (o c : List Int) (d : Int) : Prop :=
 (d = 0 ∨ d = 1 → ∀ (v : Nat) (y : Nd), ns[v]? = some y → 0 < y.cust → (Ha ds c v ↔ Ha ds o v)) ∧
 (d = 2 → (∃ (v : Nat) (y : Nd), ns[v]? = some y ∧ 0 < y.cust ∧ Ha ds c v ∧ ¬ Ha ds o v) ∧ ∀ v : Int, Ha ds o v → Ha ds c v) ∧
 (d = 3 → ∀ v : Int, Ha ds c v ↔ Ha ds o v)
theorem pA.fault : pA ns ds o c 4 := ⟨fun h => by omega, fun h => by omega, fun h => by omega⟩
theorem pA.same {d : Int} (h : ∀ v : Int, Ha ds c v ↔ Ha ds o v) (hd : d ≠ 2) : pA ns ds o c d := ⟨fun _ v _ _ _ => h v, fun e => absurd e hd, fun _ => h⟩
open Classical in
theorem pA.one {P : List Int} {q : Int} (hP : yZ nn ds o P) (hl : ns.length = nn) (hq : 0 ≤ q ∧ q < nn)
 (h1 : ∀ v, yH ds o q v → Ha ds c v ∧ ¬ Ha ds o v) (h2 : ∀ v, ¬ yH ds o q v → (Ha ds c v ↔ Ha ds o v)) :
 pA ns ds o c (if ∃ (v : Nat) (y : Nd), v < ns.length ∧ ns[v]? = some y ∧ 0 < y.cust ∧ P.getD v 0 = P.getD q.toNat 0 then 2 else 1) := by
 have pc : ∀ v : Nat, v < nn → (P.getD v 0 = P.getD q.toNat 0 ↔ yH ds o q v) := by
  intro v hv;have h := lg hP (u := q) (v := v) hq ⟨by omega, by omega⟩;rw [Int.toNat_natCast] at h;exact ⟨fun e => h.1 e.symm, fun e => (h.2 e).symm⟩
 split
 ·rename_i hx
  obtain ⟨v, y, hv, hy, hc, hp⟩ := hx;have k := h1 v ((pc v (by omega)).1 hp);refine ⟨fun h => by omega, fun _ => ⟨⟨v, y, hy, hc, k.1, k.2⟩, fun u hu => ?_⟩, fun h => by omega⟩;by_cases GQ : yH ds o q u
  ·exact (h1 u GQ).1
  ·exact (h2 u GQ).2 hu
 ·rename_i hx
  refine ⟨fun _ v y hy hc => h2 v (fun GQ => hx ?_), fun h => by omega, fun h => by omega⟩;have hv := (List.getElem?_eq_some_iff.1 hy).1;exact ⟨v, y, hv, hy, hc, (pc v (by omega)).2 GQ⟩
end
end Go.Proofs.YtddddlhgaeameaaGreatDoor
