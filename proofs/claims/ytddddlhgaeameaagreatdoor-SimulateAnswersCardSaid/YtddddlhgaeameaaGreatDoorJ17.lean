import Derived.Test.YtddddlhgaeameaaGreatDoorJ16
set_option maxRecDepth 100000
set_option maxHeartbeats 4000000
namespace Go.Proofs.YtddddlhgaeameaaGreatDoor
open Go.RowKit Tryz
def EI (w : World) (g size : Nat) (A : Option Addr) (n c : Nat) (xs : List Value) : Prop := Av w size A n c xs ∧ ∀ b off, A = some ⟨b, off, none⟩ → b ≠ g
section
variable {w w' : World} {g size n c base : Nat} {A : Option Addr} {xs : List Value}
theorem EI.grown (h : EI w g size A n c xs) (hg : w.grownBy w' (some g)) : EI w' g size A n c xs := by
 obtain ⟨⟨h1, h2, h3, h4, h5⟩, h6⟩ := h;refine ⟨⟨h1, h2, h3, h4, fun hn => ?_⟩, h6⟩;obtain ⟨b, off, e, hb, hc⟩ := h5 hn;refine ⟨b, off, e, Nat.lt_of_lt_of_le hb hg.size, fun j u hu => ?_⟩;exact (World.cell?_of_block (hg.block b hb (fun e' => h6 b off e (by injection e')))).trans (hc j u hu)
theorem EI.below (h : EI w g size A n c xs) (hb : bW w w') : EI w' g size A n c xs := ⟨(h.1.below hb lR).more hb.size, h.2⟩
theorem EI.alloc (h : EI w g size A n c xs) (o : Obj) : EI (w.alloc o) g size A n c xs := h.below ((Below.refl _ _).alloc lR _)
theorem EI.of_own {e : TypeId} (h : w.ownsRow base e size (.slice A n c) n xs) (hb : g < base) : EI w g size A n c xs :=
 ⟨Sl.of_own h, fun b off e => by have := (h.lt b (by rw [e]; rfl)).1; omega⟩
end
def kJ (w : World) (g nd : Nat) (e : Ending) (w' : World) : Prop :=
 ∃ (A : Option Addr) (c : Nat) (s : List Int), e = .returned (.slice A nd c) ∧ Hid (zP w' g) ∧ Hid (w.grownBy w' (some g)) ∧ Hid (zN w' (w.heap.size + 1) A nd c s) ∧ Hid (∀ p ∈ s, posB p = true)
def gd (w W : World) (g nd gk : Nat) (ov iv : Value) (wr : World) : Prop :=
 ∃ (i c : Nat) (A : Option Addr) (s : List Int), ov = .slice A i c ∧ iv = .int .i64 i ∧ i ≤ nd ∧ gk = nd - i ∧ Hid (zN wr (w.heap.size + 1) A i c s) ∧ Hid (zP wr g) ∧ Hid (W.grownBy wr (some g)) ∧ Hid (∀ p ∈ s, posB p = true)
theorem oZ (g : Nat) (An Ad : Option Addr) (nn cn nd cd : Nat) (ds : List Dv) (w : World) (hd : zP w g) (hx : EI w g 5 Ad nd cd (ds.flatMap Dv.cells)) (AB : nd ≤ 1000) :
 Calls prog 11 #[.pointer (some ⟨g, 0, none⟩), .agg #[.slice An nn cn, .slice Ad nd cd]] w (kJ w g nd) := by
 have hlt := hd.lt;have JZ := iD (hd.alloc (.cells #[.slice An nn cn, .slice Ad nd cd] 26));have Ag := iD (hx.alloc (.cells #[.slice An nn cn, .slice Ad nd cd] 26));have GY := iD (AJ.new w 26 #[.slice An nn cn, .slice Ad nd cd]);have Bi : Hid (w.grownBy (w.alloc (.cells #[.slice An nn cn, .slice Ad nd cd] 26)) (some g)) := zI ((Below.refl _ _).alloc lR _) _;have HW : Hid ((w.alloc (.cells #[.slice An nn cn, .slice Ad nd cd] 26)).heap.size = w.heap.size + 1) := by unfold Hid; simp
 clear hd hx
 go_enter func11, ntmps11
 go_wp2_with fail
 generalize World.alloc _ _ = W at *
 go_loopg [5, 6] nd (gd w W g nd)
 case atStart => exact ⟨0, 0, none, [], rfl, rfl, Nat.zero_le _, rfl, World.ownsRow_nil _ _ _ _, JZ, xF _ _, fun p hp => by simp at hp⟩
 case round =>
  obtain ⟨i, c, A, s, rfl, rfl, hi, rfl, hO, hD, hG, hP⟩ := hrel;have Fy := iD (GY.grown hG (fun e => by injection e with e; omega));have AG := iD (Ag.grown hG);have k1 := Fy.c1;by_cases Gq : i < nd
  ·obtain ⟨b, off, x, rfl, hb, hx, hc⟩ := AG.1.at (fun _ => rfl) (by decide) Gq;have AW := AG.2 b off rfl;obtain ⟨nm, kd, xa, xb, co⟩ := x;have c1 : wr.cell? ⟨b, off + i * 5 + 1, none⟩ = some (.int .i64 kd) := hc 1 _ rfl;have IG := iD c1;clear hc hx;go_upto_region 6 with (fail);clear k1 c1;have FM : Hid (wr.cell? ⟨w.heap.size, 1, none⟩ = some (.slice (some ⟨b, off, none⟩) nd cd) ∧ wr.cell? ⟨b, off + i * 5 + 1, none⟩ = some (.int .i64 kd)) := ⟨Fy.cell 1, IG⟩;have AZ : w.heap.size < wr.heap.size := Fy.lt;refine fX (fun W' => W'.cell? ⟨w.heap.size, 1, none⟩ = some (.slice (some ⟨b, off, none⟩) nd cd) ∧ W'.cell? ⟨b, off + i * 5 + 1, none⟩ = some (.int .i64 kd)) [] ?_ fun AA => ?_
   ·exact FM.out
   try dsimp only at AA
   refine tj 0 15 AA ?_;refine tj 1 16 AA ?_;refine tj 2 17 AA ?_;refine tj 3 18 AA ?_;refine tj 4 19 AA ?_;refine tj 5 20 AA ?_;refine tj 6 21 AA ?_;refine tj 7 22 AA ?_;refine yT (k := 8) (by kernel_rfl) rfl (fun K hK => ?_)
   (go_simp; refine (wT g 4 wr.drew hD.drew (by decide)).mono ?_; rintro e w1 ⟨r, rfl, BC, Am, BS⟩; have CF := iD (xi Am); go_simp)
   refine hK _ _ (fun _ => ⟨(World.cell?_of_block (CF.block w.heap.size AZ (fun e => by injection e with e; omega))).trans FM.1, (World.cell?_of_block (CF.block b hb (fun e => AW (by injection e)))).trans FM.2⟩) fun p => (fun AA => ?_) (p rfl)
   clear p hK K;(try dsimp only at AA)
   try simp only [Act.put, sA, sB, sC]
   refine tj 9 24 AA ?_;refine tK ?_;clear AA;have CE := iD (hO.kept CF (zj fun q e => by have := (hO.lt q e).1; omega));have Fj := BS.out;have AK := iD (zJ hG CF);have GD := AK.size;rw [HW.out] at GD;clear Am BS Fj FM IG Fy AG CF hO hD hG;obtain ⟨bb, Gv⟩ := eX ((!((kd == 4) == r)));rw [← Gv];clear Gv;rcases bb with _ | _
   ·go_wp2_with (at_builtin; go_must (refine zL rfl (.tmp 25) (.tmp 27) rfl yl (by rfl) (CE.alloc _) (by rfl) (Sl.newest (n := 1) (by simp) (by rfl) (by decide)) (by simp [Value.oneCell']) (by omega) (by omega) (by simp; omega) ?_; intro A' cap' w3 Bv Cr ER; have BU := iD Bv; have DW := iD Cr; clear Bv Cr ER))
    go_roundg (nd - (i + 1))
    case rel =>
     have Et := DW.out;have Km : ∀ k, (Value.slice A i c).ownBlock = some k → w.heap.size + 1 ≤ k := fun k e => (CE.lt k e).1
     refine ⟨i + 1, cap', A', s ++ [2], rfl, by go_num, by omega, rfl, ?_, ?_, ?_, ?_⟩
     ·have := BU.out;unfold Hid zN;rw [yL];exact this
     ·exact (BC.alloc _).grown Et (fun k e => by have := Km k e; omega)
     ·exact uO (zJ AK (zI ((Below.refl _ _).alloc lR _) _)) Et (fun k e => by have := Km k e; have := HW.out; omega)
     ·intro p hp;rcases List.mem_append.1 hp with h | h
      ·exact hP p h
      ·rw [List.mem_singleton.1 h]; decide
    case measure => omega
   ·go_wp2_with (at_builtin; go_must (refine zL rfl (.tmp 25) (.tmp 27) rfl yl (by rfl) (CE.alloc _) (by rfl) (Sl.newest (n := 1) (by simp) (by rfl) (by decide)) (by simp [Value.oneCell']) (by omega) (by omega) (by simp; omega) ?_; intro A' cap' w3 Bv Cr ER; have BU := iD Bv; have DW := iD Cr; clear Bv Cr ER))
    go_roundg (nd - (i + 1))
    case rel =>
     have Et := DW.out;have Km : ∀ k, (Value.slice A i c).ownBlock = some k → w.heap.size + 1 ≤ k := fun k e => (CE.lt k e).1
     refine ⟨i + 1, cap', A', s ++ [1], rfl, by go_num, by omega, rfl, ?_, ?_, ?_, ?_⟩
     ·have := BU.out;unfold Hid zN;rw [yL];exact this
     ·exact (BC.alloc _).grown Et (fun k e => by have := Km k e; omega)
     ·exact uO (zJ AK (zI ((Below.refl _ _).alloc lR _) _)) Et (fun k e => by have := Km k e; have := HW.out; omega)
     ·intro p hp;rcases List.mem_append.1 hp with h | h
      ·exact hP p h
      ·rw [List.mem_singleton.1 h]; decide
    case measure => omega
  ·obtain rfl : i = nd := by omega
   have Ck : decide (i < i) = false := by simp
   go_wp2_with fail
   go_ret;exact ⟨A, c, s, rfl, hD, zJ Bi hG, hO, hP⟩
def rj (ns : List Nd) (C : List Int) (v : Nat) (out : List Int) : Prop := out.length ≤ v ∧ ∀ x : Int, x ∈ out ↔ ∃ (k : Nat) (y : Nd), k < v ∧ x = k ∧ C.getD k 0 = 1 ∧ ns[k]? = some y ∧ 0 < y.cust
theorem rj.start (ns : List Nd) (C : List Int) : rj ns C 0 [] := ⟨Nat.le_refl _, fun x => ⟨(fun h => by cases h), (fun ⟨k, _, hk, _⟩ => by omega)⟩⟩
theorem rj.pass {ns : List Nd} {C out : List Int} {v : Nat} {y : Nd} (h : rj ns C v out) (hy : ns[v]? = some y) (hn : ¬ (C.getD v 0 = 1 ∧ 0 < y.cust)) : rj ns C (v + 1) out := by
 refine ⟨by have := h.1; omega, fun x => (h.2 x).trans ⟨?_, ?_⟩⟩
 ·rintro ⟨k, z, hk, r⟩; exact ⟨k, z, by omega, r⟩
 ·rintro ⟨k, z, hk, e, hc, hz, hu⟩;rcases Nat.lt_succ_iff_lt_or_eq.1 hk with hk | rfl
  ·exact ⟨k, z, hk, e, hc, hz, hu⟩
  ·rw [hy] at hz; injection hz with hz; subst hz; exact absurd ⟨hc, hu⟩ hn
theorem rj.put {ns : List Nd} {C out : List Int} {v : Nat} {y : Nd} (h : rj ns C v out) (hy : ns[v]? = some y) (hc : C.getD v 0 = 1) (hu : 0 < y.cust) : rj ns C (v + 1) (out ++ [(v : Int)]) := by
 refine ⟨by have := h.1; simp; omega, fun x => ?_⟩;rw [List.mem_append, h.2 x, List.mem_singleton]
 constructor
 ·rintro (⟨k, z, hk, r⟩ | rfl)
  ·exact ⟨k, z, by omega, r⟩
  ·exact ⟨v, y, by omega, rfl, hc, hy, hu⟩
 ·rintro ⟨k, z, hk, e, r⟩;rcases Nat.lt_succ_iff_lt_or_eq.1 hk with hk | rfl
  ·exact .inl ⟨k, z, hk, e, r⟩
  ·exact .inr e
def SpR (w2 : World) (ns : List Nd) (C : List Int) (nn gk : Nat) (ov iv : Value) (wr : World) : Prop := ∃ (v m co : Nat) (Ao : Option Addr) (out : List Int), iv = .int .i64 v ∧ ov = .slice Ao m co ∧ v ≤ nn ∧ gk = nn - v ∧ Hid (zN wr w2.heap.size Ao m co out) ∧ Hid (bW w2 wr) ∧ Hid (rj ns C v out)
def gA (ns : List Nd) (ds : List Dv) (s out : List Int) : Prop := out.length ≤ ns.length ∧ ∀ x : Int, x ∈ out ↔ ∃ (k : Nat) (y : Nd), x = k ∧ ns[k]? = some y ∧ 0 < y.cust ∧ Ha ds s k
theorem qM (An Ad As : Option Addr) (nn cn nd cd n c : Nat) (ns : List Nd) (ds : List Dv) (s : List Int) (w : World) (hn : Av w 3 An nn cn (ns.flatMap Nd.cells)) (hd : Av w 5 Ad nd cd (ds.flatMap Dv.cells)) (hs : Av w 1 As n c (zF s))
 (Bj : FO ns) (Bc : GH ds) (Bq : nn ≤ 10000) (VV : zG ns ds s = 0) (Ae : nd ≤ n ∧ xA nn ds ∧ ∀ x ∈ ds, zV x.kind = true → x.b ≠ x.a) (hA : Ki nn ds ∧ ∀ x ∈ ds, 1 ≤ x.kind ∧ x.kind ≤ 6) :
 Calls prog 96 #[.agg #[.slice An nn cn, .slice Ad nd cd], .slice As n c] w fun e w' => ∃ Ao m co out, e = .returned (.tuple #[.slice Ao m co, .int .i64 0]) ∧ Hid (zN w' w.heap.size Ao m co out) ∧ Hid (gA ns ds s out) ∧ Hid (bW w w') := by
 have Ch := iD (hn.len (fun _ => rfl) (by decide));have Cy := iD (wX An Ad As nn cn nd cd n c w.heap.size w.heap.size w.heap.size ns ds s (w.alloc (.cells #[.slice An nn cn, .slice Ad nd cd] 26)) (hn.alloc lR _) (hd.alloc lR _) (hs.alloc lR _) (by simp) (by simp) (by simp) Bj Bc Bq (fun _ => Ae) (fun _ => hA));rw [VV] at Cy;have HN := iD hn;have Vf := hn.le;clear hn hd hs Bj Bc VV Ae hA
 go_enter func96, ntmps96
 go_upto_region 1 with (fail);have HB := iD (AJ.new w 26 #[.slice An nn cn, .slice Ad nd cd]);have HW : Hid (Below w.heap.size w (w.alloc (.cells #[.slice An nn cn, .slice Ad nd cd] 26))) := (Below.refl _ _).alloc lR _;generalize World.alloc _ _ = w1 at *;obtain ⟨nb, CP⟩ := eX w.heap.size;rw [← CP] at HB ⊢;clear CP;obtain ⟨k0, k1⟩ := HB.d2
 go_wp2_with fail
 clear k0 k1;refine Cy.mono ?_;rintro e w2 ⟨AQ, h | ⟨_, Ac, C, rfl, RH, LA⟩⟩
 ·exact absurd rfl h.1
 have Au := iD (HB.below AQ HB.lt);have BF := iD (HW.trans (AQ.mono HW.size));have RU := iD RH.sl;have Da := iD (HN.below BF lR);clear RH Cy HB HW AQ HN
 go_wp2_with fail
 go_loopg [8, 9] nn (SpR w2 ns C nn)
 case atStart => exact ⟨0, 0, 0, none, [], rfl, rfl, Nat.zero_le _, rfl, World.ownsRow_nil _ _ _ _, Below.refl _ _, rj.start _ _⟩
 case round =>
  obtain ⟨v, m, co, Ao, out, rfl, rfl, hv, rfl, hO, AZ, hsp⟩ := hrel;by_cases hlt : v < nn
  ·obtain ⟨b, off, cv, rfl, hb, hcv, hc⟩ := (RU.below AZ lR).at1 hlt;obtain ⟨b1, NR, z, rfl, AX, hz, Lp⟩ := (Da.below AZ BF.size).at (fun _ => rfl) (by decide) hlt;have HZ := iD hz;have Om := iD (yM hcv);obtain ⟨EC, cu, Cn⟩ := z;have c1 : wr.cell? ⟨b1, NR + v * 3 + 1, none⟩ = some (.int .i64 cu) := Lp 1 _ rfl;have k0 := (Au.below AZ Au.lt).c0;clear Lp hz hcv;by_cases h1 : cv = 1; rotate_left
   ·have q : (cv == 1) = false := by simpa using h1
    have BD := iD (hsp.pass HZ (fun h => h1 (by have := h.1; rw [Om.out] at this; exact this)));clear h1
    go_wp2_with fail
    go_roundg (nn - (v + 1))
    ·exact ⟨v + 1, m, co, Ao, out, by go_num, rfl, by omega, rfl, hO, AZ, BD⟩
    omega
   ·have q : (cv == 1) = true := by simpa using h1
    by_cases DY : 0 < cu; rotate_left
    ·have qc : decide (0 < cu) = false := by simpa using DY
     have BD := iD (hsp.pass HZ (fun h => DY h.2));clear h1 DY
     go_wp2_with fail
     go_roundg (nn - (v + 1))
     ·exact ⟨v + 1, m, co, Ao, out, by go_num, rfl, by omega, rfl, hO, AZ, BD⟩
     omega
    ·have qc : decide (0 < cu) = true := by simpa using DY
     have BD := iD (hsp.put HZ (by rw [Om.out]; exact h1) DY);have UR : m ≤ nn := by have := hsp.1; rw [hO.len] at this; omega
     have UM := AZ.size;clear h1 DY
     go_wp2_with (at_builtin; go_must (refine zL rfl (.tmp 36) (.tmp 38) rfl yl (by rfl) (hO.alloc _) (by rfl) (Sl.newest (n := 1) (by simp) (by rfl) (by decide)) (by simp [Value.oneCell']) (by omega) (by omega) (by simp; omega) ?_; intro A' cap' w3 Bv Cr ER; have BU := iD Bv; have DW := iD Cr; clear Bv Cr ER))
     go_roundg (nn - (v + 1))
     case rel =>
      refine ⟨v + 1, m + 1, cap', A', out ++ [(v : Int)], by go_num, rfl, by omega, rfl, ?_, ?_, BD⟩
      ·have := BU.out;unfold Hid zN;rw [yL];exact this
      ·refine (AZ.alloc AZ.size _).trans ⟨DW.os, DW.tape, DW.output, DW.size, fun i hi => DW.block i (by simp; omega) (fun e => ?_)⟩;have := (hO.lt i e.symm).1;omega
     case measure => omega
  ·obtain rfl : v = nn := by omega
   have Ck : decide (v < v) = false := by simp
   go_wp2_with fail
   go_ret2;refine ⟨Ao, m, co, out, rfl, hO.mono BF.size, ⟨by rw [Ch.out]; exact hsp.1, fun x => (hsp.2 x).trans ?_⟩, BF.trans (AZ.mono BF.size)⟩;have col : ∀ k : Nat, k < v → (C.getD k 0 = 1 ↔ Ha ds s k) := fun k hk => by rw [yM (LA.2 k hk)]; exact mc
   constructor
   ·rintro ⟨k, y, hk, e, hc, hy, hu⟩; exact ⟨k, y, e, hy, hu, (col k hk).1 hc⟩
   ·rintro ⟨k, y, e, hy, hu, hc⟩;have hk : k < v := by have := (List.getElem?_eq_some_iff.1 hy).1; rw [Ch.out] at this; exact this
    exact ⟨k, y, hk, e, (col k hk).2 hc, hy, hu⟩
theorem ld (An Ad As : Option Addr) (nn cn nd cd n c Bn Bd Bs : Nat) (ns : List Nd) (ds : List Dv) (s : List Int) (w : World) (hn : Sl w Bn 3 An nn cn (ns.flatMap Nd.cells)) (Ce : Bn ≤ w.heap.size) (hd : Sl w Bd 5 Ad nd cd (ds.flatMap Dv.cells)) (BN : Bd ≤ w.heap.size) (hs : Sl w Bs 1 As n c (zF s)) (Ci : Bs ≤ w.heap.size)
 (Bq : nn ≤ 10000) (AB : nd ≤ 10000) (hl : nd ≤ n) (Ae : xA nn ds) (hA : Ki nn ds) :
 Calls prog 151 #[.agg #[.slice An nn cn, .slice Ad nd cd], .slice As n c] w fun e w' => ∃ Ao m co out, e = .returned (.slice Ao m co) ∧ Hid (zN w' w.heap.size Ao m co out) ∧ Hid (gA ns ds s out) ∧ Hid (bW w w') := by
 have Ch := iD (hn.len (fun _ => rfl) (by decide));have Cy := iD (uG An Ad As nn cn nd cd n c Bd Bs ds s (w.alloc (.cells #[.slice An nn cn, .slice Ad nd cd] 26)) (hd.alloc BN _) (by simp; omega) (hs.alloc Ci _) (by simp; omega) Bq AB hl Ae hA);have HN := iD hn;have Vf := hn.le;clear hn hd hs Ae hA
 go_enter func151, ntmps151
 go_upto_region 1 with (fail);have HB := iD (AJ.new w 26 #[.slice An nn cn, .slice Ad nd cd]);have HW : Hid (Below w.heap.size w (w.alloc (.cells #[.slice An nn cn, .slice Ad nd cd] 26))) := (Below.refl _ _).alloc lR _;generalize World.alloc _ _ = w1 at *;obtain ⟨nb, CP⟩ := eX w.heap.size;rw [← CP] at HB ⊢;have JH := iD CP;clear CP;obtain ⟨k0, k1⟩ := HB.d2
 go_wp2_with fail
 clear k0 k1;refine Cy.mono ?_;rintro e w2 ⟨A1, A2, P, C, rfl, _, RH, _, LA, AQ⟩;have Au := iD (HB.below AQ HB.lt);have BF := iD (HW.trans (AQ.mono HW.size));have RU := iD RH.sl;have Da := iD (HN.below BF Ce);clear RH Cy HB HW AQ HN;have k0 := Au.c0
 go_wp2_with fail
 clear k0
 go_loopg [7, 19] nn (SpR w2 ns C nn)
 case atStart => exact ⟨0, 0, 0, none, [], rfl, rfl, Nat.zero_le _, rfl, World.ownsRow_nil _ _ _ _, Below.refl _ _, rj.start _ _⟩
 case round =>
  obtain ⟨v, m, co, Ao, out, rfl, rfl, hv, rfl, hO, AZ, hsp⟩ := hrel;by_cases hlt : v < nn
  ·obtain ⟨b, off, cv, rfl, hb, hcv, hc⟩ := (RU.below AZ lR).at1 hlt;obtain ⟨b1, NR, z, rfl, AX, hz, Lp⟩ := (Da.below AZ (Nat.le_trans Ce BF.size)).at (fun _ => rfl) (by decide) hlt;have HZ := iD hz;have Om := iD (yM hcv);obtain ⟨EC, cu, Cn⟩ := z;have c0 : wr.cell? ⟨b1, NR + v * 3, none⟩ = some (.string EC) := Lp 0 _ rfl;have c1 : wr.cell? ⟨b1, NR + v * 3 + 1, none⟩ = some (.int .i64 cu) := Lp 1 _ rfl;have c2 : wr.cell? ⟨b1, NR + v * 3 + 2, none⟩ = some (.int .i64 Cn) := Lp 2 _ rfl;have Ai : b < wr.heap.size := by have := AZ.size; omega
   have hne : b ≠ wr.heap.size := by omega
   have CQ : Hid (Below w2.heap.size w2 (wr.alloc (.cells #[.string EC, .int .i64 cu, .int .i64 Cn] 73))) := AZ.alloc AZ.size _;have Gf : Hid (zN (wr.alloc (.cells #[.string EC, .int .i64 cu, .int .i64 Cn] 73)) w2.heap.size Ao m co out) := hO.alloc _;clear Lp hz hcv;by_cases DY : 0 < cu; rotate_left
   ·have qc : decide (0 < cu) = false := by simpa using DY
    have BD := iD (hsp.pass HZ (fun h => DY h.2));clear DY
    go_wp2_with fail
    go_roundg (nn - (v + 1))
    ·exact ⟨v + 1, m, co, Ao, out, by go_num, rfl, by omega, rfl, Gf, CQ, BD⟩
    omega
   ·have qc : decide (0 < cu) = true := by simpa using DY
    by_cases h1 : cv = 1; rotate_left
    ·have q : (cv == 1) = false := by simpa using h1
     have BD := iD (hsp.pass HZ (fun h => h1 (by have := h.1; rw [Om.out] at this; exact this)));clear h1 DY
     go_wp2_with fail
     go_roundg (nn - (v + 1))
     ·exact ⟨v + 1, m, co, Ao, out, by go_num, rfl, by omega, rfl, Gf, CQ, BD⟩
     omega
    ·have q : (cv == 1) = true := by simpa using h1
     have BD := iD (hsp.put HZ (by rw [Om.out]; exact h1) DY);have UR : m ≤ nn := by have := hsp.1; rw [hO.len] at this; omega
     have UM := CQ.size;clear h1 DY;go_upto_region 7 with (fail);generalize World.alloc wr _ = wq at *;clear c0 c1 c2 hc
     go_wp2_with (at_builtin; go_must (refine zL rfl (.tmp 34) (.tmp 36) rfl yl (by rfl) (Gf.alloc _) (by rfl) (Sl.newest (n := 1) (by simp) (by rfl) (by decide)) (by simp [Value.oneCell']) (by omega) (by omega) (by simp; omega) ?_; intro A' cap' w3 Bv Cr ER; have BU := iD Bv; have DW := iD Cr; clear Bv Cr ER))
     go_roundg (nn - (v + 1))
     case rel =>
      refine ⟨v + 1, m + 1, cap', A', out ++ [(v : Int)], by go_num, rfl, by omega, rfl, ?_, ?_, BD⟩
      ·have := BU.out;unfold Hid zN;rw [yL];exact this
      ·refine (CQ.alloc CQ.size _).trans ⟨DW.os, DW.tape, DW.output, DW.size, fun i hi => DW.block i (by simp; omega) (fun e => ?_)⟩;have := (Gf.lt i e.symm).1;omega
     case measure => omega
  ·obtain rfl : v = nn := by omega
   have Ck : decide (v < v) = false := by simp
   go_wp2_with fail
   go_ret;refine ⟨Ao, m, co, out, rfl, hO.mono BF.size, ⟨by rw [Ch.out]; exact hsp.1, fun x => (hsp.2 x).trans ?_⟩, BF.trans (AZ.mono BF.size)⟩;have col : ∀ k : Nat, k < v → (C.getD k 0 = 1 ↔ Ha ds s k) := fun k hk => by rw [yM (LA.2 k hk)]; exact mc
   constructor
   ·rintro ⟨k, y, hk, e, hc, hy, hu⟩; exact ⟨k, y, e, hy, hu, (col k hk).1 hc⟩
   ·rintro ⟨k, y, e, hy, hu, hc⟩;have hk : k < v := by have := (List.getElem?_eq_some_iff.1 hy).1; rw [Ch.out] at this; exact this
    exact ⟨k, y, hk, e, (col k hk).2 hc, hy, hu⟩
theorem sT (An Ad As : Option Addr) (nn cn nd cd n c Bn Bd Bs : Nat) (ns : List Nd) (ds : List Dv) (s : List Int) (w : World) (hL : yr w) (hn : Sl w Bn 3 An nn cn (ns.flatMap Nd.cells)) (Ce : Bn ≤ w.heap.size) (hd : Sl w Bd 5 Ad nd cd (ds.flatMap Dv.cells)) (BN : Bd ≤ w.heap.size) (hs : Sl w Bs 1 As n c (zF s)) (Ci : Bs ≤ w.heap.size)
 (Bj : FO ns) (Bc : GH ds) (h0 : zG ns ds s = 0) (Bq : nn ≤ 10000) (AB : nd ≤ 10000) (hl : nd ≤ n) (Ae : xA nn ds) (hA : Ki nn ds) :
 Calls prog 136 #[.agg #[.slice An nn cn, .slice Ad nd cd], .slice As n c] w fun e w' => ∃ Ao m co out, e = .returned (.tuple #[.slice Ao m co, .int .i64 0]) ∧ Hid (zN w' w.heap.size Ao m co out) ∧ Hid (gA ns ds s out) ∧ Hid (bW w w') := by
 have HB : Hid (Below w.heap.size w (w.alloc (.cells #[.slice An nn cn, .slice Ad nd cd] 26))) := (Below.refl _ _).alloc lR _;have HK := iD (AJ.new w 26 #[.slice An nn cn, .slice Ad nd cd]);have HL := iD hL; have HN := iD hn; have HD := iD hd; have HS := iD hs; have Da := iD Bj; have CU := iD Bc; have H0 := iD h0; have HE := iD Ae; have HA := iD hA;clear hL hn hd hs Bj Bc h0 Ae hA
 go_enter func136, ntmps136
 go_wp2_with fail
 generalize World.alloc _ _ = W at *;have hz := HB.size;have HC := iD (vc An Ad As nn cn nd cd n c Bn Bd Bs ns ds s W (HL.below HB lR) (HN.below HB Ce) (HD.below HB BN) (HS.below HB Ci) (by omega) (by omega) (by omega) Da CU);rw [H0.out] at HC;refine HC.mono ?_;rintro e w1 ⟨rfl, AX⟩;have AL := iD (HB.trans (AX.mono hz));have DV := iD (HK.below AX HK.lt);have Fj := AL.size;clear AX HC HB HK hz;obtain ⟨k0, k1⟩ := DV.d2
 go_wp2_with fail
 clear k0 k1;refine (ld An Ad As nn cn nd cd n c Bn Bd Bs ns ds s w1 (HN.below AL Ce) (by omega) (HD.below AL BN) (by omega) (HS.below AL Ci) (by omega) Bq AB hl HE HA).mono ?_;rintro e w2 ⟨Ao, m, co, out, rfl, hO, Ue, AQ⟩
 go_wp2_with fail
 go_ret2;exact ⟨Ao, m, co, out, rfl, hO.mono Fj, Ue, AL.trans (AQ.mono Fj)⟩
def CuR (W : World) (m gk : Nat) (sv iv : Value) (wr : World) : Prop := ∃ (i : Nat) (k : Int), iv = .int .i64 i ∧ sv = .int .i64 k ∧ i ≤ m ∧ gk = m - i ∧ Hid (bW W wr)
theorem kC (An Ad A : Option Addr) (nn cn nd cd m c Bn B : Nat) (ns : List Nd) (l : List Int) (w : World) (hn : Sl w Bn 3 An nn cn (ns.flatMap Nd.cells)) (Ce : Bn ≤ w.heap.size) (hs : Sl w B 1 A m c (zF l)) (hB : B ≤ w.heap.size) (hl : ∀ v ∈ l, 0 ≤ v ∧ v < nn) :
 Calls prog 139 #[.agg #[.slice An nn cn, .slice Ad nd cd], .slice A m c] w fun e w' => ∃ k : Int, e = .returned (.int .i64 k) ∧ Hid (bW w w') := by
 have Bi : Hid (Below w.heap.size w (w.alloc (.cells #[.slice An nn cn, .slice Ad nd cd] 26))) := (Below.refl _ _).alloc lR _;have HK := iD (AJ.new w 26 #[.slice An nn cn, .slice Ad nd cd]);have HN := iD hn; have HS := iD hs; have HI := iD hl;have Vf := hn.le; have AU := hs.le;clear hn hs hl
 go_enter func139, ntmps139
 go_wp2_with fail
 generalize World.alloc _ _ = W at *
 go_loopg [5, 10] m (CuR W m)
 case atStart => exact ⟨0, 0, rfl, rfl, Nat.zero_le _, rfl, Below.refl _ _⟩
 case round =>
  obtain ⟨i, k, rfl, rfl, hi, rfl, AZ⟩ := hrel;have AL := iD (Bi.trans (AZ.mono Bi.size));by_cases hlt : i < m
  ·obtain ⟨b, off, v, rfl, hb, hv, hc⟩ := (HS.below AL hB).at1 hlt;obtain ⟨KI, DC⟩ := HI v (List.mem_of_getElem? hv);obtain ⟨t, rfl⟩ := Int.eq_ofNat_of_zero_le KI;have AP : t < nn := by omega
   obtain ⟨b1, NR, z, rfl, AX, hz, Lp⟩ := (HN.below AL Ce).at (fun _ => rfl) (by decide) AP;obtain ⟨EC, cu, Cn⟩ := z;have c1 : wr.cell? ⟨b1, NR + t * 3 + 1, none⟩ = some (.int .i64 cu) := Lp 1 _ rfl;have k0 := (HK.below AZ HK.lt).c0;clear Lp hz hv
   go_wp2_with fail
   go_roundg (m - (i + 1))
   ·exact ⟨i + 1, _, by go_num, rfl, by omega, rfl, AZ⟩
   omega
  ·obtain rfl : i = m := by omega
   have Ck : decide (i < i) = false := by simp
   go_wp2_with fail
   go_ret;exact ⟨k, rfl, AL⟩
def ry (a b : List Int) (i : Nat) (out : List Int) : Prop := out.length ≤ i ∧ ∀ x : Int, x ∈ out ↔ x ∈ a.take i ∧ x ∉ b
theorem ry.start (a b : List Int) : ry a b 0 [] := ⟨Nat.le_refl _, fun x => by simp⟩
theorem ry.pass {a b out : List Int} {i : Nat} {x : Int} (h : ry a b i out) (hx : a[i]? = some x) (hm : x ∈ b) : ry a b (i + 1) out := by
 refine ⟨by have := h.1; omega, fun y => (h.2 y).trans ?_⟩;rw [zO hx, List.mem_append, List.mem_singleton];exact ⟨fun k => ⟨.inl k.1, k.2⟩, fun k => ⟨k.1.elim id (fun e => by subst e; exact absurd hm k.2), k.2⟩⟩
theorem ry.put {a b out : List Int} {i : Nat} {x : Int} (h : ry a b i out) (hx : a[i]? = some x) (hm : x ∉ b) : ry a b (i + 1) (out ++ [x]) := by
 refine ⟨by have := h.1; simp; omega, fun y => ?_⟩;rw [zO hx, List.mem_append, List.mem_singleton, List.mem_append, List.mem_singleton, h.2 y];exact ⟨fun k => k.elim (fun k => ⟨.inl k.1, k.2⟩) (fun e => by subst e; exact ⟨.inr rfl, hm⟩), fun k => k.1.elim (fun k1 => .inl ⟨k1, k.2⟩) .inr⟩
def gg (w3 : World) (a b : List Int) (na gk : Nat) (ov iv : Value) (wr : World) : Prop := ∃ (i m co : Nat) (Ao : Option Addr) (out : List Int), iv = .int .i64 i ∧ ov = .slice Ao m co ∧ i ≤ na ∧ gk = na - i ∧ Hid (zN wr w3.heap.size Ao m co out) ∧ Hid (bW w3 wr) ∧ Hid (ry a b i out)
def lS (ns : List Nd) (ds : List Dv) (s s2 out : List Int) : Prop := ∀ x : Int, x ∈ out ↔ ∃ (k : Nat) (y : Nd), x = k ∧ ns[k]? = some y ∧ 0 < y.cust ∧ Ha ds s k ∧ ¬ Ha ds s2 k
theorem qP (An Ad As At : Option Addr) (nn cn nd cd n c n2 c2 : Nat) (ns : List Nd) (ds : List Dv) (s s2 : List Int) (w : World) (hn : Av w 3 An nn cn (ns.flatMap Nd.cells)) (hd : Av w 5 Ad nd cd (ds.flatMap Dv.cells)) (hs : Av w 1 As n c (zF s)) (IK : Av w 1 At n2 c2 (zF s2))
 (Bj : FO ns) (Bc : GH ds) (Bq : nn ≤ 10000) (VV : zG ns ds s = 0) (VU : zG ns ds s2 = 0) (AV : nd ≤ n) (Mm : nd ≤ n2) (Ae : xA nn ds ∧ ∀ x ∈ ds, zV x.kind = true → x.b ≠ x.a) (hA : Ki nn ds ∧ ∀ x ∈ ds, 1 ≤ x.kind ∧ x.kind ≤ 6) :
 Calls prog 75 #[.agg #[.slice An nn cn, .slice Ad nd cd], .slice As n c, .slice At n2 c2] w fun e w' => ∃ Ao m co out k, e = .returned (.tuple #[.slice Ao m co, .int .i64 k, .int .i64 0]) ∧ Hid (out.length = m) ∧ Hid (m ≤ nn) ∧ Hid (lS ns ds s s2 out) ∧ Hid (bW w w') := by
 have Ch := iD (hn.len (fun _ => rfl) (by decide));have HN := iD hn; have HD := iD hd; have HS := iD hs; have Db := iD IK;have Gg := iD (And.intro Bj Bc);have HE := iD Ae; have HA := iD hA; have JC := iD VV; have AH := iD VU;clear hn hd hs IK Bj Bc VV VU Ae hA
 go_enter func75, ntmps75
 go_upto_region 1 with (fail);have HB := iD (AJ.new w 26 #[.slice An nn cn, .slice Ad nd cd]);have HW : Hid (Below w.heap.size w (w.alloc (.cells #[.slice An nn cn, .slice Ad nd cd] 26))) := (Below.refl _ _).alloc lR _;generalize World.alloc _ _ = w1 at *;obtain ⟨nb, CP⟩ := eX w.heap.size;rw [← CP] at HB ⊢;clear CP;obtain ⟨k0, k1⟩ := HB.d2
 go_wp2_with fail
 clear k0 k1;refine (qM An Ad As nn cn nd cd n c ns ds s w1 ((HN.below HW lR).more HW.size) ((HD.below HW lR).more HW.size) ((HS.below HW lR).more HW.size) Gg.1 Gg.2 Bq JC ⟨AV, HE⟩ HA).mono ?_;rintro e w2 ⟨Aa, ma, ca, la, rfl, RI, Sj, AQ⟩;have AY := iD (HB.below AQ HB.lt);have Iz := iD (HW.trans (AQ.mono HW.size));clear HB AQ HW;obtain ⟨k0, k1⟩ := AY.d2
 go_wp2_with fail
 clear k0 k1;refine (qM An Ad At nn cn nd cd n2 c2 ns ds s2 w2 ((HN.below Iz lR).more Iz.size) ((HD.below Iz lR).more Iz.size) ((Db.below Iz lR).more Iz.size) Gg.1 Gg.2 Bq AH ⟨Mm, HE⟩ HA).mono ?_;rintro e w3 ⟨Ab, mb, cb, lb, rfl, WB, Af, BJ⟩;have CS := iD (AY.below BJ AY.lt);have AO := iD (Iz.trans (BJ.mono Iz.size));have PX := iD (RI.later BJ).sl;have Ff := iD WB.sl;have Gj := iD RI.len;have Ah : ma ≤ nn := by have := Sj.1; rw [Gj.out, Ch.out] at this; exact this
 clear AY BJ Iz RI WB
 go_wp2_with fail
 go_loopg [12, 13] ma (gg w3 la lb ma)
 case atStart => exact ⟨0, 0, 0, none, [], rfl, rfl, Nat.zero_le _, rfl, World.ownsRow_nil _ _ _ _, Below.refl _ _, ry.start _ _⟩
 case round =>
  obtain ⟨i, m, co, Ao, out, rfl, rfl, hi, rfl, hO, AZ, Ig⟩ := hrel;by_cases hlt : i < ma
  ·obtain ⟨b, off, x, rfl, hb, hx, hc⟩ := (PX.below AZ lR).at1 hlt;have HX := iD hx;have HR := iD (tN Ab mb cb lb x wr ((Ff.below AZ lR).more AZ.size));clear hx;rcases hm : decide (x ∈ lb) with _ | _
   ·rw [hm] at HR;have HI := iD (Ig.put HX (by simpa using hm));have UR : m ≤ nn := by have := Ig.1; rw [hO.len] at this; omega
    have UM := AZ.size;clear hm
    go_wp2_with fail
    refine HR.mono ?_;rintro e w4 ⟨rfl, rfl⟩
    go_wp2_with (at_builtin; go_must (refine zL rfl (.tmp 45) (.tmp 50) rfl yl (by rfl) (hO.alloc _) (by rfl) (Sl.newest (n := 1) (by simp) (by rfl) (by decide)) (by simp [Value.oneCell']) (by omega) (by omega) (by simp; omega) ?_; intro A' cap' w3 Bv Cr ER; have BU := iD Bv; have DW := iD Cr; clear Bv Cr ER))
    go_roundg (ma - (i + 1))
    case rel =>
     refine ⟨i + 1, m + 1, cap', A', out ++ [x], by go_num, rfl, by omega, rfl, ?_, ?_, HI⟩
     ·have := BU.out;unfold Hid zN;rw [yL];exact this
     ·refine (AZ.alloc AZ.size _).trans ⟨DW.os, DW.tape, DW.output, DW.size, fun i hi => DW.block i (by simp; omega) (fun e => ?_)⟩;have := (hO.lt i e.symm).1;omega
    case measure => omega
   ·rw [hm] at HR;have HI := iD (Ig.pass HX (by simpa using hm));clear hm
    go_wp2_with fail
    refine HR.mono ?_;rintro e w4 ⟨rfl, rfl⟩
    go_wp2_with fail
    go_roundg (ma - (i + 1))
    ·exact ⟨i + 1, m, co, Ao, out, by go_num, rfl, by omega, rfl, hO, AZ, HI⟩
    omega
  ·obtain rfl : i = ma := by omega
   have Ck : decide (i < i) = false := by simp
   obtain ⟨k0, k1⟩ := (CS.below AZ CS.lt).d2;have AE := iD (AO.trans (AZ.mono AO.size))
   have Gi : Hid (lS ns ds s s2 out) := fun x => by
    rw [Ig.2 x, List.take_of_length_le (by rw [Gj.out]; exact Nat.le_refl _), Sj.2 x, Af.2 x]
    constructor
    ·rintro ⟨⟨k, y, e, hy, hu, hc⟩, h2⟩; exact ⟨k, y, e, hy, hu, hc, fun h => h2 ⟨k, y, e, hy, hu, h⟩⟩
    ·rintro ⟨k, y, e, hy, hu, hc, h2⟩;refine ⟨⟨k, y, e, hy, hu, hc⟩, ?_⟩;rintro ⟨k', y', e', _, _, h⟩;obtain rfl : k = k' := by omega
     exact h2 h
   have KU := iD hO.len;have UR : m ≤ nn := by have := Ig.1; rw [KU.out] at this; omega
   go_wp2_with fail
   clear k0 k1
   refine (kc An Ad Ao nn cn nd cd m co ns out wr ((HN.below AE lR).more AE.size) hO.sl (fun x hx => by
    obtain ⟨k, y, rfl, hy, _⟩ := (Gi x).1 hx;have := (List.getElem?_eq_some_iff.1 hy).1;rw [Ch.out] at this;omega)).mono ?_
   rintro e w5 ⟨⟨k, rfl⟩, BM⟩
   go_wp2_with fail
   go_ret3;exact ⟨Ao, m, co, out, k, rfl, KU, UR, Gi, AE.trans (BM.mono AE.size)⟩
def zH (ns : List Nd) (ds : List Dv) (ls : List Lk) : Int := if zR ns ds ≠ 0 then zR ns ds else if 128 < ls.length then 1 else yN ds ls ls.length
theorem qX {ds : List Dv} {x : Dv} {i : Nat} (h : ds[i]? = some x) : rR ds (i : Int) = x.kind := by unfold rR; rw [Int.toNat_natCast, h]
theorem rH (An Ad : Option Addr) (nn cn nd cd Bd : Nat) (ds : List Dv) (d p q : Int) (w : World) (hd : Sl w Bd 5 Ad nd cd (ds.flatMap Dv.cells)) (BN : Bd ≤ w.heap.size) :
 Calls prog 55 #[.agg #[.slice An nn cn, .slice Ad nd cd], .agg #[.int .i64 d, .int .i64 p, .int .i64 q]] w fun e w' => e = .returned (.int .i64 (zy ds ⟨d, p, q⟩)) ∧ bW w w' := by
 have Fx := iD (hd.len (fun _ => rfl) (by decide));have HE : Hid (zy ds ⟨d, p, q⟩ = if d < 0 then 8 else if (nd : Int) ≤ d then 8 else if rR ds d = 5 then 6 else if p ≠ 1 ∧ p ≠ 2 then 10 else if q < 0 then 5 else if 65536 < q then 5 else 0) := by unfold Hid zy; rw [Fx.out]
 have HB : Hid (Below w.heap.size w ((w.alloc (.cells #[.slice An nn cn, .slice Ad nd cd] 26)).alloc (.cells #[.int .i64 d, .int .i64 p, .int .i64 q] 87))) := ((Below.refl _ _).alloc lR _).alloc (by simp) _;have Ol := iD ((hd.alloc BN (.cells #[.slice An nn cn, .slice Ad nd cd] 26)).alloc (by simp; omega) (.cells #[.int .i64 d, .int .i64 p, .int .i64 q] 87));have MO := hd.le;clear hd;by_cases h1 : d < 0
 ·have q1 : decide (d < 0) = true := by simpa using h1
  go_enter func55, ntmps55
  go_wp2_with fail
  go_ret;exact ⟨zC (by rw [HE.out, if_pos h1]), HB⟩
 have q1 : decide (d < 0) = false := by simpa using h1
 by_cases h2 : (nd : Int) ≤ d
 ·have q2 : decide ((nd : Int) ≤ d) = true := by simpa using h2
  go_enter func55, ntmps55
  go_wp2_with fail
  go_ret;exact ⟨zC (by rw [HE.out, if_neg (by omega), if_pos h2]), HB⟩
 obtain ⟨i, rfl⟩ := Int.eq_ofNat_of_zero_le (show 0 ≤ d by omega);have Ig : i < nd := by omega
 have q2 : decide (nd ≤ i) = false := by simp; omega
 obtain ⟨b0, off, x, rfl, Fs, hx, hc⟩ := Ol.at (fun _ => rfl) (by decide) Ig;have HX := iD (qX hx);obtain ⟨nm, kd, xa, xb, co⟩ := x;have c1 := hc 1 _ rfl;clear hc hx;by_cases h3 : kd = 5
 ·subst h3
  go_enter func55, ntmps55
  go_wp2_with fail
  go_ret;exact ⟨zC (by rw [HE.out, if_neg (by omega), if_neg (by omega), HX.out, if_pos rfl]), HB⟩
 have q3 : (kd == 5) = false := by simpa using h3
 have HR : Hid (zy ds ⟨(i : Int), p, q⟩ = if p ≠ 1 ∧ p ≠ 2 then 10 else if q < 0 then 5 else if 65536 < q then 5 else 0) := by unfold Hid; rw [HE.out, if_neg (by omega), if_neg (by omega), HX.out, if_neg h3]
 clear h1 h2 h3 HE HX;by_cases h4 : p = 1 ∨ p = 2
 ·have FK : Hid (zy ds ⟨(i : Int), p, q⟩ = if q < 0 then 5 else if 65536 < q then 5 else 0) := by unfold Hid; rw [HR.out, if_neg (by omega)]
  clear HR;by_cases h5 : q < 0
  ·have q5 : decide (q < 0) = true := by simpa using h5
   rcases h4 with rfl | rfl
   all_goals
    go_enter func55, ntmps55
    go_wp2_with fail
    go_ret;exact ⟨zC (by rw [FK.out, if_pos h5]), HB⟩
  have q5 : decide (q < 0) = false := by simpa using h5
  by_cases h6 : 65536 < q
  ·have q6 : decide (65536 < q) = true := by simpa using h6
   rcases h4 with rfl | rfl
   all_goals
    go_enter func55, ntmps55
    go_wp2_with fail
    go_ret;exact ⟨zC (by rw [FK.out, if_neg (by omega), if_pos h6]), HB⟩
  have q6 : decide (65536 < q) = false := by simpa using h6
  rcases h4 with rfl | rfl
  all_goals
   go_enter func55, ntmps55
   go_wp2_with fail
   go_ret;exact ⟨zC (by rw [FK.out, if_neg (by omega), if_neg (by omega)]), HB⟩
 ·have p1 : (p != 1) = true := by simp; omega
  have p2 : (p != 2) = true := by simp; omega
  go_enter func55, ntmps55
  go_wp2_with fail
  go_ret;exact ⟨zC (by rw [HR.out, if_pos (by omega)]), HB⟩
theorem rf (a b : Lk) (w : World) : Calls prog 57 #[.agg #[.int .i64 a.dev, .int .i64 a.pos, .int .i64 a.key], .agg #[.int .i64 b.dev, .int .i64 b.pos, .int .i64 b.key]] w fun e w' => e = .returned (.bool (zu a b)) ∧ bW w w' := by
 obtain ⟨d, p, q⟩ := a;obtain ⟨d2, p2, q2⟩ := b;have HB : Hid (Below w.heap.size w ((w.alloc (.cells #[.int .i64 d, .int .i64 p, .int .i64 q] 87)).alloc (.cells #[.int .i64 d2, .int .i64 p2, .int .i64 q2] 87))) := ((Below.refl _ _).alloc lR _).alloc (by simp) _;by_cases h1 : d < d2
 ·have e1 : decide (d < d2) = true := by simpa using h1
  have HR : Hid (zu ⟨d, p, q⟩ ⟨d2, p2, q2⟩ = true) := (uU _ _).2 (.inl h1)
  go_enter func57, ntmps57
  go_wp2_with fail
  go_ret;exact ⟨zE HR.symm, HB⟩
 have e1 : decide (d < d2) = false := by simpa using h1
 by_cases h2 : d = d2
 ·subst h2;have HR : Hid (zu ⟨d, p, q⟩ ⟨d, p2, q2⟩ = decide (q < q2)) := by unfold Hid zu; simp
  go_enter func57, ntmps57
  go_wp2_with fail
  go_ret;exact ⟨zE HR.symm, HB⟩
 ·have e2 : (d == d2) = false := by simpa using h2
  have HR : Hid (zu ⟨d, p, q⟩ ⟨d2, p2, q2⟩ = false) := by unfold Hid zu; simp; omega
  go_enter func57, ntmps57
  go_wp2_with fail
  go_ret;exact ⟨zE HR.symm, HB⟩
def oh (ls : List Lk) (d : Int) : Ending := .returned (.tuple #[.int .i64 ((wL ls d).getD 0), .bool (wL ls d).isSome])
theorem jI {ls : List Lk} {d : Int} : ∀ {i : Nat}, (∀ x ∈ ls.take i, x.dev ≠ d) → wL ls d = wL (ls.drop i) d := by
 intro i
 induction i generalizing ls with
 | zero => intro _; rfl
 | succ i ih =>
  intro h;cases ls with
  | nil => rfl
  | cons x l =>
   rw [wL, if_neg (h x (by simp)), List.drop_succ_cons];exact ih fun y hy => h y (by simp [hy])
theorem mt {ls : List Lk} {d : Int} {i : Nat} {x : Lk} (h : ∀ x ∈ ls.take i, x.dev ≠ d) (hx : ls[i]? = some x) (hd : x.dev = d) : wL ls d = some x.pos := by
 rw [jI h];have hi := (List.getElem?_eq_some_iff.1 hx).1;rw [List.drop_eq_getElem_cons hi, wL];have : ls[i] = x := by have := List.getElem?_eq_some_iff.1 hx; exact this.2
 rw [this, if_pos hd]
def gj (w : World) (ls : List Lk) (d : Int) (n gk : Nat) (iv : Value) (wr : World) : Prop := ∃ i : Nat, iv = .int .i64 i ∧ i ≤ n ∧ gk = n - i ∧ Hid (∀ x ∈ ls.take i, x.dev ≠ d) ∧ Hid (bW w wr)
theorem oI (A : Option Addr) (n c B : Nat) (ls : List Lk) (d : Int) (w : World) (hs : Sl w B 3 A n c (ls.flatMap Lk.cells)) (hB : B ≤ w.heap.size) :
 Calls prog 56 #[.slice A n c, .int .i64 d] w fun e w' => e = oh ls d ∧ bW w w' := by
 have Ch := iD (hs.len (fun _ => rfl) (by decide)); have HS := iD hs;have hle := hs.le;clear hs
 go_enter func56, ntmps56
 go_wp2_with fail
 go_loopg [6] n (gj w ls d n)
 case atStart => exact ⟨0, rfl, Nat.zero_le _, rfl, (fun x hx => by simp at hx), Below.refl _ _⟩
 case round =>
  obtain ⟨i, rfl, hi, rfl, hno, AZ⟩ := hrel;by_cases hlt : i < n
  ·obtain ⟨b, off, d1, p1, q1, rfl, hb, hx, c0, c1, c2⟩ := (HS.below AZ hB).lock hlt;have HX := iD hx;clear hx c2;by_cases hd : d1 = d
   ·subst hd;have HR : Hid (wL ls d1 = some p1) := mt hno HX rfl;have qq : (d1 == d1) = true := by simp
    go_wp2_with fail
    go_ret2;exact ⟨by unfold oh; rw [HR.out]; rfl, AZ⟩
   ·have qq : (d1 == d) = false := by simpa using hd
    have HN : Hid (∀ x ∈ ls.take (i + 1), x.dev ≠ d) := fun x hx => by
     rw [zO HX.out] at hx;rcases List.mem_append.1 hx with h | h
     ·exact hno x h
     ·rw [List.mem_singleton.1 h]; exact hd
    clear hd
    go_wp2_with fail
    go_roundg (n - (i + 1))
    ·exact ⟨i + 1, by go_num, by omega, rfl, HN, AZ⟩
    omega
  ·obtain rfl : i = n := by omega
   have Ck : decide (i < i) = false := by simp
   have HR : Hid (wL ls d = none) := by
    have := hno.out;rw [List.take_of_length_le (by rw [Ch.out]; exact Nat.le_refl _)] at this;exact uD.2 this
   go_wp2_with fail
   go_ret2;exact ⟨by unfold oh; rw [HR.out]; rfl, AZ⟩
section
variable {w : World} {B size n c k : Nat} {A : Option Addr} {α : Type} {f : α → List Value} {l : List α}
theorem Sl.takeK (h : Sl w B size A n c (l.flatMap f)) (hf : ∀ x, (f x).length = size) (hs : 0 < size) (hk : k ≤ n) : Sl w B size A k c ((l.take k).flatMap f) := by
 have hl := h.len hf hs;obtain ⟨h1, h2, h3, h4, h5⟩ := h;refine ⟨by rw [yF hf, List.length_take, Nat.min_eq_left (by omega)], by omega, h3, h4, fun hp => ?_⟩;obtain ⟨b, off, e, hb, hc⟩ := h5 (by omega);refine ⟨b, off, e, hb, fun j u hu => hc j u ?_⟩;rw [← List.take_append_drop k l, List.flatMap_append, List.getElem?_append_left (List.getElem?_eq_some_iff.1 hu).1];exact hu
def sX (A : Option Addr) (c k size : Nat) : Option Addr := if c = k then A else A.map (·.add (k * size))
theorem Sl.dropK (h : Sl w B size A n c (l.flatMap f)) (hf : ∀ x, (f x).length = size) (hs : 0 < size) (hk : k ≤ n) : Sl w B size (sX A c k size) (n - k) (c - k) ((l.drop k).flatMap f) := by
 have hl := h.len hf hs;obtain ⟨h1, h2, h3, h4, h5⟩ := h;refine ⟨by rw [yF hf, List.length_drop, hl], by omega, by omega, fun e => ?_, fun hp => ?_⟩
 ·unfold sX at e;split at e
  ·omega
  ·cases A with
   | none => have := h4 rfl; omega
   | some a => cases e
 ·obtain ⟨b, off, e, hb, hc⟩ := h5 (by omega);subst e;refine ⟨b, off + k * size, by unfold sX; rw [if_neg (by omega), Option.map_some, xP], hb, fun j u hu => ?_⟩
  have := hc (k * size + j) u (by
   rw [← List.take_append_drop k l, List.flatMap_append, List.getElem?_append_right (by rw [yF hf, List.length_take, Nat.min_eq_left (by omega)]; omega), yF hf, List.length_take, Nat.min_eq_left (by omega), show k * size + j - k * size = j by omega];exact hu)
  rw [Nat.add_assoc]; exact this
end
theorem vC (w : World) (A : Option Addr) (n c k : Nat) (hk : k ≤ n) : (Instr.sliceAt 27 (.slice A n c) (some (.int .i64 (k : Int))) none none).run prog w = .ok (.slice (sX A c k 3) (n - k) (c - k)) w := by
 rw [run_sliceAt_slice _ _ _ _ _ _ (by kernel_rfl), run_slice_l _ _ _ _ _ (by kernel_rfl) _ _ (by omega) (by omega)];have : (sizeOf (prog.elem 27)).run prog w = .ok 3 w := by kernel_rfl
 rw [this];simp [sliced, sX, Result.andThen]
def nP (g : Nat) (lb : Array Value) (p : Lk → Bool) (w : World) : Prop :=
 ∀ (W : World) (d q r : Int), Below w.heap.size w W → Calls prog g (#[.agg #[.int .i64 d, .int .i64 q, .int .i64 r]] ++ lb) W fun e w' => e = .returned (.bool (p ⟨d, q, r⟩)) ∧ Below w.heap.size w w'
def IfR (w : World) (ls : List Lk) (p : Lk → Bool) (n gk : Nat) (_kv iv : Value) (wr : World) : Prop := ∃ i : Nat, iv = .int .i64 i ∧ i ≤ n ∧ gk = n - i ∧ Hid (∀ x ∈ ls.take i, p x = false) ∧ Hid (bW w wr)
theorem jN (g : Nat) (lb : Array Value) (p : Lk → Bool) (eg : ∀ args w, (callFunc g args).run prog w = .ok (.enter g args) w) (A : Option Addr) (n c B : Nat) (ls : List Lk) (w : World) (hs : Sl w B 3 A n c (ls.flatMap Lk.cells)) (hB : B ≤ w.heap.size) (hp : nP g lb p w) :
 Calls prog 132 #[.slice A n c, .func (.func g) #[] lb] w fun e w' => (∃ i : Int, e = .returned (.int .i64 i) ∧ Hid (decide (0 ≤ i) = ls.any p)) ∧ bW w w' := by
 have Ch := iD (hs.len (fun _ => rfl) (by decide)); have HS := iD hs;have hle := hs.le;have HP := iD hp;clear hs hp
 go_enter func132, ntmps132
 go_wp2_with fail
 go_loopg [5, 8] n (IfR w ls p n)
 case atStart => exact ⟨0, rfl, Nat.zero_le _, rfl, (fun x hx => by simp at hx), Below.refl _ _⟩
 case round =>
  obtain ⟨i, rfl, hi, rfl, hno, AZ⟩ := hrel;by_cases hlt : i < n
  ·obtain ⟨b, off, d1, p1, q1, rfl, hb, hx, c0, c1, c2⟩ := (HS.below AZ hB).lock hlt;have HX := iD hx;have Lr := HP wr d1 p1 q1 AZ.out;clear hx;rcases hq : p ⟨d1, p1, q1⟩ with _ | _
   ·rw [hq] at Lr
    have HN : Hid (∀ x ∈ ls.take (i + 1), p x = false) := fun x hx => by
     rw [zO HX.out] at hx;rcases List.mem_append.1 hx with h | h
     ·exact hno x h
     ·rw [List.mem_singleton.1 h]; exact hq
    clear hq
    go_wp2_with (go_at_fn g; refine Lr.mono ?_; rintro e w' ⟨rfl, hb'⟩)
    go_roundg (n - (i + 1))
    ·exact ⟨i + 1, by go_num, by omega, rfl, HN, hb'⟩
    omega
   ·rw [hq] at Lr
    have HR : Hid (decide (0 ≤ (i : Int)) = ls.any p) := by
     unfold Hid;rw [decide_eq_true (by omega)]
     symm
     rw [List.any_eq_true];exact ⟨_, List.mem_of_getElem? HX, hq⟩
    clear hq
    go_wp2_with (go_at_fn g; refine Lr.mono ?_; rintro e w' ⟨rfl, hb'⟩)
    go_ret;exact ⟨⟨_, rfl, HR⟩, hb'⟩
  ·obtain rfl : i = n := by omega
   have Ck : decide (i < i) = false := by simp
   have HR : Hid (decide (0 ≤ (-1 : Int)) = ls.any p) := by
    have := hno.out;rw [List.take_of_length_le (by rw [Ch.out]; exact Nat.le_refl _)] at this;unfold Hid;rw [decide_eq_false (by omega)]
    symm
    rw [List.any_eq_false];intro x hx;rw [this x hx]; simp
   go_wp2_with fail
   go_ret;exact ⟨⟨_, rfl, HR⟩, AZ⟩
theorem tr (g : Nat) (lb : Array Value) (p : Lk → Bool) (eg : ∀ args w, (callFunc g args).run prog w = .ok (.enter g args) w) (A : Option Addr) (n c B : Nat) (ls : List Lk) (w : World) (hs : Sl w B 3 A n c (ls.flatMap Lk.cells)) (hB : B ≤ w.heap.size) (hp : nP g lb p w) :
 Calls prog 108 #[.slice A n c, .func (.func g) #[] lb] w fun e w' => e = .returned (.bool (ls.any p)) ∧ bW w w' := by
 have HI := iD (jN g lb p eg A n c B ls w hs hB hp);clear hs hp
 go_enter func108, ntmps108
 go_wp2_with fail
 refine HI.mono ?_;rintro e w1 ⟨⟨i, rfl, hi⟩, hb⟩
 go_wp2_with fail
 go_ret;exact ⟨zE hi, hb⟩
end Go.Proofs.YtddddlhgaeameaaGreatDoor
