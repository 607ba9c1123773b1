import Derived.Test.YtddddlhgaeameaaGreatDoorJ24
import Derived.Shelf.SlicesE.DeleteFunc
import Derived.Lib.SliceRun
set_option maxRecDepth 100000
set_option maxHeartbeats 4000000
namespace Go.Proofs.YtddddlhgaeameaaGreatDoor
open Go.RowKit Tryz
section
theorem tE {a l : List Int} (h : l.Perm a) (hs : l.Pairwise (· ≤ ·)) : vJ a = l :=
 List.Perm.eq_of_pairwise (le := fun x y : Int => x ≤ y) (fun _ _ _ _ h1 h2 => Int.le_antisymm h1 h2) (pJ a) hs ((rC a).trans h.symm)
def zk (ls : List Lk) (d : Int) : Bool := ls.any fun k => decide (k.dev = d)
def Cz (c : List Int) (x : Dv) : Bool := yw (bits .or .i64 (c.getD x.a.toNat 0) (c.getD x.b.toNat 0))
def ya (kd p du : Int) (lv : Bool) : Bool := if kd = 3 then decide (du = 2) || decide (du = 3) || decide (du = 4) else if kd = 1 then lv else if kd = 4 then decide (p = 1) && decide (du = 4) else if kd = 6 then decide (p = 2) && decide (du = 3) else decide (kd = 5)
def gh (ns : List Nd) (ds : List Dv) (s s2 : List Int) : Prop := ∃ (k : Nat) (y : Nd), ns[k]? = some y ∧ 0 < y.cust ∧ Ha ds s k ∧ ¬ Ha ds s2 k
open Classical in
noncomputable def ye (ns : List Nd) (ds : List Dv) (s s2 : List Int) : Bool := decide (gh ns ds s s2)
def xr (b : Bool) (h : Int) : List Int := if b = true then [h] else []
def Qr (f1 f2 f3 f4 f5 f6 f7 : Bool) : List Int := xr f1 1 ++ xr f2 2 ++ xr f3 3 ++ xr f4 4 ++ xr f5 5 ++ xr f6 6 ++ xr f7 7
theorem xw (b : Bool) (h : Int) : (xr b h).length ≤ 1 := by cases b <;> simp [xr]
def ur (fs : List (Int × Bool)) : List Int := (fs.filter (·.2)).map (·.1)
theorem gw (a b c : Bool) : vJ (ur [(4, a), (6, b), (7, c)]) = Qr false false false a false b c := by
 cases a <;> cases b <;> cases c <;> exact tE (by decide) (by decide)
theorem gv (a b c d e f : Bool) : vJ (ur [(4, a), (6, b), (1, c), (2, d), (3, e), (5, f)]) = Qr c d e a f b false := by
 cases a <;> cases b <;> cases c <;> cases d <;> cases e <;> cases f <;> exact tE (by decide) (by decide)
noncomputable def uq (nn : Nat) (ns : List Nd) (ds : List Dv) (s : List Int) (d : Nat) (p co : Int) (ls : List Lk) (pr : List Int) (x : Dv) : List Int :=
 if s.getD d 0 = p then Qr false false false (zk ls d) false ((x.comp != co)) true
 else Qr (decide (p = 2) && decide (xI nn ns ds s d x = 4)) (ya x.kind p (xI nn ns ds s d x) (Cz (zW nn ds s) x)) (ye ns ds s (zX s d p)) (zk ls d) (decide (p = 2) && decide (x.kind = 4) && !vA pr x.a) ((x.comp != co)) false
def gB (F : Int → Prop) (out : List Int) : Prop := out.Nodup ∧ out.Pairwise (· ≤ ·) ∧ ∀ h : Int, h ∈ out ↔ F h
theorem gB.unique {F : Int → Prop} {a b : List Int} (h : gB F a) (k : gB F b) : a = b := by
 rw [← tE (List.Perm.refl a) h.2.1];exact tE ((List.perm_ext_iff_of_nodup k.1 h.1).2 fun x => (k.2.2 x).trans (h.2.2 x).symm) k.2.1
end
def fnC (f : Int × Bool) : List Value := [.int .i64 f.1, .bool f.2]
theorem jV {fs : List (Int × Bool)} {i : Nat} {h : Int} {b : Bool} (hx : fs[i]? = some (h, b)) : ur (fs.take (i + 1)) = ur (fs.take i) ++ xr b h := by
 unfold ur;rw [zO hx, List.filter_append, List.map_append];cases b <;> rfl
theorem lD : ∀ fs : List (Int × Bool), (ur fs).length ≤ fs.length := fun fs => by
 unfold ur; rw [List.length_map]; exact List.length_filter_le _ _
def LsR (w : World) (fs : List (Int × Bool)) (n gk : Nat) (ov iv : Value) (wr : World) : Prop := ∃ (i m co : Nat) (Ao : Option Addr), iv = .int .i64 i ∧ ov = .slice Ao m co ∧ i ≤ n ∧ gk = n - i ∧ Hid (zN wr w.heap.size Ao m co (ur (fs.take i))) ∧ Hid (bW w wr)
theorem tT (A : Option Addr) (n c B : Nat) (fs : List (Int × Bool)) (w : World) (hs : Sl w B 2 A n c (fs.flatMap fnC)) (hB : B ≤ w.heap.size) (hn : n ≤ 1000) :
 Calls prog 110 #[.slice A n c] w (wP w (vJ (ur fs))) := by
 have Ch := iD (hs.len (fun _ => rfl) (by decide)); have HS := iD hs;have hle := hs.le;clear hs
 go_enter func110, ntmps110
 go_wp2_with fail
 go_loopg [3, 8] n (LsR w fs n)
 case atStart => exact ⟨0, 0, 0, none, rfl, rfl, Nat.zero_le _, rfl, World.ownsRow_nil _ _ _ _, Below.refl _ _⟩
 case round =>
  obtain ⟨i, m, co, Ao, rfl, rfl, hi, rfl, hO, AZ⟩ := hrel;by_cases hlt : i < n
  ·obtain ⟨b, off, f, rfl, hb, hf, hc⟩ := (HS.below AZ hB).at (fun _ => rfl) (by decide) hlt;obtain ⟨h, t⟩ := f;have c0 : wr.cell? ⟨b, off + i * 2, none⟩ = some (.int .i64 h) := hc 0 _ rfl;have c1 : wr.cell? ⟨b, off + i * 2 + 1, none⟩ = some (.bool t) := hc 1 _ rfl;have HF := iD (jV hf);have CQ : Hid (Below w.heap.size w (wr.alloc (.cells #[.int .i64 h, .bool t] 156))) := AZ.alloc AZ.size _;have Gf : Hid (zN (wr.alloc (.cells #[.int .i64 h, .bool t] 156)) w.heap.size Ao m co (ur (fs.take i))) := hO.alloc _;have UR : m ≤ i := by have h1 := lD (fs.take i); have h2 := hO.len; rw [List.length_take] at h1; omega
   clear hc hf;rcases t with _ | _
   ·have CE : Hid (zN (wr.alloc (.cells #[.int .i64 h, .bool false] 156)) w.heap.size Ao m co (ur (fs.take (i + 1)))) := by
     unfold Hid; rw [HF.out, show xr false h = [] from rfl, List.append_nil]; exact Gf.out
    go_wp2_with fail
    go_roundg (n - (i + 1))
    ·exact ⟨i + 1, m, co, Ao, by go_num, rfl, by omega, rfl, CE, CQ⟩
    omega
   ·have UM := CQ.size;have Ac : Hid ((wr.alloc (.cells #[.int .i64 h, .bool true] 156)).cell? ⟨wr.heap.size, 0, none⟩ = some (.int .i64 h)) := (AJ.new wr 156 #[.int .i64 h, .bool true]).cell 0;go_upto_region 6 with (fail);generalize World.alloc wr _ = wq at *;clear c0 c1;have k0 := Ac.out
    go_wp2_with (at_builtin; go_must (refine zL rfl (.tmp 14) (.tmp 17) rfl yl (by rfl) (Gf.alloc _) (by rfl) (Sl.newest (n := 1) (by simp) (by rfl) (by decide)) (by simp [Value.oneCell']) (by omega) (by omega) (by simp; omega) ?_; intro A' cap' w3 Bv Cr ER; have BU := iD Bv; have DW := iD Cr; clear Bv Cr ER))
    go_roundg (n - (i + 1))
    case rel =>
     refine ⟨i + 1, m + 1, cap', A', by go_num, rfl, by omega, rfl, ?_, ?_⟩
     ·have := BU.out;unfold Hid zN;rw [HF.out, show xr true h = [h] from rfl, yL];exact this
     ·refine (CQ.alloc CQ.size _).trans ⟨DW.os, DW.tape, DW.output, DW.size, fun i hi => DW.block i (by simp; omega) (fun e => ?_)⟩;have := (Gf.lt i e.symm).1;omega
    case measure => omega
  ·obtain rfl : i = n := by omega
   have Ck : decide (i < i) = false := by simp
   have UR : m ≤ i := by have h1 := lD (fs.take i); have h2 := hO.len; rw [List.length_take] at h1; omega
   have HT : Hid (fs.take i = fs) := List.take_of_length_le (by rw [Ch.out]; exact Nat.le_refl _);rw [HT.out] at hO;have GV : Hid ((vJ (ur fs)).length = m) := by unfold Hid; rw [qF]; exact hO.len
   clear HS
   go_wp2_with fail
   refine (kW Ao m co w.heap.size (ur fs) wr hO (by omega)).mono ?_;rintro e w5 ⟨rfl, Ev, JQ⟩
   go_wp2_with fail
   go_ret;refine ⟨Ao, co, by rw [GV.out]; rfl, by unfold Hid; rw [GV.out]; exact Ev, AZ.trans ⟨JQ.os, JQ.tape, JQ.output, JQ.size, fun q hq => JQ.block q (by have := AZ.size; omega) (fun e => by have := (hO.lt q e.symm).1; omega)⟩⟩
theorem oq (An Ad As : Option Addr) (nn cn nd cd n c Bd Bs i : Nat) (ds : List Dv) (s : List Int) (x : Dv) (w : World) (hd : Sl w Bd 5 Ad nd cd (ds.flatMap Dv.cells)) (BN : Bd ≤ w.heap.size) (hs : Sl w Bs 1 As n c (zF s)) (Ci : Bs ≤ w.heap.size)
 (Bq : nn ≤ 10000) (AB : nd ≤ 10000) (hl : nd ≤ n) (Ae : xA nn ds) (hA : Ki nn ds) (hi : i < nd) (hx : ds[i]? = some x) (hk : zV x.kind = true) :
 Calls prog 140 #[.agg #[.slice An nn cn, .slice Ad nd cd], .slice As n c, .int .i64 i] w fun e w' => e = .returned (.bool (Cz (zW nn ds s) x)) ∧ bW w w' := by
 have Cy := iD (uG An Ad As nn cn nd cd n c Bd Bs ds s (w.alloc (.cells #[.slice An nn cn, .slice Ad nd cd] 26)) (hd.alloc BN _) (by simp; omega) (hs.alloc Ci _) (by simp; omega) Bq AB hl Ae hA);have HD := iD hd; have HX := iD hx;have Vr := hd.le;have Tj := iD (Ae x (List.mem_of_getElem? hx) hk);have HB := iD (AJ.new w 26 #[.slice An nn cn, .slice Ad nd cd]);have HW : Hid (Below w.heap.size w (w.alloc (.cells #[.slice An nn cn, .slice Ad nd cd] 26))) := (Below.refl _ _).alloc lR _;clear hd hs Ae hA hx hk
 go_enter func140, ntmps140
 go_wp2_with fail
 generalize World.alloc _ _ = w1 at *;obtain ⟨nb, CP⟩ := eX w.heap.size;rw [← CP] at HB ⊢;clear CP;refine Cy.mono ?_;rintro e w2 ⟨A1, A2, P, C, rfl, _, RH, _, LA, AQ⟩;have Au := iD (HB.below AQ HB.lt);have BF := iD (HW.trans (AQ.mono HW.size));have FM : Hid (zW nn ds s = C) := xN LA.out;have RU := iD RH.sl;clear Cy HB HW AQ RH;obtain ⟨b0, off, x', rfl, hb, hx', hc⟩ := (HD.below BF BN).at (fun _ => rfl) (by decide) hi;obtain rfl : x = x' := by have := HX.out; rw [this] at hx'; exact Option.some.inj hx'
 obtain ⟨nm, kd, a, b, co⟩ := x;obtain ⟨⟨IQ, AV⟩, Fs, AX⟩ := Tj.out;simp only at IQ AV Fs AX;obtain ⟨ka, rfl⟩ := Int.eq_ofNat_of_zero_le IQ;obtain ⟨kb, rfl⟩ := Int.eq_ofNat_of_zero_le Fs;obtain ⟨b2, Jc, va, e2, AQ, VO, Nr⟩ := RU.at1 (k := ka) (by omega);subst e2;obtain ⟨b3, Ah, vb, e3, BJ, EF, KL⟩ := RU.at1 (k := kb) (by omega);injection e3 with e3; injection e3 with e3 e4; subst e3 e4;have AU := RU.le
 have Ta : Hid (Cz C ⟨nm, kd, ka, kb, co⟩ = yw (bits .or .i64 va vb)) := by
  unfold Hid Cz; simp only [Int.toNat_natCast]; rw [yM VO, yM EF]
 have c0 : w2.cell? ⟨b0, off + i * 5, none⟩ = some (.string nm) := hc 0 _ rfl;have c1 : w2.cell? ⟨b0, off + i * 5 + 1, none⟩ = some (.int .i64 kd) := hc 1 _ rfl;have c2 : w2.cell? ⟨b0, off + i * 5 + 2, none⟩ = some (.int .i64 ka) := hc 2 _ rfl;have c3 : w2.cell? ⟨b0, off + i * 5 + 3, none⟩ = some (.int .i64 kb) := hc 3 _ rfl;have c4 : w2.cell? ⟨b0, off + i * 5 + 4, none⟩ = some (.int .i64 co) := hc 4 _ rfl;have k1 := Au.c1;have Co : Hid (Below w.heap.size w (w2.alloc (.cells #[.string nm, .int .i64 kd, .int .i64 ka, .int .i64 kb, .int .i64 co] 75))) := BF.alloc BF.size _;have GA := iD (AJ.new w2 75 #[.string nm, .int .i64 kd, .int .i64 ka, .int .i64 kb, .int .i64 co])
 have Af : Hid ((w2.alloc (.cells #[.string nm, .int .i64 kd, .int .i64 ka, .int .i64 kb, .int .i64 co] 75)).cell? ⟨b2, Jc + ka, none⟩ = some (.int .i64 va) ∧ (w2.alloc (.cells #[.string nm, .int .i64 kd, .int .i64 ka, .int .i64 kb, .int .i64 co] 75)).cell? ⟨b2, Jc + kb, none⟩ = some (.int .i64 vb)) := ⟨wV _ Nr, wV _ KL⟩;clear hc hx' Nr KL VO EF RU Au;go_upto_region 3 with (fail);generalize World.alloc w2 _ = W at *;obtain ⟨AE, VM⟩ := eX w2.heap.size;rw [← VM] at GA ⊢;clear c0 c1 c2 c3 c4 k1 VM;have BK : Hid ((W.cell? ⟨AE, 2, none⟩ = some (.int .i64 ka) ∧ W.cell? ⟨AE, 3, none⟩ = some (.int .i64 kb)) ∧ W.cell? ⟨b2, Jc + ka, none⟩ = some (.int .i64 va) ∧ W.cell? ⟨b2, Jc + kb, none⟩ = some (.int .i64 vb)) := ⟨⟨GA.cell 2, GA.cell 3⟩, Af⟩;have Am : ka < nn := by omega
 have Al : kb < nn := by omega
 refine fX (fun W' => (W'.cell? ⟨AE, 2, none⟩ = some (.int .i64 ka) ∧ W'.cell? ⟨AE, 3, none⟩ = some (.int .i64 kb)) ∧ W'.cell? ⟨b2, Jc + ka, none⟩ = some (.int .i64 va) ∧ W'.cell? ⟨b2, Jc + kb, none⟩ = some (.int .i64 vb)) [] ?_ fun AA => ?_
 ·exact BK.out
 try dsimp only at AA
 refine tk 0 21 (mf 14 1) AA ?_;refine tk 1 22 (mf 14 2) AA ?_;refine tk 2 23 (mf 14 3) AA ?_;refine tk 3 24 (mf 14 4) AA ?_;refine tk 4 25 (mf 14 5) AA ?_;refine tk 5 26 (mf 14 6) AA ?_;refine tk 6 27 (mf 14 7) AA ?_;refine tk 7 28 (mf 14 8) AA ?_;refine tk 8 29 (mf 14 9) AA ?_;refine tk 9 30 (mf 14 10) AA ?_;refine tk 10 31 (mf 14 11) AA ?_;refine tk 11 32 (mf 14 12) AA ?_;refine tk 12 33 (mf 14 13) AA ?_;refine tk 13 6 (mf 14 14) AA ?_;refine tK ?_
 go_wp2_with fail
 go_ret;exact ⟨zE (by rw [FM.out, Ta.out]; rfl), Co.drew⟩
theorem pl (An Ad As : Option Addr) (nn cn nd cd n c Bd Bs i : Nat) (p du kd : Int) (ds : List Dv) (s : List Int) (x : Dv) (w : World) (hd : Sl w Bd 5 Ad nd cd (ds.flatMap Dv.cells)) (BN : Bd ≤ w.heap.size) (hs : Sl w Bs 1 As n c (zF s)) (Ci : Bs ≤ w.heap.size)
 (Bq : nn ≤ 10000) (AB : nd ≤ 10000) (hl : nd ≤ n) (Ae : xA nn ds) (hA : Ki nn ds) (hi : i < nd) (hx : ds[i]? = some x) (hk : x.kind = kd) (Vn : 1 ≤ kd ∧ kd ≤ 6) :
 Calls prog 114 #[.agg #[.slice An nn cn, .slice Ad nd cd], .slice As n c, .agg #[.int .i64 i, .int .i64 p], .int .i64 kd, .int .i64 du] w fun e w' => e = .returned (.bool (ya kd p du (Cz (zW nn ds s) x))) ∧ bW w w' := by
 have HB : Hid (Below w.heap.size w ((w.alloc (.cells #[.slice An nn cn, .slice Ad nd cd] 26)).alloc (.cells #[.int .i64 i, .int .i64 p] 66))) := ((Below.refl _ _).alloc lR _).alloc (by simp) _;rcases (show kd = 1 ∨ kd = 2 ∨ kd = 3 ∨ kd = 4 ∨ kd = 5 ∨ kd = 6 by omega) with rfl | rfl | rfl | rfl | rfl | rfl
 ·have HC := iD (oq An Ad As nn cn nd cd n c Bd Bs i ds s x _ (hd.below HB BN) (by have := HB.size; omega) (hs.below HB Ci) (by have := HB.size; omega) Bq AB hl Ae hA hi hx (by rw [hk]; decide));have HR : Hid (ya 1 p du (Cz (zW nn ds s) x) = Cz (zW nn ds s) x) := rfl;clear hd hs Ae hA
  go_enter func114, ntmps114
  go_wp2_with fail
  refine HC.mono ?_;rintro e w1 ⟨rfl, hb⟩
  go_wp2_with fail
  go_ret;exact ⟨zE HR.symm, HB.trans (hb.mono HB.size)⟩
 ·clear hd hs Ae hA
  go_enter func114, ntmps114
  go_wp2_with fail
  go_ret;exact ⟨rfl, HB⟩
 ·clear hd hs Ae hA;by_cases h2 : du = 2
  ·subst h2
   go_enter func114, ntmps114
   go_wp2_with fail
   go_ret;exact ⟨rfl, HB⟩
  by_cases h3 : du = 3
  ·subst h3
   go_enter func114, ntmps114
   go_wp2_with fail
   go_ret;exact ⟨rfl, HB⟩
  have q2 : (du == 2) = false := by simpa using h2
  have q3 : (du == 3) = false := by simpa using h3
  have HR : Hid (ya 3 p du (Cz (zW nn ds s) x) = (du == 4)) := by
   unfold Hid ya; rw [if_pos rfl]; simp [h2, h3]; rfl
  go_enter func114, ntmps114
  go_wp2_with fail
  go_ret;exact ⟨zE HR.symm, HB⟩
 ·clear hd hs Ae hA;by_cases h1 : p = 1
  ·subst h1;have HR : Hid (ya 4 1 du (Cz (zW nn ds s) x) = (du == 4)) := by unfold Hid ya; simp; rfl
   go_enter func114, ntmps114
   go_wp2_with fail
   go_ret;exact ⟨zE HR.symm, HB⟩
  ·have q1 : (p == 1) = false := by simpa using h1
   have HR : Hid (ya 4 p du (Cz (zW nn ds s) x) = false) := by unfold Hid ya; simp [h1]
   go_enter func114, ntmps114
   go_wp2_with fail
   go_ret;exact ⟨zE HR.symm, HB⟩
 ·clear hd hs Ae hA
  go_enter func114, ntmps114
  go_wp2_with fail
  go_ret;exact ⟨rfl, HB⟩
 ·clear hd hs Ae hA;by_cases h1 : p = 2
  ·subst h1;have HR : Hid (ya 6 2 du (Cz (zW nn ds s) x) = (du == 3)) := by unfold Hid ya; simp; rfl
   go_enter func114, ntmps114
   go_wp2_with fail
   go_ret;exact ⟨zE HR.symm, HB⟩
  ·have q1 : (p == 2) = false := by simpa using h1
   have HR : Hid (ya 6 p du (Cz (zW nn ds s) x) = false) := by unfold Hid ya; simp [h1]
   go_enter func114, ntmps114
   go_wp2_with fail
   go_ret;exact ⟨zE HR.symm, HB⟩
theorem Sl.over {w : World} {B n c blk m size : Nat} {A : Option Addr} {xs : List Value} {os : Array Obj} {dk : Array Int} (h : Sl w B size A n c xs) (hne : ∀ b off, A = some ⟨b, off, none⟩ → b ≠ blk ∧ b < w.heap.size) : Sl (sortWorld (Value.int .i64) w blk 0 m dk os) B size A n c xs := by
 obtain ⟨h1, h2, h3, h4, h5⟩ := h;refine ⟨h1, h2, h3, h4, fun hn => ?_⟩;obtain ⟨b, off, e, hb, hc⟩ := h5 hn;obtain ⟨h6, h7⟩ := hne b off e;refine ⟨b, off, e, hb, fun j u hu => ?_⟩;unfold sortWorld;rw [Go.Sort.cell?_grow _ _ _ (by show b < (Go.Sort.putRow _ _ _ _ _).heap.size; rw [Go.Sort.size_putRow]; exact h7), Go.Sort.cell?_putRow_other _ _ blk 0 _ _ (Or.inl h6)];exact hc j u hu
theorem ja (g : Nat) (lb : Array Value) (p : Int → Bool) (eg : ∀ args w, (callFunc g args).run prog w = .ok (.enter g args) w) (A : Option Addr) (n c base : Nat) (l : List Int) (w : World) (h : zN w base A n c l) (hn : n ≤ 1000000)
 (hp : PredAt prog g lb (Value.int .i64) p w) (AH : ∀ blk, A = some ⟨blk, 0, none⟩ → PredOver prog g lb (Value.int .i64) p blk 0 n w) :
 Calls prog 137 #[.slice A n c, .func (.func g) #[] lb] w fun e w' => ∃ m, e = .returned (.slice A m c) ∧ Hid (zN w' base A m c (l.filter fun x => !p x)) ∧ Hid (w.grownBy w' (Value.slice A n c).ownBlock) := by
 have hl := h.len;rcases h.2 with ⟨hv, h0⟩ | ⟨gb, cap, cur, hv, hb, hh, Ir, hm, hs, ht⟩
 ·injection hv with h1 h2 h3;subst h1 h3 h0;have : l = [] := List.eq_nil_of_length_eq_zero hl;subst this;have HH := iD h;clear h hp AH hl hn
  go_enter func137, ntmps137
  go_wp2_with fail
  refine (slices_IndexFunc_empty (α := Int) none 0 (.func (.func g) #[] lb) w).mono ?_;rintro e w1 ⟨rfl, rfl⟩
  go_wp2_with fail
  go_ret;exact ⟨0, rfl, HH, xF _ _⟩
 ·injection hv with h1 h2 h3;subst h1 h3;subst hl;rw [Nat.mul_one, yS] at ht;have hH := holds_of_blockI hh ht;refine (slices_DeleteFunc (Value.int .i64) (fun _ => rfl) p g lb eg 0 zeroValue3 gb 0 c l.toArray w hp (by simpa using AH gb rfl) hH (by simp; omega) (by simpa using Ir)).mono ?_;rintro e w1 ⟨rfl, q, rfl⟩;simp only [List.size_toArray];obtain ⟨ts, Pn⟩ : ∃ ts, ts = (l.filter fun x => !p x) ++ List.replicate (l.length - (l.filter fun x => !p x).length) 0 := ⟨_, rfl⟩
  have Mq : (l.filter fun x => !p x).length ≤ l.length := List.length_filter_le _ _;have Aj : ts.length = l.length := by rw [Pn, List.length_append, List.length_replicate]; omega
  rw [← Pn];refine ⟨_, rfl, ?_, ?_⟩
  ·have h2 := heap_sortedI (n := q) (os := #[]) ts.toArray hh;rw [Go.Sort.grow_empty] at h2;unfold Hid zN;rw [yS];refine ⟨by simp, .inr ⟨gb, c, _, rfl, hb, h2, by omega, hm, by simp [Go.Sort.putCells, hs], ?_⟩⟩;have h3 := take_putCellsI cur ts (by omega);rw [Nat.mul_one];have h4 := congrArg (List.take (l.filter fun x => !p x).length) h3;rw [List.take_take, Nat.min_eq_left (by omega)] at h4;rw [h4, ← List.map_take, Pn, List.take_left]
  ·have := grownBy_sortedI (w := w) (g := gb) (n := q) (os := #[]) ts.toArray;rw [Go.Sort.grow_empty] at this;exact this
theorem sO (Ab : Option Addr) (mb cb bb B : Nat) (l : List Int) (x : Int) (W : World) (hc : W.cell? ⟨bb, 0, none⟩ = some (.slice Ab mb cb)) (hs : Sl W B 1 Ab mb cb (zF l)) :
 FnGives prog 138 #[.pointer (some ⟨bb, 0, none⟩)] #[.int .i64 x] (.bool (vA l x)) W := by
 have HC := iD (vf Ab mb cb B l x W hs)
 show Calls prog 138 #[.int .i64 x, .pointer (some ⟨bb, 0, none⟩)] W _
 clear hs
 go_enter func138, ntmps138
 go_wp2_with fail
 refine HC.mono ?_;rintro e w1 ⟨rfl, rfl⟩
 go_wp2_with fail
 go_ret;exact ⟨rfl, 0, rfl⟩
theorem lQ (An Ad As At : Option Addr) (nn cn nd cd n c n2 c2 Bn Bd Bs B2 : Nat) (ns : List Nd) (ds : List Dv) (s s2 : List Int) (w : World) (hL : yr w) (hn : Sl w Bn 3 An nn cn (ns.flatMap Nd.cells)) (Ce : Bn ≤ w.heap.size) (hd : Sl w Bd 5 Ad nd cd (ds.flatMap Dv.cells)) (BN : Bd ≤ w.heap.size) (hs : Sl w Bs 1 As n c (zF s)) (Ci : Bs ≤ w.heap.size) (IK : Sl w B2 1 At n2 c2 (zF s2)) (FV : B2 ≤ w.heap.size)
 (Bj : FO ns) (Bc : GH ds) (h0 : zG ns ds s = 0) (WU : zG ns ds s2 = 0) (Bq : nn ≤ 10000) (AB : nd ≤ 10000) (hl : nd ≤ n) (Mm : nd ≤ n2) (Ae : xA nn ds) (hA : Ki nn ds) :
 Calls prog 112 #[.agg #[.slice An nn cn, .slice Ad nd cd], .slice As n c, .slice At n2 c2] w fun e w' => ∃ Ao m co out k, e = .returned (.tuple #[.slice Ao m co, .int .i64 k, .int .i64 0]) ∧ Hid (out.length = m) ∧ Hid (lS ns ds s s2 out) ∧ Hid (zN w' w.heap.size Ao m co out) ∧ Hid (bW w w') := by
 have Ch := iD (hn.len (fun _ => rfl) (by decide));have HB : Hid (Below w.heap.size w (w.alloc (.cells #[.slice An nn cn, .slice Ad nd cd] 26))) := (Below.refl _ _).alloc lR _;have HK := iD (AJ.new w 26 #[.slice An nn cn, .slice Ad nd cd]);have HL := iD hL; have HN := iD hn; have HD := iD hd; have HS := iD hs; have Db := iD IK; have Da := iD Bj; have CU := iD Bc; have H0 := iD h0; have Ag := iD WU; have HE := iD Ae; have HA := iD hA;clear hL hn hd hs IK Bj Bc h0 WU Ae hA
 go_enter func112, ntmps112
 go_wp2_with fail
 generalize World.alloc _ _ = W at *;have hz := HB.size;obtain ⟨nb, CP⟩ := eX w.heap.size;rw [← CP] at HK ⊢;clear CP;have JH := iD HK.lt;refine (sT An Ad As nn cn nd cd n c Bn Bd Bs ns ds s W (HL.below HB lR) (HN.below HB Ce) (by omega) (HD.below HB BN) (by omega) (HS.below HB Ci) (by omega) Da CU H0 Bq AB hl HE HA).mono ?_;rintro e w1 ⟨Aa, ma, ca, la, rfl, RI, Sj, AX⟩;have AL := iD (HB.trans (AX.mono hz));have DV := iD (HK.below AX HK.lt);have Fj := AL.size;have AW : Hid (W.heap.size ≤ w1.heap.size) := AX.size;clear AX HB HK;obtain ⟨k0, k1⟩ := DV.d2
 go_wp2_with fail
 clear k0 k1;refine (sT An Ad At nn cn nd cd n2 c2 Bn Bd B2 ns ds s2 w1 (HL.below AL lR) (HN.below AL Ce) (by omega) (HD.below AL BN) (by omega) (Db.below AL FV) (by omega) Da CU Ag Bq AB Mm HE HA).mono ?_;rintro e w2 ⟨Ab, mb, cb, lb, rfl, WB, AK, AQ⟩;have AY := iD ((AL.trans (AQ.mono Fj)).alloc (by have := AQ.size; omega) (.cells #[.slice Ab mb cb] 22));have EE := iD ((DV.below AQ DV.lt).alloc (.cells #[.slice Ab mb cb] 22));have TC := iD (AJ.new w2 22 #[.slice Ab mb cb]);have Gf : Hid (zN (w2.alloc (.cells #[.slice Ab mb cb] 22)) W.heap.size Aa ma ca la) := (RI.later AQ).alloc _;have EJ : Hid (zN (w2.alloc (.cells #[.slice Ab mb cb] 22)) w1.heap.size Ab mb cb lb) := WB.alloc _;have GD : w1.heap.size ≤ w2.heap.size := AQ.size;have Ak : ma ≤ nn := by have := Sj.1; rw [RI.len, Ch.out] at this; exact this
 have EB : Hid (∀ gb, (Value.slice Aa ma ca).ownBlock = some gb → gb < w1.heap.size) := fun gb h => (RI.lt gb h).2
 have PW : Hid (w2.heap.size < (w2.alloc (.cells #[.slice Ab mb cb] 22)).heap.size) := by unfold Hid; simp
 clear AQ DV RI WB AL;go_upto_region 7 with (fail);generalize World.alloc w2 _ = W3 at *;obtain ⟨bb, Gv⟩ := eX w2.heap.size;rw [← Gv] at TC PW GD ⊢;clear Gv
 have Ea : Hid (PredAt prog 138 #[.pointer (some ⟨bb, 0, none⟩)] (Value.int .i64) (vA lb) W3) := fun W' x hb =>
  sO Ab mb cb bb W3.heap.size lb x W' ((hb.cell (p := ⟨bb, 0, none⟩) PW).trans (TC.cell 0)) (EJ.sl.below hb lR)
 have AO : Hid (∀ blk, Aa = some ⟨blk, 0, none⟩ → PredOver prog 138 #[.pointer (some ⟨bb, 0, none⟩)] (Value.int .i64) (vA lb) blk 0 ma W3) := fun blk e q os dk x _ =>
  sO Ab mb cb bb W3.heap.size lb x _ (by
   have h1 := EB blk (by rw [e]; rfl);unfold sortWorld;rw [Go.Sort.cell?_grow _ _ _ (by show bb < (Go.Sort.putRow _ _ _ _ _).heap.size; rw [Go.Sort.size_putRow]; exact PW.out), Go.Sort.cell?_putRow_other _ _ blk 0 _ _ (Or.inl (by show bb ≠ blk; omega))]
   exact TC.cell 0) (EJ.sl.over fun b off e2 => by
    have h1 := EB blk (by rw [e]; rfl);have h2 := EJ.lt b;rcases EJ.2 with ⟨hv, _⟩ | ⟨gb, cap, cur, hv, hb, hh, _⟩
    ·rw [e2] at hv; cases hv
    ·rw [e2] at hv;injection hv with hv;injection hv with hv;injection hv with hv;subst hv;exact ⟨by omega, (Array.getElem?_eq_some_iff.1 hh).1⟩)
 have AP := iD (ja 138 #[.pointer (some ⟨bb, 0, none⟩)] (vA lb) (enters_of func138 (by kernel_rfl) rfl) Aa ma ca W.heap.size la W3 Gf (by omega) Ea AO);clear Ea AO
 go_wp2_with fail
 refine AP.mono ?_;rintro e w4 ⟨m, rfl, DN, Gt⟩;have AG : Hid (Below W.heap.size W3 w4) := ⟨Gt.os, Gt.tape, Gt.output, Gt.size, fun q hq => Gt.block q (by have := AW.out; have := PW.out; omega) (fun e => by have := (Gf.lt q e.symm).1; omega)⟩;have Bu := iD (AY.trans (AG.mono hz));have Ee : Hid (AJ w4 nb 26 #[.slice An nn cn, .slice Ad nd cd]) := EE.below AG JH.out
 have Lv : Hid (∀ v ∈ la.filter fun x => !vA lb x, 0 ≤ v ∧ v < nn) := fun v hv => by
  obtain ⟨k, y, rfl, hy, _⟩ := (Sj.2 v).1 (List.mem_filter.1 hv).1;have := (List.getElem?_eq_some_iff.1 hy).1;rw [Ch.out] at this;omega
 clear AP Gt AG EE AY Gf EJ TC EB;obtain ⟨k0, k1⟩ := Ee.d2
 go_wp2_with fail
 clear k0 k1;refine (kC An Ad Aa nn cn nd cd m ca Bn w4.heap.size ns _ w4 (HN.below Bu Ce) (by have := Bu.size; omega) DN.sl lR Lv).mono ?_;rintro e w5 ⟨k, rfl, BM⟩
 go_wp2_with fail
 go_ret3;refine ⟨Aa, m, ca, _, k, rfl, DN.len, fun x => ?_, (DN.later BM).mono hz, Bu.trans (BM.mono Bu.size)⟩;rw [List.mem_filter]
 constructor
 ·rintro ⟨h1, h2⟩;obtain ⟨k, y, rfl, hy, hc, hs⟩ := (Sj.2 x).1 h1;refine ⟨k, y, rfl, hy, hc, hs, fun h3 => ?_⟩;have h4 : (k : Int) ∉ lb := (oy _ _).1 (by simpa using h2);exact h4 ((AK.2 _).2 ⟨k, y, rfl, hy, hc, h3⟩)
 ·rintro ⟨k, y, rfl, hy, hc, hs, Qw⟩;refine ⟨(Sj.2 _).2 ⟨k, y, rfl, hy, hc, hs⟩, ?_⟩
  have : vA lb (k : Int) = false := (oy _ _).2 fun h => by
   obtain ⟨k2, y2, e, Ai, _, IK⟩ := (AK.2 _).1 h;have : k = k2 := by omega
   subst this;exact Qw IK
  rw [this]; rfl
end Go.Proofs.YtddddlhgaeameaaGreatDoor
