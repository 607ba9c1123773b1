import Derived.Test.YtfaknfmndafllaaGreatDoorV26
import Derived.Test.YtfaknfmndafllaaGreatDoorV05
import Derived.Test.YtfaknfmndafllaaGreatDoorV29
import Derived.Test.YtfaknfmndafllaaGreatDoorV24
import Derived.Test.YtfaknfmndafllaaGreatDoorV34
import Derived.Test.YtfaknfmndafllaaGreatDoorV03
import Derived.Test.YtfaknfmndafllaaGreatDoorV04
import Derived.Test.YtfaknfmndafllaaGreatDoorV22
set_option maxRecDepth 100000
set_option maxHeartbeats 8000000
namespace Go.Proofs.YtfaknfmndafllaaGreatDoor
open Go.RowKit
def opSt (ds : List Dv) (o : Int × Int) : List Sp :=
 if o.2 = 1 then [⟨1, o.1, 0, 0, 0⟩] else match ds[o.1.toNat]? with
  | some x => if x.kind = 4 then [⟨5, 0, x.a, 0, 0⟩, ⟨2, o.1, 0, 0, 0⟩] else [⟨2, o.1, 0, 0, 0⟩]
  | none => [⟨2, o.1, 0, 0, 0⟩]
def opsSt (ds : List Dv) (l : List (Int × Int)) : List Sp := l.flatMap (opSt ds)
def spsV (l : List Sp) : List Value := l.flatMap Sp.cells
def GsI (W wr : World) (A : Option Addr) (c : Nat) (l : List Sp) : Prop := wr.ownsRow W.heap.size 56 5 (.slice A l.length c) l.length (spsV l) ∧ Below W.heap.size W wr
theorem GsI.later {W wr wr' : World} {A : Option Addr} {c : Nat} {l : List Sp} (h : GsI W wr A c l) (hb : Below wr.heap.size wr wr') : GsI W wr' A c l := ⟨own_later h.1 hb, h.2.trans (hb.mono h.2.size)⟩
def GsR (W : World) (ds : List Dv) (l : List (Int × Int)) (gk : Nat) (v5 iv : Value) (wr : World) : Prop :=
 ∃ (k : Nat) (A : Option Addr) (c : Nat), v5 = .slice A (opsSt ds (l.take k)).length c ∧ iv = .int .i64 k ∧ k ≤ l.length ∧ gk = l.length - k ∧ Hid (GsI W wr A c (opsSt ds (l.take k)))
theorem GsR.step {W wr : World} {ds : List Dv} {l : List (Int × Int)} {k c : Nat} {A : Option Addr} {m : List Sp} (e : opsSt ds (l.take (k + 1)) = m) (hk : k < l.length) (h : GsI W wr A c m) {N : Nat} (hN : m.length = N) : GsR W ds l (l.length - (k + 1)) (.slice A N c) (.int .i64 ((k : Int) + 1)) wr :=
 ⟨k + 1, A, c, by rw [e, hN], rfl, hk, rfl, by rw [e]; exact h⟩
end Go.Proofs.YtfaknfmndafllaaGreatDoor
namespace Go.Proofs.YtfaknfmndafllaaGreatDoor
open Go.RowKit
def rstE (ns : List Nd) (ds : List Dv) (s t : List Int) (co : Int) (ls : List Lk) (pr : List Int) : Int :=
 if stsE ns ds s t ≠ 0 then stsE ns ds s t else if grErr ns ds co ls pr ≠ 0 then grErr ns ds co ls pr else srErr ns ds s t co [] pr
structure RrM (z : World) (A : Option Addr) (n c : Nat) (l : List Sp) (wr : World) : Prop where
 b : Below z.heap.size z wr
 x : Blk wr z.heap.size 50 #[.string ⟨#[82, 69, 83, 84, 79, 82, 69]⟩, .slice A n c]
 o : wr.ownsRow (z.heap.size + 1) 56 5 (.slice A n c) n (spsV l)
 n : l.length = n
section
variable {z wr wr' : World} {A A' : Option Addr} {n c c' m : Nat} {l l' : List Sp}
theorem RrM.later (h : RrM z A n c l wr) (hb : Below wr.heap.size wr wr') : RrM z A n c l wr' :=
 ⟨h.b.trans (hb.mono h.b.size), h.x.below hb h.x.lt, own_later h.o hb, h.n⟩
end
end Go.Proofs.YtfaknfmndafllaaGreatDoor
namespace Go.Proofs.YtfaknfmndafllaaGreatDoor
def dsE : List Dv := [⟨⟨#[83]⟩, 5, 0, -1, 0⟩, ⟨⟨#[68]⟩, 3, 0, 1, 0⟩, ⟨⟨#[69]⟩, 4, 1, -1, 0⟩]
theorem dsE_cases {i : Nat} {x : Dv} (h : dsE[i]? = some x) : (i = 0 ∧ x = ⟨⟨#[83]⟩, 5, 0, -1, 0⟩) ∨ (i = 1 ∧ x = ⟨⟨#[68]⟩, 3, 0, 1, 0⟩) ∨ (i = 2 ∧ x = ⟨⟨#[69]⟩, 4, 1, -1, 0⟩) := by
 match i, h with
 | 0, h => left; exact ⟨rfl, (Option.some.inj h).symm⟩
 | 1, h => right; left; exact ⟨rfl, (Option.some.inj h).symm⟩
 | 2, h => right; right; exact ⟨rfl, (Option.some.inj h).symm⟩
 | i + 3, h => simp [dsE] at h
theorem partsE (p q : Int) : IsParts 2 dsE [p, 1, q] [0, 1] := by
 refine LInv.final ⟨rfl, fun v hv => ?_⟩ (fun i hi x hx hc hj => ?_)
 ·rcases (show v = 0 ∨ v = 1 by omega) with rfl | rfl
  ·exact ⟨0, rfl, Nat.le_refl _, Conn.refl _ _ _⟩
  ·exact ⟨1, rfl, Nat.le_refl _, Conn.refl _ _ _⟩
 ·rcases dsE_cases hx with ⟨rfl, rfl⟩ | ⟨rfl, rfl⟩ | ⟨rfl, rfl⟩
  ·cases hj
  ·cases hc
  ·cases hj
theorem connE01 (p q : Int) : Conn dsE [p, 2, q] 0 1 := by
 have := Conn.edge (ds := dsE) (s := [p, 2, q]) (u := 0) (i := 1) (x := ⟨⟨#[68]⟩, 3, 0, 1, 0⟩) rfl rfl (by decide)
 exact this
theorem apartE (p q : Int) : ¬ Conn dsE [p, 1, q] 0 1 := fun hc => by
 have := ((partsE p q).iff (u := 0) (v := 1) (by decide) (by decide)).2 hc
 simp at this
theorem liveE0 (q r : Int) : HasK liveK dsE [2, q, r] 0 := ⟨0, _, rfl, rfl, .inl rfl, Conn.refl _ _ _⟩
theorem liveE1 (r : Int) : HasK liveK dsE [2, 2, r] 1 := ⟨0, _, rfl, rfl, .inl rfl, connE01 2 r⟩
theorem deadE1 (r : Int) : ¬ HasK liveK dsE [2, 1, r] 1 := by
 rintro ⟨i, x, hx, hs, hk, hc⟩
 rcases dsE_cases hx with ⟨rfl, rfl⟩ | ⟨rfl, rfl⟩ | ⟨rfl, rfl⟩
 ·exact apartE 2 r hc
 ·rcases hk with hk | hk <;> cases hk
 ·rcases hk with hk | hk <;> cases hk
theorem earthE1 (p q : Int) : HasK (· = 4) dsE [p, q, 2] 1 := ⟨2, _, rfl, rfl, rfl, Conn.refl _ _ _⟩
theorem noEarthE (p q : Int) (v : Int) : ¬ HasK (· = 4) dsE [p, q, 1] v := by
 rintro ⟨i, x, hx, hs, hk, _⟩
 rcases dsE_cases hx with ⟨rfl, rfl⟩ | ⟨rfl, rfl⟩ | ⟨rfl, rfl⟩
 ·cases hk
 ·cases hk
 ·cases hs
theorem colsE_of {s c : List Int} (x0 x1 : Int) (hc : c = [x0, x1]) (h0 : colV dsE s 0 = x0) (h1 : colV dsE s 1 = x1) : IsCols 2 dsE s c := by
 subst hc
 refine ⟨rfl, fun v hv => ?_⟩
 rcases (show v = 0 ∨ v = 1 by omega) with rfl | rfl
 ·simpa using h0.symm
 ·simpa using h1.symm
theorem noLostE (s s2 : List Int) : lostB nsA dsE s s2 = false := by
 unfold lostB
 simp only [decide_eq_false_iff_not]
 rintro ⟨k, y, hy, hc, _⟩
 match k, hy with
 | 0, hy => rw [← Option.some.inj hy] at hc; cases hc
 | 1, hy => rw [← Option.some.inj hy] at hc; cases hc
 | k + 2, hy => simp [nsA] at hy
theorem permE1 : permB nsA dsE 0 [] [] [5] [2, 1, 2] 1 = false := by
 have h4 : dutyAt 2 nsA dsE [2, 1, 2] ((1 : Nat) : Int) ⟨⟨#[68]⟩, 3, 0, 1, 0⟩ = 4 := by
  have e2 : withL [2, 1, 2] ((1 : Nat) : Int) 2 = [2, 2, 2] := by decide
  unfold dutyAt dutyV
  rw [e2, if_pos]
  have h : colsOf 2 dsE [2, 2, 2] = [colV dsE [2, 2, 2] 0, 3] := colsOf_eq (colsE_of _ 3 rfl rfl (by unfold colV; rw [ind_pos (liveE1 2), ind_pos (earthE1 2 2)]; rfl))
  rw [h]
  simp [faultB, joinsB]
 have hm : (1 : Int) ∈ hzD nsA dsE [2, 1, 2] ((1 : Nat) : Int) 2 0 [] [] := by
  show (1 : Int) ∈ hzAt 2 nsA dsE [2, 1, 2] 1 2 0 [] [] ⟨⟨#[68]⟩, 3, 0, 1, 0⟩
  unfold hzAt
  rw [if_neg (by decide), hzL_mem, h4]
  exact .inl ⟨rfl, rfl⟩
 unfold permB
 rw [List.all_eq_false]
 exact ⟨1, hm, by decide⟩
theorem permE2 : permB nsA dsE 0 [] [] [5] [2, 1, 2] 2 = true := by
 have h4 : dutyAt 2 nsA dsE [2, 1, 2] ((2 : Nat) : Int) ⟨⟨#[69]⟩, 4, 1, -1, 0⟩ ≠ 4 := by
  have e2 : withL [2, 1, 2] ((2 : Nat) : Int) 2 = [2, 1, 2] := by decide
  have h : colsOf 2 dsE [2, 1, 2] = [colV dsE [2, 1, 2] 0, 2] := colsOf_eq (colsE_of _ 2 rfl rfl (by unfold colV; rw [ind_neg (deadE1 2), ind_pos (earthE1 2 1)]; rfl))
  unfold dutyAt dutyV
  rw [e2, h, if_neg (by simp [faultB, joinsB])]
  split
  ·decide
  split
  ·decide
  split <;> decide
 have he : hzD nsA dsE [2, 1, 2] ((2 : Nat) : Int) 1 0 [] [] = [] := by
  show hzAt 2 nsA dsE [2, 1, 2] 2 1 0 [] [] ⟨⟨#[69]⟩, 4, 1, -1, 0⟩ = []
  unfold hzAt
  rw [if_neg (by decide), noLostE]
  have h5 : dutyAt 2 nsA dsE [2, 1, 2] 2 ⟨⟨#[69]⟩, 4, 1, -1, 0⟩ ≠ 4 := h4
  simp [hzL, pickH, badB, h5, lockB]
 unfold permB
 show (hzD nsA dsE [2, 1, 2] ((2 : Nat) : Int) 1 0 [] []).all (hasB [5]) = true
 rw [he]; rfl
theorem permE3 : permB nsA dsE 0 [] [] [5] [2, 1, 1] 1 = true := by
 have hd : dutyAt 2 nsA dsE [2, 1, 1] ((1 : Nat) : Int) ⟨⟨#[68]⟩, 3, 0, 1, 0⟩ = 1 := by
  have e1 : withL [2, 1, 1] ((1 : Nat) : Int) 1 = [2, 1, 1] := by decide
  have e2 : withL [2, 1, 1] ((1 : Nat) : Int) 2 = [2, 2, 1] := by decide
  unfold dutyAt
  rw [e1, e2, partsOf_eq (partsE 2 1), colsOf_eq (colsE_of (s := [2, 1, 1]) 1 0 rfl (by unfold colV; rw [ind_pos (liveE0 1 1), ind_neg (noEarthE 2 1 0)]; rfl) (by unfold colV; rw [ind_neg (deadE1 1), ind_neg (noEarthE 2 1 1)]; rfl)), colsOf_eq (colsE_of (s := [2, 2, 1]) 1 1 rfl (by unfold colV; rw [ind_pos (liveE0 2 1), ind_neg (noEarthE 2 2 0)]; rfl) (by unfold colV; rw [ind_pos (liveE1 1), ind_neg (noEarthE 2 2 1)]; rfl))]
  unfold dutyV
  rw [if_neg (by decide), if_neg (by decide), noLoad, if_neg (by decide), if_pos (by decide)]
 have he : hzD nsA dsE [2, 1, 1] ((1 : Nat) : Int) 2 0 [] [] = [] := by
  show hzAt 2 nsA dsE [2, 1, 1] 1 2 0 [] [] ⟨⟨#[68]⟩, 3, 0, 1, 0⟩ = []
  unfold hzAt
  rw [if_neg (by decide), noLostE, hd]
  simp [hzL, pickH, badB, lockB]
 unfold permB
 show (hzD nsA dsE [2, 1, 1] ((1 : Nat) : Int) 2 0 [] []).all (hasB [5]) = true
 rw [he]; rfl
theorem mvE : (mvS dsE [] 0 dsE.length).length = 2 := by kernel_rfl
theorem mvE0 : mvF dsE [] 0 0 = 1 := by kernel_rfl
theorem mvE1 : mvF dsE [] 0 1 = 2 := by kernel_rfl
theorem errE : srErr nsA dsE [2, 1, 2] [2, 2, 1] 0 [] [] = 0 := by kernel_rfl
theorem wayE : SomeIs (stS (permB nsA dsE 0 [] [] [5]) (mvF dsE [] 0) (mvS dsE [] 0 dsE.length).length) [2, 1, 2] (goalT [2, 2, 1]) [1, 0] := by
 rw [mvE]
 have h0 : stS (permB nsA dsE 0 [] [] [5]) (mvF dsE [] 0) 2 [2, 1, 2] 0 = none := by
  unfold stS
  rw [mvE0, permE1, if_neg (by simp)]
 have h1 : stS (permB nsA dsE 0 [] [] [5]) (mvF dsE [] 0) 2 [2, 1, 2] 1 = some [2, 1, 1] := by
  unfold stS
  rw [mvE1, permE2, if_pos ⟨by decide, rfl⟩]; rfl
 have h2 : stS (permB nsA dsE 0 [] [] [5]) (mvF dsE [] 0) 2 [2, 1, 1] 0 = some [2, 2, 1] := by
  unfold stS
  rw [mvE0, permE3, if_pos ⟨by decide, rfl⟩]; rfl
 have hbig : ∀ (s : List Int) (i : Nat), 2 ≤ i → stS (permB nsA dsE 0 [] [] [5]) (mvF dsE [] 0) 2 s i = none := fun s i hi => by
  unfold stS
  rw [if_neg (by omega)]
 refine ⟨[2, 2, 1], 0, ?_, rfl, fun q b' c' hw hg => ?_⟩
 ·simp only [wk, h1, h2, Option.bind_some]
 ·have hb : b' = [2, 2, 1] ∧ c' = 0 := by
   unfold goalT at hg
   split at hg
   ·next h => exact ⟨h, by injection hg with hg; exact hg.symm⟩
   ·cases hg
  obtain ⟨rfl, rfl⟩ := hb
  match q, hw with
  | [], hw => injection hw with hw; exact absurd hw (by decide)
  | [i], hw =>
   exfalso
   rcases (show i = 0 ∨ i = 1 ∨ 2 ≤ i by omega) with rfl | rfl | hi
   ·simp only [wk, h0, Option.bind_none] at hw; cases hw
   ·simp only [wk, h1, Option.bind_some] at hw
    injection hw with hw; exact absurd hw (by decide)
   ·simp only [wk, hbig _ i hi, Option.bind_none] at hw; cases hw
  | [i, j], hw =>
   refine ⟨Nat.le_refl _, fun _ => ⟨Int.le_refl _, fun _ => ?_⟩⟩
   rcases (show i = 0 ∨ i = 1 ∨ 2 ≤ i by omega) with rfl | rfl | hi
   ·simp only [wk, h0, Option.bind_none] at hw; cases hw
   ·refine .inr ⟨rfl, ?_⟩
    rcases Nat.eq_zero_or_pos j with rfl | hj
    ·exact .inr ⟨rfl, trivial⟩
    ·exact .inl hj
   ·simp only [wk, hbig _ i hi, Option.bind_none] at hw; cases hw
  | i :: j :: k :: r, _ => exact ⟨by simp, fun h => by simp at h⟩
theorem opsE : opsP (mvF dsE [] 0) [2, 1, 2] [1, 0] = [(2, 1), (1, 2)] := by
 simp only [opsP, mvE0, mvE1]; rfl
theorem difE : dfL [2, 1, 2] [2, 2, 1] 3 = [1, 2] := by kernel_rfl
end Go.Proofs.YtfaknfmndafllaaGreatDoor
namespace Go.Proofs.YtfaknfmndafllaaGreatDoor
open Go.RowKit
def opE (a b : Int × Int) : Bool := a.1 == b.1 && a.2 == b.2
theorem run_neq_op (a b c d : Int) (w : World) : (binOp .neq 62 (.agg #[.int .i64 a, .int .i64 b]) (.agg #[.int .i64 c, .int .i64 d])).run Tryz.prog w = .ok (.bool (!opE (a, b) (c, d))) w := by
 have u3 := Tryz.underlying3
 have a3 := Tryz.isAgg3
 have z3 := Tryz.sizeOf3
 have hS : Tryz.prog.underlying 62 = some (.struct (Tryz.prog.fieldsOf 62)) := by kernel_rfl
 have hp : Tryz.prog.stoodInHeld 62 = false := by kernel_rfl
 rw [run_neq_struct, show (10000 : Nat) = 9999 + 1 from rfl, run_equalIn_agg w 9999 62 _ _ hS hp]
 simp only [Program.fieldsOf, Tryz.underlying62]
 go_simp
 by_cases h0 : a = c <;> by_cases h1 : b = d <;> simp [h0, h1, opE]
def SoR20 (w : World) (a b : List (Int × Int)) (n gk : Nat) (iv : Value) (wr : World) : Prop := ∃ i : Nat, iv = .int .i64 i ∧ i ≤ n ∧ gk = n - i ∧ Hid (a.take i = b.take i) ∧ Hid (Below w.heap.size w wr)
theorem sameo_any (A A2 : Option Addr) (n c n2 c2 B B2 : Nat) (a b : List (Int × Int)) (w : World) (ha : Sl w B 2 A n c (opsV a)) (hb : Sl w B2 2 A2 n2 c2 (opsV b)) (hB : B ≤ w.heap.size) (hB2 : B2 ≤ w.heap.size) :
 Calls Tryz.prog 24 #[.slice A n c, .slice A2 n2 c2] w fun e w' => e = .returned (.bool (decide (a = b))) ∧ Below w.heap.size w w' := by
 have HA := Lib.hid ha; have HB := Lib.hid hb
 have HLA := Lib.hid (ha.len (f := fun o : Int × Int => [Value.int .i64 o.1, Value.int .i64 o.2]) (fun _ => rfl) (by decide)); have HLB := Lib.hid (hb.len (f := fun o : Int × Int => [Value.int .i64 o.1, Value.int .i64 o.2]) (fun _ => rfl) (by decide))
 have hm1 := ha.le
 have hm2 := hb.le
 clear ha hb
 by_cases hl : n = n2; rotate_left
 ·have q1 : ((n : Int) != (n2 : Int)) = true := by simp; omega
  have q2 : (n != n2) = true := by simpa using hl
  have HV : Hid (decide (a = b) = false) := by
   refine decide_eq_false fun e => hl ?_
   have h1 := HLA.out; have h2 := HLB.out; rw [e] at h1; omega
  clear hl
  go_enter Tryz.func24, Tryz.ntmps24
  go_wp2_with fail
  go_ret
  exact ⟨by rw [HV.out]; rfl, Below.refl _ _⟩
 subst hl
 go_enter Tryz.func24, Tryz.ntmps24
 go_upto_region 4 with (fail)
 refine wp_loop_u1 [(3, 0), (0, 1), (0, 2), (4, 0), (14, 1)] 5 (n) (SoR20 w a b n) (by (try dsimp only [gt]); exact ⟨0, rfl, Nat.zero_le _, rfl, rfl, Below.refl _ _⟩) (by kernel_rfl) ?_
 intro u1 p5 gk wr a hrel ha J1 K1 hJ1 hK1
 dsimp only [relaxR, Go.Proofs.YtfaknfmndafllaaGreatDoor.v1, Nat.reduceAdd] at ha
 subst ha
 obtain ⟨i, rfl, hi, rfl, HE, HBL⟩ := hrel
 by_cases hlt : i < n; rotate_left
 ·have hii : decide ((i : Int) < (n : Int)) = false := by simp; omega
  have hii2 : decide (i < n) = false := by simp; omega
  have HV : Hid (decide (a = b) = true) := by
   have h := HE.out
   rw [List.take_of_length_le (by have := HLA.out; omega), List.take_of_length_le (by have := HLB.out; omega)] at h
   exact decide_eq_true h
  go_wp2_with fail
  go_ret
  exact ⟨by rw [HV.out]; rfl, HBL.out⟩
 obtain ⟨b1, o1, x, hA, hb1, hx, hc⟩ := (HA.out.below HBL.out hB).at (f := fun o : Int × Int => [Value.int .i64 o.1, Value.int .i64 o.2]) (fun _ => rfl) (by decide) hlt
 obtain ⟨b2, o2, y, hA2, hb2, hy, hd⟩ := (HB.out.below HBL.out hB2).at (f := fun o : Int × Int => [Value.int .i64 o.1, Value.int .i64 o.2]) (fun _ => rfl) (by decide) hlt
 obtain ⟨x1, x2⟩ := x
 obtain ⟨y1, y2⟩ := y
 have HCS : Hid ((wr.cell? ⟨b1, o1 + i * 2, none⟩ = some (.int .i64 x1) ∧ wr.cell? ⟨b1, o1 + i * 2 + 1, none⟩ = some (.int .i64 x2)) ∧ wr.cell? ⟨b2, o2 + i * 2, none⟩ = some (.int .i64 y1) ∧ wr.cell? ⟨b2, o2 + i * 2 + 1, none⟩ = some (.int .i64 y2)) := ⟨⟨hc 0 _ rfl, hc 1 _ rfl⟩, hd 0 _ rfl, hd 1 _ rfl⟩
 have HX := Lib.hid hx; have HY := Lib.hid hy
 subst hA hA2
 clear hc hd hx hy hb1 hb2
 have hq := run_neq_op x1 x2 y1 y2
 go_upto_region 6 with (fail)
 refine wp_region_J (S := fun W' => (W'.cell? ⟨b1, o1 + i * 2, none⟩ = some (.int .i64 x1) ∧ W'.cell? ⟨b1, o1 + i * 2 + 1, none⟩ = some (.int .i64 x2)) ∧ W'.cell? ⟨b2, o2 + i * 2, none⟩ = some (.int .i64 y1) ∧ W'.cell? ⟨b2, o2 + i * 2 + 1, none⟩ = some (.int .i64 y2)) (J := []) (by kernel_rfl) ?_ (fun hHeld => ?_)
 ·exact HCS.out
 try dsimp only at hHeld
 refine tk 0 17 (mf 9 1) hHeld ?_
 refine tk 1 18 (mf 9 2) hHeld ?_
 refine tk 2 19 (mf 9 3) hHeld ?_
 refine wpAnyJ_takeL (i := 3) (d := some 20) (v := ?_) (mf 9 4) (by kernel_rfl) rfl rfl (by kernel_rfl) (by kernel_rfl) (by kernel_rfl) (by kernel_rfl) (by kernel_rfl) (fun _ _ _ h => h) (Or.inl ⟨by rfl, ?_⟩) hHeld ?_
 rotate_left
 ·(intro w hSw; (try dsimp only at hSw); obtain ⟨⟨u0, u1⟩, -⟩ := hSw; go_simp; try with_reducible rfl)
 try simp only [Act.put, sA, sB, sC]
 refine tk 4 21 (mf 9 5) hHeld ?_
 refine tk 5 22 (mf 9 6) hHeld ?_
 refine tk 6 23 (mf 9 7) hHeld ?_
 refine wpAnyJ_takeL (i := 7) (d := some 24) (v := ?_) (mf 9 8) (by kernel_rfl) rfl rfl (by kernel_rfl) (by kernel_rfl) (by kernel_rfl) (by kernel_rfl) (by kernel_rfl) (fun _ _ _ h => h) (Or.inl ⟨by rfl, ?_⟩) hHeld ?_
 rotate_left
 ·(intro w hSw; (try dsimp only at hSw); obtain ⟨-, u0, u1⟩ := hSw; go_simp; try with_reducible rfl)
 try simp only [Act.put, sA, sB, sC]
 refine tk 8 25 (mf 9 9) hHeld ?_
 refine wpAnyJ_done (by kernel_rfl) ?_ _
 clear hHeld hq
 have HEQ : Hid (opE (x1, x2) (y1, y2) = true ↔ ((x1, x2) : Int × Int) = ⟨y1, y2⟩) := by unfold Hid opE; simp
 generalize opE (x1, x2) (y1, y2) = bb at *
 rcases bb with _ | _
 ·have HV : Hid (decide (a = b) = false) := by
   refine decide_eq_false fun e => ?_
   have h1 := HX.out; rw [e, HY.out] at h1
   have h2 := HEQ.out.mpr (Option.some.inj h1).symm
   cases h2
  clear HEQ
  go_wp2_with fail
  go_ret
  exact ⟨by rw [HV.out]; rfl, HBL.out.drew⟩
 ·have HN : Hid (a.take (i + 1) = b.take (i + 1)) := by unfold Hid; rw [take_snoc HX.out, take_snoc HY.out, HE.out, HEQ.out.mp rfl]
  clear HEQ
  go_wp2_with fail
  refine Handed.intro (n - (i + 1)) (by omega) (hJ1 _ _ _ (LpI1.back 5 ?_ (by kernel_rfl)))
  dsimp only [gt]
  exact ⟨i + 1, by go_num, by omega, rfl, HN, HBL.out.drew⟩
end Go.Proofs.YtfaknfmndafllaaGreatDoor
namespace Go.Proofs.YtfaknfmndafllaaGreatDoor
open Go.RowKit
theorem namesE : (∀ x ∈ nsA, x.name.size ≤ 9223372036854775807) ∧ (∀ x ∈ dsE, x.name.size ≤ 9223372036854775807) := by
 constructor <;> intro x hx <;> simp [nsA, dsE] at hx
 ·rcases hx with rfl | rfl <;> decide
 ·rcases hx with rfl | rfl | rfl <;> decide
theorem Blk.asl {w : World} {g n size : Nat} {T : TypeId} {cs : Array Value} {xs : List Value} (h : Blk w g T cs) (hc : cs.toList = xs) (hs : cs.size = n * size) (hn : n ≤ 100) : Sl w w.heap.size size (some ⟨g, 0, none⟩) n n xs := by
 subst hc
 refine ⟨by simpa using hs, Nat.le_refl _, by omega, (fun e => by cases e), fun _ => ⟨g, 0, rfl, h.lt, fun j u hu => ?_⟩⟩
 rw [Nat.zero_add, h.cell]; simpa using hu
def nE : Array Value := #[.string ⟨#[65]⟩, .int .i64 0, .int .i64 0, .string ⟨#[66]⟩, .int .i64 0, .int .i64 0]
def dE : Array Value := #[.string ⟨#[83]⟩, .int .i64 5, .int .i64 0, .int .i64 (-1), .int .i64 0, .string ⟨#[68]⟩, .int .i64 3, .int .i64 0, .int .i64 1, .int .i64 0, .string ⟨#[69]⟩, .int .i64 4, .int .i64 1, .int .i64 (-1), .int .i64 0]
theorem awake_any (w : World) (hl : Laid w) : Calls Tryz.prog 9 #[] w fun e w' => e = .returned (.bool true) ∧ Below w.heap.size w w' := by
 have HB : Hid (Bxs w [(80, nE), (68, dE), (30, #[.slice (some ⟨w.heap.size, 0, none⟩) 2 2, .slice (some ⟨w.heap.size + 1, 0, none⟩) 3 3])] _) := Bxs.new3 w (80, nE) (68, dE) (30, #[.slice (some ⟨w.heap.size, 0, none⟩) 2 2, .slice (some ⟨w.heap.size + 1, 0, none⟩) 3 3])
 have HLA := Lib.hid hl
 clear hl
 dsimp only [nE, dE] at HB
 go_enter Tryz.func9, Tryz.ntmps9
 go_upto_region 2 with (fail)
 generalize World.alloc (World.alloc (World.alloc w _) _) _ = W at *
 rw [show w.heap.size + 1 + 1 = w.heap.size + 2 from rfl]
 have k0 := HB.out.b2.c0
 have k1 := HB.out.b2.c1
 go_wp2_with fail
 clear k0 k1
 have HA1 : Hid (Below W.heap.size W (W.alloc (.cells #[.int .i64 2, .int .i64 1, .int .i64 2] 3))) := (Below.refl _ _).alloc (Nat.le_refl _) _
 have HS1 : Hid (Sl (W.alloc (.cells #[.int .i64 2, .int .i64 1, .int .i64 2] 3)) (W.alloc (.cells #[.int .i64 2, .int .i64 1, .int .i64 2] 3)).heap.size 1 (some ⟨W.heap.size, 0, none⟩) 3 3 (intsV [2, 1, 2])) := (Sl.newest (n := 3) (size := 1) rfl rfl (by decide)).more (by simp)
 have HB1 := Lib.hid (HB.out.later HA1.out)
 obtain ⟨sa, hsa⟩ : ∃ sa : Option Addr, sa = some ⟨W.heap.size, 0, none⟩ := ⟨_, rfl⟩
 rw [← hsa] at HS1 ⊢
 clear hsa HB HA1
 have hz : (World.alloc W (.cells #[.int .i64 2, .int .i64 1, .int .i64 2] 3)).heap.size = W.heap.size + 1 := by simp
 generalize World.alloc W _ = W1 at *
 rw [← hz]
 clear hz
 have HA2 : Hid (Below W1.heap.size W1 (W1.alloc (.cells #[.int .i64 2, .int .i64 2, .int .i64 1] 3))) := (Below.refl _ _).alloc (Nat.le_refl _) _
 have HS2 : Hid (Sl (W1.alloc (.cells #[.int .i64 2, .int .i64 2, .int .i64 1] 3)) (W1.alloc (.cells #[.int .i64 2, .int .i64 2, .int .i64 1] 3)).heap.size 1 (some ⟨W1.heap.size, 0, none⟩) 3 3 (intsV [2, 2, 1])) := (Sl.newest (n := 3) (size := 1) rfl rfl (by decide)).more (by simp)
 have HB2 := Lib.hid (HB1.out.later HA2.out)
 have HS3 := Lib.hid ((HS1.out.below HA2.out (Nat.le_refl _)).more HA2.out.size)
 obtain ⟨sb, hsb⟩ : ∃ sb : Option Addr, sb = some ⟨W1.heap.size, 0, none⟩ := ⟨_, rfl⟩
 rw [← hsb] at HS2 ⊢
 clear hsb HB1 HA2 HS1
 generalize World.alloc W1 _ = W2 at *
 have HM : Hid (HzMem W2 (some ⟨w.heap.size, 0, none⟩) (some ⟨w.heap.size + 1, 0, none⟩) sa none none 2 2 3 3 3 3 0 0 0 0 nsA dsE [2, 1, 2] [] []) := ⟨HB2.out.b0.asl rfl rfl (by decide), HB2.out.b1.asl rfl rfl (by decide), HS3.out, Sl.nil _ _ _, Sl.nil _ _ _, HLA.out.below HB2.out.l (Nat.le_refl _), namesE.1, namesE.2⟩
 refine (rsearch_any _ _ _ none none _ 2 2 3 3 3 3 0 0 0 0 3 3 nsA dsE [2, 1, 2] [2, 2, 1] [] [] 0 W2 HM.out HS2.out).mono ?_
 rintro e w3 ⟨⟨h1, -⟩ | ⟨-, ⟨h1, -⟩ | ⟨p, A, c, hso, -, rfl, hO⟩⟩, hb3⟩
 ·exact absurd errE h1
 ·have := FindIs.unique (r := none) (r' := some [1, 0]) h1 wayE
  cases this
 have hpe : p = [1, 0] := by
  have := FindIs.unique (r := some p) (r' := some [1, 0]) hso wayE
  injection this
 subst hpe
 rw [opsE] at hO
 have HO := Lib.hid hO
 have HB3 := Lib.hid (HB2.out.l.trans (hb3.out.mono HB2.out.l.size))
 clear hso hO hb3 HM HS2 HS3 HB2 HLA
 go_wp2_with fail
 have HA4 : Hid (Below w3.heap.size w3 (w3.alloc (.cells #[.int .i64 2, .int .i64 1, .int .i64 1, .int .i64 2] 62))) := (Below.refl _ _).alloc (Nat.le_refl _) _
 have HS4 : Hid (Sl (w3.alloc (.cells #[.int .i64 2, .int .i64 1, .int .i64 1, .int .i64 2] 62)) (w3.alloc (.cells #[.int .i64 2, .int .i64 1, .int .i64 1, .int .i64 2] 62)).heap.size 2 (some ⟨w3.heap.size, 0, none⟩) 2 2 (opsV [(2, 1), (1, 2)])) := (Sl.newest (n := 2) (size := 2) rfl rfl (by decide)).more (by simp)
 have HO4 := Lib.hid (Sl.of_own (own_later HO.out HA4.out))
 have HB4 := Lib.hid (HB3.out.trans (HA4.out.mono HB3.out.size))
 clear HO HA4 HB3
 obtain ⟨sc, hsc⟩ : ∃ sc : Option Addr, sc = some ⟨w3.heap.size, 0, none⟩ := ⟨_, rfl⟩
 rw [← hsc] at HS4 ⊢
 clear hsc
 generalize World.alloc w3 _ = w4 at *
 refine (sameo_any A sc 2 c 2 2 w4.heap.size w4.heap.size [(2, 1), (1, 2)] [(2, 1), (1, 2)] w4 HO4.out HS4.out (Nat.le_refl _) (Nat.le_refl _)).mono ?_
 rintro e w5 ⟨rfl, hb5⟩
 rw [show decide (([(2, 1), (1, 2)] : List (Int × Int)) = [(2, 1), (1, 2)]) = true from rfl]
 have HB5 := Lib.hid (HB4.out.trans (hb5.mono HB4.out.size))
 clear hb5 HB4 HO4 HS4
 go_wp2_with fail
 have HA6 : Hid (Below w5.heap.size w5 (w5.alloc (.cells #[.int .i64 2, .int .i64 1, .int .i64 2] 3))) := (Below.refl _ _).alloc (Nat.le_refl _) _
 have HS6 : Hid (Sl (w5.alloc (.cells #[.int .i64 2, .int .i64 1, .int .i64 2] 3)) (w5.alloc (.cells #[.int .i64 2, .int .i64 1, .int .i64 2] 3)).heap.size 1 (some ⟨w5.heap.size, 0, none⟩) 3 3 (intsV [2, 1, 2])) := (Sl.newest (n := 3) (size := 1) rfl rfl (by decide)).more (by simp)
 have HB6 := Lib.hid (HB5.out.trans (HA6.out.mono HB5.out.size))
 obtain ⟨sd, hsd⟩ : ∃ sd : Option Addr, sd = some ⟨w5.heap.size, 0, none⟩ := ⟨_, rfl⟩
 rw [← hsd] at HS6 ⊢
 clear hsd HA6 HB5
 have hz : (World.alloc w5 (.cells #[.int .i64 2, .int .i64 1, .int .i64 2] 3)).heap.size = w5.heap.size + 1 := by simp
 generalize World.alloc w5 _ = w6 at *
 rw [← hz]
 clear hz
 have HA7 : Hid (Below w6.heap.size w6 (w6.alloc (.cells #[.int .i64 2, .int .i64 2, .int .i64 1] 3))) := (Below.refl _ _).alloc (Nat.le_refl _) _
 have HS7 : Hid (Sl (w6.alloc (.cells #[.int .i64 2, .int .i64 2, .int .i64 1] 3)) (w6.alloc (.cells #[.int .i64 2, .int .i64 2, .int .i64 1] 3)).heap.size 1 (some ⟨w6.heap.size, 0, none⟩) 3 3 (intsV [2, 2, 1])) := (Sl.newest (n := 3) (size := 1) rfl rfl (by decide)).more (by simp)
 have HS8 := Lib.hid ((HS6.out.below HA7.out (Nat.le_refl _)).more HA7.out.size)
 have HB7 := Lib.hid (HB6.out.trans (HA7.out.mono HB6.out.size))
 obtain ⟨se, hse⟩ : ∃ se : Option Addr, se = some ⟨w6.heap.size, 0, none⟩ := ⟨_, rfl⟩
 rw [← hse] at HS7 ⊢
 clear hse HA7 HB6 HS6
 generalize World.alloc w6 _ = w7 at *
 refine (rsdiff_any sd se 3 3 3 3 w7.heap.size w7.heap.size [2, 1, 2] [2, 2, 1] w7 HS8.out HS7.out (Nat.le_refl _) (Nat.le_refl _) (by decide)).mono ?_
 rintro e w8 ⟨A8, c8, rfl, hO8, hb8⟩
 rw [show min ([2, 1, 2] : List Int).length ([2, 2, 1] : List Int).length = 3 from rfl, difE] at hO8 ⊢
 have HO8 := Lib.hid hO8.out
 have HB8 := Lib.hid (HB7.out.trans (hb8.out.mono HB7.out.size))
 clear hO8 hb8 HB7 HS7 HS8
 go_wp2_with fail
 have HA9 : Hid (Below w8.heap.size w8 (w8.alloc (.cells #[.int .i64 1, .int .i64 2] 3))) := (Below.refl _ _).alloc (Nat.le_refl _) _
 have HS9 : Hid (Sl (w8.alloc (.cells #[.int .i64 1, .int .i64 2] 3)) (w8.alloc (.cells #[.int .i64 1, .int .i64 2] 3)).heap.size 1 (some ⟨w8.heap.size, 0, none⟩) 2 2 (intsV [1, 2])) := (Sl.newest (n := 2) (size := 1) rfl rfl (by decide)).more (by simp)
 have HO9 : Hid (Sl (w8.alloc (.cells #[.int .i64 1, .int .i64 2] 3)) (w8.alloc (.cells #[.int .i64 1, .int .i64 2] 3)).heap.size 1 A8 2 c8 (intsV [1, 2])) := Sl.of_own (own_later HO8.out HA9.out)
 have HB9 := Lib.hid (HB8.out.trans (HA9.out.mono HB8.out.size))
 clear HO8 HA9 HB8
 obtain ⟨sf, hsf⟩ : ∃ sf : Option Addr, sf = some ⟨w8.heap.size, 0, none⟩ := ⟨_, rfl⟩
 rw [← hsf] at HS9 ⊢
 clear hsf
 generalize World.alloc w8 _ = w9 at *
 refine (ints_any A8 sf 2 c8 2 2 w9.heap.size w9.heap.size [1, 2] [1, 2] w9 HO9.out HS9.out (Nat.le_refl _) (Nat.le_refl _)).mono ?_
 rintro e w10 ⟨rfl, hb10⟩
 have HB10 := Lib.hid (HB9.out.trans (hb10.mono HB9.out.size))
 clear hb10 HB9 HO9 HS9
 go_wp2_with fail
 go_ret
 exact ⟨by simp, HB10.out⟩
end Go.Proofs.YtfaknfmndafllaaGreatDoor
