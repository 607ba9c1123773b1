import Derived.Test.YtddddlhgaeameaaGreatDoorJ19
import Derived.Shelf.SlSortCmp.InsertionK
import Derived.Laws.StructEq
set_option maxRecDepth 100000
set_option maxHeartbeats 8000000
namespace Go.Proofs.YtddddlhgaeameaaGreatDoor
open Go.RowKit Tryz
variable {w w4 w5 wr : World} {N : Array Value} {u x : Int} {l : List Int} {i : Nat}
def zf (ns : List Nd) (ds : List Dv) (ls : List Lk) (k : Lk) : Int := if zH ns ds ls ≠ 0 then zH ns ds ls else if zy ds k ≠ 0 then zy ds k else if yq ls k.key = true then 4 else if yj ls k = true then 18 else if ls.length = 128 then 1 else 0
def pE (w : World) (ns : List Nd) (ds : List Dv) (ls : List Lk) (k : Lk) (e : Ending) (w' : World) : Prop :=
 (zf ns ds ls k ≠ 0 ∧ e = .returned (.tuple #[.slice none 0 0, .int .i64 (zf ns ds ls k)]) ∨ zf ns ds ls k = 0 ∧ ∃ (A : Option Addr) (c : Nat), e = .returned (.tuple #[.slice A (ls.length + 1) c, .int .i64 0]) ∧ Hid (ze w' w.heap.size A (ls.length + 1) c (xy k ls))) ∧ Hid (Below w.heap.size w w')
theorem yW {ns : List Nd} {ds : List Dv} {ls : List Lk} (h : zH ns ds ls = 0) : wQ ds ls := by
 unfold zH at h;split at h
 ·next hc => exact absurd h hc
 ·split at h
  ·omega
  ·exact iO (by omega) h
theorem zT {w' : World} (h : w.grownBy w' (Value.slice none 0 0).ownBlock) : bW w w' := ⟨h.os, h.tape, h.output, h.size, fun i hi => h.block i hi (by simp [Value.ownBlock])⟩
theorem xV {w6 : World} {A1 : Option Addr} {j c1 : Nat} {xs : List Value} {o : Obj} {e : TypeId} {size : Nat} (h5 : w4.drew.grownBy w5 (Value.slice none 0 0).ownBlock) (ho : w5.ownsRow w4.heap.size e size (.slice A1 j c1) j xs) (h6 : (w5.alloc o).grownBy w6 (Value.slice A1 j c1).ownBlock) : bW w4 w6 := by
 have h1 : Below w4.heap.size w4 w5 := (Below.refl _ _).drew.trans (zT h5);have h2 := h1.alloc h1.size o;exact h2.trans ⟨h6.os, h6.tape, h6.output, h6.size, fun t ht => h6.block t (by have := h2.size; omega) (fun e => by have := (ho.lt t e.symm).1; omega)⟩
theorem xu {o : Obj} (h5 : (w4.alloc o).drew.grownBy w5 (Value.slice none 0 0).ownBlock) : bW w4 w5 := by
 have h1 : Below w4.heap.size w4 (w4.alloc o).drew := ((Below.refl _ _).alloc lR o).drew;exact h1.trans ((zT h5).mono (by simp))
theorem yz {w6 : World} {A1 : Option Addr} {j c1 : Nat} {xs : List Value} {o : Obj} {e : TypeId} {size : Nat} (h5 : (w4.alloc o).drew.grownBy w5 (Value.slice none 0 0).ownBlock) (ho : w5.ownsRow w4.heap.size e size (.slice A1 j c1) j xs) (h6 : w5.grownBy w6 (Value.slice A1 j c1).ownBlock) : bW w4 w6 := by
 have h2 := xu h5;exact h2.trans ⟨h6.os, h6.tape, h6.output, h6.size, fun t ht => h6.block t (by have := h2.size; omega) (fun e => by have := (ho.lt t e.symm).1; omega)⟩
theorem zt {W : World} {p : Addr} {v : Value} (o : Obj) (h : W.cell? p = some v) : (W.alloc o).cell? p = some v := (World.cell?_alloc_lt W o p (wU h)).trans h
theorem sq {p : Lk → Bool} : ∀ {l : List Lk} {i : Nat}, (∀ x ∈ l.take i, p x = true) → (∀ x, l[i]? = some x → p x = false) → l.takeWhile p = l.take i ∧ l.dropWhile p = l.drop i
 | [], i, _, _ => by simp
 | x :: l, 0, _, h => by
  have := h x rfl;simp [this]
 | x :: l, i + 1, h1, h2 => by
  have hx := h1 x (by simp);obtain ⟨a, b⟩ := sq (p := p) (l := l) (i := i) (fun y hy => h1 y (by simp [hy])) (fun y hy => h2 y (by simpa using hy));simp [hx, a, b]
structure rx (w : World) (N K : Array Value) (wr : World) : Prop where
 bn : AJ wr w.heap.size 26 N
 bk : AJ wr (w.heap.size + 1) 87 K
 bl : bW w wr
theorem rx.later {wr' : World} {K : Array Value} (h : rx w N K wr) (hb : bW wr wr') : rx w N K wr' := ⟨h.bn.below hb h.bn.lt, h.bk.below hb h.bk.lt, h.bl.trans (hb.mono h.bl.size)⟩
theorem rx.drew {K : Array Value} (h : rx w N K wr) : rx w N K wr.drew := h.later (Below.refl _ _).drew
def fV (w : World) (N K : Array Value) (ls : List Lk) (q : Int) (n gk : Nat) (iv : Value) (wr : World) : Prop := ∃ i : Nat, iv = .int .i64 i ∧ i ≤ n ∧ gk = n - i ∧ Hid (yq (ls.take i) q = false) ∧ Hid (rx w N K wr)
def fU (w : World) (N K : Array Value) (ls : List Lk) (k : Lk) (n gk : Nat) (iv : Value) (wr : World) : Prop := ∃ i : Nat, iv = .int .i64 i ∧ i ≤ n ∧ gk = n - i ∧ Hid (∀ x ∈ ls.take i, zu x k = true) ∧ Hid (rx w N K wr)
theorem oL (An Ad Al : Option Addr) (nn cn nd cd c Bn Bd Bl : Nat) (ns : List Nd) (ds : List Dv) (ls : List Lk) (d p q : Int) (w : World) (hn : Sl w Bn 3 An nn cn (ns.flatMap Nd.cells)) (hd : Sl w Bd 5 Ad nd cd (ds.flatMap Dv.cells)) (hs : Sl w Bl 3 Al ls.length c (ls.flatMap Lk.cells)) (Ce : Bn ≤ w.heap.size) (BN : Bd ≤ w.heap.size) (Df : Bl ≤ w.heap.size)
 (Bj : FO ns) (Bc : GH ds) :
 Calls prog 36 #[.agg #[.slice An nn cn, .slice Ad nd cd], .slice Al ls.length c, .agg #[.int .i64 d, .int .i64 p, .int .i64 q]] w (pE w ns ds ls ⟨d, p, q⟩) := by
 obtain ⟨n, Gl⟩ := eX ls.length;rw [← Gl] at hs ⊢;have JG := iD Gl;have HE : Hid (zf ns ds ls ⟨d, p, q⟩ = if zH ns ds ls ≠ 0 then zH ns ds ls else if zy ds ⟨d, p, q⟩ ≠ 0 then zy ds ⟨d, p, q⟩ else if yq ls q = true then 4 else if yj ls ⟨d, p, q⟩ = true then 18 else if n = 128 then 1 else 0) := by unfold Hid zf; rw [Gl]
 have hle := hs.le;have HN := iD hn; have HD := iD hd; have HS := iD hs; have Da := iD Bj; have CU := iD Bc
 have Ar : Hid (rx w #[.slice An nn cn, .slice Ad nd cd] #[.int .i64 d, .int .i64 p, .int .i64 q] ((w.alloc (.cells #[.slice An nn cn, .slice Ad nd cd] 26)).alloc (.cells #[.int .i64 d, .int .i64 p, .int .i64 q] 87))) :=
  ⟨(AJ.new _ _ _).alloc _, by have := AJ.new (w.alloc (.cells #[.slice An nn cn, .slice Ad nd cd] 26)) 87 #[.int .i64 d, .int .i64 p, .int .i64 q]; simpa using this, ((Below.refl _ _).alloc lR _).alloc (by simp) _⟩
 clear hn hd hs Bj Bc Gl
 go_enter func36, ntmps36
 go_wp2_with fail
 generalize World.alloc (World.alloc _ _) _ = W at *;have hz := Ar.bl.size;refine (vy An Ad Al nn cn nd cd n c Bn Bd Bl ns ds ls W (HN.below Ar.bl Ce) (HD.below Ar.bl BN) (HS.below Ar.bl Df) (by omega) (by omega) (by omega) Da CU).mono ?_;rintro e w1 ⟨rfl, AX⟩;have BD := iD (Ar.later AX);clear AX Ar hz;by_cases h0 : zH ns ds ls = 0; rotate_left
 ·have q0 : (zH ns ds ls != 0) = true := by simpa using h0
  have HR : Hid (zf ns ds ls ⟨d, p, q⟩ = zH ns ds ls) := by unfold Hid; rw [HE.out, if_pos h0]
  have JF := iD h0;clear h0
  go_wp2_with fail
  go_ret2;exact ⟨.inl (by rw [HR.out]; exact ⟨JF, rfl⟩), BD.bl⟩
 have HG := iD (yW h0);rw [h0];replace HE : Hid (zf ns ds ls ⟨d, p, q⟩ = if zy ds ⟨d, p, q⟩ ≠ 0 then zy ds ⟨d, p, q⟩ else if yq ls q = true then 4 else if yj ls ⟨d, p, q⟩ = true then 18 else if n = 128 then 1 else 0) := by unfold Hid; rw [HE.out, if_neg (by simp [h0])]
 clear h0;obtain ⟨k0, k1⟩ := BD.bn.d2;obtain ⟨m0, m1, m2⟩ := BD.bk.d3;have Fj := BD.bl.size
 go_wp2_with fail
 clear k0 k1 m0 m1 m2;refine (rH An Ad nn cn nd cd Bd ds d p q w1 (HD.below BD.bl BN) (by omega)).mono ?_;rintro e w2 ⟨rfl, AQ⟩;have Db := iD (BD.later AQ);clear AQ BD Fj;by_cases h1 : zy ds ⟨d, p, q⟩ = 0; rotate_left
 ·have q0 : (zy ds ⟨d, p, q⟩ != 0) = true := by simpa using h1
  have HR : Hid (zf ns ds ls ⟨d, p, q⟩ = zy ds ⟨d, p, q⟩) := by unfold Hid; rw [HE.out, if_pos h1]
  have JF := iD h1;clear h1
  go_wp2_with fail
  go_ret2;exact ⟨.inl (by rw [HR.out]; exact ⟨JF, rfl⟩), Db.bl⟩
 rw [h1];replace HE : Hid (zf ns ds ls ⟨d, p, q⟩ = if yq ls q = true then 4 else if yj ls ⟨d, p, q⟩ = true then 18 else if n = 128 then 1 else 0) := by unfold Hid; rw [HE.out, if_neg (by simp [h1])]
 clear h1
 go_wp2_with fail
 go_loopg [10] n (fV w #[.slice An nn cn, .slice Ad nd cd] #[.int .i64 d, .int .i64 p, .int .i64 q] ls q n)
 case atStart => exact ⟨0, rfl, Nat.zero_le _, rfl, rfl, Db⟩
 case round =>
  clear Db;obtain ⟨i, rfl, hi, rfl, Nc, hst⟩ := hrel;by_cases hlt : i < n
  ·obtain ⟨b, off, d1, p1, q1, rfl, hb, hx, c0, c1, c2⟩ := (HS.below hst.bl Df).lock hlt;have HX := iD hx;have m2 := hst.bk.c2;have BK : Hid (wr.cell? ⟨b, off + i * 3 + 2, none⟩ = some (.int .i64 q1) ∧ wr.cell? ⟨w.heap.size + 1, 2, none⟩ = some (.int .i64 q)) := ⟨c2, m2⟩;clear hx c0 c1 c2 m2;by_cases Gc : q1 = q
   ·subst Gc;have qd : (q1 == q1) = true := by simp
    have AB : Hid (yq ls q1 = true) := by
     have := nU (k := i + 1) (i := ls.length) (ls := ls) (q := q1) (by rw [vI HX.out Nc.out]; simp) (by have := JG.out; omega)
     rwa [List.take_length] at this
    have HR : Hid (zf ns ds ls ⟨d, p, q1⟩ = 4) := by unfold Hid; rw [HE.out, if_pos AB.out]
    go_upto_region 10 with (fail);refine fX (fun W' => W'.cell? ⟨b, off + i * 3 + 2, none⟩ = some (.int .i64 q1) ∧ W'.cell? ⟨w.heap.size + 1, 2, none⟩ = some (.int .i64 q1)) [] ?_ fun AA => ?_
    ·exact BK.out
    try dsimp only at AA
    refine tk 0 33 (mf 8 1) AA ?_;refine tk 1 34 (mf 8 2) AA ?_;refine tk 2 35 (mf 8 3) AA ?_;refine tk 3 36 (mf 8 4) AA ?_;refine tk 4 37 (mf 8 5) AA ?_;refine tk 5 38 (mf 8 6) AA ?_;refine tk 6 39 (mf 8 7) AA ?_;refine tk 7 40 (mf 8 8) AA ?_;refine tK ?_;clear AA
    go_wp2_with fail
    go_ret2;exact ⟨.inl (by rw [HR.out]; exact ⟨by decide, rfl⟩), hst.drew.bl⟩
   ·have qd : (q1 == q) = false := by simpa using Gc
    have BQ : Hid (yq (ls.take (i + 1)) q = false) := by unfold Hid; rw [vI HX.out Nc.out]; simpa using Gc
    clear Gc;go_upto_region 10 with (fail);refine fX (fun W' => W'.cell? ⟨b, off + i * 3 + 2, none⟩ = some (.int .i64 q1) ∧ W'.cell? ⟨w.heap.size + 1, 2, none⟩ = some (.int .i64 q)) [] ?_ fun AA => ?_
    ·exact BK.out
    try dsimp only at AA
    refine tk 0 33 (mf 8 1) AA ?_;refine tk 1 34 (mf 8 2) AA ?_;refine tk 2 35 (mf 8 3) AA ?_;refine tk 3 36 (mf 8 4) AA ?_;refine tk 4 37 (mf 8 5) AA ?_;refine tk 5 38 (mf 8 6) AA ?_;refine tk 6 39 (mf 8 7) AA ?_;refine tk 7 40 (mf 8 8) AA ?_;refine tK ?_;clear AA
    go_wp2_with fail
    go_roundg (n - (i + 1))
    ·exact ⟨i + 1, by go_num, by omega, rfl, BQ, hst.drew⟩
    omega
  ·obtain rfl : i = n := by omega
   have Ck : decide (i < i) = false := by simp
   have AB : Hid (yq ls q = false) := by
    have := Nc.out;rw [List.take_of_length_le (by have := JG.out; omega)] at this;exact this
   replace HE : Hid (zf ns ds ls ⟨d, p, q⟩ = if yj ls ⟨d, p, q⟩ = true then 18 else if i = 128 then 1 else 0) := by unfold Hid; rw [HE.out, if_neg (by rw [AB.out]; simp)]
   have m0 := hst.bk.c0;have Rx := hst.bl.size
   go_wp2_with fail
   clear m0 Ck;refine (oI Al i c Bl ls d wr (HS.below hst.bl Df) (by omega)).mono ?_;rintro e w3 ⟨rfl, BJ⟩;have EG := iD (hst.later BJ);clear BJ hst Rx;have Nj : i ≤ 128 := by have := HG.1; have := JG.out; omega
   have GG : (wL ls d = none ∧ yj ls ⟨d, p, q⟩ = false) ∨ (wL ls d = some p ∧ yj ls ⟨d, p, q⟩ = false) ∨ (∃ pv, wL ls d = some pv ∧ pv ≠ p ∧ yj ls ⟨d, p, q⟩ = true) := by
    have h := iB HG ⟨d, p, q⟩;simp only at h;rcases hl : wL ls d with _ | pv
    ·rw [hl] at h; exact .inl ⟨rfl, h⟩
    ·rw [hl] at h;by_cases hp : pv = p
     ·subst hp; exact .inr (.inl ⟨rfl, by rw [h]; simp⟩)
     ·exact .inr (.inr ⟨pv, rfl, hp, by rw [h]; simp [hp]⟩)
   unfold oh;have m1 := EG.bk.c1;rcases GG with ⟨hl, ho⟩ | ⟨hl, ho⟩ | ⟨pv, hl, hp, ho⟩;rotate_left 2
   ·rw [hl];have HR : Hid (zf ns ds ls ⟨d, p, q⟩ = 18) := by unfold Hid; rw [HE.out, if_pos ho]
    have qp : (pv != p) = true := by simpa using hp
    clear hl hp ho;simp only [Option.getD_some, Option.isSome_some]
    go_wp2_with fail
    go_ret2;exact ⟨.inl (by rw [HR.out]; exact ⟨by decide, rfl⟩), EG.bl⟩
   all_goals
    rw [hl];have HO := iD ho;have Dn : Hid (zf ns ds ls ⟨d, p, q⟩ = if i = 128 then 1 else 0) := by unfold Hid; rw [HE.out, if_neg (by rw [HO.out]; simp)]
    clear hl ho;have AK : (p != p) = false := by simp
    simp only [Option.getD_some, Option.isSome_some, Option.getD_none, Option.isSome_none];by_cases El : i = 128
    ·have HR : Hid (zf ns ds ls ⟨d, p, q⟩ = 1) := by unfold Hid; rw [Dn.out, if_pos El]
     have q1 : decide ((128 : Int) ≤ (i : Int)) = true := by simp; omega
     have q2 : decide (128 ≤ i) = true := by simp; omega
     clear El
     go_wp2_with fail
     go_ret2;exact ⟨.inl (by rw [HR.out]; exact ⟨by decide, rfl⟩), EG.bl⟩
    have HR : Hid (zf ns ds ls ⟨d, p, q⟩ = 0) := by unfold Hid; rw [Dn.out, if_neg El]
    have q1 : decide ((128 : Int) ≤ (i : Int)) = false := by simp; omega
    have q2 : decide (128 ≤ i) = false := by simp; omega
    clear El HE Dn
    go_wp2_with fail
    clear m1 AK q1 q2
    go_loopg [13] i (fU w #[.slice An nn cn, .slice Ad nd cd] #[.int .i64 d, .int .i64 p, .int .i64 q] ls ⟨d, p, q⟩ i)
    case atStart => exact ⟨0, rfl, Nat.zero_le _, rfl, (fun x hx => by simp at hx), EG⟩
    case round =>
     clear EG;obtain ⟨j, rfl, hj, rfl, Nu, hst⟩ := hrel;by_cases SY : j < i
     ·obtain ⟨b, off, d1, p1, q1, rfl, hb, hx, c0, c1, c2⟩ := (HS.below hst.bl Df).lock SY;have HX := iD hx;have BK : Hid (wr.cell? ⟨b, off + j * 3, none⟩ = some (.int .i64 d1) ∧ wr.cell? ⟨b, off + j * 3 + 1, none⟩ = some (.int .i64 p1) ∧ wr.cell? ⟨b, off + j * 3 + 2, none⟩ = some (.int .i64 q1) ∧ wr.cell? ⟨w.heap.size + 1, 0, none⟩ = some (.int .i64 d) ∧ wr.cell? ⟨w.heap.size + 1, 1, none⟩ = some (.int .i64 p) ∧ wr.cell? ⟨w.heap.size + 1, 2, none⟩ = some (.int .i64 q)) := ⟨c0, c1, c2, hst.bk.cell 0, hst.bk.cell 1, hst.bk.cell 2⟩;have DX := iD (rf ⟨d1, p1, q1⟩ ⟨d, p, q⟩ wr.drew);clear hx c0 c1 c2;rcases Gv : zu ⟨d1, p1, q1⟩ ⟨d, p, q⟩ with _ | _
      ·rw [Gv] at DX;have DD : Hid (∀ x, ls[j]? = some x → zu x ⟨d, p, q⟩ = false) := fun x hx => by rw [HX.out] at hx; injection hx with hx; subst hx; exact Gv
       clear Gv;go_upto_region 18 with (fail);refine fX (fun W' => W'.cell? ⟨b, off + j * 3, none⟩ = some (.int .i64 d1) ∧ W'.cell? ⟨b, off + j * 3 + 1, none⟩ = some (.int .i64 p1) ∧ W'.cell? ⟨b, off + j * 3 + 2, none⟩ = some (.int .i64 q1) ∧ W'.cell? ⟨w.heap.size + 1, 0, none⟩ = some (.int .i64 d) ∧ W'.cell? ⟨w.heap.size + 1, 1, none⟩ = some (.int .i64 p) ∧ W'.cell? ⟨w.heap.size + 1, 2, none⟩ = some (.int .i64 q)) [] ?_ fun AA => ?_
       ·exact BK.out
       try dsimp only at AA
       refine tk 0 58 (mf 12 1) AA ?_;refine tk 1 59 (mf 12 2) AA ?_;refine tk 2 60 (mf 12 3) AA ?_;refine tk 3 61 (mf 12 4) AA ?_;refine tk 4 62 (mf 12 5) AA ?_;refine tk 5 63 (mf 12 6) AA ?_;refine tk 6 64 (mf 12 7) AA ?_;refine tk 7 65 (mf 12 8) AA ?_;refine tk 8 66 (mf 12 9) AA ?_;refine tk 9 67 (mf 12 10) AA ?_;refine tb 10 (mf 12 11) fun K hK => ?_
       (go_simp; refine DX.mono ?_; rintro e w4 ⟨rfl, BX⟩; go_simp)
       refine hK _ _ (fun _ => ⟨zD BX BK.1, zD BX BK.2.1, zD BX BK.2.2.1, zD BX BK.2.2.2.1, zD BX BK.2.2.2.2.1, zD BX BK.2.2.2.2.2⟩) fun p => (fun AA => ?_) (p rfl)
       clear p hK K;(try dsimp only at AA);refine tk 11 69 (mf 12 12) AA ?_;refine tK ?_;have Bh := iD (hst.drew.later BX);have Du := Nu.out;clear AA BX hst BK DX Nu;obtain ⟨RF, RJ⟩ := sq (p := fun x => zu x ⟨d, p, q⟩) Du DD.out;have Jy : Hid (xy ⟨d, p, q⟩ ls = ls.take j ++ ⟨d, p, q⟩ :: ls.drop j) := by unfold Hid xy; rw [RF, RJ]
       have FY := iD (HS.below Bh.bl Df);have AV : j ≤ c := by omega
       have Cb := iD (FY.takeK (fun _ => rfl) (by decide) hj);have CU := iD (FY.dropK (fun _ => rfl) (by decide) hj);have Au : Hid (w4.cell? ⟨w.heap.size + 1, 0, none⟩ = some (.int .i64 d) ∧ w4.cell? ⟨w.heap.size + 1, 1, none⟩ = some (.int .i64 p) ∧ w4.cell? ⟨w.heap.size + 1, 2, none⟩ = some (.int .i64 q)) := ⟨Bh.bk.cell 0, Bh.bk.cell 1, Bh.bk.cell 2⟩;have LY : Hid (∀ W, (Instr.sliceAt 27 (.slice (some ⟨b, off, none⟩) i c) (some (.int .i64 (j : Int))) none none).run prog W = .ok (.slice (sX (some ⟨b, off, none⟩) c j 3) (i - j) (c - j)) W) := fun W => vC W _ _ _ _ hj
       clear RF RJ Du DD;go_upto_region 20 with (fail);refine fX (fun W' => W'.cell? ⟨w.heap.size + 1, 0, none⟩ = some (.int .i64 d) ∧ W'.cell? ⟨w.heap.size + 1, 1, none⟩ = some (.int .i64 p) ∧ W'.cell? ⟨w.heap.size + 1, 2, none⟩ = some (.int .i64 q)) [] ?_ fun AA => ?_
       ·exact Au.out
       try dsimp only at AA
       refine tk 0 72 (mf 8 1) AA ?_;refine tk 1 73 (mf 8 2) AA ?_;refine tk 2 74 (mf 8 3) AA ?_;refine tk 4 76 (ma 8 23) AA ?_;refine yP (i := 3) (k := 5) (mf 8 5) (ma 8 55) (by kernel_rfl) (by kernel_rfl) (by kernel_rfl) rfl rfl (fun K hK => ?_) (fun K hK => ?_)
       ·(refine zi (d := some 75) (by rfl) (by rfl) _ (.tmp 74) (by rfl) yO (by rfl) (World.ownsRow_nil _ w4.heap.size _ _) (by rfl) Cb (yR _) (by omega) (by omega) (by simp) ?_; intro A1 c1 w5 Ai Ah EQ; simp only [Nat.zero_add, List.nil_append] at Ai Ah EQ ⊢)
        refine hK _ _ (fun _ => ⟨zD (zT Ah) Au.1, zD (zT Ah) Au.2.1, zD (zT Ah) Au.2.2⟩) fun p => (fun AA => ?_) (p rfl)
        clear p hK K;(try dsimp only at AA);refine tb 5 (mf 8 6) fun K hK => ?_
        go_simp
        refine hK _ _ (fun _ => ⟨zt _ (zD (zT Ah) Au.1), zt _ (zD (zT Ah) Au.2.1), zt _ (zD (zT Ah) Au.2.2)⟩) fun p => (fun AA => ?_) (p rfl)
        clear p hK K;(try dsimp only at AA);refine tb 6 (mf 8 7) fun K hK => ?_
        (refine zi (d := some 78) (by rfl) (by rfl) (.tmp 75) (.tmp 77) (by rfl) yO (by rfl) (World.ownsRow.alloc Ai _) (by rfl) (Sl.newest (n := 1) (by simp) (by rfl) (by decide)) (by simp [Value.oneCell']) (by omega) (by omega) (by have := Ah.size; simp at this ⊢; omega) ?_; intro A2 c2 w6 BZ BG Ej)
        refine hK _ _ (fun _ => ⟨zD (xV Ah Ai BG) Au.1, zD (xV Ah Ai BG) Au.2.1, zD (xV Ah Ai BG) Au.2.2⟩) fun p => (fun AA => ?_) (p rfl)
        clear p hK K;(try dsimp only at AA);refine tk 7 14 (mf 8 8) AA ?_;refine tK ?_;clear AA;have EA : Hid (Below w4.heap.size w4 w6) := by first | exact xV Ah Ai BG | exact yz Ah Ai BG
        have EH := iD BZ;have JD := iD (CU.below EA (by have := Bh.bl.size; omega));have hcut := LY.out;have SB := EA.size;clear Ai Ah EQ BZ BG Ej
        go_wp2_with (at_builtin; go_must (refine zL rfl (.tmp 79) (.tmp 82) rfl yO (by rfl) EH (by rfl) JD (yR _) (by omega) (by omega) (by omega) ?_; intro A3 c3 w7 BH Be DL; have LQ := iD BH; have Dy := iD Be; clear BH Be DL))
        go_ret2;have hlen : ls.length + 1 = j + 1 + (i - j) := by have := JG.out; omega
        refine ⟨.inr ⟨HR, A3, c3, by rw [hlen]; rfl, ?_⟩, ?_⟩
        ·unfold Hid ze; rw [hlen, Jy.out]; rw [List.flatMap_append, List.flatMap_cons, ← List.append_assoc]; exact LQ.mono (by have := Bh.bl.size; omega)
        ·have h1 := Bh.bl.trans (EA.mono Bh.bl.size); exact h1.trans ⟨Dy.os, Dy.tape, Dy.output, Dy.size, fun t ht => Dy.block t (by have := h1.size; omega) (fun e => by have := (EH.lt t e.symm).1; have := Bh.bl.size; omega)⟩
       ·go_simp
        refine hK _ _ (fun _ => ⟨zt _ Au.1, zt _ Au.2.1, zt _ Au.2.2⟩) fun p => (fun AA => ?_) (p rfl)
        clear p hK K;(try dsimp only at AA);refine tb 3 (mf 8 6) fun K hK => ?_
        (refine zi (d := some 75) (by rfl) (by rfl) _ (.tmp 74) (by rfl) yO (by rfl) (World.ownsRow_nil _ w4.heap.size _ _) (by rfl) (Cb.alloc (by have := Bh.bl.size; simp; omega) _) (yR _) (by omega) (by omega) (by simp) ?_; intro A1 c1 w5 Ai Ah EQ; simp only [Nat.zero_add, List.nil_append] at Ai Ah EQ ⊢)
        refine hK _ _ (fun _ => ⟨zD (xu Ah) Au.1, zD (xu Ah) Au.2.1, zD (xu Ah) Au.2.2⟩) fun p => (fun AA => ?_) (p rfl)
        clear p hK K;(try dsimp only at AA);refine tb 6 (mf 8 7) fun K hK => ?_
        (refine zi (d := some 78) (by rfl) (by rfl) (.tmp 75) (.tmp 77) (by rfl) yO (by rfl) Ai (by rfl) ((Sl.newest (w := w4.drew) (cs := #[.int .i64 d, .int .i64 p, .int .i64 q]) (T := 87) (n := 1) (size := 3) rfl (by rfl) (by decide)).below (zT Ah) (by simp)) (by simp [Value.oneCell']) (by omega) (by omega) (by have := Ah.size; simp at this ⊢; omega) ?_; intro A2 c2 w6 BZ BG Ej)
        refine hK _ _ (fun _ => ⟨zD (yz Ah Ai BG) Au.1, zD (yz Ah Ai BG) Au.2.1, zD (yz Ah Ai BG) Au.2.2⟩) fun p => (fun AA => ?_) (p rfl)
        clear p hK K;(try dsimp only at AA);refine tk 7 14 (mf 8 8) AA ?_;refine tK ?_;clear AA;have EA : Hid (Below w4.heap.size w4 w6) := by first | exact xV Ah Ai BG | exact yz Ah Ai BG
        have EH := iD BZ;have JD := iD (CU.below EA (by have := Bh.bl.size; omega));have hcut := LY.out;have SB := EA.size;clear Ai Ah EQ BZ BG Ej
        go_wp2_with (at_builtin; go_must (refine zL rfl (.tmp 79) (.tmp 82) rfl yO (by rfl) EH (by rfl) JD (yR _) (by omega) (by omega) (by omega) ?_; intro A3 c3 w7 BH Be DL; have LQ := iD BH; have Dy := iD Be; clear BH Be DL))
        go_ret2;have hlen : ls.length + 1 = j + 1 + (i - j) := by have := JG.out; omega
        refine ⟨.inr ⟨HR, A3, c3, by rw [hlen]; rfl, ?_⟩, ?_⟩
        ·unfold Hid ze; rw [hlen, Jy.out]; rw [List.flatMap_append, List.flatMap_cons, ← List.append_assoc]; exact LQ.mono (by have := Bh.bl.size; omega)
        ·have h1 := Bh.bl.trans (EA.mono Bh.bl.size); exact h1.trans ⟨Dy.os, Dy.tape, Dy.output, Dy.size, fun t ht => Dy.block t (by have := h1.size; omega) (fun e => by have := (EH.lt t e.symm).1; have := Bh.bl.size; omega)⟩
      ·rw [Gv] at DX
       have EB : Hid (∀ x ∈ ls.take (j + 1), zu x ⟨d, p, q⟩ = true) := fun x hx => by
        rw [zO HX.out] at hx;rcases List.mem_append.1 hx with h | h
        ·exact Nu x h
        ·rw [List.mem_singleton.1 h]; exact Gv
       clear Gv;go_upto_region 18 with (fail);refine fX (fun W' => W'.cell? ⟨b, off + j * 3, none⟩ = some (.int .i64 d1) ∧ W'.cell? ⟨b, off + j * 3 + 1, none⟩ = some (.int .i64 p1) ∧ W'.cell? ⟨b, off + j * 3 + 2, none⟩ = some (.int .i64 q1) ∧ W'.cell? ⟨w.heap.size + 1, 0, none⟩ = some (.int .i64 d) ∧ W'.cell? ⟨w.heap.size + 1, 1, none⟩ = some (.int .i64 p) ∧ W'.cell? ⟨w.heap.size + 1, 2, none⟩ = some (.int .i64 q)) [] ?_ fun AA => ?_
       ·exact BK.out
       try dsimp only at AA
       refine tk 0 58 (mf 12 1) AA ?_;refine tk 1 59 (mf 12 2) AA ?_;refine tk 2 60 (mf 12 3) AA ?_;refine tk 3 61 (mf 12 4) AA ?_;refine tk 4 62 (mf 12 5) AA ?_;refine tk 5 63 (mf 12 6) AA ?_;refine tk 6 64 (mf 12 7) AA ?_;refine tk 7 65 (mf 12 8) AA ?_;refine tk 8 66 (mf 12 9) AA ?_;refine tk 9 67 (mf 12 10) AA ?_;refine tb 10 (mf 12 11) fun K hK => ?_
       (go_simp; refine DX.mono ?_; rintro e w4 ⟨rfl, BX⟩; go_simp)
       refine hK _ _ (fun _ => ⟨zD BX BK.1, zD BX BK.2.1, zD BX BK.2.2.1, zD BX BK.2.2.2.1, zD BX BK.2.2.2.2.1, zD BX BK.2.2.2.2.2⟩) fun p => (fun AA => ?_) (p rfl)
       clear p hK K;(try dsimp only at AA);refine tk 11 69 (mf 12 12) AA ?_;refine tK ?_;have Bh := iD (hst.drew.later BX);clear AA BX hst BK DX Nu
       go_wp2_with fail
       go_roundg (i - (j + 1))
       ·exact ⟨j + 1, by go_num, by omega, rfl, EB, Bh⟩
       omega
     ·have KJ : decide (j < i) = false := by simpa using SY
      have DD : Hid (∀ x, ls[j]? = some x → zu x ⟨d, p, q⟩ = false) := fun x hx => by
       have := (List.getElem?_eq_some_iff.1 hx).1;have := JG.out;omega
      go_upto_region 18 with (fail);refine fX (fun _ => True) [] ?_ fun AA => ?_
      ·exact trivial
      try dsimp only at AA
      refine tk 0 58 (mf 12 1) AA ?_;refine tk 1 59 (mf 12 2) AA ?_;refine tk 2 60 (mf 12 3) AA ?_;refine tk 3 61 (mf 12 4) AA ?_;refine tk 4 62 (mf 12 5) AA ?_;refine ts 5 63 (mf 12 6) AA ?_;refine ts 6 64 (mf 12 7) AA ?_;refine ts 7 65 (mf 12 8) AA ?_;refine ts 8 66 (mf 12 9) AA ?_;refine ts 9 67 (mf 12 10) AA ?_;refine ts 10 68 (mf 12 11) AA ?_;refine tk 11 69 (mf 12 12) AA ?_;refine tK ?_;have Bh := iD hst.drew;have Du := Nu.out;clear AA hst Nu KJ;generalize World.drew _ = w4 at *;obtain ⟨RF, RJ⟩ := sq (p := fun x => zu x ⟨d, p, q⟩) Du DD.out;have Jy : Hid (xy ⟨d, p, q⟩ ls = ls.take j ++ ⟨d, p, q⟩ :: ls.drop j) := by unfold Hid xy; rw [RF, RJ]
      have FY := iD (HS.below Bh.bl Df);have AV : j ≤ c := by omega
      have Cb := iD (FY.takeK (fun _ => rfl) (by decide) hj);have CU := iD (FY.dropK (fun _ => rfl) (by decide) hj);have Au : Hid (w4.cell? ⟨w.heap.size + 1, 0, none⟩ = some (.int .i64 d) ∧ w4.cell? ⟨w.heap.size + 1, 1, none⟩ = some (.int .i64 p) ∧ w4.cell? ⟨w.heap.size + 1, 2, none⟩ = some (.int .i64 q)) := ⟨Bh.bk.cell 0, Bh.bk.cell 1, Bh.bk.cell 2⟩;have LY : Hid (∀ W, (Instr.sliceAt 27 (.slice Al i c) (some (.int .i64 (j : Int))) none none).run prog W = .ok (.slice (sX Al c j 3) (i - j) (c - j)) W) := fun W => vC W _ _ _ _ hj
      clear RF RJ Du DD;go_upto_region 20 with (fail);refine fX (fun W' => W'.cell? ⟨w.heap.size + 1, 0, none⟩ = some (.int .i64 d) ∧ W'.cell? ⟨w.heap.size + 1, 1, none⟩ = some (.int .i64 p) ∧ W'.cell? ⟨w.heap.size + 1, 2, none⟩ = some (.int .i64 q)) [] ?_ fun AA => ?_
      ·exact Au.out
      try dsimp only at AA
      refine tk 0 72 (mf 8 1) AA ?_;refine tk 1 73 (mf 8 2) AA ?_;refine tk 2 74 (mf 8 3) AA ?_;refine tk 4 76 (ma 8 23) AA ?_;refine yP (i := 3) (k := 5) (mf 8 5) (ma 8 55) (by kernel_rfl) (by kernel_rfl) (by kernel_rfl) rfl rfl (fun K hK => ?_) (fun K hK => ?_)
      ·(refine zi (d := some 75) (by rfl) (by rfl) _ (.tmp 74) (by rfl) yO (by rfl) (World.ownsRow_nil _ w4.heap.size _ _) (by rfl) Cb (yR _) (by omega) (by omega) (by simp) ?_; intro A1 c1 w5 Ai Ah EQ; simp only [Nat.zero_add, List.nil_append] at Ai Ah EQ ⊢)
       refine hK _ _ (fun _ => ⟨zD (zT Ah) Au.1, zD (zT Ah) Au.2.1, zD (zT Ah) Au.2.2⟩) fun p => (fun AA => ?_) (p rfl)
       clear p hK K;(try dsimp only at AA);refine tb 5 (mf 8 6) fun K hK => ?_
       go_simp
       refine hK _ _ (fun _ => ⟨zt _ (zD (zT Ah) Au.1), zt _ (zD (zT Ah) Au.2.1), zt _ (zD (zT Ah) Au.2.2)⟩) fun p => (fun AA => ?_) (p rfl)
       clear p hK K;(try dsimp only at AA);refine tb 6 (mf 8 7) fun K hK => ?_
       (refine zi (d := some 78) (by rfl) (by rfl) (.tmp 75) (.tmp 77) (by rfl) yO (by rfl) (World.ownsRow.alloc Ai _) (by rfl) (Sl.newest (n := 1) (by simp) (by rfl) (by decide)) (by simp [Value.oneCell']) (by omega) (by omega) (by have := Ah.size; simp at this ⊢; omega) ?_; intro A2 c2 w6 BZ BG Ej)
       refine hK _ _ (fun _ => ⟨zD (xV Ah Ai BG) Au.1, zD (xV Ah Ai BG) Au.2.1, zD (xV Ah Ai BG) Au.2.2⟩) fun p => (fun AA => ?_) (p rfl)
       clear p hK K;(try dsimp only at AA);refine tk 7 14 (mf 8 8) AA ?_;refine tK ?_;clear AA;have EA : Hid (Below w4.heap.size w4 w6) := by first | exact xV Ah Ai BG | exact yz Ah Ai BG
       have EH := iD BZ;have JD := iD (CU.below EA (by have := Bh.bl.size; omega));have hcut := LY.out;have SB := EA.size;clear Ai Ah EQ BZ BG Ej
       go_wp2_with (at_builtin; go_must (refine zL rfl (.tmp 79) (.tmp 82) rfl yO (by rfl) EH (by rfl) JD (yR _) (by omega) (by omega) (by omega) ?_; intro A3 c3 w7 BH Be DL; have LQ := iD BH; have Dy := iD Be; clear BH Be DL))
       go_ret2;have hlen : ls.length + 1 = j + 1 + (i - j) := by have := JG.out; omega
       refine ⟨.inr ⟨HR, A3, c3, by rw [hlen]; rfl, ?_⟩, ?_⟩
       ·unfold Hid ze; rw [hlen, Jy.out]; rw [List.flatMap_append, List.flatMap_cons, ← List.append_assoc]; exact LQ.mono (by have := Bh.bl.size; omega)
       ·have h1 := Bh.bl.trans (EA.mono Bh.bl.size); exact h1.trans ⟨Dy.os, Dy.tape, Dy.output, Dy.size, fun t ht => Dy.block t (by have := h1.size; omega) (fun e => by have := (EH.lt t e.symm).1; have := Bh.bl.size; omega)⟩
      ·go_simp
       refine hK _ _ (fun _ => ⟨zt _ Au.1, zt _ Au.2.1, zt _ Au.2.2⟩) fun p => (fun AA => ?_) (p rfl)
       clear p hK K;(try dsimp only at AA);refine tb 3 (mf 8 6) fun K hK => ?_
       (refine zi (d := some 75) (by rfl) (by rfl) _ (.tmp 74) (by rfl) yO (by rfl) (World.ownsRow_nil _ w4.heap.size _ _) (by rfl) (Cb.alloc (by have := Bh.bl.size; simp; omega) _) (yR _) (by omega) (by omega) (by simp) ?_; intro A1 c1 w5 Ai Ah EQ; simp only [Nat.zero_add, List.nil_append] at Ai Ah EQ ⊢)
       refine hK _ _ (fun _ => ⟨zD (xu Ah) Au.1, zD (xu Ah) Au.2.1, zD (xu Ah) Au.2.2⟩) fun p => (fun AA => ?_) (p rfl)
       clear p hK K;(try dsimp only at AA);refine tb 6 (mf 8 7) fun K hK => ?_
       (refine zi (d := some 78) (by rfl) (by rfl) (.tmp 75) (.tmp 77) (by rfl) yO (by rfl) Ai (by rfl) ((Sl.newest (w := w4.drew) (cs := #[.int .i64 d, .int .i64 p, .int .i64 q]) (T := 87) (n := 1) (size := 3) rfl (by rfl) (by decide)).below (zT Ah) (by simp)) (by simp [Value.oneCell']) (by omega) (by omega) (by have := Ah.size; simp at this ⊢; omega) ?_; intro A2 c2 w6 BZ BG Ej)
       refine hK _ _ (fun _ => ⟨zD (yz Ah Ai BG) Au.1, zD (yz Ah Ai BG) Au.2.1, zD (yz Ah Ai BG) Au.2.2⟩) fun p => (fun AA => ?_) (p rfl)
       clear p hK K;(try dsimp only at AA);refine tk 7 14 (mf 8 8) AA ?_;refine tK ?_;clear AA;have EA : Hid (Below w4.heap.size w4 w6) := by first | exact xV Ah Ai BG | exact yz Ah Ai BG
       have EH := iD BZ;have JD := iD (CU.below EA (by have := Bh.bl.size; omega));have hcut := LY.out;have SB := EA.size;clear Ai Ah EQ BZ BG Ej
       go_wp2_with (at_builtin; go_must (refine zL rfl (.tmp 79) (.tmp 82) rfl yO (by rfl) EH (by rfl) JD (yR _) (by omega) (by omega) (by omega) ?_; intro A3 c3 w7 BH Be DL; have LQ := iD BH; have Dy := iD Be; clear BH Be DL))
       go_ret2;have hlen : ls.length + 1 = j + 1 + (i - j) := by have := JG.out; omega
       refine ⟨.inr ⟨HR, A3, c3, by rw [hlen]; rfl, ?_⟩, ?_⟩
       ·unfold Hid ze; rw [hlen, Jy.out]; rw [List.flatMap_append, List.flatMap_cons, ← List.append_assoc]; exact LQ.mono (by have := Bh.bl.size; omega)
       ·have h1 := Bh.bl.trans (EA.mono Bh.bl.size); exact h1.trans ⟨Dy.os, Dy.tape, Dy.output, Dy.size, fun t ht => Dy.block t (by have := h1.size; omega) (fun e => by have := (EH.lt t e.symm).1; have := Bh.bl.size; omega)⟩
theorem qE (An Ad : Option Addr) (nn cn nd cd Bd : Nat) (ds : List Dv) (d p q : Int) (w : World) (hd : Sl w Bd 5 Ad nd cd (ds.flatMap Dv.cells)) (BN : Bd ≤ w.heap.size) :
 Calls prog 98 #[.agg #[.slice An nn cn, .slice Ad nd cd], .agg #[.int .i64 d, .int .i64 p, .int .i64 q]] w fun e w' => e = .returned (.int .i64 (zy ds ⟨d, p, q⟩)) ∧ bW w w' := by
 have Fx := iD (hd.len (fun _ => rfl) (by decide));have HE : Hid (zy ds ⟨d, p, q⟩ = if d < 0 then 8 else if (nd : Int) ≤ d then 8 else if rR ds d = 5 then 6 else if p ≠ 1 ∧ p ≠ 2 then 10 else if q < 0 then 5 else if 65536 < q then 5 else 0) := by unfold Hid zy; rw [Fx.out]
 have HB : Hid (Below w.heap.size w ((w.alloc (.cells #[.slice An nn cn, .slice Ad nd cd] 26)).alloc (.cells #[.int .i64 d, .int .i64 p, .int .i64 q] 87))) := ((Below.refl _ _).alloc lR _).alloc (by simp) _;have Ol := iD ((hd.alloc BN (.cells #[.slice An nn cn, .slice Ad nd cd] 26)).alloc (by simp; omega) (.cells #[.int .i64 d, .int .i64 p, .int .i64 q] 87));have MO := hd.le;clear hd;by_cases h1 : d < 0
 ·have q1 : decide (d < 0) = true := by simpa using h1
  go_enter func98, ntmps98
  go_wp2_with fail
  go_ret;exact ⟨zC (by rw [HE.out, if_pos h1]), HB⟩
 have q1 : decide (d < 0) = false := by simpa using h1
 by_cases h2 : (nd : Int) ≤ d
 ·have q2 : decide ((nd : Int) ≤ d) = true := by simpa using h2
  go_enter func98, ntmps98
  go_wp2_with fail
  go_ret;exact ⟨zC (by rw [HE.out, if_neg (by omega), if_pos h2]), HB⟩
 obtain ⟨i, rfl⟩ := Int.eq_ofNat_of_zero_le (show 0 ≤ d by omega);have Ig : i < nd := by omega
 have q2 : decide (nd ≤ i) = false := by simp; omega
 obtain ⟨b0, off, x, rfl, Fs, hx, hc⟩ := Ol.at (fun _ => rfl) (by decide) Ig;have HX := iD (qX hx);obtain ⟨nm, kd, xa, xb, co⟩ := x;have c1 := hc 1 _ rfl;clear hc hx;by_cases h3 : kd = 5
 ·subst h3
  go_enter func98, ntmps98
  go_wp2_with fail
  go_ret;exact ⟨zC (by rw [HE.out, if_neg (by omega), if_neg (by omega), HX.out, if_pos rfl]), HB⟩
 have q3 : (kd == 5) = false := by simpa using h3
 have HR : Hid (zy ds ⟨(i : Int), p, q⟩ = if p ≠ 1 ∧ p ≠ 2 then 10 else if q < 0 then 5 else if 65536 < q then 5 else 0) := by unfold Hid; rw [HE.out, if_neg (by omega), if_neg (by omega), HX.out, if_neg h3]
 clear h1 h2 h3 HE HX;by_cases h4 : p = 1 ∨ p = 2
 ·have FK : Hid (zy ds ⟨(i : Int), p, q⟩ = if q < 0 then 5 else if 65536 < q then 5 else 0) := by unfold Hid; rw [HR.out, if_neg (by omega)]
  clear HR;by_cases h5 : q < 0
  ·have q5 : decide (q < 0) = true := by simpa using h5
   rcases h4 with rfl | rfl
   all_goals
    go_enter func98, ntmps98
    go_wp2_with fail
    go_ret;exact ⟨zC (by rw [FK.out, if_pos h5]), HB⟩
  have q5 : decide (q < 0) = false := by simpa using h5
  by_cases h6 : 65536 < q
  ·have q6 : decide (65536 < q) = true := by simpa using h6
   rcases h4 with rfl | rfl
   all_goals
    go_enter func98, ntmps98
    go_wp2_with fail
    go_ret;exact ⟨zC (by rw [FK.out, if_neg (by omega), if_pos h6]), HB⟩
  have q6 : decide (65536 < q) = false := by simpa using h6
  rcases h4 with rfl | rfl
  all_goals
   go_enter func98, ntmps98
   go_wp2_with fail
   go_ret;exact ⟨zC (by rw [FK.out, if_neg (by omega), if_neg (by omega)]), HB⟩
 ·have p1 : (p != 1) = true := by simp; omega
  have p2 : (p != 2) = true := by simp; omega
  go_enter func98, ntmps98
  go_wp2_with fail
  go_ret;exact ⟨zC (by rw [HR.out, if_pos (by omega)]), HB⟩
def PlR (w : World) (ls : List Lk) (d : Int) (n gk : Nat) (iv : Value) (wr : World) : Prop := ∃ i : Nat, iv = .int .i64 i ∧ i ≤ n ∧ gk = n - i ∧ Hid (∀ x ∈ ls.take i, x.dev ≠ d) ∧ Hid (bW w wr)
theorem mG (A : Option Addr) (n c B : Nat) (ls : List Lk) (d : Int) (w : World) (hs : Sl w B 3 A n c (ls.flatMap Lk.cells)) (hB : B ≤ w.heap.size) :
 Calls prog 122 #[.slice A n c, .int .i64 d] w fun e w' => e = oh ls d ∧ bW w w' := by
 have Ch := iD (hs.len (fun _ => rfl) (by decide)); have HS := iD hs;have hle := hs.le;clear hs
 go_enter func122, ntmps122
 go_wp2_with fail
 go_loopg [10] n (PlR w ls d n)
 case atStart => exact ⟨0, rfl, Nat.zero_le _, rfl, (fun x hx => by simp at hx), Below.refl _ _⟩
 case round =>
  obtain ⟨i, rfl, hi, rfl, hno, AZ⟩ := hrel;by_cases hlt : i < n
  ·obtain ⟨b, off, d1, p1, q1, rfl, hb, hx, c0, c1, c2⟩ := (HS.below AZ hB).lock hlt;have HX := iD hx;have AY : Hid (Below w.heap.size w (wr.alloc (.cells #[.int .i64 d1, .int .i64 p1, .int .i64 q1] 87))) := AZ.alloc AZ.size _;clear hx;by_cases hd : d1 = d
   ·subst hd;have HR : Hid (wL ls d1 = some p1) := mt hno HX rfl;have qq : (d1 == d1) = true := by simp
    go_wp2_with fail
    go_ret2;exact ⟨by unfold oh; rw [HR.out]; rfl, AY⟩
   ·have qq : (d1 == d) = false := by simpa using hd
    have HN : Hid (∀ x ∈ ls.take (i + 1), x.dev ≠ d) := fun x hx => by
     rw [zO HX.out] at hx;rcases List.mem_append.1 hx with h | h
     ·exact hno x h
     ·rw [List.mem_singleton.1 h]; exact hd
    clear hd
    go_wp2_with fail
    go_roundg (n - (i + 1))
    ·exact ⟨i + 1, by go_num, by omega, rfl, HN, AY⟩
    omega
  ·obtain rfl : i = n := by omega
   have Ck : decide (i < i) = false := by simp
   have HR : Hid (wL ls d = none) := by
    have := hno.out;rw [List.take_of_length_le (by rw [Ch.out]; exact Nat.le_refl _)] at this;exact uD.2 this
   go_wp2_with fail
   go_ret2;exact ⟨by unfold oh; rw [HR.out]; rfl, AZ⟩
theorem su (A : Option Addr) (n c B : Nat) (ls : List Lk) (q : Int) (w : World) (hs : Sl w B 3 A n c (ls.flatMap Lk.cells)) (hB : B ≤ w.heap.size) :
 Calls prog 101 #[.slice A n c, .int .i64 q] w fun e w' => e = .returned (.bool (yq ls q)) ∧ bW w w' := by
 have HP : Hid (nP 129 #[.pointer (some ⟨w.heap.size, 0, none⟩)] (fun x => decide (x.key = q)) (w.alloc (.cells #[.int .i64 q] 3))) := by
  intro W d p q1 hb;have hc : W.cell? ⟨w.heap.size, 0, none⟩ = some (.int .i64 q) := (hb.cell (p := ⟨w.heap.size, 0, none⟩) (by simp)).trans (by simp);have Ab : w.heap.size < W.heap.size := Nat.lt_of_lt_of_le (by simp) hb.size;have hne : w.heap.size ≠ W.heap.size := by omega
  show Calls prog 129 #[.agg #[.int .i64 d, .int .i64 p, .int .i64 q1], .pointer (some ⟨w.heap.size, 0, none⟩)] W _
  go_enter func129, ntmps129
  go_wp2_with fail
  go_ret;exact ⟨zE (by by_cases h : q1 = q <;> simp [h]), hb.alloc hb.size _⟩
 have HI := iD (tr 129 #[.pointer (some ⟨w.heap.size, 0, none⟩)] (fun x => decide (x.key = q)) (enters_of func129 (by kernel_rfl) rfl) A n c B ls _ (hs.alloc hB _) (by simp; omega) HP);have HB : Hid (Below w.heap.size w (w.alloc (.cells #[.int .i64 q] 3))) := (Below.refl _ _).alloc lR _;clear hs HP
 go_enter func101, ntmps101
 go_wp2_with fail
 refine HI.mono ?_;rintro e w1 ⟨rfl, hb⟩;have AY := iD (HB.trans (hb.mono (by simp)));clear hb
 go_wp2_with fail
 go_ret;exact ⟨rfl, AY⟩
theorem th (A : Option Addr) (n c B : Nat) (ls : List Lk) (d p q : Int) (w : World) (hs : Sl w B 3 A n c (ls.flatMap Lk.cells)) (hB : B ≤ w.heap.size) :
 Calls prog 100 #[.slice A n c, .agg #[.int .i64 d, .int .i64 p, .int .i64 q]] w fun e w' => e = .returned (.bool (yj ls ⟨d, p, q⟩)) ∧ bW w w' := by
 have HP : Hid (nP 128 #[.pointer (some ⟨w.heap.size, 0, none⟩)] (tQ ⟨d, p, q⟩) (w.alloc (.cells #[.int .i64 d, .int .i64 p, .int .i64 q] 87))) := by
  intro W d1 p1 q1 hb;have Mv : W.cell? ⟨w.heap.size, 0, none⟩ = some (.int .i64 d) := (hb.cell (p := ⟨w.heap.size, 0, none⟩) (by simp)).trans (by simp);have Mt : W.cell? ⟨w.heap.size, 1, none⟩ = some (.int .i64 p) := (hb.cell (p := ⟨w.heap.size, 1, none⟩) (by simp)).trans (by simp);have Ab : w.heap.size < W.heap.size := Nat.lt_of_lt_of_le (by simp) hb.size;have hne : w.heap.size ≠ W.heap.size := by omega
  have BF : Hid (Below (w.alloc (.cells #[.int .i64 d, .int .i64 p, .int .i64 q] 87)).heap.size (w.alloc (.cells #[.int .i64 d, .int .i64 p, .int .i64 q] 87)) (W.alloc (.cells #[.int .i64 d1, .int .i64 p1, .int .i64 q1] 87))) := hb.alloc hb.size _;clear hb
  show Calls prog 128 #[.agg #[.int .i64 d1, .int .i64 p1, .int .i64 q1], .pointer (some ⟨w.heap.size, 0, none⟩)] W _
  by_cases h : d1 = d
  ·subst h;have qd : (d1 == d1) = true := by simp
   go_enter func128, ntmps128
   go_wp2_with fail
   go_ret;exact ⟨zE (by by_cases h : p1 = p <;> simp [h, tQ]), BF⟩
  ·have qd : (d1 == d) = false := by simpa using h
   have HR : Hid (tQ ⟨d, p, q⟩ ⟨d1, p1, q1⟩ = false) := by unfold Hid; simp [tQ, h]
   go_enter func128, ntmps128
   go_wp2_with fail
   go_ret;exact ⟨zE HR.symm, BF⟩
 have HI := iD (tr 128 #[.pointer (some ⟨w.heap.size, 0, none⟩)] (tQ ⟨d, p, q⟩) (enters_of func128 (by kernel_rfl) rfl) A n c B ls _ (hs.alloc hB _) (by simp; omega) HP);have HB : Hid (Below w.heap.size w (w.alloc (.cells #[.int .i64 d, .int .i64 p, .int .i64 q] 87))) := (Below.refl _ _).alloc lR _;clear hs HP
 go_enter func100, ntmps100
 go_wp2_with fail
 refine HI.mono ?_;rintro e w1 ⟨rfl, hb⟩;have AY := iD (HB.trans (hb.mono (by simp)));clear hb
 go_wp2_with fail
 go_ret;exact ⟨rfl, AY⟩
section
open Go.Sort (grow alloc_eq_grow)
theorem wO {W : World} {p : Addr} {v : Value} (o : Obj) (h : W.cell? p = some v) : (W.alloc o).cell? p = some v := (World.cell?_alloc_lt W o p (wU h)).trans h
theorem mI (w : World) (a b c : Obj) : ∃ n os, ((w.alloc a).alloc b).drew.alloc c = grow (w.drewN n) os := ⟨1, #[a] ++ #[b] ++ #[c], by
 rw [alloc_eq_grow w a, alloc_eq_grow _ b, Go.Sort.grow_grow]
 show (grow w.drew (#[a] ++ #[b])).alloc c = _
 rw [alloc_eq_grow, Go.Sort.grow_grow]; rfl⟩
def tV (a b : Int) : Int := if a < b then -1 else if b < a then 1 else 0
def Rp (x y : Int) : Int := if x ≠ 0 then x else y
def pU (a b : Lk) : Int := Rp (tV a.dev b.dev) (tV a.key b.key)
theorem rJ (a b : Lk) : pU a b < 0 ↔ zu a b = true := by
 rw [uU]; unfold pU Rp tV;split <;> split <;> (try split) <;> omega
theorem uM (x : Int) (w : World) : Calls prog 142 #[.int .i64 x] w fun e w' => e = .returned (.bool false) ∧ w = w' := by
 have q : (x != x) = false := by simp
 go_enter func142, ntmps142
 go_wp2_with fail
 go_ret;exact ⟨rfl, rfl⟩
theorem lI (x y : Int) (w : World) : Calls prog 127 #[.int .i64 x, .int .i64 y] w fun e w' => e = .returned (.int .i64 (tV x y)) ∧ w = w' := by
 by_cases h1 : x < y
 ·have q1 : decide (x < y) = true := by simpa using h1
  have HR : Hid (tV x y = -1) := by unfold Hid tV; rw [if_pos h1]
  go_enter func127, ntmps127
  go_wp2_with fail
  refine (uM x w).mono ?_;rintro e w1 ⟨rfl, rfl⟩
  go_wp2_with fail
  refine (uM y _).mono ?_;rintro e w1 ⟨rfl, rfl⟩
  go_wp2_with fail
  go_ret;exact ⟨zC HR.symm, rfl⟩
 have q1 : decide (x < y) = false := by simpa using h1
 by_cases h2 : y < x
 ·have q2 : decide (y < x) = true := by simpa using h2
  have HR : Hid (tV x y = 1) := by unfold Hid tV; rw [if_neg h1, if_pos h2]
  go_enter func127, ntmps127
  go_wp2_with fail
  refine (uM x w).mono ?_;rintro e w1 ⟨rfl, rfl⟩
  go_wp2_with fail
  refine (uM y _).mono ?_;rintro e w1 ⟨rfl, rfl⟩
  go_wp2_with fail
  go_ret;exact ⟨zC HR.symm, rfl⟩
 have q2 : decide (y < x) = false := by simpa using h2
 have HR : Hid (tV x y = 0) := by unfold Hid tV; rw [if_neg h1, if_neg h2]
 go_enter func127, ntmps127
 go_wp2_with fail
 refine (uM x w).mono ?_;rintro e w1 ⟨rfl, rfl⟩
 go_wp2_with fail
 refine (uM y _).mono ?_;rintro e w1 ⟨rfl, rfl⟩
 go_wp2_with fail
 go_ret;exact ⟨zC HR.symm, rfl⟩
theorem ip (b : Nat) (x y : Int) (w : World) (h0 : w.cell? ⟨b, 0, none⟩ = some (.int .i64 x)) (h1 : w.cell? ⟨b, 1, none⟩ = some (.int .i64 y)) :
 Calls prog 126 #[.slice (some ⟨b, 0, none⟩) 2 2] w fun e w' => e = .returned (.int .i64 (Rp x y)) ∧ w = w' := by
 by_cases hx : x = 0
 ·subst hx;have e1 : ((0 : Int) != 0) = false := by decide
  by_cases hy : y = 0
  ·subst hy
   go_enter func126, ntmps126
   go_wp2_with fail
   refine wp_loop_rounds 3 ?_;rw [rounds_succ]
   go_wp2_with fail
   rw [rounds_succ]
   go_wp2_with fail
   rw [rounds_succ]
   go_wp2_with fail
   go_ret;exact ⟨zC (by unfold Rp; rw [if_neg (by simp)]), rfl⟩
  ·have e2 : (y != 0) = true := by simpa using hy
   go_enter func126, ntmps126
   go_wp2_with fail
   refine wp_loop_rounds 3 ?_;rw [rounds_succ]
   go_wp2_with fail
   rw [rounds_succ]
   go_wp2_with fail
   go_ret;exact ⟨zC (by unfold Rp; rw [if_neg (by simp)]), rfl⟩
 ·have e1 : (x != 0) = true := by simpa using hx
  have HX := iD hx;clear hx
  go_enter func126, ntmps126
  go_wp2_with fail
  refine wp_loop_rounds 3 ?_;rw [rounds_succ]
  go_wp2_with fail
  go_ret;exact ⟨zC (by unfold Rp; rw [if_pos HX.out]), rfl⟩
theorem qT (a b : Lk) (w : World) : Calls prog 99 #[.agg #[.int .i64 a.dev, .int .i64 a.pos, .int .i64 a.key], .agg #[.int .i64 b.dev, .int .i64 b.pos, .int .i64 b.key]] w fun e w' => e = .returned (.int .i64 (pU a b)) ∧ ∃ q os, w' = grow (w.drewN q) os := by
 obtain ⟨d, p, q⟩ := a;obtain ⟨d2, p2, q2⟩ := b;have IG := iD (fun W => lI d d2 W);have NP := iD (fun W => lI q q2 W);have HR : Hid (pU ⟨d, p, q⟩ ⟨d2, p2, q2⟩ = Rp (tV d d2) (tV q q2)) := rfl;generalize tV d d2 = r1 at *;generalize tV q q2 = r2 at *
 have BK : Hid ((((w.alloc (.cells #[.int .i64 d, .int .i64 p, .int .i64 q] 87)).alloc (.cells #[.int .i64 d2, .int .i64 p2, .int .i64 q2] 87)).cell? ⟨w.heap.size, 0, none⟩ = some (.int .i64 d)) ∧ (((w.alloc (.cells #[.int .i64 d, .int .i64 p, .int .i64 q] 87)).alloc (.cells #[.int .i64 d2, .int .i64 p2, .int .i64 q2] 87)).cell? ⟨w.heap.size, 2, none⟩ = some (.int .i64 q)) ∧ (((w.alloc (.cells #[.int .i64 d, .int .i64 p, .int .i64 q] 87)).alloc (.cells #[.int .i64 d2, .int .i64 p2, .int .i64 q2] 87)).cell? ⟨w.heap.size + 1, 0, none⟩ = some (.int .i64 d2)) ∧ (((w.alloc (.cells #[.int .i64 d, .int .i64 p, .int .i64 q] 87)).alloc (.cells #[.int .i64 d2, .int .i64 p2, .int .i64 q2] 87)).cell? ⟨w.heap.size + 1, 2, none⟩ = some (.int .i64 q2))) := by
  have b1 : AJ ((w.alloc (.cells #[.int .i64 d, .int .i64 p, .int .i64 q] 87)).alloc (.cells #[.int .i64 d2, .int .i64 p2, .int .i64 q2] 87)) w.heap.size 87 #[.int .i64 d, .int .i64 p, .int .i64 q] := (AJ.new _ _ _).alloc _;have b2 : AJ ((w.alloc (.cells #[.int .i64 d, .int .i64 p, .int .i64 q] 87)).alloc (.cells #[.int .i64 d2, .int .i64 p2, .int .i64 q2] 87)) (w.heap.size + 1) 87 #[.int .i64 d2, .int .i64 p2, .int .i64 q2] := by have := AJ.new (w.alloc (.cells #[.int .i64 d, .int .i64 p, .int .i64 q] 87)) 87 #[.int .i64 d2, .int .i64 p2, .int .i64 q2]; simpa using this
  exact ⟨b1.cell 0, b1.cell 2, b2.cell 0, b2.cell 2⟩
 have Dg : Hid (∀ o, ∃ nq os, ((w.alloc (.cells #[.int .i64 d, .int .i64 p, .int .i64 q] 87)).alloc (.cells #[.int .i64 d2, .int .i64 p2, .int .i64 q2] 87)).drew.alloc o = grow (w.drewN nq) os) := fun o => mI w _ _ o
 go_enter func99, ntmps99
 go_upto_region 1 with (fail);generalize World.alloc (World.alloc _ _) _ = W at *;refine fX (fun W' => W'.cell? ⟨w.heap.size, 0, none⟩ = some (.int .i64 d) ∧ W'.cell? ⟨w.heap.size, 2, none⟩ = some (.int .i64 q) ∧ W'.cell? ⟨w.heap.size + 1, 0, none⟩ = some (.int .i64 d2) ∧ W'.cell? ⟨w.heap.size + 1, 2, none⟩ = some (.int .i64 q2)) [] ?_ fun AA => ?_
 ·exact BK.out
 try dsimp only at AA
 refine tk 0 5 (mf 13 1) AA ?_;refine tk 1 6 (mf 13 2) AA ?_;refine tk 2 7 (mf 13 3) AA ?_;refine tk 3 8 (mf 13 4) AA ?_;refine tk 5 10 (ma 13 47) AA ?_;refine tk 6 11 (ma 13 111) AA ?_;refine tk 7 12 (ma 13 239) AA ?_;refine tk 8 13 (ma 13 495) AA ?_;refine tb 4 (mf 13 9) fun K hK => ?_
 (go_simp; refine (IG _).mono ?_; rintro e w1 ⟨rfl, rfl⟩; go_simp)
 refine hK _ _ (fun _ => BK.out) fun p => (fun AA => ?_) (p rfl)
 clear p hK K;(try dsimp only at AA);refine tb 9 (mf 13 10) fun K hK => ?_
 (go_simp; refine (NP _).mono ?_; rintro e w1 ⟨rfl, rfl⟩; go_simp)
 refine hK _ _ (fun _ => BK.out) fun p => (fun AA => ?_) (p rfl)
 clear p hK K;(try dsimp only at AA);refine tb 10 (mf 13 11) fun K hK => ?_
 go_simp
 refine hK _ _ (fun _ => ⟨wO _ BK.1, wO _ BK.2.1, wO _ BK.2.2.1, wO _ BK.2.2.2⟩) fun p => (fun AA => ?_) (p rfl)
 clear p hK K;(try dsimp only at AA);refine tb 11 (mf 13 12) fun K hK => ?_
 (go_simp; refine (ip W.heap.size r1 r2 _ (by simp) (by simp)).mono ?_; rintro e w1 ⟨rfl, rfl⟩; go_simp)
 refine hK _ _ (fun _ => ⟨wO _ BK.1, wO _ BK.2.1, wO _ BK.2.2.1, wO _ BK.2.2.2⟩) fun p => (fun AA => ?_) (p rfl)
 clear p hK K;(try dsimp only at AA);refine tk 12 4 (mf 13 13) AA ?_;refine tK ?_
 go_wp2_with fail
 go_ret;exact ⟨zC HR.symm, Dg _⟩
end
theorem zw {w' : World} (h : ∃ q os, w' = Go.Sort.grow (w.drewN q) os) : bW w w' := by
 obtain ⟨q, os, rfl⟩ := h;exact ⟨rfl, rfl, rfl, by simp [Go.Sort.grow, World.drewN], fun i hi => by simp only [Go.Sort.grow, World.drewN]; rw [Array.getElem?_append_left hi]⟩
structure sG (w : World) (N : Array Value) (wr : World) : Prop where
 bn : AJ wr w.heap.size 26 N
 bl : bW w wr
theorem sG.later {wr' : World} (h : sG w N wr) (hb : bW wr wr') : sG w N wr' := ⟨h.bn.below hb h.bn.lt, h.bl.trans (hb.mono h.bl.size)⟩
theorem sG.drew (h : sG w N wr) : sG w N wr.drew := h.later (Below.refl _ _).drew
def PcR (w : World) (N : Array Value) (ds : List Dv) (ls : List Lk) (n gk : Nat) (iv : Value) (wr : World) : Prop := ∃ i : Nat, iv = .int .i64 i ∧ i ≤ n ∧ gk = n - i ∧ Hid (yN ds ls i = 0) ∧ Hid (sG w N wr)
theorem uo (An Ad Al : Option Addr) (nn cn nd cd n c Bn Bd Bl : Nat) (ns : List Nd) (ds : List Dv) (ls : List Lk) (w : World) (hl : yr w) (hn : Sl w Bn 3 An nn cn (ns.flatMap Nd.cells)) (hd : Sl w Bd 5 Ad nd cd (ds.flatMap Dv.cells)) (hs : Sl w Bl 3 Al n c (ls.flatMap Lk.cells)) (Ce : Bn ≤ w.heap.size) (BN : Bd ≤ w.heap.size) (Df : Bl ≤ w.heap.size)
 (Bj : FO ns) (Bc : GH ds) :
 Calls prog 81 #[.agg #[.slice An nn cn, .slice Ad nd cd], .slice Al n c] w fun e w' => e = .returned (.int .i64 (zH ns ds ls)) ∧ bW w w' := by
 have hle := hs.le;have Lj := hs.len (fun _ => rfl) (by decide);have JG := iD Lj;have HE : Hid (zH ns ds ls = if zR ns ds ≠ 0 then zR ns ds else if 128 < n then 1 else yN ds ls n) := by unfold Hid zH; rw [Lj]
 have Ar : Hid (sG w #[.slice An nn cn, .slice Ad nd cd] (w.alloc (.cells #[.slice An nn cn, .slice Ad nd cd] 26))) := ⟨AJ.new _ _ _, (Below.refl _ _).alloc lR _⟩;have Cy := iD (um An Ad nn cn nd cd Bn Bd ns ds (w.alloc (.cells #[.slice An nn cn, .slice Ad nd cd] 26)) (hl.alloc _) (hn.below Ar.bl Ce) (hd.below Ar.bl BN) (by simp; omega) (by simp; omega) Bj Bc);have HD := iD hd; have HS := iD hs;clear hn hd hs Bj Bc hl Lj
 go_enter func81, ntmps81
 go_wp2_with fail
 generalize World.alloc _ _ = W at *;refine Cy.mono ?_;rintro e w1 ⟨rfl, AX⟩;have BD := iD (Ar.later AX);clear AX Ar Cy;by_cases h0 : zR ns ds = 0; rotate_left
 ·have q0 : (zR ns ds != 0) = true := by simpa using h0
  have HR : Hid (zH ns ds ls = zR ns ds) := by unfold Hid; rw [HE.out, if_pos h0]
  clear h0
  go_wp2_with fail
  go_ret;exact ⟨zC HR.symm, BD.bl⟩
 rw [h0];replace HE : Hid (zH ns ds ls = if 128 < n then 1 else yN ds ls n) := by unfold Hid; rw [HE.out, if_neg (by simp [h0])]
 clear h0;by_cases h1 : 128 < n
 ·have q0 : decide ((128 : Int) < (n : Int)) = true := by simp; omega
  have q1 : decide (128 < n) = true := by simpa using h1
  have HR : Hid (zH ns ds ls = 1) := by unfold Hid; rw [HE.out, if_pos h1]
  clear h1
  go_wp2_with fail
  go_ret;exact ⟨zC HR.symm, BD.bl⟩
 have q0 : decide ((128 : Int) < (n : Int)) = false := by simp; omega
 have q1 : decide (128 < n) = false := by simpa using h1
 replace HE : Hid (zH ns ds ls = yN ds ls n) := by unfold Hid; rw [HE.out, if_neg h1]
 clear h1
 go_wp2_with fail
 clear q0 q1
 go_loopg [19] n (PcR w #[.slice An nn cn, .slice Ad nd cd] ds ls n)
 case atStart => exact ⟨0, rfl, Nat.zero_le _, rfl, rfl, BD⟩
 case round =>
  clear BD;obtain ⟨i, rfl, hi, rfl, Lm, hst⟩ := hrel;by_cases hlt : i < n
  ·obtain ⟨b, off, d, p, q, rfl, hb, hx, c0, c1, c2⟩ := (HS.below hst.bl Df).lock hlt;have HX := iD hx;have DD : Hid (∀ e, xH ds ls i = e → e ≠ 0 → zH ns ds ls = e) := fun e he h => by rw [HE.out]; exact yt Lm he h n hlt
   have Rb : Hid (xH ds ls i = 0 → yN ds ls (i + 1) = 0) := fun he => uF Lm he
   have Fa : Hid (xH ds ls i = if zy ds ⟨d, p, q⟩ ≠ 0 then zy ds ⟨d, p, q⟩ else if xD ls i ⟨d, p, q⟩ = true then 14 else if yj (ls.take i) ⟨d, p, q⟩ = true then 18 else if yq (ls.take i) q = true then 4 else 0) := by unfold Hid xH; rw [hx]
   have Db : Hid (sG w #[.slice An nn cn, .slice Ad nd cd] (wr.alloc (.cells #[.int .i64 d, .int .i64 p, .int .i64 q] 87))) := hst.later ((Below.refl _ _).alloc lR _);have EE : Hid (AJ (wr.alloc (.cells #[.int .i64 d, .int .i64 p, .int .i64 q] 87)) wr.heap.size 87 #[.int .i64 d, .int .i64 p, .int .i64 q]) := AJ.new _ _ _;have Ae := hst.bl.size;have Au : Hid (Below w.heap.size w wr) := hst.bl;clear hx Lm hst;go_upto_region 9 with (fail);clear c0 c1 c2;generalize AG : World.alloc wr _ = W2 at *;have GD : W2.heap.size = wr.heap.size + 1 := by rw [← AG]; simp
   have AE := iD (HS.below Db.bl Df);have XT := iD (HD.below Db.bl BN);clear AG;obtain ⟨k0, k1⟩ := Db.bn.d2;obtain ⟨m0, m1, m2⟩ := EE.d3
   go_wp2_with fail
   clear k0 k1 m0 m1 m2;refine (qE An Ad nn cn nd cd Bd ds d p q W2 XT (by omega)).mono ?_;rintro e w3 ⟨rfl, BJ⟩;have EG := iD (Db.later BJ);have EL := iD (EE.below BJ EE.lt);have JO := BJ.size;clear Db EE AE XT BJ;by_cases hv : zy ds ⟨d, p, q⟩ = 0; rotate_left
   ·have qv : (zy ds ⟨d, p, q⟩ != 0) = true := by simpa using hv
    have HR : Hid (zH ns ds ls = zy ds ⟨d, p, q⟩) := DD _ (by rw [Fa.out, if_pos hv]) hv;clear hv
    go_wp2_with fail
    go_ret;exact ⟨zC HR.symm, EG.bl⟩
   rw [hv];replace Fa : Hid (xH ds ls i = if xD ls i ⟨d, p, q⟩ = true then 14 else if yj (ls.take i) ⟨d, p, q⟩ = true then 18 else if yq (ls.take i) q = true then 4 else 0) := by unfold Hid; rw [Fa.out, if_neg (by simp [hv])]
   clear hv;by_cases Ll : 0 < i
   ·obtain ⟨b1, Ep, d1, p1, q1, Ew, _, Di, g0, g1, g2⟩ := (HS.below EG.bl Df).lock (i := i - 1) (by omega);injection Ew with Ew; injection Ew with h1 h2; subst h1 h2;have EJ := iD (qU (k := ⟨d, p, q⟩) Ll Di);have BK : Hid (w3.cell? ⟨b, off + (i - 1) * 3, none⟩ = some (.int .i64 d1) ∧ w3.cell? ⟨b, off + (i - 1) * 3 + 1, none⟩ = some (.int .i64 p1) ∧ w3.cell? ⟨b, off + (i - 1) * 3 + 2, none⟩ = some (.int .i64 q1) ∧ w3.cell? ⟨wr.heap.size, 0, none⟩ = some (.int .i64 d) ∧ w3.cell? ⟨wr.heap.size, 1, none⟩ = some (.int .i64 p) ∧ w3.cell? ⟨wr.heap.size, 2, none⟩ = some (.int .i64 q)) := ⟨g0, g1, g2, EL.cell 0, EL.cell 1, EL.cell 2⟩;clear g0 g1 g2 Di;obtain ⟨i1, Sa⟩ := eX (i - 1);rw [← Sa] at BK;have e1 : IntKind.i64.wrap ((i : Int) - 1) = (i1 : Int) := by rw [IntWalk.i64_in _ (by omega)]; omega
    have Aa : i1 < n := by omega
    have qi : decide ((0 : Int) < (i : Int)) = true := by simp; omega
    clear Sa;have DX := iD (qT ⟨d1, p1, q1⟩ ⟨d, p, q⟩ w3.drew);have Fw := iD (rJ ⟨d1, p1, q1⟩ ⟨d, p, q⟩);generalize pU ⟨d1, p1, q1⟩ ⟨d, p, q⟩ = r at *;rcases Gv : zu ⟨d1, p1, q1⟩ ⟨d, p, q⟩ with _ | _
    ·rw [Gv] at EJ Fw;have qr : decide (0 ≤ r) = true := by have := Fw.out; simp at this ⊢; omega
     have HR : Hid (zH ns ds ls = 14) := DD _ (by rw [Fa.out, if_pos (by rw [EJ.out]; rfl)]) (by decide);clear Gv;go_upto_region 12 with (fail);refine fX (fun W' => W'.cell? ⟨b, off + i1 * 3, none⟩ = some (.int .i64 d1) ∧ W'.cell? ⟨b, off + i1 * 3 + 1, none⟩ = some (.int .i64 p1) ∧ W'.cell? ⟨b, off + i1 * 3 + 2, none⟩ = some (.int .i64 q1) ∧ W'.cell? ⟨wr.heap.size, 0, none⟩ = some (.int .i64 d) ∧ W'.cell? ⟨wr.heap.size, 1, none⟩ = some (.int .i64 p) ∧ W'.cell? ⟨wr.heap.size, 2, none⟩ = some (.int .i64 q)) [] ?_ fun AA => ?_
     ·exact BK.out
     try dsimp only at AA
     refine tk 0 32 (mf 13 1) AA ?_;refine tk 1 33 (mf 13 2) AA ?_;refine tk 2 34 (mf 13 3) AA ?_;refine tk 3 35 (mf 13 4) AA ?_;refine tk 4 36 (mf 13 5) AA ?_;refine tk 5 37 (mf 13 6) AA ?_;refine tk 6 38 (mf 13 7) AA ?_;refine tk 7 39 (mf 13 8) AA ?_;refine tk 8 40 (mf 13 9) AA ?_;refine tb 9 (mf 13 10) fun K hK => ?_
     (go_simp; refine DX.mono ?_; rintro e w4 ⟨rfl, BX⟩; go_simp)
     refine hK _ _ (fun _ => ⟨zD (zw BX) BK.1, zD (zw BX) BK.2.1, zD (zw BX) BK.2.2.1, zD (zw BX) BK.2.2.2.1, zD (zw BX) BK.2.2.2.2.1, zD (zw BX) BK.2.2.2.2.2⟩) fun p => (fun AA => ?_) (p rfl)
     clear p hK K;(try dsimp only at AA);refine tk 10 42 (mf 13 11) AA ?_;refine tk 11 43 (mf 13 12) AA ?_;refine tk 12 31 (mf 13 13) AA ?_;refine tK ?_;have Bh := iD (EG.drew.later (zw BX));clear AA BX
     go_wp2_with fail
     go_ret;exact ⟨zC HR.symm, Bh.bl⟩
    ·rw [Gv] at EJ Fw;have qr : decide (0 ≤ r) = false := by have := Fw.out; simp at this ⊢; omega
     replace EJ : Hid (xD ls i ⟨d, p, q⟩ = false) := by unfold Hid; rw [EJ.out]; rfl
     clear Gv;go_upto_region 12 with (fail);refine fX (fun W' => W'.cell? ⟨b, off + i1 * 3, none⟩ = some (.int .i64 d1) ∧ W'.cell? ⟨b, off + i1 * 3 + 1, none⟩ = some (.int .i64 p1) ∧ W'.cell? ⟨b, off + i1 * 3 + 2, none⟩ = some (.int .i64 q1) ∧ W'.cell? ⟨wr.heap.size, 0, none⟩ = some (.int .i64 d) ∧ W'.cell? ⟨wr.heap.size, 1, none⟩ = some (.int .i64 p) ∧ W'.cell? ⟨wr.heap.size, 2, none⟩ = some (.int .i64 q)) [] ?_ fun AA => ?_
     ·exact BK.out
     try dsimp only at AA
     refine tk 0 32 (mf 13 1) AA ?_;refine tk 1 33 (mf 13 2) AA ?_;refine tk 2 34 (mf 13 3) AA ?_;refine tk 3 35 (mf 13 4) AA ?_;refine tk 4 36 (mf 13 5) AA ?_;refine tk 5 37 (mf 13 6) AA ?_;refine tk 6 38 (mf 13 7) AA ?_;refine tk 7 39 (mf 13 8) AA ?_;refine tk 8 40 (mf 13 9) AA ?_;refine tb 9 (mf 13 10) fun K hK => ?_
     (go_simp; refine DX.mono ?_; rintro e w4 ⟨rfl, BX⟩; go_simp)
     refine hK _ _ (fun _ => ⟨zD (zw BX) BK.1, zD (zw BX) BK.2.1, zD (zw BX) BK.2.2.1, zD (zw BX) BK.2.2.2.1, zD (zw BX) BK.2.2.2.2.1, zD (zw BX) BK.2.2.2.2.2⟩) fun p => (fun AA => ?_) (p rfl)
     clear p hK K;(try dsimp only at AA);refine tk 10 42 (mf 13 11) AA ?_;refine tk 11 43 (mf 13 12) AA ?_;refine tk 12 31 (mf 13 13) AA ?_;refine tK ?_;have Bh := iD (EG.drew.later (zw BX));have Ee := iD ((show AJ w3.drew wr.heap.size 87 #[.int .i64 d, .int .i64 p, .int .i64 q] from EL).below (zw BX) EL.lt);clear AA BX EG EL BK DX Fw e1 qr;have JH := iD EJ.out;have JJ : Hid (xH ds ls i = if yj (ls.take i) ⟨d, p, q⟩ = true then 18 else if yq (ls.take i) q = true then 4 else 0) := by unfold Hid; rw [Fa.out, if_neg (by rw [JH.out]; simp)]
     clear Fa EJ JH;have FY := iD (HS.below Bh.bl Df);have PO : i ≤ c := by omega
     have Hz := iD (FY.takeK (fun _ => rfl) (by decide) hi);have Dz : Hid (w4.cell? ⟨wr.heap.size, 0, none⟩ = some (.int .i64 d) ∧ w4.cell? ⟨wr.heap.size, 1, none⟩ = some (.int .i64 p) ∧ w4.cell? ⟨wr.heap.size, 2, none⟩ = some (.int .i64 q)) := ⟨Ee.cell 0, Ee.cell 1, Ee.cell 2⟩;have Pi := Bh.bl.size;have Gf := iD (th (some ⟨b, off, none⟩) i c Bl (ls.take i) d p q w4.drew Hz (by simp only [World.drew]; omega))
     go_wp2_with fail
     rcases ho : yj (ls.take i) ⟨d, p, q⟩ with _ | _;rotate_left
     ·rw [ho] at Gf JJ;clear ho;have HR : Hid (zH ns ds ls = 18) := DD _ (by rw [JJ.out, if_pos rfl]) (by decide);go_upto_region 14 with (fail);refine fX (fun W' => W'.cell? ⟨wr.heap.size, 0, none⟩ = some (.int .i64 d) ∧ W'.cell? ⟨wr.heap.size, 1, none⟩ = some (.int .i64 p) ∧ W'.cell? ⟨wr.heap.size, 2, none⟩ = some (.int .i64 q)) [] ?_ fun AA => ?_
      ·exact Dz.out
      try dsimp only at AA
      refine tk 0 45 (mf 6 1) AA ?_;refine tk 1 46 (mf 6 2) AA ?_;refine tk 2 47 (mf 6 3) AA ?_;refine tk 3 48 (mf 6 4) AA ?_;refine tb 4 (mf 6 5) fun K hK => ?_
      (go_simp; refine Gf.mono ?_; rintro e w5 ⟨rfl, BM⟩; go_simp)
      refine hK _ _ (fun _ => ⟨zD BM Dz.1, zD BM Dz.2.1, zD BM Dz.2.2⟩) fun p => (fun AA => ?_) (p rfl)
      clear p hK K;(try dsimp only at AA);refine tk 5 44 (mf 6 6) AA ?_;refine tK ?_;have Fg := iD (Bh.drew.later BM);clear AA BM
      go_wp2_with fail
      go_ret;exact ⟨zC HR.symm, Fg.bl⟩
     rw [ho] at Gf JJ;replace JJ : Hid (xH ds ls i = if yq (ls.take i) q = true then 4 else 0) := by unfold Hid; rw [JJ.out, if_neg (by simp)]
     clear ho;go_upto_region 14 with (fail);refine fX (fun W' => W'.cell? ⟨wr.heap.size, 0, none⟩ = some (.int .i64 d) ∧ W'.cell? ⟨wr.heap.size, 1, none⟩ = some (.int .i64 p) ∧ W'.cell? ⟨wr.heap.size, 2, none⟩ = some (.int .i64 q)) [] ?_ fun AA => ?_
     ·exact Dz.out
     try dsimp only at AA
     refine tk 0 45 (mf 6 1) AA ?_;refine tk 1 46 (mf 6 2) AA ?_;refine tk 2 47 (mf 6 3) AA ?_;refine tk 3 48 (mf 6 4) AA ?_;refine tb 4 (mf 6 5) fun K hK => ?_
     (go_simp; refine Gf.mono ?_; rintro e w5 ⟨rfl, BM⟩; go_simp)
     refine hK _ _ (fun _ => ⟨zD BM Dz.1, zD BM Dz.2.1, zD BM Dz.2.2⟩) fun p => (fun AA => ?_) (p rfl)
     clear p hK K;(try dsimp only at AA);refine tk 5 44 (mf 6 6) AA ?_;refine tK ?_;have Fg := iD (Bh.drew.later BM);have TG := iD (Hz.drew.below BM (by simp only [World.drew]; omega));have Qh : Hid (w5.cell? ⟨wr.heap.size, 2, none⟩ = some (.int .i64 q)) := AA.2.2;clear AA BM Gf Dz FY Hz Ee;have SA := Fg.bl.size;have QU := iD (su (some ⟨b, off, none⟩) i c Bl (ls.take i) q w5.drew TG (by simp only [World.drew]; omega));rcases hu : yq (ls.take i) q with _ | _;rotate_left
     ·rw [hu] at QU JJ;clear hu;have HR : Hid (zH ns ds ls = 4) := DD _ (by rw [JJ.out, if_pos rfl]) (by decide);go_upto_region 16 with (fail);refine fX (fun W' => W'.cell? ⟨wr.heap.size, 2, none⟩ = some (.int .i64 q)) [] ?_ fun AA => ?_
      ·exact Qh.out
      try dsimp only at AA
      refine tk 0 51 (mf 7 1) AA ?_;refine tk 1 52 (mf 7 2) AA ?_;refine tk 2 53 (mf 7 3) AA ?_;refine tk 3 54 (mf 7 4) AA ?_;refine tk 4 55 (mf 7 5) AA ?_;refine tb 5 (mf 7 6) fun K hK => ?_
      (go_simp; refine QU.mono ?_; rintro e w6 ⟨rfl, Cv⟩; go_simp)
      refine hK _ _ (fun _ => zD Cv Qh.out) fun p => (fun AA => ?_) (p rfl)
      clear p hK K;(try dsimp only at AA);refine tk 6 50 (mf 7 7) AA ?_;refine tK ?_;have Ik := iD (Fg.drew.later Cv);clear AA Cv
      go_wp2_with fail
      go_ret;exact ⟨zC HR.symm, Ik.bl⟩
     rw [hu] at QU JJ;clear hu;have BI : Hid (yN ds ls (i + 1) = 0) := Rb (by rw [JJ.out, if_neg (by simp)]);go_upto_region 16 with (fail);refine fX (fun W' => W'.cell? ⟨wr.heap.size, 2, none⟩ = some (.int .i64 q)) [] ?_ fun AA => ?_
     ·exact Qh.out
     try dsimp only at AA
     refine tk 0 51 (mf 7 1) AA ?_;refine tk 1 52 (mf 7 2) AA ?_;refine tk 2 53 (mf 7 3) AA ?_;refine tk 3 54 (mf 7 4) AA ?_;refine tk 4 55 (mf 7 5) AA ?_;refine tb 5 (mf 7 6) fun K hK => ?_
     (go_simp; refine QU.mono ?_; rintro e w6 ⟨rfl, Cv⟩; go_simp)
     refine hK _ _ (fun _ => zD Cv Qh.out) fun p => (fun AA => ?_) (p rfl)
     clear p hK K;(try dsimp only at AA);refine tk 6 50 (mf 7 7) AA ?_;refine tK ?_;have Ik := iD (Fg.drew.later Cv);clear AA Cv
     go_wp2_with fail
     go_roundg (n - (i + 1))
     ·exact ⟨i + 1, by go_num, by omega, rfl, BI, Ik⟩
     omega
   ·have e0 : i = 0 := by omega
    have EJ : Hid (xD ls i ⟨d, p, q⟩ = false) := by unfold Hid xD; rw [decide_eq_false Ll]; rfl
    have qi : decide (0 < i) = false := by simp; omega
    have AL : decide ((0 : Int) < (i : Int)) = false := by simp; omega
    clear e0;go_upto_region 12 with (fail);refine fX (fun _ => True) [] ?_ fun AA => ?_
    ·exact trivial
    try dsimp only at AA
    refine tk 0 32 (mf 13 1) AA ?_;refine tk 1 33 (mf 13 2) AA ?_;refine tk 2 34 (mf 13 3) AA ?_;refine ts 3 35 (mf 13 4) AA ?_;refine ts 4 36 (mf 13 5) AA ?_;refine ts 5 37 (mf 13 6) AA ?_;refine ts 6 38 (mf 13 7) AA ?_;refine ts 7 39 (mf 13 8) AA ?_;refine ts 8 40 (mf 13 9) AA ?_;refine ts 9 41 (mf 13 10) AA ?_;refine ts 10 42 (mf 13 11) AA ?_;refine tk 11 43 (mf 13 12) AA ?_;refine tk 12 31 (mf 13 13) AA ?_;refine tK ?_;have Bh := iD (EG.drew);have Ee := iD (show AJ w3.drew wr.heap.size 87 #[.int .i64 d, .int .i64 p, .int .i64 q] from EL);have AO : wr.heap.size + 1 ≤ w3.drew.heap.size := by simp only [World.drew]; omega
    clear AA EG EL qi AL JO;generalize World.drew w3 = w4 at *;have JH := iD EJ.out;have JJ : Hid (xH ds ls i = if yj (ls.take i) ⟨d, p, q⟩ = true then 18 else if yq (ls.take i) q = true then 4 else 0) := by unfold Hid; rw [Fa.out, if_neg (by rw [JH.out]; simp)]
    clear Fa EJ JH;have FY := iD (HS.below Bh.bl Df);have PO : i ≤ c := by omega
    have Hz := iD (FY.takeK (fun _ => rfl) (by decide) hi);have Dz : Hid (w4.cell? ⟨wr.heap.size, 0, none⟩ = some (.int .i64 d) ∧ w4.cell? ⟨wr.heap.size, 1, none⟩ = some (.int .i64 p) ∧ w4.cell? ⟨wr.heap.size, 2, none⟩ = some (.int .i64 q)) := ⟨Ee.cell 0, Ee.cell 1, Ee.cell 2⟩;have Pi := Bh.bl.size;have Gf := iD (th (some ⟨b, off, none⟩) i c Bl (ls.take i) d p q w4.drew Hz (by simp only [World.drew]; omega))
    go_wp2_with fail
    rcases ho : yj (ls.take i) ⟨d, p, q⟩ with _ | _;rotate_left
    ·rw [ho] at Gf JJ;clear ho;have HR : Hid (zH ns ds ls = 18) := DD _ (by rw [JJ.out, if_pos rfl]) (by decide);go_upto_region 14 with (fail);refine fX (fun W' => W'.cell? ⟨wr.heap.size, 0, none⟩ = some (.int .i64 d) ∧ W'.cell? ⟨wr.heap.size, 1, none⟩ = some (.int .i64 p) ∧ W'.cell? ⟨wr.heap.size, 2, none⟩ = some (.int .i64 q)) [] ?_ fun AA => ?_
     ·exact Dz.out
     try dsimp only at AA
     refine tk 0 45 (mf 6 1) AA ?_;refine tk 1 46 (mf 6 2) AA ?_;refine tk 2 47 (mf 6 3) AA ?_;refine tk 3 48 (mf 6 4) AA ?_;refine tb 4 (mf 6 5) fun K hK => ?_
     (go_simp; refine Gf.mono ?_; rintro e w5 ⟨rfl, BM⟩; go_simp)
     refine hK _ _ (fun _ => ⟨zD BM Dz.1, zD BM Dz.2.1, zD BM Dz.2.2⟩) fun p => (fun AA => ?_) (p rfl)
     clear p hK K;(try dsimp only at AA);refine tk 5 44 (mf 6 6) AA ?_;refine tK ?_;have Fg := iD (Bh.drew.later BM);clear AA BM
     go_wp2_with fail
     go_ret;exact ⟨zC HR.symm, Fg.bl⟩
    rw [ho] at Gf JJ;replace JJ : Hid (xH ds ls i = if yq (ls.take i) q = true then 4 else 0) := by unfold Hid; rw [JJ.out, if_neg (by simp)]
    clear ho;go_upto_region 14 with (fail);refine fX (fun W' => W'.cell? ⟨wr.heap.size, 0, none⟩ = some (.int .i64 d) ∧ W'.cell? ⟨wr.heap.size, 1, none⟩ = some (.int .i64 p) ∧ W'.cell? ⟨wr.heap.size, 2, none⟩ = some (.int .i64 q)) [] ?_ fun AA => ?_
    ·exact Dz.out
    try dsimp only at AA
    refine tk 0 45 (mf 6 1) AA ?_;refine tk 1 46 (mf 6 2) AA ?_;refine tk 2 47 (mf 6 3) AA ?_;refine tk 3 48 (mf 6 4) AA ?_;refine tb 4 (mf 6 5) fun K hK => ?_
    (go_simp; refine Gf.mono ?_; rintro e w5 ⟨rfl, BM⟩; go_simp)
    refine hK _ _ (fun _ => ⟨zD BM Dz.1, zD BM Dz.2.1, zD BM Dz.2.2⟩) fun p => (fun AA => ?_) (p rfl)
    clear p hK K;(try dsimp only at AA);refine tk 5 44 (mf 6 6) AA ?_;refine tK ?_;have Fg := iD (Bh.drew.later BM);have TG := iD (Hz.drew.below BM (by simp only [World.drew]; omega));have Qh : Hid (w5.cell? ⟨wr.heap.size, 2, none⟩ = some (.int .i64 q)) := AA.2.2;clear AA BM Gf Dz FY Hz Ee;have SA := Fg.bl.size;have QU := iD (su (some ⟨b, off, none⟩) i c Bl (ls.take i) q w5.drew TG (by simp only [World.drew]; omega));rcases hu : yq (ls.take i) q with _ | _;rotate_left
    ·rw [hu] at QU JJ;clear hu;have HR : Hid (zH ns ds ls = 4) := DD _ (by rw [JJ.out, if_pos rfl]) (by decide);go_upto_region 16 with (fail);refine fX (fun W' => W'.cell? ⟨wr.heap.size, 2, none⟩ = some (.int .i64 q)) [] ?_ fun AA => ?_
     ·exact Qh.out
     try dsimp only at AA
     refine tk 0 51 (mf 7 1) AA ?_;refine tk 1 52 (mf 7 2) AA ?_;refine tk 2 53 (mf 7 3) AA ?_;refine tk 3 54 (mf 7 4) AA ?_;refine tk 4 55 (mf 7 5) AA ?_;refine tb 5 (mf 7 6) fun K hK => ?_
     (go_simp; refine QU.mono ?_; rintro e w6 ⟨rfl, Cv⟩; go_simp)
     refine hK _ _ (fun _ => zD Cv Qh.out) fun p => (fun AA => ?_) (p rfl)
     clear p hK K;(try dsimp only at AA);refine tk 6 50 (mf 7 7) AA ?_;refine tK ?_;have Ik := iD (Fg.drew.later Cv);clear AA Cv
     go_wp2_with fail
     go_ret;exact ⟨zC HR.symm, Ik.bl⟩
    rw [hu] at QU JJ;clear hu;have BI : Hid (yN ds ls (i + 1) = 0) := Rb (by rw [JJ.out, if_neg (by simp)]);go_upto_region 16 with (fail);refine fX (fun W' => W'.cell? ⟨wr.heap.size, 2, none⟩ = some (.int .i64 q)) [] ?_ fun AA => ?_
    ·exact Qh.out
    try dsimp only at AA
    refine tk 0 51 (mf 7 1) AA ?_;refine tk 1 52 (mf 7 2) AA ?_;refine tk 2 53 (mf 7 3) AA ?_;refine tk 3 54 (mf 7 4) AA ?_;refine tk 4 55 (mf 7 5) AA ?_;refine tb 5 (mf 7 6) fun K hK => ?_
    (go_simp; refine QU.mono ?_; rintro e w6 ⟨rfl, Cv⟩; go_simp)
    refine hK _ _ (fun _ => zD Cv Qh.out) fun p => (fun AA => ?_) (p rfl)
    clear p hK K;(try dsimp only at AA);refine tk 6 50 (mf 7 7) AA ?_;refine tK ?_;have Ik := iD (Fg.drew.later Cv);clear AA Cv
    go_wp2_with fail
    go_roundg (n - (i + 1))
    ·exact ⟨i + 1, by go_num, by omega, rfl, BI, Ik⟩
    omega
  ·obtain rfl : i = n := by omega
   have Ck : decide (i < i) = false := by simp
   have HR : Hid (zH ns ds ls = 0) := by unfold Hid; rw [HE.out, Lm.out]
   go_wp2_with fail
   go_ret;exact ⟨zC HR.symm, hst.bl⟩
section
def pi (a b : Lk) : Bool := a.dev == b.dev && a.pos == b.pos && a.key == b.key
theorem xj (a b : Lk) : pi a b = true ↔ a = b := by
 obtain ⟨a1, a2, a3⟩ := a;obtain ⟨b1, b2, b3⟩ := b;unfold pi; simp [and_assoc]
theorem nc (d p q d2 p2 q2 : Int) (w : World) : (binOp .neq 87 (.agg #[.int .i64 d, .int .i64 p, .int .i64 q]) (.agg #[.int .i64 d2, .int .i64 p2, .int .i64 q2])).run prog w = .ok (.bool (!pi ⟨d, p, q⟩ ⟨d2, p2, q2⟩)) w := by
 have u3 := underlying3;have a3 := isAgg3;have z3 := sizeOf3;have hS : prog.underlying 87 = some (.struct (prog.fieldsOf 87)) := by kernel_rfl
 have hp : prog.stoodInHeld 87 = false := by kernel_rfl
 rw [run_neq_struct, show (10000 : Nat) = 9999 + 1 from rfl, run_equalIn_agg w 9999 87 _ _ hS hp];simp only [Program.fieldsOf, underlying87]
 go_simp
 by_cases h1 : d = d2 <;> by_cases h2 : p = p2 <;> by_cases h3 : q = q2 <;> simp [h1, h2, h3, pi]
def SaR (w : World) (a b : List Lk) (n gk : Nat) (iv : Value) (wr : World) : Prop := ∃ i : Nat, iv = .int .i64 i ∧ i ≤ n ∧ gk = n - i ∧ Hid (a.take i = b.take i) ∧ Hid (bW w wr)
open Classical in
theorem kY (A A2 : Option Addr) (n c n2 c2 B B2 : Nat) (a b : List Lk) (w : World) (ha : Sl w B 3 A n c (a.flatMap Lk.cells)) (hb : Sl w B2 3 A2 n2 c2 (b.flatMap Lk.cells)) (hB : B ≤ w.heap.size) (FV : B2 ≤ w.heap.size) :
 Calls prog 27 #[.slice A n c, .slice A2 n2 c2] w fun e w' => e = .returned (.bool (decide (a = b))) ∧ bW w w' := by
 have Gj := iD (ha.len (fun _ => rfl) (by decide)); have Jw := iD (hb.len (fun _ => rfl) (by decide));have HA := iD ha; have KZ := iD hb;have hle := ha.le;have AU := hb.le;clear ha hb;by_cases hn : n = n2; rotate_left
 ·have q : ((n : Int) != (n2 : Int)) = true := by simp; omega
  have q2 : decide (n = n2) = false := by simpa using hn
  have HR : Hid (decide (a = b) = false) := by
   unfold Hid; rw [decide_eq_false_iff_not]; intro e; subst e; exact hn (Gj.symm.trans Jw)
  clear hn
  go_enter func27, ntmps27
  go_wp2_with fail
  go_ret;exact ⟨zE HR.symm, Below.refl _ _⟩
 subst hn
 go_enter func27, ntmps27
 go_wp2_with fail
 go_loopg [5] n (SaR w a b n)
 case atStart => exact ⟨0, rfl, Nat.zero_le _, rfl, rfl, Below.refl _ _⟩
 case round =>
  obtain ⟨i, rfl, hi, rfl, heq, AZ⟩ := hrel;by_cases hlt : i < n
  ·obtain ⟨b0, off, d, p, q, rfl, Fs, hx, c0, c1, c2'⟩ := (HA.below AZ hB).lock hlt;obtain ⟨b1, Ep, d1, p1, q1, rfl, AX, Di, e0, e1, e2⟩ := (KZ.below AZ FV).lock hlt;have HX := iD hx; have KR := iD Di;have BK : Hid (wr.cell? ⟨b0, off + i * 3, none⟩ = some (.int .i64 d) ∧ wr.cell? ⟨b0, off + i * 3 + 1, none⟩ = some (.int .i64 p) ∧ wr.cell? ⟨b0, off + i * 3 + 2, none⟩ = some (.int .i64 q) ∧ wr.cell? ⟨b1, Ep + i * 3, none⟩ = some (.int .i64 d1) ∧ wr.cell? ⟨b1, Ep + i * 3 + 1, none⟩ = some (.int .i64 p1) ∧ wr.cell? ⟨b1, Ep + i * 3 + 2, none⟩ = some (.int .i64 q1)) := ⟨c0, c1, c2', e0, e1, e2⟩;have Px := fun W => nc d p q d1 p1 q1 W
   clear hx Di c0 c1 c2' e0 e1 e2;rcases hee : pi ⟨d, p, q⟩ ⟨d1, p1, q1⟩ with _ | _
   ·have HR : Hid (decide (a = b) = false) := by
     unfold Hid; rw [decide_eq_false_iff_not]; intro e; subst e;have := HX.symm.trans KR.out;injection this with this;rw [(xj _ _).2 this] at hee; cases hee
    rw [hee] at Px;clear hee;simp only [Bool.not_false] at Px;go_upto_region 6 with (fail);refine fX (fun W' => W'.cell? ⟨b0, off + i * 3, none⟩ = some (.int .i64 d) ∧ W'.cell? ⟨b0, off + i * 3 + 1, none⟩ = some (.int .i64 p) ∧ W'.cell? ⟨b0, off + i * 3 + 2, none⟩ = some (.int .i64 q) ∧ W'.cell? ⟨b1, Ep + i * 3, none⟩ = some (.int .i64 d1) ∧ W'.cell? ⟨b1, Ep + i * 3 + 1, none⟩ = some (.int .i64 p1) ∧ W'.cell? ⟨b1, Ep + i * 3 + 2, none⟩ = some (.int .i64 q1)) [] ?_ fun AA => ?_
    ·exact BK.out
    try dsimp only at AA
    refine tk 0 17 (mf 9 1) AA ?_;refine tk 1 18 (mf 9 2) AA ?_;refine tk 2 19 (mf 9 3) AA ?_;refine tk 3 20 (mf 9 4) AA ?_;refine tk 4 21 (mf 9 5) AA ?_;refine tk 5 22 (mf 9 6) AA ?_;refine tk 6 23 (mf 9 7) AA ?_;refine tk 7 24 (mf 9 8) AA ?_;refine tk 8 25 (mf 9 9) AA ?_;refine tK ?_;clear AA
    go_wp2_with fail
    go_ret;exact ⟨zE HR.symm, AZ.drew⟩
   ·have Dn : Hid (a.take (i + 1) = b.take (i + 1)) := by
     unfold Hid; rw [zO HX.out, zO KR.out, heq.out, (xj _ _).1 hee]
    rw [hee] at Px;clear hee;simp only [Bool.not_true] at Px;go_upto_region 6 with (fail);refine fX (fun W' => W'.cell? ⟨b0, off + i * 3, none⟩ = some (.int .i64 d) ∧ W'.cell? ⟨b0, off + i * 3 + 1, none⟩ = some (.int .i64 p) ∧ W'.cell? ⟨b0, off + i * 3 + 2, none⟩ = some (.int .i64 q) ∧ W'.cell? ⟨b1, Ep + i * 3, none⟩ = some (.int .i64 d1) ∧ W'.cell? ⟨b1, Ep + i * 3 + 1, none⟩ = some (.int .i64 p1) ∧ W'.cell? ⟨b1, Ep + i * 3 + 2, none⟩ = some (.int .i64 q1)) [] ?_ fun AA => ?_
    ·exact BK.out
    try dsimp only at AA
    refine tk 0 17 (mf 9 1) AA ?_;refine tk 1 18 (mf 9 2) AA ?_;refine tk 2 19 (mf 9 3) AA ?_;refine tk 3 20 (mf 9 4) AA ?_;refine tk 4 21 (mf 9 5) AA ?_;refine tk 5 22 (mf 9 6) AA ?_;refine tk 6 23 (mf 9 7) AA ?_;refine tk 7 24 (mf 9 8) AA ?_;refine tk 8 25 (mf 9 9) AA ?_;refine tK ?_;clear AA
    go_wp2_with fail
    go_roundg (n - (i + 1))
    ·exact ⟨i + 1, by go_num, by omega, rfl, Dn, AZ.drew⟩
    omega
  ·obtain rfl : i = n := by omega
   have Ck : decide (i < i) = false := by simp
   have HR : Hid (decide (a = b) = true) := by
    unfold Hid; rw [decide_eq_true_iff];have := heq.out
    rwa [List.take_of_length_le (by rw [Gj.out]; exact Nat.le_refl _), List.take_of_length_le (by rw [Jw.out]; exact Nat.le_refl _)] at this
   go_wp2_with fail
   go_ret;exact ⟨zE HR.symm, AZ⟩
end
section
variable {P : Program} {ops : Array Oper} {A : Act} {L : List (Nat × Value)} {n : Nat} {oi : Oper}
end
def yV (u : Int) : Int → List Int → Bool
 | _, [] => true
 | p, x :: t => decide (p < x) && decide (x < u) && yV u x t
def wl : Int → List Int → Int
 | p, [] => p
 | _, x :: t => wl x t
theorem tf (u x : Int) : ∀ (p : Int) (l : List Int), yV u p (l ++ [x]) = (yV u p l && decide (wl p l < x) && decide (x < u))
 | p, [] => by
  show (decide (p < x) && decide (x < u) && true) = (true && decide (p < x) && decide (x < u))
  rw [Bool.and_true, Bool.true_and]
 | p, y :: t => by rw [List.cons_append, yV, tf u x y t, yV, wl]; simp only [Bool.and_assoc]
theorem qQ : ∀ {p : Int} {l : List Int} (i : Nat), yV u p l = true → yV u p (l.take i) = true
 | _, [], i, _ => by simp [yV]
 | _, x :: t, 0, _ => by simp [yV]
 | p, x :: t, i + 1, h => by
  rw [yV, Bool.and_eq_true] at h;rw [List.take_succ_cons, yV, h.1, qQ i h.2]; rfl
theorem rQ (x : Int) : ∀ (p : Int) (l : List Int), wl p (l ++ [x]) = x
 | _, [] => rfl
 | _, y :: t => rQ x y t
theorem up {p : Int} (h : l[i]? = some x) : wl p (l.take (i + 1)) = x := by rw [zO h, rQ]
theorem vz (hx : l[i]? = some x) (h : wl (-1) (l.take i) < x → x < u → False) : yV u (-1) l = false := by
 rw [Bool.eq_false_iff];intro e;have := qQ (i + 1) e;rw [zO hx, tf, Bool.and_eq_true, Bool.and_eq_true] at this;exact h (by simpa using this.1.2) (by simpa using this.2)
theorem rG (hx : l[i]? = some x) (hp : yV u (-1) (l.take i) = true) (h1 : wl (-1) (l.take i) < x) (h2 : x < u) : yV u (-1) (l.take (i + 1)) = true := by
 rw [zO hx, tf, hp, decide_eq_true h1, decide_eq_true h2]; rfl
theorem kh : ∀ {p : Int} {l : List Int}, yV u p l = true → p ≤ wl p l
 | p, [], _ => Int.le_refl _
 | p, x :: t, h => by
  rw [yV, Bool.and_eq_true, Bool.and_eq_true] at h;have := kh h.2;have h1 : p < x := by simpa using h.1.1
  rw [wl]; omega
def fB (w : World) (l : List Int) (u : Int) (n gk : Nat) (lv iv : Value) (wr : World) : Prop := ∃ i : Nat, lv = .int .i64 (wl (-1) (l.take i)) ∧ iv = .int .i64 i ∧ i ≤ n ∧ gk = n - i ∧ wr = w ∧ Hid (yV u (-1) (l.take i) = true)
theorem nj (A : Option Addr) (n c B : Nat) (l : List Int) (u : Int) (w : World) (hs : Sl w B 1 A n c (zF l)) :
 Calls prog 102 #[.slice A n c, .int .i64 u] w fun e w' => e = .returned (.bool (yV u (-1) l)) ∧ w = w' := by
 have hle := hs.le;have HL := iD (hs.len (fun _ => rfl) (by decide));have HS := iD hs;clear hs
 go_enter func102, ntmps102
 go_wp2_with fail
 go_loopg [5, 11] n (fB w l u n)
 case atStart => exact ⟨0, rfl, rfl, Nat.zero_le _, rfl, rfl, rfl⟩
 case round =>
  obtain ⟨i, rfl, rfl, hi, rfl, rfl, hR⟩ := hrel;by_cases hlt : i < n
  ·obtain ⟨b, off, x, rfl, hb, hx, hc⟩ := HS.at1 hlt;have HX := iD hx;have HT : Hid (wl (-1) (l.take (i + 1)) = x) := up hx;obtain ⟨la, Ie⟩ := eX (wl (-1) (l.take i));rw [← Ie];have Gj := iD Ie;clear hx Ie;by_cases h1 : x ≤ la
   ·have q1 : decide (x ≤ la) = true := by simpa using h1
    have HF : Hid (yV u (-1) l = false) := vz HX fun h _ => by rw [← Gj.out] at h; omega
    clear h1
    go_wp2_with fail
    go_ret;exact ⟨zE HF.symm, rfl⟩
   have q1 : decide (x ≤ la) = false := by simpa using h1
   by_cases h2 : u ≤ x
   ·have q2 : decide (u ≤ x) = true := by simpa using h2
    have HF : Hid (yV u (-1) l = false) := vz HX fun _ h => by omega
    clear h1 h2
    go_wp2_with fail
    go_ret;exact ⟨zE HF.symm, rfl⟩
   have q2 : decide (u ≤ x) = false := by simpa using h2
   have HN : Hid (yV u (-1) (l.take (i + 1)) = true) := rG HX hR (by rw [← Gj.out]; omega) (by omega);clear h1 h2
   go_wp2_with fail
   go_roundg (n - (i + 1))
   ·exact ⟨i + 1, by rw [HT.out], by go_num, by omega, rfl, rfl, HN⟩
   omega
  ·obtain rfl : i = n := by omega
   have Ck : decide (i < i) = false := by simp
   have HF : Hid (yV u (-1) l = true) := by have := hR.out; rw [List.take_of_length_le (by rw [HL.out]; exact Nat.le_refl _)] at this; exact this
   go_wp2_with fail
   go_ret;exact ⟨zE HF.symm, rfl⟩
def gz (w : World) (l : List Int) (u : Int) (n gk : Nat) (iv : Value) (wr : World) : Prop := ∃ (i q : Nat), iv = .int .i64 i ∧ i ≤ n ∧ gk = n - i ∧ wr = w.drewN q ∧ Hid (yV u (-1) (l.take i) = true)
theorem kf (A : Option Addr) (n c B : Nat) (l : List Int) (u : Int) (w : World) (hs : Sl w B 1 A n c (zF l)) :
 Calls prog 95 #[.slice A n c, .int .i64 u] w fun e w' => e = .returned (.bool (yV u (-1) l)) ∧ ∃ q, w' = w.drewN q := by
 have hle := hs.le;have HL := iD (hs.len (fun _ => rfl) (by decide));have HS := iD hs;clear hs
 go_enter func95, ntmps95
 go_wp2_with fail
 go_loopg [5] n (gz w l u n)
 case atStart => exact ⟨0, 0, rfl, Nat.zero_le _, rfl, rfl, rfl⟩
 case round =>
  obtain ⟨i, n0, rfl, hi, rfl, rfl, hR⟩ := hrel;by_cases hlt : i < n
  ·obtain ⟨b, off, x, rfl, hb, hx, hc⟩ := HS.at1 hlt;have HX := iD hx;have HT : Hid (wl (-1) (l.take (i + 1)) = x) := up hx;have HC : Hid ((w.drewN n0).cell? ⟨b, off + i, none⟩ = some (.int .i64 x)) := hc;have Bq : n ≤ 9223372036854775807 := by omega
   clear hx hc;go_upto_region 4 with (fail);have Wi : Hid (∃ k, w.drewN n0 = w.drewN k) := ⟨_, rfl⟩;have Ac : Hid (Sl (w.drewN n0) B 1 (some ⟨b, off, none⟩) n c (zF l)) := HS.out;generalize w.drewN n0 = wr at *;by_cases h0 : x < 0
   ·have q0 : decide (x < 0) = true := by simpa using h0
    have HF : Hid (yV u (-1) l = false) := vz HX fun h _ => by have := kh hR.out; omega
    clear h0;have hx := HC.out
    go_quiet (fail)
    go_wp2_with fail
    go_ret;exact ⟨zE HF.symm, Wi.elim fun k e => ⟨k + nq, by rw [e, World.drewN_drewN]⟩⟩
   have q0 : decide (x < 0) = false := by simpa using h0
   by_cases h1 : u ≤ x
   ·have q1 : decide (u ≤ x) = true := by simpa using h1
    have HF : Hid (yV u (-1) l = false) := vz HX fun _ h => by omega
    clear h0 h1;have hx := HC.out
    go_quiet (fail)
    go_wp2_with fail
    go_ret;exact ⟨zE HF.symm, Wi.elim fun k e => ⟨k + nq, by rw [e, World.drewN_drewN]⟩⟩
   have q1 : decide (u ≤ x) = false := by simpa using h1
   by_cases Ll : 0 < i; rotate_left
   ·have HN : Hid (yV u (-1) (l.take (i + 1)) = true) := rG HX hR (by rw [show i = 0 by omega]; simp [wl]; omega) (by omega);have hz : decide ((0 : Int) < (i : Int)) = false := by simp; omega
    have GD : decide (0 < i) = false := by simp; omega
    clear h0 h1;have hx := HC.out
    go_quiet (fail)
    go_wp2_with fail
    go_roundg (n - (i + 1))
    ·exact Wi.elim fun k e => ⟨i + 1, k + nq, by go_num, by omega, rfl, by rw [e, World.drewN_drewN], HN⟩
    omega
   obtain ⟨b2, II, y, e2, AQ, hy, Gu⟩ := Ac.at1 (k := i - 1) (by omega);injection e2 with e2; injection e2 with e2 e3; subst e2 e3;have NP : Hid (wr.cell? ⟨b, off + i, none⟩ = some (.int .i64 x) ∧ wr.cell? ⟨b, off + (i - 1), none⟩ = some (.int .i64 y)) := ⟨HC, Gu⟩;have AH : Hid (wl (-1) (l.take i) = y) := by have := up (p := -1) hy; rwa [show i - 1 + 1 = i by omega] at this
   have hz : decide ((0 : Int) < (i : Int)) = true := by simpa using Ll
   have GD : decide (0 < i) = true := by simpa using Ll
   have AP : IntKind.wrap .i64 ((i : Int) - 1) = ((i - 1 : Nat) : Int) := by rw [IntKind.wrap_i64]; omega
   have AW : i - 1 < n := by omega
   clear hy Gu HC;by_cases h2 : x ≤ y
   ·have q2 : decide (x ≤ y) = true := by simpa using h2
    have HF : Hid (yV u (-1) l = false) := vz HX fun h _ => by rw [AH.out] at h; omega
    clear h0 h1 h2;have hx := NP.1; have hy := NP.2
    go_quiet (fail)
    go_wp2_with fail
    go_ret;exact ⟨zE HF.symm, Wi.elim fun k e => ⟨k + nq, by rw [e, World.drewN_drewN]⟩⟩
   have q2 : decide (x ≤ y) = false := by simpa using h2
   have HN : Hid (yV u (-1) (l.take (i + 1)) = true) := rG HX hR (by rw [AH.out]; omega) (by omega);clear h0 h1 h2;have hx := NP.1; have hy := NP.2
   go_quiet (fail)
   go_wp2_with fail
   go_roundg (n - (i + 1))
   ·exact Wi.elim fun k e => ⟨i + 1, k + nq, by go_num, by omega, rfl, by rw [e, World.drewN_drewN], HN⟩
   omega
  ·obtain rfl : i = n := by omega
   have Ck : decide (i < i) = false := by simp
   have HF : Hid (yV u (-1) l = true) := by have := hR.out; rw [List.take_of_length_le (by rw [HL.out]; exact Nat.le_refl _)] at this; exact this
   go_wp2_with fail
   go_ret;exact ⟨zE HF.symm, n0, rfl⟩
def zY (u v : Nat → Value) : List (Nat × Nat) → Nat → List Value → List Value
 | [], _, fr => fr
 | _ :: _, _, [] => []
 | (0, 0) :: rs, i, x :: fr => x :: zY u v rs (i + 1) fr
 | (n + 1, 0) :: rs, i, x :: fr => x :: zY u v ((n, 0) :: rs) (i + 1) fr
 | (0, 1) :: rs, i, _ :: fr => u i :: zY u v rs (i + 1) fr
 | (n + 1, 1) :: rs, i, _ :: fr => u i :: zY u v ((n, 1) :: rs) (i + 1) fr
 | (_, j + 2) :: rs, i, _ :: fr => v j :: zY u v rs (i + 1) fr
def gt : List Value → Nat → Value
 | [], _ => undef
 | x :: _, 0 => x
 | _ :: xs, n + 1 => gt xs n
section
variable {P : Program} {Q : Exit → Act → World → Prop} {w : World} {c : Code} {fr fr' : List Value} {k n₀ : Nat}
def v1 (p : Value) : Nat → Value := fun _ => p
def xQ (rel : Nat → Value → World → Prop) (rs : List (Nat × Nat)) (fr : List Value) (k : Nat) (a : Act) (w : World) : Prop := ∃ u p, rel k p w ∧ a = ⟨(zY u (v1 p) rs 0 fr).toArray, []⟩
theorem zm (rs : List (Nat × Nat)) (s1 : Nat) (n₀ : Nat) (rel : Nat → Value → World → Prop) (h₀ : rel n₀ (gt fr s1) w) (hv : zY (gt fr) (v1 (gt fr s1)) rs 0 fr = fr)
 (round : ∀ u p n w a, rel n p w → a = ⟨(zY u (v1 p) rs 0 fr).toArray, []⟩ → ∀ (J : Nat → Act → World → Prop) (K : Act → World → Prop), (∀ k a' w', xQ rel rs fr k a' w' → J k a' w') → (∀ a' w', Handed J n a' w' → K a' w') → c.wp P (Exit.then K Q) a w) : (Code.loop c).wp P Q ⟨fr.toArray, []⟩ w :=
 wp_loop_ghost_k (xQ rel rs fr) n₀ ⟨_, _, h₀, by rw [hv]⟩ fun n a w ⟨u, p, h, ha⟩ J K hJ hK => round u p n w a h ha J K hJ hK
theorem xQ.back {rel : Nat → Value → World → Prop} {rs : List (Nat × Nat)} (s1 : Nat) (h : rel k (gt fr' s1) w) (hv : zY (gt fr') (v1 (gt fr' s1)) rs 0 fr = fr') : xQ rel rs fr k ⟨fr'.toArray, []⟩ w := ⟨_, _, h, by rw [hv]⟩
def v2 (p q : Value) : Nat → Value
 | 0 => p
 | _ => q
def mX (rel : Nat → Value → Value → World → Prop) (rs : List (Nat × Nat)) (fr : List Value) (k : Nat) (a : Act) (w : World) : Prop := ∃ u p q, rel k p q w ∧ a = ⟨(zY u (v2 p q) rs 0 fr).toArray, []⟩
theorem si (rs : List (Nat × Nat)) (s1 s2 : Nat) (n₀ : Nat) (rel : Nat → Value → Value → World → Prop) (h₀ : rel n₀ (gt fr s1) (gt fr s2) w) (hv : zY (gt fr) (v2 (gt fr s1) (gt fr s2)) rs 0 fr = fr)
 (round : ∀ u p q n w a, rel n p q w → a = ⟨(zY u (v2 p q) rs 0 fr).toArray, []⟩ → ∀ (J : Nat → Act → World → Prop) (K : Act → World → Prop), (∀ k a' w', mX rel rs fr k a' w' → J k a' w') → (∀ a' w', Handed J n a' w' → K a' w') → c.wp P (Exit.then K Q) a w) : (Code.loop c).wp P Q ⟨fr.toArray, []⟩ w :=
 wp_loop_ghost_k (mX rel rs fr) n₀ ⟨_, _, _, h₀, by rw [hv]⟩ fun n a w ⟨u, p, q, h, ha⟩ J K hJ hK => round u p q n w a h ha J K hJ hK
theorem mX.back {rel : Nat → Value → Value → World → Prop} {rs : List (Nat × Nat)} (s1 s2 : Nat) (h : rel k (gt fr' s1) (gt fr' s2) w) (hv : zY (gt fr') (v2 (gt fr' s1) (gt fr' s2)) rs 0 fr = fr') : mX rel rs fr k ⟨fr'.toArray, []⟩ w := ⟨_, _, _, h, by rw [hv]⟩
def v3 (p q r : Value) : Nat → Value
 | 0 => p
 | 1 => q
 | _ => r
def jl (rel : Nat → Value → Value → Value → World → Prop) (rs : List (Nat × Nat)) (fr : List Value) (k : Nat) (a : Act) (w : World) : Prop := ∃ u p q r, rel k p q r w ∧ a = ⟨(zY u (v3 p q r) rs 0 fr).toArray, []⟩
theorem nT (rs : List (Nat × Nat)) (s1 s2 s3 : Nat) (n₀ : Nat) (rel : Nat → Value → Value → Value → World → Prop) (h₀ : rel n₀ (gt fr s1) (gt fr s2) (gt fr s3) w) (hv : zY (gt fr) (v3 (gt fr s1) (gt fr s2) (gt fr s3)) rs 0 fr = fr)
 (round : ∀ u p q r n w a, rel n p q r w → a = ⟨(zY u (v3 p q r) rs 0 fr).toArray, []⟩ → ∀ (J : Nat → Act → World → Prop) (K : Act → World → Prop), (∀ k a' w', jl rel rs fr k a' w' → J k a' w') → (∀ a' w', Handed J n a' w' → K a' w') → c.wp P (Exit.then K Q) a w) : (Code.loop c).wp P Q ⟨fr.toArray, []⟩ w :=
 wp_loop_ghost_k (jl rel rs fr) n₀ ⟨_, _, _, _, h₀, by rw [hv]⟩ fun n a w ⟨u, p, q, r, h, ha⟩ J K hJ hK => round u p q r n w a h ha J K hJ hK
theorem jl.back {rel : Nat → Value → Value → Value → World → Prop} {rs : List (Nat × Nat)} (s1 s2 s3 : Nat) (h : rel k (gt fr' s1) (gt fr' s2) (gt fr' s3) w) (hv : zY (gt fr') (v3 (gt fr' s1) (gt fr' s2) (gt fr' s3)) rs 0 fr = fr') : jl rel rs fr k ⟨fr'.toArray, []⟩ w := ⟨_, _, _, _, h, by rw [hv]⟩
def v4 (p q r t : Value) : Nat → Value
 | 0 => p
 | 1 => q
 | 2 => r
 | _ => t
def gf (rel : Nat → Value → Value → Value → Value → World → Prop) (rs : List (Nat × Nat)) (fr : List Value) (k : Nat) (a : Act) (w : World) : Prop := ∃ u p q r t, rel k p q r t w ∧ a = ⟨(zY u (v4 p q r t) rs 0 fr).toArray, []⟩
theorem gf.back {rel : Nat → Value → Value → Value → Value → World → Prop} {rs : List (Nat × Nat)} (s1 s2 s3 s4 : Nat) (h : rel k (gt fr' s1) (gt fr' s2) (gt fr' s3) (gt fr' s4) w) (hv : zY (gt fr') (v4 (gt fr' s1) (gt fr' s2) (gt fr' s3) (gt fr' s4)) rs 0 fr = fr') : gf rel rs fr k ⟨fr'.toArray, []⟩ w := ⟨_, _, _, _, _, h, by rw [hv]⟩
def kP (R : Value → World → Prop) (rs : List (Nat × Nat)) (fr : List Value) (a : Act) (w : World) : Prop := ∃ u p, R p w ∧ a = ⟨(zY u (v1 p) rs 0 fr).toArray, []⟩
theorem lT {s : Code} {K : Act → World → Prop} {Q' : Exit → Act → World → Prop} (rs : List (Nat × Nat)) (R : Value → World → Prop)
 (rest : ∀ u p w a, R p w → a = ⟨(zY u (v1 p) rs 0 fr).toArray, []⟩ → K a w)
 (first : ∀ (J K' : Act → World → Prop), (∀ a' w', kP R rs fr a' w' → J a' w') → (∀ a' w', Met J a' w' → K' a' w') → s.wp P (Exit.then K' Q') ⟨fr.toArray, []⟩ w) : s.wp P (Exit.then K Q') ⟨fr.toArray, []⟩ w :=
 wp_cut (kP R rs fr) (fun a w ⟨u, p, h, ha⟩ => rest u p w a h ha) first
theorem kP.back {R : Value → World → Prop} {rs : List (Nat × Nat)} (s1 : Nat) (h : R (gt fr' s1) w) (hv : zY (gt fr') (v1 (gt fr' s1)) rs 0 fr = fr') : kP R rs fr ⟨fr'.toArray, []⟩ w := ⟨_, _, h, by rw [hv]⟩
def qC (R : Value → Value → World → Prop) (rs : List (Nat × Nat)) (fr : List Value) (a : Act) (w : World) : Prop := ∃ u p q, R p q w ∧ a = ⟨(zY u (v2 p q) rs 0 fr).toArray, []⟩
theorem qD {s : Code} {K : Act → World → Prop} {Q' : Exit → Act → World → Prop} (rs : List (Nat × Nat)) (R : Value → Value → World → Prop)
 (rest : ∀ u p q w a, R p q w → a = ⟨(zY u (v2 p q) rs 0 fr).toArray, []⟩ → K a w)
 (first : ∀ (J K' : Act → World → Prop), (∀ a' w', qC R rs fr a' w' → J a' w') → (∀ a' w', Met J a' w' → K' a' w') → s.wp P (Exit.then K' Q') ⟨fr.toArray, []⟩ w) : s.wp P (Exit.then K Q') ⟨fr.toArray, []⟩ w :=
 wp_cut (qC R rs fr) (fun a w ⟨u, p, q, h, ha⟩ => rest u p q w a h ha) first
theorem qC.back {R : Value → Value → World → Prop} {rs : List (Nat × Nat)} (s1 s2 : Nat) (h : R (gt fr' s1) (gt fr' s2) w) (hv : zY (gt fr') (v2 (gt fr' s1) (gt fr' s2)) rs 0 fr = fr') : qC R rs fr ⟨fr'.toArray, []⟩ w := ⟨_, _, _, h, by rw [hv]⟩
def gq (R : Value → Value → Value → World → Prop) (rs : List (Nat × Nat)) (fr : List Value) (a : Act) (w : World) : Prop := ∃ u p q r, R p q r w ∧ a = ⟨(zY u (v3 p q r) rs 0 fr).toArray, []⟩
theorem gq.back {R : Value → Value → Value → World → Prop} {rs : List (Nat × Nat)} (s1 s2 s3 : Nat) (h : R (gt fr' s1) (gt fr' s2) (gt fr' s3) w) (hv : zY (gt fr') (v3 (gt fr' s1) (gt fr' s2) (gt fr' s3)) rs 0 fr = fr') : gq R rs fr ⟨fr'.toArray, []⟩ w := ⟨_, _, _, _, h, by rw [hv]⟩
def gn (R : Value → Value → Value → Value → World → Prop) (rs : List (Nat × Nat)) (fr : List Value) (a : Act) (w : World) : Prop := ∃ u p q r t, R p q r t w ∧ a = ⟨(zY u (v4 p q r t) rs 0 fr).toArray, []⟩
theorem gn.back {R : Value → Value → Value → Value → World → Prop} {rs : List (Nat × Nat)} (s1 s2 s3 s4 : Nat) (h : R (gt fr' s1) (gt fr' s2) (gt fr' s3) (gt fr' s4) w) (hv : zY (gt fr') (v4 (gt fr' s1) (gt fr' s2) (gt fr' s3) (gt fr' s4)) rs 0 fr = fr') : gn R rs fr ⟨fr'.toArray, []⟩ w := ⟨_, _, _, _, _, h, by rw [hv]⟩
end
end Go.Proofs.YtddddlhgaeameaaGreatDoor
