import Derived.Test.YtkkobemhbicjgaaGreatDoorB19
import Derived.Shelf.SlSortCmp.InsertionK
import Derived.Laws.StructEq
set_option maxRecDepth 100000
set_option maxHeartbeats 8000000
namespace Go.Proofs.YtkkobemhbicjgaaGreatDoor
open Go.RowKit Tryz
variable {w w4 w5 wr : World} {N : Array Value} {u x : Int} {l : List Int} {i : Nat}
def zh (ns : List Nd) (ds : List Dv) (ls : List Lk) (k : Lk) : Int := if zJ ns ds ls ≠ 0 then zJ ns ds ls else if zv ds k ≠ 0 then zv ds k else if yq ls k.key = true then 4 else if yd ls k = true then 18 else if ls.length = 128 then 1 else 0
def pi (w : World) (ns : List Nd) (ds : List Dv) (ls : List Lk) (k : Lk) (e : Ending) (w' : World) : Prop :=
 (zh ns ds ls k ≠ 0 ∧ e = .returned (.tuple #[.slice none 0 0, .int .i64 (zh ns ds ls k)]) ∨ zh ns ds ls k = 0 ∧ ∃ (A : Option Addr) (c : Nat), e = .returned (.tuple #[.slice A (ls.length + 1) c, .int .i64 0]) ∧ Hid (zk w' w.heap.size A (ls.length + 1) c (ww k ls))) ∧ Hid (Below w.heap.size w w')
theorem yw {ns : List Nd} {ds : List Dv} {ls : List Lk} (h : zJ ns ds ls = 0) : xz ds ls := by
 unfold zJ at h;split at h
 ·next hc => exact absurd h hc
 ·split at h
  ·omega
  ·exact gy (by omega) h
theorem zY {w' : World} (h : w.grownBy w' (Value.slice none 0 0).ownBlock) : bW w w' := ⟨h.os, h.tape, h.output, h.size, fun i hi => h.block i hi (by simp [Value.ownBlock])⟩
theorem xS {w6 : World} {A1 : Option Addr} {j c1 : Nat} {xs : List Value} {o : Obj} {e : TypeId} {size : Nat} (h5 : w4.drew.grownBy w5 (Value.slice none 0 0).ownBlock) (ho : w5.ownsRow w4.heap.size e size (.slice A1 j c1) j xs) (h6 : (w5.alloc o).grownBy w6 (Value.slice A1 j c1).ownBlock) : bW w4 w6 := by
 have h1 : Below w4.heap.size w4 w5 := (Below.refl _ _).drew.trans (zY h5);have h2 := h1.alloc h1.size o;exact h2.trans ⟨h6.os, h6.tape, h6.output, h6.size, fun t ht => h6.block t (by have := h2.size; omega) (fun e => by have := (ho.lt t e.symm).1; omega)⟩
theorem wB {o : Obj} (h5 : (w4.alloc o).drew.grownBy w5 (Value.slice none 0 0).ownBlock) : bW w4 w5 := by
 have h1 : Below w4.heap.size w4 (w4.alloc o).drew := ((Below.refl _ _).alloc lR o).drew;exact h1.trans ((zY h5).mono (by simp))
theorem xE {w6 : World} {A1 : Option Addr} {j c1 : Nat} {xs : List Value} {o : Obj} {e : TypeId} {size : Nat} (h5 : (w4.alloc o).drew.grownBy w5 (Value.slice none 0 0).ownBlock) (ho : w5.ownsRow w4.heap.size e size (.slice A1 j c1) j xs) (h6 : w5.grownBy w6 (Value.slice A1 j c1).ownBlock) : bW w4 w6 := by
 have h2 := wB h5;exact h2.trans ⟨h6.os, h6.tape, h6.output, h6.size, fun t ht => h6.block t (by have := h2.size; omega) (fun e => by have := (ho.lt t e.symm).1; omega)⟩
theorem zp {W : World} {p : Addr} {v : Value} (o : Obj) (h : W.cell? p = some v) : (W.alloc o).cell? p = some v := (World.cell?_alloc_lt W o p (vK h)).trans h
theorem rM {p : Lk → Bool} : ∀ {l : List Lk} {i : Nat}, (∀ x ∈ l.take i, p x = true) → (∀ x, l[i]? = some x → p x = false) → l.takeWhile p = l.take i ∧ l.dropWhile p = l.drop i
 | [], i, _, _ => by simp
 | x :: l, 0, _, h => by
  have := h x rfl;simp [this]
 | x :: l, i + 1, h1, h2 => by
  have hx := h1 x (by simp);obtain ⟨a, b⟩ := rM (p := p) (l := l) (i := i) (fun y hy => h1 y (by simp [hy])) (fun y hy => h2 y (by simpa using hy));simp [hx, a, b]
structure qZ (w : World) (N K : Array Value) (wr : World) : Prop where
 bn : AJ wr w.heap.size 30 N
 bk : AJ wr (w.heap.size + 1) 106 K
 bl : bW w wr
theorem qZ.later {wr' : World} {K : Array Value} (h : qZ w N K wr) (hb : bW wr wr') : qZ w N K wr' := ⟨h.bn.below hb h.bn.lt, h.bk.below hb h.bk.lt, h.bl.trans (hb.mono h.bl.size)⟩
theorem qZ.drew {K : Array Value} (h : qZ w N K wr) : qZ w N K wr.drew := h.later (Below.refl _ _).drew
def cL (w : World) (N K : Array Value) (ls : List Lk) (q : Int) (n gk : Nat) (iv : Value) (wr : World) : Prop := ∃ i : Nat, iv = .int .i64 i ∧ i ≤ n ∧ gk = n - i ∧ Hid (yq (ls.take i) q = false) ∧ Hid (qZ w N K wr)
def cK (w : World) (N K : Array Value) (ls : List Lk) (k : Lk) (n gk : Nat) (iv : Value) (wr : World) : Prop := ∃ i : Nat, iv = .int .i64 i ∧ i ≤ n ∧ gk = n - i ∧ Hid (∀ x ∈ ls.take i, zq x k = true) ∧ Hid (qZ w N K wr)
theorem iF (An Ad Al : Option Addr) (nn cn nd cd c Bn Bd Bl : Nat) (ns : List Nd) (ds : List Dv) (ls : List Lk) (d p q : Int) (w : World) (hn : Sl w Bn 3 An nn cn (ns.flatMap Nd.cells)) (hd : Sl w Bd 5 Ad nd cd (ds.flatMap Dv.cells)) (hs : Sl w Bl 3 Al ls.length c (ls.flatMap Lk.cells)) (CS : Bn ≤ w.heap.size) (BP : Bd ≤ w.heap.size) (Dn : Bl ≤ w.heap.size)
 (Bg : FP ns) (BU : Fv ds) :
 Calls prog 57 #[.agg #[.slice An nn cn, .slice Ad nd cd], .slice Al ls.length c, .agg #[.int .i64 d, .int .i64 p, .int .i64 q]] w (pi w ns ds ls ⟨d, p, q⟩) := by
 obtain ⟨n, Hg⟩ := eX ls.length;rw [← Hg] at hs ⊢;have Ij := iD Hg;have HE : Hid (zh ns ds ls ⟨d, p, q⟩ = if zJ ns ds ls ≠ 0 then zJ ns ds ls else if zv ds ⟨d, p, q⟩ ≠ 0 then zv ds ⟨d, p, q⟩ else if yq ls q = true then 4 else if yd ls ⟨d, p, q⟩ = true then 18 else if n = 128 then 1 else 0) := by unfold Hid zh; rw [Hg]
 have hle := hs.le;have HN := iD hn; have HD := iD hd; have HS := iD hs; have Ej := iD Bg; have Ce := iD BU
 have BG : Hid (qZ w #[.slice An nn cn, .slice Ad nd cd] #[.int .i64 d, .int .i64 p, .int .i64 q] ((w.alloc (.cells #[.slice An nn cn, .slice Ad nd cd] 30)).alloc (.cells #[.int .i64 d, .int .i64 p, .int .i64 q] 106))) :=
  ⟨(AJ.new _ _ _).alloc _, by have := AJ.new (w.alloc (.cells #[.slice An nn cn, .slice Ad nd cd] 30)) 106 #[.int .i64 d, .int .i64 p, .int .i64 q]; simpa using this, ((Below.refl _ _).alloc lR _).alloc (by simp) _⟩
 clear hn hd hs Bg BU Hg
 go_enter func57, ntmps57
 go_wp2_with fail
 generalize World.alloc (World.alloc _ _) _ = W at *;have hz := BG.bl.size;refine (oy An Ad Al nn cn nd cd n c Bn Bd Bl ns ds ls W (HN.below BG.bl CS) (HD.below BG.bl BP) (HS.below BG.bl Dn) (by omega) (by omega) (by omega) Ej Ce).mono ?_;rintro e w1 ⟨rfl, AV⟩;have BO := iD (BG.later AV);clear AV BG hz;by_cases h0 : zJ ns ds ls = 0; rotate_left
 ·have q0 : (zJ ns ds ls != 0) = true := by simpa using h0
  have HR : Hid (zh ns ds ls ⟨d, p, q⟩ = zJ ns ds ls) := by unfold Hid; rw [HE.out, if_pos h0]
  have Ht := iD h0;clear h0
  go_wp2_with fail
  go_ret2;exact ⟨.inl (by rw [HR.out]; exact ⟨Ht, rfl⟩), BO.bl⟩
 have HG := iD (yw h0);rw [h0];replace HE : Hid (zh ns ds ls ⟨d, p, q⟩ = if zv ds ⟨d, p, q⟩ ≠ 0 then zv ds ⟨d, p, q⟩ else if yq ls q = true then 4 else if yd ls ⟨d, p, q⟩ = true then 18 else if n = 128 then 1 else 0) := by unfold Hid; rw [HE.out, if_neg (by simp [h0])]
 clear h0;obtain ⟨k0, k1⟩ := BO.bn.d2;obtain ⟨m0, m1, m2⟩ := BO.bk.d3;have ER := BO.bl.size
 go_wp2_with fail
 clear k0 k1 m0 m1 m2;refine (rW An Ad nn cn nd cd Bd ds d p q w1 (HD.below BO.bl BP) (by omega)).mono ?_;rintro e w2 ⟨rfl, AZ⟩;have DN := iD (BO.later AZ);clear AZ BO ER;by_cases h1 : zv ds ⟨d, p, q⟩ = 0; rotate_left
 ·have q0 : (zv ds ⟨d, p, q⟩ != 0) = true := by simpa using h1
  have HR : Hid (zh ns ds ls ⟨d, p, q⟩ = zv ds ⟨d, p, q⟩) := by unfold Hid; rw [HE.out, if_pos h1]
  have Ht := iD h1;clear h1
  go_wp2_with fail
  go_ret2;exact ⟨.inl (by rw [HR.out]; exact ⟨Ht, rfl⟩), DN.bl⟩
 rw [h1];replace HE : Hid (zh ns ds ls ⟨d, p, q⟩ = if yq ls q = true then 4 else if yd ls ⟨d, p, q⟩ = true then 18 else if n = 128 then 1 else 0) := by unfold Hid; rw [HE.out, if_neg (by simp [h1])]
 clear h1
 go_wp2_with fail
 go_loopg [10] n (cL w #[.slice An nn cn, .slice Ad nd cd] #[.int .i64 d, .int .i64 p, .int .i64 q] ls q n)
 case atStart => exact ⟨0, rfl, Nat.zero_le _, rfl, rfl, DN⟩
 case round =>
  clear DN;obtain ⟨i, rfl, hi, rfl, MX, hst⟩ := hrel;by_cases hlt : i < n
  ·obtain ⟨b, off, d1, p1, q1, rfl, hb, hx, c0, c1, c2⟩ := (HS.below hst.bl Dn).lock hlt;have HX := iD hx;have m2 := hst.bk.c2;have BK : Hid (wr.cell? ⟨b, off + i * 3 + 2, none⟩ = some (.int .i64 q1) ∧ wr.cell? ⟨w.heap.size + 1, 2, none⟩ = some (.int .i64 q)) := ⟨c2, m2⟩;clear hx c0 c1 c2 m2;by_cases Gw : q1 = q
   ·subst Gw;have qd : (q1 == q1) = true := by simp
    have AB : Hid (yq ls q1 = true) := by
     have := mU (k := i + 1) (i := ls.length) (ls := ls) (q := q1) (by rw [vO HX.out MX.out]; simp) (by have := Ij.out; omega)
     rwa [List.take_length] at this
    have HR : Hid (zh ns ds ls ⟨d, p, q1⟩ = 4) := by unfold Hid; rw [HE.out, if_pos AB.out]
    go_upto_region 10 with (fail);refine fv (fun W' => W'.cell? ⟨b, off + i * 3 + 2, none⟩ = some (.int .i64 q1) ∧ W'.cell? ⟨w.heap.size + 1, 2, none⟩ = some (.int .i64 q1)) [] ?_ fun AA => ?_
    ·exact BK.out
    try dsimp only at AA
    refine tk 0 33 (mf 8 1) AA ?_;refine tk 1 34 (mf 8 2) AA ?_;refine tk 2 35 (mf 8 3) AA ?_;refine tk 3 36 (mf 8 4) AA ?_;refine tk 4 37 (mf 8 5) AA ?_;refine tk 5 38 (mf 8 6) AA ?_;refine tk 6 39 (mf 8 7) AA ?_;refine tk 7 40 (mf 8 8) AA ?_;refine tK ?_;clear AA
    go_wp2_with fail
    go_ret2;exact ⟨.inl (by rw [HR.out]; exact ⟨by decide, rfl⟩), hst.drew.bl⟩
   ·have qd : (q1 == q) = false := by simpa using Gw
    have Ay : Hid (yq (ls.take (i + 1)) q = false) := by unfold Hid; rw [vO HX.out MX.out]; simpa using Gw
    clear Gw;go_upto_region 10 with (fail);refine fv (fun W' => W'.cell? ⟨b, off + i * 3 + 2, none⟩ = some (.int .i64 q1) ∧ W'.cell? ⟨w.heap.size + 1, 2, none⟩ = some (.int .i64 q)) [] ?_ fun AA => ?_
    ·exact BK.out
    try dsimp only at AA
    refine tk 0 33 (mf 8 1) AA ?_;refine tk 1 34 (mf 8 2) AA ?_;refine tk 2 35 (mf 8 3) AA ?_;refine tk 3 36 (mf 8 4) AA ?_;refine tk 4 37 (mf 8 5) AA ?_;refine tk 5 38 (mf 8 6) AA ?_;refine tk 6 39 (mf 8 7) AA ?_;refine tk 7 40 (mf 8 8) AA ?_;refine tK ?_;clear AA
    go_wp2_with fail
    go_roundg (n - (i + 1))
    ·exact ⟨i + 1, by go_num, by omega, rfl, Ay, hst.drew⟩
    omega
  ·obtain rfl : i = n := by omega
   have Cw : decide (i < i) = false := by simp
   have AB : Hid (yq ls q = false) := by
    have := MX.out;rw [List.take_of_length_le (by have := Ij.out; omega)] at this;exact this
   replace HE : Hid (zh ns ds ls ⟨d, p, q⟩ = if yd ls ⟨d, p, q⟩ = true then 18 else if i = 128 then 1 else 0) := by unfold Hid; rw [HE.out, if_neg (by rw [AB.out]; simp)]
   have m0 := hst.bk.c0;have AL := hst.bl.size
   go_wp2_with fail
   clear m0 Cw;refine (ox Al i c Bl ls d wr (HS.below hst.bl Dn) (by omega)).mono ?_;rintro e w3 ⟨rfl, BX⟩;have Ew := iD (hst.later BX);clear BX hst AL;have QC : i ≤ 128 := by have := HG.1; have := Ij.out; omega
   have IG : (wQ ls d = none ∧ yd ls ⟨d, p, q⟩ = false) ∨ (wQ ls d = some p ∧ yd ls ⟨d, p, q⟩ = false) ∨ (∃ pv, wQ ls d = some pv ∧ pv ≠ p ∧ yd ls ⟨d, p, q⟩ = true) := by
    have h := gf HG ⟨d, p, q⟩;simp only at h;rcases hl : wQ ls d with _ | pv
    ·rw [hl] at h; exact .inl ⟨rfl, h⟩
    ·rw [hl] at h;by_cases hp : pv = p
     ·subst hp; exact .inr (.inl ⟨rfl, by rw [h]; simp⟩)
     ·exact .inr (.inr ⟨pv, rfl, hp, by rw [h]; simp [hp]⟩)
   unfold nV;have m1 := Ew.bk.c1;rcases IG with ⟨hl, ho⟩ | ⟨hl, ho⟩ | ⟨pv, hl, hp, ho⟩;rotate_left 2
   ·rw [hl];have HR : Hid (zh ns ds ls ⟨d, p, q⟩ = 18) := by unfold Hid; rw [HE.out, if_pos ho]
    have qp : (pv != p) = true := by simpa using hp
    clear hl hp ho;simp only [Option.getD_some, Option.isSome_some]
    go_wp2_with fail
    go_ret2;exact ⟨.inl (by rw [HR.out]; exact ⟨by decide, rfl⟩), Ew.bl⟩
   all_goals
    rw [hl];have HO := iD ho;have Eu : Hid (zh ns ds ls ⟨d, p, q⟩ = if i = 128 then 1 else 0) := by unfold Hid; rw [HE.out, if_neg (by rw [HO.out]; simp)]
    clear hl ho;have AH : (p != p) = false := by simp
    simp only [Option.getD_some, Option.isSome_some, Option.getD_none, Option.isSome_none];by_cases Ec : i = 128
    ·have HR : Hid (zh ns ds ls ⟨d, p, q⟩ = 1) := by unfold Hid; rw [Eu.out, if_pos Ec]
     have q1 : decide ((128 : Int) ≤ (i : Int)) = true := by simp; omega
     have q2 : decide (128 ≤ i) = true := by simp; omega
     clear Ec
     go_wp2_with fail
     go_ret2;exact ⟨.inl (by rw [HR.out]; exact ⟨by decide, rfl⟩), Ew.bl⟩
    have HR : Hid (zh ns ds ls ⟨d, p, q⟩ = 0) := by unfold Hid; rw [Eu.out, if_neg Ec]
    have q1 : decide ((128 : Int) ≤ (i : Int)) = false := by simp; omega
    have q2 : decide (128 ≤ i) = false := by simp; omega
    clear Ec HE Eu
    go_wp2_with fail
    clear m1 AH q1 q2
    go_loopg [13] i (cK w #[.slice An nn cn, .slice Ad nd cd] #[.int .i64 d, .int .i64 p, .int .i64 q] ls ⟨d, p, q⟩ i)
    case atStart => exact ⟨0, rfl, Nat.zero_le _, rfl, (fun x hx => by simp at hx), Ew⟩
    case round =>
     clear Ew;obtain ⟨j, rfl, hj, rfl, Te, hst⟩ := hrel;by_cases QG : j < i
     ·obtain ⟨b, off, d1, p1, q1, rfl, hb, hx, c0, c1, c2⟩ := (HS.below hst.bl Dn).lock QG;have HX := iD hx;have BK : Hid (wr.cell? ⟨b, off + j * 3, none⟩ = some (.int .i64 d1) ∧ wr.cell? ⟨b, off + j * 3 + 1, none⟩ = some (.int .i64 p1) ∧ wr.cell? ⟨b, off + j * 3 + 2, none⟩ = some (.int .i64 q1) ∧ wr.cell? ⟨w.heap.size + 1, 0, none⟩ = some (.int .i64 d) ∧ wr.cell? ⟨w.heap.size + 1, 1, none⟩ = some (.int .i64 p) ∧ wr.cell? ⟨w.heap.size + 1, 2, none⟩ = some (.int .i64 q)) := ⟨c0, c1, c2, hst.bk.cell 0, hst.bk.cell 1, hst.bk.cell 2⟩;have EY := iD (qL ⟨d1, p1, q1⟩ ⟨d, p, q⟩ wr.drew);clear hx c0 c1 c2;rcases Fb : zq ⟨d1, p1, q1⟩ ⟨d, p, q⟩ with _ | _
      ·rw [Fb] at EY;have Dp : Hid (∀ x, ls[j]? = some x → zq x ⟨d, p, q⟩ = false) := fun x hx => by rw [HX.out] at hx; injection hx with hx; subst hx; exact Fb
       clear Fb;go_upto_region 18 with (fail);refine fv (fun W' => W'.cell? ⟨b, off + j * 3, none⟩ = some (.int .i64 d1) ∧ W'.cell? ⟨b, off + j * 3 + 1, none⟩ = some (.int .i64 p1) ∧ W'.cell? ⟨b, off + j * 3 + 2, none⟩ = some (.int .i64 q1) ∧ W'.cell? ⟨w.heap.size + 1, 0, none⟩ = some (.int .i64 d) ∧ W'.cell? ⟨w.heap.size + 1, 1, none⟩ = some (.int .i64 p) ∧ W'.cell? ⟨w.heap.size + 1, 2, none⟩ = some (.int .i64 q)) [] ?_ fun AA => ?_
       ·exact BK.out
       try dsimp only at AA
       refine tk 0 58 (mf 12 1) AA ?_;refine tk 1 59 (mf 12 2) AA ?_;refine tk 2 60 (mf 12 3) AA ?_;refine tk 3 61 (mf 12 4) AA ?_;refine tk 4 62 (mf 12 5) AA ?_;refine tk 5 63 (mf 12 6) AA ?_;refine tk 6 64 (mf 12 7) AA ?_;refine tk 7 65 (mf 12 8) AA ?_;refine tk 8 66 (mf 12 9) AA ?_;refine tk 9 67 (mf 12 10) AA ?_;refine tb 10 (mf 12 11) fun K hK => ?_
       (go_simp; refine EY.mono ?_; rintro e w4 ⟨rfl, Be⟩; go_simp)
       refine hK _ _ (fun _ => ⟨zD Be BK.1, zD Be BK.2.1, zD Be BK.2.2.1, zD Be BK.2.2.2.1, zD Be BK.2.2.2.2.1, zD Be BK.2.2.2.2.2⟩) fun p => (fun AA => ?_) (p rfl)
       clear p hK K;(try dsimp only at AA);refine tk 11 69 (mf 12 12) AA ?_;refine tK ?_;have Bz := iD (hst.drew.later Be);have Dh := Te.out;clear AA Be hst BK EY Te;obtain ⟨VI, VV⟩ := rM (p := fun x => zq x ⟨d, p, q⟩) Dh Dp.out;have Jg : Hid (ww ⟨d, p, q⟩ ls = ls.take j ++ ⟨d, p, q⟩ :: ls.drop j) := by unfold Hid ww; rw [VI, VV]
       have FI := iD (HS.below Bz.bl Dn);have AQ : j ≤ c := by omega
       have PR := iD (FI.takeK (fun _ => rfl) (by decide) hj);have Ce := iD (FI.dropK (fun _ => rfl) (by decide) hj);have Ah : Hid (w4.cell? ⟨w.heap.size + 1, 0, none⟩ = some (.int .i64 d) ∧ w4.cell? ⟨w.heap.size + 1, 1, none⟩ = some (.int .i64 p) ∧ w4.cell? ⟨w.heap.size + 1, 2, none⟩ = some (.int .i64 q)) := ⟨Bz.bk.cell 0, Bz.bk.cell 1, Bz.bk.cell 2⟩;have Kl : Hid (∀ W, (Instr.sliceAt 35 (.slice (some ⟨b, off, none⟩) i c) (some (.int .i64 (j : Int))) none none).run prog W = .ok (.slice (oJ (some ⟨b, off, none⟩) c j 3) (i - j) (c - j)) W) := fun W => uA W _ _ _ _ hj
       clear VI VV Dh Dp;go_upto_region 20 with (fail);refine fv (fun W' => W'.cell? ⟨w.heap.size + 1, 0, none⟩ = some (.int .i64 d) ∧ W'.cell? ⟨w.heap.size + 1, 1, none⟩ = some (.int .i64 p) ∧ W'.cell? ⟨w.heap.size + 1, 2, none⟩ = some (.int .i64 q)) [] ?_ fun AA => ?_
       ·exact Ah.out
       try dsimp only at AA
       refine tk 0 72 (mf 8 1) AA ?_;refine tk 1 73 (mf 8 2) AA ?_;refine tk 2 74 (mf 8 3) AA ?_;refine tk 4 76 (ma 8 23) AA ?_;refine yM (i := 3) (k := 5) (mf 8 5) (ma 8 55) (by kernel_rfl) (by kernel_rfl) (by kernel_rfl) rfl rfl (fun K hK => ?_) (fun K hK => ?_)
       ·(refine zt (d := some 75) (by rfl) (by rfl) _ (.tmp 74) (by rfl) yb (by rfl) (World.ownsRow_nil _ w4.heap.size _ _) (by rfl) PR (yl _) (by omega) (by omega) (by simp) ?_; intro A1 c1 w5 Ar Am EJ; simp only [Nat.zero_add, List.nil_append] at Ar Am EJ ⊢)
        refine hK _ _ (fun _ => ⟨zD (zY Am) Ah.1, zD (zY Am) Ah.2.1, zD (zY Am) Ah.2.2⟩) fun p => (fun AA => ?_) (p rfl)
        clear p hK K;(try dsimp only at AA);refine tb 5 (mf 8 6) fun K hK => ?_
        go_simp
        refine hK _ _ (fun _ => ⟨zp _ (zD (zY Am) Ah.1), zp _ (zD (zY Am) Ah.2.1), zp _ (zD (zY Am) Ah.2.2)⟩) fun p => (fun AA => ?_) (p rfl)
        clear p hK K;(try dsimp only at AA);refine tb 6 (mf 8 7) fun K hK => ?_
        (refine zt (d := some 78) (by rfl) (by rfl) (.tmp 75) (.tmp 77) (by rfl) yb (by rfl) (World.ownsRow.alloc Ar _) (by rfl) (Sl.newest (n := 1) (by simp) (by rfl) (by decide)) (by simp [Value.oneCell']) (by omega) (by omega) (by have := Am.size; simp at this ⊢; omega) ?_; intro A2 c2 w6 BV BD Dw)
        refine hK _ _ (fun _ => ⟨zD (xS Am Ar BD) Ah.1, zD (xS Am Ar BD) Ah.2.1, zD (xS Am Ar BD) Ah.2.2⟩) fun p => (fun AA => ?_) (p rfl)
        clear p hK K;(try dsimp only at AA);refine tk 7 14 (mf 8 8) AA ?_;refine tK ?_;clear AA;have Dl : Hid (Below w4.heap.size w4 w6) := by first | exact xS Am Ar BD | exact xE Am Ar BD
        have Di := iD BV;have KV := iD (Ce.below Dl (by have := Bz.bl.size; omega));have hcut := Kl.out;have RA := Dl.size;clear Ar Am EJ BV BD Dw
        go_wp2_with (at_builtin; go_must (refine zM rfl (.tmp 79) (.tmp 82) rfl yb (by rfl) Di (by rfl) KV (yl _) (by omega) (by omega) (by omega) ?_; intro A3 c3 w7 BQ CQ Cy; have Ii := iD BQ; have Ca := iD CQ; clear BQ CQ Cy))
        go_ret2;have hlen : ls.length + 1 = j + 1 + (i - j) := by have := Ij.out; omega
        refine ⟨.inr ⟨HR, A3, c3, by rw [hlen]; rfl, ?_⟩, ?_⟩
        ·unfold Hid zk; rw [hlen, Jg.out]; rw [List.flatMap_append, List.flatMap_cons, ← List.append_assoc]; exact Ii.mono (by have := Bz.bl.size; omega)
        ·have h1 := Bz.bl.trans (Dl.mono Bz.bl.size); exact h1.trans ⟨Ca.os, Ca.tape, Ca.output, Ca.size, fun t ht => Ca.block t (by have := h1.size; omega) (fun e => by have := (Di.lt t e.symm).1; have := Bz.bl.size; omega)⟩
       ·go_simp
        refine hK _ _ (fun _ => ⟨zp _ Ah.1, zp _ Ah.2.1, zp _ Ah.2.2⟩) fun p => (fun AA => ?_) (p rfl)
        clear p hK K;(try dsimp only at AA);refine tb 3 (mf 8 6) fun K hK => ?_
        (refine zt (d := some 75) (by rfl) (by rfl) _ (.tmp 74) (by rfl) yb (by rfl) (World.ownsRow_nil _ w4.heap.size _ _) (by rfl) (PR.alloc (by have := Bz.bl.size; simp; omega) _) (yl _) (by omega) (by omega) (by simp) ?_; intro A1 c1 w5 Ar Am EJ; simp only [Nat.zero_add, List.nil_append] at Ar Am EJ ⊢)
        refine hK _ _ (fun _ => ⟨zD (wB Am) Ah.1, zD (wB Am) Ah.2.1, zD (wB Am) Ah.2.2⟩) fun p => (fun AA => ?_) (p rfl)
        clear p hK K;(try dsimp only at AA);refine tb 6 (mf 8 7) fun K hK => ?_
        (refine zt (d := some 78) (by rfl) (by rfl) (.tmp 75) (.tmp 77) (by rfl) yb (by rfl) Ar (by rfl) ((Sl.newest (w := w4.drew) (cs := #[.int .i64 d, .int .i64 p, .int .i64 q]) (T := 106) (n := 1) (size := 3) rfl (by rfl) (by decide)).below (zY Am) (by simp)) (by simp [Value.oneCell']) (by omega) (by omega) (by have := Am.size; simp at this ⊢; omega) ?_; intro A2 c2 w6 BV BD Dw)
        refine hK _ _ (fun _ => ⟨zD (xE Am Ar BD) Ah.1, zD (xE Am Ar BD) Ah.2.1, zD (xE Am Ar BD) Ah.2.2⟩) fun p => (fun AA => ?_) (p rfl)
        clear p hK K;(try dsimp only at AA);refine tk 7 14 (mf 8 8) AA ?_;refine tK ?_;clear AA;have Dl : Hid (Below w4.heap.size w4 w6) := by first | exact xS Am Ar BD | exact xE Am Ar BD
        have Di := iD BV;have KV := iD (Ce.below Dl (by have := Bz.bl.size; omega));have hcut := Kl.out;have RA := Dl.size;clear Ar Am EJ BV BD Dw
        go_wp2_with (at_builtin; go_must (refine zM rfl (.tmp 79) (.tmp 82) rfl yb (by rfl) Di (by rfl) KV (yl _) (by omega) (by omega) (by omega) ?_; intro A3 c3 w7 BQ CQ Cy; have Ii := iD BQ; have Ca := iD CQ; clear BQ CQ Cy))
        go_ret2;have hlen : ls.length + 1 = j + 1 + (i - j) := by have := Ij.out; omega
        refine ⟨.inr ⟨HR, A3, c3, by rw [hlen]; rfl, ?_⟩, ?_⟩
        ·unfold Hid zk; rw [hlen, Jg.out]; rw [List.flatMap_append, List.flatMap_cons, ← List.append_assoc]; exact Ii.mono (by have := Bz.bl.size; omega)
        ·have h1 := Bz.bl.trans (Dl.mono Bz.bl.size); exact h1.trans ⟨Ca.os, Ca.tape, Ca.output, Ca.size, fun t ht => Ca.block t (by have := h1.size; omega) (fun e => by have := (Di.lt t e.symm).1; have := Bz.bl.size; omega)⟩
      ·rw [Fb] at EY
       have Dz : Hid (∀ x ∈ ls.take (j + 1), zq x ⟨d, p, q⟩ = true) := fun x hx => by
        rw [zP HX.out] at hx;rcases List.mem_append.1 hx with h | h
        ·exact Te x h
        ·rw [List.mem_singleton.1 h]; exact Fb
       clear Fb;go_upto_region 18 with (fail);refine fv (fun W' => W'.cell? ⟨b, off + j * 3, none⟩ = some (.int .i64 d1) ∧ W'.cell? ⟨b, off + j * 3 + 1, none⟩ = some (.int .i64 p1) ∧ W'.cell? ⟨b, off + j * 3 + 2, none⟩ = some (.int .i64 q1) ∧ W'.cell? ⟨w.heap.size + 1, 0, none⟩ = some (.int .i64 d) ∧ W'.cell? ⟨w.heap.size + 1, 1, none⟩ = some (.int .i64 p) ∧ W'.cell? ⟨w.heap.size + 1, 2, none⟩ = some (.int .i64 q)) [] ?_ fun AA => ?_
       ·exact BK.out
       try dsimp only at AA
       refine tk 0 58 (mf 12 1) AA ?_;refine tk 1 59 (mf 12 2) AA ?_;refine tk 2 60 (mf 12 3) AA ?_;refine tk 3 61 (mf 12 4) AA ?_;refine tk 4 62 (mf 12 5) AA ?_;refine tk 5 63 (mf 12 6) AA ?_;refine tk 6 64 (mf 12 7) AA ?_;refine tk 7 65 (mf 12 8) AA ?_;refine tk 8 66 (mf 12 9) AA ?_;refine tk 9 67 (mf 12 10) AA ?_;refine tb 10 (mf 12 11) fun K hK => ?_
       (go_simp; refine EY.mono ?_; rintro e w4 ⟨rfl, Be⟩; go_simp)
       refine hK _ _ (fun _ => ⟨zD Be BK.1, zD Be BK.2.1, zD Be BK.2.2.1, zD Be BK.2.2.2.1, zD Be BK.2.2.2.2.1, zD Be BK.2.2.2.2.2⟩) fun p => (fun AA => ?_) (p rfl)
       clear p hK K;(try dsimp only at AA);refine tk 11 69 (mf 12 12) AA ?_;refine tK ?_;have Bz := iD (hst.drew.later Be);clear AA Be hst BK EY Te
       go_wp2_with fail
       go_roundg (i - (j + 1))
       ·exact ⟨j + 1, by go_num, by omega, rfl, Dz, Bz⟩
       omega
     ·have IV : decide (j < i) = false := by simpa using QG
      have Dp : Hid (∀ x, ls[j]? = some x → zq x ⟨d, p, q⟩ = false) := fun x hx => by
       have := (List.getElem?_eq_some_iff.1 hx).1;have := Ij.out;omega
      go_upto_region 18 with (fail);refine fv (fun _ => True) [] ?_ fun AA => ?_
      ·exact trivial
      try dsimp only at AA
      refine tk 0 58 (mf 12 1) AA ?_;refine tk 1 59 (mf 12 2) AA ?_;refine tk 2 60 (mf 12 3) AA ?_;refine tk 3 61 (mf 12 4) AA ?_;refine tk 4 62 (mf 12 5) AA ?_;refine ts 5 63 (mf 12 6) AA ?_;refine ts 6 64 (mf 12 7) AA ?_;refine ts 7 65 (mf 12 8) AA ?_;refine ts 8 66 (mf 12 9) AA ?_;refine ts 9 67 (mf 12 10) AA ?_;refine ts 10 68 (mf 12 11) AA ?_;refine tk 11 69 (mf 12 12) AA ?_;refine tK ?_;have Bz := iD hst.drew;have Dh := Te.out;clear AA hst Te IV;generalize World.drew _ = w4 at *;obtain ⟨VI, VV⟩ := rM (p := fun x => zq x ⟨d, p, q⟩) Dh Dp.out;have Jg : Hid (ww ⟨d, p, q⟩ ls = ls.take j ++ ⟨d, p, q⟩ :: ls.drop j) := by unfold Hid ww; rw [VI, VV]
      have FI := iD (HS.below Bz.bl Dn);have AQ : j ≤ c := by omega
      have PR := iD (FI.takeK (fun _ => rfl) (by decide) hj);have Ce := iD (FI.dropK (fun _ => rfl) (by decide) hj);have Ah : Hid (w4.cell? ⟨w.heap.size + 1, 0, none⟩ = some (.int .i64 d) ∧ w4.cell? ⟨w.heap.size + 1, 1, none⟩ = some (.int .i64 p) ∧ w4.cell? ⟨w.heap.size + 1, 2, none⟩ = some (.int .i64 q)) := ⟨Bz.bk.cell 0, Bz.bk.cell 1, Bz.bk.cell 2⟩;have Kl : Hid (∀ W, (Instr.sliceAt 35 (.slice Al i c) (some (.int .i64 (j : Int))) none none).run prog W = .ok (.slice (oJ Al c j 3) (i - j) (c - j)) W) := fun W => uA W _ _ _ _ hj
      clear VI VV Dh Dp;go_upto_region 20 with (fail);refine fv (fun W' => W'.cell? ⟨w.heap.size + 1, 0, none⟩ = some (.int .i64 d) ∧ W'.cell? ⟨w.heap.size + 1, 1, none⟩ = some (.int .i64 p) ∧ W'.cell? ⟨w.heap.size + 1, 2, none⟩ = some (.int .i64 q)) [] ?_ fun AA => ?_
      ·exact Ah.out
      try dsimp only at AA
      refine tk 0 72 (mf 8 1) AA ?_;refine tk 1 73 (mf 8 2) AA ?_;refine tk 2 74 (mf 8 3) AA ?_;refine tk 4 76 (ma 8 23) AA ?_;refine yM (i := 3) (k := 5) (mf 8 5) (ma 8 55) (by kernel_rfl) (by kernel_rfl) (by kernel_rfl) rfl rfl (fun K hK => ?_) (fun K hK => ?_)
      ·(refine zt (d := some 75) (by rfl) (by rfl) _ (.tmp 74) (by rfl) yb (by rfl) (World.ownsRow_nil _ w4.heap.size _ _) (by rfl) PR (yl _) (by omega) (by omega) (by simp) ?_; intro A1 c1 w5 Ar Am EJ; simp only [Nat.zero_add, List.nil_append] at Ar Am EJ ⊢)
       refine hK _ _ (fun _ => ⟨zD (zY Am) Ah.1, zD (zY Am) Ah.2.1, zD (zY Am) Ah.2.2⟩) fun p => (fun AA => ?_) (p rfl)
       clear p hK K;(try dsimp only at AA);refine tb 5 (mf 8 6) fun K hK => ?_
       go_simp
       refine hK _ _ (fun _ => ⟨zp _ (zD (zY Am) Ah.1), zp _ (zD (zY Am) Ah.2.1), zp _ (zD (zY Am) Ah.2.2)⟩) fun p => (fun AA => ?_) (p rfl)
       clear p hK K;(try dsimp only at AA);refine tb 6 (mf 8 7) fun K hK => ?_
       (refine zt (d := some 78) (by rfl) (by rfl) (.tmp 75) (.tmp 77) (by rfl) yb (by rfl) (World.ownsRow.alloc Ar _) (by rfl) (Sl.newest (n := 1) (by simp) (by rfl) (by decide)) (by simp [Value.oneCell']) (by omega) (by omega) (by have := Am.size; simp at this ⊢; omega) ?_; intro A2 c2 w6 BV BD Dw)
       refine hK _ _ (fun _ => ⟨zD (xS Am Ar BD) Ah.1, zD (xS Am Ar BD) Ah.2.1, zD (xS Am Ar BD) Ah.2.2⟩) fun p => (fun AA => ?_) (p rfl)
       clear p hK K;(try dsimp only at AA);refine tk 7 14 (mf 8 8) AA ?_;refine tK ?_;clear AA;have Dl : Hid (Below w4.heap.size w4 w6) := by first | exact xS Am Ar BD | exact xE Am Ar BD
       have Di := iD BV;have KV := iD (Ce.below Dl (by have := Bz.bl.size; omega));have hcut := Kl.out;have RA := Dl.size;clear Ar Am EJ BV BD Dw
       go_wp2_with (at_builtin; go_must (refine zM rfl (.tmp 79) (.tmp 82) rfl yb (by rfl) Di (by rfl) KV (yl _) (by omega) (by omega) (by omega) ?_; intro A3 c3 w7 BQ CQ Cy; have Ii := iD BQ; have Ca := iD CQ; clear BQ CQ Cy))
       go_ret2;have hlen : ls.length + 1 = j + 1 + (i - j) := by have := Ij.out; omega
       refine ⟨.inr ⟨HR, A3, c3, by rw [hlen]; rfl, ?_⟩, ?_⟩
       ·unfold Hid zk; rw [hlen, Jg.out]; rw [List.flatMap_append, List.flatMap_cons, ← List.append_assoc]; exact Ii.mono (by have := Bz.bl.size; omega)
       ·have h1 := Bz.bl.trans (Dl.mono Bz.bl.size); exact h1.trans ⟨Ca.os, Ca.tape, Ca.output, Ca.size, fun t ht => Ca.block t (by have := h1.size; omega) (fun e => by have := (Di.lt t e.symm).1; have := Bz.bl.size; omega)⟩
      ·go_simp
       refine hK _ _ (fun _ => ⟨zp _ Ah.1, zp _ Ah.2.1, zp _ Ah.2.2⟩) fun p => (fun AA => ?_) (p rfl)
       clear p hK K;(try dsimp only at AA);refine tb 3 (mf 8 6) fun K hK => ?_
       (refine zt (d := some 75) (by rfl) (by rfl) _ (.tmp 74) (by rfl) yb (by rfl) (World.ownsRow_nil _ w4.heap.size _ _) (by rfl) (PR.alloc (by have := Bz.bl.size; simp; omega) _) (yl _) (by omega) (by omega) (by simp) ?_; intro A1 c1 w5 Ar Am EJ; simp only [Nat.zero_add, List.nil_append] at Ar Am EJ ⊢)
       refine hK _ _ (fun _ => ⟨zD (wB Am) Ah.1, zD (wB Am) Ah.2.1, zD (wB Am) Ah.2.2⟩) fun p => (fun AA => ?_) (p rfl)
       clear p hK K;(try dsimp only at AA);refine tb 6 (mf 8 7) fun K hK => ?_
       (refine zt (d := some 78) (by rfl) (by rfl) (.tmp 75) (.tmp 77) (by rfl) yb (by rfl) Ar (by rfl) ((Sl.newest (w := w4.drew) (cs := #[.int .i64 d, .int .i64 p, .int .i64 q]) (T := 106) (n := 1) (size := 3) rfl (by rfl) (by decide)).below (zY Am) (by simp)) (by simp [Value.oneCell']) (by omega) (by omega) (by have := Am.size; simp at this ⊢; omega) ?_; intro A2 c2 w6 BV BD Dw)
       refine hK _ _ (fun _ => ⟨zD (xE Am Ar BD) Ah.1, zD (xE Am Ar BD) Ah.2.1, zD (xE Am Ar BD) Ah.2.2⟩) fun p => (fun AA => ?_) (p rfl)
       clear p hK K;(try dsimp only at AA);refine tk 7 14 (mf 8 8) AA ?_;refine tK ?_;clear AA;have Dl : Hid (Below w4.heap.size w4 w6) := by first | exact xS Am Ar BD | exact xE Am Ar BD
       have Di := iD BV;have KV := iD (Ce.below Dl (by have := Bz.bl.size; omega));have hcut := Kl.out;have RA := Dl.size;clear Ar Am EJ BV BD Dw
       go_wp2_with (at_builtin; go_must (refine zM rfl (.tmp 79) (.tmp 82) rfl yb (by rfl) Di (by rfl) KV (yl _) (by omega) (by omega) (by omega) ?_; intro A3 c3 w7 BQ CQ Cy; have Ii := iD BQ; have Ca := iD CQ; clear BQ CQ Cy))
       go_ret2;have hlen : ls.length + 1 = j + 1 + (i - j) := by have := Ij.out; omega
       refine ⟨.inr ⟨HR, A3, c3, by rw [hlen]; rfl, ?_⟩, ?_⟩
       ·unfold Hid zk; rw [hlen, Jg.out]; rw [List.flatMap_append, List.flatMap_cons, ← List.append_assoc]; exact Ii.mono (by have := Bz.bl.size; omega)
       ·have h1 := Bz.bl.trans (Dl.mono Bz.bl.size); exact h1.trans ⟨Ca.os, Ca.tape, Ca.output, Ca.size, fun t ht => Ca.block t (by have := h1.size; omega) (fun e => by have := (Di.lt t e.symm).1; have := Bz.bl.size; omega)⟩
theorem qj (An Ad : Option Addr) (nn cn nd cd Bd : Nat) (ds : List Dv) (d p q : Int) (w : World) (hd : Sl w Bd 5 Ad nd cd (ds.flatMap Dv.cells)) (BP : Bd ≤ w.heap.size) :
 Calls prog 132 #[.agg #[.slice An nn cn, .slice Ad nd cd], .agg #[.int .i64 d, .int .i64 p, .int .i64 q]] w fun e w' => e = .returned (.int .i64 (zv ds ⟨d, p, q⟩)) ∧ bW w w' := by
 have FL := iD (hd.len (fun _ => rfl) (by decide));have HE : Hid (zv ds ⟨d, p, q⟩ = if d < 0 then 8 else if (nd : Int) ≤ d then 8 else if rl ds d = 5 then 6 else if p ≠ 1 ∧ p ≠ 2 then 10 else if q < 0 then 5 else if 65536 < q then 5 else 0) := by unfold Hid zv; rw [FL.out]
 have HB : Hid (Below w.heap.size w ((w.alloc (.cells #[.slice An nn cn, .slice Ad nd cd] 30)).alloc (.cells #[.int .i64 d, .int .i64 p, .int .i64 q] 106))) := ((Below.refl _ _).alloc lR _).alloc (by simp) _;have Nf := iD ((hd.alloc BP (.cells #[.slice An nn cn, .slice Ad nd cd] 30)).alloc (by simp; omega) (.cells #[.int .i64 d, .int .i64 p, .int .i64 q] 106));have JU := hd.le;clear hd;by_cases h1 : d < 0
 ·have q1 : decide (d < 0) = true := by simpa using h1
  go_enter func132, ntmps132
  go_wp2_with fail
  go_ret;exact ⟨zC (by rw [HE.out, if_pos h1]), HB⟩
 have q1 : decide (d < 0) = false := by simpa using h1
 by_cases h2 : (nd : Int) ≤ d
 ·have q2 : decide ((nd : Int) ≤ d) = true := by simpa using h2
  go_enter func132, ntmps132
  go_wp2_with fail
  go_ret;exact ⟨zC (by rw [HE.out, if_neg (by omega), if_pos h2]), HB⟩
 obtain ⟨i, rfl⟩ := Int.eq_ofNat_of_zero_le (show 0 ≤ d by omega);have Ei : i < nd := by omega
 have q2 : decide (nd ≤ i) = false := by simp; omega
 obtain ⟨b0, off, x, rfl, Fe, hx, hc⟩ := Nf.at (fun _ => rfl) (by decide) Ei;have HX := iD (pG hx);obtain ⟨nm, kd, xa, xb, co⟩ := x;have c1 := hc 1 _ rfl;clear hc hx;by_cases h3 : kd = 5
 ·subst h3
  go_enter func132, ntmps132
  go_wp2_with fail
  go_ret;exact ⟨zC (by rw [HE.out, if_neg (by omega), if_neg (by omega), HX.out, if_pos rfl]), HB⟩
 have q3 : (kd == 5) = false := by simpa using h3
 have HR : Hid (zv ds ⟨(i : Int), p, q⟩ = if p ≠ 1 ∧ p ≠ 2 then 10 else if q < 0 then 5 else if 65536 < q then 5 else 0) := by unfold Hid; rw [HE.out, if_neg (by omega), if_neg (by omega), HX.out, if_neg h3]
 clear h1 h2 h3 HE HX;by_cases h4 : p = 1 ∨ p = 2
 ·have FJ : Hid (zv ds ⟨(i : Int), p, q⟩ = if q < 0 then 5 else if 65536 < q then 5 else 0) := by unfold Hid; rw [HR.out, if_neg (by omega)]
  clear HR;by_cases h5 : q < 0
  ·have q5 : decide (q < 0) = true := by simpa using h5
   rcases h4 with rfl | rfl
   all_goals
    go_enter func132, ntmps132
    go_wp2_with fail
    go_ret;exact ⟨zC (by rw [FJ.out, if_pos h5]), HB⟩
  have q5 : decide (q < 0) = false := by simpa using h5
  by_cases h6 : 65536 < q
  ·have q6 : decide (65536 < q) = true := by simpa using h6
   rcases h4 with rfl | rfl
   all_goals
    go_enter func132, ntmps132
    go_wp2_with fail
    go_ret;exact ⟨zC (by rw [FJ.out, if_neg (by omega), if_pos h6]), HB⟩
  have q6 : decide (65536 < q) = false := by simpa using h6
  rcases h4 with rfl | rfl
  all_goals
   go_enter func132, ntmps132
   go_wp2_with fail
   go_ret;exact ⟨zC (by rw [FJ.out, if_neg (by omega), if_neg (by omega)]), HB⟩
 ·have p1 : (p != 1) = true := by simp; omega
  have p2 : (p != 2) = true := by simp; omega
  go_enter func132, ntmps132
  go_wp2_with fail
  go_ret;exact ⟨zC (by rw [HR.out, if_pos (by omega)]), HB⟩
def PlR (w : World) (ls : List Lk) (d : Int) (n gk : Nat) (iv : Value) (wr : World) : Prop := ∃ i : Nat, iv = .int .i64 i ∧ i ≤ n ∧ gk = n - i ∧ Hid (∀ x ∈ ls.take i, x.dev ≠ d) ∧ Hid (bW w wr)
theorem lH (A : Option Addr) (n c B : Nat) (ls : List Lk) (d : Int) (w : World) (hs : Sl w B 3 A n c (ls.flatMap Lk.cells)) (hB : B ≤ w.heap.size) :
 Calls prog 159 #[.slice A n c, .int .i64 d] w fun e w' => e = nV ls d ∧ bW w w' := by
 have Cb := iD (hs.len (fun _ => rfl) (by decide)); have HS := iD hs;have hle := hs.le;clear hs
 go_enter func159, ntmps159
 go_wp2_with fail
 go_loopg [10] n (PlR w ls d n)
 case atStart => exact ⟨0, rfl, Nat.zero_le _, rfl, (fun x hx => by simp at hx), Below.refl _ _⟩
 case round =>
  obtain ⟨i, rfl, hi, rfl, hno, AU⟩ := hrel;by_cases hlt : i < n
  ·obtain ⟨b, off, d1, p1, q1, rfl, hb, hx, c0, c1, c2⟩ := (HS.below AU hB).lock hlt;have HX := iD hx;have Ai : Hid (Below w.heap.size w (wr.alloc (.cells #[.int .i64 d1, .int .i64 p1, .int .i64 q1] 106))) := AU.alloc AU.size _;clear hx;by_cases hd : d1 = d
   ·subst hd;have HR : Hid (wQ ls d1 = some p1) := lw hno HX rfl;have qq : (d1 == d1) = true := by simp
    go_wp2_with fail
    go_ret2;exact ⟨by unfold nV; rw [HR.out]; rfl, Ai⟩
   ·have qq : (d1 == d) = false := by simpa using hd
    have HN : Hid (∀ x ∈ ls.take (i + 1), x.dev ≠ d) := fun x hx => by
     rw [zP HX.out] at hx;rcases List.mem_append.1 hx with h | h
     ·exact hno x h
     ·rw [List.mem_singleton.1 h]; exact hd
    clear hd
    go_wp2_with fail
    go_roundg (n - (i + 1))
    ·exact ⟨i + 1, by go_num, by omega, rfl, HN, Ai⟩
    omega
  ·obtain rfl : i = n := by omega
   have Cw : decide (i < i) = false := by simp
   have HR : Hid (wQ ls d = none) := by
    have := hno.out;rw [List.take_of_length_le (by rw [Cb.out]; exact Nat.le_refl _)] at this;exact uE.2 this
   go_wp2_with fail
   go_ret2;exact ⟨by unfold nV; rw [HR.out]; rfl, AU⟩
theorem rO (A : Option Addr) (n c B : Nat) (ls : List Lk) (q : Int) (w : World) (hs : Sl w B 3 A n c (ls.flatMap Lk.cells)) (hB : B ≤ w.heap.size) :
 Calls prog 135 #[.slice A n c, .int .i64 q] w fun e w' => e = .returned (.bool (yq ls q)) ∧ bW w w' := by
 have HP : Hid (mO 166 #[.pointer (some ⟨w.heap.size, 0, none⟩)] (fun x => decide (x.key = q)) (w.alloc (.cells #[.int .i64 q] 3))) := by
  intro W d p q1 hb;have hc : W.cell? ⟨w.heap.size, 0, none⟩ = some (.int .i64 q) := (hb.cell (p := ⟨w.heap.size, 0, none⟩) (by simp)).trans (by simp);have AX : w.heap.size < W.heap.size := Nat.lt_of_lt_of_le (by simp) hb.size;have hne : w.heap.size ≠ W.heap.size := by omega
  show Calls prog 166 #[.agg #[.int .i64 d, .int .i64 p, .int .i64 q1], .pointer (some ⟨w.heap.size, 0, none⟩)] W _
  go_enter func166, ntmps166
  go_wp2_with fail
  go_ret;exact ⟨zF (by by_cases h : q1 = q <;> simp [h]), hb.alloc hb.size _⟩
 have HI := iD (sM 166 #[.pointer (some ⟨w.heap.size, 0, none⟩)] (fun x => decide (x.key = q)) (enters_of func166 (by kernel_rfl) rfl) A n c B ls _ (hs.alloc hB _) (by simp; omega) HP);have HB : Hid (Below w.heap.size w (w.alloc (.cells #[.int .i64 q] 3))) := (Below.refl _ _).alloc lR _;clear hs HP
 go_enter func135, ntmps135
 go_wp2_with fail
 refine HI.mono ?_;rintro e w1 ⟨rfl, hb⟩;have Ai := iD (HB.trans (hb.mono (by simp)));clear hb
 go_wp2_with fail
 go_ret;exact ⟨rfl, Ai⟩
theorem sG (A : Option Addr) (n c B : Nat) (ls : List Lk) (d p q : Int) (w : World) (hs : Sl w B 3 A n c (ls.flatMap Lk.cells)) (hB : B ≤ w.heap.size) :
 Calls prog 134 #[.slice A n c, .agg #[.int .i64 d, .int .i64 p, .int .i64 q]] w fun e w' => e = .returned (.bool (yd ls ⟨d, p, q⟩)) ∧ bW w w' := by
 have HP : Hid (mO 165 #[.pointer (some ⟨w.heap.size, 0, none⟩)] (tW ⟨d, p, q⟩) (w.alloc (.cells #[.int .i64 d, .int .i64 p, .int .i64 q] 106))) := by
  intro W d1 p1 q1 hb;have MB : W.cell? ⟨w.heap.size, 0, none⟩ = some (.int .i64 d) := (hb.cell (p := ⟨w.heap.size, 0, none⟩) (by simp)).trans (by simp);have Ta : W.cell? ⟨w.heap.size, 1, none⟩ = some (.int .i64 p) := (hb.cell (p := ⟨w.heap.size, 1, none⟩) (by simp)).trans (by simp);have AX : w.heap.size < W.heap.size := Nat.lt_of_lt_of_le (by simp) hb.size;have hne : w.heap.size ≠ W.heap.size := by omega
  have Bj : Hid (Below (w.alloc (.cells #[.int .i64 d, .int .i64 p, .int .i64 q] 106)).heap.size (w.alloc (.cells #[.int .i64 d, .int .i64 p, .int .i64 q] 106)) (W.alloc (.cells #[.int .i64 d1, .int .i64 p1, .int .i64 q1] 106))) := hb.alloc hb.size _;clear hb
  show Calls prog 165 #[.agg #[.int .i64 d1, .int .i64 p1, .int .i64 q1], .pointer (some ⟨w.heap.size, 0, none⟩)] W _
  by_cases h : d1 = d
  ·subst h;have qd : (d1 == d1) = true := by simp
   go_enter func165, ntmps165
   go_wp2_with fail
   go_ret;exact ⟨zF (by by_cases h : p1 = p <;> simp [h, tW]), Bj⟩
  ·have qd : (d1 == d) = false := by simpa using h
   have HR : Hid (tW ⟨d, p, q⟩ ⟨d1, p1, q1⟩ = false) := by unfold Hid; simp [tW, h]
   go_enter func165, ntmps165
   go_wp2_with fail
   go_ret;exact ⟨zF HR.symm, Bj⟩
 have HI := iD (sM 165 #[.pointer (some ⟨w.heap.size, 0, none⟩)] (tW ⟨d, p, q⟩) (enters_of func165 (by kernel_rfl) rfl) A n c B ls _ (hs.alloc hB _) (by simp; omega) HP);have HB : Hid (Below w.heap.size w (w.alloc (.cells #[.int .i64 d, .int .i64 p, .int .i64 q] 106))) := (Below.refl _ _).alloc lR _;clear hs HP
 go_enter func134, ntmps134
 go_wp2_with fail
 refine HI.mono ?_;rintro e w1 ⟨rfl, hb⟩;have Ai := iD (HB.trans (hb.mono (by simp)));clear hb
 go_wp2_with fail
 go_ret;exact ⟨rfl, Ai⟩
section
open Go.Sort (grow alloc_eq_grow)
theorem wT {W : World} {p : Addr} {v : Value} (o : Obj) (h : W.cell? p = some v) : (W.alloc o).cell? p = some v := (World.cell?_alloc_lt W o p (vK h)).trans h
theorem lK (w : World) (a b c : Obj) : ∃ n os, ((w.alloc a).alloc b).drew.alloc c = grow (w.drewN n) os := ⟨1, #[a] ++ #[b] ++ #[c], by
 rw [alloc_eq_grow w a, alloc_eq_grow _ b, Go.Sort.grow_grow]
 show (grow w.drew (#[a] ++ #[b])).alloc c = _
 rw [alloc_eq_grow, Go.Sort.grow_grow]; rfl⟩
def th (a b : Int) : Int := if a < b then -1 else if b < a then 1 else 0
def Qs (x y : Int) : Int := if x ≠ 0 then x else y
def px (a b : Lk) : Int := Qs (th a.dev b.dev) (th a.key b.key)
theorem rc (a b : Lk) : px a b < 0 ↔ zq a b = true := by
 rw [uX]; unfold px Qs th;split <;> split <;> (try split) <;> omega
theorem uQ (x : Int) (w : World) : Calls prog 182 #[.int .i64 x] w fun e w' => e = .returned (.bool false) ∧ w = w' := by
 have q : (x != x) = false := by simp
 go_enter func182, ntmps182
 go_wp2_with fail
 go_ret;exact ⟨rfl, rfl⟩
theorem kL (x y : Int) (w : World) : Calls prog 164 #[.int .i64 x, .int .i64 y] w fun e w' => e = .returned (.int .i64 (th x y)) ∧ w = w' := by
 by_cases h1 : x < y
 ·have q1 : decide (x < y) = true := by simpa using h1
  have HR : Hid (th x y = -1) := by unfold Hid th; rw [if_pos h1]
  go_enter func164, ntmps164
  go_wp2_with fail
  refine (uQ x w).mono ?_;rintro e w1 ⟨rfl, rfl⟩
  go_wp2_with fail
  refine (uQ y _).mono ?_;rintro e w1 ⟨rfl, rfl⟩
  go_wp2_with fail
  go_ret;exact ⟨zC HR.symm, rfl⟩
 have q1 : decide (x < y) = false := by simpa using h1
 by_cases h2 : y < x
 ·have q2 : decide (y < x) = true := by simpa using h2
  have HR : Hid (th x y = 1) := by unfold Hid th; rw [if_neg h1, if_pos h2]
  go_enter func164, ntmps164
  go_wp2_with fail
  refine (uQ x w).mono ?_;rintro e w1 ⟨rfl, rfl⟩
  go_wp2_with fail
  refine (uQ y _).mono ?_;rintro e w1 ⟨rfl, rfl⟩
  go_wp2_with fail
  go_ret;exact ⟨zC HR.symm, rfl⟩
 have q2 : decide (y < x) = false := by simpa using h2
 have HR : Hid (th x y = 0) := by unfold Hid th; rw [if_neg h1, if_neg h2]
 go_enter func164, ntmps164
 go_wp2_with fail
 refine (uQ x w).mono ?_;rintro e w1 ⟨rfl, rfl⟩
 go_wp2_with fail
 refine (uQ y _).mono ?_;rintro e w1 ⟨rfl, rfl⟩
 go_wp2_with fail
 go_ret;exact ⟨zC HR.symm, rfl⟩
theorem fp (b : Nat) (x y : Int) (w : World) (h0 : w.cell? ⟨b, 0, none⟩ = some (.int .i64 x)) (h1 : w.cell? ⟨b, 1, none⟩ = some (.int .i64 y)) :
 Calls prog 163 #[.slice (some ⟨b, 0, none⟩) 2 2] w fun e w' => e = .returned (.int .i64 (Qs x y)) ∧ w = w' := by
 by_cases hx : x = 0
 ·subst hx;have e1 : ((0 : Int) != 0) = false := by decide
  by_cases hy : y = 0
  ·subst hy
   go_enter func163, ntmps163
   go_wp2_with fail
   refine wp_loop_rounds 3 ?_;rw [rounds_succ]
   go_wp2_with fail
   rw [rounds_succ]
   go_wp2_with fail
   rw [rounds_succ]
   go_wp2_with fail
   go_ret;exact ⟨zC (by unfold Qs; rw [if_neg (by simp)]), rfl⟩
  ·have e2 : (y != 0) = true := by simpa using hy
   go_enter func163, ntmps163
   go_wp2_with fail
   refine wp_loop_rounds 3 ?_;rw [rounds_succ]
   go_wp2_with fail
   rw [rounds_succ]
   go_wp2_with fail
   go_ret;exact ⟨zC (by unfold Qs; rw [if_neg (by simp)]), rfl⟩
 ·have e1 : (x != 0) = true := by simpa using hx
  have HX := iD hx;clear hx
  go_enter func163, ntmps163
  go_wp2_with fail
  refine wp_loop_rounds 3 ?_;rw [rounds_succ]
  go_wp2_with fail
  go_ret;exact ⟨zC (by unfold Qs; rw [if_pos HX.out]), rfl⟩
theorem pB (a b : Lk) (w : World) : Calls prog 133 #[.agg #[.int .i64 a.dev, .int .i64 a.pos, .int .i64 a.key], .agg #[.int .i64 b.dev, .int .i64 b.pos, .int .i64 b.key]] w fun e w' => e = .returned (.int .i64 (px a b)) ∧ ∃ q os, w' = grow (w.drewN q) os := by
 obtain ⟨d, p, q⟩ := a;obtain ⟨d2, p2, q2⟩ := b;have Fu := iD (fun W => kL d d2 W);have JH := iD (fun W => kL q q2 W);have HR : Hid (px ⟨d, p, q⟩ ⟨d2, p2, q2⟩ = Qs (th d d2) (th q q2)) := rfl;generalize th d d2 = r1 at *;generalize th q q2 = r2 at *
 have BK : Hid ((((w.alloc (.cells #[.int .i64 d, .int .i64 p, .int .i64 q] 106)).alloc (.cells #[.int .i64 d2, .int .i64 p2, .int .i64 q2] 106)).cell? ⟨w.heap.size, 0, none⟩ = some (.int .i64 d)) ∧ (((w.alloc (.cells #[.int .i64 d, .int .i64 p, .int .i64 q] 106)).alloc (.cells #[.int .i64 d2, .int .i64 p2, .int .i64 q2] 106)).cell? ⟨w.heap.size, 2, none⟩ = some (.int .i64 q)) ∧ (((w.alloc (.cells #[.int .i64 d, .int .i64 p, .int .i64 q] 106)).alloc (.cells #[.int .i64 d2, .int .i64 p2, .int .i64 q2] 106)).cell? ⟨w.heap.size + 1, 0, none⟩ = some (.int .i64 d2)) ∧ (((w.alloc (.cells #[.int .i64 d, .int .i64 p, .int .i64 q] 106)).alloc (.cells #[.int .i64 d2, .int .i64 p2, .int .i64 q2] 106)).cell? ⟨w.heap.size + 1, 2, none⟩ = some (.int .i64 q2))) := by
  have b1 : AJ ((w.alloc (.cells #[.int .i64 d, .int .i64 p, .int .i64 q] 106)).alloc (.cells #[.int .i64 d2, .int .i64 p2, .int .i64 q2] 106)) w.heap.size 106 #[.int .i64 d, .int .i64 p, .int .i64 q] := (AJ.new _ _ _).alloc _;have b2 : AJ ((w.alloc (.cells #[.int .i64 d, .int .i64 p, .int .i64 q] 106)).alloc (.cells #[.int .i64 d2, .int .i64 p2, .int .i64 q2] 106)) (w.heap.size + 1) 106 #[.int .i64 d2, .int .i64 p2, .int .i64 q2] := by have := AJ.new (w.alloc (.cells #[.int .i64 d, .int .i64 p, .int .i64 q] 106)) 106 #[.int .i64 d2, .int .i64 p2, .int .i64 q2]; simpa using this
  exact ⟨b1.cell 0, b1.cell 2, b2.cell 0, b2.cell 2⟩
 have DW : Hid (∀ o, ∃ nq os, ((w.alloc (.cells #[.int .i64 d, .int .i64 p, .int .i64 q] 106)).alloc (.cells #[.int .i64 d2, .int .i64 p2, .int .i64 q2] 106)).drew.alloc o = grow (w.drewN nq) os) := fun o => lK w _ _ o
 go_enter func133, ntmps133
 go_upto_region 1 with (fail);generalize World.alloc (World.alloc _ _) _ = W at *;refine fv (fun W' => W'.cell? ⟨w.heap.size, 0, none⟩ = some (.int .i64 d) ∧ W'.cell? ⟨w.heap.size, 2, none⟩ = some (.int .i64 q) ∧ W'.cell? ⟨w.heap.size + 1, 0, none⟩ = some (.int .i64 d2) ∧ W'.cell? ⟨w.heap.size + 1, 2, none⟩ = some (.int .i64 q2)) [] ?_ fun AA => ?_
 ·exact BK.out
 try dsimp only at AA
 refine tk 0 5 (mf 13 1) AA ?_;refine tk 1 6 (mf 13 2) AA ?_;refine tk 2 7 (mf 13 3) AA ?_;refine tk 3 8 (mf 13 4) AA ?_;refine tk 5 10 (ma 13 47) AA ?_;refine tk 6 11 (ma 13 111) AA ?_;refine tk 7 12 (ma 13 239) AA ?_;refine tk 8 13 (ma 13 495) AA ?_;refine tb 4 (mf 13 9) fun K hK => ?_
 (go_simp; refine (Fu _).mono ?_; rintro e w1 ⟨rfl, rfl⟩; go_simp)
 refine hK _ _ (fun _ => BK.out) fun p => (fun AA => ?_) (p rfl)
 clear p hK K;(try dsimp only at AA);refine tb 9 (mf 13 10) fun K hK => ?_
 (go_simp; refine (JH _).mono ?_; rintro e w1 ⟨rfl, rfl⟩; go_simp)
 refine hK _ _ (fun _ => BK.out) fun p => (fun AA => ?_) (p rfl)
 clear p hK K;(try dsimp only at AA);refine tb 10 (mf 13 11) fun K hK => ?_
 go_simp
 refine hK _ _ (fun _ => ⟨wT _ BK.1, wT _ BK.2.1, wT _ BK.2.2.1, wT _ BK.2.2.2⟩) fun p => (fun AA => ?_) (p rfl)
 clear p hK K;(try dsimp only at AA);refine tb 11 (mf 13 12) fun K hK => ?_
 (go_simp; refine (fp W.heap.size r1 r2 _ (by simp) (by simp)).mono ?_; rintro e w1 ⟨rfl, rfl⟩; go_simp)
 refine hK _ _ (fun _ => ⟨wT _ BK.1, wT _ BK.2.1, wT _ BK.2.2.1, wT _ BK.2.2.2⟩) fun p => (fun AA => ?_) (p rfl)
 clear p hK K;(try dsimp only at AA);refine tk 12 4 (mf 13 13) AA ?_;refine tK ?_
 go_wp2_with fail
 go_ret;exact ⟨zC HR.symm, DW _⟩
end
theorem zu {w' : World} (h : ∃ q os, w' = Go.Sort.grow (w.drewN q) os) : bW w w' := by
 obtain ⟨q, os, rfl⟩ := h;exact ⟨rfl, rfl, rfl, by simp [Go.Sort.grow, World.drewN], fun i hi => by simp only [Go.Sort.grow, World.drewN]; rw [Array.getElem?_append_left hi]⟩
structure qb (w : World) (N : Array Value) (wr : World) : Prop where
 bn : AJ wr w.heap.size 30 N
 bl : bW w wr
theorem qb.later {wr' : World} (h : qb w N wr) (hb : bW wr wr') : qb w N wr' := ⟨h.bn.below hb h.bn.lt, h.bl.trans (hb.mono h.bl.size)⟩
theorem qb.drew (h : qb w N wr) : qb w N wr.drew := h.later (Below.refl _ _).drew
def PcR (w : World) (N : Array Value) (ds : List Dv) (ls : List Lk) (n gk : Nat) (iv : Value) (wr : World) : Prop := ∃ i : Nat, iv = .int .i64 i ∧ i ≤ n ∧ gk = n - i ∧ Hid (yL ds ls i = 0) ∧ Hid (qb w N wr)
theorem uw (An Ad Al : Option Addr) (nn cn nd cd n c Bn Bd Bl : Nat) (ns : List Nd) (ds : List Dv) (ls : List Lk) (w : World) (hl : Laid w) (hn : Sl w Bn 3 An nn cn (ns.flatMap Nd.cells)) (hd : Sl w Bd 5 Ad nd cd (ds.flatMap Dv.cells)) (hs : Sl w Bl 3 Al n c (ls.flatMap Lk.cells)) (CS : Bn ≤ w.heap.size) (BP : Bd ≤ w.heap.size) (Dn : Bl ≤ w.heap.size)
 (Bg : FP ns) (BU : Fv ds) :
 Calls prog 107 #[.agg #[.slice An nn cn, .slice Ad nd cd], .slice Al n c] w fun e w' => e = .returned (.int .i64 (zJ ns ds ls)) ∧ bW w w' := by
 have hle := hs.le;have Oj := hs.len (fun _ => rfl) (by decide);have Ij := iD Oj;have HE : Hid (zJ ns ds ls = if zR ns ds ≠ 0 then zR ns ds else if 128 < n then 1 else yL ds ls n) := by unfold Hid zJ; rw [Oj]
 have BG : Hid (qb w #[.slice An nn cn, .slice Ad nd cd] (w.alloc (.cells #[.slice An nn cn, .slice Ad nd cd] 30))) := ⟨AJ.new _ _ _, (Below.refl _ _).alloc lR _⟩;have Cm := iD (vj An Ad nn cn nd cd Bn Bd ns ds (w.alloc (.cells #[.slice An nn cn, .slice Ad nd cd] 30)) (hl.alloc _) (hn.below BG.bl CS) (hd.below BG.bl BP) (by simp; omega) (by simp; omega) Bg BU);have HD := iD hd; have HS := iD hs;clear hn hd hs Bg BU hl Oj
 go_enter func107, ntmps107
 go_wp2_with fail
 generalize World.alloc _ _ = W at *;refine Cm.mono ?_;rintro e w1 ⟨rfl, AV⟩;have BO := iD (BG.later AV);clear AV BG Cm;by_cases h0 : zR ns ds = 0; rotate_left
 ·have q0 : (zR ns ds != 0) = true := by simpa using h0
  have HR : Hid (zJ ns ds ls = zR ns ds) := by unfold Hid; rw [HE.out, if_pos h0]
  clear h0
  go_wp2_with fail
  go_ret;exact ⟨zC HR.symm, BO.bl⟩
 rw [h0];replace HE : Hid (zJ ns ds ls = if 128 < n then 1 else yL ds ls n) := by unfold Hid; rw [HE.out, if_neg (by simp [h0])]
 clear h0;by_cases h1 : 128 < n
 ·have q0 : decide ((128 : Int) < (n : Int)) = true := by simp; omega
  have q1 : decide (128 < n) = true := by simpa using h1
  have HR : Hid (zJ ns ds ls = 1) := by unfold Hid; rw [HE.out, if_pos h1]
  clear h1
  go_wp2_with fail
  go_ret;exact ⟨zC HR.symm, BO.bl⟩
 have q0 : decide ((128 : Int) < (n : Int)) = false := by simp; omega
 have q1 : decide (128 < n) = false := by simpa using h1
 replace HE : Hid (zJ ns ds ls = yL ds ls n) := by unfold Hid; rw [HE.out, if_neg h1]
 clear h1
 go_wp2_with fail
 clear q0 q1
 go_loopg [19] n (PcR w #[.slice An nn cn, .slice Ad nd cd] ds ls n)
 case atStart => exact ⟨0, rfl, Nat.zero_le _, rfl, rfl, BO⟩
 case round =>
  clear BO;obtain ⟨i, rfl, hi, rfl, Ku, hst⟩ := hrel;by_cases hlt : i < n
  ·obtain ⟨b, off, d, p, q, rfl, hb, hx, c0, c1, c2⟩ := (HS.below hst.bl Dn).lock hlt;have HX := iD hx;have Dp : Hid (∀ e, xK ds ls i = e → e ≠ 0 → zJ ns ds ls = e) := fun e he h => by rw [HE.out]; exact yu Ku he h n hlt
   have Qd : Hid (xK ds ls i = 0 → yL ds ls (i + 1) = 0) := fun he => uG Ku he
   have Ed : Hid (xK ds ls i = if zv ds ⟨d, p, q⟩ ≠ 0 then zv ds ⟨d, p, q⟩ else if xH ls i ⟨d, p, q⟩ = true then 14 else if yd (ls.take i) ⟨d, p, q⟩ = true then 18 else if yq (ls.take i) q = true then 4 else 0) := by unfold Hid xK; rw [hx]
   have DN : Hid (qb w #[.slice An nn cn, .slice Ad nd cd] (wr.alloc (.cells #[.int .i64 d, .int .i64 p, .int .i64 q] 106))) := hst.later ((Below.refl _ _).alloc lR _);have EP : Hid (AJ (wr.alloc (.cells #[.int .i64 d, .int .i64 p, .int .i64 q] 106)) wr.heap.size 106 #[.int .i64 d, .int .i64 p, .int .i64 q]) := AJ.new _ _ _;have AY := hst.bl.size;have Ah : Hid (Below w.heap.size w wr) := hst.bl;clear hx Ku hst;go_upto_region 9 with (fail);clear c0 c1 c2;generalize AG : World.alloc wr _ = W2 at *;have GJ : W2.heap.size = wr.heap.size + 1 := by rw [← AG]; simp
   have AE := iD (HS.below DN.bl Dn);have Wd := iD (HD.below DN.bl BP);clear AG;obtain ⟨k0, k1⟩ := DN.bn.d2;obtain ⟨m0, m1, m2⟩ := EP.d3
   go_wp2_with fail
   clear k0 k1 m0 m1 m2;refine (qj An Ad nn cn nd cd Bd ds d p q W2 Wd (by omega)).mono ?_;rintro e w3 ⟨rfl, BX⟩;have Ew := iD (DN.later BX);have EC := iD (EP.below BX EP.lt);have JN := BX.size;clear DN EP AE Wd BX;by_cases hv : zv ds ⟨d, p, q⟩ = 0; rotate_left
   ·have qv : (zv ds ⟨d, p, q⟩ != 0) = true := by simpa using hv
    have HR : Hid (zJ ns ds ls = zv ds ⟨d, p, q⟩) := Dp _ (by rw [Ed.out, if_pos hv]) hv;clear hv
    go_wp2_with fail
    go_ret;exact ⟨zC HR.symm, Ew.bl⟩
   rw [hv];replace Ed : Hid (xK ds ls i = if xH ls i ⟨d, p, q⟩ = true then 14 else if yd (ls.take i) ⟨d, p, q⟩ = true then 18 else if yq (ls.take i) q = true then 4 else 0) := by unfold Hid; rw [Ed.out, if_neg (by simp [hv])]
   clear hv;by_cases Ml : 0 < i
   ·obtain ⟨b1, En, d1, p1, q1, Gh, _, Dr, g0, g1, g2⟩ := (HS.below Ew.bl Dn).lock (i := i - 1) (by omega);injection Gh with Gh; injection Gh with h1 h2; subst h1 h2;have Ez := iD (pD (k := ⟨d, p, q⟩) Ml Dr);have BK : Hid (w3.cell? ⟨b, off + (i - 1) * 3, none⟩ = some (.int .i64 d1) ∧ w3.cell? ⟨b, off + (i - 1) * 3 + 1, none⟩ = some (.int .i64 p1) ∧ w3.cell? ⟨b, off + (i - 1) * 3 + 2, none⟩ = some (.int .i64 q1) ∧ w3.cell? ⟨wr.heap.size, 0, none⟩ = some (.int .i64 d) ∧ w3.cell? ⟨wr.heap.size, 1, none⟩ = some (.int .i64 p) ∧ w3.cell? ⟨wr.heap.size, 2, none⟩ = some (.int .i64 q)) := ⟨g0, g1, g2, EC.cell 0, EC.cell 1, EC.cell 2⟩;clear g0 g1 g2 Dr;obtain ⟨i1, RV⟩ := eX (i - 1);rw [← RV] at BK;have e1 : IntKind.i64.wrap ((i : Int) - 1) = (i1 : Int) := by rw [IntWalk.i64_in _ (by omega)]; omega
    have AW : i1 < n := by omega
    have qi : decide ((0 : Int) < (i : Int)) = true := by simp; omega
    clear RV;have EY := iD (pB ⟨d1, p1, q1⟩ ⟨d, p, q⟩ w3.drew);have GU := iD (rc ⟨d1, p1, q1⟩ ⟨d, p, q⟩);generalize px ⟨d1, p1, q1⟩ ⟨d, p, q⟩ = r at *;rcases Fb : zq ⟨d1, p1, q1⟩ ⟨d, p, q⟩ with _ | _
    ·rw [Fb] at Ez GU;have qr : decide (0 ≤ r) = true := by have := GU.out; simp at this ⊢; omega
     have HR : Hid (zJ ns ds ls = 14) := Dp _ (by rw [Ed.out, if_pos (by rw [Ez.out]; rfl)]) (by decide);clear Fb;go_upto_region 12 with (fail);refine fv (fun W' => W'.cell? ⟨b, off + i1 * 3, none⟩ = some (.int .i64 d1) ∧ W'.cell? ⟨b, off + i1 * 3 + 1, none⟩ = some (.int .i64 p1) ∧ W'.cell? ⟨b, off + i1 * 3 + 2, none⟩ = some (.int .i64 q1) ∧ W'.cell? ⟨wr.heap.size, 0, none⟩ = some (.int .i64 d) ∧ W'.cell? ⟨wr.heap.size, 1, none⟩ = some (.int .i64 p) ∧ W'.cell? ⟨wr.heap.size, 2, none⟩ = some (.int .i64 q)) [] ?_ fun AA => ?_
     ·exact BK.out
     try dsimp only at AA
     refine tk 0 32 (mf 13 1) AA ?_;refine tk 1 33 (mf 13 2) AA ?_;refine tk 2 34 (mf 13 3) AA ?_;refine tk 3 35 (mf 13 4) AA ?_;refine tk 4 36 (mf 13 5) AA ?_;refine tk 5 37 (mf 13 6) AA ?_;refine tk 6 38 (mf 13 7) AA ?_;refine tk 7 39 (mf 13 8) AA ?_;refine tk 8 40 (mf 13 9) AA ?_;refine tb 9 (mf 13 10) fun K hK => ?_
     (go_simp; refine EY.mono ?_; rintro e w4 ⟨rfl, Be⟩; go_simp)
     refine hK _ _ (fun _ => ⟨zD (zu Be) BK.1, zD (zu Be) BK.2.1, zD (zu Be) BK.2.2.1, zD (zu Be) BK.2.2.2.1, zD (zu Be) BK.2.2.2.2.1, zD (zu Be) BK.2.2.2.2.2⟩) fun p => (fun AA => ?_) (p rfl)
     clear p hK K;(try dsimp only at AA);refine tk 10 42 (mf 13 11) AA ?_;refine tk 11 43 (mf 13 12) AA ?_;refine tk 12 31 (mf 13 13) AA ?_;refine tK ?_;have Bz := iD (Ew.drew.later (zu Be));clear AA Be
     go_wp2_with fail
     go_ret;exact ⟨zC HR.symm, Bz.bl⟩
    ·rw [Fb] at Ez GU;have qr : decide (0 ≤ r) = false := by have := GU.out; simp at this ⊢; omega
     replace Ez : Hid (xH ls i ⟨d, p, q⟩ = false) := by unfold Hid; rw [Ez.out]; rfl
     clear Fb;go_upto_region 12 with (fail);refine fv (fun W' => W'.cell? ⟨b, off + i1 * 3, none⟩ = some (.int .i64 d1) ∧ W'.cell? ⟨b, off + i1 * 3 + 1, none⟩ = some (.int .i64 p1) ∧ W'.cell? ⟨b, off + i1 * 3 + 2, none⟩ = some (.int .i64 q1) ∧ W'.cell? ⟨wr.heap.size, 0, none⟩ = some (.int .i64 d) ∧ W'.cell? ⟨wr.heap.size, 1, none⟩ = some (.int .i64 p) ∧ W'.cell? ⟨wr.heap.size, 2, none⟩ = some (.int .i64 q)) [] ?_ fun AA => ?_
     ·exact BK.out
     try dsimp only at AA
     refine tk 0 32 (mf 13 1) AA ?_;refine tk 1 33 (mf 13 2) AA ?_;refine tk 2 34 (mf 13 3) AA ?_;refine tk 3 35 (mf 13 4) AA ?_;refine tk 4 36 (mf 13 5) AA ?_;refine tk 5 37 (mf 13 6) AA ?_;refine tk 6 38 (mf 13 7) AA ?_;refine tk 7 39 (mf 13 8) AA ?_;refine tk 8 40 (mf 13 9) AA ?_;refine tb 9 (mf 13 10) fun K hK => ?_
     (go_simp; refine EY.mono ?_; rintro e w4 ⟨rfl, Be⟩; go_simp)
     refine hK _ _ (fun _ => ⟨zD (zu Be) BK.1, zD (zu Be) BK.2.1, zD (zu Be) BK.2.2.1, zD (zu Be) BK.2.2.2.1, zD (zu Be) BK.2.2.2.2.1, zD (zu Be) BK.2.2.2.2.2⟩) fun p => (fun AA => ?_) (p rfl)
     clear p hK K;(try dsimp only at AA);refine tk 10 42 (mf 13 11) AA ?_;refine tk 11 43 (mf 13 12) AA ?_;refine tk 12 31 (mf 13 13) AA ?_;refine tK ?_;have Bz := iD (Ew.drew.later (zu Be));have El := iD ((show AJ w3.drew wr.heap.size 106 #[.int .i64 d, .int .i64 p, .int .i64 q] from EC).below (zu Be) EC.lt);clear AA Be Ew EC BK EY GU e1 qr;have Fh := iD Ez.out;have FM : Hid (xK ds ls i = if yd (ls.take i) ⟨d, p, q⟩ = true then 18 else if yq (ls.take i) q = true then 4 else 0) := by unfold Hid; rw [Ed.out, if_neg (by rw [Fh.out]; simp)]
     clear Ed Ez Fh;have FI := iD (HS.below Bz.bl Dn);have QH : i ≤ c := by omega
     have Rx := iD (FI.takeK (fun _ => rfl) (by decide) hi);have Dk : Hid (w4.cell? ⟨wr.heap.size, 0, none⟩ = some (.int .i64 d) ∧ w4.cell? ⟨wr.heap.size, 1, none⟩ = some (.int .i64 p) ∧ w4.cell? ⟨wr.heap.size, 2, none⟩ = some (.int .i64 q)) := ⟨El.cell 0, El.cell 1, El.cell 2⟩;have IM := Bz.bl.size;have GQ := iD (sG (some ⟨b, off, none⟩) i c Bl (ls.take i) d p q w4.drew Rx (by simp only [World.drew]; omega))
     go_wp2_with fail
     rcases ho : yd (ls.take i) ⟨d, p, q⟩ with _ | _;rotate_left
     ·rw [ho] at GQ FM;clear ho;have HR : Hid (zJ ns ds ls = 18) := Dp _ (by rw [FM.out, if_pos rfl]) (by decide);go_upto_region 14 with (fail);refine fv (fun W' => W'.cell? ⟨wr.heap.size, 0, none⟩ = some (.int .i64 d) ∧ W'.cell? ⟨wr.heap.size, 1, none⟩ = some (.int .i64 p) ∧ W'.cell? ⟨wr.heap.size, 2, none⟩ = some (.int .i64 q)) [] ?_ fun AA => ?_
      ·exact Dk.out
      try dsimp only at AA
      refine tk 0 45 (mf 6 1) AA ?_;refine tk 1 46 (mf 6 2) AA ?_;refine tk 2 47 (mf 6 3) AA ?_;refine tk 3 48 (mf 6 4) AA ?_;refine tb 4 (mf 6 5) fun K hK => ?_
      (go_simp; refine GQ.mono ?_; rintro e w5 ⟨rfl, BN⟩; go_simp)
      refine hK _ _ (fun _ => ⟨zD BN Dk.1, zD BN Dk.2.1, zD BN Dk.2.2⟩) fun p => (fun AA => ?_) (p rfl)
      clear p hK K;(try dsimp only at AA);refine tk 5 44 (mf 6 6) AA ?_;refine tK ?_;have EW := iD (Bz.drew.later BN);clear AA BN
      go_wp2_with fail
      go_ret;exact ⟨zC HR.symm, EW.bl⟩
     rw [ho] at GQ FM;replace FM : Hid (xK ds ls i = if yq (ls.take i) q = true then 4 else 0) := by unfold Hid; rw [FM.out, if_neg (by simp)]
     clear ho;go_upto_region 14 with (fail);refine fv (fun W' => W'.cell? ⟨wr.heap.size, 0, none⟩ = some (.int .i64 d) ∧ W'.cell? ⟨wr.heap.size, 1, none⟩ = some (.int .i64 p) ∧ W'.cell? ⟨wr.heap.size, 2, none⟩ = some (.int .i64 q)) [] ?_ fun AA => ?_
     ·exact Dk.out
     try dsimp only at AA
     refine tk 0 45 (mf 6 1) AA ?_;refine tk 1 46 (mf 6 2) AA ?_;refine tk 2 47 (mf 6 3) AA ?_;refine tk 3 48 (mf 6 4) AA ?_;refine tb 4 (mf 6 5) fun K hK => ?_
     (go_simp; refine GQ.mono ?_; rintro e w5 ⟨rfl, BN⟩; go_simp)
     refine hK _ _ (fun _ => ⟨zD BN Dk.1, zD BN Dk.2.1, zD BN Dk.2.2⟩) fun p => (fun AA => ?_) (p rfl)
     clear p hK K;(try dsimp only at AA);refine tk 5 44 (mf 6 6) AA ?_;refine tK ?_;have EW := iD (Bz.drew.later BN);have Rw := iD (Rx.drew.below BN (by simp only [World.drew]; omega));have IJ : Hid (w5.cell? ⟨wr.heap.size, 2, none⟩ = some (.int .i64 q)) := AA.2.2;clear AA BN GQ Dk FI Rx El;have Qz := EW.bl.size;have PQ := iD (rO (some ⟨b, off, none⟩) i c Bl (ls.take i) q w5.drew Rw (by simp only [World.drew]; omega));rcases hu : yq (ls.take i) q with _ | _;rotate_left
     ·rw [hu] at PQ FM;clear hu;have HR : Hid (zJ ns ds ls = 4) := Dp _ (by rw [FM.out, if_pos rfl]) (by decide);go_upto_region 16 with (fail);refine fv (fun W' => W'.cell? ⟨wr.heap.size, 2, none⟩ = some (.int .i64 q)) [] ?_ fun AA => ?_
      ·exact IJ.out
      try dsimp only at AA
      refine tk 0 51 (mf 7 1) AA ?_;refine tk 1 52 (mf 7 2) AA ?_;refine tk 2 53 (mf 7 3) AA ?_;refine tk 3 54 (mf 7 4) AA ?_;refine tk 4 55 (mf 7 5) AA ?_;refine tb 5 (mf 7 6) fun K hK => ?_
      (go_simp; refine PQ.mono ?_; rintro e w6 ⟨rfl, Db⟩; go_simp)
      refine hK _ _ (fun _ => zD Db IJ.out) fun p => (fun AA => ?_) (p rfl)
      clear p hK K;(try dsimp only at AA);refine tk 6 50 (mf 7 7) AA ?_;refine tK ?_;have Jc := iD (EW.drew.later Db);clear AA Db
      go_wp2_with fail
      go_ret;exact ⟨zC HR.symm, Jc.bl⟩
     rw [hu] at PQ FM;clear hu;have Kj : Hid (yL ds ls (i + 1) = 0) := Qd (by rw [FM.out, if_neg (by simp)]);go_upto_region 16 with (fail);refine fv (fun W' => W'.cell? ⟨wr.heap.size, 2, none⟩ = some (.int .i64 q)) [] ?_ fun AA => ?_
     ·exact IJ.out
     try dsimp only at AA
     refine tk 0 51 (mf 7 1) AA ?_;refine tk 1 52 (mf 7 2) AA ?_;refine tk 2 53 (mf 7 3) AA ?_;refine tk 3 54 (mf 7 4) AA ?_;refine tk 4 55 (mf 7 5) AA ?_;refine tb 5 (mf 7 6) fun K hK => ?_
     (go_simp; refine PQ.mono ?_; rintro e w6 ⟨rfl, Db⟩; go_simp)
     refine hK _ _ (fun _ => zD Db IJ.out) fun p => (fun AA => ?_) (p rfl)
     clear p hK K;(try dsimp only at AA);refine tk 6 50 (mf 7 7) AA ?_;refine tK ?_;have Jc := iD (EW.drew.later Db);clear AA Db
     go_wp2_with fail
     go_roundg (n - (i + 1))
     ·exact ⟨i + 1, by go_num, by omega, rfl, Kj, Jc⟩
     omega
   ·have e0 : i = 0 := by omega
    have Ez : Hid (xH ls i ⟨d, p, q⟩ = false) := by unfold Hid xH; rw [decide_eq_false Ml]; rfl
    have qi : decide (0 < i) = false := by simp; omega
    have AK : decide ((0 : Int) < (i : Int)) = false := by simp; omega
    clear e0;go_upto_region 12 with (fail);refine fv (fun _ => True) [] ?_ fun AA => ?_
    ·exact trivial
    try dsimp only at AA
    refine tk 0 32 (mf 13 1) AA ?_;refine tk 1 33 (mf 13 2) AA ?_;refine tk 2 34 (mf 13 3) AA ?_;refine ts 3 35 (mf 13 4) AA ?_;refine ts 4 36 (mf 13 5) AA ?_;refine ts 5 37 (mf 13 6) AA ?_;refine ts 6 38 (mf 13 7) AA ?_;refine ts 7 39 (mf 13 8) AA ?_;refine ts 8 40 (mf 13 9) AA ?_;refine ts 9 41 (mf 13 10) AA ?_;refine ts 10 42 (mf 13 11) AA ?_;refine tk 11 43 (mf 13 12) AA ?_;refine tk 12 31 (mf 13 13) AA ?_;refine tK ?_;have Bz := iD (Ew.drew);have El := iD (show AJ w3.drew wr.heap.size 106 #[.int .i64 d, .int .i64 p, .int .i64 q] from EC);have AO : wr.heap.size + 1 ≤ w3.drew.heap.size := by simp only [World.drew]; omega
    clear AA Ew EC qi AK JN;generalize World.drew w3 = w4 at *;have Fh := iD Ez.out;have FM : Hid (xK ds ls i = if yd (ls.take i) ⟨d, p, q⟩ = true then 18 else if yq (ls.take i) q = true then 4 else 0) := by unfold Hid; rw [Ed.out, if_neg (by rw [Fh.out]; simp)]
    clear Ed Ez Fh;have FI := iD (HS.below Bz.bl Dn);have QH : i ≤ c := by omega
    have Rx := iD (FI.takeK (fun _ => rfl) (by decide) hi);have Dk : Hid (w4.cell? ⟨wr.heap.size, 0, none⟩ = some (.int .i64 d) ∧ w4.cell? ⟨wr.heap.size, 1, none⟩ = some (.int .i64 p) ∧ w4.cell? ⟨wr.heap.size, 2, none⟩ = some (.int .i64 q)) := ⟨El.cell 0, El.cell 1, El.cell 2⟩;have IM := Bz.bl.size;have GQ := iD (sG (some ⟨b, off, none⟩) i c Bl (ls.take i) d p q w4.drew Rx (by simp only [World.drew]; omega))
    go_wp2_with fail
    rcases ho : yd (ls.take i) ⟨d, p, q⟩ with _ | _;rotate_left
    ·rw [ho] at GQ FM;clear ho;have HR : Hid (zJ ns ds ls = 18) := Dp _ (by rw [FM.out, if_pos rfl]) (by decide);go_upto_region 14 with (fail);refine fv (fun W' => W'.cell? ⟨wr.heap.size, 0, none⟩ = some (.int .i64 d) ∧ W'.cell? ⟨wr.heap.size, 1, none⟩ = some (.int .i64 p) ∧ W'.cell? ⟨wr.heap.size, 2, none⟩ = some (.int .i64 q)) [] ?_ fun AA => ?_
     ·exact Dk.out
     try dsimp only at AA
     refine tk 0 45 (mf 6 1) AA ?_;refine tk 1 46 (mf 6 2) AA ?_;refine tk 2 47 (mf 6 3) AA ?_;refine tk 3 48 (mf 6 4) AA ?_;refine tb 4 (mf 6 5) fun K hK => ?_
     (go_simp; refine GQ.mono ?_; rintro e w5 ⟨rfl, BN⟩; go_simp)
     refine hK _ _ (fun _ => ⟨zD BN Dk.1, zD BN Dk.2.1, zD BN Dk.2.2⟩) fun p => (fun AA => ?_) (p rfl)
     clear p hK K;(try dsimp only at AA);refine tk 5 44 (mf 6 6) AA ?_;refine tK ?_;have EW := iD (Bz.drew.later BN);clear AA BN
     go_wp2_with fail
     go_ret;exact ⟨zC HR.symm, EW.bl⟩
    rw [ho] at GQ FM;replace FM : Hid (xK ds ls i = if yq (ls.take i) q = true then 4 else 0) := by unfold Hid; rw [FM.out, if_neg (by simp)]
    clear ho;go_upto_region 14 with (fail);refine fv (fun W' => W'.cell? ⟨wr.heap.size, 0, none⟩ = some (.int .i64 d) ∧ W'.cell? ⟨wr.heap.size, 1, none⟩ = some (.int .i64 p) ∧ W'.cell? ⟨wr.heap.size, 2, none⟩ = some (.int .i64 q)) [] ?_ fun AA => ?_
    ·exact Dk.out
    try dsimp only at AA
    refine tk 0 45 (mf 6 1) AA ?_;refine tk 1 46 (mf 6 2) AA ?_;refine tk 2 47 (mf 6 3) AA ?_;refine tk 3 48 (mf 6 4) AA ?_;refine tb 4 (mf 6 5) fun K hK => ?_
    (go_simp; refine GQ.mono ?_; rintro e w5 ⟨rfl, BN⟩; go_simp)
    refine hK _ _ (fun _ => ⟨zD BN Dk.1, zD BN Dk.2.1, zD BN Dk.2.2⟩) fun p => (fun AA => ?_) (p rfl)
    clear p hK K;(try dsimp only at AA);refine tk 5 44 (mf 6 6) AA ?_;refine tK ?_;have EW := iD (Bz.drew.later BN);have Rw := iD (Rx.drew.below BN (by simp only [World.drew]; omega));have IJ : Hid (w5.cell? ⟨wr.heap.size, 2, none⟩ = some (.int .i64 q)) := AA.2.2;clear AA BN GQ Dk FI Rx El;have Qz := EW.bl.size;have PQ := iD (rO (some ⟨b, off, none⟩) i c Bl (ls.take i) q w5.drew Rw (by simp only [World.drew]; omega));rcases hu : yq (ls.take i) q with _ | _;rotate_left
    ·rw [hu] at PQ FM;clear hu;have HR : Hid (zJ ns ds ls = 4) := Dp _ (by rw [FM.out, if_pos rfl]) (by decide);go_upto_region 16 with (fail);refine fv (fun W' => W'.cell? ⟨wr.heap.size, 2, none⟩ = some (.int .i64 q)) [] ?_ fun AA => ?_
     ·exact IJ.out
     try dsimp only at AA
     refine tk 0 51 (mf 7 1) AA ?_;refine tk 1 52 (mf 7 2) AA ?_;refine tk 2 53 (mf 7 3) AA ?_;refine tk 3 54 (mf 7 4) AA ?_;refine tk 4 55 (mf 7 5) AA ?_;refine tb 5 (mf 7 6) fun K hK => ?_
     (go_simp; refine PQ.mono ?_; rintro e w6 ⟨rfl, Db⟩; go_simp)
     refine hK _ _ (fun _ => zD Db IJ.out) fun p => (fun AA => ?_) (p rfl)
     clear p hK K;(try dsimp only at AA);refine tk 6 50 (mf 7 7) AA ?_;refine tK ?_;have Jc := iD (EW.drew.later Db);clear AA Db
     go_wp2_with fail
     go_ret;exact ⟨zC HR.symm, Jc.bl⟩
    rw [hu] at PQ FM;clear hu;have Kj : Hid (yL ds ls (i + 1) = 0) := Qd (by rw [FM.out, if_neg (by simp)]);go_upto_region 16 with (fail);refine fv (fun W' => W'.cell? ⟨wr.heap.size, 2, none⟩ = some (.int .i64 q)) [] ?_ fun AA => ?_
    ·exact IJ.out
    try dsimp only at AA
    refine tk 0 51 (mf 7 1) AA ?_;refine tk 1 52 (mf 7 2) AA ?_;refine tk 2 53 (mf 7 3) AA ?_;refine tk 3 54 (mf 7 4) AA ?_;refine tk 4 55 (mf 7 5) AA ?_;refine tb 5 (mf 7 6) fun K hK => ?_
    (go_simp; refine PQ.mono ?_; rintro e w6 ⟨rfl, Db⟩; go_simp)
    refine hK _ _ (fun _ => zD Db IJ.out) fun p => (fun AA => ?_) (p rfl)
    clear p hK K;(try dsimp only at AA);refine tk 6 50 (mf 7 7) AA ?_;refine tK ?_;have Jc := iD (EW.drew.later Db);clear AA Db
    go_wp2_with fail
    go_roundg (n - (i + 1))
    ·exact ⟨i + 1, by go_num, by omega, rfl, Kj, Jc⟩
    omega
  ·obtain rfl : i = n := by omega
   have Cw : decide (i < i) = false := by simp
   have HR : Hid (zJ ns ds ls = 0) := by unfold Hid; rw [HE.out, Ku.out]
   go_wp2_with fail
   go_ret;exact ⟨zC HR.symm, hst.bl⟩
section
def oH (a b : Lk) : Bool := a.dev == b.dev && a.pos == b.pos && a.key == b.key
theorem xo (a b : Lk) : oH a b = true ↔ a = b := by
 obtain ⟨a1, a2, a3⟩ := a;obtain ⟨b1, b2, b3⟩ := b;unfold oH; simp [and_assoc]
theorem mj (d p q d2 p2 q2 : Int) (w : World) : (binOp .neq 106 (.agg #[.int .i64 d, .int .i64 p, .int .i64 q]) (.agg #[.int .i64 d2, .int .i64 p2, .int .i64 q2])).run prog w = .ok (.bool (!oH ⟨d, p, q⟩ ⟨d2, p2, q2⟩)) w := by
 have u3 := underlying3;have a3 := isAgg3;have z3 := sizeOf3;have hS : prog.underlying 106 = some (.struct (prog.fieldsOf 106)) := by kernel_rfl
 have hp : prog.stoodInHeld 106 = false := by kernel_rfl
 rw [run_neq_struct, show (10000 : Nat) = 9999 + 1 from rfl, run_equalIn_agg w 9999 106 _ _ hS hp];simp only [Program.fieldsOf, underlying106]
 go_simp
 by_cases h1 : d = d2 <;> by_cases h2 : p = p2 <;> by_cases h3 : q = q2 <;> simp [h1, h2, h3, oH]
def SaR (w : World) (a b : List Lk) (n gk : Nat) (iv : Value) (wr : World) : Prop := ∃ i : Nat, iv = .int .i64 i ∧ i ≤ n ∧ gk = n - i ∧ Hid (a.take i = b.take i) ∧ Hid (bW w wr)
open Classical in
theorem jw (A A2 : Option Addr) (n c n2 c2 B B2 : Nat) (a b : List Lk) (w : World) (ha : Sl w B 3 A n c (a.flatMap Lk.cells)) (hb : Sl w B2 3 A2 n2 c2 (b.flatMap Lk.cells)) (hB : B ≤ w.heap.size) (EU : B2 ≤ w.heap.size) :
 Calls prog 42 #[.slice A n c, .slice A2 n2 c2] w fun e w' => e = .returned (.bool (decide (a = b))) ∧ bW w w' := by
 have GV := iD (ha.len (fun _ => rfl) (by decide)); have NW := iD (hb.len (fun _ => rfl) (by decide));have HA := iD ha; have KC := iD hb;have hle := ha.le;have AP := hb.le;clear ha hb;by_cases hn : n = n2; rotate_left
 ·have q : ((n : Int) != (n2 : Int)) = true := by simp; omega
  have q2 : decide (n = n2) = false := by simpa using hn
  have HR : Hid (decide (a = b) = false) := by
   unfold Hid; rw [decide_eq_false_iff_not]; intro e; subst e; exact hn (GV.symm.trans NW)
  clear hn
  go_enter func42, ntmps42
  go_wp2_with fail
  go_ret;exact ⟨zF HR.symm, Below.refl _ _⟩
 subst hn
 go_enter func42, ntmps42
 go_wp2_with fail
 go_loopg [5] n (SaR w a b n)
 case atStart => exact ⟨0, rfl, Nat.zero_le _, rfl, rfl, Below.refl _ _⟩
 case round =>
  obtain ⟨i, rfl, hi, rfl, heq, AU⟩ := hrel;by_cases hlt : i < n
  ·obtain ⟨b0, off, d, p, q, rfl, Fe, hx, c0, c1, c2'⟩ := (HA.below AU hB).lock hlt;obtain ⟨b1, En, d1, p1, q1, rfl, AV, Dr, e0, e1, e2⟩ := (KC.below AU EU).lock hlt;have HX := iD hx; have Jt := iD Dr;have BK : Hid (wr.cell? ⟨b0, off + i * 3, none⟩ = some (.int .i64 d) ∧ wr.cell? ⟨b0, off + i * 3 + 1, none⟩ = some (.int .i64 p) ∧ wr.cell? ⟨b0, off + i * 3 + 2, none⟩ = some (.int .i64 q) ∧ wr.cell? ⟨b1, En + i * 3, none⟩ = some (.int .i64 d1) ∧ wr.cell? ⟨b1, En + i * 3 + 1, none⟩ = some (.int .i64 p1) ∧ wr.cell? ⟨b1, En + i * 3 + 2, none⟩ = some (.int .i64 q1)) := ⟨c0, c1, c2', e0, e1, e2⟩;have Og := fun W => mj d p q d1 p1 q1 W
   clear hx Dr c0 c1 c2' e0 e1 e2;rcases hee : oH ⟨d, p, q⟩ ⟨d1, p1, q1⟩ with _ | _
   ·have HR : Hid (decide (a = b) = false) := by
     unfold Hid; rw [decide_eq_false_iff_not]; intro e; subst e;have := HX.symm.trans Jt.out;injection this with this;rw [(xo _ _).2 this] at hee; cases hee
    rw [hee] at Og;clear hee;simp only [Bool.not_false] at Og;go_upto_region 6 with (fail);refine fv (fun W' => W'.cell? ⟨b0, off + i * 3, none⟩ = some (.int .i64 d) ∧ W'.cell? ⟨b0, off + i * 3 + 1, none⟩ = some (.int .i64 p) ∧ W'.cell? ⟨b0, off + i * 3 + 2, none⟩ = some (.int .i64 q) ∧ W'.cell? ⟨b1, En + i * 3, none⟩ = some (.int .i64 d1) ∧ W'.cell? ⟨b1, En + i * 3 + 1, none⟩ = some (.int .i64 p1) ∧ W'.cell? ⟨b1, En + i * 3 + 2, none⟩ = some (.int .i64 q1)) [] ?_ fun AA => ?_
    ·exact BK.out
    try dsimp only at AA
    refine tk 0 17 (mf 9 1) AA ?_;refine tk 1 18 (mf 9 2) AA ?_;refine tk 2 19 (mf 9 3) AA ?_;refine tk 3 20 (mf 9 4) AA ?_;refine tk 4 21 (mf 9 5) AA ?_;refine tk 5 22 (mf 9 6) AA ?_;refine tk 6 23 (mf 9 7) AA ?_;refine tk 7 24 (mf 9 8) AA ?_;refine tk 8 25 (mf 9 9) AA ?_;refine tK ?_;clear AA
    go_wp2_with fail
    go_ret;exact ⟨zF HR.symm, AU.drew⟩
   ·have Eu : Hid (a.take (i + 1) = b.take (i + 1)) := by
     unfold Hid; rw [zP HX.out, zP Jt.out, heq.out, (xo _ _).1 hee]
    rw [hee] at Og;clear hee;simp only [Bool.not_true] at Og;go_upto_region 6 with (fail);refine fv (fun W' => W'.cell? ⟨b0, off + i * 3, none⟩ = some (.int .i64 d) ∧ W'.cell? ⟨b0, off + i * 3 + 1, none⟩ = some (.int .i64 p) ∧ W'.cell? ⟨b0, off + i * 3 + 2, none⟩ = some (.int .i64 q) ∧ W'.cell? ⟨b1, En + i * 3, none⟩ = some (.int .i64 d1) ∧ W'.cell? ⟨b1, En + i * 3 + 1, none⟩ = some (.int .i64 p1) ∧ W'.cell? ⟨b1, En + i * 3 + 2, none⟩ = some (.int .i64 q1)) [] ?_ fun AA => ?_
    ·exact BK.out
    try dsimp only at AA
    refine tk 0 17 (mf 9 1) AA ?_;refine tk 1 18 (mf 9 2) AA ?_;refine tk 2 19 (mf 9 3) AA ?_;refine tk 3 20 (mf 9 4) AA ?_;refine tk 4 21 (mf 9 5) AA ?_;refine tk 5 22 (mf 9 6) AA ?_;refine tk 6 23 (mf 9 7) AA ?_;refine tk 7 24 (mf 9 8) AA ?_;refine tk 8 25 (mf 9 9) AA ?_;refine tK ?_;clear AA
    go_wp2_with fail
    go_roundg (n - (i + 1))
    ·exact ⟨i + 1, by go_num, by omega, rfl, Eu, AU.drew⟩
    omega
  ·obtain rfl : i = n := by omega
   have Cw : decide (i < i) = false := by simp
   have HR : Hid (decide (a = b) = true) := by
    unfold Hid; rw [decide_eq_true_iff];have := heq.out
    rwa [List.take_of_length_le (by rw [GV.out]; exact Nat.le_refl _), List.take_of_length_le (by rw [NW.out]; exact Nat.le_refl _)] at this
   go_wp2_with fail
   go_ret;exact ⟨zF HR.symm, AU⟩
end
section
variable {P : Program} {ops : Array Oper} {A : Act} {L : List (Nat × Value)} {n : Nat} {oi : Oper}
end
def yr (u : Int) : Int → List Int → Bool
 | _, [] => true
 | p, x :: t => decide (p < x) && decide (x < u) && yr u x t
def vt : Int → List Int → Int
 | p, [] => p
 | _, x :: t => vt x t
theorem uN (u x : Int) : ∀ (p : Int) (l : List Int), yr u p (l ++ [x]) = (yr u p l && decide (vt p l < x) && decide (x < u))
 | p, [] => by
  show (decide (p < x) && decide (x < u) && true) = (true && decide (p < x) && decide (x < u))
  rw [Bool.and_true, Bool.true_and]
 | p, y :: t => by rw [List.cons_append, yr, uN u x y t, yr, vt]; simp only [Bool.and_assoc]
theorem qx : ∀ {p : Int} {l : List Int} (i : Nat), yr u p l = true → yr u p (l.take i) = true
 | _, [], i, _ => by simp [yr]
 | _, x :: t, 0, _ => by simp [yr]
 | p, x :: t, i + 1, h => by
  rw [yr, Bool.and_eq_true] at h;rw [List.take_succ_cons, yr, h.1, qx i h.2]; rfl
theorem ux (x : Int) : ∀ (p : Int) (l : List Int), vt p (l ++ [x]) = x
 | _, [] => rfl
 | _, y :: t => ux x y t
theorem lI {p : Int} (h : l[i]? = some x) : vt p (l.take (i + 1)) = x := by rw [zP h, ux]
theorem nA (hx : l[i]? = some x) (h : vt (-1) (l.take i) < x → x < u → False) : yr u (-1) l = false := by
 rw [Bool.eq_false_iff];intro e;have := qx (i + 1) e;rw [zP hx, uN, Bool.and_eq_true, Bool.and_eq_true] at this;exact h (by simpa using this.1.2) (by simpa using this.2)
theorem iB (hx : l[i]? = some x) (hp : yr u (-1) (l.take i) = true) (h1 : vt (-1) (l.take i) < x) (h2 : x < u) : yr u (-1) (l.take (i + 1)) = true := by
 rw [zP hx, uN, hp, decide_eq_true h1, decide_eq_true h2]; rfl
def dV (w : World) (l : List Int) (u : Int) (n gk : Nat) (lv iv : Value) (wr : World) : Prop := ∃ i : Nat, lv = .int .i64 (vt (-1) (l.take i)) ∧ iv = .int .i64 i ∧ i ≤ n ∧ gk = n - i ∧ wr = w ∧ Hid (yr u (-1) (l.take i) = true)
theorem mq (A : Option Addr) (n c B : Nat) (l : List Int) (u : Int) (w : World) (hs : Sl w B 1 A n c (zE l)) :
 Calls prog 136 #[.slice A n c, .int .i64 u] w fun e w' => e = .returned (.bool (yr u (-1) l)) ∧ w = w' := by
 have hle := hs.le;have HL := iD (hs.len (fun _ => rfl) (by decide));have HS := iD hs;clear hs
 go_enter func136, ntmps136
 go_wp2_with fail
 go_loopg [5, 11] n (dV w l u n)
 case atStart => exact ⟨0, rfl, rfl, Nat.zero_le _, rfl, rfl, rfl⟩
 case round =>
  obtain ⟨i, rfl, rfl, hi, rfl, rfl, hR⟩ := hrel;by_cases hlt : i < n
  ·obtain ⟨b, off, x, rfl, hb, hx, hc⟩ := HS.at1 hlt;have HX := iD hx;have HT : Hid (vt (-1) (l.take (i + 1)) = x) := lI hx;obtain ⟨la, IE⟩ := eX (vt (-1) (l.take i));rw [← IE];have GV := iD IE;clear hx IE;by_cases h1 : x ≤ la
   ·have q1 : decide (x ≤ la) = true := by simpa using h1
    have HF : Hid (yr u (-1) l = false) := nA HX fun h _ => by rw [← GV.out] at h; omega
    clear h1
    go_wp2_with fail
    go_ret;exact ⟨zF HF.symm, rfl⟩
   have q1 : decide (x ≤ la) = false := by simpa using h1
   by_cases h2 : u ≤ x
   ·have q2 : decide (u ≤ x) = true := by simpa using h2
    have HF : Hid (yr u (-1) l = false) := nA HX fun _ h => by omega
    clear h1 h2
    go_wp2_with fail
    go_ret;exact ⟨zF HF.symm, rfl⟩
   have q2 : decide (u ≤ x) = false := by simpa using h2
   have HN : Hid (yr u (-1) (l.take (i + 1)) = true) := iB HX hR (by rw [← GV.out]; omega) (by omega);clear h1 h2
   go_wp2_with fail
   go_roundg (n - (i + 1))
   ·exact ⟨i + 1, by rw [HT.out], by go_num, by omega, rfl, rfl, HN⟩
   omega
  ·obtain rfl : i = n := by omega
   have Cw : decide (i < i) = false := by simp
   have HF : Hid (yr u (-1) l = true) := by have := hR.out; rw [List.take_of_length_le (by rw [HL.out]; exact Nat.le_refl _)] at this; exact this
   go_wp2_with fail
   go_ret;exact ⟨zF HF.symm, rfl⟩
def za (u v : Nat → Value) : List (Nat × Nat) → Nat → List Value → List Value
 | [], _, fr => fr
 | _ :: _, _, [] => []
 | (0, 0) :: rs, i, x :: fr => x :: za u v rs (i + 1) fr
 | (n + 1, 0) :: rs, i, x :: fr => x :: za u v ((n, 0) :: rs) (i + 1) fr
 | (0, 1) :: rs, i, _ :: fr => u i :: za u v rs (i + 1) fr
 | (n + 1, 1) :: rs, i, _ :: fr => u i :: za u v ((n, 1) :: rs) (i + 1) fr
 | (_, j + 2) :: rs, i, _ :: fr => v j :: za u v rs (i + 1) fr
def gt : List Value → Nat → Value
 | [], _ => undef
 | x :: _, 0 => x
 | _ :: xs, n + 1 => gt xs n
section
variable {P : Program} {Q : Exit → Act → World → Prop} {w : World} {c : Code} {fr fr' : List Value} {k n₀ : Nat}
def v1 (p : Value) : Nat → Value := fun _ => p
def wW (rel : Nat → Value → World → Prop) (rs : List (Nat × Nat)) (fr : List Value) (k : Nat) (a : Act) (w : World) : Prop := ∃ u p, rel k p w ∧ a = ⟨(za u (v1 p) rs 0 fr).toArray, []⟩
theorem xY (rs : List (Nat × Nat)) (s1 : Nat) (n₀ : Nat) (rel : Nat → Value → World → Prop) (h₀ : rel n₀ (gt fr s1) w) (hv : za (gt fr) (v1 (gt fr s1)) rs 0 fr = fr)
 (round : ∀ u p n w a, rel n p w → a = ⟨(za u (v1 p) rs 0 fr).toArray, []⟩ → ∀ (J : Nat → Act → World → Prop) (K : Act → World → Prop), (∀ k a' w', wW rel rs fr k a' w' → J k a' w') → (∀ a' w', Handed J n a' w' → K a' w') → c.wp P (Exit.then K Q) a w) : (Code.loop c).wp P Q ⟨fr.toArray, []⟩ w :=
 wp_loop_ghost_k (wW rel rs fr) n₀ ⟨_, _, h₀, by rw [hv]⟩ fun n a w ⟨u, p, h, ha⟩ J K hJ hK => round u p n w a h ha J K hJ hK
theorem wW.back {rel : Nat → Value → World → Prop} {rs : List (Nat × Nat)} (s1 : Nat) (h : rel k (gt fr' s1) w) (hv : za (gt fr') (v1 (gt fr' s1)) rs 0 fr = fr') : wW rel rs fr k ⟨fr'.toArray, []⟩ w := ⟨_, _, h, by rw [hv]⟩
def v2 (p q : Value) : Nat → Value
 | 0 => p
 | _ => q
def oS (rel : Nat → Value → Value → World → Prop) (rs : List (Nat × Nat)) (fr : List Value) (k : Nat) (a : Act) (w : World) : Prop := ∃ u p q, rel k p q w ∧ a = ⟨(za u (v2 p q) rs 0 fr).toArray, []⟩
theorem vY (rs : List (Nat × Nat)) (s1 s2 : Nat) (n₀ : Nat) (rel : Nat → Value → Value → World → Prop) (h₀ : rel n₀ (gt fr s1) (gt fr s2) w) (hv : za (gt fr) (v2 (gt fr s1) (gt fr s2)) rs 0 fr = fr)
 (round : ∀ u p q n w a, rel n p q w → a = ⟨(za u (v2 p q) rs 0 fr).toArray, []⟩ → ∀ (J : Nat → Act → World → Prop) (K : Act → World → Prop), (∀ k a' w', oS rel rs fr k a' w' → J k a' w') → (∀ a' w', Handed J n a' w' → K a' w') → c.wp P (Exit.then K Q) a w) : (Code.loop c).wp P Q ⟨fr.toArray, []⟩ w :=
 wp_loop_ghost_k (oS rel rs fr) n₀ ⟨_, _, _, h₀, by rw [hv]⟩ fun n a w ⟨u, p, q, h, ha⟩ J K hJ hK => round u p q n w a h ha J K hJ hK
theorem oS.back {rel : Nat → Value → Value → World → Prop} {rs : List (Nat × Nat)} (s1 s2 : Nat) (h : rel k (gt fr' s1) (gt fr' s2) w) (hv : za (gt fr') (v2 (gt fr' s1) (gt fr' s2)) rs 0 fr = fr') : oS rel rs fr k ⟨fr'.toArray, []⟩ w := ⟨_, _, _, h, by rw [hv]⟩
def v3 (p q r : Value) : Nat → Value
 | 0 => p
 | 1 => q
 | _ => r
def lh (rel : Nat → Value → Value → Value → World → Prop) (rs : List (Nat × Nat)) (fr : List Value) (k : Nat) (a : Act) (w : World) : Prop := ∃ u p q r, rel k p q r w ∧ a = ⟨(za u (v3 p q r) rs 0 fr).toArray, []⟩
theorem mT (rs : List (Nat × Nat)) (s1 s2 s3 : Nat) (n₀ : Nat) (rel : Nat → Value → Value → Value → World → Prop) (h₀ : rel n₀ (gt fr s1) (gt fr s2) (gt fr s3) w) (hv : za (gt fr) (v3 (gt fr s1) (gt fr s2) (gt fr s3)) rs 0 fr = fr)
 (round : ∀ u p q r n w a, rel n p q r w → a = ⟨(za u (v3 p q r) rs 0 fr).toArray, []⟩ → ∀ (J : Nat → Act → World → Prop) (K : Act → World → Prop), (∀ k a' w', lh rel rs fr k a' w' → J k a' w') → (∀ a' w', Handed J n a' w' → K a' w') → c.wp P (Exit.then K Q) a w) : (Code.loop c).wp P Q ⟨fr.toArray, []⟩ w :=
 wp_loop_ghost_k (lh rel rs fr) n₀ ⟨_, _, _, _, h₀, by rw [hv]⟩ fun n a w ⟨u, p, q, r, h, ha⟩ J K hJ hK => round u p q r n w a h ha J K hJ hK
theorem lh.back {rel : Nat → Value → Value → Value → World → Prop} {rs : List (Nat × Nat)} (s1 s2 s3 : Nat) (h : rel k (gt fr' s1) (gt fr' s2) (gt fr' s3) w) (hv : za (gt fr') (v3 (gt fr' s1) (gt fr' s2) (gt fr' s3)) rs 0 fr = fr') : lh rel rs fr k ⟨fr'.toArray, []⟩ w := ⟨_, _, _, _, h, by rw [hv]⟩
def v4 (p q r t : Value) : Nat → Value
 | 0 => p
 | 1 => q
 | 2 => r
 | _ => t
def dE (rel : Nat → Value → Value → Value → Value → World → Prop) (rs : List (Nat × Nat)) (fr : List Value) (k : Nat) (a : Act) (w : World) : Prop := ∃ u p q r t, rel k p q r t w ∧ a = ⟨(za u (v4 p q r t) rs 0 fr).toArray, []⟩
theorem dE.back {rel : Nat → Value → Value → Value → Value → World → Prop} {rs : List (Nat × Nat)} (s1 s2 s3 s4 : Nat) (h : rel k (gt fr' s1) (gt fr' s2) (gt fr' s3) (gt fr' s4) w) (hv : za (gt fr') (v4 (gt fr' s1) (gt fr' s2) (gt fr' s3) (gt fr' s4)) rs 0 fr = fr') : dE rel rs fr k ⟨fr'.toArray, []⟩ w := ⟨_, _, _, _, _, h, by rw [hv]⟩
def dM (R : Value → World → Prop) (rs : List (Nat × Nat)) (fr : List Value) (a : Act) (w : World) : Prop := ∃ u p, R p w ∧ a = ⟨(za u (v1 p) rs 0 fr).toArray, []⟩
theorem dM.back {R : Value → World → Prop} {rs : List (Nat × Nat)} (s1 : Nat) (h : R (gt fr' s1) w) (hv : za (gt fr') (v1 (gt fr' s1)) rs 0 fr = fr') : dM R rs fr ⟨fr'.toArray, []⟩ w := ⟨_, _, h, by rw [hv]⟩
def lj (R : Value → Value → World → Prop) (rs : List (Nat × Nat)) (fr : List Value) (a : Act) (w : World) : Prop := ∃ u p q, R p q w ∧ a = ⟨(za u (v2 p q) rs 0 fr).toArray, []⟩
theorem kc {s : Code} {K : Act → World → Prop} {Q' : Exit → Act → World → Prop} (rs : List (Nat × Nat)) (R : Value → Value → World → Prop)
 (rest : ∀ u p q w a, R p q w → a = ⟨(za u (v2 p q) rs 0 fr).toArray, []⟩ → K a w)
 (first : ∀ (J K' : Act → World → Prop), (∀ a' w', lj R rs fr a' w' → J a' w') → (∀ a' w', Met J a' w' → K' a' w') → s.wp P (Exit.then K' Q') ⟨fr.toArray, []⟩ w) : s.wp P (Exit.then K Q') ⟨fr.toArray, []⟩ w :=
 wp_cut (lj R rs fr) (fun a w ⟨u, p, q, h, ha⟩ => rest u p q w a h ha) first
theorem lj.back {R : Value → Value → World → Prop} {rs : List (Nat × Nat)} (s1 s2 : Nat) (h : R (gt fr' s1) (gt fr' s2) w) (hv : za (gt fr') (v2 (gt fr' s1) (gt fr' s2)) rs 0 fr = fr') : lj R rs fr ⟨fr'.toArray, []⟩ w := ⟨_, _, _, h, by rw [hv]⟩
def dL (R : Value → Value → Value → World → Prop) (rs : List (Nat × Nat)) (fr : List Value) (a : Act) (w : World) : Prop := ∃ u p q r, R p q r w ∧ a = ⟨(za u (v3 p q r) rs 0 fr).toArray, []⟩
theorem dL.back {R : Value → Value → Value → World → Prop} {rs : List (Nat × Nat)} (s1 s2 s3 : Nat) (h : R (gt fr' s1) (gt fr' s2) (gt fr' s3) w) (hv : za (gt fr') (v3 (gt fr' s1) (gt fr' s2) (gt fr' s3)) rs 0 fr = fr') : dL R rs fr ⟨fr'.toArray, []⟩ w := ⟨_, _, _, _, h, by rw [hv]⟩
def dK (R : Value → Value → Value → Value → World → Prop) (rs : List (Nat × Nat)) (fr : List Value) (a : Act) (w : World) : Prop := ∃ u p q r t, R p q r t w ∧ a = ⟨(za u (v4 p q r t) rs 0 fr).toArray, []⟩
theorem dK.back {R : Value → Value → Value → Value → World → Prop} {rs : List (Nat × Nat)} (s1 s2 s3 s4 : Nat) (h : R (gt fr' s1) (gt fr' s2) (gt fr' s3) (gt fr' s4) w) (hv : za (gt fr') (v4 (gt fr' s1) (gt fr' s2) (gt fr' s3) (gt fr' s4)) rs 0 fr = fr') : dK R rs fr ⟨fr'.toArray, []⟩ w := ⟨_, _, _, _, _, h, by rw [hv]⟩
end
end Go.Proofs.YtkkobemhbicjgaaGreatDoor
