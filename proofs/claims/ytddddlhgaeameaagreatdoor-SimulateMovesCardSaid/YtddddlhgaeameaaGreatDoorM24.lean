import Derived.Test.YtddddlhgaeameaaGreatDoorM23
import Derived.Test.YtddddlhgaeameaaGreatDoorM12
import Derived.Shelf.SlSortCmp.InsertionK
set_option maxRecDepth 100000
set_option maxHeartbeats 8000000
namespace Go.Proofs.YtddddlhgaeameaaGreatDoor
section
open Go.RowKit
def zg (ns : List Nd) (ds : List Dv) (ls : List Lk) (k : Lk) : Int := if zO ns ds ls ≠ 0 then zO ns ds ls else if zv ds k ≠ 0 then zv ds k else if yh ls k.key = true then 4 else if yY ls k = true then 18 else if ls.length = 128 then 1 else 0
def qQ (w : World) (ns : List Nd) (ds : List Dv) (ls : List Lk) (k : Lk) (e : Ending) (w' : World) : Prop :=
 (zg ns ds ls k ≠ 0 ∧ e = .returned (.tuple #[.slice none 0 0, .int .i64 (zg ns ds ls k)]) ∨ zg ns ds ls k = 0 ∧ ∃ (A : Option Addr) (c : Nat), e = .returned (.tuple #[.slice A (ls.length + 1) c, .int .i64 0]) ∧ Hid (zt w' w.heap.size A (ls.length + 1) c (xw k ls))) ∧ Hid (Below w.heap.size w w')
theorem xA {ns : List Nd} {ds : List Dv} {ls : List Lk} (h : zO ns ds ls = 0) : xq ds ls := by
 unfold zO at h
 split at h
 ·next hc => exact absurd h hc
 ·split at h
  ·omega
  ·exact jI (by omega) h
theorem ze {w w' : World} (h : w.grownBy w' (Value.slice none 0 0).ownBlock) : Below w.heap.size w w' := ⟨h.os, h.tape, h.output, h.size, fun i hi => h.block i hi (by simp [Value.ownBlock])⟩
theorem xS {w4 w5 w6 : World} {A1 : Option Addr} {j c1 : Nat} {xs : List Value} {o : Obj} {e : TypeId} {size : Nat} (h5 : w4.drew.grownBy w5 (Value.slice none 0 0).ownBlock) (ho : w5.ownsRow w4.heap.size e size (.slice A1 j c1) j xs) (h6 : (w5.alloc o).grownBy w6 (Value.slice A1 j c1).ownBlock) : Below w4.heap.size w4 w6 := by
 have h1 : Below w4.heap.size w4 w5 := (Below.refl _ _).drew.trans (ze h5)
 have h2 := h1.alloc h1.size o
 exact h2.trans ⟨h6.os, h6.tape, h6.output, h6.size, fun t ht => h6.block t (by have := h2.size; omega) (fun e => by have := (ho.lt t e.symm).1; omega)⟩
theorem xr {w4 w5 : World} {o : Obj} (h5 : (w4.alloc o).drew.grownBy w5 (Value.slice none 0 0).ownBlock) : Below w4.heap.size w4 w5 := by
 have h1 : Below w4.heap.size w4 (w4.alloc o).drew := ((Below.refl _ _).alloc lR o).drew
 exact h1.trans ((ze h5).mono (by simp))
theorem yr {w4 w5 w6 : World} {A1 : Option Addr} {j c1 : Nat} {xs : List Value} {o : Obj} {e : TypeId} {size : Nat} (h5 : (w4.alloc o).drew.grownBy w5 (Value.slice none 0 0).ownBlock) (ho : w5.ownsRow w4.heap.size e size (.slice A1 j c1) j xs) (h6 : w5.grownBy w6 (Value.slice A1 j c1).ownBlock) : Below w4.heap.size w4 w6 := by
 have h2 := xr h5
 exact h2.trans ⟨h6.os, h6.tape, h6.output, h6.size, fun t ht => h6.block t (by have := h2.size; omega) (fun e => by have := (ho.lt t e.symm).1; omega)⟩
theorem zn {W : World} {p : Addr} {v : Value} (o : Obj) (h : W.cell? p = some v) : (W.alloc o).cell? p = some v := (World.cell?_alloc_lt W o p (ws h)).trans h
theorem sO {p : Lk → Bool} : ∀ {l : List Lk} {i : Nat}, (∀ x ∈ l.take i, p x = true) → (∀ x, l[i]? = some x → p x = false) → l.takeWhile p = l.take i ∧ l.dropWhile p = l.drop i
 | [], i, _, _ => by simp
 | x :: l, 0, _, h => by
  have := h x rfl
  simp [this]
 | x :: l, i + 1, h1, h2 => by
  have hx := h1 x (by simp)
  obtain ⟨a, b⟩ := sO (p := p) (l := l) (i := i) (fun y hy => h1 y (by simp [hy])) (fun y hy => h2 y (by simpa using hy))
  simp [hx, a, b]
structure rc (w : World) (N K : Array Value) (wr : World) : Prop where
 bn : Blk wr w.heap.size 26 N
 bk : Blk wr (w.heap.size + 1) 87 K
 bl : Below w.heap.size w wr
theorem rc.later {w wr wr' : World} {N K : Array Value} (h : rc w N K wr) (hb : Below wr.heap.size wr wr') : rc w N K wr' := ⟨h.bn.below hb h.bn.lt, h.bk.below hb h.bk.lt, h.bl.trans (hb.mono h.bl.size)⟩
theorem rc.drew {w wr : World} {N K : Array Value} (h : rc w N K wr) : rc w N K wr.drew := h.later (Below.refl _ _).drew
def gH (w : World) (N K : Array Value) (ls : List Lk) (q : Int) (n gk : Nat) (iv : Value) (wr : World) : Prop := ∃ i : Nat, iv = .int .i64 i ∧ i ≤ n ∧ gk = n - i ∧ Hid (yh (ls.take i) q = false) ∧ Hid (rc w N K wr)
def gG (w : World) (N K : Array Value) (ls : List Lk) (k : Lk) (n gk : Nat) (iv : Value) (wr : World) : Prop := ∃ i : Nat, iv = .int .i64 i ∧ i ≤ n ∧ gk = n - i ∧ Hid (∀ x ∈ ls.take i, zo x k = true) ∧ Hid (rc w N K wr)
theorem lW (An Ad Al : Option Addr) (nn cn nd cd c Bn Bd Bl : Nat) (ns : List Nd) (ds : List Dv) (ls : List Lk) (d p q : Int) (w : World) (hn : Sl w Bn 3 An nn cn (ns.flatMap Nd.cells)) (hd : Sl w Bd 5 Ad nd cd (ds.flatMap Dv.cells)) (hs : Sl w Bl 3 Al ls.length c (ls.flatMap Lk.cells)) (hBn : Bn ≤ w.heap.size) (hBd : Bd ≤ w.heap.size) (hBl : Bl ≤ w.heap.size)
 (hsn : ∀ x ∈ ns, x.name.size ≤ 9223372036854775807) (hsd : ∀ x ∈ ds, x.name.size ≤ 9223372036854775807) :
 Calls Tryz.prog 36 #[.agg #[.slice An nn cn, .slice Ad nd cd], .slice Al ls.length c, .agg #[.int .i64 d, .int .i64 p, .int .i64 q]] w (qQ w ns ds ls ⟨d, p, q⟩) := by
 obtain ⟨n, hnl⟩ : ∃ n, n = ls.length := ⟨_, rfl⟩
 rw [← hnl] at hs ⊢
 have HNL := iD hnl
 have HE : Hid (zg ns ds ls ⟨d, p, q⟩ = if zO ns ds ls ≠ 0 then zO ns ds ls else if zv ds ⟨d, p, q⟩ ≠ 0 then zv ds ⟨d, p, q⟩ else if yh ls q = true then 4 else if yY ls ⟨d, p, q⟩ = true then 18 else if n = 128 then 1 else 0) := by unfold Hid zg; rw [hnl]
 have hle := hs.le
 have HN := iD hn; have HD := iD hd; have HS := iD hs; have HSN := iD hsn; have HSD := iD hsd
 have HST : Hid (rc w #[.slice An nn cn, .slice Ad nd cd] #[.int .i64 d, .int .i64 p, .int .i64 q] ((w.alloc (.cells #[.slice An nn cn, .slice Ad nd cd] 26)).alloc (.cells #[.int .i64 d, .int .i64 p, .int .i64 q] 87))) :=
  ⟨(Blk.new _ _ _).alloc _, by have := Blk.new (w.alloc (.cells #[.slice An nn cn, .slice Ad nd cd] 26)) 87 #[.int .i64 d, .int .i64 p, .int .i64 q]; simpa using this, ((Below.refl _ _).alloc lR _).alloc (by simp) _⟩
 clear hn hd hs hsn hsd hnl
 go_enter Tryz.func36, Tryz.ntmps36
 go_wp2_with fail
 generalize World.alloc (World.alloc _ _) _ = W at *
 have hz := HST.out.bl.size
 refine (pV An Ad Al nn cn nd cd n c Bn Bd Bl ns ds ls W (HN.out.below HST.out.bl hBn) (HD.out.below HST.out.bl hBd) (HS.out.below HST.out.bl hBl) (by omega) (by omega) (by omega) HSN.out HSD.out).mono ?_
 rintro e w1 ⟨rfl, hb1⟩
 have HS1 := iD (HST.out.later hb1)
 clear hb1 HST hz
 by_cases h0 : zO ns ds ls = 0; rotate_left
 ·have q0 : (zO ns ds ls != 0) = true := by simpa using h0
  have HR : Hid (zg ns ds ls ⟨d, p, q⟩ = zO ns ds ls) := by unfold Hid; rw [HE.out, if_pos h0]
  have HNZ := iD h0
  clear h0
  go_wp2_with fail
  go_ret2
  exact ⟨.inl (by rw [HR.out]; exact ⟨HNZ.out, rfl⟩), HS1.out.bl⟩
 have HG := iD (xA h0)
 rw [h0]
 replace HE : Hid (zg ns ds ls ⟨d, p, q⟩ = if zv ds ⟨d, p, q⟩ ≠ 0 then zv ds ⟨d, p, q⟩ else if yh ls q = true then 4 else if yY ls ⟨d, p, q⟩ = true then 18 else if n = 128 then 1 else 0) := by unfold Hid; rw [HE.out, if_neg (by simp [h0])]
 clear h0
 have k0 := HS1.out.bn.c0
 have k1 := HS1.out.bn.c1
 have m0 := HS1.out.bk.c0
 have m1 := HS1.out.bk.c1
 have m2 := HS1.out.bk.c2
 have hz1 := HS1.out.bl.size
 go_wp2_with fail
 clear k0 k1 m0 m1 m2
 refine (sf An Ad nn cn nd cd Bd ds d p q w1 (HD.out.below HS1.out.bl hBd) (by omega)).mono ?_
 rintro e w2 ⟨rfl, hb2⟩
 have HS2 := iD (HS1.out.later hb2)
 clear hb2 HS1 hz1
 by_cases h1 : zv ds ⟨d, p, q⟩ = 0; rotate_left
 ·have q0 : (zv ds ⟨d, p, q⟩ != 0) = true := by simpa using h1
  have HR : Hid (zg ns ds ls ⟨d, p, q⟩ = zv ds ⟨d, p, q⟩) := by unfold Hid; rw [HE.out, if_pos h1]
  have HNZ := iD h1
  clear h1
  go_wp2_with fail
  go_ret2
  exact ⟨.inl (by rw [HR.out]; exact ⟨HNZ.out, rfl⟩), HS2.out.bl⟩
 rw [h1]
 replace HE : Hid (zg ns ds ls ⟨d, p, q⟩ = if yh ls q = true then 4 else if yY ls ⟨d, p, q⟩ = true then 18 else if n = 128 then 1 else 0) := by unfold Hid; rw [HE.out, if_neg (by simp [h1])]
 clear h1
 go_wp2_with fail
 go_loopg [10] n (gH w #[.slice An nn cn, .slice Ad nd cd] #[.int .i64 d, .int .i64 p, .int .i64 q] ls q n)
 case atStart => exact ⟨0, rfl, Nat.zero_le _, rfl, rfl, HS2⟩
 case round =>
  clear HS2
  obtain ⟨i, rfl, hi, rfl, hus, hst⟩ := hrel
  by_cases hlt : i < n
  ·obtain ⟨b, off, d1, p1, q1, rfl, hb, hx, c0, c1, c2⟩ := (HS.out.below hst.out.bl hBl).lock hlt
   have HX := iD hx
   have m2 := hst.out.bk.c2
   have HCS : Hid (wr.cell? ⟨b, off + i * 3 + 2, none⟩ = some (.int .i64 q1) ∧ wr.cell? ⟨w.heap.size + 1, 2, none⟩ = some (.int .i64 q)) := ⟨c2, m2⟩
   clear hx c0 c1 c2 m2
   by_cases hqq : q1 = q
   ·subst hqq
    have qd : (q1 == q1) = true := by simp
    have HUS : Hid (yh ls q1 = true) := by
     have := od (k := i + 1) (i := ls.length) (ls := ls) (q := q1) (by rw [vB HX.out hus.out]; simp) (by have := HNL.out; omega)
     rwa [List.take_length] at this
    have HR : Hid (zg ns ds ls ⟨d, p, q1⟩ = 4) := by unfold Hid; rw [HE.out, if_pos HUS.out]
    go_upto_region 10 with (fail)
    refine zF (S := fun W' => W'.cell? ⟨b, off + i * 3 + 2, none⟩ = some (.int .i64 q1) ∧ W'.cell? ⟨w.heap.size + 1, 2, none⟩ = some (.int .i64 q1)) (J := []) (by kernel_rfl) ?_ (fun AA => ?_)
    ·exact HCS.out
    try dsimp only at AA
    refine tk 0 33 (mf 8 1) AA ?_
    refine tk 1 34 (mf 8 2) AA ?_
    refine tk 2 35 (mf 8 3) AA ?_
    refine tk 3 36 (mf 8 4) AA ?_
    refine tk 4 37 (mf 8 5) AA ?_
    refine tk 5 38 (mf 8 6) AA ?_
    refine tk 6 39 (mf 8 7) AA ?_
    refine tk 7 40 (mf 8 8) AA ?_
    refine zC (by kernel_rfl) ?_ _
    clear AA
    go_wp2_with fail
    go_ret2
    exact ⟨.inl (by rw [HR.out]; exact ⟨by decide, rfl⟩), hst.out.drew.bl⟩
   ·have qd : (q1 == q) = false := by simpa using hqq
    have HO2 : Hid (yh (ls.take (i + 1)) q = false) := by unfold Hid; rw [vB HX.out hus.out]; simpa using hqq
    clear hqq
    go_upto_region 10 with (fail)
    refine zF (S := fun W' => W'.cell? ⟨b, off + i * 3 + 2, none⟩ = some (.int .i64 q1) ∧ W'.cell? ⟨w.heap.size + 1, 2, none⟩ = some (.int .i64 q)) (J := []) (by kernel_rfl) ?_ (fun AA => ?_)
    ·exact HCS.out
    try dsimp only at AA
    refine tk 0 33 (mf 8 1) AA ?_
    refine tk 1 34 (mf 8 2) AA ?_
    refine tk 2 35 (mf 8 3) AA ?_
    refine tk 3 36 (mf 8 4) AA ?_
    refine tk 4 37 (mf 8 5) AA ?_
    refine tk 5 38 (mf 8 6) AA ?_
    refine tk 6 39 (mf 8 7) AA ?_
    refine tk 7 40 (mf 8 8) AA ?_
    refine zC (by kernel_rfl) ?_ _
    clear AA
    go_wp2_with fail
    go_roundg (n - (i + 1))
    case rel => exact ⟨i + 1, by go_num, by omega, rfl, HO2, hst.out.drew⟩
    case measure => omega
  ·obtain rfl : i = n := by omega
   have hii : decide (i < i) = false := by simp
   have HUS : Hid (yh ls q = false) := by
    have := hus.out
    rw [List.take_of_length_le (by have := HNL.out; omega)] at this
    exact this
   replace HE : Hid (zg ns ds ls ⟨d, p, q⟩ = if yY ls ⟨d, p, q⟩ = true then 18 else if i = 128 then 1 else 0) := by unfold Hid; rw [HE.out, if_neg (by rw [HUS.out]; simp)]
   have m0 := hst.out.bk.c0
   have hzr := hst.out.bl.size
   go_wp2_with fail
   clear m0 hii
   refine (pU Al i c Bl ls d wr (HS.out.below hst.out.bl hBl) (by omega)).mono ?_
   rintro e w3 ⟨rfl, hb3⟩
   have HS3 := iD (hst.out.later hb3)
   clear hb3 hst hzr
   have hn128 : i ≤ 128 := by have := HG.out.1; have := HNL.out; omega
   have hcase : (wH ls d = none ∧ yY ls ⟨d, p, q⟩ = false) ∨ (wH ls d = some p ∧ yY ls ⟨d, p, q⟩ = false) ∨ (∃ pv, wH ls d = some pv ∧ pv ≠ p ∧ yY ls ⟨d, p, q⟩ = true) := by
    have h := kx HG.out ⟨d, p, q⟩
    simp only at h
    rcases hl : wH ls d with _ | pv
    ·rw [hl] at h; exact .inl ⟨rfl, h⟩
    ·rw [hl] at h
     by_cases hp : pv = p
     ·subst hp; exact .inr (.inl ⟨rfl, by rw [h]; simp⟩)
     ·exact .inr (.inr ⟨pv, rfl, hp, by rw [h]; simp [hp]⟩)
   unfold pq
   have m1 := HS3.out.bk.c1
   rcases hcase with ⟨hl, ho⟩ | ⟨hl, ho⟩ | ⟨pv, hl, hp, ho⟩
   rotate_left 2
   ·rw [hl]
    have HR : Hid (zg ns ds ls ⟨d, p, q⟩ = 18) := by unfold Hid; rw [HE.out, if_pos ho]
    have qp : (pv != p) = true := by simpa using hp
    clear hl hp ho
    simp only [Option.getD_some, Option.isSome_some]
    go_wp2_with fail
    go_ret2
    exact ⟨.inl (by rw [HR.out]; exact ⟨by decide, rfl⟩), HS3.out.bl⟩
   all_goals
    rw [hl]
    have HO := iD ho
    have HE2 : Hid (zg ns ds ls ⟨d, p, q⟩ = if i = 128 then 1 else 0) := by unfold Hid; rw [HE.out, if_neg (by rw [HO.out]; simp)]
    clear hl ho
    have qpp : (p != p) = false := by simp
    simp only [Option.getD_some, Option.isSome_some, Option.getD_none, Option.isSome_none]
    by_cases h128 : i = 128
    ·have HR : Hid (zg ns ds ls ⟨d, p, q⟩ = 1) := by unfold Hid; rw [HE2.out, if_pos h128]
     have q1 : decide ((128 : Int) ≤ (i : Int)) = true := by simp; omega
     have q2 : decide (128 ≤ i) = true := by simp; omega
     clear h128
     go_wp2_with fail
     go_ret2
     exact ⟨.inl (by rw [HR.out]; exact ⟨by decide, rfl⟩), HS3.out.bl⟩
    have HR : Hid (zg ns ds ls ⟨d, p, q⟩ = 0) := by unfold Hid; rw [HE2.out, if_neg h128]
    have q1 : decide ((128 : Int) ≤ (i : Int)) = false := by simp; omega
    have q2 : decide (128 ≤ i) = false := by simp; omega
    clear h128 HE HE2
    go_wp2_with fail
    clear m1 qpp q1 q2
    go_loopg [13] i (gG w #[.slice An nn cn, .slice Ad nd cd] #[.int .i64 d, .int .i64 p, .int .i64 q] ls ⟨d, p, q⟩ i)
    case atStart => exact ⟨0, rfl, Nat.zero_le _, rfl, (fun x hx => by simp at hx), HS3⟩
    case round =>
     clear HS3
     obtain ⟨j, rfl, hj, rfl, hal, hst⟩ := hrel
     by_cases hjt : j < i
     ·obtain ⟨b, off, d1, p1, q1, rfl, hb, hx, c0, c1, c2⟩ := (HS.out.below hst.out.bl hBl).lock hjt
      have HX := iD hx
      have HCS : Hid (wr.cell? ⟨b, off + j * 3, none⟩ = some (.int .i64 d1) ∧ wr.cell? ⟨b, off + j * 3 + 1, none⟩ = some (.int .i64 p1) ∧ wr.cell? ⟨b, off + j * 3 + 2, none⟩ = some (.int .i64 q1) ∧ wr.cell? ⟨w.heap.size + 1, 0, none⟩ = some (.int .i64 d) ∧ wr.cell? ⟨w.heap.size + 1, 1, none⟩ = some (.int .i64 p) ∧ wr.cell? ⟨w.heap.size + 1, 2, none⟩ = some (.int .i64 q)) := ⟨c0, c1, c2, hst.out.bk.cell 0, hst.out.bk.cell 1, hst.out.bk.cell 2⟩
      have HBE := iD (rJ ⟨d1, p1, q1⟩ ⟨d, p, q⟩ wr.drew)
      clear hx c0 c1 c2
      rcases hbb : zo ⟨d1, p1, q1⟩ ⟨d, p, q⟩ with _ | _
      ·rw [hbb] at HBE
       have HSTOP : Hid (∀ x, ls[j]? = some x → zo x ⟨d, p, q⟩ = false) := fun x hx => by rw [HX.out] at hx; injection hx with hx; subst hx; exact hbb
       clear hbb
       go_upto_region 18 with (fail)
       refine zF (S := fun W' => W'.cell? ⟨b, off + j * 3, none⟩ = some (.int .i64 d1) ∧ W'.cell? ⟨b, off + j * 3 + 1, none⟩ = some (.int .i64 p1) ∧ W'.cell? ⟨b, off + j * 3 + 2, none⟩ = some (.int .i64 q1) ∧ W'.cell? ⟨w.heap.size + 1, 0, none⟩ = some (.int .i64 d) ∧ W'.cell? ⟨w.heap.size + 1, 1, none⟩ = some (.int .i64 p) ∧ W'.cell? ⟨w.heap.size + 1, 2, none⟩ = some (.int .i64 q)) (J := []) (by kernel_rfl) ?_ (fun AA => ?_)
       ·exact HCS.out
       try dsimp only at AA
       refine tk 0 58 (mf 12 1) AA ?_
       refine tk 1 59 (mf 12 2) AA ?_
       refine tk 2 60 (mf 12 3) AA ?_
       refine tk 3 61 (mf 12 4) AA ?_
       refine tk 4 62 (mf 12 5) AA ?_
       refine tk 5 63 (mf 12 6) AA ?_
       refine tk 6 64 (mf 12 7) AA ?_
       refine tk 7 65 (mf 12 8) AA ?_
       refine tk 8 66 (mf 12 9) AA ?_
       refine tk 9 67 (mf 12 10) AA ?_
       refine tb 10 (mf 12 11) fun K hK => ?_
       (go_simp; refine HBE.out.mono ?_; rintro e w4 ⟨rfl, hb4⟩; go_simp)
       refine hK.out _ _ (fun _ => ?_) (fun AA' => ?_)
       ·exact ⟨zG hb4 HCS.out.1, zG hb4 HCS.out.2.1, zG hb4 HCS.out.2.2.1, zG hb4 HCS.out.2.2.2.1, zG hb4 HCS.out.2.2.2.2.1, zG hb4 HCS.out.2.2.2.2.2⟩
       replace AA := AA' rfl
       clear AA' hK K
       try dsimp only at AA
       refine tk 11 69 (mf 12 12) AA ?_
       refine zC (by kernel_rfl) ?_ _
       have HS4 := iD (hst.out.drew.later hb4)
       have hall := hal.out
       clear AA hb4 hst HCS HBE hal
       obtain ⟨hTW, hDW⟩ := sO (p := fun x => zo x ⟨d, p, q⟩) hall HSTOP.out
       have HINS : Hid (xw ⟨d, p, q⟩ ls = ls.take j ++ ⟨d, p, q⟩ :: ls.drop j) := by unfold Hid xw; rw [hTW, hDW]
       have HSL4 := iD (HS.out.below HS4.out.bl hBl)
       have hjc : j ≤ c := by omega
       have HSK := iD (HSL4.out.takeK (fun _ => rfl) (by decide) hj)
       have HSD := iD (HSL4.out.dropK (fun _ => rfl) (by decide) hj)
       have HBX : Hid (w4.cell? ⟨w.heap.size + 1, 0, none⟩ = some (.int .i64 d) ∧ w4.cell? ⟨w.heap.size + 1, 1, none⟩ = some (.int .i64 p) ∧ w4.cell? ⟨w.heap.size + 1, 2, none⟩ = some (.int .i64 q)) := ⟨HS4.out.bk.cell 0, HS4.out.bk.cell 1, HS4.out.bk.cell 2⟩
       have HCUT : Hid (∀ W, (Instr.sliceAt 27 (.slice (some ⟨b, off, none⟩) i c) (some (.int .i64 (j : Int))) none none).run Tryz.prog W = .ok (.slice (pC (some ⟨b, off, none⟩) c j 3) (i - j) (c - j)) W) := fun W => vk W _ _ _ _ hj
       clear hTW hDW hall HSTOP
       go_upto_region 20 with (fail)
       refine zF (S := fun W' => W'.cell? ⟨w.heap.size + 1, 0, none⟩ = some (.int .i64 d) ∧ W'.cell? ⟨w.heap.size + 1, 1, none⟩ = some (.int .i64 p) ∧ W'.cell? ⟨w.heap.size + 1, 2, none⟩ = some (.int .i64 q)) (J := []) (by kernel_rfl) ?_ (fun AA => ?_)
       ·exact HBX.out
       try dsimp only at AA
       refine tk 0 72 (mf 8 1) AA ?_
       refine tk 1 73 (mf 8 2) AA ?_
       refine tk 2 74 (mf 8 3) AA ?_
       refine tk 4 76 (ma 8 23) AA ?_
       refine xZ (i := 3) (k := 5) (mf 8 5) (ma 8 55) (by kernel_rfl) (by kernel_rfl) (by kernel_rfl) rfl rfl (fun K hK => ?_) (fun K hK => ?_)
       ·(refine yX (d := some 75) (by rfl) (by rfl) _ (.tmp 74) (by rfl) yc (by rfl) (World.ownsRow_nil _ w4.heap.size _ _) (by rfl) HSK.out (yt _) (by omega) (by omega) (by simp) ?_; intro A1 c1 w5 hown5 hgr5 hat5; simp only [Nat.zero_add, List.nil_append] at hown5 hgr5 hat5 ⊢)
        refine hK.out _ _ (fun _ => ?_) (fun AA' => ?_)
        ·exact ⟨zG (ze hgr5) HBX.out.1, zG (ze hgr5) HBX.out.2.1, zG (ze hgr5) HBX.out.2.2⟩
        replace AA := AA' rfl
        clear AA' hK K
        try dsimp only at AA
        refine tb 5 (mf 8 6) fun K hK => ?_
        go_simp
        refine hK.out _ _ (fun _ => ?_) (fun AA' => ?_)
        ·exact ⟨zn _ (zG (ze hgr5) HBX.out.1), zn _ (zG (ze hgr5) HBX.out.2.1), zn _ (zG (ze hgr5) HBX.out.2.2)⟩
        replace AA := AA' rfl
        clear AA' hK K
        try dsimp only at AA
        refine tb 6 (mf 8 7) fun K hK => ?_
        (refine yX (d := some 78) (by rfl) (by rfl) (.tmp 75) (.tmp 77) (by rfl) yc (by rfl) (World.ownsRow.alloc hown5 _) (by rfl) (Sl.newest (n := 1) (by simp) (by rfl) (by decide)) (by simp [Value.oneCell']) (by omega) (by omega) (by have := hgr5.size; simp at this ⊢; omega) ?_; intro A2 c2 w6 hown6 hgr6 hat6)
        refine hK.out _ _ (fun _ => ?_) (fun AA' => ?_)
        ·exact ⟨zG (xS hgr5 hown5 hgr6) HBX.out.1, zG (xS hgr5 hown5 hgr6) HBX.out.2.1, zG (xS hgr5 hown5 hgr6) HBX.out.2.2⟩
        replace AA := AA' rfl
        clear AA' hK K
        try dsimp only at AA
        refine tk 7 14 (mf 8 8) AA ?_
        refine zC (by kernel_rfl) ?_ _
        clear AA
        have HB46 : Hid (Below w4.heap.size w4 w6) := by first | exact xS hgr5 hown5 hgr6 | exact yr hgr5 hown5 hgr6
        have HO6 := iD hown6
        have HSD6 := iD (HSD.out.below HB46.out (by have := HS4.out.bl.size; omega))
        have hcut := HCUT.out
        have hz46 := HB46.out.size
        clear hown5 hgr5 hat5 hown6 hgr6 hat6
        go_wp2_with (at_builtin; go_must (refine zT rfl (.tmp 79) (.tmp 82) rfl yc (by rfl) HO6.out (by rfl) HSD6.out (yt _) (by omega) (by omega) (by omega) ?_; intro A3 c3 w7 hown7 hgr7 hat7; have HO7 := iD hown7; have HG7 := iD hgr7; clear hown7 hgr7 hat7))
        go_ret2
        have hlen : ls.length + 1 = j + 1 + (i - j) := by have := HNL.out; omega
        refine ⟨.inr ⟨HR.out, A3, c3, by rw [hlen]; rfl, ?_⟩, ?_⟩
        ·unfold Hid zt; rw [hlen, HINS.out]; rw [List.flatMap_append, List.flatMap_cons, ← List.append_assoc]; exact HO7.out.mono (by have := HS4.out.bl.size; omega)
        ·have h1 := HS4.out.bl.trans (HB46.out.mono HS4.out.bl.size); exact h1.trans ⟨HG7.out.os, HG7.out.tape, HG7.out.output, HG7.out.size, fun t ht => HG7.out.block t (by have := h1.size; omega) (fun e => by have := (HO6.out.lt t e.symm).1; have := HS4.out.bl.size; omega)⟩
       ·go_simp
        refine hK.out _ _ (fun _ => ?_) (fun AA' => ?_)
        ·exact ⟨zn _ HBX.out.1, zn _ HBX.out.2.1, zn _ HBX.out.2.2⟩
        replace AA := AA' rfl
        clear AA' hK K
        try dsimp only at AA
        refine tb 3 (mf 8 6) fun K hK => ?_
        (refine yX (d := some 75) (by rfl) (by rfl) _ (.tmp 74) (by rfl) yc (by rfl) (World.ownsRow_nil _ w4.heap.size _ _) (by rfl) (HSK.out.alloc (by have := HS4.out.bl.size; simp; omega) _) (yt _) (by omega) (by omega) (by simp) ?_; intro A1 c1 w5 hown5 hgr5 hat5; simp only [Nat.zero_add, List.nil_append] at hown5 hgr5 hat5 ⊢)
        refine hK.out _ _ (fun _ => ?_) (fun AA' => ?_)
        ·exact ⟨zG (xr hgr5) HBX.out.1, zG (xr hgr5) HBX.out.2.1, zG (xr hgr5) HBX.out.2.2⟩
        replace AA := AA' rfl
        clear AA' hK K
        try dsimp only at AA
        refine tb 6 (mf 8 7) fun K hK => ?_
        (refine yX (d := some 78) (by rfl) (by rfl) (.tmp 75) (.tmp 77) (by rfl) yc (by rfl) hown5 (by rfl) ((Sl.newest (w := w4.drew) (cs := #[.int .i64 d, .int .i64 p, .int .i64 q]) (T := 87) (n := 1) (size := 3) rfl (by rfl) (by decide)).below (ze hgr5) (by simp)) (by simp [Value.oneCell']) (by omega) (by omega) (by have := hgr5.size; simp at this ⊢; omega) ?_; intro A2 c2 w6 hown6 hgr6 hat6)
        refine hK.out _ _ (fun _ => ?_) (fun AA' => ?_)
        ·exact ⟨zG (yr hgr5 hown5 hgr6) HBX.out.1, zG (yr hgr5 hown5 hgr6) HBX.out.2.1, zG (yr hgr5 hown5 hgr6) HBX.out.2.2⟩
        replace AA := AA' rfl
        clear AA' hK K
        try dsimp only at AA
        refine tk 7 14 (mf 8 8) AA ?_
        refine zC (by kernel_rfl) ?_ _
        clear AA
        have HB46 : Hid (Below w4.heap.size w4 w6) := by first | exact xS hgr5 hown5 hgr6 | exact yr hgr5 hown5 hgr6
        have HO6 := iD hown6
        have HSD6 := iD (HSD.out.below HB46.out (by have := HS4.out.bl.size; omega))
        have hcut := HCUT.out
        have hz46 := HB46.out.size
        clear hown5 hgr5 hat5 hown6 hgr6 hat6
        go_wp2_with (at_builtin; go_must (refine zT rfl (.tmp 79) (.tmp 82) rfl yc (by rfl) HO6.out (by rfl) HSD6.out (yt _) (by omega) (by omega) (by omega) ?_; intro A3 c3 w7 hown7 hgr7 hat7; have HO7 := iD hown7; have HG7 := iD hgr7; clear hown7 hgr7 hat7))
        go_ret2
        have hlen : ls.length + 1 = j + 1 + (i - j) := by have := HNL.out; omega
        refine ⟨.inr ⟨HR.out, A3, c3, by rw [hlen]; rfl, ?_⟩, ?_⟩
        ·unfold Hid zt; rw [hlen, HINS.out]; rw [List.flatMap_append, List.flatMap_cons, ← List.append_assoc]; exact HO7.out.mono (by have := HS4.out.bl.size; omega)
        ·have h1 := HS4.out.bl.trans (HB46.out.mono HS4.out.bl.size); exact h1.trans ⟨HG7.out.os, HG7.out.tape, HG7.out.output, HG7.out.size, fun t ht => HG7.out.block t (by have := h1.size; omega) (fun e => by have := (HO6.out.lt t e.symm).1; have := HS4.out.bl.size; omega)⟩
      ·rw [hbb] at HBE
       have HAL : Hid (∀ x ∈ ls.take (j + 1), zo x ⟨d, p, q⟩ = true) := fun x hx => by
        rw [zV HX.out] at hx
        rcases List.mem_append.1 hx with h | h
        ·exact hal.out x h
        ·rw [List.mem_singleton.1 h]; exact hbb
       clear hbb
       go_upto_region 18 with (fail)
       refine zF (S := fun W' => W'.cell? ⟨b, off + j * 3, none⟩ = some (.int .i64 d1) ∧ W'.cell? ⟨b, off + j * 3 + 1, none⟩ = some (.int .i64 p1) ∧ W'.cell? ⟨b, off + j * 3 + 2, none⟩ = some (.int .i64 q1) ∧ W'.cell? ⟨w.heap.size + 1, 0, none⟩ = some (.int .i64 d) ∧ W'.cell? ⟨w.heap.size + 1, 1, none⟩ = some (.int .i64 p) ∧ W'.cell? ⟨w.heap.size + 1, 2, none⟩ = some (.int .i64 q)) (J := []) (by kernel_rfl) ?_ (fun AA => ?_)
       ·exact HCS.out
       try dsimp only at AA
       refine tk 0 58 (mf 12 1) AA ?_
       refine tk 1 59 (mf 12 2) AA ?_
       refine tk 2 60 (mf 12 3) AA ?_
       refine tk 3 61 (mf 12 4) AA ?_
       refine tk 4 62 (mf 12 5) AA ?_
       refine tk 5 63 (mf 12 6) AA ?_
       refine tk 6 64 (mf 12 7) AA ?_
       refine tk 7 65 (mf 12 8) AA ?_
       refine tk 8 66 (mf 12 9) AA ?_
       refine tk 9 67 (mf 12 10) AA ?_
       refine tb 10 (mf 12 11) fun K hK => ?_
       (go_simp; refine HBE.out.mono ?_; rintro e w4 ⟨rfl, hb4⟩; go_simp)
       refine hK.out _ _ (fun _ => ?_) (fun AA' => ?_)
       ·exact ⟨zG hb4 HCS.out.1, zG hb4 HCS.out.2.1, zG hb4 HCS.out.2.2.1, zG hb4 HCS.out.2.2.2.1, zG hb4 HCS.out.2.2.2.2.1, zG hb4 HCS.out.2.2.2.2.2⟩
       replace AA := AA' rfl
       clear AA' hK K
       try dsimp only at AA
       refine tk 11 69 (mf 12 12) AA ?_
       refine zC (by kernel_rfl) ?_ _
       have HS4 := iD (hst.out.drew.later hb4)
       clear AA hb4 hst HCS HBE hal
       go_wp2_with fail
       go_roundg (i - (j + 1))
       case rel => exact ⟨j + 1, by go_num, by omega, rfl, HAL, HS4⟩
       case measure => omega
     ·have hjj : decide (j < i) = false := by simpa using hjt
      have HSTOP : Hid (∀ x, ls[j]? = some x → zo x ⟨d, p, q⟩ = false) := fun x hx => by
       have := (List.getElem?_eq_some_iff.1 hx).1
       have := HNL.out
       omega
      go_upto_region 18 with (fail)
      refine zF (S := fun _ => True) (J := []) (by kernel_rfl) ?_ (fun AA => ?_)
      ·exact trivial
      try dsimp only at AA
      refine tk 0 58 (mf 12 1) AA ?_
      refine tk 1 59 (mf 12 2) AA ?_
      refine tk 2 60 (mf 12 3) AA ?_
      refine tk 3 61 (mf 12 4) AA ?_
      refine tk 4 62 (mf 12 5) AA ?_
      refine ts 5 63 (mf 12 6) AA ?_
      refine ts 6 64 (mf 12 7) AA ?_
      refine ts 7 65 (mf 12 8) AA ?_
      refine ts 8 66 (mf 12 9) AA ?_
      refine ts 9 67 (mf 12 10) AA ?_
      refine ts 10 68 (mf 12 11) AA ?_
      refine tk 11 69 (mf 12 12) AA ?_
      refine zC (by kernel_rfl) ?_ _
      have HS4 := iD hst.out.drew
      have hall := hal.out
      clear AA hst hal hjj
      generalize World.drew _ = w4 at *
      obtain ⟨hTW, hDW⟩ := sO (p := fun x => zo x ⟨d, p, q⟩) hall HSTOP.out
      have HINS : Hid (xw ⟨d, p, q⟩ ls = ls.take j ++ ⟨d, p, q⟩ :: ls.drop j) := by unfold Hid xw; rw [hTW, hDW]
      have HSL4 := iD (HS.out.below HS4.out.bl hBl)
      have hjc : j ≤ c := by omega
      have HSK := iD (HSL4.out.takeK (fun _ => rfl) (by decide) hj)
      have HSD := iD (HSL4.out.dropK (fun _ => rfl) (by decide) hj)
      have HBX : Hid (w4.cell? ⟨w.heap.size + 1, 0, none⟩ = some (.int .i64 d) ∧ w4.cell? ⟨w.heap.size + 1, 1, none⟩ = some (.int .i64 p) ∧ w4.cell? ⟨w.heap.size + 1, 2, none⟩ = some (.int .i64 q)) := ⟨HS4.out.bk.cell 0, HS4.out.bk.cell 1, HS4.out.bk.cell 2⟩
      have HCUT : Hid (∀ W, (Instr.sliceAt 27 (.slice Al i c) (some (.int .i64 (j : Int))) none none).run Tryz.prog W = .ok (.slice (pC Al c j 3) (i - j) (c - j)) W) := fun W => vk W _ _ _ _ hj
      clear hTW hDW hall HSTOP
      go_upto_region 20 with (fail)
      refine zF (S := fun W' => W'.cell? ⟨w.heap.size + 1, 0, none⟩ = some (.int .i64 d) ∧ W'.cell? ⟨w.heap.size + 1, 1, none⟩ = some (.int .i64 p) ∧ W'.cell? ⟨w.heap.size + 1, 2, none⟩ = some (.int .i64 q)) (J := []) (by kernel_rfl) ?_ (fun AA => ?_)
      ·exact HBX.out
      try dsimp only at AA
      refine tk 0 72 (mf 8 1) AA ?_
      refine tk 1 73 (mf 8 2) AA ?_
      refine tk 2 74 (mf 8 3) AA ?_
      refine tk 4 76 (ma 8 23) AA ?_
      refine xZ (i := 3) (k := 5) (mf 8 5) (ma 8 55) (by kernel_rfl) (by kernel_rfl) (by kernel_rfl) rfl rfl (fun K hK => ?_) (fun K hK => ?_)
      ·(refine yX (d := some 75) (by rfl) (by rfl) _ (.tmp 74) (by rfl) yc (by rfl) (World.ownsRow_nil _ w4.heap.size _ _) (by rfl) HSK.out (yt _) (by omega) (by omega) (by simp) ?_; intro A1 c1 w5 hown5 hgr5 hat5; simp only [Nat.zero_add, List.nil_append] at hown5 hgr5 hat5 ⊢)
       refine hK.out _ _ (fun _ => ?_) (fun AA' => ?_)
       ·exact ⟨zG (ze hgr5) HBX.out.1, zG (ze hgr5) HBX.out.2.1, zG (ze hgr5) HBX.out.2.2⟩
       replace AA := AA' rfl
       clear AA' hK K
       try dsimp only at AA
       refine tb 5 (mf 8 6) fun K hK => ?_
       go_simp
       refine hK.out _ _ (fun _ => ?_) (fun AA' => ?_)
       ·exact ⟨zn _ (zG (ze hgr5) HBX.out.1), zn _ (zG (ze hgr5) HBX.out.2.1), zn _ (zG (ze hgr5) HBX.out.2.2)⟩
       replace AA := AA' rfl
       clear AA' hK K
       try dsimp only at AA
       refine tb 6 (mf 8 7) fun K hK => ?_
       (refine yX (d := some 78) (by rfl) (by rfl) (.tmp 75) (.tmp 77) (by rfl) yc (by rfl) (World.ownsRow.alloc hown5 _) (by rfl) (Sl.newest (n := 1) (by simp) (by rfl) (by decide)) (by simp [Value.oneCell']) (by omega) (by omega) (by have := hgr5.size; simp at this ⊢; omega) ?_; intro A2 c2 w6 hown6 hgr6 hat6)
       refine hK.out _ _ (fun _ => ?_) (fun AA' => ?_)
       ·exact ⟨zG (xS hgr5 hown5 hgr6) HBX.out.1, zG (xS hgr5 hown5 hgr6) HBX.out.2.1, zG (xS hgr5 hown5 hgr6) HBX.out.2.2⟩
       replace AA := AA' rfl
       clear AA' hK K
       try dsimp only at AA
       refine tk 7 14 (mf 8 8) AA ?_
       refine zC (by kernel_rfl) ?_ _
       clear AA
       have HB46 : Hid (Below w4.heap.size w4 w6) := by first | exact xS hgr5 hown5 hgr6 | exact yr hgr5 hown5 hgr6
       have HO6 := iD hown6
       have HSD6 := iD (HSD.out.below HB46.out (by have := HS4.out.bl.size; omega))
       have hcut := HCUT.out
       have hz46 := HB46.out.size
       clear hown5 hgr5 hat5 hown6 hgr6 hat6
       go_wp2_with (at_builtin; go_must (refine zT rfl (.tmp 79) (.tmp 82) rfl yc (by rfl) HO6.out (by rfl) HSD6.out (yt _) (by omega) (by omega) (by omega) ?_; intro A3 c3 w7 hown7 hgr7 hat7; have HO7 := iD hown7; have HG7 := iD hgr7; clear hown7 hgr7 hat7))
       go_ret2
       have hlen : ls.length + 1 = j + 1 + (i - j) := by have := HNL.out; omega
       refine ⟨.inr ⟨HR.out, A3, c3, by rw [hlen]; rfl, ?_⟩, ?_⟩
       ·unfold Hid zt; rw [hlen, HINS.out]; rw [List.flatMap_append, List.flatMap_cons, ← List.append_assoc]; exact HO7.out.mono (by have := HS4.out.bl.size; omega)
       ·have h1 := HS4.out.bl.trans (HB46.out.mono HS4.out.bl.size); exact h1.trans ⟨HG7.out.os, HG7.out.tape, HG7.out.output, HG7.out.size, fun t ht => HG7.out.block t (by have := h1.size; omega) (fun e => by have := (HO6.out.lt t e.symm).1; have := HS4.out.bl.size; omega)⟩
      ·go_simp
       refine hK.out _ _ (fun _ => ?_) (fun AA' => ?_)
       ·exact ⟨zn _ HBX.out.1, zn _ HBX.out.2.1, zn _ HBX.out.2.2⟩
       replace AA := AA' rfl
       clear AA' hK K
       try dsimp only at AA
       refine tb 3 (mf 8 6) fun K hK => ?_
       (refine yX (d := some 75) (by rfl) (by rfl) _ (.tmp 74) (by rfl) yc (by rfl) (World.ownsRow_nil _ w4.heap.size _ _) (by rfl) (HSK.out.alloc (by have := HS4.out.bl.size; simp; omega) _) (yt _) (by omega) (by omega) (by simp) ?_; intro A1 c1 w5 hown5 hgr5 hat5; simp only [Nat.zero_add, List.nil_append] at hown5 hgr5 hat5 ⊢)
       refine hK.out _ _ (fun _ => ?_) (fun AA' => ?_)
       ·exact ⟨zG (xr hgr5) HBX.out.1, zG (xr hgr5) HBX.out.2.1, zG (xr hgr5) HBX.out.2.2⟩
       replace AA := AA' rfl
       clear AA' hK K
       try dsimp only at AA
       refine tb 6 (mf 8 7) fun K hK => ?_
       (refine yX (d := some 78) (by rfl) (by rfl) (.tmp 75) (.tmp 77) (by rfl) yc (by rfl) hown5 (by rfl) ((Sl.newest (w := w4.drew) (cs := #[.int .i64 d, .int .i64 p, .int .i64 q]) (T := 87) (n := 1) (size := 3) rfl (by rfl) (by decide)).below (ze hgr5) (by simp)) (by simp [Value.oneCell']) (by omega) (by omega) (by have := hgr5.size; simp at this ⊢; omega) ?_; intro A2 c2 w6 hown6 hgr6 hat6)
       refine hK.out _ _ (fun _ => ?_) (fun AA' => ?_)
       ·exact ⟨zG (yr hgr5 hown5 hgr6) HBX.out.1, zG (yr hgr5 hown5 hgr6) HBX.out.2.1, zG (yr hgr5 hown5 hgr6) HBX.out.2.2⟩
       replace AA := AA' rfl
       clear AA' hK K
       try dsimp only at AA
       refine tk 7 14 (mf 8 8) AA ?_
       refine zC (by kernel_rfl) ?_ _
       clear AA
       have HB46 : Hid (Below w4.heap.size w4 w6) := by first | exact xS hgr5 hown5 hgr6 | exact yr hgr5 hown5 hgr6
       have HO6 := iD hown6
       have HSD6 := iD (HSD.out.below HB46.out (by have := HS4.out.bl.size; omega))
       have hcut := HCUT.out
       have hz46 := HB46.out.size
       clear hown5 hgr5 hat5 hown6 hgr6 hat6
       go_wp2_with (at_builtin; go_must (refine zT rfl (.tmp 79) (.tmp 82) rfl yc (by rfl) HO6.out (by rfl) HSD6.out (yt _) (by omega) (by omega) (by omega) ?_; intro A3 c3 w7 hown7 hgr7 hat7; have HO7 := iD hown7; have HG7 := iD hgr7; clear hown7 hgr7 hat7))
       go_ret2
       have hlen : ls.length + 1 = j + 1 + (i - j) := by have := HNL.out; omega
       refine ⟨.inr ⟨HR.out, A3, c3, by rw [hlen]; rfl, ?_⟩, ?_⟩
       ·unfold Hid zt; rw [hlen, HINS.out]; rw [List.flatMap_append, List.flatMap_cons, ← List.append_assoc]; exact HO7.out.mono (by have := HS4.out.bl.size; omega)
       ·have h1 := HS4.out.bl.trans (HB46.out.mono HS4.out.bl.size); exact h1.trans ⟨HG7.out.os, HG7.out.tape, HG7.out.output, HG7.out.size, fun t ht => HG7.out.block t (by have := h1.size; omega) (fun e => by have := (HO6.out.lt t e.symm).1; have := HS4.out.bl.size; omega)⟩
end
section
open Go.RowKit
theorem ri (An Ad : Option Addr) (nn cn nd cd Bd : Nat) (ds : List Dv) (d p q : Int) (w : World) (hd : Sl w Bd 5 Ad nd cd (ds.flatMap Dv.cells)) (hBd : Bd ≤ w.heap.size) :
 Calls Tryz.prog 98 #[.agg #[.slice An nn cn, .slice Ad nd cd], .agg #[.int .i64 d, .int .i64 p, .int .i64 q]] w fun e w' => e = .returned (.int .i64 (zv ds ⟨d, p, q⟩)) ∧ Below w.heap.size w w' := by
 have HLD := iD (hd.len (fun _ => rfl) (by decide))
 have HE : Hid (zv ds ⟨d, p, q⟩ = if d < 0 then 8 else if (nd : Int) ≤ d then 8 else if su ds d = 5 then 6 else if p ≠ 1 ∧ p ≠ 2 then 10 else if q < 0 then 5 else if 65536 < q then 5 else 0) := by unfold Hid zv; rw [HLD.out]
 have HB : Hid (Below w.heap.size w ((w.alloc (.cells #[.slice An nn cn, .slice Ad nd cd] 26)).alloc (.cells #[.int .i64 d, .int .i64 p, .int .i64 q] 87))) := ((Below.refl _ _).alloc lR _).alloc (by simp) _
 have HD2 := iD ((hd.alloc hBd (.cells #[.slice An nn cn, .slice Ad nd cd] 26)).alloc (by simp; omega) (.cells #[.int .i64 d, .int .i64 p, .int .i64 q] 87))
 have hdm := hd.le
 clear hd
 by_cases h1 : d < 0
 ·have q1 : decide (d < 0) = true := by simpa using h1
  go_enter Tryz.func98, Tryz.ntmps98
  go_wp2_with fail
  go_ret
  exact ⟨zE (by rw [HE.out, if_pos h1]), HB.out⟩
 have q1 : decide (d < 0) = false := by simpa using h1
 by_cases h2 : (nd : Int) ≤ d
 ·have q2 : decide ((nd : Int) ≤ d) = true := by simpa using h2
  go_enter Tryz.func98, Tryz.ntmps98
  go_wp2_with fail
  go_ret
  exact ⟨zE (by rw [HE.out, if_neg (by omega), if_pos h2]), HB.out⟩
 obtain ⟨i, rfl⟩ := Int.eq_ofNat_of_zero_le (show 0 ≤ d by omega)
 have hin : i < nd := by omega
 have q2 : decide (nd ≤ i) = false := by simp; omega
 obtain ⟨b0, off, x, rfl, hb0, hx, hc⟩ := HD2.out.at (fun _ => rfl) (by decide) hin
 have HX := iD (ry hx)
 obtain ⟨nm, kd, xa, xb, co⟩ := x
 have c1 := hc 1 _ rfl
 clear hc hx
 by_cases h3 : kd = 5
 ·subst h3
  go_enter Tryz.func98, Tryz.ntmps98
  go_wp2_with fail
  go_ret
  exact ⟨zE (by rw [HE.out, if_neg (by omega), if_neg (by omega), HX.out, if_pos rfl]), HB.out⟩
 have q3 : (kd == 5) = false := by simpa using h3
 have HR : Hid (zv ds ⟨(i : Int), p, q⟩ = if p ≠ 1 ∧ p ≠ 2 then 10 else if q < 0 then 5 else if 65536 < q then 5 else 0) := by unfold Hid; rw [HE.out, if_neg (by omega), if_neg (by omega), HX.out, if_neg h3]
 clear h1 h2 h3 HE HX
 by_cases h4 : p = 1 ∨ p = 2
 ·have HR2 : Hid (zv ds ⟨(i : Int), p, q⟩ = if q < 0 then 5 else if 65536 < q then 5 else 0) := by unfold Hid; rw [HR.out, if_neg (by omega)]
  clear HR
  by_cases h5 : q < 0
  ·have q5 : decide (q < 0) = true := by simpa using h5
   rcases h4 with rfl | rfl
   all_goals
    go_enter Tryz.func98, Tryz.ntmps98
    go_wp2_with fail
    go_ret
    exact ⟨zE (by rw [HR2.out, if_pos h5]), HB.out⟩
  have q5 : decide (q < 0) = false := by simpa using h5
  by_cases h6 : 65536 < q
  ·have q6 : decide (65536 < q) = true := by simpa using h6
   rcases h4 with rfl | rfl
   all_goals
    go_enter Tryz.func98, Tryz.ntmps98
    go_wp2_with fail
    go_ret
    exact ⟨zE (by rw [HR2.out, if_neg (by omega), if_pos h6]), HB.out⟩
  have q6 : decide (65536 < q) = false := by simpa using h6
  rcases h4 with rfl | rfl
  all_goals
   go_enter Tryz.func98, Tryz.ntmps98
   go_wp2_with fail
   go_ret
   exact ⟨zE (by rw [HR2.out, if_neg (by omega), if_neg (by omega)]), HB.out⟩
 ·have p1 : (p != 1) = true := by simp; omega
  have p2 : (p != 2) = true := by simp; omega
  go_enter Tryz.func98, Tryz.ntmps98
  go_wp2_with fail
  go_ret
  exact ⟨zE (by rw [HR.out, if_pos (by omega)]), HB.out⟩
def PlR (w : World) (ls : List Lk) (d : Int) (n gk : Nat) (iv : Value) (wr : World) : Prop := ∃ i : Nat, iv = .int .i64 i ∧ i ≤ n ∧ gk = n - i ∧ Hid (∀ x ∈ ls.take i, x.dev ≠ d) ∧ Hid (Below w.heap.size w wr)
theorem nF (A : Option Addr) (n c B : Nat) (ls : List Lk) (d : Int) (w : World) (hs : Sl w B 3 A n c (ls.flatMap Lk.cells)) (hB : B ≤ w.heap.size) :
 Calls Tryz.prog 122 #[.slice A n c, .int .i64 d] w fun e w' => e = pq ls d ∧ Below w.heap.size w w' := by
 have HLN := iD (hs.len (fun _ => rfl) (by decide)); have HS := iD hs
 have hle := hs.le
 clear hs
 go_enter Tryz.func122, Tryz.ntmps122
 go_wp2_with fail
 go_loopg [10] n (PlR w ls d n)
 case atStart => exact ⟨0, rfl, Nat.zero_le _, rfl, (fun x hx => by simp at hx), Below.refl _ _⟩
 case round =>
  obtain ⟨i, rfl, hi, rfl, hno, hbl⟩ := hrel
  by_cases hlt : i < n
  ·obtain ⟨b, off, d1, p1, q1, rfl, hb, hx, c0, c1, c2⟩ := (HS.out.below hbl.out hB).lock hlt
   have HX := iD hx
   have HB2 : Hid (Below w.heap.size w (wr.alloc (.cells #[.int .i64 d1, .int .i64 p1, .int .i64 q1] 87))) := hbl.out.alloc hbl.out.size _
   clear hx
   by_cases hd : d1 = d
   ·subst hd
    have HR : Hid (wH ls d1 = some p1) := nr hno.out HX.out rfl
    have qq : (d1 == d1) = true := by simp
    go_wp2_with fail
    go_ret2
    exact ⟨by unfold pq; rw [HR.out]; rfl, HB2.out⟩
   ·have qq : (d1 == d) = false := by simpa using hd
    have HN : Hid (∀ x ∈ ls.take (i + 1), x.dev ≠ d) := fun x hx => by
     rw [zV HX.out] at hx
     rcases List.mem_append.1 hx with h | h
     ·exact hno.out x h
     ·rw [List.mem_singleton.1 h]; exact hd
    clear hd
    go_wp2_with fail
    go_roundg (n - (i + 1))
    case rel => exact ⟨i + 1, by go_num, by omega, rfl, HN, HB2⟩
    case measure => omega
  ·obtain rfl : i = n := by omega
   have hii : decide (i < i) = false := by simp
   have HR : Hid (wH ls d = none) := by
    have := hno.out
    rw [List.take_of_length_le (by rw [HLN.out]; exact Nat.le_refl _)] at this
    exact vo.2 this
   go_wp2_with fail
   go_ret2
   exact ⟨by unfold pq; rw [HR.out]; rfl, hbl.out⟩
theorem sQ (A : Option Addr) (n c B : Nat) (ls : List Lk) (q : Int) (w : World) (hs : Sl w B 3 A n c (ls.flatMap Lk.cells)) (hB : B ≤ w.heap.size) :
 Calls Tryz.prog 101 #[.slice A n c, .int .i64 q] w fun e w' => e = .returned (.bool (yh ls q)) ∧ Below w.heap.size w w' := by
 have HP : Hid (oV 129 #[.pointer (some ⟨w.heap.size, 0, none⟩)] (fun x => decide (x.key = q)) (w.alloc (.cells #[.int .i64 q] 3))) := by
  intro W d p q1 hb
  have hc : W.cell? ⟨w.heap.size, 0, none⟩ = some (.int .i64 q) := (hb.cell (p := ⟨w.heap.size, 0, none⟩) (by simp)).trans (by simp)
  have hBW : w.heap.size < W.heap.size := Nat.lt_of_lt_of_le (by simp) hb.size
  have hne : w.heap.size ≠ W.heap.size := by omega
  show Calls Tryz.prog 129 #[.agg #[.int .i64 d, .int .i64 p, .int .i64 q1], .pointer (some ⟨w.heap.size, 0, none⟩)] W _
  go_enter Tryz.func129, Tryz.ntmps129
  go_wp2_with fail
  go_ret
  exact ⟨zI (by by_cases h : q1 = q <;> simp [h]), hb.alloc hb.size _⟩
 have HI := iD (tV 129 #[.pointer (some ⟨w.heap.size, 0, none⟩)] (fun x => decide (x.key = q)) (enters_of Tryz.func129 (by kernel_rfl) rfl) A n c B ls _ (hs.alloc hB _) (by simp; omega) HP.out)
 have HB : Hid (Below w.heap.size w (w.alloc (.cells #[.int .i64 q] 3))) := (Below.refl _ _).alloc lR _
 clear hs HP
 go_enter Tryz.func101, Tryz.ntmps101
 go_wp2_with fail
 refine HI.out.mono ?_
 rintro e w1 ⟨rfl, hb⟩
 have HB2 := iD (HB.out.trans (hb.mono (by simp)))
 clear hb
 go_wp2_with fail
 go_ret
 exact ⟨rfl, HB2.out⟩
theorem tP (A : Option Addr) (n c B : Nat) (ls : List Lk) (d p q : Int) (w : World) (hs : Sl w B 3 A n c (ls.flatMap Lk.cells)) (hB : B ≤ w.heap.size) :
 Calls Tryz.prog 100 #[.slice A n c, .agg #[.int .i64 d, .int .i64 p, .int .i64 q]] w fun e w' => e = .returned (.bool (yY ls ⟨d, p, q⟩)) ∧ Below w.heap.size w w' := by
 have HP : Hid (oV 128 #[.pointer (some ⟨w.heap.size, 0, none⟩)] (tA ⟨d, p, q⟩) (w.alloc (.cells #[.int .i64 d, .int .i64 p, .int .i64 q] 87))) := by
  intro W d1 p1 q1 hb
  have hc0 : W.cell? ⟨w.heap.size, 0, none⟩ = some (.int .i64 d) := (hb.cell (p := ⟨w.heap.size, 0, none⟩) (by simp)).trans (by simp)
  have hc1 : W.cell? ⟨w.heap.size, 1, none⟩ = some (.int .i64 p) := (hb.cell (p := ⟨w.heap.size, 1, none⟩) (by simp)).trans (by simp)
  have hBW : w.heap.size < W.heap.size := Nat.lt_of_lt_of_le (by simp) hb.size
  have hne : w.heap.size ≠ W.heap.size := by omega
  have HBW : Hid (Below (w.alloc (.cells #[.int .i64 d, .int .i64 p, .int .i64 q] 87)).heap.size (w.alloc (.cells #[.int .i64 d, .int .i64 p, .int .i64 q] 87)) (W.alloc (.cells #[.int .i64 d1, .int .i64 p1, .int .i64 q1] 87))) := hb.alloc hb.size _
  clear hb
  show Calls Tryz.prog 128 #[.agg #[.int .i64 d1, .int .i64 p1, .int .i64 q1], .pointer (some ⟨w.heap.size, 0, none⟩)] W _
  by_cases h : d1 = d
  ·subst h
   have qd : (d1 == d1) = true := by simp
   go_enter Tryz.func128, Tryz.ntmps128
   go_wp2_with fail
   go_ret
   exact ⟨zI (by by_cases h : p1 = p <;> simp [h, tA]), HBW.out⟩
  ·have qd : (d1 == d) = false := by simpa using h
   have HR : Hid (tA ⟨d, p, q⟩ ⟨d1, p1, q1⟩ = false) := by unfold Hid; simp [tA, h]
   go_enter Tryz.func128, Tryz.ntmps128
   go_wp2_with fail
   go_ret
   exact ⟨zI HR.out.symm, HBW.out⟩
 have HI := iD (tV 128 #[.pointer (some ⟨w.heap.size, 0, none⟩)] (tA ⟨d, p, q⟩) (enters_of Tryz.func128 (by kernel_rfl) rfl) A n c B ls _ (hs.alloc hB _) (by simp; omega) HP.out)
 have HB : Hid (Below w.heap.size w (w.alloc (.cells #[.int .i64 d, .int .i64 p, .int .i64 q] 87))) := (Below.refl _ _).alloc lR _
 clear hs HP
 go_enter Tryz.func100, Tryz.ntmps100
 go_wp2_with fail
 refine HI.out.mono ?_
 rintro e w1 ⟨rfl, hb⟩
 have HB2 := iD (HB.out.trans (hb.mono (by simp)))
 clear hb
 go_wp2_with fail
 go_ret
 exact ⟨rfl, HB2.out⟩
end
section
open Go.RowKit
open Go.Sort (grow alloc_eq_grow)
theorem wK {W : World} {p : Addr} {v : Value} (o : Obj) (h : W.cell? p = some v) : (W.alloc o).cell? p = some v := (World.cell?_alloc_lt W o p (ws h)).trans h
theorem nJ (w : World) (a b c : Obj) : ∃ n os, ((w.alloc a).alloc b).drew.alloc c = grow (w.drewN n) os := ⟨1, #[a] ++ #[b] ++ #[c], by
 rw [alloc_eq_grow w a, alloc_eq_grow _ b, Go.Sort.grow_grow]
 show (grow w.drew (#[a] ++ #[b])).alloc c = _
 rw [alloc_eq_grow, Go.Sort.grow_grow]; rfl⟩
def tH (a b : Int) : Int := if a < b then -1 else if b < a then 1 else 0
def orI (x y : Int) : Int := if x ≠ 0 then x else y
def qm (a b : Lk) : Int := orI (tH a.dev b.dev) (tH a.key b.key)
theorem si (a b : Lk) : qm a b < 0 ↔ zo a b = true := by
 rw [uG]; unfold qm orI tH
 split <;> split <;> (try split) <;> omega
theorem vz (x : Int) (w : World) : Calls Tryz.prog 142 #[.int .i64 x] w fun e w' => e = .returned (.bool false) ∧ w = w' := by
 have q : (x != x) = false := by simp
 go_enter Tryz.func142, Tryz.ntmps142
 go_wp2_with fail
 go_ret
 exact ⟨rfl, rfl⟩
theorem mG (x y : Int) (w : World) : Calls Tryz.prog 127 #[.int .i64 x, .int .i64 y] w fun e w' => e = .returned (.int .i64 (tH x y)) ∧ w = w' := by
 by_cases h1 : x < y
 ·have q1 : decide (x < y) = true := by simpa using h1
  have HR : Hid (tH x y = -1) := by unfold Hid tH; rw [if_pos h1]
  go_enter Tryz.func127, Tryz.ntmps127
  go_wp2_with fail
  refine (vz x w).mono ?_
  rintro e w1 ⟨rfl, rfl⟩
  go_wp2_with fail
  refine (vz y _).mono ?_
  rintro e w1 ⟨rfl, rfl⟩
  go_wp2_with fail
  go_ret
  exact ⟨zE HR.out.symm, rfl⟩
 have q1 : decide (x < y) = false := by simpa using h1
 by_cases h2 : y < x
 ·have q2 : decide (y < x) = true := by simpa using h2
  have HR : Hid (tH x y = 1) := by unfold Hid tH; rw [if_neg h1, if_pos h2]
  go_enter Tryz.func127, Tryz.ntmps127
  go_wp2_with fail
  refine (vz x w).mono ?_
  rintro e w1 ⟨rfl, rfl⟩
  go_wp2_with fail
  refine (vz y _).mono ?_
  rintro e w1 ⟨rfl, rfl⟩
  go_wp2_with fail
  go_ret
  exact ⟨zE HR.out.symm, rfl⟩
 have q2 : decide (y < x) = false := by simpa using h2
 have HR : Hid (tH x y = 0) := by unfold Hid tH; rw [if_neg h1, if_neg h2]
 go_enter Tryz.func127, Tryz.ntmps127
 go_wp2_with fail
 refine (vz x w).mono ?_
 rintro e w1 ⟨rfl, rfl⟩
 go_wp2_with fail
 refine (vz y _).mono ?_
 rintro e w1 ⟨rfl, rfl⟩
 go_wp2_with fail
 go_ret
 exact ⟨zE HR.out.symm, rfl⟩
theorem je (b : Nat) (x y : Int) (w : World) (h0 : w.cell? ⟨b, 0, none⟩ = some (.int .i64 x)) (h1 : w.cell? ⟨b, 1, none⟩ = some (.int .i64 y)) :
 Calls Tryz.prog 126 #[.slice (some ⟨b, 0, none⟩) 2 2] w fun e w' => e = .returned (.int .i64 (orI x y)) ∧ w = w' := by
 by_cases hx : x = 0
 ·subst hx
  have e1 : ((0 : Int) != 0) = false := by decide
  by_cases hy : y = 0
  ·subst hy
   go_enter Tryz.func126, Tryz.ntmps126
   go_wp2_with fail
   refine wp_loop_rounds 3 ?_
   rw [rounds_succ]
   go_wp2_with fail
   rw [rounds_succ]
   go_wp2_with fail
   rw [rounds_succ]
   go_wp2_with fail
   go_ret
   exact ⟨zE (by unfold orI; rw [if_neg (by simp)]), rfl⟩
  ·have e2 : (y != 0) = true := by simpa using hy
   go_enter Tryz.func126, Tryz.ntmps126
   go_wp2_with fail
   refine wp_loop_rounds 3 ?_
   rw [rounds_succ]
   go_wp2_with fail
   rw [rounds_succ]
   go_wp2_with fail
   go_ret
   exact ⟨zE (by unfold orI; rw [if_neg (by simp)]), rfl⟩
 ·have e1 : (x != 0) = true := by simpa using hx
  have HX := iD hx
  clear hx
  go_enter Tryz.func126, Tryz.ntmps126
  go_wp2_with fail
  refine wp_loop_rounds 3 ?_
  rw [rounds_succ]
  go_wp2_with fail
  go_ret
  exact ⟨zE (by unfold orI; rw [if_pos HX.out]), rfl⟩
theorem rt (a b : Lk) (w : World) : Calls Tryz.prog 99 #[.agg #[.int .i64 a.dev, .int .i64 a.pos, .int .i64 a.key], .agg #[.int .i64 b.dev, .int .i64 b.pos, .int .i64 b.key]] w fun e w' => e = .returned (.int .i64 (qm a b)) ∧ ∃ q os, w' = grow (w.drewN q) os := by
 obtain ⟨d, p, q⟩ := a
 obtain ⟨d2, p2, q2⟩ := b
 have HC1 := iD (fun W => mG d d2 W)
 have HC2 := iD (fun W => mG q q2 W)
 have HR : Hid (qm ⟨d, p, q⟩ ⟨d2, p2, q2⟩ = orI (tH d d2) (tH q q2)) := rfl
 generalize tH d d2 = r1 at *
 generalize tH q q2 = r2 at *
 have HCS : Hid ((((w.alloc (.cells #[.int .i64 d, .int .i64 p, .int .i64 q] 87)).alloc (.cells #[.int .i64 d2, .int .i64 p2, .int .i64 q2] 87)).cell? ⟨w.heap.size, 0, none⟩ = some (.int .i64 d)) ∧ (((w.alloc (.cells #[.int .i64 d, .int .i64 p, .int .i64 q] 87)).alloc (.cells #[.int .i64 d2, .int .i64 p2, .int .i64 q2] 87)).cell? ⟨w.heap.size, 2, none⟩ = some (.int .i64 q)) ∧ (((w.alloc (.cells #[.int .i64 d, .int .i64 p, .int .i64 q] 87)).alloc (.cells #[.int .i64 d2, .int .i64 p2, .int .i64 q2] 87)).cell? ⟨w.heap.size + 1, 0, none⟩ = some (.int .i64 d2)) ∧ (((w.alloc (.cells #[.int .i64 d, .int .i64 p, .int .i64 q] 87)).alloc (.cells #[.int .i64 d2, .int .i64 p2, .int .i64 q2] 87)).cell? ⟨w.heap.size + 1, 2, none⟩ = some (.int .i64 q2))) := by
  have b1 : Blk ((w.alloc (.cells #[.int .i64 d, .int .i64 p, .int .i64 q] 87)).alloc (.cells #[.int .i64 d2, .int .i64 p2, .int .i64 q2] 87)) w.heap.size 87 #[.int .i64 d, .int .i64 p, .int .i64 q] := (Blk.new _ _ _).alloc _
  have b2 : Blk ((w.alloc (.cells #[.int .i64 d, .int .i64 p, .int .i64 q] 87)).alloc (.cells #[.int .i64 d2, .int .i64 p2, .int .i64 q2] 87)) (w.heap.size + 1) 87 #[.int .i64 d2, .int .i64 p2, .int .i64 q2] := by have := Blk.new (w.alloc (.cells #[.int .i64 d, .int .i64 p, .int .i64 q] 87)) 87 #[.int .i64 d2, .int .i64 p2, .int .i64 q2]; simpa using this
  exact ⟨b1.cell 0, b1.cell 2, b2.cell 0, b2.cell 2⟩
 have HEND : Hid (∀ o, ∃ nq os, ((w.alloc (.cells #[.int .i64 d, .int .i64 p, .int .i64 q] 87)).alloc (.cells #[.int .i64 d2, .int .i64 p2, .int .i64 q2] 87)).drew.alloc o = grow (w.drewN nq) os) := fun o => nJ w _ _ o
 go_enter Tryz.func99, Tryz.ntmps99
 go_upto_region 1 with (fail)
 generalize World.alloc (World.alloc _ _) _ = W at *
 refine zF (S := fun W' => W'.cell? ⟨w.heap.size, 0, none⟩ = some (.int .i64 d) ∧ W'.cell? ⟨w.heap.size, 2, none⟩ = some (.int .i64 q) ∧ W'.cell? ⟨w.heap.size + 1, 0, none⟩ = some (.int .i64 d2) ∧ W'.cell? ⟨w.heap.size + 1, 2, none⟩ = some (.int .i64 q2)) (J := []) (by kernel_rfl) ?_ (fun AA => ?_)
 ·exact HCS.out
 try dsimp only at AA
 refine tk 0 5 (mf 13 1) AA ?_
 refine tk 1 6 (mf 13 2) AA ?_
 refine tk 2 7 (mf 13 3) AA ?_
 refine tk 3 8 (mf 13 4) AA ?_
 refine tk 5 10 (ma 13 47) AA ?_
 refine tk 6 11 (ma 13 111) AA ?_
 refine tk 7 12 (ma 13 239) AA ?_
 refine tk 8 13 (ma 13 495) AA ?_
 refine tb 4 (mf 13 9) fun K hK => ?_
 (go_simp; refine (HC1.out _).mono ?_; rintro e w1 ⟨rfl, rfl⟩; go_simp)
 refine hK.out _ _ (fun _ => ?_) (fun AA' => ?_)
 ·exact HCS.out
 replace AA := AA' rfl
 clear AA' hK K
 try dsimp only at AA
 refine tb 9 (mf 13 10) fun K hK => ?_
 (go_simp; refine (HC2.out _).mono ?_; rintro e w1 ⟨rfl, rfl⟩; go_simp)
 refine hK.out _ _ (fun _ => ?_) (fun AA' => ?_)
 ·exact HCS.out
 replace AA := AA' rfl
 clear AA' hK K
 try dsimp only at AA
 refine tb 10 (mf 13 11) fun K hK => ?_
 go_simp
 refine hK.out _ _ (fun _ => ?_) (fun AA' => ?_)
 ·exact ⟨wK _ HCS.out.1, wK _ HCS.out.2.1, wK _ HCS.out.2.2.1, wK _ HCS.out.2.2.2⟩
 replace AA := AA' rfl
 clear AA' hK K
 try dsimp only at AA
 refine tb 11 (mf 13 12) fun K hK => ?_
 (go_simp; refine (je W.heap.size r1 r2 _ (by simp) (by simp)).mono ?_; rintro e w1 ⟨rfl, rfl⟩; go_simp)
 refine hK.out _ _ (fun _ => ?_) (fun AA' => ?_)
 ·exact ⟨wK _ HCS.out.1, wK _ HCS.out.2.1, wK _ HCS.out.2.2.1, wK _ HCS.out.2.2.2⟩
 replace AA := AA' rfl
 clear AA' hK K
 try dsimp only at AA
 refine tk 12 4 (mf 13 13) AA ?_
 refine zC (by kernel_rfl) ?_ _
 go_wp2_with fail
 go_ret
 exact ⟨zE HR.out.symm, HEND.out _⟩
end
section
open Go.RowKit
theorem zu {w w' : World} (h : ∃ q os, w' = Go.Sort.grow (w.drewN q) os) : Below w.heap.size w w' := by
 obtain ⟨q, os, rfl⟩ := h
 exact ⟨rfl, rfl, rfl, by simp [Go.Sort.grow, World.drewN], fun i hi => by simp only [Go.Sort.grow, World.drewN]; rw [Array.getElem?_append_left hi]⟩
structure re (w : World) (N : Array Value) (wr : World) : Prop where
 bn : Blk wr w.heap.size 26 N
 bl : Below w.heap.size w wr
theorem re.later {w wr wr' : World} {N : Array Value} (h : re w N wr) (hb : Below wr.heap.size wr wr') : re w N wr' := ⟨h.bn.below hb h.bn.lt, h.bl.trans (hb.mono h.bl.size)⟩
theorem re.drew {w wr : World} {N : Array Value} (h : re w N wr) : re w N wr.drew := h.later (Below.refl _ _).drew
def PcR (w : World) (N : Array Value) (ds : List Dv) (ls : List Lk) (n gk : Nat) (iv : Value) (wr : World) : Prop := ∃ i : Nat, iv = .int .i64 i ∧ i ≤ n ∧ gk = n - i ∧ Hid (yH ds ls i = 0) ∧ Hid (re w N wr)
theorem ua (An Ad Al : Option Addr) (nn cn nd cd n c Bn Bd Bl : Nat) (ns : List Nd) (ds : List Dv) (ls : List Lk) (w : World) (hl : Laid w) (hn : Sl w Bn 3 An nn cn (ns.flatMap Nd.cells)) (hd : Sl w Bd 5 Ad nd cd (ds.flatMap Dv.cells)) (hs : Sl w Bl 3 Al n c (ls.flatMap Lk.cells)) (hBn : Bn ≤ w.heap.size) (hBd : Bd ≤ w.heap.size) (hBl : Bl ≤ w.heap.size)
 (hsn : ∀ x ∈ ns, x.name.size ≤ 9223372036854775807) (hsd : ∀ x ∈ ds, x.name.size ≤ 9223372036854775807) :
 Calls Tryz.prog 81 #[.agg #[.slice An nn cn, .slice Ad nd cd], .slice Al n c] w fun e w' => e = .returned (.int .i64 (zO ns ds ls)) ∧ Below w.heap.size w w' := by
 have hle := hs.le
 have hll := hs.len (fun _ => rfl) (by decide)
 have HNL := iD hll
 have HE : Hid (zO ns ds ls = if zR ns ds ≠ 0 then zR ns ds else if 128 < n then 1 else yH ds ls n) := by unfold Hid zO; rw [hll]
 have HST : Hid (re w #[.slice An nn cn, .slice Ad nd cd] (w.alloc (.cells #[.slice An nn cn, .slice Ad nd cd] 26))) := ⟨Blk.new _ _ _, (Below.refl _ _).alloc lR _⟩
 have HCK := iD (uY An Ad nn cn nd cd Bn Bd ns ds (w.alloc (.cells #[.slice An nn cn, .slice Ad nd cd] 26)) (hl.alloc _) (hn.below HST.out.bl hBn) (hd.below HST.out.bl hBd) (by simp; omega) (by simp; omega) hsn hsd)
 have HD := iD hd; have HS := iD hs
 clear hn hd hs hsn hsd hl hll
 go_enter Tryz.func81, Tryz.ntmps81
 go_wp2_with fail
 generalize World.alloc _ _ = W at *
 refine HCK.out.mono ?_
 rintro e w1 ⟨rfl, hb1⟩
 have HS1 := iD (HST.out.later hb1)
 clear hb1 HST HCK
 by_cases h0 : zR ns ds = 0; rotate_left
 ·have q0 : (zR ns ds != 0) = true := by simpa using h0
  have HR : Hid (zO ns ds ls = zR ns ds) := by unfold Hid; rw [HE.out, if_pos h0]
  clear h0
  go_wp2_with fail
  go_ret
  exact ⟨zE HR.out.symm, HS1.out.bl⟩
 rw [h0]
 replace HE : Hid (zO ns ds ls = if 128 < n then 1 else yH ds ls n) := by unfold Hid; rw [HE.out, if_neg (by simp [h0])]
 clear h0
 by_cases h1 : 128 < n
 ·have q0 : decide ((128 : Int) < (n : Int)) = true := by simp; omega
  have q1 : decide (128 < n) = true := by simpa using h1
  have HR : Hid (zO ns ds ls = 1) := by unfold Hid; rw [HE.out, if_pos h1]
  clear h1
  go_wp2_with fail
  go_ret
  exact ⟨zE HR.out.symm, HS1.out.bl⟩
 have q0 : decide ((128 : Int) < (n : Int)) = false := by simp; omega
 have q1 : decide (128 < n) = false := by simpa using h1
 replace HE : Hid (zO ns ds ls = yH ds ls n) := by unfold Hid; rw [HE.out, if_neg h1]
 clear h1
 go_wp2_with fail
 clear q0 q1
 go_loopg [19] n (PcR w #[.slice An nn cn, .slice Ad nd cd] ds ls n)
 case atStart => exact ⟨0, rfl, Nat.zero_le _, rfl, rfl, HS1⟩
 case round =>
  clear HS1
  obtain ⟨i, rfl, hi, rfl, hfe, hst⟩ := hrel
  by_cases hlt : i < n
  ·obtain ⟨b, off, d, p, q, rfl, hb, hx, c0, c1, c2⟩ := (HS.out.below hst.out.bl hBl).lock hlt
   have HX := iD hx
   have HSTOP : Hid (∀ e, xF ds ls i = e → e ≠ 0 → zO ns ds ls = e) := fun e he h => by rw [HE.out]; exact yj hfe.out he h n hlt
   have HNEXT : Hid (xF ds ls i = 0 → yH ds ls (i + 1) = 0) := fun he => vq hfe.out he
   have HEA : Hid (xF ds ls i = if zv ds ⟨d, p, q⟩ ≠ 0 then zv ds ⟨d, p, q⟩ else if yz ls i ⟨d, p, q⟩ = true then 14 else if yY (ls.take i) ⟨d, p, q⟩ = true then 18 else if yh (ls.take i) q = true then 4 else 0) := by unfold Hid xF; rw [hx]
   have HS2 : Hid (re w #[.slice An nn cn, .slice Ad nd cd] (wr.alloc (.cells #[.int .i64 d, .int .i64 p, .int .i64 q] 87))) := hst.out.later ((Below.refl _ _).alloc lR _)
   have HK2 : Hid (Blk (wr.alloc (.cells #[.int .i64 d, .int .i64 p, .int .i64 q] 87)) wr.heap.size 87 #[.int .i64 d, .int .i64 p, .int .i64 q]) := Blk.new _ _ _
   have hzk := hst.out.bl.size
   have HBX : Hid (Below w.heap.size w wr) := hst.out.bl
   clear hx hfe hst
   go_upto_region 9 with (fail)
   clear c0 c1 c2
   generalize hW2 : World.alloc wr _ = W2 at *
   have hz2 : W2.heap.size = wr.heap.size + 1 := by rw [← hW2]; simp
   have HSL2 := iD (HS.out.below HS2.out.bl hBl)
   have HDL2 := iD (HD.out.below HS2.out.bl hBd)
   clear hW2
   have k0 := HS2.out.bn.c0
   have k1 := HS2.out.bn.c1
   have m0 := HK2.out.c0
   have m1 := HK2.out.c1
   have m2 := HK2.out.c2
   go_wp2_with fail
   clear k0 k1 m0 m1 m2
   refine (ri An Ad nn cn nd cd Bd ds d p q W2 HDL2.out (by omega)).mono ?_
   rintro e w3 ⟨rfl, hb3⟩
   have HS3 := iD (HS2.out.later hb3)
   have HK3 := iD (HK2.out.below hb3 HK2.out.lt)
   have hz3 := hb3.size
   clear HS2 HK2 HSL2 HDL2 hb3
   by_cases hv : zv ds ⟨d, p, q⟩ = 0; rotate_left
   ·have qv : (zv ds ⟨d, p, q⟩ != 0) = true := by simpa using hv
    have HR : Hid (zO ns ds ls = zv ds ⟨d, p, q⟩) := HSTOP.out _ (by rw [HEA.out, if_pos hv]) hv
    clear hv
    go_wp2_with fail
    go_ret
    exact ⟨zE HR.out.symm, HS3.out.bl⟩
   rw [hv]
   replace HEA : Hid (xF ds ls i = if yz ls i ⟨d, p, q⟩ = true then 14 else if yY (ls.take i) ⟨d, p, q⟩ = true then 18 else if yh (ls.take i) q = true then 4 else 0) := by unfold Hid; rw [HEA.out, if_neg (by simp [hv])]
   clear hv
   by_cases hi0 : 0 < i
   ·obtain ⟨b1, off1, d1, p1, q1, hA1, _, hx1, g0, g1, g2⟩ := (HS.out.below HS3.out.bl hBl).lock (i := i - 1) (by omega)
    injection hA1 with hA1; injection hA1 with h1 h2; subst h1 h2
    have HOB := iD (ru (k := ⟨d, p, q⟩) hi0 hx1)
    have HCS : Hid (w3.cell? ⟨b, off + (i - 1) * 3, none⟩ = some (.int .i64 d1) ∧ w3.cell? ⟨b, off + (i - 1) * 3 + 1, none⟩ = some (.int .i64 p1) ∧ w3.cell? ⟨b, off + (i - 1) * 3 + 2, none⟩ = some (.int .i64 q1) ∧ w3.cell? ⟨wr.heap.size, 0, none⟩ = some (.int .i64 d) ∧ w3.cell? ⟨wr.heap.size, 1, none⟩ = some (.int .i64 p) ∧ w3.cell? ⟨wr.heap.size, 2, none⟩ = some (.int .i64 q)) := ⟨g0, g1, g2, HK3.out.cell 0, HK3.out.cell 1, HK3.out.cell 2⟩
    clear g0 g1 g2 hx1
    obtain ⟨i1, hi1⟩ : ∃ i1, i1 = i - 1 := ⟨_, rfl⟩
    rw [← hi1] at HCS
    have e1 : IntKind.i64.wrap ((i : Int) - 1) = (i1 : Int) := by rw [IntWalk.i64_in _ (by omega)]; omega
    have hi1n : i1 < n := by omega
    have qi : decide ((0 : Int) < (i : Int)) = true := by simp; omega
    clear hi1
    have HBE := iD (rt ⟨d1, p1, q1⟩ ⟨d, p, q⟩ w3.drew)
    have HLT := iD (si ⟨d1, p1, q1⟩ ⟨d, p, q⟩)
    generalize qm ⟨d1, p1, q1⟩ ⟨d, p, q⟩ = r at *
    rcases hbb : zo ⟨d1, p1, q1⟩ ⟨d, p, q⟩ with _ | _
    ·rw [hbb] at HOB HLT
     have qr : decide (0 ≤ r) = true := by have := HLT.out; simp at this ⊢; omega
     have HR : Hid (zO ns ds ls = 14) := HSTOP.out _ (by rw [HEA.out, if_pos (by rw [HOB.out]; rfl)]) (by decide)
     clear hbb
     go_upto_region 12 with (fail)
     refine zF (S := fun W' => W'.cell? ⟨b, off + i1 * 3, none⟩ = some (.int .i64 d1) ∧ W'.cell? ⟨b, off + i1 * 3 + 1, none⟩ = some (.int .i64 p1) ∧ W'.cell? ⟨b, off + i1 * 3 + 2, none⟩ = some (.int .i64 q1) ∧ W'.cell? ⟨wr.heap.size, 0, none⟩ = some (.int .i64 d) ∧ W'.cell? ⟨wr.heap.size, 1, none⟩ = some (.int .i64 p) ∧ W'.cell? ⟨wr.heap.size, 2, none⟩ = some (.int .i64 q)) (J := []) (by kernel_rfl) ?_ (fun AA => ?_)
     ·exact HCS.out
     try dsimp only at AA
     refine tk 0 32 (mf 13 1) AA ?_
     refine tk 1 33 (mf 13 2) AA ?_
     refine tk 2 34 (mf 13 3) AA ?_
     refine tk 3 35 (mf 13 4) AA ?_
     refine tk 4 36 (mf 13 5) AA ?_
     refine tk 5 37 (mf 13 6) AA ?_
     refine tk 6 38 (mf 13 7) AA ?_
     refine tk 7 39 (mf 13 8) AA ?_
     refine tk 8 40 (mf 13 9) AA ?_
     refine tb 9 (mf 13 10) fun K hK => ?_
     (go_simp; refine HBE.out.mono ?_; rintro e w4 ⟨rfl, hb4⟩; go_simp)
     refine hK.out _ _ (fun _ => ?_) (fun AA' => ?_)
     ·exact ⟨zG (zu hb4) HCS.out.1, zG (zu hb4) HCS.out.2.1, zG (zu hb4) HCS.out.2.2.1, zG (zu hb4) HCS.out.2.2.2.1, zG (zu hb4) HCS.out.2.2.2.2.1, zG (zu hb4) HCS.out.2.2.2.2.2⟩
     replace AA := AA' rfl
     clear AA' hK K
     try dsimp only at AA
     refine tk 10 42 (mf 13 11) AA ?_
     refine tk 11 43 (mf 13 12) AA ?_
     refine tk 12 31 (mf 13 13) AA ?_
     refine zC (by kernel_rfl) ?_ _
     have HS4 := iD (HS3.out.drew.later (zu hb4))
     clear AA hb4
     go_wp2_with fail
     go_ret
     exact ⟨zE HR.out.symm, HS4.out.bl⟩
    ·rw [hbb] at HOB HLT
     have qr : decide (0 ≤ r) = false := by have := HLT.out; simp at this ⊢; omega
     replace HOB : Hid (yz ls i ⟨d, p, q⟩ = false) := by unfold Hid; rw [HOB.out]; rfl
     clear hbb
     go_upto_region 12 with (fail)
     refine zF (S := fun W' => W'.cell? ⟨b, off + i1 * 3, none⟩ = some (.int .i64 d1) ∧ W'.cell? ⟨b, off + i1 * 3 + 1, none⟩ = some (.int .i64 p1) ∧ W'.cell? ⟨b, off + i1 * 3 + 2, none⟩ = some (.int .i64 q1) ∧ W'.cell? ⟨wr.heap.size, 0, none⟩ = some (.int .i64 d) ∧ W'.cell? ⟨wr.heap.size, 1, none⟩ = some (.int .i64 p) ∧ W'.cell? ⟨wr.heap.size, 2, none⟩ = some (.int .i64 q)) (J := []) (by kernel_rfl) ?_ (fun AA => ?_)
     ·exact HCS.out
     try dsimp only at AA
     refine tk 0 32 (mf 13 1) AA ?_
     refine tk 1 33 (mf 13 2) AA ?_
     refine tk 2 34 (mf 13 3) AA ?_
     refine tk 3 35 (mf 13 4) AA ?_
     refine tk 4 36 (mf 13 5) AA ?_
     refine tk 5 37 (mf 13 6) AA ?_
     refine tk 6 38 (mf 13 7) AA ?_
     refine tk 7 39 (mf 13 8) AA ?_
     refine tk 8 40 (mf 13 9) AA ?_
     refine tb 9 (mf 13 10) fun K hK => ?_
     (go_simp; refine HBE.out.mono ?_; rintro e w4 ⟨rfl, hb4⟩; go_simp)
     refine hK.out _ _ (fun _ => ?_) (fun AA' => ?_)
     ·exact ⟨zG (zu hb4) HCS.out.1, zG (zu hb4) HCS.out.2.1, zG (zu hb4) HCS.out.2.2.1, zG (zu hb4) HCS.out.2.2.2.1, zG (zu hb4) HCS.out.2.2.2.2.1, zG (zu hb4) HCS.out.2.2.2.2.2⟩
     replace AA := AA' rfl
     clear AA' hK K
     try dsimp only at AA
     refine tk 10 42 (mf 13 11) AA ?_
     refine tk 11 43 (mf 13 12) AA ?_
     refine tk 12 31 (mf 13 13) AA ?_
     refine zC (by kernel_rfl) ?_ _
     have HS4 := iD (HS3.out.drew.later (zu hb4))
     have HK4 := iD ((show Blk w3.drew wr.heap.size 87 #[.int .i64 d, .int .i64 p, .int .i64 q] from HK3.out).below (zu hb4) HK3.out.lt)
     clear AA hb4 HS3 HK3 HCS HBE HLT e1 qr
     have HNB := iD HOB.out
     have HEB : Hid (xF ds ls i = if yY (ls.take i) ⟨d, p, q⟩ = true then 18 else if yh (ls.take i) q = true then 4 else 0) := by unfold Hid; rw [HEA.out, if_neg (by rw [HNB.out]; simp)]
     clear HEA HOB HNB
     have HSL4 := iD (HS.out.below HS4.out.bl hBl)
     have hic : i ≤ c := by omega
     have HTK := iD (HSL4.out.takeK (fun _ => rfl) (by decide) hi)
     have HBX4 : Hid (w4.cell? ⟨wr.heap.size, 0, none⟩ = some (.int .i64 d) ∧ w4.cell? ⟨wr.heap.size, 1, none⟩ = some (.int .i64 p) ∧ w4.cell? ⟨wr.heap.size, 2, none⟩ = some (.int .i64 q)) := ⟨HK4.out.cell 0, HK4.out.cell 1, HK4.out.cell 2⟩
     have hz4 := HS4.out.bl.size
     have HOA := iD (tP (some ⟨b, off, none⟩) i c Bl (ls.take i) d p q w4.drew HTK.out (by simp only [World.drew]; omega))
     go_wp2_with fail
     rcases ho : yY (ls.take i) ⟨d, p, q⟩ with _ | _
     rotate_left
     ·rw [ho] at HOA HEB
      clear ho
      have HR : Hid (zO ns ds ls = 18) := HSTOP.out _ (by rw [HEB.out, if_pos rfl]) (by decide)
      go_upto_region 14 with (fail)
      refine zF (S := fun W' => W'.cell? ⟨wr.heap.size, 0, none⟩ = some (.int .i64 d) ∧ W'.cell? ⟨wr.heap.size, 1, none⟩ = some (.int .i64 p) ∧ W'.cell? ⟨wr.heap.size, 2, none⟩ = some (.int .i64 q)) (J := []) (by kernel_rfl) ?_ (fun AA => ?_)
      ·exact HBX4.out
      try dsimp only at AA
      refine tk 0 45 (mf 6 1) AA ?_
      refine tk 1 46 (mf 6 2) AA ?_
      refine tk 2 47 (mf 6 3) AA ?_
      refine tk 3 48 (mf 6 4) AA ?_
      refine tb 4 (mf 6 5) fun K hK => ?_
      (go_simp; refine HOA.out.mono ?_; rintro e w5 ⟨rfl, hb5⟩; go_simp)
      refine hK.out _ _ (fun _ => ?_) (fun AA' => ?_)
      ·exact ⟨zG hb5 HBX4.out.1, zG hb5 HBX4.out.2.1, zG hb5 HBX4.out.2.2⟩
      replace AA := AA' rfl
      clear AA' hK K
      try dsimp only at AA
      refine tk 5 44 (mf 6 6) AA ?_
      refine zC (by kernel_rfl) ?_ _
      have HS5 := iD (HS4.out.drew.later hb5)
      clear AA hb5
      go_wp2_with fail
      go_ret
      exact ⟨zE HR.out.symm, HS5.out.bl⟩
     rw [ho] at HOA HEB
     replace HEB : Hid (xF ds ls i = if yh (ls.take i) q = true then 4 else 0) := by unfold Hid; rw [HEB.out, if_neg (by simp)]
     clear ho
     go_upto_region 14 with (fail)
     refine zF (S := fun W' => W'.cell? ⟨wr.heap.size, 0, none⟩ = some (.int .i64 d) ∧ W'.cell? ⟨wr.heap.size, 1, none⟩ = some (.int .i64 p) ∧ W'.cell? ⟨wr.heap.size, 2, none⟩ = some (.int .i64 q)) (J := []) (by kernel_rfl) ?_ (fun AA => ?_)
     ·exact HBX4.out
     try dsimp only at AA
     refine tk 0 45 (mf 6 1) AA ?_
     refine tk 1 46 (mf 6 2) AA ?_
     refine tk 2 47 (mf 6 3) AA ?_
     refine tk 3 48 (mf 6 4) AA ?_
     refine tb 4 (mf 6 5) fun K hK => ?_
     (go_simp; refine HOA.out.mono ?_; rintro e w5 ⟨rfl, hb5⟩; go_simp)
     refine hK.out _ _ (fun _ => ?_) (fun AA' => ?_)
     ·exact ⟨zG hb5 HBX4.out.1, zG hb5 HBX4.out.2.1, zG hb5 HBX4.out.2.2⟩
     replace AA := AA' rfl
     clear AA' hK K
     try dsimp only at AA
     refine tk 5 44 (mf 6 6) AA ?_
     refine zC (by kernel_rfl) ?_ _
     have HS5 := iD (HS4.out.drew.later hb5)
     have HTK5 := iD (HTK.out.drew.below hb5 (by simp only [World.drew]; omega))
     have HC5 : Hid (w5.cell? ⟨wr.heap.size, 2, none⟩ = some (.int .i64 q)) := AA.2.2
     clear AA hb5 HOA HBX4 HSL4 HTK HK4
     have hz5 := HS5.out.bl.size
     have HUA := iD (sQ (some ⟨b, off, none⟩) i c Bl (ls.take i) q w5.drew HTK5.out (by simp only [World.drew]; omega))
     rcases hu : yh (ls.take i) q with _ | _
     rotate_left
     ·rw [hu] at HUA HEB
      clear hu
      have HR : Hid (zO ns ds ls = 4) := HSTOP.out _ (by rw [HEB.out, if_pos rfl]) (by decide)
      go_upto_region 16 with (fail)
      refine zF (S := fun W' => W'.cell? ⟨wr.heap.size, 2, none⟩ = some (.int .i64 q)) (J := []) (by kernel_rfl) ?_ (fun AA => ?_)
      ·exact HC5.out
      try dsimp only at AA
      refine tk 0 51 (mf 7 1) AA ?_
      refine tk 1 52 (mf 7 2) AA ?_
      refine tk 2 53 (mf 7 3) AA ?_
      refine tk 3 54 (mf 7 4) AA ?_
      refine tk 4 55 (mf 7 5) AA ?_
      refine tb 5 (mf 7 6) fun K hK => ?_
      (go_simp; refine HUA.out.mono ?_; rintro e w6 ⟨rfl, hb6⟩; go_simp)
      refine hK.out _ _ (fun _ => ?_) (fun AA' => ?_)
      ·exact zG hb6 HC5.out
      replace AA := AA' rfl
      clear AA' hK K
      try dsimp only at AA
      refine tk 6 50 (mf 7 7) AA ?_
      refine zC (by kernel_rfl) ?_ _
      have HS6 := iD (HS5.out.drew.later hb6)
      clear AA hb6
      go_wp2_with fail
      go_ret
      exact ⟨zE HR.out.symm, HS6.out.bl⟩
     rw [hu] at HUA HEB
     clear hu
     have HFN : Hid (yH ds ls (i + 1) = 0) := HNEXT.out (by rw [HEB.out, if_neg (by simp)])
     go_upto_region 16 with (fail)
     refine zF (S := fun W' => W'.cell? ⟨wr.heap.size, 2, none⟩ = some (.int .i64 q)) (J := []) (by kernel_rfl) ?_ (fun AA => ?_)
     ·exact HC5.out
     try dsimp only at AA
     refine tk 0 51 (mf 7 1) AA ?_
     refine tk 1 52 (mf 7 2) AA ?_
     refine tk 2 53 (mf 7 3) AA ?_
     refine tk 3 54 (mf 7 4) AA ?_
     refine tk 4 55 (mf 7 5) AA ?_
     refine tb 5 (mf 7 6) fun K hK => ?_
     (go_simp; refine HUA.out.mono ?_; rintro e w6 ⟨rfl, hb6⟩; go_simp)
     refine hK.out _ _ (fun _ => ?_) (fun AA' => ?_)
     ·exact zG hb6 HC5.out
     replace AA := AA' rfl
     clear AA' hK K
     try dsimp only at AA
     refine tk 6 50 (mf 7 7) AA ?_
     refine zC (by kernel_rfl) ?_ _
     have HS6 := iD (HS5.out.drew.later hb6)
     clear AA hb6
     go_wp2_with fail
     go_roundg (n - (i + 1))
     case rel => exact ⟨i + 1, by go_num, by omega, rfl, HFN, HS6⟩
     case measure => omega
   ·have e0 : i = 0 := by omega
    have HOB : Hid (yz ls i ⟨d, p, q⟩ = false) := by unfold Hid yz; rw [decide_eq_false hi0]; rfl
    have qi : decide (0 < i) = false := by simp; omega
    have qi2 : decide ((0 : Int) < (i : Int)) = false := by simp; omega
    clear e0
    go_upto_region 12 with (fail)
    refine zF (S := fun _ => True) (J := []) (by kernel_rfl) ?_ (fun AA => ?_)
    ·exact trivial
    try dsimp only at AA
    refine tk 0 32 (mf 13 1) AA ?_
    refine tk 1 33 (mf 13 2) AA ?_
    refine tk 2 34 (mf 13 3) AA ?_
    refine ts 3 35 (mf 13 4) AA ?_
    refine ts 4 36 (mf 13 5) AA ?_
    refine ts 5 37 (mf 13 6) AA ?_
    refine ts 6 38 (mf 13 7) AA ?_
    refine ts 7 39 (mf 13 8) AA ?_
    refine ts 8 40 (mf 13 9) AA ?_
    refine ts 9 41 (mf 13 10) AA ?_
    refine ts 10 42 (mf 13 11) AA ?_
    refine tk 11 43 (mf 13 12) AA ?_
    refine tk 12 31 (mf 13 13) AA ?_
    refine zC (by kernel_rfl) ?_ _
    have HS4 := iD (HS3.out.drew)
    have HK4 := iD (show Blk w3.drew wr.heap.size 87 #[.int .i64 d, .int .i64 p, .int .i64 q] from HK3.out)
    have hz4d : wr.heap.size + 1 ≤ w3.drew.heap.size := by simp only [World.drew]; omega
    clear AA HS3 HK3 qi qi2 hz3
    generalize World.drew w3 = w4 at *
    have HNB := iD HOB.out
    have HEB : Hid (xF ds ls i = if yY (ls.take i) ⟨d, p, q⟩ = true then 18 else if yh (ls.take i) q = true then 4 else 0) := by unfold Hid; rw [HEA.out, if_neg (by rw [HNB.out]; simp)]
    clear HEA HOB HNB
    have HSL4 := iD (HS.out.below HS4.out.bl hBl)
    have hic : i ≤ c := by omega
    have HTK := iD (HSL4.out.takeK (fun _ => rfl) (by decide) hi)
    have HBX4 : Hid (w4.cell? ⟨wr.heap.size, 0, none⟩ = some (.int .i64 d) ∧ w4.cell? ⟨wr.heap.size, 1, none⟩ = some (.int .i64 p) ∧ w4.cell? ⟨wr.heap.size, 2, none⟩ = some (.int .i64 q)) := ⟨HK4.out.cell 0, HK4.out.cell 1, HK4.out.cell 2⟩
    have hz4 := HS4.out.bl.size
    have HOA := iD (tP (some ⟨b, off, none⟩) i c Bl (ls.take i) d p q w4.drew HTK.out (by simp only [World.drew]; omega))
    go_wp2_with fail
    rcases ho : yY (ls.take i) ⟨d, p, q⟩ with _ | _
    rotate_left
    ·rw [ho] at HOA HEB
     clear ho
     have HR : Hid (zO ns ds ls = 18) := HSTOP.out _ (by rw [HEB.out, if_pos rfl]) (by decide)
     go_upto_region 14 with (fail)
     refine zF (S := fun W' => W'.cell? ⟨wr.heap.size, 0, none⟩ = some (.int .i64 d) ∧ W'.cell? ⟨wr.heap.size, 1, none⟩ = some (.int .i64 p) ∧ W'.cell? ⟨wr.heap.size, 2, none⟩ = some (.int .i64 q)) (J := []) (by kernel_rfl) ?_ (fun AA => ?_)
     ·exact HBX4.out
     try dsimp only at AA
     refine tk 0 45 (mf 6 1) AA ?_
     refine tk 1 46 (mf 6 2) AA ?_
     refine tk 2 47 (mf 6 3) AA ?_
     refine tk 3 48 (mf 6 4) AA ?_
     refine tb 4 (mf 6 5) fun K hK => ?_
     (go_simp; refine HOA.out.mono ?_; rintro e w5 ⟨rfl, hb5⟩; go_simp)
     refine hK.out _ _ (fun _ => ?_) (fun AA' => ?_)
     ·exact ⟨zG hb5 HBX4.out.1, zG hb5 HBX4.out.2.1, zG hb5 HBX4.out.2.2⟩
     replace AA := AA' rfl
     clear AA' hK K
     try dsimp only at AA
     refine tk 5 44 (mf 6 6) AA ?_
     refine zC (by kernel_rfl) ?_ _
     have HS5 := iD (HS4.out.drew.later hb5)
     clear AA hb5
     go_wp2_with fail
     go_ret
     exact ⟨zE HR.out.symm, HS5.out.bl⟩
    rw [ho] at HOA HEB
    replace HEB : Hid (xF ds ls i = if yh (ls.take i) q = true then 4 else 0) := by unfold Hid; rw [HEB.out, if_neg (by simp)]
    clear ho
    go_upto_region 14 with (fail)
    refine zF (S := fun W' => W'.cell? ⟨wr.heap.size, 0, none⟩ = some (.int .i64 d) ∧ W'.cell? ⟨wr.heap.size, 1, none⟩ = some (.int .i64 p) ∧ W'.cell? ⟨wr.heap.size, 2, none⟩ = some (.int .i64 q)) (J := []) (by kernel_rfl) ?_ (fun AA => ?_)
    ·exact HBX4.out
    try dsimp only at AA
    refine tk 0 45 (mf 6 1) AA ?_
    refine tk 1 46 (mf 6 2) AA ?_
    refine tk 2 47 (mf 6 3) AA ?_
    refine tk 3 48 (mf 6 4) AA ?_
    refine tb 4 (mf 6 5) fun K hK => ?_
    (go_simp; refine HOA.out.mono ?_; rintro e w5 ⟨rfl, hb5⟩; go_simp)
    refine hK.out _ _ (fun _ => ?_) (fun AA' => ?_)
    ·exact ⟨zG hb5 HBX4.out.1, zG hb5 HBX4.out.2.1, zG hb5 HBX4.out.2.2⟩
    replace AA := AA' rfl
    clear AA' hK K
    try dsimp only at AA
    refine tk 5 44 (mf 6 6) AA ?_
    refine zC (by kernel_rfl) ?_ _
    have HS5 := iD (HS4.out.drew.later hb5)
    have HTK5 := iD (HTK.out.drew.below hb5 (by simp only [World.drew]; omega))
    have HC5 : Hid (w5.cell? ⟨wr.heap.size, 2, none⟩ = some (.int .i64 q)) := AA.2.2
    clear AA hb5 HOA HBX4 HSL4 HTK HK4
    have hz5 := HS5.out.bl.size
    have HUA := iD (sQ (some ⟨b, off, none⟩) i c Bl (ls.take i) q w5.drew HTK5.out (by simp only [World.drew]; omega))
    rcases hu : yh (ls.take i) q with _ | _
    rotate_left
    ·rw [hu] at HUA HEB
     clear hu
     have HR : Hid (zO ns ds ls = 4) := HSTOP.out _ (by rw [HEB.out, if_pos rfl]) (by decide)
     go_upto_region 16 with (fail)
     refine zF (S := fun W' => W'.cell? ⟨wr.heap.size, 2, none⟩ = some (.int .i64 q)) (J := []) (by kernel_rfl) ?_ (fun AA => ?_)
     ·exact HC5.out
     try dsimp only at AA
     refine tk 0 51 (mf 7 1) AA ?_
     refine tk 1 52 (mf 7 2) AA ?_
     refine tk 2 53 (mf 7 3) AA ?_
     refine tk 3 54 (mf 7 4) AA ?_
     refine tk 4 55 (mf 7 5) AA ?_
     refine tb 5 (mf 7 6) fun K hK => ?_
     (go_simp; refine HUA.out.mono ?_; rintro e w6 ⟨rfl, hb6⟩; go_simp)
     refine hK.out _ _ (fun _ => ?_) (fun AA' => ?_)
     ·exact zG hb6 HC5.out
     replace AA := AA' rfl
     clear AA' hK K
     try dsimp only at AA
     refine tk 6 50 (mf 7 7) AA ?_
     refine zC (by kernel_rfl) ?_ _
     have HS6 := iD (HS5.out.drew.later hb6)
     clear AA hb6
     go_wp2_with fail
     go_ret
     exact ⟨zE HR.out.symm, HS6.out.bl⟩
    rw [hu] at HUA HEB
    clear hu
    have HFN : Hid (yH ds ls (i + 1) = 0) := HNEXT.out (by rw [HEB.out, if_neg (by simp)])
    go_upto_region 16 with (fail)
    refine zF (S := fun W' => W'.cell? ⟨wr.heap.size, 2, none⟩ = some (.int .i64 q)) (J := []) (by kernel_rfl) ?_ (fun AA => ?_)
    ·exact HC5.out
    try dsimp only at AA
    refine tk 0 51 (mf 7 1) AA ?_
    refine tk 1 52 (mf 7 2) AA ?_
    refine tk 2 53 (mf 7 3) AA ?_
    refine tk 3 54 (mf 7 4) AA ?_
    refine tk 4 55 (mf 7 5) AA ?_
    refine tb 5 (mf 7 6) fun K hK => ?_
    (go_simp; refine HUA.out.mono ?_; rintro e w6 ⟨rfl, hb6⟩; go_simp)
    refine hK.out _ _ (fun _ => ?_) (fun AA' => ?_)
    ·exact zG hb6 HC5.out
    replace AA := AA' rfl
    clear AA' hK K
    try dsimp only at AA
    refine tk 6 50 (mf 7 7) AA ?_
    refine zC (by kernel_rfl) ?_ _
    have HS6 := iD (HS5.out.drew.later hb6)
    clear AA hb6
    go_wp2_with fail
    go_roundg (n - (i + 1))
    case rel => exact ⟨i + 1, by go_num, by omega, rfl, HFN, HS6⟩
    case measure => omega
  ·obtain rfl : i = n := by omega
   have hii : decide (i < i) = false := by simp
   have HR : Hid (zO ns ds ls = 0) := by unfold Hid; rw [HE.out, hfe.out]
   go_wp2_with fail
   go_ret
   exact ⟨zE HR.out.symm, hst.out.bl⟩
end
end Go.Proofs.YtddddlhgaeameaaGreatDoor
