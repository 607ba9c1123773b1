import Derived.Test.YtepicjpdhpojnaaGreatDoorX16
set_option maxRecDepth 100000
set_option maxHeartbeats 8000000
namespace Go.Proofs.YtepicjpdhpojnaaGreatDoor
section
open Go.RowKit
section
variable {w : World} {B size n c k : Nat} {A : Option Addr} {α : Type} {f : α → List Value} {l : List α}
theorem Sl.takeK (h : Sl w B size A n c (l.flatMap f)) (hf : ∀ x, (f x).length = size) (hs : 0 < size) (hk : k ≤ n) : Sl w B size A k c ((l.take k).flatMap f) := by
 have hl := h.len hf hs
 obtain ⟨h1, h2, h3, h4, h5⟩ := h
 refine ⟨by rw [yT hf, List.length_take, Nat.min_eq_left (by omega)], by omega, h3, h4, fun hp => ?_⟩
 obtain ⟨b, off, e, hb, hc⟩ := h5 (by omega)
 refine ⟨b, off, e, hb, fun j u hu => hc j u ?_⟩
 rw [← List.take_append_drop k l, List.flatMap_append, List.getElem?_append_left (List.getElem?_eq_some_iff.1 hu).1]
 exact hu
def qB (A : Option Addr) (c k size : Nat) : Option Addr := if c = k then A else A.map (·.add (k * size))
theorem Sl.dropK (h : Sl w B size A n c (l.flatMap f)) (hf : ∀ x, (f x).length = size) (hs : 0 < size) (hk : k ≤ n) : Sl w B size (qB A c k size) (n - k) (c - k) ((l.drop k).flatMap f) := by
 have hl := h.len hf hs
 obtain ⟨h1, h2, h3, h4, h5⟩ := h
 refine ⟨by rw [yT hf, List.length_drop, hl], by omega, by omega, fun e => ?_, fun hp => ?_⟩
 ·unfold qB at e
  split at e
  ·omega
  ·cases A with
   | none => have := h4 rfl; omega
   | some a => cases e
 ·obtain ⟨b, off, e, hb, hc⟩ := h5 (by omega)
  subst e
  refine ⟨b, off + k * size, by unfold qB; rw [if_neg (by omega), Option.map_some, xN], hb, fun j u hu => ?_⟩
  have := hc (k * size + j) u (by
   rw [← List.take_append_drop k l, List.flatMap_append, List.getElem?_append_right (by rw [yT hf, List.length_take, Nat.min_eq_left (by omega)]; omega), yT hf, List.length_take, Nat.min_eq_left (by omega), show k * size + j - k * size = j by omega]
   exact hu)
  rw [Nat.add_assoc]; exact this
end
theorem vO (w : World) (A : Option Addr) (n c k : Nat) (hk : k ≤ n) : (Instr.sliceAt 33 (.slice A n c) (some (.int .i64 (k : Int))) none none).run Tryz.prog w = .ok (.slice (qB A c k 3) (n - k) (c - k)) w := by
 rw [run_sliceAt_slice _ _ _ _ _ _ (by kernel_rfl), run_slice_l _ _ _ _ _ (by kernel_rfl) _ _ (by omega) (by omega)]
 have : (sizeOf (Tryz.prog.elem 33)).run Tryz.prog w = .ok 3 w := by kernel_rfl
 rw [this]
 simp [sliced, qB, Result.andThen]
end
section
open Go.RowKit
def zq (ns : List Nd) (ds : List Dv) (ls : List Lk) (k : Lk) : Int := if zL ns ds ls ≠ 0 then zL ns ds ls else if yJ ds k ≠ 0 then yJ ds k else if yr ls k.key = true then 4 else if yj ls k = true then 18 else if ls.length = 128 then 1 else 0
def pJ (w : World) (ns : List Nd) (ds : List Dv) (ls : List Lk) (k : Lk) (e : Ending) (w' : World) : Prop :=
 (zq ns ds ls k ≠ 0 ∧ e = .returned (.tuple #[.slice none 0 0, .int .i64 (zq ns ds ls k)]) ∨ zq ns ds ls k = 0 ∧ ∃ (A : Option Addr) (c : Nat), e = .returned (.tuple #[.slice A (ls.length + 1) c, .int .i64 0]) ∧ Hid (yI w' w.heap.size A (ls.length + 1) c (wI k ls))) ∧ Hid (Below w.heap.size w w')
theorem y8 {ns : List Nd} {ds : List Dv} {ls : List Lk} (h : zL ns ds ls = 0) : vS ds ls := by
 unfold zL at h
 split at h
 ·next hc => exact absurd h hc
 ·split at h
  ·omega
  ·exact jX (by omega) h
theorem zp {w w' : World} (h : w.grownBy w' (Value.slice none 0 0).ownBlock) : Below w.heap.size w w' := ⟨h.os, h.tape, h.output, h.size, fun i hi => h.block i hi (by simp [Value.ownBlock])⟩
theorem xT {w4 w5 w6 : World} {A1 : Option Addr} {j c1 : Nat} {xs : List Value} {o : Obj} {e : TypeId} {size : Nat} (h5 : w4.drew.grownBy w5 (Value.slice none 0 0).ownBlock) (ho : w5.ownsRow w4.heap.size e size (.slice A1 j c1) j xs) (h6 : (w5.alloc o).grownBy w6 (Value.slice A1 j c1).ownBlock) : Below w4.heap.size w4 w6 := by
 have h1 : Below w4.heap.size w4 w5 := (Below.refl _ _).drew.trans (zp h5)
 have h2 := h1.alloc h1.size o
 exact h2.trans ⟨h6.os, h6.tape, h6.output, h6.size, fun t ht => h6.block t (by have := h2.size; omega) (fun e => by have := (ho.lt t e.symm).1; omega)⟩
theorem xy {w4 w5 : World} {o : Obj} (h5 : (w4.alloc o).drew.grownBy w5 (Value.slice none 0 0).ownBlock) : Below w4.heap.size w4 w5 := by
 have h1 : Below w4.heap.size w4 (w4.alloc o).drew := ((Below.refl _ _).alloc lR o).drew
 exact h1.trans ((zp h5).mono (by simp))
theorem xD {w4 w5 w6 : World} {A1 : Option Addr} {j c1 : Nat} {xs : List Value} {o : Obj} {e : TypeId} {size : Nat} (h5 : (w4.alloc o).drew.grownBy w5 (Value.slice none 0 0).ownBlock) (ho : w5.ownsRow w4.heap.size e size (.slice A1 j c1) j xs) (h6 : w5.grownBy w6 (Value.slice A1 j c1).ownBlock) : Below w4.heap.size w4 w6 := by
 have h2 := xy h5
 exact h2.trans ⟨h6.os, h6.tape, h6.output, h6.size, fun t ht => h6.block t (by have := h2.size; omega) (fun e => by have := (ho.lt t e.symm).1; omega)⟩
theorem yK {W : World} {p : Addr} {v : Value} (o : Obj) (h : W.cell? p = some v) : (W.alloc o).cell? p = some v := (World.cell?_alloc_lt W o p (uG h)).trans h
theorem rK {p : Lk → Bool} : ∀ {l : List Lk} {i : Nat}, (∀ x ∈ l.take i, p x = true) → (∀ x, l[i]? = some x → p x = false) → l.takeWhile p = l.take i ∧ l.dropWhile p = l.drop i
 | [], i, _, _ => by simp
 | x :: l, 0, _, h => by
  have := h x rfl
  simp [this]
 | x :: l, i + 1, h1, h2 => by
  have hx := h1 x (by simp)
  obtain ⟨a, b⟩ := rK (p := p) (l := l) (i := i) (fun y hy => h1 y (by simp [hy])) (fun y hy => h2 y (by simpa using hy))
  simp [hx, a, b]
structure qN (w : World) (N K : Array Value) (wr : World) : Prop where
 bn : Blk wr w.heap.size 30 N
 bk : Blk wr (w.heap.size + 1) 46 K
 bl : Below w.heap.size w wr
theorem qN.later {w wr wr' : World} {N K : Array Value} (h : qN w N K wr) (hb : Below wr.heap.size wr wr') : qN w N K wr' := ⟨h.bn.below hb h.bn.lt, h.bk.below hb h.bk.lt, h.bl.trans (hb.mono h.bl.size)⟩
theorem qN.drew {w wr : World} {N K : Array Value} (h : qN w N K wr) : qN w N K wr.drew := h.later (Below.refl _ _).drew
def ik (w : World) (N K : Array Value) (ls : List Lk) (q : Int) (n gk : Nat) (iv : Value) (wr : World) : Prop := ∃ i : Nat, iv = .int .i64 i ∧ i ≤ n ∧ gk = n - i ∧ Hid (yr (ls.take i) q = false) ∧ Hid (qN w N K wr)
def ij (w : World) (N K : Array Value) (ls : List Lk) (k : Lk) (n gk : Nat) (iv : Value) (wr : World) : Prop := ∃ i : Nat, iv = .int .i64 i ∧ i ≤ n ∧ gk = n - i ∧ Hid (∀ x ∈ ls.take i, yM x k = true) ∧ Hid (qN w N K wr)
theorem oK (An Ad Al : Option Addr) (nn cn nd cd c Bn Bd Bl : Nat) (ns : List Nd) (ds : List Dv) (ls : List Lk) (d p q : Int) (w : World) (hn : Sl w Bn 3 An nn cn (ns.flatMap Nd.cells)) (hd : Sl w Bd 5 Ad nd cd (ds.flatMap Dv.cells)) (hs : Sl w Bl 3 Al ls.length c (ls.flatMap Lk.cells)) (hBn : Bn ≤ w.heap.size) (hBd : Bd ≤ w.heap.size) (hBl : Bl ≤ w.heap.size)
 (hsn : ∀ x ∈ ns, x.name.size ≤ 9223372036854775807) (hsd : ∀ x ∈ ds, x.name.size ≤ 9223372036854775807) :
 Calls Tryz.prog 40 #[.agg #[.slice An nn cn, .slice Ad nd cd], .slice Al ls.length c, .agg #[.int .i64 d, .int .i64 p, .int .i64 q]] w (pJ w ns ds ls ⟨d, p, q⟩) := by
 obtain ⟨n, hnl⟩ : ∃ n, n = ls.length := ⟨_, rfl⟩
 rw [← hnl] at hs ⊢
 have HNL := iD hnl
 have HE : Hid (zq ns ds ls ⟨d, p, q⟩ = if zL ns ds ls ≠ 0 then zL ns ds ls else if yJ ds ⟨d, p, q⟩ ≠ 0 then yJ ds ⟨d, p, q⟩ else if yr ls q = true then 4 else if yj ls ⟨d, p, q⟩ = true then 18 else if n = 128 then 1 else 0) := by unfold Hid zq; rw [hnl]
 have hle := hs.le
 have HN := iD hn; have HD := iD hd; have HS := iD hs; have HSN := iD hsn; have HSD := iD hsd
 have HST : Hid (qN w #[.slice An nn cn, .slice Ad nd cd] #[.int .i64 d, .int .i64 p, .int .i64 q] ((w.alloc (.cells #[.slice An nn cn, .slice Ad nd cd] 30)).alloc (.cells #[.int .i64 d, .int .i64 p, .int .i64 q] 46))) :=
  ⟨(Blk.new _ _ _).alloc _, by have := Blk.new (w.alloc (.cells #[.slice An nn cn, .slice Ad nd cd] 30)) 46 #[.int .i64 d, .int .i64 p, .int .i64 q]; simpa using this, ((Below.refl _ _).alloc lR _).alloc (by simp) _⟩
 clear hn hd hs hsn hsd hnl
 go_enter Tryz.func40, Tryz.ntmps40
 go_wp2_with fail
 generalize World.alloc (World.alloc _ _) _ = W at *
 have hz := HST.out.bl.size
 refine (xY An Ad Al nn cn nd cd n c Bn Bd Bl ns ds ls W (HN.out.below HST.out.bl hBn) (HD.out.below HST.out.bl hBd) (HS.out.below HST.out.bl hBl) (by omega) (by omega) (by omega) HSN.out HSD.out).mono ?_
 rintro e w1 ⟨rfl, hb1⟩
 have HS1 := iD (HST.out.later hb1)
 clear hb1 HST hz
 by_cases h0 : zL ns ds ls = 0; rotate_left
 ·have q0 : (zL ns ds ls != 0) = true := by simpa using h0
  have HR : Hid (zq ns ds ls ⟨d, p, q⟩ = zL ns ds ls) := by unfold Hid; rw [HE.out, if_pos h0]
  have HNZ := iD h0
  clear h0
  go_wp2_with fail
  go_ret2
  exact ⟨.inl (by rw [HR.out]; exact ⟨HNZ.out, rfl⟩), HS1.out.bl⟩
 have HG := iD (y8 h0)
 rw [h0]
 replace HE : Hid (zq ns ds ls ⟨d, p, q⟩ = if yJ ds ⟨d, p, q⟩ ≠ 0 then yJ ds ⟨d, p, q⟩ else if yr ls q = true then 4 else if yj ls ⟨d, p, q⟩ = true then 18 else if n = 128 then 1 else 0) := by unfold Hid; rw [HE.out, if_neg (by simp [h0])]
 clear h0
 have k0 : w1.cell? ⟨w.heap.size, 0, none⟩ = some (.slice An nn cn) := HS1.out.bn.cell 0
 have k1 : w1.cell? ⟨w.heap.size, 1, none⟩ = some (.slice Ad nd cd) := HS1.out.bn.cell 1
 have m0 : w1.cell? ⟨w.heap.size + 1, 0, none⟩ = some (.int .i64 d) := HS1.out.bk.cell 0
 have m1 : w1.cell? ⟨w.heap.size + 1, 1, none⟩ = some (.int .i64 p) := HS1.out.bk.cell 1
 have m2 : w1.cell? ⟨w.heap.size + 1, 2, none⟩ = some (.int .i64 q) := HS1.out.bk.cell 2
 have hz1 := HS1.out.bl.size
 go_wp2_with fail
 clear k0 k1 m0 m1 m2
 refine (re An Ad nn cn nd cd Bd ds d p q w1 (HD.out.below HS1.out.bl hBd) (by omega)).mono ?_
 rintro e w2 ⟨rfl, hb2⟩
 have HS2 := iD (HS1.out.later hb2)
 clear hb2 HS1 hz1
 by_cases h1 : yJ ds ⟨d, p, q⟩ = 0; rotate_left
 ·have q0 : (yJ ds ⟨d, p, q⟩ != 0) = true := by simpa using h1
  have HR : Hid (zq ns ds ls ⟨d, p, q⟩ = yJ ds ⟨d, p, q⟩) := by unfold Hid; rw [HE.out, if_pos h1]
  have HNZ := iD h1
  clear h1
  go_wp2_with fail
  go_ret2
  exact ⟨.inl (by rw [HR.out]; exact ⟨HNZ.out, rfl⟩), HS2.out.bl⟩
 rw [h1]
 replace HE : Hid (zq ns ds ls ⟨d, p, q⟩ = if yr ls q = true then 4 else if yj ls ⟨d, p, q⟩ = true then 18 else if n = 128 then 1 else 0) := by unfold Hid; rw [HE.out, if_neg (by simp [h1])]
 clear h1
 go_wp2_with fail
 go_loopg [10] n (ik w #[.slice An nn cn, .slice Ad nd cd] #[.int .i64 d, .int .i64 p, .int .i64 q] ls q n)
 case atStart => exact ⟨0, rfl, Nat.zero_le _, rfl, rfl, HS2⟩
 case round =>
  clear HS2
  obtain ⟨i, rfl, hi, rfl, hus, hst⟩ := hrel
  by_cases hlt : i < n
  ·obtain ⟨b, off, d1, p1, q1, rfl, hb, hx, c0, c1, c2⟩ := (HS.out.below hst.out.bl hBl).lock hlt
   have HX := iD hx
   have m2 : wr.cell? ⟨w.heap.size + 1, 2, none⟩ = some (.int .i64 q) := hst.out.bk.cell 2
   have HCS : Hid (wr.cell? ⟨b, off + i * 3 + 2, none⟩ = some (.int .i64 q1) ∧ wr.cell? ⟨w.heap.size + 1, 2, none⟩ = some (.int .i64 q)) := ⟨c2, m2⟩
   clear hx c0 c1 c2 m2
   by_cases hqq : q1 = q
   ·subst hqq
    have qd : (q1 == q1) = true := by simp
    have HUS : Hid (yr ls q1 = true) := by
     have := nY (k := i + 1) (i := ls.length) (ls := ls) (q := q1) (by rw [vX HX.out hus.out]; simp) (by have := HNL.out; omega)
     rwa [List.take_length] at this
    have HR : Hid (zq ns ds ls ⟨d, p, q1⟩ = 4) := by unfold Hid; rw [HE.out, if_pos HUS.out]
    go_upto_region 10 with (fail)
    refine zJ (S := fun W' => W'.cell? ⟨b, off + i * 3 + 2, none⟩ = some (.int .i64 q1) ∧ W'.cell? ⟨w.heap.size + 1, 2, none⟩ = some (.int .i64 q1)) (J := []) (by kernel_rfl) ?_ (fun AA => ?_)
    ·exact HCS.out
    try dsimp only at AA
    refine tk 0 33 (mf 8 1) AA ?_
    refine tk 1 34 (mf 8 2) AA ?_
    refine tk 2 35 (mf 8 3) AA ?_
    refine tk 3 36 (mf 8 4) AA ?_
    refine tk 4 37 (mf 8 5) AA ?_
    refine tk 5 38 (mf 8 6) AA ?_
    refine tk 6 39 (mf 8 7) AA ?_
    refine tk 7 40 (mf 8 8) AA ?_
    refine zH (by kernel_rfl) ?_ _
    clear AA
    go_wp2_with fail
    go_ret2
    exact ⟨.inl (by rw [HR.out]; exact ⟨by decide, rfl⟩), hst.out.drew.bl⟩
   ·have qd : (q1 == q) = false := by simpa using hqq
    have HO2 : Hid (yr (ls.take (i + 1)) q = false) := by unfold Hid; rw [vX HX.out hus.out]; simpa using hqq
    clear hqq
    go_upto_region 10 with (fail)
    refine zJ (S := fun W' => W'.cell? ⟨b, off + i * 3 + 2, none⟩ = some (.int .i64 q1) ∧ W'.cell? ⟨w.heap.size + 1, 2, none⟩ = some (.int .i64 q)) (J := []) (by kernel_rfl) ?_ (fun AA => ?_)
    ·exact HCS.out
    try dsimp only at AA
    refine tk 0 33 (mf 8 1) AA ?_
    refine tk 1 34 (mf 8 2) AA ?_
    refine tk 2 35 (mf 8 3) AA ?_
    refine tk 3 36 (mf 8 4) AA ?_
    refine tk 4 37 (mf 8 5) AA ?_
    refine tk 5 38 (mf 8 6) AA ?_
    refine tk 6 39 (mf 8 7) AA ?_
    refine tk 7 40 (mf 8 8) AA ?_
    refine zH (by kernel_rfl) ?_ _
    clear AA
    go_wp2_with fail
    go_roundg (n - (i + 1))
    case rel => exact ⟨i + 1, by go_num, by omega, rfl, HO2, hst.out.drew⟩
    case measure => omega
  ·obtain rfl : i = n := by omega
   have hii : decide (i < i) = false := by simp
   have HUS : Hid (yr ls q = false) := by
    have := hus.out
    rw [List.take_of_length_le (by have := HNL.out; omega)] at this
    exact this
   replace HE : Hid (zq ns ds ls ⟨d, p, q⟩ = if yj ls ⟨d, p, q⟩ = true then 18 else if i = 128 then 1 else 0) := by unfold Hid; rw [HE.out, if_neg (by rw [HUS.out]; simp)]
   have m0 : wr.cell? ⟨w.heap.size + 1, 0, none⟩ = some (.int .i64 d) := hst.out.bk.cell 0
   have hzr := hst.out.bl.size
   go_wp2_with fail
   clear m0 hii
   refine (yY Al i c Bl ls d wr (HS.out.below hst.out.bl hBl) (by omega)).mono ?_
   rintro e w3 ⟨rfl, hb3⟩
   have HS3 := iD (hst.out.later hb3)
   clear hb3 hst hzr
   have hn128 : i ≤ 128 := by have := HG.out.1; have := HNL.out; omega
   have hcase : (yw ls d = none ∧ yj ls ⟨d, p, q⟩ = false) ∨ (yw ls d = some p ∧ yj ls ⟨d, p, q⟩ = false) ∨ (∃ pv, yw ls d = some pv ∧ pv ≠ p ∧ yj ls ⟨d, p, q⟩ = true) := by
    have h := jR HG.out ⟨d, p, q⟩
    simp only at h
    rcases hl : yw ls d with _ | pv
    ·rw [hl] at h; exact .inl ⟨rfl, h⟩
    ·rw [hl] at h
     by_cases hp : pv = p
     ·subst hp; exact .inr (.inl ⟨rfl, by rw [h]; simp⟩)
     ·exact .inr (.inr ⟨pv, rfl, hp, by rw [h]; simp [hp]⟩)
   unfold uD
   have m1 : w3.cell? ⟨w.heap.size + 1, 1, none⟩ = some (.int .i64 p) := HS3.out.bk.cell 1
   rcases hcase with ⟨hl, ho⟩ | ⟨hl, ho⟩ | ⟨pv, hl, hp, ho⟩
   rotate_left 2
   ·rw [hl]
    have HR : Hid (zq ns ds ls ⟨d, p, q⟩ = 18) := by unfold Hid; rw [HE.out, if_pos ho]
    have qp : (pv != p) = true := by simpa using hp
    clear hl hp ho
    simp only [Option.getD_some, Option.isSome_some]
    go_wp2_with fail
    go_ret2
    exact ⟨.inl (by rw [HR.out]; exact ⟨by decide, rfl⟩), HS3.out.bl⟩
   all_goals
    rw [hl]
    have HO := iD ho
    have HE2 : Hid (zq ns ds ls ⟨d, p, q⟩ = if i = 128 then 1 else 0) := by unfold Hid; rw [HE.out, if_neg (by rw [HO.out]; simp)]
    clear hl ho
    have qpp : (p != p) = false := by simp
    simp only [Option.getD_some, Option.isSome_some, Option.getD_none, Option.isSome_none]
    by_cases h128 : i = 128
    ·have HR : Hid (zq ns ds ls ⟨d, p, q⟩ = 1) := by unfold Hid; rw [HE2.out, if_pos h128]
     have q1 : decide ((128 : Int) ≤ (i : Int)) = true := by simp; omega
     have q2 : decide (128 ≤ i) = true := by simp; omega
     clear h128
     go_wp2_with fail
     go_ret2
     exact ⟨.inl (by rw [HR.out]; exact ⟨by decide, rfl⟩), HS3.out.bl⟩
    have HR : Hid (zq ns ds ls ⟨d, p, q⟩ = 0) := by unfold Hid; rw [HE2.out, if_neg h128]
    have q1 : decide ((128 : Int) ≤ (i : Int)) = false := by simp; omega
    have q2 : decide (128 ≤ i) = false := by simp; omega
    clear h128 HE HE2
    go_wp2_with fail
    clear m1 qpp q1 q2
    go_loopg [13] i (ij w #[.slice An nn cn, .slice Ad nd cd] #[.int .i64 d, .int .i64 p, .int .i64 q] ls ⟨d, p, q⟩ i)
    case atStart => exact ⟨0, rfl, Nat.zero_le _, rfl, (fun x hx => by simp at hx), HS3⟩
    case round =>
     clear HS3
     obtain ⟨j, rfl, hj, rfl, hal, hst⟩ := hrel
     by_cases hjt : j < i
     ·obtain ⟨b, off, d1, p1, q1, rfl, hb, hx, c0, c1, c2⟩ := (HS.out.below hst.out.bl hBl).lock hjt
      have HX := iD hx
      have HCS : Hid (wr.cell? ⟨b, off + j * 3, none⟩ = some (.int .i64 d1) ∧ wr.cell? ⟨b, off + j * 3 + 1, none⟩ = some (.int .i64 p1) ∧ wr.cell? ⟨b, off + j * 3 + 2, none⟩ = some (.int .i64 q1) ∧ wr.cell? ⟨w.heap.size + 1, 0, none⟩ = some (.int .i64 d) ∧ wr.cell? ⟨w.heap.size + 1, 1, none⟩ = some (.int .i64 p) ∧ wr.cell? ⟨w.heap.size + 1, 2, none⟩ = some (.int .i64 q)) := ⟨c0, c1, c2, hst.out.bk.cell 0, hst.out.bk.cell 1, hst.out.bk.cell 2⟩
      have HBE := iD (qG ⟨d1, p1, q1⟩ ⟨d, p, q⟩ wr.drew)
      clear hx c0 c1 c2
      rcases hbb : yM ⟨d1, p1, q1⟩ ⟨d, p, q⟩ with _ | _
      ·rw [hbb] at HBE
       have HSTOP : Hid (∀ x, ls[j]? = some x → yM x ⟨d, p, q⟩ = false) := fun x hx => by rw [HX.out] at hx; injection hx with hx; subst hx; exact hbb
       clear hbb
       go_upto_region 18 with (fail)
       refine zJ (S := fun W' => W'.cell? ⟨b, off + j * 3, none⟩ = some (.int .i64 d1) ∧ W'.cell? ⟨b, off + j * 3 + 1, none⟩ = some (.int .i64 p1) ∧ W'.cell? ⟨b, off + j * 3 + 2, none⟩ = some (.int .i64 q1) ∧ W'.cell? ⟨w.heap.size + 1, 0, none⟩ = some (.int .i64 d) ∧ W'.cell? ⟨w.heap.size + 1, 1, none⟩ = some (.int .i64 p) ∧ W'.cell? ⟨w.heap.size + 1, 2, none⟩ = some (.int .i64 q)) (J := []) (by kernel_rfl) ?_ (fun AA => ?_)
       ·exact HCS.out
       try dsimp only at AA
       refine tk 0 58 (mf 12 1) AA ?_
       refine tk 1 59 (mf 12 2) AA ?_
       refine tk 2 60 (mf 12 3) AA ?_
       refine tk 3 61 (mf 12 4) AA ?_
       refine tk 4 62 (mf 12 5) AA ?_
       refine tk 5 63 (mf 12 6) AA ?_
       refine tk 6 64 (mf 12 7) AA ?_
       refine tk 7 65 (mf 12 8) AA ?_
       refine tk 8 66 (mf 12 9) AA ?_
       refine tk 9 67 (mf 12 10) AA ?_
       refine zG (k := 10) (mf 12 11) (by kernel_rfl) (by kernel_rfl) rfl (fun K hK => ?_)
       (go_simp; refine HBE.out.mono ?_; rintro e w4 ⟨rfl, hb4⟩; go_simp)
       refine hK.out _ _ (fun _ => ?_) (fun AA' => ?_)
       ·exact ⟨zE hb4 HCS.out.1, zE hb4 HCS.out.2.1, zE hb4 HCS.out.2.2.1, zE hb4 HCS.out.2.2.2.1, zE hb4 HCS.out.2.2.2.2.1, zE hb4 HCS.out.2.2.2.2.2⟩
       replace AA := AA' rfl
       clear AA' hK K
       try dsimp only at AA
       refine tk 11 69 (mf 12 12) AA ?_
       refine zH (by kernel_rfl) ?_ _
       have HS4 := iD (hst.out.drew.later hb4)
       have hall := hal.out
       clear AA hb4 hst HCS HBE hal
       obtain ⟨hTW, hDW⟩ := rK (p := fun x => yM x ⟨d, p, q⟩) hall HSTOP.out
       have HINS : Hid (wI ⟨d, p, q⟩ ls = ls.take j ++ ⟨d, p, q⟩ :: ls.drop j) := by unfold Hid wI; rw [hTW, hDW]
       have HSL4 := iD (HS.out.below HS4.out.bl hBl)
       have hjc : j ≤ c := by omega
       have HSK := iD (HSL4.out.takeK (fun _ => rfl) (by decide) hj)
       have HSD := iD (HSL4.out.dropK (fun _ => rfl) (by decide) hj)
       have HBX : Hid (w4.cell? ⟨w.heap.size + 1, 0, none⟩ = some (.int .i64 d) ∧ w4.cell? ⟨w.heap.size + 1, 1, none⟩ = some (.int .i64 p) ∧ w4.cell? ⟨w.heap.size + 1, 2, none⟩ = some (.int .i64 q)) := ⟨HS4.out.bk.cell 0, HS4.out.bk.cell 1, HS4.out.bk.cell 2⟩
       have HCUT : Hid (∀ W, (Instr.sliceAt 33 (.slice (some ⟨b, off, none⟩) i c) (some (.int .i64 (j : Int))) none none).run Tryz.prog W = .ok (.slice (qB (some ⟨b, off, none⟩) c j 3) (i - j) (c - j)) W) := fun W => vO W _ _ _ _ hj
       clear hTW hDW hall HSTOP
       go_upto_region 20 with (fail)
       refine zJ (S := fun W' => W'.cell? ⟨w.heap.size + 1, 0, none⟩ = some (.int .i64 d) ∧ W'.cell? ⟨w.heap.size + 1, 1, none⟩ = some (.int .i64 p) ∧ W'.cell? ⟨w.heap.size + 1, 2, none⟩ = some (.int .i64 q)) (J := []) (by kernel_rfl) ?_ (fun AA => ?_)
       ·exact HBX.out
       try dsimp only at AA
       refine tk 0 72 (mf 8 1) AA ?_
       refine tk 1 73 (mf 8 2) AA ?_
       refine tk 2 74 (mf 8 3) AA ?_
       refine tk 4 76 #[tt, tt, tt, ff, tt, ff, ff, ff] AA ?_
       refine vM (i := 3) (k := 5) (mf 8 5) #[tt, tt, tt, ff, tt, tt, ff, ff] (by kernel_rfl) (by kernel_rfl) (by kernel_rfl) rfl rfl (fun K hK => ?_) (fun K hK => ?_)
       ·(refine yZ (d := some 75) (by rfl) (by rfl) _ (.tmp 74) (by rfl) yd (by rfl) (World.ownsRow_nil _ w4.heap.size _ _) (by rfl) HSK.out (yh _) (by omega) (by omega) (by simp) ?_; intro A1 c1 w5 hown5 hgr5 hat5; simp only [Nat.zero_add, List.nil_append] at hown5 hgr5 hat5 ⊢)
        refine hK.out _ _ (fun _ => ?_) (fun AA' => ?_)
        ·exact ⟨zE (zp hgr5) HBX.out.1, zE (zp hgr5) HBX.out.2.1, zE (zp hgr5) HBX.out.2.2⟩
        replace AA := AA' rfl
        clear AA' hK K
        try dsimp only at AA
        refine zG (k := 5) (mf 8 6) (by kernel_rfl) (by kernel_rfl) rfl (fun K hK => ?_)
        go_simp
        refine hK.out _ _ (fun _ => ?_) (fun AA' => ?_)
        ·exact ⟨yK _ (zE (zp hgr5) HBX.out.1), yK _ (zE (zp hgr5) HBX.out.2.1), yK _ (zE (zp hgr5) HBX.out.2.2)⟩
        replace AA := AA' rfl
        clear AA' hK K
        try dsimp only at AA
        refine zG (k := 6) (mf 8 7) (by kernel_rfl) (by kernel_rfl) rfl (fun K hK => ?_)
        (refine yZ (d := some 78) (by rfl) (by rfl) (.tmp 75) (.tmp 77) (by rfl) yd (by rfl) (World.ownsRow.alloc hown5 _) (by rfl) (Sl.newest (n := 1) (by simp) (by rfl) (by decide)) (by simp [Value.oneCell']) (by omega) (by omega) (by have := hgr5.size; simp at this ⊢; omega) ?_; intro A2 c2 w6 hown6 hgr6 hat6)
        refine hK.out _ _ (fun _ => ?_) (fun AA' => ?_)
        ·exact ⟨zE (xT hgr5 hown5 hgr6) HBX.out.1, zE (xT hgr5 hown5 hgr6) HBX.out.2.1, zE (xT hgr5 hown5 hgr6) HBX.out.2.2⟩
        replace AA := AA' rfl
        clear AA' hK K
        try dsimp only at AA
        refine tk 7 14 (mf 8 8) AA ?_
        refine zH (by kernel_rfl) ?_ _
        clear AA
        have HB46 : Hid (Below w4.heap.size w4 w6) := by first | exact xT hgr5 hown5 hgr6 | exact xD hgr5 hown5 hgr6
        have HO6 := iD hown6
        have HSD6 := iD (HSD.out.below HB46.out (by have := HS4.out.bl.size; omega))
        have hcut := HCUT.out
        have hz46 := HB46.out.size
        clear hown5 hgr5 hat5 hown6 hgr6 hat6
        go_wp2_with (at_builtin; go_must (refine zW rfl (.tmp 79) (.tmp 82) rfl yd (by rfl) HO6.out (by rfl) HSD6.out (yh _) (by omega) (by omega) (by omega) ?_; intro A3 c3 w7 hown7 hgr7 hat7; have HO7 := iD hown7; have HG7 := iD hgr7; clear hown7 hgr7 hat7))
        go_ret2
        have hlen : ls.length + 1 = j + 1 + (i - j) := by have := HNL.out; omega
        refine ⟨.inr ⟨HR.out, A3, c3, by rw [hlen]; rfl, ?_⟩, ?_⟩
        ·unfold Hid yI; rw [hlen, HINS.out]; rw [List.flatMap_append, List.flatMap_cons, ← List.append_assoc]; exact HO7.out.mono (by have := HS4.out.bl.size; omega)
        ·have h1 := HS4.out.bl.trans (HB46.out.mono HS4.out.bl.size); exact h1.trans ⟨HG7.out.os, HG7.out.tape, HG7.out.output, HG7.out.size, fun t ht => HG7.out.block t (by have := h1.size; omega) (fun e => by have := (HO6.out.lt t e.symm).1; have := HS4.out.bl.size; omega)⟩
       ·go_simp
        refine hK.out _ _ (fun _ => ?_) (fun AA' => ?_)
        ·exact ⟨yK _ HBX.out.1, yK _ HBX.out.2.1, yK _ HBX.out.2.2⟩
        replace AA := AA' rfl
        clear AA' hK K
        try dsimp only at AA
        refine zG (k := 3) (mf 8 6) (by kernel_rfl) (by kernel_rfl) rfl (fun K hK => ?_)
        (refine yZ (d := some 75) (by rfl) (by rfl) _ (.tmp 74) (by rfl) yd (by rfl) (World.ownsRow_nil _ w4.heap.size _ _) (by rfl) (HSK.out.alloc (by have := HS4.out.bl.size; simp; omega) _) (yh _) (by omega) (by omega) (by simp) ?_; intro A1 c1 w5 hown5 hgr5 hat5; simp only [Nat.zero_add, List.nil_append] at hown5 hgr5 hat5 ⊢)
        refine hK.out _ _ (fun _ => ?_) (fun AA' => ?_)
        ·exact ⟨zE (xy hgr5) HBX.out.1, zE (xy hgr5) HBX.out.2.1, zE (xy hgr5) HBX.out.2.2⟩
        replace AA := AA' rfl
        clear AA' hK K
        try dsimp only at AA
        refine zG (k := 6) (mf 8 7) (by kernel_rfl) (by kernel_rfl) rfl (fun K hK => ?_)
        (refine yZ (d := some 78) (by rfl) (by rfl) (.tmp 75) (.tmp 77) (by rfl) yd (by rfl) hown5 (by rfl) ((Sl.newest (w := w4.drew) (cs := #[.int .i64 d, .int .i64 p, .int .i64 q]) (T := 46) (n := 1) (size := 3) rfl (by rfl) (by decide)).below (zp hgr5) (by simp)) (by simp [Value.oneCell']) (by omega) (by omega) (by have := hgr5.size; simp at this ⊢; omega) ?_; intro A2 c2 w6 hown6 hgr6 hat6)
        refine hK.out _ _ (fun _ => ?_) (fun AA' => ?_)
        ·exact ⟨zE (xD hgr5 hown5 hgr6) HBX.out.1, zE (xD hgr5 hown5 hgr6) HBX.out.2.1, zE (xD hgr5 hown5 hgr6) HBX.out.2.2⟩
        replace AA := AA' rfl
        clear AA' hK K
        try dsimp only at AA
        refine tk 7 14 (mf 8 8) AA ?_
        refine zH (by kernel_rfl) ?_ _
        clear AA
        have HB46 : Hid (Below w4.heap.size w4 w6) := by first | exact xT hgr5 hown5 hgr6 | exact xD hgr5 hown5 hgr6
        have HO6 := iD hown6
        have HSD6 := iD (HSD.out.below HB46.out (by have := HS4.out.bl.size; omega))
        have hcut := HCUT.out
        have hz46 := HB46.out.size
        clear hown5 hgr5 hat5 hown6 hgr6 hat6
        go_wp2_with (at_builtin; go_must (refine zW rfl (.tmp 79) (.tmp 82) rfl yd (by rfl) HO6.out (by rfl) HSD6.out (yh _) (by omega) (by omega) (by omega) ?_; intro A3 c3 w7 hown7 hgr7 hat7; have HO7 := iD hown7; have HG7 := iD hgr7; clear hown7 hgr7 hat7))
        go_ret2
        have hlen : ls.length + 1 = j + 1 + (i - j) := by have := HNL.out; omega
        refine ⟨.inr ⟨HR.out, A3, c3, by rw [hlen]; rfl, ?_⟩, ?_⟩
        ·unfold Hid yI; rw [hlen, HINS.out]; rw [List.flatMap_append, List.flatMap_cons, ← List.append_assoc]; exact HO7.out.mono (by have := HS4.out.bl.size; omega)
        ·have h1 := HS4.out.bl.trans (HB46.out.mono HS4.out.bl.size); exact h1.trans ⟨HG7.out.os, HG7.out.tape, HG7.out.output, HG7.out.size, fun t ht => HG7.out.block t (by have := h1.size; omega) (fun e => by have := (HO6.out.lt t e.symm).1; have := HS4.out.bl.size; omega)⟩
      ·rw [hbb] at HBE
       have HAL : Hid (∀ x ∈ ls.take (j + 1), yM x ⟨d, p, q⟩ = true) := fun x hx => by
        rw [zt HX.out] at hx
        rcases List.mem_append.1 hx with h | h
        ·exact hal.out x h
        ·rw [List.mem_singleton.1 h]; exact hbb
       clear hbb
       go_upto_region 18 with (fail)
       refine zJ (S := fun W' => W'.cell? ⟨b, off + j * 3, none⟩ = some (.int .i64 d1) ∧ W'.cell? ⟨b, off + j * 3 + 1, none⟩ = some (.int .i64 p1) ∧ W'.cell? ⟨b, off + j * 3 + 2, none⟩ = some (.int .i64 q1) ∧ W'.cell? ⟨w.heap.size + 1, 0, none⟩ = some (.int .i64 d) ∧ W'.cell? ⟨w.heap.size + 1, 1, none⟩ = some (.int .i64 p) ∧ W'.cell? ⟨w.heap.size + 1, 2, none⟩ = some (.int .i64 q)) (J := []) (by kernel_rfl) ?_ (fun AA => ?_)
       ·exact HCS.out
       try dsimp only at AA
       refine tk 0 58 (mf 12 1) AA ?_
       refine tk 1 59 (mf 12 2) AA ?_
       refine tk 2 60 (mf 12 3) AA ?_
       refine tk 3 61 (mf 12 4) AA ?_
       refine tk 4 62 (mf 12 5) AA ?_
       refine tk 5 63 (mf 12 6) AA ?_
       refine tk 6 64 (mf 12 7) AA ?_
       refine tk 7 65 (mf 12 8) AA ?_
       refine tk 8 66 (mf 12 9) AA ?_
       refine tk 9 67 (mf 12 10) AA ?_
       refine zG (k := 10) (mf 12 11) (by kernel_rfl) (by kernel_rfl) rfl (fun K hK => ?_)
       (go_simp; refine HBE.out.mono ?_; rintro e w4 ⟨rfl, hb4⟩; go_simp)
       refine hK.out _ _ (fun _ => ?_) (fun AA' => ?_)
       ·exact ⟨zE hb4 HCS.out.1, zE hb4 HCS.out.2.1, zE hb4 HCS.out.2.2.1, zE hb4 HCS.out.2.2.2.1, zE hb4 HCS.out.2.2.2.2.1, zE hb4 HCS.out.2.2.2.2.2⟩
       replace AA := AA' rfl
       clear AA' hK K
       try dsimp only at AA
       refine tk 11 69 (mf 12 12) AA ?_
       refine zH (by kernel_rfl) ?_ _
       have HS4 := iD (hst.out.drew.later hb4)
       clear AA hb4 hst HCS HBE hal
       go_wp2_with fail
       go_roundg (i - (j + 1))
       case rel => exact ⟨j + 1, by go_num, by omega, rfl, HAL, HS4⟩
       case measure => omega
     ·have hjj : decide (j < i) = false := by simpa using hjt
      have HSTOP : Hid (∀ x, ls[j]? = some x → yM x ⟨d, p, q⟩ = false) := fun x hx => by
       have := (List.getElem?_eq_some_iff.1 hx).1
       have := HNL.out
       omega
      go_upto_region 18 with (fail)
      refine zJ (S := fun _ => True) (J := []) (by kernel_rfl) ?_ (fun AA => ?_)
      ·exact trivial
      try dsimp only at AA
      refine tk 0 58 (mf 12 1) AA ?_
      refine tk 1 59 (mf 12 2) AA ?_
      refine tk 2 60 (mf 12 3) AA ?_
      refine tk 3 61 (mf 12 4) AA ?_
      refine tk 4 62 (mf 12 5) AA ?_
      refine ts 5 63 (mf 12 6) AA ?_
      refine ts 6 64 (mf 12 7) AA ?_
      refine ts 7 65 (mf 12 8) AA ?_
      refine ts 8 66 (mf 12 9) AA ?_
      refine ts 9 67 (mf 12 10) AA ?_
      refine ts 10 68 (mf 12 11) AA ?_
      refine tk 11 69 (mf 12 12) AA ?_
      refine zH (by kernel_rfl) ?_ _
      have HS4 := iD hst.out.drew
      have hall := hal.out
      clear AA hst hal hjj
      generalize World.drew _ = w4 at *
      obtain ⟨hTW, hDW⟩ := rK (p := fun x => yM x ⟨d, p, q⟩) hall HSTOP.out
      have HINS : Hid (wI ⟨d, p, q⟩ ls = ls.take j ++ ⟨d, p, q⟩ :: ls.drop j) := by unfold Hid wI; rw [hTW, hDW]
      have HSL4 := iD (HS.out.below HS4.out.bl hBl)
      have hjc : j ≤ c := by omega
      have HSK := iD (HSL4.out.takeK (fun _ => rfl) (by decide) hj)
      have HSD := iD (HSL4.out.dropK (fun _ => rfl) (by decide) hj)
      have HBX : Hid (w4.cell? ⟨w.heap.size + 1, 0, none⟩ = some (.int .i64 d) ∧ w4.cell? ⟨w.heap.size + 1, 1, none⟩ = some (.int .i64 p) ∧ w4.cell? ⟨w.heap.size + 1, 2, none⟩ = some (.int .i64 q)) := ⟨HS4.out.bk.cell 0, HS4.out.bk.cell 1, HS4.out.bk.cell 2⟩
      have HCUT : Hid (∀ W, (Instr.sliceAt 33 (.slice Al i c) (some (.int .i64 (j : Int))) none none).run Tryz.prog W = .ok (.slice (qB Al c j 3) (i - j) (c - j)) W) := fun W => vO W _ _ _ _ hj
      clear hTW hDW hall HSTOP
      go_upto_region 20 with (fail)
      refine zJ (S := fun W' => W'.cell? ⟨w.heap.size + 1, 0, none⟩ = some (.int .i64 d) ∧ W'.cell? ⟨w.heap.size + 1, 1, none⟩ = some (.int .i64 p) ∧ W'.cell? ⟨w.heap.size + 1, 2, none⟩ = some (.int .i64 q)) (J := []) (by kernel_rfl) ?_ (fun AA => ?_)
      ·exact HBX.out
      try dsimp only at AA
      refine tk 0 72 (mf 8 1) AA ?_
      refine tk 1 73 (mf 8 2) AA ?_
      refine tk 2 74 (mf 8 3) AA ?_
      refine tk 4 76 #[tt, tt, tt, ff, tt, ff, ff, ff] AA ?_
      refine vM (i := 3) (k := 5) (mf 8 5) #[tt, tt, tt, ff, tt, tt, ff, ff] (by kernel_rfl) (by kernel_rfl) (by kernel_rfl) rfl rfl (fun K hK => ?_) (fun K hK => ?_)
      ·(refine yZ (d := some 75) (by rfl) (by rfl) _ (.tmp 74) (by rfl) yd (by rfl) (World.ownsRow_nil _ w4.heap.size _ _) (by rfl) HSK.out (yh _) (by omega) (by omega) (by simp) ?_; intro A1 c1 w5 hown5 hgr5 hat5; simp only [Nat.zero_add, List.nil_append] at hown5 hgr5 hat5 ⊢)
       refine hK.out _ _ (fun _ => ?_) (fun AA' => ?_)
       ·exact ⟨zE (zp hgr5) HBX.out.1, zE (zp hgr5) HBX.out.2.1, zE (zp hgr5) HBX.out.2.2⟩
       replace AA := AA' rfl
       clear AA' hK K
       try dsimp only at AA
       refine zG (k := 5) (mf 8 6) (by kernel_rfl) (by kernel_rfl) rfl (fun K hK => ?_)
       go_simp
       refine hK.out _ _ (fun _ => ?_) (fun AA' => ?_)
       ·exact ⟨yK _ (zE (zp hgr5) HBX.out.1), yK _ (zE (zp hgr5) HBX.out.2.1), yK _ (zE (zp hgr5) HBX.out.2.2)⟩
       replace AA := AA' rfl
       clear AA' hK K
       try dsimp only at AA
       refine zG (k := 6) (mf 8 7) (by kernel_rfl) (by kernel_rfl) rfl (fun K hK => ?_)
       (refine yZ (d := some 78) (by rfl) (by rfl) (.tmp 75) (.tmp 77) (by rfl) yd (by rfl) (World.ownsRow.alloc hown5 _) (by rfl) (Sl.newest (n := 1) (by simp) (by rfl) (by decide)) (by simp [Value.oneCell']) (by omega) (by omega) (by have := hgr5.size; simp at this ⊢; omega) ?_; intro A2 c2 w6 hown6 hgr6 hat6)
       refine hK.out _ _ (fun _ => ?_) (fun AA' => ?_)
       ·exact ⟨zE (xT hgr5 hown5 hgr6) HBX.out.1, zE (xT hgr5 hown5 hgr6) HBX.out.2.1, zE (xT hgr5 hown5 hgr6) HBX.out.2.2⟩
       replace AA := AA' rfl
       clear AA' hK K
       try dsimp only at AA
       refine tk 7 14 (mf 8 8) AA ?_
       refine zH (by kernel_rfl) ?_ _
       clear AA
       have HB46 : Hid (Below w4.heap.size w4 w6) := by first | exact xT hgr5 hown5 hgr6 | exact xD hgr5 hown5 hgr6
       have HO6 := iD hown6
       have HSD6 := iD (HSD.out.below HB46.out (by have := HS4.out.bl.size; omega))
       have hcut := HCUT.out
       have hz46 := HB46.out.size
       clear hown5 hgr5 hat5 hown6 hgr6 hat6
       go_wp2_with (at_builtin; go_must (refine zW rfl (.tmp 79) (.tmp 82) rfl yd (by rfl) HO6.out (by rfl) HSD6.out (yh _) (by omega) (by omega) (by omega) ?_; intro A3 c3 w7 hown7 hgr7 hat7; have HO7 := iD hown7; have HG7 := iD hgr7; clear hown7 hgr7 hat7))
       go_ret2
       have hlen : ls.length + 1 = j + 1 + (i - j) := by have := HNL.out; omega
       refine ⟨.inr ⟨HR.out, A3, c3, by rw [hlen]; rfl, ?_⟩, ?_⟩
       ·unfold Hid yI; rw [hlen, HINS.out]; rw [List.flatMap_append, List.flatMap_cons, ← List.append_assoc]; exact HO7.out.mono (by have := HS4.out.bl.size; omega)
       ·have h1 := HS4.out.bl.trans (HB46.out.mono HS4.out.bl.size); exact h1.trans ⟨HG7.out.os, HG7.out.tape, HG7.out.output, HG7.out.size, fun t ht => HG7.out.block t (by have := h1.size; omega) (fun e => by have := (HO6.out.lt t e.symm).1; have := HS4.out.bl.size; omega)⟩
      ·go_simp
       refine hK.out _ _ (fun _ => ?_) (fun AA' => ?_)
       ·exact ⟨yK _ HBX.out.1, yK _ HBX.out.2.1, yK _ HBX.out.2.2⟩
       replace AA := AA' rfl
       clear AA' hK K
       try dsimp only at AA
       refine zG (k := 3) (mf 8 6) (by kernel_rfl) (by kernel_rfl) rfl (fun K hK => ?_)
       (refine yZ (d := some 75) (by rfl) (by rfl) _ (.tmp 74) (by rfl) yd (by rfl) (World.ownsRow_nil _ w4.heap.size _ _) (by rfl) (HSK.out.alloc (by have := HS4.out.bl.size; simp; omega) _) (yh _) (by omega) (by omega) (by simp) ?_; intro A1 c1 w5 hown5 hgr5 hat5; simp only [Nat.zero_add, List.nil_append] at hown5 hgr5 hat5 ⊢)
       refine hK.out _ _ (fun _ => ?_) (fun AA' => ?_)
       ·exact ⟨zE (xy hgr5) HBX.out.1, zE (xy hgr5) HBX.out.2.1, zE (xy hgr5) HBX.out.2.2⟩
       replace AA := AA' rfl
       clear AA' hK K
       try dsimp only at AA
       refine zG (k := 6) (mf 8 7) (by kernel_rfl) (by kernel_rfl) rfl (fun K hK => ?_)
       (refine yZ (d := some 78) (by rfl) (by rfl) (.tmp 75) (.tmp 77) (by rfl) yd (by rfl) hown5 (by rfl) ((Sl.newest (w := w4.drew) (cs := #[.int .i64 d, .int .i64 p, .int .i64 q]) (T := 46) (n := 1) (size := 3) rfl (by rfl) (by decide)).below (zp hgr5) (by simp)) (by simp [Value.oneCell']) (by omega) (by omega) (by have := hgr5.size; simp at this ⊢; omega) ?_; intro A2 c2 w6 hown6 hgr6 hat6)
       refine hK.out _ _ (fun _ => ?_) (fun AA' => ?_)
       ·exact ⟨zE (xD hgr5 hown5 hgr6) HBX.out.1, zE (xD hgr5 hown5 hgr6) HBX.out.2.1, zE (xD hgr5 hown5 hgr6) HBX.out.2.2⟩
       replace AA := AA' rfl
       clear AA' hK K
       try dsimp only at AA
       refine tk 7 14 (mf 8 8) AA ?_
       refine zH (by kernel_rfl) ?_ _
       clear AA
       have HB46 : Hid (Below w4.heap.size w4 w6) := by first | exact xT hgr5 hown5 hgr6 | exact xD hgr5 hown5 hgr6
       have HO6 := iD hown6
       have HSD6 := iD (HSD.out.below HB46.out (by have := HS4.out.bl.size; omega))
       have hcut := HCUT.out
       have hz46 := HB46.out.size
       clear hown5 hgr5 hat5 hown6 hgr6 hat6
       go_wp2_with (at_builtin; go_must (refine zW rfl (.tmp 79) (.tmp 82) rfl yd (by rfl) HO6.out (by rfl) HSD6.out (yh _) (by omega) (by omega) (by omega) ?_; intro A3 c3 w7 hown7 hgr7 hat7; have HO7 := iD hown7; have HG7 := iD hgr7; clear hown7 hgr7 hat7))
       go_ret2
       have hlen : ls.length + 1 = j + 1 + (i - j) := by have := HNL.out; omega
       refine ⟨.inr ⟨HR.out, A3, c3, by rw [hlen]; rfl, ?_⟩, ?_⟩
       ·unfold Hid yI; rw [hlen, HINS.out]; rw [List.flatMap_append, List.flatMap_cons, ← List.append_assoc]; exact HO7.out.mono (by have := HS4.out.bl.size; omega)
       ·have h1 := HS4.out.bl.trans (HB46.out.mono HS4.out.bl.size); exact h1.trans ⟨HG7.out.os, HG7.out.tape, HG7.out.output, HG7.out.size, fun t ht => HG7.out.block t (by have := h1.size; omega) (fun e => by have := (HO6.out.lt t e.symm).1; have := HS4.out.bl.size; omega)⟩
end
section
open Go.RowKit
structure Fd where
 s : List Int
 ls : List Lk
 st : List Int
theorem q9 {l : List Int} {k : Nat} {x : Int} (h : l[k]? = some x) : l.getD k 0 = x := by rw [List.getD_eq_getElem?_getD, h]; rfl
def vx (nd : Nat) (st : List Int) (i : Nat) : Bool := match st[i]? with
 | none => false
 | some d => decide (d < 0) || decide ((nd : Int) ≤ d) || (decide (0 < i) && decide (d ≤ st.getD (i - 1) 0))
def xh (nd : Nat) (st : List Int) : Prop := ∀ i, i < st.length → vx nd st i = false
def uk (s : List Int) (ls : List Lk) : Prop := ∀ k ∈ ls, s.getD k.dev.toNat 0 = k.pos
open Classical in
noncomputable def zk (ns : List Nd) (ds : List Dv) (F : Fd) : Int := if zV ns ds F.s ≠ 0 then zV ns ds F.s else if zL ns ds F.ls ≠ 0 then zL ns ds F.ls else if uk F.s F.ls then (if xh ds.length F.st then 0 else 8) else 10
section
variable {ns : List Nd} {ds : List Dv} {F : Fd}
theorem ud (h : zV ns ds F.s ≠ 0) : zk ns ds F = zV ns ds F.s := by unfold zk; rw [if_pos h]
theorem ue (h : zV ns ds F.s = 0) (h1 : zL ns ds F.ls ≠ 0) : zk ns ds F = zL ns ds F.ls := by unfold zk; rw [if_neg (by simp [h]), if_pos h1]
theorem r8 (h : zV ns ds F.s = 0) (h1 : zL ns ds F.ls = 0) (h2 : ¬ uk F.s F.ls) : zk ns ds F = 10 := by unfold zk; rw [if_neg (by simp [h]), if_neg (by simp [h1]), if_neg h2]
theorem vF (h : zV ns ds F.s = 0) (h1 : zL ns ds F.ls = 0) (h2 : uk F.s F.ls) (h3 : ¬ xh ds.length F.st) : zk ns ds F = 8 := by unfold zk; rw [if_neg (by simp [h]), if_neg (by simp [h1]), if_pos h2, if_neg h3]
theorem wJ (h : zV ns ds F.s = 0) (h1 : zL ns ds F.ls = 0) (h2 : uk F.s F.ls) (h3 : xh ds.length F.st) : zk ns ds F = 0 := by unfold zk; rw [if_neg (by simp [h]), if_neg (by simp [h1]), if_pos h2, if_pos h3]
theorem yo (h : zk ns ds F = 0) : zV ns ds F.s = 0 ∧ zL ns ds F.ls = 0 ∧ uk F.s F.ls ∧ xh ds.length F.st := by
 by_cases h1 : zV ns ds F.s = 0
 ·by_cases h2 : zL ns ds F.ls = 0
  ·by_cases h3 : uk F.s F.ls
   ·by_cases h4 : xh ds.length F.st
    ·exact ⟨h1, h2, h3, h4⟩
    ·rw [vF h1 h2 h3 h4] at h; cases h
   ·rw [r8 h1 h2 h3] at h; cases h
  ·rw [ue h1 h2] at h; exact absurd h h2
 ·rw [ud h1] at h; exact absurd h h1
theorem yD {s : List Int} (h : zV ns ds s = 0) : zX ns ds = 0 ∧ s.length = ds.length ∧ ∀ p ∈ s, yv p = true := by
 unfold zV at h
 split at h
 ·next h1 => exact absurd h h1
 ·next h1 =>
  split at h
  ·cases h
  ·next h2 =>
   split at h
   ·next h3 => exact ⟨by simpa using h1, by omega, h3⟩
   ·cases h
theorem sN {k : Lk} (h : yJ ds k = 0) : 0 ≤ k.dev ∧ k.dev < ds.length ∧ xU ds k.dev ≠ 5 ∧ (k.pos = 1 ∨ k.pos = 2) ∧ 0 ≤ k.key ∧ k.key ≤ 65536 := by
 unfold yJ at h
 repeat' split at h
 all_goals first | (exfalso; omega) | (refine ⟨?_, ?_, ?_, ?_, ?_, ?_⟩ <;> first | omega | assumption)
end
theorem tf : ∀ {a b : List Int}, a.Pairwise (· < ·) → b.Pairwise (· < ·) → (∀ x, x ∈ a ↔ x ∈ b) → a = b
 | [], [], _, _, _ => rfl
 | [], y :: b, _, _, h => by have := (h y).2 (List.mem_cons_self ..); cases this
 | x :: a, [], _, _, h => by have := (h x).1 (List.mem_cons_self ..); cases this
 | x :: a, y :: b, ha, hb, h => by
  rw [List.pairwise_cons] at ha hb
  have e : x = y := by
   rcases List.mem_cons.1 ((h x).1 (List.mem_cons_self ..)) with h1 | h1
   ·exact h1
   ·rcases List.mem_cons.1 ((h y).2 (List.mem_cons_self ..)) with h2 | h2
    ·exact h2.symm
    ·have := hb.1 x h1; have := ha.1 y h2; omega
  subst e
  congr 1
  refine tf ha.2 hb.2 fun z => ⟨fun hz => ?_, fun hz => ?_⟩
  ·rcases List.mem_cons.1 ((h z).1 (List.mem_cons_of_mem _ hz)) with h1 | h1
   ·subst h1; exact absurd (ha.1 z hz) (by omega)
   ·exact h1
  ·rcases List.mem_cons.1 ((h z).2 (List.mem_cons_of_mem _ hz)) with h1 | h1
   ·subst h1; exact absurd (hb.1 z hz) (by omega)
   ·exact h1
def rY (n : Nat) : List Int := (List.range n).map fun v : Nat => (v : Int)
theorem qY (n : Nat) : rY (n + 1) = rY n ++ [(n : Int)] := by unfold rY; rw [List.range_succ, List.map_append]; rfl
theorem rX {n : Nat} {x : Int} : x ∈ rY n ↔ 0 ≤ x ∧ x < n := by
 unfold rY
 rw [List.mem_map]
 constructor
 ·rintro ⟨v, hv, rfl⟩; have := List.mem_range.1 hv; omega
 ·intro h; exact ⟨x.toNat, List.mem_range.2 (by omega), by omega⟩
theorem oH : ∀ n, (rY n).Pairwise (· < ·)
 | 0 => by unfold rY; exact List.Pairwise.nil
 | n + 1 => by
  rw [qY, List.pairwise_append]
  exact ⟨oH n, List.pairwise_singleton _ _, fun a ha b hb => by rw [List.mem_singleton.1 hb]; exact (rX.1 ha).2⟩
def xH (nd : Nat) (st : List Int) (d : Int) (b : Bool) : List Int := (rY nd).filter fun v => if v = d then b else decide (v ∈ st)
theorem vZ {nd : Nat} {st : List Int} {d x : Int} {b : Bool} : x ∈ xH nd st d b ↔ (0 ≤ x ∧ x < nd) ∧ (if x = d then b = true else x ∈ st) := by
 unfold xH
 rw [List.mem_filter, rX]
 split <;> simp
theorem vY (nd : Nat) (st : List Int) (d : Int) (b : Bool) : (xH nd st d b).Pairwise (· < ·) := (oH nd).sublist List.filter_sublist
theorem xh.mem {nd : Nat} {st : List Int} (h : xh nd st) {x : Int} (hx : x ∈ st) : 0 ≤ x ∧ x < nd := by
 obtain ⟨i, hi, rfl⟩ := List.mem_iff_getElem.1 hx
 have := h i hi
 unfold vx at this
 rw [List.getElem?_eq_getElem hi] at this
 simp only [Bool.or_eq_false_iff, decide_eq_false_iff_not] at this
 omega
theorem xh.srt {nd : Nat} {st : List Int} (h : xh nd st) : st.Pairwise (· < ·) := by
 have step : ∀ i (hi : i + 1 < st.length), st[i] < st[i + 1] := by
  intro i hi
  have := h (i + 1) hi
  unfold vx at this
  rw [List.getElem?_eq_getElem hi] at this
  simp only [Bool.or_eq_false_iff, Nat.add_sub_cancel, List.getD_eq_getElem?_getD, List.getElem?_eq_getElem (show i < st.length by omega), Option.getD_some] at this
  simpa using this.2
 have all : ∀ (j i : Nat) (hj : j < st.length) (hij : i < j), st[i]'(by omega) < st[j] := by
  intro j
  induction j with
  | zero => intro i hj hij; omega
  | succ j ih =>
   intro i hj hij
   rcases Nat.lt_succ_iff_lt_or_eq.1 hij with hlt | rfl
   ·exact Int.lt_trans (ih i (by omega) hlt) (step j hj)
   ·exact step i hj
 rw [List.pairwise_iff_getElem]
 intro i j hi hj hij
 exact all j i hj hij
theorem xh.of {nd : Nat} {st : List Int} (h : st.Pairwise (· < ·)) (hm : ∀ x ∈ st, 0 ≤ x ∧ x < nd) : xh nd st := by
 intro i hi
 have h1 := hm _ (List.getElem_mem hi)
 unfold vx
 rw [List.getElem?_eq_getElem hi]
 simp only [Bool.or_eq_false_iff, decide_eq_false_iff_not, Bool.and_eq_false_iff]
 refine ⟨⟨by omega, by omega⟩, ?_⟩
 by_cases h0 : i = 0
 ·left; omega
 ·right
  rw [List.getD_eq_getElem?_getD, List.getElem?_eq_getElem (show i - 1 < st.length by omega), Option.getD_some]
  have := (List.pairwise_iff_getElem.1 h) (i - 1) i (by omega) hi (by omega)
  omega
theorem rQ (nd : Nat) (st : List Int) (d : Int) (b : Bool) : xh nd (xH nd st d b) := xh.of (vY ..) fun _ h => (vZ.1 h).1
def xx (k p q : Int) : Bool := if k = 6 then false else if k = 7 then decide (p ≠ 0) else if k = 2 ∨ k = 4 ∨ k = 5 then decide (p ≠ 0) || decide (q ≠ 0) else decide (q ≠ 0)
def yB (ns : List Nd) (ds : List Dv) (F : Fd) (k d p q : Int) : Int :=
 if k = 1 then (if xU ds d = 5 then 6 else if yv p = false then 10 else if (yw F.ls d).isSome = true then 18 else 0)
 else if k = 2 then (if xU ds d = 2 then 0 else 6)
 else if k = 3 then (if xU ds d = 6 then (if yv p = true then 0 else 10) else 6)
 else if k = 4 ∨ k = 5 then 0
 else if k = 6 then (if yv p = true ∧ F.s.getD d.toNat 0 = p then zq ns ds F.ls ⟨d, p, q⟩ else 10)
 else if k = 7 then (if xk d q F.ls = none then 15 else 0)
 else 6
def yu (ds : List Dv) (F : Fd) (k d p q : Int) : Fd :=
 if k = 1 ∨ k = 2 ∨ k = 3 then (if ((yw F.ls d).isSome || decide (d ∈ F.st)) = true then F else ⟨F.s.set d.toNat (if k = 2 then 1 else p), F.ls, F.st⟩)
 else if k = 4 ∨ k = 5 then ⟨F.s, F.ls, xH ds.length F.st d (decide (k = 4))⟩
 else if k = 6 then ⟨F.s, wI ⟨d, p, q⟩ F.ls, F.st⟩
 else if k = 7 then ⟨F.s, (match xk d q F.ls with | some i => F.ls.eraseIdx i | none => F.ls), F.st⟩
 else F
noncomputable def zR (ns : List Nd) (ds : List Dv) (F : Fd) (k d p q : Int) : Int :=
 if zk ns ds F ≠ 0 then zk ns ds F else if d < 0 ∨ (ds.length : Int) ≤ d then 8 else if xx k p q = true then 14 else yB ns ds F k d p q
structure FdM (w : World) (An Ad As Al At : Option Addr) (nn cn nd cd n c nl cl nt ct : Nat) (ns : List Nd) (ds : List Dv) (F : Fd) : Prop where
 hn : Sl w w.heap.size 3 An nn cn (ns.flatMap Nd.cells)
 hd : Sl w w.heap.size 5 Ad nd cd (ds.flatMap Dv.cells)
 hs : Sl w w.heap.size 1 As n c (zK F.s)
 hl : Sl w w.heap.size 3 Al nl cl (F.ls.flatMap Lk.cells)
 ht : Sl w w.heap.size 1 At nt ct (zK F.st)
 la : Laid w
 sn : ∀ x ∈ ns, x.name.size ≤ 9223372036854775807
 sd : ∀ x ∈ ds, x.name.size ≤ 9223372036854775807
section
variable {w w' : World} {An Ad As Al At : Option Addr} {nn cn nd cd n c nl cl nt ct : Nat} {ns : List Nd} {ds : List Dv} {F : Fd}
theorem FdM.later (h : FdM w An Ad As Al At nn cn nd cd n c nl cl nt ct ns ds F) (hb : Below w.heap.size w w') : FdM w' An Ad As Al At nn cn nd cd n c nl cl nt ct ns ds F :=
 ⟨(h.hn.below hb lR).more hb.size, (h.hd.below hb lR).more hb.size, (h.hs.below hb lR).more hb.size, (h.hl.below hb lR).more hb.size, (h.ht.below hb lR).more hb.size, h.la.below hb lR, h.sn, h.sd⟩
theorem FdM.ln (h : FdM w An Ad As Al At nn cn nd cd n c nl cl nt ct ns ds F) : ns.length = nn ∧ ds.length = nd ∧ F.s.length = n ∧ F.ls.length = nl ∧ F.st.length = nt :=
 ⟨h.hn.len (fun _ => rfl) (by decide), h.hd.len (fun _ => rfl) (by decide), h.hs.len (fun _ => rfl) (by decide), h.hl.len (fun _ => rfl) (by decide), h.ht.len (fun _ => rfl) (by decide)⟩
end
structure vv (w : World) (cn cf : Array Value) (wr : World) : Prop where
 b0 : Blk wr w.heap.size 30 cn
 b1 : Blk wr (w.heap.size + 1) 35 cf
 bl : Below w.heap.size w wr
theorem vv.new (w : World) (cn cf : Array Value) : vv w cn cf ((w.alloc (.cells cn 30)).alloc (.cells cf 35)) := by
 have e : (w.alloc (.cells cn 30)).heap.size = w.heap.size + 1 := by simp
 refine ⟨(Blk.new w _ _).alloc _, ?_, ((Below.refl _ _).alloc lR _).alloc (by simp) _⟩
 have := Blk.new (w.alloc (.cells cn 30)) 35 cf
 rwa [e] at this
theorem vv.later {w wr wr' : World} {cn cf : Array Value} (h : vv w cn cf wr) (hb : Below wr.heap.size wr wr') : vv w cn cf wr' := ⟨h.b0.below hb h.b0.lt, h.b1.below hb h.b1.lt, h.bl.trans (hb.mono h.bl.size)⟩
theorem vv.drewN {w wr : World} {cn cf : Array Value} (h : vv w cn cf wr) (m : Nat) : vv w cn cf (wr.drewN m) := h.later (below_drewN bR m)
end
section
open Go.RowKit
theorem n9 (An Ad As : Option Addr) (nn cn nd cd n c : Nat) (ns : List Nd) (ds : List Dv) (s : List Int) (w : World) (hl : Laid w) (hn : Sl w w.heap.size 3 An nn cn (ns.flatMap Nd.cells)) (hd : Sl w w.heap.size 5 Ad nd cd (ds.flatMap Dv.cells)) (hs : Sl w w.heap.size 1 As n c (zK s))
 (hsn : ∀ x ∈ ns, x.name.size ≤ 9223372036854775807) (hsd : ∀ x ∈ ds, x.name.size ≤ 9223372036854775807) :
 Calls Tryz.prog 88 #[.agg #[.slice An nn cn, .slice Ad nd cd], .slice As n c] w (qH w nn (zV ns ds s) ds s) := by
 have HLN := iD (hn.len (fun _ => rfl) (by decide)); have HLD := iD (hd.len (fun _ => rfl) (by decide)); have HLS := iD (hs.len (fun _ => rfl) (by decide))
 have HB : Hid (Below w.heap.size w (w.alloc (.cells #[.slice An nn cn, .slice Ad nd cd] 30))) := (Below.refl _ _).alloc lR _
 have HK := iD (Blk.new w 30 #[.slice An nn cn, .slice Ad nd cd])
 have HC := iD (ro An Ad As nn cn nd cd n c w.heap.size w.heap.size w.heap.size ns ds s (w.alloc (.cells #[.slice An nn cn, .slice Ad nd cd] 30)) (hl.alloc _) (hn.alloc lR _) (hd.alloc lR _) (hs.alloc lR _) (by simp) (by simp) (by simp) hsn hsd)
 have HD := iD hd; have HS := iD hs
 clear hl hn hd hs hsn hsd
 go_enter Tryz.func88, Tryz.ntmps88
 go_wp2_with fail
 generalize World.alloc _ _ = W at *
 refine HC.out.mono ?_
 rintro e w1 ⟨rfl, hb1⟩
 have HB1 := iD (HB.out.trans (hb1.mono HB.out.size))
 have HK1 := iD (HK.out.below hb1 HK.out.lt)
 clear hb1 HB HK HC
 by_cases he : zV ns ds s = 0; rotate_left
 ·have q : (zV ns ds s != 0) = true := by simpa using he
  have HNZ := iD he
  clear he
  go_wp2_with fail
  go_ret2
  exact ⟨HB1.out, .inl ⟨HNZ.out, rfl⟩⟩
 have HEZ := iD he
 obtain ⟨hck, hln, hpo⟩ := yD he
 have HOK := iD (vu.of hck)
 have hnl := HOK.out.nl
 have hnn : nn ≤ 10000 := by have := HLN.out; omega
 have HEN : Hid (xG nn ds) := by have := HOK.out.e; rw [HLN.out] at this; exact this
 have hdn : nd ≤ n := by have := HLD.out; have := HLS.out; omega
 rw [he]
 clear he hck hln hpo hnl
 have hzw := HB1.out.size
 have k0 : w1.cell? ⟨w.heap.size, 0, none⟩ = some (.slice An nn cn) := HK1.out.cell 0
 have k1 : w1.cell? ⟨w.heap.size, 1, none⟩ = some (.slice Ad nd cd) := HK1.out.cell 1
 go_wp2_with fail
 clear k0 k1
 refine (lM An Ad As nn cn nd cd n c w.heap.size w.heap.size ds s w1 (HD.out.below HB1.out lR) hzw (HS.out.below HB1.out lR) hzw hnn hdn HEN.out).mono ?_
 rintro e w2 ⟨A, p, rfl, hO, hP, hb2⟩
 go_wp2_with fail
 go_ret2
 exact ⟨HB1.out.trans (hb2.out.mono hzw), .inr ⟨HEZ.out, A, p, rfl, hO.out.mono hzw, hP⟩⟩
theorem qc (An Ad As : Option Addr) (nn cn nd cd n c : Nat) (ns : List Nd) (ds : List Dv) (s : List Int) (w : World) (hl : Laid w) (hn : Sl w w.heap.size 3 An nn cn (ns.flatMap Nd.cells)) (hd : Sl w w.heap.size 5 Ad nd cd (ds.flatMap Dv.cells)) (hs : Sl w w.heap.size 1 As n c (zK s))
 (hsn : ∀ x ∈ ns, x.name.size ≤ 9223372036854775807) (hsd : ∀ x ∈ ds, x.name.size ≤ 9223372036854775807) :
 Calls Tryz.prog 51 #[.agg #[.slice An nn cn, .slice Ad nd cd], .slice As n c] w (pH w nn (zV ns ds s) ds s) := by
 have HLN := iD (hn.len (fun _ => rfl) (by decide)); have HLD := iD (hd.len (fun _ => rfl) (by decide)); have HLS := iD (hs.len (fun _ => rfl) (by decide))
 have HB : Hid (Below w.heap.size w (w.alloc (.cells #[.slice An nn cn, .slice Ad nd cd] 30))) := (Below.refl _ _).alloc lR _
 have HK := iD (Blk.new w 30 #[.slice An nn cn, .slice Ad nd cd])
 have HC := iD (n9 An Ad As nn cn nd cd n c ns ds s (w.alloc (.cells #[.slice An nn cn, .slice Ad nd cd] 30)) (hl.alloc _) ((hn.alloc lR _).more (by simp)) ((hd.alloc lR _).more (by simp)) ((hs.alloc lR _).more (by simp)) hsn hsd)
 have HD := iD hd; have HS := iD hs
 clear hl hn hd hs hsn hsd
 go_enter Tryz.func51, Tryz.ntmps51
 go_wp2_with fail
 generalize World.alloc _ _ = W at *
 refine HC.out.mono ?_
 rintro e w1 ⟨hb1, hcase⟩
 have HB1 := iD (HB.out.trans (hb1.out.mono HB.out.size))
 have HK1 := iD (HK.out.below hb1.out HK.out.lt)
 clear hb1 HB HK HC
 rcases hcase with ⟨he, rfl⟩ | ⟨he, A, p, rfl, hO, hP⟩
 ·have q : (zV ns ds s != 0) = true := by simpa using he
  have HNZ := iD he
  clear he
  go_wp2_with fail
  go_ret2
  exact ⟨HB1.out, .inl ⟨HNZ.out, rfl⟩⟩
 have HEZ := iD he
 obtain ⟨hck, hln, hpo⟩ := yD he
 have HOK := iD (vu.of hck)
 have hnl := HOK.out.nl
 have hdl := HOK.out.dl
 have hnn : nn ≤ 10000 := by have := HLN.out; omega
 have hndd : nd ≤ 10000 := by have := HLD.out; omega
 have HAO : Hid (AOk nn ds) := by have := HOK.out.a; rw [HLN.out] at this; exact this
 have hdn : nd ≤ n := by have := HLD.out; have := HLS.out; omega
 clear he hck hln hpo hnl hdl
 have hzw := HB1.out.size
 have k0 : w1.cell? ⟨w.heap.size, 0, none⟩ = some (.slice An nn cn) := HK1.out.cell 0
 have k1 : w1.cell? ⟨w.heap.size, 1, none⟩ = some (.slice Ad nd cd) := HK1.out.cell 1
 go_wp2_with fail
 clear k0 k1
 refine (nG An Ad As A nn cn nd cd n c nn w.heap.size w.heap.size w1.heap.size ds s p w1 (HD.out.below HB1.out lR) hzw (HS.out.below HB1.out lR) hzw hO.out.sl lR hnn hndd hdn HAO.out hP.out).mono ?_
 rintro e w2 ⟨B, q, rfl, hO2, hC, hb2⟩
 go_wp2_with fail
 go_ret2
 exact ⟨HB1.out.trans (hb2.out.mono hzw), .inr ⟨HEZ.out, B, q, rfl, hO2.out.mono hzw, hC⟩⟩
end
end Go.Proofs.YtepicjpdhpojnaaGreatDoor
