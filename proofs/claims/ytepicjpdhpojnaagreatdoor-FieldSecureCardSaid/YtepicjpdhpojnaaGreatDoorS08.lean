import Derived.Test.YtepicjpdhpojnaaGreatDoorS04
import Derived.Test.YtepicjpdhpojnaaGreatDoorS07
import Derived.Test.YtepicjpdhpojnaaGreatDoorS03
import Derived.Test.YtepicjpdhpojnaaGreatDoorS06
import Derived.Shelf.Abstract
set_option maxRecDepth 100000
set_option maxHeartbeats 8000000
namespace Go.Proofs.YtepicjpdhpojnaaGreatDoor
open Go.RowKit
section
variable {w : World} {B size n c k : Nat} {A : Option Addr} {α : Type} {f : α → List Value} {l : List α}
theorem Sl.takeK (h : Sl w B size A n c (l.flatMap f)) (hf : ∀ x, (f x).length = size) (hs : 0 < size) (hk : k ≤ n) : Sl w B size A k c ((l.take k).flatMap f) := by
 have hl := h.len hf hs
 obtain ⟨h1, h2, h3, h4, h5⟩ := h
 refine ⟨by rw [flat_len hf, List.length_take, Nat.min_eq_left (by omega)], by omega, h3, h4, fun hp => ?_⟩
 obtain ⟨b, off, e, hb, hc⟩ := h5 (by omega)
 refine ⟨b, off, e, hb, fun j u hu => hc j u ?_⟩
 rw [← List.take_append_drop k l, List.flatMap_append, List.getElem?_append_left (List.getElem?_eq_some_iff.1 hu).1]
 exact hu
def cutK (A : Option Addr) (c k size : Nat) : Option Addr := if c = k then A else A.map (·.add (k * size))
theorem Sl.dropK (h : Sl w B size A n c (l.flatMap f)) (hf : ∀ x, (f x).length = size) (hs : 0 < size) (hk : k ≤ n) : Sl w B size (cutK A c k size) (n - k) (c - k) ((l.drop k).flatMap f) := by
 have hl := h.len hf hs
 obtain ⟨h1, h2, h3, h4, h5⟩ := h
 refine ⟨by rw [flat_len hf, List.length_drop, hl], by omega, by omega, fun e => ?_, fun hp => ?_⟩
 ·unfold cutK at e
  split at e
  ·omega
  ·cases A with
   | none => have := h4 rfl; omega
   | some a => cases e
 ·obtain ⟨b, off, e, hb, hc⟩ := h5 (by omega)
  subst e
  refine ⟨b, off + k * size, by unfold cutK; rw [if_neg (by omega), Option.map_some, add_plain], hb, fun j u hu => ?_⟩
  have := hc (k * size + j) u (by
   rw [← List.take_append_drop k l, List.flatMap_append, List.getElem?_append_right (by rw [flat_len hf, List.length_take, Nat.min_eq_left (by omega)]; omega), flat_len hf, List.length_take, Nat.min_eq_left (by omega), show k * size + j - k * size = j by omega]
   exact hu)
  rw [Nat.add_assoc]; exact this
end
theorem run_from_lk (w : World) (A : Option Addr) (n c k : Nat) (hk : k ≤ n) : (Instr.sliceAt 33 (.slice A n c) (some (.int .i64 (k : Int))) none none).run Tryz.prog w = .ok (.slice (cutK A c k 3) (n - k) (c - k)) w := by
 rw [run_sliceAt_slice _ _ _ _ _ _ (by kernel_rfl), run_slice_l _ _ _ _ _ (by kernel_rfl) _ _ (by omega) (by omega)]
 have : (sizeOf (Tryz.prog.elem 33)).run Tryz.prog w = .ok 3 w := by kernel_rfl
 rw [this]
 simp [sliced, cutK, Result.andThen]
end Go.Proofs.YtepicjpdhpojnaaGreatDoor
namespace Go.Proofs.YtepicjpdhpojnaaGreatDoor
open Go.RowKit
def addErr (ns : List Nd) (ds : List Dv) (ls : List Lk) (k : Lk) : Int := if locksErr ns ds ls ≠ 0 then locksErr ns ds ls else if lkErr ds k ≠ 0 then lkErr ds k else if usdL ls k.key = true then 4 else if othL ls k = true then 18 else if ls.length = 128 then 1 else 0
def LkAddPost (w : World) (ns : List Nd) (ds : List Dv) (ls : List Lk) (k : Lk) (e : Ending) (w' : World) : Prop :=
 (addErr ns ds ls k ≠ 0 ∧ e = .returned (.tuple #[.slice none 0 0, .int .i64 (addErr ns ds ls k)]) ∨ addErr ns ds ls k = 0 ∧ ∃ (A : Option Addr) (c : Nat), e = .returned (.tuple #[.slice A (ls.length + 1) c, .int .i64 0]) ∧ Hid (LocksO w' w.heap.size A (ls.length + 1) c (insL k ls))) ∧ Hid (Below w.heap.size w w')
theorem locks_good {ns : List Nd} {ds : List Dv} {ls : List Lk} (h : locksErr ns ds ls = 0) : GoodL ds ls := by
 unfold locksErr at h
 split at h
 ·next hc => exact absurd h hc
 ·split at h
  ·omega
  ·exact good_of (by omega) h
theorem below_none {w w' : World} (h : w.grownBy w' (Value.slice none 0 0).ownBlock) : Below w.heap.size w w' := ⟨h.os, h.tape, h.output, h.size, fun i hi => h.block i hi (by simp [Value.ownBlock])⟩
theorem ra_below {w4 w5 w6 : World} {A1 : Option Addr} {j c1 : Nat} {xs : List Value} {o : Obj} {e : TypeId} {size : Nat} (h5 : w4.drew.grownBy w5 (Value.slice none 0 0).ownBlock) (ho : w5.ownsRow w4.heap.size e size (.slice A1 j c1) j xs) (h6 : (w5.alloc o).grownBy w6 (Value.slice A1 j c1).ownBlock) : Below w4.heap.size w4 w6 := by
 have h1 : Below w4.heap.size w4 w5 := (Below.refl _ _).drew.trans (below_none h5)
 have h2 := h1.alloc h1.size o
 exact h2.trans ⟨h6.os, h6.tape, h6.output, h6.size, fun t ht => h6.block t (by have := h2.size; omega) (fun e => by have := (ho.lt t e.symm).1; omega)⟩
theorem ra_below0 {w4 w5 : World} {o : Obj} (h5 : (w4.alloc o).drew.grownBy w5 (Value.slice none 0 0).ownBlock) : Below w4.heap.size w4 w5 := by
 have h1 : Below w4.heap.size w4 (w4.alloc o).drew := ((Below.refl _ _).alloc (Nat.le_refl _) o).drew
 exact h1.trans ((below_none h5).mono (by simp))
theorem ra_below2 {w4 w5 w6 : World} {A1 : Option Addr} {j c1 : Nat} {xs : List Value} {o : Obj} {e : TypeId} {size : Nat} (h5 : (w4.alloc o).drew.grownBy w5 (Value.slice none 0 0).ownBlock) (ho : w5.ownsRow w4.heap.size e size (.slice A1 j c1) j xs) (h6 : w5.grownBy w6 (Value.slice A1 j c1).ownBlock) : Below w4.heap.size w4 w6 := by
 have h2 := ra_below0 h5
 exact h2.trans ⟨h6.os, h6.tape, h6.output, h6.size, fun t ht => h6.block t (by have := h2.size; omega) (fun e => by have := (ho.lt t e.symm).1; omega)⟩
theorem cell_al2 {W : World} {p : Addr} {v : Value} (o : Obj) (h : W.cell? p = some v) : (W.alloc o).cell? p = some v := (World.cell?_alloc_lt W o p (cell_lt h)).trans h
theorem while_at {p : Lk → Bool} : ∀ {l : List Lk} {i : Nat}, (∀ x ∈ l.take i, p x = true) → (∀ x, l[i]? = some x → p x = false) → l.takeWhile p = l.take i ∧ l.dropWhile p = l.drop i
 | [], i, _, _ => by simp
 | x :: l, 0, _, h => by
  have := h x rfl
  simp [this]
 | x :: l, i + 1, h1, h2 => by
  have hx := h1 x (by simp)
  obtain ⟨a, b⟩ := while_at (p := p) (l := l) (i := i) (fun y hy => h1 y (by simp [hy])) (fun y hy => h2 y (by simpa using hy))
  simp [hx, a, b]
structure RaSt (w : World) (N K : Array Value) (wr : World) : Prop where
 bn : Blk wr w.heap.size 30 N
 bk : Blk wr (w.heap.size + 1) 46 K
 bl : Below w.heap.size w wr
theorem RaSt.later {w wr wr' : World} {N K : Array Value} (h : RaSt w N K wr) (hb : Below wr.heap.size wr wr') : RaSt w N K wr' := ⟨h.bn.below hb h.bn.lt, h.bk.below hb h.bk.lt, h.bl.trans (hb.mono h.bl.size)⟩
theorem RaSt.drew {w wr : World} {N K : Array Value} (h : RaSt w N K wr) : RaSt w N K wr.drew := h.later (Below.refl _ _).drew
def ArR1 (w : World) (N K : Array Value) (ls : List Lk) (q : Int) (n gk : Nat) (iv : Value) (wr : World) : Prop := ∃ i : Nat, iv = .int .i64 i ∧ i ≤ n ∧ gk = n - i ∧ Hid (usdL (ls.take i) q = false) ∧ Hid (RaSt w N K wr)
def ArR2 (w : World) (N K : Array Value) (ls : List Lk) (k : Lk) (n gk : Nat) (iv : Value) (wr : World) : Prop := ∃ i : Nat, iv = .int .i64 i ∧ i ≤ n ∧ gk = n - i ∧ Hid (∀ x ∈ ls.take i, befB x k = true) ∧ Hid (RaSt w N K wr)
theorem radd_any (An Ad Al : Option Addr) (nn cn nd cd c Bn Bd Bl : Nat) (ns : List Nd) (ds : List Dv) (ls : List Lk) (d p q : Int) (w : World) (hn : Sl w Bn 3 An nn cn (ns.flatMap Nd.cells)) (hd : Sl w Bd 5 Ad nd cd (ds.flatMap Dv.cells)) (hs : Sl w Bl 3 Al ls.length c (ls.flatMap Lk.cells)) (hBn : Bn ≤ w.heap.size) (hBd : Bd ≤ w.heap.size) (hBl : Bl ≤ w.heap.size)
 (hsn : ∀ x ∈ ns, x.name.size ≤ 9223372036854775807) (hsd : ∀ x ∈ ds, x.name.size ≤ 9223372036854775807) :
 Calls Tryz.prog 40 #[.agg #[.slice An nn cn, .slice Ad nd cd], .slice Al ls.length c, .agg #[.int .i64 d, .int .i64 p, .int .i64 q]] w (LkAddPost w ns ds ls ⟨d, p, q⟩) := by
 obtain ⟨n, hnl⟩ : ∃ n, n = ls.length := ⟨_, rfl⟩
 rw [← hnl] at hs ⊢
 have HNL := Lib.hid hnl
 have HE : Hid (addErr ns ds ls ⟨d, p, q⟩ = if locksErr ns ds ls ≠ 0 then locksErr ns ds ls else if lkErr ds ⟨d, p, q⟩ ≠ 0 then lkErr ds ⟨d, p, q⟩ else if usdL ls q = true then 4 else if othL ls ⟨d, p, q⟩ = true then 18 else if n = 128 then 1 else 0) := by unfold Hid addErr; rw [hnl]
 have hle := hs.le
 have HN := Lib.hid hn; have HD := Lib.hid hd; have HS := Lib.hid hs; have HSN := Lib.hid hsn; have HSD := Lib.hid hsd
 have HST : Hid (RaSt w #[.slice An nn cn, .slice Ad nd cd] #[.int .i64 d, .int .i64 p, .int .i64 q] ((w.alloc (.cells #[.slice An nn cn, .slice Ad nd cd] 30)).alloc (.cells #[.int .i64 d, .int .i64 p, .int .i64 q] 46))) :=
  ⟨(Blk.new _ _ _).alloc _, by have := Blk.new (w.alloc (.cells #[.slice An nn cn, .slice Ad nd cd] 30)) 46 #[.int .i64 d, .int .i64 p, .int .i64 q]; simpa using this, ((Below.refl _ _).alloc (Nat.le_refl _) _).alloc (by simp) _⟩
 clear hn hd hs hsn hsd hnl
 go_enter Tryz.func40, Tryz.ntmps40
 go_wp2_with fail
 generalize World.alloc (World.alloc _ _) _ = W at *
 have hz := HST.out.bl.size
 refine (rlcheck_any An Ad Al nn cn nd cd n c Bn Bd Bl ns ds ls W (HN.out.below HST.out.bl hBn) (HD.out.below HST.out.bl hBd) (HS.out.below HST.out.bl hBl) (by omega) (by omega) (by omega) HSN.out HSD.out).mono ?_
 rintro e w1 ⟨rfl, hb1⟩
 have HS1 := Lib.hid (HST.out.later hb1)
 clear hb1 HST hz
 by_cases h0 : locksErr ns ds ls = 0; rotate_left
 ·have q0 : (locksErr ns ds ls != 0) = true := by simpa using h0
  have HR : Hid (addErr ns ds ls ⟨d, p, q⟩ = locksErr ns ds ls) := by unfold Hid; rw [HE.out, if_pos h0]
  have HNZ := Lib.hid h0
  clear h0
  go_wp2_with fail
  go_ret2
  exact ⟨.inl (by rw [HR.out]; exact ⟨HNZ.out, rfl⟩), HS1.out.bl⟩
 have HG := Lib.hid (locks_good h0)
 rw [h0]
 replace HE : Hid (addErr ns ds ls ⟨d, p, q⟩ = if lkErr ds ⟨d, p, q⟩ ≠ 0 then lkErr ds ⟨d, p, q⟩ else if usdL ls q = true then 4 else if othL ls ⟨d, p, q⟩ = true then 18 else if n = 128 then 1 else 0) := by unfold Hid; rw [HE.out, if_neg (by simp [h0])]
 clear h0
 have k0 : w1.cell? ⟨w.heap.size, 0, none⟩ = some (.slice An nn cn) := HS1.out.bn.cell 0
 have k1 : w1.cell? ⟨w.heap.size, 1, none⟩ = some (.slice Ad nd cd) := HS1.out.bn.cell 1
 have m0 : w1.cell? ⟨w.heap.size + 1, 0, none⟩ = some (.int .i64 d) := HS1.out.bk.cell 0
 have m1 : w1.cell? ⟨w.heap.size + 1, 1, none⟩ = some (.int .i64 p) := HS1.out.bk.cell 1
 have m2 : w1.cell? ⟨w.heap.size + 1, 2, none⟩ = some (.int .i64 q) := HS1.out.bk.cell 2
 have hz1 := HS1.out.bl.size
 go_wp2_with fail
 clear k0 k1 m0 m1 m2
 refine (rfault_any An Ad nn cn nd cd Bd ds d p q w1 (HD.out.below HS1.out.bl hBd) (by omega)).mono ?_
 rintro e w2 ⟨rfl, hb2⟩
 have HS2 := Lib.hid (HS1.out.later hb2)
 clear hb2 HS1 hz1
 by_cases h1 : lkErr ds ⟨d, p, q⟩ = 0; rotate_left
 ·have q0 : (lkErr ds ⟨d, p, q⟩ != 0) = true := by simpa using h1
  have HR : Hid (addErr ns ds ls ⟨d, p, q⟩ = lkErr ds ⟨d, p, q⟩) := by unfold Hid; rw [HE.out, if_pos h1]
  have HNZ := Lib.hid h1
  clear h1
  go_wp2_with fail
  go_ret2
  exact ⟨.inl (by rw [HR.out]; exact ⟨HNZ.out, rfl⟩), HS2.out.bl⟩
 rw [h1]
 replace HE : Hid (addErr ns ds ls ⟨d, p, q⟩ = if usdL ls q = true then 4 else if othL ls ⟨d, p, q⟩ = true then 18 else if n = 128 then 1 else 0) := by unfold Hid; rw [HE.out, if_neg (by simp [h1])]
 clear h1
 go_wp2_with fail
 go_loopg [10] n (ArR1 w #[.slice An nn cn, .slice Ad nd cd] #[.int .i64 d, .int .i64 p, .int .i64 q] ls q n)
 case atStart => exact ⟨0, rfl, Nat.zero_le _, rfl, rfl, HS2⟩
 case round =>
  clear HS2
  obtain ⟨i, rfl, hi, rfl, hus, hst⟩ := hrel
  by_cases hlt : i < n
  ·obtain ⟨b, off, d1, p1, q1, rfl, hb, hx, c0, c1, c2⟩ := (HS.out.below hst.out.bl hBl).lock hlt
   have HX := Lib.hid hx
   have m2 : wr.cell? ⟨w.heap.size + 1, 2, none⟩ = some (.int .i64 q) := hst.out.bk.cell 2
   have HCS : Hid (wr.cell? ⟨b, off + i * 3 + 2, none⟩ = some (.int .i64 q1) ∧ wr.cell? ⟨w.heap.size + 1, 2, none⟩ = some (.int .i64 q)) := ⟨c2, m2⟩
   clear hx c0 c1 c2 m2
   by_cases hqq : q1 = q
   ·subst hqq
    have qd : (q1 == q1) = true := by simp
    have HUS : Hid (usdL ls q1 = true) := by
     have := usd_up (k := i + 1) (i := ls.length) (ls := ls) (q := q1) (by rw [usd_snoc HX.out hus.out]; simp) (by have := HNL.out; omega)
     rwa [List.take_length] at this
    have HR : Hid (addErr ns ds ls ⟨d, p, q1⟩ = 4) := by unfold Hid; rw [HE.out, if_pos HUS.out]
    go_upto_region 10 with (fail)
    refine wp_region_J (S := fun W' => W'.cell? ⟨b, off + i * 3 + 2, none⟩ = some (.int .i64 q1) ∧ W'.cell? ⟨w.heap.size + 1, 2, none⟩ = some (.int .i64 q1)) (J := []) (by kernel_rfl) ?_ (fun hHeld => ?_)
    ·exact HCS.out
    try dsimp only at hHeld
    refine tk 0 33 (mf 8 1) hHeld ?_
    refine tk 1 34 (mf 8 2) hHeld ?_
    refine tk 2 35 (mf 8 3) hHeld ?_
    refine tk 3 36 (mf 8 4) hHeld ?_
    refine tk 4 37 (mf 8 5) hHeld ?_
    refine tk 5 38 (mf 8 6) hHeld ?_
    refine tk 6 39 (mf 8 7) hHeld ?_
    refine tk 7 40 (mf 8 8) hHeld ?_
    refine wpAnyJ_done (by kernel_rfl) ?_ _
    clear hHeld
    go_wp2_with fail
    go_ret2
    exact ⟨.inl (by rw [HR.out]; exact ⟨by decide, rfl⟩), hst.out.drew.bl⟩
   ·have qd : (q1 == q) = false := by simpa using hqq
    have HO2 : Hid (usdL (ls.take (i + 1)) q = false) := by unfold Hid; rw [usd_snoc HX.out hus.out]; simpa using hqq
    clear hqq
    go_upto_region 10 with (fail)
    refine wp_region_J (S := fun W' => W'.cell? ⟨b, off + i * 3 + 2, none⟩ = some (.int .i64 q1) ∧ W'.cell? ⟨w.heap.size + 1, 2, none⟩ = some (.int .i64 q)) (J := []) (by kernel_rfl) ?_ (fun hHeld => ?_)
    ·exact HCS.out
    try dsimp only at hHeld
    refine tk 0 33 (mf 8 1) hHeld ?_
    refine tk 1 34 (mf 8 2) hHeld ?_
    refine tk 2 35 (mf 8 3) hHeld ?_
    refine tk 3 36 (mf 8 4) hHeld ?_
    refine tk 4 37 (mf 8 5) hHeld ?_
    refine tk 5 38 (mf 8 6) hHeld ?_
    refine tk 6 39 (mf 8 7) hHeld ?_
    refine tk 7 40 (mf 8 8) hHeld ?_
    refine wpAnyJ_done (by kernel_rfl) ?_ _
    clear hHeld
    go_wp2_with fail
    go_roundg (n - (i + 1))
    case rel => exact ⟨i + 1, by go_num, by omega, rfl, HO2, hst.out.drew⟩
    case measure => omega
  ·obtain rfl : i = n := by omega
   have hii : decide (i < i) = false := by simp
   have HUS : Hid (usdL ls q = false) := by
    have := hus.out
    rw [List.take_of_length_le (by have := HNL.out; omega)] at this
    exact this
   replace HE : Hid (addErr ns ds ls ⟨d, p, q⟩ = if othL ls ⟨d, p, q⟩ = true then 18 else if i = 128 then 1 else 0) := by unfold Hid; rw [HE.out, if_neg (by rw [HUS.out]; simp)]
   have m0 : wr.cell? ⟨w.heap.size + 1, 0, none⟩ = some (.int .i64 d) := hst.out.bk.cell 0
   have hzr := hst.out.bl.size
   go_wp2_with fail
   clear m0 hii
   refine (rlocked_any Al i c Bl ls d wr (HS.out.below hst.out.bl hBl) (by omega)).mono ?_
   rintro e w3 ⟨rfl, hb3⟩
   have HS3 := Lib.hid (hst.out.later hb3)
   clear hb3 hst hzr
   have hn128 : i ≤ 128 := by have := HG.out.1; have := HNL.out; omega
   have hcase : (lckL ls d = none ∧ othL ls ⟨d, p, q⟩ = false) ∨ (lckL ls d = some p ∧ othL ls ⟨d, p, q⟩ = false) ∨ (∃ pv, lckL ls d = some pv ∧ pv ≠ p ∧ othL ls ⟨d, p, q⟩ = true) := by
    have h := oth_lck HG.out ⟨d, p, q⟩
    simp only at h
    rcases hl : lckL ls d with _ | pv
    ·rw [hl] at h; exact .inl ⟨rfl, h⟩
    ·rw [hl] at h
     by_cases hp : pv = p
     ·subst hp; exact .inr (.inl ⟨rfl, by rw [h]; simp⟩)
     ·exact .inr (.inr ⟨pv, rfl, hp, by rw [h]; simp [hp]⟩)
   unfold lckE
   have m1 : w3.cell? ⟨w.heap.size + 1, 1, none⟩ = some (.int .i64 p) := HS3.out.bk.cell 1
   rcases hcase with ⟨hl, ho⟩ | ⟨hl, ho⟩ | ⟨pv, hl, hp, ho⟩
   rotate_left 2
   ·rw [hl]
    have HR : Hid (addErr ns ds ls ⟨d, p, q⟩ = 18) := by unfold Hid; rw [HE.out, if_pos ho]
    have qp : (pv != p) = true := by simpa using hp
    clear hl hp ho
    simp only [Option.getD_some, Option.isSome_some]
    go_wp2_with fail
    go_ret2
    exact ⟨.inl (by rw [HR.out]; exact ⟨by decide, rfl⟩), HS3.out.bl⟩
   all_goals
    rw [hl]
    have HO := Lib.hid ho
    have HE2 : Hid (addErr ns ds ls ⟨d, p, q⟩ = if i = 128 then 1 else 0) := by unfold Hid; rw [HE.out, if_neg (by rw [HO.out]; simp)]
    clear hl ho
    have qpp : (p != p) = false := by simp
    simp only [Option.getD_some, Option.isSome_some, Option.getD_none, Option.isSome_none]
    by_cases h128 : i = 128
    ·have HR : Hid (addErr ns ds ls ⟨d, p, q⟩ = 1) := by unfold Hid; rw [HE2.out, if_pos h128]
     have q1 : decide ((128 : Int) ≤ (i : Int)) = true := by simp; omega
     have q2 : decide (128 ≤ i) = true := by simp; omega
     clear h128
     go_wp2_with fail
     go_ret2
     exact ⟨.inl (by rw [HR.out]; exact ⟨by decide, rfl⟩), HS3.out.bl⟩
    have HR : Hid (addErr ns ds ls ⟨d, p, q⟩ = 0) := by unfold Hid; rw [HE2.out, if_neg h128]
    have q1 : decide ((128 : Int) ≤ (i : Int)) = false := by simp; omega
    have q2 : decide (128 ≤ i) = false := by simp; omega
    clear h128 HE HE2
    go_wp2_with fail
    clear m1 qpp q1 q2
    go_loopg [13] i (ArR2 w #[.slice An nn cn, .slice Ad nd cd] #[.int .i64 d, .int .i64 p, .int .i64 q] ls ⟨d, p, q⟩ i)
    case atStart => exact ⟨0, rfl, Nat.zero_le _, rfl, (fun x hx => by simp at hx), HS3⟩
    case round =>
     clear HS3
     obtain ⟨j, rfl, hj, rfl, hal, hst⟩ := hrel
     by_cases hjt : j < i
     ·obtain ⟨b, off, d1, p1, q1, rfl, hb, hx, c0, c1, c2⟩ := (HS.out.below hst.out.bl hBl).lock hjt
      have HX := Lib.hid hx
      have HCS : Hid (wr.cell? ⟨b, off + j * 3, none⟩ = some (.int .i64 d1) ∧ wr.cell? ⟨b, off + j * 3 + 1, none⟩ = some (.int .i64 p1) ∧ wr.cell? ⟨b, off + j * 3 + 2, none⟩ = some (.int .i64 q1) ∧ wr.cell? ⟨w.heap.size + 1, 0, none⟩ = some (.int .i64 d) ∧ wr.cell? ⟨w.heap.size + 1, 1, none⟩ = some (.int .i64 p) ∧ wr.cell? ⟨w.heap.size + 1, 2, none⟩ = some (.int .i64 q)) := ⟨c0, c1, c2, hst.out.bk.cell 0, hst.out.bk.cell 1, hst.out.bk.cell 2⟩
      have HBE := Lib.hid (before_any ⟨d1, p1, q1⟩ ⟨d, p, q⟩ wr.drew)
      clear hx c0 c1 c2
      rcases hbb : befB ⟨d1, p1, q1⟩ ⟨d, p, q⟩ with _ | _
      ·rw [hbb] at HBE
       have HSTOP : Hid (∀ x, ls[j]? = some x → befB x ⟨d, p, q⟩ = false) := fun x hx => by rw [HX.out] at hx; injection hx with hx; subst hx; exact hbb
       clear hbb
       go_upto_region 18 with (fail)
       refine wp_region_J (S := fun W' => W'.cell? ⟨b, off + j * 3, none⟩ = some (.int .i64 d1) ∧ W'.cell? ⟨b, off + j * 3 + 1, none⟩ = some (.int .i64 p1) ∧ W'.cell? ⟨b, off + j * 3 + 2, none⟩ = some (.int .i64 q1) ∧ W'.cell? ⟨w.heap.size + 1, 0, none⟩ = some (.int .i64 d) ∧ W'.cell? ⟨w.heap.size + 1, 1, none⟩ = some (.int .i64 p) ∧ W'.cell? ⟨w.heap.size + 1, 2, none⟩ = some (.int .i64 q)) (J := []) (by kernel_rfl) ?_ (fun hHeld => ?_)
       ·exact HCS.out
       try dsimp only at hHeld
       refine tk 0 58 (mf 12 1) hHeld ?_
       refine tk 1 59 (mf 12 2) hHeld ?_
       refine tk 2 60 (mf 12 3) hHeld ?_
       refine tk 3 61 (mf 12 4) hHeld ?_
       refine tk 4 62 (mf 12 5) hHeld ?_
       refine tk 5 63 (mf 12 6) hHeld ?_
       refine tk 6 64 (mf 12 7) hHeld ?_
       refine tk 7 65 (mf 12 8) hHeld ?_
       refine tk 8 66 (mf 12 9) hHeld ?_
       refine tk 9 67 (mf 12 10) hHeld ?_
       refine wpAnyJ_oneL (k := 10) (mf 12 11) (by kernel_rfl) (by kernel_rfl) rfl (fun K hK => ?_)
       (go_simp; refine HBE.out.mono ?_; rintro e w4 ⟨rfl, hb4⟩; go_simp)
       refine hK.out _ _ (fun _ => ?_) (fun hHeld' => ?_)
       ·exact ⟨keep_cell hb4 HCS.out.1, keep_cell hb4 HCS.out.2.1, keep_cell hb4 HCS.out.2.2.1, keep_cell hb4 HCS.out.2.2.2.1, keep_cell hb4 HCS.out.2.2.2.2.1, keep_cell hb4 HCS.out.2.2.2.2.2⟩
       replace hHeld := hHeld' rfl
       clear hHeld' hK K
       try dsimp only at hHeld
       refine tk 11 69 (mf 12 12) hHeld ?_
       refine wpAnyJ_done (by kernel_rfl) ?_ _
       have HS4 := Lib.hid (hst.out.drew.later hb4)
       have hall := hal.out
       clear hHeld hb4 hst HCS HBE hal
       obtain ⟨hTW, hDW⟩ := while_at (p := fun x => befB x ⟨d, p, q⟩) hall HSTOP.out
       have HINS : Hid (insL ⟨d, p, q⟩ ls = ls.take j ++ ⟨d, p, q⟩ :: ls.drop j) := by unfold Hid insL; rw [hTW, hDW]
       have HSL4 := Lib.hid (HS.out.below HS4.out.bl hBl)
       have hjc : j ≤ c := by omega
       have HSK := Lib.hid (HSL4.out.takeK (fun _ => rfl) (by decide) hj)
       have HSD := Lib.hid (HSL4.out.dropK (fun _ => rfl) (by decide) hj)
       have HBX : Hid (w4.cell? ⟨w.heap.size + 1, 0, none⟩ = some (.int .i64 d) ∧ w4.cell? ⟨w.heap.size + 1, 1, none⟩ = some (.int .i64 p) ∧ w4.cell? ⟨w.heap.size + 1, 2, none⟩ = some (.int .i64 q)) := ⟨HS4.out.bk.cell 0, HS4.out.bk.cell 1, HS4.out.bk.cell 2⟩
       have HCUT : Hid (∀ W, (Instr.sliceAt 33 (.slice (some ⟨b, off, none⟩) i c) (some (.int .i64 (j : Int))) none none).run Tryz.prog W = .ok (.slice (cutK (some ⟨b, off, none⟩) c j 3) (i - j) (c - j)) W) := fun W => run_from_lk W _ _ _ _ hj
       clear hTW hDW hall HSTOP
       go_upto_region 20 with (fail)
       refine wp_region_J (S := fun W' => W'.cell? ⟨w.heap.size + 1, 0, none⟩ = some (.int .i64 d) ∧ W'.cell? ⟨w.heap.size + 1, 1, none⟩ = some (.int .i64 p) ∧ W'.cell? ⟨w.heap.size + 1, 2, none⟩ = some (.int .i64 q)) (J := []) (by kernel_rfl) ?_ (fun hHeld => ?_)
       ·exact HBX.out
       try dsimp only at hHeld
       refine tk 0 72 (mf 8 1) hHeld ?_
       refine tk 1 73 (mf 8 2) hHeld ?_
       refine tk 2 74 (mf 8 3) hHeld ?_
       refine tk 4 76 #[tt, tt, tt, ff, tt, ff, ff, ff] hHeld ?_
       refine wpAnyJ_twoL (i := 3) (k := 5) (mf 8 5) #[tt, tt, tt, ff, tt, tt, ff, ff] (by kernel_rfl) (by kernel_rfl) (by kernel_rfl) rfl rfl (fun K hK => ?_) (fun K hK => ?_)
       ·(refine step_app_d (d := some 75) (by rfl) (by rfl) _ (.tmp 74) (by rfl) el_lock (by rfl) (World.ownsRow_nil _ w4.heap.size _ _) (by rfl) HSK.out (locks_one _) (by omega) (by omega) (by simp) ?_; intro A1 c1 w5 hown5 hgr5 hat5; simp only [Nat.zero_add, List.nil_append] at hown5 hgr5 hat5 ⊢)
        refine hK.out _ _ (fun _ => ?_) (fun hHeld' => ?_)
        ·exact ⟨keep_cell (below_none hgr5) HBX.out.1, keep_cell (below_none hgr5) HBX.out.2.1, keep_cell (below_none hgr5) HBX.out.2.2⟩
        replace hHeld := hHeld' rfl
        clear hHeld' hK K
        try dsimp only at hHeld
        refine wpAnyJ_oneL (k := 5) (mf 8 6) (by kernel_rfl) (by kernel_rfl) rfl (fun K hK => ?_)
        go_simp
        refine hK.out _ _ (fun _ => ?_) (fun hHeld' => ?_)
        ·exact ⟨cell_al2 _ (keep_cell (below_none hgr5) HBX.out.1), cell_al2 _ (keep_cell (below_none hgr5) HBX.out.2.1), cell_al2 _ (keep_cell (below_none hgr5) HBX.out.2.2)⟩
        replace hHeld := hHeld' rfl
        clear hHeld' hK K
        try dsimp only at hHeld
        refine wpAnyJ_oneL (k := 6) (mf 8 7) (by kernel_rfl) (by kernel_rfl) rfl (fun K hK => ?_)
        (refine step_app_d (d := some 78) (by rfl) (by rfl) (.tmp 75) (.tmp 77) (by rfl) el_lock (by rfl) (World.ownsRow.alloc hown5 _) (by rfl) (Sl.newest (n := 1) (by simp) (by rfl) (by decide)) (by simp [Value.oneCell']) (by omega) (by omega) (by have := hgr5.size; simp at this ⊢; omega) ?_; intro A2 c2 w6 hown6 hgr6 hat6)
        refine hK.out _ _ (fun _ => ?_) (fun hHeld' => ?_)
        ·exact ⟨keep_cell (ra_below hgr5 hown5 hgr6) HBX.out.1, keep_cell (ra_below hgr5 hown5 hgr6) HBX.out.2.1, keep_cell (ra_below hgr5 hown5 hgr6) HBX.out.2.2⟩
        replace hHeld := hHeld' rfl
        clear hHeld' hK K
        try dsimp only at hHeld
        refine tk 7 14 (mf 8 8) hHeld ?_
        refine wpAnyJ_done (by kernel_rfl) ?_ _
        clear hHeld
        have HB46 : Hid (Below w4.heap.size w4 w6) := by first | exact ra_below hgr5 hown5 hgr6 | exact ra_below2 hgr5 hown5 hgr6
        have HO6 := Lib.hid hown6
        have HSD6 := Lib.hid (HSD.out.below HB46.out (by have := HS4.out.bl.size; omega))
        have hcut := HCUT.out
        have hz46 := HB46.out.size
        clear hown5 hgr5 hat5 hown6 hgr6 hat6
        go_wp2_with (at_builtin; go_must (refine wpList_app rfl (.tmp 79) (.tmp 82) rfl el_lock (by rfl) HO6.out (by rfl) HSD6.out (locks_one _) (by omega) (by omega) (by omega) ?_; intro A3 c3 w7 hown7 hgr7 hat7; have HO7 := Lib.hid hown7; have HG7 := Lib.hid hgr7; clear hown7 hgr7 hat7))
        go_ret2
        have hlen : ls.length + 1 = j + 1 + (i - j) := by have := HNL.out; omega
        refine ⟨.inr ⟨HR.out, A3, c3, by rw [hlen]; rfl, ?_⟩, ?_⟩
        ·unfold Hid LocksO; rw [hlen, HINS.out]; rw [List.flatMap_append, List.flatMap_cons, ← List.append_assoc]; exact HO7.out.mono (by have := HS4.out.bl.size; omega)
        ·have h1 := HS4.out.bl.trans (HB46.out.mono HS4.out.bl.size); exact h1.trans ⟨HG7.out.os, HG7.out.tape, HG7.out.output, HG7.out.size, fun t ht => HG7.out.block t (by have := h1.size; omega) (fun e => by have := (HO6.out.lt t e.symm).1; have := HS4.out.bl.size; omega)⟩
       ·go_simp
        refine hK.out _ _ (fun _ => ?_) (fun hHeld' => ?_)
        ·exact ⟨cell_al2 _ HBX.out.1, cell_al2 _ HBX.out.2.1, cell_al2 _ HBX.out.2.2⟩
        replace hHeld := hHeld' rfl
        clear hHeld' hK K
        try dsimp only at hHeld
        refine wpAnyJ_oneL (k := 3) (mf 8 6) (by kernel_rfl) (by kernel_rfl) rfl (fun K hK => ?_)
        (refine step_app_d (d := some 75) (by rfl) (by rfl) _ (.tmp 74) (by rfl) el_lock (by rfl) (World.ownsRow_nil _ w4.heap.size _ _) (by rfl) (HSK.out.alloc (by have := HS4.out.bl.size; simp; omega) _) (locks_one _) (by omega) (by omega) (by simp) ?_; intro A1 c1 w5 hown5 hgr5 hat5; simp only [Nat.zero_add, List.nil_append] at hown5 hgr5 hat5 ⊢)
        refine hK.out _ _ (fun _ => ?_) (fun hHeld' => ?_)
        ·exact ⟨keep_cell (ra_below0 hgr5) HBX.out.1, keep_cell (ra_below0 hgr5) HBX.out.2.1, keep_cell (ra_below0 hgr5) HBX.out.2.2⟩
        replace hHeld := hHeld' rfl
        clear hHeld' hK K
        try dsimp only at hHeld
        refine wpAnyJ_oneL (k := 6) (mf 8 7) (by kernel_rfl) (by kernel_rfl) rfl (fun K hK => ?_)
        (refine step_app_d (d := some 78) (by rfl) (by rfl) (.tmp 75) (.tmp 77) (by rfl) el_lock (by rfl) hown5 (by rfl) ((Sl.newest (w := w4.drew) (cs := #[.int .i64 d, .int .i64 p, .int .i64 q]) (T := 46) (n := 1) (size := 3) rfl (by rfl) (by decide)).below (below_none hgr5) (by simp)) (by simp [Value.oneCell']) (by omega) (by omega) (by have := hgr5.size; simp at this ⊢; omega) ?_; intro A2 c2 w6 hown6 hgr6 hat6)
        refine hK.out _ _ (fun _ => ?_) (fun hHeld' => ?_)
        ·exact ⟨keep_cell (ra_below2 hgr5 hown5 hgr6) HBX.out.1, keep_cell (ra_below2 hgr5 hown5 hgr6) HBX.out.2.1, keep_cell (ra_below2 hgr5 hown5 hgr6) HBX.out.2.2⟩
        replace hHeld := hHeld' rfl
        clear hHeld' hK K
        try dsimp only at hHeld
        refine tk 7 14 (mf 8 8) hHeld ?_
        refine wpAnyJ_done (by kernel_rfl) ?_ _
        clear hHeld
        have HB46 : Hid (Below w4.heap.size w4 w6) := by first | exact ra_below hgr5 hown5 hgr6 | exact ra_below2 hgr5 hown5 hgr6
        have HO6 := Lib.hid hown6
        have HSD6 := Lib.hid (HSD.out.below HB46.out (by have := HS4.out.bl.size; omega))
        have hcut := HCUT.out
        have hz46 := HB46.out.size
        clear hown5 hgr5 hat5 hown6 hgr6 hat6
        go_wp2_with (at_builtin; go_must (refine wpList_app rfl (.tmp 79) (.tmp 82) rfl el_lock (by rfl) HO6.out (by rfl) HSD6.out (locks_one _) (by omega) (by omega) (by omega) ?_; intro A3 c3 w7 hown7 hgr7 hat7; have HO7 := Lib.hid hown7; have HG7 := Lib.hid hgr7; clear hown7 hgr7 hat7))
        go_ret2
        have hlen : ls.length + 1 = j + 1 + (i - j) := by have := HNL.out; omega
        refine ⟨.inr ⟨HR.out, A3, c3, by rw [hlen]; rfl, ?_⟩, ?_⟩
        ·unfold Hid LocksO; rw [hlen, HINS.out]; rw [List.flatMap_append, List.flatMap_cons, ← List.append_assoc]; exact HO7.out.mono (by have := HS4.out.bl.size; omega)
        ·have h1 := HS4.out.bl.trans (HB46.out.mono HS4.out.bl.size); exact h1.trans ⟨HG7.out.os, HG7.out.tape, HG7.out.output, HG7.out.size, fun t ht => HG7.out.block t (by have := h1.size; omega) (fun e => by have := (HO6.out.lt t e.symm).1; have := HS4.out.bl.size; omega)⟩
      ·rw [hbb] at HBE
       have HAL : Hid (∀ x ∈ ls.take (j + 1), befB x ⟨d, p, q⟩ = true) := fun x hx => by
        rw [take_snoc HX.out] at hx
        rcases List.mem_append.1 hx with h | h
        ·exact hal.out x h
        ·rw [List.mem_singleton.1 h]; exact hbb
       clear hbb
       go_upto_region 18 with (fail)
       refine wp_region_J (S := fun W' => W'.cell? ⟨b, off + j * 3, none⟩ = some (.int .i64 d1) ∧ W'.cell? ⟨b, off + j * 3 + 1, none⟩ = some (.int .i64 p1) ∧ W'.cell? ⟨b, off + j * 3 + 2, none⟩ = some (.int .i64 q1) ∧ W'.cell? ⟨w.heap.size + 1, 0, none⟩ = some (.int .i64 d) ∧ W'.cell? ⟨w.heap.size + 1, 1, none⟩ = some (.int .i64 p) ∧ W'.cell? ⟨w.heap.size + 1, 2, none⟩ = some (.int .i64 q)) (J := []) (by kernel_rfl) ?_ (fun hHeld => ?_)
       ·exact HCS.out
       try dsimp only at hHeld
       refine tk 0 58 (mf 12 1) hHeld ?_
       refine tk 1 59 (mf 12 2) hHeld ?_
       refine tk 2 60 (mf 12 3) hHeld ?_
       refine tk 3 61 (mf 12 4) hHeld ?_
       refine tk 4 62 (mf 12 5) hHeld ?_
       refine tk 5 63 (mf 12 6) hHeld ?_
       refine tk 6 64 (mf 12 7) hHeld ?_
       refine tk 7 65 (mf 12 8) hHeld ?_
       refine tk 8 66 (mf 12 9) hHeld ?_
       refine tk 9 67 (mf 12 10) hHeld ?_
       refine wpAnyJ_oneL (k := 10) (mf 12 11) (by kernel_rfl) (by kernel_rfl) rfl (fun K hK => ?_)
       (go_simp; refine HBE.out.mono ?_; rintro e w4 ⟨rfl, hb4⟩; go_simp)
       refine hK.out _ _ (fun _ => ?_) (fun hHeld' => ?_)
       ·exact ⟨keep_cell hb4 HCS.out.1, keep_cell hb4 HCS.out.2.1, keep_cell hb4 HCS.out.2.2.1, keep_cell hb4 HCS.out.2.2.2.1, keep_cell hb4 HCS.out.2.2.2.2.1, keep_cell hb4 HCS.out.2.2.2.2.2⟩
       replace hHeld := hHeld' rfl
       clear hHeld' hK K
       try dsimp only at hHeld
       refine tk 11 69 (mf 12 12) hHeld ?_
       refine wpAnyJ_done (by kernel_rfl) ?_ _
       have HS4 := Lib.hid (hst.out.drew.later hb4)
       clear hHeld hb4 hst HCS HBE hal
       go_wp2_with fail
       go_roundg (i - (j + 1))
       case rel => exact ⟨j + 1, by go_num, by omega, rfl, HAL, HS4⟩
       case measure => omega
     ·have hjj : decide (j < i) = false := by simpa using hjt
      have HSTOP : Hid (∀ x, ls[j]? = some x → befB x ⟨d, p, q⟩ = false) := fun x hx => by
       have := (List.getElem?_eq_some_iff.1 hx).1
       have := HNL.out
       omega
      go_upto_region 18 with (fail)
      refine wp_region_J (S := fun _ => True) (J := []) (by kernel_rfl) ?_ (fun hHeld => ?_)
      ·exact trivial
      try dsimp only at hHeld
      refine tk 0 58 (mf 12 1) hHeld ?_
      refine tk 1 59 (mf 12 2) hHeld ?_
      refine tk 2 60 (mf 12 3) hHeld ?_
      refine tk 3 61 (mf 12 4) hHeld ?_
      refine tk 4 62 (mf 12 5) hHeld ?_
      refine ts 5 63 (mf 12 6) hHeld ?_
      refine ts 6 64 (mf 12 7) hHeld ?_
      refine ts 7 65 (mf 12 8) hHeld ?_
      refine ts 8 66 (mf 12 9) hHeld ?_
      refine ts 9 67 (mf 12 10) hHeld ?_
      refine ts 10 68 (mf 12 11) hHeld ?_
      refine tk 11 69 (mf 12 12) hHeld ?_
      refine wpAnyJ_done (by kernel_rfl) ?_ _
      have HS4 := Lib.hid hst.out.drew
      have hall := hal.out
      clear hHeld hst hal hjj
      generalize World.drew _ = w4 at *
      obtain ⟨hTW, hDW⟩ := while_at (p := fun x => befB x ⟨d, p, q⟩) hall HSTOP.out
      have HINS : Hid (insL ⟨d, p, q⟩ ls = ls.take j ++ ⟨d, p, q⟩ :: ls.drop j) := by unfold Hid insL; rw [hTW, hDW]
      have HSL4 := Lib.hid (HS.out.below HS4.out.bl hBl)
      have hjc : j ≤ c := by omega
      have HSK := Lib.hid (HSL4.out.takeK (fun _ => rfl) (by decide) hj)
      have HSD := Lib.hid (HSL4.out.dropK (fun _ => rfl) (by decide) hj)
      have HBX : Hid (w4.cell? ⟨w.heap.size + 1, 0, none⟩ = some (.int .i64 d) ∧ w4.cell? ⟨w.heap.size + 1, 1, none⟩ = some (.int .i64 p) ∧ w4.cell? ⟨w.heap.size + 1, 2, none⟩ = some (.int .i64 q)) := ⟨HS4.out.bk.cell 0, HS4.out.bk.cell 1, HS4.out.bk.cell 2⟩
      have HCUT : Hid (∀ W, (Instr.sliceAt 33 (.slice Al i c) (some (.int .i64 (j : Int))) none none).run Tryz.prog W = .ok (.slice (cutK Al c j 3) (i - j) (c - j)) W) := fun W => run_from_lk W _ _ _ _ hj
      clear hTW hDW hall HSTOP
      go_upto_region 20 with (fail)
      refine wp_region_J (S := fun W' => W'.cell? ⟨w.heap.size + 1, 0, none⟩ = some (.int .i64 d) ∧ W'.cell? ⟨w.heap.size + 1, 1, none⟩ = some (.int .i64 p) ∧ W'.cell? ⟨w.heap.size + 1, 2, none⟩ = some (.int .i64 q)) (J := []) (by kernel_rfl) ?_ (fun hHeld => ?_)
      ·exact HBX.out
      try dsimp only at hHeld
      refine tk 0 72 (mf 8 1) hHeld ?_
      refine tk 1 73 (mf 8 2) hHeld ?_
      refine tk 2 74 (mf 8 3) hHeld ?_
      refine tk 4 76 #[tt, tt, tt, ff, tt, ff, ff, ff] hHeld ?_
      refine wpAnyJ_twoL (i := 3) (k := 5) (mf 8 5) #[tt, tt, tt, ff, tt, tt, ff, ff] (by kernel_rfl) (by kernel_rfl) (by kernel_rfl) rfl rfl (fun K hK => ?_) (fun K hK => ?_)
      ·(refine step_app_d (d := some 75) (by rfl) (by rfl) _ (.tmp 74) (by rfl) el_lock (by rfl) (World.ownsRow_nil _ w4.heap.size _ _) (by rfl) HSK.out (locks_one _) (by omega) (by omega) (by simp) ?_; intro A1 c1 w5 hown5 hgr5 hat5; simp only [Nat.zero_add, List.nil_append] at hown5 hgr5 hat5 ⊢)
       refine hK.out _ _ (fun _ => ?_) (fun hHeld' => ?_)
       ·exact ⟨keep_cell (below_none hgr5) HBX.out.1, keep_cell (below_none hgr5) HBX.out.2.1, keep_cell (below_none hgr5) HBX.out.2.2⟩
       replace hHeld := hHeld' rfl
       clear hHeld' hK K
       try dsimp only at hHeld
       refine wpAnyJ_oneL (k := 5) (mf 8 6) (by kernel_rfl) (by kernel_rfl) rfl (fun K hK => ?_)
       go_simp
       refine hK.out _ _ (fun _ => ?_) (fun hHeld' => ?_)
       ·exact ⟨cell_al2 _ (keep_cell (below_none hgr5) HBX.out.1), cell_al2 _ (keep_cell (below_none hgr5) HBX.out.2.1), cell_al2 _ (keep_cell (below_none hgr5) HBX.out.2.2)⟩
       replace hHeld := hHeld' rfl
       clear hHeld' hK K
       try dsimp only at hHeld
       refine wpAnyJ_oneL (k := 6) (mf 8 7) (by kernel_rfl) (by kernel_rfl) rfl (fun K hK => ?_)
       (refine step_app_d (d := some 78) (by rfl) (by rfl) (.tmp 75) (.tmp 77) (by rfl) el_lock (by rfl) (World.ownsRow.alloc hown5 _) (by rfl) (Sl.newest (n := 1) (by simp) (by rfl) (by decide)) (by simp [Value.oneCell']) (by omega) (by omega) (by have := hgr5.size; simp at this ⊢; omega) ?_; intro A2 c2 w6 hown6 hgr6 hat6)
       refine hK.out _ _ (fun _ => ?_) (fun hHeld' => ?_)
       ·exact ⟨keep_cell (ra_below hgr5 hown5 hgr6) HBX.out.1, keep_cell (ra_below hgr5 hown5 hgr6) HBX.out.2.1, keep_cell (ra_below hgr5 hown5 hgr6) HBX.out.2.2⟩
       replace hHeld := hHeld' rfl
       clear hHeld' hK K
       try dsimp only at hHeld
       refine tk 7 14 (mf 8 8) hHeld ?_
       refine wpAnyJ_done (by kernel_rfl) ?_ _
       clear hHeld
       have HB46 : Hid (Below w4.heap.size w4 w6) := by first | exact ra_below hgr5 hown5 hgr6 | exact ra_below2 hgr5 hown5 hgr6
       have HO6 := Lib.hid hown6
       have HSD6 := Lib.hid (HSD.out.below HB46.out (by have := HS4.out.bl.size; omega))
       have hcut := HCUT.out
       have hz46 := HB46.out.size
       clear hown5 hgr5 hat5 hown6 hgr6 hat6
       go_wp2_with (at_builtin; go_must (refine wpList_app rfl (.tmp 79) (.tmp 82) rfl el_lock (by rfl) HO6.out (by rfl) HSD6.out (locks_one _) (by omega) (by omega) (by omega) ?_; intro A3 c3 w7 hown7 hgr7 hat7; have HO7 := Lib.hid hown7; have HG7 := Lib.hid hgr7; clear hown7 hgr7 hat7))
       go_ret2
       have hlen : ls.length + 1 = j + 1 + (i - j) := by have := HNL.out; omega
       refine ⟨.inr ⟨HR.out, A3, c3, by rw [hlen]; rfl, ?_⟩, ?_⟩
       ·unfold Hid LocksO; rw [hlen, HINS.out]; rw [List.flatMap_append, List.flatMap_cons, ← List.append_assoc]; exact HO7.out.mono (by have := HS4.out.bl.size; omega)
       ·have h1 := HS4.out.bl.trans (HB46.out.mono HS4.out.bl.size); exact h1.trans ⟨HG7.out.os, HG7.out.tape, HG7.out.output, HG7.out.size, fun t ht => HG7.out.block t (by have := h1.size; omega) (fun e => by have := (HO6.out.lt t e.symm).1; have := HS4.out.bl.size; omega)⟩
      ·go_simp
       refine hK.out _ _ (fun _ => ?_) (fun hHeld' => ?_)
       ·exact ⟨cell_al2 _ HBX.out.1, cell_al2 _ HBX.out.2.1, cell_al2 _ HBX.out.2.2⟩
       replace hHeld := hHeld' rfl
       clear hHeld' hK K
       try dsimp only at hHeld
       refine wpAnyJ_oneL (k := 3) (mf 8 6) (by kernel_rfl) (by kernel_rfl) rfl (fun K hK => ?_)
       (refine step_app_d (d := some 75) (by rfl) (by rfl) _ (.tmp 74) (by rfl) el_lock (by rfl) (World.ownsRow_nil _ w4.heap.size _ _) (by rfl) (HSK.out.alloc (by have := HS4.out.bl.size; simp; omega) _) (locks_one _) (by omega) (by omega) (by simp) ?_; intro A1 c1 w5 hown5 hgr5 hat5; simp only [Nat.zero_add, List.nil_append] at hown5 hgr5 hat5 ⊢)
       refine hK.out _ _ (fun _ => ?_) (fun hHeld' => ?_)
       ·exact ⟨keep_cell (ra_below0 hgr5) HBX.out.1, keep_cell (ra_below0 hgr5) HBX.out.2.1, keep_cell (ra_below0 hgr5) HBX.out.2.2⟩
       replace hHeld := hHeld' rfl
       clear hHeld' hK K
       try dsimp only at hHeld
       refine wpAnyJ_oneL (k := 6) (mf 8 7) (by kernel_rfl) (by kernel_rfl) rfl (fun K hK => ?_)
       (refine step_app_d (d := some 78) (by rfl) (by rfl) (.tmp 75) (.tmp 77) (by rfl) el_lock (by rfl) hown5 (by rfl) ((Sl.newest (w := w4.drew) (cs := #[.int .i64 d, .int .i64 p, .int .i64 q]) (T := 46) (n := 1) (size := 3) rfl (by rfl) (by decide)).below (below_none hgr5) (by simp)) (by simp [Value.oneCell']) (by omega) (by omega) (by have := hgr5.size; simp at this ⊢; omega) ?_; intro A2 c2 w6 hown6 hgr6 hat6)
       refine hK.out _ _ (fun _ => ?_) (fun hHeld' => ?_)
       ·exact ⟨keep_cell (ra_below2 hgr5 hown5 hgr6) HBX.out.1, keep_cell (ra_below2 hgr5 hown5 hgr6) HBX.out.2.1, keep_cell (ra_below2 hgr5 hown5 hgr6) HBX.out.2.2⟩
       replace hHeld := hHeld' rfl
       clear hHeld' hK K
       try dsimp only at hHeld
       refine tk 7 14 (mf 8 8) hHeld ?_
       refine wpAnyJ_done (by kernel_rfl) ?_ _
       clear hHeld
       have HB46 : Hid (Below w4.heap.size w4 w6) := by first | exact ra_below hgr5 hown5 hgr6 | exact ra_below2 hgr5 hown5 hgr6
       have HO6 := Lib.hid hown6
       have HSD6 := Lib.hid (HSD.out.below HB46.out (by have := HS4.out.bl.size; omega))
       have hcut := HCUT.out
       have hz46 := HB46.out.size
       clear hown5 hgr5 hat5 hown6 hgr6 hat6
       go_wp2_with (at_builtin; go_must (refine wpList_app rfl (.tmp 79) (.tmp 82) rfl el_lock (by rfl) HO6.out (by rfl) HSD6.out (locks_one _) (by omega) (by omega) (by omega) ?_; intro A3 c3 w7 hown7 hgr7 hat7; have HO7 := Lib.hid hown7; have HG7 := Lib.hid hgr7; clear hown7 hgr7 hat7))
       go_ret2
       have hlen : ls.length + 1 = j + 1 + (i - j) := by have := HNL.out; omega
       refine ⟨.inr ⟨HR.out, A3, c3, by rw [hlen]; rfl, ?_⟩, ?_⟩
       ·unfold Hid LocksO; rw [hlen, HINS.out]; rw [List.flatMap_append, List.flatMap_cons, ← List.append_assoc]; exact HO7.out.mono (by have := HS4.out.bl.size; omega)
       ·have h1 := HS4.out.bl.trans (HB46.out.mono HS4.out.bl.size); exact h1.trans ⟨HG7.out.os, HG7.out.tape, HG7.out.output, HG7.out.size, fun t ht => HG7.out.block t (by have := h1.size; omega) (fun e => by have := (HO6.out.lt t e.symm).1; have := HS4.out.bl.size; omega)⟩
end Go.Proofs.YtepicjpdhpojnaaGreatDoor
namespace Go.Proofs.YtepicjpdhpojnaaGreatDoor
open Go.RowKit
structure Fd where
 s : List Int
 ls : List Lk
 st : List Int
theorem getDf {l : List Int} {k : Nat} {x : Int} (h : l[k]? = some x) : l.getD k 0 = x := by rw [List.getD_eq_getElem?_getD, h]; rfl
def stkE (nd : Nat) (st : List Int) (i : Nat) : Bool := match st[i]? with
 | none => false
 | some d => decide (d < 0) || decide ((nd : Int) ≤ d) || (decide (0 < i) && decide (d ≤ st.getD (i - 1) 0))
def StkOk (nd : Nat) (st : List Int) : Prop := ∀ i, i < st.length → stkE nd st i = false
def LsOk (s : List Int) (ls : List Lk) : Prop := ∀ k ∈ ls, s.getD k.dev.toNat 0 = k.pos
open Classical in
noncomputable def fdErr (ns : List Nd) (ds : List Dv) (F : Fd) : Int := if stateErr ns ds F.s ≠ 0 then stateErr ns ds F.s else if locksErr ns ds F.ls ≠ 0 then locksErr ns ds F.ls else if LsOk F.s F.ls then (if StkOk ds.length F.st then 0 else 8) else 10
section
variable {ns : List Nd} {ds : List Dv} {F : Fd}
theorem fdErr_state (h : stateErr ns ds F.s ≠ 0) : fdErr ns ds F = stateErr ns ds F.s := by unfold fdErr; rw [if_pos h]
theorem fdErr_locks (h : stateErr ns ds F.s = 0) (h1 : locksErr ns ds F.ls ≠ 0) : fdErr ns ds F = locksErr ns ds F.ls := by unfold fdErr; rw [if_neg (by simp [h]), if_pos h1]
theorem fdErr_ls (h : stateErr ns ds F.s = 0) (h1 : locksErr ns ds F.ls = 0) (h2 : ¬ LsOk F.s F.ls) : fdErr ns ds F = 10 := by unfold fdErr; rw [if_neg (by simp [h]), if_neg (by simp [h1]), if_neg h2]
theorem fdErr_st (h : stateErr ns ds F.s = 0) (h1 : locksErr ns ds F.ls = 0) (h2 : LsOk F.s F.ls) (h3 : ¬ StkOk ds.length F.st) : fdErr ns ds F = 8 := by unfold fdErr; rw [if_neg (by simp [h]), if_neg (by simp [h1]), if_pos h2, if_neg h3]
theorem fdErr_ok (h : stateErr ns ds F.s = 0) (h1 : locksErr ns ds F.ls = 0) (h2 : LsOk F.s F.ls) (h3 : StkOk ds.length F.st) : fdErr ns ds F = 0 := by unfold fdErr; rw [if_neg (by simp [h]), if_neg (by simp [h1]), if_pos h2, if_pos h3]
theorem fdErr_zero (h : fdErr ns ds F = 0) : stateErr ns ds F.s = 0 ∧ locksErr ns ds F.ls = 0 ∧ LsOk F.s F.ls ∧ StkOk ds.length F.st := by
 by_cases h1 : stateErr ns ds F.s = 0
 ·by_cases h2 : locksErr ns ds F.ls = 0
  ·by_cases h3 : LsOk F.s F.ls
   ·by_cases h4 : StkOk ds.length F.st
    ·exact ⟨h1, h2, h3, h4⟩
    ·rw [fdErr_st h1 h2 h3 h4] at h; cases h
   ·rw [fdErr_ls h1 h2 h3] at h; cases h
  ·rw [fdErr_locks h1 h2] at h; exact absurd h h2
 ·rw [fdErr_state h1] at h; exact absurd h h1
theorem stateErr_len {s : List Int} (h : stateErr ns ds s = 0) : checkN ns ds = 0 ∧ s.length = ds.length ∧ ∀ p ∈ s, posB p = true := by
 unfold stateErr at h
 split at h
 ·next h1 => exact absurd h h1
 ·next h1 =>
  split at h
  ·cases h
  ·next h2 =>
   split at h
   ·next h3 => exact ⟨by simpa using h1, by omega, h3⟩
   ·cases h
theorem lkErr_dev {k : Lk} (h : lkErr ds k = 0) : 0 ≤ k.dev ∧ k.dev < ds.length ∧ kindOf ds k.dev ≠ 5 ∧ (k.pos = 1 ∨ k.pos = 2) ∧ 0 ≤ k.key ∧ k.key ≤ 65536 := by
 unfold lkErr at h
 repeat' split at h
 all_goals first | (exfalso; omega) | (refine ⟨?_, ?_, ?_, ?_, ?_, ?_⟩ <;> first | omega | assumption)
end
theorem srt_ext : ∀ {a b : List Int}, a.Pairwise (· < ·) → b.Pairwise (· < ·) → (∀ x, x ∈ a ↔ x ∈ b) → a = b
 | [], [], _, _, _ => rfl
 | [], y :: b, _, _, h => by have := (h y).2 (List.mem_cons_self ..); cases this
 | x :: a, [], _, _, h => by have := (h x).1 (List.mem_cons_self ..); cases this
 | x :: a, y :: b, ha, hb, h => by
  rw [List.pairwise_cons] at ha hb
  have e : x = y := by
   rcases List.mem_cons.1 ((h x).1 (List.mem_cons_self ..)) with h1 | h1
   ·exact h1
   ·rcases List.mem_cons.1 ((h y).2 (List.mem_cons_self ..)) with h2 | h2
    ·exact h2.symm
    ·have := hb.1 x h1; have := ha.1 y h2; omega
  subst e
  congr 1
  refine srt_ext ha.2 hb.2 fun z => ⟨fun hz => ?_, fun hz => ?_⟩
  ·rcases List.mem_cons.1 ((h z).1 (List.mem_cons_of_mem _ hz)) with h1 | h1
   ·subst h1; exact absurd (ha.1 z hz) (by omega)
   ·exact h1
  ·rcases List.mem_cons.1 ((h z).2 (List.mem_cons_of_mem _ hz)) with h1 | h1
   ·subst h1; exact absurd (hb.1 z hz) (by omega)
   ·exact h1
def rngI (n : Nat) : List Int := (List.range n).map fun v : Nat => (v : Int)
theorem rngI_succ (n : Nat) : rngI (n + 1) = rngI n ++ [(n : Int)] := by unfold rngI; rw [List.range_succ, List.map_append]; rfl
theorem rngI_mem {n : Nat} {x : Int} : x ∈ rngI n ↔ 0 ≤ x ∧ x < n := by
 unfold rngI
 rw [List.mem_map]
 constructor
 ·rintro ⟨v, hv, rfl⟩; have := List.mem_range.1 hv; omega
 ·intro h; exact ⟨x.toNat, List.mem_range.2 (by omega), by omega⟩
theorem rngI_srt : ∀ n, (rngI n).Pairwise (· < ·)
 | 0 => by unfold rngI; exact List.Pairwise.nil
 | n + 1 => by
  rw [rngI_succ, List.pairwise_append]
  exact ⟨rngI_srt n, List.pairwise_singleton _ _, fun a ha b hb => by rw [List.mem_singleton.1 hb]; exact (rngI_mem.1 ha).2⟩
def stkTo (nd : Nat) (st : List Int) (d : Int) (b : Bool) : List Int := (rngI nd).filter fun v => if v = d then b else decide (v ∈ st)
theorem stkTo_mem {nd : Nat} {st : List Int} {d x : Int} {b : Bool} : x ∈ stkTo nd st d b ↔ (0 ≤ x ∧ x < nd) ∧ (if x = d then b = true else x ∈ st) := by
 unfold stkTo
 rw [List.mem_filter, rngI_mem]
 split <;> simp
theorem stkTo_srt (nd : Nat) (st : List Int) (d : Int) (b : Bool) : (stkTo nd st d b).Pairwise (· < ·) := (rngI_srt nd).sublist List.filter_sublist
theorem StkOk.mem {nd : Nat} {st : List Int} (h : StkOk nd st) {x : Int} (hx : x ∈ st) : 0 ≤ x ∧ x < nd := by
 obtain ⟨i, hi, rfl⟩ := List.mem_iff_getElem.1 hx
 have := h i hi
 unfold stkE at this
 rw [List.getElem?_eq_getElem hi] at this
 simp only [Bool.or_eq_false_iff, decide_eq_false_iff_not] at this
 omega
theorem StkOk.srt {nd : Nat} {st : List Int} (h : StkOk nd st) : st.Pairwise (· < ·) := by
 have step : ∀ i (hi : i + 1 < st.length), st[i] < st[i + 1] := by
  intro i hi
  have := h (i + 1) hi
  unfold stkE at this
  rw [List.getElem?_eq_getElem hi] at this
  simp only [Bool.or_eq_false_iff, Nat.add_sub_cancel, List.getD_eq_getElem?_getD, List.getElem?_eq_getElem (show i < st.length by omega), Option.getD_some] at this
  simpa using this.2
 have all : ∀ (j i : Nat) (hj : j < st.length) (hij : i < j), st[i]'(by omega) < st[j] := by
  intro j
  induction j with
  | zero => intro i hj hij; omega
  | succ j ih =>
   intro i hj hij
   rcases Nat.lt_succ_iff_lt_or_eq.1 hij with hlt | rfl
   ·exact Int.lt_trans (ih i (by omega) hlt) (step j hj)
   ·exact step i hj
 rw [List.pairwise_iff_getElem]
 intro i j hi hj hij
 exact all j i hj hij
theorem StkOk.of {nd : Nat} {st : List Int} (h : st.Pairwise (· < ·)) (hm : ∀ x ∈ st, 0 ≤ x ∧ x < nd) : StkOk nd st := by
 intro i hi
 have h1 := hm _ (List.getElem_mem hi)
 unfold stkE
 rw [List.getElem?_eq_getElem hi]
 simp only [Bool.or_eq_false_iff, decide_eq_false_iff_not, Bool.and_eq_false_iff]
 refine ⟨⟨by omega, by omega⟩, ?_⟩
 by_cases h0 : i = 0
 ·left; omega
 ·right
  rw [List.getD_eq_getElem?_getD, List.getElem?_eq_getElem (show i - 1 < st.length by omega), Option.getD_some]
  have := (List.pairwise_iff_getElem.1 h) (i - 1) i (by omega) hi (by omega)
  omega
theorem stkTo_ok (nd : Nat) (st : List Int) (d : Int) (b : Bool) : StkOk nd (stkTo nd st d b) := StkOk.of (stkTo_srt ..) fun _ h => (stkTo_mem.1 h).1
def unuB (k p q : Int) : Bool := if k = 6 then false else if k = 7 then decide (p ≠ 0) else if k = 2 ∨ k = 4 ∨ k = 5 then decide (p ≠ 0) || decide (q ≠ 0) else decide (q ≠ 0)
def evErr (ns : List Nd) (ds : List Dv) (F : Fd) (k d p q : Int) : Int :=
 if k = 1 then (if kindOf ds d = 5 then 6 else if posB p = false then 10 else if (lckL F.ls d).isSome = true then 18 else 0)
 else if k = 2 then (if kindOf ds d = 2 then 0 else 6)
 else if k = 3 then (if kindOf ds d = 6 then (if posB p = true then 0 else 10) else 6)
 else if k = 4 ∨ k = 5 then 0
 else if k = 6 then (if posB p = true ∧ F.s.getD d.toNat 0 = p then addErr ns ds F.ls ⟨d, p, q⟩ else 10)
 else if k = 7 then (if idxL d q F.ls = none then 15 else 0)
 else 6
def evTo (ds : List Dv) (F : Fd) (k d p q : Int) : Fd :=
 if k = 1 ∨ k = 2 ∨ k = 3 then (if ((lckL F.ls d).isSome || decide (d ∈ F.st)) = true then F else ⟨F.s.set d.toNat (if k = 2 then 1 else p), F.ls, F.st⟩)
 else if k = 4 ∨ k = 5 then ⟨F.s, F.ls, stkTo ds.length F.st d (decide (k = 4))⟩
 else if k = 6 then ⟨F.s, insL ⟨d, p, q⟩ F.ls, F.st⟩
 else if k = 7 then ⟨F.s, (match idxL d q F.ls with | some i => F.ls.eraseIdx i | none => F.ls), F.st⟩
 else F
noncomputable def stpErr (ns : List Nd) (ds : List Dv) (F : Fd) (k d p q : Int) : Int :=
 if fdErr ns ds F ≠ 0 then fdErr ns ds F else if d < 0 ∨ (ds.length : Int) ≤ d then 8 else if unuB k p q = true then 14 else evErr ns ds F k d p q
structure FdM (w : World) (An Ad As Al At : Option Addr) (nn cn nd cd n c nl cl nt ct : Nat) (ns : List Nd) (ds : List Dv) (F : Fd) : Prop where
 hn : Sl w w.heap.size 3 An nn cn (ns.flatMap Nd.cells)
 hd : Sl w w.heap.size 5 Ad nd cd (ds.flatMap Dv.cells)
 hs : Sl w w.heap.size 1 As n c (intsV F.s)
 hl : Sl w w.heap.size 3 Al nl cl (F.ls.flatMap Lk.cells)
 ht : Sl w w.heap.size 1 At nt ct (intsV F.st)
 la : Laid w
 sn : ∀ x ∈ ns, x.name.size ≤ 9223372036854775807
 sd : ∀ x ∈ ds, x.name.size ≤ 9223372036854775807
section
variable {w w' : World} {An Ad As Al At : Option Addr} {nn cn nd cd n c nl cl nt ct : Nat} {ns : List Nd} {ds : List Dv} {F : Fd}
theorem FdM.later (h : FdM w An Ad As Al At nn cn nd cd n c nl cl nt ct ns ds F) (hb : Below w.heap.size w w') : FdM w' An Ad As Al At nn cn nd cd n c nl cl nt ct ns ds F :=
 ⟨(h.hn.below hb (Nat.le_refl _)).more hb.size, (h.hd.below hb (Nat.le_refl _)).more hb.size, (h.hs.below hb (Nat.le_refl _)).more hb.size, (h.hl.below hb (Nat.le_refl _)).more hb.size, (h.ht.below hb (Nat.le_refl _)).more hb.size, h.la.below hb (Nat.le_refl _), h.sn, h.sd⟩
theorem FdM.ln (h : FdM w An Ad As Al At nn cn nd cd n c nl cl nt ct ns ds F) : ns.length = nn ∧ ds.length = nd ∧ F.s.length = n ∧ F.ls.length = nl ∧ F.st.length = nt :=
 ⟨h.hn.len (fun _ => rfl) (by decide), h.hd.len (fun _ => rfl) (by decide), h.hs.len (fun _ => rfl) (by decide), h.hl.len (fun _ => rfl) (by decide), h.ht.len (fun _ => rfl) (by decide)⟩
end
structure Bx2f (w : World) (cn cf : Array Value) (wr : World) : Prop where
 b0 : Blk wr w.heap.size 30 cn
 b1 : Blk wr (w.heap.size + 1) 35 cf
 bl : Below w.heap.size w wr
theorem Bx2f.new (w : World) (cn cf : Array Value) : Bx2f w cn cf ((w.alloc (.cells cn 30)).alloc (.cells cf 35)) := by
 have e : (w.alloc (.cells cn 30)).heap.size = w.heap.size + 1 := by simp
 refine ⟨(Blk.new w _ _).alloc _, ?_, ((Below.refl _ _).alloc (Nat.le_refl _) _).alloc (by simp) _⟩
 have := Blk.new (w.alloc (.cells cn 30)) 35 cf
 rwa [e] at this
theorem Bx2f.later {w wr wr' : World} {cn cf : Array Value} (h : Bx2f w cn cf wr) (hb : Below wr.heap.size wr wr') : Bx2f w cn cf wr' := ⟨h.b0.below hb h.b0.lt, h.b1.below hb h.b1.lt, h.bl.trans (hb.mono h.bl.size)⟩
theorem Bx2f.drewN {w wr : World} {cn cf : Array Value} (h : Bx2f w cn cf wr) (m : Nat) : Bx2f w cn cf (wr.drewN m) := h.later (below_drewN (Below.refl _ _) m)
end Go.Proofs.YtepicjpdhpojnaaGreatDoor
namespace Go.Proofs.YtepicjpdhpojnaaGreatDoor
open Go.RowKit
theorem valid_any (An Ad : Option Addr) (nn cn nd cd Bd : Nat) (ds : List Dv) (d p q : Int) (w : World) (hd : Sl w Bd 5 Ad nd cd (ds.flatMap Dv.cells)) (hBd : Bd ≤ w.heap.size) :
 Calls Tryz.prog 83 #[.agg #[.slice An nn cn, .slice Ad nd cd], .agg #[.int .i64 d, .int .i64 p, .int .i64 q]] w fun e w' => e = .returned (.int .i64 (lkErr ds ⟨d, p, q⟩)) ∧ Below w.heap.size w w' := by
 have HLD := Lib.hid (hd.len (fun _ => rfl) (by decide))
 have HE : Hid (lkErr ds ⟨d, p, q⟩ = if d < 0 then 8 else if (nd : Int) ≤ d then 8 else if kindOf ds d = 5 then 6 else if p ≠ 1 ∧ p ≠ 2 then 10 else if q < 0 then 5 else if 65536 < q then 5 else 0) := by unfold Hid lkErr; rw [HLD.out]
 have HB : Hid (Below w.heap.size w ((w.alloc (.cells #[.slice An nn cn, .slice Ad nd cd] 30)).alloc (.cells #[.int .i64 d, .int .i64 p, .int .i64 q] 46))) := ((Below.refl _ _).alloc (Nat.le_refl _) _).alloc (by simp) _
 have HD2 := Lib.hid ((hd.alloc hBd (.cells #[.slice An nn cn, .slice Ad nd cd] 30)).alloc (by simp; omega) (.cells #[.int .i64 d, .int .i64 p, .int .i64 q] 46))
 have hdm := hd.le
 clear hd
 by_cases h1 : d < 0
 ·have q1 : decide (d < 0) = true := by simpa using h1
  go_enter Tryz.func83, Tryz.ntmps83
  go_wp2_with fail
  go_ret
  exact ⟨ret_int (by rw [HE.out, if_pos h1]), HB.out⟩
 have q1 : decide (d < 0) = false := by simpa using h1
 by_cases h2 : (nd : Int) ≤ d
 ·have q2 : decide ((nd : Int) ≤ d) = true := by simpa using h2
  go_enter Tryz.func83, Tryz.ntmps83
  go_wp2_with fail
  go_ret
  exact ⟨ret_int (by rw [HE.out, if_neg (by omega), if_pos h2]), HB.out⟩
 obtain ⟨i, rfl⟩ := Int.eq_ofNat_of_zero_le (show 0 ≤ d by omega)
 have hin : i < nd := by omega
 have q2 : decide (nd ≤ i) = false := by simp; omega
 obtain ⟨b0, off, x, rfl, hb0, hx, hc⟩ := HD2.out.at (fun _ => rfl) (by decide) hin
 have HX := Lib.hid (kindOf_at hx)
 obtain ⟨nm, kd, xa, xb, co⟩ := x
 have c1 := hc 1 _ rfl
 clear hc hx
 by_cases h3 : kd = 5
 ·subst h3
  go_enter Tryz.func83, Tryz.ntmps83
  go_wp2_with fail
  go_ret
  exact ⟨ret_int (by rw [HE.out, if_neg (by omega), if_neg (by omega), HX.out, if_pos rfl]), HB.out⟩
 have q3 : (kd == 5) = false := by simpa using h3
 have HR : Hid (lkErr ds ⟨(i : Int), p, q⟩ = if p ≠ 1 ∧ p ≠ 2 then 10 else if q < 0 then 5 else if 65536 < q then 5 else 0) := by unfold Hid; rw [HE.out, if_neg (by omega), if_neg (by omega), HX.out, if_neg h3]
 clear h1 h2 h3 HE HX
 by_cases h4 : p = 1 ∨ p = 2
 ·have HR2 : Hid (lkErr ds ⟨(i : Int), p, q⟩ = if q < 0 then 5 else if 65536 < q then 5 else 0) := by unfold Hid; rw [HR.out, if_neg (by omega)]
  clear HR
  by_cases h5 : q < 0
  ·have q5 : decide (q < 0) = true := by simpa using h5
   rcases h4 with rfl | rfl
   all_goals
    go_enter Tryz.func83, Tryz.ntmps83
    go_wp2_with fail
    go_ret
    exact ⟨ret_int (by rw [HR2.out, if_pos h5]), HB.out⟩
  have q5 : decide (q < 0) = false := by simpa using h5
  by_cases h6 : 65536 < q
  ·have q6 : decide (65536 < q) = true := by simpa using h6
   rcases h4 with rfl | rfl
   all_goals
    go_enter Tryz.func83, Tryz.ntmps83
    go_wp2_with fail
    go_ret
    exact ⟨ret_int (by rw [HR2.out, if_neg (by omega), if_pos h6]), HB.out⟩
  have q6 : decide (65536 < q) = false := by simpa using h6
  rcases h4 with rfl | rfl
  all_goals
   go_enter Tryz.func83, Tryz.ntmps83
   go_wp2_with fail
   go_ret
   exact ⟨ret_int (by rw [HR2.out, if_neg (by omega), if_neg (by omega)]), HB.out⟩
 ·have p1 : (p != 1) = true := by simp; omega
  have p2 : (p != 2) = true := by simp; omega
  go_enter Tryz.func83, Tryz.ntmps83
  go_wp2_with fail
  go_ret
  exact ⟨ret_int (by rw [HR.out, if_pos (by omega)]), HB.out⟩
def PlR (w : World) (ls : List Lk) (d : Int) (n gk : Nat) (iv : Value) (wr : World) : Prop := ∃ i : Nat, iv = .int .i64 i ∧ i ≤ n ∧ gk = n - i ∧ Hid (∀ x ∈ ls.take i, x.dev ≠ d) ∧ Hid (Below w.heap.size w wr)
theorem locked_any (A : Option Addr) (n c B : Nat) (ls : List Lk) (d : Int) (w : World) (hs : Sl w B 3 A n c (ls.flatMap Lk.cells)) (hB : B ≤ w.heap.size) :
 Calls Tryz.prog 45 #[.slice A n c, .int .i64 d] w fun e w' => e = lckE ls d ∧ Below w.heap.size w w' := by
 have HLN := Lib.hid (hs.len (fun _ => rfl) (by decide)); have HS := Lib.hid hs
 have hle := hs.le
 clear hs
 go_enter Tryz.func45, Tryz.ntmps45
 go_wp2_with fail
 go_loopg [10] n (PlR w ls d n)
 case atStart => exact ⟨0, rfl, Nat.zero_le _, rfl, (fun x hx => by simp at hx), Below.refl _ _⟩
 case round =>
  obtain ⟨i, rfl, hi, rfl, hno, hbl⟩ := hrel
  by_cases hlt : i < n
  ·obtain ⟨b, off, d1, p1, q1, rfl, hb, hx, c0, c1, c2⟩ := (HS.out.below hbl.out hB).lock hlt
   have HX := Lib.hid hx
   have HB2 : Hid (Below w.heap.size w (wr.alloc (.cells #[.int .i64 d1, .int .i64 p1, .int .i64 q1] 46))) := hbl.out.alloc hbl.out.size _
   clear hx
   by_cases hd : d1 = d
   ·subst hd
    have HR : Hid (lckL ls d1 = some p1) := lck_hit hno.out HX.out rfl
    have qq : (d1 == d1) = true := by simp
    go_wp2_with fail
    go_ret2
    exact ⟨by unfold lckE; rw [HR.out]; rfl, HB2.out⟩
   ·have qq : (d1 == d) = false := by simpa using hd
    have HN : Hid (∀ x ∈ ls.take (i + 1), x.dev ≠ d) := fun x hx => by
     rw [take_snoc HX.out] at hx
     rcases List.mem_append.1 hx with h | h
     ·exact hno.out x h
     ·rw [List.mem_singleton.1 h]; exact hd
    clear hd
    go_wp2_with fail
    go_roundg (n - (i + 1))
    case rel => exact ⟨i + 1, by go_num, by omega, rfl, HN, HB2⟩
    case measure => omega
  ·obtain rfl : i = n := by omega
   have hii : decide (i < i) = false := by simp
   have HR : Hid (lckL ls d = none) := by
    have := hno.out
    rw [List.take_of_length_le (by rw [HLN.out]; exact Nat.le_refl _)] at this
    exact lck_none.2 this
   go_wp2_with fail
   go_ret2
   exact ⟨by unfold lckE; rw [HR.out]; rfl, hbl.out⟩
def PredL (g : Nat) (lb : Array Value) (p : Lk → Bool) (w : World) : Prop :=
 ∀ (W : World) (d q r : Int), Below w.heap.size w W → Calls Tryz.prog g (#[.agg #[.int .i64 d, .int .i64 q, .int .i64 r]] ++ lb) W fun e w' => e = .returned (.bool (p ⟨d, q, r⟩)) ∧ Below w.heap.size w w'
def IfR (w : World) (ls : List Lk) (p : Lk → Bool) (n gk : Nat) (_kv iv : Value) (wr : World) : Prop := ∃ i : Nat, iv = .int .i64 i ∧ i ≤ n ∧ gk = n - i ∧ Hid (∀ x ∈ ls.take i, p x = false) ∧ Hid (Below w.heap.size w wr)
theorem idxf_any (g : Nat) (lb : Array Value) (p : Lk → Bool) (eg : ∀ args w, (callFunc g args).run Tryz.prog w = .ok (.enter g args) w) (A : Option Addr) (n c B : Nat) (ls : List Lk) (w : World) (hs : Sl w B 3 A n c (ls.flatMap Lk.cells)) (hB : B ≤ w.heap.size) (hp : PredL g lb p w) :
 Calls Tryz.prog 91 #[.slice A n c, .func (.func g) #[] lb] w fun e w' => (∃ i : Int, e = .returned (.int .i64 i) ∧ Hid (decide (0 ≤ i) = ls.any p)) ∧ Below w.heap.size w w' := by
 have HLN := Lib.hid (hs.len (fun _ => rfl) (by decide)); have HS := Lib.hid hs
 have hle := hs.le
 have HP := Lib.hid hp
 clear hs hp
 go_enter Tryz.func91, Tryz.ntmps91
 go_wp2_with fail
 go_loopg [5, 8] n (IfR w ls p n)
 case atStart => exact ⟨0, rfl, Nat.zero_le _, rfl, (fun x hx => by simp at hx), Below.refl _ _⟩
 case round =>
  obtain ⟨i, rfl, hi, rfl, hno, hbl⟩ := hrel
  by_cases hlt : i < n
  ·obtain ⟨b, off, d1, p1, q1, rfl, hb, hx, c0, c1, c2⟩ := (HS.out.below hbl.out hB).lock hlt
   have HX := Lib.hid hx
   have hcall := HP.out wr d1 p1 q1 hbl.out
   clear hx
   rcases hq : p ⟨d1, p1, q1⟩ with _ | _
   ·rw [hq] at hcall
    have HN : Hid (∀ x ∈ ls.take (i + 1), p x = false) := fun x hx => by
     rw [take_snoc HX.out] at hx
     rcases List.mem_append.1 hx with h | h
     ·exact hno.out x h
     ·rw [List.mem_singleton.1 h]; exact hq
    clear hq
    go_wp2_with (go_at_fn g; refine hcall.mono ?_; rintro e w' ⟨rfl, hb'⟩)
    go_roundg (n - (i + 1))
    case rel => exact ⟨i + 1, by go_num, by omega, rfl, HN, hb'⟩
    case measure => omega
   ·rw [hq] at hcall
    have HR : Hid (decide (0 ≤ (i : Int)) = ls.any p) := by
     unfold Hid
     rw [decide_eq_true (by omega)]
     symm
     rw [List.any_eq_true]
     exact ⟨_, List.mem_of_getElem? HX.out, hq⟩
    clear hq
    go_wp2_with (go_at_fn g; refine hcall.mono ?_; rintro e w' ⟨rfl, hb'⟩)
    go_ret
    exact ⟨⟨_, rfl, HR⟩, hb'⟩
  ·obtain rfl : i = n := by omega
   have hii : decide (i < i) = false := by simp
   have HR : Hid (decide (0 ≤ (-1 : Int)) = ls.any p) := by
    have := hno.out
    rw [List.take_of_length_le (by rw [HLN.out]; exact Nat.le_refl _)] at this
    unfold Hid
    rw [decide_eq_false (by omega)]
    symm
    rw [List.any_eq_false]
    intro x hx
    rw [this x hx]; simp
   go_wp2_with fail
   go_ret
   exact ⟨⟨_, rfl, HR⟩, hbl.out⟩
theorem contf_any (g : Nat) (lb : Array Value) (p : Lk → Bool) (eg : ∀ args w, (callFunc g args).run Tryz.prog w = .ok (.enter g args) w) (A : Option Addr) (n c B : Nat) (ls : List Lk) (w : World) (hs : Sl w B 3 A n c (ls.flatMap Lk.cells)) (hB : B ≤ w.heap.size) (hp : PredL g lb p w) :
 Calls Tryz.prog 54 #[.slice A n c, .func (.func g) #[] lb] w fun e w' => e = .returned (.bool (ls.any p)) ∧ Below w.heap.size w w' := by
 have HI := Lib.hid (idxf_any g lb p eg A n c B ls w hs hB hp)
 clear hs hp
 go_enter Tryz.func54, Tryz.ntmps54
 go_wp2_with fail
 refine HI.out.mono ?_
 rintro e w1 ⟨⟨i, rfl, hi⟩, hb⟩
 go_wp2_with fail
 go_ret
 exact ⟨ret_bool hi.out, hb⟩
theorem used_any (A : Option Addr) (n c B : Nat) (ls : List Lk) (q : Int) (w : World) (hs : Sl w B 3 A n c (ls.flatMap Lk.cells)) (hB : B ≤ w.heap.size) :
 Calls Tryz.prog 86 #[.slice A n c, .int .i64 q] w fun e w' => e = .returned (.bool (usdL ls q)) ∧ Below w.heap.size w w' := by
 have HP : Hid (PredL 115 #[.pointer (some ⟨w.heap.size, 0, none⟩)] (fun x => decide (x.key = q)) (w.alloc (.cells #[.int .i64 q] 3))) := by
  intro W d p q1 hb
  have hc : W.cell? ⟨w.heap.size, 0, none⟩ = some (.int .i64 q) := (hb.cell (p := ⟨w.heap.size, 0, none⟩) (by simp)).trans (by simp)
  have hBW : w.heap.size < W.heap.size := Nat.lt_of_lt_of_le (by simp) hb.size
  have hne : w.heap.size ≠ W.heap.size := by omega
  show Calls Tryz.prog 115 #[.agg #[.int .i64 d, .int .i64 p, .int .i64 q1], .pointer (some ⟨w.heap.size, 0, none⟩)] W _
  go_enter Tryz.func115, Tryz.ntmps115
  go_wp2_with fail
  go_ret
  exact ⟨ret_bool (by by_cases h : q1 = q <;> simp [h]), hb.alloc hb.size _⟩
 have HI := Lib.hid (contf_any 115 #[.pointer (some ⟨w.heap.size, 0, none⟩)] (fun x => decide (x.key = q)) (enters_of Tryz.func115 (by kernel_rfl) rfl) A n c B ls _ (hs.alloc hB _) (by simp; omega) HP.out)
 have HB : Hid (Below w.heap.size w (w.alloc (.cells #[.int .i64 q] 3))) := (Below.refl _ _).alloc (Nat.le_refl _) _
 clear hs HP
 go_enter Tryz.func86, Tryz.ntmps86
 go_wp2_with fail
 refine HI.out.mono ?_
 rintro e w1 ⟨rfl, hb⟩
 have HB2 := Lib.hid (HB.out.trans (hb.mono (by simp)))
 clear hb
 go_wp2_with fail
 go_ret
 exact ⟨rfl, HB2.out⟩
theorem other_any (A : Option Addr) (n c B : Nat) (ls : List Lk) (d p q : Int) (w : World) (hs : Sl w B 3 A n c (ls.flatMap Lk.cells)) (hB : B ≤ w.heap.size) :
 Calls Tryz.prog 85 #[.slice A n c, .agg #[.int .i64 d, .int .i64 p, .int .i64 q]] w fun e w' => e = .returned (.bool (othL ls ⟨d, p, q⟩)) ∧ Below w.heap.size w w' := by
 have HP : Hid (PredL 114 #[.pointer (some ⟨w.heap.size, 0, none⟩)] (othB ⟨d, p, q⟩) (w.alloc (.cells #[.int .i64 d, .int .i64 p, .int .i64 q] 46))) := by
  intro W d1 p1 q1 hb
  have hc0 : W.cell? ⟨w.heap.size, 0, none⟩ = some (.int .i64 d) := (hb.cell (p := ⟨w.heap.size, 0, none⟩) (by simp)).trans (by simp)
  have hc1 : W.cell? ⟨w.heap.size, 1, none⟩ = some (.int .i64 p) := (hb.cell (p := ⟨w.heap.size, 1, none⟩) (by simp)).trans (by simp)
  have hBW : w.heap.size < W.heap.size := Nat.lt_of_lt_of_le (by simp) hb.size
  have hne : w.heap.size ≠ W.heap.size := by omega
  have HBW : Hid (Below (w.alloc (.cells #[.int .i64 d, .int .i64 p, .int .i64 q] 46)).heap.size (w.alloc (.cells #[.int .i64 d, .int .i64 p, .int .i64 q] 46)) (W.alloc (.cells #[.int .i64 d1, .int .i64 p1, .int .i64 q1] 46))) := hb.alloc hb.size _
  clear hb
  show Calls Tryz.prog 114 #[.agg #[.int .i64 d1, .int .i64 p1, .int .i64 q1], .pointer (some ⟨w.heap.size, 0, none⟩)] W _
  by_cases h : d1 = d
  ·subst h
   have qd : (d1 == d1) = true := by simp
   go_enter Tryz.func114, Tryz.ntmps114
   go_wp2_with fail
   go_ret
   exact ⟨ret_bool (by by_cases h : p1 = p <;> simp [h, othB]), HBW.out⟩
  ·have qd : (d1 == d) = false := by simpa using h
   have HR : Hid (othB ⟨d, p, q⟩ ⟨d1, p1, q1⟩ = false) := by unfold Hid; simp [othB, h]
   go_enter Tryz.func114, Tryz.ntmps114
   go_wp2_with fail
   go_ret
   exact ⟨ret_bool HR.out.symm, HBW.out⟩
 have HI := Lib.hid (contf_any 114 #[.pointer (some ⟨w.heap.size, 0, none⟩)] (othB ⟨d, p, q⟩) (enters_of Tryz.func114 (by kernel_rfl) rfl) A n c B ls _ (hs.alloc hB _) (by simp; omega) HP.out)
 have HB : Hid (Below w.heap.size w (w.alloc (.cells #[.int .i64 d, .int .i64 p, .int .i64 q] 46))) := (Below.refl _ _).alloc (Nat.le_refl _) _
 clear hs HP
 go_enter Tryz.func85, Tryz.ntmps85
 go_wp2_with fail
 refine HI.out.mono ?_
 rintro e w1 ⟨rfl, hb⟩
 have HB2 := Lib.hid (HB.out.trans (hb.mono (by simp)))
 clear hb
 go_wp2_with fail
 go_ret
 exact ⟨rfl, HB2.out⟩
end Go.Proofs.YtepicjpdhpojnaaGreatDoor
