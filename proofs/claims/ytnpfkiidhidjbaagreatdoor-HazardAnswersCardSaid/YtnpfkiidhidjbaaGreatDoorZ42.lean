import Derived.Test.YtnpfkiidhidjbaaGreatDoorZ41
import Derived.Test.YtnpfkiidhidjbaaGreatDoorZ27
/-
 The references of layer 14: walk of Add.
-/
namespace Go.Proofs.YtnpfkiidhidjbaaGreatDoor
open Go.RowKit
def addErr (ns : List Nd) (ds : List Dv) (ls : List Lk) (k : Lk) : Int := if locksErr ns ds ls ≠ 0 then locksErr ns ds ls else if lkErr ds k ≠ 0 then lkErr ds k else if usdL ls k.key = true then 4 else if othL ls k = true then 18 else if ls.length = 128 then 1 else 0
def LkAddPost (w : World) (ns : List Nd) (ds : List Dv) (ls : List Lk) (k : Lk) (e : Ending) (w' : World) : Prop :=
 (addErr ns ds ls k ≠ 0 ∧ e = .returned (.tuple #[.slice none 0 0, .int .i64 (addErr ns ds ls k)]) ∨ addErr ns ds ls k = 0 ∧ ∃ (A : Option Addr) (c : Nat), e = .returned (.tuple #[.slice A (ls.length + 1) c, .int .i64 0]) ∧ Hid (LocksO w' w.heap.size A (ls.length + 1) c (insL k ls))) ∧ Hid (Below w.heap.size w w')
theorem locks_good {ns : List Nd} {ds : List Dv} {ls : List Lk} (h : locksErr ns ds ls = 0) : GoodL ds ls := by
 unfold locksErr at h
 split at h
 ·next hc => exact absurd h hc
 ·split at h
  ·omega
  ·exact good_of (by omega) h
/-- Where the first one that is not before k stands. -/
theorem below_none {w w' : World} (h : w.grownBy w' (Value.slice none 0 0).ownBlock) : Below w.heap.size w w' := ⟨h.os, h.tape, h.output, h.size, fun i hi => h.block i hi (by simp [Value.ownBlock])⟩
theorem ra_below {w4 w5 w6 : World} {A1 : Option Addr} {j c1 : Nat} {xs : List Value} {o : Obj} {e : TypeId} {size : Nat} (h5 : w4.drew.grownBy w5 (Value.slice none 0 0).ownBlock) (ho : w5.ownsRow w4.heap.size e size (.slice A1 j c1) j xs) (h6 : (w5.alloc o).grownBy w6 (Value.slice A1 j c1).ownBlock) : Below w4.heap.size w4 w6 := by
 have h1 : Below w4.heap.size w4 w5 := (Below.refl _ _).drew.trans (below_none h5)
 have h2 := h1.alloc h1.size o
 exact h2.trans ⟨h6.os, h6.tape, h6.output, h6.size, fun t ht => h6.block t (by have := h2.size; omega) (fun e => by have := (ho.lt t e.symm).1; omega)⟩
theorem ra_below0 {w4 w5 : World} {o : Obj} (h5 : (w4.alloc o).drew.grownBy w5 (Value.slice none 0 0).ownBlock) : Below w4.heap.size w4 w5 := by
 have h1 : Below w4.heap.size w4 (w4.alloc o).drew := ((Below.refl _ _).alloc (Nat.le_refl _) o).drew
 exact h1.trans ((below_none h5).mono (by simp))
theorem ra_below2 {w4 w5 w6 : World} {A1 : Option Addr} {j c1 : Nat} {xs : List Value} {o : Obj} {e : TypeId} {size : Nat} (h5 : (w4.alloc o).drew.grownBy w5 (Value.slice none 0 0).ownBlock) (ho : w5.ownsRow w4.heap.size e size (.slice A1 j c1) j xs) (h6 : w5.grownBy w6 (Value.slice A1 j c1).ownBlock) : Below w4.heap.size w4 w6 := by
 have h2 := ra_below0 h5
 exact h2.trans ⟨h6.os, h6.tape, h6.output, h6.size, fun t ht => h6.block t (by have := h2.size; omega) (fun e => by have := (ho.lt t e.symm).1; omega)⟩
theorem cell_al2 {W : World} {p : Addr} {v : Value} (o : Obj) (h : W.cell? p = some v) : (W.alloc o).cell? p = some v := (World.cell?_alloc_lt W o p (cell_lt h)).trans h
theorem while_at {p : Lk → Bool} : ∀ {l : List Lk} {i : Nat}, (∀ x ∈ l.take i, p x = true) → (∀ x, l[i]? = some x → p x = false) → l.takeWhile p = l.take i ∧ l.dropWhile p = l.drop i
 | [], i, _, _ => by simp
 | x :: l, 0, _, h => by
  have := h x rfl
  simp [this]
 | x :: l, i + 1, h1, h2 => by
  have hx := h1 x (by simp)
  obtain ⟨a, b⟩ := while_at (p := p) (l := l) (i := i) (fun y hy => h1 y (by simp [hy])) (fun y hy => h2 y (by simpa using hy))
  simp [hx, a, b]
/-- The memory of the call: its two boxes. -/
structure RaSt (w : World) (N K : Array Value) (wr : World) : Prop where
 bn : Blk wr w.heap.size 26 N
 bk : Blk wr (w.heap.size + 1) 77 K
 bl : Below w.heap.size w wr
theorem RaSt.later {w wr wr' : World} {N K : Array Value} (h : RaSt w N K wr) (hb : Below wr.heap.size wr wr') : RaSt w N K wr' := ⟨h.bn.below hb h.bn.lt, h.bk.below hb h.bk.lt, h.bl.trans (hb.mono h.bl.size)⟩
theorem RaSt.drew {w wr : World} {N K : Array Value} (h : RaSt w N K wr) : RaSt w N K wr.drew := h.later (Below.refl _ _).drew
def ArR1 (w : World) (N K : Array Value) (ls : List Lk) (q : Int) (n gk : Nat) (iv : Value) (wr : World) : Prop := ∃ i : Nat, iv = .int .i64 i ∧ i ≤ n ∧ gk = n - i ∧ Hid (usdL (ls.take i) q = false) ∧ Hid (RaSt w N K wr)
def ArR2 (w : World) (N K : Array Value) (ls : List Lk) (k : Lk) (n gk : Nat) (iv : Value) (wr : World) : Prop := ∃ i : Nat, iv = .int .i64 i ∧ i ≤ n ∧ gk = n - i ∧ Hid (∀ x ∈ ls.take i, befB x k = true) ∧ Hid (RaSt w N K wr)
set_option maxRecDepth 100000 in
set_option maxHeartbeats 8000000 in
theorem radd_any (An Ad Al : Option Addr) (nn cn nd cd c Bn Bd Bl : Nat) (ns : List Nd) (ds : List Dv) (ls : List Lk) (d p q : Int) (w : World) (hn : Sl w Bn 3 An nn cn (ns.flatMap Nd.cells)) (hd : Sl w Bd 5 Ad nd cd (ds.flatMap Dv.cells)) (hs : Sl w Bl 3 Al ls.length c (ls.flatMap Lk.cells)) (hBn : Bn ≤ w.heap.size) (hBd : Bd ≤ w.heap.size) (hBl : Bl ≤ w.heap.size)
  (hsn : ∀ x ∈ ns, x.name.size ≤ 9223372036854775807) (hsd : ∀ x ∈ ds, x.name.size ≤ 9223372036854775807) :
  Calls Tryz.prog 34 #[.agg #[.slice An nn cn, .slice Ad nd cd], .slice Al ls.length c, .agg #[.int .i64 d, .int .i64 p, .int .i64 q]] w (LkAddPost w ns ds ls ⟨d, p, q⟩) := by
 obtain ⟨n, hnl⟩ : ∃ n, n = ls.length := ⟨_, rfl⟩
 rw [← hnl] at hs ⊢
 have HNL := Lib.hid hnl
 have HE : Hid (addErr ns ds ls ⟨d, p, q⟩ = if locksErr ns ds ls ≠ 0 then locksErr ns ds ls else if lkErr ds ⟨d, p, q⟩ ≠ 0 then lkErr ds ⟨d, p, q⟩ else if usdL ls q = true then 4 else if othL ls ⟨d, p, q⟩ = true then 18 else if n = 128 then 1 else 0) := by unfold Hid addErr; rw [hnl]
 have hle := hs.le
 have HN := Lib.hid hn; have HD := Lib.hid hd; have HS := Lib.hid hs; have HSN := Lib.hid hsn; have HSD := Lib.hid hsd
 have HST : Hid (RaSt w #[.slice An nn cn, .slice Ad nd cd] #[.int .i64 d, .int .i64 p, .int .i64 q] ((w.alloc (.cells #[.slice An nn cn, .slice Ad nd cd] 26)).alloc (.cells #[.int .i64 d, .int .i64 p, .int .i64 q] 77))) :=
  ⟨(Blk.new _ _ _).alloc _, by have := Blk.new (w.alloc (.cells #[.slice An nn cn, .slice Ad nd cd] 26)) 77 #[.int .i64 d, .int .i64 p, .int .i64 q]; simpa using this, ((Below.refl _ _).alloc (Nat.le_refl _) _).alloc (by simp) _⟩
 clear hn hd hs hsn hsd hnl
 go_enter Tryz.func34, Tryz.ntmps34
 go_wp2_with fail
 generalize World.alloc (World.alloc _ _) _ = W at *
 have hz := HST.out.bl.size
 refine (rlcheck_any An Ad Al nn cn nd cd n c Bn Bd Bl ns ds ls W (HN.out.below HST.out.bl hBn) (HD.out.below HST.out.bl hBd) (HS.out.below HST.out.bl hBl) (by omega) (by omega) (by omega) HSN.out HSD.out).mono ?_
 rintro e w1 ⟨rfl, hb1⟩
 have HS1 := Lib.hid (HST.out.later hb1)
 clear hb1 HST hz
 by_cases h0 : locksErr ns ds ls = 0; rotate_left
 ·have q0 : (locksErr ns ds ls != 0) = true := by simpa using h0
  have HR : Hid (addErr ns ds ls ⟨d, p, q⟩ = locksErr ns ds ls) := by unfold Hid; rw [HE.out, if_pos h0]
  have HNZ := Lib.hid h0
  clear h0
  go_wp2_with fail
  go_ret2
  exact ⟨.inl (by rw [HR.out]; exact ⟨HNZ.out, rfl⟩), HS1.out.bl⟩
 have HG := Lib.hid (locks_good h0)
 rw [h0]
 replace HE : Hid (addErr ns ds ls ⟨d, p, q⟩ = if lkErr ds ⟨d, p, q⟩ ≠ 0 then lkErr ds ⟨d, p, q⟩ else if usdL ls q = true then 4 else if othL ls ⟨d, p, q⟩ = true then 18 else if n = 128 then 1 else 0) := by unfold Hid; rw [HE.out, if_neg (by simp [h0])]
 clear h0
 have k0 : w1.cell? ⟨w.heap.size, 0, none⟩ = some (.slice An nn cn) := HS1.out.bn.cell 0
 have k1 : w1.cell? ⟨w.heap.size, 1, none⟩ = some (.slice Ad nd cd) := HS1.out.bn.cell 1
 have m0 : w1.cell? ⟨w.heap.size + 1, 0, none⟩ = some (.int .i64 d) := HS1.out.bk.cell 0
 have m1 : w1.cell? ⟨w.heap.size + 1, 1, none⟩ = some (.int .i64 p) := HS1.out.bk.cell 1
 have m2 : w1.cell? ⟨w.heap.size + 1, 2, none⟩ = some (.int .i64 q) := HS1.out.bk.cell 2
 have hz1 := HS1.out.bl.size
 go_wp2_with fail
 clear k0 k1 m0 m1 m2
 refine (rfault_any An Ad nn cn nd cd Bd ds d p q w1 (HD.out.below HS1.out.bl hBd) (by omega)).mono ?_
 rintro e w2 ⟨rfl, hb2⟩
 have HS2 := Lib.hid (HS1.out.later hb2)
 clear hb2 HS1 hz1
 by_cases h1 : lkErr ds ⟨d, p, q⟩ = 0; rotate_left
 ·have q0 : (lkErr ds ⟨d, p, q⟩ != 0) = true := by simpa using h1
  have HR : Hid (addErr ns ds ls ⟨d, p, q⟩ = lkErr ds ⟨d, p, q⟩) := by unfold Hid; rw [HE.out, if_pos h1]
  have HNZ := Lib.hid h1
  clear h1
  go_wp2_with fail
  go_ret2
  exact ⟨.inl (by rw [HR.out]; exact ⟨HNZ.out, rfl⟩), HS2.out.bl⟩
 rw [h1]
 replace HE : Hid (addErr ns ds ls ⟨d, p, q⟩ = if usdL ls q = true then 4 else if othL ls ⟨d, p, q⟩ = true then 18 else if n = 128 then 1 else 0) := by unfold Hid; rw [HE.out, if_neg (by simp [h1])]
 clear h1
 go_wp2_with fail
 go_loopg [10] n (ArR1 w #[.slice An nn cn, .slice Ad nd cd] #[.int .i64 d, .int .i64 p, .int .i64 q] ls q n)
 case atStart => exact ⟨0, rfl, Nat.zero_le _, rfl, rfl, HS2⟩
 case round =>
  clear HS2
  obtain ⟨i, rfl, hi, rfl, hus, hst⟩ := hrel
  by_cases hlt : i < n
  ·obtain ⟨b, off, d1, p1, q1, rfl, hb, hx, c0, c1, c2⟩ := (HS.out.below hst.out.bl hBl).lock hlt
   have HX := Lib.hid hx
   have m2 : wr.cell? ⟨w.heap.size + 1, 2, none⟩ = some (.int .i64 q) := hst.out.bk.cell 2
   have HCS : Hid (wr.cell? ⟨b, off + i * 3 + 2, none⟩ = some (.int .i64 q1) ∧ wr.cell? ⟨w.heap.size + 1, 2, none⟩ = some (.int .i64 q)) := ⟨c2, m2⟩
   clear hx c0 c1 c2 m2
   by_cases hqq : q1 = q
   ·subst hqq
    have qd : (q1 == q1) = true := by simp
    have HUS : Hid (usdL ls q1 = true) := by
     have := usd_up (k := i + 1) (i := ls.length) (ls := ls) (q := q1) (by rw [usd_snoc HX.out hus.out]; simp) (by have := HNL.out; omega)
     rwa [List.take_length] at this
    have HR : Hid (addErr ns ds ls ⟨d, p, q1⟩ = 4) := by unfold Hid; rw [HE.out, if_pos HUS.out]
    go_upto_region 10 with (fail)
    refine wp_region_J (S := fun W' => W'.cell? ⟨b, off + i * 3 + 2, none⟩ = some (.int .i64 q1) ∧ W'.cell? ⟨w.heap.size + 1, 2, none⟩ = some (.int .i64 q1)) (J := []) (by kernel_rfl) ?_ (fun hHeld => ?_)
    ·exact HCS.out
    try dsimp only at hHeld
    refine wpAnyJ_tL (i := 0) (d := some 33) (v := ?_) #[tt, ff, ff, ff, ff, ff, ff, ff] rfl rfl ?_ hHeld ?_
    rotate_left
    ·(intro w hSw; (try dsimp only at hSw);  go_simp; try with_reducible rfl)
    try simp only [Act.put, sA, s0, s1]
    refine wpAnyJ_tL (i := 1) (d := some 34) (v := ?_) #[tt, tt, ff, ff, ff, ff, ff, ff] rfl rfl ?_ hHeld ?_
    rotate_left
    ·(intro w hSw; (try dsimp only at hSw);  go_simp; try with_reducible rfl)
    try simp only [Act.put, sA, s0, s1]
    refine wpAnyJ_tL (i := 2) (d := some 35) (v := ?_) #[tt, tt, tt, ff, ff, ff, ff, ff] rfl rfl ?_ hHeld ?_
    rotate_left
    ·(intro w hSw; (try dsimp only at hSw);  go_simp; try with_reducible rfl)
    try simp only [Act.put, sA, s0, s1]
    refine wpAnyJ_tL (i := 3) (d := some 36) (v := ?_) #[tt, tt, tt, tt, ff, ff, ff, ff] rfl rfl ?_ hHeld ?_
    rotate_left
    ·(intro w hSw; (try dsimp only at hSw);  go_simp; try with_reducible rfl)
    try simp only [Act.put, sA, s0, s1]
    refine wpAnyJ_tL (i := 4) (d := some 37) (v := ?_) #[tt, tt, tt, tt, tt, ff, ff, ff] rfl rfl ?_ hHeld ?_
    rotate_left
    ·(intro w hSw; (try dsimp only at hSw);  go_simp; try with_reducible rfl)
    try simp only [Act.put, sA, s0, s1]
    refine wpAnyJ_tL (i := 5) (d := some 38) (v := ?_) #[tt, tt, tt, tt, tt, tt, ff, ff] rfl rfl ?_ hHeld ?_
    rotate_left
    ·(intro w hSw; (try dsimp only at hSw);  go_simp; try with_reducible rfl)
    try simp only [Act.put, sA, s0, s1]
    refine wpAnyJ_tL (i := 6) (d := some 39) (v := ?_) #[tt, tt, tt, tt, tt, tt, tt, ff] rfl rfl ?_ hHeld ?_
    rotate_left
    ·(intro w hSw; (try dsimp only at hSw);  go_simp; try with_reducible rfl)
    try simp only [Act.put, sA, s0, s1]
    refine wpAnyJ_tL (i := 7) (d := some 40) (v := ?_) #[tt, tt, tt, tt, tt, tt, tt, tt] rfl rfl ?_ hHeld ?_
    rotate_left
    ·(intro w hSw; (try dsimp only at hSw);  go_simp; try with_reducible rfl)
    try simp only [Act.put, sA, s0, s1]
    refine wpAnyJ_done (by kernel_rfl) ?_ _
    clear hHeld
    go_wp2_with fail
    go_ret2
    exact ⟨.inl (by rw [HR.out]; exact ⟨by decide, rfl⟩), hst.out.drew.bl⟩
   ·have qd : (q1 == q) = false := by simpa using hqq
    have HO2 : Hid (usdL (ls.take (i + 1)) q = false) := by unfold Hid; rw [usd_snoc HX.out hus.out]; simpa using hqq
    clear hqq
    go_upto_region 10 with (fail)
    refine wp_region_J (S := fun W' => W'.cell? ⟨b, off + i * 3 + 2, none⟩ = some (.int .i64 q1) ∧ W'.cell? ⟨w.heap.size + 1, 2, none⟩ = some (.int .i64 q)) (J := []) (by kernel_rfl) ?_ (fun hHeld => ?_)
    ·exact HCS.out
    try dsimp only at hHeld
    refine wpAnyJ_tL (i := 0) (d := some 33) (v := ?_) #[tt, ff, ff, ff, ff, ff, ff, ff] rfl rfl ?_ hHeld ?_
    rotate_left
    ·(intro w hSw; (try dsimp only at hSw);  go_simp; try with_reducible rfl)
    try simp only [Act.put, sA, s0, s1]
    refine wpAnyJ_tL (i := 1) (d := some 34) (v := ?_) #[tt, tt, ff, ff, ff, ff, ff, ff] rfl rfl ?_ hHeld ?_
    rotate_left
    ·(intro w hSw; (try dsimp only at hSw);  go_simp; try with_reducible rfl)
    try simp only [Act.put, sA, s0, s1]
    refine wpAnyJ_tL (i := 2) (d := some 35) (v := ?_) #[tt, tt, tt, ff, ff, ff, ff, ff] rfl rfl ?_ hHeld ?_
    rotate_left
    ·(intro w hSw; (try dsimp only at hSw);  go_simp; try with_reducible rfl)
    try simp only [Act.put, sA, s0, s1]
    refine wpAnyJ_tL (i := 3) (d := some 36) (v := ?_) #[tt, tt, tt, tt, ff, ff, ff, ff] rfl rfl ?_ hHeld ?_
    rotate_left
    ·(intro w hSw; (try dsimp only at hSw);  go_simp; try with_reducible rfl)
    try simp only [Act.put, sA, s0, s1]
    refine wpAnyJ_tL (i := 4) (d := some 37) (v := ?_) #[tt, tt, tt, tt, tt, ff, ff, ff] rfl rfl ?_ hHeld ?_
    rotate_left
    ·(intro w hSw; (try dsimp only at hSw);  go_simp; try with_reducible rfl)
    try simp only [Act.put, sA, s0, s1]
    refine wpAnyJ_tL (i := 5) (d := some 38) (v := ?_) #[tt, tt, tt, tt, tt, tt, ff, ff] rfl rfl ?_ hHeld ?_
    rotate_left
    ·(intro w hSw; (try dsimp only at hSw);  go_simp; try with_reducible rfl)
    try simp only [Act.put, sA, s0, s1]
    refine wpAnyJ_tL (i := 6) (d := some 39) (v := ?_) #[tt, tt, tt, tt, tt, tt, tt, ff] rfl rfl ?_ hHeld ?_
    rotate_left
    ·(intro w hSw; (try dsimp only at hSw);  go_simp; try with_reducible rfl)
    try simp only [Act.put, sA, s0, s1]
    refine wpAnyJ_tL (i := 7) (d := some 40) (v := ?_) #[tt, tt, tt, tt, tt, tt, tt, tt] rfl rfl ?_ hHeld ?_
    rotate_left
    ·(intro w hSw; (try dsimp only at hSw);  go_simp; try with_reducible rfl)
    try simp only [Act.put, sA, s0, s1]
    refine wpAnyJ_done (by kernel_rfl) ?_ _
    clear hHeld
    go_wp2_with fail
    go_roundg (n - (i + 1))
    case rel => exact ⟨i + 1, by go_num, by omega, rfl, HO2, hst.out.drew⟩
    case measure => omega
  ·obtain rfl : i = n := by omega
   have hii : decide (i < i) = false := by simp
   have HUS : Hid (usdL ls q = false) := by
    have := hus.out
    rw [List.take_of_length_le (by have := HNL.out; omega)] at this
    exact this
   replace HE : Hid (addErr ns ds ls ⟨d, p, q⟩ = if othL ls ⟨d, p, q⟩ = true then 18 else if i = 128 then 1 else 0) := by unfold Hid; rw [HE.out, if_neg (by rw [HUS.out]; simp)]
   have m0 : wr.cell? ⟨w.heap.size + 1, 0, none⟩ = some (.int .i64 d) := hst.out.bk.cell 0
   have hzr := hst.out.bl.size
   go_wp2_with fail
   clear m0 hii
   refine (rlocked_any Al i c Bl ls d wr (HS.out.below hst.out.bl hBl) (by omega)).mono ?_
   rintro e w3 ⟨rfl, hb3⟩
   have HS3 := Lib.hid (hst.out.later hb3)
   clear hb3 hst hzr
   have hn128 : i ≤ 128 := by have := HG.out.1; have := HNL.out; omega
   have hcase : (lckL ls d = none ∧ othL ls ⟨d, p, q⟩ = false) ∨ (lckL ls d = some p ∧ othL ls ⟨d, p, q⟩ = false) ∨ (∃ pv, lckL ls d = some pv ∧ pv ≠ p ∧ othL ls ⟨d, p, q⟩ = true) := by
    have h := oth_lck HG.out ⟨d, p, q⟩
    simp only at h
    rcases hl : lckL ls d with _ | pv
    ·rw [hl] at h; exact .inl ⟨rfl, h⟩
    ·rw [hl] at h
     by_cases hp : pv = p
     ·subst hp; exact .inr (.inl ⟨rfl, by rw [h]; simp⟩)
     ·exact .inr (.inr ⟨pv, rfl, hp, by rw [h]; simp [hp]⟩)
   unfold lckE
   have m1 : w3.cell? ⟨w.heap.size + 1, 1, none⟩ = some (.int .i64 p) := HS3.out.bk.cell 1
   rcases hcase with ⟨hl, ho⟩ | ⟨hl, ho⟩ | ⟨pv, hl, hp, ho⟩
   rotate_left 2
   ·rw [hl]
    have HR : Hid (addErr ns ds ls ⟨d, p, q⟩ = 18) := by unfold Hid; rw [HE.out, if_pos ho]
    have qp : (pv != p) = true := by simpa using hp
    clear hl hp ho
    simp only [Option.getD_some, Option.isSome_some]
    go_wp2_with fail
    go_ret2
    exact ⟨.inl (by rw [HR.out]; exact ⟨by decide, rfl⟩), HS3.out.bl⟩
   all_goals
    rw [hl]
    have HO := Lib.hid ho
    have HE2 : Hid (addErr ns ds ls ⟨d, p, q⟩ = if i = 128 then 1 else 0) := by unfold Hid; rw [HE.out, if_neg (by rw [HO.out]; simp)]
    clear hl ho
    have qpp : (p != p) = false := by simp
    simp only [Option.getD_some, Option.isSome_some, Option.getD_none, Option.isSome_none]
    by_cases h128 : i = 128
    ·have HR : Hid (addErr ns ds ls ⟨d, p, q⟩ = 1) := by unfold Hid; rw [HE2.out, if_pos h128]
     have q1 : decide ((128 : Int) ≤ (i : Int)) = true := by simp; omega
     have q2 : decide (128 ≤ i) = true := by simp; omega
     clear h128
     go_wp2_with fail
     go_ret2
     exact ⟨.inl (by rw [HR.out]; exact ⟨by decide, rfl⟩), HS3.out.bl⟩
    have HR : Hid (addErr ns ds ls ⟨d, p, q⟩ = 0) := by unfold Hid; rw [HE2.out, if_neg h128]
    have q1 : decide ((128 : Int) ≤ (i : Int)) = false := by simp; omega
    have q2 : decide (128 ≤ i) = false := by simp; omega
    clear h128 HE HE2
    go_wp2_with fail
    clear m1 qpp q1 q2
    go_loopg [13] i (ArR2 w #[.slice An nn cn, .slice Ad nd cd] #[.int .i64 d, .int .i64 p, .int .i64 q] ls ⟨d, p, q⟩ i)
    case atStart => exact ⟨0, rfl, Nat.zero_le _, rfl, (fun x hx => by simp at hx), HS3⟩
    case round =>
     clear HS3
     obtain ⟨j, rfl, hj, rfl, hal, hst⟩ := hrel
     by_cases hjt : j < i
     ·obtain ⟨b, off, d1, p1, q1, rfl, hb, hx, c0, c1, c2⟩ := (HS.out.below hst.out.bl hBl).lock hjt
      have HX := Lib.hid hx
      have HCS : Hid (wr.cell? ⟨b, off + j * 3, none⟩ = some (.int .i64 d1) ∧ wr.cell? ⟨b, off + j * 3 + 1, none⟩ = some (.int .i64 p1) ∧ wr.cell? ⟨b, off + j * 3 + 2, none⟩ = some (.int .i64 q1) ∧ wr.cell? ⟨w.heap.size + 1, 0, none⟩ = some (.int .i64 d) ∧ wr.cell? ⟨w.heap.size + 1, 1, none⟩ = some (.int .i64 p) ∧ wr.cell? ⟨w.heap.size + 1, 2, none⟩ = some (.int .i64 q)) := ⟨c0, c1, c2, hst.out.bk.cell 0, hst.out.bk.cell 1, hst.out.bk.cell 2⟩
      have HBE := Lib.hid (before_any ⟨d1, p1, q1⟩ ⟨d, p, q⟩ wr.drew)
      clear hx c0 c1 c2
      rcases hbb : befB ⟨d1, p1, q1⟩ ⟨d, p, q⟩ with _ | _
      ·rw [hbb] at HBE
       have HSTOP : Hid (∀ x, ls[j]? = some x → befB x ⟨d, p, q⟩ = false) := fun x hx => by rw [HX.out] at hx; injection hx with hx; subst hx; exact hbb
       clear hbb
       go_upto_region 18 with (fail)
       refine wp_region_J (S := fun W' => W'.cell? ⟨b, off + j * 3, none⟩ = some (.int .i64 d1) ∧ W'.cell? ⟨b, off + j * 3 + 1, none⟩ = some (.int .i64 p1) ∧ W'.cell? ⟨b, off + j * 3 + 2, none⟩ = some (.int .i64 q1) ∧ W'.cell? ⟨w.heap.size + 1, 0, none⟩ = some (.int .i64 d) ∧ W'.cell? ⟨w.heap.size + 1, 1, none⟩ = some (.int .i64 p) ∧ W'.cell? ⟨w.heap.size + 1, 2, none⟩ = some (.int .i64 q)) (J := []) (by kernel_rfl) ?_ (fun hHeld => ?_)
       ·exact HCS.out
       try dsimp only at hHeld
       refine wpAnyJ_tL (i := 0) (d := some 58) (v := ?_) #[tt, ff, ff, ff, ff, ff, ff, ff, ff, ff, ff, ff] rfl rfl ?_ hHeld ?_
       rotate_left
       ·(intro w hSw; (try dsimp only at hSw);  go_simp; try with_reducible rfl)
       try simp only [Act.put, sA, s0, s1]
       refine wpAnyJ_tL (i := 1) (d := some 59) (v := ?_) #[tt, tt, ff, ff, ff, ff, ff, ff, ff, ff, ff, ff] rfl rfl ?_ hHeld ?_
       rotate_left
       ·(intro w hSw; (try dsimp only at hSw);  go_simp; try with_reducible rfl)
       try simp only [Act.put, sA, s0, s1]
       refine wpAnyJ_tL (i := 2) (d := some 60) (v := ?_) #[tt, tt, tt, ff, ff, ff, ff, ff, ff, ff, ff, ff] rfl rfl ?_ hHeld ?_
       rotate_left
       ·(intro w hSw; (try dsimp only at hSw);  go_simp; try with_reducible rfl)
       try simp only [Act.put, sA, s0, s1]
       refine wpAnyJ_tL (i := 3) (d := some 61) (v := ?_) #[tt, tt, tt, tt, ff, ff, ff, ff, ff, ff, ff, ff] rfl rfl ?_ hHeld ?_
       rotate_left
       ·(intro w hSw; (try dsimp only at hSw);  go_simp; try with_reducible rfl)
       try simp only [Act.put, sA, s0, s1]
       refine wpAnyJ_tL (i := 4) (d := some 62) (v := ?_) #[tt, tt, tt, tt, tt, ff, ff, ff, ff, ff, ff, ff] rfl rfl ?_ hHeld ?_
       rotate_left
       ·(intro w hSw; (try dsimp only at hSw);  go_simp; try with_reducible rfl)
       try simp only [Act.put, sA, s0, s1]
       refine wpAnyJ_tL (i := 5) (d := some 63) (v := ?_) #[tt, tt, tt, tt, tt, tt, ff, ff, ff, ff, ff, ff] rfl rfl ?_ hHeld ?_
       rotate_left
       ·(intro w hSw; (try dsimp only at hSw);  go_simp; try with_reducible rfl)
       try simp only [Act.put, sA, s0, s1]
       refine wpAnyJ_tL (i := 6) (d := some 64) (v := ?_) #[tt, tt, tt, tt, tt, tt, tt, ff, ff, ff, ff, ff] rfl rfl ?_ hHeld ?_
       rotate_left
       ·(intro w hSw; (try dsimp only at hSw);  go_simp; try with_reducible rfl)
       try simp only [Act.put, sA, s0, s1]
       refine wpAnyJ_tL (i := 7) (d := some 65) (v := ?_) #[tt, tt, tt, tt, tt, tt, tt, tt, ff, ff, ff, ff] rfl rfl ?_ hHeld ?_
       rotate_left
       ·(intro w hSw; (try dsimp only at hSw);  go_simp; try with_reducible rfl)
       try simp only [Act.put, sA, s0, s1]
       refine wpAnyJ_tL (i := 8) (d := some 66) (v := ?_) #[tt, tt, tt, tt, tt, tt, tt, tt, tt, ff, ff, ff] rfl rfl ?_ hHeld ?_
       rotate_left
       ·(intro w hSw; (try dsimp only at hSw);  go_simp; try with_reducible rfl)
       try simp only [Act.put, sA, s0, s1]
       refine wpAnyJ_tL (i := 9) (d := some 67) (v := ?_) #[tt, tt, tt, tt, tt, tt, tt, tt, tt, tt, ff, ff] rfl rfl ?_ hHeld ?_
       rotate_left
       ·(intro w hSw; (try dsimp only at hSw);  go_simp; try with_reducible rfl)
       try simp only [Act.put, sA, s0, s1]
       refine wpAnyJ_oneL (k := 10) #[tt, tt, tt, tt, tt, tt, tt, tt, tt, tt, tt, ff] (by kernel_rfl) (by kernel_rfl) rfl (fun K hK => ?_)
       (go_simp; refine HBE.out.mono ?_; rintro e w4 ⟨rfl, hb4⟩; go_simp)
       refine hK.out _ _ (fun _ => ?_) (fun hHeld' => ?_)
       ·exact ⟨keep_cell hb4 HCS.out.1, keep_cell hb4 HCS.out.2.1, keep_cell hb4 HCS.out.2.2.1, keep_cell hb4 HCS.out.2.2.2.1, keep_cell hb4 HCS.out.2.2.2.2.1, keep_cell hb4 HCS.out.2.2.2.2.2⟩
       replace hHeld := hHeld' rfl
       clear hHeld' hK K
       try dsimp only at hHeld
       refine wpAnyJ_tL (i := 11) (d := some 69) (v := ?_) #[tt, tt, tt, tt, tt, tt, tt, tt, tt, tt, tt, tt] rfl rfl ?_ hHeld ?_
       rotate_left
       ·(intro w hSw; (try dsimp only at hSw);  go_simp; try with_reducible rfl)
       try simp only [Act.put, sA, s0, s1]
       refine wpAnyJ_done (by kernel_rfl) ?_ _
       have HS4 := Lib.hid (hst.out.drew.later hb4)
       have hall := hal.out
       clear hHeld hb4 hst HCS HBE hal
       obtain ⟨hTW, hDW⟩ := while_at (p := fun x => befB x ⟨d, p, q⟩) hall HSTOP.out
       have HINS : Hid (insL ⟨d, p, q⟩ ls = ls.take j ++ ⟨d, p, q⟩ :: ls.drop j) := by unfold Hid insL; rw [hTW, hDW]
       have HSL4 := Lib.hid (HS.out.below HS4.out.bl hBl)
       have hjc : j ≤ c := by omega
       have HSK := Lib.hid (HSL4.out.takeK (fun _ => rfl) (by decide) hj)
       have HSD := Lib.hid (HSL4.out.dropK (fun _ => rfl) (by decide) hj)
       have HBX : Hid (w4.cell? ⟨w.heap.size + 1, 0, none⟩ = some (.int .i64 d) ∧ w4.cell? ⟨w.heap.size + 1, 1, none⟩ = some (.int .i64 p) ∧ w4.cell? ⟨w.heap.size + 1, 2, none⟩ = some (.int .i64 q)) := ⟨HS4.out.bk.cell 0, HS4.out.bk.cell 1, HS4.out.bk.cell 2⟩
       have HCUT : Hid (∀ W, (Instr.sliceAt 29 (.slice (some ⟨b, off, none⟩) i c) (some (.int .i64 (j : Int))) none none).run Tryz.prog W = .ok (.slice (cutK (some ⟨b, off, none⟩) c j 3) (i - j) (c - j)) W) := fun W => run_from_lk W _ _ _ _ hj
       clear hTW hDW hall HSTOP
       go_upto_region 20 with (fail)
       refine wp_region_J (S := fun W' => W'.cell? ⟨w.heap.size + 1, 0, none⟩ = some (.int .i64 d) ∧ W'.cell? ⟨w.heap.size + 1, 1, none⟩ = some (.int .i64 p) ∧ W'.cell? ⟨w.heap.size + 1, 2, none⟩ = some (.int .i64 q)) (J := []) (by kernel_rfl) ?_ (fun hHeld => ?_)
       ·exact HBX.out
       try dsimp only at hHeld
       refine wpAnyJ_tL (i := 0) (d := some 72) (v := ?_) #[tt, ff, ff, ff, ff, ff, ff, ff] rfl rfl ?_ hHeld ?_
       rotate_left
       ·(intro w hSw; (try dsimp only at hSw);  go_simp; try with_reducible rfl)
       try simp only [Act.put, sA, s0, s1]
       refine wpAnyJ_tL (i := 1) (d := some 73) (v := ?_) #[tt, tt, ff, ff, ff, ff, ff, ff] rfl rfl ?_ hHeld ?_
       rotate_left
       ·(intro w hSw; (try dsimp only at hSw);  go_simp; try with_reducible rfl)
       try simp only [Act.put, sA, s0, s1]
       refine wpAnyJ_tL (i := 2) (d := some 74) (v := ?_) #[tt, tt, tt, ff, ff, ff, ff, ff] rfl rfl ?_ hHeld ?_
       rotate_left
       ·(intro w hSw; (try dsimp only at hSw);  go_simp; try with_reducible rfl)
       try simp only [Act.put, sA, s0, s1]
       refine wpAnyJ_tL (i := 4) (d := some 76) (v := ?_) #[tt, tt, tt, ff, tt, ff, ff, ff] rfl rfl ?_ hHeld ?_
       rotate_left
       ·(intro w hSw; (try dsimp only at hSw);  go_simp; try with_reducible rfl)
       try simp only [Act.put, sA, s0, s1]
       refine wpAnyJ_twoL (i := 3) (k := 5) #[tt, tt, tt, tt, tt, ff, ff, ff] #[tt, tt, tt, ff, tt, tt, ff, ff] (by kernel_rfl) (by kernel_rfl) (by kernel_rfl) rfl rfl (fun K hK => ?_) (fun K hK => ?_)
       ·(refine step_app_d (d := some 75) (by rfl) (by rfl) _ (.tmp 74) (by rfl) el_lock (by rfl) (World.ownsRow_nil _ w4.heap.size _ _) (by rfl) HSK.out (locks_one _) (by omega) (by omega) (by simp) ?_; intro A1 c1 w5 hown5 hgr5 hat5; simp only [Nat.zero_add, List.nil_append] at hown5 hgr5 hat5 ⊢)
        refine hK.out _ _ (fun _ => ?_) (fun hHeld' => ?_)
        ·exact ⟨keep_cell (below_none hgr5) HBX.out.1, keep_cell (below_none hgr5) HBX.out.2.1, keep_cell (below_none hgr5) HBX.out.2.2⟩
        replace hHeld := hHeld' rfl
        clear hHeld' hK K
        try dsimp only at hHeld
        refine wpAnyJ_oneL (k := 5) #[tt, tt, tt, tt, tt, tt, ff, ff] (by kernel_rfl) (by kernel_rfl) rfl (fun K hK => ?_)
        go_simp
        refine hK.out _ _ (fun _ => ?_) (fun hHeld' => ?_)
        ·exact ⟨cell_al2 _ (keep_cell (below_none hgr5) HBX.out.1), cell_al2 _ (keep_cell (below_none hgr5) HBX.out.2.1), cell_al2 _ (keep_cell (below_none hgr5) HBX.out.2.2)⟩
        replace hHeld := hHeld' rfl
        clear hHeld' hK K
        try dsimp only at hHeld
        refine wpAnyJ_oneL (k := 6) #[tt, tt, tt, tt, tt, tt, tt, ff] (by kernel_rfl) (by kernel_rfl) rfl (fun K hK => ?_)
        (refine step_app_d (d := some 78) (by rfl) (by rfl) (.tmp 75) (.tmp 77) (by rfl) el_lock (by rfl) (World.ownsRow.alloc hown5 _) (by rfl) (Sl.newest (n := 1) (by simp) (by rfl) (by decide)) (by simp [Value.oneCell']) (by omega) (by omega) (by have := hgr5.size; simp at this ⊢; omega) ?_; intro A2 c2 w6 hown6 hgr6 hat6)
        refine hK.out _ _ (fun _ => ?_) (fun hHeld' => ?_)
        ·exact ⟨keep_cell (ra_below hgr5 hown5 hgr6) HBX.out.1, keep_cell (ra_below hgr5 hown5 hgr6) HBX.out.2.1, keep_cell (ra_below hgr5 hown5 hgr6) HBX.out.2.2⟩
        replace hHeld := hHeld' rfl
        clear hHeld' hK K
        try dsimp only at hHeld
        refine wpAnyJ_tL (i := 7) (d := some 14) (v := ?_) #[tt, tt, tt, tt, tt, tt, tt, tt] rfl rfl ?_ hHeld ?_
        rotate_left
        ·(intro w hSw; (try dsimp only at hSw);  go_simp; try with_reducible rfl)
        try simp only [Act.put, sA, s0, s1]
        refine wpAnyJ_done (by kernel_rfl) ?_ _
        clear hHeld
        have HB46 : Hid (Below w4.heap.size w4 w6) := by first | exact ra_below hgr5 hown5 hgr6 | exact ra_below2 hgr5 hown5 hgr6
        have HO6 := Lib.hid hown6
        have HSD6 := Lib.hid (HSD.out.below HB46.out (by have := HS4.out.bl.size; omega))
        have hcut := HCUT.out
        have hz46 := HB46.out.size
        clear hown5 hgr5 hat5 hown6 hgr6 hat6
        go_wp2_with (at_builtin; go_must (refine wpList_app rfl (.tmp 79) (.tmp 82) rfl el_lock (by rfl) HO6.out (by rfl) HSD6.out (locks_one _) (by omega) (by omega) (by omega) ?_; intro A3 c3 w7 hown7 hgr7 hat7; have HO7 := Lib.hid hown7; have HG7 := Lib.hid hgr7; clear hown7 hgr7 hat7))
        go_ret2
        have hlen : ls.length + 1 = j + 1 + (i - j) := by have := HNL.out; omega
        refine ⟨.inr ⟨HR.out, A3, c3, by rw [hlen]; rfl, ?_⟩, ?_⟩
        ·unfold Hid LocksO; rw [hlen, HINS.out]; rw [List.flatMap_append, List.flatMap_cons, ← List.append_assoc]; exact HO7.out.mono (by have := HS4.out.bl.size; omega)
        ·have h1 := HS4.out.bl.trans (HB46.out.mono HS4.out.bl.size); exact h1.trans ⟨HG7.out.os, HG7.out.tape, HG7.out.output, HG7.out.size, fun t ht => HG7.out.block t (by have := h1.size; omega) (fun e => by have := (HO6.out.lt t e.symm).1; have := HS4.out.bl.size; omega)⟩
       ·go_simp
        refine hK.out _ _ (fun _ => ?_) (fun hHeld' => ?_)
        ·exact ⟨cell_al2 _ HBX.out.1, cell_al2 _ HBX.out.2.1, cell_al2 _ HBX.out.2.2⟩
        replace hHeld := hHeld' rfl
        clear hHeld' hK K
        try dsimp only at hHeld
        refine wpAnyJ_oneL (k := 3) #[tt, tt, tt, tt, tt, tt, ff, ff] (by kernel_rfl) (by kernel_rfl) rfl (fun K hK => ?_)
        (refine step_app_d (d := some 75) (by rfl) (by rfl) _ (.tmp 74) (by rfl) el_lock (by rfl) (World.ownsRow_nil _ w4.heap.size _ _) (by rfl) (HSK.out.alloc (by have := HS4.out.bl.size; simp; omega) _) (locks_one _) (by omega) (by omega) (by simp) ?_; intro A1 c1 w5 hown5 hgr5 hat5; simp only [Nat.zero_add, List.nil_append] at hown5 hgr5 hat5 ⊢)
        refine hK.out _ _ (fun _ => ?_) (fun hHeld' => ?_)
        ·exact ⟨keep_cell (ra_below0 hgr5) HBX.out.1, keep_cell (ra_below0 hgr5) HBX.out.2.1, keep_cell (ra_below0 hgr5) HBX.out.2.2⟩
        replace hHeld := hHeld' rfl
        clear hHeld' hK K
        try dsimp only at hHeld
        refine wpAnyJ_oneL (k := 6) #[tt, tt, tt, tt, tt, tt, tt, ff] (by kernel_rfl) (by kernel_rfl) rfl (fun K hK => ?_)
        (refine step_app_d (d := some 78) (by rfl) (by rfl) (.tmp 75) (.tmp 77) (by rfl) el_lock (by rfl) hown5 (by rfl) ((Sl.newest (w := w4.drew) (cs := #[.int .i64 d, .int .i64 p, .int .i64 q]) (T := 77) (n := 1) (size := 3) rfl (by rfl) (by decide)).below (below_none hgr5) (by simp)) (by simp [Value.oneCell']) (by omega) (by omega) (by have := hgr5.size; simp at this ⊢; omega) ?_; intro A2 c2 w6 hown6 hgr6 hat6)
        refine hK.out _ _ (fun _ => ?_) (fun hHeld' => ?_)
        ·exact ⟨keep_cell (ra_below2 hgr5 hown5 hgr6) HBX.out.1, keep_cell (ra_below2 hgr5 hown5 hgr6) HBX.out.2.1, keep_cell (ra_below2 hgr5 hown5 hgr6) HBX.out.2.2⟩
        replace hHeld := hHeld' rfl
        clear hHeld' hK K
        try dsimp only at hHeld
        refine wpAnyJ_tL (i := 7) (d := some 14) (v := ?_) #[tt, tt, tt, tt, tt, tt, tt, tt] rfl rfl ?_ hHeld ?_
        rotate_left
        ·(intro w hSw; (try dsimp only at hSw);  go_simp; try with_reducible rfl)
        try simp only [Act.put, sA, s0, s1]
        refine wpAnyJ_done (by kernel_rfl) ?_ _
        clear hHeld
        have HB46 : Hid (Below w4.heap.size w4 w6) := by first | exact ra_below hgr5 hown5 hgr6 | exact ra_below2 hgr5 hown5 hgr6
        have HO6 := Lib.hid hown6
        have HSD6 := Lib.hid (HSD.out.below HB46.out (by have := HS4.out.bl.size; omega))
        have hcut := HCUT.out
        have hz46 := HB46.out.size
        clear hown5 hgr5 hat5 hown6 hgr6 hat6
        go_wp2_with (at_builtin; go_must (refine wpList_app rfl (.tmp 79) (.tmp 82) rfl el_lock (by rfl) HO6.out (by rfl) HSD6.out (locks_one _) (by omega) (by omega) (by omega) ?_; intro A3 c3 w7 hown7 hgr7 hat7; have HO7 := Lib.hid hown7; have HG7 := Lib.hid hgr7; clear hown7 hgr7 hat7))
        go_ret2
        have hlen : ls.length + 1 = j + 1 + (i - j) := by have := HNL.out; omega
        refine ⟨.inr ⟨HR.out, A3, c3, by rw [hlen]; rfl, ?_⟩, ?_⟩
        ·unfold Hid LocksO; rw [hlen, HINS.out]; rw [List.flatMap_append, List.flatMap_cons, ← List.append_assoc]; exact HO7.out.mono (by have := HS4.out.bl.size; omega)
        ·have h1 := HS4.out.bl.trans (HB46.out.mono HS4.out.bl.size); exact h1.trans ⟨HG7.out.os, HG7.out.tape, HG7.out.output, HG7.out.size, fun t ht => HG7.out.block t (by have := h1.size; omega) (fun e => by have := (HO6.out.lt t e.symm).1; have := HS4.out.bl.size; omega)⟩
      ·rw [hbb] at HBE
       have HAL : Hid (∀ x ∈ ls.take (j + 1), befB x ⟨d, p, q⟩ = true) := fun x hx => by
        rw [take_snoc HX.out] at hx
        rcases List.mem_append.1 hx with h | h
        ·exact hal.out x h
        ·rw [List.mem_singleton.1 h]; exact hbb
       clear hbb
       go_upto_region 18 with (fail)
       refine wp_region_J (S := fun W' => W'.cell? ⟨b, off + j * 3, none⟩ = some (.int .i64 d1) ∧ W'.cell? ⟨b, off + j * 3 + 1, none⟩ = some (.int .i64 p1) ∧ W'.cell? ⟨b, off + j * 3 + 2, none⟩ = some (.int .i64 q1) ∧ W'.cell? ⟨w.heap.size + 1, 0, none⟩ = some (.int .i64 d) ∧ W'.cell? ⟨w.heap.size + 1, 1, none⟩ = some (.int .i64 p) ∧ W'.cell? ⟨w.heap.size + 1, 2, none⟩ = some (.int .i64 q)) (J := []) (by kernel_rfl) ?_ (fun hHeld => ?_)
       ·exact HCS.out
       try dsimp only at hHeld
       refine wpAnyJ_tL (i := 0) (d := some 58) (v := ?_) #[tt, ff, ff, ff, ff, ff, ff, ff, ff, ff, ff, ff] rfl rfl ?_ hHeld ?_
       rotate_left
       ·(intro w hSw; (try dsimp only at hSw);  go_simp; try with_reducible rfl)
       try simp only [Act.put, sA, s0, s1]
       refine wpAnyJ_tL (i := 1) (d := some 59) (v := ?_) #[tt, tt, ff, ff, ff, ff, ff, ff, ff, ff, ff, ff] rfl rfl ?_ hHeld ?_
       rotate_left
       ·(intro w hSw; (try dsimp only at hSw);  go_simp; try with_reducible rfl)
       try simp only [Act.put, sA, s0, s1]
       refine wpAnyJ_tL (i := 2) (d := some 60) (v := ?_) #[tt, tt, tt, ff, ff, ff, ff, ff, ff, ff, ff, ff] rfl rfl ?_ hHeld ?_
       rotate_left
       ·(intro w hSw; (try dsimp only at hSw);  go_simp; try with_reducible rfl)
       try simp only [Act.put, sA, s0, s1]
       refine wpAnyJ_tL (i := 3) (d := some 61) (v := ?_) #[tt, tt, tt, tt, ff, ff, ff, ff, ff, ff, ff, ff] rfl rfl ?_ hHeld ?_
       rotate_left
       ·(intro w hSw; (try dsimp only at hSw);  go_simp; try with_reducible rfl)
       try simp only [Act.put, sA, s0, s1]
       refine wpAnyJ_tL (i := 4) (d := some 62) (v := ?_) #[tt, tt, tt, tt, tt, ff, ff, ff, ff, ff, ff, ff] rfl rfl ?_ hHeld ?_
       rotate_left
       ·(intro w hSw; (try dsimp only at hSw);  go_simp; try with_reducible rfl)
       try simp only [Act.put, sA, s0, s1]
       refine wpAnyJ_tL (i := 5) (d := some 63) (v := ?_) #[tt, tt, tt, tt, tt, tt, ff, ff, ff, ff, ff, ff] rfl rfl ?_ hHeld ?_
       rotate_left
       ·(intro w hSw; (try dsimp only at hSw);  go_simp; try with_reducible rfl)
       try simp only [Act.put, sA, s0, s1]
       refine wpAnyJ_tL (i := 6) (d := some 64) (v := ?_) #[tt, tt, tt, tt, tt, tt, tt, ff, ff, ff, ff, ff] rfl rfl ?_ hHeld ?_
       rotate_left
       ·(intro w hSw; (try dsimp only at hSw);  go_simp; try with_reducible rfl)
       try simp only [Act.put, sA, s0, s1]
       refine wpAnyJ_tL (i := 7) (d := some 65) (v := ?_) #[tt, tt, tt, tt, tt, tt, tt, tt, ff, ff, ff, ff] rfl rfl ?_ hHeld ?_
       rotate_left
       ·(intro w hSw; (try dsimp only at hSw);  go_simp; try with_reducible rfl)
       try simp only [Act.put, sA, s0, s1]
       refine wpAnyJ_tL (i := 8) (d := some 66) (v := ?_) #[tt, tt, tt, tt, tt, tt, tt, tt, tt, ff, ff, ff] rfl rfl ?_ hHeld ?_
       rotate_left
       ·(intro w hSw; (try dsimp only at hSw);  go_simp; try with_reducible rfl)
       try simp only [Act.put, sA, s0, s1]
       refine wpAnyJ_tL (i := 9) (d := some 67) (v := ?_) #[tt, tt, tt, tt, tt, tt, tt, tt, tt, tt, ff, ff] rfl rfl ?_ hHeld ?_
       rotate_left
       ·(intro w hSw; (try dsimp only at hSw);  go_simp; try with_reducible rfl)
       try simp only [Act.put, sA, s0, s1]
       refine wpAnyJ_oneL (k := 10) #[tt, tt, tt, tt, tt, tt, tt, tt, tt, tt, tt, ff] (by kernel_rfl) (by kernel_rfl) rfl (fun K hK => ?_)
       (go_simp; refine HBE.out.mono ?_; rintro e w4 ⟨rfl, hb4⟩; go_simp)
       refine hK.out _ _ (fun _ => ?_) (fun hHeld' => ?_)
       ·exact ⟨keep_cell hb4 HCS.out.1, keep_cell hb4 HCS.out.2.1, keep_cell hb4 HCS.out.2.2.1, keep_cell hb4 HCS.out.2.2.2.1, keep_cell hb4 HCS.out.2.2.2.2.1, keep_cell hb4 HCS.out.2.2.2.2.2⟩
       replace hHeld := hHeld' rfl
       clear hHeld' hK K
       try dsimp only at hHeld
       refine wpAnyJ_tL (i := 11) (d := some 69) (v := ?_) #[tt, tt, tt, tt, tt, tt, tt, tt, tt, tt, tt, tt] rfl rfl ?_ hHeld ?_
       rotate_left
       ·(intro w hSw; (try dsimp only at hSw);  go_simp; try with_reducible rfl)
       try simp only [Act.put, sA, s0, s1]
       refine wpAnyJ_done (by kernel_rfl) ?_ _
       have HS4 := Lib.hid (hst.out.drew.later hb4)
       clear hHeld hb4 hst HCS HBE hal
       go_wp2_with fail
       go_roundg (i - (j + 1))
       case rel => exact ⟨j + 1, by go_num, by omega, rfl, HAL, HS4⟩
       case measure => omega
     ·have hjj : decide (j < i) = false := by simpa using hjt
      have HSTOP : Hid (∀ x, ls[j]? = some x → befB x ⟨d, p, q⟩ = false) := fun x hx => by
       have := (List.getElem?_eq_some_iff.1 hx).1
       have := HNL.out
       omega
      go_upto_region 18 with (fail)
      refine wp_region_J (S := fun _ => True) (J := []) (by kernel_rfl) ?_ (fun hHeld => ?_)
      ·exact trivial
      try dsimp only at hHeld
      refine wpAnyJ_tL (i := 0) (d := some 58) (v := ?_) #[tt, ff, ff, ff, ff, ff, ff, ff, ff, ff, ff, ff] rfl rfl ?_ hHeld ?_
      rotate_left
      ·(intro w hSw; (try dsimp only at hSw);  go_simp; try with_reducible rfl)
      try simp only [Act.put, sA, s0, s1]
      refine wpAnyJ_tL (i := 1) (d := some 59) (v := ?_) #[tt, tt, ff, ff, ff, ff, ff, ff, ff, ff, ff, ff] rfl rfl ?_ hHeld ?_
      rotate_left
      ·(intro w hSw; (try dsimp only at hSw);  go_simp; try with_reducible rfl)
      try simp only [Act.put, sA, s0, s1]
      refine wpAnyJ_tL (i := 2) (d := some 60) (v := ?_) #[tt, tt, tt, ff, ff, ff, ff, ff, ff, ff, ff, ff] rfl rfl ?_ hHeld ?_
      rotate_left
      ·(intro w hSw; (try dsimp only at hSw);  go_simp; try with_reducible rfl)
      try simp only [Act.put, sA, s0, s1]
      refine wpAnyJ_tL (i := 3) (d := some 61) (v := ?_) #[tt, tt, tt, tt, ff, ff, ff, ff, ff, ff, ff, ff] rfl rfl ?_ hHeld ?_
      rotate_left
      ·(intro w hSw; (try dsimp only at hSw);  go_simp; try with_reducible rfl)
      try simp only [Act.put, sA, s0, s1]
      refine wpAnyJ_tL (i := 4) (d := some 62) (v := ?_) #[tt, tt, tt, tt, tt, ff, ff, ff, ff, ff, ff, ff] rfl rfl ?_ hHeld ?_
      rotate_left
      ·(intro w hSw; (try dsimp only at hSw);  go_simp; try with_reducible rfl)
      try simp only [Act.put, sA, s0, s1]
      refine wpAnyJ_takeL (i := 5) (d := some 63) (v := undef) #[tt, tt, tt, tt, tt, tt, ff, ff, ff, ff, ff, ff] (by kernel_rfl) rfl rfl (by kernel_rfl) (by kernel_rfl) (by kernel_rfl) (by kernel_rfl) (by kernel_rfl) (fun _ _ _ h => h) (Or.inr ⟨by rfl, by rfl⟩) hHeld ?_
      try simp only [Act.put, sA, s0, s1]
      refine wpAnyJ_takeL (i := 6) (d := some 64) (v := undef) #[tt, tt, tt, tt, tt, tt, tt, ff, ff, ff, ff, ff] (by kernel_rfl) rfl rfl (by kernel_rfl) (by kernel_rfl) (by kernel_rfl) (by kernel_rfl) (by kernel_rfl) (fun _ _ _ h => h) (Or.inr ⟨by rfl, by rfl⟩) hHeld ?_
      try simp only [Act.put, sA, s0, s1]
      refine wpAnyJ_takeL (i := 7) (d := some 65) (v := undef) #[tt, tt, tt, tt, tt, tt, tt, tt, ff, ff, ff, ff] (by kernel_rfl) rfl rfl (by kernel_rfl) (by kernel_rfl) (by kernel_rfl) (by kernel_rfl) (by kernel_rfl) (fun _ _ _ h => h) (Or.inr ⟨by rfl, by rfl⟩) hHeld ?_
      try simp only [Act.put, sA, s0, s1]
      refine wpAnyJ_takeL (i := 8) (d := some 66) (v := undef) #[tt, tt, tt, tt, tt, tt, tt, tt, tt, ff, ff, ff] (by kernel_rfl) rfl rfl (by kernel_rfl) (by kernel_rfl) (by kernel_rfl) (by kernel_rfl) (by kernel_rfl) (fun _ _ _ h => h) (Or.inr ⟨by rfl, by rfl⟩) hHeld ?_
      try simp only [Act.put, sA, s0, s1]
      refine wpAnyJ_takeL (i := 9) (d := some 67) (v := undef) #[tt, tt, tt, tt, tt, tt, tt, tt, tt, tt, ff, ff] (by kernel_rfl) rfl rfl (by kernel_rfl) (by kernel_rfl) (by kernel_rfl) (by kernel_rfl) (by kernel_rfl) (fun _ _ _ h => h) (Or.inr ⟨by rfl, by rfl⟩) hHeld ?_
      try simp only [Act.put, sA, s0, s1]
      refine wpAnyJ_takeL (i := 10) (d := some 68) (v := undef) #[tt, tt, tt, tt, tt, tt, tt, tt, tt, tt, tt, ff] (by kernel_rfl) rfl rfl (by kernel_rfl) (by kernel_rfl) (by kernel_rfl) (by kernel_rfl) (by kernel_rfl) (fun _ _ _ h => h) (Or.inr ⟨by rfl, by rfl⟩) hHeld ?_
      try simp only [Act.put, sA, s0, s1]
      refine wpAnyJ_tL (i := 11) (d := some 69) (v := ?_) #[tt, tt, tt, tt, tt, tt, tt, tt, tt, tt, tt, tt] rfl rfl ?_ hHeld ?_
      rotate_left
      ·(intro w hSw; (try dsimp only at hSw);  go_simp; try with_reducible rfl)
      try simp only [Act.put, sA, s0, s1]
      refine wpAnyJ_done (by kernel_rfl) ?_ _
      have HS4 := Lib.hid hst.out.drew
      have hall := hal.out
      clear hHeld hst hal hjj
      generalize World.drew _ = w4 at *
      obtain ⟨hTW, hDW⟩ := while_at (p := fun x => befB x ⟨d, p, q⟩) hall HSTOP.out
      have HINS : Hid (insL ⟨d, p, q⟩ ls = ls.take j ++ ⟨d, p, q⟩ :: ls.drop j) := by unfold Hid insL; rw [hTW, hDW]
      have HSL4 := Lib.hid (HS.out.below HS4.out.bl hBl)
      have hjc : j ≤ c := by omega
      have HSK := Lib.hid (HSL4.out.takeK (fun _ => rfl) (by decide) hj)
      have HSD := Lib.hid (HSL4.out.dropK (fun _ => rfl) (by decide) hj)
      have HBX : Hid (w4.cell? ⟨w.heap.size + 1, 0, none⟩ = some (.int .i64 d) ∧ w4.cell? ⟨w.heap.size + 1, 1, none⟩ = some (.int .i64 p) ∧ w4.cell? ⟨w.heap.size + 1, 2, none⟩ = some (.int .i64 q)) := ⟨HS4.out.bk.cell 0, HS4.out.bk.cell 1, HS4.out.bk.cell 2⟩
      have HCUT : Hid (∀ W, (Instr.sliceAt 29 (.slice Al i c) (some (.int .i64 (j : Int))) none none).run Tryz.prog W = .ok (.slice (cutK Al c j 3) (i - j) (c - j)) W) := fun W => run_from_lk W _ _ _ _ hj
      clear hTW hDW hall HSTOP
      go_upto_region 20 with (fail)
      refine wp_region_J (S := fun W' => W'.cell? ⟨w.heap.size + 1, 0, none⟩ = some (.int .i64 d) ∧ W'.cell? ⟨w.heap.size + 1, 1, none⟩ = some (.int .i64 p) ∧ W'.cell? ⟨w.heap.size + 1, 2, none⟩ = some (.int .i64 q)) (J := []) (by kernel_rfl) ?_ (fun hHeld => ?_)
      ·exact HBX.out
      try dsimp only at hHeld
      refine wpAnyJ_tL (i := 0) (d := some 72) (v := ?_) #[tt, ff, ff, ff, ff, ff, ff, ff] rfl rfl ?_ hHeld ?_
      rotate_left
      ·(intro w hSw; (try dsimp only at hSw);  go_simp; try with_reducible rfl)
      try simp only [Act.put, sA, s0, s1]
      refine wpAnyJ_tL (i := 1) (d := some 73) (v := ?_) #[tt, tt, ff, ff, ff, ff, ff, ff] rfl rfl ?_ hHeld ?_
      rotate_left
      ·(intro w hSw; (try dsimp only at hSw);  go_simp; try with_reducible rfl)
      try simp only [Act.put, sA, s0, s1]
      refine wpAnyJ_tL (i := 2) (d := some 74) (v := ?_) #[tt, tt, tt, ff, ff, ff, ff, ff] rfl rfl ?_ hHeld ?_
      rotate_left
      ·(intro w hSw; (try dsimp only at hSw);  go_simp; try with_reducible rfl)
      try simp only [Act.put, sA, s0, s1]
      refine wpAnyJ_tL (i := 4) (d := some 76) (v := ?_) #[tt, tt, tt, ff, tt, ff, ff, ff] rfl rfl ?_ hHeld ?_
      rotate_left
      ·(intro w hSw; (try dsimp only at hSw);  go_simp; try with_reducible rfl)
      try simp only [Act.put, sA, s0, s1]
      refine wpAnyJ_twoL (i := 3) (k := 5) #[tt, tt, tt, tt, tt, ff, ff, ff] #[tt, tt, tt, ff, tt, tt, ff, ff] (by kernel_rfl) (by kernel_rfl) (by kernel_rfl) rfl rfl (fun K hK => ?_) (fun K hK => ?_)
      ·(refine step_app_d (d := some 75) (by rfl) (by rfl) _ (.tmp 74) (by rfl) el_lock (by rfl) (World.ownsRow_nil _ w4.heap.size _ _) (by rfl) HSK.out (locks_one _) (by omega) (by omega) (by simp) ?_; intro A1 c1 w5 hown5 hgr5 hat5; simp only [Nat.zero_add, List.nil_append] at hown5 hgr5 hat5 ⊢)
       refine hK.out _ _ (fun _ => ?_) (fun hHeld' => ?_)
       ·exact ⟨keep_cell (below_none hgr5) HBX.out.1, keep_cell (below_none hgr5) HBX.out.2.1, keep_cell (below_none hgr5) HBX.out.2.2⟩
       replace hHeld := hHeld' rfl
       clear hHeld' hK K
       try dsimp only at hHeld
       refine wpAnyJ_oneL (k := 5) #[tt, tt, tt, tt, tt, tt, ff, ff] (by kernel_rfl) (by kernel_rfl) rfl (fun K hK => ?_)
       go_simp
       refine hK.out _ _ (fun _ => ?_) (fun hHeld' => ?_)
       ·exact ⟨cell_al2 _ (keep_cell (below_none hgr5) HBX.out.1), cell_al2 _ (keep_cell (below_none hgr5) HBX.out.2.1), cell_al2 _ (keep_cell (below_none hgr5) HBX.out.2.2)⟩
       replace hHeld := hHeld' rfl
       clear hHeld' hK K
       try dsimp only at hHeld
       refine wpAnyJ_oneL (k := 6) #[tt, tt, tt, tt, tt, tt, tt, ff] (by kernel_rfl) (by kernel_rfl) rfl (fun K hK => ?_)
       (refine step_app_d (d := some 78) (by rfl) (by rfl) (.tmp 75) (.tmp 77) (by rfl) el_lock (by rfl) (World.ownsRow.alloc hown5 _) (by rfl) (Sl.newest (n := 1) (by simp) (by rfl) (by decide)) (by simp [Value.oneCell']) (by omega) (by omega) (by have := hgr5.size; simp at this ⊢; omega) ?_; intro A2 c2 w6 hown6 hgr6 hat6)
       refine hK.out _ _ (fun _ => ?_) (fun hHeld' => ?_)
       ·exact ⟨keep_cell (ra_below hgr5 hown5 hgr6) HBX.out.1, keep_cell (ra_below hgr5 hown5 hgr6) HBX.out.2.1, keep_cell (ra_below hgr5 hown5 hgr6) HBX.out.2.2⟩
       replace hHeld := hHeld' rfl
       clear hHeld' hK K
       try dsimp only at hHeld
       refine wpAnyJ_tL (i := 7) (d := some 14) (v := ?_) #[tt, tt, tt, tt, tt, tt, tt, tt] rfl rfl ?_ hHeld ?_
       rotate_left
       ·(intro w hSw; (try dsimp only at hSw);  go_simp; try with_reducible rfl)
       try simp only [Act.put, sA, s0, s1]
       refine wpAnyJ_done (by kernel_rfl) ?_ _
       clear hHeld
       have HB46 : Hid (Below w4.heap.size w4 w6) := by first | exact ra_below hgr5 hown5 hgr6 | exact ra_below2 hgr5 hown5 hgr6
       have HO6 := Lib.hid hown6
       have HSD6 := Lib.hid (HSD.out.below HB46.out (by have := HS4.out.bl.size; omega))
       have hcut := HCUT.out
       have hz46 := HB46.out.size
       clear hown5 hgr5 hat5 hown6 hgr6 hat6
       go_wp2_with (at_builtin; go_must (refine wpList_app rfl (.tmp 79) (.tmp 82) rfl el_lock (by rfl) HO6.out (by rfl) HSD6.out (locks_one _) (by omega) (by omega) (by omega) ?_; intro A3 c3 w7 hown7 hgr7 hat7; have HO7 := Lib.hid hown7; have HG7 := Lib.hid hgr7; clear hown7 hgr7 hat7))
       go_ret2
       have hlen : ls.length + 1 = j + 1 + (i - j) := by have := HNL.out; omega
       refine ⟨.inr ⟨HR.out, A3, c3, by rw [hlen]; rfl, ?_⟩, ?_⟩
       ·unfold Hid LocksO; rw [hlen, HINS.out]; rw [List.flatMap_append, List.flatMap_cons, ← List.append_assoc]; exact HO7.out.mono (by have := HS4.out.bl.size; omega)
       ·have h1 := HS4.out.bl.trans (HB46.out.mono HS4.out.bl.size); exact h1.trans ⟨HG7.out.os, HG7.out.tape, HG7.out.output, HG7.out.size, fun t ht => HG7.out.block t (by have := h1.size; omega) (fun e => by have := (HO6.out.lt t e.symm).1; have := HS4.out.bl.size; omega)⟩
      ·go_simp
       refine hK.out _ _ (fun _ => ?_) (fun hHeld' => ?_)
       ·exact ⟨cell_al2 _ HBX.out.1, cell_al2 _ HBX.out.2.1, cell_al2 _ HBX.out.2.2⟩
       replace hHeld := hHeld' rfl
       clear hHeld' hK K
       try dsimp only at hHeld
       refine wpAnyJ_oneL (k := 3) #[tt, tt, tt, tt, tt, tt, ff, ff] (by kernel_rfl) (by kernel_rfl) rfl (fun K hK => ?_)
       (refine step_app_d (d := some 75) (by rfl) (by rfl) _ (.tmp 74) (by rfl) el_lock (by rfl) (World.ownsRow_nil _ w4.heap.size _ _) (by rfl) (HSK.out.alloc (by have := HS4.out.bl.size; simp; omega) _) (locks_one _) (by omega) (by omega) (by simp) ?_; intro A1 c1 w5 hown5 hgr5 hat5; simp only [Nat.zero_add, List.nil_append] at hown5 hgr5 hat5 ⊢)
       refine hK.out _ _ (fun _ => ?_) (fun hHeld' => ?_)
       ·exact ⟨keep_cell (ra_below0 hgr5) HBX.out.1, keep_cell (ra_below0 hgr5) HBX.out.2.1, keep_cell (ra_below0 hgr5) HBX.out.2.2⟩
       replace hHeld := hHeld' rfl
       clear hHeld' hK K
       try dsimp only at hHeld
       refine wpAnyJ_oneL (k := 6) #[tt, tt, tt, tt, tt, tt, tt, ff] (by kernel_rfl) (by kernel_rfl) rfl (fun K hK => ?_)
       (refine step_app_d (d := some 78) (by rfl) (by rfl) (.tmp 75) (.tmp 77) (by rfl) el_lock (by rfl) hown5 (by rfl) ((Sl.newest (w := w4.drew) (cs := #[.int .i64 d, .int .i64 p, .int .i64 q]) (T := 77) (n := 1) (size := 3) rfl (by rfl) (by decide)).below (below_none hgr5) (by simp)) (by simp [Value.oneCell']) (by omega) (by omega) (by have := hgr5.size; simp at this ⊢; omega) ?_; intro A2 c2 w6 hown6 hgr6 hat6)
       refine hK.out _ _ (fun _ => ?_) (fun hHeld' => ?_)
       ·exact ⟨keep_cell (ra_below2 hgr5 hown5 hgr6) HBX.out.1, keep_cell (ra_below2 hgr5 hown5 hgr6) HBX.out.2.1, keep_cell (ra_below2 hgr5 hown5 hgr6) HBX.out.2.2⟩
       replace hHeld := hHeld' rfl
       clear hHeld' hK K
       try dsimp only at hHeld
       refine wpAnyJ_tL (i := 7) (d := some 14) (v := ?_) #[tt, tt, tt, tt, tt, tt, tt, tt] rfl rfl ?_ hHeld ?_
       rotate_left
       ·(intro w hSw; (try dsimp only at hSw);  go_simp; try with_reducible rfl)
       try simp only [Act.put, sA, s0, s1]
       refine wpAnyJ_done (by kernel_rfl) ?_ _
       clear hHeld
       have HB46 : Hid (Below w4.heap.size w4 w6) := by first | exact ra_below hgr5 hown5 hgr6 | exact ra_below2 hgr5 hown5 hgr6
       have HO6 := Lib.hid hown6
       have HSD6 := Lib.hid (HSD.out.below HB46.out (by have := HS4.out.bl.size; omega))
       have hcut := HCUT.out
       have hz46 := HB46.out.size
       clear hown5 hgr5 hat5 hown6 hgr6 hat6
       go_wp2_with (at_builtin; go_must (refine wpList_app rfl (.tmp 79) (.tmp 82) rfl el_lock (by rfl) HO6.out (by rfl) HSD6.out (locks_one _) (by omega) (by omega) (by omega) ?_; intro A3 c3 w7 hown7 hgr7 hat7; have HO7 := Lib.hid hown7; have HG7 := Lib.hid hgr7; clear hown7 hgr7 hat7))
       go_ret2
       have hlen : ls.length + 1 = j + 1 + (i - j) := by have := HNL.out; omega
       refine ⟨.inr ⟨HR.out, A3, c3, by rw [hlen]; rfl, ?_⟩, ?_⟩
       ·unfold Hid LocksO; rw [hlen, HINS.out]; rw [List.flatMap_append, List.flatMap_cons, ← List.append_assoc]; exact HO7.out.mono (by have := HS4.out.bl.size; omega)
       ·have h1 := HS4.out.bl.trans (HB46.out.mono HS4.out.bl.size); exact h1.trans ⟨HG7.out.os, HG7.out.tape, HG7.out.output, HG7.out.size, fun t ht => HG7.out.block t (by have := h1.size; omega) (fun e => by have := (HO6.out.lt t e.symm).1; have := HS4.out.bl.size; omega)⟩
end Go.Proofs.YtnpfkiidhidjbaaGreatDoor
