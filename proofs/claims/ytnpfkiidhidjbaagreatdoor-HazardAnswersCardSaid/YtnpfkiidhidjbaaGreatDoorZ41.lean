import Derived.Test.YtnpfkiidhidjbaaGreatDoorZ27
import Derived.IntWalk
/-
 The references of layer 14: walk of Check.
-/
namespace Go.Proofs.YtnpfkiidhidjbaaGreatDoor
open Go.RowKit
theorem keep_cell {w w' : World} {p : Addr} {v : Value} (hb : Below w.heap.size w w') (h : w.cell? p = some v) : w'.cell? p = some v := (hb.cell (cell_lt h)).trans h
theorem errAt_of {ds : List Dv} {ls : List Lk} {i : Nat} {k : Lk} (hk : ls[i]? = some k) : errAt ds ls i = if lkErr ds k ≠ 0 then lkErr ds k else if ordBad ls i k = true then 14 else if othL (ls.take i) k = true then 18 else if usdL (ls.take i) k.key = true then 4 else 0 := by unfold errAt; rw [hk]
theorem ordBad_zero (ls : List Lk) (k : Lk) : ordBad ls 0 k = false := rfl
theorem ordBad_at {ls : List Lk} {i : Nat} {p k : Lk} (h0 : 0 < i) (hp : ls[i - 1]? = some p) : ordBad ls i k = !befB p k := by unfold ordBad; rw [hp, decide_eq_true h0]; simp
def RkR (w : World) (N : Array Value) (ds : List Dv) (ls : List Lk) (n gk : Nat) (iv : Value) (wr : World) : Prop := ∃ i : Nat, iv = .int .i64 i ∧ i ≤ n ∧ gk = n - i ∧ Hid (firstE ds ls i = 0) ∧ Hid (Blk wr w.heap.size 26 N) ∧ Hid (Below w.heap.size w wr)
def RkR2 (w : World) (N : Array Value) (ls : List Lk) (cur : Lk) (i gk : Nat) (kv : Value) (wr : World) : Prop := ∃ k : Nat, kv = .int .i64 k ∧ k ≤ i ∧ gk = i - k ∧ Hid (othL (ls.take k) cur = false) ∧ Hid (Blk wr w.heap.size 26 N) ∧ Hid (Below w.heap.size w wr)
def RkR3 (w : World) (N : Array Value) (ls : List Lk) (q : Int) (i gk : Nat) (kv : Value) (wr : World) : Prop := ∃ k : Nat, kv = .int .i64 k ∧ k ≤ i ∧ gk = i - k ∧ Hid (usdL (ls.take k) q = false) ∧ Hid (Blk wr w.heap.size 26 N) ∧ Hid (Below w.heap.size w wr)
theorem oth_snoc {ls : List Lk} {k : Nat} {x cur : Lk} (hx : ls[k]? = some x) (h : othL (ls.take k) cur = false) : othL (ls.take (k + 1)) cur = othB cur x := by
 unfold othL at *; rw [take_snoc hx, List.any_append, h]; simp
theorem usd_snoc {ls : List Lk} {k : Nat} {x : Lk} {q : Int} (hx : ls[k]? = some x) (h : usdL (ls.take k) q = false) : usdL (ls.take (k + 1)) q = decide (x.key = q) := by
 unfold usdL at *; rw [take_snoc hx, List.any_append, h]; simp
theorem oth_up {ls : List Lk} {k i : Nat} {cur : Lk} (h : othL (ls.take k) cur = true) (hk : k ≤ i) : othL (ls.take i) cur = true := by
 unfold othL at *
 rw [List.any_eq_true] at *
 obtain ⟨x, hx, hb⟩ := h
 exact ⟨x, (List.take_sublist_take_left hk).subset hx, hb⟩
theorem usd_up {ls : List Lk} {k i : Nat} {q : Int} (h : usdL (ls.take k) q = true) (hk : k ≤ i) : usdL (ls.take i) q = true := by
 unfold usdL at *
 rw [List.any_eq_true] at *
 obtain ⟨x, hx, hb⟩ := h
 exact ⟨x, (List.take_sublist_take_left hk).subset hx, hb⟩
set_option maxRecDepth 100000 in
set_option maxHeartbeats 8000000 in
theorem rlcheck_any (An Ad Al : Option Addr) (nn cn nd cd n c Bn Bd Bl : Nat) (ns : List Nd) (ds : List Dv) (ls : List Lk) (w : World) (hn : Sl w Bn 3 An nn cn (ns.flatMap Nd.cells)) (hd : Sl w Bd 5 Ad nd cd (ds.flatMap Dv.cells)) (hs : Sl w Bl 3 Al n c (ls.flatMap Lk.cells)) (hBn : Bn ≤ w.heap.size) (hBd : Bd ≤ w.heap.size) (hBl : Bl ≤ w.heap.size)
  (hsn : ∀ x ∈ ns, x.name.size ≤ 9223372036854775807) (hsd : ∀ x ∈ ds, x.name.size ≤ 9223372036854775807) :
  Calls Tryz.prog 56 #[.agg #[.slice An nn cn, .slice Ad nd cd], .slice Al n c] w fun e w' => e = .returned (.int .i64 (locksErr ns ds ls)) ∧ Below w.heap.size w w' := by
 have HLL := Lib.hid (hs.len (fun _ => rfl) (by decide))
 have HCK := Lib.hid (rcheck_any An Ad nn cn nd cd Bn Bd ns ds (w.alloc (.cells #[.slice An nn cn, .slice Ad nd cd] 26)) (hn.alloc hBn _) (hd.alloc hBd _) (by simp; omega) (by simp; omega) hsn hsd)
 have HE : Hid (locksErr ns ds ls = if checkN ns ds ≠ 0 then checkN ns ds else if 128 < n then 1 else firstE ds ls n) := by unfold Hid locksErr; rw [HLL.out]
 have HD := Lib.hid hd; have HS := Lib.hid hs
 have hle := hs.le
 have HK := Lib.hid (Blk.new w 26 #[.slice An nn cn, .slice Ad nd cd])
 have HBW : Hid (Below w.heap.size w (w.alloc (.cells #[.slice An nn cn, .slice Ad nd cd] 26))) := (Below.refl _ _).alloc (Nat.le_refl _) _
 clear hn hd hs hsn hsd
 generalize checkN ns ds = er at *
 by_cases h0 : er = 0; rotate_left
 ·have h0' : (er != 0) = true := by simpa using h0
  have HR : Hid (locksErr ns ds ls = er) := by unfold Hid; rw [HE.out, if_pos h0]
  clear h0
  go_enter Tryz.func56, Tryz.ntmps56
  go_wp2_with fail
  refine HCK.out.mono ?_
  rintro e w1 ⟨rfl, hb1⟩
  go_wp2_with fail
  go_ret
  exact ⟨ret_int (by rw [HR.out]), HBW.out.trans (hb1.mono (by simp))⟩
 subst h0
 by_cases h128 : 128 < n
 ·have q : decide ((128 : Int) < (n : Int)) = true := by simp; omega
  have HR : Hid (locksErr ns ds ls = 1) := by unfold Hid; rw [HE.out, if_neg (by simp), if_pos h128]
  go_enter Tryz.func56, Tryz.ntmps56
  go_wp2_with fail
  refine HCK.out.mono ?_
  rintro e w1 ⟨rfl, hb1⟩
  go_wp2_with fail
  go_ret
  exact ⟨ret_int (by rw [HR.out]), HBW.out.trans (hb1.mono (by simp))⟩
 have q : decide ((128 : Int) < (n : Int)) = false := by simp; omega
 have HR : Hid (locksErr ns ds ls = firstE ds ls n) := by unfold Hid; rw [HE.out, if_neg (by simp), if_neg h128]
 have hn128 : n ≤ 128 := by omega
 clear HE h128
 go_enter Tryz.func56, Tryz.ntmps56
 go_wp2_with fail
 refine HCK.out.mono ?_
 rintro e w1 ⟨rfl, hb1⟩
 have HK1 := Lib.hid (HK.out.below hb1 (by simp))
 have HB1 := Lib.hid (HBW.out.trans (hb1.mono (by simp)))
 clear hb1 HCK HK HBW
 go_wp2_with fail
 clear q
 go_loopg [6] n (RkR w #[.slice An nn cn, .slice Ad nd cd] ds ls n)
 case atStart => exact ⟨0, rfl, Nat.zero_le _, rfl, rfl, HK1, HB1⟩
 case round =>
  clear HK1 HB1
  obtain ⟨i, rfl, hi, rfl, hfe, hbk, hbl⟩ := hrel
  by_cases hlt : i < n
  ·obtain ⟨b, off, d, p, q, rfl, hb, hx, c0, c1, c2⟩ := (HS.out.below hbl.out hBl).lock hlt
   have HX := Lib.hid hx
   have HEA := Lib.hid (errAt_of (ds := ds) hx)
   have k0 : wr.cell? ⟨w.heap.size, 0, none⟩ = some (.slice An nn cn) := hbk.out.cell 0
   have k1 : wr.cell? ⟨w.heap.size, 1, none⟩ = some (.slice Ad nd cd) := hbk.out.cell 1
   have hzr := hbl.out.size
   have HFA := Lib.hid (rfault_any An Ad nn cn nd cd Bd ds d p q wr.drew (HD.out.below hbl.out.drew hBd) (by simp; omega))
   have HCS : Hid (wr.cell? ⟨w.heap.size, 0, none⟩ = some (.slice An nn cn) ∧ wr.cell? ⟨w.heap.size, 1, none⟩ = some (.slice Ad nd cd) ∧ wr.cell? ⟨b, off + i * 3, none⟩ = some (.int .i64 d) ∧ wr.cell? ⟨b, off + i * 3 + 1, none⟩ = some (.int .i64 p) ∧ wr.cell? ⟨b, off + i * 3 + 2, none⟩ = some (.int .i64 q)) := ⟨k0, k1, c0, c1, c2⟩
   clear hx k0 k1 c0 c1 c2
   generalize lkErr ds ⟨d, p, q⟩ = er at *
   go_upto_region 9 with (fail)
   refine wp_region_J (S := fun W' => W'.cell? ⟨w.heap.size, 0, none⟩ = some (.slice An nn cn) ∧ W'.cell? ⟨w.heap.size, 1, none⟩ = some (.slice Ad nd cd) ∧ W'.cell? ⟨b, off + i * 3, none⟩ = some (.int .i64 d) ∧ W'.cell? ⟨b, off + i * 3 + 1, none⟩ = some (.int .i64 p) ∧ W'.cell? ⟨b, off + i * 3 + 2, none⟩ = some (.int .i64 q)) (J := []) (by kernel_rfl) ?_ (fun hHeld => ?_)
   ·exact HCS.out
   try dsimp only at hHeld
   refine wpAnyJ_tL (i := 0) (d := some 24) (v := ?_) #[tt, ff, ff, ff, ff, ff, ff] rfl rfl ?_ hHeld ?_
   rotate_left
   ·(intro w hSw; (try dsimp only at hSw);  go_simp; try with_reducible rfl)
   try simp only [Act.put, sA, s0, s1]
   refine wpAnyJ_tL (i := 1) (d := some 25) (v := ?_) #[tt, tt, ff, ff, ff, ff, ff] rfl rfl ?_ hHeld ?_
   rotate_left
   ·(intro w hSw; (try dsimp only at hSw);  go_simp; try with_reducible rfl)
   try simp only [Act.put, sA, s0, s1]
   refine wpAnyJ_tL (i := 2) (d := some 26) (v := ?_) #[tt, tt, tt, ff, ff, ff, ff] rfl rfl ?_ hHeld ?_
   rotate_left
   ·(intro w hSw; (try dsimp only at hSw);  go_simp; try with_reducible rfl)
   try simp only [Act.put, sA, s0, s1]
   refine wpAnyJ_tL (i := 3) (d := some 27) (v := ?_) #[tt, tt, tt, tt, ff, ff, ff] rfl rfl ?_ hHeld ?_
   rotate_left
   ·(intro w hSw; (try dsimp only at hSw);  go_simp; try with_reducible rfl)
   try simp only [Act.put, sA, s0, s1]
   refine wpAnyJ_tL (i := 4) (d := some 28) (v := ?_) #[tt, tt, tt, tt, tt, ff, ff] rfl rfl ?_ hHeld ?_
   rotate_left
   ·(intro w hSw; (try dsimp only at hSw);  go_simp; try with_reducible rfl)
   try simp only [Act.put, sA, s0, s1]
   refine wpAnyJ_oneL (k := 5) #[tt, tt, tt, tt, tt, tt, ff] (by kernel_rfl) (by kernel_rfl) rfl (fun K hK => ?_)
   (go_simp; refine HFA.out.mono ?_; rintro e w2 ⟨rfl, hb2⟩; go_simp)
   refine hK.out _ _ (fun _ => ?_) (fun hHeld' => ?_)
   ·exact ⟨keep_cell hb2 HCS.out.1, keep_cell hb2 HCS.out.2.1, keep_cell hb2 HCS.out.2.2.1, keep_cell hb2 HCS.out.2.2.2.1, keep_cell hb2 HCS.out.2.2.2.2⟩
   replace hHeld := hHeld' rfl
   clear hHeld' hK K
   try dsimp only at hHeld
   refine wpAnyJ_tL (i := 6) (d := some 7) (v := ?_) #[tt, tt, tt, tt, tt, tt, tt] rfl rfl ?_ hHeld ?_
   rotate_left
   ·(intro w hSw; (try dsimp only at hSw);  go_simp; try with_reducible rfl)
   try simp only [Act.put, sA, s0, s1]
   refine wpAnyJ_done (by kernel_rfl) ?_ _
   have HB2 := Lib.hid (hbl.out.drew.trans (hb2.mono hzr))
   have HK2 := Lib.hid ((show Blk wr.drew w.heap.size 26 #[.slice An nn cn, .slice Ad nd cd] from hbk.out).below hb2 hbk.out.lt)
   have HC2 := Lib.hid hHeld
   clear hHeld hb2 hbl hbk HCS HFA hzr
   by_cases he : er = 0; rotate_left
   ·have qe : (er != 0) = true := by simpa using he
    have HRE := Lib.hid (firstE_stop hfe.out (by rw [HEA.out, if_pos he]) he n hlt)
    clear he
    go_wp2_with fail
    go_ret
    exact ⟨ret_int (by rw [HR.out, HRE.out]), HB2.out⟩
   subst he
   rcases Nat.eq_zero_or_pos i with hi0 | hi0
   ·have qi : decide ((0 : Int) < (i : Int)) = false := by simp; omega
    have qi2 : decide (0 < i) = false := by simp; omega
    have HOB : Hid (ordBad ls i ⟨d, p, q⟩ = false) := by rw [hi0]; exact ordBad_zero _ _
    clear hi0
    go_upto_region 12 with (fail)
    refine wp_region_J (S := fun _ => True) (J := []) (by kernel_rfl) ?_ (fun hHeld => ?_)
    ·exact trivial
    try dsimp only at hHeld
    refine wpAnyJ_tL (i := 0) (d := some 33) (v := ?_) #[tt, ff, ff, ff, ff, ff, ff, ff, ff, ff, ff, ff, ff, ff, ff] rfl rfl ?_ hHeld ?_
    rotate_left
    ·(intro w hSw; (try dsimp only at hSw);  go_simp; try with_reducible rfl)
    try simp only [Act.put, sA, s0, s1]
    refine wpAnyJ_tL (i := 1) (d := some 34) (v := ?_) #[tt, tt, ff, ff, ff, ff, ff, ff, ff, ff, ff, ff, ff, ff, ff] rfl rfl ?_ hHeld ?_
    rotate_left
    ·(intro w hSw; (try dsimp only at hSw);  go_simp; try with_reducible rfl)
    try simp only [Act.put, sA, s0, s1]
    refine wpAnyJ_tL (i := 2) (d := some 35) (v := ?_) #[tt, tt, tt, ff, ff, ff, ff, ff, ff, ff, ff, ff, ff, ff, ff] rfl rfl ?_ hHeld ?_
    rotate_left
    ·(intro w hSw; (try dsimp only at hSw);  go_simp; try with_reducible rfl)
    try simp only [Act.put, sA, s0, s1]
    refine wpAnyJ_takeL (i := 3) (d := some 36) (v := undef) #[tt, tt, tt, tt, ff, ff, ff, ff, ff, ff, ff, ff, ff, ff, ff] (by kernel_rfl) rfl rfl (by kernel_rfl) (by kernel_rfl) (by kernel_rfl) (by kernel_rfl) (by kernel_rfl) (fun _ _ _ h => h) (Or.inr ⟨by rfl, by rfl⟩) hHeld ?_
    try simp only [Act.put, sA, s0, s1]
    refine wpAnyJ_takeL (i := 4) (d := some 37) (v := undef) #[tt, tt, tt, tt, tt, ff, ff, ff, ff, ff, ff, ff, ff, ff, ff] (by kernel_rfl) rfl rfl (by kernel_rfl) (by kernel_rfl) (by kernel_rfl) (by kernel_rfl) (by kernel_rfl) (fun _ _ _ h => h) (Or.inr ⟨by rfl, by rfl⟩) hHeld ?_
    try simp only [Act.put, sA, s0, s1]
    refine wpAnyJ_takeL (i := 5) (d := some 38) (v := undef) #[tt, tt, tt, tt, tt, tt, ff, ff, ff, ff, ff, ff, ff, ff, ff] (by kernel_rfl) rfl rfl (by kernel_rfl) (by kernel_rfl) (by kernel_rfl) (by kernel_rfl) (by kernel_rfl) (fun _ _ _ h => h) (Or.inr ⟨by rfl, by rfl⟩) hHeld ?_
    try simp only [Act.put, sA, s0, s1]
    refine wpAnyJ_takeL (i := 6) (d := some 39) (v := undef) #[tt, tt, tt, tt, tt, tt, tt, ff, ff, ff, ff, ff, ff, ff, ff] (by kernel_rfl) rfl rfl (by kernel_rfl) (by kernel_rfl) (by kernel_rfl) (by kernel_rfl) (by kernel_rfl) (fun _ _ _ h => h) (Or.inr ⟨by rfl, by rfl⟩) hHeld ?_
    try simp only [Act.put, sA, s0, s1]
    refine wpAnyJ_takeL (i := 7) (d := some 40) (v := undef) #[tt, tt, tt, tt, tt, tt, tt, tt, ff, ff, ff, ff, ff, ff, ff] (by kernel_rfl) rfl rfl (by kernel_rfl) (by kernel_rfl) (by kernel_rfl) (by kernel_rfl) (by kernel_rfl) (fun _ _ _ h => h) (Or.inr ⟨by rfl, by rfl⟩) hHeld ?_
    try simp only [Act.put, sA, s0, s1]
    refine wpAnyJ_takeL (i := 8) (d := some 41) (v := undef) #[tt, tt, tt, tt, tt, tt, tt, tt, tt, ff, ff, ff, ff, ff, ff] (by kernel_rfl) rfl rfl (by kernel_rfl) (by kernel_rfl) (by kernel_rfl) (by kernel_rfl) (by kernel_rfl) (fun _ _ _ h => h) (Or.inr ⟨by rfl, by rfl⟩) hHeld ?_
    try simp only [Act.put, sA, s0, s1]
    refine wpAnyJ_takeL (i := 9) (d := some 42) (v := undef) #[tt, tt, tt, tt, tt, tt, tt, tt, tt, tt, ff, ff, ff, ff, ff] (by kernel_rfl) rfl rfl (by kernel_rfl) (by kernel_rfl) (by kernel_rfl) (by kernel_rfl) (by kernel_rfl) (fun _ _ _ h => h) (Or.inr ⟨by rfl, by rfl⟩) hHeld ?_
    try simp only [Act.put, sA, s0, s1]
    refine wpAnyJ_takeL (i := 10) (d := some 43) (v := undef) #[tt, tt, tt, tt, tt, tt, tt, tt, tt, tt, tt, ff, ff, ff, ff] (by kernel_rfl) rfl rfl (by kernel_rfl) (by kernel_rfl) (by kernel_rfl) (by kernel_rfl) (by kernel_rfl) (fun _ _ _ h => h) (Or.inr ⟨by rfl, by rfl⟩) hHeld ?_
    try simp only [Act.put, sA, s0, s1]
    refine wpAnyJ_takeL (i := 11) (d := some 44) (v := undef) #[tt, tt, tt, tt, tt, tt, tt, tt, tt, tt, tt, tt, ff, ff, ff] (by kernel_rfl) rfl rfl (by kernel_rfl) (by kernel_rfl) (by kernel_rfl) (by kernel_rfl) (by kernel_rfl) (fun _ _ _ h => h) (Or.inr ⟨by rfl, by rfl⟩) hHeld ?_
    try simp only [Act.put, sA, s0, s1]
    refine wpAnyJ_takeL (i := 12) (d := some 45) (v := undef) #[tt, tt, tt, tt, tt, tt, tt, tt, tt, tt, tt, tt, tt, ff, ff] (by kernel_rfl) rfl rfl (by kernel_rfl) (by kernel_rfl) (by kernel_rfl) (by kernel_rfl) (by kernel_rfl) (fun _ _ _ h => h) (Or.inr ⟨by rfl, by rfl⟩) hHeld ?_
    try simp only [Act.put, sA, s0, s1]
    refine wpAnyJ_takeL (i := 13) (d := some 46) (v := undef) #[tt, tt, tt, tt, tt, tt, tt, tt, tt, tt, tt, tt, tt, tt, ff] (by kernel_rfl) rfl rfl (by kernel_rfl) (by kernel_rfl) (by kernel_rfl) (by kernel_rfl) (by kernel_rfl) (fun _ _ _ h => h) (Or.inr ⟨by rfl, by rfl⟩) hHeld ?_
    try simp only [Act.put, sA, s0, s1]
    refine wpAnyJ_tL (i := 14) (d := some 47) (v := ?_) #[tt, tt, tt, tt, tt, tt, tt, tt, tt, tt, tt, tt, tt, tt, tt] rfl rfl ?_ hHeld ?_
    rotate_left
    ·(intro w hSw; (try dsimp only at hSw);  go_simp; try with_reducible rfl)
    try simp only [Act.put, sA, s0, s1]
    refine wpAnyJ_done (by kernel_rfl) ?_ _
    clear hHeld
    have hbk3 := HK2.out; have hbl3 := HB2.out.drew
    clear HK2 HB2 HC2
    have HK3 := Lib.hid hbk3; have HB3 := Lib.hid hbl3
    clear hbk3 hbl3
    go_wp2_with fail
    go_loopg [8] i (RkR2 w #[.slice An nn cn, .slice Ad nd cd] ls ⟨d, p, q⟩ i)
    case atStart => exact ⟨0, rfl, Nat.zero_le _, rfl, rfl, HK3, HB3⟩
    case round =>
     clear HK3 HB3
     obtain ⟨k, rfl, hk, rfl, hot, hbk, hbl⟩ := hrel
     by_cases hkt : k < i
     ·obtain ⟨b1, off1, d1, p1, q1, hA1, _, hx1, e0, e1, _⟩ := (HS.out.below hbl.out hBl).lock (i := k) (by omega)
      injection hA1 with hA1; injection hA1 with h1 h2; subst h1 h2
      obtain ⟨b2, off2, d2, p2, q2, hA2, _, hx2, f0, f1, _⟩ := (HS.out.below hbl.out hBl).lock hlt
      injection hA2 with hA2; injection hA2 with h1 h2; subst h1 h2
      rw [HX.out] at hx2
      injection hx2 with hx2; injection hx2 with h1 h2 h3; subst h1 h2 h3
      have HX1 := Lib.hid hx1
      have hkn : k < n := by omega
      have HCS : Hid (wr.cell? ⟨b, off + k * 3, none⟩ = some (.int .i64 d1) ∧ wr.cell? ⟨b, off + k * 3 + 1, none⟩ = some (.int .i64 p1) ∧ wr.cell? ⟨b, off + i * 3, none⟩ = some (.int .i64 d) ∧ wr.cell? ⟨b, off + i * 3 + 1, none⟩ = some (.int .i64 p)) := ⟨e0, e1, f0, f1⟩
      clear hx1 e0 e1 f0 f1
      by_cases hdd : d1 = d
      ·subst hdd
       have qd : (d1 == d1) = true := by simp
       by_cases hpp : p1 = p
       ·subst hpp
        have qp : (p1 != p1) = false := by simp
        have HO2 : Hid (othL (ls.take (k + 1)) ⟨d1, p1, q⟩ = false) := by unfold Hid; rw [oth_snoc HX1.out hot.out]; simp [othB]
        go_upto_region 17 with (fail)
        refine wp_region_J (S := fun W' => W'.cell? ⟨b, off + k * 3, none⟩ = some (.int .i64 d1) ∧ W'.cell? ⟨b, off + k * 3 + 1, none⟩ = some (.int .i64 p1) ∧ W'.cell? ⟨b, off + i * 3, none⟩ = some (.int .i64 d1) ∧ W'.cell? ⟨b, off + i * 3 + 1, none⟩ = some (.int .i64 p1)) (J := []) (by kernel_rfl) ?_ (fun hHeld => ?_)
        ·exact HCS.out
        try dsimp only at hHeld
        refine wpAnyJ_tL (i := 0) (d := some 53) (v := ?_) #[tt, ff, ff, ff, ff, ff, ff, ff, ff, ff, ff, ff, ff, ff, ff, ff, ff, ff, ff, ff, ff, ff, ff, ff] rfl rfl ?_ hHeld ?_
        rotate_left
        ·(intro w hSw; (try dsimp only at hSw);  go_simp; try with_reducible rfl)
        try simp only [Act.put, sA, s0, s1]
        refine wpAnyJ_tL (i := 1) (d := some 54) (v := ?_) #[tt, tt, ff, ff, ff, ff, ff, ff, ff, ff, ff, ff, ff, ff, ff, ff, ff, ff, ff, ff, ff, ff, ff, ff] rfl rfl ?_ hHeld ?_
        rotate_left
        ·(intro w hSw; (try dsimp only at hSw);  go_simp; try with_reducible rfl)
        try simp only [Act.put, sA, s0, s1]
        refine wpAnyJ_tL (i := 2) (d := some 55) (v := ?_) #[tt, tt, tt, ff, ff, ff, ff, ff, ff, ff, ff, ff, ff, ff, ff, ff, ff, ff, ff, ff, ff, ff, ff, ff] rfl rfl ?_ hHeld ?_
        rotate_left
        ·(intro w hSw; (try dsimp only at hSw);  go_simp; try with_reducible rfl)
        try simp only [Act.put, sA, s0, s1]
        refine wpAnyJ_tL (i := 3) (d := some 56) (v := ?_) #[tt, tt, tt, tt, ff, ff, ff, ff, ff, ff, ff, ff, ff, ff, ff, ff, ff, ff, ff, ff, ff, ff, ff, ff] rfl rfl ?_ hHeld ?_
        rotate_left
        ·(intro w hSw; (try dsimp only at hSw);  go_simp; try with_reducible rfl)
        try simp only [Act.put, sA, s0, s1]
        refine wpAnyJ_tL (i := 4) (d := some 57) (v := ?_) #[tt, tt, tt, tt, tt, ff, ff, ff, ff, ff, ff, ff, ff, ff, ff, ff, ff, ff, ff, ff, ff, ff, ff, ff] rfl rfl ?_ hHeld ?_
        rotate_left
        ·(intro w hSw; (try dsimp only at hSw);  go_simp; try with_reducible rfl)
        try simp only [Act.put, sA, s0, s1]
        refine wpAnyJ_tL (i := 5) (d := some 58) (v := ?_) #[tt, tt, tt, tt, tt, tt, ff, ff, ff, ff, ff, ff, ff, ff, ff, ff, ff, ff, ff, ff, ff, ff, ff, ff] rfl rfl ?_ hHeld ?_
        rotate_left
        ·(intro w hSw; (try dsimp only at hSw);  go_simp; try with_reducible rfl)
        try simp only [Act.put, sA, s0, s1]
        refine wpAnyJ_tL (i := 6) (d := some 59) (v := ?_) #[tt, tt, tt, tt, tt, tt, tt, ff, ff, ff, ff, ff, ff, ff, ff, ff, ff, ff, ff, ff, ff, ff, ff, ff] rfl rfl ?_ hHeld ?_
        rotate_left
        ·(intro w hSw; (try dsimp only at hSw);  go_simp; try with_reducible rfl)
        try simp only [Act.put, sA, s0, s1]
        refine wpAnyJ_tL (i := 7) (d := some 60) (v := ?_) #[tt, tt, tt, tt, tt, tt, tt, tt, ff, ff, ff, ff, ff, ff, ff, ff, ff, ff, ff, ff, ff, ff, ff, ff] rfl rfl ?_ hHeld ?_
        rotate_left
        ·(intro w hSw; (try dsimp only at hSw);  go_simp; try with_reducible rfl)
        try simp only [Act.put, sA, s0, s1]
        refine wpAnyJ_tL (i := 8) (d := some 61) (v := ?_) #[tt, tt, tt, tt, tt, tt, tt, tt, tt, ff, ff, ff, ff, ff, ff, ff, ff, ff, ff, ff, ff, ff, ff, ff] rfl rfl ?_ hHeld ?_
        rotate_left
        ·(intro w hSw; (try dsimp only at hSw);  go_simp; try with_reducible rfl)
        try simp only [Act.put, sA, s0, s1]
        refine wpAnyJ_tL (i := 9) (d := some 62) (v := ?_) #[tt, tt, tt, tt, tt, tt, tt, tt, tt, tt, ff, ff, ff, ff, ff, ff, ff, ff, ff, ff, ff, ff, ff, ff] rfl rfl ?_ hHeld ?_
        rotate_left
        ·(intro w hSw; (try dsimp only at hSw);  go_simp; try with_reducible rfl)
        try simp only [Act.put, sA, s0, s1]
        refine wpAnyJ_tL (i := 10) (d := some 63) (v := ?_) #[tt, tt, tt, tt, tt, tt, tt, tt, tt, tt, tt, ff, ff, ff, ff, ff, ff, ff, ff, ff, ff, ff, ff, ff] rfl rfl ?_ hHeld ?_
        rotate_left
        ·(intro w hSw; (try dsimp only at hSw);  go_simp; try with_reducible rfl)
        try simp only [Act.put, sA, s0, s1]
        refine wpAnyJ_tL (i := 11) (d := some 64) (v := ?_) #[tt, tt, tt, tt, tt, tt, tt, tt, tt, tt, tt, tt, ff, ff, ff, ff, ff, ff, ff, ff, ff, ff, ff, ff] rfl rfl ?_ hHeld ?_
        rotate_left
        ·(intro w hSw; (try dsimp only at hSw);  go_simp; try with_reducible rfl)
        try simp only [Act.put, sA, s0, s1]
        refine wpAnyJ_tL (i := 12) (d := some 65) (v := ?_) #[tt, tt, tt, tt, tt, tt, tt, tt, tt, tt, tt, tt, tt, ff, ff, ff, ff, ff, ff, ff, ff, ff, ff, ff] rfl rfl ?_ hHeld ?_
        rotate_left
        ·(intro w hSw; (try dsimp only at hSw);  go_simp; try with_reducible rfl)
        try simp only [Act.put, sA, s0, s1]
        refine wpAnyJ_tL (i := 13) (d := some 66) (v := ?_) #[tt, tt, tt, tt, tt, tt, tt, tt, tt, tt, tt, tt, tt, tt, ff, ff, ff, ff, ff, ff, ff, ff, ff, ff] rfl rfl ?_ hHeld ?_
        rotate_left
        ·(intro w hSw; (try dsimp only at hSw);  go_simp; try with_reducible rfl)
        try simp only [Act.put, sA, s0, s1]
        refine wpAnyJ_tL (i := 14) (d := some 67) (v := ?_) #[tt, tt, tt, tt, tt, tt, tt, tt, tt, tt, tt, tt, tt, tt, tt, ff, ff, ff, ff, ff, ff, ff, ff, ff] rfl rfl ?_ hHeld ?_
        rotate_left
        ·(intro w hSw; (try dsimp only at hSw);  go_simp; try with_reducible rfl)
        try simp only [Act.put, sA, s0, s1]
        refine wpAnyJ_tL (i := 15) (d := some 68) (v := ?_) #[tt, tt, tt, tt, tt, tt, tt, tt, tt, tt, tt, tt, tt, tt, tt, tt, ff, ff, ff, ff, ff, ff, ff, ff] rfl rfl ?_ hHeld ?_
        rotate_left
        ·(intro w hSw; (try dsimp only at hSw);  go_simp; try with_reducible rfl)
        try simp only [Act.put, sA, s0, s1]
        refine wpAnyJ_tL (i := 16) (d := some 69) (v := ?_) #[tt, tt, tt, tt, tt, tt, tt, tt, tt, tt, tt, tt, tt, tt, tt, tt, tt, ff, ff, ff, ff, ff, ff, ff] rfl rfl ?_ hHeld ?_
        rotate_left
        ·(intro w hSw; (try dsimp only at hSw);  go_simp; try with_reducible rfl)
        try simp only [Act.put, sA, s0, s1]
        refine wpAnyJ_tL (i := 17) (d := some 70) (v := ?_) #[tt, tt, tt, tt, tt, tt, tt, tt, tt, tt, tt, tt, tt, tt, tt, tt, tt, tt, ff, ff, ff, ff, ff, ff] rfl rfl ?_ hHeld ?_
        rotate_left
        ·(intro w hSw; (try dsimp only at hSw);  go_simp; try with_reducible rfl)
        try simp only [Act.put, sA, s0, s1]
        refine wpAnyJ_tL (i := 18) (d := some 71) (v := ?_) #[tt, tt, tt, tt, tt, tt, tt, tt, tt, tt, tt, tt, tt, tt, tt, tt, tt, tt, tt, ff, ff, ff, ff, ff] rfl rfl ?_ hHeld ?_
        rotate_left
        ·(intro w hSw; (try dsimp only at hSw);  go_simp; try with_reducible rfl)
        try simp only [Act.put, sA, s0, s1]
        refine wpAnyJ_tL (i := 19) (d := some 72) (v := ?_) #[tt, tt, tt, tt, tt, tt, tt, tt, tt, tt, tt, tt, tt, tt, tt, tt, tt, tt, tt, tt, ff, ff, ff, ff] rfl rfl ?_ hHeld ?_
        rotate_left
        ·(intro w hSw; (try dsimp only at hSw);  go_simp; try with_reducible rfl)
        try simp only [Act.put, sA, s0, s1]
        refine wpAnyJ_tL (i := 20) (d := some 73) (v := ?_) #[tt, tt, tt, tt, tt, tt, tt, tt, tt, tt, tt, tt, tt, tt, tt, tt, tt, tt, tt, tt, tt, ff, ff, ff] rfl rfl ?_ hHeld ?_
        rotate_left
        ·(intro w hSw; (try dsimp only at hSw);  go_simp; try with_reducible rfl)
        try simp only [Act.put, sA, s0, s1]
        refine wpAnyJ_tL (i := 21) (d := some 74) (v := ?_) #[tt, tt, tt, tt, tt, tt, tt, tt, tt, tt, tt, tt, tt, tt, tt, tt, tt, tt, tt, tt, tt, tt, ff, ff] rfl rfl ?_ hHeld ?_
        rotate_left
        ·(intro w hSw; (try dsimp only at hSw);  go_simp; try with_reducible rfl)
        try simp only [Act.put, sA, s0, s1]
        refine wpAnyJ_tL (i := 22) (d := some 75) (v := ?_) #[tt, tt, tt, tt, tt, tt, tt, tt, tt, tt, tt, tt, tt, tt, tt, tt, tt, tt, tt, tt, tt, tt, tt, ff] rfl rfl ?_ hHeld ?_
        rotate_left
        ·(intro w hSw; (try dsimp only at hSw);  go_simp; try with_reducible rfl)
        try simp only [Act.put, sA, s0, s1]
        refine wpAnyJ_tL (i := 23) (d := some 76) (v := ?_) #[tt, tt, tt, tt, tt, tt, tt, tt, tt, tt, tt, tt, tt, tt, tt, tt, tt, tt, tt, tt, tt, tt, tt, tt] rfl rfl ?_ hHeld ?_
        rotate_left
        ·(intro w hSw; (try dsimp only at hSw);  go_simp; try with_reducible rfl)
        try simp only [Act.put, sA, s0, s1]
        refine wpAnyJ_done (by kernel_rfl) ?_ _
        clear hHeld
        go_wp2_with fail
        go_roundg (i - (k + 1))
        case rel => exact ⟨k + 1, by go_num, by omega, rfl, HO2, hbk, hbl.out.drew⟩
        case measure => omega
       ·have qp : (p1 != p) = true := by simpa using hpp
        have HO2 : Hid (othL (ls.take i) ⟨d1, p, q⟩ = true) := oth_up (k := k + 1) (by rw [oth_snoc HX1.out hot.out]; simp [othB]; exact hpp) (by omega)
        have HEE : Hid (errAt ds ls i = 18) := by unfold Hid; rw [HEA.out, if_neg (by simp), if_neg (by rw [HOB.out]; simp), if_pos HO2.out]
        have HRE := Lib.hid (firstE_stop hfe.out HEE.out (by decide) n hlt)
        clear hpp
        go_upto_region 17 with (fail)
        refine wp_region_J (S := fun W' => W'.cell? ⟨b, off + k * 3, none⟩ = some (.int .i64 d1) ∧ W'.cell? ⟨b, off + k * 3 + 1, none⟩ = some (.int .i64 p1) ∧ W'.cell? ⟨b, off + i * 3, none⟩ = some (.int .i64 d1) ∧ W'.cell? ⟨b, off + i * 3 + 1, none⟩ = some (.int .i64 p)) (J := []) (by kernel_rfl) ?_ (fun hHeld => ?_)
        ·exact HCS.out
        try dsimp only at hHeld
        refine wpAnyJ_tL (i := 0) (d := some 53) (v := ?_) #[tt, ff, ff, ff, ff, ff, ff, ff, ff, ff, ff, ff, ff, ff, ff, ff, ff, ff, ff, ff, ff, ff, ff, ff] rfl rfl ?_ hHeld ?_
        rotate_left
        ·(intro w hSw; (try dsimp only at hSw);  go_simp; try with_reducible rfl)
        try simp only [Act.put, sA, s0, s1]
        refine wpAnyJ_tL (i := 1) (d := some 54) (v := ?_) #[tt, tt, ff, ff, ff, ff, ff, ff, ff, ff, ff, ff, ff, ff, ff, ff, ff, ff, ff, ff, ff, ff, ff, ff] rfl rfl ?_ hHeld ?_
        rotate_left
        ·(intro w hSw; (try dsimp only at hSw);  go_simp; try with_reducible rfl)
        try simp only [Act.put, sA, s0, s1]
        refine wpAnyJ_tL (i := 2) (d := some 55) (v := ?_) #[tt, tt, tt, ff, ff, ff, ff, ff, ff, ff, ff, ff, ff, ff, ff, ff, ff, ff, ff, ff, ff, ff, ff, ff] rfl rfl ?_ hHeld ?_
        rotate_left
        ·(intro w hSw; (try dsimp only at hSw);  go_simp; try with_reducible rfl)
        try simp only [Act.put, sA, s0, s1]
        refine wpAnyJ_tL (i := 3) (d := some 56) (v := ?_) #[tt, tt, tt, tt, ff, ff, ff, ff, ff, ff, ff, ff, ff, ff, ff, ff, ff, ff, ff, ff, ff, ff, ff, ff] rfl rfl ?_ hHeld ?_
        rotate_left
        ·(intro w hSw; (try dsimp only at hSw);  go_simp; try with_reducible rfl)
        try simp only [Act.put, sA, s0, s1]
        refine wpAnyJ_tL (i := 4) (d := some 57) (v := ?_) #[tt, tt, tt, tt, tt, ff, ff, ff, ff, ff, ff, ff, ff, ff, ff, ff, ff, ff, ff, ff, ff, ff, ff, ff] rfl rfl ?_ hHeld ?_
        rotate_left
        ·(intro w hSw; (try dsimp only at hSw);  go_simp; try with_reducible rfl)
        try simp only [Act.put, sA, s0, s1]
        refine wpAnyJ_tL (i := 5) (d := some 58) (v := ?_) #[tt, tt, tt, tt, tt, tt, ff, ff, ff, ff, ff, ff, ff, ff, ff, ff, ff, ff, ff, ff, ff, ff, ff, ff] rfl rfl ?_ hHeld ?_
        rotate_left
        ·(intro w hSw; (try dsimp only at hSw);  go_simp; try with_reducible rfl)
        try simp only [Act.put, sA, s0, s1]
        refine wpAnyJ_tL (i := 6) (d := some 59) (v := ?_) #[tt, tt, tt, tt, tt, tt, tt, ff, ff, ff, ff, ff, ff, ff, ff, ff, ff, ff, ff, ff, ff, ff, ff, ff] rfl rfl ?_ hHeld ?_
        rotate_left
        ·(intro w hSw; (try dsimp only at hSw);  go_simp; try with_reducible rfl)
        try simp only [Act.put, sA, s0, s1]
        refine wpAnyJ_tL (i := 7) (d := some 60) (v := ?_) #[tt, tt, tt, tt, tt, tt, tt, tt, ff, ff, ff, ff, ff, ff, ff, ff, ff, ff, ff, ff, ff, ff, ff, ff] rfl rfl ?_ hHeld ?_
        rotate_left
        ·(intro w hSw; (try dsimp only at hSw);  go_simp; try with_reducible rfl)
        try simp only [Act.put, sA, s0, s1]
        refine wpAnyJ_tL (i := 8) (d := some 61) (v := ?_) #[tt, tt, tt, tt, tt, tt, tt, tt, tt, ff, ff, ff, ff, ff, ff, ff, ff, ff, ff, ff, ff, ff, ff, ff] rfl rfl ?_ hHeld ?_
        rotate_left
        ·(intro w hSw; (try dsimp only at hSw);  go_simp; try with_reducible rfl)
        try simp only [Act.put, sA, s0, s1]
        refine wpAnyJ_tL (i := 9) (d := some 62) (v := ?_) #[tt, tt, tt, tt, tt, tt, tt, tt, tt, tt, ff, ff, ff, ff, ff, ff, ff, ff, ff, ff, ff, ff, ff, ff] rfl rfl ?_ hHeld ?_
        rotate_left
        ·(intro w hSw; (try dsimp only at hSw);  go_simp; try with_reducible rfl)
        try simp only [Act.put, sA, s0, s1]
        refine wpAnyJ_tL (i := 10) (d := some 63) (v := ?_) #[tt, tt, tt, tt, tt, tt, tt, tt, tt, tt, tt, ff, ff, ff, ff, ff, ff, ff, ff, ff, ff, ff, ff, ff] rfl rfl ?_ hHeld ?_
        rotate_left
        ·(intro w hSw; (try dsimp only at hSw);  go_simp; try with_reducible rfl)
        try simp only [Act.put, sA, s0, s1]
        refine wpAnyJ_tL (i := 11) (d := some 64) (v := ?_) #[tt, tt, tt, tt, tt, tt, tt, tt, tt, tt, tt, tt, ff, ff, ff, ff, ff, ff, ff, ff, ff, ff, ff, ff] rfl rfl ?_ hHeld ?_
        rotate_left
        ·(intro w hSw; (try dsimp only at hSw);  go_simp; try with_reducible rfl)
        try simp only [Act.put, sA, s0, s1]
        refine wpAnyJ_tL (i := 12) (d := some 65) (v := ?_) #[tt, tt, tt, tt, tt, tt, tt, tt, tt, tt, tt, tt, tt, ff, ff, ff, ff, ff, ff, ff, ff, ff, ff, ff] rfl rfl ?_ hHeld ?_
        rotate_left
        ·(intro w hSw; (try dsimp only at hSw);  go_simp; try with_reducible rfl)
        try simp only [Act.put, sA, s0, s1]
        refine wpAnyJ_tL (i := 13) (d := some 66) (v := ?_) #[tt, tt, tt, tt, tt, tt, tt, tt, tt, tt, tt, tt, tt, tt, ff, ff, ff, ff, ff, ff, ff, ff, ff, ff] rfl rfl ?_ hHeld ?_
        rotate_left
        ·(intro w hSw; (try dsimp only at hSw);  go_simp; try with_reducible rfl)
        try simp only [Act.put, sA, s0, s1]
        refine wpAnyJ_tL (i := 14) (d := some 67) (v := ?_) #[tt, tt, tt, tt, tt, tt, tt, tt, tt, tt, tt, tt, tt, tt, tt, ff, ff, ff, ff, ff, ff, ff, ff, ff] rfl rfl ?_ hHeld ?_
        rotate_left
        ·(intro w hSw; (try dsimp only at hSw);  go_simp; try with_reducible rfl)
        try simp only [Act.put, sA, s0, s1]
        refine wpAnyJ_tL (i := 15) (d := some 68) (v := ?_) #[tt, tt, tt, tt, tt, tt, tt, tt, tt, tt, tt, tt, tt, tt, tt, tt, ff, ff, ff, ff, ff, ff, ff, ff] rfl rfl ?_ hHeld ?_
        rotate_left
        ·(intro w hSw; (try dsimp only at hSw);  go_simp; try with_reducible rfl)
        try simp only [Act.put, sA, s0, s1]
        refine wpAnyJ_tL (i := 16) (d := some 69) (v := ?_) #[tt, tt, tt, tt, tt, tt, tt, tt, tt, tt, tt, tt, tt, tt, tt, tt, tt, ff, ff, ff, ff, ff, ff, ff] rfl rfl ?_ hHeld ?_
        rotate_left
        ·(intro w hSw; (try dsimp only at hSw);  go_simp; try with_reducible rfl)
        try simp only [Act.put, sA, s0, s1]
        refine wpAnyJ_tL (i := 17) (d := some 70) (v := ?_) #[tt, tt, tt, tt, tt, tt, tt, tt, tt, tt, tt, tt, tt, tt, tt, tt, tt, tt, ff, ff, ff, ff, ff, ff] rfl rfl ?_ hHeld ?_
        rotate_left
        ·(intro w hSw; (try dsimp only at hSw);  go_simp; try with_reducible rfl)
        try simp only [Act.put, sA, s0, s1]
        refine wpAnyJ_tL (i := 18) (d := some 71) (v := ?_) #[tt, tt, tt, tt, tt, tt, tt, tt, tt, tt, tt, tt, tt, tt, tt, tt, tt, tt, tt, ff, ff, ff, ff, ff] rfl rfl ?_ hHeld ?_
        rotate_left
        ·(intro w hSw; (try dsimp only at hSw);  go_simp; try with_reducible rfl)
        try simp only [Act.put, sA, s0, s1]
        refine wpAnyJ_tL (i := 19) (d := some 72) (v := ?_) #[tt, tt, tt, tt, tt, tt, tt, tt, tt, tt, tt, tt, tt, tt, tt, tt, tt, tt, tt, tt, ff, ff, ff, ff] rfl rfl ?_ hHeld ?_
        rotate_left
        ·(intro w hSw; (try dsimp only at hSw);  go_simp; try with_reducible rfl)
        try simp only [Act.put, sA, s0, s1]
        refine wpAnyJ_tL (i := 20) (d := some 73) (v := ?_) #[tt, tt, tt, tt, tt, tt, tt, tt, tt, tt, tt, tt, tt, tt, tt, tt, tt, tt, tt, tt, tt, ff, ff, ff] rfl rfl ?_ hHeld ?_
        rotate_left
        ·(intro w hSw; (try dsimp only at hSw);  go_simp; try with_reducible rfl)
        try simp only [Act.put, sA, s0, s1]
        refine wpAnyJ_tL (i := 21) (d := some 74) (v := ?_) #[tt, tt, tt, tt, tt, tt, tt, tt, tt, tt, tt, tt, tt, tt, tt, tt, tt, tt, tt, tt, tt, tt, ff, ff] rfl rfl ?_ hHeld ?_
        rotate_left
        ·(intro w hSw; (try dsimp only at hSw);  go_simp; try with_reducible rfl)
        try simp only [Act.put, sA, s0, s1]
        refine wpAnyJ_tL (i := 22) (d := some 75) (v := ?_) #[tt, tt, tt, tt, tt, tt, tt, tt, tt, tt, tt, tt, tt, tt, tt, tt, tt, tt, tt, tt, tt, tt, tt, ff] rfl rfl ?_ hHeld ?_
        rotate_left
        ·(intro w hSw; (try dsimp only at hSw);  go_simp; try with_reducible rfl)
        try simp only [Act.put, sA, s0, s1]
        refine wpAnyJ_tL (i := 23) (d := some 76) (v := ?_) #[tt, tt, tt, tt, tt, tt, tt, tt, tt, tt, tt, tt, tt, tt, tt, tt, tt, tt, tt, tt, tt, tt, tt, tt] rfl rfl ?_ hHeld ?_
        rotate_left
        ·(intro w hSw; (try dsimp only at hSw);  go_simp; try with_reducible rfl)
        try simp only [Act.put, sA, s0, s1]
        refine wpAnyJ_done (by kernel_rfl) ?_ _
        clear hHeld
        go_wp2_with fail
        go_ret
        exact ⟨ret_int (by rw [HR.out, HRE.out]), hbl.out.drew⟩
      ·have qd : (d1 == d) = false := by simpa using hdd
       have HO2 : Hid (othL (ls.take (k + 1)) ⟨d, p, q⟩ = false) := by unfold Hid; rw [oth_snoc HX1.out hot.out]; simp [othB]; intro h; exact absurd h hdd
       clear hdd
       go_upto_region 17 with (fail)
       refine wp_region_J (S := fun W' => W'.cell? ⟨b, off + k * 3, none⟩ = some (.int .i64 d1) ∧ W'.cell? ⟨b, off + k * 3 + 1, none⟩ = some (.int .i64 p1) ∧ W'.cell? ⟨b, off + i * 3, none⟩ = some (.int .i64 d) ∧ W'.cell? ⟨b, off + i * 3 + 1, none⟩ = some (.int .i64 p)) (J := []) (by kernel_rfl) ?_ (fun hHeld => ?_)
       ·exact HCS.out
       try dsimp only at hHeld
       refine wpAnyJ_tL (i := 0) (d := some 53) (v := ?_) #[tt, ff, ff, ff, ff, ff, ff, ff, ff, ff, ff, ff, ff, ff, ff, ff, ff, ff, ff, ff, ff, ff, ff, ff] rfl rfl ?_ hHeld ?_
       rotate_left
       ·(intro w hSw; (try dsimp only at hSw);  go_simp; try with_reducible rfl)
       try simp only [Act.put, sA, s0, s1]
       refine wpAnyJ_tL (i := 1) (d := some 54) (v := ?_) #[tt, tt, ff, ff, ff, ff, ff, ff, ff, ff, ff, ff, ff, ff, ff, ff, ff, ff, ff, ff, ff, ff, ff, ff] rfl rfl ?_ hHeld ?_
       rotate_left
       ·(intro w hSw; (try dsimp only at hSw);  go_simp; try with_reducible rfl)
       try simp only [Act.put, sA, s0, s1]
       refine wpAnyJ_tL (i := 2) (d := some 55) (v := ?_) #[tt, tt, tt, ff, ff, ff, ff, ff, ff, ff, ff, ff, ff, ff, ff, ff, ff, ff, ff, ff, ff, ff, ff, ff] rfl rfl ?_ hHeld ?_
       rotate_left
       ·(intro w hSw; (try dsimp only at hSw);  go_simp; try with_reducible rfl)
       try simp only [Act.put, sA, s0, s1]
       refine wpAnyJ_tL (i := 3) (d := some 56) (v := ?_) #[tt, tt, tt, tt, ff, ff, ff, ff, ff, ff, ff, ff, ff, ff, ff, ff, ff, ff, ff, ff, ff, ff, ff, ff] rfl rfl ?_ hHeld ?_
       rotate_left
       ·(intro w hSw; (try dsimp only at hSw);  go_simp; try with_reducible rfl)
       try simp only [Act.put, sA, s0, s1]
       refine wpAnyJ_tL (i := 4) (d := some 57) (v := ?_) #[tt, tt, tt, tt, tt, ff, ff, ff, ff, ff, ff, ff, ff, ff, ff, ff, ff, ff, ff, ff, ff, ff, ff, ff] rfl rfl ?_ hHeld ?_
       rotate_left
       ·(intro w hSw; (try dsimp only at hSw);  go_simp; try with_reducible rfl)
       try simp only [Act.put, sA, s0, s1]
       refine wpAnyJ_tL (i := 5) (d := some 58) (v := ?_) #[tt, tt, tt, tt, tt, tt, ff, ff, ff, ff, ff, ff, ff, ff, ff, ff, ff, ff, ff, ff, ff, ff, ff, ff] rfl rfl ?_ hHeld ?_
       rotate_left
       ·(intro w hSw; (try dsimp only at hSw);  go_simp; try with_reducible rfl)
       try simp only [Act.put, sA, s0, s1]
       refine wpAnyJ_tL (i := 6) (d := some 59) (v := ?_) #[tt, tt, tt, tt, tt, tt, tt, ff, ff, ff, ff, ff, ff, ff, ff, ff, ff, ff, ff, ff, ff, ff, ff, ff] rfl rfl ?_ hHeld ?_
       rotate_left
       ·(intro w hSw; (try dsimp only at hSw);  go_simp; try with_reducible rfl)
       try simp only [Act.put, sA, s0, s1]
       refine wpAnyJ_tL (i := 7) (d := some 60) (v := ?_) #[tt, tt, tt, tt, tt, tt, tt, tt, ff, ff, ff, ff, ff, ff, ff, ff, ff, ff, ff, ff, ff, ff, ff, ff] rfl rfl ?_ hHeld ?_
       rotate_left
       ·(intro w hSw; (try dsimp only at hSw);  go_simp; try with_reducible rfl)
       try simp only [Act.put, sA, s0, s1]
       refine wpAnyJ_tL (i := 8) (d := some 61) (v := ?_) #[tt, tt, tt, tt, tt, tt, tt, tt, tt, ff, ff, ff, ff, ff, ff, ff, ff, ff, ff, ff, ff, ff, ff, ff] rfl rfl ?_ hHeld ?_
       rotate_left
       ·(intro w hSw; (try dsimp only at hSw);  go_simp; try with_reducible rfl)
       try simp only [Act.put, sA, s0, s1]
       refine wpAnyJ_tL (i := 9) (d := some 62) (v := ?_) #[tt, tt, tt, tt, tt, tt, tt, tt, tt, tt, ff, ff, ff, ff, ff, ff, ff, ff, ff, ff, ff, ff, ff, ff] rfl rfl ?_ hHeld ?_
       rotate_left
       ·(intro w hSw; (try dsimp only at hSw);  go_simp; try with_reducible rfl)
       try simp only [Act.put, sA, s0, s1]
       refine wpAnyJ_tL (i := 10) (d := some 63) (v := ?_) #[tt, tt, tt, tt, tt, tt, tt, tt, tt, tt, tt, ff, ff, ff, ff, ff, ff, ff, ff, ff, ff, ff, ff, ff] rfl rfl ?_ hHeld ?_
       rotate_left
       ·(intro w hSw; (try dsimp only at hSw);  go_simp; try with_reducible rfl)
       try simp only [Act.put, sA, s0, s1]
       refine wpAnyJ_tL (i := 11) (d := some 64) (v := ?_) #[tt, tt, tt, tt, tt, tt, tt, tt, tt, tt, tt, tt, ff, ff, ff, ff, ff, ff, ff, ff, ff, ff, ff, ff] rfl rfl ?_ hHeld ?_
       rotate_left
       ·(intro w hSw; (try dsimp only at hSw);  go_simp; try with_reducible rfl)
       try simp only [Act.put, sA, s0, s1]
       refine wpAnyJ_takeL (i := 12) (d := some 65) (v := undef) #[tt, tt, tt, tt, tt, tt, tt, tt, tt, tt, tt, tt, tt, ff, ff, ff, ff, ff, ff, ff, ff, ff, ff, ff] (by kernel_rfl) rfl rfl (by kernel_rfl) (by kernel_rfl) (by kernel_rfl) (by kernel_rfl) (by kernel_rfl) (fun _ _ _ h => h) (Or.inr ⟨by rfl, by rfl⟩) hHeld ?_
       try simp only [Act.put, sA, s0, s1]
       refine wpAnyJ_takeL (i := 13) (d := some 66) (v := undef) #[tt, tt, tt, tt, tt, tt, tt, tt, tt, tt, tt, tt, tt, tt, ff, ff, ff, ff, ff, ff, ff, ff, ff, ff] (by kernel_rfl) rfl rfl (by kernel_rfl) (by kernel_rfl) (by kernel_rfl) (by kernel_rfl) (by kernel_rfl) (fun _ _ _ h => h) (Or.inr ⟨by rfl, by rfl⟩) hHeld ?_
       try simp only [Act.put, sA, s0, s1]
       refine wpAnyJ_takeL (i := 14) (d := some 67) (v := undef) #[tt, tt, tt, tt, tt, tt, tt, tt, tt, tt, tt, tt, tt, tt, tt, ff, ff, ff, ff, ff, ff, ff, ff, ff] (by kernel_rfl) rfl rfl (by kernel_rfl) (by kernel_rfl) (by kernel_rfl) (by kernel_rfl) (by kernel_rfl) (fun _ _ _ h => h) (Or.inr ⟨by rfl, by rfl⟩) hHeld ?_
       try simp only [Act.put, sA, s0, s1]
       refine wpAnyJ_takeL (i := 15) (d := some 68) (v := undef) #[tt, tt, tt, tt, tt, tt, tt, tt, tt, tt, tt, tt, tt, tt, tt, tt, ff, ff, ff, ff, ff, ff, ff, ff] (by kernel_rfl) rfl rfl (by kernel_rfl) (by kernel_rfl) (by kernel_rfl) (by kernel_rfl) (by kernel_rfl) (fun _ _ _ h => h) (Or.inr ⟨by rfl, by rfl⟩) hHeld ?_
       try simp only [Act.put, sA, s0, s1]
       refine wpAnyJ_takeL (i := 16) (d := some 69) (v := undef) #[tt, tt, tt, tt, tt, tt, tt, tt, tt, tt, tt, tt, tt, tt, tt, tt, tt, ff, ff, ff, ff, ff, ff, ff] (by kernel_rfl) rfl rfl (by kernel_rfl) (by kernel_rfl) (by kernel_rfl) (by kernel_rfl) (by kernel_rfl) (fun _ _ _ h => h) (Or.inr ⟨by rfl, by rfl⟩) hHeld ?_
       try simp only [Act.put, sA, s0, s1]
       refine wpAnyJ_takeL (i := 17) (d := some 70) (v := undef) #[tt, tt, tt, tt, tt, tt, tt, tt, tt, tt, tt, tt, tt, tt, tt, tt, tt, tt, ff, ff, ff, ff, ff, ff] (by kernel_rfl) rfl rfl (by kernel_rfl) (by kernel_rfl) (by kernel_rfl) (by kernel_rfl) (by kernel_rfl) (fun _ _ _ h => h) (Or.inr ⟨by rfl, by rfl⟩) hHeld ?_
       try simp only [Act.put, sA, s0, s1]
       refine wpAnyJ_takeL (i := 18) (d := some 71) (v := undef) #[tt, tt, tt, tt, tt, tt, tt, tt, tt, tt, tt, tt, tt, tt, tt, tt, tt, tt, tt, ff, ff, ff, ff, ff] (by kernel_rfl) rfl rfl (by kernel_rfl) (by kernel_rfl) (by kernel_rfl) (by kernel_rfl) (by kernel_rfl) (fun _ _ _ h => h) (Or.inr ⟨by rfl, by rfl⟩) hHeld ?_
       try simp only [Act.put, sA, s0, s1]
       refine wpAnyJ_takeL (i := 19) (d := some 72) (v := undef) #[tt, tt, tt, tt, tt, tt, tt, tt, tt, tt, tt, tt, tt, tt, tt, tt, tt, tt, tt, tt, ff, ff, ff, ff] (by kernel_rfl) rfl rfl (by kernel_rfl) (by kernel_rfl) (by kernel_rfl) (by kernel_rfl) (by kernel_rfl) (fun _ _ _ h => h) (Or.inr ⟨by rfl, by rfl⟩) hHeld ?_
       try simp only [Act.put, sA, s0, s1]
       refine wpAnyJ_takeL (i := 20) (d := some 73) (v := undef) #[tt, tt, tt, tt, tt, tt, tt, tt, tt, tt, tt, tt, tt, tt, tt, tt, tt, tt, tt, tt, tt, ff, ff, ff] (by kernel_rfl) rfl rfl (by kernel_rfl) (by kernel_rfl) (by kernel_rfl) (by kernel_rfl) (by kernel_rfl) (fun _ _ _ h => h) (Or.inr ⟨by rfl, by rfl⟩) hHeld ?_
       try simp only [Act.put, sA, s0, s1]
       refine wpAnyJ_takeL (i := 21) (d := some 74) (v := undef) #[tt, tt, tt, tt, tt, tt, tt, tt, tt, tt, tt, tt, tt, tt, tt, tt, tt, tt, tt, tt, tt, tt, ff, ff] (by kernel_rfl) rfl rfl (by kernel_rfl) (by kernel_rfl) (by kernel_rfl) (by kernel_rfl) (by kernel_rfl) (fun _ _ _ h => h) (Or.inr ⟨by rfl, by rfl⟩) hHeld ?_
       try simp only [Act.put, sA, s0, s1]
       refine wpAnyJ_takeL (i := 22) (d := some 75) (v := undef) #[tt, tt, tt, tt, tt, tt, tt, tt, tt, tt, tt, tt, tt, tt, tt, tt, tt, tt, tt, tt, tt, tt, tt, ff] (by kernel_rfl) rfl rfl (by kernel_rfl) (by kernel_rfl) (by kernel_rfl) (by kernel_rfl) (by kernel_rfl) (fun _ _ _ h => h) (Or.inr ⟨by rfl, by rfl⟩) hHeld ?_
       try simp only [Act.put, sA, s0, s1]
       refine wpAnyJ_tL (i := 23) (d := some 76) (v := ?_) #[tt, tt, tt, tt, tt, tt, tt, tt, tt, tt, tt, tt, tt, tt, tt, tt, tt, tt, tt, tt, tt, tt, tt, tt] rfl rfl ?_ hHeld ?_
       rotate_left
       ·(intro w hSw; (try dsimp only at hSw);  go_simp; try with_reducible rfl)
       try simp only [Act.put, sA, s0, s1]
       refine wpAnyJ_done (by kernel_rfl) ?_ _
       clear hHeld
       go_wp2_with fail
       go_roundg (i - (k + 1))
       case rel => exact ⟨k + 1, by go_num, by omega, rfl, HO2, hbk, hbl.out.drew⟩
       case measure => omega
     ·obtain rfl : k = i := by omega
      have hkk : decide (k < k) = false := by simp
      go_wp2_with fail
      clear hkk
      go_loopg [9] k (RkR3 w #[.slice An nn cn, .slice Ad nd cd] ls q k)
      case atStart => exact ⟨0, rfl, Nat.zero_le _, rfl, rfl, hbk, hbl⟩
      case round =>
       clear hbk hbl
       obtain ⟨j, rfl, hj, rfl, hus, hbk, hbl⟩ := hrel
       by_cases hjt : j < k
       ·obtain ⟨b1, off1, d1, p1, q1, hA1, _, hx1, _, _, e2⟩ := (HS.out.below hbl.out hBl).lock (i := j) (by omega)
        injection hA1 with hA1; injection hA1 with h1 h2; subst h1 h2
        obtain ⟨b2, off2, d2, p2, q2, hA2, _, hx2, _, _, f2⟩ := (HS.out.below hbl.out hBl).lock hlt
        injection hA2 with hA2; injection hA2 with h1 h2; subst h1 h2
        rw [HX.out] at hx2
        injection hx2 with hx2; injection hx2 with h1 h2 h3; subst h1 h2 h3
        have HX1 := Lib.hid hx1
        have hjn : j < n := by omega
        have HCS : Hid (wr.cell? ⟨b, off + j * 3 + 2, none⟩ = some (.int .i64 q1) ∧ wr.cell? ⟨b, off + k * 3 + 2, none⟩ = some (.int .i64 q)) := ⟨e2, f2⟩
        clear hx1 e2 f2
        by_cases hqq : q1 = q
        ·subst hqq
         have qd : (q1 == q1) = true := by simp
         have HO2 : Hid (usdL (ls.take k) q1 = true) := usd_up (k := j + 1) (by rw [usd_snoc HX1.out hus.out]; simp) (by omega)
         have HEE : Hid (errAt ds ls k = 4) := by unfold Hid; rw [HEA.out, if_neg (by simp), if_neg (by rw [HOB.out]; simp), if_neg (by rw [hot.out]; simp), if_pos HO2.out]
         have HRE := Lib.hid (firstE_stop hfe.out HEE.out (by decide) n hlt)
         go_upto_region 22 with (fail)
         refine wp_region_J (S := fun W' => W'.cell? ⟨b, off + j * 3 + 2, none⟩ = some (.int .i64 q1) ∧ W'.cell? ⟨b, off + k * 3 + 2, none⟩ = some (.int .i64 q1)) (J := []) (by kernel_rfl) ?_ (fun hHeld => ?_)
         ·exact HCS.out
         try dsimp only at hHeld
         refine wpAnyJ_tL (i := 0) (d := some 82) (v := ?_) #[tt, ff, ff, ff, ff, ff, ff, ff, ff, ff, ff] rfl rfl ?_ hHeld ?_
         rotate_left
         ·(intro w hSw; (try dsimp only at hSw);  go_simp; try with_reducible rfl)
         try simp only [Act.put, sA, s0, s1]
         refine wpAnyJ_tL (i := 1) (d := some 83) (v := ?_) #[tt, tt, ff, ff, ff, ff, ff, ff, ff, ff, ff] rfl rfl ?_ hHeld ?_
         rotate_left
         ·(intro w hSw; (try dsimp only at hSw);  go_simp; try with_reducible rfl)
         try simp only [Act.put, sA, s0, s1]
         refine wpAnyJ_tL (i := 2) (d := some 84) (v := ?_) #[tt, tt, tt, ff, ff, ff, ff, ff, ff, ff, ff] rfl rfl ?_ hHeld ?_
         rotate_left
         ·(intro w hSw; (try dsimp only at hSw);  go_simp; try with_reducible rfl)
         try simp only [Act.put, sA, s0, s1]
         refine wpAnyJ_tL (i := 3) (d := some 85) (v := ?_) #[tt, tt, tt, tt, ff, ff, ff, ff, ff, ff, ff] rfl rfl ?_ hHeld ?_
         rotate_left
         ·(intro w hSw; (try dsimp only at hSw);  go_simp; try with_reducible rfl)
         try simp only [Act.put, sA, s0, s1]
         refine wpAnyJ_tL (i := 4) (d := some 86) (v := ?_) #[tt, tt, tt, tt, tt, ff, ff, ff, ff, ff, ff] rfl rfl ?_ hHeld ?_
         rotate_left
         ·(intro w hSw; (try dsimp only at hSw);  go_simp; try with_reducible rfl)
         try simp only [Act.put, sA, s0, s1]
         refine wpAnyJ_tL (i := 5) (d := some 87) (v := ?_) #[tt, tt, tt, tt, tt, tt, ff, ff, ff, ff, ff] rfl rfl ?_ hHeld ?_
         rotate_left
         ·(intro w hSw; (try dsimp only at hSw);  go_simp; try with_reducible rfl)
         try simp only [Act.put, sA, s0, s1]
         refine wpAnyJ_tL (i := 6) (d := some 88) (v := ?_) #[tt, tt, tt, tt, tt, tt, tt, ff, ff, ff, ff] rfl rfl ?_ hHeld ?_
         rotate_left
         ·(intro w hSw; (try dsimp only at hSw);  go_simp; try with_reducible rfl)
         try simp only [Act.put, sA, s0, s1]
         refine wpAnyJ_tL (i := 7) (d := some 89) (v := ?_) #[tt, tt, tt, tt, tt, tt, tt, tt, ff, ff, ff] rfl rfl ?_ hHeld ?_
         rotate_left
         ·(intro w hSw; (try dsimp only at hSw);  go_simp; try with_reducible rfl)
         try simp only [Act.put, sA, s0, s1]
         refine wpAnyJ_tL (i := 8) (d := some 90) (v := ?_) #[tt, tt, tt, tt, tt, tt, tt, tt, tt, ff, ff] rfl rfl ?_ hHeld ?_
         rotate_left
         ·(intro w hSw; (try dsimp only at hSw);  go_simp; try with_reducible rfl)
         try simp only [Act.put, sA, s0, s1]
         refine wpAnyJ_tL (i := 9) (d := some 91) (v := ?_) #[tt, tt, tt, tt, tt, tt, tt, tt, tt, tt, ff] rfl rfl ?_ hHeld ?_
         rotate_left
         ·(intro w hSw; (try dsimp only at hSw);  go_simp; try with_reducible rfl)
         try simp only [Act.put, sA, s0, s1]
         refine wpAnyJ_tL (i := 10) (d := some 92) (v := ?_) #[tt, tt, tt, tt, tt, tt, tt, tt, tt, tt, tt] rfl rfl ?_ hHeld ?_
         rotate_left
         ·(intro w hSw; (try dsimp only at hSw);  go_simp; try with_reducible rfl)
         try simp only [Act.put, sA, s0, s1]
         refine wpAnyJ_done (by kernel_rfl) ?_ _
         clear hHeld
         go_wp2_with fail
         go_ret
         exact ⟨ret_int (by rw [HR.out, HRE.out]), hbl.out.drew⟩
        ·have qd : (q1 == q) = false := by simpa using hqq
         have HO2 : Hid (usdL (ls.take (j + 1)) q = false) := by unfold Hid; rw [usd_snoc HX1.out hus.out]; simpa using hqq
         clear hqq
         go_upto_region 22 with (fail)
         refine wp_region_J (S := fun W' => W'.cell? ⟨b, off + j * 3 + 2, none⟩ = some (.int .i64 q1) ∧ W'.cell? ⟨b, off + k * 3 + 2, none⟩ = some (.int .i64 q)) (J := []) (by kernel_rfl) ?_ (fun hHeld => ?_)
         ·exact HCS.out
         try dsimp only at hHeld
         refine wpAnyJ_tL (i := 0) (d := some 82) (v := ?_) #[tt, ff, ff, ff, ff, ff, ff, ff, ff, ff, ff] rfl rfl ?_ hHeld ?_
         rotate_left
         ·(intro w hSw; (try dsimp only at hSw);  go_simp; try with_reducible rfl)
         try simp only [Act.put, sA, s0, s1]
         refine wpAnyJ_tL (i := 1) (d := some 83) (v := ?_) #[tt, tt, ff, ff, ff, ff, ff, ff, ff, ff, ff] rfl rfl ?_ hHeld ?_
         rotate_left
         ·(intro w hSw; (try dsimp only at hSw);  go_simp; try with_reducible rfl)
         try simp only [Act.put, sA, s0, s1]
         refine wpAnyJ_tL (i := 2) (d := some 84) (v := ?_) #[tt, tt, tt, ff, ff, ff, ff, ff, ff, ff, ff] rfl rfl ?_ hHeld ?_
         rotate_left
         ·(intro w hSw; (try dsimp only at hSw);  go_simp; try with_reducible rfl)
         try simp only [Act.put, sA, s0, s1]
         refine wpAnyJ_tL (i := 3) (d := some 85) (v := ?_) #[tt, tt, tt, tt, ff, ff, ff, ff, ff, ff, ff] rfl rfl ?_ hHeld ?_
         rotate_left
         ·(intro w hSw; (try dsimp only at hSw);  go_simp; try with_reducible rfl)
         try simp only [Act.put, sA, s0, s1]
         refine wpAnyJ_tL (i := 4) (d := some 86) (v := ?_) #[tt, tt, tt, tt, tt, ff, ff, ff, ff, ff, ff] rfl rfl ?_ hHeld ?_
         rotate_left
         ·(intro w hSw; (try dsimp only at hSw);  go_simp; try with_reducible rfl)
         try simp only [Act.put, sA, s0, s1]
         refine wpAnyJ_tL (i := 5) (d := some 87) (v := ?_) #[tt, tt, tt, tt, tt, tt, ff, ff, ff, ff, ff] rfl rfl ?_ hHeld ?_
         rotate_left
         ·(intro w hSw; (try dsimp only at hSw);  go_simp; try with_reducible rfl)
         try simp only [Act.put, sA, s0, s1]
         refine wpAnyJ_tL (i := 6) (d := some 88) (v := ?_) #[tt, tt, tt, tt, tt, tt, tt, ff, ff, ff, ff] rfl rfl ?_ hHeld ?_
         rotate_left
         ·(intro w hSw; (try dsimp only at hSw);  go_simp; try with_reducible rfl)
         try simp only [Act.put, sA, s0, s1]
         refine wpAnyJ_tL (i := 7) (d := some 89) (v := ?_) #[tt, tt, tt, tt, tt, tt, tt, tt, ff, ff, ff] rfl rfl ?_ hHeld ?_
         rotate_left
         ·(intro w hSw; (try dsimp only at hSw);  go_simp; try with_reducible rfl)
         try simp only [Act.put, sA, s0, s1]
         refine wpAnyJ_tL (i := 8) (d := some 90) (v := ?_) #[tt, tt, tt, tt, tt, tt, tt, tt, tt, ff, ff] rfl rfl ?_ hHeld ?_
         rotate_left
         ·(intro w hSw; (try dsimp only at hSw);  go_simp; try with_reducible rfl)
         try simp only [Act.put, sA, s0, s1]
         refine wpAnyJ_tL (i := 9) (d := some 91) (v := ?_) #[tt, tt, tt, tt, tt, tt, tt, tt, tt, tt, ff] rfl rfl ?_ hHeld ?_
         rotate_left
         ·(intro w hSw; (try dsimp only at hSw);  go_simp; try with_reducible rfl)
         try simp only [Act.put, sA, s0, s1]
         refine wpAnyJ_tL (i := 10) (d := some 92) (v := ?_) #[tt, tt, tt, tt, tt, tt, tt, tt, tt, tt, tt] rfl rfl ?_ hHeld ?_
         rotate_left
         ·(intro w hSw; (try dsimp only at hSw);  go_simp; try with_reducible rfl)
         try simp only [Act.put, sA, s0, s1]
         refine wpAnyJ_done (by kernel_rfl) ?_ _
         clear hHeld
         go_wp2_with fail
         go_roundg (k - (j + 1))
         case rel => exact ⟨j + 1, by go_num, by omega, rfl, HO2, hbk, hbl.out.drew⟩
         case measure => omega
       ·obtain rfl : j = k := by omega
        have hjj : decide (j < j) = false := by simp
        have HEE : Hid (errAt ds ls j = 0) := by unfold Hid; rw [HEA.out, if_neg (by simp), if_neg (by rw [HOB.out]; simp), if_neg (by rw [hot.out]; simp), if_neg (by rw [hus.out]; simp)]
        have HFN := Lib.hid (firstE_next hfe.out HEE.out)
        go_wp2_with fail
        go_roundg (n - (j + 1))
        case rel => exact ⟨j + 1, by go_num, by omega, rfl, HFN, hbk, hbl⟩
        case measure => omega
   ·obtain ⟨b1, off1, d1, p1, q1, hA1, _, hx1, g0, g1, g2⟩ := (HS.out.below HB2.out hBl).lock (i := i - 1) (by omega)
    injection hA1 with hA1; injection hA1 with h1 h2; subst h1 h2
    have HOB := Lib.hid (ordBad_at (k := ⟨d, p, q⟩) hi0 hx1)
    have HCS : Hid (w2.cell? ⟨b, off + (i - 1) * 3, none⟩ = some (.int .i64 d1) ∧ w2.cell? ⟨b, off + (i - 1) * 3 + 1, none⟩ = some (.int .i64 p1) ∧ w2.cell? ⟨b, off + (i - 1) * 3 + 2, none⟩ = some (.int .i64 q1) ∧ w2.cell? ⟨b, off + i * 3, none⟩ = some (.int .i64 d) ∧ w2.cell? ⟨b, off + i * 3 + 1, none⟩ = some (.int .i64 p) ∧ w2.cell? ⟨b, off + i * 3 + 2, none⟩ = some (.int .i64 q)) := ⟨g0, g1, g2, HC2.out.2.2.1, HC2.out.2.2.2.1, HC2.out.2.2.2.2⟩
    clear g0 g1 g2 hx1 HC2
    obtain ⟨i1, hi1⟩ : ∃ i1, i1 = i - 1 := ⟨_, rfl⟩
    rw [← hi1] at HCS
    have e1 : IntKind.i64.wrap ((i : Int) - 1) = (i1 : Int) := by rw [IntWalk.i64_in _ (by omega)]; omega
    have hi1n : i1 < n := by omega
    have qi : decide ((0 : Int) < (i : Int)) = true := by simp; omega
    clear hi1
    have HBE := Lib.hid (before_any ⟨d1, p1, q1⟩ ⟨d, p, q⟩ w2.drew)
    generalize befB ⟨d1, p1, q1⟩ ⟨d, p, q⟩ = bb at *
    have hz2 := HB2.out.size
    go_upto_region 12 with (fail)
    refine wp_region_J (S := fun W' => W'.cell? ⟨b, off + i1 * 3, none⟩ = some (.int .i64 d1) ∧ W'.cell? ⟨b, off + i1 * 3 + 1, none⟩ = some (.int .i64 p1) ∧ W'.cell? ⟨b, off + i1 * 3 + 2, none⟩ = some (.int .i64 q1) ∧ W'.cell? ⟨b, off + i * 3, none⟩ = some (.int .i64 d) ∧ W'.cell? ⟨b, off + i * 3 + 1, none⟩ = some (.int .i64 p) ∧ W'.cell? ⟨b, off + i * 3 + 2, none⟩ = some (.int .i64 q)) (J := []) (by kernel_rfl) ?_ (fun hHeld => ?_)
    ·exact HCS.out
    try dsimp only at hHeld
    refine wpAnyJ_tL (i := 0) (d := some 33) (v := ?_) #[tt, ff, ff, ff, ff, ff, ff, ff, ff, ff, ff, ff, ff, ff, ff] rfl rfl ?_ hHeld ?_
    rotate_left
    ·(intro w hSw; (try dsimp only at hSw);  go_simp; try with_reducible rfl)
    try simp only [Act.put, sA, s0, s1]
    refine wpAnyJ_tL (i := 1) (d := some 34) (v := ?_) #[tt, tt, ff, ff, ff, ff, ff, ff, ff, ff, ff, ff, ff, ff, ff] rfl rfl ?_ hHeld ?_
    rotate_left
    ·(intro w hSw; (try dsimp only at hSw);  go_simp; try with_reducible rfl)
    try simp only [Act.put, sA, s0, s1]
    refine wpAnyJ_tL (i := 2) (d := some 35) (v := ?_) #[tt, tt, tt, ff, ff, ff, ff, ff, ff, ff, ff, ff, ff, ff, ff] rfl rfl ?_ hHeld ?_
    rotate_left
    ·(intro w hSw; (try dsimp only at hSw);  go_simp; try with_reducible rfl)
    try simp only [Act.put, sA, s0, s1]
    refine wpAnyJ_tL (i := 3) (d := some 36) (v := ?_) #[tt, tt, tt, tt, ff, ff, ff, ff, ff, ff, ff, ff, ff, ff, ff] rfl rfl ?_ hHeld ?_
    rotate_left
    ·(intro w hSw; (try dsimp only at hSw);  go_simp; try with_reducible rfl)
    try simp only [Act.put, sA, s0, s1]
    refine wpAnyJ_tL (i := 4) (d := some 37) (v := ?_) #[tt, tt, tt, tt, tt, ff, ff, ff, ff, ff, ff, ff, ff, ff, ff] rfl rfl ?_ hHeld ?_
    rotate_left
    ·(intro w hSw; (try dsimp only at hSw);  go_simp; try with_reducible rfl)
    try simp only [Act.put, sA, s0, s1]
    refine wpAnyJ_tL (i := 5) (d := some 38) (v := ?_) #[tt, tt, tt, tt, tt, tt, ff, ff, ff, ff, ff, ff, ff, ff, ff] rfl rfl ?_ hHeld ?_
    rotate_left
    ·(intro w hSw; (try dsimp only at hSw);  go_simp; try with_reducible rfl)
    try simp only [Act.put, sA, s0, s1]
    refine wpAnyJ_tL (i := 6) (d := some 39) (v := ?_) #[tt, tt, tt, tt, tt, tt, tt, ff, ff, ff, ff, ff, ff, ff, ff] rfl rfl ?_ hHeld ?_
    rotate_left
    ·(intro w hSw; (try dsimp only at hSw);  go_simp; try with_reducible rfl)
    try simp only [Act.put, sA, s0, s1]
    refine wpAnyJ_tL (i := 7) (d := some 40) (v := ?_) #[tt, tt, tt, tt, tt, tt, tt, tt, ff, ff, ff, ff, ff, ff, ff] rfl rfl ?_ hHeld ?_
    rotate_left
    ·(intro w hSw; (try dsimp only at hSw);  go_simp; try with_reducible rfl)
    try simp only [Act.put, sA, s0, s1]
    refine wpAnyJ_tL (i := 8) (d := some 41) (v := ?_) #[tt, tt, tt, tt, tt, tt, tt, tt, tt, ff, ff, ff, ff, ff, ff] rfl rfl ?_ hHeld ?_
    rotate_left
    ·(intro w hSw; (try dsimp only at hSw);  go_simp; try with_reducible rfl)
    try simp only [Act.put, sA, s0, s1]
    refine wpAnyJ_tL (i := 9) (d := some 42) (v := ?_) #[tt, tt, tt, tt, tt, tt, tt, tt, tt, tt, ff, ff, ff, ff, ff] rfl rfl ?_ hHeld ?_
    rotate_left
    ·(intro w hSw; (try dsimp only at hSw);  go_simp; try with_reducible rfl)
    try simp only [Act.put, sA, s0, s1]
    refine wpAnyJ_tL (i := 10) (d := some 43) (v := ?_) #[tt, tt, tt, tt, tt, tt, tt, tt, tt, tt, tt, ff, ff, ff, ff] rfl rfl ?_ hHeld ?_
    rotate_left
    ·(intro w hSw; (try dsimp only at hSw);  go_simp; try with_reducible rfl)
    try simp only [Act.put, sA, s0, s1]
    refine wpAnyJ_tL (i := 11) (d := some 44) (v := ?_) #[tt, tt, tt, tt, tt, tt, tt, tt, tt, tt, tt, tt, ff, ff, ff] rfl rfl ?_ hHeld ?_
    rotate_left
    ·(intro w hSw; (try dsimp only at hSw);  go_simp; try with_reducible rfl)
    try simp only [Act.put, sA, s0, s1]
    refine wpAnyJ_oneL (k := 12) #[tt, tt, tt, tt, tt, tt, tt, tt, tt, tt, tt, tt, tt, ff, ff] (by kernel_rfl) (by kernel_rfl) rfl (fun K hK => ?_)
    (go_simp; refine HBE.out.mono ?_; rintro e w3 ⟨rfl, hb3⟩; go_simp)
    refine hK.out _ _ (fun _ => ?_) (fun hHeld' => ?_)
    ·exact ⟨keep_cell hb3 HCS.out.1, keep_cell hb3 HCS.out.2.1, keep_cell hb3 HCS.out.2.2.1, keep_cell hb3 HCS.out.2.2.2.1, keep_cell hb3 HCS.out.2.2.2.2.1, keep_cell hb3 HCS.out.2.2.2.2.2⟩
    replace hHeld := hHeld' rfl
    clear hHeld' hK K
    try dsimp only at hHeld
    refine wpAnyJ_tL (i := 13) (d := some 46) (v := ?_) #[tt, tt, tt, tt, tt, tt, tt, tt, tt, tt, tt, tt, tt, tt, ff] rfl rfl ?_ hHeld ?_
    rotate_left
    ·(intro w hSw; (try dsimp only at hSw);  go_simp; try with_reducible rfl)
    try simp only [Act.put, sA, s0, s1]
    refine wpAnyJ_tL (i := 14) (d := some 47) (v := ?_) #[tt, tt, tt, tt, tt, tt, tt, tt, tt, tt, tt, tt, tt, tt, tt] rfl rfl ?_ hHeld ?_
    rotate_left
    ·(intro w hSw; (try dsimp only at hSw);  go_simp; try with_reducible rfl)
    try simp only [Act.put, sA, s0, s1]
    refine wpAnyJ_done (by kernel_rfl) ?_ _
    clear hHeld e1
    have hbk3 := (show Blk w2.drew w.heap.size 26 #[.slice An nn cn, .slice Ad nd cd] from HK2.out).below hb3 HK2.out.lt; have hbl3 := HB2.out.drew.trans (hb3.mono hz2)
    clear HK2 HB2 hb3 HCS HBE
    rcases bb with _ | _
    ·have HRE := Lib.hid (firstE_stop hfe.out (by rw [HEA.out, if_neg (by simp), if_pos (by rw [HOB.out]; rfl)]) (by decide) n hlt)
     go_wp2_with fail
     go_ret
     exact ⟨ret_int (by rw [HR.out, HRE.out]), hbl3⟩
    replace HOB : Hid (ordBad ls i ⟨d, p, q⟩ = false) := by unfold Hid; rw [HOB.out]; rfl
    have HK3 := Lib.hid hbk3; have HB3 := Lib.hid hbl3
    clear hbk3 hbl3
    go_wp2_with fail
    go_loopg [8] i (RkR2 w #[.slice An nn cn, .slice Ad nd cd] ls ⟨d, p, q⟩ i)
    case atStart => exact ⟨0, rfl, Nat.zero_le _, rfl, rfl, HK3, HB3⟩
    case round =>
     clear HK3 HB3
     obtain ⟨k, rfl, hk, rfl, hot, hbk, hbl⟩ := hrel
     by_cases hkt : k < i
     ·obtain ⟨b1, off1, d1, p1, q1, hA1, _, hx1, e0, e1, _⟩ := (HS.out.below hbl.out hBl).lock (i := k) (by omega)
      injection hA1 with hA1; injection hA1 with h1 h2; subst h1 h2
      obtain ⟨b2, off2, d2, p2, q2, hA2, _, hx2, f0, f1, _⟩ := (HS.out.below hbl.out hBl).lock hlt
      injection hA2 with hA2; injection hA2 with h1 h2; subst h1 h2
      rw [HX.out] at hx2
      injection hx2 with hx2; injection hx2 with h1 h2 h3; subst h1 h2 h3
      have HX1 := Lib.hid hx1
      have hkn : k < n := by omega
      have HCS : Hid (wr.cell? ⟨b, off + k * 3, none⟩ = some (.int .i64 d1) ∧ wr.cell? ⟨b, off + k * 3 + 1, none⟩ = some (.int .i64 p1) ∧ wr.cell? ⟨b, off + i * 3, none⟩ = some (.int .i64 d) ∧ wr.cell? ⟨b, off + i * 3 + 1, none⟩ = some (.int .i64 p)) := ⟨e0, e1, f0, f1⟩
      clear hx1 e0 e1 f0 f1
      by_cases hdd : d1 = d
      ·subst hdd
       have qd : (d1 == d1) = true := by simp
       by_cases hpp : p1 = p
       ·subst hpp
        have qp : (p1 != p1) = false := by simp
        have HO2 : Hid (othL (ls.take (k + 1)) ⟨d1, p1, q⟩ = false) := by unfold Hid; rw [oth_snoc HX1.out hot.out]; simp [othB]
        go_upto_region 17 with (fail)
        refine wp_region_J (S := fun W' => W'.cell? ⟨b, off + k * 3, none⟩ = some (.int .i64 d1) ∧ W'.cell? ⟨b, off + k * 3 + 1, none⟩ = some (.int .i64 p1) ∧ W'.cell? ⟨b, off + i * 3, none⟩ = some (.int .i64 d1) ∧ W'.cell? ⟨b, off + i * 3 + 1, none⟩ = some (.int .i64 p1)) (J := []) (by kernel_rfl) ?_ (fun hHeld => ?_)
        ·exact HCS.out
        try dsimp only at hHeld
        refine wpAnyJ_tL (i := 0) (d := some 53) (v := ?_) #[tt, ff, ff, ff, ff, ff, ff, ff, ff, ff, ff, ff, ff, ff, ff, ff, ff, ff, ff, ff, ff, ff, ff, ff] rfl rfl ?_ hHeld ?_
        rotate_left
        ·(intro w hSw; (try dsimp only at hSw);  go_simp; try with_reducible rfl)
        try simp only [Act.put, sA, s0, s1]
        refine wpAnyJ_tL (i := 1) (d := some 54) (v := ?_) #[tt, tt, ff, ff, ff, ff, ff, ff, ff, ff, ff, ff, ff, ff, ff, ff, ff, ff, ff, ff, ff, ff, ff, ff] rfl rfl ?_ hHeld ?_
        rotate_left
        ·(intro w hSw; (try dsimp only at hSw);  go_simp; try with_reducible rfl)
        try simp only [Act.put, sA, s0, s1]
        refine wpAnyJ_tL (i := 2) (d := some 55) (v := ?_) #[tt, tt, tt, ff, ff, ff, ff, ff, ff, ff, ff, ff, ff, ff, ff, ff, ff, ff, ff, ff, ff, ff, ff, ff] rfl rfl ?_ hHeld ?_
        rotate_left
        ·(intro w hSw; (try dsimp only at hSw);  go_simp; try with_reducible rfl)
        try simp only [Act.put, sA, s0, s1]
        refine wpAnyJ_tL (i := 3) (d := some 56) (v := ?_) #[tt, tt, tt, tt, ff, ff, ff, ff, ff, ff, ff, ff, ff, ff, ff, ff, ff, ff, ff, ff, ff, ff, ff, ff] rfl rfl ?_ hHeld ?_
        rotate_left
        ·(intro w hSw; (try dsimp only at hSw);  go_simp; try with_reducible rfl)
        try simp only [Act.put, sA, s0, s1]
        refine wpAnyJ_tL (i := 4) (d := some 57) (v := ?_) #[tt, tt, tt, tt, tt, ff, ff, ff, ff, ff, ff, ff, ff, ff, ff, ff, ff, ff, ff, ff, ff, ff, ff, ff] rfl rfl ?_ hHeld ?_
        rotate_left
        ·(intro w hSw; (try dsimp only at hSw);  go_simp; try with_reducible rfl)
        try simp only [Act.put, sA, s0, s1]
        refine wpAnyJ_tL (i := 5) (d := some 58) (v := ?_) #[tt, tt, tt, tt, tt, tt, ff, ff, ff, ff, ff, ff, ff, ff, ff, ff, ff, ff, ff, ff, ff, ff, ff, ff] rfl rfl ?_ hHeld ?_
        rotate_left
        ·(intro w hSw; (try dsimp only at hSw);  go_simp; try with_reducible rfl)
        try simp only [Act.put, sA, s0, s1]
        refine wpAnyJ_tL (i := 6) (d := some 59) (v := ?_) #[tt, tt, tt, tt, tt, tt, tt, ff, ff, ff, ff, ff, ff, ff, ff, ff, ff, ff, ff, ff, ff, ff, ff, ff] rfl rfl ?_ hHeld ?_
        rotate_left
        ·(intro w hSw; (try dsimp only at hSw);  go_simp; try with_reducible rfl)
        try simp only [Act.put, sA, s0, s1]
        refine wpAnyJ_tL (i := 7) (d := some 60) (v := ?_) #[tt, tt, tt, tt, tt, tt, tt, tt, ff, ff, ff, ff, ff, ff, ff, ff, ff, ff, ff, ff, ff, ff, ff, ff] rfl rfl ?_ hHeld ?_
        rotate_left
        ·(intro w hSw; (try dsimp only at hSw);  go_simp; try with_reducible rfl)
        try simp only [Act.put, sA, s0, s1]
        refine wpAnyJ_tL (i := 8) (d := some 61) (v := ?_) #[tt, tt, tt, tt, tt, tt, tt, tt, tt, ff, ff, ff, ff, ff, ff, ff, ff, ff, ff, ff, ff, ff, ff, ff] rfl rfl ?_ hHeld ?_
        rotate_left
        ·(intro w hSw; (try dsimp only at hSw);  go_simp; try with_reducible rfl)
        try simp only [Act.put, sA, s0, s1]
        refine wpAnyJ_tL (i := 9) (d := some 62) (v := ?_) #[tt, tt, tt, tt, tt, tt, tt, tt, tt, tt, ff, ff, ff, ff, ff, ff, ff, ff, ff, ff, ff, ff, ff, ff] rfl rfl ?_ hHeld ?_
        rotate_left
        ·(intro w hSw; (try dsimp only at hSw);  go_simp; try with_reducible rfl)
        try simp only [Act.put, sA, s0, s1]
        refine wpAnyJ_tL (i := 10) (d := some 63) (v := ?_) #[tt, tt, tt, tt, tt, tt, tt, tt, tt, tt, tt, ff, ff, ff, ff, ff, ff, ff, ff, ff, ff, ff, ff, ff] rfl rfl ?_ hHeld ?_
        rotate_left
        ·(intro w hSw; (try dsimp only at hSw);  go_simp; try with_reducible rfl)
        try simp only [Act.put, sA, s0, s1]
        refine wpAnyJ_tL (i := 11) (d := some 64) (v := ?_) #[tt, tt, tt, tt, tt, tt, tt, tt, tt, tt, tt, tt, ff, ff, ff, ff, ff, ff, ff, ff, ff, ff, ff, ff] rfl rfl ?_ hHeld ?_
        rotate_left
        ·(intro w hSw; (try dsimp only at hSw);  go_simp; try with_reducible rfl)
        try simp only [Act.put, sA, s0, s1]
        refine wpAnyJ_tL (i := 12) (d := some 65) (v := ?_) #[tt, tt, tt, tt, tt, tt, tt, tt, tt, tt, tt, tt, tt, ff, ff, ff, ff, ff, ff, ff, ff, ff, ff, ff] rfl rfl ?_ hHeld ?_
        rotate_left
        ·(intro w hSw; (try dsimp only at hSw);  go_simp; try with_reducible rfl)
        try simp only [Act.put, sA, s0, s1]
        refine wpAnyJ_tL (i := 13) (d := some 66) (v := ?_) #[tt, tt, tt, tt, tt, tt, tt, tt, tt, tt, tt, tt, tt, tt, ff, ff, ff, ff, ff, ff, ff, ff, ff, ff] rfl rfl ?_ hHeld ?_
        rotate_left
        ·(intro w hSw; (try dsimp only at hSw);  go_simp; try with_reducible rfl)
        try simp only [Act.put, sA, s0, s1]
        refine wpAnyJ_tL (i := 14) (d := some 67) (v := ?_) #[tt, tt, tt, tt, tt, tt, tt, tt, tt, tt, tt, tt, tt, tt, tt, ff, ff, ff, ff, ff, ff, ff, ff, ff] rfl rfl ?_ hHeld ?_
        rotate_left
        ·(intro w hSw; (try dsimp only at hSw);  go_simp; try with_reducible rfl)
        try simp only [Act.put, sA, s0, s1]
        refine wpAnyJ_tL (i := 15) (d := some 68) (v := ?_) #[tt, tt, tt, tt, tt, tt, tt, tt, tt, tt, tt, tt, tt, tt, tt, tt, ff, ff, ff, ff, ff, ff, ff, ff] rfl rfl ?_ hHeld ?_
        rotate_left
        ·(intro w hSw; (try dsimp only at hSw);  go_simp; try with_reducible rfl)
        try simp only [Act.put, sA, s0, s1]
        refine wpAnyJ_tL (i := 16) (d := some 69) (v := ?_) #[tt, tt, tt, tt, tt, tt, tt, tt, tt, tt, tt, tt, tt, tt, tt, tt, tt, ff, ff, ff, ff, ff, ff, ff] rfl rfl ?_ hHeld ?_
        rotate_left
        ·(intro w hSw; (try dsimp only at hSw);  go_simp; try with_reducible rfl)
        try simp only [Act.put, sA, s0, s1]
        refine wpAnyJ_tL (i := 17) (d := some 70) (v := ?_) #[tt, tt, tt, tt, tt, tt, tt, tt, tt, tt, tt, tt, tt, tt, tt, tt, tt, tt, ff, ff, ff, ff, ff, ff] rfl rfl ?_ hHeld ?_
        rotate_left
        ·(intro w hSw; (try dsimp only at hSw);  go_simp; try with_reducible rfl)
        try simp only [Act.put, sA, s0, s1]
        refine wpAnyJ_tL (i := 18) (d := some 71) (v := ?_) #[tt, tt, tt, tt, tt, tt, tt, tt, tt, tt, tt, tt, tt, tt, tt, tt, tt, tt, tt, ff, ff, ff, ff, ff] rfl rfl ?_ hHeld ?_
        rotate_left
        ·(intro w hSw; (try dsimp only at hSw);  go_simp; try with_reducible rfl)
        try simp only [Act.put, sA, s0, s1]
        refine wpAnyJ_tL (i := 19) (d := some 72) (v := ?_) #[tt, tt, tt, tt, tt, tt, tt, tt, tt, tt, tt, tt, tt, tt, tt, tt, tt, tt, tt, tt, ff, ff, ff, ff] rfl rfl ?_ hHeld ?_
        rotate_left
        ·(intro w hSw; (try dsimp only at hSw);  go_simp; try with_reducible rfl)
        try simp only [Act.put, sA, s0, s1]
        refine wpAnyJ_tL (i := 20) (d := some 73) (v := ?_) #[tt, tt, tt, tt, tt, tt, tt, tt, tt, tt, tt, tt, tt, tt, tt, tt, tt, tt, tt, tt, tt, ff, ff, ff] rfl rfl ?_ hHeld ?_
        rotate_left
        ·(intro w hSw; (try dsimp only at hSw);  go_simp; try with_reducible rfl)
        try simp only [Act.put, sA, s0, s1]
        refine wpAnyJ_tL (i := 21) (d := some 74) (v := ?_) #[tt, tt, tt, tt, tt, tt, tt, tt, tt, tt, tt, tt, tt, tt, tt, tt, tt, tt, tt, tt, tt, tt, ff, ff] rfl rfl ?_ hHeld ?_
        rotate_left
        ·(intro w hSw; (try dsimp only at hSw);  go_simp; try with_reducible rfl)
        try simp only [Act.put, sA, s0, s1]
        refine wpAnyJ_tL (i := 22) (d := some 75) (v := ?_) #[tt, tt, tt, tt, tt, tt, tt, tt, tt, tt, tt, tt, tt, tt, tt, tt, tt, tt, tt, tt, tt, tt, tt, ff] rfl rfl ?_ hHeld ?_
        rotate_left
        ·(intro w hSw; (try dsimp only at hSw);  go_simp; try with_reducible rfl)
        try simp only [Act.put, sA, s0, s1]
        refine wpAnyJ_tL (i := 23) (d := some 76) (v := ?_) #[tt, tt, tt, tt, tt, tt, tt, tt, tt, tt, tt, tt, tt, tt, tt, tt, tt, tt, tt, tt, tt, tt, tt, tt] rfl rfl ?_ hHeld ?_
        rotate_left
        ·(intro w hSw; (try dsimp only at hSw);  go_simp; try with_reducible rfl)
        try simp only [Act.put, sA, s0, s1]
        refine wpAnyJ_done (by kernel_rfl) ?_ _
        clear hHeld
        go_wp2_with fail
        go_roundg (i - (k + 1))
        case rel => exact ⟨k + 1, by go_num, by omega, rfl, HO2, hbk, hbl.out.drew⟩
        case measure => omega
       ·have qp : (p1 != p) = true := by simpa using hpp
        have HO2 : Hid (othL (ls.take i) ⟨d1, p, q⟩ = true) := oth_up (k := k + 1) (by rw [oth_snoc HX1.out hot.out]; simp [othB]; exact hpp) (by omega)
        have HEE : Hid (errAt ds ls i = 18) := by unfold Hid; rw [HEA.out, if_neg (by simp), if_neg (by rw [HOB.out]; simp), if_pos HO2.out]
        have HRE := Lib.hid (firstE_stop hfe.out HEE.out (by decide) n hlt)
        clear hpp
        go_upto_region 17 with (fail)
        refine wp_region_J (S := fun W' => W'.cell? ⟨b, off + k * 3, none⟩ = some (.int .i64 d1) ∧ W'.cell? ⟨b, off + k * 3 + 1, none⟩ = some (.int .i64 p1) ∧ W'.cell? ⟨b, off + i * 3, none⟩ = some (.int .i64 d1) ∧ W'.cell? ⟨b, off + i * 3 + 1, none⟩ = some (.int .i64 p)) (J := []) (by kernel_rfl) ?_ (fun hHeld => ?_)
        ·exact HCS.out
        try dsimp only at hHeld
        refine wpAnyJ_tL (i := 0) (d := some 53) (v := ?_) #[tt, ff, ff, ff, ff, ff, ff, ff, ff, ff, ff, ff, ff, ff, ff, ff, ff, ff, ff, ff, ff, ff, ff, ff] rfl rfl ?_ hHeld ?_
        rotate_left
        ·(intro w hSw; (try dsimp only at hSw);  go_simp; try with_reducible rfl)
        try simp only [Act.put, sA, s0, s1]
        refine wpAnyJ_tL (i := 1) (d := some 54) (v := ?_) #[tt, tt, ff, ff, ff, ff, ff, ff, ff, ff, ff, ff, ff, ff, ff, ff, ff, ff, ff, ff, ff, ff, ff, ff] rfl rfl ?_ hHeld ?_
        rotate_left
        ·(intro w hSw; (try dsimp only at hSw);  go_simp; try with_reducible rfl)
        try simp only [Act.put, sA, s0, s1]
        refine wpAnyJ_tL (i := 2) (d := some 55) (v := ?_) #[tt, tt, tt, ff, ff, ff, ff, ff, ff, ff, ff, ff, ff, ff, ff, ff, ff, ff, ff, ff, ff, ff, ff, ff] rfl rfl ?_ hHeld ?_
        rotate_left
        ·(intro w hSw; (try dsimp only at hSw);  go_simp; try with_reducible rfl)
        try simp only [Act.put, sA, s0, s1]
        refine wpAnyJ_tL (i := 3) (d := some 56) (v := ?_) #[tt, tt, tt, tt, ff, ff, ff, ff, ff, ff, ff, ff, ff, ff, ff, ff, ff, ff, ff, ff, ff, ff, ff, ff] rfl rfl ?_ hHeld ?_
        rotate_left
        ·(intro w hSw; (try dsimp only at hSw);  go_simp; try with_reducible rfl)
        try simp only [Act.put, sA, s0, s1]
        refine wpAnyJ_tL (i := 4) (d := some 57) (v := ?_) #[tt, tt, tt, tt, tt, ff, ff, ff, ff, ff, ff, ff, ff, ff, ff, ff, ff, ff, ff, ff, ff, ff, ff, ff] rfl rfl ?_ hHeld ?_
        rotate_left
        ·(intro w hSw; (try dsimp only at hSw);  go_simp; try with_reducible rfl)
        try simp only [Act.put, sA, s0, s1]
        refine wpAnyJ_tL (i := 5) (d := some 58) (v := ?_) #[tt, tt, tt, tt, tt, tt, ff, ff, ff, ff, ff, ff, ff, ff, ff, ff, ff, ff, ff, ff, ff, ff, ff, ff] rfl rfl ?_ hHeld ?_
        rotate_left
        ·(intro w hSw; (try dsimp only at hSw);  go_simp; try with_reducible rfl)
        try simp only [Act.put, sA, s0, s1]
        refine wpAnyJ_tL (i := 6) (d := some 59) (v := ?_) #[tt, tt, tt, tt, tt, tt, tt, ff, ff, ff, ff, ff, ff, ff, ff, ff, ff, ff, ff, ff, ff, ff, ff, ff] rfl rfl ?_ hHeld ?_
        rotate_left
        ·(intro w hSw; (try dsimp only at hSw);  go_simp; try with_reducible rfl)
        try simp only [Act.put, sA, s0, s1]
        refine wpAnyJ_tL (i := 7) (d := some 60) (v := ?_) #[tt, tt, tt, tt, tt, tt, tt, tt, ff, ff, ff, ff, ff, ff, ff, ff, ff, ff, ff, ff, ff, ff, ff, ff] rfl rfl ?_ hHeld ?_
        rotate_left
        ·(intro w hSw; (try dsimp only at hSw);  go_simp; try with_reducible rfl)
        try simp only [Act.put, sA, s0, s1]
        refine wpAnyJ_tL (i := 8) (d := some 61) (v := ?_) #[tt, tt, tt, tt, tt, tt, tt, tt, tt, ff, ff, ff, ff, ff, ff, ff, ff, ff, ff, ff, ff, ff, ff, ff] rfl rfl ?_ hHeld ?_
        rotate_left
        ·(intro w hSw; (try dsimp only at hSw);  go_simp; try with_reducible rfl)
        try simp only [Act.put, sA, s0, s1]
        refine wpAnyJ_tL (i := 9) (d := some 62) (v := ?_) #[tt, tt, tt, tt, tt, tt, tt, tt, tt, tt, ff, ff, ff, ff, ff, ff, ff, ff, ff, ff, ff, ff, ff, ff] rfl rfl ?_ hHeld ?_
        rotate_left
        ·(intro w hSw; (try dsimp only at hSw);  go_simp; try with_reducible rfl)
        try simp only [Act.put, sA, s0, s1]
        refine wpAnyJ_tL (i := 10) (d := some 63) (v := ?_) #[tt, tt, tt, tt, tt, tt, tt, tt, tt, tt, tt, ff, ff, ff, ff, ff, ff, ff, ff, ff, ff, ff, ff, ff] rfl rfl ?_ hHeld ?_
        rotate_left
        ·(intro w hSw; (try dsimp only at hSw);  go_simp; try with_reducible rfl)
        try simp only [Act.put, sA, s0, s1]
        refine wpAnyJ_tL (i := 11) (d := some 64) (v := ?_) #[tt, tt, tt, tt, tt, tt, tt, tt, tt, tt, tt, tt, ff, ff, ff, ff, ff, ff, ff, ff, ff, ff, ff, ff] rfl rfl ?_ hHeld ?_
        rotate_left
        ·(intro w hSw; (try dsimp only at hSw);  go_simp; try with_reducible rfl)
        try simp only [Act.put, sA, s0, s1]
        refine wpAnyJ_tL (i := 12) (d := some 65) (v := ?_) #[tt, tt, tt, tt, tt, tt, tt, tt, tt, tt, tt, tt, tt, ff, ff, ff, ff, ff, ff, ff, ff, ff, ff, ff] rfl rfl ?_ hHeld ?_
        rotate_left
        ·(intro w hSw; (try dsimp only at hSw);  go_simp; try with_reducible rfl)
        try simp only [Act.put, sA, s0, s1]
        refine wpAnyJ_tL (i := 13) (d := some 66) (v := ?_) #[tt, tt, tt, tt, tt, tt, tt, tt, tt, tt, tt, tt, tt, tt, ff, ff, ff, ff, ff, ff, ff, ff, ff, ff] rfl rfl ?_ hHeld ?_
        rotate_left
        ·(intro w hSw; (try dsimp only at hSw);  go_simp; try with_reducible rfl)
        try simp only [Act.put, sA, s0, s1]
        refine wpAnyJ_tL (i := 14) (d := some 67) (v := ?_) #[tt, tt, tt, tt, tt, tt, tt, tt, tt, tt, tt, tt, tt, tt, tt, ff, ff, ff, ff, ff, ff, ff, ff, ff] rfl rfl ?_ hHeld ?_
        rotate_left
        ·(intro w hSw; (try dsimp only at hSw);  go_simp; try with_reducible rfl)
        try simp only [Act.put, sA, s0, s1]
        refine wpAnyJ_tL (i := 15) (d := some 68) (v := ?_) #[tt, tt, tt, tt, tt, tt, tt, tt, tt, tt, tt, tt, tt, tt, tt, tt, ff, ff, ff, ff, ff, ff, ff, ff] rfl rfl ?_ hHeld ?_
        rotate_left
        ·(intro w hSw; (try dsimp only at hSw);  go_simp; try with_reducible rfl)
        try simp only [Act.put, sA, s0, s1]
        refine wpAnyJ_tL (i := 16) (d := some 69) (v := ?_) #[tt, tt, tt, tt, tt, tt, tt, tt, tt, tt, tt, tt, tt, tt, tt, tt, tt, ff, ff, ff, ff, ff, ff, ff] rfl rfl ?_ hHeld ?_
        rotate_left
        ·(intro w hSw; (try dsimp only at hSw);  go_simp; try with_reducible rfl)
        try simp only [Act.put, sA, s0, s1]
        refine wpAnyJ_tL (i := 17) (d := some 70) (v := ?_) #[tt, tt, tt, tt, tt, tt, tt, tt, tt, tt, tt, tt, tt, tt, tt, tt, tt, tt, ff, ff, ff, ff, ff, ff] rfl rfl ?_ hHeld ?_
        rotate_left
        ·(intro w hSw; (try dsimp only at hSw);  go_simp; try with_reducible rfl)
        try simp only [Act.put, sA, s0, s1]
        refine wpAnyJ_tL (i := 18) (d := some 71) (v := ?_) #[tt, tt, tt, tt, tt, tt, tt, tt, tt, tt, tt, tt, tt, tt, tt, tt, tt, tt, tt, ff, ff, ff, ff, ff] rfl rfl ?_ hHeld ?_
        rotate_left
        ·(intro w hSw; (try dsimp only at hSw);  go_simp; try with_reducible rfl)
        try simp only [Act.put, sA, s0, s1]
        refine wpAnyJ_tL (i := 19) (d := some 72) (v := ?_) #[tt, tt, tt, tt, tt, tt, tt, tt, tt, tt, tt, tt, tt, tt, tt, tt, tt, tt, tt, tt, ff, ff, ff, ff] rfl rfl ?_ hHeld ?_
        rotate_left
        ·(intro w hSw; (try dsimp only at hSw);  go_simp; try with_reducible rfl)
        try simp only [Act.put, sA, s0, s1]
        refine wpAnyJ_tL (i := 20) (d := some 73) (v := ?_) #[tt, tt, tt, tt, tt, tt, tt, tt, tt, tt, tt, tt, tt, tt, tt, tt, tt, tt, tt, tt, tt, ff, ff, ff] rfl rfl ?_ hHeld ?_
        rotate_left
        ·(intro w hSw; (try dsimp only at hSw);  go_simp; try with_reducible rfl)
        try simp only [Act.put, sA, s0, s1]
        refine wpAnyJ_tL (i := 21) (d := some 74) (v := ?_) #[tt, tt, tt, tt, tt, tt, tt, tt, tt, tt, tt, tt, tt, tt, tt, tt, tt, tt, tt, tt, tt, tt, ff, ff] rfl rfl ?_ hHeld ?_
        rotate_left
        ·(intro w hSw; (try dsimp only at hSw);  go_simp; try with_reducible rfl)
        try simp only [Act.put, sA, s0, s1]
        refine wpAnyJ_tL (i := 22) (d := some 75) (v := ?_) #[tt, tt, tt, tt, tt, tt, tt, tt, tt, tt, tt, tt, tt, tt, tt, tt, tt, tt, tt, tt, tt, tt, tt, ff] rfl rfl ?_ hHeld ?_
        rotate_left
        ·(intro w hSw; (try dsimp only at hSw);  go_simp; try with_reducible rfl)
        try simp only [Act.put, sA, s0, s1]
        refine wpAnyJ_tL (i := 23) (d := some 76) (v := ?_) #[tt, tt, tt, tt, tt, tt, tt, tt, tt, tt, tt, tt, tt, tt, tt, tt, tt, tt, tt, tt, tt, tt, tt, tt] rfl rfl ?_ hHeld ?_
        rotate_left
        ·(intro w hSw; (try dsimp only at hSw);  go_simp; try with_reducible rfl)
        try simp only [Act.put, sA, s0, s1]
        refine wpAnyJ_done (by kernel_rfl) ?_ _
        clear hHeld
        go_wp2_with fail
        go_ret
        exact ⟨ret_int (by rw [HR.out, HRE.out]), hbl.out.drew⟩
      ·have qd : (d1 == d) = false := by simpa using hdd
       have HO2 : Hid (othL (ls.take (k + 1)) ⟨d, p, q⟩ = false) := by unfold Hid; rw [oth_snoc HX1.out hot.out]; simp [othB]; intro h; exact absurd h hdd
       clear hdd
       go_upto_region 17 with (fail)
       refine wp_region_J (S := fun W' => W'.cell? ⟨b, off + k * 3, none⟩ = some (.int .i64 d1) ∧ W'.cell? ⟨b, off + k * 3 + 1, none⟩ = some (.int .i64 p1) ∧ W'.cell? ⟨b, off + i * 3, none⟩ = some (.int .i64 d) ∧ W'.cell? ⟨b, off + i * 3 + 1, none⟩ = some (.int .i64 p)) (J := []) (by kernel_rfl) ?_ (fun hHeld => ?_)
       ·exact HCS.out
       try dsimp only at hHeld
       refine wpAnyJ_tL (i := 0) (d := some 53) (v := ?_) #[tt, ff, ff, ff, ff, ff, ff, ff, ff, ff, ff, ff, ff, ff, ff, ff, ff, ff, ff, ff, ff, ff, ff, ff] rfl rfl ?_ hHeld ?_
       rotate_left
       ·(intro w hSw; (try dsimp only at hSw);  go_simp; try with_reducible rfl)
       try simp only [Act.put, sA, s0, s1]
       refine wpAnyJ_tL (i := 1) (d := some 54) (v := ?_) #[tt, tt, ff, ff, ff, ff, ff, ff, ff, ff, ff, ff, ff, ff, ff, ff, ff, ff, ff, ff, ff, ff, ff, ff] rfl rfl ?_ hHeld ?_
       rotate_left
       ·(intro w hSw; (try dsimp only at hSw);  go_simp; try with_reducible rfl)
       try simp only [Act.put, sA, s0, s1]
       refine wpAnyJ_tL (i := 2) (d := some 55) (v := ?_) #[tt, tt, tt, ff, ff, ff, ff, ff, ff, ff, ff, ff, ff, ff, ff, ff, ff, ff, ff, ff, ff, ff, ff, ff] rfl rfl ?_ hHeld ?_
       rotate_left
       ·(intro w hSw; (try dsimp only at hSw);  go_simp; try with_reducible rfl)
       try simp only [Act.put, sA, s0, s1]
       refine wpAnyJ_tL (i := 3) (d := some 56) (v := ?_) #[tt, tt, tt, tt, ff, ff, ff, ff, ff, ff, ff, ff, ff, ff, ff, ff, ff, ff, ff, ff, ff, ff, ff, ff] rfl rfl ?_ hHeld ?_
       rotate_left
       ·(intro w hSw; (try dsimp only at hSw);  go_simp; try with_reducible rfl)
       try simp only [Act.put, sA, s0, s1]
       refine wpAnyJ_tL (i := 4) (d := some 57) (v := ?_) #[tt, tt, tt, tt, tt, ff, ff, ff, ff, ff, ff, ff, ff, ff, ff, ff, ff, ff, ff, ff, ff, ff, ff, ff] rfl rfl ?_ hHeld ?_
       rotate_left
       ·(intro w hSw; (try dsimp only at hSw);  go_simp; try with_reducible rfl)
       try simp only [Act.put, sA, s0, s1]
       refine wpAnyJ_tL (i := 5) (d := some 58) (v := ?_) #[tt, tt, tt, tt, tt, tt, ff, ff, ff, ff, ff, ff, ff, ff, ff, ff, ff, ff, ff, ff, ff, ff, ff, ff] rfl rfl ?_ hHeld ?_
       rotate_left
       ·(intro w hSw; (try dsimp only at hSw);  go_simp; try with_reducible rfl)
       try simp only [Act.put, sA, s0, s1]
       refine wpAnyJ_tL (i := 6) (d := some 59) (v := ?_) #[tt, tt, tt, tt, tt, tt, tt, ff, ff, ff, ff, ff, ff, ff, ff, ff, ff, ff, ff, ff, ff, ff, ff, ff] rfl rfl ?_ hHeld ?_
       rotate_left
       ·(intro w hSw; (try dsimp only at hSw);  go_simp; try with_reducible rfl)
       try simp only [Act.put, sA, s0, s1]
       refine wpAnyJ_tL (i := 7) (d := some 60) (v := ?_) #[tt, tt, tt, tt, tt, tt, tt, tt, ff, ff, ff, ff, ff, ff, ff, ff, ff, ff, ff, ff, ff, ff, ff, ff] rfl rfl ?_ hHeld ?_
       rotate_left
       ·(intro w hSw; (try dsimp only at hSw);  go_simp; try with_reducible rfl)
       try simp only [Act.put, sA, s0, s1]
       refine wpAnyJ_tL (i := 8) (d := some 61) (v := ?_) #[tt, tt, tt, tt, tt, tt, tt, tt, tt, ff, ff, ff, ff, ff, ff, ff, ff, ff, ff, ff, ff, ff, ff, ff] rfl rfl ?_ hHeld ?_
       rotate_left
       ·(intro w hSw; (try dsimp only at hSw);  go_simp; try with_reducible rfl)
       try simp only [Act.put, sA, s0, s1]
       refine wpAnyJ_tL (i := 9) (d := some 62) (v := ?_) #[tt, tt, tt, tt, tt, tt, tt, tt, tt, tt, ff, ff, ff, ff, ff, ff, ff, ff, ff, ff, ff, ff, ff, ff] rfl rfl ?_ hHeld ?_
       rotate_left
       ·(intro w hSw; (try dsimp only at hSw);  go_simp; try with_reducible rfl)
       try simp only [Act.put, sA, s0, s1]
       refine wpAnyJ_tL (i := 10) (d := some 63) (v := ?_) #[tt, tt, tt, tt, tt, tt, tt, tt, tt, tt, tt, ff, ff, ff, ff, ff, ff, ff, ff, ff, ff, ff, ff, ff] rfl rfl ?_ hHeld ?_
       rotate_left
       ·(intro w hSw; (try dsimp only at hSw);  go_simp; try with_reducible rfl)
       try simp only [Act.put, sA, s0, s1]
       refine wpAnyJ_tL (i := 11) (d := some 64) (v := ?_) #[tt, tt, tt, tt, tt, tt, tt, tt, tt, tt, tt, tt, ff, ff, ff, ff, ff, ff, ff, ff, ff, ff, ff, ff] rfl rfl ?_ hHeld ?_
       rotate_left
       ·(intro w hSw; (try dsimp only at hSw);  go_simp; try with_reducible rfl)
       try simp only [Act.put, sA, s0, s1]
       refine wpAnyJ_takeL (i := 12) (d := some 65) (v := undef) #[tt, tt, tt, tt, tt, tt, tt, tt, tt, tt, tt, tt, tt, ff, ff, ff, ff, ff, ff, ff, ff, ff, ff, ff] (by kernel_rfl) rfl rfl (by kernel_rfl) (by kernel_rfl) (by kernel_rfl) (by kernel_rfl) (by kernel_rfl) (fun _ _ _ h => h) (Or.inr ⟨by rfl, by rfl⟩) hHeld ?_
       try simp only [Act.put, sA, s0, s1]
       refine wpAnyJ_takeL (i := 13) (d := some 66) (v := undef) #[tt, tt, tt, tt, tt, tt, tt, tt, tt, tt, tt, tt, tt, tt, ff, ff, ff, ff, ff, ff, ff, ff, ff, ff] (by kernel_rfl) rfl rfl (by kernel_rfl) (by kernel_rfl) (by kernel_rfl) (by kernel_rfl) (by kernel_rfl) (fun _ _ _ h => h) (Or.inr ⟨by rfl, by rfl⟩) hHeld ?_
       try simp only [Act.put, sA, s0, s1]
       refine wpAnyJ_takeL (i := 14) (d := some 67) (v := undef) #[tt, tt, tt, tt, tt, tt, tt, tt, tt, tt, tt, tt, tt, tt, tt, ff, ff, ff, ff, ff, ff, ff, ff, ff] (by kernel_rfl) rfl rfl (by kernel_rfl) (by kernel_rfl) (by kernel_rfl) (by kernel_rfl) (by kernel_rfl) (fun _ _ _ h => h) (Or.inr ⟨by rfl, by rfl⟩) hHeld ?_
       try simp only [Act.put, sA, s0, s1]
       refine wpAnyJ_takeL (i := 15) (d := some 68) (v := undef) #[tt, tt, tt, tt, tt, tt, tt, tt, tt, tt, tt, tt, tt, tt, tt, tt, ff, ff, ff, ff, ff, ff, ff, ff] (by kernel_rfl) rfl rfl (by kernel_rfl) (by kernel_rfl) (by kernel_rfl) (by kernel_rfl) (by kernel_rfl) (fun _ _ _ h => h) (Or.inr ⟨by rfl, by rfl⟩) hHeld ?_
       try simp only [Act.put, sA, s0, s1]
       refine wpAnyJ_takeL (i := 16) (d := some 69) (v := undef) #[tt, tt, tt, tt, tt, tt, tt, tt, tt, tt, tt, tt, tt, tt, tt, tt, tt, ff, ff, ff, ff, ff, ff, ff] (by kernel_rfl) rfl rfl (by kernel_rfl) (by kernel_rfl) (by kernel_rfl) (by kernel_rfl) (by kernel_rfl) (fun _ _ _ h => h) (Or.inr ⟨by rfl, by rfl⟩) hHeld ?_
       try simp only [Act.put, sA, s0, s1]
       refine wpAnyJ_takeL (i := 17) (d := some 70) (v := undef) #[tt, tt, tt, tt, tt, tt, tt, tt, tt, tt, tt, tt, tt, tt, tt, tt, tt, tt, ff, ff, ff, ff, ff, ff] (by kernel_rfl) rfl rfl (by kernel_rfl) (by kernel_rfl) (by kernel_rfl) (by kernel_rfl) (by kernel_rfl) (fun _ _ _ h => h) (Or.inr ⟨by rfl, by rfl⟩) hHeld ?_
       try simp only [Act.put, sA, s0, s1]
       refine wpAnyJ_takeL (i := 18) (d := some 71) (v := undef) #[tt, tt, tt, tt, tt, tt, tt, tt, tt, tt, tt, tt, tt, tt, tt, tt, tt, tt, tt, ff, ff, ff, ff, ff] (by kernel_rfl) rfl rfl (by kernel_rfl) (by kernel_rfl) (by kernel_rfl) (by kernel_rfl) (by kernel_rfl) (fun _ _ _ h => h) (Or.inr ⟨by rfl, by rfl⟩) hHeld ?_
       try simp only [Act.put, sA, s0, s1]
       refine wpAnyJ_takeL (i := 19) (d := some 72) (v := undef) #[tt, tt, tt, tt, tt, tt, tt, tt, tt, tt, tt, tt, tt, tt, tt, tt, tt, tt, tt, tt, ff, ff, ff, ff] (by kernel_rfl) rfl rfl (by kernel_rfl) (by kernel_rfl) (by kernel_rfl) (by kernel_rfl) (by kernel_rfl) (fun _ _ _ h => h) (Or.inr ⟨by rfl, by rfl⟩) hHeld ?_
       try simp only [Act.put, sA, s0, s1]
       refine wpAnyJ_takeL (i := 20) (d := some 73) (v := undef) #[tt, tt, tt, tt, tt, tt, tt, tt, tt, tt, tt, tt, tt, tt, tt, tt, tt, tt, tt, tt, tt, ff, ff, ff] (by kernel_rfl) rfl rfl (by kernel_rfl) (by kernel_rfl) (by kernel_rfl) (by kernel_rfl) (by kernel_rfl) (fun _ _ _ h => h) (Or.inr ⟨by rfl, by rfl⟩) hHeld ?_
       try simp only [Act.put, sA, s0, s1]
       refine wpAnyJ_takeL (i := 21) (d := some 74) (v := undef) #[tt, tt, tt, tt, tt, tt, tt, tt, tt, tt, tt, tt, tt, tt, tt, tt, tt, tt, tt, tt, tt, tt, ff, ff] (by kernel_rfl) rfl rfl (by kernel_rfl) (by kernel_rfl) (by kernel_rfl) (by kernel_rfl) (by kernel_rfl) (fun _ _ _ h => h) (Or.inr ⟨by rfl, by rfl⟩) hHeld ?_
       try simp only [Act.put, sA, s0, s1]
       refine wpAnyJ_takeL (i := 22) (d := some 75) (v := undef) #[tt, tt, tt, tt, tt, tt, tt, tt, tt, tt, tt, tt, tt, tt, tt, tt, tt, tt, tt, tt, tt, tt, tt, ff] (by kernel_rfl) rfl rfl (by kernel_rfl) (by kernel_rfl) (by kernel_rfl) (by kernel_rfl) (by kernel_rfl) (fun _ _ _ h => h) (Or.inr ⟨by rfl, by rfl⟩) hHeld ?_
       try simp only [Act.put, sA, s0, s1]
       refine wpAnyJ_tL (i := 23) (d := some 76) (v := ?_) #[tt, tt, tt, tt, tt, tt, tt, tt, tt, tt, tt, tt, tt, tt, tt, tt, tt, tt, tt, tt, tt, tt, tt, tt] rfl rfl ?_ hHeld ?_
       rotate_left
       ·(intro w hSw; (try dsimp only at hSw);  go_simp; try with_reducible rfl)
       try simp only [Act.put, sA, s0, s1]
       refine wpAnyJ_done (by kernel_rfl) ?_ _
       clear hHeld
       go_wp2_with fail
       go_roundg (i - (k + 1))
       case rel => exact ⟨k + 1, by go_num, by omega, rfl, HO2, hbk, hbl.out.drew⟩
       case measure => omega
     ·obtain rfl : k = i := by omega
      have hkk : decide (k < k) = false := by simp
      go_wp2_with fail
      clear hkk
      go_loopg [9] k (RkR3 w #[.slice An nn cn, .slice Ad nd cd] ls q k)
      case atStart => exact ⟨0, rfl, Nat.zero_le _, rfl, rfl, hbk, hbl⟩
      case round =>
       clear hbk hbl
       obtain ⟨j, rfl, hj, rfl, hus, hbk, hbl⟩ := hrel
       by_cases hjt : j < k
       ·obtain ⟨b1, off1, d1, p1, q1, hA1, _, hx1, _, _, e2⟩ := (HS.out.below hbl.out hBl).lock (i := j) (by omega)
        injection hA1 with hA1; injection hA1 with h1 h2; subst h1 h2
        obtain ⟨b2, off2, d2, p2, q2, hA2, _, hx2, _, _, f2⟩ := (HS.out.below hbl.out hBl).lock hlt
        injection hA2 with hA2; injection hA2 with h1 h2; subst h1 h2
        rw [HX.out] at hx2
        injection hx2 with hx2; injection hx2 with h1 h2 h3; subst h1 h2 h3
        have HX1 := Lib.hid hx1
        have hjn : j < n := by omega
        have HCS : Hid (wr.cell? ⟨b, off + j * 3 + 2, none⟩ = some (.int .i64 q1) ∧ wr.cell? ⟨b, off + k * 3 + 2, none⟩ = some (.int .i64 q)) := ⟨e2, f2⟩
        clear hx1 e2 f2
        by_cases hqq : q1 = q
        ·subst hqq
         have qd : (q1 == q1) = true := by simp
         have HO2 : Hid (usdL (ls.take k) q1 = true) := usd_up (k := j + 1) (by rw [usd_snoc HX1.out hus.out]; simp) (by omega)
         have HEE : Hid (errAt ds ls k = 4) := by unfold Hid; rw [HEA.out, if_neg (by simp), if_neg (by rw [HOB.out]; simp), if_neg (by rw [hot.out]; simp), if_pos HO2.out]
         have HRE := Lib.hid (firstE_stop hfe.out HEE.out (by decide) n hlt)
         go_upto_region 22 with (fail)
         refine wp_region_J (S := fun W' => W'.cell? ⟨b, off + j * 3 + 2, none⟩ = some (.int .i64 q1) ∧ W'.cell? ⟨b, off + k * 3 + 2, none⟩ = some (.int .i64 q1)) (J := []) (by kernel_rfl) ?_ (fun hHeld => ?_)
         ·exact HCS.out
         try dsimp only at hHeld
         refine wpAnyJ_tL (i := 0) (d := some 82) (v := ?_) #[tt, ff, ff, ff, ff, ff, ff, ff, ff, ff, ff] rfl rfl ?_ hHeld ?_
         rotate_left
         ·(intro w hSw; (try dsimp only at hSw);  go_simp; try with_reducible rfl)
         try simp only [Act.put, sA, s0, s1]
         refine wpAnyJ_tL (i := 1) (d := some 83) (v := ?_) #[tt, tt, ff, ff, ff, ff, ff, ff, ff, ff, ff] rfl rfl ?_ hHeld ?_
         rotate_left
         ·(intro w hSw; (try dsimp only at hSw);  go_simp; try with_reducible rfl)
         try simp only [Act.put, sA, s0, s1]
         refine wpAnyJ_tL (i := 2) (d := some 84) (v := ?_) #[tt, tt, tt, ff, ff, ff, ff, ff, ff, ff, ff] rfl rfl ?_ hHeld ?_
         rotate_left
         ·(intro w hSw; (try dsimp only at hSw);  go_simp; try with_reducible rfl)
         try simp only [Act.put, sA, s0, s1]
         refine wpAnyJ_tL (i := 3) (d := some 85) (v := ?_) #[tt, tt, tt, tt, ff, ff, ff, ff, ff, ff, ff] rfl rfl ?_ hHeld ?_
         rotate_left
         ·(intro w hSw; (try dsimp only at hSw);  go_simp; try with_reducible rfl)
         try simp only [Act.put, sA, s0, s1]
         refine wpAnyJ_tL (i := 4) (d := some 86) (v := ?_) #[tt, tt, tt, tt, tt, ff, ff, ff, ff, ff, ff] rfl rfl ?_ hHeld ?_
         rotate_left
         ·(intro w hSw; (try dsimp only at hSw);  go_simp; try with_reducible rfl)
         try simp only [Act.put, sA, s0, s1]
         refine wpAnyJ_tL (i := 5) (d := some 87) (v := ?_) #[tt, tt, tt, tt, tt, tt, ff, ff, ff, ff, ff] rfl rfl ?_ hHeld ?_
         rotate_left
         ·(intro w hSw; (try dsimp only at hSw);  go_simp; try with_reducible rfl)
         try simp only [Act.put, sA, s0, s1]
         refine wpAnyJ_tL (i := 6) (d := some 88) (v := ?_) #[tt, tt, tt, tt, tt, tt, tt, ff, ff, ff, ff] rfl rfl ?_ hHeld ?_
         rotate_left
         ·(intro w hSw; (try dsimp only at hSw);  go_simp; try with_reducible rfl)
         try simp only [Act.put, sA, s0, s1]
         refine wpAnyJ_tL (i := 7) (d := some 89) (v := ?_) #[tt, tt, tt, tt, tt, tt, tt, tt, ff, ff, ff] rfl rfl ?_ hHeld ?_
         rotate_left
         ·(intro w hSw; (try dsimp only at hSw);  go_simp; try with_reducible rfl)
         try simp only [Act.put, sA, s0, s1]
         refine wpAnyJ_tL (i := 8) (d := some 90) (v := ?_) #[tt, tt, tt, tt, tt, tt, tt, tt, tt, ff, ff] rfl rfl ?_ hHeld ?_
         rotate_left
         ·(intro w hSw; (try dsimp only at hSw);  go_simp; try with_reducible rfl)
         try simp only [Act.put, sA, s0, s1]
         refine wpAnyJ_tL (i := 9) (d := some 91) (v := ?_) #[tt, tt, tt, tt, tt, tt, tt, tt, tt, tt, ff] rfl rfl ?_ hHeld ?_
         rotate_left
         ·(intro w hSw; (try dsimp only at hSw);  go_simp; try with_reducible rfl)
         try simp only [Act.put, sA, s0, s1]
         refine wpAnyJ_tL (i := 10) (d := some 92) (v := ?_) #[tt, tt, tt, tt, tt, tt, tt, tt, tt, tt, tt] rfl rfl ?_ hHeld ?_
         rotate_left
         ·(intro w hSw; (try dsimp only at hSw);  go_simp; try with_reducible rfl)
         try simp only [Act.put, sA, s0, s1]
         refine wpAnyJ_done (by kernel_rfl) ?_ _
         clear hHeld
         go_wp2_with fail
         go_ret
         exact ⟨ret_int (by rw [HR.out, HRE.out]), hbl.out.drew⟩
        ·have qd : (q1 == q) = false := by simpa using hqq
         have HO2 : Hid (usdL (ls.take (j + 1)) q = false) := by unfold Hid; rw [usd_snoc HX1.out hus.out]; simpa using hqq
         clear hqq
         go_upto_region 22 with (fail)
         refine wp_region_J (S := fun W' => W'.cell? ⟨b, off + j * 3 + 2, none⟩ = some (.int .i64 q1) ∧ W'.cell? ⟨b, off + k * 3 + 2, none⟩ = some (.int .i64 q)) (J := []) (by kernel_rfl) ?_ (fun hHeld => ?_)
         ·exact HCS.out
         try dsimp only at hHeld
         refine wpAnyJ_tL (i := 0) (d := some 82) (v := ?_) #[tt, ff, ff, ff, ff, ff, ff, ff, ff, ff, ff] rfl rfl ?_ hHeld ?_
         rotate_left
         ·(intro w hSw; (try dsimp only at hSw);  go_simp; try with_reducible rfl)
         try simp only [Act.put, sA, s0, s1]
         refine wpAnyJ_tL (i := 1) (d := some 83) (v := ?_) #[tt, tt, ff, ff, ff, ff, ff, ff, ff, ff, ff] rfl rfl ?_ hHeld ?_
         rotate_left
         ·(intro w hSw; (try dsimp only at hSw);  go_simp; try with_reducible rfl)
         try simp only [Act.put, sA, s0, s1]
         refine wpAnyJ_tL (i := 2) (d := some 84) (v := ?_) #[tt, tt, tt, ff, ff, ff, ff, ff, ff, ff, ff] rfl rfl ?_ hHeld ?_
         rotate_left
         ·(intro w hSw; (try dsimp only at hSw);  go_simp; try with_reducible rfl)
         try simp only [Act.put, sA, s0, s1]
         refine wpAnyJ_tL (i := 3) (d := some 85) (v := ?_) #[tt, tt, tt, tt, ff, ff, ff, ff, ff, ff, ff] rfl rfl ?_ hHeld ?_
         rotate_left
         ·(intro w hSw; (try dsimp only at hSw);  go_simp; try with_reducible rfl)
         try simp only [Act.put, sA, s0, s1]
         refine wpAnyJ_tL (i := 4) (d := some 86) (v := ?_) #[tt, tt, tt, tt, tt, ff, ff, ff, ff, ff, ff] rfl rfl ?_ hHeld ?_
         rotate_left
         ·(intro w hSw; (try dsimp only at hSw);  go_simp; try with_reducible rfl)
         try simp only [Act.put, sA, s0, s1]
         refine wpAnyJ_tL (i := 5) (d := some 87) (v := ?_) #[tt, tt, tt, tt, tt, tt, ff, ff, ff, ff, ff] rfl rfl ?_ hHeld ?_
         rotate_left
         ·(intro w hSw; (try dsimp only at hSw);  go_simp; try with_reducible rfl)
         try simp only [Act.put, sA, s0, s1]
         refine wpAnyJ_tL (i := 6) (d := some 88) (v := ?_) #[tt, tt, tt, tt, tt, tt, tt, ff, ff, ff, ff] rfl rfl ?_ hHeld ?_
         rotate_left
         ·(intro w hSw; (try dsimp only at hSw);  go_simp; try with_reducible rfl)
         try simp only [Act.put, sA, s0, s1]
         refine wpAnyJ_tL (i := 7) (d := some 89) (v := ?_) #[tt, tt, tt, tt, tt, tt, tt, tt, ff, ff, ff] rfl rfl ?_ hHeld ?_
         rotate_left
         ·(intro w hSw; (try dsimp only at hSw);  go_simp; try with_reducible rfl)
         try simp only [Act.put, sA, s0, s1]
         refine wpAnyJ_tL (i := 8) (d := some 90) (v := ?_) #[tt, tt, tt, tt, tt, tt, tt, tt, tt, ff, ff] rfl rfl ?_ hHeld ?_
         rotate_left
         ·(intro w hSw; (try dsimp only at hSw);  go_simp; try with_reducible rfl)
         try simp only [Act.put, sA, s0, s1]
         refine wpAnyJ_tL (i := 9) (d := some 91) (v := ?_) #[tt, tt, tt, tt, tt, tt, tt, tt, tt, tt, ff] rfl rfl ?_ hHeld ?_
         rotate_left
         ·(intro w hSw; (try dsimp only at hSw);  go_simp; try with_reducible rfl)
         try simp only [Act.put, sA, s0, s1]
         refine wpAnyJ_tL (i := 10) (d := some 92) (v := ?_) #[tt, tt, tt, tt, tt, tt, tt, tt, tt, tt, tt] rfl rfl ?_ hHeld ?_
         rotate_left
         ·(intro w hSw; (try dsimp only at hSw);  go_simp; try with_reducible rfl)
         try simp only [Act.put, sA, s0, s1]
         refine wpAnyJ_done (by kernel_rfl) ?_ _
         clear hHeld
         go_wp2_with fail
         go_roundg (k - (j + 1))
         case rel => exact ⟨j + 1, by go_num, by omega, rfl, HO2, hbk, hbl.out.drew⟩
         case measure => omega
       ·obtain rfl : j = k := by omega
        have hjj : decide (j < j) = false := by simp
        have HEE : Hid (errAt ds ls j = 0) := by unfold Hid; rw [HEA.out, if_neg (by simp), if_neg (by rw [HOB.out]; simp), if_neg (by rw [hot.out]; simp), if_neg (by rw [hus.out]; simp)]
        have HFN := Lib.hid (firstE_next hfe.out HEE.out)
        go_wp2_with fail
        go_roundg (n - (j + 1))
        case rel => exact ⟨j + 1, by go_num, by omega, rfl, HFN, hbk, hbl⟩
        case measure => omega
  ·obtain rfl : i = n := by omega
   have hii : decide (i < i) = false := by simp
   go_wp2_with fail
   go_ret
   exact ⟨ret_int (by rw [HR.out, hfe.out]), hbl.out⟩
end Go.Proofs.YtnpfkiidhidjbaaGreatDoor
