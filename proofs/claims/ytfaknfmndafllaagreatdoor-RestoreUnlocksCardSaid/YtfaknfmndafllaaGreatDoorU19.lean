import Derived.Test.YtfaknfmndafllaaGreatDoorU18
import Derived.IntWalk
set_option maxRecDepth 100000
set_option maxHeartbeats 8000000
namespace Go.Proofs.YtfaknfmndafllaaGreatDoor
open Go.RowKit
theorem keep_cell {w w' : World} {p : Addr} {v : Value} (hb : Below w.heap.size w w') (h : w.cell? p = some v) : w'.cell? p = some v := (hb.cell (cell_lt h)).trans h
theorem errAt_of {ds : List Dv} {ls : List Lk} {i : Nat} {k : Lk} (hk : ls[i]? = some k) : errAt ds ls i = if lkErr ds k ≠ 0 then lkErr ds k else if ordBad ls i k = true then 14 else if othL (ls.take i) k = true then 18 else if usdL (ls.take i) k.key = true then 4 else 0 := by unfold errAt; rw [hk]
theorem ordBad_zero (ls : List Lk) (k : Lk) : ordBad ls 0 k = false := rfl
theorem ordBad_at {ls : List Lk} {i : Nat} {p k : Lk} (h0 : 0 < i) (hp : ls[i - 1]? = some p) : ordBad ls i k = !befB p k := by unfold ordBad; rw [hp, decide_eq_true h0]; simp
def RkR (w : World) (N : Array Value) (ds : List Dv) (ls : List Lk) (n gk : Nat) (iv : Value) (wr : World) : Prop := ∃ i : Nat, iv = .int .i64 i ∧ i ≤ n ∧ gk = n - i ∧ Hid (firstE ds ls i = 0) ∧ Hid (Blk wr w.heap.size 30 N) ∧ Hid (Below w.heap.size w wr)
def RkR2 (w : World) (N : Array Value) (ls : List Lk) (cur : Lk) (i gk : Nat) (kv : Value) (wr : World) : Prop := ∃ k : Nat, kv = .int .i64 k ∧ k ≤ i ∧ gk = i - k ∧ Hid (othL (ls.take k) cur = false) ∧ Hid (Blk wr w.heap.size 30 N) ∧ Hid (Below w.heap.size w wr)
def RkR3 (w : World) (N : Array Value) (ls : List Lk) (q : Int) (i gk : Nat) (kv : Value) (wr : World) : Prop := ∃ k : Nat, kv = .int .i64 k ∧ k ≤ i ∧ gk = i - k ∧ Hid (usdL (ls.take k) q = false) ∧ Hid (Blk wr w.heap.size 30 N) ∧ Hid (Below w.heap.size w wr)
theorem oth_snoc {ls : List Lk} {k : Nat} {x cur : Lk} (hx : ls[k]? = some x) (h : othL (ls.take k) cur = false) : othL (ls.take (k + 1)) cur = othB cur x := by
 unfold othL at *; rw [take_snoc hx, List.any_append, h]; simp
theorem usd_snoc {ls : List Lk} {k : Nat} {x : Lk} {q : Int} (hx : ls[k]? = some x) (h : usdL (ls.take k) q = false) : usdL (ls.take (k + 1)) q = decide (x.key = q) := by
 unfold usdL at *; rw [take_snoc hx, List.any_append, h]; simp
theorem oth_up {ls : List Lk} {k i : Nat} {cur : Lk} (h : othL (ls.take k) cur = true) (hk : k ≤ i) : othL (ls.take i) cur = true := by
 unfold othL at *
 rw [List.any_eq_true] at *
 obtain ⟨x, hx, hb⟩ := h
 exact ⟨x, (List.take_sublist_take_left hk).subset hx, hb⟩
theorem usd_up {ls : List Lk} {k i : Nat} {q : Int} (h : usdL (ls.take k) q = true) (hk : k ≤ i) : usdL (ls.take i) q = true := by
 unfold usdL at *
 rw [List.any_eq_true] at *
 obtain ⟨x, hx, hb⟩ := h
 exact ⟨x, (List.take_sublist_take_left hk).subset hx, hb⟩
theorem rlcheck_any (An Ad Al : Option Addr) (nn cn nd cd n c Bn Bd Bl : Nat) (ns : List Nd) (ds : List Dv) (ls : List Lk) (w : World) (hn : Sl w Bn 3 An nn cn (ns.flatMap Nd.cells)) (hd : Sl w Bd 5 Ad nd cd (ds.flatMap Dv.cells)) (hs : Sl w Bl 3 Al n c (ls.flatMap Lk.cells)) (hBn : Bn ≤ w.heap.size) (hBd : Bd ≤ w.heap.size) (hBl : Bl ≤ w.heap.size)
 (hsn : ∀ x ∈ ns, x.name.size ≤ 9223372036854775807) (hsd : ∀ x ∈ ds, x.name.size ≤ 9223372036854775807) :
 Calls Tryz.prog 84 #[.agg #[.slice An nn cn, .slice Ad nd cd], .slice Al n c] w fun e w' => e = .returned (.int .i64 (locksErr ns ds ls)) ∧ Below w.heap.size w w' := by
 have HLL := Lib.hid (hs.len (fun _ => rfl) (by decide))
 have HCK := Lib.hid (rcheck_any An Ad nn cn nd cd Bn Bd ns ds (w.alloc (.cells #[.slice An nn cn, .slice Ad nd cd] 30)) (hn.alloc hBn _) (hd.alloc hBd _) (by simp; omega) (by simp; omega) hsn hsd)
 have HE : Hid (locksErr ns ds ls = if checkN ns ds ≠ 0 then checkN ns ds else if 128 < n then 1 else firstE ds ls n) := by unfold Hid locksErr; rw [HLL.out]
 have HD := Lib.hid hd; have HS := Lib.hid hs
 have hle := hs.le
 have HK := Lib.hid (Blk.new w 30 #[.slice An nn cn, .slice Ad nd cd])
 have HBW : Hid (Below w.heap.size w (w.alloc (.cells #[.slice An nn cn, .slice Ad nd cd] 30))) := (Below.refl _ _).alloc (Nat.le_refl _) _
 clear hn hd hs hsn hsd
 generalize checkN ns ds = er at *
 by_cases h0 : er = 0; rotate_left
 ·have h0' : (er != 0) = true := by simpa using h0
  have HR : Hid (locksErr ns ds ls = er) := by unfold Hid; rw [HE.out, if_pos h0]
  clear h0
  go_enter Tryz.func84, Tryz.ntmps84
  go_wp2_with fail
  refine HCK.out.mono ?_
  rintro e w1 ⟨rfl, hb1⟩
  go_wp2_with fail
  go_ret
  exact ⟨ret_int (by rw [HR.out]), HBW.out.trans (hb1.mono (by simp))⟩
 subst h0
 by_cases h128 : 128 < n
 ·have q : decide ((128 : Int) < (n : Int)) = true := by simp; omega
  have HR : Hid (locksErr ns ds ls = 1) := by unfold Hid; rw [HE.out, if_neg (by simp), if_pos h128]
  go_enter Tryz.func84, Tryz.ntmps84
  go_wp2_with fail
  refine HCK.out.mono ?_
  rintro e w1 ⟨rfl, hb1⟩
  go_wp2_with fail
  go_ret
  exact ⟨ret_int (by rw [HR.out]), HBW.out.trans (hb1.mono (by simp))⟩
 have q : decide ((128 : Int) < (n : Int)) = false := by simp; omega
 have HR : Hid (locksErr ns ds ls = firstE ds ls n) := by unfold Hid; rw [HE.out, if_neg (by simp), if_neg h128]
 have hn128 : n ≤ 128 := by omega
 clear HE h128
 go_enter Tryz.func84, Tryz.ntmps84
 go_wp2_with fail
 refine HCK.out.mono ?_
 rintro e w1 ⟨rfl, hb1⟩
 have HK1 := Lib.hid (HK.out.below hb1 (by simp))
 have HB1 := Lib.hid (HBW.out.trans (hb1.mono (by simp)))
 clear hb1 HCK HK HBW
 go_wp2_with fail
 clear q
 go_loopg [6] n (RkR w #[.slice An nn cn, .slice Ad nd cd] ds ls n)
 case atStart => exact ⟨0, rfl, Nat.zero_le _, rfl, rfl, HK1, HB1⟩
 case round =>
  clear HK1 HB1
  obtain ⟨i, rfl, hi, rfl, hfe, hbk, hbl⟩ := hrel
  by_cases hlt : i < n
  ·obtain ⟨b, off, d, p, q, rfl, hb, hx, c0, c1, c2⟩ := (HS.out.below hbl.out hBl).lock hlt
   have HX := Lib.hid hx
   have HEA := Lib.hid (errAt_of (ds := ds) hx)
   have k0 := hbk.out.c0
   have k1 := hbk.out.c1
   have hzr := hbl.out.size
   have HFA := Lib.hid (rfault_any An Ad nn cn nd cd Bd ds d p q wr.drew (HD.out.below hbl.out.drew hBd) (by simp; omega))
   have HCS : Hid (wr.cell? ⟨w.heap.size, 0, none⟩ = some (.slice An nn cn) ∧ wr.cell? ⟨w.heap.size, 1, none⟩ = some (.slice Ad nd cd) ∧ wr.cell? ⟨b, off + i * 3, none⟩ = some (.int .i64 d) ∧ wr.cell? ⟨b, off + i * 3 + 1, none⟩ = some (.int .i64 p) ∧ wr.cell? ⟨b, off + i * 3 + 2, none⟩ = some (.int .i64 q)) := ⟨k0, k1, c0, c1, c2⟩
   clear hx k0 k1 c0 c1 c2
   generalize lkErr ds ⟨d, p, q⟩ = er at *
   go_upto_region 9 with (fail)
   refine wp_region_J (S := fun W' => W'.cell? ⟨w.heap.size, 0, none⟩ = some (.slice An nn cn) ∧ W'.cell? ⟨w.heap.size, 1, none⟩ = some (.slice Ad nd cd) ∧ W'.cell? ⟨b, off + i * 3, none⟩ = some (.int .i64 d) ∧ W'.cell? ⟨b, off + i * 3 + 1, none⟩ = some (.int .i64 p) ∧ W'.cell? ⟨b, off + i * 3 + 2, none⟩ = some (.int .i64 q)) (J := []) (by kernel_rfl) ?_ (fun hHeld => ?_)
   ·exact HCS.out
   try dsimp only at hHeld
   refine tk 0 24 (mf 7 1) hHeld ?_
   refine tk 1 25 (mf 7 2) hHeld ?_
   refine tk 2 26 (mf 7 3) hHeld ?_
   refine tk 3 27 (mf 7 4) hHeld ?_
   refine tk 4 28 (mf 7 5) hHeld ?_
   refine wpAnyJ_oneL (k := 5) (mf 7 6) (by kernel_rfl) (by kernel_rfl) rfl (fun K hK => ?_)
   (go_simp; refine HFA.out.mono ?_; rintro e w2 ⟨rfl, hb2⟩; go_simp)
   refine hK.out _ _ (fun _ => ?_) (fun hHeld' => ?_)
   ·exact ⟨keep_cell hb2 HCS.out.1, keep_cell hb2 HCS.out.2.1, keep_cell hb2 HCS.out.2.2.1, keep_cell hb2 HCS.out.2.2.2.1, keep_cell hb2 HCS.out.2.2.2.2⟩
   replace hHeld := hHeld' rfl
   clear hHeld' hK K
   try dsimp only at hHeld
   refine tk 6 7 (mf 7 7) hHeld ?_
   refine wpAnyJ_done (by kernel_rfl) ?_ _
   have HB2 := Lib.hid (hbl.out.drew.trans (hb2.mono hzr))
   have HK2 := Lib.hid ((show Blk wr.drew w.heap.size 30 #[.slice An nn cn, .slice Ad nd cd] from hbk.out).below hb2 hbk.out.lt)
   have HC2 := Lib.hid hHeld
   clear hHeld hb2 hbl hbk HCS HFA hzr
   by_cases he : er = 0; rotate_left
   ·have qe : (er != 0) = true := by simpa using he
    have HRE := Lib.hid (firstE_stop hfe.out (by rw [HEA.out, if_pos he]) he n hlt)
    clear he
    go_wp2_with fail
    go_ret
    exact ⟨ret_int (by rw [HR.out, HRE.out]), HB2.out⟩
   subst he
   rcases Nat.eq_zero_or_pos i with hi0 | hi0
   ·have qi : decide ((0 : Int) < (i : Int)) = false := by simp; omega
    have qi2 : decide (0 < i) = false := by simp; omega
    have HOB : Hid (ordBad ls i ⟨d, p, q⟩ = false) := by rw [hi0]; exact ordBad_zero _ _
    clear hi0
    go_upto_region 12 with (fail)
    refine wp_region_J (S := fun _ => True) (J := []) (by kernel_rfl) ?_ (fun hHeld => ?_)
    ·exact trivial
    try dsimp only at hHeld
    refine tk 0 33 (mf 15 1) hHeld ?_
    refine tk 1 34 (mf 15 2) hHeld ?_
    refine tk 2 35 (mf 15 3) hHeld ?_
    refine ts 3 36 (mf 15 4) hHeld ?_
    refine ts 4 37 (mf 15 5) hHeld ?_
    refine ts 5 38 (mf 15 6) hHeld ?_
    refine ts 6 39 (mf 15 7) hHeld ?_
    refine ts 7 40 (mf 15 8) hHeld ?_
    refine ts 8 41 (mf 15 9) hHeld ?_
    refine ts 9 42 (mf 15 10) hHeld ?_
    refine ts 10 43 (mf 15 11) hHeld ?_
    refine ts 11 44 (mf 15 12) hHeld ?_
    refine ts 12 45 (mf 15 13) hHeld ?_
    refine ts 13 46 (mf 15 14) hHeld ?_
    refine tk 14 47 (mf 15 15) hHeld ?_
    refine wpAnyJ_done (by kernel_rfl) ?_ _
    clear hHeld
    have hbk3 := HK2.out; have hbl3 := HB2.out.drew
    clear HK2 HB2 HC2
    have HK3 := Lib.hid hbk3; have HB3 := Lib.hid hbl3
    clear hbk3 hbl3
    go_wp2_with fail
    go_loopg [8] i (RkR2 w #[.slice An nn cn, .slice Ad nd cd] ls ⟨d, p, q⟩ i)
    case atStart => exact ⟨0, rfl, Nat.zero_le _, rfl, rfl, HK3, HB3⟩
    case round =>
     clear HK3 HB3
     obtain ⟨k, rfl, hk, rfl, hot, hbk, hbl⟩ := hrel
     by_cases hkt : k < i
     ·obtain ⟨b1, off1, d1, p1, q1, hA1, _, hx1, e0, e1, _⟩ := (HS.out.below hbl.out hBl).lock (i := k) (by omega)
      injection hA1 with hA1; injection hA1 with h1 h2; subst h1 h2
      obtain ⟨b2, off2, d2, p2, q2, hA2, _, hx2, f0, f1, _⟩ := (HS.out.below hbl.out hBl).lock hlt
      injection hA2 with hA2; injection hA2 with h1 h2; subst h1 h2
      rw [HX.out] at hx2
      injection hx2 with hx2; injection hx2 with h1 h2 h3; subst h1 h2 h3
      have HX1 := Lib.hid hx1
      have hkn : k < n := by omega
      have HCS : Hid (wr.cell? ⟨b, off + k * 3, none⟩ = some (.int .i64 d1) ∧ wr.cell? ⟨b, off + k * 3 + 1, none⟩ = some (.int .i64 p1) ∧ wr.cell? ⟨b, off + i * 3, none⟩ = some (.int .i64 d) ∧ wr.cell? ⟨b, off + i * 3 + 1, none⟩ = some (.int .i64 p)) := ⟨e0, e1, f0, f1⟩
      clear hx1 e0 e1 f0 f1
      by_cases hdd : d1 = d
      ·subst hdd
       have qd : (d1 == d1) = true := by simp
       by_cases hpp : p1 = p
       ·subst hpp
        have qp : (p1 != p1) = false := by simp
        have HO2 : Hid (othL (ls.take (k + 1)) ⟨d1, p1, q⟩ = false) := by unfold Hid; rw [oth_snoc HX1.out hot.out]; simp [othB]
        go_upto_region 17 with (fail)
        refine wp_region_J (S := fun W' => W'.cell? ⟨b, off + k * 3, none⟩ = some (.int .i64 d1) ∧ W'.cell? ⟨b, off + k * 3 + 1, none⟩ = some (.int .i64 p1) ∧ W'.cell? ⟨b, off + i * 3, none⟩ = some (.int .i64 d1) ∧ W'.cell? ⟨b, off + i * 3 + 1, none⟩ = some (.int .i64 p1)) (J := []) (by kernel_rfl) ?_ (fun hHeld => ?_)
        ·exact HCS.out
        try dsimp only at hHeld
        refine tk 0 53 (mf 24 1) hHeld ?_
        refine tk 1 54 (mf 24 2) hHeld ?_
        refine tk 2 55 (mf 24 3) hHeld ?_
        refine tk 3 56 (mf 24 4) hHeld ?_
        refine tk 4 57 (mf 24 5) hHeld ?_
        refine tk 5 58 (mf 24 6) hHeld ?_
        refine tk 6 59 (mf 24 7) hHeld ?_
        refine tk 7 60 (mf 24 8) hHeld ?_
        refine tk 8 61 (mf 24 9) hHeld ?_
        refine tk 9 62 (mf 24 10) hHeld ?_
        refine tk 10 63 (mf 24 11) hHeld ?_
        refine tk 11 64 (mf 24 12) hHeld ?_
        refine tk 12 65 (mf 24 13) hHeld ?_
        refine tk 13 66 (mf 24 14) hHeld ?_
        refine tk 14 67 (mf 24 15) hHeld ?_
        refine tk 15 68 (mf 24 16) hHeld ?_
        refine tk 16 69 (mf 24 17) hHeld ?_
        refine tk 17 70 (mf 24 18) hHeld ?_
        refine tk 18 71 (mf 24 19) hHeld ?_
        refine tk 19 72 (mf 24 20) hHeld ?_
        refine tk 20 73 (mf 24 21) hHeld ?_
        refine tk 21 74 (mf 24 22) hHeld ?_
        refine tk 22 75 (mf 24 23) hHeld ?_
        refine tk 23 76 (mf 24 24) hHeld ?_
        refine wpAnyJ_done (by kernel_rfl) ?_ _
        clear hHeld
        go_wp2_with fail
        go_roundg (i - (k + 1))
        case rel => exact ⟨k + 1, by go_num, by omega, rfl, HO2, hbk, hbl.out.drew⟩
        case measure => omega
       ·have qp : (p1 != p) = true := by simpa using hpp
        have HO2 : Hid (othL (ls.take i) ⟨d1, p, q⟩ = true) := oth_up (k := k + 1) (by rw [oth_snoc HX1.out hot.out]; simp [othB]; exact hpp) (by omega)
        have HEE : Hid (errAt ds ls i = 18) := by unfold Hid; rw [HEA.out, if_neg (by simp), if_neg (by rw [HOB.out]; simp), if_pos HO2.out]
        have HRE := Lib.hid (firstE_stop hfe.out HEE.out (by decide) n hlt)
        clear hpp
        go_upto_region 17 with (fail)
        refine wp_region_J (S := fun W' => W'.cell? ⟨b, off + k * 3, none⟩ = some (.int .i64 d1) ∧ W'.cell? ⟨b, off + k * 3 + 1, none⟩ = some (.int .i64 p1) ∧ W'.cell? ⟨b, off + i * 3, none⟩ = some (.int .i64 d1) ∧ W'.cell? ⟨b, off + i * 3 + 1, none⟩ = some (.int .i64 p)) (J := []) (by kernel_rfl) ?_ (fun hHeld => ?_)
        ·exact HCS.out
        try dsimp only at hHeld
        refine tk 0 53 (mf 24 1) hHeld ?_
        refine tk 1 54 (mf 24 2) hHeld ?_
        refine tk 2 55 (mf 24 3) hHeld ?_
        refine tk 3 56 (mf 24 4) hHeld ?_
        refine tk 4 57 (mf 24 5) hHeld ?_
        refine tk 5 58 (mf 24 6) hHeld ?_
        refine tk 6 59 (mf 24 7) hHeld ?_
        refine tk 7 60 (mf 24 8) hHeld ?_
        refine tk 8 61 (mf 24 9) hHeld ?_
        refine tk 9 62 (mf 24 10) hHeld ?_
        refine tk 10 63 (mf 24 11) hHeld ?_
        refine tk 11 64 (mf 24 12) hHeld ?_
        refine tk 12 65 (mf 24 13) hHeld ?_
        refine tk 13 66 (mf 24 14) hHeld ?_
        refine tk 14 67 (mf 24 15) hHeld ?_
        refine tk 15 68 (mf 24 16) hHeld ?_
        refine tk 16 69 (mf 24 17) hHeld ?_
        refine tk 17 70 (mf 24 18) hHeld ?_
        refine tk 18 71 (mf 24 19) hHeld ?_
        refine tk 19 72 (mf 24 20) hHeld ?_
        refine tk 20 73 (mf 24 21) hHeld ?_
        refine tk 21 74 (mf 24 22) hHeld ?_
        refine tk 22 75 (mf 24 23) hHeld ?_
        refine tk 23 76 (mf 24 24) hHeld ?_
        refine wpAnyJ_done (by kernel_rfl) ?_ _
        clear hHeld
        go_wp2_with fail
        go_ret
        exact ⟨ret_int (by rw [HR.out, HRE.out]), hbl.out.drew⟩
      ·have qd : (d1 == d) = false := by simpa using hdd
       have HO2 : Hid (othL (ls.take (k + 1)) ⟨d, p, q⟩ = false) := by unfold Hid; rw [oth_snoc HX1.out hot.out]; simp [othB]; intro h; exact absurd h hdd
       clear hdd
       go_upto_region 17 with (fail)
       refine wp_region_J (S := fun W' => W'.cell? ⟨b, off + k * 3, none⟩ = some (.int .i64 d1) ∧ W'.cell? ⟨b, off + k * 3 + 1, none⟩ = some (.int .i64 p1) ∧ W'.cell? ⟨b, off + i * 3, none⟩ = some (.int .i64 d) ∧ W'.cell? ⟨b, off + i * 3 + 1, none⟩ = some (.int .i64 p)) (J := []) (by kernel_rfl) ?_ (fun hHeld => ?_)
       ·exact HCS.out
       try dsimp only at hHeld
       refine tk 0 53 (mf 24 1) hHeld ?_
       refine tk 1 54 (mf 24 2) hHeld ?_
       refine tk 2 55 (mf 24 3) hHeld ?_
       refine tk 3 56 (mf 24 4) hHeld ?_
       refine tk 4 57 (mf 24 5) hHeld ?_
       refine tk 5 58 (mf 24 6) hHeld ?_
       refine tk 6 59 (mf 24 7) hHeld ?_
       refine tk 7 60 (mf 24 8) hHeld ?_
       refine tk 8 61 (mf 24 9) hHeld ?_
       refine tk 9 62 (mf 24 10) hHeld ?_
       refine tk 10 63 (mf 24 11) hHeld ?_
       refine tk 11 64 (mf 24 12) hHeld ?_
       refine ts 12 65 (mf 24 13) hHeld ?_
       refine ts 13 66 (mf 24 14) hHeld ?_
       refine ts 14 67 (mf 24 15) hHeld ?_
       refine ts 15 68 (mf 24 16) hHeld ?_
       refine ts 16 69 (mf 24 17) hHeld ?_
       refine ts 17 70 (mf 24 18) hHeld ?_
       refine ts 18 71 (mf 24 19) hHeld ?_
       refine ts 19 72 (mf 24 20) hHeld ?_
       refine ts 20 73 (mf 24 21) hHeld ?_
       refine ts 21 74 (mf 24 22) hHeld ?_
       refine ts 22 75 (mf 24 23) hHeld ?_
       refine tk 23 76 (mf 24 24) hHeld ?_
       refine wpAnyJ_done (by kernel_rfl) ?_ _
       clear hHeld
       go_wp2_with fail
       go_roundg (i - (k + 1))
       case rel => exact ⟨k + 1, by go_num, by omega, rfl, HO2, hbk, hbl.out.drew⟩
       case measure => omega
     ·obtain rfl : k = i := by omega
      have hkk : decide (k < k) = false := by simp
      go_wp2_with fail
      clear hkk
      go_loopg [9] k (RkR3 w #[.slice An nn cn, .slice Ad nd cd] ls q k)
      case atStart => exact ⟨0, rfl, Nat.zero_le _, rfl, rfl, hbk, hbl⟩
      case round =>
       clear hbk hbl
       obtain ⟨j, rfl, hj, rfl, hus, hbk, hbl⟩ := hrel
       by_cases hjt : j < k
       ·obtain ⟨b1, off1, d1, p1, q1, hA1, _, hx1, _, _, e2⟩ := (HS.out.below hbl.out hBl).lock (i := j) (by omega)
        injection hA1 with hA1; injection hA1 with h1 h2; subst h1 h2
        obtain ⟨b2, off2, d2, p2, q2, hA2, _, hx2, _, _, f2⟩ := (HS.out.below hbl.out hBl).lock hlt
        injection hA2 with hA2; injection hA2 with h1 h2; subst h1 h2
        rw [HX.out] at hx2
        injection hx2 with hx2; injection hx2 with h1 h2 h3; subst h1 h2 h3
        have HX1 := Lib.hid hx1
        have hjn : j < n := by omega
        have HCS : Hid (wr.cell? ⟨b, off + j * 3 + 2, none⟩ = some (.int .i64 q1) ∧ wr.cell? ⟨b, off + k * 3 + 2, none⟩ = some (.int .i64 q)) := ⟨e2, f2⟩
        clear hx1 e2 f2
        by_cases hqq : q1 = q
        ·subst hqq
         have qd : (q1 == q1) = true := by simp
         have HO2 : Hid (usdL (ls.take k) q1 = true) := usd_up (k := j + 1) (by rw [usd_snoc HX1.out hus.out]; simp) (by omega)
         have HEE : Hid (errAt ds ls k = 4) := by unfold Hid; rw [HEA.out, if_neg (by simp), if_neg (by rw [HOB.out]; simp), if_neg (by rw [hot.out]; simp), if_pos HO2.out]
         have HRE := Lib.hid (firstE_stop hfe.out HEE.out (by decide) n hlt)
         go_upto_region 22 with (fail)
         refine wp_region_J (S := fun W' => W'.cell? ⟨b, off + j * 3 + 2, none⟩ = some (.int .i64 q1) ∧ W'.cell? ⟨b, off + k * 3 + 2, none⟩ = some (.int .i64 q1)) (J := []) (by kernel_rfl) ?_ (fun hHeld => ?_)
         ·exact HCS.out
         try dsimp only at hHeld
         refine tk 0 82 (mf 11 1) hHeld ?_
         refine tk 1 83 (mf 11 2) hHeld ?_
         refine tk 2 84 (mf 11 3) hHeld ?_
         refine tk 3 85 (mf 11 4) hHeld ?_
         refine tk 4 86 (mf 11 5) hHeld ?_
         refine tk 5 87 (mf 11 6) hHeld ?_
         refine tk 6 88 (mf 11 7) hHeld ?_
         refine tk 7 89 (mf 11 8) hHeld ?_
         refine tk 8 90 (mf 11 9) hHeld ?_
         refine tk 9 91 (mf 11 10) hHeld ?_
         refine tk 10 92 (mf 11 11) hHeld ?_
         refine wpAnyJ_done (by kernel_rfl) ?_ _
         clear hHeld
         go_wp2_with fail
         go_ret
         exact ⟨ret_int (by rw [HR.out, HRE.out]), hbl.out.drew⟩
        ·have qd : (q1 == q) = false := by simpa using hqq
         have HO2 : Hid (usdL (ls.take (j + 1)) q = false) := by unfold Hid; rw [usd_snoc HX1.out hus.out]; simpa using hqq
         clear hqq
         go_upto_region 22 with (fail)
         refine wp_region_J (S := fun W' => W'.cell? ⟨b, off + j * 3 + 2, none⟩ = some (.int .i64 q1) ∧ W'.cell? ⟨b, off + k * 3 + 2, none⟩ = some (.int .i64 q)) (J := []) (by kernel_rfl) ?_ (fun hHeld => ?_)
         ·exact HCS.out
         try dsimp only at hHeld
         refine tk 0 82 (mf 11 1) hHeld ?_
         refine tk 1 83 (mf 11 2) hHeld ?_
         refine tk 2 84 (mf 11 3) hHeld ?_
         refine tk 3 85 (mf 11 4) hHeld ?_
         refine tk 4 86 (mf 11 5) hHeld ?_
         refine tk 5 87 (mf 11 6) hHeld ?_
         refine tk 6 88 (mf 11 7) hHeld ?_
         refine tk 7 89 (mf 11 8) hHeld ?_
         refine tk 8 90 (mf 11 9) hHeld ?_
         refine tk 9 91 (mf 11 10) hHeld ?_
         refine tk 10 92 (mf 11 11) hHeld ?_
         refine wpAnyJ_done (by kernel_rfl) ?_ _
         clear hHeld
         go_wp2_with fail
         go_roundg (k - (j + 1))
         case rel => exact ⟨j + 1, by go_num, by omega, rfl, HO2, hbk, hbl.out.drew⟩
         case measure => omega
       ·obtain rfl : j = k := by omega
        have hjj : decide (j < j) = false := by simp
        have HEE : Hid (errAt ds ls j = 0) := by unfold Hid; rw [HEA.out, if_neg (by simp), if_neg (by rw [HOB.out]; simp), if_neg (by rw [hot.out]; simp), if_neg (by rw [hus.out]; simp)]
        have HFN := Lib.hid (firstE_next hfe.out HEE.out)
        go_wp2_with fail
        go_roundg (n - (j + 1))
        case rel => exact ⟨j + 1, by go_num, by omega, rfl, HFN, hbk, hbl⟩
        case measure => omega
   ·obtain ⟨b1, off1, d1, p1, q1, hA1, _, hx1, g0, g1, g2⟩ := (HS.out.below HB2.out hBl).lock (i := i - 1) (by omega)
    injection hA1 with hA1; injection hA1 with h1 h2; subst h1 h2
    have HOB := Lib.hid (ordBad_at (k := ⟨d, p, q⟩) hi0 hx1)
    have HCS : Hid (w2.cell? ⟨b, off + (i - 1) * 3, none⟩ = some (.int .i64 d1) ∧ w2.cell? ⟨b, off + (i - 1) * 3 + 1, none⟩ = some (.int .i64 p1) ∧ w2.cell? ⟨b, off + (i - 1) * 3 + 2, none⟩ = some (.int .i64 q1) ∧ w2.cell? ⟨b, off + i * 3, none⟩ = some (.int .i64 d) ∧ w2.cell? ⟨b, off + i * 3 + 1, none⟩ = some (.int .i64 p) ∧ w2.cell? ⟨b, off + i * 3 + 2, none⟩ = some (.int .i64 q)) := ⟨g0, g1, g2, HC2.out.2.2.1, HC2.out.2.2.2.1, HC2.out.2.2.2.2⟩
    clear g0 g1 g2 hx1 HC2
    obtain ⟨i1, hi1⟩ : ∃ i1, i1 = i - 1 := ⟨_, rfl⟩
    rw [← hi1] at HCS
    have e1 : IntKind.i64.wrap ((i : Int) - 1) = (i1 : Int) := by rw [IntWalk.i64_in _ (by omega)]; omega
    have hi1n : i1 < n := by omega
    have qi : decide ((0 : Int) < (i : Int)) = true := by simp; omega
    clear hi1
    have HBE := Lib.hid (before_any ⟨d1, p1, q1⟩ ⟨d, p, q⟩ w2.drew)
    generalize befB ⟨d1, p1, q1⟩ ⟨d, p, q⟩ = bb at *
    have hz2 := HB2.out.size
    go_upto_region 12 with (fail)
    refine wp_region_J (S := fun W' => W'.cell? ⟨b, off + i1 * 3, none⟩ = some (.int .i64 d1) ∧ W'.cell? ⟨b, off + i1 * 3 + 1, none⟩ = some (.int .i64 p1) ∧ W'.cell? ⟨b, off + i1 * 3 + 2, none⟩ = some (.int .i64 q1) ∧ W'.cell? ⟨b, off + i * 3, none⟩ = some (.int .i64 d) ∧ W'.cell? ⟨b, off + i * 3 + 1, none⟩ = some (.int .i64 p) ∧ W'.cell? ⟨b, off + i * 3 + 2, none⟩ = some (.int .i64 q)) (J := []) (by kernel_rfl) ?_ (fun hHeld => ?_)
    ·exact HCS.out
    try dsimp only at hHeld
    refine tk 0 33 (mf 15 1) hHeld ?_
    refine tk 1 34 (mf 15 2) hHeld ?_
    refine tk 2 35 (mf 15 3) hHeld ?_
    refine tk 3 36 (mf 15 4) hHeld ?_
    refine tk 4 37 (mf 15 5) hHeld ?_
    refine tk 5 38 (mf 15 6) hHeld ?_
    refine tk 6 39 (mf 15 7) hHeld ?_
    refine tk 7 40 (mf 15 8) hHeld ?_
    refine tk 8 41 (mf 15 9) hHeld ?_
    refine tk 9 42 (mf 15 10) hHeld ?_
    refine tk 10 43 (mf 15 11) hHeld ?_
    refine tk 11 44 (mf 15 12) hHeld ?_
    refine wpAnyJ_oneL (k := 12) (mf 15 13) (by kernel_rfl) (by kernel_rfl) rfl (fun K hK => ?_)
    (go_simp; refine HBE.out.mono ?_; rintro e w3 ⟨rfl, hb3⟩; go_simp)
    refine hK.out _ _ (fun _ => ?_) (fun hHeld' => ?_)
    ·exact ⟨keep_cell hb3 HCS.out.1, keep_cell hb3 HCS.out.2.1, keep_cell hb3 HCS.out.2.2.1, keep_cell hb3 HCS.out.2.2.2.1, keep_cell hb3 HCS.out.2.2.2.2.1, keep_cell hb3 HCS.out.2.2.2.2.2⟩
    replace hHeld := hHeld' rfl
    clear hHeld' hK K
    try dsimp only at hHeld
    refine tk 13 46 (mf 15 14) hHeld ?_
    refine tk 14 47 (mf 15 15) hHeld ?_
    refine wpAnyJ_done (by kernel_rfl) ?_ _
    clear hHeld e1
    have hbk3 := (show Blk w2.drew w.heap.size 30 #[.slice An nn cn, .slice Ad nd cd] from HK2.out).below hb3 HK2.out.lt; have hbl3 := HB2.out.drew.trans (hb3.mono hz2)
    clear HK2 HB2 hb3 HCS HBE
    rcases bb with _ | _
    ·have HRE := Lib.hid (firstE_stop hfe.out (by rw [HEA.out, if_neg (by simp), if_pos (by rw [HOB.out]; rfl)]) (by decide) n hlt)
     go_wp2_with fail
     go_ret
     exact ⟨ret_int (by rw [HR.out, HRE.out]), hbl3⟩
    replace HOB : Hid (ordBad ls i ⟨d, p, q⟩ = false) := by unfold Hid; rw [HOB.out]; rfl
    have HK3 := Lib.hid hbk3; have HB3 := Lib.hid hbl3
    clear hbk3 hbl3
    go_wp2_with fail
    go_loopg [8] i (RkR2 w #[.slice An nn cn, .slice Ad nd cd] ls ⟨d, p, q⟩ i)
    case atStart => exact ⟨0, rfl, Nat.zero_le _, rfl, rfl, HK3, HB3⟩
    case round =>
     clear HK3 HB3
     obtain ⟨k, rfl, hk, rfl, hot, hbk, hbl⟩ := hrel
     by_cases hkt : k < i
     ·obtain ⟨b1, off1, d1, p1, q1, hA1, _, hx1, e0, e1, _⟩ := (HS.out.below hbl.out hBl).lock (i := k) (by omega)
      injection hA1 with hA1; injection hA1 with h1 h2; subst h1 h2
      obtain ⟨b2, off2, d2, p2, q2, hA2, _, hx2, f0, f1, _⟩ := (HS.out.below hbl.out hBl).lock hlt
      injection hA2 with hA2; injection hA2 with h1 h2; subst h1 h2
      rw [HX.out] at hx2
      injection hx2 with hx2; injection hx2 with h1 h2 h3; subst h1 h2 h3
      have HX1 := Lib.hid hx1
      have hkn : k < n := by omega
      have HCS : Hid (wr.cell? ⟨b, off + k * 3, none⟩ = some (.int .i64 d1) ∧ wr.cell? ⟨b, off + k * 3 + 1, none⟩ = some (.int .i64 p1) ∧ wr.cell? ⟨b, off + i * 3, none⟩ = some (.int .i64 d) ∧ wr.cell? ⟨b, off + i * 3 + 1, none⟩ = some (.int .i64 p)) := ⟨e0, e1, f0, f1⟩
      clear hx1 e0 e1 f0 f1
      by_cases hdd : d1 = d
      ·subst hdd
       have qd : (d1 == d1) = true := by simp
       by_cases hpp : p1 = p
       ·subst hpp
        have qp : (p1 != p1) = false := by simp
        have HO2 : Hid (othL (ls.take (k + 1)) ⟨d1, p1, q⟩ = false) := by unfold Hid; rw [oth_snoc HX1.out hot.out]; simp [othB]
        go_upto_region 17 with (fail)
        refine wp_region_J (S := fun W' => W'.cell? ⟨b, off + k * 3, none⟩ = some (.int .i64 d1) ∧ W'.cell? ⟨b, off + k * 3 + 1, none⟩ = some (.int .i64 p1) ∧ W'.cell? ⟨b, off + i * 3, none⟩ = some (.int .i64 d1) ∧ W'.cell? ⟨b, off + i * 3 + 1, none⟩ = some (.int .i64 p1)) (J := []) (by kernel_rfl) ?_ (fun hHeld => ?_)
        ·exact HCS.out
        try dsimp only at hHeld
        refine tk 0 53 (mf 24 1) hHeld ?_
        refine tk 1 54 (mf 24 2) hHeld ?_
        refine tk 2 55 (mf 24 3) hHeld ?_
        refine tk 3 56 (mf 24 4) hHeld ?_
        refine tk 4 57 (mf 24 5) hHeld ?_
        refine tk 5 58 (mf 24 6) hHeld ?_
        refine tk 6 59 (mf 24 7) hHeld ?_
        refine tk 7 60 (mf 24 8) hHeld ?_
        refine tk 8 61 (mf 24 9) hHeld ?_
        refine tk 9 62 (mf 24 10) hHeld ?_
        refine tk 10 63 (mf 24 11) hHeld ?_
        refine tk 11 64 (mf 24 12) hHeld ?_
        refine tk 12 65 (mf 24 13) hHeld ?_
        refine tk 13 66 (mf 24 14) hHeld ?_
        refine tk 14 67 (mf 24 15) hHeld ?_
        refine tk 15 68 (mf 24 16) hHeld ?_
        refine tk 16 69 (mf 24 17) hHeld ?_
        refine tk 17 70 (mf 24 18) hHeld ?_
        refine tk 18 71 (mf 24 19) hHeld ?_
        refine tk 19 72 (mf 24 20) hHeld ?_
        refine tk 20 73 (mf 24 21) hHeld ?_
        refine tk 21 74 (mf 24 22) hHeld ?_
        refine tk 22 75 (mf 24 23) hHeld ?_
        refine tk 23 76 (mf 24 24) hHeld ?_
        refine wpAnyJ_done (by kernel_rfl) ?_ _
        clear hHeld
        go_wp2_with fail
        go_roundg (i - (k + 1))
        case rel => exact ⟨k + 1, by go_num, by omega, rfl, HO2, hbk, hbl.out.drew⟩
        case measure => omega
       ·have qp : (p1 != p) = true := by simpa using hpp
        have HO2 : Hid (othL (ls.take i) ⟨d1, p, q⟩ = true) := oth_up (k := k + 1) (by rw [oth_snoc HX1.out hot.out]; simp [othB]; exact hpp) (by omega)
        have HEE : Hid (errAt ds ls i = 18) := by unfold Hid; rw [HEA.out, if_neg (by simp), if_neg (by rw [HOB.out]; simp), if_pos HO2.out]
        have HRE := Lib.hid (firstE_stop hfe.out HEE.out (by decide) n hlt)
        clear hpp
        go_upto_region 17 with (fail)
        refine wp_region_J (S := fun W' => W'.cell? ⟨b, off + k * 3, none⟩ = some (.int .i64 d1) ∧ W'.cell? ⟨b, off + k * 3 + 1, none⟩ = some (.int .i64 p1) ∧ W'.cell? ⟨b, off + i * 3, none⟩ = some (.int .i64 d1) ∧ W'.cell? ⟨b, off + i * 3 + 1, none⟩ = some (.int .i64 p)) (J := []) (by kernel_rfl) ?_ (fun hHeld => ?_)
        ·exact HCS.out
        try dsimp only at hHeld
        refine tk 0 53 (mf 24 1) hHeld ?_
        refine tk 1 54 (mf 24 2) hHeld ?_
        refine tk 2 55 (mf 24 3) hHeld ?_
        refine tk 3 56 (mf 24 4) hHeld ?_
        refine tk 4 57 (mf 24 5) hHeld ?_
        refine tk 5 58 (mf 24 6) hHeld ?_
        refine tk 6 59 (mf 24 7) hHeld ?_
        refine tk 7 60 (mf 24 8) hHeld ?_
        refine tk 8 61 (mf 24 9) hHeld ?_
        refine tk 9 62 (mf 24 10) hHeld ?_
        refine tk 10 63 (mf 24 11) hHeld ?_
        refine tk 11 64 (mf 24 12) hHeld ?_
        refine tk 12 65 (mf 24 13) hHeld ?_
        refine tk 13 66 (mf 24 14) hHeld ?_
        refine tk 14 67 (mf 24 15) hHeld ?_
        refine tk 15 68 (mf 24 16) hHeld ?_
        refine tk 16 69 (mf 24 17) hHeld ?_
        refine tk 17 70 (mf 24 18) hHeld ?_
        refine tk 18 71 (mf 24 19) hHeld ?_
        refine tk 19 72 (mf 24 20) hHeld ?_
        refine tk 20 73 (mf 24 21) hHeld ?_
        refine tk 21 74 (mf 24 22) hHeld ?_
        refine tk 22 75 (mf 24 23) hHeld ?_
        refine tk 23 76 (mf 24 24) hHeld ?_
        refine wpAnyJ_done (by kernel_rfl) ?_ _
        clear hHeld
        go_wp2_with fail
        go_ret
        exact ⟨ret_int (by rw [HR.out, HRE.out]), hbl.out.drew⟩
      ·have qd : (d1 == d) = false := by simpa using hdd
       have HO2 : Hid (othL (ls.take (k + 1)) ⟨d, p, q⟩ = false) := by unfold Hid; rw [oth_snoc HX1.out hot.out]; simp [othB]; intro h; exact absurd h hdd
       clear hdd
       go_upto_region 17 with (fail)
       refine wp_region_J (S := fun W' => W'.cell? ⟨b, off + k * 3, none⟩ = some (.int .i64 d1) ∧ W'.cell? ⟨b, off + k * 3 + 1, none⟩ = some (.int .i64 p1) ∧ W'.cell? ⟨b, off + i * 3, none⟩ = some (.int .i64 d) ∧ W'.cell? ⟨b, off + i * 3 + 1, none⟩ = some (.int .i64 p)) (J := []) (by kernel_rfl) ?_ (fun hHeld => ?_)
       ·exact HCS.out
       try dsimp only at hHeld
       refine tk 0 53 (mf 24 1) hHeld ?_
       refine tk 1 54 (mf 24 2) hHeld ?_
       refine tk 2 55 (mf 24 3) hHeld ?_
       refine tk 3 56 (mf 24 4) hHeld ?_
       refine tk 4 57 (mf 24 5) hHeld ?_
       refine tk 5 58 (mf 24 6) hHeld ?_
       refine tk 6 59 (mf 24 7) hHeld ?_
       refine tk 7 60 (mf 24 8) hHeld ?_
       refine tk 8 61 (mf 24 9) hHeld ?_
       refine tk 9 62 (mf 24 10) hHeld ?_
       refine tk 10 63 (mf 24 11) hHeld ?_
       refine tk 11 64 (mf 24 12) hHeld ?_
       refine ts 12 65 (mf 24 13) hHeld ?_
       refine ts 13 66 (mf 24 14) hHeld ?_
       refine ts 14 67 (mf 24 15) hHeld ?_
       refine ts 15 68 (mf 24 16) hHeld ?_
       refine ts 16 69 (mf 24 17) hHeld ?_
       refine ts 17 70 (mf 24 18) hHeld ?_
       refine ts 18 71 (mf 24 19) hHeld ?_
       refine ts 19 72 (mf 24 20) hHeld ?_
       refine ts 20 73 (mf 24 21) hHeld ?_
       refine ts 21 74 (mf 24 22) hHeld ?_
       refine ts 22 75 (mf 24 23) hHeld ?_
       refine tk 23 76 (mf 24 24) hHeld ?_
       refine wpAnyJ_done (by kernel_rfl) ?_ _
       clear hHeld
       go_wp2_with fail
       go_roundg (i - (k + 1))
       case rel => exact ⟨k + 1, by go_num, by omega, rfl, HO2, hbk, hbl.out.drew⟩
       case measure => omega
     ·obtain rfl : k = i := by omega
      have hkk : decide (k < k) = false := by simp
      go_wp2_with fail
      clear hkk
      go_loopg [9] k (RkR3 w #[.slice An nn cn, .slice Ad nd cd] ls q k)
      case atStart => exact ⟨0, rfl, Nat.zero_le _, rfl, rfl, hbk, hbl⟩
      case round =>
       clear hbk hbl
       obtain ⟨j, rfl, hj, rfl, hus, hbk, hbl⟩ := hrel
       by_cases hjt : j < k
       ·obtain ⟨b1, off1, d1, p1, q1, hA1, _, hx1, _, _, e2⟩ := (HS.out.below hbl.out hBl).lock (i := j) (by omega)
        injection hA1 with hA1; injection hA1 with h1 h2; subst h1 h2
        obtain ⟨b2, off2, d2, p2, q2, hA2, _, hx2, _, _, f2⟩ := (HS.out.below hbl.out hBl).lock hlt
        injection hA2 with hA2; injection hA2 with h1 h2; subst h1 h2
        rw [HX.out] at hx2
        injection hx2 with hx2; injection hx2 with h1 h2 h3; subst h1 h2 h3
        have HX1 := Lib.hid hx1
        have hjn : j < n := by omega
        have HCS : Hid (wr.cell? ⟨b, off + j * 3 + 2, none⟩ = some (.int .i64 q1) ∧ wr.cell? ⟨b, off + k * 3 + 2, none⟩ = some (.int .i64 q)) := ⟨e2, f2⟩
        clear hx1 e2 f2
        by_cases hqq : q1 = q
        ·subst hqq
         have qd : (q1 == q1) = true := by simp
         have HO2 : Hid (usdL (ls.take k) q1 = true) := usd_up (k := j + 1) (by rw [usd_snoc HX1.out hus.out]; simp) (by omega)
         have HEE : Hid (errAt ds ls k = 4) := by unfold Hid; rw [HEA.out, if_neg (by simp), if_neg (by rw [HOB.out]; simp), if_neg (by rw [hot.out]; simp), if_pos HO2.out]
         have HRE := Lib.hid (firstE_stop hfe.out HEE.out (by decide) n hlt)
         go_upto_region 22 with (fail)
         refine wp_region_J (S := fun W' => W'.cell? ⟨b, off + j * 3 + 2, none⟩ = some (.int .i64 q1) ∧ W'.cell? ⟨b, off + k * 3 + 2, none⟩ = some (.int .i64 q1)) (J := []) (by kernel_rfl) ?_ (fun hHeld => ?_)
         ·exact HCS.out
         try dsimp only at hHeld
         refine tk 0 82 (mf 11 1) hHeld ?_
         refine tk 1 83 (mf 11 2) hHeld ?_
         refine tk 2 84 (mf 11 3) hHeld ?_
         refine tk 3 85 (mf 11 4) hHeld ?_
         refine tk 4 86 (mf 11 5) hHeld ?_
         refine tk 5 87 (mf 11 6) hHeld ?_
         refine tk 6 88 (mf 11 7) hHeld ?_
         refine tk 7 89 (mf 11 8) hHeld ?_
         refine tk 8 90 (mf 11 9) hHeld ?_
         refine tk 9 91 (mf 11 10) hHeld ?_
         refine tk 10 92 (mf 11 11) hHeld ?_
         refine wpAnyJ_done (by kernel_rfl) ?_ _
         clear hHeld
         go_wp2_with fail
         go_ret
         exact ⟨ret_int (by rw [HR.out, HRE.out]), hbl.out.drew⟩
        ·have qd : (q1 == q) = false := by simpa using hqq
         have HO2 : Hid (usdL (ls.take (j + 1)) q = false) := by unfold Hid; rw [usd_snoc HX1.out hus.out]; simpa using hqq
         clear hqq
         go_upto_region 22 with (fail)
         refine wp_region_J (S := fun W' => W'.cell? ⟨b, off + j * 3 + 2, none⟩ = some (.int .i64 q1) ∧ W'.cell? ⟨b, off + k * 3 + 2, none⟩ = some (.int .i64 q)) (J := []) (by kernel_rfl) ?_ (fun hHeld => ?_)
         ·exact HCS.out
         try dsimp only at hHeld
         refine tk 0 82 (mf 11 1) hHeld ?_
         refine tk 1 83 (mf 11 2) hHeld ?_
         refine tk 2 84 (mf 11 3) hHeld ?_
         refine tk 3 85 (mf 11 4) hHeld ?_
         refine tk 4 86 (mf 11 5) hHeld ?_
         refine tk 5 87 (mf 11 6) hHeld ?_
         refine tk 6 88 (mf 11 7) hHeld ?_
         refine tk 7 89 (mf 11 8) hHeld ?_
         refine tk 8 90 (mf 11 9) hHeld ?_
         refine tk 9 91 (mf 11 10) hHeld ?_
         refine tk 10 92 (mf 11 11) hHeld ?_
         refine wpAnyJ_done (by kernel_rfl) ?_ _
         clear hHeld
         go_wp2_with fail
         go_roundg (k - (j + 1))
         case rel => exact ⟨j + 1, by go_num, by omega, rfl, HO2, hbk, hbl.out.drew⟩
         case measure => omega
       ·obtain rfl : j = k := by omega
        have hjj : decide (j < j) = false := by simp
        have HEE : Hid (errAt ds ls j = 0) := by unfold Hid; rw [HEA.out, if_neg (by simp), if_neg (by rw [HOB.out]; simp), if_neg (by rw [hot.out]; simp), if_neg (by rw [hus.out]; simp)]
        have HFN := Lib.hid (firstE_next hfe.out HEE.out)
        go_wp2_with fail
        go_roundg (n - (j + 1))
        case rel => exact ⟨j + 1, by go_num, by omega, rfl, HFN, hbk, hbl⟩
        case measure => omega
  ·obtain rfl : i = n := by omega
   have hii : decide (i < i) = false := by simp
   go_wp2_with fail
   go_ret
   exact ⟨ret_int (by rw [HR.out, hfe.out]), hbl.out⟩
end Go.Proofs.YtfaknfmndafllaaGreatDoor
