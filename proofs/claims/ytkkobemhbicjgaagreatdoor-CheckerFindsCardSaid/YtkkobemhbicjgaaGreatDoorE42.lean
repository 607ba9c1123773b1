import Derived.Test.YtkkobemhbicjgaaGreatDoorE40
set_option maxRecDepth 100000
set_option maxHeartbeats 4000000
namespace Go.Proofs.YtkkobemhbicjgaaGreatDoor
open Go.RowKit
def AgR (w : World) (n gk : Nat) (iv : Value) (wr : World) : Prop := ∃ i : Nat, iv = .int .i64 i ∧ i ≤ n ∧ gk = n - i ∧ Hid (Below w.heap.size w wr)
theorem oG (A A2 : Option Addr) (n c c2 B B2 : Nat) (s m : List Int) (w : World) (hs : Sl w B 1 A n c (zD s)) (hB : B ≤ w.heap.size) (hm : Sl w B2 1 A2 n c2 (zD m)) (hB2 : B2 ≤ w.heap.size) (hk : m.all zj = true) (ha : s ∈ yM m) :
 Calls Tryz.prog 41 #[.slice A n c, .slice A2 n c2] w fun e w' => e = .returned (.bool true) ∧ Below w.heap.size w w' := by
 have HS := iD hs; have HM := iD hm
 have hsl := hs.le; have hml := hm.le
 have HLM : Hid (m.length = n) := hm.len (fun _ => rfl) (by decide)
 have HA := iD ((xr m m.length s).1 ha)
 have HK := iD hk
 have HC := iD (sN A2 n c2 B2 m w hm hB2)
 rw [hk] at HC
 clear hs hm hk ha
 go_enter Tryz.func41, Tryz.ntmps41
 go_wp2_with fail
 refine HC.out.mono ?_
 rintro e w1 ⟨rfl, hb1⟩
 have HB1 := iD hb1
 clear hb1 HC
 go_wp2_with fail
 go_loopg [5] n (AgR w n)
 case atStart => exact ⟨0, rfl, Nat.zero_le _, rfl, HB1⟩
 case round =>
  clear HB1
  obtain ⟨i, rfl, hi, rfl, hbl⟩ := hrel
  by_cases hlt : i < n
  ·obtain ⟨b, off, sv, rfl, hb, hsv, hcs⟩ := (HS.out.below hbl.out hB).at1 hlt
   obtain ⟨b2, of2, mv, rfl, hb2, hmv, hcm⟩ := (HM.out.below hbl.out hB2).at1 hlt
   have hsm : (sv = 1 ∧ mv = 1) ∨ (sv = 1 ∧ mv = 3) ∨ (sv = 2 ∧ mv = 2) ∨ (sv = 2 ∧ mv = 3) := by
    obtain ⟨h1, h2⟩ := HA.out.2 i (by rw [HLM.out]; exact hlt)
    have h3 := List.all_eq_true.1 HK.out mv (List.mem_of_getElem? hmv)
    simp [zj] at h3
    by_cases h4 : mv = 3
    ·rcases h1 (by rw [hmv, h4]) with h5 | h5 <;> rw [hsv] at h5 <;> injection h5 with h5 <;> omega
    ·have h5 := h2 (fun e => h4 (by rw [hmv] at e; exact Option.some.inj e))
     rw [hsv] at h5
     injection h5 with h5
     rw [yS hmv] at h5
     omega
   have HCC : Hid (wr.cell? ⟨b, off + i, none⟩ = some (.int .i64 sv) ∧ wr.cell? ⟨b2, of2 + i, none⟩ = some (.int .i64 mv)) := ⟨hcs, hcm⟩
   clear hcs hcm hsv hmv
   go_upto_region 6 with (fail)
   rcases hsm with ⟨rfl, rfl⟩ | ⟨rfl, rfl⟩ | ⟨rfl, rfl⟩ | ⟨rfl, rfl⟩
   ·have q : (bits .and .i64 1 1 == 0) = false := by kernel_rfl
    refine xV (S := fun W' => W'.cell? ⟨b, off + i, none⟩ = some (.int .i64 1) ∧ W'.cell? ⟨b2, of2 + i, none⟩ = some (.int .i64 1)) (J := []) (n := _) ((0, true) :: (1, true) :: (2, true) :: (3, true) :: (4, true) :: (5, true) :: (6, true) :: (7, true) :: (8, true) :: (9, true) :: (10, true) :: (11, true) :: (12, true) :: (13, true) :: (14, true) :: (15, true) :: (16, true) :: (17, true) :: (18, true) :: (19, true) :: (20, true) :: (21, true) :: (22, true) :: (23, true) :: []) (by as_aux_lemma => kernel_rfl) (by rfl) (yR (k := 0) (by go_simp; rfl) (yR (k := 5) (by go_simp; rfl) (yR (k := 1) (by go_simp; rfl) un))) ?_ (fun _ _ _ _ _ h => h) (fun Q2 A hsz hbase hn2 AA => ?_)
    ·exact HCC.out
    try dsimp only at AA
    obtain ⟨b0, b5, b1, -⟩ := hbase
    refine oM 0 22 ?_ rfl rfl rfl (zH rfl) AA (fun ρ AB => ?_) ?_
    rotate_left
    ·(have e0 := tm AB hsz 0 rfl (zY b0); exact e0)
    refine oM 1 23 ?_ rfl rfl rfl (zH rfl) AA (fun ρ AB => ?_) ?_
    rotate_left
    ·(have e5 := tm AB hsz 5 rfl (zF rfl (zY b5)); exact e5)
    refine oT 2 24 ?_ rfl rfl (zH rfl) AA (fun ρ AB w hSw => ?_) ?_
    rotate_left
    ·(have e22 := tm AB hsz 22 rfl (zF rfl zB); have e23 := tm AB hsz 23 rfl zB; clear AB; (try dsimp only at hSw); go_simp; try with_reducible rfl)
    refine oT 3 25 ?_ rfl rfl (zH rfl) AA (fun ρ AB w hSw => ?_) ?_
    rotate_left
    ·(have e24 := tm AB hsz 24 rfl zB; clear AB; (try dsimp only at hSw); go_simp; try with_reducible rfl)
    refine oT 4 26 ?_ rfl rfl (zH rfl) AA (fun ρ AB w hSw => ?_) ?_
    rotate_left
    ·(have hc := AB.const; have e25 := tm AB hsz 25 rfl zB; clear AB; (try dsimp only at hSw); go_simp; try with_reducible rfl)
    refine oM 5 27 ?_ rfl rfl rfl (zH rfl) AA (fun ρ AB => ?_) ?_
    rotate_left
    ·(have e26 := tm AB hsz 26 rfl zB; exact e26)
    refine oS 6 28 rfl rfl (wN 5 27 true false rfl hsz rfl rfl rfl zB rfl) AA ?_
    refine oS 7 29 rfl rfl (wN 5 27 true false rfl hsz rfl rfl rfl (zF rfl zB) rfl) AA ?_
    refine oS 8 30 rfl rfl (wN 5 27 true false rfl hsz rfl rfl rfl (zF rfl (zF rfl zB)) rfl) AA ?_
    refine oS 9 31 rfl rfl (wN 5 27 true false rfl hsz rfl rfl rfl (zF rfl (zF rfl (zF rfl zB))) rfl) AA ?_
    refine oS 10 32 rfl rfl (wN 5 27 true false rfl hsz rfl rfl rfl (zI rfl rfl rfl rfl zB) rfl) AA ?_
    refine oT 11 33 ?_ rfl rfl (zH rfl) AA (fun ρ AB w hSw => ?_) ?_
    rotate_left
    ·(have hc := AB.const; have e27 := tm AB hsz 27 rfl (zI rfl rfl rfl rfl (zF rfl zB)); have e32 := tm AB hsz 32 rfl zB; clear AB; (try dsimp only at hSw); go_simp; try with_reducible rfl)
    refine oM 12 34 ?_ rfl rfl rfl (zH rfl) AA (fun ρ AB => ?_) ?_
    rotate_left
    ·(have e33 := tm AB hsz 33 rfl zB; exact e33)
    refine oM 13 35 ?_ rfl rfl rfl (wY 12 34 false rfl hsz rfl rfl rfl zB) AA (fun ρ AB => ?_) ?_
    rotate_left
    ·(have e1 := tm AB hsz 1 rfl (zI rfl rfl rfl rfl (zI rfl rfl rfl rfl (zI rfl rfl rfl rfl (zF rfl (zY b1))))); exact e1)
    refine oM 14 36 ?_ rfl rfl rfl (wY 12 34 false rfl hsz rfl rfl rfl (zF rfl zB)) AA (fun ρ AB => ?_) ?_
    rotate_left
    ·(have e5 := tm AB hsz 5 rfl (zI rfl rfl rfl rfl (zI rfl rfl rfl rfl (zI rfl rfl rfl rfl (zF rfl (zF rfl (zY b5)))))); exact e5)
    refine oT 15 37 ?_ rfl rfl (wY 12 34 false rfl hsz rfl rfl rfl (zF rfl (zF rfl zB))) AA (fun ρ AB w hSw => ?_) ?_
    rotate_left
    ·(have e35 := tm AB hsz 35 rfl (zF rfl zB); have e36 := tm AB hsz 36 rfl zB; clear AB; (try dsimp only at hSw); go_simp; try with_reducible rfl)
    refine oT 16 38 ?_ rfl rfl (wY 12 34 false rfl hsz rfl rfl rfl (zF rfl (zF rfl (zF rfl zB)))) AA (fun ρ AB w hSw => ?_) ?_
    rotate_left
    ·(have e37 := tm AB hsz 37 rfl zB; clear AB; (try dsimp only at hSw); go_simp; try with_reducible rfl)
    refine oM 17 39 ?_ rfl rfl rfl (wY 12 34 false rfl hsz rfl rfl rfl (zI rfl rfl rfl rfl zB)) AA (fun ρ AB => ?_) ?_
    rotate_left
    ·(have e0 := tm AB hsz 0 rfl (zI rfl rfl rfl rfl (zI rfl rfl rfl rfl (zI rfl rfl rfl rfl (zI rfl rfl rfl rfl (zF rfl (zY b0)))))); exact e0)
    refine oM 18 40 ?_ rfl rfl rfl (wY 12 34 false rfl hsz rfl rfl rfl (zI rfl rfl rfl rfl (zF rfl zB))) AA (fun ρ AB => ?_) ?_
    rotate_left
    ·(have e5 := tm AB hsz 5 rfl (zI rfl rfl rfl rfl (zI rfl rfl rfl rfl (zI rfl rfl rfl rfl (zI rfl rfl rfl rfl (zF rfl (zF rfl (zY b5))))))); exact e5)
    refine oT 19 41 ?_ rfl rfl (wY 12 34 false rfl hsz rfl rfl rfl (zI rfl rfl rfl rfl (zF rfl (zF rfl zB)))) AA (fun ρ AB w hSw => ?_) ?_
    rotate_left
    ·(have e39 := tm AB hsz 39 rfl (zF rfl zB); have e40 := tm AB hsz 40 rfl zB; clear AB; (try dsimp only at hSw); go_simp; try with_reducible rfl)
    refine oT 20 42 ?_ rfl rfl (wY 12 34 false rfl hsz rfl rfl rfl (zI rfl rfl rfl rfl (zF rfl (zF rfl (zF rfl zB))))) AA (fun ρ AB w hSw => ?_) ?_
    rotate_left
    ·(have e41 := tm AB hsz 41 rfl zB; clear AB; (try dsimp only at hSw); go_simp; try with_reducible rfl)
    refine oT 21 43 ?_ rfl rfl (wY 12 34 false rfl hsz rfl rfl rfl (zI rfl rfl rfl rfl (zI rfl rfl rfl rfl zB))) AA (fun ρ AB w hSw => ?_) ?_
    rotate_left
    ·(have e38 := tm AB hsz 38 rfl (zI rfl rfl rfl rfl zB); have e42 := tm AB hsz 42 rfl zB; clear AB; (try dsimp only at hSw); go_simp; try with_reducible rfl)
    refine oT 22 44 ?_ rfl rfl (wY 12 34 false rfl hsz rfl rfl rfl (zI rfl rfl rfl rfl (zI rfl rfl rfl rfl (zF rfl zB)))) AA (fun ρ AB w hSw => ?_) ?_
    rotate_left
    ·(have hc := AB.const; have e43 := tm AB hsz 43 rfl zB; clear AB; (try dsimp only at hSw); go_simp; try with_reducible rfl)
    refine oT 23 45 ?_ rfl rfl (zH rfl) AA (fun ρ AB w hSw => ?_) ?_
    rotate_left
    ·(have hc := AB.const; have e34 := tm AB hsz 34 rfl (zI rfl rfl rfl rfl (zI rfl rfl rfl rfl (zF rfl (zF rfl zB)))); have e44 := tm AB hsz 44 rfl zB; clear AB; (try dsimp only at hSw); go_simp; try with_reducible rfl)
    refine uf hn2 ?_
    clear AA hn2 b0 b5 b1 hsz A Q2
    simp only [ud, vf, tc, ny, nz]
    go_wp2_with fail
    go_roundg (n - (i + 1))
    case rel => exact ⟨i + 1, by go_num, by omega, rfl, hbl.out.drew⟩
    case measure => omega
   ·have q : (bits .and .i64 3 1 == 0) = false := by kernel_rfl
    refine xV (S := fun W' => W'.cell? ⟨b, off + i, none⟩ = some (.int .i64 1) ∧ W'.cell? ⟨b2, of2 + i, none⟩ = some (.int .i64 3)) (J := []) (n := _) ((0, true) :: (1, true) :: (2, true) :: (3, true) :: (4, true) :: (5, true) :: (6, true) :: (7, true) :: (8, true) :: (9, true) :: (10, true) :: (11, true) :: (12, true) :: (13, true) :: (14, true) :: (15, true) :: (16, true) :: (17, true) :: (18, true) :: (19, true) :: (20, true) :: (21, true) :: (22, true) :: (23, true) :: []) (by as_aux_lemma => kernel_rfl) (by rfl) (yR (k := 0) (by go_simp; rfl) (yR (k := 5) (by go_simp; rfl) (yR (k := 1) (by go_simp; rfl) un))) ?_ (fun _ _ _ _ _ h => h) (fun Q2 A hsz hbase hn2 AA => ?_)
    ·exact HCC.out
    try dsimp only at AA
    obtain ⟨b0, b5, b1, -⟩ := hbase
    refine oM 0 22 ?_ rfl rfl rfl (zH rfl) AA (fun ρ AB => ?_) ?_
    rotate_left
    ·(have e0 := tm AB hsz 0 rfl (zY b0); exact e0)
    refine oM 1 23 ?_ rfl rfl rfl (zH rfl) AA (fun ρ AB => ?_) ?_
    rotate_left
    ·(have e5 := tm AB hsz 5 rfl (zF rfl (zY b5)); exact e5)
    refine oT 2 24 ?_ rfl rfl (zH rfl) AA (fun ρ AB w hSw => ?_) ?_
    rotate_left
    ·(have e22 := tm AB hsz 22 rfl (zF rfl zB); have e23 := tm AB hsz 23 rfl zB; clear AB; (try dsimp only at hSw); go_simp; try with_reducible rfl)
    refine oT 3 25 ?_ rfl rfl (zH rfl) AA (fun ρ AB w hSw => ?_) ?_
    rotate_left
    ·(have e24 := tm AB hsz 24 rfl zB; clear AB; (try dsimp only at hSw); go_simp; try with_reducible rfl)
    refine oT 4 26 ?_ rfl rfl (zH rfl) AA (fun ρ AB w hSw => ?_) ?_
    rotate_left
    ·(have hc := AB.const; have e25 := tm AB hsz 25 rfl zB; clear AB; (try dsimp only at hSw); go_simp; try with_reducible rfl)
    refine oM 5 27 ?_ rfl rfl rfl (zH rfl) AA (fun ρ AB => ?_) ?_
    rotate_left
    ·(have e26 := tm AB hsz 26 rfl zB; exact e26)
    refine oS 6 28 rfl rfl (wN 5 27 true false rfl hsz rfl rfl rfl zB rfl) AA ?_
    refine oS 7 29 rfl rfl (wN 5 27 true false rfl hsz rfl rfl rfl (zF rfl zB) rfl) AA ?_
    refine oS 8 30 rfl rfl (wN 5 27 true false rfl hsz rfl rfl rfl (zF rfl (zF rfl zB)) rfl) AA ?_
    refine oS 9 31 rfl rfl (wN 5 27 true false rfl hsz rfl rfl rfl (zF rfl (zF rfl (zF rfl zB))) rfl) AA ?_
    refine oS 10 32 rfl rfl (wN 5 27 true false rfl hsz rfl rfl rfl (zI rfl rfl rfl rfl zB) rfl) AA ?_
    refine oT 11 33 ?_ rfl rfl (zH rfl) AA (fun ρ AB w hSw => ?_) ?_
    rotate_left
    ·(have hc := AB.const; have e27 := tm AB hsz 27 rfl (zI rfl rfl rfl rfl (zF rfl zB)); have e32 := tm AB hsz 32 rfl zB; clear AB; (try dsimp only at hSw); go_simp; try with_reducible rfl)
    refine oM 12 34 ?_ rfl rfl rfl (zH rfl) AA (fun ρ AB => ?_) ?_
    rotate_left
    ·(have e33 := tm AB hsz 33 rfl zB; exact e33)
    refine oM 13 35 ?_ rfl rfl rfl (wY 12 34 false rfl hsz rfl rfl rfl zB) AA (fun ρ AB => ?_) ?_
    rotate_left
    ·(have e1 := tm AB hsz 1 rfl (zI rfl rfl rfl rfl (zI rfl rfl rfl rfl (zI rfl rfl rfl rfl (zF rfl (zY b1))))); exact e1)
    refine oM 14 36 ?_ rfl rfl rfl (wY 12 34 false rfl hsz rfl rfl rfl (zF rfl zB)) AA (fun ρ AB => ?_) ?_
    rotate_left
    ·(have e5 := tm AB hsz 5 rfl (zI rfl rfl rfl rfl (zI rfl rfl rfl rfl (zI rfl rfl rfl rfl (zF rfl (zF rfl (zY b5)))))); exact e5)
    refine oT 15 37 ?_ rfl rfl (wY 12 34 false rfl hsz rfl rfl rfl (zF rfl (zF rfl zB))) AA (fun ρ AB w hSw => ?_) ?_
    rotate_left
    ·(have e35 := tm AB hsz 35 rfl (zF rfl zB); have e36 := tm AB hsz 36 rfl zB; clear AB; (try dsimp only at hSw); go_simp; try with_reducible rfl)
    refine oT 16 38 ?_ rfl rfl (wY 12 34 false rfl hsz rfl rfl rfl (zF rfl (zF rfl (zF rfl zB)))) AA (fun ρ AB w hSw => ?_) ?_
    rotate_left
    ·(have e37 := tm AB hsz 37 rfl zB; clear AB; (try dsimp only at hSw); go_simp; try with_reducible rfl)
    refine oM 17 39 ?_ rfl rfl rfl (wY 12 34 false rfl hsz rfl rfl rfl (zI rfl rfl rfl rfl zB)) AA (fun ρ AB => ?_) ?_
    rotate_left
    ·(have e0 := tm AB hsz 0 rfl (zI rfl rfl rfl rfl (zI rfl rfl rfl rfl (zI rfl rfl rfl rfl (zI rfl rfl rfl rfl (zF rfl (zY b0)))))); exact e0)
    refine oM 18 40 ?_ rfl rfl rfl (wY 12 34 false rfl hsz rfl rfl rfl (zI rfl rfl rfl rfl (zF rfl zB))) AA (fun ρ AB => ?_) ?_
    rotate_left
    ·(have e5 := tm AB hsz 5 rfl (zI rfl rfl rfl rfl (zI rfl rfl rfl rfl (zI rfl rfl rfl rfl (zI rfl rfl rfl rfl (zF rfl (zF rfl (zY b5))))))); exact e5)
    refine oT 19 41 ?_ rfl rfl (wY 12 34 false rfl hsz rfl rfl rfl (zI rfl rfl rfl rfl (zF rfl (zF rfl zB)))) AA (fun ρ AB w hSw => ?_) ?_
    rotate_left
    ·(have e39 := tm AB hsz 39 rfl (zF rfl zB); have e40 := tm AB hsz 40 rfl zB; clear AB; (try dsimp only at hSw); go_simp; try with_reducible rfl)
    refine oT 20 42 ?_ rfl rfl (wY 12 34 false rfl hsz rfl rfl rfl (zI rfl rfl rfl rfl (zF rfl (zF rfl (zF rfl zB))))) AA (fun ρ AB w hSw => ?_) ?_
    rotate_left
    ·(have e41 := tm AB hsz 41 rfl zB; clear AB; (try dsimp only at hSw); go_simp; try with_reducible rfl)
    refine oT 21 43 ?_ rfl rfl (wY 12 34 false rfl hsz rfl rfl rfl (zI rfl rfl rfl rfl (zI rfl rfl rfl rfl zB))) AA (fun ρ AB w hSw => ?_) ?_
    rotate_left
    ·(have e38 := tm AB hsz 38 rfl (zI rfl rfl rfl rfl zB); have e42 := tm AB hsz 42 rfl zB; clear AB; (try dsimp only at hSw); go_simp; try with_reducible rfl)
    refine oT 22 44 ?_ rfl rfl (wY 12 34 false rfl hsz rfl rfl rfl (zI rfl rfl rfl rfl (zI rfl rfl rfl rfl (zF rfl zB)))) AA (fun ρ AB w hSw => ?_) ?_
    rotate_left
    ·(have hc := AB.const; have e43 := tm AB hsz 43 rfl zB; clear AB; (try dsimp only at hSw); go_simp; try with_reducible rfl)
    refine oT 23 45 ?_ rfl rfl (zH rfl) AA (fun ρ AB w hSw => ?_) ?_
    rotate_left
    ·(have hc := AB.const; have e34 := tm AB hsz 34 rfl (zI rfl rfl rfl rfl (zI rfl rfl rfl rfl (zF rfl (zF rfl zB)))); have e44 := tm AB hsz 44 rfl zB; clear AB; (try dsimp only at hSw); go_simp; try with_reducible rfl)
    refine uf hn2 ?_
    clear AA hn2 b0 b5 b1 hsz A Q2
    simp only [ud, vf, tc, ny, nz]
    go_wp2_with fail
    go_roundg (n - (i + 1))
    case rel => exact ⟨i + 1, by go_num, by omega, rfl, hbl.out.drew⟩
    case measure => omega
   ·have q : (bits .and .i64 2 2 == 0) = false := by kernel_rfl
    refine xV (S := fun W' => W'.cell? ⟨b, off + i, none⟩ = some (.int .i64 2) ∧ W'.cell? ⟨b2, of2 + i, none⟩ = some (.int .i64 2)) (J := []) (n := _) ((0, true) :: (1, true) :: (2, true) :: (3, true) :: (4, true) :: (5, true) :: (6, true) :: (7, true) :: (8, true) :: (9, true) :: (10, true) :: (11, true) :: (12, true) :: (13, true) :: (14, true) :: (15, true) :: (16, true) :: (17, true) :: (18, true) :: (19, true) :: (20, true) :: (21, true) :: (22, true) :: (23, true) :: []) (by as_aux_lemma => kernel_rfl) (by rfl) (yR (k := 0) (by go_simp; rfl) (yR (k := 5) (by go_simp; rfl) (yR (k := 1) (by go_simp; rfl) un))) ?_ (fun _ _ _ _ _ h => h) (fun Q2 A hsz hbase hn2 AA => ?_)
    ·exact HCC.out
    try dsimp only at AA
    obtain ⟨b0, b5, b1, -⟩ := hbase
    refine oM 0 22 ?_ rfl rfl rfl (zH rfl) AA (fun ρ AB => ?_) ?_
    rotate_left
    ·(have e0 := tm AB hsz 0 rfl (zY b0); exact e0)
    refine oM 1 23 ?_ rfl rfl rfl (zH rfl) AA (fun ρ AB => ?_) ?_
    rotate_left
    ·(have e5 := tm AB hsz 5 rfl (zF rfl (zY b5)); exact e5)
    refine oT 2 24 ?_ rfl rfl (zH rfl) AA (fun ρ AB w hSw => ?_) ?_
    rotate_left
    ·(have e22 := tm AB hsz 22 rfl (zF rfl zB); have e23 := tm AB hsz 23 rfl zB; clear AB; (try dsimp only at hSw); go_simp; try with_reducible rfl)
    refine oT 3 25 ?_ rfl rfl (zH rfl) AA (fun ρ AB w hSw => ?_) ?_
    rotate_left
    ·(have e24 := tm AB hsz 24 rfl zB; clear AB; (try dsimp only at hSw); go_simp; try with_reducible rfl)
    refine oT 4 26 ?_ rfl rfl (zH rfl) AA (fun ρ AB w hSw => ?_) ?_
    rotate_left
    ·(have hc := AB.const; have e25 := tm AB hsz 25 rfl zB; clear AB; (try dsimp only at hSw); go_simp; try with_reducible rfl)
    refine oM 5 27 ?_ rfl rfl rfl (zH rfl) AA (fun ρ AB => ?_) ?_
    rotate_left
    ·(have e26 := tm AB hsz 26 rfl zB; exact e26)
    refine oM 6 28 ?_ rfl rfl rfl (wY 5 27 true rfl hsz rfl rfl rfl zB) AA (fun ρ AB => ?_) ?_
    rotate_left
    ·(have e0 := tm AB hsz 0 rfl (zI rfl rfl rfl rfl (zF rfl (zF rfl (zY b0)))); exact e0)
    refine oM 7 29 ?_ rfl rfl rfl (wY 5 27 true rfl hsz rfl rfl rfl (zF rfl zB)) AA (fun ρ AB => ?_) ?_
    rotate_left
    ·(have e5 := tm AB hsz 5 rfl (zI rfl rfl rfl rfl (zF rfl (zF rfl (zF rfl (zY b5))))); exact e5)
    refine oT 8 30 ?_ rfl rfl (wY 5 27 true rfl hsz rfl rfl rfl (zF rfl (zF rfl zB))) AA (fun ρ AB w hSw => ?_) ?_
    rotate_left
    ·(have e28 := tm AB hsz 28 rfl (zF rfl zB); have e29 := tm AB hsz 29 rfl zB; clear AB; (try dsimp only at hSw); go_simp; try with_reducible rfl)
    refine oT 9 31 ?_ rfl rfl (wY 5 27 true rfl hsz rfl rfl rfl (zF rfl (zF rfl (zF rfl zB)))) AA (fun ρ AB w hSw => ?_) ?_
    rotate_left
    ·(have e30 := tm AB hsz 30 rfl zB; clear AB; (try dsimp only at hSw); go_simp; try with_reducible rfl)
    refine oT 10 32 ?_ rfl rfl (wY 5 27 true rfl hsz rfl rfl rfl (zI rfl rfl rfl rfl zB)) AA (fun ρ AB w hSw => ?_) ?_
    rotate_left
    ·(have hc := AB.const; have e31 := tm AB hsz 31 rfl zB; clear AB; (try dsimp only at hSw); go_simp; try with_reducible rfl)
    refine oT 11 33 ?_ rfl rfl (zH rfl) AA (fun ρ AB w hSw => ?_) ?_
    rotate_left
    ·(have hc := AB.const; have e27 := tm AB hsz 27 rfl (zI rfl rfl rfl rfl (zF rfl zB)); have e32 := tm AB hsz 32 rfl zB; clear AB; (try dsimp only at hSw); go_simp; try with_reducible rfl)
    refine oM 12 34 ?_ rfl rfl rfl (zH rfl) AA (fun ρ AB => ?_) ?_
    rotate_left
    ·(have e33 := tm AB hsz 33 rfl zB; exact e33)
    refine oM 13 35 ?_ rfl rfl rfl (wY 12 34 false rfl hsz rfl rfl rfl zB) AA (fun ρ AB => ?_) ?_
    rotate_left
    ·(have e1 := tm AB hsz 1 rfl (zI rfl rfl rfl rfl (zI rfl rfl rfl rfl (zI rfl rfl rfl rfl (zF rfl (zY b1))))); exact e1)
    refine oM 14 36 ?_ rfl rfl rfl (wY 12 34 false rfl hsz rfl rfl rfl (zF rfl zB)) AA (fun ρ AB => ?_) ?_
    rotate_left
    ·(have e5 := tm AB hsz 5 rfl (zI rfl rfl rfl rfl (zI rfl rfl rfl rfl (zI rfl rfl rfl rfl (zF rfl (zF rfl (zY b5)))))); exact e5)
    refine oT 15 37 ?_ rfl rfl (wY 12 34 false rfl hsz rfl rfl rfl (zF rfl (zF rfl zB))) AA (fun ρ AB w hSw => ?_) ?_
    rotate_left
    ·(have e35 := tm AB hsz 35 rfl (zF rfl zB); have e36 := tm AB hsz 36 rfl zB; clear AB; (try dsimp only at hSw); go_simp; try with_reducible rfl)
    refine oT 16 38 ?_ rfl rfl (wY 12 34 false rfl hsz rfl rfl rfl (zF rfl (zF rfl (zF rfl zB)))) AA (fun ρ AB w hSw => ?_) ?_
    rotate_left
    ·(have e37 := tm AB hsz 37 rfl zB; clear AB; (try dsimp only at hSw); go_simp; try with_reducible rfl)
    refine oM 17 39 ?_ rfl rfl rfl (wY 12 34 false rfl hsz rfl rfl rfl (zI rfl rfl rfl rfl zB)) AA (fun ρ AB => ?_) ?_
    rotate_left
    ·(have e0 := tm AB hsz 0 rfl (zI rfl rfl rfl rfl (zI rfl rfl rfl rfl (zI rfl rfl rfl rfl (zI rfl rfl rfl rfl (zF rfl (zY b0)))))); exact e0)
    refine oM 18 40 ?_ rfl rfl rfl (wY 12 34 false rfl hsz rfl rfl rfl (zI rfl rfl rfl rfl (zF rfl zB))) AA (fun ρ AB => ?_) ?_
    rotate_left
    ·(have e5 := tm AB hsz 5 rfl (zI rfl rfl rfl rfl (zI rfl rfl rfl rfl (zI rfl rfl rfl rfl (zI rfl rfl rfl rfl (zF rfl (zF rfl (zY b5))))))); exact e5)
    refine oT 19 41 ?_ rfl rfl (wY 12 34 false rfl hsz rfl rfl rfl (zI rfl rfl rfl rfl (zF rfl (zF rfl zB)))) AA (fun ρ AB w hSw => ?_) ?_
    rotate_left
    ·(have e39 := tm AB hsz 39 rfl (zF rfl zB); have e40 := tm AB hsz 40 rfl zB; clear AB; (try dsimp only at hSw); go_simp; try with_reducible rfl)
    refine oT 20 42 ?_ rfl rfl (wY 12 34 false rfl hsz rfl rfl rfl (zI rfl rfl rfl rfl (zF rfl (zF rfl (zF rfl zB))))) AA (fun ρ AB w hSw => ?_) ?_
    rotate_left
    ·(have e41 := tm AB hsz 41 rfl zB; clear AB; (try dsimp only at hSw); go_simp; try with_reducible rfl)
    refine oT 21 43 ?_ rfl rfl (wY 12 34 false rfl hsz rfl rfl rfl (zI rfl rfl rfl rfl (zI rfl rfl rfl rfl zB))) AA (fun ρ AB w hSw => ?_) ?_
    rotate_left
    ·(have e38 := tm AB hsz 38 rfl (zI rfl rfl rfl rfl zB); have e42 := tm AB hsz 42 rfl zB; clear AB; (try dsimp only at hSw); go_simp; try with_reducible rfl)
    refine oT 22 44 ?_ rfl rfl (wY 12 34 false rfl hsz rfl rfl rfl (zI rfl rfl rfl rfl (zI rfl rfl rfl rfl (zF rfl zB)))) AA (fun ρ AB w hSw => ?_) ?_
    rotate_left
    ·(have hc := AB.const; have e43 := tm AB hsz 43 rfl zB; clear AB; (try dsimp only at hSw); go_simp; try with_reducible rfl)
    refine oT 23 45 ?_ rfl rfl (zH rfl) AA (fun ρ AB w hSw => ?_) ?_
    rotate_left
    ·(have hc := AB.const; have e34 := tm AB hsz 34 rfl (zI rfl rfl rfl rfl (zI rfl rfl rfl rfl (zF rfl (zF rfl zB)))); have e44 := tm AB hsz 44 rfl zB; clear AB; (try dsimp only at hSw); go_simp; try with_reducible rfl)
    refine uf hn2 ?_
    clear AA hn2 b0 b5 b1 hsz A Q2
    simp only [ud, vf, tc, ny, nz]
    go_wp2_with fail
    go_roundg (n - (i + 1))
    case rel => exact ⟨i + 1, by go_num, by omega, rfl, hbl.out.drew⟩
    case measure => omega
   ·have q : (bits .and .i64 3 2 == 0) = false := by kernel_rfl
    refine xV (S := fun W' => W'.cell? ⟨b, off + i, none⟩ = some (.int .i64 2) ∧ W'.cell? ⟨b2, of2 + i, none⟩ = some (.int .i64 3)) (J := []) (n := _) ((0, true) :: (1, true) :: (2, true) :: (3, true) :: (4, true) :: (5, true) :: (6, true) :: (7, true) :: (8, true) :: (9, true) :: (10, true) :: (11, true) :: (12, true) :: (13, true) :: (14, true) :: (15, true) :: (16, true) :: (17, true) :: (18, true) :: (19, true) :: (20, true) :: (21, true) :: (22, true) :: (23, true) :: []) (by as_aux_lemma => kernel_rfl) (by rfl) (yR (k := 0) (by go_simp; rfl) (yR (k := 5) (by go_simp; rfl) (yR (k := 1) (by go_simp; rfl) un))) ?_ (fun _ _ _ _ _ h => h) (fun Q2 A hsz hbase hn2 AA => ?_)
    ·exact HCC.out
    try dsimp only at AA
    obtain ⟨b0, b5, b1, -⟩ := hbase
    refine oM 0 22 ?_ rfl rfl rfl (zH rfl) AA (fun ρ AB => ?_) ?_
    rotate_left
    ·(have e0 := tm AB hsz 0 rfl (zY b0); exact e0)
    refine oM 1 23 ?_ rfl rfl rfl (zH rfl) AA (fun ρ AB => ?_) ?_
    rotate_left
    ·(have e5 := tm AB hsz 5 rfl (zF rfl (zY b5)); exact e5)
    refine oT 2 24 ?_ rfl rfl (zH rfl) AA (fun ρ AB w hSw => ?_) ?_
    rotate_left
    ·(have e22 := tm AB hsz 22 rfl (zF rfl zB); have e23 := tm AB hsz 23 rfl zB; clear AB; (try dsimp only at hSw); go_simp; try with_reducible rfl)
    refine oT 3 25 ?_ rfl rfl (zH rfl) AA (fun ρ AB w hSw => ?_) ?_
    rotate_left
    ·(have e24 := tm AB hsz 24 rfl zB; clear AB; (try dsimp only at hSw); go_simp; try with_reducible rfl)
    refine oT 4 26 ?_ rfl rfl (zH rfl) AA (fun ρ AB w hSw => ?_) ?_
    rotate_left
    ·(have hc := AB.const; have e25 := tm AB hsz 25 rfl zB; clear AB; (try dsimp only at hSw); go_simp; try with_reducible rfl)
    refine oM 5 27 ?_ rfl rfl rfl (zH rfl) AA (fun ρ AB => ?_) ?_
    rotate_left
    ·(have e26 := tm AB hsz 26 rfl zB; exact e26)
    refine oM 6 28 ?_ rfl rfl rfl (wY 5 27 true rfl hsz rfl rfl rfl zB) AA (fun ρ AB => ?_) ?_
    rotate_left
    ·(have e0 := tm AB hsz 0 rfl (zI rfl rfl rfl rfl (zF rfl (zF rfl (zY b0)))); exact e0)
    refine oM 7 29 ?_ rfl rfl rfl (wY 5 27 true rfl hsz rfl rfl rfl (zF rfl zB)) AA (fun ρ AB => ?_) ?_
    rotate_left
    ·(have e5 := tm AB hsz 5 rfl (zI rfl rfl rfl rfl (zF rfl (zF rfl (zF rfl (zY b5))))); exact e5)
    refine oT 8 30 ?_ rfl rfl (wY 5 27 true rfl hsz rfl rfl rfl (zF rfl (zF rfl zB))) AA (fun ρ AB w hSw => ?_) ?_
    rotate_left
    ·(have e28 := tm AB hsz 28 rfl (zF rfl zB); have e29 := tm AB hsz 29 rfl zB; clear AB; (try dsimp only at hSw); go_simp; try with_reducible rfl)
    refine oT 9 31 ?_ rfl rfl (wY 5 27 true rfl hsz rfl rfl rfl (zF rfl (zF rfl (zF rfl zB)))) AA (fun ρ AB w hSw => ?_) ?_
    rotate_left
    ·(have e30 := tm AB hsz 30 rfl zB; clear AB; (try dsimp only at hSw); go_simp; try with_reducible rfl)
    refine oT 10 32 ?_ rfl rfl (wY 5 27 true rfl hsz rfl rfl rfl (zI rfl rfl rfl rfl zB)) AA (fun ρ AB w hSw => ?_) ?_
    rotate_left
    ·(have hc := AB.const; have e31 := tm AB hsz 31 rfl zB; clear AB; (try dsimp only at hSw); go_simp; try with_reducible rfl)
    refine oT 11 33 ?_ rfl rfl (zH rfl) AA (fun ρ AB w hSw => ?_) ?_
    rotate_left
    ·(have hc := AB.const; have e27 := tm AB hsz 27 rfl (zI rfl rfl rfl rfl (zF rfl zB)); have e32 := tm AB hsz 32 rfl zB; clear AB; (try dsimp only at hSw); go_simp; try with_reducible rfl)
    refine oM 12 34 ?_ rfl rfl rfl (zH rfl) AA (fun ρ AB => ?_) ?_
    rotate_left
    ·(have e33 := tm AB hsz 33 rfl zB; exact e33)
    refine oM 13 35 ?_ rfl rfl rfl (wY 12 34 false rfl hsz rfl rfl rfl zB) AA (fun ρ AB => ?_) ?_
    rotate_left
    ·(have e1 := tm AB hsz 1 rfl (zI rfl rfl rfl rfl (zI rfl rfl rfl rfl (zI rfl rfl rfl rfl (zF rfl (zY b1))))); exact e1)
    refine oM 14 36 ?_ rfl rfl rfl (wY 12 34 false rfl hsz rfl rfl rfl (zF rfl zB)) AA (fun ρ AB => ?_) ?_
    rotate_left
    ·(have e5 := tm AB hsz 5 rfl (zI rfl rfl rfl rfl (zI rfl rfl rfl rfl (zI rfl rfl rfl rfl (zF rfl (zF rfl (zY b5)))))); exact e5)
    refine oT 15 37 ?_ rfl rfl (wY 12 34 false rfl hsz rfl rfl rfl (zF rfl (zF rfl zB))) AA (fun ρ AB w hSw => ?_) ?_
    rotate_left
    ·(have e35 := tm AB hsz 35 rfl (zF rfl zB); have e36 := tm AB hsz 36 rfl zB; clear AB; (try dsimp only at hSw); go_simp; try with_reducible rfl)
    refine oT 16 38 ?_ rfl rfl (wY 12 34 false rfl hsz rfl rfl rfl (zF rfl (zF rfl (zF rfl zB)))) AA (fun ρ AB w hSw => ?_) ?_
    rotate_left
    ·(have e37 := tm AB hsz 37 rfl zB; clear AB; (try dsimp only at hSw); go_simp; try with_reducible rfl)
    refine oM 17 39 ?_ rfl rfl rfl (wY 12 34 false rfl hsz rfl rfl rfl (zI rfl rfl rfl rfl zB)) AA (fun ρ AB => ?_) ?_
    rotate_left
    ·(have e0 := tm AB hsz 0 rfl (zI rfl rfl rfl rfl (zI rfl rfl rfl rfl (zI rfl rfl rfl rfl (zI rfl rfl rfl rfl (zF rfl (zY b0)))))); exact e0)
    refine oM 18 40 ?_ rfl rfl rfl (wY 12 34 false rfl hsz rfl rfl rfl (zI rfl rfl rfl rfl (zF rfl zB))) AA (fun ρ AB => ?_) ?_
    rotate_left
    ·(have e5 := tm AB hsz 5 rfl (zI rfl rfl rfl rfl (zI rfl rfl rfl rfl (zI rfl rfl rfl rfl (zI rfl rfl rfl rfl (zF rfl (zF rfl (zY b5))))))); exact e5)
    refine oT 19 41 ?_ rfl rfl (wY 12 34 false rfl hsz rfl rfl rfl (zI rfl rfl rfl rfl (zF rfl (zF rfl zB)))) AA (fun ρ AB w hSw => ?_) ?_
    rotate_left
    ·(have e39 := tm AB hsz 39 rfl (zF rfl zB); have e40 := tm AB hsz 40 rfl zB; clear AB; (try dsimp only at hSw); go_simp; try with_reducible rfl)
    refine oT 20 42 ?_ rfl rfl (wY 12 34 false rfl hsz rfl rfl rfl (zI rfl rfl rfl rfl (zF rfl (zF rfl (zF rfl zB))))) AA (fun ρ AB w hSw => ?_) ?_
    rotate_left
    ·(have e41 := tm AB hsz 41 rfl zB; clear AB; (try dsimp only at hSw); go_simp; try with_reducible rfl)
    refine oT 21 43 ?_ rfl rfl (wY 12 34 false rfl hsz rfl rfl rfl (zI rfl rfl rfl rfl (zI rfl rfl rfl rfl zB))) AA (fun ρ AB w hSw => ?_) ?_
    rotate_left
    ·(have e38 := tm AB hsz 38 rfl (zI rfl rfl rfl rfl zB); have e42 := tm AB hsz 42 rfl zB; clear AB; (try dsimp only at hSw); go_simp; try with_reducible rfl)
    refine oT 22 44 ?_ rfl rfl (wY 12 34 false rfl hsz rfl rfl rfl (zI rfl rfl rfl rfl (zI rfl rfl rfl rfl (zF rfl zB)))) AA (fun ρ AB w hSw => ?_) ?_
    rotate_left
    ·(have hc := AB.const; have e43 := tm AB hsz 43 rfl zB; clear AB; (try dsimp only at hSw); go_simp; try with_reducible rfl)
    refine oT 23 45 ?_ rfl rfl (zH rfl) AA (fun ρ AB w hSw => ?_) ?_
    rotate_left
    ·(have hc := AB.const; have e34 := tm AB hsz 34 rfl (zI rfl rfl rfl rfl (zI rfl rfl rfl rfl (zF rfl (zF rfl zB)))); have e44 := tm AB hsz 44 rfl zB; clear AB; (try dsimp only at hSw); go_simp; try with_reducible rfl)
    refine uf hn2 ?_
    clear AA hn2 b0 b5 b1 hsz A Q2
    simp only [ud, vf, tc, ny, nz]
    go_wp2_with fail
    go_roundg (n - (i + 1))
    case rel => exact ⟨i + 1, by go_num, by omega, rfl, hbl.out.drew⟩
    case measure => omega
  ·obtain rfl : i = n := by omega
   have hii : decide (i < i) = false := by simp
   go_wp2_with fail
   go_ret
   exact ⟨rfl, hbl.out⟩
end Go.Proofs.YtkkobemhbicjgaaGreatDoor
