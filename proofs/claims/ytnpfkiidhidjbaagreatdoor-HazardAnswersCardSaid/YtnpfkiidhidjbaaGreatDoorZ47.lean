import Derived.Test.YtnpfkiidhidjbaaGreatDoorZ25
import Derived.Test.YtnpfkiidhidjbaaGreatDoorZ19
import Derived.Test.YtnpfkiidhidjbaaGreatDoorZ03
import Derived.Test.YtnpfkiidhidjbaaGreatDoorZ04
import Derived.Deep.LoopGhost
import Derived.Deep.DeepCutAuto
/-
 The statements' maker of a state that agrees with masks.
-/
namespace Go.Proofs.YtnpfkiidhidjbaaGreatDoor
open Go.RowKit
def WithinPost (w : World) (g n : Nat) (m : List Int) (e : Ending) (w' : World) : Prop :=
 ∃ (A : Option Addr) (c : Nat) (s : List Int), e = .returned (.slice A n c) ∧ Hid (DeckAt w' g) ∧ Hid (w.grownBy w' (some g)) ∧ Hid (IntsO w' w.heap.size A n c s) ∧ Hid (∀ p ∈ s, p = 1 ∨ p = 2) ∧ Hid (∀ (i : Nat) (x : Int), m[i]? = some x → (x = 1 ∨ x = 2) → s[i]? = some x)
def WthR (w : World) (g n : Nat) (m : List Int) (gk : Nat) (ov iv : Value) (wr : World) : Prop :=
 ∃ (i c : Nat) (A : Option Addr) (s : List Int), ov = .slice A i c ∧ iv = .int .i64 i ∧ i ≤ n ∧ gk = n - i ∧ Hid (IntsO wr w.heap.size A i c s) ∧ Hid (DeckAt wr g) ∧ Hid (w.grownBy wr (some g)) ∧ Hid (∀ p ∈ s, p = 1 ∨ p = 2) ∧ Hid (∀ (j : Nat) (x : Int), j < i → m[j]? = some x → (x = 1 ∨ x = 2) → s[j]? = some x)
set_option maxRecDepth 100000 in
set_option maxHeartbeats 4000000 in
theorem within_any (g : Nat) (As : Option Addr) (n c : Nat) (m : List Int) (w : World) (hd : DeckAt w g) (hx : SlX w g 1 As n c (intsV m)) (hn : n ≤ 1000) :
  Calls Tryz.prog 10 #[.pointer (some ⟨g, 0, none⟩), .slice As n c] w (WithinPost w g n m) := by
 have hlt := hd.lt
 have HD0 := Lib.hid hd
 have HX0 := Lib.hid hx
 have hnc := hx.1.le
 clear hd hx
 go_enter Tryz.func10, Tryz.ntmps10
 go_wp2_with fail
 go_loopg [5, 6] n (WthR w g n m)
 case atStart => exact ⟨0, 0, none, [], rfl, rfl, Nat.zero_le _, rfl, World.ownsRow_nil _ _ _ _, HD0, grown_refl _ _, fun p hp => by simp at hp, fun j x hj => by omega⟩
 case round =>
  clear HD0
  obtain ⟨i, co, A, s, rfl, rfl, hi, rfl, hO, hD, hG, hP, hA⟩ := hrel
  have HXr := Lib.hid (HX0.out.grown hG.out)
  have HSL : Hid (s.length = i) := hO.out.len
  have hww := hG.out.size
  have HML : Hid (m.length = n) := HX0.out.1.len (fun _ => rfl) (by decide)
  by_cases hlt2 : i < n
  ·obtain ⟨b, off, x, rfl, hb, hx, hc⟩ := HXr.out.1.at1 hlt2
   have HX := Lib.hid hx
   clear hx
   by_cases h12 : x = 1 ∨ x = 2
   ·have HP2 : Hid (∀ p ∈ s ++ [x], p = 1 ∨ p = 2) := fun p hp => by
     rcases List.mem_append.1 hp with h | h
     ·exact hP.out p h
     ·rw [List.mem_singleton.1 h]; exact h12
    have HA2 : Hid (∀ (j : Nat) (y : Int), j < i + 1 → m[j]? = some y → (y = 1 ∨ y = 2) → (s ++ [x])[j]? = some y) := fun j y hj hy h => by
     by_cases hji : j < i
     ·rw [List.getElem?_append_left (by rw [HSL.out]; exact hji)]; exact hA.out j y hji hy h
     ·obtain rfl : j = i := by omega
      rw [List.getElem?_append_right (by rw [HSL.out]; exact Nat.le_refl _), HSL.out, Nat.sub_self, ← hy, HX.out]; rfl
    have HO0 := Lib.hid hO.out
    clear hO
    rcases h12 with rfl | rfl
    all_goals
     go_wp2_with (at_builtin; go_must (refine wpList_app rfl (.tmp 27) (.tmp 29) rfl el_int (by rfl) (HO0.out.alloc _) (by rfl) (Sl.newest (n := 1) (by simp) (by rfl) (by decide)) (by simp [Value.oneCell']) (by omega) (by omega) (by simp; omega) ?_; intro A' cap' w3 hown3 hgr3 hat3; have HO3 := Lib.hid hown3; have HG3 := Lib.hid hgr3; clear hown3 hgr3 hat3))
     go_roundg (n - (i + 1))
     case rel =>
      have hg3 := HG3.out
      have hr1 : ∀ k, (Value.slice A i co).ownBlock = some k → w.heap.size ≤ k := fun k e => (HO0.out.lt k e).1
      refine ⟨i + 1, cap', A', s ++ [_], rfl, by go_num, by omega, rfl, ?_, ?_, ?_, HP2, HA2⟩
      ·have := HO3.out
       unfold Hid IntsO
       rw [intsV_append]
       exact this
      ·exact (hD.out.alloc _).grown hg3 (fun k e => by have := hr1 k e; omega)
      ·exact grown_new (grown_trans hG.out (grown_of_below ((Below.refl _ _).alloc (Nat.le_refl _) _) _)) hg3 (fun k e => by have := hr1 k e; omega)
     case measure => omega
   ·have q1 : (x != 1) = true := by simpa using fun e => h12 (.inl e)
    have q2 : (x != 2) = true := by simpa using fun e => h12 (.inr e)
    go_wp2_with fail
    clear hc q1 q2
    refine (next_any g 2 wr hD.out (by decide)).mono ?_
    rintro e w1 ⟨r, rfl, hr0, -, hr1, hd1, hg1, hs1⟩
    have hrn := hr1.out (by decide)
    obtain ⟨p, hpp⟩ : ∃ p, p = 1 + r := ⟨_, rfl⟩
    have hp12 : p = 1 ∨ p = 2 := by omega
    have hw : IntKind.wrap .i64 (1 + r) = p := by rcases (show r = 0 ∨ r = 1 by omega) with rfl | rfl <;> subst hpp <;> rfl
    have HP2 : Hid (∀ q ∈ s ++ [p], q = 1 ∨ q = 2) := fun q hq => by
     rcases List.mem_append.1 hq with h | h
     ·exact hP.out q h
     ·rw [List.mem_singleton.1 h]; exact hp12
    have HA2 : Hid (∀ (j : Nat) (y : Int), j < i + 1 → m[j]? = some y → (y = 1 ∨ y = 2) → (s ++ [p])[j]? = some y) := fun j y hj hy h => by
     by_cases hji : j < i
     ·rw [List.getElem?_append_left (by rw [HSL.out]; exact hji)]; exact hA.out j y hji hy h
     ·obtain rfl : j = i := by omega
      rw [HX.out] at hy
      injection hy with hy
      subst hy
      exact absurd h h12
    have HO1 := Lib.hid (hO.out.kept hg1.out (ne_row fun q e => by have := (hO.out.lt q e).1; omega))
    have HGW := Lib.hid (grown_trans hG.out hg1.out)
    have hz2 := HGW.out.size
    have HD1 := Lib.hid hd1.out
    clear hr0 hr1 hrn hpp hd1 hg1 hs1 hO hD hG h12
    go_wp2_with (at_builtin; go_must (refine wpList_app rfl (.tmp 27) (.tmp 29) rfl el_int (by rfl) (HO1.out.alloc _) (by rfl) (Sl.newest (n := 1) (by simp) (by rfl) (by decide)) (by simp [Value.oneCell']) (by omega) (by omega) (by simp; omega) ?_; intro A' cap' w3 hown3 hgr3 hat3; have HO3 := Lib.hid hown3; have HG3 := Lib.hid hgr3; clear hown3 hgr3 hat3))
    go_roundg (n - (i + 1))
    case rel =>
     have hg3 := HG3.out
     have hr1 : ∀ k, (Value.slice A i co).ownBlock = some k → w.heap.size ≤ k := fun k e => (HO1.out.lt k e).1
     refine ⟨i + 1, cap', A', s ++ [p], rfl, by go_num, by omega, rfl, ?_, ?_, ?_, HP2, HA2⟩
     ·have := HO3.out
      unfold Hid IntsO
      rw [intsV_append]
      exact this
     ·exact (HD1.out.alloc _).grown hg3 (fun k e => by have := hr1 k e; omega)
     ·exact grown_new (grown_trans HGW.out (grown_of_below ((Below.refl _ _).alloc (Nat.le_refl _) _) _)) hg3 (fun k e => by have := hr1 k e; omega)
    case measure => omega
  ·obtain rfl : i = n := by omega
   have hii : decide (i < i) = false := by simp
   go_wp2_with fail
   go_ret
   exact ⟨A, co, s, rfl, hD, hG, hO, hP, fun j x hj h => hA.out j x (by have := (List.getElem?_eq_some_iff.1 hj).1; rw [HML.out] at this; exact this) hj h⟩
end Go.Proofs.YtnpfkiidhidjbaaGreatDoor
/-
 The statements' own Light.
-/
namespace Go.Proofs.YtnpfkiidhidjbaaGreatDoor
open Go.RowKit
structure PcSl (w : World) (N : Array Value) (wr : World) : Prop where
 bn : Blk wr w.heap.size 26 N
 bl : Below w.heap.size w wr
theorem PcSl.later {w wr wr' : World} {N : Array Value} (h : PcSl w N wr) (hb : Below wr.heap.size wr wr') : PcSl w N wr' := ⟨h.bn.below hb h.bn.lt, h.bl.trans (hb.mono h.bl.size)⟩
theorem PcSl.drew {w wr : World} {N : Array Value} (h : PcSl w N wr) : PcSl w N wr.drew := h.later (Below.refl _ _).drew
def lightB (ns : List Nd) (ds : List Dv) (nn nd : Nat) : Bool := (decide ((nn : Int) ≤ 40) && decide ((nd : Int) ≤ 14)) || ((checkN ns ds != 0) && decide ((nn : Int) ≤ 100) && decide ((nd : Int) ≤ 200))
theorem lightB_le {ns : List Nd} {ds : List Dv} {nn nd : Nat} (h : lightB ns ds nn nd = true) : nd ≤ 200 := by
 simp only [lightB, Bool.or_eq_true, Bool.and_eq_true, decide_eq_true_eq] at h; omega
set_option maxHeartbeats 4000000 in
theorem light_any (An Ad : Option Addr) (nn cn nd cd Bn Bd : Nat) (ns : List Nd) (ds : List Dv) (w : World) (hn : Sl w Bn 3 An nn cn (ns.flatMap Nd.cells)) (hd : Sl w Bd 5 Ad nd cd (ds.flatMap Dv.cells)) (hBn : Bn ≤ w.heap.size) (hBd : Bd ≤ w.heap.size)
  (hsn : ∀ x ∈ ns, x.name.size ≤ 9223372036854775807) (hsd : ∀ x ∈ ds, x.name.size ≤ 9223372036854775807) :
  Calls Tryz.prog 5 #[.agg #[.slice An nn cn, .slice Ad nd cd]] w fun e w' => e = .returned (.bool (lightB ns ds nn nd)) ∧ Below w.heap.size w w' := by
 have HST : Hid (PcSl w #[.slice An nn cn, .slice Ad nd cd] (w.alloc (.cells #[.slice An nn cn, .slice Ad nd cd] 26))) := ⟨Blk.new _ _ _, (Below.refl _ _).alloc (Nat.le_refl _) _⟩
 have HCK := Lib.hid (rcheck_any An Ad nn cn nd cd Bn Bd ns ds (w.alloc (.cells #[.slice An nn cn, .slice Ad nd cd] 26)) (hn.below HST.out.bl hBn) (hd.below HST.out.bl hBd) (by simp; omega) (by simp; omega) hsn hsd)
 have hle := hn.le
 have hle2 := hd.le
 clear hn hd hsn hsd
 have HR : Hid (lightB ns ds nn nd = ((decide ((nn : Int) ≤ 40) && decide ((nd : Int) ≤ 14)) || ((checkN ns ds != 0) && decide ((nn : Int) ≤ 100) && decide ((nd : Int) ≤ 200)))) := rfl
 generalize lightB ns ds nn nd = lb at *
 have e1 : decide ((nn : Int) ≤ 40) = decide (nn ≤ 40) := by rw [decide_eq_decide]; omega
 have e2 : decide ((nd : Int) ≤ 14) = decide (nd ≤ 14) := by rw [decide_eq_decide]; omega
 have e3 : decide ((nn : Int) ≤ 100) = decide (nn ≤ 100) := by rw [decide_eq_decide]; omega
 have e4 : decide ((nd : Int) ≤ 200) = decide (nd ≤ 200) := by rw [decide_eq_decide]; omega
 rw [e1, e2, e3, e4] at HR
 by_cases hsm : nn ≤ 40 ∧ nd ≤ 14
 ·have q1 : decide (nn ≤ 40) = true := by simpa using hsm.1
  have q2 : decide (nd ≤ 14) = true := by simpa using hsm.2
  rw [q1, q2] at HR
  have HB2 := Lib.hid HST.out.bl
  clear hsm HCK HST
  go_enter Tryz.func5, Tryz.ntmps5
  go_wp2_with fail
  go_ret
  exact ⟨ret_bool HR.out.symm, HB2.out⟩
 have hnot : (decide (nn ≤ 40) && decide (nd ≤ 14)) = false := by
  rw [Bool.and_eq_false_iff]
  by_cases h1 : nn ≤ 40
  ·right; simp; omega
  ·left; simpa using h1
 rw [hnot] at HR
 have hcase : decide (nn ≤ 40) = false ∨ (decide (nn ≤ 40) = true ∧ decide (nd ≤ 14) = false) := by
  by_cases h1 : nn ≤ 40
  ·right; simp; omega
  ·left; simpa using h1
 clear hsm hnot
 generalize checkN ns ds = er at *
 rcases hcase with q1 | ⟨q1, q2⟩
 all_goals
  go_enter Tryz.func5, Tryz.ntmps5
  go_wp2_with fail
  generalize World.alloc _ _ = W at *
  refine HCK.out.mono ?_
  rintro e w1 ⟨rfl, hb1⟩
  have HS1 := Lib.hid (HST.out.later hb1)
  clear hb1 HST HCK
  have k0 : w1.cell? ⟨w.heap.size, 0, none⟩ = some (.slice An nn cn) := HS1.out.bn.cell 0
  have k1 : w1.cell? ⟨w.heap.size, 1, none⟩ = some (.slice Ad nd cd) := HS1.out.bn.cell 1
  rcases he : (er != 0) with _ | _
  ·rw [he] at HR
   go_wp2_with fail
   go_ret
   exact ⟨ret_bool HR.out.symm, HS1.out.bl⟩
  ·rw [he] at HR
   rcases h3 : decide (nn ≤ 100) with _ | _
   ·rw [h3] at HR
    go_wp2_with fail
    go_ret
    exact ⟨ret_bool HR.out.symm, HS1.out.bl⟩
   ·rw [h3] at HR
    go_wp2_with fail
    go_ret
    exact ⟨ret_bool HR.out.symm, HS1.out.bl⟩
end Go.Proofs.YtnpfkiidhidjbaaGreatDoor
/-
 The reference of layer 3: walk of Ints.
-/
namespace Go.Proofs.YtnpfkiidhidjbaaGreatDoor
open Go.RowKit
def InR (w : World) (n : Nat) (l m : List Int) (gk : Nat) (iv : Value) (wr : World) : Prop := ∃ i : Nat, iv = .int .i64 i ∧ i ≤ n ∧ gk = n - i ∧ Hid (Below w.heap.size w wr) ∧ Hid (∀ j, j < i → l[j]? = m[j]?)
set_option maxHeartbeats 2000000 in
theorem ints_any (A B : Option Addr) (n c n2 c2 Ba Bb : Nat) (l m : List Int) (w : World) (ha : Sl w Ba 1 A n c (intsV l)) (hb : Sl w Bb 1 B n2 c2 (intsV m)) (hBa : Ba ≤ w.heap.size) (hBb : Bb ≤ w.heap.size) : Calls Tryz.prog 21 #[.slice A n c, .slice B n2 c2] w fun e w' => e = .returned (.bool (decide (l = m))) ∧ Below w.heap.size w w' := by
 have HLA := Lib.hid (ha.len (fun _ => rfl) (by decide)); have HLB := Lib.hid (hb.len (fun _ => rfl) (by decide))
 have hm1 := ha.le
 have hm2 := hb.le
 have HA := Lib.hid ha; have HB := Lib.hid hb
 clear ha hb
 by_cases hn : n = n2; rotate_left
 ·have q : decide (n = n2) = false := by simpa using hn
  have q' : ((n : Int) != (n2 : Int)) = true := by simp; omega
  have HR : Hid (decide (l = m) = false) := decide_eq_false (fun e => hn (by rw [← HLA.out, ← HLB.out, e]))
  clear hn
  go_enter Tryz.func21, Tryz.ntmps21
  go_wp2_with fail
  go_ret
  exact ⟨ret_bool (by rw [HR.out]), Below.refl _ _⟩
 subst hn
 go_enter Tryz.func21, Tryz.ntmps21
 go_wp2_with fail
 go_loopg [5] n (InR w n l m)
 case atStart => exact ⟨0, rfl, Nat.zero_le _, rfl, Below.refl _ _, fun j hj => absurd hj (by omega)⟩
 case round =>
  obtain ⟨i, rfl, hi, rfl, hbl, hok⟩ := hrel
  by_cases hlt : i < n
  ·obtain ⟨b1, o1, x, rfl, hb1, hx, hc1⟩ := (HA.out.below hbl.out hBa).at1 hlt
   obtain ⟨b2, o2, y, rfl, hb2, hy, hc2⟩ := (HB.out.below hbl.out hBb).at1 hlt
   have HX := Lib.hid hx; have HY := Lib.hid hy
   clear hx hy
   go_upto_region 6 with (fail)
   refine wp_region_J (S := fun W' => W'.cell? ⟨b1, o1 + i, none⟩ = some (.int .i64 x) ∧ W'.cell? ⟨b2, o2 + i, none⟩ = some (.int .i64 y)) (J := []) (by kernel_rfl) ?_ (fun hHeld => ?_)
   ·exact ⟨hc1, hc2⟩
   try dsimp only at hHeld
   refine wpAnyJ_tL (i := 0) (d := some 17) (v := ?_) #[tt, ff, ff, ff, ff, ff, ff, ff, ff] rfl rfl ?_ hHeld ?_
   rotate_left
   ·(intro w hSw; (try dsimp only at hSw);  go_simp; try with_reducible rfl)
   try simp only [Act.put, sA, s0, s1]
   refine wpAnyJ_tL (i := 1) (d := some 18) (v := ?_) #[tt, tt, ff, ff, ff, ff, ff, ff, ff] rfl rfl ?_ hHeld ?_
   rotate_left
   ·(intro w hSw; (try dsimp only at hSw);  go_simp; try with_reducible rfl)
   try simp only [Act.put, sA, s0, s1]
   refine wpAnyJ_tL (i := 2) (d := some 19) (v := ?_) #[tt, tt, tt, ff, ff, ff, ff, ff, ff] rfl rfl ?_ hHeld ?_
   rotate_left
   ·(intro w hSw; (try dsimp only at hSw);  go_simp; try with_reducible rfl)
   try simp only [Act.put, sA, s0, s1]
   refine wpAnyJ_tL (i := 3) (d := some 20) (v := ?_) #[tt, tt, tt, tt, ff, ff, ff, ff, ff] rfl rfl ?_ hHeld ?_
   rotate_left
   ·(intro w hSw; (try dsimp only at hSw);  go_simp; try with_reducible rfl)
   try simp only [Act.put, sA, s0, s1]
   refine wpAnyJ_tL (i := 4) (d := some 21) (v := ?_) #[tt, tt, tt, tt, tt, ff, ff, ff, ff] rfl rfl ?_ hHeld ?_
   rotate_left
   ·(intro w hSw; (try dsimp only at hSw);  go_simp; try with_reducible rfl)
   try simp only [Act.put, sA, s0, s1]
   refine wpAnyJ_tL (i := 5) (d := some 22) (v := ?_) #[tt, tt, tt, tt, tt, tt, ff, ff, ff] rfl rfl ?_ hHeld ?_
   rotate_left
   ·(intro w hSw; (try dsimp only at hSw);  go_simp; try with_reducible rfl)
   try simp only [Act.put, sA, s0, s1]
   refine wpAnyJ_tL (i := 6) (d := some 23) (v := ?_) #[tt, tt, tt, tt, tt, tt, tt, ff, ff] rfl rfl ?_ hHeld ?_
   rotate_left
   ·(intro w hSw; (try dsimp only at hSw);  go_simp; try with_reducible rfl)
   try simp only [Act.put, sA, s0, s1]
   refine wpAnyJ_tL (i := 7) (d := some 24) (v := ?_) #[tt, tt, tt, tt, tt, tt, tt, tt, ff] rfl rfl ?_ hHeld ?_
   rotate_left
   ·(intro w hSw; (try dsimp only at hSw);  go_simp; try with_reducible rfl)
   try simp only [Act.put, sA, s0, s1]
   refine wpAnyJ_tL (i := 8) (d := some 25) (v := ?_) #[tt, tt, tt, tt, tt, tt, tt, tt, tt] rfl rfl ?_ hHeld ?_
   rotate_left
   ·(intro w hSw; (try dsimp only at hSw);  go_simp; try with_reducible rfl)
   try simp only [Act.put, sA, s0, s1]
   refine wpAnyJ_done (by kernel_rfl) ?_ _
   clear hHeld
   by_cases hxy : x = y
   ·subst hxy
    go_wp2_with fail
    go_roundg (n - (i + 1))
    case rel => exact ⟨i + 1, by go_num, by omega, rfl, hbl.out.drew, fun j hj => by
     rcases Nat.lt_succ_iff_lt_or_eq.1 hj with h | rfl
     ·exact hok.out j h
     ·rw [HX.out, HY.out]⟩
    case measure => omega
   ·have q : (x != y) = true := by simpa using hxy
    have q2 : (x == y) = false := by simpa using hxy
    have HR : Hid (decide (l = m) = false) := decide_eq_false (fun e => hxy (by have := HX.out; rw [e, HY.out] at this; exact (Option.some.inj this).symm))
    clear hxy
    go_wp2_with fail
    go_ret
    exact ⟨ret_bool (by rw [HR.out]), hbl.out.drew⟩
  ·obtain rfl : i = n := by omega
   have hii : decide (i < i) = false := by simp
   have HR : Hid (decide (l = m) = true) := decide_eq_true (by
    apply List.ext_getElem?
    intro j
    by_cases hj : j < i
    ·exact hok.out j hj
    ·rw [List.getElem?_eq_none (by rw [HLA.out]; omega), List.getElem?_eq_none (by rw [HLB.out]; omega)])
   go_wp2_with fail
   go_ret
   exact ⟨ret_bool (by rw [HR.out]), hbl.out⟩
end Go.Proofs.YtnpfkiidhidjbaaGreatDoor
