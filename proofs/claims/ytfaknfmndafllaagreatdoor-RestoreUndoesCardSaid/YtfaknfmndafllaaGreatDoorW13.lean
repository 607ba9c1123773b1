import Derived.Test.YtfaknfmndafllaaGreatDoorW12
import Derived.Test.YtfaknfmndafllaaGreatDoorW03
import Derived.Test.YtfaknfmndafllaaGreatDoorW04
import Derived.Deep.DeepCutAuto
set_option maxRecDepth 100000
set_option maxHeartbeats 8000000
namespace Go.Proofs.YtfaknfmndafllaaGreatDoor
open Go.RowKit
theorem rjoins_any (n : Int) (w : World) : Calls Tryz.prog 45 #[.int .i64 n] w fun e w' => e = .returned (.bool (joinsB n)) ∧ w = w' := by
 have HJ : Hid (joinsB n = (decide (n = 1) || decide (n = 2) || decide (n = 3))) := by unfold Hid joinsB; rw [Bool.eq_iff_iff]; simp; omega
 by_cases h1 : n = 1
 ·subst h1
  go_enter Tryz.func45, Tryz.ntmps45
  go_wp2
  go_ret
  exact ⟨ret_bool (by rw [HJ.out]; rfl), rfl⟩
 ·have q1 : (n == 1) = false := by simpa using h1
  by_cases h2 : n = 2
  ·subst h2
   go_enter Tryz.func45, Tryz.ntmps45
   go_wp2
   go_ret
   exact ⟨ret_bool (by rw [HJ.out]; rfl), rfl⟩
  ·have q2 : (n == 2) = false := by simpa using h2
   by_cases h3 : n = 3
   ·subst h3
    go_enter Tryz.func45, Tryz.ntmps45
    go_wp2
    go_ret
    exact ⟨ret_bool (by rw [HJ.out]; rfl), rfl⟩
   ·have q3 : (n == 3) = false := by simpa using h3
    go_enter Tryz.func45, Tryz.ntmps45
    go_wp2
    go_ret
    exact ⟨ret_bool (by rw [HJ.out]; simp [h1, h2, h3]), rfl⟩
def Un (ns : List Nd) (i : Nat) : List (List UInt8) := ((ns.take i).map (fun x => toL x.name)).reverse
def Ud (ns : List Nd) (ds : List Dv) (j : Nat) : List (List UInt8) := ((ds.take j).map (fun x => toL x.name)).reverse ++ Un ns ns.length
theorem Un_succ {ns : List Nd} {i : Nat} {x : Nd} (hx : ns[i]? = some x) : Un ns (i + 1) = toL x.name :: Un ns i := by unfold Un; rw [take_snoc hx]; simp
theorem Ud_succ {ns : List Nd} {ds : List Dv} {j : Nat} {x : Dv} (hx : ds[j]? = some x) : Ud ns ds (j + 1) = toL x.name :: Ud ns ds j := by unfold Ud; rw [take_snoc hx]; simp
theorem mem_Un {ns : List Nd} {i : Nat} {l : List UInt8} : l ∈ Un ns i ↔ ∃ (k : Nat) (y : Nd), k < i ∧ ns[k]? = some y ∧ toL y.name = l := by
 unfold Un
 rw [List.mem_reverse, List.mem_map]
 constructor
 ·rintro ⟨y, hy, rfl⟩
  obtain ⟨k, hk⟩ := List.mem_iff_getElem?.1 hy
  rw [List.getElem?_take] at hk
  split at hk
  ·exact ⟨k, y, by assumption, hk, rfl⟩
  ·cases hk
 ·rintro ⟨k, y, hk, hy, rfl⟩
  exact ⟨y, List.mem_iff_getElem?.2 ⟨k, by rw [List.getElem?_take, if_pos hk]; exact hy⟩, rfl⟩
theorem mem_Ud {ns : List Nd} {ds : List Dv} {j : Nat} {l : List UInt8} : l ∈ Ud ns ds j ↔ (∃ (k : Nat) (y : Dv), k < j ∧ ds[k]? = some y ∧ toL y.name = l) ∨ (∃ (k : Nat) (y : Nd), k < ns.length ∧ ns[k]? = some y ∧ toL y.name = l) := by
 unfold Ud
 rw [List.mem_append, mem_Un]
 refine or_congr ?_ Iff.rfl
 rw [List.mem_reverse, List.mem_map]
 constructor
 ·rintro ⟨y, hy, rfl⟩
  obtain ⟨k, hk⟩ := List.mem_iff_getElem?.1 hy
  rw [List.getElem?_take] at hk
  split at hk
  ·exact ⟨k, y, by assumption, hk, rfl⟩
  ·cases hk
 ·rintro ⟨k, y, hk, hy, rfl⟩
  exact ⟨y, List.mem_iff_getElem?.2 ⟨k, by rw [List.getElem?_take, if_pos hk]; exact hy⟩, rfl⟩
theorem usedN_Un : ∀ (ns : List Nd) (U : List (List UInt8)), usedN U ns = ((ns.map (fun x => toL x.name)).reverse ++ U)
 | [], U => rfl
 | x :: ns, U => by rw [usedN, usedN_Un ns]; simp
theorem str_ne {a b : ByteArray} (h : a ≠ b) : (a.toList == b.toList) = false := by
 rw [ByteArray.toList_eq, ByteArray.toList_eq]
 exact beq_false_of_ne (fun e => h (toL_inj e))
structure RcSt (w : World) (N : Array Value) (wr : World) : Prop where
 bx : Blk wr w.heap.size 30 N
 bl : Below w.heap.size w wr
theorem RcSt.later {w wr wr' : World} {N : Array Value} (h : RcSt w N wr) (hb : Below wr.heap.size wr wr') : RcSt w N wr' := ⟨h.bx.below hb h.bx.lt, h.bl.trans (hb.mono h.bl.size)⟩
theorem RcSt.drew {w wr : World} {N : Array Value} (h : RcSt w N wr) : RcSt w N wr.drew := h.later (Below.refl _ _).drew
theorem RcSt.alloc {w wr : World} {N : Array Value} (h : RcSt w N wr) (o : Obj) : RcSt w N (wr.alloc o) := h.later ((Below.refl _ _).alloc (Nat.le_refl _) _)
def RcR1 (w : World) (N : Array Value) (nn : Nat) (ns : List Nd) (gk : Nat) (iv : Value) (wr : World) : Prop := ∃ i : Nat, iv = .int .i64 i ∧ i ≤ nn ∧ gk = nn - i ∧ Hid (RcSt w N wr) ∧ Hid (chkN [] ns = chkN (Un ns i) (ns.drop i))
def RcR2 (w : World) (N : Array Value) (bq i : Nat) (T : TypeId) (C : Array Value) (Q : Nat → Prop) (gk : Nat) (kv : Value) (wr : World) : Prop := ∃ k : Nat, kv = .int .i64 k ∧ k ≤ i ∧ gk = i - k ∧ Hid (RcSt w N wr) ∧ Hid (Blk wr bq T C) ∧ Hid (Q k)
def RcR3 (w : World) (N : Array Value) (nd : Nat) (ns : List Nd) (ds : List Dv) (gk : Nat) (iv : Value) (wr : World) : Prop := ∃ i : Nat, iv = .int .i64 i ∧ i ≤ nd ∧ gk = nd - i ∧ Hid (RcSt w N wr) ∧ Hid (checkN ns ds = chkD ns.length (Ud ns ds i) (ds.drop i))
theorem rcheck_any (An Ad : Option Addr) (nn cn nd cd Bn Bd : Nat) (ns : List Nd) (ds : List Dv) (w : World) (hn : Sl w Bn 3 An nn cn (ns.flatMap Nd.cells)) (hd : Sl w Bd 5 Ad nd cd (ds.flatMap Dv.cells)) (hBn : Bn ≤ w.heap.size) (hBd : Bd ≤ w.heap.size)
 (hsn : ∀ x ∈ ns, x.name.size ≤ 9223372036854775807) (hsd : ∀ x ∈ ds, x.name.size ≤ 9223372036854775807) :
 Calls Tryz.prog 18 #[.agg #[.slice An nn cn, .slice Ad nd cd]] w fun e w' => e = .returned (.int .i64 (checkN ns ds)) ∧ Below w.heap.size w w' := by
 have HLN := Lib.hid (hn.len (fun _ => rfl) (by decide)); have HLD := Lib.hid (hd.len (fun _ => rfl) (by decide))
 obtain ⟨hnc, hcm⟩ := hn.le
 obtain ⟨hdc, hdm⟩ := hd.le
 have HN := Lib.hid hn; have HD := Lib.hid hd; have HSN := Lib.hid hsn; have HSD := Lib.hid hsd
 clear hn hd hsn hsd
 have HC : Hid (checkN ns ds = if 32 < nn then 1 else if 64 < nd then 1 else if chkN [] ns = 0 then chkD nn (usedN [] ns) ds else chkN [] ns) := by unfold Hid; rw [checkN, HLN.out, HLD.out]
 by_cases h1 : 32 < nn
 ·have q1 : decide ((32 : Int) < (nn : Int)) = true := by simp; omega
  go_enter Tryz.func18, Tryz.ntmps18
  go_wp2_with fail
  go_ret
  exact ⟨ret_int (by rw [HC.out, if_pos h1]), (Below.refl _ _).alloc (Nat.le_refl _) _⟩
 have q1 : decide ((32 : Int) < (nn : Int)) = false := by simp; omega
 by_cases h2 : 64 < nd
 ·have q2 : decide ((64 : Int) < (nd : Int)) = true := by simp; omega
  go_enter Tryz.func18, Tryz.ntmps18
  go_wp2_with fail
  go_ret
  exact ⟨ret_int (by rw [HC.out, if_neg h1, if_pos h2]), (Below.refl _ _).alloc (Nat.le_refl _) _⟩
 have q2 : decide ((64 : Int) < (nd : Int)) = false := by simp; omega
 have HR0 : Hid (RcSt w #[.slice An nn cn, .slice Ad nd cd] (w.alloc (.cells #[.slice An nn cn, .slice Ad nd cd] 30))) := ⟨Blk.new _ _ _, (Below.refl _ _).alloc (Nat.le_refl _) _⟩
 go_enter Tryz.func18, Tryz.ntmps18
 go_wp2_with fail
 clear q1 q2
 generalize World.alloc _ _ = W at *
 go_loopg [3] nn (RcR1 w #[.slice An nn cn, .slice Ad nd cd] nn ns)
 case atStart => exact ⟨0, rfl, Nat.zero_le _, rfl, HR0, rfl⟩
 case round =>
  clear HR0
  obtain ⟨i, rfl, hi, rfl, hst, hch⟩ := hrel
  have k0 := hst.out.bx.c0
  have k1 := hst.out.bx.c1
  by_cases hlt : i < nn
  ·obtain ⟨b, off, x, rfl, hb, hx, hc⟩ := (HN.out.below hst.out.bl hBn).at (fun _ => rfl) (by decide) hlt
   have HX := Lib.hid hx
   have hxs := HSN.out x (List.mem_of_getElem? hx)
   obtain ⟨nm, cu, co⟩ := x
   simp only at hxs
   have c0 : wr.cell? ⟨b, off + i * 3, none⟩ = some (.string nm) := hc 0 _ rfl
   have c1 : wr.cell? ⟨b, off + i * 3 + 1, none⟩ = some (.int .i64 cu) := hc 1 _ rfl
   have c2 : wr.cell? ⟨b, off + i * 3 + 2, none⟩ = some (.int .i64 co) := hc 2 _ rfl
   clear hc hx
   have hstop : ∀ e : Int, ndErr (Un ns i) ⟨nm, cu, co⟩ = e → e ≠ 0 → checkN ns ds = e := fun e he hne => by
    have hz : chkN [] ns = e := by rw [hch.out, chkN_stop HX.out (by rw [he]; exact hne), he]
    rw [HC.out, if_neg h1, if_neg h2, hz, if_neg hne]
   have HST := Lib.hid hstop; clear hstop
   have HEE : Hid (ndErr (Un ns i) ⟨nm, cu, co⟩ = if nameB (toL nm) = false then 3 else if toL nm ∈ Un ns i then 4 else if cu < 0 ∨ 1048576 < cu then 5 else if compB co = false then 5 else 0) := rfl
   go_upto_region 7 with (fail)
   clear c0 c1 c2 k0 k1
   have HBX := Lib.hid (Blk.new wr 80 #[.string nm, .int .i64 cu, .int .i64 co])
   have HS1 := Lib.hid (hst.out.alloc (.cells #[.string nm, .int .i64 cu, .int .i64 co] 80))
   generalize World.alloc _ _ = w1 at *
   obtain ⟨bq, hbq⟩ : ∃ bq, bq = wr.heap.size := ⟨_, rfl⟩
   rw [← hbq] at HBX ⊢
   clear hbq hst
   have e0 := HBX.out.c0
   have HNA := Lib.hid (rname_any nm w1 hxs)
   rcases hnm : nameB (toL nm) with _ | _
   ·rw [hnm] at HNA HEE
    clear hnm
    go_wp2_with fail
    refine HNA.out.mono ?_
    rintro e w2 ⟨rfl, rfl⟩
    have HR := Lib.hid (HST.out 3 (by rw [HEE.out]; simp) (by decide))
    go_wp2_with fail
    go_ret
    exact ⟨ret_int (by rw [HR.out]), HS1.out.bl⟩
   ·have HNM := Lib.hid hnm
    rw [hnm] at HNA
    clear hnm
    go_wp2_with fail
    refine HNA.out.mono ?_
    rintro e w2 ⟨rfl, rfl⟩
    go_wp2_with fail
    clear e0
    go_loopg [5] i (RcR2 w #[.slice (some ⟨b, off, none⟩) nn cn, .slice Ad nd cd] bq i 80 #[.string nm, .int .i64 cu, .int .i64 co] (fun k => ∀ (j : Nat) (y : Nd), j < k → ns[j]? = some y → toL y.name ≠ toL nm))
    case atStart => exact ⟨0, rfl, Nat.zero_le _, rfl, HS1, HBX, fun j y hj => absurd hj (by omega)⟩
    case round =>
     clear HS1 HBX HNA
     obtain ⟨k, rfl, hk, rfl, hs, hbx, hq⟩ := hrel
     by_cases hlk : k < i
     ·obtain ⟨b2, off2, y, hA2, hb2, hy, hc2⟩ := (HN.out.below hs.out.bl hBn).at (k := k) (fun _ => rfl) (by decide) (by omega)
      injection hA2 with hA2
      injection hA2 with h3 h4
      subst h3 h4
      have HY := Lib.hid hy
      have d0 : wr.cell? ⟨b, off + k * 3, none⟩ = some (.string y.name) := hc2 0 _ rfl
      clear hc2 hy
      have e0 := hbx.out.c0
      have k0 := hs.out.bx.c0
      have hkn : k < nn := by omega
      go_upto_region 12 with (fail)
      refine wp_region_J (S := fun W' => W'.cell? ⟨b, off + k * 3, none⟩ = some (.string y.name) ∧ W'.cell? ⟨bq, 0, none⟩ = some (.string nm) ∧ W'.cell? ⟨w.heap.size, 0, none⟩ = some (.slice (some ⟨b, off, none⟩) nn cn)) (J := []) (by kernel_rfl) ?_ (fun hHeld => ?_)
      ·exact ⟨d0, e0, k0⟩
      try dsimp only at hHeld
      refine wpAnyJ_take (i := 0) (d := some 41) (v := ?_) rfl rfl (by kernel_rfl) (by kernel_rfl) (by kernel_rfl) (by kernel_rfl) (by kernel_rfl) (fun _ _ _ h => h) (Or.inl ⟨by rfl, ?_⟩) hHeld ?_
      rotate_left
      ·(intro w hSw; (try dsimp only at hSw);  go_simp; try with_reducible rfl)
      try simp only [Act.put, sA, sB, sC]
      refine wpAnyJ_take (i := 1) (d := some 42) (v := ?_) rfl rfl (by kernel_rfl) (by kernel_rfl) (by kernel_rfl) (by kernel_rfl) (by kernel_rfl) (fun _ _ _ h => h) (Or.inl ⟨by rfl, ?_⟩) hHeld ?_
      rotate_left
      ·(intro w hSw; (try dsimp only at hSw);  go_simp; try with_reducible rfl)
      try simp only [Act.put, sA, sB, sC]
      refine wpAnyJ_take (i := 2) (d := some 43) (v := ?_) rfl rfl (by kernel_rfl) (by kernel_rfl) (by kernel_rfl) (by kernel_rfl) (by kernel_rfl) (fun _ _ _ h => h) (Or.inl ⟨by rfl, ?_⟩) hHeld ?_
      rotate_left
      ·(intro w hSw; (try dsimp only at hSw);  go_simp; try with_reducible rfl)
      try simp only [Act.put, sA, sB, sC]
      refine wpAnyJ_take (i := 3) (d := some 44) (v := ?_) rfl rfl (by kernel_rfl) (by kernel_rfl) (by kernel_rfl) (by kernel_rfl) (by kernel_rfl) (fun _ _ _ h => h) (Or.inl ⟨by rfl, ?_⟩) hHeld ?_
      rotate_left
      ·(intro w hSw; (try dsimp only at hSw);  go_simp; try with_reducible rfl)
      try simp only [Act.put, sA, sB, sC]
      refine wpAnyJ_take (i := 4) (d := some 45) (v := ?_) rfl rfl (by kernel_rfl) (by kernel_rfl) (by kernel_rfl) (by kernel_rfl) (by kernel_rfl) (fun _ _ _ h => h) (Or.inl ⟨by rfl, ?_⟩) hHeld ?_
      rotate_left
      ·(intro w hSw; (try dsimp only at hSw);  go_simp; try with_reducible rfl)
      try simp only [Act.put, sA, sB, sC]
      refine wpAnyJ_take (i := 5) (d := some 46) (v := ?_) rfl rfl (by kernel_rfl) (by kernel_rfl) (by kernel_rfl) (by kernel_rfl) (by kernel_rfl) (fun _ _ _ h => h) (Or.inl ⟨by rfl, ?_⟩) hHeld ?_
      rotate_left
      ·(intro w hSw; (try dsimp only at hSw);  go_simp; try with_reducible rfl)
      try simp only [Act.put, sA, sB, sC]
      refine wpAnyJ_take (i := 6) (d := some 47) (v := ?_) rfl rfl (by kernel_rfl) (by kernel_rfl) (by kernel_rfl) (by kernel_rfl) (by kernel_rfl) (fun _ _ _ h => h) (Or.inl ⟨by rfl, ?_⟩) hHeld ?_
      rotate_left
      ·(intro w hSw; (try dsimp only at hSw);  go_simp; try with_reducible rfl)
      try simp only [Act.put, sA, sB, sC]
      refine wpAnyJ_take (i := 7) (d := some 48) (v := ?_) rfl rfl (by kernel_rfl) (by kernel_rfl) (by kernel_rfl) (by kernel_rfl) (by kernel_rfl) (fun _ _ _ h => h) (Or.inl ⟨by rfl, ?_⟩) hHeld ?_
      rotate_left
      ·(intro w hSw; (try dsimp only at hSw);  go_simp; try with_reducible rfl)
      try simp only [Act.put, sA, sB, sC]
      refine wpAnyJ_take (i := 8) (d := some 49) (v := ?_) rfl rfl (by kernel_rfl) (by kernel_rfl) (by kernel_rfl) (by kernel_rfl) (by kernel_rfl) (fun _ _ _ h => h) (Or.inl ⟨by rfl, ?_⟩) hHeld ?_
      rotate_left
      ·(intro w hSw; (try dsimp only at hSw);  go_simp; try with_reducible rfl)
      try simp only [Act.put, sA, sB, sC]
      refine wpAnyJ_done (by kernel_rfl) ?_ _
      clear hHeld d0 e0 k0
      by_cases he : y.name = nm
      ·subst he
       rw [show (y.name.toList == y.name.toList) = true from by simp]
       have HM : Hid (toL y.name ∈ Un ns i) := mem_Un.2 ⟨k, y, hlk, HY.out, rfl⟩
       have HR := Lib.hid (HST.out 4 (by rw [HEE.out, if_neg (by rw [HNM.out]; simp), if_pos HM.out]) (by decide))
       go_wp2_with fail
       go_ret
       exact ⟨ret_int (by rw [HR.out]), hs.out.bl.drew⟩
      ·rw [str_ne he]
       have HQ : Hid (∀ (j : Nat) (z : Nd), j < k + 1 → ns[j]? = some z → toL z.name ≠ toL nm) := by
        intro j z hj hz
        rcases Nat.lt_succ_iff_lt_or_eq.1 hj with h | rfl
        ·exact hq.out j z h hz
        ·rw [HY.out] at hz
         injection hz with hz
         subst hz
         exact fun h => he (toL_inj h)
       clear he
       go_wp2_with fail
       go_roundg (i - (k + 1))
       case rel => exact ⟨k + 1, by go_num, by omega, rfl, hs.out.drew, hbx, HQ⟩
       case measure => omega
     ·obtain rfl : k = i := by omega
      have hkk : decide (k < k) = false := by simp
      have HM : Hid (¬ toL nm ∈ Un ns k) := fun hm => by
       obtain ⟨j, y, hj, hy, he⟩ := mem_Un.1 hm
       exact hq.out j y hj hy he
      have e1 := hbx.out.c1
      have e2 := hbx.out.c2
      have HE2 : Hid (ndErr (Un ns k) ⟨nm, cu, co⟩ = if cu < 0 ∨ 1048576 < cu then 5 else if compB co = false then 5 else 0) := by unfold Hid; rw [HEE.out, if_neg (by rw [HNM.out]; simp), if_neg HM.out]
      by_cases g1 : cu < 0
      ·skip
       have HR := Lib.hid (HST.out 5 (by rw [HE2.out, if_pos (.inl g1)]) (by decide))
       go_wp2_with fail
       go_ret
       exact ⟨ret_int (by rw [HR.out]), hs.out.bl⟩
      have p1 : decide (cu < 0) = false := by simpa using g1
      by_cases g2 : 1048576 < cu
      ·skip
       have HR := Lib.hid (HST.out 5 (by rw [HE2.out, if_pos (.inr g2)]) (by decide))
       go_wp2_with fail
       go_ret
       exact ⟨ret_int (by rw [HR.out]), hs.out.bl⟩
      have p2 : decide (1048576 < cu) = false := by simpa using g2
      by_cases g3 : co < 0
      ·skip
       have HR := Lib.hid (HST.out 5 (by rw [HE2.out, if_neg (by omega), if_pos (by simp [compB]; omega)]) (by decide))
       go_wp2_with fail
       go_ret
       exact ⟨ret_int (by rw [HR.out]), hs.out.bl⟩
      have p3 : decide (co < 0) = false := by simpa using g3
      by_cases g4 : 7 < co
      ·skip
       have HR := Lib.hid (HST.out 5 (by rw [HE2.out, if_neg (by omega), if_pos (by simp [compB]; omega)]) (by decide))
       go_wp2_with fail
       go_ret
       exact ⟨ret_int (by rw [HR.out]), hs.out.bl⟩
      have p4 : decide (7 < co) = false := by simpa using g4
      have HNX : Hid (chkN [] ns = chkN (Un ns (k + 1)) (ns.drop (k + 1))) := by
       unfold Hid
       rw [hch.out, (chkN_step HX.out (by rw [HE2.out, if_neg (by omega), if_neg (by simp [compB]; omega)])).1, Un_succ HX.out]
      go_wp2_with fail
      go_roundg (nn - (k + 1))
      case rel => exact ⟨k + 1, by go_num, by omega, rfl, hs, HNX⟩
      case measure => omega
  ·obtain rfl : i = nn := by omega
   have hii : decide (i < i) = false := by simp
   have HCD : Hid (checkN ns ds = chkD ns.length (Ud ns ds 0) (ds.drop 0)) := by
    have h0 : chkN [] ns = 0 := by rw [hch.out, List.drop_eq_nil_of_le (by rw [HLN.out]; exact Nat.le_refl _)]; rfl
    unfold Hid
    rw [HC.out, if_neg h1, if_neg h2, if_pos h0, usedN_Un, HLN.out]
    simp [Ud, Un]
   clear hch
   go_wp2_with fail
   go_loopg [6] nd (RcR3 w #[.slice An i cn, .slice Ad nd cd] nd ns ds)
   case atStart => exact ⟨0, rfl, Nat.zero_le _, rfl, hst, HCD⟩
   case round =>
    clear HCD hst k0 k1 hii
    obtain ⟨j, rfl, hj, rfl, hst, hch⟩ := hrel
    have k0 := hst.out.bx.c0
    have k1 := hst.out.bx.c1
    by_cases hlj : j < nd; rotate_left
    ·obtain rfl : j = nd := by omega
     have hjj : decide (j < j) = false := by simp
     have HR : Hid (checkN ns ds = 0) := by unfold Hid; rw [hch.out, List.drop_eq_nil_of_le (by rw [HLD.out]; exact Nat.le_refl _)]; rfl
     go_wp2_with fail
     go_ret
     exact ⟨ret_int (by rw [HR.out]), hst.out.bl⟩
    obtain ⟨b, off, x, rfl, hb, hx, hc⟩ := (HD.out.below hst.out.bl hBd).at (fun _ => rfl) (by decide) hlj
    have HX := Lib.hid hx
    have hxs := HSD.out x (List.mem_of_getElem? hx)
    obtain ⟨nm, kd, xa, xb, co⟩ := x
    simp only at hxs
    have c0 : wr.cell? ⟨b, off + j * 5, none⟩ = some (.string nm) := hc 0 _ rfl
    have c1 : wr.cell? ⟨b, off + j * 5 + 1, none⟩ = some (.int .i64 kd) := hc 1 _ rfl
    have c2 : wr.cell? ⟨b, off + j * 5 + 2, none⟩ = some (.int .i64 xa) := hc 2 _ rfl
    have c3 : wr.cell? ⟨b, off + j * 5 + 3, none⟩ = some (.int .i64 xb) := hc 3 _ rfl
    have c4 : wr.cell? ⟨b, off + j * 5 + 4, none⟩ = some (.int .i64 co) := hc 4 _ rfl
    clear hc hx
    have hstop : ∀ e : Int, dvErr ns.length (Ud ns ds j) ⟨nm, kd, xa, xb, co⟩ = e → e ≠ 0 → checkN ns ds = e := fun e he hne => by
     rw [hch.out, chkD_stop HX.out (by rw [he]; exact hne), he]
    have HST := Lib.hid hstop; clear hstop
    have HEE : Hid (dvErr ns.length (Ud ns ds j) ⟨nm, kd, xa, xb, co⟩ = if nameB (toL nm) = false then 3 else if toL nm ∈ Ud ns ds j then 4 else if kd < 1 ∨ 6 < kd then 6 else if endsB kd xa xb i = false then 7 else if compB co = false then 5 else 0) := by unfold Hid dvErr; rw [HLN.out]
    go_upto_region 20 with (fail)
    clear c0 c1 c2 c3 c4 k0 k1
    have HBX := Lib.hid (Blk.new wr 68 #[.string nm, .int .i64 kd, .int .i64 xa, .int .i64 xb, .int .i64 co])
    have HS1 := Lib.hid (hst.out.alloc (.cells #[.string nm, .int .i64 kd, .int .i64 xa, .int .i64 xb, .int .i64 co] 68))
    generalize World.alloc _ _ = w1 at *
    obtain ⟨bq, hbq⟩ : ∃ bq, bq = wr.heap.size := ⟨_, rfl⟩
    rw [← hbq] at HBX ⊢
    clear hbq hst
    have e0 := HBX.out.c0
    have HNA := Lib.hid (rname_any nm w1 hxs)
    rcases hnm : nameB (toL nm) with _ | _
    ·rw [hnm] at HNA HEE
     clear hnm
     go_wp2_with fail
     refine HNA.out.mono ?_
     rintro e w2 ⟨rfl, rfl⟩
     have HR := Lib.hid (HST.out 3 (by rw [HEE.out]; simp) (by decide))
     go_wp2_with fail
     go_ret
     exact ⟨ret_int (by rw [HR.out]), HS1.out.bl⟩
    have HNM := Lib.hid hnm
    rw [hnm] at HNA
    clear hnm
    go_wp2_with fail
    refine HNA.out.mono ?_
    rintro e w2 ⟨rfl, rfl⟩
    go_wp2_with fail
    clear e0
    go_loopg [8] i (RcR2 w #[.slice An i cn, .slice (some ⟨b, off, none⟩) nd cd] bq i 68 #[.string nm, .int .i64 kd, .int .i64 xa, .int .i64 xb, .int .i64 co] (fun k => ∀ (t : Nat) (y : Nd), t < k → ns[t]? = some y → toL y.name ≠ toL nm))
    case atStart => exact ⟨0, rfl, Nat.zero_le _, rfl, HS1, HBX, fun t y ht => absurd ht (by omega)⟩
    case round =>
     clear HS1 HBX HNA
     obtain ⟨k, rfl, hk, rfl, hs, hbx, hq⟩ := hrel
     have k0 := hs.out.bx.c0
     by_cases hlk : k < i
     ·obtain ⟨b2, off2, y, rfl, hb2, hy, hc2⟩ := (HN.out.below hs.out.bl hBn).at (k := k) (fun _ => rfl) (by decide) hlk
      have HY := Lib.hid hy
      have d0 : wr.cell? ⟨b2, off2 + k * 3, none⟩ = some (.string y.name) := hc2 0 _ rfl
      clear hc2 hy
      have e0 := hbx.out.c0
      go_upto_region 25 with (fail)
      refine wp_region_J (S := fun W' => W'.cell? ⟨b2, off2 + k * 3, none⟩ = some (.string y.name) ∧ W'.cell? ⟨bq, 0, none⟩ = some (.string nm) ∧ W'.cell? ⟨w.heap.size, 0, none⟩ = some (.slice (some ⟨b2, off2, none⟩) i cn)) (J := []) (by kernel_rfl) ?_ (fun hHeld => ?_)
      ·exact ⟨d0, e0, k0⟩
      try dsimp only at hHeld
      refine wpAnyJ_take (i := 0) (d := some 91) (v := ?_) rfl rfl (by kernel_rfl) (by kernel_rfl) (by kernel_rfl) (by kernel_rfl) (by kernel_rfl) (fun _ _ _ h => h) (Or.inl ⟨by rfl, ?_⟩) hHeld ?_
      rotate_left
      ·(intro w hSw; (try dsimp only at hSw);  go_simp; try with_reducible rfl)
      try simp only [Act.put, sA, sB, sC]
      refine wpAnyJ_take (i := 1) (d := some 92) (v := ?_) rfl rfl (by kernel_rfl) (by kernel_rfl) (by kernel_rfl) (by kernel_rfl) (by kernel_rfl) (fun _ _ _ h => h) (Or.inl ⟨by rfl, ?_⟩) hHeld ?_
      rotate_left
      ·(intro w hSw; (try dsimp only at hSw);  go_simp; try with_reducible rfl)
      try simp only [Act.put, sA, sB, sC]
      refine wpAnyJ_take (i := 2) (d := some 93) (v := ?_) rfl rfl (by kernel_rfl) (by kernel_rfl) (by kernel_rfl) (by kernel_rfl) (by kernel_rfl) (fun _ _ _ h => h) (Or.inl ⟨by rfl, ?_⟩) hHeld ?_
      rotate_left
      ·(intro w hSw; (try dsimp only at hSw);  go_simp; try with_reducible rfl)
      try simp only [Act.put, sA, sB, sC]
      refine wpAnyJ_take (i := 3) (d := some 94) (v := ?_) rfl rfl (by kernel_rfl) (by kernel_rfl) (by kernel_rfl) (by kernel_rfl) (by kernel_rfl) (fun _ _ _ h => h) (Or.inl ⟨by rfl, ?_⟩) hHeld ?_
      rotate_left
      ·(intro w hSw; (try dsimp only at hSw);  go_simp; try with_reducible rfl)
      try simp only [Act.put, sA, sB, sC]
      refine wpAnyJ_take (i := 4) (d := some 95) (v := ?_) rfl rfl (by kernel_rfl) (by kernel_rfl) (by kernel_rfl) (by kernel_rfl) (by kernel_rfl) (fun _ _ _ h => h) (Or.inl ⟨by rfl, ?_⟩) hHeld ?_
      rotate_left
      ·(intro w hSw; (try dsimp only at hSw);  go_simp; try with_reducible rfl)
      try simp only [Act.put, sA, sB, sC]
      refine wpAnyJ_take (i := 5) (d := some 96) (v := ?_) rfl rfl (by kernel_rfl) (by kernel_rfl) (by kernel_rfl) (by kernel_rfl) (by kernel_rfl) (fun _ _ _ h => h) (Or.inl ⟨by rfl, ?_⟩) hHeld ?_
      rotate_left
      ·(intro w hSw; (try dsimp only at hSw);  go_simp; try with_reducible rfl)
      try simp only [Act.put, sA, sB, sC]
      refine wpAnyJ_take (i := 6) (d := some 97) (v := ?_) rfl rfl (by kernel_rfl) (by kernel_rfl) (by kernel_rfl) (by kernel_rfl) (by kernel_rfl) (fun _ _ _ h => h) (Or.inl ⟨by rfl, ?_⟩) hHeld ?_
      rotate_left
      ·(intro w hSw; (try dsimp only at hSw);  go_simp; try with_reducible rfl)
      try simp only [Act.put, sA, sB, sC]
      refine wpAnyJ_take (i := 7) (d := some 98) (v := ?_) rfl rfl (by kernel_rfl) (by kernel_rfl) (by kernel_rfl) (by kernel_rfl) (by kernel_rfl) (fun _ _ _ h => h) (Or.inl ⟨by rfl, ?_⟩) hHeld ?_
      rotate_left
      ·(intro w hSw; (try dsimp only at hSw);  go_simp; try with_reducible rfl)
      try simp only [Act.put, sA, sB, sC]
      refine wpAnyJ_take (i := 8) (d := some 99) (v := ?_) rfl rfl (by kernel_rfl) (by kernel_rfl) (by kernel_rfl) (by kernel_rfl) (by kernel_rfl) (fun _ _ _ h => h) (Or.inl ⟨by rfl, ?_⟩) hHeld ?_
      rotate_left
      ·(intro w hSw; (try dsimp only at hSw);  go_simp; try with_reducible rfl)
      try simp only [Act.put, sA, sB, sC]
      refine wpAnyJ_done (by kernel_rfl) ?_ _
      clear hHeld d0 e0 k0
      by_cases he : y.name = nm
      ·subst he
       rw [show (y.name.toList == y.name.toList) = true from by simp]
       have HM : Hid (toL y.name ∈ Ud ns ds j) := mem_Ud.2 (.inr ⟨k, y, by rw [HLN.out]; exact hlk, HY.out, rfl⟩)
       have HR := Lib.hid (HST.out 4 (by rw [HEE.out, if_neg (by rw [HNM.out]; simp), if_pos HM.out]) (by decide))
       go_wp2_with fail
       go_ret
       exact ⟨ret_int (by rw [HR.out]), hs.out.bl.drew⟩
      ·rw [str_ne he]
       have HQ : Hid (∀ (t : Nat) (z : Nd), t < k + 1 → ns[t]? = some z → toL z.name ≠ toL nm) := by
        intro t z ht hz
        rcases Nat.lt_succ_iff_lt_or_eq.1 ht with h | rfl
        ·exact hq.out t z h hz
        ·rw [HY.out] at hz
         injection hz with hz
         subst hz
         exact fun h => he (toL_inj h)
       clear he
       go_wp2_with fail
       go_roundg (i - (k + 1))
       case rel => exact ⟨k + 1, by go_num, by omega, rfl, hs.out.drew, hbx, HQ⟩
       case measure => omega
     ·obtain rfl : k = i := by omega
      have hkk : decide (k < k) = false := by simp
      go_wp2_with fail
      clear hkk
      have HQN := Lib.hid hq.out
      clear k0
      go_loopg [9] j (RcR2 w #[.slice An k cn, .slice (some ⟨b, off, none⟩) nd cd] bq j 68 #[.string nm, .int .i64 kd, .int .i64 xa, .int .i64 xb, .int .i64 co] (fun k => ∀ (t : Nat) (y : Dv), t < k → ds[t]? = some y → toL y.name ≠ toL nm))
      case atStart => exact ⟨0, rfl, Nat.zero_le _, rfl, hs, hbx, fun t y ht => absurd ht (by omega)⟩
      case round =>
       clear hs hbx hq
       obtain ⟨t, rfl, ht, rfl, hs, hbx, hq⟩ := hrel
       have k0 := hs.out.bx.c0
       by_cases hltj : t < j
       ·obtain ⟨b2, off2, y, hA2, hb2, hy, hc2⟩ := (HD.out.below hs.out.bl hBd).at (k := t) (fun _ => rfl) (by decide) (by omega)
        injection hA2 with hA2
        injection hA2 with h3 h4
        subst h3 h4
        have HY := Lib.hid hy
        have d0 : wr.cell? ⟨b, off + t * 5, none⟩ = some (.string y.name) := hc2 0 _ rfl
        clear hc2 hy
        have e0 := hbx.out.c0
        have k1 := hs.out.bx.c1
        have htn : t < nd := by omega
        go_upto_region 30 with (fail)
        refine wp_region_J (S := fun W' => W'.cell? ⟨b, off + t * 5, none⟩ = some (.string y.name) ∧ W'.cell? ⟨bq, 0, none⟩ = some (.string nm) ∧ W'.cell? ⟨w.heap.size, 1, none⟩ = some (.slice (some ⟨b, off, none⟩) nd cd)) (J := []) (by kernel_rfl) ?_ (fun hHeld => ?_)
        ·exact ⟨d0, e0, k1⟩
        try dsimp only at hHeld
        refine wpAnyJ_take (i := 0) (d := some 105) (v := ?_) rfl rfl (by kernel_rfl) (by kernel_rfl) (by kernel_rfl) (by kernel_rfl) (by kernel_rfl) (fun _ _ _ h => h) (Or.inl ⟨by rfl, ?_⟩) hHeld ?_
        rotate_left
        ·(intro w hSw; (try dsimp only at hSw);  go_simp; try with_reducible rfl)
        try simp only [Act.put, sA, sB, sC]
        refine wpAnyJ_take (i := 1) (d := some 106) (v := ?_) rfl rfl (by kernel_rfl) (by kernel_rfl) (by kernel_rfl) (by kernel_rfl) (by kernel_rfl) (fun _ _ _ h => h) (Or.inl ⟨by rfl, ?_⟩) hHeld ?_
        rotate_left
        ·(intro w hSw; (try dsimp only at hSw);  go_simp; try with_reducible rfl)
        try simp only [Act.put, sA, sB, sC]
        refine wpAnyJ_take (i := 2) (d := some 107) (v := ?_) rfl rfl (by kernel_rfl) (by kernel_rfl) (by kernel_rfl) (by kernel_rfl) (by kernel_rfl) (fun _ _ _ h => h) (Or.inl ⟨by rfl, ?_⟩) hHeld ?_
        rotate_left
        ·(intro w hSw; (try dsimp only at hSw);  go_simp; try with_reducible rfl)
        try simp only [Act.put, sA, sB, sC]
        refine wpAnyJ_take (i := 3) (d := some 108) (v := ?_) rfl rfl (by kernel_rfl) (by kernel_rfl) (by kernel_rfl) (by kernel_rfl) (by kernel_rfl) (fun _ _ _ h => h) (Or.inl ⟨by rfl, ?_⟩) hHeld ?_
        rotate_left
        ·(intro w hSw; (try dsimp only at hSw);  go_simp; try with_reducible rfl)
        try simp only [Act.put, sA, sB, sC]
        refine wpAnyJ_take (i := 4) (d := some 109) (v := ?_) rfl rfl (by kernel_rfl) (by kernel_rfl) (by kernel_rfl) (by kernel_rfl) (by kernel_rfl) (fun _ _ _ h => h) (Or.inl ⟨by rfl, ?_⟩) hHeld ?_
        rotate_left
        ·(intro w hSw; (try dsimp only at hSw);  go_simp; try with_reducible rfl)
        try simp only [Act.put, sA, sB, sC]
        refine wpAnyJ_take (i := 5) (d := some 110) (v := ?_) rfl rfl (by kernel_rfl) (by kernel_rfl) (by kernel_rfl) (by kernel_rfl) (by kernel_rfl) (fun _ _ _ h => h) (Or.inl ⟨by rfl, ?_⟩) hHeld ?_
        rotate_left
        ·(intro w hSw; (try dsimp only at hSw);  go_simp; try with_reducible rfl)
        try simp only [Act.put, sA, sB, sC]
        refine wpAnyJ_take (i := 6) (d := some 111) (v := ?_) rfl rfl (by kernel_rfl) (by kernel_rfl) (by kernel_rfl) (by kernel_rfl) (by kernel_rfl) (fun _ _ _ h => h) (Or.inl ⟨by rfl, ?_⟩) hHeld ?_
        rotate_left
        ·(intro w hSw; (try dsimp only at hSw);  go_simp; try with_reducible rfl)
        try simp only [Act.put, sA, sB, sC]
        refine wpAnyJ_take (i := 7) (d := some 112) (v := ?_) rfl rfl (by kernel_rfl) (by kernel_rfl) (by kernel_rfl) (by kernel_rfl) (by kernel_rfl) (fun _ _ _ h => h) (Or.inl ⟨by rfl, ?_⟩) hHeld ?_
        rotate_left
        ·(intro w hSw; (try dsimp only at hSw);  go_simp; try with_reducible rfl)
        try simp only [Act.put, sA, sB, sC]
        refine wpAnyJ_take (i := 8) (d := some 113) (v := ?_) rfl rfl (by kernel_rfl) (by kernel_rfl) (by kernel_rfl) (by kernel_rfl) (by kernel_rfl) (fun _ _ _ h => h) (Or.inl ⟨by rfl, ?_⟩) hHeld ?_
        rotate_left
        ·(intro w hSw; (try dsimp only at hSw);  go_simp; try with_reducible rfl)
        try simp only [Act.put, sA, sB, sC]
        refine wpAnyJ_done (by kernel_rfl) ?_ _
        clear hHeld d0 e0 k0 k1
        by_cases he : y.name = nm
        ·subst he
         rw [show (y.name.toList == y.name.toList) = true from by simp]
         have HM : Hid (toL y.name ∈ Ud ns ds j) := mem_Ud.2 (.inl ⟨t, y, hltj, HY.out, rfl⟩)
         have HR := Lib.hid (HST.out 4 (by rw [HEE.out, if_neg (by rw [HNM.out]; simp), if_pos HM.out]) (by decide))
         go_wp2_with fail
         go_ret
         exact ⟨ret_int (by rw [HR.out]), hs.out.bl.drew⟩
        ·rw [str_ne he]
         have HQ : Hid (∀ (r : Nat) (z : Dv), r < t + 1 → ds[r]? = some z → toL z.name ≠ toL nm) := by
          intro r z hr hz
          rcases Nat.lt_succ_iff_lt_or_eq.1 hr with h | rfl
          ·exact hq.out r z h hz
          ·rw [HY.out] at hz
           injection hz with hz
           subst hz
           exact fun h => he (toL_inj h)
         clear he
         go_wp2_with fail
         go_roundg (j - (t + 1))
         case rel => exact ⟨t + 1, by go_num, by omega, rfl, hs.out.drew, hbx, HQ⟩
         case measure => omega
       ·obtain rfl : t = j := by omega
        have htt : decide (t < t) = false := by simp
        have HM : Hid (¬ toL nm ∈ Ud ns ds t) := fun hm => by
         rcases mem_Ud.1 hm with ⟨r, y, hr, hy, he⟩ | ⟨r, y, hr, hy, he⟩
         ·exact hq.out r y hr hy he
         ·exact HQN.out r y (by rw [HLN.out] at hr; exact hr) hy he
        have e1 := hbx.out.c1
        have e2 := hbx.out.c2
        have e3 := hbx.out.c3
        have e4 := hbx.out.c4
        have HE2 : Hid (dvErr ns.length (Ud ns ds t) ⟨nm, kd, xa, xb, co⟩ = if kd < 1 ∨ 6 < kd then 6 else if endsB kd xa xb k = false then 7 else if compB co = false then 5 else 0) := by unfold Hid; rw [HEE.out, if_neg (by rw [HNM.out]; simp), if_neg HM.out]
        by_cases g1 : kd < 1
        ·skip
         have HR := Lib.hid (HST.out 6 (by rw [HE2.out, if_pos (.inl g1)]) (by decide))
         go_wp2_with fail
         go_ret
         exact ⟨ret_int (by rw [HR.out]), hs.out.bl⟩
        have p1 : decide (kd < 1) = false := by simpa using g1
        by_cases g2 : 6 < kd
        ·skip
         have HR := Lib.hid (HST.out 6 (by rw [HE2.out, if_pos (.inr g2)]) (by decide))
         go_wp2_with fail
         go_ret
         exact ⟨ret_int (by rw [HR.out]), hs.out.bl⟩
        have p2 : decide (6 < kd) = false := by simpa using g2
        have HE3 : Hid (dvErr ns.length (Ud ns ds t) ⟨nm, kd, xa, xb, co⟩ = if endsB kd xa xb k = false then 7 else if compB co = false then 5 else 0) := by unfold Hid; rw [HE2.out, if_neg (by omega)]
        have HEN : Hid (endsB kd xa xb k = if xa < 0 then false else if (k : Int) ≤ xa then false else if joinsB kd = false then decide (xb = -1) else decide (0 ≤ xb) && decide (xb < k) && !decide (xb = xa)) := rfl
        by_cases g3 : xa < 0
        ·skip
         have HR := Lib.hid (HST.out 7 (by rw [HE3.out, if_pos (by rw [HEN.out, if_pos g3])]) (by decide))
         go_wp2_with fail
         go_ret
         exact ⟨ret_int (by rw [HR.out]), hs.out.bl⟩
        have p3 : decide (xa < 0) = false := by simpa using g3
        by_cases g4 : (k : Int) ≤ xa
        ·skip
         have HR := Lib.hid (HST.out 7 (by rw [HE3.out, if_pos (by rw [HEN.out, if_neg g3, if_pos g4])]) (by decide))
         go_wp2_with fail
         go_ret
         exact ⟨ret_int (by rw [HR.out]), hs.out.bl⟩
        have p4 : decide ((k : Int) ≤ xa) = false := by simpa using g4
        have HEN2 : Hid (endsB kd xa xb k = if joinsB kd = false then decide (xb = -1) else decide (0 ≤ xb) && decide (xb < k) && !decide (xb = xa)) := by unfold Hid; rw [HEN.out, if_neg g3, if_neg g4]
        have HJ2 := Lib.hid (rjoins_any kd)
        rcases hjk : joinsB kd with _ | _
        ·have HEN3 : Hid (endsB kd xa xb k = decide (xb = -1)) := by unfold Hid; rw [HEN2.out, if_pos hjk]
         rw [hjk] at HJ2
         clear hjk
         by_cases g5 : xb = -1; rotate_left
         ·have p5 : (xb != -1) = true := by simpa using g5
          go_wp2_with fail
          refine (HJ2.out _).mono ?_
          rintro e w2 ⟨rfl, rfl⟩
          go_wp2_with fail
          refine (HJ2.out _).mono ?_
          rintro e w2 ⟨rfl, rfl⟩
          have HR := Lib.hid (HST.out 7 (by rw [HE3.out, if_pos (by rw [HEN3.out, decide_eq_false g5])]) (by decide))
          go_wp2_with fail
          go_ret
          exact ⟨ret_int (by rw [HR.out]), hs.out.bl⟩
         have p5 : (xb != -1) = false := by simpa using g5
         have HE4 : Hid (dvErr ns.length (Ud ns ds t) ⟨nm, kd, xa, xb, co⟩ = if compB co = false then 5 else 0) := by unfold Hid; rw [HE3.out, if_neg (by rw [HEN3.out, decide_eq_true g5]; simp)]
         clear HE2 HE3 HEN HEN2 HEN3 g5
         go_wp2_with fail
         refine (HJ2.out _).mono ?_
         rintro e w2 ⟨rfl, rfl⟩
         go_wp2_with fail
         refine (HJ2.out _).mono ?_
         rintro e w2 ⟨rfl, rfl⟩
         by_cases g8 : co < 0
         ·skip
          have HR := Lib.hid (HST.out 5 (by rw [HE4.out, if_pos (by simp [compB]; omega)]) (by decide))
          go_wp2_with fail
          go_ret
          exact ⟨ret_int (by rw [HR.out]), hs.out.bl⟩
         have p8 : decide (co < 0) = false := by simpa using g8
         by_cases g9 : 7 < co
         ·skip
          have HR := Lib.hid (HST.out 5 (by rw [HE4.out, if_pos (by simp [compB]; omega)]) (by decide))
          go_wp2_with fail
          go_ret
          exact ⟨ret_int (by rw [HR.out]), hs.out.bl⟩
         have p9 : decide (7 < co) = false := by simpa using g9
         have HNX : Hid (checkN ns ds = chkD ns.length (Ud ns ds (t + 1)) (ds.drop (t + 1))) := by
          unfold Hid
          rw [hch.out, chkD_step HX.out (by rw [HE4.out, if_neg (by simp [compB]; omega)]), Ud_succ HX.out]
         go_wp2_with fail
         go_roundg (nd - (t + 1))
         case rel => exact ⟨t + 1, by go_num, by omega, rfl, hs, HNX⟩
         case measure => omega
        ·have HEN3 : Hid (endsB kd xa xb k = (decide (0 ≤ xb) && decide (xb < k) && !decide (xb = xa))) := by unfold Hid; rw [HEN2.out, if_neg (by rw [hjk]; simp)]
         rw [hjk] at HJ2
         clear hjk
         by_cases g5 : xb < 0
         ·go_wp2_with fail
          refine (HJ2.out _).mono ?_
          rintro e w2 ⟨rfl, rfl⟩
          have HR := Lib.hid (HST.out 7 (by rw [HE3.out, if_pos (by rw [HEN3.out, decide_eq_false (show ¬ 0 ≤ xb by omega)]; rfl)]) (by decide))
          go_wp2_with fail
          go_ret
          exact ⟨ret_int (by rw [HR.out]), hs.out.bl⟩
         have p5 : decide (xb < 0) = false := by simpa using g5
         by_cases g6 : (k : Int) ≤ xb
         ·go_wp2_with fail
          refine (HJ2.out _).mono ?_
          rintro e w2 ⟨rfl, rfl⟩
          have HR := Lib.hid (HST.out 7 (by rw [HE3.out, if_pos (by rw [HEN3.out, decide_eq_false (show ¬ xb < k by omega)]; simp)]) (by decide))
          go_wp2_with fail
          go_ret
          exact ⟨ret_int (by rw [HR.out]), hs.out.bl⟩
         have p6 : decide ((k : Int) ≤ xb) = false := by simpa using g6
         by_cases g7 : xb = xa
         ·have p7 : (xb == xa) = true := by simpa using g7
          have HRR := Lib.hid (HST.out 7 (by rw [HE3.out, if_pos (by rw [HEN3.out, decide_eq_true g7]; simp)]) (by decide))
          clear g7 HEN HEN2 HEN3 HE2 HE3
          go_wp2_with fail
          refine (HJ2.out _).mono ?_
          rintro e w2 ⟨rfl, rfl⟩
          go_wp2_with fail
          go_ret
          exact ⟨ret_int (by rw [HRR.out]), hs.out.bl⟩
         have p7 : (xb == xa) = false := by simpa using g7
         have HE4 : Hid (dvErr ns.length (Ud ns ds t) ⟨nm, kd, xa, xb, co⟩ = if compB co = false then 5 else 0) := by unfold Hid; rw [HE3.out, if_neg (by rw [HEN3.out, decide_eq_true (show 0 ≤ xb by omega), decide_eq_true (show xb < k by omega), decide_eq_false g7]; simp)]
         clear HE2 HE3 HEN HEN2 HEN3 g7
         go_wp2_with fail
         refine (HJ2.out _).mono ?_
         rintro e w2 ⟨rfl, rfl⟩
         go_wp2_with fail
         refine (HJ2.out _).mono ?_
         rintro e w2 ⟨rfl, rfl⟩
         by_cases g8 : co < 0
         ·skip
          have HR := Lib.hid (HST.out 5 (by rw [HE4.out, if_pos (by simp [compB]; omega)]) (by decide))
          go_wp2_with fail
          go_ret
          exact ⟨ret_int (by rw [HR.out]), hs.out.bl⟩
         have p8 : decide (co < 0) = false := by simpa using g8
         by_cases g9 : 7 < co
         ·skip
          have HR := Lib.hid (HST.out 5 (by rw [HE4.out, if_pos (by simp [compB]; omega)]) (by decide))
          go_wp2_with fail
          go_ret
          exact ⟨ret_int (by rw [HR.out]), hs.out.bl⟩
         have p9 : decide (7 < co) = false := by simpa using g9
         have HNX : Hid (checkN ns ds = chkD ns.length (Ud ns ds (t + 1)) (ds.drop (t + 1))) := by
          unfold Hid
          rw [hch.out, chkD_step HX.out (by rw [HE4.out, if_neg (by simp [compB]; omega)]), Ud_succ HX.out]
         go_wp2_with fail
         go_roundg (nd - (t + 1))
         case rel => exact ⟨t + 1, by go_num, by omega, rfl, hs, HNX⟩
         case measure => omega
end Go.Proofs.YtfaknfmndafllaaGreatDoor
