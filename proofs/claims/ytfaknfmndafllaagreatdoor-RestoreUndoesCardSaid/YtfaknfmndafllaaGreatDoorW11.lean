import Derived.Test.YtfaknfmndafllaaGreatDoorW10
import Derived.Laws.EntriesVeiled
import Derived.Test.YtfaknfmndafllaaGreatDoorW03
set_option maxRecDepth 100000
set_option maxHeartbeats 8000000
namespace Go.Proofs.YtfaknfmndafllaaGreatDoor
open Go.RowKit
def parB (kd a b : Int) (parts op : List Int) : Bool := sOk kd a b parts && sL0 kd a op && sL1 kd a b op
def dOk (kd a b : Int) (parts op : List Int) : Bool := sOk kd a b parts && !(sL0 kd a op == sL1 kd a b op)
def dN (kd a b : Int) (parts op : List Int) : Int := if dOk kd a b parts op = true then (if sL0 kd a op = true then sN1 kd a b else sN0 kd a) else 0
theorem parallel_any (An Ad Ap Ao Ac : Option Addr) (nn cn nd cd : Nat) (nm : ByteArray) (kd a b co : Int) (parts op cl : List Int) (w : World) (h : VwOk w nn kd a b Ap Ao Ac parts op cl) :
 Calls Tryz.prog 204 #[.agg (vwC An nn cn Ad nd cd nm kd a b co Ap Ao Ac)] w fun e w' => e = .returned (.bool (parB kd a b parts op)) ∧ Below w.heap.size w w' := by
 have HSD := Lib.hid (sides_any An Ad Ap Ao Ac nn cn nd cd nm kd a b co parts op cl (w.alloc (.cells (vwC An nn cn Ad nd cd nm kd a b co Ap Ao Ac) 242)) (h.alloc _))
 have HB : Hid (Below w.heap.size w (w.alloc (.cells (vwC An nn cn Ad nd cd nm kd a b co Ap Ao Ac) 242))) := (Below.refl _ _).alloc (Nat.le_refl _) _
 have HP : Hid (parB kd a b parts op = (sOk kd a b parts && sL0 kd a op && sL1 kd a b op)) := rfl
 clear h
 simp only [vwC] at HSD HB ⊢
 generalize sOk kd a b parts = ok at *
 generalize sL0 kd a op = l0 at *
 generalize sL1 kd a b op = l1 at *
 go_enter Tryz.func204, Tryz.ntmps204
 go_wp2_with fail
 refine HSD.out.mono ?_
 rintro e w1 ⟨rfl, hb1⟩
 have HB1 := Lib.hid (HB.out.trans (hb1.mono HB.out.size))
 have hz := HB1.out.size
 clear hb1 HB HSD
 rcases ok with _ | _
 ·go_wp2_with fail
  go_ret
  exact ⟨ret_bool (by rw [HP.out]; rfl), (HB1.out.alloc hz _).alloc (by simp; omega) _⟩
 ·rcases l0 with _ | _
  ·go_wp2_with fail
   go_ret
   exact ⟨ret_bool (by rw [HP.out]; rfl), (HB1.out.alloc hz _).alloc (by simp; omega) _⟩
  ·go_wp2_with fail
   go_ret
   exact ⟨ret_bool (by rw [HP.out]; simp), (HB1.out.alloc hz _).alloc (by simp; omega) _⟩
def DeadPost (w : World) (n : Int) (ok : Bool) (e : Ending) (w' : World) : Prop := e = .returned (.tuple #[.int .i64 n, .bool ok]) ∧ Below w.heap.size w w'
theorem dead_any (An Ad Ap Ao Ac : Option Addr) (nn cn nd cd : Nat) (nm : ByteArray) (kd a b co : Int) (parts op cl : List Int) (w : World) (h : VwOk w nn kd a b Ap Ao Ac parts op cl) :
 Calls Tryz.prog 237 #[.agg (vwC An nn cn Ad nd cd nm kd a b co Ap Ao Ac)] w (DeadPost w (dN kd a b parts op) (dOk kd a b parts op)) := by
 have HSD := Lib.hid (sides_any An Ad Ap Ao Ac nn cn nd cd nm kd a b co parts op cl (w.alloc (.cells (vwC An nn cn Ad nd cd nm kd a b co Ap Ao Ac) 242)) (h.alloc _))
 have HB : Hid (Below w.heap.size w (w.alloc (.cells (vwC An nn cn Ad nd cd nm kd a b co Ap Ao Ac) 242))) := (Below.refl _ _).alloc (Nat.le_refl _) _
 have HP : Hid (dOk kd a b parts op = (sOk kd a b parts && !(sL0 kd a op == sL1 kd a b op)) ∧ dN kd a b parts op = if dOk kd a b parts op = true then (if sL0 kd a op = true then sN1 kd a b else sN0 kd a) else 0) := ⟨rfl, rfl⟩
 clear h
 simp only [vwC] at HSD HB ⊢
 generalize sOk kd a b parts = ok at *
 generalize sL0 kd a op = l0 at *
 generalize sL1 kd a b op = l1 at *
 generalize sN0 kd a = n0 at *
 generalize sN1 kd a b = n1 at *
 generalize dN kd a b parts op = dn at *
 generalize dOk kd a b parts op = dk at *
 go_enter Tryz.func237, Tryz.ntmps237
 go_wp2_with fail
 refine HSD.out.mono ?_
 rintro e w1 ⟨rfl, hb1⟩
 have HB1 := Lib.hid (HB.out.trans (hb1.mono HB.out.size))
 have hz := HB1.out.size
 clear hb1 HB HSD
 have HBF : Hid (∀ (x y : Obj), Below w.heap.size w ((w1.alloc x).alloc y)) := fun x y => (HB1.out.alloc hz _).alloc (by simp; omega) _
 rcases ok with _ | _
 ·go_wp2_with fail
  go_ret2
  exact ⟨by rw [HP.out.2, HP.out.1]; rfl, HBF.out _ _⟩
 ·rcases l0 with _ | _ <;> rcases l1 with _ | _ <;>
  ·go_wp2_with fail
   go_ret2
   exact ⟨by rw [HP.out.2, HP.out.1]; rfl, HBF.out _ _⟩
theorem charging_any (An Ad Ap Ao Ac : Option Addr) (nn cn nd cd : Nat) (nm : ByteArray) (kd a b co : Int) (parts op cl : List Int) (w : World) (h : VwOk w nn kd a b Ap Ao Ac parts op cl) :
 Calls Tryz.prog 206 #[.agg (vwC An nn cn Ad nd cd nm kd a b co Ap Ao Ac)] w fun e w' => e = .returned (.bool (dOk kd a b parts op)) ∧ Below w.heap.size w w' := by
 have HSD := Lib.hid (dead_any An Ad Ap Ao Ac nn cn nd cd nm kd a b co parts op cl (w.alloc (.cells (vwC An nn cn Ad nd cd nm kd a b co Ap Ao Ac) 242)) (h.alloc _))
 have HB : Hid (Below w.heap.size w (w.alloc (.cells (vwC An nn cn Ad nd cd nm kd a b co Ap Ao Ac) 242))) := (Below.refl _ _).alloc (Nat.le_refl _) _
 clear h
 simp only [vwC] at HSD HB ⊢
 generalize dN kd a b parts op = dn at *
 generalize dOk kd a b parts op = dk at *
 go_enter Tryz.func206, Tryz.ntmps206
 go_wp2_with fail
 refine HSD.out.mono ?_
 rintro e w1 ⟨rfl, hb1⟩
 have HB1 := Lib.hid (HB.out.trans (hb1.mono HB.out.size))
 clear hb1 HB HSD
 go_wp2_with fail
 go_ret
 exact ⟨rfl, HB1.out⟩
theorem dN_ok {kd a b : Int} {parts op : List Int} (h : dOk kd a b parts op = true) : dN kd a b parts op = a ∨ (joinsB kd = true ∧ dN kd a b parts op = b) := by
 unfold dN
 rw [if_pos h]
 unfold dOk sOk sL0 sL1 at h
 unfold sL0 sN1 sN0
 by_cases h4 : kd = 4
 ·rw [if_pos h4] at h; cases h
 ·simp only [if_neg h4] at h ⊢
  rcases hj : joinsB kd with _ | _
  ·simp
  ·simp only [hj] at h ⊢
   simp
   rcases lvB op a with _ | _ <;> simp
def loadTo (kd a b : Int) (ns : List Nd) (parts op : List Int) (j : Nat) : Prop := ∃ (i : Nat) (x : Nd), i < j ∧ ns[i]? = some x ∧ 0 < x.cust ∧ parts.getD i 0 = parts.getD (dN kd a b parts op).toNat 0
open Classical in
noncomputable def loadB (kd a b : Int) (ns : List Nd) (parts op : List Int) : Bool := dOk kd a b parts op && decide (loadTo kd a b ns parts op ns.length)
def LoR (w : World) (V : Array Value) (vb nn : Nat) (kd a b : Int) (ns : List Nd) (parts op : List Int) (gk : Nat) (iv : Value) (wr : World) : Prop := ∃ i : Nat, iv = .int .i64 i ∧ i ≤ nn ∧ gk = nn - i ∧ Hid (Blk wr vb 242 V) ∧ Hid (Below w.heap.size w wr) ∧ Hid (¬ loadTo kd a b ns parts op i)
theorem load_any (An Ad Ap Ao Ac : Option Addr) (nn cn nd cd : Nat) (nm : ByteArray) (kd a b co : Int) (ns : List Nd) (parts op cl : List Int) (w : World) (h : VwOk w nn kd a b Ap Ao Ac parts op cl) (hn : Sl w w.heap.size 3 An nn cn (ns.flatMap Nd.cells)) :
 Calls Tryz.prog 205 #[.agg (vwC An nn cn Ad nd cd nm kd a b co Ap Ao Ac)] w fun e w' => e = .returned (.bool (loadB kd a b ns parts op)) ∧ Below w.heap.size w w' := by
 have HSD := Lib.hid (dead_any An Ad Ap Ao Ac nn cn nd cd nm kd a b co parts op cl (w.alloc (.cells (vwC An nn cn Ad nd cd nm kd a b co Ap Ao Ac) 242)) (h.alloc _))
 have HB : Hid (Below w.heap.size w (w.alloc (.cells (vwC An nn cn Ad nd cd nm kd a b co Ap Ao Ac) 242))) := (Below.refl _ _).alloc (Nat.le_refl _) _
 have HV := Lib.hid (Blk.new w 242 (vwC An nn cn Ad nd cd nm kd a b co Ap Ao Ac))
 have HLN := Lib.hid (hn.len (fun _ => rfl) (by decide))
 have hnm := hn.le
 have HO := Lib.hid h; have HN := Lib.hid hn
 clear h hn
 simp only [vwC] at HSD HB HV ⊢
 rcases hk : dOk kd a b parts op with _ | _
 ·have HR : Hid (loadB kd a b ns parts op = false) := by unfold Hid loadB; rw [hk]; rfl
  rw [hk] at HSD
  clear hk
  generalize dN kd a b parts op = dn at *
  go_enter Tryz.func205, Tryz.ntmps205
  go_wp2_with fail
  refine HSD.out.mono ?_
  rintro e w1 ⟨rfl, hb1⟩
  have HB1 := Lib.hid (HB.out.trans (hb1.mono HB.out.size))
  clear hb1 HB HSD
  go_wp2_with fail
  go_ret
  exact ⟨ret_bool (by rw [HR.out]), HB1.out⟩
 ·have hdn : 0 ≤ dN kd a b parts op ∧ dN kd a b parts op < nn := by
   rcases dN_ok hk with e | ⟨hj, e⟩ <;> rw [e]
   ·exact HO.out.a0
   ·exact HO.out.b0 hj
  have HLB : Hid (∀ t : Bool, (t = true ↔ loadTo kd a b ns parts op ns.length) → loadB kd a b ns parts op = t) := by
   intro t ht
   unfold loadB
   rw [hk]
   rw [Bool.eq_iff_iff, ht]
   simp
  rw [hk] at HSD
  clear hk
  obtain ⟨sd, hsd⟩ := Int.eq_ofNat_of_zero_le hdn.1
  have HLT : Hid (∀ j, loadTo kd a b ns parts op j ↔ ∃ (i : Nat) (x : Nd), i < j ∧ ns[i]? = some x ∧ 0 < x.cust ∧ parts.getD i 0 = parts.getD sd 0) := fun j => by unfold loadTo; rw [hsd, Int.toNat_natCast]
  rw [hsd] at HSD hdn
  have hsdn : sd < nn := by omega
  clear hsd hdn
  have hnn0 := HO.out.n0
  go_enter Tryz.func205, Tryz.ntmps205
  go_wp2_with fail
  refine HSD.out.mono ?_
  rintro e w1 ⟨rfl, hb1⟩
  have HB1 := Lib.hid (HB.out.trans (hb1.mono HB.out.size))
  have HV1 := Lib.hid (HV.out.below hb1 HV.out.lt)
  clear hb1 HB HSD HV
  obtain ⟨vb, hvb⟩ : ∃ vb, vb = w.heap.size := ⟨_, rfl⟩
  rw [← hvb] at HV1 ⊢
  have HVB := Lib.hid hvb; clear hvb
  have e0 := HV1.out.c0
  go_wp2_with fail
  clear e0
  go_loopg [18] nn (LoR w #[.slice An nn cn, .slice Ad nd cd, .string nm, .int .i64 kd, .int .i64 a, .int .i64 b, .int .i64 co, .slice Ap nn nn, .slice Ao nn nn, .slice Ac nn nn] vb nn kd a b ns parts op)
  case atStart => exact ⟨0, rfl, Nat.zero_le _, rfl, HV1, HB1, fun hc => by obtain ⟨i, x, hi, _⟩ := hc; omega⟩
  case round =>
   clear HV1 HB1
   obtain ⟨i, rfl, hi, rfl, hv, hbl, hno⟩ := hrel
   by_cases hlt : i < nn
   ·obtain ⟨b0, off, nd0, rfl, hb, hx, hc⟩ := (HN.out.below hbl.out (Nat.le_refl _)).at (fun _ => rfl) (by decide) hlt
    have HX := Lib.hid hx
    obtain ⟨nm2, cu, co2⟩ := nd0
    have c0 : wr.cell? ⟨b0, off + i * 3, none⟩ = some (.string nm2) := hc 0 _ rfl
    have c1 : wr.cell? ⟨b0, off + i * 3 + 1, none⟩ = some (.int .i64 cu) := hc 1 _ rfl
    have c2 : wr.cell? ⟨b0, off + i * 3 + 2, none⟩ = some (.int .i64 co2) := hc 2 _ rfl
    clear hc hx
    have hzw := hbl.out.size
    go_upto_region 7 with (fail)
    clear c0 c1 c2
    have HK := Lib.hid (Blk.new wr 80 #[.string nm2, .int .i64 cu, .int .i64 co2])
    have HV2 := Lib.hid (hv.out.alloc (.cells #[.string nm2, .int .i64 cu, .int .i64 co2] 80))
    have HB2 := Lib.hid (hbl.out.alloc hzw (.cells #[.string nm2, .int .i64 cu, .int .i64 co2] 80))
    generalize World.alloc _ _ = w2 at *
    obtain ⟨bq, hbq⟩ : ∃ bq, bq = wr.heap.size := ⟨_, rfl⟩
    rw [← hbq] at HK ⊢
    clear hbq hv hbl hzw
    have e1 := HK.out.c1
    by_cases hcu : 0 < cu; rotate_left
    ·have qcu : decide (0 < cu) = false := by simpa using hcu
     have HNO : Hid (¬ loadTo kd a b ns parts op (i + 1)) := fun hc => by
      obtain ⟨t, x, ht, hx, hx2, hx3⟩ := (HLT.out _).1 hc
      rcases Nat.lt_succ_iff_lt_or_eq.1 ht with h | rfl
      ·exact hno.out ((HLT.out _).2 ⟨t, x, h, hx, hx2, hx3⟩)
      ·rw [HX.out] at hx; injection hx with hx; subst hx; exact hcu hx2
     refine wp_region_J (S := fun W' => W'.cell? ⟨bq, 1, none⟩ = some (.int .i64 cu)) (J := []) (by kernel_rfl) ?_ (fun hHeld => ?_)
     ·exact e1
     try dsimp only at hHeld
     refine tk 0 23 (mf 16 1) hHeld ?_
     refine tk 1 24 (mf 16 2) hHeld ?_
     refine tk 2 25 (mf 16 3) hHeld ?_
     refine tk 3 26 (mf 16 4) hHeld ?_
     refine ts 4 27 (mf 16 5) hHeld ?_
     refine ts 5 28 (mf 16 6) hHeld ?_
     refine ts 6 29 (mf 16 7) hHeld ?_
     refine ts 7 30 (mf 16 8) hHeld ?_
     refine ts 8 31 (mf 16 9) hHeld ?_
     refine ts 9 32 (mf 16 10) hHeld ?_
     refine ts 10 33 (mf 16 11) hHeld ?_
     refine ts 11 34 (mf 16 12) hHeld ?_
     refine ts 12 35 (mf 16 13) hHeld ?_
     refine ts 13 36 (mf 16 14) hHeld ?_
     refine ts 14 37 (mf 16 15) hHeld ?_
     refine tk 15 38 (mf 16 16) hHeld ?_
     refine wpAnyJ_done (by kernel_rfl) ?_ _
     clear hHeld
     go_wp2_with fail
     go_roundg (nn - (i + 1))
     case rel => exact ⟨i + 1, by go_num, by omega, rfl, HV2, HB2.out.drew, HNO⟩
     case measure => omega
    ·obtain ⟨pb, poff, x, rfl, hpb, hpx, hcx⟩ := (HO.out.hp.below HB2.out (Nat.le_refl _)).at1 (k := i) hlt
     obtain ⟨pb2, poff2, y, hA2, hpb2, hpy, hcy⟩ := (HO.out.hp.below HB2.out (Nat.le_refl _)).at1 (k := sd) hsdn
     injection hA2 with hA2
     injection hA2 with h1 h2
     subst h1 h2
     have p1 : w2.cell? ⟨pb, poff + i, none⟩ = some (.int .i64 x) := hcx
     have p2 : w2.cell? ⟨pb, poff + sd, none⟩ = some (.int .i64 y) := hcy
     have HPX := Lib.hid (getD_of hpx); have HPY := Lib.hid (getD_of hpy)
     have e7 := HV2.out.c7
     clear hpx hpy hcx hcy
     refine wp_region_J (S := fun W' => W'.cell? ⟨bq, 1, none⟩ = some (.int .i64 cu) ∧ W'.cell? ⟨vb, 7, none⟩ = some (.slice (some ⟨pb, poff, none⟩) nn nn) ∧ W'.cell? ⟨pb, poff + i, none⟩ = some (.int .i64 x) ∧ W'.cell? ⟨pb, poff + sd, none⟩ = some (.int .i64 y)) (J := []) (by kernel_rfl) ?_ (fun hHeld => ?_)
     ·exact ⟨e1, e7, p1, p2⟩
     try dsimp only at hHeld
     refine tk 0 23 (mf 16 1) hHeld ?_
     refine tk 1 24 (mf 16 2) hHeld ?_
     refine tk 2 25 (mf 16 3) hHeld ?_
     refine tk 3 26 (mf 16 4) hHeld ?_
     refine tk 4 27 (mf 16 5) hHeld ?_
     refine tk 5 28 (mf 16 6) hHeld ?_
     refine tk 6 29 (mf 16 7) hHeld ?_
     refine tk 7 30 (mf 16 8) hHeld ?_
     refine tk 8 31 (mf 16 9) hHeld ?_
     refine tk 9 32 (mf 16 10) hHeld ?_
     refine tk 10 33 (mf 16 11) hHeld ?_
     refine tk 11 34 (mf 16 12) hHeld ?_
     refine tk 12 35 (mf 16 13) hHeld ?_
     refine tk 13 36 (mf 16 14) hHeld ?_
     refine tk 14 37 (mf 16 15) hHeld ?_
     refine tk 15 38 (mf 16 16) hHeld ?_
     refine wpAnyJ_done (by kernel_rfl) ?_ _
     clear hHeld
     by_cases hxy : x = y
     ·subst hxy
      have HR : Hid (loadB kd a b ns parts op = true) := HLB.out true ⟨fun _ => (HLT.out _).2 ⟨i, _, by rw [HLN.out]; exact hlt, HX.out, hcu, by rw [HPX.out, HPY.out]⟩, fun _ => rfl⟩
      go_wp2_with fail
      go_ret
      exact ⟨ret_bool (by rw [HR.out]), HB2.out.drew⟩
     ·have qxy : (x == y) = false := by simpa using hxy
      have HNO : Hid (¬ loadTo kd a b ns parts op (i + 1)) := fun hc => by
       obtain ⟨t, z, ht, hz, hz2, hz3⟩ := (HLT.out _).1 hc
       rcases Nat.lt_succ_iff_lt_or_eq.1 ht with h | rfl
       ·exact hno.out ((HLT.out _).2 ⟨t, z, h, hz, hz2, hz3⟩)
       ·rw [HPX.out, HPY.out] at hz3; exact hxy hz3
      clear hxy
      go_wp2_with fail
      go_roundg (nn - (i + 1))
      case rel => exact ⟨i + 1, by go_num, by omega, rfl, HV2, HB2.out.drew, HNO⟩
      case measure => omega
   ·obtain rfl : i = nn := by omega
    have hii : decide (i < i) = false := by simp
    have HR : Hid (loadB kd a b ns parts op = false) := HLB.out false ⟨(fun h => by cases h), (fun h => by rw [HLN.out] at h; exact absurd h hno.out)⟩
    go_wp2_with fail
    go_ret
    exact ⟨ret_bool (by rw [HR.out]), hbl.out⟩
end Go.Proofs.YtfaknfmndafllaaGreatDoor
namespace Go.Proofs.YtfaknfmndafllaaGreatDoor
open Go.RowKit
noncomputable def partsOf (nn : Nat) (ds : List Dv) (s : List Int) : List Int := Classical.epsilon (IsParts nn ds s)
noncomputable def colsOf (nn : Nat) (ds : List Dv) (s : List Int) : List Int := Classical.epsilon (IsCols nn ds s)
theorem partsOf_eq {nn : Nat} {ds : List Dv} {s p : List Int} (h : IsParts nn ds s p) : partsOf nn ds s = p := (Classical.epsilon_spec ⟨p, h⟩ : IsParts nn ds s (partsOf nn ds s)).unique h
theorem colsOf_eq {nn : Nat} {ds : List Dv} {s p : List Int} (h : IsCols nn ds s p) : colsOf nn ds s = p := (Classical.epsilon_spec ⟨p, h⟩ : IsCols nn ds s (colsOf nn ds s)).unique h
noncomputable def dutyV (kd a b : Int) (ns : List Nd) (parts op cl : List Int) : Int := if faultB kd a b cl = true then 4 else if parB kd a b parts op = true then 3 else if loadB kd a b ns parts op = true then 2 else if dOk kd a b parts op = true then 1 else 0
noncomputable def dutyAt (nn : Nat) (ns : List Nd) (ds : List Dv) (s : List Int) (i : Int) (x : Dv) : Int := dutyV x.kind x.a x.b ns (partsOf nn ds (withL s i 1)) (colsOf nn ds (withL s i 1)) (colsOf nn ds (withL s i 2))
theorem cell_al {W : World} {p : Addr} {v : Value} (o : Obj) (h : W.cell? p = some v) : (W.alloc o).cell? p = some v := (World.cell?_alloc_lt W o p (cell_lt h)).trans h
theorem ints_far {W : World} {base n c q : Nat} {A : Option Addr} {l : List Int} (h : IntsO W base A n c l) (hq : q < base) (j : Nat) (u : Value) : IntsO (W.setCell ⟨q, j, none⟩ u) base A n c l := h.kept (grown_cell W _ _) (ne_row fun b e => by have := (h.lt b e).1; simp; omega)
def OfR (w7 : World) (f p l c : Bool) (gk : Nat) (iv : Value) (wr : World) : Prop := ∃ i : Nat, iv = .int .i64 i ∧ i ≤ 4 ∧ gk = 4 - i ∧ Hid (Below w7.heap.size w7 wr) ∧ Hid ((0 < i → f = false) ∧ (1 < i → p = false) ∧ (2 < i → l = false) ∧ (3 < i → c = false))
theorem view_set {W : World} {vb : Nat} {An Ad : Option Addr} {nn cn nd cd : Nat} {nm : ByteArray} {kd a b co : Int} {X Y Z : Value} (h : Blk W vb 242 #[.slice An nn cn, .slice Ad nd cd, .string nm, .int .i64 kd, .int .i64 a, .int .i64 b, .int .i64 co, X, Y, Z]) (P Q : Value) :
 Blk ((W.setCell ⟨vb, 7, none⟩ P).setCell ⟨vb, 8, none⟩ Q) vb 242 #[.slice An nn cn, .slice Ad nd cd, .string nm, .int .i64 kd, .int .i64 a, .int .i64 b, .int .i64 co, P, Q, Z] := (h.set 7 _).set 8 _
theorem of_any (An Ad As : Option Addr) (nn cn nd cd n c Bn Bd Bs i : Nat) (ns : List Nd) (ds : List Dv) (s : List Int) (x : Dv) (w : World)
 (hn : Sl w Bn 3 An nn cn (ns.flatMap Nd.cells)) (hBn : Bn ≤ w.heap.size) (hd : Sl w Bd 5 Ad nd cd (ds.flatMap Dv.cells)) (hBd : Bd ≤ w.heap.size) (hs : Sl w Bs 1 As n c (intsV s)) (hBs : Bs ≤ w.heap.size) (hnn : nn ≤ 10000) (hn1 : n ≤ 10000) (hnd : nd ≤ n) (hi : i < nd) (hx : ds[i]? = some x) (hends : EndsOk nn ds) (hA : AOk nn ds) :
 Calls Tryz.prog 186 #[.agg #[.slice An nn cn, .slice Ad nd cd], .slice As n c, .int .i64 i] w fun e w' => e = .returned (.int .i64 (dutyAt nn ns ds s i x)) ∧ Below w.heap.size w w' := by
 have HLS := Lib.hid (hs.len (fun _ => rfl) (by decide))
 have hdm := hd.le
 have hsm := hs.le
 have HN := Lib.hid hn; have HD := Lib.hid hd; have HS := Lib.hid hs; have HE := Lib.hid hends; have HA := Lib.hid hA; have HX := Lib.hid hx
 have ha0 := hA x (List.mem_of_getElem? hx)
 have HEX := Lib.hid (hends x (List.mem_of_getElem? hx))
 clear hn hd hs hends hA
 have HB0 : Hid (Below w.heap.size w (w.alloc (.cells #[.slice An nn cn, .slice Ad nd cd] 30))) := (Below.refl _ _).alloc (Nat.le_refl _) _
 have HK0 := Lib.hid (Blk.new w 30 #[.slice An nn cn, .slice Ad nd cd])
 go_enter Tryz.func186, Tryz.ntmps186
 go_upto_region 1 with (fail)
 generalize World.alloc _ _ = W at *
 obtain ⟨nb, hnb⟩ : ∃ nb, nb = w.heap.size := ⟨_, rfl⟩
 rw [← hnb] at HK0 ⊢
 have HNB := Lib.hid hnb; clear hnb
 obtain ⟨b0, off, x', rfl, hb, hx', hc⟩ := (HD.out.below HB0.out hBd).at (fun _ => rfl) (by decide) hi
 obtain rfl : x = x' := by rw [hx] at hx'; exact Option.some.inj hx'
 obtain ⟨nm, kd, a, b, co⟩ := x
 simp only at ha0 HEX
 have c0 : W.cell? ⟨b0, off + i * 5, none⟩ = some (.string nm) := hc 0 _ rfl
 have c1 : W.cell? ⟨b0, off + i * 5 + 1, none⟩ = some (.int .i64 kd) := hc 1 _ rfl
 have c2 : W.cell? ⟨b0, off + i * 5 + 2, none⟩ = some (.int .i64 a) := hc 2 _ rfl
 have c3 : W.cell? ⟨b0, off + i * 5 + 3, none⟩ = some (.int .i64 b) := hc 3 _ rfl
 have c4 : W.cell? ⟨b0, off + i * 5 + 4, none⟩ = some (.int .i64 co) := hc 4 _ rfl
 have k0 := HK0.out.c0
 have k1 := HK0.out.c1
 clear hc hx hx'
 refine wp_region_J (S := fun W' => W'.cell? ⟨nb, 0, none⟩ = some (.slice An nn cn) ∧ W'.cell? ⟨nb, 1, none⟩ = some (.slice (some ⟨b0, off, none⟩) nd cd) ∧ W'.cell? ⟨b0, off + i * 5, none⟩ = some (.string nm) ∧ W'.cell? ⟨b0, off + i * 5 + 1, none⟩ = some (.int .i64 kd) ∧ W'.cell? ⟨b0, off + i * 5 + 2, none⟩ = some (.int .i64 a) ∧ W'.cell? ⟨b0, off + i * 5 + 3, none⟩ = some (.int .i64 b) ∧ W'.cell? ⟨b0, off + i * 5 + 4, none⟩ = some (.int .i64 co)) (J := [8]) (by kernel_rfl) ?_ (fun hHeld => ?_)
 ·exact ⟨k0, k1, c0, c1, c2, c3, c4⟩
 try dsimp only at hHeld
 refine tk 0 10 (mf 9 1) hHeld ?_
 refine tk 1 11 (mf 9 2) hHeld ?_
 refine tk 2 12 (mf 9 3) hHeld ?_
 refine tk 3 13 (mf 9 4) hHeld ?_
 refine tk 4 14 (mf 9 5) hHeld ?_
 refine tk 5 15 (mf 9 6) hHeld ?_
 refine tk 6 16 (mf 9 7) hHeld ?_
 refine wpAnyJ_oneL (k := 7) (mf 9 8) (by kernel_rfl) (by kernel_rfl) rfl (fun K hK => ?_)
 go_simp
 refine hK.out _ _ (fun _ => ?_) (fun hHeld' => ?_)
 ·exact ⟨cell_al _ hHeld.1, cell_al _ hHeld.2.1, cell_al _ hHeld.2.2.1, cell_al _ hHeld.2.2.2.1, cell_al _ hHeld.2.2.2.2.1, cell_al _ hHeld.2.2.2.2.2.1, cell_al _ hHeld.2.2.2.2.2.2⟩
 replace hHeld := hHeld' rfl
 clear hHeld' hK K
 try dsimp only at hHeld
 refine wpAnyJ_oneL (k := 8) (mf 9 9) (by kernel_rfl) (by kernel_rfl) rfl (fun K hK => ?_)
 go_simp
 refine hK.out _ _ (fun h => by cases h) (fun _ => ?_)
 try clear hHeld
 clear hK K
 refine wpAnyJ_done (by kernel_rfl) ?_ _
 clear c0 c1 c2 c3 c4 k0 k1
 go_upto_region 2 with (fail)
 have hnbW := HK0.out.lt
 have HV1 : Hid (Blk (W.alloc (.cells #[.slice An nn cn, .slice (some ⟨b0, off, none⟩) nd cd, .string nm, .int .i64 kd, .int .i64 a, .int .i64 b, .int .i64 co, .slice none 0 0, .slice none 0 0, .slice none 0 0] 242)).drew W.heap.size 242 #[.slice An nn cn, .slice (some ⟨b0, off, none⟩) nd cd, .string nm, .int .i64 kd, .int .i64 a, .int .i64 b, .int .i64 co, .slice none 0 0, .slice none 0 0, .slice none 0 0]) := Blk.new W _ _
 have HK1 : Hid (Blk (W.alloc (.cells #[.slice An nn cn, .slice (some ⟨b0, off, none⟩) nd cd, .string nm, .int .i64 kd, .int .i64 a, .int .i64 b, .int .i64 co, .slice none 0 0, .slice none 0 0, .slice none 0 0] 242)).drew nb 30 #[.slice An nn cn, .slice (some ⟨b0, off, none⟩) nd cd]) := HK0.out.alloc _
 have HB1 : Hid (Below w.heap.size w (W.alloc (.cells #[.slice An nn cn, .slice (some ⟨b0, off, none⟩) nd cd, .string nm, .int .i64 kd, .int .i64 a, .int .i64 b, .int .i64 co, .slice none 0 0, .slice none 0 0, .slice none 0 0] 242)).drew) := (HB0.out.alloc HB0.out.size _).drew
 generalize World.drew (World.alloc _ _) = w1 at *
 obtain ⟨vb, hvb⟩ : ∃ vb, vb = W.heap.size := ⟨_, rfl⟩
 rw [← hvb] at HV1 ⊢
 have hnv : nb < vb := by omega
 have hwv : w.heap.size ≤ vb := by have := HB0.out.size; omega
 clear hvb HB0 HK0 hnbW
 refine wp_region_J (S := fun W' => Blk W' nb 30 #[.slice An nn cn, .slice (some ⟨b0, off, none⟩) nd cd]) (J := []) (by kernel_rfl) ?_ (fun hHeld => ?_)
 ·exact HK1.out
 try dsimp only at hHeld
 refine wpAnyJ_takeL (i := 0) (d := some 18) (v := ?_) (mf 12 1) (by kernel_rfl) rfl rfl (by kernel_rfl) (by kernel_rfl) (by kernel_rfl) (by kernel_rfl) (by kernel_rfl) (fun _ _ _ h => h) (Or.inl ⟨by rfl, ?_⟩) hHeld ?_
 rotate_left
 ·(intro w hSw; (try dsimp only at hSw); have k0 : w.cell? ⟨nb, 0, none⟩ = some (.slice An nn cn) := hSw.cell 0; have k1 : w.cell? ⟨nb, 1, none⟩ = some (.slice (some ⟨b0, off, none⟩) nd cd) := hSw.cell 1; clear hSw; go_simp; try with_reducible rfl)
 try simp only [Act.put, sA, sB, sC]
 refine wpAnyJ_takeL (i := 1) (d := some 19) (v := ?_) (mf 12 2) (by kernel_rfl) rfl rfl (by kernel_rfl) (by kernel_rfl) (by kernel_rfl) (by kernel_rfl) (by kernel_rfl) (fun _ _ _ h => h) (Or.inl ⟨by rfl, ?_⟩) hHeld ?_
 rotate_left
 ·(intro w hSw; (try dsimp only at hSw); clear hSw; go_simp; try with_reducible rfl)
 try simp only [Act.put, sA, sB, sC]
 refine wpAnyJ_takeL (i := 2) (d := some 20) (v := ?_) (mf 12 3) (by kernel_rfl) rfl rfl (by kernel_rfl) (by kernel_rfl) (by kernel_rfl) (by kernel_rfl) (by kernel_rfl) (fun _ _ _ h => h) (Or.inl ⟨by rfl, ?_⟩) hHeld ?_
 rotate_left
 ·(intro w hSw; (try dsimp only at hSw); clear hSw; go_simp; try with_reducible rfl)
 try simp only [Act.put, sA, sB, sC]
 refine wpAnyJ_oneL (k := 3) (mf 12 4) (by kernel_rfl) (by kernel_rfl) rfl (fun K hK => ?_)
 (go_simp; refine (with_any As n c Bs s i 1 w1.drew (HS.out.below HB1.out.drew hBs) (by have := HB1.out.size; simp at this ⊢; omega) (by omega)).mono ?_; rintro e wxA ⟨AwA, cwA, rfl, hOA, hbA⟩; go_simp)
 refine hK.out _ _ (fun _ => ?_) (fun hHeld' => ?_)
 ·exact hHeld.below hbA.out hHeld.lt
 replace hHeld := hHeld' rfl
 clear hHeld' hK K
 try dsimp only at hHeld
 have HB3A := Lib.hid (HB1.out.drew.trans (hbA.out.mono HB1.out.drew.size))
 have hv3A := Blk.below (w := w1.drew) HV1.out hbA.out HV1.out.lt
 have HL3A := Lib.hid hv3A.lt
 rw [withL_len, HLS.out] at hOA ⊢
 refine wpAnyJ_oneL (k := 4) (mf 12 5) (by kernel_rfl) (by kernel_rfl) rfl (fun K hK => ?_)
 (go_simp; refine (both_any An (some ⟨b0, off, none⟩) AwA nn cn nd cd n cwA Bd wxA.heap.size ds (withL s i 1) wxA (HD.out.below HB3A.out hBd) (by have := HB3A.out.size; omega) hOA.out.sl (Nat.le_refl _) hnn (by omega) (by omega) HE.out HA.out).mono ?_; rintro e wyA ⟨ApA, AcA, plA, clA, rfl, hOpA, hOcA, hIPA, hICA, hbbA⟩; go_simp)
 refine hK.out _ _ (fun _ => ?_) (fun hHeld' => ?_)
 ·exact hHeld.below hbbA.out hHeld.lt
 replace hHeld := hHeld' rfl
 clear hHeld' hK K
 try dsimp only at hHeld
 have HB4A := Lib.hid (HB3A.out.trans (hbbA.out.mono HB3A.out.size))
 have HV4A := Lib.hid (hv3A.below hbbA.out hv3A.lt)
 have z7 := HV4A.out.c7
 have z8 := HV4A.out.c8
 have f7 := HV4A.out.frozen 7
 have f8 := HV4A.out.frozen 8
 refine wpAnyJ_takeL (i := 5) (d := some 17) (v := ?_) (mf 12 6) (by kernel_rfl) rfl rfl (by kernel_rfl) (by kernel_rfl) (by kernel_rfl) (by kernel_rfl) (by kernel_rfl) (fun _ _ _ h => h) (Or.inl ⟨by rfl, ?_⟩) hHeld ?_
 rotate_left
 ·(intro w hSw; (try dsimp only at hSw); clear hSw; go_simp; try with_reducible rfl)
 try simp only [Act.put, sA, sB, sC]
 refine wpAnyJ_takeL (i := 6) (d := some 23) (v := ?_) (mf 12 7) (by kernel_rfl) rfl rfl (by kernel_rfl) (by kernel_rfl) (by kernel_rfl) (by kernel_rfl) (by kernel_rfl) (fun _ _ _ h => h) (Or.inl ⟨by rfl, ?_⟩) hHeld ?_
 rotate_left
 ·(intro w hSw; (try dsimp only at hSw); clear hSw; go_simp; try with_reducible rfl)
 try simp only [Act.put, sA, sB, sC]
 refine wpAnyJ_takeL (i := 7) (d := some 24) (v := ?_) (mf 12 8) (by kernel_rfl) rfl rfl (by kernel_rfl) (by kernel_rfl) (by kernel_rfl) (by kernel_rfl) (by kernel_rfl) (fun _ _ _ h => h) (Or.inl ⟨by rfl, ?_⟩) hHeld ?_
 rotate_left
 ·(intro w hSw; (try dsimp only at hSw); clear hSw; go_simp; try with_reducible rfl)
 try simp only [Act.put, sA, sB, sC]
 refine wpAnyJ_takeL (i := 8) (d := some 25) (v := ?_) (mf 12 9) (by kernel_rfl) rfl rfl (by kernel_rfl) (by kernel_rfl) (by kernel_rfl) (by kernel_rfl) (by kernel_rfl) (fun _ _ _ h => h) (Or.inl ⟨by rfl, ?_⟩) hHeld ?_
 rotate_left
 ·(intro w hSw; (try dsimp only at hSw); clear hSw; go_simp; try with_reducible rfl)
 try simp only [Act.put, sA, sB, sC]
 refine wpAnyJ_oneL (k := 9) (mf 12 10) (by kernel_rfl) (by kernel_rfl) rfl (fun K hK => ?_)
 go_simp
 refine hK.out _ _ (fun _ => ?_) (fun hHeld' => ?_)
 ·exact hHeld.far (by simp; omega) _
 replace hHeld := hHeld' rfl
 clear hHeld' hK K
 try dsimp only at hHeld
 refine wpAnyJ_takeL (i := 10) (d := some 26) (v := ?_) (mf 12 11) (by kernel_rfl) rfl rfl (by kernel_rfl) (by kernel_rfl) (by kernel_rfl) (by kernel_rfl) (by kernel_rfl) (fun _ _ _ h => h) (Or.inl ⟨by rfl, ?_⟩) hHeld ?_
 rotate_left
 ·(intro w hSw; (try dsimp only at hSw); clear hSw; go_simp; try with_reducible rfl)
 try simp only [Act.put, sA, sB, sC]
 refine wpAnyJ_oneL (k := 11) (mf 12 12) (by kernel_rfl) (by kernel_rfl) rfl (fun K hK => ?_)
 go_simp
 refine hK.out _ _ (fun _ => ?_) (fun hHeld' => ?_)
 ·exact hHeld.far (by simp; omega) _
 replace hHeld := hHeld' rfl
 clear hHeld' hK K
 try dsimp only at hHeld
 refine wpAnyJ_done (by kernel_rfl) ?_ _
 have HK5 := Lib.hid hHeld
 clear hHeld z7 z8 f7 f8
 go_upto_region 3 with (fail)
 have HV5 := Lib.hid (view_set HV4A.out (.slice ApA nn nn) (.slice AcA nn nn))
 have HB5 : Hid (Below w.heap.size w ((wyA.setCell ⟨vb, 7, none⟩ (.slice ApA nn nn)).setCell ⟨vb, 8, none⟩ (.slice AcA nn nn))) := (HB4A.out.setCell (by simp; omega) _).setCell (by simp; omega) _
 have HOP5 := Lib.hid (ints_far (ints_far hOpA.out HL3A.out 7 (.slice ApA nn nn)) HL3A.out 8 (.slice AcA nn nn))
 have HOO5 := Lib.hid (ints_far (ints_far hOcA.out HL3A.out 7 (.slice ApA nn nn)) HL3A.out 8 (.slice AcA nn nn))
 clear HB3A HB4A HV4A hOpA hOcA HV1 HB1 HK1 hbbA
 clear hbA hOA hv3A
 generalize World.setCell (World.setCell _ _ _) _ _ = w5 at *
 refine wp_region_J (S := fun W' => Blk W' nb 30 #[.slice An nn cn, .slice (some ⟨b0, off, none⟩) nd cd]) (J := []) (by kernel_rfl) ?_ (fun hHeld => ?_)
 ·exact HK5.out
 try dsimp only at hHeld
 refine wpAnyJ_takeL (i := 0) (d := some 28) (v := ?_) (mf 10 1) (by kernel_rfl) rfl rfl (by kernel_rfl) (by kernel_rfl) (by kernel_rfl) (by kernel_rfl) (by kernel_rfl) (fun _ _ _ h => h) (Or.inl ⟨by rfl, ?_⟩) hHeld ?_
 rotate_left
 ·(intro w hSw; (try dsimp only at hSw); have k0 : w.cell? ⟨nb, 0, none⟩ = some (.slice An nn cn) := hSw.cell 0; have k1 : w.cell? ⟨nb, 1, none⟩ = some (.slice (some ⟨b0, off, none⟩) nd cd) := hSw.cell 1; clear hSw; go_simp; try with_reducible rfl)
 try simp only [Act.put, sA, sB, sC]
 refine wpAnyJ_takeL (i := 1) (d := some 29) (v := ?_) (mf 10 2) (by kernel_rfl) rfl rfl (by kernel_rfl) (by kernel_rfl) (by kernel_rfl) (by kernel_rfl) (by kernel_rfl) (fun _ _ _ h => h) (Or.inl ⟨by rfl, ?_⟩) hHeld ?_
 rotate_left
 ·(intro w hSw; (try dsimp only at hSw); clear hSw; go_simp; try with_reducible rfl)
 try simp only [Act.put, sA, sB, sC]
 refine wpAnyJ_takeL (i := 2) (d := some 30) (v := ?_) (mf 10 3) (by kernel_rfl) rfl rfl (by kernel_rfl) (by kernel_rfl) (by kernel_rfl) (by kernel_rfl) (by kernel_rfl) (fun _ _ _ h => h) (Or.inl ⟨by rfl, ?_⟩) hHeld ?_
 rotate_left
 ·(intro w hSw; (try dsimp only at hSw); clear hSw; go_simp; try with_reducible rfl)
 try simp only [Act.put, sA, sB, sC]
 refine wpAnyJ_oneL (k := 3) (mf 10 4) (by kernel_rfl) (by kernel_rfl) rfl (fun K hK => ?_)
 (go_simp; refine (with_any As n c Bs s i 2 w5.drew (HS.out.below HB5.out.drew hBs) (by have := HB5.out.size; simp at this ⊢; omega) (by omega)).mono ?_; rintro e wxB ⟨AwB, cwB, rfl, hOB, hbB⟩; go_simp)
 refine hK.out _ _ (fun _ => ?_) (fun hHeld' => ?_)
 ·exact hHeld.below hbB.out hHeld.lt
 replace hHeld := hHeld' rfl
 clear hHeld' hK K
 try dsimp only at hHeld
 have HB3B := Lib.hid (HB5.out.drew.trans (hbB.out.mono HB5.out.drew.size))
 have hv3B := Blk.below (w := w5.drew) HV5.out hbB.out HV5.out.lt
 have HL3B := Lib.hid hv3B.lt
 rw [withL_len, HLS.out] at hOB ⊢
 refine wpAnyJ_oneL (k := 4) (mf 10 5) (by kernel_rfl) (by kernel_rfl) rfl (fun K hK => ?_)
 (go_simp; refine (both_any An (some ⟨b0, off, none⟩) AwB nn cn nd cd n cwB Bd wxB.heap.size ds (withL s i 2) wxB (HD.out.below HB3B.out hBd) (by have := HB3B.out.size; omega) hOB.out.sl (Nat.le_refl _) hnn (by omega) (by omega) HE.out HA.out).mono ?_; rintro e wyB ⟨ApB, AcB, plB, clB, rfl, hOpB, hOcB, hIPB, hICB, hbbB⟩; go_simp)
 refine hK.out _ _ (fun _ => ?_) (fun hHeld' => ?_)
 ·exact hHeld.below hbbB.out hHeld.lt
 replace hHeld := hHeld' rfl
 clear hHeld' hK K
 try dsimp only at hHeld
 have HB4B := Lib.hid (HB3B.out.trans (hbbB.out.mono HB3B.out.size))
 have HV4B := Lib.hid (hv3B.below hbbB.out hv3B.lt)
 have HOP6 := Lib.hid ((IntsO.later (w := w5.drew) HOP5.out hbB.out).later hbbB.out)
 have HOO6 := Lib.hid ((IntsO.later (w := w5.drew) HOO5.out hbB.out).later hbbB.out)
 clear hv3B hOB hbB
 have z9 := HV4B.out.c9
 have f9 := HV4B.out.frozen 9
 refine wpAnyJ_takeL (i := 5) (d := some 27) (v := ?_) (mf 10 6) (by kernel_rfl) rfl rfl (by kernel_rfl) (by kernel_rfl) (by kernel_rfl) (by kernel_rfl) (by kernel_rfl) (fun _ _ _ h => h) (Or.inl ⟨by rfl, ?_⟩) hHeld ?_
 rotate_left
 ·(intro w hSw; (try dsimp only at hSw); clear hSw; go_simp; try with_reducible rfl)
 try simp only [Act.put, sA, sB, sC]
 refine wpAnyJ_takeL (i := 6) (d := some 33) (v := ?_) (mf 10 7) (by kernel_rfl) rfl rfl (by kernel_rfl) (by kernel_rfl) (by kernel_rfl) (by kernel_rfl) (by kernel_rfl) (fun _ _ _ h => h) (Or.inl ⟨by rfl, ?_⟩) hHeld ?_
 rotate_left
 ·(intro w hSw; (try dsimp only at hSw); clear hSw; go_simp; try with_reducible rfl)
 try simp only [Act.put, sA, sB, sC]
 refine wpAnyJ_takeL (i := 7) (d := some 34) (v := ?_) (mf 10 8) (by kernel_rfl) rfl rfl (by kernel_rfl) (by kernel_rfl) (by kernel_rfl) (by kernel_rfl) (by kernel_rfl) (fun _ _ _ h => h) (Or.inl ⟨by rfl, ?_⟩) hHeld ?_
 rotate_left
 ·(intro w hSw; (try dsimp only at hSw); clear hSw; go_simp; try with_reducible rfl)
 try simp only [Act.put, sA, sB, sC]
 refine wpAnyJ_takeL (i := 8) (d := some 35) (v := ?_) (mf 10 9) (by kernel_rfl) rfl rfl (by kernel_rfl) (by kernel_rfl) (by kernel_rfl) (by kernel_rfl) (by kernel_rfl) (fun _ _ _ h => h) (Or.inl ⟨by rfl, ?_⟩) hHeld ?_
 rotate_left
 ·(intro w hSw; (try dsimp only at hSw); clear hSw; go_simp; try with_reducible rfl)
 try simp only [Act.put, sA, sB, sC]
 refine wpAnyJ_oneL (k := 9) (mf 10 10) (by kernel_rfl) (by kernel_rfl) rfl (fun K hK => ?_)
 go_simp
 refine hK.out _ _ (fun _ => ?_) (fun hHeld' => ?_)
 ·exact hHeld.far (by simp; omega) _
 replace hHeld := hHeld' rfl
 clear hHeld' hK K
 try dsimp only at hHeld
 refine wpAnyJ_done (by kernel_rfl) ?_ _
 clear hHeld z9 f9
 have HV6 := Lib.hid (HV4B.out.set 9 (.slice AcB nn nn))
 have HB6 : Hid (Below w.heap.size w (wyB.setCell ⟨vb, 9, none⟩ (.slice AcB nn nn))) := HB4B.out.setCell (by simp; omega) _
 have HOP7 := Lib.hid (ints_far HOP6.out HL3A.out 9 (.slice AcB nn nn))
 have HOO7 := Lib.hid (ints_far HOO6.out HL3A.out 9 (.slice AcB nn nn))
 have HOC7 := Lib.hid (ints_far hOcB.out HL3B.out 9 (.slice AcB nn nn))
 clear HB3B HB4B HV4B hOpB hOcB HV5 HB5 HK5 hbbB HOP6 HOO6 HOP5 HOO5
 go_wp2_with fail
 have HT7 := Lib.hid (Blk.new (wyB.setCell ⟨vb, 9, none⟩ (.slice AcB nn nn)) 244 #[.func (.func 203) #[] #[], .int .i64 4, .func (.func 204) #[] #[], .int .i64 3, .func (.func 205) #[] #[], .int .i64 2, .func (.func 206) #[] #[], .int .i64 1])
 have HV7 := Lib.hid (HV6.out.alloc (.cells #[.func (.func 203) #[] #[], .int .i64 4, .func (.func 204) #[] #[], .int .i64 3, .func (.func 205) #[] #[], .int .i64 2, .func (.func 206) #[] #[], .int .i64 1] 244))
 have HB7 := Lib.hid (HB6.out.alloc HB6.out.size (.cells #[.func (.func 203) #[] #[], .int .i64 4, .func (.func 204) #[] #[], .int .i64 3, .func (.func 205) #[] #[], .int .i64 2, .func (.func 206) #[] #[], .int .i64 1] 244))
 have HOK7 : Hid (VwOk ((wyB.setCell ⟨vb, 9, none⟩ (.slice AcB nn nn)).alloc (.cells #[.func (.func 203) #[] #[], .int .i64 4, .func (.func 204) #[] #[], .int .i64 3, .func (.func 205) #[] #[], .int .i64 2, .func (.func 206) #[] #[], .int .i64 1] 244)) nn kd a b ApA AcA AcB plA clA clB) := by
  have hl : Below (wyB.setCell ⟨vb, 9, none⟩ (.slice AcB nn nn)).heap.size (wyB.setCell ⟨vb, 9, none⟩ (.slice AcB nn nn)) ((wyB.setCell ⟨vb, 9, none⟩ (.slice AcB nn nn)).alloc (.cells #[.func (.func 203) #[] #[], .int .i64 4, .func (.func 204) #[] #[], .int .i64 3, .func (.func 205) #[] #[], .int .i64 2, .func (.func 206) #[] #[], .int .i64 1] 244)) := (Below.refl _ _).alloc (Nat.le_refl _) _
  exact ⟨(HOP7.out.later hl).sl, (HOO7.out.later hl).sl, (HOC7.out.later hl).sl, ha0, fun hj => (HEX.out hj).2, hnn⟩
 have HDV : Hid (dutyAt nn ns ds s i ⟨nm, kd, a, b, co⟩ = dutyV kd a b ns plA clA clB) := by unfold Hid dutyAt; rw [partsOf_eq hIPA.out, colsOf_eq hICA.out, colsOf_eq hICB.out]
 clear HV6 HB6 HOP7 HOO7 HOC7 hIPA hICA hICB hIPB
 rw [World.size_setCell] at HT7
 generalize World.alloc _ _ = w7 at *
 obtain ⟨tb, htb⟩ : ∃ tb, tb = wyB.heap.size := ⟨_, rfl⟩
 rw [← htb] at HT7 ⊢
 clear htb
 have HDU : Hid (dutyV kd a b ns plA clA clB = if faultB kd a b clB = true then 4 else if parB kd a b plA clA = true then 3 else if loadB kd a b ns plA clA = true then 2 else if dOk kd a b plA clA = true then 1 else 0) := rfl
 have HCF := Lib.hid (fun W h => fault_any An (some ⟨b0, off, none⟩) ApA AcA AcB nn cn nd cd nm kd a b co plA clA clB W h)
 have HCP := Lib.hid (fun W h => parallel_any An (some ⟨b0, off, none⟩) ApA AcA AcB nn cn nd cd nm kd a b co plA clA clB W h)
 have HCL := Lib.hid (fun W h h2 => load_any An (some ⟨b0, off, none⟩) ApA AcA AcB nn cn nd cd nm kd a b co ns plA clA clB W h h2)
 have HCC := Lib.hid (fun W h => charging_any An (some ⟨b0, off, none⟩) ApA AcA AcB nn cn nd cd nm kd a b co plA clA clB W h)
 simp only [vwC] at HCF HCP HCL HCC
 generalize faultB kd a b clB = fb at *
 generalize parB kd a b plA clA = pb at *
 generalize loadB kd a b ns plA clA = lb at *
 generalize dOk kd a b plA clA = kb at *
 go_loopg [42] 4 (OfR w7 fb pb lb kb)
 case atStart => exact ⟨0, rfl, by decide, rfl, Below.refl _ _, by unfold Hid; refine ⟨?_, ?_, ?_, ?_⟩ <;> intro h <;> omega⟩
 case round =>
  obtain ⟨k, rfl, hk, rfl, hbl, hcond⟩ := hrel
  have hv := Lib.hid (HV7.out.below hbl.out HV7.out.lt)
  have ht := Lib.hid (HT7.out.below hbl.out HT7.out.lt)
  have hok := Lib.hid (HOK7.out.later hbl.out)
  have hbw := Lib.hid (HB7.out.trans (hbl.out.mono HB7.out.size))
  have hzw := hbl.out.size
  have g0 := hv.out.c0
  have g1 := hv.out.c1
  have g2 := hv.out.c2
  have g3 := hv.out.c3
  have g4 := hv.out.c4
  have g5 := hv.out.c5
  have g6 := hv.out.c6
  have g7 := hv.out.c7
  have g8 := hv.out.c8
  have g9 := hv.out.c9
  have hvl := hv.out.lt
  rcases (show k = 0 ∨ k = 1 ∨ k = 2 ∨ k = 3 ∨ k = 4 by omega) with rfl | rfl | rfl | rfl | rfl
  ·have t0 := ht.out.c0
   have t1 := ht.out.c1
   go_wp2_with fail
   clear g0 g1 g2 g3 g4 g5 g6 g7 g8 g9 t0 t1
   have hb8 : Below wr.heap.size wr (wr.alloc (.cells #[.func (.func 203) #[] #[], .int .i64 4] 244)) := (Below.refl _ _).alloc (Nat.le_refl _) _
   have HK8 := Lib.hid (Blk.new wr 244 #[.func (.func 203) #[] #[], .int .i64 4])
   generalize World.alloc _ _ = w8 at *
   refine (HCF.out w8 (hok.out.later hb8)).mono ?_
   rintro e w9 ⟨rfl, hb9⟩
   have HB9 := Lib.hid (hbl.out.trans ((hb8.trans (hb9.mono hb8.size)).mono hzw))
   have hb1 := (HK8.out.below hb9 HK8.out.lt).c1
   clear hb8 hb9 HK8
   rcases fb with _ | _
   ·clear hb1
    go_wp2_with fail
    go_roundg (4 - 1)
    case rel => exact ⟨1, rfl, by decide, rfl, HB9, by have hc := hcond.out; unfold Hid; refine ⟨?_, ?_, ?_, ?_⟩ <;> intro h <;> first | rfl | exact hc.1 (by omega) | exact hc.2.1 (by omega) | exact hc.2.2.1 (by omega) | omega⟩
    case measure => decide
   ·go_wp2_with fail
    go_ret
    exact ⟨ret_int (by rw [HDV.out, HDU.out]; simp), HB7.out.trans (HB9.out.mono HB7.out.size)⟩
  ·have t0 := ht.out.c2
   have t1 := ht.out.c3
   go_wp2_with fail
   clear g0 g1 g2 g3 g4 g5 g6 g7 g8 g9 t0 t1
   have hb8 : Below wr.heap.size wr (wr.alloc (.cells #[.func (.func 204) #[] #[], .int .i64 3] 244)) := (Below.refl _ _).alloc (Nat.le_refl _) _
   have HK8 := Lib.hid (Blk.new wr 244 #[.func (.func 204) #[] #[], .int .i64 3])
   generalize World.alloc _ _ = w8 at *
   refine (HCP.out w8 (hok.out.later hb8)).mono ?_
   rintro e w9 ⟨rfl, hb9⟩
   have HB9 := Lib.hid (hbl.out.trans ((hb8.trans (hb9.mono hb8.size)).mono hzw))
   have hb1 := (HK8.out.below hb9 HK8.out.lt).c1
   clear hb8 hb9 HK8
   rcases pb with _ | _
   ·clear hb1
    go_wp2_with fail
    go_roundg (4 - 2)
    case rel => exact ⟨2, rfl, by decide, rfl, HB9, by have hc := hcond.out; unfold Hid; refine ⟨?_, ?_, ?_, ?_⟩ <;> intro h <;> first | rfl | exact hc.1 (by omega) | exact hc.2.1 (by omega) | exact hc.2.2.1 (by omega) | omega⟩
    case measure => decide
   ·go_wp2_with fail
    go_ret
    exact ⟨ret_int (by rw [HDV.out, HDU.out]; simp [hcond.out.1 (by decide)]), HB7.out.trans (HB9.out.mono HB7.out.size)⟩
  ·have t0 := ht.out.c4
   have t1 := ht.out.c5
   go_wp2_with fail
   clear g0 g1 g2 g3 g4 g5 g6 g7 g8 g9 t0 t1
   have hb8 : Below wr.heap.size wr (wr.alloc (.cells #[.func (.func 205) #[] #[], .int .i64 2] 244)) := (Below.refl _ _).alloc (Nat.le_refl _) _
   have HK8 := Lib.hid (Blk.new wr 244 #[.func (.func 205) #[] #[], .int .i64 2])
   generalize World.alloc _ _ = w8 at *
   refine (HCL.out w8 (hok.out.later hb8) (((HN.out.below hbw.out hBn).more (by have := hbw.out.size; omega)).below hb8 (Nat.le_refl _) |> fun h => h.more hb8.size)).mono ?_
   rintro e w9 ⟨rfl, hb9⟩
   have HB9 := Lib.hid (hbl.out.trans ((hb8.trans (hb9.mono hb8.size)).mono hzw))
   have hb1 := (HK8.out.below hb9 HK8.out.lt).c1
   clear hb8 hb9 HK8
   rcases lb with _ | _
   ·clear hb1
    go_wp2_with fail
    go_roundg (4 - 3)
    case rel => exact ⟨3, rfl, by decide, rfl, HB9, by have hc := hcond.out; unfold Hid; refine ⟨?_, ?_, ?_, ?_⟩ <;> intro h <;> first | rfl | exact hc.1 (by omega) | exact hc.2.1 (by omega) | exact hc.2.2.1 (by omega) | omega⟩
    case measure => decide
   ·go_wp2_with fail
    go_ret
    exact ⟨ret_int (by rw [HDV.out, HDU.out]; simp [hcond.out.1 (by decide), hcond.out.2.1 (by decide)]), HB7.out.trans (HB9.out.mono HB7.out.size)⟩
  ·have t0 := ht.out.c6
   have t1 := ht.out.c7
   go_wp2_with fail
   clear g0 g1 g2 g3 g4 g5 g6 g7 g8 g9 t0 t1
   have hb8 : Below wr.heap.size wr (wr.alloc (.cells #[.func (.func 206) #[] #[], .int .i64 1] 244)) := (Below.refl _ _).alloc (Nat.le_refl _) _
   have HK8 := Lib.hid (Blk.new wr 244 #[.func (.func 206) #[] #[], .int .i64 1])
   generalize World.alloc _ _ = w8 at *
   refine (HCC.out w8 (hok.out.later hb8)).mono ?_
   rintro e w9 ⟨rfl, hb9⟩
   have HB9 := Lib.hid (hbl.out.trans ((hb8.trans (hb9.mono hb8.size)).mono hzw))
   have hb1 := (HK8.out.below hb9 HK8.out.lt).c1
   clear hb8 hb9 HK8
   rcases kb with _ | _
   ·clear hb1
    go_wp2_with fail
    go_roundg (4 - 4)
    case rel => exact ⟨4, rfl, by decide, rfl, HB9, by have hc := hcond.out; unfold Hid; refine ⟨?_, ?_, ?_, ?_⟩ <;> intro h <;> first | rfl | exact hc.1 (by omega) | exact hc.2.1 (by omega) | exact hc.2.2.1 (by omega) | omega⟩
    case measure => decide
   ·go_wp2_with fail
    go_ret
    exact ⟨ret_int (by rw [HDV.out, HDU.out]; simp [hcond.out.1 (by decide), hcond.out.2.1 (by decide), hcond.out.2.2.1 (by decide)]), HB7.out.trans (HB9.out.mono HB7.out.size)⟩
  ·go_wp2_with fail
   go_ret
   exact ⟨ret_int (by rw [HDV.out, HDU.out]; simp [hcond.out.1 (by decide), hcond.out.2.1 (by decide), hcond.out.2.2.1 (by decide), hcond.out.2.2.2 (by decide)]), hbw.out⟩
end Go.Proofs.YtfaknfmndafllaaGreatDoor
namespace Go.Proofs.YtfaknfmndafllaaGreatDoor
open Go.RowKit
def NcRel (W : World) (mb nn : Nat) (ns : List Nd) (iv : Value) (wr : World) : Prop :=
 ∃ (i : Nat) (U : List (List UInt8)), iv = .int .i64 i ∧ i ≤ nn ∧ U.length ≤ i ∧ Hid (UsedAt wr mb U) ∧ Hid (chkN [] ns = chkN U (ns.drop i) ∧ usedN [] ns = usedN U (ns.drop i)) ∧ Hid (Below W.heap.size W wr)
def NdRel (W : World) (mb nn nd : Nat) (ns : List Nd) (ds : List Dv) (iv : Value) (wr : World) : Prop :=
 ∃ (i : Nat) (U : List (List UInt8)), iv = .int .i64 i ∧ i ≤ nd ∧ U.length ≤ i + nn ∧ Hid (UsedAt wr mb U) ∧ Hid (checkN ns ds = chkD nn U (ds.drop i)) ∧ Hid (Below W.heap.size W wr)
theorem ncheck_any (An Ad : Option Addr) (nn cn nd cd Bn Bd : Nat) (ns : List Nd) (ds : List Dv) (w : World) (hl : Laid w) (hn : Sl w Bn 3 An nn cn (ns.flatMap Nd.cells)) (hd : Sl w Bd 5 Ad nd cd (ds.flatMap Dv.cells)) (hBn : Bn ≤ w.heap.size) (hBd : Bd ≤ w.heap.size)
 (hsn : ∀ x ∈ ns, x.name.size ≤ 9223372036854775807) (hsd : ∀ x ∈ ds, x.name.size ≤ 9223372036854775807) :
 Calls Tryz.prog 95 #[.agg #[.slice An nn cn, .slice Ad nd cd]] w fun e w' => e = .returned (.int .i64 (checkN ns ds)) ∧ Below w.heap.size w w' := by
 have HLN := Lib.hid (hn.len (fun _ => rfl) (by decide)); have HLD := Lib.hid (hd.len (fun _ => rfl) (by decide))
 obtain ⟨hnc, hcm⟩ := hn.le
 obtain ⟨hdc, hdm⟩ := hd.le
 have HL := Lib.hid hl; have HN := Lib.hid hn; have HD := Lib.hid hd; have HSN := Lib.hid hsn; have HSD := Lib.hid hsd
 clear hl hn hd hsn hsd
 have HC : Hid (checkN ns ds = if 32 < nn then 1 else if 64 < nd then 1 else if chkN [] ns = 0 then chkD nn (usedN [] ns) ds else chkN [] ns) := by unfold Hid; rw [checkN, HLN.out, HLD.out]
 have hmm := @run_makeMap Tryz.prog
 by_cases h1 : 32 < nn
 ·have q1 : decide ((32 : Int) < (nn : Int)) = true := by simp; omega
  go_enter Tryz.func95, Tryz.ntmps95
  go_wp2_with fail
  go_ret
  exact ⟨ret_int (by rw [HC.out, if_pos h1]), (Below.refl _ _).alloc (Nat.le_refl _) _⟩
 have q1 : decide ((32 : Int) < (nn : Int)) = false := by simp; omega
 by_cases h2 : 64 < nd
 ·have q2 : decide ((64 : Int) < (nd : Int)) = true := by simp; omega
  go_enter Tryz.func95, Tryz.ntmps95
  go_wp2_with fail
  go_ret
  exact ⟨ret_int (by rw [HC.out, if_neg h1, if_pos h2]), (Below.refl _ _).alloc (Nat.le_refl _) _⟩
 have q2 : decide ((64 : Int) < (nd : Int)) = false := by simp; omega
 go_enter Tryz.func95, Tryz.ntmps95
 go_wp2_with fail
 clear q1 q2 hmm
 generalize hW : w.alloc (.cells #[.slice An nn cn, .slice Ad nd cd] 30) = W
 have HK : Hid (Blk W w.heap.size 30 #[.slice An nn cn, .slice Ad nd cd]) := hW ▸ Blk.new _ _ _
 have HB0 : Hid (Below w.heap.size w W) := hW ▸ (Below.refl _ _).alloc (Nat.le_refl _) _
 have hWs : w.heap.size < W.heap.size := HK.out.lt
 have hWe : w.heap.size + 1 = W.heap.size := by rw [← hW]; simp
 clear hW
 rw [hWe]
 have hU0 := used_made W
 obtain ⟨mb, hmb⟩ : ∃ mb, W.heap.size = mb := ⟨_, rfl⟩
 have HBW : Hid (Below W.heap.size W (W.alloc (.map #[] 0))) := (Below.refl _ _).alloc (Nat.le_refl _) _
 rw [hmb] at hU0 ⊢
 have HMB := Lib.hid hmb; clear hmb hWe
 go_loopw [22] (fun iv wr => NcRel W mb nn ns iv wr) (fun iv _ => nn - (intOf iv).toNat)
 case atStart => exact ⟨0, [], rfl, Nat.zero_le _, Nat.le_refl _, hU0, ⟨rfl, rfl⟩, HBW⟩
 case round =>
  clear hU0 HBW
  obtain ⟨i, U, rfl, hi, hUl, hU, hch, hbl⟩ := hrel
  have hsz := hbl.out.size
  have k0 := (HK.out.below hbl.out hWs).c0
  have k1 := (HK.out.below hbl.out hWs).c1
  by_cases hlt : i < nn; rotate_left
  ·obtain rfl : i = nn := by omega
   have hjj : decide (i < i) = false := by simp
   have hd0 : ns.drop i = [] := List.drop_eq_nil_of_le (by rw [HLN.out]; omega)
   have hch' := hch.out
   rw [hd0] at hch'
   simp only [chkN, usedN] at hch'
   have HCC : Hid (checkN ns ds = chkD i U (ds.drop 0)) := by
    unfold Hid
    rw [HC.out, if_neg h1, if_neg h2, if_pos hch'.1, hch'.2, List.drop_zero]
   clear hch' hch hd0
   go_wp2_with fail
   go_loopw [58] (fun iv wr => NdRel W mb i nd ns ds iv wr) (fun iv _ => nd - (intOf iv).toNat)
   case atStart => exact ⟨0, U, rfl, Nat.zero_le _, by omega, hU, HCC, hbl⟩
   case round =>
    clear hU HCC hbl k0 k1 hjj
    obtain ⟨j, U, rfl, hj, hUl, hU, hch, hbl⟩ := hrel
    have hsz := hbl.out.size
    have k0 := (HK.out.below hbl.out hWs).c0
    by_cases hlj : j < nd; rotate_left
    ·obtain rfl : j = nd := by omega
     have hjj : decide (j < j) = false := by simp
     have hd0 : ds.drop j = [] := List.drop_eq_nil_of_le (by rw [HLD.out]; omega)
     have hch' := hch.out
     rw [hd0] at hch'
     simp only [chkD] at hch'
     have HCH := Lib.hid hch'
     clear hch' hch hd0
     go_wp2_with fail
     go_ret
     exact ⟨ret_int (by rw [HCH.out]), HB0.out.trans (hbl.out.mono (Nat.le_of_lt hWs))⟩
    obtain ⟨b, off, x, rfl, hb, hx, hc⟩ := ((HD.out.below HB0.out hBd).below hbl.out (Nat.le_trans hBd (Nat.le_of_lt hWs))).at (fun _ => rfl) (by decide) hlj
    have HXS := Lib.hid (HSD.out x (List.mem_of_getElem? hx))
    have HX := Lib.hid hx
    obtain ⟨nm, kd, xa, xb, co⟩ := x
    have c0 : wr.cell? ⟨b, off + j * 5, none⟩ = some (.string nm) := hc 0 _ rfl
    have c1 : wr.cell? ⟨b, off + j * 5 + 1, none⟩ = some (.int .i64 kd) := hc 1 _ rfl
    have c2 : wr.cell? ⟨b, off + j * 5 + 2, none⟩ = some (.int .i64 xa) := hc 2 _ rfl
    have c3 : wr.cell? ⟨b, off + j * 5 + 3, none⟩ = some (.int .i64 xb) := hc 3 _ rfl
    have c4 : wr.cell? ⟨b, off + j * 5 + 4, none⟩ = some (.int .i64 co) := hc 4 _ rfl
    clear hc hx
    have hnm := HXS.out
    simp only at hnm
    have hstop : ∀ e : Int, dvErr i U ⟨nm, kd, xa, xb, co⟩ = e → e ≠ 0 → checkN ns ds = e := fun e he hne => by
     rw [hch.out, chkD_stop HX.out (by rw [he]; exact hne), he]
    have HST := Lib.hid hstop; clear hstop
    have HEE : Hid (dvErr i U ⟨nm, kd, xa, xb, co⟩ = if nameB (toL nm) = false then 3 else if toL nm ∈ U then 4 else if kd < 1 ∨ 6 < kd then 6 else if endsB kd xa xb i = false then 7 else if compB co = false then 5 else 0) := rfl
    have HL1 := Lib.hid ((HL.out.below HB0.out (Nat.le_refl _)).below hbl.out (Nat.le_refl _))
    go_wp2_with fail
    clear c0 c1 c2 c3 c4
    generalize hWX : wr.alloc (.cells #[.string nm, .int .i64 kd, .int .i64 xa, .int .i64 xb, .int .i64 co] 68) = WX
    have hbX : Below wr.heap.size wr WX := hWX ▸ (Below.refl _ _).alloc (Nat.le_refl _) _
    have hkX : Blk WX wr.heap.size 68 #[.string nm, .int .i64 kd, .int .i64 xa, .int .i64 xb, .int .i64 co] := hWX ▸ Blk.new _ _ _
    clear hWX
    refine (name_any nm WX (HL1.out.below hbX (Nat.le_refl _)) hnm).mono ?_
    rintro e w1 ⟨rfl, hb1⟩
    have hb01 : Below wr.heap.size wr w1 := hbX.trans (hb1.mono hbX.size)
    have HK1 := Lib.hid (hkX.below hb1 hkX.lt)
    have HU1 := Lib.hid (hU.out.below hb01)
    have HB1 := Lib.hid (hbl.out.trans (hb01.mono hsz))
    have HBB := Lib.hid (HB0.out.trans (HB1.out.mono (Nat.le_of_lt hWs)))
    have x0 := HK1.out.c0
    have x1 := HK1.out.c1
    have x2 := HK1.out.c2
    have x3 := HK1.out.c3
    have x4 := HK1.out.c4
    have y0 := (HK.out.below HB1.out hWs).c0
    clear hb1 hbX hkX hb01 k0
    rcases hnb : nameB (toL nm) with _ | _
    ·have HR := Lib.hid (HST.out 3 (by rw [HEE.out, if_pos hnb]) (by decide))
     clear hnb
     go_wp2_with fail
     go_ret
     exact ⟨ret_int (by rw [HR.out]), HBB.out⟩
    have HNB := Lib.hid hnb; clear hnb
    have hlk := HU1.out.look nm hnm
    by_cases hmem : toL nm ∈ U
    ·have HR := Lib.hid (HST.out 4 (by rw [HEE.out, if_neg (by rw [HNB.out]; simp), if_pos hmem]) (by decide))
     rw [decide_eq_true hmem] at hlk
     clear hmem
     go_wp2_with fail
     go_ret
     exact ⟨ret_int (by rw [HR.out]), HBB.out⟩
    rw [decide_eq_false hmem] at hlk
    have HMM := Lib.hid hmem; clear hmem
    have h6 : kd < 1 ∨ 6 < kd → checkN ns ds = 6 := fun h => HST.out 6 (by rw [HEE.out, if_neg (by rw [HNB.out]; simp), if_neg HMM.out, if_pos h]) (by decide)
    have H6 := Lib.hid h6; clear h6
    by_cases g1 : kd < 1
    ·have HR := Lib.hid (H6.out (.inl g1))
     go_wp2_with fail
     go_ret
     exact ⟨ret_int (by rw [HR.out]), HBB.out⟩
    have g1' : decide (kd < 1) = false := by simpa using g1
    by_cases g2 : 6 < kd
    ·have HR := Lib.hid (H6.out (.inr g2))
     go_wp2_with fail
     go_ret
     exact ⟨ret_int (by rw [HR.out]), HBB.out⟩
    have g2' : decide (6 < kd) = false := by simpa using g2
    have HEN := Lib.hid (ends_any nm kd xa xb co i)
    rcases hen : endsB kd xa xb i with _ | _
    ·have HR := Lib.hid (HST.out 7 (by rw [HEE.out, if_neg (by rw [HNB.out]; simp), if_neg HMM.out, if_neg (by omega), if_pos hen]) (by decide))
     rw [hen] at HEN
     clear hen
     go_wp2_with fail
     refine (HEN.out _).mono ?_
     rintro e w2 ⟨rfl, hb2⟩
     go_wp2_with fail
     go_ret
     exact ⟨ret_int (by rw [HR.out]), HBB.out.trans (hb2.mono HBB.out.size)⟩
    rw [hen] at HEN
    have HNE := Lib.hid hen; clear hen
    go_wp2_with fail
    clear x0 x1 x2 x3 x4 y0 hlk
    refine (HEN.out _).mono ?_
    rintro e w2 ⟨rfl, hb2⟩
    have HK2 := Lib.hid (HK1.out.below hb2 HK1.out.lt)
    have HU2 := Lib.hid (HU1.out.below hb2)
    have HB2 := Lib.hid (HB1.out.trans (hb2.mono HB1.out.size))
    have HBB2 := Lib.hid (HBB.out.trans (hb2.mono HBB.out.size))
    have x0 := HK2.out.c0
    have x4 := HK2.out.c4
    clear hb2
    have HCO := Lib.hid (company_any co)
    rcases hco : compB co with _ | _
    ·have HR := Lib.hid (HST.out 5 (by rw [HEE.out, if_neg (by rw [HNB.out]; simp), if_neg HMM.out, if_neg (by omega), if_neg (by rw [HNE.out]; simp), if_pos hco]) (by decide))
     rw [hco] at HCO
     clear hco
     go_wp2_with fail
     refine (HCO.out _).mono ?_
     rintro e w3 ⟨rfl, rfl⟩
     go_wp2_with fail
     go_ret
     exact ⟨ret_int (by rw [HR.out]), HBB2.out⟩
    have HOK : Hid (dvErr i U ⟨nm, kd, xa, xb, co⟩ = 0) := by unfold Hid; rw [HEE.out, if_neg (by rw [HNB.out]; simp), if_neg HMM.out, if_neg (by omega), if_neg (by rw [HNE.out]; simp), if_neg (by rw [hco]; simp)]
    rw [hco] at HCO
    clear hco
    obtain ⟨w4, hput, hU4, hg4⟩ := HU2.out.put (by omega) nm hnm
    have HU4 := Lib.hid hU4; have HG4 := Lib.hid hg4
    clear hU4 hg4
    go_wp2_with fail
    refine (HCO.out _).mono ?_
    rintro e w3 ⟨rfl, rfl⟩
    go_wp2_with fail
    go_roundw
    case rel =>
     refine ⟨j + 1, toL nm :: U, by go_num, by omega, by simp; omega, HU4, hch.out.trans (chkD_step HX.out HOK.out), HB2.out.trans (below_of_grown HG4.out (by rw [HMB.out]; exact Nat.le_refl _) HB2.out.size)⟩
    case measure => simp [intOf]; omega
  obtain ⟨b, off, x, rfl, hb, hx, hc⟩ := ((HN.out.below HB0.out hBn).below hbl.out (Nat.le_trans hBn (Nat.le_of_lt hWs))).at (fun _ => rfl) (by decide) hlt
  have HXS := Lib.hid (HSN.out x (List.mem_of_getElem? hx))
  have HX := Lib.hid hx
  obtain ⟨nm, cu, co⟩ := x
  have c0 : wr.cell? ⟨b, off + i * 3, none⟩ = some (.string nm) := hc 0 _ rfl
  have c1 : wr.cell? ⟨b, off + i * 3 + 1, none⟩ = some (.int .i64 cu) := hc 1 _ rfl
  have c2 : wr.cell? ⟨b, off + i * 3 + 2, none⟩ = some (.int .i64 co) := hc 2 _ rfl
  clear hc hx
  have hnm := HXS.out
  simp only at hnm
  have hstop : ∀ e : Int, ndErr U ⟨nm, cu, co⟩ = e → e ≠ 0 → checkN ns ds = e := fun e he hne => by
   have hs := chkN_stop HX.out (by rw [he]; exact hne)
   have hcc := hch.out.1
   rw [hs, he] at hcc
   rw [HC.out, if_neg h1, if_neg h2, if_neg (by rw [hcc]; exact hne), hcc]
  have HST := Lib.hid hstop; clear hstop
  have HEE : Hid (ndErr U ⟨nm, cu, co⟩ = if nameB (toL nm) = false then 3 else if toL nm ∈ U then 4 else if cu < 0 ∨ 1048576 < cu then 5 else if compB co = false then 5 else 0) := rfl
  have HL1 := Lib.hid ((HL.out.below HB0.out (Nat.le_refl _)).below hbl.out (Nat.le_refl _))
  go_wp2_with fail
  clear c0 c1 c2
  generalize hWX : wr.alloc (.cells #[.string nm, .int .i64 cu, .int .i64 co] 80) = WX
  have hbX : Below wr.heap.size wr WX := hWX ▸ (Below.refl _ _).alloc (Nat.le_refl _) _
  have hkX : Blk WX wr.heap.size 80 #[.string nm, .int .i64 cu, .int .i64 co] := hWX ▸ Blk.new _ _ _
  clear hWX
  refine (name_any nm WX (HL1.out.below hbX (Nat.le_refl _)) hnm).mono ?_
  rintro e w1 ⟨rfl, hb1⟩
  have hb01 : Below wr.heap.size wr w1 := hbX.trans (hb1.mono hbX.size)
  have HK1 := Lib.hid (hkX.below hb1 hkX.lt)
  have HU1 := Lib.hid (hU.out.below hb01)
  have HB1 := Lib.hid (hbl.out.trans (hb01.mono hsz))
  have HBB := Lib.hid (HB0.out.trans (HB1.out.mono (Nat.le_of_lt hWs)))
  have x0 := HK1.out.c0
  have x1 := HK1.out.c1
  have x2 := HK1.out.c2
  clear hb1 hbX hkX hb01
  rcases hnb : nameB (toL nm) with _ | _
  ·have HR := Lib.hid (HST.out 3 (by rw [HEE.out, if_pos hnb]) (by decide))
   clear hnb
   go_wp2_with fail
   go_ret
   exact ⟨ret_int (by rw [HR.out]), HBB.out⟩
  have HNB := Lib.hid hnb; clear hnb
  have hlk := HU1.out.look nm hnm
  by_cases hmem : toL nm ∈ U
  ·have HR := Lib.hid (HST.out 4 (by rw [HEE.out, if_neg (by rw [HNB.out]; simp), if_pos hmem]) (by decide))
   rw [decide_eq_true hmem] at hlk
   clear hmem
   go_wp2_with fail
   go_ret
   exact ⟨ret_int (by rw [HR.out]), HBB.out⟩
  rw [decide_eq_false hmem] at hlk
  have HMM := Lib.hid hmem; clear hmem
  have h5 : cu < 0 ∨ 1048576 < cu ∨ compB co = false → checkN ns ds = 5 := fun h => HST.out 5 (by
   rw [HEE.out, if_neg (by rw [HNB.out]; simp), if_neg HMM.out]
   by_cases hh : cu < 0 ∨ 1048576 < cu
   ·rw [if_pos hh]
   ·rw [if_neg hh, if_pos (h.elim (fun h => absurd (.inl h) hh) (fun h => h.elim (fun h => absurd (.inr h) hh) id))]) (by decide)
  have H5 := Lib.hid h5; clear h5
  by_cases g1 : cu < 0
  ·have HR := Lib.hid (H5.out (.inl g1))
   go_wp2_with fail
   go_ret
   exact ⟨ret_int (by rw [HR.out]), HBB.out⟩
  have g1' : decide (cu < 0) = false := by simpa using g1
  by_cases g2 : 1048576 < cu
  ·have HR := Lib.hid (H5.out (.inr (.inl g2)))
   go_wp2_with fail
   go_ret
   exact ⟨ret_int (by rw [HR.out]), HBB.out⟩
  have g2' : decide (1048576 < cu) = false := by simpa using g2
  have HCO := Lib.hid (company_any co)
  rcases hco : compB co with _ | _
  ·have HR := Lib.hid (H5.out (.inr (.inr hco)))
   rw [hco] at HCO
   clear hco
   go_wp2_with fail
   refine (HCO.out _).mono ?_
   rintro e w2 ⟨rfl, rfl⟩
   go_wp2_with fail
   go_ret
   exact ⟨ret_int (by rw [HR.out]), HBB.out⟩
  have HOK : Hid (ndErr U ⟨nm, cu, co⟩ = 0) := by unfold Hid; rw [HEE.out, if_neg (by rw [HNB.out]; simp), if_neg HMM.out, if_neg (by omega), if_neg (by rw [hco]; simp)]
  rw [hco] at HCO
  clear hco
  obtain ⟨w2, hput, hU2, hg2⟩ := HU1.out.put (by omega) nm hnm
  have HU2 := Lib.hid hU2; have HG2 := Lib.hid hg2
  clear hU2 hg2
  go_wp2_with fail
  refine (HCO.out _).mono ?_
  rintro e w3 ⟨rfl, rfl⟩
  go_wp2_with fail
  go_roundw
  case rel =>
   have hst := chkN_step HX.out HOK.out
   refine ⟨i + 1, toL nm :: U, by go_num, by omega, by simp; omega, HU2, ⟨hch.out.1.trans hst.1, hch.out.2.trans hst.2⟩, HB1.out.trans (below_of_grown HG2.out (by rw [HMB.out]; exact Nat.le_refl _) HB1.out.size)⟩
  case measure => simp [intOf]; omega
end Go.Proofs.YtfaknfmndafllaaGreatDoor
namespace Go.Proofs.YtfaknfmndafllaaGreatDoor
open Go.RowKit
theorem position_any (p : Int) (w : World) (hl : Laid w) : Calls Tryz.prog 94 #[.int .i64 p] w fun e w' => e = .returned (.bool (posB p)) ∧ w = w' := by
 have c1 := hl.2 1 _ rfl
 have c3 := hl.2 3 _ rfl
 have c5 := hl.2 5 _ rfl
 have c7 := hl.2 7 _ rfl
 clear hl
 by_cases h0 : 0 ≤ p; rotate_left
 ·have h0' : decide (0 ≤ p) = false := by simpa using h0
  have HP : Hid (posB p = false) := by unfold Hid; simp [posB]; omega
  go_enter Tryz.func94, Tryz.ntmps94
  go_wp2_with fail
  go_ret
  exact ⟨ret_bool (by rw [HP.out]), rfl⟩
 by_cases h4 : p < 4; rotate_left
 ·have h4' : decide (p < 4) = false := by simpa using h4
  have HP : Hid (posB p = false) := by unfold Hid; simp [posB]; omega
  go_enter Tryz.func94, Tryz.ntmps94
  go_wp2_with fail
  go_ret
  exact ⟨ret_bool (by rw [HP.out]), rfl⟩
 rcases (show p = 0 ∨ p = 1 ∨ p = 2 ∨ p = 3 by omega) with rfl | rfl | rfl | rfl
 all_goals
  go_enter Tryz.func94, Tryz.ntmps94
  go_wp2_with fail
  go_ret
  exact ⟨ret_bool (by decide), rfl⟩
end Go.Proofs.YtfaknfmndafllaaGreatDoor
namespace Go.Proofs.YtfaknfmndafllaaGreatDoor
open Go.RowKit
def stateErr (ns : List Nd) (ds : List Dv) (s : List Int) : Int := if checkN ns ds ≠ 0 then checkN ns ds else if s.length ≠ ds.length then 9 else if ∀ p ∈ s, posB p = true then 0 else 10
theorem mcheck_pos (An Ad As : Option Addr) (nn cn nd cd n c Bn Bd Bs : Nat) (ns : List Nd) (ds : List Dv) (s : List Int) (w : World) (hl : Laid w) (hn : Sl w Bn 3 An nn cn (ns.flatMap Nd.cells)) (hd : Sl w Bd 5 Ad nd cd (ds.flatMap Dv.cells)) (hs : Sl w Bs 1 As n c (intsV s)) (hBn : Bn ≤ w.heap.size) (hBd : Bd ≤ w.heap.size) (hBs : Bs ≤ w.heap.size)
 (hsn : ∀ x ∈ ns, x.name.size ≤ 9223372036854775807) (hsd : ∀ x ∈ ds, x.name.size ≤ 9223372036854775807) :
 Calls Tryz.prog 93 #[.agg #[.slice An nn cn, .slice Ad nd cd], .slice As n c, .func (.func 94) #[] #[]] w fun e w' => e = .returned (.int .i64 (stateErr ns ds s)) ∧ Below w.heap.size w w' := by
 have HLS := Lib.hid (hs.len (fun _ => rfl) (by decide)); have HLD := Lib.hid (hd.len (fun _ => rfl) (by decide))
 obtain ⟨hnc, hcm⟩ := hs.le
 obtain ⟨hdc, hdm⟩ := hd.le
 have HE : Hid (stateErr ns ds s = if checkN ns ds ≠ 0 then checkN ns ds else if n ≠ nd then 9 else if ∀ p ∈ s, posB p = true then 0 else 10) := by unfold Hid; rw [stateErr, HLS.out, HLD.out]
 have HL := Lib.hid hl; have HN := Lib.hid hn; have HD := Lib.hid hd; have HS := Lib.hid hs
 have HCK := Lib.hid (ncheck_any An Ad nn cn nd cd Bn Bd ns ds (w.alloc (.cells #[.slice An nn cn, .slice Ad nd cd] 30)) (hl.alloc _) (hn.alloc hBn _) (hd.alloc hBd _) (by simp; omega) (by simp; omega) hsn hsd)
 clear hl hn hd hs hsn hsd
 generalize checkN ns ds = er at *
 have HBW : Hid (Below w.heap.size w (w.alloc (.cells #[.slice An nn cn, .slice Ad nd cd] 30))) := (Below.refl _ _).alloc (Nat.le_refl _) _
 by_cases h0 : er = 0; rotate_left
 ·have h0' : (er != 0) = true := by simpa using h0
  have HR : Hid (stateErr ns ds s = er) := by unfold Hid; rw [HE.out, if_pos h0]
  clear h0
  go_enter Tryz.func93, Tryz.ntmps93
  go_wp2_with fail
  refine HCK.out.mono ?_
  rintro e w1 ⟨rfl, hb1⟩
  go_wp2_with fail
  go_ret
  exact ⟨ret_int (by rw [HR.out]), HBW.out.trans (hb1.mono (by simp))⟩
 subst h0
 go_enter Tryz.func93, Tryz.ntmps93
 go_wp2_with fail
 refine HCK.out.mono ?_
 rintro e w1 ⟨rfl, hb1⟩
 have HK1 := Lib.hid ((Blk.new w 30 #[.slice An nn cn, .slice Ad nd cd]).below hb1 (by simp))
 have HB1 := Lib.hid (HBW.out.trans (hb1.mono (by simp)))
 have k1 := HK1.out.c1
 have hz1 := HB1.out.size
 clear hb1 HCK
 by_cases hnd : n = nd; rotate_left
 ·have q : decide (n = nd) = false := by simpa using hnd
  have q' : ((n : Int) != (nd : Int)) = true := by simp; omega
  have HR : Hid (stateErr ns ds s = 9) := by unfold Hid; rw [HE.out, if_neg (by simp), if_pos hnd]
  clear hnd
  go_wp2_with fail
  go_ret
  exact ⟨ret_int (by rw [HR.out]), HB1.out⟩
 subst hnd
 have HL1 := Lib.hid (HL.out.below HB1.out (Nat.le_refl _))
 have HS1 := Lib.hid (HS.out.below HB1.out hBs)
 go_wp2_with fail
 clear k1
 go_loop [9, 23] (fun _ iv => ∃ i : Nat, iv = .int .i64 i ∧ i ≤ n ∧ Hid (∀ p ∈ s.take i, posB p = true)) (fun _ iv => n - (intOf iv).toNat)
 case atStart => exact ⟨0, rfl, Nat.zero_le _, by simp [Hid]⟩
 case round =>
  obtain ⟨i, rfl, hi, hok⟩ := hrel
  by_cases hlt : i < n
  ·obtain ⟨b, off, x, rfl, hb, hx, hc⟩ := HS1.out.at1 hlt
   have HX := Lib.hid hx; clear hx
   have HPA := Lib.hid (position_any x w1 HL1.out)
   rcases hp : posB x with _ | _
   ·have HR : Hid (stateErr ns ds s = 10) := by
     unfold Hid
     rw [HE.out, if_neg (by simp), if_neg (by simp), if_neg (fun h => by have := h x (List.mem_of_getElem? HX.out); rw [hp] at this; cases this)]
    rw [hp] at HPA
    clear hp
    go_wp2_with fail
    refine HPA.out.mono ?_
    rintro e w2 ⟨rfl, rfl⟩
    go_wp2_with fail
    go_ret
    exact ⟨ret_int (by rw [HR.out]), HB1.out⟩
   ·rw [hp] at HPA
    have HP := Lib.hid hp; clear hp
    go_wp2_with fail
    refine HPA.out.mono ?_
    rintro e w2 ⟨rfl, rfl⟩
    go_wp2_with fail
    go_round
    case rel =>
     refine ⟨i + 1, by go_num, by omega, fun p hp => ?_⟩
     rw [take_snoc HX.out] at hp
     rcases List.mem_append.1 hp with h | h
     ·exact hok.out p h
     ·rw [List.mem_singleton.1 h]; exact HP.out
    case measure => simp [intOf]; omega
  ·obtain rfl : i = n := by omega
   have hjj : decide (i < i) = false := by simp
   have HR : Hid (stateErr ns ds s = 0) := by
    unfold Hid
    have := hok.out
    rw [List.take_of_length_le (by rw [HLS.out]; exact Nat.le_refl _)] at this
    rw [HE.out, if_neg (by simp), if_neg (by simp), if_pos this]
   go_wp2_with fail
   go_ret
   exact ⟨ret_int (by rw [HR.out]), HB1.out⟩
theorem mstate_any (An Ad As : Option Addr) (nn cn nd cd n c Bn Bd Bs : Nat) (ns : List Nd) (ds : List Dv) (s : List Int) (w : World) (hl : Laid w) (hn : Sl w Bn 3 An nn cn (ns.flatMap Nd.cells)) (hd : Sl w Bd 5 Ad nd cd (ds.flatMap Dv.cells)) (hs : Sl w Bs 1 As n c (intsV s)) (hBn : Bn ≤ w.heap.size) (hBd : Bd ≤ w.heap.size) (hBs : Bs ≤ w.heap.size)
 (hsn : ∀ x ∈ ns, x.name.size ≤ 9223372036854775807) (hsd : ∀ x ∈ ds, x.name.size ≤ 9223372036854775807) :
 Calls Tryz.prog 55 #[.agg #[.slice An nn cn, .slice Ad nd cd], .slice As n c] w fun e w' => e = .returned (.int .i64 (stateErr ns ds s)) ∧ Below w.heap.size w w' := by
 have HC := Lib.hid (mcheck_pos An Ad As nn cn nd cd n c Bn Bd Bs ns ds s (w.alloc (.cells #[.slice An nn cn, .slice Ad nd cd] 30)) (hl.alloc _) (hn.alloc hBn _) (hd.alloc hBd _) (hs.alloc hBs _) (by simp; omega) (by simp; omega) (by simp; omega) hsn hsd)
 clear hl hn hd hs hsn hsd
 go_enter Tryz.func55, Tryz.ntmps55
 go_wp2_with fail
 refine HC.out.mono ?_
 rintro e w1 ⟨rfl, hb1⟩
 go_wp2_with fail
 go_ret
 exact ⟨rfl, ((Below.refl _ _).alloc (Nat.le_refl _) _).trans (hb1.mono (by simp))⟩
end Go.Proofs.YtfaknfmndafllaaGreatDoor
namespace Go.Proofs.YtfaknfmndafllaaGreatDoor
open Go.RowKit
def devErr (nd : Nat) (d : Int) : Int := if d < 0 then 8 else if (nd : Int) ≤ d then 8 else 0
theorem device_any (An Ad : Option Addr) (nn cn nd cd : Nat) (d : Int) (w : World) (_hnd : nd ≤ 9223372036854775807) : Calls Tryz.prog 185 #[.agg #[.slice An nn cn, .slice Ad nd cd], .int .i64 d] w fun e w' => e = .returned (.int .i64 (devErr nd d)) ∧ Below w.heap.size w w' := by
 have HE : Hid (devErr nd d = if d < 0 then 8 else if (nd : Int) ≤ d then 8 else 0) := rfl
 by_cases h1 : d < 0
 ·go_enter Tryz.func185, Tryz.ntmps185
  go_wp2_with fail
  go_ret
  exact ⟨ret_int (by rw [HE.out, if_pos h1]), (Below.refl _ _).alloc (Nat.le_refl _) _⟩
 ·have q1 : decide (d < 0) = false := by simpa using h1
  by_cases h2 : (nd : Int) ≤ d
  ·go_enter Tryz.func185, Tryz.ntmps185
   go_wp2_with fail
   go_ret
   exact ⟨ret_int (by rw [HE.out, if_neg (by omega), if_pos h2]), (Below.refl _ _).alloc (Nat.le_refl _) _⟩
  ·have q2 : decide ((nd : Int) ≤ d) = false := by simpa using h2
   go_enter Tryz.func185, Tryz.ntmps185
   go_wp2_with fail
   go_ret
   exact ⟨ret_int (by rw [HE.out, if_neg (by omega), if_neg (by omega)]), (Below.refl _ _).alloc (Nat.le_refl _) _⟩
theorem Of_ok (An Ad As : Option Addr) (nn cn nd cd n c Bn Bd Bs i : Nat) (ns : List Nd) (ds : List Dv) (s : List Int) (x : Dv) (w : World) (hl : Laid w)
 (hn : Sl w Bn 3 An nn cn (ns.flatMap Nd.cells)) (hBn : Bn ≤ w.heap.size) (hd : Sl w Bd 5 Ad nd cd (ds.flatMap Dv.cells)) (hBd : Bd ≤ w.heap.size) (hs : Sl w Bs 1 As n c (intsV s)) (hBs : Bs ≤ w.heap.size) (hsn : ∀ x ∈ ns, x.name.size ≤ 9223372036854775807) (hsd : ∀ x ∈ ds, x.name.size ≤ 9223372036854775807)
 (h0 : stateErr ns ds s = 0) (hnn : nn ≤ 10000) (hn1 : n ≤ 10000) (hnd : nd ≤ n) (hi : i < nd) (hx : ds[i]? = some x) (hends : EndsOk nn ds) (hA : AOk nn ds) :
 Calls Tryz.prog 156 #[.agg #[.slice An nn cn, .slice Ad nd cd], .slice As n c, .int .i64 i] w fun e w' => e = .returned (.tuple #[.int .i64 (dutyAt nn ns ds s i x), .int .i64 0]) ∧ Below w.heap.size w w' := by
 have HB : Hid (Below w.heap.size w (w.alloc (.cells #[.slice An nn cn, .slice Ad nd cd] 30))) := (Below.refl _ _).alloc (Nat.le_refl _) _
 have HK := Lib.hid (Blk.new w 30 #[.slice An nn cn, .slice Ad nd cd])
 have HL := Lib.hid hl; have HN := Lib.hid hn; have HD := Lib.hid hd; have HS := Lib.hid hs; have HSN := Lib.hid hsn; have HSD := Lib.hid hsd; have H0 := Lib.hid h0; have HX := Lib.hid hx; have HE := Lib.hid hends; have HA := Lib.hid hA
 have hndm := hd.le
 clear hl hn hd hs hsn hsd h0 hx hends hA
 have HDE : Hid (devErr nd i = 0) := by unfold Hid devErr; rw [if_neg (by omega), if_neg (by omega)]
 go_enter Tryz.func156, Tryz.ntmps156
 go_wp2_with fail
 generalize World.alloc _ _ = W at *
 have hz := HB.out.size
 have HC := Lib.hid (mstate_any An Ad As nn cn nd cd n c Bn Bd Bs ns ds s W (HL.out.below HB.out (Nat.le_refl _)) (HN.out.below HB.out hBn) (HD.out.below HB.out hBd) (HS.out.below HB.out hBs) (by omega) (by omega) (by omega) HSN.out HSD.out)
 rw [H0.out] at HC
 refine HC.out.mono ?_
 rintro e w1 ⟨rfl, hb1⟩
 have HB1 := Lib.hid (HB.out.trans (hb1.mono hz))
 have HK1 := Lib.hid (HK.out.below hb1 HK.out.lt)
 have hz1 := HB1.out.size
 clear hb1 HC HB HK hz
 have k0 := HK1.out.c0
 have k1 := HK1.out.c1
 go_wp2_with fail
 have HC := Lib.hid (device_any An Ad nn cn nd cd i w1 (by omega))
 rw [HDE.out] at HC
 refine HC.out.mono ?_
 rintro e w2 ⟨rfl, hb2⟩
 have HB2 := Lib.hid (HB1.out.trans (hb2.mono hz1))
 have HK2 := Lib.hid (HK1.out.below hb2 HK1.out.lt)
 have hz2 := HB2.out.size
 clear hb2 HC HB1 HK1 hz1 k0 k1
 have k0 := HK2.out.c0
 have k1 := HK2.out.c1
 go_wp2_with fail
 clear k0 k1
 refine (of_any An Ad As nn cn nd cd n c Bn Bd Bs i ns ds s x w2 (HN.out.below HB2.out hBn) (by omega) (HD.out.below HB2.out hBd) (by omega) (HS.out.below HB2.out hBs) (by omega) hnn hn1 hnd hi HX.out HE.out HA.out).mono ?_
 rintro e w3 ⟨rfl, hb3⟩
 go_wp2_with fail
 go_ret2
 exact ⟨rfl, HB2.out.trans (hb3.mono hz2)⟩
end Go.Proofs.YtfaknfmndafllaaGreatDoor
namespace Go.Proofs.YtfaknfmndafllaaGreatDoor
section
variable {nn : Nat} {ns : List Nd} {ds : List Dv} {s : List Int} {i : Nat} {x : Dv}
theorem cols_get {c : List Int} (hc : IsCols nn ds s c) {v : Int} (h0 : 0 ≤ v) (h1 : v < nn) : c.getD v.toNat 0 = colV ds s v := by
 obtain ⟨k, rfl⟩ := Int.eq_ofNat_of_zero_le h0
 rw [Int.toNat_natCast, getD_of (hc.2 k (by omega))]
end
end Go.Proofs.YtfaknfmndafllaaGreatDoor
namespace Go.Proofs.YtfaknfmndafllaaGreatDoor
theorem least {Q : Nat → Prop} : ∀ n, Q n → ∃ m, Q m ∧ ∀ k, Q k → m ≤ k := by
 intro n
 induction n using Nat.strongRecOn with
 | ind n ih =>
  intro h
  by_cases hx : ∃ k, k < n ∧ Q k
  ·obtain ⟨k, hk, hq⟩ := hx; exact ih k hk hq
  ·exact ⟨n, h, fun k hk => Nat.le_of_not_lt (fun hl => hx ⟨k, hl, hk⟩)⟩
theorem colsOf_are (nn : Nat) (ds : List Dv) (s : List Int) : IsCols nn ds s (colsOf nn ds s) := by
 have h : IsCols nn ds s ((List.range nn).map fun v => colV ds s (v : Nat)) := ⟨by simp, fun v hv => by simp [List.getElem?_range hv]⟩
 rw [colsOf_eq h]; exact h
def Sup (ds : List Dv) (s : List Int) (v : Int) : Prop := HasK liveK ds s v ∧ ¬ HasK (· = 4) ds s v
theorem sup_col {ds : List Dv} {s : List Int} {v : Int} : colV ds s v = 1 ↔ Sup ds s v := by
 unfold colV Sup
 rcases ind_cases (HasK liveK ds s v) 1 with ⟨h, e⟩ | ⟨h, e⟩ <;> rcases ind_cases (HasK (· = 4) ds s v) 2 with ⟨h2, e2⟩ | ⟨h2, e2⟩ <;> rw [e, e2] <;> simp [h, h2]
section
variable {nn : Nat} {ns : List Nd} {ds : List Dv} {s : List Int} {i : Nat} {x : Dv}
theorem parts_iff {P : List Int} (hP : IsParts nn ds s P) {u v : Int} (hu : 0 ≤ u ∧ u < nn) (hv : 0 ≤ v ∧ v < nn) : P.getD u.toNat 0 = P.getD v.toNat 0 ↔ Conn ds s u v := by
 obtain ⟨a, rfl⟩ := Int.eq_ofNat_of_zero_le hu.1
 obtain ⟨b, rfl⟩ := Int.eq_ofNat_of_zero_le hv.1
 rw [Int.toNat_natCast, Int.toNat_natCast, ← hP.iff (by omega) (by omega)]
 obtain ⟨p, hp, _⟩ := hP.2 a (by omega)
 obtain ⟨q, hq, _⟩ := hP.2 b (by omega)
 rw [getD_of hp, getD_of hq, hp, hq]
 simp
def Means (ns : List Nd) (ds : List Dv) (o c : List Int) (d : Int) : Prop :=
 (d = 0 ∨ d = 1 → ∀ (v : Nat) (y : Nd), ns[v]? = some y → 0 < y.cust → (Sup ds c v ↔ Sup ds o v)) ∧
 (d = 2 → (∃ (v : Nat) (y : Nd), ns[v]? = some y ∧ 0 < y.cust ∧ Sup ds c v ∧ ¬ Sup ds o v) ∧ ∀ v : Int, Sup ds o v → Sup ds c v) ∧
 (d = 3 → ∀ v : Int, Sup ds c v ↔ Sup ds o v)
theorem Means.fault {o c : List Int} : Means ns ds o c 4 := ⟨fun h => by omega, fun h => by omega, fun h => by omega⟩
theorem Means.same {o c : List Int} {d : Int} (h : ∀ v : Int, Sup ds c v ↔ Sup ds o v) (hd : d ≠ 2) : Means ns ds o c d := ⟨fun _ v _ _ _ => h v, fun e => absurd e hd, fun _ => h⟩
open Classical in
theorem Means.one {o c P : List Int} {q : Int} (hP : IsParts nn ds o P) (hl : ns.length = nn) (hq : 0 ≤ q ∧ q < nn)
 (h1 : ∀ v, Conn ds o q v → Sup ds c v ∧ ¬ Sup ds o v) (h2 : ∀ v, ¬ Conn ds o q v → (Sup ds c v ↔ Sup ds o v)) :
 Means ns ds o c (if ∃ (v : Nat) (y : Nd), v < ns.length ∧ ns[v]? = some y ∧ 0 < y.cust ∧ P.getD v 0 = P.getD q.toNat 0 then 2 else 1) := by
 have pc : ∀ v : Nat, v < nn → (P.getD v 0 = P.getD q.toNat 0 ↔ Conn ds o q v) := by
  intro v hv
  have h := parts_iff hP (u := q) (v := v) hq ⟨by omega, by omega⟩
  rw [Int.toNat_natCast] at h
  exact ⟨fun e => h.1 e.symm, fun e => (h.2 e).symm⟩
 split
 ·rename_i hx
  obtain ⟨v, y, hv, hy, hc, hp⟩ := hx
  have k := h1 v ((pc v (by omega)).1 hp)
  refine ⟨fun h => by omega, fun _ => ⟨⟨v, y, hy, hc, k.1, k.2⟩, fun u hu => ?_⟩, fun h => by omega⟩
  by_cases hcn : Conn ds o q u
  ·exact (h1 u hcn).1
  ·exact (h2 u hcn).2 hu
 ·rename_i hx
  refine ⟨fun _ v y hy hc => h2 v (fun hcn => hx ?_), fun h => by omega, fun h => by omega⟩
  have hv := (List.getElem?_eq_some_iff.1 hy).1
  exact ⟨v, y, hv, hy, hc, (pc v (by omega)).2 hcn⟩
end
end Go.Proofs.YtfaknfmndafllaaGreatDoor
