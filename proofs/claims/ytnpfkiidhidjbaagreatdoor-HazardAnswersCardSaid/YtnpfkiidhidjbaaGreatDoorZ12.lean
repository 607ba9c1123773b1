import Derived.Test.YtnpfkiidhidjbaaGreatDoorZ11
import Derived.Laws.EntriesVeiled
import Derived.Test.YtnpfkiidhidjbaaGreatDoorZ02
/-
 Layer 12: walks of parallel, dead, charging, load.
-/
namespace Go.Proofs.YtnpfkiidhidjbaaGreatDoor
open Go.RowKit
def parB (kd a b : Int) (parts op : List Int) : Bool := sOk kd a b parts && sL0 kd a op && sL1 kd a b op
def dOk (kd a b : Int) (parts op : List Int) : Bool := sOk kd a b parts && !(sL0 kd a op == sL1 kd a b op)
def dN (kd a b : Int) (parts op : List Int) : Int := if dOk kd a b parts op = true then (if sL0 kd a op = true then sN1 kd a b else sN0 kd a) else 0
set_option maxRecDepth 100000 in
set_option maxHeartbeats 2000000 in
theorem parallel_any (An Ad Ap Ao Ac : Option Addr) (nn cn nd cd : Nat) (nm : ByteArray) (kd a b co : Int) (parts op cl : List Int) (w : World) (h : VwOk w nn kd a b Ap Ao Ac parts op cl) :
  Calls Tryz.prog 114 #[.agg (vwC An nn cn Ad nd cd nm kd a b co Ap Ao Ac)] w fun e w' => e = .returned (.bool (parB kd a b parts op)) ∧ Below w.heap.size w w' := by
 have HSD := Lib.hid (sides_any An Ad Ap Ao Ac nn cn nd cd nm kd a b co parts op cl (w.alloc (.cells (vwC An nn cn Ad nd cd nm kd a b co Ap Ao Ac) 142)) (h.alloc _))
 have HB : Hid (Below w.heap.size w (w.alloc (.cells (vwC An nn cn Ad nd cd nm kd a b co Ap Ao Ac) 142))) := (Below.refl _ _).alloc (Nat.le_refl _) _
 have HP : Hid (parB kd a b parts op = (sOk kd a b parts && sL0 kd a op && sL1 kd a b op)) := rfl
 clear h
 simp only [vwC] at HSD HB ⊢
 generalize sOk kd a b parts = ok at *
 generalize sL0 kd a op = l0 at *
 generalize sL1 kd a b op = l1 at *
 go_enter Tryz.func114, Tryz.ntmps114
 go_wp2_with fail
 refine HSD.out.mono ?_
 rintro e w1 ⟨rfl, hb1⟩
 have HB1 := Lib.hid (HB.out.trans (hb1.mono HB.out.size))
 have hz := HB1.out.size
 clear hb1 HB HSD
 rcases ok with _ | _
 ·go_wp2_with fail
  go_ret
  exact ⟨ret_bool (by rw [HP.out]; rfl), (HB1.out.alloc hz _).alloc (by simp; omega) _⟩
 ·rcases l0 with _ | _
  ·go_wp2_with fail
   go_ret
   exact ⟨ret_bool (by rw [HP.out]; rfl), (HB1.out.alloc hz _).alloc (by simp; omega) _⟩
  ·go_wp2_with fail
   go_ret
   exact ⟨ret_bool (by rw [HP.out]; simp), (HB1.out.alloc hz _).alloc (by simp; omega) _⟩
def DeadPost (w : World) (n : Int) (ok : Bool) (e : Ending) (w' : World) : Prop := e = .returned (.tuple #[.int .i64 n, .bool ok]) ∧ Below w.heap.size w w'
set_option maxRecDepth 100000 in
set_option maxHeartbeats 2000000 in
theorem dead_any (An Ad Ap Ao Ac : Option Addr) (nn cn nd cd : Nat) (nm : ByteArray) (kd a b co : Int) (parts op cl : List Int) (w : World) (h : VwOk w nn kd a b Ap Ao Ac parts op cl) :
  Calls Tryz.prog 134 #[.agg (vwC An nn cn Ad nd cd nm kd a b co Ap Ao Ac)] w (DeadPost w (dN kd a b parts op) (dOk kd a b parts op)) := by
 have HSD := Lib.hid (sides_any An Ad Ap Ao Ac nn cn nd cd nm kd a b co parts op cl (w.alloc (.cells (vwC An nn cn Ad nd cd nm kd a b co Ap Ao Ac) 142)) (h.alloc _))
 have HB : Hid (Below w.heap.size w (w.alloc (.cells (vwC An nn cn Ad nd cd nm kd a b co Ap Ao Ac) 142))) := (Below.refl _ _).alloc (Nat.le_refl _) _
 have HP : Hid (dOk kd a b parts op = (sOk kd a b parts && !(sL0 kd a op == sL1 kd a b op)) ∧ dN kd a b parts op = if dOk kd a b parts op = true then (if sL0 kd a op = true then sN1 kd a b else sN0 kd a) else 0) := ⟨rfl, rfl⟩
 clear h
 simp only [vwC] at HSD HB ⊢
 generalize sOk kd a b parts = ok at *
 generalize sL0 kd a op = l0 at *
 generalize sL1 kd a b op = l1 at *
 generalize sN0 kd a = n0 at *
 generalize sN1 kd a b = n1 at *
 generalize dN kd a b parts op = dn at *
 generalize dOk kd a b parts op = dk at *
 go_enter Tryz.func134, Tryz.ntmps134
 go_wp2_with fail
 refine HSD.out.mono ?_
 rintro e w1 ⟨rfl, hb1⟩
 have HB1 := Lib.hid (HB.out.trans (hb1.mono HB.out.size))
 have hz := HB1.out.size
 clear hb1 HB HSD
 have HBF : Hid (∀ (x y : Obj), Below w.heap.size w ((w1.alloc x).alloc y)) := fun x y => (HB1.out.alloc hz _).alloc (by simp; omega) _
 rcases ok with _ | _
 ·go_wp2_with fail
  go_ret2
  exact ⟨by rw [HP.out.2, HP.out.1]; rfl, HBF.out _ _⟩
 ·rcases l0 with _ | _ <;> rcases l1 with _ | _ <;>
  ·go_wp2_with fail
   go_ret2
   exact ⟨by rw [HP.out.2, HP.out.1]; rfl, HBF.out _ _⟩
set_option maxRecDepth 100000 in
set_option maxHeartbeats 2000000 in
theorem charging_any (An Ad Ap Ao Ac : Option Addr) (nn cn nd cd : Nat) (nm : ByteArray) (kd a b co : Int) (parts op cl : List Int) (w : World) (h : VwOk w nn kd a b Ap Ao Ac parts op cl) :
  Calls Tryz.prog 116 #[.agg (vwC An nn cn Ad nd cd nm kd a b co Ap Ao Ac)] w fun e w' => e = .returned (.bool (dOk kd a b parts op)) ∧ Below w.heap.size w w' := by
 have HSD := Lib.hid (dead_any An Ad Ap Ao Ac nn cn nd cd nm kd a b co parts op cl (w.alloc (.cells (vwC An nn cn Ad nd cd nm kd a b co Ap Ao Ac) 142)) (h.alloc _))
 have HB : Hid (Below w.heap.size w (w.alloc (.cells (vwC An nn cn Ad nd cd nm kd a b co Ap Ao Ac) 142))) := (Below.refl _ _).alloc (Nat.le_refl _) _
 clear h
 simp only [vwC] at HSD HB ⊢
 generalize dN kd a b parts op = dn at *
 generalize dOk kd a b parts op = dk at *
 go_enter Tryz.func116, Tryz.ntmps116
 go_wp2_with fail
 refine HSD.out.mono ?_
 rintro e w1 ⟨rfl, hb1⟩
 have HB1 := Lib.hid (HB.out.trans (hb1.mono HB.out.size))
 clear hb1 HB HSD
 go_wp2_with fail
 go_ret
 exact ⟨rfl, HB1.out⟩
theorem dN_ok {kd a b : Int} {parts op : List Int} (h : dOk kd a b parts op = true) : dN kd a b parts op = a ∨ (joinsB kd = true ∧ dN kd a b parts op = b) := by
 unfold dN
 rw [if_pos h]
 unfold dOk sOk sL0 sL1 at h
 unfold sL0 sN1 sN0
 by_cases h4 : kd = 4
 ·rw [if_pos h4] at h; cases h
 ·simp only [if_neg h4] at h ⊢
  rcases hj : joinsB kd with _ | _
  ·simp
  ·simp only [hj] at h ⊢
   simp
   rcases lvB op a with _ | _ <;> simp
/-- Some node of the dead side has customers. -/
def loadTo (kd a b : Int) (ns : List Nd) (parts op : List Int) (j : Nat) : Prop := ∃ (i : Nat) (x : Nd), i < j ∧ ns[i]? = some x ∧ 0 < x.cust ∧ parts.getD i 0 = parts.getD (dN kd a b parts op).toNat 0
open Classical in
noncomputable def loadB (kd a b : Int) (ns : List Nd) (parts op : List Int) : Bool := dOk kd a b parts op && decide (loadTo kd a b ns parts op ns.length)
def LoR (w : World) (V : Array Value) (vb nn : Nat) (kd a b : Int) (ns : List Nd) (parts op : List Int) (gk : Nat) (iv : Value) (wr : World) : Prop := ∃ i : Nat, iv = .int .i64 i ∧ i ≤ nn ∧ gk = nn - i ∧ Hid (Blk wr vb 142 V) ∧ Hid (Below w.heap.size w wr) ∧ Hid (¬ loadTo kd a b ns parts op i)
set_option maxRecDepth 100000 in
set_option maxHeartbeats 4000000 in
theorem load_any (An Ad Ap Ao Ac : Option Addr) (nn cn nd cd : Nat) (nm : ByteArray) (kd a b co : Int) (ns : List Nd) (parts op cl : List Int) (w : World) (h : VwOk w nn kd a b Ap Ao Ac parts op cl) (hn : Sl w w.heap.size 3 An nn cn (ns.flatMap Nd.cells)) :
  Calls Tryz.prog 115 #[.agg (vwC An nn cn Ad nd cd nm kd a b co Ap Ao Ac)] w fun e w' => e = .returned (.bool (loadB kd a b ns parts op)) ∧ Below w.heap.size w w' := by
 have HSD := Lib.hid (dead_any An Ad Ap Ao Ac nn cn nd cd nm kd a b co parts op cl (w.alloc (.cells (vwC An nn cn Ad nd cd nm kd a b co Ap Ao Ac) 142)) (h.alloc _))
 have HB : Hid (Below w.heap.size w (w.alloc (.cells (vwC An nn cn Ad nd cd nm kd a b co Ap Ao Ac) 142))) := (Below.refl _ _).alloc (Nat.le_refl _) _
 have HV := Lib.hid (Blk.new w 142 (vwC An nn cn Ad nd cd nm kd a b co Ap Ao Ac))
 have HLN := Lib.hid (hn.len (fun _ => rfl) (by decide))
 have hnm := hn.le
 have HO := Lib.hid h; have HN := Lib.hid hn
 clear h hn
 simp only [vwC] at HSD HB HV ⊢
 rcases hk : dOk kd a b parts op with _ | _
 ·have HR : Hid (loadB kd a b ns parts op = false) := by unfold Hid loadB; rw [hk]; rfl
  rw [hk] at HSD
  clear hk
  generalize dN kd a b parts op = dn at *
  go_enter Tryz.func115, Tryz.ntmps115
  go_wp2_with fail
  refine HSD.out.mono ?_
  rintro e w1 ⟨rfl, hb1⟩
  have HB1 := Lib.hid (HB.out.trans (hb1.mono HB.out.size))
  clear hb1 HB HSD
  go_wp2_with fail
  go_ret
  exact ⟨ret_bool (by rw [HR.out]), HB1.out⟩
 ·have hdn : 0 ≤ dN kd a b parts op ∧ dN kd a b parts op < nn := by
   rcases dN_ok hk with e | ⟨hj, e⟩ <;> rw [e]
   ·exact HO.out.a0
   ·exact HO.out.b0 hj
  have HLB : Hid (∀ t : Bool, (t = true ↔ loadTo kd a b ns parts op ns.length) → loadB kd a b ns parts op = t) := by
   intro t ht
   unfold loadB
   rw [hk]
   rw [Bool.eq_iff_iff, ht]
   simp
  rw [hk] at HSD
  clear hk
  obtain ⟨sd, hsd⟩ := Int.eq_ofNat_of_zero_le hdn.1
  have HLT : Hid (∀ j, loadTo kd a b ns parts op j ↔ ∃ (i : Nat) (x : Nd), i < j ∧ ns[i]? = some x ∧ 0 < x.cust ∧ parts.getD i 0 = parts.getD sd 0) := fun j => by unfold loadTo; rw [hsd, Int.toNat_natCast]
  rw [hsd] at HSD hdn
  have hsdn : sd < nn := by omega
  clear hsd hdn
  have hnn0 := HO.out.n0
  go_enter Tryz.func115, Tryz.ntmps115
  go_wp2_with fail
  refine HSD.out.mono ?_
  rintro e w1 ⟨rfl, hb1⟩
  have HB1 := Lib.hid (HB.out.trans (hb1.mono HB.out.size))
  have HV1 := Lib.hid (HV.out.below hb1 HV.out.lt)
  clear hb1 HB HSD HV
  obtain ⟨vb, hvb⟩ : ∃ vb, vb = w.heap.size := ⟨_, rfl⟩
  rw [← hvb] at HV1 ⊢
  have HVB := Lib.hid hvb; clear hvb
  have e0 : w1.cell? ⟨vb, 0, none⟩ = some (.slice An nn cn) := HV1.out.cell 0
  go_wp2_with fail
  clear e0
  go_loopg [18] nn (LoR w #[.slice An nn cn, .slice Ad nd cd, .string nm, .int .i64 kd, .int .i64 a, .int .i64 b, .int .i64 co, .slice Ap nn nn, .slice Ao nn nn, .slice Ac nn nn] vb nn kd a b ns parts op)
  case atStart => exact ⟨0, rfl, Nat.zero_le _, rfl, HV1, HB1, fun hc => by obtain ⟨i, x, hi, _⟩ := hc; omega⟩
  case round =>
   clear HV1 HB1
   obtain ⟨i, rfl, hi, rfl, hv, hbl, hno⟩ := hrel
   by_cases hlt : i < nn
   ·obtain ⟨b0, off, nd0, rfl, hb, hx, hc⟩ := (HN.out.below hbl.out (Nat.le_refl _)).at (fun _ => rfl) (by decide) hlt
    have HX := Lib.hid hx
    obtain ⟨nm2, cu, co2⟩ := nd0
    have c0 : wr.cell? ⟨b0, off + i * 3, none⟩ = some (.string nm2) := hc 0 _ rfl
    have c1 : wr.cell? ⟨b0, off + i * 3 + 1, none⟩ = some (.int .i64 cu) := hc 1 _ rfl
    have c2 : wr.cell? ⟨b0, off + i * 3 + 2, none⟩ = some (.int .i64 co2) := hc 2 _ rfl
    clear hc hx
    have hzw := hbl.out.size
    go_upto_region 7 with (fail)
    clear c0 c1 c2
    have HK := Lib.hid (Blk.new wr 61 #[.string nm2, .int .i64 cu, .int .i64 co2])
    have HV2 := Lib.hid (hv.out.alloc (.cells #[.string nm2, .int .i64 cu, .int .i64 co2] 61))
    have HB2 := Lib.hid (hbl.out.alloc hzw (.cells #[.string nm2, .int .i64 cu, .int .i64 co2] 61))
    generalize World.alloc _ _ = w2 at *
    obtain ⟨bq, hbq⟩ : ∃ bq, bq = wr.heap.size := ⟨_, rfl⟩
    rw [← hbq] at HK ⊢
    clear hbq hv hbl hzw
    have e1 : w2.cell? ⟨bq, 1, none⟩ = some (.int .i64 cu) := HK.out.cell 1
    by_cases hcu : 0 < cu; rotate_left
    ·have qcu : decide (0 < cu) = false := by simpa using hcu
     have HNO : Hid (¬ loadTo kd a b ns parts op (i + 1)) := fun hc => by
      obtain ⟨t, x, ht, hx, hx2, hx3⟩ := (HLT.out _).1 hc
      rcases Nat.lt_succ_iff_lt_or_eq.1 ht with h | rfl
      ·exact hno.out ((HLT.out _).2 ⟨t, x, h, hx, hx2, hx3⟩)
      ·rw [HX.out] at hx; injection hx with hx; subst hx; exact hcu hx2
     refine wp_region_J (S := fun W' => W'.cell? ⟨bq, 1, none⟩ = some (.int .i64 cu)) (J := []) (by kernel_rfl) ?_ (fun hHeld => ?_)
     ·exact e1
     try dsimp only at hHeld
     refine wpAnyJ_tL (i := 0) (d := some 23) (v := ?_) #[tt, ff, ff, ff, ff, ff, ff, ff, ff, ff, ff, ff, ff, ff, ff, ff] rfl rfl ?_ hHeld ?_
     rotate_left
     ·(intro w hSw; (try dsimp only at hSw);  go_simp; try with_reducible rfl)
     try simp only [Act.put, sA, s0, s1]
     refine wpAnyJ_tL (i := 1) (d := some 24) (v := ?_) #[tt, tt, ff, ff, ff, ff, ff, ff, ff, ff, ff, ff, ff, ff, ff, ff] rfl rfl ?_ hHeld ?_
     rotate_left
     ·(intro w hSw; (try dsimp only at hSw);  go_simp; try with_reducible rfl)
     try simp only [Act.put, sA, s0, s1]
     refine wpAnyJ_tL (i := 2) (d := some 25) (v := ?_) #[tt, tt, tt, ff, ff, ff, ff, ff, ff, ff, ff, ff, ff, ff, ff, ff] rfl rfl ?_ hHeld ?_
     rotate_left
     ·(intro w hSw; (try dsimp only at hSw);  go_simp; try with_reducible rfl)
     try simp only [Act.put, sA, s0, s1]
     refine wpAnyJ_tL (i := 3) (d := some 26) (v := ?_) #[tt, tt, tt, tt, ff, ff, ff, ff, ff, ff, ff, ff, ff, ff, ff, ff] rfl rfl ?_ hHeld ?_
     rotate_left
     ·(intro w hSw; (try dsimp only at hSw);  go_simp; try with_reducible rfl)
     try simp only [Act.put, sA, s0, s1]
     refine wpAnyJ_takeL (i := 4) (d := some 27) (v := undef) #[tt, tt, tt, tt, tt, ff, ff, ff, ff, ff, ff, ff, ff, ff, ff, ff] (by kernel_rfl) rfl rfl (by kernel_rfl) (by kernel_rfl) (by kernel_rfl) (by kernel_rfl) (by kernel_rfl) (fun _ _ _ h => h) (Or.inr ⟨by rfl, by rfl⟩) hHeld ?_
     try simp only [Act.put, sA, s0, s1]
     refine wpAnyJ_takeL (i := 5) (d := some 28) (v := undef) #[tt, tt, tt, tt, tt, tt, ff, ff, ff, ff, ff, ff, ff, ff, ff, ff] (by kernel_rfl) rfl rfl (by kernel_rfl) (by kernel_rfl) (by kernel_rfl) (by kernel_rfl) (by kernel_rfl) (fun _ _ _ h => h) (Or.inr ⟨by rfl, by rfl⟩) hHeld ?_
     try simp only [Act.put, sA, s0, s1]
     refine wpAnyJ_takeL (i := 6) (d := some 29) (v := undef) #[tt, tt, tt, tt, tt, tt, tt, ff, ff, ff, ff, ff, ff, ff, ff, ff] (by kernel_rfl) rfl rfl (by kernel_rfl) (by kernel_rfl) (by kernel_rfl) (by kernel_rfl) (by kernel_rfl) (fun _ _ _ h => h) (Or.inr ⟨by rfl, by rfl⟩) hHeld ?_
     try simp only [Act.put, sA, s0, s1]
     refine wpAnyJ_takeL (i := 7) (d := some 30) (v := undef) #[tt, tt, tt, tt, tt, tt, tt, tt, ff, ff, ff, ff, ff, ff, ff, ff] (by kernel_rfl) rfl rfl (by kernel_rfl) (by kernel_rfl) (by kernel_rfl) (by kernel_rfl) (by kernel_rfl) (fun _ _ _ h => h) (Or.inr ⟨by rfl, by rfl⟩) hHeld ?_
     try simp only [Act.put, sA, s0, s1]
     refine wpAnyJ_takeL (i := 8) (d := some 31) (v := undef) #[tt, tt, tt, tt, tt, tt, tt, tt, tt, ff, ff, ff, ff, ff, ff, ff] (by kernel_rfl) rfl rfl (by kernel_rfl) (by kernel_rfl) (by kernel_rfl) (by kernel_rfl) (by kernel_rfl) (fun _ _ _ h => h) (Or.inr ⟨by rfl, by rfl⟩) hHeld ?_
     try simp only [Act.put, sA, s0, s1]
     refine wpAnyJ_takeL (i := 9) (d := some 32) (v := undef) #[tt, tt, tt, tt, tt, tt, tt, tt, tt, tt, ff, ff, ff, ff, ff, ff] (by kernel_rfl) rfl rfl (by kernel_rfl) (by kernel_rfl) (by kernel_rfl) (by kernel_rfl) (by kernel_rfl) (fun _ _ _ h => h) (Or.inr ⟨by rfl, by rfl⟩) hHeld ?_
     try simp only [Act.put, sA, s0, s1]
     refine wpAnyJ_takeL (i := 10) (d := some 33) (v := undef) #[tt, tt, tt, tt, tt, tt, tt, tt, tt, tt, tt, ff, ff, ff, ff, ff] (by kernel_rfl) rfl rfl (by kernel_rfl) (by kernel_rfl) (by kernel_rfl) (by kernel_rfl) (by kernel_rfl) (fun _ _ _ h => h) (Or.inr ⟨by rfl, by rfl⟩) hHeld ?_
     try simp only [Act.put, sA, s0, s1]
     refine wpAnyJ_takeL (i := 11) (d := some 34) (v := undef) #[tt, tt, tt, tt, tt, tt, tt, tt, tt, tt, tt, tt, ff, ff, ff, ff] (by kernel_rfl) rfl rfl (by kernel_rfl) (by kernel_rfl) (by kernel_rfl) (by kernel_rfl) (by kernel_rfl) (fun _ _ _ h => h) (Or.inr ⟨by rfl, by rfl⟩) hHeld ?_
     try simp only [Act.put, sA, s0, s1]
     refine wpAnyJ_takeL (i := 12) (d := some 35) (v := undef) #[tt, tt, tt, tt, tt, tt, tt, tt, tt, tt, tt, tt, tt, ff, ff, ff] (by kernel_rfl) rfl rfl (by kernel_rfl) (by kernel_rfl) (by kernel_rfl) (by kernel_rfl) (by kernel_rfl) (fun _ _ _ h => h) (Or.inr ⟨by rfl, by rfl⟩) hHeld ?_
     try simp only [Act.put, sA, s0, s1]
     refine wpAnyJ_takeL (i := 13) (d := some 36) (v := undef) #[tt, tt, tt, tt, tt, tt, tt, tt, tt, tt, tt, tt, tt, tt, ff, ff] (by kernel_rfl) rfl rfl (by kernel_rfl) (by kernel_rfl) (by kernel_rfl) (by kernel_rfl) (by kernel_rfl) (fun _ _ _ h => h) (Or.inr ⟨by rfl, by rfl⟩) hHeld ?_
     try simp only [Act.put, sA, s0, s1]
     refine wpAnyJ_takeL (i := 14) (d := some 37) (v := undef) #[tt, tt, tt, tt, tt, tt, tt, tt, tt, tt, tt, tt, tt, tt, tt, ff] (by kernel_rfl) rfl rfl (by kernel_rfl) (by kernel_rfl) (by kernel_rfl) (by kernel_rfl) (by kernel_rfl) (fun _ _ _ h => h) (Or.inr ⟨by rfl, by rfl⟩) hHeld ?_
     try simp only [Act.put, sA, s0, s1]
     refine wpAnyJ_tL (i := 15) (d := some 38) (v := ?_) #[tt, tt, tt, tt, tt, tt, tt, tt, tt, tt, tt, tt, tt, tt, tt, tt] rfl rfl ?_ hHeld ?_
     rotate_left
     ·(intro w hSw; (try dsimp only at hSw);  go_simp; try with_reducible rfl)
     try simp only [Act.put, sA, s0, s1]
     refine wpAnyJ_done (by kernel_rfl) ?_ _
     clear hHeld
     go_wp2_with fail
     go_roundg (nn - (i + 1))
     case rel => exact ⟨i + 1, by go_num, by omega, rfl, HV2, HB2.out.drew, HNO⟩
     case measure => omega
    ·obtain ⟨pb, poff, x, rfl, hpb, hpx, hcx⟩ := (HO.out.hp.below HB2.out (Nat.le_refl _)).at1 (k := i) hlt
     obtain ⟨pb2, poff2, y, hA2, hpb2, hpy, hcy⟩ := (HO.out.hp.below HB2.out (Nat.le_refl _)).at1 (k := sd) hsdn
     injection hA2 with hA2
     injection hA2 with h1 h2
     subst h1 h2
     have p1 : w2.cell? ⟨pb, poff + i, none⟩ = some (.int .i64 x) := hcx
     have p2 : w2.cell? ⟨pb, poff + sd, none⟩ = some (.int .i64 y) := hcy
     have HPX := Lib.hid (getD_of hpx); have HPY := Lib.hid (getD_of hpy)
     have e7 : w2.cell? ⟨vb, 7, none⟩ = some (.slice (some ⟨pb, poff, none⟩) nn nn) := HV2.out.cell 7
     clear hpx hpy hcx hcy
     refine wp_region_J (S := fun W' => W'.cell? ⟨bq, 1, none⟩ = some (.int .i64 cu) ∧ W'.cell? ⟨vb, 7, none⟩ = some (.slice (some ⟨pb, poff, none⟩) nn nn) ∧ W'.cell? ⟨pb, poff + i, none⟩ = some (.int .i64 x) ∧ W'.cell? ⟨pb, poff + sd, none⟩ = some (.int .i64 y)) (J := []) (by kernel_rfl) ?_ (fun hHeld => ?_)
     ·exact ⟨e1, e7, p1, p2⟩
     try dsimp only at hHeld
     refine wpAnyJ_tL (i := 0) (d := some 23) (v := ?_) #[tt, ff, ff, ff, ff, ff, ff, ff, ff, ff, ff, ff, ff, ff, ff, ff] rfl rfl ?_ hHeld ?_
     rotate_left
     ·(intro w hSw; (try dsimp only at hSw);  go_simp; try with_reducible rfl)
     try simp only [Act.put, sA, s0, s1]
     refine wpAnyJ_tL (i := 1) (d := some 24) (v := ?_) #[tt, tt, ff, ff, ff, ff, ff, ff, ff, ff, ff, ff, ff, ff, ff, ff] rfl rfl ?_ hHeld ?_
     rotate_left
     ·(intro w hSw; (try dsimp only at hSw);  go_simp; try with_reducible rfl)
     try simp only [Act.put, sA, s0, s1]
     refine wpAnyJ_tL (i := 2) (d := some 25) (v := ?_) #[tt, tt, tt, ff, ff, ff, ff, ff, ff, ff, ff, ff, ff, ff, ff, ff] rfl rfl ?_ hHeld ?_
     rotate_left
     ·(intro w hSw; (try dsimp only at hSw);  go_simp; try with_reducible rfl)
     try simp only [Act.put, sA, s0, s1]
     refine wpAnyJ_tL (i := 3) (d := some 26) (v := ?_) #[tt, tt, tt, tt, ff, ff, ff, ff, ff, ff, ff, ff, ff, ff, ff, ff] rfl rfl ?_ hHeld ?_
     rotate_left
     ·(intro w hSw; (try dsimp only at hSw);  go_simp; try with_reducible rfl)
     try simp only [Act.put, sA, s0, s1]
     refine wpAnyJ_tL (i := 4) (d := some 27) (v := ?_) #[tt, tt, tt, tt, tt, ff, ff, ff, ff, ff, ff, ff, ff, ff, ff, ff] rfl rfl ?_ hHeld ?_
     rotate_left
     ·(intro w hSw; (try dsimp only at hSw);  go_simp; try with_reducible rfl)
     try simp only [Act.put, sA, s0, s1]
     refine wpAnyJ_tL (i := 5) (d := some 28) (v := ?_) #[tt, tt, tt, tt, tt, tt, ff, ff, ff, ff, ff, ff, ff, ff, ff, ff] rfl rfl ?_ hHeld ?_
     rotate_left
     ·(intro w hSw; (try dsimp only at hSw);  go_simp; try with_reducible rfl)
     try simp only [Act.put, sA, s0, s1]
     refine wpAnyJ_tL (i := 6) (d := some 29) (v := ?_) #[tt, tt, tt, tt, tt, tt, tt, ff, ff, ff, ff, ff, ff, ff, ff, ff] rfl rfl ?_ hHeld ?_
     rotate_left
     ·(intro w hSw; (try dsimp only at hSw);  go_simp; try with_reducible rfl)
     try simp only [Act.put, sA, s0, s1]
     refine wpAnyJ_tL (i := 7) (d := some 30) (v := ?_) #[tt, tt, tt, tt, tt, tt, tt, tt, ff, ff, ff, ff, ff, ff, ff, ff] rfl rfl ?_ hHeld ?_
     rotate_left
     ·(intro w hSw; (try dsimp only at hSw);  go_simp; try with_reducible rfl)
     try simp only [Act.put, sA, s0, s1]
     refine wpAnyJ_tL (i := 8) (d := some 31) (v := ?_) #[tt, tt, tt, tt, tt, tt, tt, tt, tt, ff, ff, ff, ff, ff, ff, ff] rfl rfl ?_ hHeld ?_
     rotate_left
     ·(intro w hSw; (try dsimp only at hSw);  go_simp; try with_reducible rfl)
     try simp only [Act.put, sA, s0, s1]
     refine wpAnyJ_tL (i := 9) (d := some 32) (v := ?_) #[tt, tt, tt, tt, tt, tt, tt, tt, tt, tt, ff, ff, ff, ff, ff, ff] rfl rfl ?_ hHeld ?_
     rotate_left
     ·(intro w hSw; (try dsimp only at hSw);  go_simp; try with_reducible rfl)
     try simp only [Act.put, sA, s0, s1]
     refine wpAnyJ_tL (i := 10) (d := some 33) (v := ?_) #[tt, tt, tt, tt, tt, tt, tt, tt, tt, tt, tt, ff, ff, ff, ff, ff] rfl rfl ?_ hHeld ?_
     rotate_left
     ·(intro w hSw; (try dsimp only at hSw);  go_simp; try with_reducible rfl)
     try simp only [Act.put, sA, s0, s1]
     refine wpAnyJ_tL (i := 11) (d := some 34) (v := ?_) #[tt, tt, tt, tt, tt, tt, tt, tt, tt, tt, tt, tt, ff, ff, ff, ff] rfl rfl ?_ hHeld ?_
     rotate_left
     ·(intro w hSw; (try dsimp only at hSw);  go_simp; try with_reducible rfl)
     try simp only [Act.put, sA, s0, s1]
     refine wpAnyJ_tL (i := 12) (d := some 35) (v := ?_) #[tt, tt, tt, tt, tt, tt, tt, tt, tt, tt, tt, tt, tt, ff, ff, ff] rfl rfl ?_ hHeld ?_
     rotate_left
     ·(intro w hSw; (try dsimp only at hSw);  go_simp; try with_reducible rfl)
     try simp only [Act.put, sA, s0, s1]
     refine wpAnyJ_tL (i := 13) (d := some 36) (v := ?_) #[tt, tt, tt, tt, tt, tt, tt, tt, tt, tt, tt, tt, tt, tt, ff, ff] rfl rfl ?_ hHeld ?_
     rotate_left
     ·(intro w hSw; (try dsimp only at hSw);  go_simp; try with_reducible rfl)
     try simp only [Act.put, sA, s0, s1]
     refine wpAnyJ_tL (i := 14) (d := some 37) (v := ?_) #[tt, tt, tt, tt, tt, tt, tt, tt, tt, tt, tt, tt, tt, tt, tt, ff] rfl rfl ?_ hHeld ?_
     rotate_left
     ·(intro w hSw; (try dsimp only at hSw);  go_simp; try with_reducible rfl)
     try simp only [Act.put, sA, s0, s1]
     refine wpAnyJ_tL (i := 15) (d := some 38) (v := ?_) #[tt, tt, tt, tt, tt, tt, tt, tt, tt, tt, tt, tt, tt, tt, tt, tt] rfl rfl ?_ hHeld ?_
     rotate_left
     ·(intro w hSw; (try dsimp only at hSw);  go_simp; try with_reducible rfl)
     try simp only [Act.put, sA, s0, s1]
     refine wpAnyJ_done (by kernel_rfl) ?_ _
     clear hHeld
     by_cases hxy : x = y
     ·subst hxy
      have HR : Hid (loadB kd a b ns parts op = true) := HLB.out true ⟨fun _ => (HLT.out _).2 ⟨i, _, by rw [HLN.out]; exact hlt, HX.out, hcu, by rw [HPX.out, HPY.out]⟩, fun _ => rfl⟩
      go_wp2_with fail
      go_ret
      exact ⟨ret_bool (by rw [HR.out]), HB2.out.drew⟩
     ·have qxy : (x == y) = false := by simpa using hxy
      have HNO : Hid (¬ loadTo kd a b ns parts op (i + 1)) := fun hc => by
       obtain ⟨t, z, ht, hz, hz2, hz3⟩ := (HLT.out _).1 hc
       rcases Nat.lt_succ_iff_lt_or_eq.1 ht with h | rfl
       ·exact hno.out ((HLT.out _).2 ⟨t, z, h, hz, hz2, hz3⟩)
       ·rw [HPX.out, HPY.out] at hz3; exact hxy hz3
      clear hxy
      go_wp2_with fail
      go_roundg (nn - (i + 1))
      case rel => exact ⟨i + 1, by go_num, by omega, rfl, HV2, HB2.out.drew, HNO⟩
      case measure => omega
   ·obtain rfl : i = nn := by omega
    have hii : decide (i < i) = false := by simp
    have HR : Hid (loadB kd a b ns parts op = false) := HLB.out false ⟨(fun h => by cases h), (fun h => by rw [HLN.out] at h; exact absurd h hno.out)⟩
    go_wp2_with fail
    go_ret
    exact ⟨ret_bool (by rw [HR.out]), hbl.out⟩
end Go.Proofs.YtnpfkiidhidjbaaGreatDoor
/-
 Layer 12: walks of of, device, Of, All.
-/
namespace Go.Proofs.YtnpfkiidhidjbaaGreatDoor
open Go.RowKit
noncomputable def partsOf (nn : Nat) (ds : List Dv) (s : List Int) : List Int := Classical.epsilon (IsParts nn ds s)
noncomputable def colsOf (nn : Nat) (ds : List Dv) (s : List Int) : List Int := Classical.epsilon (IsCols nn ds s)
theorem partsOf_eq {nn : Nat} {ds : List Dv} {s p : List Int} (h : IsParts nn ds s p) : partsOf nn ds s = p := (Classical.epsilon_spec ⟨p, h⟩ : IsParts nn ds s (partsOf nn ds s)).unique h
theorem colsOf_eq {nn : Nat} {ds : List Dv} {s p : List Int} (h : IsCols nn ds s p) : colsOf nn ds s = p := (Classical.epsilon_spec ⟨p, h⟩ : IsCols nn ds s (colsOf nn ds s)).unique h
noncomputable def dutyV (kd a b : Int) (ns : List Nd) (parts op cl : List Int) : Int := if faultB kd a b cl = true then 4 else if parB kd a b parts op = true then 3 else if loadB kd a b ns parts op = true then 2 else if dOk kd a b parts op = true then 1 else 0
/-- The duty of a device. -/
noncomputable def dutyAt (nn : Nat) (ns : List Nd) (ds : List Dv) (s : List Int) (i : Int) (x : Dv) : Int := dutyV x.kind x.a x.b ns (partsOf nn ds (withL s i 1)) (colsOf nn ds (withL s i 1)) (colsOf nn ds (withL s i 2))
theorem cell_al {W : World} {p : Addr} {v : Value} (o : Obj) (h : W.cell? p = some v) : (W.alloc o).cell? p = some v := (World.cell?_alloc_lt W o p (cell_lt h)).trans h
theorem ints_far {W : World} {base n c q : Nat} {A : Option Addr} {l : List Int} (h : IntsO W base A n c l) (hq : q < base) (j : Nat) (u : Value) : IntsO (W.setCell ⟨q, j, none⟩ u) base A n c l := h.kept (grown_cell W _ _) (ne_row fun b e => by have := (h.lt b e).1; simp; omega)
def OfR (w7 : World) (f p l c : Bool) (gk : Nat) (iv : Value) (wr : World) : Prop := ∃ i : Nat, iv = .int .i64 i ∧ i ≤ 4 ∧ gk = 4 - i ∧ Hid (Below w7.heap.size w7 wr) ∧ Hid ((0 < i → f = false) ∧ (1 < i → p = false) ∧ (2 < i → l = false) ∧ (3 < i → c = false))
theorem view_set {W : World} {vb : Nat} {An Ad : Option Addr} {nn cn nd cd : Nat} {nm : ByteArray} {kd a b co : Int} {X Y Z : Value} (h : Blk W vb 142 #[.slice An nn cn, .slice Ad nd cd, .string nm, .int .i64 kd, .int .i64 a, .int .i64 b, .int .i64 co, X, Y, Z]) (P Q : Value) :
  Blk ((W.setCell ⟨vb, 7, none⟩ P).setCell ⟨vb, 8, none⟩ Q) vb 142 #[.slice An nn cn, .slice Ad nd cd, .string nm, .int .i64 kd, .int .i64 a, .int .i64 b, .int .i64 co, P, Q, Z] := (h.set 7 _).set 8 _
set_option maxRecDepth 100000 in
set_option maxHeartbeats 8000000 in
theorem of_any (An Ad As : Option Addr) (nn cn nd cd n c Bn Bd Bs i : Nat) (ns : List Nd) (ds : List Dv) (s : List Int) (x : Dv) (w : World)
  (hn : Sl w Bn 3 An nn cn (ns.flatMap Nd.cells)) (hBn : Bn ≤ w.heap.size) (hd : Sl w Bd 5 Ad nd cd (ds.flatMap Dv.cells)) (hBd : Bd ≤ w.heap.size) (hs : Sl w Bs 1 As n c (intsV s)) (hBs : Bs ≤ w.heap.size) (hnn : nn ≤ 10000) (hn1 : n ≤ 10000) (hnd : nd ≤ n) (hi : i < nd) (hx : ds[i]? = some x) (hends : EndsOk nn ds) (hA : AOk nn ds) :
  Calls Tryz.prog 81 #[.agg #[.slice An nn cn, .slice Ad nd cd], .slice As n c, .int .i64 i] w fun e w' => e = .returned (.int .i64 (dutyAt nn ns ds s i x)) ∧ Below w.heap.size w w' := by
 have HLS := Lib.hid (hs.len (fun _ => rfl) (by decide))
 have hdm := hd.le
 have hsm := hs.le
 have HN := Lib.hid hn; have HD := Lib.hid hd; have HS := Lib.hid hs; have HE := Lib.hid hends; have HA := Lib.hid hA; have HX := Lib.hid hx
 have ha0 := hA x (List.mem_of_getElem? hx)
 have HEX := Lib.hid (hends x (List.mem_of_getElem? hx))
 clear hn hd hs hends hA
 have HB0 : Hid (Below w.heap.size w (w.alloc (.cells #[.slice An nn cn, .slice Ad nd cd] 26))) := (Below.refl _ _).alloc (Nat.le_refl _) _
 have HK0 := Lib.hid (Blk.new w 26 #[.slice An nn cn, .slice Ad nd cd])
 go_enter Tryz.func81, Tryz.ntmps81
 go_upto_region 1 with (fail)
 generalize World.alloc _ _ = W at *
 obtain ⟨nb, hnb⟩ : ∃ nb, nb = w.heap.size := ⟨_, rfl⟩
 rw [← hnb] at HK0 ⊢
 have HNB := Lib.hid hnb; clear hnb
 obtain ⟨b0, off, x', rfl, hb, hx', hc⟩ := (HD.out.below HB0.out hBd).at (fun _ => rfl) (by decide) hi
 obtain rfl : x = x' := by rw [hx] at hx'; exact Option.some.inj hx'
 obtain ⟨nm, kd, a, b, co⟩ := x
 simp only at ha0 HEX
 have c0 : W.cell? ⟨b0, off + i * 5, none⟩ = some (.string nm) := hc 0 _ rfl
 have c1 : W.cell? ⟨b0, off + i * 5 + 1, none⟩ = some (.int .i64 kd) := hc 1 _ rfl
 have c2 : W.cell? ⟨b0, off + i * 5 + 2, none⟩ = some (.int .i64 a) := hc 2 _ rfl
 have c3 : W.cell? ⟨b0, off + i * 5 + 3, none⟩ = some (.int .i64 b) := hc 3 _ rfl
 have c4 : W.cell? ⟨b0, off + i * 5 + 4, none⟩ = some (.int .i64 co) := hc 4 _ rfl
 have k0 : W.cell? ⟨nb, 0, none⟩ = some (.slice An nn cn) := HK0.out.cell 0
 have k1 : W.cell? ⟨nb, 1, none⟩ = some (.slice (some ⟨b0, off, none⟩) nd cd) := HK0.out.cell 1
 clear hc hx hx'
 refine wp_region_J (S := fun W' => W'.cell? ⟨nb, 0, none⟩ = some (.slice An nn cn) ∧ W'.cell? ⟨nb, 1, none⟩ = some (.slice (some ⟨b0, off, none⟩) nd cd) ∧ W'.cell? ⟨b0, off + i * 5, none⟩ = some (.string nm) ∧ W'.cell? ⟨b0, off + i * 5 + 1, none⟩ = some (.int .i64 kd) ∧ W'.cell? ⟨b0, off + i * 5 + 2, none⟩ = some (.int .i64 a) ∧ W'.cell? ⟨b0, off + i * 5 + 3, none⟩ = some (.int .i64 b) ∧ W'.cell? ⟨b0, off + i * 5 + 4, none⟩ = some (.int .i64 co)) (J := [8]) (by kernel_rfl) ?_ (fun hHeld => ?_)
 ·exact ⟨k0, k1, c0, c1, c2, c3, c4⟩
 try dsimp only at hHeld
 refine wpAnyJ_tL (i := 0) (d := some 10) (v := ?_) #[tt, ff, ff, ff, ff, ff, ff, ff, ff] rfl rfl ?_ hHeld ?_
 rotate_left
 ·(intro w hSw; (try dsimp only at hSw);  go_simp; try with_reducible rfl)
 try simp only [Act.put, sA, s0, s1]
 refine wpAnyJ_tL (i := 1) (d := some 11) (v := ?_) #[tt, tt, ff, ff, ff, ff, ff, ff, ff] rfl rfl ?_ hHeld ?_
 rotate_left
 ·(intro w hSw; (try dsimp only at hSw);  go_simp; try with_reducible rfl)
 try simp only [Act.put, sA, s0, s1]
 refine wpAnyJ_tL (i := 2) (d := some 12) (v := ?_) #[tt, tt, tt, ff, ff, ff, ff, ff, ff] rfl rfl ?_ hHeld ?_
 rotate_left
 ·(intro w hSw; (try dsimp only at hSw);  go_simp; try with_reducible rfl)
 try simp only [Act.put, sA, s0, s1]
 refine wpAnyJ_tL (i := 3) (d := some 13) (v := ?_) #[tt, tt, tt, tt, ff, ff, ff, ff, ff] rfl rfl ?_ hHeld ?_
 rotate_left
 ·(intro w hSw; (try dsimp only at hSw);  go_simp; try with_reducible rfl)
 try simp only [Act.put, sA, s0, s1]
 refine wpAnyJ_tL (i := 4) (d := some 14) (v := ?_) #[tt, tt, tt, tt, tt, ff, ff, ff, ff] rfl rfl ?_ hHeld ?_
 rotate_left
 ·(intro w hSw; (try dsimp only at hSw);  go_simp; try with_reducible rfl)
 try simp only [Act.put, sA, s0, s1]
 refine wpAnyJ_tL (i := 5) (d := some 15) (v := ?_) #[tt, tt, tt, tt, tt, tt, ff, ff, ff] rfl rfl ?_ hHeld ?_
 rotate_left
 ·(intro w hSw; (try dsimp only at hSw);  go_simp; try with_reducible rfl)
 try simp only [Act.put, sA, s0, s1]
 refine wpAnyJ_tL (i := 6) (d := some 16) (v := ?_) #[tt, tt, tt, tt, tt, tt, tt, ff, ff] rfl rfl ?_ hHeld ?_
 rotate_left
 ·(intro w hSw; (try dsimp only at hSw);  go_simp; try with_reducible rfl)
 try simp only [Act.put, sA, s0, s1]
 refine wpAnyJ_oneL (k := 7) #[tt, tt, tt, tt, tt, tt, tt, tt, ff] (by kernel_rfl) (by kernel_rfl) rfl (fun K hK => ?_)
 go_simp
 refine hK.out _ _ (fun _ => ?_) (fun hHeld' => ?_)
 ·exact ⟨cell_al _ hHeld.1, cell_al _ hHeld.2.1, cell_al _ hHeld.2.2.1, cell_al _ hHeld.2.2.2.1, cell_al _ hHeld.2.2.2.2.1, cell_al _ hHeld.2.2.2.2.2.1, cell_al _ hHeld.2.2.2.2.2.2⟩
 replace hHeld := hHeld' rfl
 clear hHeld' hK K
 try dsimp only at hHeld
 refine wpAnyJ_oneL (k := 8) #[tt, tt, tt, tt, tt, tt, tt, tt, tt] (by kernel_rfl) (by kernel_rfl) rfl (fun K hK => ?_)
 go_simp
 refine hK.out _ _ (fun h => by cases h) (fun _ => ?_)
 try clear hHeld
 clear hK K
 refine wpAnyJ_done (by kernel_rfl) ?_ _
 clear c0 c1 c2 c3 c4 k0 k1
 go_upto_region 2 with (fail)
 have hnbW := HK0.out.lt
 have HV1 : Hid (Blk (W.alloc (.cells #[.slice An nn cn, .slice (some ⟨b0, off, none⟩) nd cd, .string nm, .int .i64 kd, .int .i64 a, .int .i64 b, .int .i64 co, .slice none 0 0, .slice none 0 0, .slice none 0 0] 142)).drew W.heap.size 142 #[.slice An nn cn, .slice (some ⟨b0, off, none⟩) nd cd, .string nm, .int .i64 kd, .int .i64 a, .int .i64 b, .int .i64 co, .slice none 0 0, .slice none 0 0, .slice none 0 0]) := Blk.new W _ _
 have HK1 : Hid (Blk (W.alloc (.cells #[.slice An nn cn, .slice (some ⟨b0, off, none⟩) nd cd, .string nm, .int .i64 kd, .int .i64 a, .int .i64 b, .int .i64 co, .slice none 0 0, .slice none 0 0, .slice none 0 0] 142)).drew nb 26 #[.slice An nn cn, .slice (some ⟨b0, off, none⟩) nd cd]) := HK0.out.alloc _
 have HB1 : Hid (Below w.heap.size w (W.alloc (.cells #[.slice An nn cn, .slice (some ⟨b0, off, none⟩) nd cd, .string nm, .int .i64 kd, .int .i64 a, .int .i64 b, .int .i64 co, .slice none 0 0, .slice none 0 0, .slice none 0 0] 142)).drew) := (HB0.out.alloc HB0.out.size _).drew
 generalize World.drew (World.alloc _ _) = w1 at *
 obtain ⟨vb, hvb⟩ : ∃ vb, vb = W.heap.size := ⟨_, rfl⟩
 rw [← hvb] at HV1 ⊢
 have hnv : nb < vb := by omega
 have hwv : w.heap.size ≤ vb := by have := HB0.out.size; omega
 clear hvb HB0 HK0 hnbW
 refine wp_region_J (S := fun W' => Blk W' nb 26 #[.slice An nn cn, .slice (some ⟨b0, off, none⟩) nd cd]) (J := []) (by kernel_rfl) ?_ (fun hHeld => ?_)
 ·exact HK1.out
 try dsimp only at hHeld
 refine wpAnyJ_tL (i := 0) (d := some 18) (v := ?_) #[tt, ff, ff, ff, ff, ff, ff, ff, ff, ff, ff, ff] rfl rfl ?_ hHeld ?_
 rotate_left
 ·(intro w hSw; (try dsimp only at hSw); have k0 : w.cell? ⟨nb, 0, none⟩ = some (.slice An nn cn) := hSw.cell 0; have k1 : w.cell? ⟨nb, 1, none⟩ = some (.slice (some ⟨b0, off, none⟩) nd cd) := hSw.cell 1; clear hSw; go_simp; try with_reducible rfl)
 try simp only [Act.put, sA, s0, s1]
 refine wpAnyJ_tL (i := 1) (d := some 19) (v := ?_) #[tt, tt, ff, ff, ff, ff, ff, ff, ff, ff, ff, ff] rfl rfl ?_ hHeld ?_
 rotate_left
 ·(intro w hSw; (try dsimp only at hSw); clear hSw; go_simp; try with_reducible rfl)
 try simp only [Act.put, sA, s0, s1]
 refine wpAnyJ_tL (i := 2) (d := some 20) (v := ?_) #[tt, tt, tt, ff, ff, ff, ff, ff, ff, ff, ff, ff] rfl rfl ?_ hHeld ?_
 rotate_left
 ·(intro w hSw; (try dsimp only at hSw); clear hSw; go_simp; try with_reducible rfl)
 try simp only [Act.put, sA, s0, s1]
 refine wpAnyJ_oneL (k := 3) #[tt, tt, tt, tt, ff, ff, ff, ff, ff, ff, ff, ff] (by kernel_rfl) (by kernel_rfl) rfl (fun K hK => ?_)
 (go_simp; refine (with_any As n c Bs s i 1 w1.drew (HS.out.below HB1.out.drew hBs) (by have := HB1.out.size; simp at this ⊢; omega) (by omega)).mono ?_; rintro e wxA ⟨AwA, cwA, rfl, hOA, hbA⟩; go_simp)
 refine hK.out _ _ (fun _ => ?_) (fun hHeld' => ?_)
 ·exact hHeld.below hbA.out hHeld.lt
 replace hHeld := hHeld' rfl
 clear hHeld' hK K
 try dsimp only at hHeld
 have HB3A := Lib.hid (HB1.out.drew.trans (hbA.out.mono HB1.out.drew.size))
 have hv3A := Blk.below (w := w1.drew) HV1.out hbA.out HV1.out.lt
 have HL3A := Lib.hid hv3A.lt
 rw [withL_len, HLS.out] at hOA ⊢
 refine wpAnyJ_oneL (k := 4) #[tt, tt, tt, tt, tt, ff, ff, ff, ff, ff, ff, ff] (by kernel_rfl) (by kernel_rfl) rfl (fun K hK => ?_)
 (go_simp; refine (both_any An (some ⟨b0, off, none⟩) AwA nn cn nd cd n cwA Bd wxA.heap.size ds (withL s i 1) wxA (HD.out.below HB3A.out hBd) (by have := HB3A.out.size; omega) hOA.out.sl (Nat.le_refl _) hnn (by omega) (by omega) HE.out HA.out).mono ?_; rintro e wyA ⟨ApA, AcA, plA, clA, rfl, hOpA, hOcA, hIPA, hICA, hbbA⟩; go_simp)
 refine hK.out _ _ (fun _ => ?_) (fun hHeld' => ?_)
 ·exact hHeld.below hbbA.out hHeld.lt
 replace hHeld := hHeld' rfl
 clear hHeld' hK K
 try dsimp only at hHeld
 have HB4A := Lib.hid (HB3A.out.trans (hbbA.out.mono HB3A.out.size))
 have HV4A := Lib.hid (hv3A.below hbbA.out hv3A.lt)
 have z7 : wyA.cell? ⟨vb, 7, none⟩ = some (.slice none 0 0) := HV4A.out.cell 7
 have z8 : wyA.cell? ⟨vb, 8, none⟩ = some (.slice none 0 0) := HV4A.out.cell 8
 have f7 := HV4A.out.frozen 7
 have f8 := HV4A.out.frozen 8
 refine wpAnyJ_tL (i := 5) (d := some 17) (v := ?_) #[tt, tt, tt, tt, tt, tt, ff, ff, ff, ff, ff, ff] rfl rfl ?_ hHeld ?_
 rotate_left
 ·(intro w hSw; (try dsimp only at hSw); clear hSw; go_simp; try with_reducible rfl)
 try simp only [Act.put, sA, s0, s1]
 refine wpAnyJ_tL (i := 6) (d := some 23) (v := ?_) #[tt, tt, tt, tt, tt, tt, tt, ff, ff, ff, ff, ff] rfl rfl ?_ hHeld ?_
 rotate_left
 ·(intro w hSw; (try dsimp only at hSw); clear hSw; go_simp; try with_reducible rfl)
 try simp only [Act.put, sA, s0, s1]
 refine wpAnyJ_tL (i := 7) (d := some 24) (v := ?_) #[tt, tt, tt, tt, tt, tt, tt, tt, ff, ff, ff, ff] rfl rfl ?_ hHeld ?_
 rotate_left
 ·(intro w hSw; (try dsimp only at hSw); clear hSw; go_simp; try with_reducible rfl)
 try simp only [Act.put, sA, s0, s1]
 refine wpAnyJ_tL (i := 8) (d := some 25) (v := ?_) #[tt, tt, tt, tt, tt, tt, tt, tt, tt, ff, ff, ff] rfl rfl ?_ hHeld ?_
 rotate_left
 ·(intro w hSw; (try dsimp only at hSw); clear hSw; go_simp; try with_reducible rfl)
 try simp only [Act.put, sA, s0, s1]
 refine wpAnyJ_oneL (k := 9) #[tt, tt, tt, tt, tt, tt, tt, tt, tt, tt, ff, ff] (by kernel_rfl) (by kernel_rfl) rfl (fun K hK => ?_)
 go_simp
 refine hK.out _ _ (fun _ => ?_) (fun hHeld' => ?_)
 ·exact hHeld.far (by simp; omega) _
 replace hHeld := hHeld' rfl
 clear hHeld' hK K
 try dsimp only at hHeld
 refine wpAnyJ_tL (i := 10) (d := some 26) (v := ?_) #[tt, tt, tt, tt, tt, tt, tt, tt, tt, tt, tt, ff] rfl rfl ?_ hHeld ?_
 rotate_left
 ·(intro w hSw; (try dsimp only at hSw); clear hSw; go_simp; try with_reducible rfl)
 try simp only [Act.put, sA, s0, s1]
 refine wpAnyJ_oneL (k := 11) #[tt, tt, tt, tt, tt, tt, tt, tt, tt, tt, tt, tt] (by kernel_rfl) (by kernel_rfl) rfl (fun K hK => ?_)
 go_simp
 refine hK.out _ _ (fun _ => ?_) (fun hHeld' => ?_)
 ·exact hHeld.far (by simp; omega) _
 replace hHeld := hHeld' rfl
 clear hHeld' hK K
 try dsimp only at hHeld
 refine wpAnyJ_done (by kernel_rfl) ?_ _
 have HK5 := Lib.hid hHeld
 clear hHeld z7 z8 f7 f8
 go_upto_region 3 with (fail)
 have HV5 := Lib.hid (view_set HV4A.out (.slice ApA nn nn) (.slice AcA nn nn))
 have HB5 : Hid (Below w.heap.size w ((wyA.setCell ⟨vb, 7, none⟩ (.slice ApA nn nn)).setCell ⟨vb, 8, none⟩ (.slice AcA nn nn))) := (HB4A.out.setCell (by simp; omega) _).setCell (by simp; omega) _
 have HOP5 := Lib.hid (ints_far (ints_far hOpA.out HL3A.out 7 (.slice ApA nn nn)) HL3A.out 8 (.slice AcA nn nn))
 have HOO5 := Lib.hid (ints_far (ints_far hOcA.out HL3A.out 7 (.slice ApA nn nn)) HL3A.out 8 (.slice AcA nn nn))
 clear HB3A HB4A HV4A hOpA hOcA HV1 HB1 HK1 hbbA
 clear hbA hOA hv3A
 generalize World.setCell (World.setCell _ _ _) _ _ = w5 at *
 refine wp_region_J (S := fun W' => Blk W' nb 26 #[.slice An nn cn, .slice (some ⟨b0, off, none⟩) nd cd]) (J := []) (by kernel_rfl) ?_ (fun hHeld => ?_)
 ·exact HK5.out
 try dsimp only at hHeld
 refine wpAnyJ_tL (i := 0) (d := some 28) (v := ?_) #[tt, ff, ff, ff, ff, ff, ff, ff, ff, ff] rfl rfl ?_ hHeld ?_
 rotate_left
 ·(intro w hSw; (try dsimp only at hSw); have k0 : w.cell? ⟨nb, 0, none⟩ = some (.slice An nn cn) := hSw.cell 0; have k1 : w.cell? ⟨nb, 1, none⟩ = some (.slice (some ⟨b0, off, none⟩) nd cd) := hSw.cell 1; clear hSw; go_simp; try with_reducible rfl)
 try simp only [Act.put, sA, s0, s1]
 refine wpAnyJ_tL (i := 1) (d := some 29) (v := ?_) #[tt, tt, ff, ff, ff, ff, ff, ff, ff, ff] rfl rfl ?_ hHeld ?_
 rotate_left
 ·(intro w hSw; (try dsimp only at hSw); clear hSw; go_simp; try with_reducible rfl)
 try simp only [Act.put, sA, s0, s1]
 refine wpAnyJ_tL (i := 2) (d := some 30) (v := ?_) #[tt, tt, tt, ff, ff, ff, ff, ff, ff, ff] rfl rfl ?_ hHeld ?_
 rotate_left
 ·(intro w hSw; (try dsimp only at hSw); clear hSw; go_simp; try with_reducible rfl)
 try simp only [Act.put, sA, s0, s1]
 refine wpAnyJ_oneL (k := 3) #[tt, tt, tt, tt, ff, ff, ff, ff, ff, ff] (by kernel_rfl) (by kernel_rfl) rfl (fun K hK => ?_)
 (go_simp; refine (with_any As n c Bs s i 2 w5.drew (HS.out.below HB5.out.drew hBs) (by have := HB5.out.size; simp at this ⊢; omega) (by omega)).mono ?_; rintro e wxB ⟨AwB, cwB, rfl, hOB, hbB⟩; go_simp)
 refine hK.out _ _ (fun _ => ?_) (fun hHeld' => ?_)
 ·exact hHeld.below hbB.out hHeld.lt
 replace hHeld := hHeld' rfl
 clear hHeld' hK K
 try dsimp only at hHeld
 have HB3B := Lib.hid (HB5.out.drew.trans (hbB.out.mono HB5.out.drew.size))
 have hv3B := Blk.below (w := w5.drew) HV5.out hbB.out HV5.out.lt
 have HL3B := Lib.hid hv3B.lt
 rw [withL_len, HLS.out] at hOB ⊢
 refine wpAnyJ_oneL (k := 4) #[tt, tt, tt, tt, tt, ff, ff, ff, ff, ff] (by kernel_rfl) (by kernel_rfl) rfl (fun K hK => ?_)
 (go_simp; refine (both_any An (some ⟨b0, off, none⟩) AwB nn cn nd cd n cwB Bd wxB.heap.size ds (withL s i 2) wxB (HD.out.below HB3B.out hBd) (by have := HB3B.out.size; omega) hOB.out.sl (Nat.le_refl _) hnn (by omega) (by omega) HE.out HA.out).mono ?_; rintro e wyB ⟨ApB, AcB, plB, clB, rfl, hOpB, hOcB, hIPB, hICB, hbbB⟩; go_simp)
 refine hK.out _ _ (fun _ => ?_) (fun hHeld' => ?_)
 ·exact hHeld.below hbbB.out hHeld.lt
 replace hHeld := hHeld' rfl
 clear hHeld' hK K
 try dsimp only at hHeld
 have HB4B := Lib.hid (HB3B.out.trans (hbbB.out.mono HB3B.out.size))
 have HV4B := Lib.hid (hv3B.below hbbB.out hv3B.lt)
 have HOP6 := Lib.hid ((IntsO.later (w := w5.drew) HOP5.out hbB.out).later hbbB.out)
 have HOO6 := Lib.hid ((IntsO.later (w := w5.drew) HOO5.out hbB.out).later hbbB.out)
 clear hv3B hOB hbB
 have z9 : wyB.cell? ⟨vb, 9, none⟩ = some (.slice none 0 0) := HV4B.out.cell 9
 have f9 := HV4B.out.frozen 9
 refine wpAnyJ_tL (i := 5) (d := some 27) (v := ?_) #[tt, tt, tt, tt, tt, tt, ff, ff, ff, ff] rfl rfl ?_ hHeld ?_
 rotate_left
 ·(intro w hSw; (try dsimp only at hSw); clear hSw; go_simp; try with_reducible rfl)
 try simp only [Act.put, sA, s0, s1]
 refine wpAnyJ_tL (i := 6) (d := some 33) (v := ?_) #[tt, tt, tt, tt, tt, tt, tt, ff, ff, ff] rfl rfl ?_ hHeld ?_
 rotate_left
 ·(intro w hSw; (try dsimp only at hSw); clear hSw; go_simp; try with_reducible rfl)
 try simp only [Act.put, sA, s0, s1]
 refine wpAnyJ_tL (i := 7) (d := some 34) (v := ?_) #[tt, tt, tt, tt, tt, tt, tt, tt, ff, ff] rfl rfl ?_ hHeld ?_
 rotate_left
 ·(intro w hSw; (try dsimp only at hSw); clear hSw; go_simp; try with_reducible rfl)
 try simp only [Act.put, sA, s0, s1]
 refine wpAnyJ_tL (i := 8) (d := some 35) (v := ?_) #[tt, tt, tt, tt, tt, tt, tt, tt, tt, ff] rfl rfl ?_ hHeld ?_
 rotate_left
 ·(intro w hSw; (try dsimp only at hSw); clear hSw; go_simp; try with_reducible rfl)
 try simp only [Act.put, sA, s0, s1]
 refine wpAnyJ_oneL (k := 9) #[tt, tt, tt, tt, tt, tt, tt, tt, tt, tt] (by kernel_rfl) (by kernel_rfl) rfl (fun K hK => ?_)
 go_simp
 refine hK.out _ _ (fun _ => ?_) (fun hHeld' => ?_)
 ·exact hHeld.far (by simp; omega) _
 replace hHeld := hHeld' rfl
 clear hHeld' hK K
 try dsimp only at hHeld
 refine wpAnyJ_done (by kernel_rfl) ?_ _
 clear hHeld z9 f9
 have HV6 := Lib.hid (HV4B.out.set 9 (.slice AcB nn nn))
 have HB6 : Hid (Below w.heap.size w (wyB.setCell ⟨vb, 9, none⟩ (.slice AcB nn nn))) := HB4B.out.setCell (by simp; omega) _
 have HOP7 := Lib.hid (ints_far HOP6.out HL3A.out 9 (.slice AcB nn nn))
 have HOO7 := Lib.hid (ints_far HOO6.out HL3A.out 9 (.slice AcB nn nn))
 have HOC7 := Lib.hid (ints_far hOcB.out HL3B.out 9 (.slice AcB nn nn))
 clear HB3B HB4B HV4B hOpB hOcB HV5 HB5 HK5 hbbB HOP6 HOO6 HOP5 HOO5
 go_wp2_with fail
 have HT7 := Lib.hid (Blk.new (wyB.setCell ⟨vb, 9, none⟩ (.slice AcB nn nn)) 146 #[.func (.func 113) #[] #[], .int .i64 4, .func (.func 114) #[] #[], .int .i64 3, .func (.func 115) #[] #[], .int .i64 2, .func (.func 116) #[] #[], .int .i64 1])
 have HV7 := Lib.hid (HV6.out.alloc (.cells #[.func (.func 113) #[] #[], .int .i64 4, .func (.func 114) #[] #[], .int .i64 3, .func (.func 115) #[] #[], .int .i64 2, .func (.func 116) #[] #[], .int .i64 1] 146))
 have HB7 := Lib.hid (HB6.out.alloc HB6.out.size (.cells #[.func (.func 113) #[] #[], .int .i64 4, .func (.func 114) #[] #[], .int .i64 3, .func (.func 115) #[] #[], .int .i64 2, .func (.func 116) #[] #[], .int .i64 1] 146))
 have HOK7 : Hid (VwOk ((wyB.setCell ⟨vb, 9, none⟩ (.slice AcB nn nn)).alloc (.cells #[.func (.func 113) #[] #[], .int .i64 4, .func (.func 114) #[] #[], .int .i64 3, .func (.func 115) #[] #[], .int .i64 2, .func (.func 116) #[] #[], .int .i64 1] 146)) nn kd a b ApA AcA AcB plA clA clB) := by
  have hl : Below (wyB.setCell ⟨vb, 9, none⟩ (.slice AcB nn nn)).heap.size (wyB.setCell ⟨vb, 9, none⟩ (.slice AcB nn nn)) ((wyB.setCell ⟨vb, 9, none⟩ (.slice AcB nn nn)).alloc (.cells #[.func (.func 113) #[] #[], .int .i64 4, .func (.func 114) #[] #[], .int .i64 3, .func (.func 115) #[] #[], .int .i64 2, .func (.func 116) #[] #[], .int .i64 1] 146)) := (Below.refl _ _).alloc (Nat.le_refl _) _
  exact ⟨(HOP7.out.later hl).sl, (HOO7.out.later hl).sl, (HOC7.out.later hl).sl, ha0, fun hj => (HEX.out hj).2, hnn⟩
 have HDV : Hid (dutyAt nn ns ds s i ⟨nm, kd, a, b, co⟩ = dutyV kd a b ns plA clA clB) := by unfold Hid dutyAt; rw [partsOf_eq hIPA.out, colsOf_eq hICA.out, colsOf_eq hICB.out]
 clear HV6 HB6 HOP7 HOO7 HOC7 hIPA hICA hICB hIPB
 rw [World.size_setCell] at HT7
 generalize World.alloc _ _ = w7 at *
 obtain ⟨tb, htb⟩ : ∃ tb, tb = wyB.heap.size := ⟨_, rfl⟩
 rw [← htb] at HT7 ⊢
 clear htb
 have HDU : Hid (dutyV kd a b ns plA clA clB = if faultB kd a b clB = true then 4 else if parB kd a b plA clA = true then 3 else if loadB kd a b ns plA clA = true then 2 else if dOk kd a b plA clA = true then 1 else 0) := rfl
 have HCF := Lib.hid (fun W h => fault_any An (some ⟨b0, off, none⟩) ApA AcA AcB nn cn nd cd nm kd a b co plA clA clB W h)
 have HCP := Lib.hid (fun W h => parallel_any An (some ⟨b0, off, none⟩) ApA AcA AcB nn cn nd cd nm kd a b co plA clA clB W h)
 have HCL := Lib.hid (fun W h h2 => load_any An (some ⟨b0, off, none⟩) ApA AcA AcB nn cn nd cd nm kd a b co ns plA clA clB W h h2)
 have HCC := Lib.hid (fun W h => charging_any An (some ⟨b0, off, none⟩) ApA AcA AcB nn cn nd cd nm kd a b co plA clA clB W h)
 simp only [vwC] at HCF HCP HCL HCC
 generalize faultB kd a b clB = fb at *
 generalize parB kd a b plA clA = pb at *
 generalize loadB kd a b ns plA clA = lb at *
 generalize dOk kd a b plA clA = kb at *
 go_loopg [42] 4 (OfR w7 fb pb lb kb)
 case atStart => exact ⟨0, rfl, by decide, rfl, Below.refl _ _, by unfold Hid; refine ⟨?_, ?_, ?_, ?_⟩ <;> intro h <;> omega⟩
 case round =>
  obtain ⟨k, rfl, hk, rfl, hbl, hcond⟩ := hrel
  have hv := Lib.hid (HV7.out.below hbl.out HV7.out.lt)
  have ht := Lib.hid (HT7.out.below hbl.out HT7.out.lt)
  have hok := Lib.hid (HOK7.out.later hbl.out)
  have hbw := Lib.hid (HB7.out.trans (hbl.out.mono HB7.out.size))
  have hzw := hbl.out.size
  have g0 : wr.cell? ⟨vb, 0, none⟩ = some (.slice An nn cn) := hv.out.cell 0
  have g1 : wr.cell? ⟨vb, 1, none⟩ = some (.slice (some ⟨b0, off, none⟩) nd cd) := hv.out.cell 1
  have g2 : wr.cell? ⟨vb, 2, none⟩ = some (.string nm) := hv.out.cell 2
  have g3 : wr.cell? ⟨vb, 3, none⟩ = some (.int .i64 kd) := hv.out.cell 3
  have g4 : wr.cell? ⟨vb, 4, none⟩ = some (.int .i64 a) := hv.out.cell 4
  have g5 : wr.cell? ⟨vb, 5, none⟩ = some (.int .i64 b) := hv.out.cell 5
  have g6 : wr.cell? ⟨vb, 6, none⟩ = some (.int .i64 co) := hv.out.cell 6
  have g7 : wr.cell? ⟨vb, 7, none⟩ = some (.slice ApA nn nn) := hv.out.cell 7
  have g8 : wr.cell? ⟨vb, 8, none⟩ = some (.slice AcA nn nn) := hv.out.cell 8
  have g9 : wr.cell? ⟨vb, 9, none⟩ = some (.slice AcB nn nn) := hv.out.cell 9
  have hvl := hv.out.lt
  rcases (show k = 0 ∨ k = 1 ∨ k = 2 ∨ k = 3 ∨ k = 4 by omega) with rfl | rfl | rfl | rfl | rfl
  ·have t0 : wr.cell? ⟨tb, 0, none⟩ = some (.func (.func 113) #[] #[]) := ht.out.cell 0
   have t1 : wr.cell? ⟨tb, 1, none⟩ = some (.int .i64 4) := ht.out.cell 1
   go_wp2_with fail
   clear g0 g1 g2 g3 g4 g5 g6 g7 g8 g9 t0 t1
   have hb8 : Below wr.heap.size wr (wr.alloc (.cells #[.func (.func 113) #[] #[], .int .i64 4] 146)) := (Below.refl _ _).alloc (Nat.le_refl _) _
   have HK8 := Lib.hid (Blk.new wr 146 #[.func (.func 113) #[] #[], .int .i64 4])
   generalize World.alloc _ _ = w8 at *
   refine (HCF.out w8 (hok.out.later hb8)).mono ?_
   rintro e w9 ⟨rfl, hb9⟩
   have HB9 := Lib.hid (hbl.out.trans ((hb8.trans (hb9.mono hb8.size)).mono hzw))
   have hb1 : w9.cell? ⟨wr.heap.size, 1, none⟩ = some (.int .i64 4) := (HK8.out.below hb9 HK8.out.lt).cell 1
   clear hb8 hb9 HK8
   rcases fb with _ | _
   ·clear hb1
    go_wp2_with fail
    go_roundg (4 - 1)
    case rel => exact ⟨1, rfl, by decide, rfl, HB9, by have hc := hcond.out; unfold Hid; refine ⟨?_, ?_, ?_, ?_⟩ <;> intro h <;> first | rfl | exact hc.1 (by omega) | exact hc.2.1 (by omega) | exact hc.2.2.1 (by omega) | omega⟩
    case measure => decide
   ·go_wp2_with fail
    go_ret
    exact ⟨ret_int (by rw [HDV.out, HDU.out]; simp), HB7.out.trans (HB9.out.mono HB7.out.size)⟩
  ·have t0 : wr.cell? ⟨tb, 2, none⟩ = some (.func (.func 114) #[] #[]) := ht.out.cell 2
   have t1 : wr.cell? ⟨tb, 3, none⟩ = some (.int .i64 3) := ht.out.cell 3
   go_wp2_with fail
   clear g0 g1 g2 g3 g4 g5 g6 g7 g8 g9 t0 t1
   have hb8 : Below wr.heap.size wr (wr.alloc (.cells #[.func (.func 114) #[] #[], .int .i64 3] 146)) := (Below.refl _ _).alloc (Nat.le_refl _) _
   have HK8 := Lib.hid (Blk.new wr 146 #[.func (.func 114) #[] #[], .int .i64 3])
   generalize World.alloc _ _ = w8 at *
   refine (HCP.out w8 (hok.out.later hb8)).mono ?_
   rintro e w9 ⟨rfl, hb9⟩
   have HB9 := Lib.hid (hbl.out.trans ((hb8.trans (hb9.mono hb8.size)).mono hzw))
   have hb1 : w9.cell? ⟨wr.heap.size, 1, none⟩ = some (.int .i64 3) := (HK8.out.below hb9 HK8.out.lt).cell 1
   clear hb8 hb9 HK8
   rcases pb with _ | _
   ·clear hb1
    go_wp2_with fail
    go_roundg (4 - 2)
    case rel => exact ⟨2, rfl, by decide, rfl, HB9, by have hc := hcond.out; unfold Hid; refine ⟨?_, ?_, ?_, ?_⟩ <;> intro h <;> first | rfl | exact hc.1 (by omega) | exact hc.2.1 (by omega) | exact hc.2.2.1 (by omega) | omega⟩
    case measure => decide
   ·go_wp2_with fail
    go_ret
    exact ⟨ret_int (by rw [HDV.out, HDU.out]; simp [hcond.out.1 (by decide)]), HB7.out.trans (HB9.out.mono HB7.out.size)⟩
  ·have t0 : wr.cell? ⟨tb, 4, none⟩ = some (.func (.func 115) #[] #[]) := ht.out.cell 4
   have t1 : wr.cell? ⟨tb, 5, none⟩ = some (.int .i64 2) := ht.out.cell 5
   go_wp2_with fail
   clear g0 g1 g2 g3 g4 g5 g6 g7 g8 g9 t0 t1
   have hb8 : Below wr.heap.size wr (wr.alloc (.cells #[.func (.func 115) #[] #[], .int .i64 2] 146)) := (Below.refl _ _).alloc (Nat.le_refl _) _
   have HK8 := Lib.hid (Blk.new wr 146 #[.func (.func 115) #[] #[], .int .i64 2])
   generalize World.alloc _ _ = w8 at *
   refine (HCL.out w8 (hok.out.later hb8) (((HN.out.below hbw.out hBn).more (by have := hbw.out.size; omega)).below hb8 (Nat.le_refl _) |> fun h => h.more hb8.size)).mono ?_
   rintro e w9 ⟨rfl, hb9⟩
   have HB9 := Lib.hid (hbl.out.trans ((hb8.trans (hb9.mono hb8.size)).mono hzw))
   have hb1 : w9.cell? ⟨wr.heap.size, 1, none⟩ = some (.int .i64 2) := (HK8.out.below hb9 HK8.out.lt).cell 1
   clear hb8 hb9 HK8
   rcases lb with _ | _
   ·clear hb1
    go_wp2_with fail
    go_roundg (4 - 3)
    case rel => exact ⟨3, rfl, by decide, rfl, HB9, by have hc := hcond.out; unfold Hid; refine ⟨?_, ?_, ?_, ?_⟩ <;> intro h <;> first | rfl | exact hc.1 (by omega) | exact hc.2.1 (by omega) | exact hc.2.2.1 (by omega) | omega⟩
    case measure => decide
   ·go_wp2_with fail
    go_ret
    exact ⟨ret_int (by rw [HDV.out, HDU.out]; simp [hcond.out.1 (by decide), hcond.out.2.1 (by decide)]), HB7.out.trans (HB9.out.mono HB7.out.size)⟩
  ·have t0 : wr.cell? ⟨tb, 6, none⟩ = some (.func (.func 116) #[] #[]) := ht.out.cell 6
   have t1 : wr.cell? ⟨tb, 7, none⟩ = some (.int .i64 1) := ht.out.cell 7
   go_wp2_with fail
   clear g0 g1 g2 g3 g4 g5 g6 g7 g8 g9 t0 t1
   have hb8 : Below wr.heap.size wr (wr.alloc (.cells #[.func (.func 116) #[] #[], .int .i64 1] 146)) := (Below.refl _ _).alloc (Nat.le_refl _) _
   have HK8 := Lib.hid (Blk.new wr 146 #[.func (.func 116) #[] #[], .int .i64 1])
   generalize World.alloc _ _ = w8 at *
   refine (HCC.out w8 (hok.out.later hb8)).mono ?_
   rintro e w9 ⟨rfl, hb9⟩
   have HB9 := Lib.hid (hbl.out.trans ((hb8.trans (hb9.mono hb8.size)).mono hzw))
   have hb1 : w9.cell? ⟨wr.heap.size, 1, none⟩ = some (.int .i64 1) := (HK8.out.below hb9 HK8.out.lt).cell 1
   clear hb8 hb9 HK8
   rcases kb with _ | _
   ·clear hb1
    go_wp2_with fail
    go_roundg (4 - 4)
    case rel => exact ⟨4, rfl, by decide, rfl, HB9, by have hc := hcond.out; unfold Hid; refine ⟨?_, ?_, ?_, ?_⟩ <;> intro h <;> first | rfl | exact hc.1 (by omega) | exact hc.2.1 (by omega) | exact hc.2.2.1 (by omega) | omega⟩
    case measure => decide
   ·go_wp2_with fail
    go_ret
    exact ⟨ret_int (by rw [HDV.out, HDU.out]; simp [hcond.out.1 (by decide), hcond.out.2.1 (by decide), hcond.out.2.2.1 (by decide)]), HB7.out.trans (HB9.out.mono HB7.out.size)⟩
  ·go_wp2_with fail
   go_ret
   exact ⟨ret_int (by rw [HDV.out, HDU.out]; simp [hcond.out.1 (by decide), hcond.out.2.1 (by decide), hcond.out.2.2.1 (by decide), hcond.out.2.2.2 (by decide)]), hbw.out⟩
end Go.Proofs.YtnpfkiidhidjbaaGreatDoor
/-
 Layer 3: walk of Check.
-/
namespace Go.Proofs.YtnpfkiidhidjbaaGreatDoor
open Go.RowKit
def NcRel (W : World) (mb nn : Nat) (ns : List Nd) (iv : Value) (wr : World) : Prop :=
 ∃ (i : Nat) (U : List (List UInt8)), iv = .int .i64 i ∧ i ≤ nn ∧ U.length ≤ i ∧ Hid (UsedAt wr mb U) ∧ Hid (chkN [] ns = chkN U (ns.drop i) ∧ usedN [] ns = usedN U (ns.drop i)) ∧ Hid (Below W.heap.size W wr)
def NdRel (W : World) (mb nn nd : Nat) (ns : List Nd) (ds : List Dv) (iv : Value) (wr : World) : Prop :=
 ∃ (i : Nat) (U : List (List UInt8)), iv = .int .i64 i ∧ i ≤ nd ∧ U.length ≤ i + nn ∧ Hid (UsedAt wr mb U) ∧ Hid (checkN ns ds = chkD nn U (ds.drop i)) ∧ Hid (Below W.heap.size W wr)
set_option maxRecDepth 100000 in
set_option maxHeartbeats 4000000 in
theorem ncheck_any (An Ad : Option Addr) (nn cn nd cd Bn Bd : Nat) (ns : List Nd) (ds : List Dv) (w : World) (hl : Laid w) (hn : Sl w Bn 3 An nn cn (ns.flatMap Nd.cells)) (hd : Sl w Bd 5 Ad nd cd (ds.flatMap Dv.cells)) (hBn : Bn ≤ w.heap.size) (hBd : Bd ≤ w.heap.size)
  (hsn : ∀ x ∈ ns, x.name.size ≤ 9223372036854775807) (hsd : ∀ x ∈ ds, x.name.size ≤ 9223372036854775807) :
  Calls Tryz.prog 88 #[.agg #[.slice An nn cn, .slice Ad nd cd]] w fun e w' => e = .returned (.int .i64 (checkN ns ds)) ∧ Below w.heap.size w w' := by
 have HLN := Lib.hid (hn.len (fun _ => rfl) (by decide)); have HLD := Lib.hid (hd.len (fun _ => rfl) (by decide))
 obtain ⟨hnc, hcm⟩ := hn.le
 obtain ⟨hdc, hdm⟩ := hd.le
 have HL := Lib.hid hl; have HN := Lib.hid hn; have HD := Lib.hid hd; have HSN := Lib.hid hsn; have HSD := Lib.hid hsd
 clear hl hn hd hsn hsd
 have HC : Hid (checkN ns ds = if 32 < nn then 1 else if 64 < nd then 1 else if chkN [] ns = 0 then chkD nn (usedN [] ns) ds else chkN [] ns) := by unfold Hid; rw [checkN, HLN.out, HLD.out]
 have hmm := @run_makeMap Tryz.prog
 by_cases h1 : 32 < nn
 ·have q1 : decide ((32 : Int) < (nn : Int)) = true := by simp; omega
  go_enter Tryz.func88, Tryz.ntmps88
  go_wp2_with fail
  go_ret
  exact ⟨ret_int (by rw [HC.out, if_pos h1]), (Below.refl _ _).alloc (Nat.le_refl _) _⟩
 have q1 : decide ((32 : Int) < (nn : Int)) = false := by simp; omega
 by_cases h2 : 64 < nd
 ·have q2 : decide ((64 : Int) < (nd : Int)) = true := by simp; omega
  go_enter Tryz.func88, Tryz.ntmps88
  go_wp2_with fail
  go_ret
  exact ⟨ret_int (by rw [HC.out, if_neg h1, if_pos h2]), (Below.refl _ _).alloc (Nat.le_refl _) _⟩
 have q2 : decide ((64 : Int) < (nd : Int)) = false := by simp; omega
 go_enter Tryz.func88, Tryz.ntmps88
 go_wp2_with fail
 clear q1 q2 hmm
 generalize hW : w.alloc (.cells #[.slice An nn cn, .slice Ad nd cd] 26) = W
 have HK : Hid (Blk W w.heap.size 26 #[.slice An nn cn, .slice Ad nd cd]) := hW ▸ Blk.new _ _ _
 have HB0 : Hid (Below w.heap.size w W) := hW ▸ (Below.refl _ _).alloc (Nat.le_refl _) _
 have hWs : w.heap.size < W.heap.size := HK.out.lt
 have hWe : w.heap.size + 1 = W.heap.size := by rw [← hW]; simp
 clear hW
 rw [hWe]
 have hU0 := used_made W
 obtain ⟨mb, hmb⟩ : ∃ mb, W.heap.size = mb := ⟨_, rfl⟩
 have HBW : Hid (Below W.heap.size W (W.alloc (.map #[] 0))) := (Below.refl _ _).alloc (Nat.le_refl _) _
 rw [hmb] at hU0 ⊢
 have HMB := Lib.hid hmb; clear hmb hWe
 go_loopw [22] (fun iv wr => NcRel W mb nn ns iv wr) (fun iv _ => nn - (intOf iv).toNat)
 case atStart => exact ⟨0, [], rfl, Nat.zero_le _, Nat.le_refl _, hU0, ⟨rfl, rfl⟩, HBW⟩
 case round =>
  clear hU0 HBW
  obtain ⟨i, U, rfl, hi, hUl, hU, hch, hbl⟩ := hrel
  have hsz := hbl.out.size
  have k0 : wr.cell? ⟨w.heap.size, 0, none⟩ = some (.slice An nn cn) := (HK.out.below hbl.out hWs).cell 0
  have k1 : wr.cell? ⟨w.heap.size, 1, none⟩ = some (.slice Ad nd cd) := (HK.out.below hbl.out hWs).cell 1
  by_cases hlt : i < nn; rotate_left
  ·obtain rfl : i = nn := by omega
   have hjj : decide (i < i) = false := by simp
   have hd0 : ns.drop i = [] := List.drop_eq_nil_of_le (by rw [HLN.out]; omega)
   have hch' := hch.out
   rw [hd0] at hch'
   simp only [chkN, usedN] at hch'
   have HCC : Hid (checkN ns ds = chkD i U (ds.drop 0)) := by
    unfold Hid
    rw [HC.out, if_neg h1, if_neg h2, if_pos hch'.1, hch'.2, List.drop_zero]
   clear hch' hch hd0
   go_wp2_with fail
   go_loopw [58] (fun iv wr => NdRel W mb i nd ns ds iv wr) (fun iv _ => nd - (intOf iv).toNat)
   case atStart => exact ⟨0, U, rfl, Nat.zero_le _, by omega, hU, HCC, hbl⟩
   case round =>
    clear hU HCC hbl k0 k1 hjj
    obtain ⟨j, U, rfl, hj, hUl, hU, hch, hbl⟩ := hrel
    have hsz := hbl.out.size
    have k0 : wr.cell? ⟨w.heap.size, 0, none⟩ = some (.slice An i cn) := (HK.out.below hbl.out hWs).cell 0
    by_cases hlj : j < nd; rotate_left
    ·obtain rfl : j = nd := by omega
     have hjj : decide (j < j) = false := by simp
     have hd0 : ds.drop j = [] := List.drop_eq_nil_of_le (by rw [HLD.out]; omega)
     have hch' := hch.out
     rw [hd0] at hch'
     simp only [chkD] at hch'
     have HCH := Lib.hid hch'
     clear hch' hch hd0
     go_wp2_with fail
     go_ret
     exact ⟨ret_int (by rw [HCH.out]), HB0.out.trans (hbl.out.mono (Nat.le_of_lt hWs))⟩
    obtain ⟨b, off, x, rfl, hb, hx, hc⟩ := ((HD.out.below HB0.out hBd).below hbl.out (Nat.le_trans hBd (Nat.le_of_lt hWs))).at (fun _ => rfl) (by decide) hlj
    have HXS := Lib.hid (HSD.out x (List.mem_of_getElem? hx))
    have HX := Lib.hid hx
    obtain ⟨nm, kd, xa, xb, co⟩ := x
    have c0 : wr.cell? ⟨b, off + j * 5, none⟩ = some (.string nm) := hc 0 _ rfl
    have c1 : wr.cell? ⟨b, off + j * 5 + 1, none⟩ = some (.int .i64 kd) := hc 1 _ rfl
    have c2 : wr.cell? ⟨b, off + j * 5 + 2, none⟩ = some (.int .i64 xa) := hc 2 _ rfl
    have c3 : wr.cell? ⟨b, off + j * 5 + 3, none⟩ = some (.int .i64 xb) := hc 3 _ rfl
    have c4 : wr.cell? ⟨b, off + j * 5 + 4, none⟩ = some (.int .i64 co) := hc 4 _ rfl
    clear hc hx
    have hnm := HXS.out
    simp only at hnm
    have hstop : ∀ e : Int, dvErr i U ⟨nm, kd, xa, xb, co⟩ = e → e ≠ 0 → checkN ns ds = e := fun e he hne => by
     rw [hch.out, chkD_stop HX.out (by rw [he]; exact hne), he]
    have HST := Lib.hid hstop; clear hstop
    have HEE : Hid (dvErr i U ⟨nm, kd, xa, xb, co⟩ = if nameB (toL nm) = false then 3 else if toL nm ∈ U then 4 else if kd < 1 ∨ 6 < kd then 6 else if endsB kd xa xb i = false then 7 else if compB co = false then 5 else 0) := rfl
    have HL1 := Lib.hid ((HL.out.below HB0.out (Nat.le_refl _)).below hbl.out (Nat.le_refl _))
    go_wp2_with fail
    clear c0 c1 c2 c3 c4
    generalize hWX : wr.alloc (.cells #[.string nm, .int .i64 kd, .int .i64 xa, .int .i64 xb, .int .i64 co] 63) = WX
    have hbX : Below wr.heap.size wr WX := hWX ▸ (Below.refl _ _).alloc (Nat.le_refl _) _
    have hkX : Blk WX wr.heap.size 63 #[.string nm, .int .i64 kd, .int .i64 xa, .int .i64 xb, .int .i64 co] := hWX ▸ Blk.new _ _ _
    clear hWX
    refine (name_any nm WX (HL1.out.below hbX (Nat.le_refl _)) hnm).mono ?_
    rintro e w1 ⟨rfl, hb1⟩
    have hb01 : Below wr.heap.size wr w1 := hbX.trans (hb1.mono hbX.size)
    have HK1 := Lib.hid (hkX.below hb1 hkX.lt)
    have HU1 := Lib.hid (hU.out.below hb01)
    have HB1 := Lib.hid (hbl.out.trans (hb01.mono hsz))
    have HBB := Lib.hid (HB0.out.trans (HB1.out.mono (Nat.le_of_lt hWs)))
    have x0 : w1.cell? ⟨wr.heap.size, 0, none⟩ = some (.string nm) := HK1.out.cell 0
    have x1 : w1.cell? ⟨wr.heap.size, 1, none⟩ = some (.int .i64 kd) := HK1.out.cell 1
    have x2 : w1.cell? ⟨wr.heap.size, 2, none⟩ = some (.int .i64 xa) := HK1.out.cell 2
    have x3 : w1.cell? ⟨wr.heap.size, 3, none⟩ = some (.int .i64 xb) := HK1.out.cell 3
    have x4 : w1.cell? ⟨wr.heap.size, 4, none⟩ = some (.int .i64 co) := HK1.out.cell 4
    have y0 : w1.cell? ⟨w.heap.size, 0, none⟩ = some (.slice An i cn) := (HK.out.below HB1.out hWs).cell 0
    clear hb1 hbX hkX hb01 k0
    rcases hnb : nameB (toL nm) with _ | _
    ·have HR := Lib.hid (HST.out 3 (by rw [HEE.out, if_pos hnb]) (by decide))
     clear hnb
     go_wp2_with fail
     go_ret
     exact ⟨ret_int (by rw [HR.out]), HBB.out⟩
    have HNB := Lib.hid hnb; clear hnb
    have hlk := HU1.out.look nm hnm
    by_cases hmem : toL nm ∈ U
    ·have HR := Lib.hid (HST.out 4 (by rw [HEE.out, if_neg (by rw [HNB.out]; simp), if_pos hmem]) (by decide))
     rw [decide_eq_true hmem] at hlk
     clear hmem
     go_wp2_with fail
     go_ret
     exact ⟨ret_int (by rw [HR.out]), HBB.out⟩
    rw [decide_eq_false hmem] at hlk
    have HMM := Lib.hid hmem; clear hmem
    have h6 : kd < 1 ∨ 6 < kd → checkN ns ds = 6 := fun h => HST.out 6 (by rw [HEE.out, if_neg (by rw [HNB.out]; simp), if_neg HMM.out, if_pos h]) (by decide)
    have H6 := Lib.hid h6; clear h6
    by_cases g1 : kd < 1
    ·have HR := Lib.hid (H6.out (.inl g1))
     go_wp2_with fail
     go_ret
     exact ⟨ret_int (by rw [HR.out]), HBB.out⟩
    have g1' : decide (kd < 1) = false := by simpa using g1
    by_cases g2 : 6 < kd
    ·have HR := Lib.hid (H6.out (.inr g2))
     go_wp2_with fail
     go_ret
     exact ⟨ret_int (by rw [HR.out]), HBB.out⟩
    have g2' : decide (6 < kd) = false := by simpa using g2
    have HEN := Lib.hid (ends_any nm kd xa xb co i)
    rcases hen : endsB kd xa xb i with _ | _
    ·have HR := Lib.hid (HST.out 7 (by rw [HEE.out, if_neg (by rw [HNB.out]; simp), if_neg HMM.out, if_neg (by omega), if_pos hen]) (by decide))
     rw [hen] at HEN
     clear hen
     go_wp2_with fail
     refine (HEN.out _).mono ?_
     rintro e w2 ⟨rfl, hb2⟩
     go_wp2_with fail
     go_ret
     exact ⟨ret_int (by rw [HR.out]), HBB.out.trans (hb2.mono HBB.out.size)⟩
    rw [hen] at HEN
    have HNE := Lib.hid hen; clear hen
    go_wp2_with fail
    clear x0 x1 x2 x3 x4 y0 hlk
    refine (HEN.out _).mono ?_
    rintro e w2 ⟨rfl, hb2⟩
    have HK2 := Lib.hid (HK1.out.below hb2 HK1.out.lt)
    have HU2 := Lib.hid (HU1.out.below hb2)
    have HB2 := Lib.hid (HB1.out.trans (hb2.mono HB1.out.size))
    have HBB2 := Lib.hid (HBB.out.trans (hb2.mono HBB.out.size))
    have x0 : w2.cell? ⟨wr.heap.size, 0, none⟩ = some (.string nm) := HK2.out.cell 0
    have x4 : w2.cell? ⟨wr.heap.size, 4, none⟩ = some (.int .i64 co) := HK2.out.cell 4
    clear hb2
    have HCO := Lib.hid (company_any co)
    rcases hco : compB co with _ | _
    ·have HR := Lib.hid (HST.out 5 (by rw [HEE.out, if_neg (by rw [HNB.out]; simp), if_neg HMM.out, if_neg (by omega), if_neg (by rw [HNE.out]; simp), if_pos hco]) (by decide))
     rw [hco] at HCO
     clear hco
     go_wp2_with fail
     refine (HCO.out _).mono ?_
     rintro e w3 ⟨rfl, rfl⟩
     go_wp2_with fail
     go_ret
     exact ⟨ret_int (by rw [HR.out]), HBB2.out⟩
    have HOK : Hid (dvErr i U ⟨nm, kd, xa, xb, co⟩ = 0) := by unfold Hid; rw [HEE.out, if_neg (by rw [HNB.out]; simp), if_neg HMM.out, if_neg (by omega), if_neg (by rw [HNE.out]; simp), if_neg (by rw [hco]; simp)]
    rw [hco] at HCO
    clear hco
    obtain ⟨w4, hput, hU4, hg4⟩ := HU2.out.put (by omega) nm hnm
    have HU4 := Lib.hid hU4; have HG4 := Lib.hid hg4
    clear hU4 hg4
    go_wp2_with fail
    refine (HCO.out _).mono ?_
    rintro e w3 ⟨rfl, rfl⟩
    go_wp2_with fail
    go_roundw
    case rel =>
     refine ⟨j + 1, toL nm :: U, by go_num, by omega, by simp; omega, HU4, hch.out.trans (chkD_step HX.out HOK.out), HB2.out.trans (below_of_grown HG4.out (by rw [HMB.out]; exact Nat.le_refl _) HB2.out.size)⟩
    case measure => simp [intOf]; omega
  obtain ⟨b, off, x, rfl, hb, hx, hc⟩ := ((HN.out.below HB0.out hBn).below hbl.out (Nat.le_trans hBn (Nat.le_of_lt hWs))).at (fun _ => rfl) (by decide) hlt
  have HXS := Lib.hid (HSN.out x (List.mem_of_getElem? hx))
  have HX := Lib.hid hx
  obtain ⟨nm, cu, co⟩ := x
  have c0 : wr.cell? ⟨b, off + i * 3, none⟩ = some (.string nm) := hc 0 _ rfl
  have c1 : wr.cell? ⟨b, off + i * 3 + 1, none⟩ = some (.int .i64 cu) := hc 1 _ rfl
  have c2 : wr.cell? ⟨b, off + i * 3 + 2, none⟩ = some (.int .i64 co) := hc 2 _ rfl
  clear hc hx
  have hnm := HXS.out
  simp only at hnm
  have hstop : ∀ e : Int, ndErr U ⟨nm, cu, co⟩ = e → e ≠ 0 → checkN ns ds = e := fun e he hne => by
   have hs := chkN_stop HX.out (by rw [he]; exact hne)
   have hcc := hch.out.1
   rw [hs, he] at hcc
   rw [HC.out, if_neg h1, if_neg h2, if_neg (by rw [hcc]; exact hne), hcc]
  have HST := Lib.hid hstop; clear hstop
  have HEE : Hid (ndErr U ⟨nm, cu, co⟩ = if nameB (toL nm) = false then 3 else if toL nm ∈ U then 4 else if cu < 0 ∨ 1048576 < cu then 5 else if compB co = false then 5 else 0) := rfl
  have HL1 := Lib.hid ((HL.out.below HB0.out (Nat.le_refl _)).below hbl.out (Nat.le_refl _))
  go_wp2_with fail
  clear c0 c1 c2
  generalize hWX : wr.alloc (.cells #[.string nm, .int .i64 cu, .int .i64 co] 61) = WX
  have hbX : Below wr.heap.size wr WX := hWX ▸ (Below.refl _ _).alloc (Nat.le_refl _) _
  have hkX : Blk WX wr.heap.size 61 #[.string nm, .int .i64 cu, .int .i64 co] := hWX ▸ Blk.new _ _ _
  clear hWX
  refine (name_any nm WX (HL1.out.below hbX (Nat.le_refl _)) hnm).mono ?_
  rintro e w1 ⟨rfl, hb1⟩
  have hb01 : Below wr.heap.size wr w1 := hbX.trans (hb1.mono hbX.size)
  have HK1 := Lib.hid (hkX.below hb1 hkX.lt)
  have HU1 := Lib.hid (hU.out.below hb01)
  have HB1 := Lib.hid (hbl.out.trans (hb01.mono hsz))
  have HBB := Lib.hid (HB0.out.trans (HB1.out.mono (Nat.le_of_lt hWs)))
  have x0 : w1.cell? ⟨wr.heap.size, 0, none⟩ = some (.string nm) := HK1.out.cell 0
  have x1 : w1.cell? ⟨wr.heap.size, 1, none⟩ = some (.int .i64 cu) := HK1.out.cell 1
  have x2 : w1.cell? ⟨wr.heap.size, 2, none⟩ = some (.int .i64 co) := HK1.out.cell 2
  clear hb1 hbX hkX hb01
  rcases hnb : nameB (toL nm) with _ | _
  ·have HR := Lib.hid (HST.out 3 (by rw [HEE.out, if_pos hnb]) (by decide))
   clear hnb
   go_wp2_with fail
   go_ret
   exact ⟨ret_int (by rw [HR.out]), HBB.out⟩
  have HNB := Lib.hid hnb; clear hnb
  have hlk := HU1.out.look nm hnm
  by_cases hmem : toL nm ∈ U
  ·have HR := Lib.hid (HST.out 4 (by rw [HEE.out, if_neg (by rw [HNB.out]; simp), if_pos hmem]) (by decide))
   rw [decide_eq_true hmem] at hlk
   clear hmem
   go_wp2_with fail
   go_ret
   exact ⟨ret_int (by rw [HR.out]), HBB.out⟩
  rw [decide_eq_false hmem] at hlk
  have HMM := Lib.hid hmem; clear hmem
  have h5 : cu < 0 ∨ 1048576 < cu ∨ compB co = false → checkN ns ds = 5 := fun h => HST.out 5 (by
   rw [HEE.out, if_neg (by rw [HNB.out]; simp), if_neg HMM.out]
   by_cases hh : cu < 0 ∨ 1048576 < cu
   ·rw [if_pos hh]
   ·rw [if_neg hh, if_pos (h.elim (fun h => absurd (.inl h) hh) (fun h => h.elim (fun h => absurd (.inr h) hh) id))]) (by decide)
  have H5 := Lib.hid h5; clear h5
  by_cases g1 : cu < 0
  ·have HR := Lib.hid (H5.out (.inl g1))
   go_wp2_with fail
   go_ret
   exact ⟨ret_int (by rw [HR.out]), HBB.out⟩
  have g1' : decide (cu < 0) = false := by simpa using g1
  by_cases g2 : 1048576 < cu
  ·have HR := Lib.hid (H5.out (.inr (.inl g2)))
   go_wp2_with fail
   go_ret
   exact ⟨ret_int (by rw [HR.out]), HBB.out⟩
  have g2' : decide (1048576 < cu) = false := by simpa using g2
  have HCO := Lib.hid (company_any co)
  rcases hco : compB co with _ | _
  ·have HR := Lib.hid (H5.out (.inr (.inr hco)))
   rw [hco] at HCO
   clear hco
   go_wp2_with fail
   refine (HCO.out _).mono ?_
   rintro e w2 ⟨rfl, rfl⟩
   go_wp2_with fail
   go_ret
   exact ⟨ret_int (by rw [HR.out]), HBB.out⟩
  have HOK : Hid (ndErr U ⟨nm, cu, co⟩ = 0) := by unfold Hid; rw [HEE.out, if_neg (by rw [HNB.out]; simp), if_neg HMM.out, if_neg (by omega), if_neg (by rw [hco]; simp)]
  rw [hco] at HCO
  clear hco
  obtain ⟨w2, hput, hU2, hg2⟩ := HU1.out.put (by omega) nm hnm
  have HU2 := Lib.hid hU2; have HG2 := Lib.hid hg2
  clear hU2 hg2
  go_wp2_with fail
  refine (HCO.out _).mono ?_
  rintro e w3 ⟨rfl, rfl⟩
  go_wp2_with fail
  go_roundw
  case rel =>
   have hst := chkN_step HX.out HOK.out
   refine ⟨i + 1, toL nm :: U, by go_num, by omega, by simp; omega, HU2, ⟨hch.out.1.trans hst.1, hch.out.2.trans hst.2⟩, HB1.out.trans (below_of_grown HG2.out (by rw [HMB.out]; exact Nat.le_refl _) HB1.out.size)⟩
  case measure => simp [intOf]; omega
end Go.Proofs.YtnpfkiidhidjbaaGreatDoor
