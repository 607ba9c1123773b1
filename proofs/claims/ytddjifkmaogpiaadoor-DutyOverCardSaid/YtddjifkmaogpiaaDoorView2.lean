/-
  Layer 12: walks of parallel, dead, charging, load.
-/
import Derived.Test.YtddjifkmaogpiaaDoorSides
namespace Go.Proofs.YtddjifkmaogpiaaDoor
open Go.RowKit
def parB (kd a b : Int) (parts op : List Int) : Bool := sOk kd a b parts && sL0 kd a op && sL1 kd a b op
def dOk (kd a b : Int) (parts op : List Int) : Bool := sOk kd a b parts && !(sL0 kd a op == sL1 kd a b op)
def dN (kd a b : Int) (parts op : List Int) : Int := if dOk kd a b parts op = true then (if sL0 kd a op = true then sN1 kd a b else sN0 kd a) else 0
set_option maxRecDepth 100000 in
set_option maxHeartbeats 2000000 in
theorem parallel_any (An Ad Ap Ao Ac : Option Addr) (nn cn nd cd : Nat) (nm : ByteArray) (kd a b co : Int) (parts op cl : List Int) (w : World) (h : VwOk w nn kd a b Ap Ao Ac parts op cl) :
    Calls Tryd.prog 45 #[.agg (vwC An nn cn Ad nd cd nm kd a b co Ap Ao Ac)] w fun e w' => e = .returned (.bool (parB kd a b parts op)) ∧ Below w.heap.size w w' := by
  have HSD := Lib.hid (sides_any An Ad Ap Ao Ac nn cn nd cd nm kd a b co parts op cl (w.alloc (.cells (vwC An nn cn Ad nd cd nm kd a b co Ap Ao Ac) 74)) (h.alloc _))
  have HB : Hid (Below w.heap.size w (w.alloc (.cells (vwC An nn cn Ad nd cd nm kd a b co Ap Ao Ac) 74))) := (Below.refl _ _).alloc (Nat.le_refl _) _
  have HP : Hid (parB kd a b parts op = (sOk kd a b parts && sL0 kd a op && sL1 kd a b op)) := rfl
  clear h
  simp only [vwC] at HSD HB ⊢
  generalize sOk kd a b parts = ok at *
  generalize sL0 kd a op = l0 at *
  generalize sL1 kd a b op = l1 at *
  go_enter Tryd.func45, Tryd.ntmps45
  go_wp2_with fail
  refine HSD.out.mono ?_
  rintro e w1 ⟨rfl, hb1⟩
  have HB1 := Lib.hid (HB.out.trans (hb1.mono HB.out.size))
  have hz := HB1.out.size
  clear hb1 HB HSD
  rcases ok with _ | _
  · go_wp2_with fail
    go_ret
    exact ⟨ret_bool (by rw [HP.out]; rfl), (HB1.out.alloc hz _).alloc (by simp; omega) _⟩
  · rcases l0 with _ | _
    · go_wp2_with fail
      go_ret
      exact ⟨ret_bool (by rw [HP.out]; rfl), (HB1.out.alloc hz _).alloc (by simp; omega) _⟩
    · go_wp2_with fail
      go_ret
      exact ⟨ret_bool (by rw [HP.out]; simp), (HB1.out.alloc hz _).alloc (by simp; omega) _⟩
def DeadPost (w : World) (n : Int) (ok : Bool) (e : Ending) (w' : World) : Prop := e = .returned (.tuple #[.int .i64 n, .bool ok]) ∧ Below w.heap.size w w'
set_option maxRecDepth 100000 in
set_option maxHeartbeats 2000000 in
theorem dead_any (An Ad Ap Ao Ac : Option Addr) (nn cn nd cd : Nat) (nm : ByteArray) (kd a b co : Int) (parts op cl : List Int) (w : World) (h : VwOk w nn kd a b Ap Ao Ac parts op cl) :
    Calls Tryd.prog 62 #[.agg (vwC An nn cn Ad nd cd nm kd a b co Ap Ao Ac)] w (DeadPost w (dN kd a b parts op) (dOk kd a b parts op)) := by
  have HSD := Lib.hid (sides_any An Ad Ap Ao Ac nn cn nd cd nm kd a b co parts op cl (w.alloc (.cells (vwC An nn cn Ad nd cd nm kd a b co Ap Ao Ac) 74)) (h.alloc _))
  have HB : Hid (Below w.heap.size w (w.alloc (.cells (vwC An nn cn Ad nd cd nm kd a b co Ap Ao Ac) 74))) := (Below.refl _ _).alloc (Nat.le_refl _) _
  have HP : Hid (dOk kd a b parts op = (sOk kd a b parts && !(sL0 kd a op == sL1 kd a b op)) ∧ dN kd a b parts op = if dOk kd a b parts op = true then (if sL0 kd a op = true then sN1 kd a b else sN0 kd a) else 0) := ⟨rfl, rfl⟩
  clear h
  simp only [vwC] at HSD HB ⊢
  generalize sOk kd a b parts = ok at *
  generalize sL0 kd a op = l0 at *
  generalize sL1 kd a b op = l1 at *
  generalize sN0 kd a = n0 at *
  generalize sN1 kd a b = n1 at *
  generalize dN kd a b parts op = dn at *
  generalize dOk kd a b parts op = dk at *
  go_enter Tryd.func62, Tryd.ntmps62
  go_wp2_with fail
  refine HSD.out.mono ?_
  rintro e w1 ⟨rfl, hb1⟩
  have HB1 := Lib.hid (HB.out.trans (hb1.mono HB.out.size))
  have hz := HB1.out.size
  clear hb1 HB HSD
  have HBF : Hid (∀ (x y : Obj), Below w.heap.size w ((w1.alloc x).alloc y)) := fun x y => (HB1.out.alloc hz _).alloc (by simp; omega) _
  rcases ok with _ | _
  · go_wp2_with fail
    go_ret2
    exact ⟨by rw [HP.out.2, HP.out.1]; rfl, HBF.out _ _⟩
  · rcases l0 with _ | _ <;> rcases l1 with _ | _ <;>
    · go_wp2_with fail
      go_ret2
      exact ⟨by rw [HP.out.2, HP.out.1]; rfl, HBF.out _ _⟩
set_option maxRecDepth 100000 in
set_option maxHeartbeats 2000000 in
theorem charging_any (An Ad Ap Ao Ac : Option Addr) (nn cn nd cd : Nat) (nm : ByteArray) (kd a b co : Int) (parts op cl : List Int) (w : World) (h : VwOk w nn kd a b Ap Ao Ac parts op cl) :
    Calls Tryd.prog 47 #[.agg (vwC An nn cn Ad nd cd nm kd a b co Ap Ao Ac)] w fun e w' => e = .returned (.bool (dOk kd a b parts op)) ∧ Below w.heap.size w w' := by
  have HSD := Lib.hid (dead_any An Ad Ap Ao Ac nn cn nd cd nm kd a b co parts op cl (w.alloc (.cells (vwC An nn cn Ad nd cd nm kd a b co Ap Ao Ac) 74)) (h.alloc _))
  have HB : Hid (Below w.heap.size w (w.alloc (.cells (vwC An nn cn Ad nd cd nm kd a b co Ap Ao Ac) 74))) := (Below.refl _ _).alloc (Nat.le_refl _) _
  clear h
  simp only [vwC] at HSD HB ⊢
  generalize dN kd a b parts op = dn at *
  generalize dOk kd a b parts op = dk at *
  go_enter Tryd.func47, Tryd.ntmps47
  go_wp2_with fail
  refine HSD.out.mono ?_
  rintro e w1 ⟨rfl, hb1⟩
  have HB1 := Lib.hid (HB.out.trans (hb1.mono HB.out.size))
  clear hb1 HB HSD
  go_wp2_with fail
  go_ret
  exact ⟨rfl, HB1.out⟩
theorem dN_ok {kd a b : Int} {parts op : List Int} (h : dOk kd a b parts op = true) : dN kd a b parts op = a ∨ (joinsB kd = true ∧ dN kd a b parts op = b) := by
  unfold dN
  rw [if_pos h]
  unfold dOk sOk sL0 sL1 at h
  unfold sL0 sN1 sN0
  by_cases h4 : kd = 4
  · rw [if_pos h4] at h; cases h
  · simp only [if_neg h4] at h ⊢
    rcases hj : joinsB kd with _ | _
    · simp
    · simp only [hj] at h ⊢
      simp
      rcases lvB op a with _ | _ <;> simp
/-- Some node of the dead side has customers. -/
def loadTo (kd a b : Int) (ns : List Nd) (parts op : List Int) (j : Nat) : Prop := ∃ (i : Nat) (x : Nd), i < j ∧ ns[i]? = some x ∧ 0 < x.cust ∧ parts.getD i 0 = parts.getD (dN kd a b parts op).toNat 0
open Classical in
noncomputable def loadB (kd a b : Int) (ns : List Nd) (parts op : List Int) : Bool := dOk kd a b parts op && decide (loadTo kd a b ns parts op ns.length)
def LoR (w : World) (V : Array Value) (vb nn : Nat) (kd a b : Int) (ns : List Nd) (parts op : List Int) (gk : Nat) (iv : Value) (wr : World) : Prop := ∃ i : Nat, iv = .int .i64 i ∧ i ≤ nn ∧ gk = nn - i ∧ Hid (Blk wr vb 74 V) ∧ Hid (Below w.heap.size w wr) ∧ Hid (¬ loadTo kd a b ns parts op i)
set_option maxRecDepth 100000 in
set_option maxHeartbeats 4000000 in
theorem load_any (An Ad Ap Ao Ac : Option Addr) (nn cn nd cd : Nat) (nm : ByteArray) (kd a b co : Int) (ns : List Nd) (parts op cl : List Int) (w : World) (h : VwOk w nn kd a b Ap Ao Ac parts op cl) (hn : Sl w w.heap.size 3 An nn cn (ns.flatMap Nd.cells)) :
    Calls Tryd.prog 46 #[.agg (vwC An nn cn Ad nd cd nm kd a b co Ap Ao Ac)] w fun e w' => e = .returned (.bool (loadB kd a b ns parts op)) ∧ Below w.heap.size w w' := by
  have HSD := Lib.hid (dead_any An Ad Ap Ao Ac nn cn nd cd nm kd a b co parts op cl (w.alloc (.cells (vwC An nn cn Ad nd cd nm kd a b co Ap Ao Ac) 74)) (h.alloc _))
  have HB : Hid (Below w.heap.size w (w.alloc (.cells (vwC An nn cn Ad nd cd nm kd a b co Ap Ao Ac) 74))) := (Below.refl _ _).alloc (Nat.le_refl _) _
  have HV := Lib.hid (Blk.new w 74 (vwC An nn cn Ad nd cd nm kd a b co Ap Ao Ac))
  have HLN := Lib.hid (hn.len (fun _ => rfl) (by decide))
  have hnm := hn.le
  have HO := Lib.hid h; have HN := Lib.hid hn
  clear h hn
  simp only [vwC] at HSD HB HV ⊢
  rcases hk : dOk kd a b parts op with _ | _
  · have HR : Hid (loadB kd a b ns parts op = false) := by unfold Hid loadB; rw [hk]; rfl
    rw [hk] at HSD
    clear hk
    generalize dN kd a b parts op = dn at *
    go_enter Tryd.func46, Tryd.ntmps46
    go_wp2_with fail
    refine HSD.out.mono ?_
    rintro e w1 ⟨rfl, hb1⟩
    have HB1 := Lib.hid (HB.out.trans (hb1.mono HB.out.size))
    clear hb1 HB HSD
    go_wp2_with fail
    go_ret
    exact ⟨ret_bool (by rw [HR.out]), HB1.out⟩
  · have hdn : 0 ≤ dN kd a b parts op ∧ dN kd a b parts op < nn := by
      rcases dN_ok hk with e | ⟨hj, e⟩ <;> rw [e]
      · exact HO.out.a0
      · exact HO.out.b0 hj
    have HLB : Hid (∀ t : Bool, (t = true ↔ loadTo kd a b ns parts op ns.length) → loadB kd a b ns parts op = t) := by
      intro t ht
      unfold loadB
      rw [hk]
      rw [Bool.eq_iff_iff, ht]
      simp
    rw [hk] at HSD
    clear hk
    obtain ⟨sd, hsd⟩ := Int.eq_ofNat_of_zero_le hdn.1
    have HLT : Hid (∀ j, loadTo kd a b ns parts op j ↔ ∃ (i : Nat) (x : Nd), i < j ∧ ns[i]? = some x ∧ 0 < x.cust ∧ parts.getD i 0 = parts.getD sd 0) := fun j => by unfold loadTo; rw [hsd, Int.toNat_natCast]
    rw [hsd] at HSD hdn
    have hsdn : sd < nn := by omega
    clear hsd hdn
    have hnn0 := HO.out.n0
    go_enter Tryd.func46, Tryd.ntmps46
    go_wp2_with fail
    refine HSD.out.mono ?_
    rintro e w1 ⟨rfl, hb1⟩
    have HB1 := Lib.hid (HB.out.trans (hb1.mono HB.out.size))
    have HV1 := Lib.hid (HV.out.below hb1 HV.out.lt)
    clear hb1 HB HSD HV
    obtain ⟨vb, hvb⟩ : ∃ vb, vb = w.heap.size := ⟨_, rfl⟩
    rw [← hvb] at HV1 ⊢
    have HVB := Lib.hid hvb; clear hvb
    have e0 : w1.cell? ⟨vb, 0, none⟩ = some (.slice An nn cn) := HV1.out.cell 0
    go_wp2_with fail
    clear e0
    go_loopg [18] nn (LoR w #[.slice An nn cn, .slice Ad nd cd, .string nm, .int .i64 kd, .int .i64 a, .int .i64 b, .int .i64 co, .slice Ap nn nn, .slice Ao nn nn, .slice Ac nn nn] vb nn kd a b ns parts op)
    case atStart => exact ⟨0, rfl, Nat.zero_le _, rfl, HV1, HB1, fun hc => by obtain ⟨i, x, hi, _⟩ := hc; omega⟩
    case round =>
      clear HV1 HB1
      obtain ⟨i, rfl, hi, rfl, hv, hbl, hno⟩ := hrel
      by_cases hlt : i < nn
      · obtain ⟨b0, off, nd0, rfl, hb, hx, hc⟩ := (HN.out.below hbl.out (Nat.le_refl _)).at (fun _ => rfl) (by decide) hlt
        have HX := Lib.hid hx
        obtain ⟨nm2, cu, co2⟩ := nd0
        have c0 : wr.cell? ⟨b0, off + i * 3, none⟩ = some (.string nm2) := hc 0 _ rfl
        have c1 : wr.cell? ⟨b0, off + i * 3 + 1, none⟩ = some (.int .i64 cu) := hc 1 _ rfl
        have c2 : wr.cell? ⟨b0, off + i * 3 + 2, none⟩ = some (.int .i64 co2) := hc 2 _ rfl
        clear hc hx
        have hzw := hbl.out.size
        go_upto_region 7 with (fail)
        clear c0 c1 c2
        have HK := Lib.hid (Blk.new wr 47 #[.string nm2, .int .i64 cu, .int .i64 co2])
        have HV2 := Lib.hid (hv.out.alloc (.cells #[.string nm2, .int .i64 cu, .int .i64 co2] 47))
        have HB2 := Lib.hid (hbl.out.alloc hzw (.cells #[.string nm2, .int .i64 cu, .int .i64 co2] 47))
        generalize World.alloc _ _ = w2 at *
        obtain ⟨bq, hbq⟩ : ∃ bq, bq = wr.heap.size := ⟨_, rfl⟩
        rw [← hbq] at HK ⊢
        clear hbq hv hbl hzw
        have e1 : w2.cell? ⟨bq, 1, none⟩ = some (.int .i64 cu) := HK.out.cell 1
        by_cases hcu : 0 < cu; rotate_left
        · have qcu : decide (0 < cu) = false := by simpa using hcu
          have HNO : Hid (¬ loadTo kd a b ns parts op (i + 1)) := fun hc => by
            obtain ⟨t, x, ht, hx, hx2, hx3⟩ := (HLT.out _).1 hc
            rcases Nat.lt_succ_iff_lt_or_eq.1 ht with h | rfl
            · exact hno.out ((HLT.out _).2 ⟨t, x, h, hx, hx2, hx3⟩)
            · rw [HX.out] at hx; injection hx with hx; subst hx; exact hcu hx2
          refine wp_region_J (S := fun W' => W'.cell? ⟨bq, 1, none⟩ = some (.int .i64 cu)) (J := []) (by kernel_rfl) ?_ (fun hHeld => ?_)
          · exact e1
          try dsimp only at hHeld
          refine wpAnyJ_takeL (i := 0) (d := some 23) (v := ?_) #[true, false, false, false, false, false, false, false, false, false, false, false, false, false, false, false] (by kernel_rfl) rfl rfl (by kernel_rfl) (by kernel_rfl) (by kernel_rfl) (by kernel_rfl) (by kernel_rfl) (fun _ _ _ h => h) (Or.inl ⟨by rfl, ?_⟩) hHeld ?_
          rotate_left
          · (intro w hSw; (try dsimp only at hSw);  go_simp; try with_reducible rfl)
          try simp only [Act.put, List.setIfInBounds_toArray, List.set_cons_zero, List.set_cons_succ]
          refine wpAnyJ_takeL (i := 1) (d := some 24) (v := ?_) #[true, true, false, false, false, false, false, false, false, false, false, false, false, false, false, false] (by kernel_rfl) rfl rfl (by kernel_rfl) (by kernel_rfl) (by kernel_rfl) (by kernel_rfl) (by kernel_rfl) (fun _ _ _ h => h) (Or.inl ⟨by rfl, ?_⟩) hHeld ?_
          rotate_left
          · (intro w hSw; (try dsimp only at hSw);  go_simp; try with_reducible rfl)
          try simp only [Act.put, List.setIfInBounds_toArray, List.set_cons_zero, List.set_cons_succ]
          refine wpAnyJ_takeL (i := 2) (d := some 25) (v := ?_) #[true, true, true, false, false, false, false, false, false, false, false, false, false, false, false, false] (by kernel_rfl) rfl rfl (by kernel_rfl) (by kernel_rfl) (by kernel_rfl) (by kernel_rfl) (by kernel_rfl) (fun _ _ _ h => h) (Or.inl ⟨by rfl, ?_⟩) hHeld ?_
          rotate_left
          · (intro w hSw; (try dsimp only at hSw);  go_simp; try with_reducible rfl)
          try simp only [Act.put, List.setIfInBounds_toArray, List.set_cons_zero, List.set_cons_succ]
          refine wpAnyJ_takeL (i := 3) (d := some 26) (v := ?_) #[true, true, true, true, false, false, false, false, false, false, false, false, false, false, false, false] (by kernel_rfl) rfl rfl (by kernel_rfl) (by kernel_rfl) (by kernel_rfl) (by kernel_rfl) (by kernel_rfl) (fun _ _ _ h => h) (Or.inl ⟨by rfl, ?_⟩) hHeld ?_
          rotate_left
          · (intro w hSw; (try dsimp only at hSw);  go_simp; try with_reducible rfl)
          try simp only [Act.put, List.setIfInBounds_toArray, List.set_cons_zero, List.set_cons_succ]
          refine wpAnyJ_takeL (i := 4) (d := some 27) (v := undef) #[true, true, true, true, true, false, false, false, false, false, false, false, false, false, false, false] (by kernel_rfl) rfl rfl (by kernel_rfl) (by kernel_rfl) (by kernel_rfl) (by kernel_rfl) (by kernel_rfl) (fun _ _ _ h => h) (Or.inr ⟨by rfl, by rfl⟩) hHeld ?_
          try simp only [Act.put, List.setIfInBounds_toArray, List.set_cons_zero, List.set_cons_succ]
          refine wpAnyJ_takeL (i := 5) (d := some 28) (v := undef) #[true, true, true, true, true, true, false, false, false, false, false, false, false, false, false, false] (by kernel_rfl) rfl rfl (by kernel_rfl) (by kernel_rfl) (by kernel_rfl) (by kernel_rfl) (by kernel_rfl) (fun _ _ _ h => h) (Or.inr ⟨by rfl, by rfl⟩) hHeld ?_
          try simp only [Act.put, List.setIfInBounds_toArray, List.set_cons_zero, List.set_cons_succ]
          refine wpAnyJ_takeL (i := 6) (d := some 29) (v := undef) #[true, true, true, true, true, true, true, false, false, false, false, false, false, false, false, false] (by kernel_rfl) rfl rfl (by kernel_rfl) (by kernel_rfl) (by kernel_rfl) (by kernel_rfl) (by kernel_rfl) (fun _ _ _ h => h) (Or.inr ⟨by rfl, by rfl⟩) hHeld ?_
          try simp only [Act.put, List.setIfInBounds_toArray, List.set_cons_zero, List.set_cons_succ]
          refine wpAnyJ_takeL (i := 7) (d := some 30) (v := undef) #[true, true, true, true, true, true, true, true, false, false, false, false, false, false, false, false] (by kernel_rfl) rfl rfl (by kernel_rfl) (by kernel_rfl) (by kernel_rfl) (by kernel_rfl) (by kernel_rfl) (fun _ _ _ h => h) (Or.inr ⟨by rfl, by rfl⟩) hHeld ?_
          try simp only [Act.put, List.setIfInBounds_toArray, List.set_cons_zero, List.set_cons_succ]
          refine wpAnyJ_takeL (i := 8) (d := some 31) (v := undef) #[true, true, true, true, true, true, true, true, true, false, false, false, false, false, false, false] (by kernel_rfl) rfl rfl (by kernel_rfl) (by kernel_rfl) (by kernel_rfl) (by kernel_rfl) (by kernel_rfl) (fun _ _ _ h => h) (Or.inr ⟨by rfl, by rfl⟩) hHeld ?_
          try simp only [Act.put, List.setIfInBounds_toArray, List.set_cons_zero, List.set_cons_succ]
          refine wpAnyJ_takeL (i := 9) (d := some 32) (v := undef) #[true, true, true, true, true, true, true, true, true, true, false, false, false, false, false, false] (by kernel_rfl) rfl rfl (by kernel_rfl) (by kernel_rfl) (by kernel_rfl) (by kernel_rfl) (by kernel_rfl) (fun _ _ _ h => h) (Or.inr ⟨by rfl, by rfl⟩) hHeld ?_
          try simp only [Act.put, List.setIfInBounds_toArray, List.set_cons_zero, List.set_cons_succ]
          refine wpAnyJ_takeL (i := 10) (d := some 33) (v := undef) #[true, true, true, true, true, true, true, true, true, true, true, false, false, false, false, false] (by kernel_rfl) rfl rfl (by kernel_rfl) (by kernel_rfl) (by kernel_rfl) (by kernel_rfl) (by kernel_rfl) (fun _ _ _ h => h) (Or.inr ⟨by rfl, by rfl⟩) hHeld ?_
          try simp only [Act.put, List.setIfInBounds_toArray, List.set_cons_zero, List.set_cons_succ]
          refine wpAnyJ_takeL (i := 11) (d := some 34) (v := undef) #[true, true, true, true, true, true, true, true, true, true, true, true, false, false, false, false] (by kernel_rfl) rfl rfl (by kernel_rfl) (by kernel_rfl) (by kernel_rfl) (by kernel_rfl) (by kernel_rfl) (fun _ _ _ h => h) (Or.inr ⟨by rfl, by rfl⟩) hHeld ?_
          try simp only [Act.put, List.setIfInBounds_toArray, List.set_cons_zero, List.set_cons_succ]
          refine wpAnyJ_takeL (i := 12) (d := some 35) (v := undef) #[true, true, true, true, true, true, true, true, true, true, true, true, true, false, false, false] (by kernel_rfl) rfl rfl (by kernel_rfl) (by kernel_rfl) (by kernel_rfl) (by kernel_rfl) (by kernel_rfl) (fun _ _ _ h => h) (Or.inr ⟨by rfl, by rfl⟩) hHeld ?_
          try simp only [Act.put, List.setIfInBounds_toArray, List.set_cons_zero, List.set_cons_succ]
          refine wpAnyJ_takeL (i := 13) (d := some 36) (v := undef) #[true, true, true, true, true, true, true, true, true, true, true, true, true, true, false, false] (by kernel_rfl) rfl rfl (by kernel_rfl) (by kernel_rfl) (by kernel_rfl) (by kernel_rfl) (by kernel_rfl) (fun _ _ _ h => h) (Or.inr ⟨by rfl, by rfl⟩) hHeld ?_
          try simp only [Act.put, List.setIfInBounds_toArray, List.set_cons_zero, List.set_cons_succ]
          refine wpAnyJ_takeL (i := 14) (d := some 37) (v := undef) #[true, true, true, true, true, true, true, true, true, true, true, true, true, true, true, false] (by kernel_rfl) rfl rfl (by kernel_rfl) (by kernel_rfl) (by kernel_rfl) (by kernel_rfl) (by kernel_rfl) (fun _ _ _ h => h) (Or.inr ⟨by rfl, by rfl⟩) hHeld ?_
          try simp only [Act.put, List.setIfInBounds_toArray, List.set_cons_zero, List.set_cons_succ]
          refine wpAnyJ_takeL (i := 15) (d := some 38) (v := ?_) #[true, true, true, true, true, true, true, true, true, true, true, true, true, true, true, true] (by kernel_rfl) rfl rfl (by kernel_rfl) (by kernel_rfl) (by kernel_rfl) (by kernel_rfl) (by kernel_rfl) (fun _ _ _ h => h) (Or.inl ⟨by rfl, ?_⟩) hHeld ?_
          rotate_left
          · (intro w hSw; (try dsimp only at hSw);  go_simp; try with_reducible rfl)
          try simp only [Act.put, List.setIfInBounds_toArray, List.set_cons_zero, List.set_cons_succ]
          refine wpAnyJ_done (by kernel_rfl) ?_ _
          clear hHeld
          go_wp2_with fail
          go_roundg (nn - (i + 1))
          case rel => exact ⟨i + 1, by go_num, by omega, rfl, HV2, HB2.out.drew, HNO⟩
          case measure => omega
        · obtain ⟨pb, poff, x, rfl, hpb, hpx, hcx⟩ := (HO.out.hp.below HB2.out (Nat.le_refl _)).at1 (k := i) hlt
          obtain ⟨pb2, poff2, y, hA2, hpb2, hpy, hcy⟩ := (HO.out.hp.below HB2.out (Nat.le_refl _)).at1 (k := sd) hsdn
          injection hA2 with hA2
          injection hA2 with h1 h2
          subst h1 h2
          have p1 : w2.cell? ⟨pb, poff + i, none⟩ = some (.int .i64 x) := hcx
          have p2 : w2.cell? ⟨pb, poff + sd, none⟩ = some (.int .i64 y) := hcy
          have HPX := Lib.hid (getD_of hpx); have HPY := Lib.hid (getD_of hpy)
          have e7 : w2.cell? ⟨vb, 7, none⟩ = some (.slice (some ⟨pb, poff, none⟩) nn nn) := HV2.out.cell 7
          clear hpx hpy hcx hcy
          refine wp_region_J (S := fun W' => W'.cell? ⟨bq, 1, none⟩ = some (.int .i64 cu) ∧ W'.cell? ⟨vb, 7, none⟩ = some (.slice (some ⟨pb, poff, none⟩) nn nn) ∧ W'.cell? ⟨pb, poff + i, none⟩ = some (.int .i64 x) ∧ W'.cell? ⟨pb, poff + sd, none⟩ = some (.int .i64 y)) (J := []) (by kernel_rfl) ?_ (fun hHeld => ?_)
          · exact ⟨e1, e7, p1, p2⟩
          try dsimp only at hHeld
          refine wpAnyJ_takeL (i := 0) (d := some 23) (v := ?_) #[true, false, false, false, false, false, false, false, false, false, false, false, false, false, false, false] (by kernel_rfl) rfl rfl (by kernel_rfl) (by kernel_rfl) (by kernel_rfl) (by kernel_rfl) (by kernel_rfl) (fun _ _ _ h => h) (Or.inl ⟨by rfl, ?_⟩) hHeld ?_
          rotate_left
          · (intro w hSw; (try dsimp only at hSw);  go_simp; try with_reducible rfl)
          try simp only [Act.put, List.setIfInBounds_toArray, List.set_cons_zero, List.set_cons_succ]
          refine wpAnyJ_takeL (i := 1) (d := some 24) (v := ?_) #[true, true, false, false, false, false, false, false, false, false, false, false, false, false, false, false] (by kernel_rfl) rfl rfl (by kernel_rfl) (by kernel_rfl) (by kernel_rfl) (by kernel_rfl) (by kernel_rfl) (fun _ _ _ h => h) (Or.inl ⟨by rfl, ?_⟩) hHeld ?_
          rotate_left
          · (intro w hSw; (try dsimp only at hSw);  go_simp; try with_reducible rfl)
          try simp only [Act.put, List.setIfInBounds_toArray, List.set_cons_zero, List.set_cons_succ]
          refine wpAnyJ_takeL (i := 2) (d := some 25) (v := ?_) #[true, true, true, false, false, false, false, false, false, false, false, false, false, false, false, false] (by kernel_rfl) rfl rfl (by kernel_rfl) (by kernel_rfl) (by kernel_rfl) (by kernel_rfl) (by kernel_rfl) (fun _ _ _ h => h) (Or.inl ⟨by rfl, ?_⟩) hHeld ?_
          rotate_left
          · (intro w hSw; (try dsimp only at hSw);  go_simp; try with_reducible rfl)
          try simp only [Act.put, List.setIfInBounds_toArray, List.set_cons_zero, List.set_cons_succ]
          refine wpAnyJ_takeL (i := 3) (d := some 26) (v := ?_) #[true, true, true, true, false, false, false, false, false, false, false, false, false, false, false, false] (by kernel_rfl) rfl rfl (by kernel_rfl) (by kernel_rfl) (by kernel_rfl) (by kernel_rfl) (by kernel_rfl) (fun _ _ _ h => h) (Or.inl ⟨by rfl, ?_⟩) hHeld ?_
          rotate_left
          · (intro w hSw; (try dsimp only at hSw);  go_simp; try with_reducible rfl)
          try simp only [Act.put, List.setIfInBounds_toArray, List.set_cons_zero, List.set_cons_succ]
          refine wpAnyJ_takeL (i := 4) (d := some 27) (v := ?_) #[true, true, true, true, true, false, false, false, false, false, false, false, false, false, false, false] (by kernel_rfl) rfl rfl (by kernel_rfl) (by kernel_rfl) (by kernel_rfl) (by kernel_rfl) (by kernel_rfl) (fun _ _ _ h => h) (Or.inl ⟨by rfl, ?_⟩) hHeld ?_
          rotate_left
          · (intro w hSw; (try dsimp only at hSw);  go_simp; try with_reducible rfl)
          try simp only [Act.put, List.setIfInBounds_toArray, List.set_cons_zero, List.set_cons_succ]
          refine wpAnyJ_takeL (i := 5) (d := some 28) (v := ?_) #[true, true, true, true, true, true, false, false, false, false, false, false, false, false, false, false] (by kernel_rfl) rfl rfl (by kernel_rfl) (by kernel_rfl) (by kernel_rfl) (by kernel_rfl) (by kernel_rfl) (fun _ _ _ h => h) (Or.inl ⟨by rfl, ?_⟩) hHeld ?_
          rotate_left
          · (intro w hSw; (try dsimp only at hSw);  go_simp; try with_reducible rfl)
          try simp only [Act.put, List.setIfInBounds_toArray, List.set_cons_zero, List.set_cons_succ]
          refine wpAnyJ_takeL (i := 6) (d := some 29) (v := ?_) #[true, true, true, true, true, true, true, false, false, false, false, false, false, false, false, false] (by kernel_rfl) rfl rfl (by kernel_rfl) (by kernel_rfl) (by kernel_rfl) (by kernel_rfl) (by kernel_rfl) (fun _ _ _ h => h) (Or.inl ⟨by rfl, ?_⟩) hHeld ?_
          rotate_left
          · (intro w hSw; (try dsimp only at hSw);  go_simp; try with_reducible rfl)
          try simp only [Act.put, List.setIfInBounds_toArray, List.set_cons_zero, List.set_cons_succ]
          refine wpAnyJ_takeL (i := 7) (d := some 30) (v := ?_) #[true, true, true, true, true, true, true, true, false, false, false, false, false, false, false, false] (by kernel_rfl) rfl rfl (by kernel_rfl) (by kernel_rfl) (by kernel_rfl) (by kernel_rfl) (by kernel_rfl) (fun _ _ _ h => h) (Or.inl ⟨by rfl, ?_⟩) hHeld ?_
          rotate_left
          · (intro w hSw; (try dsimp only at hSw);  go_simp; try with_reducible rfl)
          try simp only [Act.put, List.setIfInBounds_toArray, List.set_cons_zero, List.set_cons_succ]
          refine wpAnyJ_takeL (i := 8) (d := some 31) (v := ?_) #[true, true, true, true, true, true, true, true, true, false, false, false, false, false, false, false] (by kernel_rfl) rfl rfl (by kernel_rfl) (by kernel_rfl) (by kernel_rfl) (by kernel_rfl) (by kernel_rfl) (fun _ _ _ h => h) (Or.inl ⟨by rfl, ?_⟩) hHeld ?_
          rotate_left
          · (intro w hSw; (try dsimp only at hSw);  go_simp; try with_reducible rfl)
          try simp only [Act.put, List.setIfInBounds_toArray, List.set_cons_zero, List.set_cons_succ]
          refine wpAnyJ_takeL (i := 9) (d := some 32) (v := ?_) #[true, true, true, true, true, true, true, true, true, true, false, false, false, false, false, false] (by kernel_rfl) rfl rfl (by kernel_rfl) (by kernel_rfl) (by kernel_rfl) (by kernel_rfl) (by kernel_rfl) (fun _ _ _ h => h) (Or.inl ⟨by rfl, ?_⟩) hHeld ?_
          rotate_left
          · (intro w hSw; (try dsimp only at hSw);  go_simp; try with_reducible rfl)
          try simp only [Act.put, List.setIfInBounds_toArray, List.set_cons_zero, List.set_cons_succ]
          refine wpAnyJ_takeL (i := 10) (d := some 33) (v := ?_) #[true, true, true, true, true, true, true, true, true, true, true, false, false, false, false, false] (by kernel_rfl) rfl rfl (by kernel_rfl) (by kernel_rfl) (by kernel_rfl) (by kernel_rfl) (by kernel_rfl) (fun _ _ _ h => h) (Or.inl ⟨by rfl, ?_⟩) hHeld ?_
          rotate_left
          · (intro w hSw; (try dsimp only at hSw);  go_simp; try with_reducible rfl)
          try simp only [Act.put, List.setIfInBounds_toArray, List.set_cons_zero, List.set_cons_succ]
          refine wpAnyJ_takeL (i := 11) (d := some 34) (v := ?_) #[true, true, true, true, true, true, true, true, true, true, true, true, false, false, false, false] (by kernel_rfl) rfl rfl (by kernel_rfl) (by kernel_rfl) (by kernel_rfl) (by kernel_rfl) (by kernel_rfl) (fun _ _ _ h => h) (Or.inl ⟨by rfl, ?_⟩) hHeld ?_
          rotate_left
          · (intro w hSw; (try dsimp only at hSw);  go_simp; try with_reducible rfl)
          try simp only [Act.put, List.setIfInBounds_toArray, List.set_cons_zero, List.set_cons_succ]
          refine wpAnyJ_takeL (i := 12) (d := some 35) (v := ?_) #[true, true, true, true, true, true, true, true, true, true, true, true, true, false, false, false] (by kernel_rfl) rfl rfl (by kernel_rfl) (by kernel_rfl) (by kernel_rfl) (by kernel_rfl) (by kernel_rfl) (fun _ _ _ h => h) (Or.inl ⟨by rfl, ?_⟩) hHeld ?_
          rotate_left
          · (intro w hSw; (try dsimp only at hSw);  go_simp; try with_reducible rfl)
          try simp only [Act.put, List.setIfInBounds_toArray, List.set_cons_zero, List.set_cons_succ]
          refine wpAnyJ_takeL (i := 13) (d := some 36) (v := ?_) #[true, true, true, true, true, true, true, true, true, true, true, true, true, true, false, false] (by kernel_rfl) rfl rfl (by kernel_rfl) (by kernel_rfl) (by kernel_rfl) (by kernel_rfl) (by kernel_rfl) (fun _ _ _ h => h) (Or.inl ⟨by rfl, ?_⟩) hHeld ?_
          rotate_left
          · (intro w hSw; (try dsimp only at hSw);  go_simp; try with_reducible rfl)
          try simp only [Act.put, List.setIfInBounds_toArray, List.set_cons_zero, List.set_cons_succ]
          refine wpAnyJ_takeL (i := 14) (d := some 37) (v := ?_) #[true, true, true, true, true, true, true, true, true, true, true, true, true, true, true, false] (by kernel_rfl) rfl rfl (by kernel_rfl) (by kernel_rfl) (by kernel_rfl) (by kernel_rfl) (by kernel_rfl) (fun _ _ _ h => h) (Or.inl ⟨by rfl, ?_⟩) hHeld ?_
          rotate_left
          · (intro w hSw; (try dsimp only at hSw);  go_simp; try with_reducible rfl)
          try simp only [Act.put, List.setIfInBounds_toArray, List.set_cons_zero, List.set_cons_succ]
          refine wpAnyJ_takeL (i := 15) (d := some 38) (v := ?_) #[true, true, true, true, true, true, true, true, true, true, true, true, true, true, true, true] (by kernel_rfl) rfl rfl (by kernel_rfl) (by kernel_rfl) (by kernel_rfl) (by kernel_rfl) (by kernel_rfl) (fun _ _ _ h => h) (Or.inl ⟨by rfl, ?_⟩) hHeld ?_
          rotate_left
          · (intro w hSw; (try dsimp only at hSw);  go_simp; try with_reducible rfl)
          try simp only [Act.put, List.setIfInBounds_toArray, List.set_cons_zero, List.set_cons_succ]
          refine wpAnyJ_done (by kernel_rfl) ?_ _
          clear hHeld
          by_cases hxy : x = y
          · subst hxy
            have HR : Hid (loadB kd a b ns parts op = true) := HLB.out true ⟨fun _ => (HLT.out _).2 ⟨i, _, by rw [HLN.out]; exact hlt, HX.out, hcu, by rw [HPX.out, HPY.out]⟩, fun _ => rfl⟩
            go_wp2_with fail
            go_ret
            exact ⟨ret_bool (by rw [HR.out]), HB2.out.drew⟩
          · have qxy : (x == y) = false := by simpa using hxy
            have HNO : Hid (¬ loadTo kd a b ns parts op (i + 1)) := fun hc => by
              obtain ⟨t, z, ht, hz, hz2, hz3⟩ := (HLT.out _).1 hc
              rcases Nat.lt_succ_iff_lt_or_eq.1 ht with h | rfl
              · exact hno.out ((HLT.out _).2 ⟨t, z, h, hz, hz2, hz3⟩)
              · rw [HPX.out, HPY.out] at hz3; exact hxy hz3
            clear hxy
            go_wp2_with fail
            go_roundg (nn - (i + 1))
            case rel => exact ⟨i + 1, by go_num, by omega, rfl, HV2, HB2.out.drew, HNO⟩
            case measure => omega
      · obtain rfl : i = nn := by omega
        have hii : decide (i < i) = false := by simp
        have HR : Hid (loadB kd a b ns parts op = false) := HLB.out false ⟨(fun h => by cases h), (fun h => by rw [HLN.out] at h; exact absurd h hno.out)⟩
        go_wp2_with fail
        go_ret
        exact ⟨ret_bool (by rw [HR.out]), hbl.out⟩
end Go.Proofs.YtddjifkmaogpiaaDoor
