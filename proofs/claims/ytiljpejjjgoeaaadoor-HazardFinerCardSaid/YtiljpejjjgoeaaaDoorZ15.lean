import Derived.Test.YtiljpejjjgoeaaaDoorZ14
import Derived.Laws.EntriesVeiled
/-
  Layer 12: walks of parallel, dead, charging, load.
-/
namespace Go.Proofs.YtiljpejjjgoeaaaDoor
open Go.RowKit
def parB (kd a b : Int) (parts op : List Int) : Bool := sOk kd a b parts && sL0 kd a op && sL1 kd a b op
def dOk (kd a b : Int) (parts op : List Int) : Bool := sOk kd a b parts && !(sL0 kd a op == sL1 kd a b op)
def dN (kd a b : Int) (parts op : List Int) : Int := if dOk kd a b parts op = true then (if sL0 kd a op = true then sN1 kd a b else sN0 kd a) else 0
set_option maxRecDepth 100000 in
set_option maxHeartbeats 2000000 in
theorem parallel_any (An Ad Ap Ao Ac : Option Addr) (nn cn nd cd : Nat) (nm : ByteArray) (kd a b co : Int) (parts op cl : List Int) (w : World) (h : VwOk w nn kd a b Ap Ao Ac parts op cl) :
    Calls Tryd.prog 72 #[.agg (vwC An nn cn Ad nd cd nm kd a b co Ap Ao Ac)] w fun e w' => e = .returned (.bool (parB kd a b parts op)) ∧ Below w.heap.size w w' := by
  have HSD := Lib.hid (sides_any An Ad Ap Ao Ac nn cn nd cd nm kd a b co parts op cl (w.alloc (.cells (vwC An nn cn Ad nd cd nm kd a b co Ap Ao Ac) 117)) (h.alloc _))
  have HB : Hid (Below w.heap.size w (w.alloc (.cells (vwC An nn cn Ad nd cd nm kd a b co Ap Ao Ac) 117))) := (Below.refl _ _).alloc (Nat.le_refl _) _
  have HP : Hid (parB kd a b parts op = (sOk kd a b parts && sL0 kd a op && sL1 kd a b op)) := rfl
  clear h
  simp only [vwC] at HSD HB ⊢
  generalize sOk kd a b parts = ok at *
  generalize sL0 kd a op = l0 at *
  generalize sL1 kd a b op = l1 at *
  go_enter Tryd.func72, Tryd.ntmps72
  go_wp2_with fail
  refine HSD.out.mono ?_
  rintro e w1 ⟨rfl, hb1⟩
  have HB1 := Lib.hid (HB.out.trans (hb1.mono HB.out.size))
  have hz := HB1.out.size
  clear hb1 HB HSD
  rcases ok with _ | _
  · go_wp2_with fail
    go_ret
    exact ⟨ret_bool (by rw [HP.out]; rfl), (HB1.out.alloc hz _).alloc (by simp; omega) _⟩
  · rcases l0 with _ | _
    · go_wp2_with fail
      go_ret
      exact ⟨ret_bool (by rw [HP.out]; rfl), (HB1.out.alloc hz _).alloc (by simp; omega) _⟩
    · go_wp2_with fail
      go_ret
      exact ⟨ret_bool (by rw [HP.out]; simp), (HB1.out.alloc hz _).alloc (by simp; omega) _⟩
def DeadPost (w : World) (n : Int) (ok : Bool) (e : Ending) (w' : World) : Prop := e = .returned (.tuple #[.int .i64 n, .bool ok]) ∧ Below w.heap.size w w'
set_option maxRecDepth 100000 in
set_option maxHeartbeats 2000000 in
theorem dead_any (An Ad Ap Ao Ac : Option Addr) (nn cn nd cd : Nat) (nm : ByteArray) (kd a b co : Int) (parts op cl : List Int) (w : World) (h : VwOk w nn kd a b Ap Ao Ac parts op cl) :
    Calls Tryd.prog 90 #[.agg (vwC An nn cn Ad nd cd nm kd a b co Ap Ao Ac)] w (DeadPost w (dN kd a b parts op) (dOk kd a b parts op)) := by
  have HSD := Lib.hid (sides_any An Ad Ap Ao Ac nn cn nd cd nm kd a b co parts op cl (w.alloc (.cells (vwC An nn cn Ad nd cd nm kd a b co Ap Ao Ac) 117)) (h.alloc _))
  have HB : Hid (Below w.heap.size w (w.alloc (.cells (vwC An nn cn Ad nd cd nm kd a b co Ap Ao Ac) 117))) := (Below.refl _ _).alloc (Nat.le_refl _) _
  have HP : Hid (dOk kd a b parts op = (sOk kd a b parts && !(sL0 kd a op == sL1 kd a b op)) ∧ dN kd a b parts op = if dOk kd a b parts op = true then (if sL0 kd a op = true then sN1 kd a b else sN0 kd a) else 0) := ⟨rfl, rfl⟩
  clear h
  simp only [vwC] at HSD HB ⊢
  generalize sOk kd a b parts = ok at *
  generalize sL0 kd a op = l0 at *
  generalize sL1 kd a b op = l1 at *
  generalize sN0 kd a = n0 at *
  generalize sN1 kd a b = n1 at *
  generalize dN kd a b parts op = dn at *
  generalize dOk kd a b parts op = dk at *
  go_enter Tryd.func90, Tryd.ntmps90
  go_wp2_with fail
  refine HSD.out.mono ?_
  rintro e w1 ⟨rfl, hb1⟩
  have HB1 := Lib.hid (HB.out.trans (hb1.mono HB.out.size))
  have hz := HB1.out.size
  clear hb1 HB HSD
  have HBF : Hid (∀ (x y : Obj), Below w.heap.size w ((w1.alloc x).alloc y)) := fun x y => (HB1.out.alloc hz _).alloc (by simp; omega) _
  rcases ok with _ | _
  · go_wp2_with fail
    go_ret2
    exact ⟨by rw [HP.out.2, HP.out.1]; rfl, HBF.out _ _⟩
  · rcases l0 with _ | _ <;> rcases l1 with _ | _ <;>
    · go_wp2_with fail
      go_ret2
      exact ⟨by rw [HP.out.2, HP.out.1]; rfl, HBF.out _ _⟩
set_option maxRecDepth 100000 in
set_option maxHeartbeats 2000000 in
theorem charging_any (An Ad Ap Ao Ac : Option Addr) (nn cn nd cd : Nat) (nm : ByteArray) (kd a b co : Int) (parts op cl : List Int) (w : World) (h : VwOk w nn kd a b Ap Ao Ac parts op cl) :
    Calls Tryd.prog 74 #[.agg (vwC An nn cn Ad nd cd nm kd a b co Ap Ao Ac)] w fun e w' => e = .returned (.bool (dOk kd a b parts op)) ∧ Below w.heap.size w w' := by
  have HSD := Lib.hid (dead_any An Ad Ap Ao Ac nn cn nd cd nm kd a b co parts op cl (w.alloc (.cells (vwC An nn cn Ad nd cd nm kd a b co Ap Ao Ac) 117)) (h.alloc _))
  have HB : Hid (Below w.heap.size w (w.alloc (.cells (vwC An nn cn Ad nd cd nm kd a b co Ap Ao Ac) 117))) := (Below.refl _ _).alloc (Nat.le_refl _) _
  clear h
  simp only [vwC] at HSD HB ⊢
  generalize dN kd a b parts op = dn at *
  generalize dOk kd a b parts op = dk at *
  go_enter Tryd.func74, Tryd.ntmps74
  go_wp2_with fail
  refine HSD.out.mono ?_
  rintro e w1 ⟨rfl, hb1⟩
  have HB1 := Lib.hid (HB.out.trans (hb1.mono HB.out.size))
  clear hb1 HB HSD
  go_wp2_with fail
  go_ret
  exact ⟨rfl, HB1.out⟩
theorem dN_ok {kd a b : Int} {parts op : List Int} (h : dOk kd a b parts op = true) : dN kd a b parts op = a ∨ (joinsB kd = true ∧ dN kd a b parts op = b) := by
  unfold dN
  rw [if_pos h]
  unfold dOk sOk sL0 sL1 at h
  unfold sL0 sN1 sN0
  by_cases h4 : kd = 4
  · rw [if_pos h4] at h; cases h
  · simp only [if_neg h4] at h ⊢
    rcases hj : joinsB kd with _ | _
    · simp
    · simp only [hj] at h ⊢
      simp
      rcases lvB op a with _ | _ <;> simp
/-- Some node of the dead side has customers. -/
def loadTo (kd a b : Int) (ns : List Nd) (parts op : List Int) (j : Nat) : Prop := ∃ (i : Nat) (x : Nd), i < j ∧ ns[i]? = some x ∧ 0 < x.cust ∧ parts.getD i 0 = parts.getD (dN kd a b parts op).toNat 0
open Classical in
noncomputable def loadB (kd a b : Int) (ns : List Nd) (parts op : List Int) : Bool := dOk kd a b parts op && decide (loadTo kd a b ns parts op ns.length)
def LoR (w : World) (V : Array Value) (vb nn : Nat) (kd a b : Int) (ns : List Nd) (parts op : List Int) (gk : Nat) (iv : Value) (wr : World) : Prop := ∃ i : Nat, iv = .int .i64 i ∧ i ≤ nn ∧ gk = nn - i ∧ Hid (Blk wr vb 117 V) ∧ Hid (Below w.heap.size w wr) ∧ Hid (¬ loadTo kd a b ns parts op i)
set_option maxRecDepth 100000 in
set_option maxHeartbeats 4000000 in
theorem load_any (An Ad Ap Ao Ac : Option Addr) (nn cn nd cd : Nat) (nm : ByteArray) (kd a b co : Int) (ns : List Nd) (parts op cl : List Int) (w : World) (h : VwOk w nn kd a b Ap Ao Ac parts op cl) (hn : Sl w w.heap.size 3 An nn cn (ns.flatMap Nd.cells)) :
    Calls Tryd.prog 73 #[.agg (vwC An nn cn Ad nd cd nm kd a b co Ap Ao Ac)] w fun e w' => e = .returned (.bool (loadB kd a b ns parts op)) ∧ Below w.heap.size w w' := by
  have HSD := Lib.hid (dead_any An Ad Ap Ao Ac nn cn nd cd nm kd a b co parts op cl (w.alloc (.cells (vwC An nn cn Ad nd cd nm kd a b co Ap Ao Ac) 117)) (h.alloc _))
  have HB : Hid (Below w.heap.size w (w.alloc (.cells (vwC An nn cn Ad nd cd nm kd a b co Ap Ao Ac) 117))) := (Below.refl _ _).alloc (Nat.le_refl _) _
  have HV := Lib.hid (Blk.new w 117 (vwC An nn cn Ad nd cd nm kd a b co Ap Ao Ac))
  have HLN := Lib.hid (hn.len (fun _ => rfl) (by decide))
  have hnm := hn.le
  have HO := Lib.hid h; have HN := Lib.hid hn
  clear h hn
  simp only [vwC] at HSD HB HV ⊢
  rcases hk : dOk kd a b parts op with _ | _
  · have HR : Hid (loadB kd a b ns parts op = false) := by unfold Hid loadB; rw [hk]; rfl
    rw [hk] at HSD
    clear hk
    generalize dN kd a b parts op = dn at *
    go_enter Tryd.func73, Tryd.ntmps73
    go_wp2_with fail
    refine HSD.out.mono ?_
    rintro e w1 ⟨rfl, hb1⟩
    have HB1 := Lib.hid (HB.out.trans (hb1.mono HB.out.size))
    clear hb1 HB HSD
    go_wp2_with fail
    go_ret
    exact ⟨ret_bool (by rw [HR.out]), HB1.out⟩
  · have hdn : 0 ≤ dN kd a b parts op ∧ dN kd a b parts op < nn := by
      rcases dN_ok hk with e | ⟨hj, e⟩ <;> rw [e]
      · exact HO.out.a0
      · exact HO.out.b0 hj
    have HLB : Hid (∀ t : Bool, (t = true ↔ loadTo kd a b ns parts op ns.length) → loadB kd a b ns parts op = t) := by
      intro t ht
      unfold loadB
      rw [hk]
      rw [Bool.eq_iff_iff, ht]
      simp
    rw [hk] at HSD
    clear hk
    obtain ⟨sd, hsd⟩ := Int.eq_ofNat_of_zero_le hdn.1
    have HLT : Hid (∀ j, loadTo kd a b ns parts op j ↔ ∃ (i : Nat) (x : Nd), i < j ∧ ns[i]? = some x ∧ 0 < x.cust ∧ parts.getD i 0 = parts.getD sd 0) := fun j => by unfold loadTo; rw [hsd, Int.toNat_natCast]
    rw [hsd] at HSD hdn
    have hsdn : sd < nn := by omega
    clear hsd hdn
    have hnn0 := HO.out.n0
    go_enter Tryd.func73, Tryd.ntmps73
    go_wp2_with fail
    refine HSD.out.mono ?_
    rintro e w1 ⟨rfl, hb1⟩
    have HB1 := Lib.hid (HB.out.trans (hb1.mono HB.out.size))
    have HV1 := Lib.hid (HV.out.below hb1 HV.out.lt)
    clear hb1 HB HSD HV
    obtain ⟨vb, hvb⟩ : ∃ vb, vb = w.heap.size := ⟨_, rfl⟩
    rw [← hvb] at HV1 ⊢
    have HVB := Lib.hid hvb; clear hvb
    have e0 : w1.cell? ⟨vb, 0, none⟩ = some (.slice An nn cn) := HV1.out.cell 0
    go_wp2_with fail
    clear e0
    go_loopg [18] nn (LoR w #[.slice An nn cn, .slice Ad nd cd, .string nm, .int .i64 kd, .int .i64 a, .int .i64 b, .int .i64 co, .slice Ap nn nn, .slice Ao nn nn, .slice Ac nn nn] vb nn kd a b ns parts op)
    case atStart => exact ⟨0, rfl, Nat.zero_le _, rfl, HV1, HB1, fun hc => by obtain ⟨i, x, hi, _⟩ := hc; omega⟩
    case round =>
      clear HV1 HB1
      obtain ⟨i, rfl, hi, rfl, hv, hbl, hno⟩ := hrel
      by_cases hlt : i < nn
      · obtain ⟨b0, off, nd0, rfl, hb, hx, hc⟩ := (HN.out.below hbl.out (Nat.le_refl _)).at (fun _ => rfl) (by decide) hlt
        have HX := Lib.hid hx
        obtain ⟨nm2, cu, co2⟩ := nd0
        have c0 : wr.cell? ⟨b0, off + i * 3, none⟩ = some (.string nm2) := hc 0 _ rfl
        have c1 : wr.cell? ⟨b0, off + i * 3 + 1, none⟩ = some (.int .i64 cu) := hc 1 _ rfl
        have c2 : wr.cell? ⟨b0, off + i * 3 + 2, none⟩ = some (.int .i64 co2) := hc 2 _ rfl
        clear hc hx
        have hzw := hbl.out.size
        go_upto_region 7 with (fail)
        clear c0 c1 c2
        have HK := Lib.hid (Blk.new wr 49 #[.string nm2, .int .i64 cu, .int .i64 co2])
        have HV2 := Lib.hid (hv.out.alloc (.cells #[.string nm2, .int .i64 cu, .int .i64 co2] 49))
        have HB2 := Lib.hid (hbl.out.alloc hzw (.cells #[.string nm2, .int .i64 cu, .int .i64 co2] 49))
        generalize World.alloc _ _ = w2 at *
        obtain ⟨bq, hbq⟩ : ∃ bq, bq = wr.heap.size := ⟨_, rfl⟩
        rw [← hbq] at HK ⊢
        clear hbq hv hbl hzw
        have e1 : w2.cell? ⟨bq, 1, none⟩ = some (.int .i64 cu) := HK.out.cell 1
        by_cases hcu : 0 < cu; rotate_left
        · have qcu : decide (0 < cu) = false := by simpa using hcu
          have HNO : Hid (¬ loadTo kd a b ns parts op (i + 1)) := fun hc => by
            obtain ⟨t, x, ht, hx, hx2, hx3⟩ := (HLT.out _).1 hc
            rcases Nat.lt_succ_iff_lt_or_eq.1 ht with h | rfl
            · exact hno.out ((HLT.out _).2 ⟨t, x, h, hx, hx2, hx3⟩)
            · rw [HX.out] at hx; injection hx with hx; subst hx; exact hcu hx2
          refine wp_region_J (S := fun W' => W'.cell? ⟨bq, 1, none⟩ = some (.int .i64 cu)) (J := []) (by kernel_rfl) ?_ (fun hHeld => ?_)
          · exact e1
          try dsimp only at hHeld
          refine wpAnyJ_takeL (i := 0) (d := some 23) (v := ?_) #[true, false, false, false, false, false, false, false, false, false, false, false, false, false, false, false] (by kernel_rfl) rfl rfl (by kernel_rfl) (by kernel_rfl) (by kernel_rfl) (by kernel_rfl) (by kernel_rfl) (fun _ _ _ h => h) (Or.inl ⟨by rfl, ?_⟩) hHeld ?_
          rotate_left
          · (intro w hSw; (try dsimp only at hSw);  go_simp; try with_reducible rfl)
          try simp only [Act.put, List.setIfInBounds_toArray, List.set_cons_zero, List.set_cons_succ]
          refine wpAnyJ_takeL (i := 1) (d := some 24) (v := ?_) #[true, true, false, false, false, false, false, false, false, false, false, false, false, false, false, false] (by kernel_rfl) rfl rfl (by kernel_rfl) (by kernel_rfl) (by kernel_rfl) (by kernel_rfl) (by kernel_rfl) (fun _ _ _ h => h) (Or.inl ⟨by rfl, ?_⟩) hHeld ?_
          rotate_left
          · (intro w hSw; (try dsimp only at hSw);  go_simp; try with_reducible rfl)
          try simp only [Act.put, List.setIfInBounds_toArray, List.set_cons_zero, List.set_cons_succ]
          refine wpAnyJ_takeL (i := 2) (d := some 25) (v := ?_) #[true, true, true, false, false, false, false, false, false, false, false, false, false, false, false, false] (by kernel_rfl) rfl rfl (by kernel_rfl) (by kernel_rfl) (by kernel_rfl) (by kernel_rfl) (by kernel_rfl) (fun _ _ _ h => h) (Or.inl ⟨by rfl, ?_⟩) hHeld ?_
          rotate_left
          · (intro w hSw; (try dsimp only at hSw);  go_simp; try with_reducible rfl)
          try simp only [Act.put, List.setIfInBounds_toArray, List.set_cons_zero, List.set_cons_succ]
          refine wpAnyJ_takeL (i := 3) (d := some 26) (v := ?_) #[true, true, true, true, false, false, false, false, false, false, false, false, false, false, false, false] (by kernel_rfl) rfl rfl (by kernel_rfl) (by kernel_rfl) (by kernel_rfl) (by kernel_rfl) (by kernel_rfl) (fun _ _ _ h => h) (Or.inl ⟨by rfl, ?_⟩) hHeld ?_
          rotate_left
          · (intro w hSw; (try dsimp only at hSw);  go_simp; try with_reducible rfl)
          try simp only [Act.put, List.setIfInBounds_toArray, List.set_cons_zero, List.set_cons_succ]
          refine wpAnyJ_takeL (i := 4) (d := some 27) (v := undef) #[true, true, true, true, true, false, false, false, false, false, false, false, false, false, false, false] (by kernel_rfl) rfl rfl (by kernel_rfl) (by kernel_rfl) (by kernel_rfl) (by kernel_rfl) (by kernel_rfl) (fun _ _ _ h => h) (Or.inr ⟨by rfl, by rfl⟩) hHeld ?_
          try simp only [Act.put, List.setIfInBounds_toArray, List.set_cons_zero, List.set_cons_succ]
          refine wpAnyJ_takeL (i := 5) (d := some 28) (v := undef) #[true, true, true, true, true, true, false, false, false, false, false, false, false, false, false, false] (by kernel_rfl) rfl rfl (by kernel_rfl) (by kernel_rfl) (by kernel_rfl) (by kernel_rfl) (by kernel_rfl) (fun _ _ _ h => h) (Or.inr ⟨by rfl, by rfl⟩) hHeld ?_
          try simp only [Act.put, List.setIfInBounds_toArray, List.set_cons_zero, List.set_cons_succ]
          refine wpAnyJ_takeL (i := 6) (d := some 29) (v := undef) #[true, true, true, true, true, true, true, false, false, false, false, false, false, false, false, false] (by kernel_rfl) rfl rfl (by kernel_rfl) (by kernel_rfl) (by kernel_rfl) (by kernel_rfl) (by kernel_rfl) (fun _ _ _ h => h) (Or.inr ⟨by rfl, by rfl⟩) hHeld ?_
          try simp only [Act.put, List.setIfInBounds_toArray, List.set_cons_zero, List.set_cons_succ]
          refine wpAnyJ_takeL (i := 7) (d := some 30) (v := undef) #[true, true, true, true, true, true, true, true, false, false, false, false, false, false, false, false] (by kernel_rfl) rfl rfl (by kernel_rfl) (by kernel_rfl) (by kernel_rfl) (by kernel_rfl) (by kernel_rfl) (fun _ _ _ h => h) (Or.inr ⟨by rfl, by rfl⟩) hHeld ?_
          try simp only [Act.put, List.setIfInBounds_toArray, List.set_cons_zero, List.set_cons_succ]
          refine wpAnyJ_takeL (i := 8) (d := some 31) (v := undef) #[true, true, true, true, true, true, true, true, true, false, false, false, false, false, false, false] (by kernel_rfl) rfl rfl (by kernel_rfl) (by kernel_rfl) (by kernel_rfl) (by kernel_rfl) (by kernel_rfl) (fun _ _ _ h => h) (Or.inr ⟨by rfl, by rfl⟩) hHeld ?_
          try simp only [Act.put, List.setIfInBounds_toArray, List.set_cons_zero, List.set_cons_succ]
          refine wpAnyJ_takeL (i := 9) (d := some 32) (v := undef) #[true, true, true, true, true, true, true, true, true, true, false, false, false, false, false, false] (by kernel_rfl) rfl rfl (by kernel_rfl) (by kernel_rfl) (by kernel_rfl) (by kernel_rfl) (by kernel_rfl) (fun _ _ _ h => h) (Or.inr ⟨by rfl, by rfl⟩) hHeld ?_
          try simp only [Act.put, List.setIfInBounds_toArray, List.set_cons_zero, List.set_cons_succ]
          refine wpAnyJ_takeL (i := 10) (d := some 33) (v := undef) #[true, true, true, true, true, true, true, true, true, true, true, false, false, false, false, false] (by kernel_rfl) rfl rfl (by kernel_rfl) (by kernel_rfl) (by kernel_rfl) (by kernel_rfl) (by kernel_rfl) (fun _ _ _ h => h) (Or.inr ⟨by rfl, by rfl⟩) hHeld ?_
          try simp only [Act.put, List.setIfInBounds_toArray, List.set_cons_zero, List.set_cons_succ]
          refine wpAnyJ_takeL (i := 11) (d := some 34) (v := undef) #[true, true, true, true, true, true, true, true, true, true, true, true, false, false, false, false] (by kernel_rfl) rfl rfl (by kernel_rfl) (by kernel_rfl) (by kernel_rfl) (by kernel_rfl) (by kernel_rfl) (fun _ _ _ h => h) (Or.inr ⟨by rfl, by rfl⟩) hHeld ?_
          try simp only [Act.put, List.setIfInBounds_toArray, List.set_cons_zero, List.set_cons_succ]
          refine wpAnyJ_takeL (i := 12) (d := some 35) (v := undef) #[true, true, true, true, true, true, true, true, true, true, true, true, true, false, false, false] (by kernel_rfl) rfl rfl (by kernel_rfl) (by kernel_rfl) (by kernel_rfl) (by kernel_rfl) (by kernel_rfl) (fun _ _ _ h => h) (Or.inr ⟨by rfl, by rfl⟩) hHeld ?_
          try simp only [Act.put, List.setIfInBounds_toArray, List.set_cons_zero, List.set_cons_succ]
          refine wpAnyJ_takeL (i := 13) (d := some 36) (v := undef) #[true, true, true, true, true, true, true, true, true, true, true, true, true, true, false, false] (by kernel_rfl) rfl rfl (by kernel_rfl) (by kernel_rfl) (by kernel_rfl) (by kernel_rfl) (by kernel_rfl) (fun _ _ _ h => h) (Or.inr ⟨by rfl, by rfl⟩) hHeld ?_
          try simp only [Act.put, List.setIfInBounds_toArray, List.set_cons_zero, List.set_cons_succ]
          refine wpAnyJ_takeL (i := 14) (d := some 37) (v := undef) #[true, true, true, true, true, true, true, true, true, true, true, true, true, true, true, false] (by kernel_rfl) rfl rfl (by kernel_rfl) (by kernel_rfl) (by kernel_rfl) (by kernel_rfl) (by kernel_rfl) (fun _ _ _ h => h) (Or.inr ⟨by rfl, by rfl⟩) hHeld ?_
          try simp only [Act.put, List.setIfInBounds_toArray, List.set_cons_zero, List.set_cons_succ]
          refine wpAnyJ_takeL (i := 15) (d := some 38) (v := ?_) #[true, true, true, true, true, true, true, true, true, true, true, true, true, true, true, true] (by kernel_rfl) rfl rfl (by kernel_rfl) (by kernel_rfl) (by kernel_rfl) (by kernel_rfl) (by kernel_rfl) (fun _ _ _ h => h) (Or.inl ⟨by rfl, ?_⟩) hHeld ?_
          rotate_left
          · (intro w hSw; (try dsimp only at hSw);  go_simp; try with_reducible rfl)
          try simp only [Act.put, List.setIfInBounds_toArray, List.set_cons_zero, List.set_cons_succ]
          refine wpAnyJ_done (by kernel_rfl) ?_ _
          clear hHeld
          go_wp2_with fail
          go_roundg (nn - (i + 1))
          case rel => exact ⟨i + 1, by go_num, by omega, rfl, HV2, HB2.out.drew, HNO⟩
          case measure => omega
        · obtain ⟨pb, poff, x, rfl, hpb, hpx, hcx⟩ := (HO.out.hp.below HB2.out (Nat.le_refl _)).at1 (k := i) hlt
          obtain ⟨pb2, poff2, y, hA2, hpb2, hpy, hcy⟩ := (HO.out.hp.below HB2.out (Nat.le_refl _)).at1 (k := sd) hsdn
          injection hA2 with hA2
          injection hA2 with h1 h2
          subst h1 h2
          have p1 : w2.cell? ⟨pb, poff + i, none⟩ = some (.int .i64 x) := hcx
          have p2 : w2.cell? ⟨pb, poff + sd, none⟩ = some (.int .i64 y) := hcy
          have HPX := Lib.hid (getD_of hpx); have HPY := Lib.hid (getD_of hpy)
          have e7 : w2.cell? ⟨vb, 7, none⟩ = some (.slice (some ⟨pb, poff, none⟩) nn nn) := HV2.out.cell 7
          clear hpx hpy hcx hcy
          refine wp_region_J (S := fun W' => W'.cell? ⟨bq, 1, none⟩ = some (.int .i64 cu) ∧ W'.cell? ⟨vb, 7, none⟩ = some (.slice (some ⟨pb, poff, none⟩) nn nn) ∧ W'.cell? ⟨pb, poff + i, none⟩ = some (.int .i64 x) ∧ W'.cell? ⟨pb, poff + sd, none⟩ = some (.int .i64 y)) (J := []) (by kernel_rfl) ?_ (fun hHeld => ?_)
          · exact ⟨e1, e7, p1, p2⟩
          try dsimp only at hHeld
          refine wpAnyJ_takeL (i := 0) (d := some 23) (v := ?_) #[true, false, false, false, false, false, false, false, false, false, false, false, false, false, false, false] (by kernel_rfl) rfl rfl (by kernel_rfl) (by kernel_rfl) (by kernel_rfl) (by kernel_rfl) (by kernel_rfl) (fun _ _ _ h => h) (Or.inl ⟨by rfl, ?_⟩) hHeld ?_
          rotate_left
          · (intro w hSw; (try dsimp only at hSw);  go_simp; try with_reducible rfl)
          try simp only [Act.put, List.setIfInBounds_toArray, List.set_cons_zero, List.set_cons_succ]
          refine wpAnyJ_takeL (i := 1) (d := some 24) (v := ?_) #[true, true, false, false, false, false, false, false, false, false, false, false, false, false, false, false] (by kernel_rfl) rfl rfl (by kernel_rfl) (by kernel_rfl) (by kernel_rfl) (by kernel_rfl) (by kernel_rfl) (fun _ _ _ h => h) (Or.inl ⟨by rfl, ?_⟩) hHeld ?_
          rotate_left
          · (intro w hSw; (try dsimp only at hSw);  go_simp; try with_reducible rfl)
          try simp only [Act.put, List.setIfInBounds_toArray, List.set_cons_zero, List.set_cons_succ]
          refine wpAnyJ_takeL (i := 2) (d := some 25) (v := ?_) #[true, true, true, false, false, false, false, false, false, false, false, false, false, false, false, false] (by kernel_rfl) rfl rfl (by kernel_rfl) (by kernel_rfl) (by kernel_rfl) (by kernel_rfl) (by kernel_rfl) (fun _ _ _ h => h) (Or.inl ⟨by rfl, ?_⟩) hHeld ?_
          rotate_left
          · (intro w hSw; (try dsimp only at hSw);  go_simp; try with_reducible rfl)
          try simp only [Act.put, List.setIfInBounds_toArray, List.set_cons_zero, List.set_cons_succ]
          refine wpAnyJ_takeL (i := 3) (d := some 26) (v := ?_) #[true, true, true, true, false, false, false, false, false, false, false, false, false, false, false, false] (by kernel_rfl) rfl rfl (by kernel_rfl) (by kernel_rfl) (by kernel_rfl) (by kernel_rfl) (by kernel_rfl) (fun _ _ _ h => h) (Or.inl ⟨by rfl, ?_⟩) hHeld ?_
          rotate_left
          · (intro w hSw; (try dsimp only at hSw);  go_simp; try with_reducible rfl)
          try simp only [Act.put, List.setIfInBounds_toArray, List.set_cons_zero, List.set_cons_succ]
          refine wpAnyJ_takeL (i := 4) (d := some 27) (v := ?_) #[true, true, true, true, true, false, false, false, false, false, false, false, false, false, false, false] (by kernel_rfl) rfl rfl (by kernel_rfl) (by kernel_rfl) (by kernel_rfl) (by kernel_rfl) (by kernel_rfl) (fun _ _ _ h => h) (Or.inl ⟨by rfl, ?_⟩) hHeld ?_
          rotate_left
          · (intro w hSw; (try dsimp only at hSw);  go_simp; try with_reducible rfl)
          try simp only [Act.put, List.setIfInBounds_toArray, List.set_cons_zero, List.set_cons_succ]
          refine wpAnyJ_takeL (i := 5) (d := some 28) (v := ?_) #[true, true, true, true, true, true, false, false, false, false, false, false, false, false, false, false] (by kernel_rfl) rfl rfl (by kernel_rfl) (by kernel_rfl) (by kernel_rfl) (by kernel_rfl) (by kernel_rfl) (fun _ _ _ h => h) (Or.inl ⟨by rfl, ?_⟩) hHeld ?_
          rotate_left
          · (intro w hSw; (try dsimp only at hSw);  go_simp; try with_reducible rfl)
          try simp only [Act.put, List.setIfInBounds_toArray, List.set_cons_zero, List.set_cons_succ]
          refine wpAnyJ_takeL (i := 6) (d := some 29) (v := ?_) #[true, true, true, true, true, true, true, false, false, false, false, false, false, false, false, false] (by kernel_rfl) rfl rfl (by kernel_rfl) (by kernel_rfl) (by kernel_rfl) (by kernel_rfl) (by kernel_rfl) (fun _ _ _ h => h) (Or.inl ⟨by rfl, ?_⟩) hHeld ?_
          rotate_left
          · (intro w hSw; (try dsimp only at hSw);  go_simp; try with_reducible rfl)
          try simp only [Act.put, List.setIfInBounds_toArray, List.set_cons_zero, List.set_cons_succ]
          refine wpAnyJ_takeL (i := 7) (d := some 30) (v := ?_) #[true, true, true, true, true, true, true, true, false, false, false, false, false, false, false, false] (by kernel_rfl) rfl rfl (by kernel_rfl) (by kernel_rfl) (by kernel_rfl) (by kernel_rfl) (by kernel_rfl) (fun _ _ _ h => h) (Or.inl ⟨by rfl, ?_⟩) hHeld ?_
          rotate_left
          · (intro w hSw; (try dsimp only at hSw);  go_simp; try with_reducible rfl)
          try simp only [Act.put, List.setIfInBounds_toArray, List.set_cons_zero, List.set_cons_succ]
          refine wpAnyJ_takeL (i := 8) (d := some 31) (v := ?_) #[true, true, true, true, true, true, true, true, true, false, false, false, false, false, false, false] (by kernel_rfl) rfl rfl (by kernel_rfl) (by kernel_rfl) (by kernel_rfl) (by kernel_rfl) (by kernel_rfl) (fun _ _ _ h => h) (Or.inl ⟨by rfl, ?_⟩) hHeld ?_
          rotate_left
          · (intro w hSw; (try dsimp only at hSw);  go_simp; try with_reducible rfl)
          try simp only [Act.put, List.setIfInBounds_toArray, List.set_cons_zero, List.set_cons_succ]
          refine wpAnyJ_takeL (i := 9) (d := some 32) (v := ?_) #[true, true, true, true, true, true, true, true, true, true, false, false, false, false, false, false] (by kernel_rfl) rfl rfl (by kernel_rfl) (by kernel_rfl) (by kernel_rfl) (by kernel_rfl) (by kernel_rfl) (fun _ _ _ h => h) (Or.inl ⟨by rfl, ?_⟩) hHeld ?_
          rotate_left
          · (intro w hSw; (try dsimp only at hSw);  go_simp; try with_reducible rfl)
          try simp only [Act.put, List.setIfInBounds_toArray, List.set_cons_zero, List.set_cons_succ]
          refine wpAnyJ_takeL (i := 10) (d := some 33) (v := ?_) #[true, true, true, true, true, true, true, true, true, true, true, false, false, false, false, false] (by kernel_rfl) rfl rfl (by kernel_rfl) (by kernel_rfl) (by kernel_rfl) (by kernel_rfl) (by kernel_rfl) (fun _ _ _ h => h) (Or.inl ⟨by rfl, ?_⟩) hHeld ?_
          rotate_left
          · (intro w hSw; (try dsimp only at hSw);  go_simp; try with_reducible rfl)
          try simp only [Act.put, List.setIfInBounds_toArray, List.set_cons_zero, List.set_cons_succ]
          refine wpAnyJ_takeL (i := 11) (d := some 34) (v := ?_) #[true, true, true, true, true, true, true, true, true, true, true, true, false, false, false, false] (by kernel_rfl) rfl rfl (by kernel_rfl) (by kernel_rfl) (by kernel_rfl) (by kernel_rfl) (by kernel_rfl) (fun _ _ _ h => h) (Or.inl ⟨by rfl, ?_⟩) hHeld ?_
          rotate_left
          · (intro w hSw; (try dsimp only at hSw);  go_simp; try with_reducible rfl)
          try simp only [Act.put, List.setIfInBounds_toArray, List.set_cons_zero, List.set_cons_succ]
          refine wpAnyJ_takeL (i := 12) (d := some 35) (v := ?_) #[true, true, true, true, true, true, true, true, true, true, true, true, true, false, false, false] (by kernel_rfl) rfl rfl (by kernel_rfl) (by kernel_rfl) (by kernel_rfl) (by kernel_rfl) (by kernel_rfl) (fun _ _ _ h => h) (Or.inl ⟨by rfl, ?_⟩) hHeld ?_
          rotate_left
          · (intro w hSw; (try dsimp only at hSw);  go_simp; try with_reducible rfl)
          try simp only [Act.put, List.setIfInBounds_toArray, List.set_cons_zero, List.set_cons_succ]
          refine wpAnyJ_takeL (i := 13) (d := some 36) (v := ?_) #[true, true, true, true, true, true, true, true, true, true, true, true, true, true, false, false] (by kernel_rfl) rfl rfl (by kernel_rfl) (by kernel_rfl) (by kernel_rfl) (by kernel_rfl) (by kernel_rfl) (fun _ _ _ h => h) (Or.inl ⟨by rfl, ?_⟩) hHeld ?_
          rotate_left
          · (intro w hSw; (try dsimp only at hSw);  go_simp; try with_reducible rfl)
          try simp only [Act.put, List.setIfInBounds_toArray, List.set_cons_zero, List.set_cons_succ]
          refine wpAnyJ_takeL (i := 14) (d := some 37) (v := ?_) #[true, true, true, true, true, true, true, true, true, true, true, true, true, true, true, false] (by kernel_rfl) rfl rfl (by kernel_rfl) (by kernel_rfl) (by kernel_rfl) (by kernel_rfl) (by kernel_rfl) (fun _ _ _ h => h) (Or.inl ⟨by rfl, ?_⟩) hHeld ?_
          rotate_left
          · (intro w hSw; (try dsimp only at hSw);  go_simp; try with_reducible rfl)
          try simp only [Act.put, List.setIfInBounds_toArray, List.set_cons_zero, List.set_cons_succ]
          refine wpAnyJ_takeL (i := 15) (d := some 38) (v := ?_) #[true, true, true, true, true, true, true, true, true, true, true, true, true, true, true, true] (by kernel_rfl) rfl rfl (by kernel_rfl) (by kernel_rfl) (by kernel_rfl) (by kernel_rfl) (by kernel_rfl) (fun _ _ _ h => h) (Or.inl ⟨by rfl, ?_⟩) hHeld ?_
          rotate_left
          · (intro w hSw; (try dsimp only at hSw);  go_simp; try with_reducible rfl)
          try simp only [Act.put, List.setIfInBounds_toArray, List.set_cons_zero, List.set_cons_succ]
          refine wpAnyJ_done (by kernel_rfl) ?_ _
          clear hHeld
          by_cases hxy : x = y
          · subst hxy
            have HR : Hid (loadB kd a b ns parts op = true) := HLB.out true ⟨fun _ => (HLT.out _).2 ⟨i, _, by rw [HLN.out]; exact hlt, HX.out, hcu, by rw [HPX.out, HPY.out]⟩, fun _ => rfl⟩
            go_wp2_with fail
            go_ret
            exact ⟨ret_bool (by rw [HR.out]), HB2.out.drew⟩
          · have qxy : (x == y) = false := by simpa using hxy
            have HNO : Hid (¬ loadTo kd a b ns parts op (i + 1)) := fun hc => by
              obtain ⟨t, z, ht, hz, hz2, hz3⟩ := (HLT.out _).1 hc
              rcases Nat.lt_succ_iff_lt_or_eq.1 ht with h | rfl
              · exact hno.out ((HLT.out _).2 ⟨t, z, h, hz, hz2, hz3⟩)
              · rw [HPX.out, HPY.out] at hz3; exact hxy hz3
            clear hxy
            go_wp2_with fail
            go_roundg (nn - (i + 1))
            case rel => exact ⟨i + 1, by go_num, by omega, rfl, HV2, HB2.out.drew, HNO⟩
            case measure => omega
      · obtain rfl : i = nn := by omega
        have hii : decide (i < i) = false := by simp
        have HR : Hid (loadB kd a b ns parts op = false) := HLB.out false ⟨(fun h => by cases h), (fun h => by rw [HLN.out] at h; exact absurd h hno.out)⟩
        go_wp2_with fail
        go_ret
        exact ⟨ret_bool (by rw [HR.out]), hbl.out⟩
end Go.Proofs.YtiljpejjjgoeaaaDoor
/-
  Layer 12: walks of of, device, Of, All.
-/
namespace Go.Proofs.YtiljpejjjgoeaaaDoor
open Go.RowKit
noncomputable def partsOf (nn : Nat) (ds : List Dv) (s : List Int) : List Int := Classical.epsilon (IsParts nn ds s)
noncomputable def colsOf (nn : Nat) (ds : List Dv) (s : List Int) : List Int := Classical.epsilon (IsCols nn ds s)
theorem partsOf_eq {nn : Nat} {ds : List Dv} {s p : List Int} (h : IsParts nn ds s p) : partsOf nn ds s = p := (Classical.epsilon_spec ⟨p, h⟩ : IsParts nn ds s (partsOf nn ds s)).unique h
theorem colsOf_eq {nn : Nat} {ds : List Dv} {s p : List Int} (h : IsCols nn ds s p) : colsOf nn ds s = p := (Classical.epsilon_spec ⟨p, h⟩ : IsCols nn ds s (colsOf nn ds s)).unique h
noncomputable def dutyV (kd a b : Int) (ns : List Nd) (parts op cl : List Int) : Int := if faultB kd a b cl = true then 4 else if parB kd a b parts op = true then 3 else if loadB kd a b ns parts op = true then 2 else if dOk kd a b parts op = true then 1 else 0
/-- The duty of a device. -/
noncomputable def dutyAt (nn : Nat) (ns : List Nd) (ds : List Dv) (s : List Int) (i : Int) (x : Dv) : Int := dutyV x.kind x.a x.b ns (partsOf nn ds (withL s i 1)) (colsOf nn ds (withL s i 1)) (colsOf nn ds (withL s i 2))
theorem cell_al {W : World} {p : Addr} {v : Value} (o : Obj) (h : W.cell? p = some v) : (W.alloc o).cell? p = some v := (World.cell?_alloc_lt W o p (cell_lt h)).trans h
theorem ints_far {W : World} {base n c q : Nat} {A : Option Addr} {l : List Int} (h : IntsO W base A n c l) (hq : q < base) (j : Nat) (u : Value) : IntsO (W.setCell ⟨q, j, none⟩ u) base A n c l := h.kept (grown_cell W _ _) (ne_row fun b e => by have := (h.lt b e).1; simp; omega)
def OfR (w7 : World) (f p l c : Bool) (gk : Nat) (iv : Value) (wr : World) : Prop := ∃ i : Nat, iv = .int .i64 i ∧ i ≤ 4 ∧ gk = 4 - i ∧ Hid (Below w7.heap.size w7 wr) ∧ Hid ((0 < i → f = false) ∧ (1 < i → p = false) ∧ (2 < i → l = false) ∧ (3 < i → c = false))
theorem view_set {W : World} {vb : Nat} {An Ad : Option Addr} {nn cn nd cd : Nat} {nm : ByteArray} {kd a b co : Int} {X Y Z : Value} (h : Blk W vb 117 #[.slice An nn cn, .slice Ad nd cd, .string nm, .int .i64 kd, .int .i64 a, .int .i64 b, .int .i64 co, X, Y, Z]) (P Q : Value) :
    Blk ((W.setCell ⟨vb, 7, none⟩ P).setCell ⟨vb, 8, none⟩ Q) vb 117 #[.slice An nn cn, .slice Ad nd cd, .string nm, .int .i64 kd, .int .i64 a, .int .i64 b, .int .i64 co, P, Q, Z] := (h.set 7 _).set 8 _
set_option maxRecDepth 100000 in
set_option maxHeartbeats 8000000 in
theorem of_any (An Ad As : Option Addr) (nn cn nd cd n c Bn Bd Bs i : Nat) (ns : List Nd) (ds : List Dv) (s : List Int) (x : Dv) (w : World)
    (hn : Sl w Bn 3 An nn cn (ns.flatMap Nd.cells)) (hBn : Bn ≤ w.heap.size) (hd : Sl w Bd 5 Ad nd cd (ds.flatMap Dv.cells)) (hBd : Bd ≤ w.heap.size) (hs : Sl w Bs 1 As n c (intsV s)) (hBs : Bs ≤ w.heap.size) (hnn : nn ≤ 10000) (hn1 : n ≤ 10000) (hnd : nd ≤ n) (hi : i < nd) (hx : ds[i]? = some x) (hends : EndsOk nn ds) (hA : AOk nn ds) :
    Calls Tryd.prog 46 #[.agg #[.slice An nn cn, .slice Ad nd cd], .slice As n c, .int .i64 i] w fun e w' => e = .returned (.int .i64 (dutyAt nn ns ds s i x)) ∧ Below w.heap.size w w' := by
  have HLS := Lib.hid (hs.len (fun _ => rfl) (by decide))
  have hdm := hd.le
  have hsm := hs.le
  have HN := Lib.hid hn; have HD := Lib.hid hd; have HS := Lib.hid hs; have HE := Lib.hid hends; have HA := Lib.hid hA; have HX := Lib.hid hx
  have ha0 := hA x (List.mem_of_getElem? hx)
  have HEX := Lib.hid (hends x (List.mem_of_getElem? hx))
  clear hn hd hs hends hA
  have HB0 : Hid (Below w.heap.size w (w.alloc (.cells #[.slice An nn cn, .slice Ad nd cd] 30))) := (Below.refl _ _).alloc (Nat.le_refl _) _
  have HK0 := Lib.hid (Blk.new w 30 #[.slice An nn cn, .slice Ad nd cd])
  go_enter Tryd.func46, Tryd.ntmps46
  go_upto_region 1 with (fail)
  generalize World.alloc _ _ = W at *
  obtain ⟨nb, hnb⟩ : ∃ nb, nb = w.heap.size := ⟨_, rfl⟩
  rw [← hnb] at HK0 ⊢
  have HNB := Lib.hid hnb; clear hnb
  obtain ⟨b0, off, x', rfl, hb, hx', hc⟩ := (HD.out.below HB0.out hBd).at (fun _ => rfl) (by decide) hi
  obtain rfl : x = x' := by rw [hx] at hx'; exact Option.some.inj hx'
  obtain ⟨nm, kd, a, b, co⟩ := x
  simp only at ha0 HEX
  have c0 : W.cell? ⟨b0, off + i * 5, none⟩ = some (.string nm) := hc 0 _ rfl
  have c1 : W.cell? ⟨b0, off + i * 5 + 1, none⟩ = some (.int .i64 kd) := hc 1 _ rfl
  have c2 : W.cell? ⟨b0, off + i * 5 + 2, none⟩ = some (.int .i64 a) := hc 2 _ rfl
  have c3 : W.cell? ⟨b0, off + i * 5 + 3, none⟩ = some (.int .i64 b) := hc 3 _ rfl
  have c4 : W.cell? ⟨b0, off + i * 5 + 4, none⟩ = some (.int .i64 co) := hc 4 _ rfl
  have k0 : W.cell? ⟨nb, 0, none⟩ = some (.slice An nn cn) := HK0.out.cell 0
  have k1 : W.cell? ⟨nb, 1, none⟩ = some (.slice (some ⟨b0, off, none⟩) nd cd) := HK0.out.cell 1
  clear hc hx hx'
  refine wp_region_J (S := fun W' => W'.cell? ⟨nb, 0, none⟩ = some (.slice An nn cn) ∧ W'.cell? ⟨nb, 1, none⟩ = some (.slice (some ⟨b0, off, none⟩) nd cd) ∧ W'.cell? ⟨b0, off + i * 5, none⟩ = some (.string nm) ∧ W'.cell? ⟨b0, off + i * 5 + 1, none⟩ = some (.int .i64 kd) ∧ W'.cell? ⟨b0, off + i * 5 + 2, none⟩ = some (.int .i64 a) ∧ W'.cell? ⟨b0, off + i * 5 + 3, none⟩ = some (.int .i64 b) ∧ W'.cell? ⟨b0, off + i * 5 + 4, none⟩ = some (.int .i64 co)) (J := [8]) (by kernel_rfl) ?_ (fun hHeld => ?_)
  · exact ⟨k0, k1, c0, c1, c2, c3, c4⟩
  try dsimp only at hHeld
  refine wpAnyJ_takeL (i := 0) (d := some 10) (v := ?_) #[true, false, false, false, false, false, false, false, false] (by kernel_rfl) rfl rfl (by kernel_rfl) (by kernel_rfl) (by kernel_rfl) (by kernel_rfl) (by kernel_rfl) (fun _ _ _ h => h) (Or.inl ⟨by rfl, ?_⟩) hHeld ?_
  rotate_left
  · (intro w hSw; (try dsimp only at hSw);  go_simp; try with_reducible rfl)
  try simp only [Act.put, List.setIfInBounds_toArray, List.set_cons_zero, List.set_cons_succ]
  refine wpAnyJ_takeL (i := 1) (d := some 11) (v := ?_) #[true, true, false, false, false, false, false, false, false] (by kernel_rfl) rfl rfl (by kernel_rfl) (by kernel_rfl) (by kernel_rfl) (by kernel_rfl) (by kernel_rfl) (fun _ _ _ h => h) (Or.inl ⟨by rfl, ?_⟩) hHeld ?_
  rotate_left
  · (intro w hSw; (try dsimp only at hSw);  go_simp; try with_reducible rfl)
  try simp only [Act.put, List.setIfInBounds_toArray, List.set_cons_zero, List.set_cons_succ]
  refine wpAnyJ_takeL (i := 2) (d := some 12) (v := ?_) #[true, true, true, false, false, false, false, false, false] (by kernel_rfl) rfl rfl (by kernel_rfl) (by kernel_rfl) (by kernel_rfl) (by kernel_rfl) (by kernel_rfl) (fun _ _ _ h => h) (Or.inl ⟨by rfl, ?_⟩) hHeld ?_
  rotate_left
  · (intro w hSw; (try dsimp only at hSw);  go_simp; try with_reducible rfl)
  try simp only [Act.put, List.setIfInBounds_toArray, List.set_cons_zero, List.set_cons_succ]
  refine wpAnyJ_takeL (i := 3) (d := some 13) (v := ?_) #[true, true, true, true, false, false, false, false, false] (by kernel_rfl) rfl rfl (by kernel_rfl) (by kernel_rfl) (by kernel_rfl) (by kernel_rfl) (by kernel_rfl) (fun _ _ _ h => h) (Or.inl ⟨by rfl, ?_⟩) hHeld ?_
  rotate_left
  · (intro w hSw; (try dsimp only at hSw);  go_simp; try with_reducible rfl)
  try simp only [Act.put, List.setIfInBounds_toArray, List.set_cons_zero, List.set_cons_succ]
  refine wpAnyJ_takeL (i := 4) (d := some 14) (v := ?_) #[true, true, true, true, true, false, false, false, false] (by kernel_rfl) rfl rfl (by kernel_rfl) (by kernel_rfl) (by kernel_rfl) (by kernel_rfl) (by kernel_rfl) (fun _ _ _ h => h) (Or.inl ⟨by rfl, ?_⟩) hHeld ?_
  rotate_left
  · (intro w hSw; (try dsimp only at hSw);  go_simp; try with_reducible rfl)
  try simp only [Act.put, List.setIfInBounds_toArray, List.set_cons_zero, List.set_cons_succ]
  refine wpAnyJ_takeL (i := 5) (d := some 15) (v := ?_) #[true, true, true, true, true, true, false, false, false] (by kernel_rfl) rfl rfl (by kernel_rfl) (by kernel_rfl) (by kernel_rfl) (by kernel_rfl) (by kernel_rfl) (fun _ _ _ h => h) (Or.inl ⟨by rfl, ?_⟩) hHeld ?_
  rotate_left
  · (intro w hSw; (try dsimp only at hSw);  go_simp; try with_reducible rfl)
  try simp only [Act.put, List.setIfInBounds_toArray, List.set_cons_zero, List.set_cons_succ]
  refine wpAnyJ_takeL (i := 6) (d := some 16) (v := ?_) #[true, true, true, true, true, true, true, false, false] (by kernel_rfl) rfl rfl (by kernel_rfl) (by kernel_rfl) (by kernel_rfl) (by kernel_rfl) (by kernel_rfl) (fun _ _ _ h => h) (Or.inl ⟨by rfl, ?_⟩) hHeld ?_
  rotate_left
  · (intro w hSw; (try dsimp only at hSw);  go_simp; try with_reducible rfl)
  try simp only [Act.put, List.setIfInBounds_toArray, List.set_cons_zero, List.set_cons_succ]
  refine wpAnyJ_oneL (k := 7) #[true, true, true, true, true, true, true, true, false] (by kernel_rfl) (by kernel_rfl) rfl (fun K hK => ?_)
  go_simp
  refine hK.out _ _ (fun _ => ?_) (fun hHeld' => ?_)
  · exact ⟨cell_al _ hHeld.1, cell_al _ hHeld.2.1, cell_al _ hHeld.2.2.1, cell_al _ hHeld.2.2.2.1, cell_al _ hHeld.2.2.2.2.1, cell_al _ hHeld.2.2.2.2.2.1, cell_al _ hHeld.2.2.2.2.2.2⟩
  replace hHeld := hHeld' rfl
  clear hHeld' hK K
  try dsimp only at hHeld
  refine wpAnyJ_oneL (k := 8) #[true, true, true, true, true, true, true, true, true] (by kernel_rfl) (by kernel_rfl) rfl (fun K hK => ?_)
  go_simp
  refine hK.out _ _ (fun h => by cases h) (fun _ => ?_)
  try clear hHeld
  clear hK K
  refine wpAnyJ_done (by kernel_rfl) ?_ _
  clear c0 c1 c2 c3 c4 k0 k1
  go_upto_region 2 with (fail)
  have hnbW := HK0.out.lt
  have HV1 : Hid (Blk (W.alloc (.cells #[.slice An nn cn, .slice (some ⟨b0, off, none⟩) nd cd, .string nm, .int .i64 kd, .int .i64 a, .int .i64 b, .int .i64 co, .slice none 0 0, .slice none 0 0, .slice none 0 0] 117)).drew W.heap.size 117 #[.slice An nn cn, .slice (some ⟨b0, off, none⟩) nd cd, .string nm, .int .i64 kd, .int .i64 a, .int .i64 b, .int .i64 co, .slice none 0 0, .slice none 0 0, .slice none 0 0]) := Blk.new W _ _
  have HK1 : Hid (Blk (W.alloc (.cells #[.slice An nn cn, .slice (some ⟨b0, off, none⟩) nd cd, .string nm, .int .i64 kd, .int .i64 a, .int .i64 b, .int .i64 co, .slice none 0 0, .slice none 0 0, .slice none 0 0] 117)).drew nb 30 #[.slice An nn cn, .slice (some ⟨b0, off, none⟩) nd cd]) := HK0.out.alloc _
  have HB1 : Hid (Below w.heap.size w (W.alloc (.cells #[.slice An nn cn, .slice (some ⟨b0, off, none⟩) nd cd, .string nm, .int .i64 kd, .int .i64 a, .int .i64 b, .int .i64 co, .slice none 0 0, .slice none 0 0, .slice none 0 0] 117)).drew) := (HB0.out.alloc HB0.out.size _).drew
  generalize World.drew (World.alloc _ _) = w1 at *
  obtain ⟨vb, hvb⟩ : ∃ vb, vb = W.heap.size := ⟨_, rfl⟩
  rw [← hvb] at HV1 ⊢
  have hnv : nb < vb := by omega
  have hwv : w.heap.size ≤ vb := by have := HB0.out.size; omega
  clear hvb HB0 HK0 hnbW
  refine wp_region_J (S := fun W' => Blk W' nb 30 #[.slice An nn cn, .slice (some ⟨b0, off, none⟩) nd cd]) (J := []) (by kernel_rfl) ?_ (fun hHeld => ?_)
  · exact HK1.out
  try dsimp only at hHeld
  refine wpAnyJ_takeL (i := 0) (d := some 18) (v := ?_) #[true, false, false, false, false, false, false, false, false, false, false, false] (by kernel_rfl) rfl rfl (by kernel_rfl) (by kernel_rfl) (by kernel_rfl) (by kernel_rfl) (by kernel_rfl) (fun _ _ _ h => h) (Or.inl ⟨by rfl, ?_⟩) hHeld ?_
  rotate_left
  · (intro w hSw; (try dsimp only at hSw); have k0 : w.cell? ⟨nb, 0, none⟩ = some (.slice An nn cn) := hSw.cell 0; have k1 : w.cell? ⟨nb, 1, none⟩ = some (.slice (some ⟨b0, off, none⟩) nd cd) := hSw.cell 1; clear hSw; go_simp; try with_reducible rfl)
  try simp only [Act.put, List.setIfInBounds_toArray, List.set_cons_zero, List.set_cons_succ]
  refine wpAnyJ_takeL (i := 1) (d := some 19) (v := ?_) #[true, true, false, false, false, false, false, false, false, false, false, false] (by kernel_rfl) rfl rfl (by kernel_rfl) (by kernel_rfl) (by kernel_rfl) (by kernel_rfl) (by kernel_rfl) (fun _ _ _ h => h) (Or.inl ⟨by rfl, ?_⟩) hHeld ?_
  rotate_left
  · (intro w hSw; (try dsimp only at hSw); clear hSw; go_simp; try with_reducible rfl)
  try simp only [Act.put, List.setIfInBounds_toArray, List.set_cons_zero, List.set_cons_succ]
  refine wpAnyJ_takeL (i := 2) (d := some 20) (v := ?_) #[true, true, true, false, false, false, false, false, false, false, false, false] (by kernel_rfl) rfl rfl (by kernel_rfl) (by kernel_rfl) (by kernel_rfl) (by kernel_rfl) (by kernel_rfl) (fun _ _ _ h => h) (Or.inl ⟨by rfl, ?_⟩) hHeld ?_
  rotate_left
  · (intro w hSw; (try dsimp only at hSw); clear hSw; go_simp; try with_reducible rfl)
  try simp only [Act.put, List.setIfInBounds_toArray, List.set_cons_zero, List.set_cons_succ]
  refine wpAnyJ_oneL (k := 3) #[true, true, true, true, false, false, false, false, false, false, false, false] (by kernel_rfl) (by kernel_rfl) rfl (fun K hK => ?_)
  (go_simp; refine (with_any As n c Bs s i 1 w1.drew (HS.out.below HB1.out.drew hBs) (by have := HB1.out.size; simp at this ⊢; omega) (by omega)).mono ?_; rintro e wxA ⟨AwA, cwA, rfl, hOA, hbA⟩; go_simp)
  refine hK.out _ _ (fun _ => ?_) (fun hHeld' => ?_)
  · exact hHeld.below hbA.out hHeld.lt
  replace hHeld := hHeld' rfl
  clear hHeld' hK K
  try dsimp only at hHeld
  have HB3A := Lib.hid (HB1.out.drew.trans (hbA.out.mono HB1.out.drew.size))
  have hv3A := Blk.below (w := w1.drew) HV1.out hbA.out HV1.out.lt
  have HL3A := Lib.hid hv3A.lt
  rw [withL_len, HLS.out] at hOA ⊢
  refine wpAnyJ_oneL (k := 4) #[true, true, true, true, true, false, false, false, false, false, false, false] (by kernel_rfl) (by kernel_rfl) rfl (fun K hK => ?_)
  (go_simp; refine (both_any An (some ⟨b0, off, none⟩) AwA nn cn nd cd n cwA Bd wxA.heap.size ds (withL s i 1) wxA (HD.out.below HB3A.out hBd) (by have := HB3A.out.size; omega) hOA.out.sl (Nat.le_refl _) hnn (by omega) (by omega) HE.out HA.out).mono ?_; rintro e wyA ⟨ApA, AcA, plA, clA, rfl, hOpA, hOcA, hIPA, hICA, hbbA⟩; go_simp)
  refine hK.out _ _ (fun _ => ?_) (fun hHeld' => ?_)
  · exact hHeld.below hbbA.out hHeld.lt
  replace hHeld := hHeld' rfl
  clear hHeld' hK K
  try dsimp only at hHeld
  have HB4A := Lib.hid (HB3A.out.trans (hbbA.out.mono HB3A.out.size))
  have HV4A := Lib.hid (hv3A.below hbbA.out hv3A.lt)
  have z7 : wyA.cell? ⟨vb, 7, none⟩ = some (.slice none 0 0) := HV4A.out.cell 7
  have z8 : wyA.cell? ⟨vb, 8, none⟩ = some (.slice none 0 0) := HV4A.out.cell 8
  have f7 := HV4A.out.frozen 7
  have f8 := HV4A.out.frozen 8
  refine wpAnyJ_takeL (i := 5) (d := some 17) (v := ?_) #[true, true, true, true, true, true, false, false, false, false, false, false] (by kernel_rfl) rfl rfl (by kernel_rfl) (by kernel_rfl) (by kernel_rfl) (by kernel_rfl) (by kernel_rfl) (fun _ _ _ h => h) (Or.inl ⟨by rfl, ?_⟩) hHeld ?_
  rotate_left
  · (intro w hSw; (try dsimp only at hSw); clear hSw; go_simp; try with_reducible rfl)
  try simp only [Act.put, List.setIfInBounds_toArray, List.set_cons_zero, List.set_cons_succ]
  refine wpAnyJ_takeL (i := 6) (d := some 23) (v := ?_) #[true, true, true, true, true, true, true, false, false, false, false, false] (by kernel_rfl) rfl rfl (by kernel_rfl) (by kernel_rfl) (by kernel_rfl) (by kernel_rfl) (by kernel_rfl) (fun _ _ _ h => h) (Or.inl ⟨by rfl, ?_⟩) hHeld ?_
  rotate_left
  · (intro w hSw; (try dsimp only at hSw); clear hSw; go_simp; try with_reducible rfl)
  try simp only [Act.put, List.setIfInBounds_toArray, List.set_cons_zero, List.set_cons_succ]
  refine wpAnyJ_takeL (i := 7) (d := some 24) (v := ?_) #[true, true, true, true, true, true, true, true, false, false, false, false] (by kernel_rfl) rfl rfl (by kernel_rfl) (by kernel_rfl) (by kernel_rfl) (by kernel_rfl) (by kernel_rfl) (fun _ _ _ h => h) (Or.inl ⟨by rfl, ?_⟩) hHeld ?_
  rotate_left
  · (intro w hSw; (try dsimp only at hSw); clear hSw; go_simp; try with_reducible rfl)
  try simp only [Act.put, List.setIfInBounds_toArray, List.set_cons_zero, List.set_cons_succ]
  refine wpAnyJ_takeL (i := 8) (d := some 25) (v := ?_) #[true, true, true, true, true, true, true, true, true, false, false, false] (by kernel_rfl) rfl rfl (by kernel_rfl) (by kernel_rfl) (by kernel_rfl) (by kernel_rfl) (by kernel_rfl) (fun _ _ _ h => h) (Or.inl ⟨by rfl, ?_⟩) hHeld ?_
  rotate_left
  · (intro w hSw; (try dsimp only at hSw); clear hSw; go_simp; try with_reducible rfl)
  try simp only [Act.put, List.setIfInBounds_toArray, List.set_cons_zero, List.set_cons_succ]
  refine wpAnyJ_oneL (k := 9) #[true, true, true, true, true, true, true, true, true, true, false, false] (by kernel_rfl) (by kernel_rfl) rfl (fun K hK => ?_)
  go_simp
  refine hK.out _ _ (fun _ => ?_) (fun hHeld' => ?_)
  · exact hHeld.far (by simp; omega) _
  replace hHeld := hHeld' rfl
  clear hHeld' hK K
  try dsimp only at hHeld
  refine wpAnyJ_takeL (i := 10) (d := some 26) (v := ?_) #[true, true, true, true, true, true, true, true, true, true, true, false] (by kernel_rfl) rfl rfl (by kernel_rfl) (by kernel_rfl) (by kernel_rfl) (by kernel_rfl) (by kernel_rfl) (fun _ _ _ h => h) (Or.inl ⟨by rfl, ?_⟩) hHeld ?_
  rotate_left
  · (intro w hSw; (try dsimp only at hSw); clear hSw; go_simp; try with_reducible rfl)
  try simp only [Act.put, List.setIfInBounds_toArray, List.set_cons_zero, List.set_cons_succ]
  refine wpAnyJ_oneL (k := 11) #[true, true, true, true, true, true, true, true, true, true, true, true] (by kernel_rfl) (by kernel_rfl) rfl (fun K hK => ?_)
  go_simp
  refine hK.out _ _ (fun _ => ?_) (fun hHeld' => ?_)
  · exact hHeld.far (by simp; omega) _
  replace hHeld := hHeld' rfl
  clear hHeld' hK K
  try dsimp only at hHeld
  refine wpAnyJ_done (by kernel_rfl) ?_ _
  have HK5 := Lib.hid hHeld
  clear hHeld z7 z8 f7 f8
  go_upto_region 3 with (fail)
  have HV5 := Lib.hid (view_set HV4A.out (.slice ApA nn nn) (.slice AcA nn nn))
  have HB5 : Hid (Below w.heap.size w ((wyA.setCell ⟨vb, 7, none⟩ (.slice ApA nn nn)).setCell ⟨vb, 8, none⟩ (.slice AcA nn nn))) := (HB4A.out.setCell (by simp; omega) _).setCell (by simp; omega) _
  have HOP5 := Lib.hid (ints_far (ints_far hOpA.out HL3A.out 7 (.slice ApA nn nn)) HL3A.out 8 (.slice AcA nn nn))
  have HOO5 := Lib.hid (ints_far (ints_far hOcA.out HL3A.out 7 (.slice ApA nn nn)) HL3A.out 8 (.slice AcA nn nn))
  clear HB3A HB4A HV4A hOpA hOcA HV1 HB1 HK1 hbbA
  clear hbA hOA hv3A
  generalize World.setCell (World.setCell _ _ _) _ _ = w5 at *
  refine wp_region_J (S := fun W' => Blk W' nb 30 #[.slice An nn cn, .slice (some ⟨b0, off, none⟩) nd cd]) (J := []) (by kernel_rfl) ?_ (fun hHeld => ?_)
  · exact HK5.out
  try dsimp only at hHeld
  refine wpAnyJ_takeL (i := 0) (d := some 28) (v := ?_) #[true, false, false, false, false, false, false, false, false, false] (by kernel_rfl) rfl rfl (by kernel_rfl) (by kernel_rfl) (by kernel_rfl) (by kernel_rfl) (by kernel_rfl) (fun _ _ _ h => h) (Or.inl ⟨by rfl, ?_⟩) hHeld ?_
  rotate_left
  · (intro w hSw; (try dsimp only at hSw); have k0 : w.cell? ⟨nb, 0, none⟩ = some (.slice An nn cn) := hSw.cell 0; have k1 : w.cell? ⟨nb, 1, none⟩ = some (.slice (some ⟨b0, off, none⟩) nd cd) := hSw.cell 1; clear hSw; go_simp; try with_reducible rfl)
  try simp only [Act.put, List.setIfInBounds_toArray, List.set_cons_zero, List.set_cons_succ]
  refine wpAnyJ_takeL (i := 1) (d := some 29) (v := ?_) #[true, true, false, false, false, false, false, false, false, false] (by kernel_rfl) rfl rfl (by kernel_rfl) (by kernel_rfl) (by kernel_rfl) (by kernel_rfl) (by kernel_rfl) (fun _ _ _ h => h) (Or.inl ⟨by rfl, ?_⟩) hHeld ?_
  rotate_left
  · (intro w hSw; (try dsimp only at hSw); clear hSw; go_simp; try with_reducible rfl)
  try simp only [Act.put, List.setIfInBounds_toArray, List.set_cons_zero, List.set_cons_succ]
  refine wpAnyJ_takeL (i := 2) (d := some 30) (v := ?_) #[true, true, true, false, false, false, false, false, false, false] (by kernel_rfl) rfl rfl (by kernel_rfl) (by kernel_rfl) (by kernel_rfl) (by kernel_rfl) (by kernel_rfl) (fun _ _ _ h => h) (Or.inl ⟨by rfl, ?_⟩) hHeld ?_
  rotate_left
  · (intro w hSw; (try dsimp only at hSw); clear hSw; go_simp; try with_reducible rfl)
  try simp only [Act.put, List.setIfInBounds_toArray, List.set_cons_zero, List.set_cons_succ]
  refine wpAnyJ_oneL (k := 3) #[true, true, true, true, false, false, false, false, false, false] (by kernel_rfl) (by kernel_rfl) rfl (fun K hK => ?_)
  (go_simp; refine (with_any As n c Bs s i 2 w5.drew (HS.out.below HB5.out.drew hBs) (by have := HB5.out.size; simp at this ⊢; omega) (by omega)).mono ?_; rintro e wxB ⟨AwB, cwB, rfl, hOB, hbB⟩; go_simp)
  refine hK.out _ _ (fun _ => ?_) (fun hHeld' => ?_)
  · exact hHeld.below hbB.out hHeld.lt
  replace hHeld := hHeld' rfl
  clear hHeld' hK K
  try dsimp only at hHeld
  have HB3B := Lib.hid (HB5.out.drew.trans (hbB.out.mono HB5.out.drew.size))
  have hv3B := Blk.below (w := w5.drew) HV5.out hbB.out HV5.out.lt
  have HL3B := Lib.hid hv3B.lt
  rw [withL_len, HLS.out] at hOB ⊢
  refine wpAnyJ_oneL (k := 4) #[true, true, true, true, true, false, false, false, false, false] (by kernel_rfl) (by kernel_rfl) rfl (fun K hK => ?_)
  (go_simp; refine (both_any An (some ⟨b0, off, none⟩) AwB nn cn nd cd n cwB Bd wxB.heap.size ds (withL s i 2) wxB (HD.out.below HB3B.out hBd) (by have := HB3B.out.size; omega) hOB.out.sl (Nat.le_refl _) hnn (by omega) (by omega) HE.out HA.out).mono ?_; rintro e wyB ⟨ApB, AcB, plB, clB, rfl, hOpB, hOcB, hIPB, hICB, hbbB⟩; go_simp)
  refine hK.out _ _ (fun _ => ?_) (fun hHeld' => ?_)
  · exact hHeld.below hbbB.out hHeld.lt
  replace hHeld := hHeld' rfl
  clear hHeld' hK K
  try dsimp only at hHeld
  have HB4B := Lib.hid (HB3B.out.trans (hbbB.out.mono HB3B.out.size))
  have HV4B := Lib.hid (hv3B.below hbbB.out hv3B.lt)
  have HOP6 := Lib.hid ((IntsO.later (w := w5.drew) HOP5.out hbB.out).later hbbB.out)
  have HOO6 := Lib.hid ((IntsO.later (w := w5.drew) HOO5.out hbB.out).later hbbB.out)
  clear hv3B hOB hbB
  have z9 : wyB.cell? ⟨vb, 9, none⟩ = some (.slice none 0 0) := HV4B.out.cell 9
  have f9 := HV4B.out.frozen 9
  refine wpAnyJ_takeL (i := 5) (d := some 27) (v := ?_) #[true, true, true, true, true, true, false, false, false, false] (by kernel_rfl) rfl rfl (by kernel_rfl) (by kernel_rfl) (by kernel_rfl) (by kernel_rfl) (by kernel_rfl) (fun _ _ _ h => h) (Or.inl ⟨by rfl, ?_⟩) hHeld ?_
  rotate_left
  · (intro w hSw; (try dsimp only at hSw); clear hSw; go_simp; try with_reducible rfl)
  try simp only [Act.put, List.setIfInBounds_toArray, List.set_cons_zero, List.set_cons_succ]
  refine wpAnyJ_takeL (i := 6) (d := some 33) (v := ?_) #[true, true, true, true, true, true, true, false, false, false] (by kernel_rfl) rfl rfl (by kernel_rfl) (by kernel_rfl) (by kernel_rfl) (by kernel_rfl) (by kernel_rfl) (fun _ _ _ h => h) (Or.inl ⟨by rfl, ?_⟩) hHeld ?_
  rotate_left
  · (intro w hSw; (try dsimp only at hSw); clear hSw; go_simp; try with_reducible rfl)
  try simp only [Act.put, List.setIfInBounds_toArray, List.set_cons_zero, List.set_cons_succ]
  refine wpAnyJ_takeL (i := 7) (d := some 34) (v := ?_) #[true, true, true, true, true, true, true, true, false, false] (by kernel_rfl) rfl rfl (by kernel_rfl) (by kernel_rfl) (by kernel_rfl) (by kernel_rfl) (by kernel_rfl) (fun _ _ _ h => h) (Or.inl ⟨by rfl, ?_⟩) hHeld ?_
  rotate_left
  · (intro w hSw; (try dsimp only at hSw); clear hSw; go_simp; try with_reducible rfl)
  try simp only [Act.put, List.setIfInBounds_toArray, List.set_cons_zero, List.set_cons_succ]
  refine wpAnyJ_takeL (i := 8) (d := some 35) (v := ?_) #[true, true, true, true, true, true, true, true, true, false] (by kernel_rfl) rfl rfl (by kernel_rfl) (by kernel_rfl) (by kernel_rfl) (by kernel_rfl) (by kernel_rfl) (fun _ _ _ h => h) (Or.inl ⟨by rfl, ?_⟩) hHeld ?_
  rotate_left
  · (intro w hSw; (try dsimp only at hSw); clear hSw; go_simp; try with_reducible rfl)
  try simp only [Act.put, List.setIfInBounds_toArray, List.set_cons_zero, List.set_cons_succ]
  refine wpAnyJ_oneL (k := 9) #[true, true, true, true, true, true, true, true, true, true] (by kernel_rfl) (by kernel_rfl) rfl (fun K hK => ?_)
  go_simp
  refine hK.out _ _ (fun _ => ?_) (fun hHeld' => ?_)
  · exact hHeld.far (by simp; omega) _
  replace hHeld := hHeld' rfl
  clear hHeld' hK K
  try dsimp only at hHeld
  refine wpAnyJ_done (by kernel_rfl) ?_ _
  clear hHeld z9 f9
  have HV6 := Lib.hid (HV4B.out.set 9 (.slice AcB nn nn))
  have HB6 : Hid (Below w.heap.size w (wyB.setCell ⟨vb, 9, none⟩ (.slice AcB nn nn))) := HB4B.out.setCell (by simp; omega) _
  have HOP7 := Lib.hid (ints_far HOP6.out HL3A.out 9 (.slice AcB nn nn))
  have HOO7 := Lib.hid (ints_far HOO6.out HL3A.out 9 (.slice AcB nn nn))
  have HOC7 := Lib.hid (ints_far hOcB.out HL3B.out 9 (.slice AcB nn nn))
  clear HB3B HB4B HV4B hOpB hOcB HV5 HB5 HK5 hbbB HOP6 HOO6 HOP5 HOO5
  go_wp2_with fail
  have HT7 := Lib.hid (Blk.new (wyB.setCell ⟨vb, 9, none⟩ (.slice AcB nn nn)) 121 #[.func (.func 71) #[] #[], .int .i64 4, .func (.func 72) #[] #[], .int .i64 3, .func (.func 73) #[] #[], .int .i64 2, .func (.func 74) #[] #[], .int .i64 1])
  have HV7 := Lib.hid (HV6.out.alloc (.cells #[.func (.func 71) #[] #[], .int .i64 4, .func (.func 72) #[] #[], .int .i64 3, .func (.func 73) #[] #[], .int .i64 2, .func (.func 74) #[] #[], .int .i64 1] 121))
  have HB7 := Lib.hid (HB6.out.alloc HB6.out.size (.cells #[.func (.func 71) #[] #[], .int .i64 4, .func (.func 72) #[] #[], .int .i64 3, .func (.func 73) #[] #[], .int .i64 2, .func (.func 74) #[] #[], .int .i64 1] 121))
  have HOK7 : Hid (VwOk ((wyB.setCell ⟨vb, 9, none⟩ (.slice AcB nn nn)).alloc (.cells #[.func (.func 71) #[] #[], .int .i64 4, .func (.func 72) #[] #[], .int .i64 3, .func (.func 73) #[] #[], .int .i64 2, .func (.func 74) #[] #[], .int .i64 1] 121)) nn kd a b ApA AcA AcB plA clA clB) := by
    have hl : Below (wyB.setCell ⟨vb, 9, none⟩ (.slice AcB nn nn)).heap.size (wyB.setCell ⟨vb, 9, none⟩ (.slice AcB nn nn)) ((wyB.setCell ⟨vb, 9, none⟩ (.slice AcB nn nn)).alloc (.cells #[.func (.func 71) #[] #[], .int .i64 4, .func (.func 72) #[] #[], .int .i64 3, .func (.func 73) #[] #[], .int .i64 2, .func (.func 74) #[] #[], .int .i64 1] 121)) := (Below.refl _ _).alloc (Nat.le_refl _) _
    exact ⟨(HOP7.out.later hl).sl, (HOO7.out.later hl).sl, (HOC7.out.later hl).sl, ha0, fun hj => (HEX.out hj).2, hnn⟩
  have HDV : Hid (dutyAt nn ns ds s i ⟨nm, kd, a, b, co⟩ = dutyV kd a b ns plA clA clB) := by unfold Hid dutyAt; rw [partsOf_eq hIPA.out, colsOf_eq hICA.out, colsOf_eq hICB.out]
  clear HV6 HB6 HOP7 HOO7 HOC7 hIPA hICA hICB hIPB
  rw [World.size_setCell] at HT7
  generalize World.alloc _ _ = w7 at *
  obtain ⟨tb, htb⟩ : ∃ tb, tb = wyB.heap.size := ⟨_, rfl⟩
  rw [← htb] at HT7 ⊢
  clear htb
  have HDU : Hid (dutyV kd a b ns plA clA clB = if faultB kd a b clB = true then 4 else if parB kd a b plA clA = true then 3 else if loadB kd a b ns plA clA = true then 2 else if dOk kd a b plA clA = true then 1 else 0) := rfl
  have HCF := Lib.hid (fun W h => fault_any An (some ⟨b0, off, none⟩) ApA AcA AcB nn cn nd cd nm kd a b co plA clA clB W h)
  have HCP := Lib.hid (fun W h => parallel_any An (some ⟨b0, off, none⟩) ApA AcA AcB nn cn nd cd nm kd a b co plA clA clB W h)
  have HCL := Lib.hid (fun W h h2 => load_any An (some ⟨b0, off, none⟩) ApA AcA AcB nn cn nd cd nm kd a b co ns plA clA clB W h h2)
  have HCC := Lib.hid (fun W h => charging_any An (some ⟨b0, off, none⟩) ApA AcA AcB nn cn nd cd nm kd a b co plA clA clB W h)
  simp only [vwC] at HCF HCP HCL HCC
  generalize faultB kd a b clB = fb at *
  generalize parB kd a b plA clA = pb at *
  generalize loadB kd a b ns plA clA = lb at *
  generalize dOk kd a b plA clA = kb at *
  go_loopg [42] 4 (OfR w7 fb pb lb kb)
  case atStart => exact ⟨0, rfl, by decide, rfl, Below.refl _ _, by unfold Hid; refine ⟨?_, ?_, ?_, ?_⟩ <;> intro h <;> omega⟩
  case round =>
    obtain ⟨k, rfl, hk, rfl, hbl, hcond⟩ := hrel
    have hv := Lib.hid (HV7.out.below hbl.out HV7.out.lt)
    have ht := Lib.hid (HT7.out.below hbl.out HT7.out.lt)
    have hok := Lib.hid (HOK7.out.later hbl.out)
    have hbw := Lib.hid (HB7.out.trans (hbl.out.mono HB7.out.size))
    have hzw := hbl.out.size
    have g0 : wr.cell? ⟨vb, 0, none⟩ = some (.slice An nn cn) := hv.out.cell 0
    have g1 : wr.cell? ⟨vb, 1, none⟩ = some (.slice (some ⟨b0, off, none⟩) nd cd) := hv.out.cell 1
    have g2 : wr.cell? ⟨vb, 2, none⟩ = some (.string nm) := hv.out.cell 2
    have g3 : wr.cell? ⟨vb, 3, none⟩ = some (.int .i64 kd) := hv.out.cell 3
    have g4 : wr.cell? ⟨vb, 4, none⟩ = some (.int .i64 a) := hv.out.cell 4
    have g5 : wr.cell? ⟨vb, 5, none⟩ = some (.int .i64 b) := hv.out.cell 5
    have g6 : wr.cell? ⟨vb, 6, none⟩ = some (.int .i64 co) := hv.out.cell 6
    have g7 : wr.cell? ⟨vb, 7, none⟩ = some (.slice ApA nn nn) := hv.out.cell 7
    have g8 : wr.cell? ⟨vb, 8, none⟩ = some (.slice AcA nn nn) := hv.out.cell 8
    have g9 : wr.cell? ⟨vb, 9, none⟩ = some (.slice AcB nn nn) := hv.out.cell 9
    have hvl := hv.out.lt
    rcases (show k = 0 ∨ k = 1 ∨ k = 2 ∨ k = 3 ∨ k = 4 by omega) with rfl | rfl | rfl | rfl | rfl
    · have t0 : wr.cell? ⟨tb, 0, none⟩ = some (.func (.func 71) #[] #[]) := ht.out.cell 0
      have t1 : wr.cell? ⟨tb, 1, none⟩ = some (.int .i64 4) := ht.out.cell 1
      go_wp2_with fail
      clear g0 g1 g2 g3 g4 g5 g6 g7 g8 g9 t0 t1
      have hb8 : Below wr.heap.size wr (wr.alloc (.cells #[.func (.func 71) #[] #[], .int .i64 4] 121)) := (Below.refl _ _).alloc (Nat.le_refl _) _
      have HK8 := Lib.hid (Blk.new wr 121 #[.func (.func 71) #[] #[], .int .i64 4])
      generalize World.alloc _ _ = w8 at *
      refine (HCF.out w8 (hok.out.later hb8)).mono ?_
      rintro e w9 ⟨rfl, hb9⟩
      have HB9 := Lib.hid (hbl.out.trans ((hb8.trans (hb9.mono hb8.size)).mono hzw))
      have hb1 : w9.cell? ⟨wr.heap.size, 1, none⟩ = some (.int .i64 4) := (HK8.out.below hb9 HK8.out.lt).cell 1
      clear hb8 hb9 HK8
      rcases fb with _ | _
      · clear hb1
        go_wp2_with fail
        go_roundg (4 - 1)
        case rel => exact ⟨1, rfl, by decide, rfl, HB9, by have hc := hcond.out; unfold Hid; refine ⟨?_, ?_, ?_, ?_⟩ <;> intro h <;> first | rfl | exact hc.1 (by omega) | exact hc.2.1 (by omega) | exact hc.2.2.1 (by omega) | omega⟩
        case measure => decide
      · go_wp2_with fail
        go_ret
        exact ⟨ret_int (by rw [HDV.out, HDU.out]; simp), HB7.out.trans (HB9.out.mono HB7.out.size)⟩
    · have t0 : wr.cell? ⟨tb, 2, none⟩ = some (.func (.func 72) #[] #[]) := ht.out.cell 2
      have t1 : wr.cell? ⟨tb, 3, none⟩ = some (.int .i64 3) := ht.out.cell 3
      go_wp2_with fail
      clear g0 g1 g2 g3 g4 g5 g6 g7 g8 g9 t0 t1
      have hb8 : Below wr.heap.size wr (wr.alloc (.cells #[.func (.func 72) #[] #[], .int .i64 3] 121)) := (Below.refl _ _).alloc (Nat.le_refl _) _
      have HK8 := Lib.hid (Blk.new wr 121 #[.func (.func 72) #[] #[], .int .i64 3])
      generalize World.alloc _ _ = w8 at *
      refine (HCP.out w8 (hok.out.later hb8)).mono ?_
      rintro e w9 ⟨rfl, hb9⟩
      have HB9 := Lib.hid (hbl.out.trans ((hb8.trans (hb9.mono hb8.size)).mono hzw))
      have hb1 : w9.cell? ⟨wr.heap.size, 1, none⟩ = some (.int .i64 3) := (HK8.out.below hb9 HK8.out.lt).cell 1
      clear hb8 hb9 HK8
      rcases pb with _ | _
      · clear hb1
        go_wp2_with fail
        go_roundg (4 - 2)
        case rel => exact ⟨2, rfl, by decide, rfl, HB9, by have hc := hcond.out; unfold Hid; refine ⟨?_, ?_, ?_, ?_⟩ <;> intro h <;> first | rfl | exact hc.1 (by omega) | exact hc.2.1 (by omega) | exact hc.2.2.1 (by omega) | omega⟩
        case measure => decide
      · go_wp2_with fail
        go_ret
        exact ⟨ret_int (by rw [HDV.out, HDU.out]; simp [hcond.out.1 (by decide)]), HB7.out.trans (HB9.out.mono HB7.out.size)⟩
    · have t0 : wr.cell? ⟨tb, 4, none⟩ = some (.func (.func 73) #[] #[]) := ht.out.cell 4
      have t1 : wr.cell? ⟨tb, 5, none⟩ = some (.int .i64 2) := ht.out.cell 5
      go_wp2_with fail
      clear g0 g1 g2 g3 g4 g5 g6 g7 g8 g9 t0 t1
      have hb8 : Below wr.heap.size wr (wr.alloc (.cells #[.func (.func 73) #[] #[], .int .i64 2] 121)) := (Below.refl _ _).alloc (Nat.le_refl _) _
      have HK8 := Lib.hid (Blk.new wr 121 #[.func (.func 73) #[] #[], .int .i64 2])
      generalize World.alloc _ _ = w8 at *
      refine (HCL.out w8 (hok.out.later hb8) (((HN.out.below hbw.out hBn).more (by have := hbw.out.size; omega)).below hb8 (Nat.le_refl _) |> fun h => h.more hb8.size)).mono ?_
      rintro e w9 ⟨rfl, hb9⟩
      have HB9 := Lib.hid (hbl.out.trans ((hb8.trans (hb9.mono hb8.size)).mono hzw))
      have hb1 : w9.cell? ⟨wr.heap.size, 1, none⟩ = some (.int .i64 2) := (HK8.out.below hb9 HK8.out.lt).cell 1
      clear hb8 hb9 HK8
      rcases lb with _ | _
      · clear hb1
        go_wp2_with fail
        go_roundg (4 - 3)
        case rel => exact ⟨3, rfl, by decide, rfl, HB9, by have hc := hcond.out; unfold Hid; refine ⟨?_, ?_, ?_, ?_⟩ <;> intro h <;> first | rfl | exact hc.1 (by omega) | exact hc.2.1 (by omega) | exact hc.2.2.1 (by omega) | omega⟩
        case measure => decide
      · go_wp2_with fail
        go_ret
        exact ⟨ret_int (by rw [HDV.out, HDU.out]; simp [hcond.out.1 (by decide), hcond.out.2.1 (by decide)]), HB7.out.trans (HB9.out.mono HB7.out.size)⟩
    · have t0 : wr.cell? ⟨tb, 6, none⟩ = some (.func (.func 74) #[] #[]) := ht.out.cell 6
      have t1 : wr.cell? ⟨tb, 7, none⟩ = some (.int .i64 1) := ht.out.cell 7
      go_wp2_with fail
      clear g0 g1 g2 g3 g4 g5 g6 g7 g8 g9 t0 t1
      have hb8 : Below wr.heap.size wr (wr.alloc (.cells #[.func (.func 74) #[] #[], .int .i64 1] 121)) := (Below.refl _ _).alloc (Nat.le_refl _) _
      have HK8 := Lib.hid (Blk.new wr 121 #[.func (.func 74) #[] #[], .int .i64 1])
      generalize World.alloc _ _ = w8 at *
      refine (HCC.out w8 (hok.out.later hb8)).mono ?_
      rintro e w9 ⟨rfl, hb9⟩
      have HB9 := Lib.hid (hbl.out.trans ((hb8.trans (hb9.mono hb8.size)).mono hzw))
      have hb1 : w9.cell? ⟨wr.heap.size, 1, none⟩ = some (.int .i64 1) := (HK8.out.below hb9 HK8.out.lt).cell 1
      clear hb8 hb9 HK8
      rcases kb with _ | _
      · clear hb1
        go_wp2_with fail
        go_roundg (4 - 4)
        case rel => exact ⟨4, rfl, by decide, rfl, HB9, by have hc := hcond.out; unfold Hid; refine ⟨?_, ?_, ?_, ?_⟩ <;> intro h <;> first | rfl | exact hc.1 (by omega) | exact hc.2.1 (by omega) | exact hc.2.2.1 (by omega) | omega⟩
        case measure => decide
      · go_wp2_with fail
        go_ret
        exact ⟨ret_int (by rw [HDV.out, HDU.out]; simp [hcond.out.1 (by decide), hcond.out.2.1 (by decide), hcond.out.2.2.1 (by decide)]), HB7.out.trans (HB9.out.mono HB7.out.size)⟩
    · go_wp2_with fail
      go_ret
      exact ⟨ret_int (by rw [HDV.out, HDU.out]; simp [hcond.out.1 (by decide), hcond.out.2.1 (by decide), hcond.out.2.2.1 (by decide), hcond.out.2.2.2 (by decide)]), hbw.out⟩
end Go.Proofs.YtiljpejjjgoeaaaDoor
