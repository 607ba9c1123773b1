import Derived.Test.YtbjndpjligpjaaaDoorZ04
import Derived.Test.YtbjndpjligpjaaaDoorZ10
import Derived.Test.YtbjndpjligpjaaaDoorZ11
import Derived.Shelf.SlSortCmp.InsertionK
/-
  Layer 3: walk of Check.
-/
namespace Go.Proofs.YtbjndpjligpjaaaDoor
open Go.RowKit

def NcRel (W : World) (mb nn : Nat) (ns : List Nd) (iv : Value) (wr : World) : Prop :=
  ∃ (i : Nat) (U : List (List UInt8)), iv = .int .i64 i ∧ i ≤ nn ∧ U.length ≤ i ∧ Hid (UsedAt wr mb U) ∧ Hid (chkN [] ns = chkN U (ns.drop i) ∧ usedN [] ns = usedN U (ns.drop i)) ∧ Hid (Below W.heap.size W wr)
def NdRel (W : World) (mb nn nd : Nat) (ns : List Nd) (ds : List Dv) (iv : Value) (wr : World) : Prop :=
  ∃ (i : Nat) (U : List (List UInt8)), iv = .int .i64 i ∧ i ≤ nd ∧ U.length ≤ i + nn ∧ Hid (UsedAt wr mb U) ∧ Hid (checkN ns ds = chkD nn U (ds.drop i)) ∧ Hid (Below W.heap.size W wr)
set_option maxRecDepth 100000 in
set_option maxHeartbeats 4000000 in
theorem ncheck_any (An Ad : Option Addr) (nn cn nd cd Bn Bd : Nat) (ns : List Nd) (ds : List Dv) (w : World) (hl : Laid w) (hn : Sl w Bn 3 An nn cn (ns.flatMap Nd.cells)) (hd : Sl w Bd 5 Ad nd cd (ds.flatMap Dv.cells)) (hBn : Bn ≤ w.heap.size) (hBd : Bd ≤ w.heap.size)
    (hsn : ∀ x ∈ ns, x.name.size ≤ 9223372036854775807) (hsd : ∀ x ∈ ds, x.name.size ≤ 9223372036854775807) :
    Calls Tryd.prog 36 #[.agg #[.slice An nn cn, .slice Ad nd cd]] w fun e w' => e = .returned (.int .i64 (checkN ns ds)) ∧ Below w.heap.size w w' := by
  have HLN := Lib.hid (hn.len (fun _ => rfl) (by decide)); have HLD := Lib.hid (hd.len (fun _ => rfl) (by decide))
  obtain ⟨hnc, hcm⟩ := hn.le
  obtain ⟨hdc, hdm⟩ := hd.le
  have HL := Lib.hid hl; have HN := Lib.hid hn; have HD := Lib.hid hd; have HSN := Lib.hid hsn; have HSD := Lib.hid hsd
  clear hl hn hd hsn hsd
  have HC : Hid (checkN ns ds = if 32 < nn then 1 else if 64 < nd then 1 else if chkN [] ns = 0 then chkD nn (usedN [] ns) ds else chkN [] ns) := by unfold Hid; rw [checkN, HLN.out, HLD.out]
  have hmm := @run_makeMap Tryd.prog
  by_cases h1 : 32 < nn
  · have q1 : decide ((32 : Int) < (nn : Int)) = true := by simp; omega
    go_enter Tryd.func36, Tryd.ntmps36
    go_wp2_with fail
    go_ret
    exact ⟨ret_int (by rw [HC.out, if_pos h1]), (Below.refl _ _).alloc (Nat.le_refl _) _⟩
  have q1 : decide ((32 : Int) < (nn : Int)) = false := by simp; omega
  by_cases h2 : 64 < nd
  · have q2 : decide ((64 : Int) < (nd : Int)) = true := by simp; omega
    go_enter Tryd.func36, Tryd.ntmps36
    go_wp2_with fail
    go_ret
    exact ⟨ret_int (by rw [HC.out, if_neg h1, if_pos h2]), (Below.refl _ _).alloc (Nat.le_refl _) _⟩
  have q2 : decide ((64 : Int) < (nd : Int)) = false := by simp; omega
  go_enter Tryd.func36, Tryd.ntmps36
  go_wp2_with fail
  clear q1 q2 hmm
  generalize hW : w.alloc (.cells #[.slice An nn cn, .slice Ad nd cd] 27) = W
  have HK : Hid (Blk W w.heap.size 27 #[.slice An nn cn, .slice Ad nd cd]) := hW ▸ Blk.new _ _ _
  have HB0 : Hid (Below w.heap.size w W) := hW ▸ (Below.refl _ _).alloc (Nat.le_refl _) _
  have hWs : w.heap.size < W.heap.size := HK.out.lt
  have hWe : w.heap.size + 1 = W.heap.size := by rw [← hW]; simp
  clear hW
  rw [hWe]
  have hU0 := used_made W
  obtain ⟨mb, hmb⟩ : ∃ mb, W.heap.size = mb := ⟨_, rfl⟩
  have HBW : Hid (Below W.heap.size W (W.alloc (.map #[] 0))) := (Below.refl _ _).alloc (Nat.le_refl _) _
  rw [hmb] at hU0 ⊢
  have HMB := Lib.hid hmb; clear hmb hWe
  go_loopw [22] (fun iv wr => NcRel W mb nn ns iv wr) (fun iv _ => nn - (intOf iv).toNat)
  case atStart => exact ⟨0, [], rfl, Nat.zero_le _, Nat.le_refl _, hU0, ⟨rfl, rfl⟩, HBW⟩
  case round =>
    clear hU0 HBW
    obtain ⟨i, U, rfl, hi, hUl, hU, hch, hbl⟩ := hrel
    have hsz := hbl.out.size
    have k0 : wr.cell? ⟨w.heap.size, 0, none⟩ = some (.slice An nn cn) := (HK.out.below hbl.out hWs).cell 0
    have k1 : wr.cell? ⟨w.heap.size, 1, none⟩ = some (.slice Ad nd cd) := (HK.out.below hbl.out hWs).cell 1
    by_cases hlt : i < nn; rotate_left
    · obtain rfl : i = nn := by omega
      have hjj : decide (i < i) = false := by simp
      have hd0 : ns.drop i = [] := List.drop_eq_nil_of_le (by rw [HLN.out]; omega)
      have hch' := hch.out
      rw [hd0] at hch'
      simp only [chkN, usedN] at hch'
      have HCC : Hid (checkN ns ds = chkD i U (ds.drop 0)) := by
        unfold Hid
        rw [HC.out, if_neg h1, if_neg h2, if_pos hch'.1, hch'.2, List.drop_zero]
      clear hch' hch hd0
      go_wp2_with fail
      go_loopw [58] (fun iv wr => NdRel W mb i nd ns ds iv wr) (fun iv _ => nd - (intOf iv).toNat)
      case atStart => exact ⟨0, U, rfl, Nat.zero_le _, by omega, hU, HCC, hbl⟩
      case round =>
        clear hU HCC hbl k0 k1 hjj
        obtain ⟨j, U, rfl, hj, hUl, hU, hch, hbl⟩ := hrel
        have hsz := hbl.out.size
        have k0 : wr.cell? ⟨w.heap.size, 0, none⟩ = some (.slice An i cn) := (HK.out.below hbl.out hWs).cell 0
        by_cases hlj : j < nd; rotate_left
        · obtain rfl : j = nd := by omega
          have hjj : decide (j < j) = false := by simp
          have hd0 : ds.drop j = [] := List.drop_eq_nil_of_le (by rw [HLD.out]; omega)
          have hch' := hch.out
          rw [hd0] at hch'
          simp only [chkD] at hch'
          have HCH := Lib.hid hch'
          clear hch' hch hd0
          go_wp2_with fail
          go_ret
          exact ⟨ret_int (by rw [HCH.out]), HB0.out.trans (hbl.out.mono (Nat.le_of_lt hWs))⟩
        obtain ⟨b, off, x, rfl, hb, hx, hc⟩ := ((HD.out.below HB0.out hBd).below hbl.out (Nat.le_trans hBd (Nat.le_of_lt hWs))).at (fun _ => rfl) (by decide) hlj
        have HXS := Lib.hid (HSD.out x (List.mem_of_getElem? hx))
        have HX := Lib.hid hx
        obtain ⟨nm, kd, xa, xb, co⟩ := x
        have c0 : wr.cell? ⟨b, off + j * 5, none⟩ = some (.string nm) := hc 0 _ rfl
        have c1 : wr.cell? ⟨b, off + j * 5 + 1, none⟩ = some (.int .i64 kd) := hc 1 _ rfl
        have c2 : wr.cell? ⟨b, off + j * 5 + 2, none⟩ = some (.int .i64 xa) := hc 2 _ rfl
        have c3 : wr.cell? ⟨b, off + j * 5 + 3, none⟩ = some (.int .i64 xb) := hc 3 _ rfl
        have c4 : wr.cell? ⟨b, off + j * 5 + 4, none⟩ = some (.int .i64 co) := hc 4 _ rfl
        clear hc hx
        have hnm := HXS.out
        simp only at hnm
        have hstop : ∀ e : Int, dvErr i U ⟨nm, kd, xa, xb, co⟩ = e → e ≠ 0 → checkN ns ds = e := fun e he hne => by
          rw [hch.out, chkD_stop HX.out (by rw [he]; exact hne), he]
        have HST := Lib.hid hstop; clear hstop
        have HEE : Hid (dvErr i U ⟨nm, kd, xa, xb, co⟩ = if nameB (toL nm) = false then 3 else if toL nm ∈ U then 4 else if kd < 1 ∨ 6 < kd then 6 else if endsB kd xa xb i = false then 7 else if compB co = false then 5 else 0) := rfl
        have HL1 := Lib.hid ((HL.out.below HB0.out (Nat.le_refl _)).below hbl.out (Nat.le_refl _))
        go_wp2_with fail
        clear c0 c1 c2 c3 c4
        generalize hWX : wr.alloc (.cells #[.string nm, .int .i64 kd, .int .i64 xa, .int .i64 xb, .int .i64 co] 57) = WX
        have hbX : Below wr.heap.size wr WX := hWX ▸ (Below.refl _ _).alloc (Nat.le_refl _) _
        have hkX : Blk WX wr.heap.size 57 #[.string nm, .int .i64 kd, .int .i64 xa, .int .i64 xb, .int .i64 co] := hWX ▸ Blk.new _ _ _
        clear hWX
        refine (name_any nm WX (HL1.out.below hbX (Nat.le_refl _)) hnm).mono ?_
        rintro e w1 ⟨rfl, hb1⟩
        have hb01 : Below wr.heap.size wr w1 := hbX.trans (hb1.mono hbX.size)
        have HK1 := Lib.hid (hkX.below hb1 hkX.lt)
        have HU1 := Lib.hid (hU.out.below hb01)
        have HB1 := Lib.hid (hbl.out.trans (hb01.mono hsz))
        have HBB := Lib.hid (HB0.out.trans (HB1.out.mono (Nat.le_of_lt hWs)))
        have x0 : w1.cell? ⟨wr.heap.size, 0, none⟩ = some (.string nm) := HK1.out.cell 0
        have x1 : w1.cell? ⟨wr.heap.size, 1, none⟩ = some (.int .i64 kd) := HK1.out.cell 1
        have x2 : w1.cell? ⟨wr.heap.size, 2, none⟩ = some (.int .i64 xa) := HK1.out.cell 2
        have x3 : w1.cell? ⟨wr.heap.size, 3, none⟩ = some (.int .i64 xb) := HK1.out.cell 3
        have x4 : w1.cell? ⟨wr.heap.size, 4, none⟩ = some (.int .i64 co) := HK1.out.cell 4
        have y0 : w1.cell? ⟨w.heap.size, 0, none⟩ = some (.slice An i cn) := (HK.out.below HB1.out hWs).cell 0
        clear hb1 hbX hkX hb01 k0
        rcases hnb : nameB (toL nm) with _ | _
        · have HR := Lib.hid (HST.out 3 (by rw [HEE.out, if_pos hnb]) (by decide))
          clear hnb
          go_wp2_with fail
          go_ret
          exact ⟨ret_int (by rw [HR.out]), HBB.out⟩
        have HNB := Lib.hid hnb; clear hnb
        have hlk := HU1.out.look nm hnm
        by_cases hmem : toL nm ∈ U
        · have HR := Lib.hid (HST.out 4 (by rw [HEE.out, if_neg (by rw [HNB.out]; simp), if_pos hmem]) (by decide))
          rw [decide_eq_true hmem] at hlk
          clear hmem
          go_wp2_with fail
          go_ret
          exact ⟨ret_int (by rw [HR.out]), HBB.out⟩
        rw [decide_eq_false hmem] at hlk
        have HMM := Lib.hid hmem; clear hmem
        have h6 : kd < 1 ∨ 6 < kd → checkN ns ds = 6 := fun h => HST.out 6 (by rw [HEE.out, if_neg (by rw [HNB.out]; simp), if_neg HMM.out, if_pos h]) (by decide)
        have H6 := Lib.hid h6; clear h6
        by_cases g1 : kd < 1
        · have HR := Lib.hid (H6.out (.inl g1))
          go_wp2_with fail
          go_ret
          exact ⟨ret_int (by rw [HR.out]), HBB.out⟩
        have g1' : decide (kd < 1) = false := by simpa using g1
        by_cases g2 : 6 < kd
        · have HR := Lib.hid (H6.out (.inr g2))
          go_wp2_with fail
          go_ret
          exact ⟨ret_int (by rw [HR.out]), HBB.out⟩
        have g2' : decide (6 < kd) = false := by simpa using g2
        have HEN := Lib.hid (ends_any nm kd xa xb co i)
        rcases hen : endsB kd xa xb i with _ | _
        · have HR := Lib.hid (HST.out 7 (by rw [HEE.out, if_neg (by rw [HNB.out]; simp), if_neg HMM.out, if_neg (by omega), if_pos hen]) (by decide))
          rw [hen] at HEN
          clear hen
          go_wp2_with fail
          refine (HEN.out _).mono ?_
          rintro e w2 ⟨rfl, hb2⟩
          go_wp2_with fail
          go_ret
          exact ⟨ret_int (by rw [HR.out]), HBB.out.trans (hb2.mono HBB.out.size)⟩
        rw [hen] at HEN
        have HNE := Lib.hid hen; clear hen
        go_wp2_with fail
        clear x0 x1 x2 x3 x4 y0 hlk
        refine (HEN.out _).mono ?_
        rintro e w2 ⟨rfl, hb2⟩
        have HK2 := Lib.hid (HK1.out.below hb2 HK1.out.lt)
        have HU2 := Lib.hid (HU1.out.below hb2)
        have HB2 := Lib.hid (HB1.out.trans (hb2.mono HB1.out.size))
        have HBB2 := Lib.hid (HBB.out.trans (hb2.mono HBB.out.size))
        have x0 : w2.cell? ⟨wr.heap.size, 0, none⟩ = some (.string nm) := HK2.out.cell 0
        have x4 : w2.cell? ⟨wr.heap.size, 4, none⟩ = some (.int .i64 co) := HK2.out.cell 4
        clear hb2
        have HCO := Lib.hid (company_any co)
        rcases hco : compB co with _ | _
        · have HR := Lib.hid (HST.out 5 (by rw [HEE.out, if_neg (by rw [HNB.out]; simp), if_neg HMM.out, if_neg (by omega), if_neg (by rw [HNE.out]; simp), if_pos hco]) (by decide))
          rw [hco] at HCO
          clear hco
          go_wp2_with fail
          refine (HCO.out _).mono ?_
          rintro e w3 ⟨rfl, rfl⟩
          go_wp2_with fail
          go_ret
          exact ⟨ret_int (by rw [HR.out]), HBB2.out⟩
        have HOK : Hid (dvErr i U ⟨nm, kd, xa, xb, co⟩ = 0) := by unfold Hid; rw [HEE.out, if_neg (by rw [HNB.out]; simp), if_neg HMM.out, if_neg (by omega), if_neg (by rw [HNE.out]; simp), if_neg (by rw [hco]; simp)]
        rw [hco] at HCO
        clear hco
        obtain ⟨w4, hput, hU4, hg4⟩ := HU2.out.put (by omega) nm hnm
        have HU4 := Lib.hid hU4; have HG4 := Lib.hid hg4
        clear hU4 hg4
        go_wp2_with fail
        refine (HCO.out _).mono ?_
        rintro e w3 ⟨rfl, rfl⟩
        go_wp2_with fail
        go_roundw
        case rel =>
          refine ⟨j + 1, toL nm :: U, by go_num, by omega, by simp; omega, HU4, hch.out.trans (chkD_step HX.out HOK.out), HB2.out.trans (below_of_grown HG4.out (by rw [HMB.out]; exact Nat.le_refl _) HB2.out.size)⟩
        case measure => simp [intOf]; omega
    obtain ⟨b, off, x, rfl, hb, hx, hc⟩ := ((HN.out.below HB0.out hBn).below hbl.out (Nat.le_trans hBn (Nat.le_of_lt hWs))).at (fun _ => rfl) (by decide) hlt
    have HXS := Lib.hid (HSN.out x (List.mem_of_getElem? hx))
    have HX := Lib.hid hx
    obtain ⟨nm, cu, co⟩ := x
    have c0 : wr.cell? ⟨b, off + i * 3, none⟩ = some (.string nm) := hc 0 _ rfl
    have c1 : wr.cell? ⟨b, off + i * 3 + 1, none⟩ = some (.int .i64 cu) := hc 1 _ rfl
    have c2 : wr.cell? ⟨b, off + i * 3 + 2, none⟩ = some (.int .i64 co) := hc 2 _ rfl
    clear hc hx
    have hnm := HXS.out
    simp only at hnm
    have hstop : ∀ e : Int, ndErr U ⟨nm, cu, co⟩ = e → e ≠ 0 → checkN ns ds = e := fun e he hne => by
      have hs := chkN_stop HX.out (by rw [he]; exact hne)
      have hcc := hch.out.1
      rw [hs, he] at hcc
      rw [HC.out, if_neg h1, if_neg h2, if_neg (by rw [hcc]; exact hne), hcc]
    have HST := Lib.hid hstop; clear hstop
    have HEE : Hid (ndErr U ⟨nm, cu, co⟩ = if nameB (toL nm) = false then 3 else if toL nm ∈ U then 4 else if cu < 0 ∨ 1048576 < cu then 5 else if compB co = false then 5 else 0) := rfl
    have HL1 := Lib.hid ((HL.out.below HB0.out (Nat.le_refl _)).below hbl.out (Nat.le_refl _))
    go_wp2_with fail
    clear c0 c1 c2
    generalize hWX : wr.alloc (.cells #[.string nm, .int .i64 cu, .int .i64 co] 55) = WX
    have hbX : Below wr.heap.size wr WX := hWX ▸ (Below.refl _ _).alloc (Nat.le_refl _) _
    have hkX : Blk WX wr.heap.size 55 #[.string nm, .int .i64 cu, .int .i64 co] := hWX ▸ Blk.new _ _ _
    clear hWX
    refine (name_any nm WX (HL1.out.below hbX (Nat.le_refl _)) hnm).mono ?_
    rintro e w1 ⟨rfl, hb1⟩
    have hb01 : Below wr.heap.size wr w1 := hbX.trans (hb1.mono hbX.size)
    have HK1 := Lib.hid (hkX.below hb1 hkX.lt)
    have HU1 := Lib.hid (hU.out.below hb01)
    have HB1 := Lib.hid (hbl.out.trans (hb01.mono hsz))
    have HBB := Lib.hid (HB0.out.trans (HB1.out.mono (Nat.le_of_lt hWs)))
    have x0 : w1.cell? ⟨wr.heap.size, 0, none⟩ = some (.string nm) := HK1.out.cell 0
    have x1 : w1.cell? ⟨wr.heap.size, 1, none⟩ = some (.int .i64 cu) := HK1.out.cell 1
    have x2 : w1.cell? ⟨wr.heap.size, 2, none⟩ = some (.int .i64 co) := HK1.out.cell 2
    clear hb1 hbX hkX hb01
    rcases hnb : nameB (toL nm) with _ | _
    · have HR := Lib.hid (HST.out 3 (by rw [HEE.out, if_pos hnb]) (by decide))
      clear hnb
      go_wp2_with fail
      go_ret
      exact ⟨ret_int (by rw [HR.out]), HBB.out⟩
    have HNB := Lib.hid hnb; clear hnb
    have hlk := HU1.out.look nm hnm
    by_cases hmem : toL nm ∈ U
    · have HR := Lib.hid (HST.out 4 (by rw [HEE.out, if_neg (by rw [HNB.out]; simp), if_pos hmem]) (by decide))
      rw [decide_eq_true hmem] at hlk
      clear hmem
      go_wp2_with fail
      go_ret
      exact ⟨ret_int (by rw [HR.out]), HBB.out⟩
    rw [decide_eq_false hmem] at hlk
    have HMM := Lib.hid hmem; clear hmem
    have h5 : cu < 0 ∨ 1048576 < cu ∨ compB co = false → checkN ns ds = 5 := fun h => HST.out 5 (by
      rw [HEE.out, if_neg (by rw [HNB.out]; simp), if_neg HMM.out]
      by_cases hh : cu < 0 ∨ 1048576 < cu
      · rw [if_pos hh]
      · rw [if_neg hh, if_pos (h.elim (fun h => absurd (.inl h) hh) (fun h => h.elim (fun h => absurd (.inr h) hh) id))]) (by decide)
    have H5 := Lib.hid h5; clear h5
    by_cases g1 : cu < 0
    · have HR := Lib.hid (H5.out (.inl g1))
      go_wp2_with fail
      go_ret
      exact ⟨ret_int (by rw [HR.out]), HBB.out⟩
    have g1' : decide (cu < 0) = false := by simpa using g1
    by_cases g2 : 1048576 < cu
    · have HR := Lib.hid (H5.out (.inr (.inl g2)))
      go_wp2_with fail
      go_ret
      exact ⟨ret_int (by rw [HR.out]), HBB.out⟩
    have g2' : decide (1048576 < cu) = false := by simpa using g2
    have HCO := Lib.hid (company_any co)
    rcases hco : compB co with _ | _
    · have HR := Lib.hid (H5.out (.inr (.inr hco)))
      rw [hco] at HCO
      clear hco
      go_wp2_with fail
      refine (HCO.out _).mono ?_
      rintro e w2 ⟨rfl, rfl⟩
      go_wp2_with fail
      go_ret
      exact ⟨ret_int (by rw [HR.out]), HBB.out⟩
    have HOK : Hid (ndErr U ⟨nm, cu, co⟩ = 0) := by unfold Hid; rw [HEE.out, if_neg (by rw [HNB.out]; simp), if_neg HMM.out, if_neg (by omega), if_neg (by rw [hco]; simp)]
    rw [hco] at HCO
    clear hco
    obtain ⟨w2, hput, hU2, hg2⟩ := HU1.out.put (by omega) nm hnm
    have HU2 := Lib.hid hU2; have HG2 := Lib.hid hg2
    clear hU2 hg2
    go_wp2_with fail
    refine (HCO.out _).mono ?_
    rintro e w3 ⟨rfl, rfl⟩
    go_wp2_with fail
    go_roundw
    case rel =>
      have hst := chkN_step HX.out HOK.out
      refine ⟨i + 1, toL nm :: U, by go_num, by omega, by simp; omega, HU2, ⟨hch.out.1.trans hst.1, hch.out.2.trans hst.2⟩, HB1.out.trans (below_of_grown HG2.out (by rw [HMB.out]; exact Nat.le_refl _) HB1.out.size)⟩
    case measure => simp [intOf]; omega
end Go.Proofs.YtbjndpjligpjaaaDoor
/-
  The program's layer 14: walks of order and Check.
-/
namespace Go.Proofs.YtbjndpjligpjaaaDoor
open Go.RowKit
open Go.Sort (grow alloc_eq_grow)
theorem cell_al3 {W : World} {p : Addr} {v : Value} (o : Obj) (h : W.cell? p = some v) : (W.alloc o).cell? p = some v := (World.cell?_alloc_lt W o p (cell_lt h)).trans h
theorem grow_three (w : World) (a b c : Obj) : ∃ n os, ((w.alloc a).alloc b).drew.alloc c = grow (w.drewN n) os := ⟨1, #[a] ++ #[b] ++ #[c], by
  rw [alloc_eq_grow w a, alloc_eq_grow _ b, Go.Sort.grow_grow]
  show (grow w.drew (#[a] ++ #[b])).alloc c = _
  rw [alloc_eq_grow, Go.Sort.grow_grow]; rfl⟩
def cmpI (a b : Int) : Int := if a < b then -1 else if b < a then 1 else 0
def orI (x y : Int) : Int := if x ≠ 0 then x else y
def ordI (a b : Lk) : Int := orI (cmpI a.dev b.dev) (cmpI a.key b.key)
theorem cmpI_zero {a b : Int} : cmpI a b = 0 ↔ a = b := by unfold cmpI; split <;> (try split) <;> omega
theorem ord_lt (a b : Lk) : ordI a b < 0 ↔ befB a b = true := by
  rw [bef_iff]; unfold ordI orI cmpI
  split <;> split <;> (try split) <;> omega
theorem nan_any (x : Int) (w : World) : Calls Tryd.prog 64 #[.int .i64 x] w fun e w' => e = .returned (.bool false) ∧ w = w' := by
  have q : (x != x) = false := by simp
  go_enter Tryd.func64, Tryd.ntmps64
  go_wp2_with fail
  go_ret
  exact ⟨rfl, rfl⟩
theorem cmp_any (x y : Int) (w : World) : Calls Tryd.prog 54 #[.int .i64 x, .int .i64 y] w fun e w' => e = .returned (.int .i64 (cmpI x y)) ∧ w = w' := by
  by_cases h1 : x < y
  · have q1 : decide (x < y) = true := by simpa using h1
    have HR : Hid (cmpI x y = -1) := by unfold Hid cmpI; rw [if_pos h1]
    go_enter Tryd.func54, Tryd.ntmps54
    go_wp2_with fail
    refine (nan_any x w).mono ?_
    rintro e w1 ⟨rfl, rfl⟩
    go_wp2_with fail
    refine (nan_any y _).mono ?_
    rintro e w1 ⟨rfl, rfl⟩
    go_wp2_with fail
    go_ret
    exact ⟨ret_int HR.out.symm, rfl⟩
  have q1 : decide (x < y) = false := by simpa using h1
  by_cases h2 : y < x
  · have q2 : decide (y < x) = true := by simpa using h2
    have HR : Hid (cmpI x y = 1) := by unfold Hid cmpI; rw [if_neg h1, if_pos h2]
    go_enter Tryd.func54, Tryd.ntmps54
    go_wp2_with fail
    refine (nan_any x w).mono ?_
    rintro e w1 ⟨rfl, rfl⟩
    go_wp2_with fail
    refine (nan_any y _).mono ?_
    rintro e w1 ⟨rfl, rfl⟩
    go_wp2_with fail
    go_ret
    exact ⟨ret_int HR.out.symm, rfl⟩
  have q2 : decide (y < x) = false := by simpa using h2
  have HR : Hid (cmpI x y = 0) := by unfold Hid cmpI; rw [if_neg h1, if_neg h2]
  go_enter Tryd.func54, Tryd.ntmps54
  go_wp2_with fail
  refine (nan_any x w).mono ?_
  rintro e w1 ⟨rfl, rfl⟩
  go_wp2_with fail
  refine (nan_any y _).mono ?_
  rintro e w1 ⟨rfl, rfl⟩
  go_wp2_with fail
  go_ret
  exact ⟨ret_int HR.out.symm, rfl⟩
def OrR (w : World) (x : Int) (gk : Nat) (iv : Value) (wr : World) : Prop := ∃ i : Nat, iv = .int .i64 i ∧ i ≤ 2 ∧ gk = 2 - i ∧ Hid (i = 1 → x = 0) ∧ Hid (i = 2 → False) ∧ wr = w
set_option maxHeartbeats 2000000 in
/-- cmp.Or of two numbers in a block. -/
theorem or_any (b : Nat) (x y : Int) (w : World) (h0 : w.cell? ⟨b, 0, none⟩ = some (.int .i64 x)) (h1 : w.cell? ⟨b, 1, none⟩ = some (.int .i64 y)) :
    Calls Tryd.prog 53 #[.slice (some ⟨b, 0, none⟩) 2 2] w fun e w' => e = .returned (.int .i64 (orI x y)) ∧ w = w' := by
  by_cases hx : x = 0
  · subst hx
    have e1 : ((0 : Int) != 0) = false := by decide
    by_cases hy : y = 0
    · subst hy
      go_enter Tryd.func53, Tryd.ntmps53
      go_wp2_with fail
      refine wp_loop_rounds 3 ?_
      rw [rounds_succ]
      go_wp2_with fail
      rw [rounds_succ]
      go_wp2_with fail
      rw [rounds_succ]
      go_wp2_with fail
      go_ret
      exact ⟨ret_int (by unfold orI; rw [if_neg (by simp)]), rfl⟩
    · have e2 : (y != 0) = true := by simpa using hy
      go_enter Tryd.func53, Tryd.ntmps53
      go_wp2_with fail
      refine wp_loop_rounds 3 ?_
      rw [rounds_succ]
      go_wp2_with fail
      rw [rounds_succ]
      go_wp2_with fail
      go_ret
      exact ⟨ret_int (by unfold orI; rw [if_neg (by simp)]), rfl⟩
  · have e1 : (x != 0) = true := by simpa using hx
    have HX := Lib.hid hx
    clear hx
    go_enter Tryd.func53, Tryd.ntmps53
    go_wp2_with fail
    refine wp_loop_rounds 3 ?_
    rw [rounds_succ]
    go_wp2_with fail
    go_ret
    exact ⟨ret_int (by unfold orI; rw [if_pos HX.out]), rfl⟩
set_option maxHeartbeats 4000000 in
theorem order_any (a b : Lk) (w : World) : Calls Tryd.prog 38 #[.agg #[.int .i64 a.dev, .int .i64 a.pos, .int .i64 a.key], .agg #[.int .i64 b.dev, .int .i64 b.pos, .int .i64 b.key]] w fun e w' => e = .returned (.int .i64 (ordI a b)) ∧ ∃ q os, w' = grow (w.drewN q) os := by
  obtain ⟨d, p, q⟩ := a
  obtain ⟨d2, p2, q2⟩ := b
  have HC1 := Lib.hid (fun W => cmp_any d d2 W)
  have HC2 := Lib.hid (fun W => cmp_any q q2 W)
  have HR : Hid (ordI ⟨d, p, q⟩ ⟨d2, p2, q2⟩ = orI (cmpI d d2) (cmpI q q2)) := rfl
  generalize cmpI d d2 = r1 at *
  generalize cmpI q q2 = r2 at *
  have HCS : Hid ((((w.alloc (.cells #[.int .i64 d, .int .i64 p, .int .i64 q] 29)).alloc (.cells #[.int .i64 d2, .int .i64 p2, .int .i64 q2] 29)).cell? ⟨w.heap.size, 0, none⟩ = some (.int .i64 d)) ∧ (((w.alloc (.cells #[.int .i64 d, .int .i64 p, .int .i64 q] 29)).alloc (.cells #[.int .i64 d2, .int .i64 p2, .int .i64 q2] 29)).cell? ⟨w.heap.size, 2, none⟩ = some (.int .i64 q)) ∧ (((w.alloc (.cells #[.int .i64 d, .int .i64 p, .int .i64 q] 29)).alloc (.cells #[.int .i64 d2, .int .i64 p2, .int .i64 q2] 29)).cell? ⟨w.heap.size + 1, 0, none⟩ = some (.int .i64 d2)) ∧ (((w.alloc (.cells #[.int .i64 d, .int .i64 p, .int .i64 q] 29)).alloc (.cells #[.int .i64 d2, .int .i64 p2, .int .i64 q2] 29)).cell? ⟨w.heap.size + 1, 2, none⟩ = some (.int .i64 q2))) := by
    have b1 : Blk ((w.alloc (.cells #[.int .i64 d, .int .i64 p, .int .i64 q] 29)).alloc (.cells #[.int .i64 d2, .int .i64 p2, .int .i64 q2] 29)) w.heap.size 29 #[.int .i64 d, .int .i64 p, .int .i64 q] := (Blk.new _ _ _).alloc _
    have b2 : Blk ((w.alloc (.cells #[.int .i64 d, .int .i64 p, .int .i64 q] 29)).alloc (.cells #[.int .i64 d2, .int .i64 p2, .int .i64 q2] 29)) (w.heap.size + 1) 29 #[.int .i64 d2, .int .i64 p2, .int .i64 q2] := by have := Blk.new (w.alloc (.cells #[.int .i64 d, .int .i64 p, .int .i64 q] 29)) 29 #[.int .i64 d2, .int .i64 p2, .int .i64 q2]; simpa using this
    exact ⟨b1.cell 0, b1.cell 2, b2.cell 0, b2.cell 2⟩
  have HEND : Hid (∀ o, ∃ nq os, ((w.alloc (.cells #[.int .i64 d, .int .i64 p, .int .i64 q] 29)).alloc (.cells #[.int .i64 d2, .int .i64 p2, .int .i64 q2] 29)).drew.alloc o = grow (w.drewN nq) os) := fun o => grow_three w _ _ o
  go_enter Tryd.func38, Tryd.ntmps38
  go_upto_region 1 with (fail)
  generalize World.alloc (World.alloc _ _) _ = W at *
  refine wp_region_J (S := fun W' => W'.cell? ⟨w.heap.size, 0, none⟩ = some (.int .i64 d) ∧ W'.cell? ⟨w.heap.size, 2, none⟩ = some (.int .i64 q) ∧ W'.cell? ⟨w.heap.size + 1, 0, none⟩ = some (.int .i64 d2) ∧ W'.cell? ⟨w.heap.size + 1, 2, none⟩ = some (.int .i64 q2)) (J := []) (by kernel_rfl) ?_ (fun hHeld => ?_)
  · exact HCS.out
  try dsimp only at hHeld
  refine wpAnyJ_takeL (i := 0) (d := some 5) (v := ?_) #[true, false, false, false, false, false, false, false, false, false, false, false, false] (by kernel_rfl) rfl rfl (by kernel_rfl) (by kernel_rfl) (by kernel_rfl) (by kernel_rfl) (by kernel_rfl) (fun _ _ _ h => h) (Or.inl ⟨by rfl, ?_⟩) hHeld ?_
  rotate_left
  · (intro w hSw; (try dsimp only at hSw);  go_simp; try with_reducible rfl)
  try simp only [Act.put, List.setIfInBounds_toArray, List.set_cons_zero, List.set_cons_succ]
  refine wpAnyJ_takeL (i := 1) (d := some 6) (v := ?_) #[true, true, false, false, false, false, false, false, false, false, false, false, false] (by kernel_rfl) rfl rfl (by kernel_rfl) (by kernel_rfl) (by kernel_rfl) (by kernel_rfl) (by kernel_rfl) (fun _ _ _ h => h) (Or.inl ⟨by rfl, ?_⟩) hHeld ?_
  rotate_left
  · (intro w hSw; (try dsimp only at hSw);  go_simp; try with_reducible rfl)
  try simp only [Act.put, List.setIfInBounds_toArray, List.set_cons_zero, List.set_cons_succ]
  refine wpAnyJ_takeL (i := 2) (d := some 7) (v := ?_) #[true, true, true, false, false, false, false, false, false, false, false, false, false] (by kernel_rfl) rfl rfl (by kernel_rfl) (by kernel_rfl) (by kernel_rfl) (by kernel_rfl) (by kernel_rfl) (fun _ _ _ h => h) (Or.inl ⟨by rfl, ?_⟩) hHeld ?_
  rotate_left
  · (intro w hSw; (try dsimp only at hSw);  go_simp; try with_reducible rfl)
  try simp only [Act.put, List.setIfInBounds_toArray, List.set_cons_zero, List.set_cons_succ]
  refine wpAnyJ_takeL (i := 3) (d := some 8) (v := ?_) #[true, true, true, true, false, false, false, false, false, false, false, false, false] (by kernel_rfl) rfl rfl (by kernel_rfl) (by kernel_rfl) (by kernel_rfl) (by kernel_rfl) (by kernel_rfl) (fun _ _ _ h => h) (Or.inl ⟨by rfl, ?_⟩) hHeld ?_
  rotate_left
  · (intro w hSw; (try dsimp only at hSw);  go_simp; try with_reducible rfl)
  try simp only [Act.put, List.setIfInBounds_toArray, List.set_cons_zero, List.set_cons_succ]
  refine wpAnyJ_takeL (i := 5) (d := some 10) (v := ?_) #[true, true, true, true, false, true, false, false, false, false, false, false, false] (by kernel_rfl) rfl rfl (by kernel_rfl) (by kernel_rfl) (by kernel_rfl) (by kernel_rfl) (by kernel_rfl) (fun _ _ _ h => h) (Or.inl ⟨by rfl, ?_⟩) hHeld ?_
  rotate_left
  · (intro w hSw; (try dsimp only at hSw);  go_simp; try with_reducible rfl)
  try simp only [Act.put, List.setIfInBounds_toArray, List.set_cons_zero, List.set_cons_succ]
  refine wpAnyJ_takeL (i := 6) (d := some 11) (v := ?_) #[true, true, true, true, false, true, true, false, false, false, false, false, false] (by kernel_rfl) rfl rfl (by kernel_rfl) (by kernel_rfl) (by kernel_rfl) (by kernel_rfl) (by kernel_rfl) (fun _ _ _ h => h) (Or.inl ⟨by rfl, ?_⟩) hHeld ?_
  rotate_left
  · (intro w hSw; (try dsimp only at hSw);  go_simp; try with_reducible rfl)
  try simp only [Act.put, List.setIfInBounds_toArray, List.set_cons_zero, List.set_cons_succ]
  refine wpAnyJ_takeL (i := 7) (d := some 12) (v := ?_) #[true, true, true, true, false, true, true, true, false, false, false, false, false] (by kernel_rfl) rfl rfl (by kernel_rfl) (by kernel_rfl) (by kernel_rfl) (by kernel_rfl) (by kernel_rfl) (fun _ _ _ h => h) (Or.inl ⟨by rfl, ?_⟩) hHeld ?_
  rotate_left
  · (intro w hSw; (try dsimp only at hSw);  go_simp; try with_reducible rfl)
  try simp only [Act.put, List.setIfInBounds_toArray, List.set_cons_zero, List.set_cons_succ]
  refine wpAnyJ_takeL (i := 8) (d := some 13) (v := ?_) #[true, true, true, true, false, true, true, true, true, false, false, false, false] (by kernel_rfl) rfl rfl (by kernel_rfl) (by kernel_rfl) (by kernel_rfl) (by kernel_rfl) (by kernel_rfl) (fun _ _ _ h => h) (Or.inl ⟨by rfl, ?_⟩) hHeld ?_
  rotate_left
  · (intro w hSw; (try dsimp only at hSw);  go_simp; try with_reducible rfl)
  try simp only [Act.put, List.setIfInBounds_toArray, List.set_cons_zero, List.set_cons_succ]
  refine wpAnyJ_oneL (k := 4) #[true, true, true, true, true, true, true, true, true, false, false, false, false] (by kernel_rfl) (by kernel_rfl) rfl (fun K hK => ?_)
  (go_simp; refine (HC1.out _).mono ?_; rintro e w1 ⟨rfl, rfl⟩; go_simp)
  refine hK.out _ _ (fun _ => ?_) (fun hHeld' => ?_)
  · exact HCS.out
  replace hHeld := hHeld' rfl
  clear hHeld' hK K
  try dsimp only at hHeld
  refine wpAnyJ_oneL (k := 9) #[true, true, true, true, true, true, true, true, true, true, false, false, false] (by kernel_rfl) (by kernel_rfl) rfl (fun K hK => ?_)
  (go_simp; refine (HC2.out _).mono ?_; rintro e w1 ⟨rfl, rfl⟩; go_simp)
  refine hK.out _ _ (fun _ => ?_) (fun hHeld' => ?_)
  · exact HCS.out
  replace hHeld := hHeld' rfl
  clear hHeld' hK K
  try dsimp only at hHeld
  refine wpAnyJ_oneL (k := 10) #[true, true, true, true, true, true, true, true, true, true, true, false, false] (by kernel_rfl) (by kernel_rfl) rfl (fun K hK => ?_)
  go_simp
  refine hK.out _ _ (fun _ => ?_) (fun hHeld' => ?_)
  · exact ⟨cell_al3 _ HCS.out.1, cell_al3 _ HCS.out.2.1, cell_al3 _ HCS.out.2.2.1, cell_al3 _ HCS.out.2.2.2⟩
  replace hHeld := hHeld' rfl
  clear hHeld' hK K
  try dsimp only at hHeld
  refine wpAnyJ_oneL (k := 11) #[true, true, true, true, true, true, true, true, true, true, true, true, false] (by kernel_rfl) (by kernel_rfl) rfl (fun K hK => ?_)
  (go_simp; refine (or_any W.heap.size r1 r2 _ (by simp) (by simp)).mono ?_; rintro e w1 ⟨rfl, rfl⟩; go_simp)
  refine hK.out _ _ (fun _ => ?_) (fun hHeld' => ?_)
  · exact ⟨cell_al3 _ HCS.out.1, cell_al3 _ HCS.out.2.1, cell_al3 _ HCS.out.2.2.1, cell_al3 _ HCS.out.2.2.2⟩
  replace hHeld := hHeld' rfl
  clear hHeld' hK K
  try dsimp only at hHeld
  refine wpAnyJ_takeL (i := 12) (d := some 4) (v := ?_) #[true, true, true, true, true, true, true, true, true, true, true, true, true] (by kernel_rfl) rfl rfl (by kernel_rfl) (by kernel_rfl) (by kernel_rfl) (by kernel_rfl) (by kernel_rfl) (fun _ _ _ h => h) (Or.inl ⟨by rfl, ?_⟩) hHeld ?_
  rotate_left
  · (intro w hSw; (try dsimp only at hSw);  go_simp; try with_reducible rfl)
  try simp only [Act.put, List.setIfInBounds_toArray, List.set_cons_zero, List.set_cons_succ]
  refine wpAnyJ_done (by kernel_rfl) ?_ _
  go_wp2_with fail
  go_ret
  exact ⟨ret_int HR.out.symm, HEND.out _⟩
end Go.Proofs.YtbjndpjligpjaaaDoor
