import Derived.Test.YtbjndpjligpjaaaDoorZ13
/-
  The reference of layer 3: walk of Gap; what the worst masks hold.
-/
namespace Go.Proofs.YtbjndpjligpjaaaDoor
open Go.RowKit
theorem rgap_any (k : Int) (w : World) : Calls Tryd.prog 49 #[.int .i64 k] w fun e w' => e = .returned (.bool (gapB k)) ∧ w = w' := by
  by_cases h1 : k = 1
  · subst h1
    go_enter Tryd.func49, Tryd.ntmps49
    go_wp2_with fail
    go_ret
    exact ⟨rfl, rfl⟩
  · have q1 : (k == 1) = false := by simpa using h1
    by_cases h2 : k = 3
    · subst h2
      go_enter Tryd.func49, Tryd.ntmps49
      go_wp2_with fail
      go_ret
      exact ⟨rfl, rfl⟩
    · have q2 : (k == 3) = false := by simpa using h2
      have HR : Hid (gapB k = (k == 6)) := by unfold Hid gapB; rw [q1, q2]; simp
      go_enter Tryd.func49, Tryd.ntmps49
      go_wp2_with fail
      go_ret
      exact ⟨ret_bool HR.out.symm, rfl⟩
section
variable {ds : List Dv} {ls : List Lk}
theorem wrs_some {i : Nat} {p : Int} (h : lckL ls i = some p) : wrsAt ds ls i = p := by unfold wrsAt; rw [h]
theorem wrs_inf {i : Nat} (h : lckL ls i = none) (hk : kindOf ds i = 5) : wrsAt ds ls i = 2 := by unfold wrsAt; rw [h]; simp only [if_pos hk]
theorem wrs_else {i : Nat} (h : lckL ls i = none) (hk : kindOf ds i ≠ 5) : wrsAt ds ls i = 3 := by unfold wrsAt; rw [h]; simp only [if_neg hk]
end
end Go.Proofs.YtbjndpjligpjaaaDoor
/-
  The references of layer 14: walks of some, Gaps, Earths, Worst.
-/
namespace Go.Proofs.YtbjndpjligpjaaaDoor
open Go.RowKit
def rkB (earths : Bool) (k : Int) : Bool := if earths then k == 4 else gapB k
def SmR (w : World) (N : Array Value) (ds : List Dv) (ls : List Lk) (pos : Int) (p : Int → Bool) (n gk : Nat) (ov iv : Value) (wr : World) : Prop := ∃ (i m c : Nat) (A : Option Addr), ov = .slice A m c ∧ iv = .int .i64 i ∧ i ≤ n ∧ gk = n - i ∧ m ≤ i ∧ Hid ((thoTo ds ls pos p i).length = m) ∧ Hid (IntsO wr (w.heap.size + 1) A m c (thoTo ds ls pos p i)) ∧ Hid (PcSt w N wr)
set_option maxRecDepth 100000 in
set_option maxHeartbeats 8000000 in
theorem rsome_any (es : Bool) (pos : Int) (An Ad Al : Option Addr) (nn cn nd cd n c Bd Bl : Nat) (ds : List Dv) (ls : List Lk) (w : World) (hd : Sl w Bd 5 Ad nd cd (ds.flatMap Dv.cells)) (hs : Sl w Bl 3 Al n c (ls.flatMap Lk.cells)) (hBd : Bd ≤ w.heap.size) (hBl : Bl ≤ w.heap.size) (hnd : nd ≤ 1000) :
    Calls Tryd.prog 34 #[.agg #[.slice An nn cn, .slice Ad nd cd], .slice Al n c, .int .i64 pos, .bool es] w fun e w' => (∃ (A : Option Addr) (c' : Nat), e = .returned (.slice A (thoTo ds ls pos (rkB es) nd).length c') ∧ Hid (IntsO w' w.heap.size A (thoTo ds ls pos (rkB es) nd).length c' (thoTo ds ls pos (rkB es) nd))) ∧ Hid (Below w.heap.size w w') := by
  have HS := Lib.hid hs; have HD := Lib.hid hd
  have hdl := hd.le
  have HST : Hid (PcSt w #[.slice An nn cn, .slice Ad nd cd] (w.alloc (.cells #[.slice An nn cn, .slice Ad nd cd] 27))) := ⟨Blk.new _ _ _, (Below.refl _ _).alloc (Nat.le_refl _) _⟩
  clear hd hs
  go_enter Tryd.func34, Tryd.ntmps34
  go_wp2_with fail
  generalize World.alloc _ _ = W at *
  go_loopg [9, 10] nd (SmR w #[.slice An nn cn, .slice Ad nd cd] ds ls pos (rkB es) nd)
  case atStart => exact ⟨0, 0, 0, none, rfl, rfl, Nat.zero_le _, rfl, Nat.le_refl _, rfl, World.ownsRow_nil _ _ _ _, HST⟩
  case round =>
    clear HST
    obtain ⟨i, m, c3, A, rfl, rfl, hi, rfl, hmi, hlen, hO, hst⟩ := hrel
    have k1 : wr.cell? ⟨w.heap.size, 1, none⟩ = some (.slice Ad nd cd) := hst.out.bn.cell 1
    by_cases hlt : i < nd
    · go_wp2_with fail
      clear k1
      refine (rlocked_any Al n c Bl ls i wr (HS.out.below hst.out.bl hBl) (by have := hst.out.bl.size; omega)).mono ?_
      rintro e w3 ⟨rfl, hb3⟩
      have HS3 := Lib.hid (hst.out.later hb3)
      have HO3 := Lib.hid (hO.out.later hb3)
      clear hb3 hst hO
      obtain ⟨b, off, x, rfl, hb, hx, hc⟩ := (HD.out.below HS3.out.bl hBd).at (fun _ => rfl) (by decide) hlt
      have HKO := Lib.hid (kindOf_at hx)
      obtain ⟨nm, kd, xa, xb, co⟩ := x
      have c1 : w3.cell? ⟨b, off + i * 5 + 1, none⟩ = some (.int .i64 kd) := hc 1 _ rfl
      have k1 : w3.cell? ⟨w.heap.size, 1, none⟩ = some (.slice (some ⟨b, off, none⟩) nd cd) := HS3.out.bn.cell 1
      clear hc hx
      have HSU := Lib.hid (thoTo_succ ds ls pos (rkB es) i)
      have HTB : Hid (thoB ds ls pos (rkB es) i = (decide (lckL ls i = some pos) && rkB es kd)) := by unfold Hid thoB; rw [HKO.out]
      have hz3 := HS3.out.bn.lt
      unfold lckE
      rcases hl : lckL ls i with _ | pv
      · have HF : Hid (thoTo ds ls pos (rkB es) (i + 1) = thoTo ds ls pos (rkB es) i) := by unfold Hid; rw [HSU.out, HTB.out, hl]; rfl
        clear hl
        simp only [Option.getD_none, Option.isSome_none]
        go_wp2_with fail
        go_roundg (nd - (i + 1))
        case rel => exact ⟨i + 1, m, c3, A, rfl, by go_num, by omega, rfl, by omega, by rw [HF.out]; exact hlen, by rw [HF.out]; exact HO3, HS3⟩
        case measure => omega
      · simp only [Option.getD_some, Option.isSome_some]
        by_cases hpp : pv = pos; rotate_left
        · have qp : (pv == pos) = false := by simpa using hpp
          have HF : Hid (thoTo ds ls pos (rkB es) (i + 1) = thoTo ds ls pos (rkB es) i) := by unfold Hid; rw [HSU.out, HTB.out, hl]; simp [hpp]
          clear hl hpp
          go_wp2_with fail
          go_roundg (nd - (i + 1))
          case rel => exact ⟨i + 1, m, c3, A, rfl, by go_num, by omega, rfl, by omega, by rw [HF.out]; exact hlen, by rw [HF.out]; exact HO3, HS3⟩
          case measure => omega
        subst hpp
        have qp : (pv == pv) = true := by simp
        have hHIT : rkB es kd = true → Hid (thoTo ds ls pv (rkB es) (i + 1) = thoTo ds ls pv (rkB es) i ++ [(i : Int)]) := fun h => by unfold Hid; rw [HSU.out, HTB.out, hl, h]; simp
        have hMISS : rkB es kd = false → Hid (thoTo ds ls pv (rkB es) (i + 1) = thoTo ds ls pv (rkB es) i) := fun h => by unfold Hid; rw [HSU.out, HTB.out, hl, h]; simp
        have HHIT := Lib.hid hHIT; have HMISS := Lib.hid hMISS
        clear hl hHIT hMISS
        have hr1 : ∀ b, (Value.slice A m c3).ownBlock = some b → w.heap.size + 1 ≤ b := fun b e => (HO3.out.lt b e).1
        have HR1 := Lib.hid hr1
        clear hr1
        rcases es with _ | _
        · have hrk : rkB false kd = gapB kd := rfl
          rw [hrk] at HHIT HMISS
          have HGP := Lib.hid (rgap_any kd w3)
          rcases hg : gapB kd with _ | _
          · rw [hg] at HGP HMISS
            have HF := HMISS.out rfl
            clear hg hrk HHIT HMISS
            go_wp2_with fail
            refine HGP.out.mono ?_
            rintro e w4 ⟨rfl, rfl⟩
            go_wp2_with fail
            go_roundg (nd - (i + 1))
            case rel => exact ⟨i + 1, m, c3, A, rfl, by go_num, by omega, rfl, by omega, by rw [HF.out]; exact hlen, by rw [HF.out]; exact HO3, HS3⟩
            case measure => omega
          · rw [hg] at HGP HHIT
            have HF := HHIT.out rfl
            clear hg hrk HHIT HMISS
            go_wp2_with fail
            refine HGP.out.mono ?_
            rintro e w4 ⟨rfl, rfl⟩
            clear k1 c1 qp
            go_wp2_with (at_builtin; go_must (refine wpList_app rfl (.tmp 54) (.tmp 56) rfl el_int (by rfl) (World.ownsRow.alloc HO3.out _) (by rfl) (Sl.newest (n := 1) (by simp) (by rfl) (by decide)) (by simp [Value.oneCell']) (by omega) (by omega) (by simp; omega) ?_; intro A' cap' w5 hown5 hgr5 hat5; have HO5 := Lib.hid hown5; have HG5 := Lib.hid hgr5; clear hown5 hgr5 hat5))
            go_roundg (nd - (i + 1))
            case rel =>
              have hg5 := HG5.out
              have hb5 : Below (w.heap.size + 1) w3 w5 := ((Below.refl _ _).alloc hz3 _).trans ⟨hg5.os, hg5.tape, hg5.output, hg5.size, fun t ht => hg5.block t (by simp; omega) (fun e => by have := HR1.out t e.symm; omega)⟩
              refine ⟨i + 1, m + 1, cap', A', rfl, by go_num, by omega, rfl, by omega, ?_, ?_, ⟨HS3.out.bn.below hb5 (by omega), HS3.out.bl.trans (hb5.mono (by omega))⟩⟩
              · unfold Hid; rw [HF.out, List.length_append, hlen.out]; rfl
              · unfold Hid IntsO; rw [HF.out, intsV_append]; exact HO5.out
            case measure => omega
        · have hrk : rkB true kd = (kd == 4) := rfl
          rw [hrk] at HHIT HMISS
          rcases hg : (kd == 4) with _ | _
          · rw [hg] at HMISS
            have HF := HMISS.out rfl
            clear hrk HHIT HMISS
            go_wp2_with fail
            go_roundg (nd - (i + 1))
            case rel => exact ⟨i + 1, m, c3, A, rfl, by go_num, by omega, rfl, by omega, by rw [HF.out]; exact hlen, by rw [HF.out]; exact HO3, HS3⟩
            case measure => omega
          · rw [hg] at HHIT
            have HF := HHIT.out rfl
            clear hrk HHIT HMISS
            go_upto_region 8 with (fail)
            clear k1 c1 qp hg
            go_wp2_with (at_builtin; go_must (refine wpList_app rfl (.tmp 54) (.tmp 56) rfl el_int (by rfl) (World.ownsRow.alloc HO3.out _) (by rfl) (Sl.newest (n := 1) (by simp) (by rfl) (by decide)) (by simp [Value.oneCell']) (by omega) (by omega) (by simp; omega) ?_; intro A' cap' w5 hown5 hgr5 hat5; have HO5 := Lib.hid hown5; have HG5 := Lib.hid hgr5; clear hown5 hgr5 hat5))
            go_roundg (nd - (i + 1))
            case rel =>
              have hg5 := HG5.out
              have hb5 : Below (w.heap.size + 1) w3 w5 := ((Below.refl _ _).alloc hz3 _).trans ⟨hg5.os, hg5.tape, hg5.output, hg5.size, fun t ht => hg5.block t (by simp; omega) (fun e => by have := HR1.out t e.symm; omega)⟩
              refine ⟨i + 1, m + 1, cap', A', rfl, by go_num, by omega, rfl, by omega, ?_, ?_, ⟨HS3.out.bn.below hb5 (by omega), HS3.out.bl.trans (hb5.mono (by omega))⟩⟩
              · unfold Hid; rw [HF.out, List.length_append, hlen.out]; rfl
              · unfold Hid IntsO; rw [HF.out, intsV_append]; exact HO5.out
            case measure => omega
    · obtain rfl : i = nd := by omega
      have hii : decide (i < i) = false := by simp
      go_wp2_with fail
      go_ret
      refine ⟨⟨A, c3, by rw [hlen.out]; rfl, ?_⟩, hst.out.bl⟩
      unfold Hid; rw [hlen.out]; exact hO.out.mono (by omega)
theorem rgaps_any (An Ad Al : Option Addr) (nn cn nd cd n c Bn Bd Bl : Nat) (ns : List Nd) (ds : List Dv) (ls : List Lk) (w : World) (hn : Sl w Bn 3 An nn cn (ns.flatMap Nd.cells)) (hd : Sl w Bd 5 Ad nd cd (ds.flatMap Dv.cells)) (hs : Sl w Bl 3 Al n c (ls.flatMap Lk.cells)) (hBn : Bn ≤ w.heap.size) (hBd : Bd ≤ w.heap.size) (hBl : Bl ≤ w.heap.size) (hnd : nd ≤ 1000)
    (hsn : ∀ x ∈ ns, x.name.size ≤ 9223372036854775807) (hsd : ∀ x ∈ ds, x.name.size ≤ 9223372036854775807) :
    Calls Tryd.prog 13 #[.agg #[.slice An nn cn, .slice Ad nd cd], .slice Al n c] w (IntsEPost w (locksErr ns ds ls) (thoTo ds ls 1 gapB nd)) := by
  have HS := Lib.hid hs; have HD := Lib.hid hd
  have HST : Hid (PcSt w #[.slice An nn cn, .slice Ad nd cd] (w.alloc (.cells #[.slice An nn cn, .slice Ad nd cd] 27))) := ⟨Blk.new _ _ _, (Below.refl _ _).alloc (Nat.le_refl _) _⟩
  have HCK := Lib.hid (rlcheck_any An Ad Al nn cn nd cd n c Bn Bd Bl ns ds ls (w.alloc (.cells #[.slice An nn cn, .slice Ad nd cd] 27)) (hn.below HST.out.bl hBn) (hd.below HST.out.bl hBd) (hs.below HST.out.bl hBl) (by simp; omega) (by simp; omega) (by simp; omega) hsn hsd)
  clear hn hd hs hsn hsd
  go_enter Tryd.func13, Tryd.ntmps13
  go_wp2_with fail
  generalize World.alloc _ _ = W at *
  refine HCK.out.mono ?_
  rintro e w1 ⟨rfl, hb1⟩
  have HS1 := Lib.hid (HST.out.later hb1)
  clear hb1 HST HCK
  by_cases h0 : locksErr ns ds ls = 0; rotate_left
  · have q0 : (locksErr ns ds ls != 0) = true := by simpa using h0
    have HNZ := Lib.hid h0
    clear h0
    go_wp2_with fail
    go_ret2
    exact ⟨.inl ⟨HNZ.out, rfl⟩, HS1.out.bl⟩
  have HZ := Lib.hid h0
  rw [h0]
  clear h0
  have hz1 := HS1.out.bn.lt
  have k0 : w1.cell? ⟨w.heap.size, 0, none⟩ = some (.slice An nn cn) := HS1.out.bn.cell 0
  have k1 : w1.cell? ⟨w.heap.size, 1, none⟩ = some (.slice Ad nd cd) := HS1.out.bn.cell 1
  go_wp2_with fail
  clear k0 k1
  refine (rsome_any false 1 An Ad Al nn cn nd cd n c Bd Bl ds ls w1 (HD.out.below HS1.out.bl hBd) (HS.out.below HS1.out.bl hBl) (by omega) (by omega) hnd).mono ?_
  rintro e w2 ⟨⟨A, c2, rfl, hO⟩, hb⟩
  rw [show rkB false = gapB from rfl] at hO ⊢
  generalize thoTo ds ls 1 gapB nd = l at *
  go_wp2_with fail
  go_ret2
  exact ⟨.inr ⟨HZ.out, A, c2, rfl, hO.out.mono (by omega)⟩, HS1.out.bl.trans (hb.out.mono HS1.out.bl.size)⟩
theorem rearths_any (An Ad Al : Option Addr) (nn cn nd cd n c Bn Bd Bl : Nat) (ns : List Nd) (ds : List Dv) (ls : List Lk) (w : World) (hn : Sl w Bn 3 An nn cn (ns.flatMap Nd.cells)) (hd : Sl w Bd 5 Ad nd cd (ds.flatMap Dv.cells)) (hs : Sl w Bl 3 Al n c (ls.flatMap Lk.cells)) (hBn : Bn ≤ w.heap.size) (hBd : Bd ≤ w.heap.size) (hBl : Bl ≤ w.heap.size) (hnd : nd ≤ 1000)
    (hsn : ∀ x ∈ ns, x.name.size ≤ 9223372036854775807) (hsd : ∀ x ∈ ds, x.name.size ≤ 9223372036854775807) :
    Calls Tryd.prog 15 #[.agg #[.slice An nn cn, .slice Ad nd cd], .slice Al n c] w (IntsEPost w (locksErr ns ds ls) (thoTo ds ls 2 (fun k => k == 4) nd)) := by
  rw [show (fun k : Int => k == 4) = rkB true from rfl]
  have HS := Lib.hid hs; have HD := Lib.hid hd
  have HST : Hid (PcSt w #[.slice An nn cn, .slice Ad nd cd] (w.alloc (.cells #[.slice An nn cn, .slice Ad nd cd] 27))) := ⟨Blk.new _ _ _, (Below.refl _ _).alloc (Nat.le_refl _) _⟩
  have HCK := Lib.hid (rlcheck_any An Ad Al nn cn nd cd n c Bn Bd Bl ns ds ls (w.alloc (.cells #[.slice An nn cn, .slice Ad nd cd] 27)) (hn.below HST.out.bl hBn) (hd.below HST.out.bl hBd) (hs.below HST.out.bl hBl) (by simp; omega) (by simp; omega) (by simp; omega) hsn hsd)
  clear hn hd hs hsn hsd
  go_enter Tryd.func15, Tryd.ntmps15
  go_wp2_with fail
  generalize World.alloc _ _ = W at *
  refine HCK.out.mono ?_
  rintro e w1 ⟨rfl, hb1⟩
  have HS1 := Lib.hid (HST.out.later hb1)
  clear hb1 HST HCK
  by_cases h0 : locksErr ns ds ls = 0; rotate_left
  · have q0 : (locksErr ns ds ls != 0) = true := by simpa using h0
    have HNZ := Lib.hid h0
    clear h0
    go_wp2_with fail
    go_ret2
    exact ⟨.inl ⟨HNZ.out, rfl⟩, HS1.out.bl⟩
  have HZ := Lib.hid h0
  rw [h0]
  clear h0
  have hz1 := HS1.out.bn.lt
  have k0 : w1.cell? ⟨w.heap.size, 0, none⟩ = some (.slice An nn cn) := HS1.out.bn.cell 0
  have k1 : w1.cell? ⟨w.heap.size, 1, none⟩ = some (.slice Ad nd cd) := HS1.out.bn.cell 1
  go_wp2_with fail
  clear k0 k1
  refine (rsome_any true 2 An Ad Al nn cn nd cd n c Bd Bl ds ls w1 (HD.out.below HS1.out.bl hBd) (HS.out.below HS1.out.bl hBl) (by omega) (by omega) hnd).mono ?_
  rintro e w2 ⟨⟨A, c2, rfl, hO⟩, hb⟩
  generalize thoTo ds ls 2 (rkB true) nd = l at *
  go_wp2_with fail
  go_ret2
  exact ⟨.inr ⟨HZ.out, A, c2, rfl, hO.out.mono (by omega)⟩, HS1.out.bl.trans (hb.out.mono HS1.out.bl.size)⟩
theorem wrsTo_succ (ds : List Dv) (ls : List Lk) (n : Nat) : wrsTo ds ls (n + 1) = wrsTo ds ls n ++ [wrsAt ds ls n] := by simp [wrsTo, List.range_succ]
def RwR (w : World) (N : Array Value) (ds : List Dv) (ls : List Lk) (n gk : Nat) (ov iv : Value) (wr : World) : Prop := ∃ (i c : Nat) (A : Option Addr), ov = .slice A i c ∧ iv = .int .i64 i ∧ i ≤ n ∧ gk = n - i ∧ Hid (IntsO wr (w.heap.size + 1) A i c (wrsTo ds ls i)) ∧ Hid (PcSt w N wr)
set_option maxRecDepth 100000 in
set_option maxHeartbeats 8000000 in
theorem rworst_any (An Ad Al : Option Addr) (nn cn nd cd n c Bn Bd Bl : Nat) (ns : List Nd) (ds : List Dv) (ls : List Lk) (w : World) (hn : Sl w Bn 3 An nn cn (ns.flatMap Nd.cells)) (hd : Sl w Bd 5 Ad nd cd (ds.flatMap Dv.cells)) (hs : Sl w Bl 3 Al n c (ls.flatMap Lk.cells)) (hBn : Bn ≤ w.heap.size) (hBd : Bd ≤ w.heap.size) (hBl : Bl ≤ w.heap.size) (hnd : nd ≤ 1000)
    (hsn : ∀ x ∈ ns, x.name.size ≤ 9223372036854775807) (hsd : ∀ x ∈ ds, x.name.size ≤ 9223372036854775807) :
    Calls Tryd.prog 17 #[.agg #[.slice An nn cn, .slice Ad nd cd], .slice Al n c] w (IntsEPost w (locksErr ns ds ls) (wrsTo ds ls nd)) := by
  have HS := Lib.hid hs; have HD := Lib.hid hd
  have hdl := hd.le
  have HST : Hid (PcSt w #[.slice An nn cn, .slice Ad nd cd] (w.alloc (.cells #[.slice An nn cn, .slice Ad nd cd] 27))) := ⟨Blk.new _ _ _, (Below.refl _ _).alloc (Nat.le_refl _) _⟩
  have HCK := Lib.hid (rlcheck_any An Ad Al nn cn nd cd n c Bn Bd Bl ns ds ls (w.alloc (.cells #[.slice An nn cn, .slice Ad nd cd] 27)) (hn.below HST.out.bl hBn) (hd.below HST.out.bl hBd) (hs.below HST.out.bl hBl) (by simp; omega) (by simp; omega) (by simp; omega) hsn hsd)
  clear hn hd hs hsn hsd
  go_enter Tryd.func17, Tryd.ntmps17
  go_wp2_with fail
  generalize World.alloc _ _ = W at *
  refine HCK.out.mono ?_
  rintro e w1 ⟨rfl, hb1⟩
  have HS1 := Lib.hid (HST.out.later hb1)
  clear hb1 HST HCK
  by_cases h0 : locksErr ns ds ls = 0; rotate_left
  · have q0 : (locksErr ns ds ls != 0) = true := by simpa using h0
    have HNZ := Lib.hid h0
    clear h0
    go_wp2_with fail
    go_ret2
    exact ⟨.inl ⟨HNZ.out, rfl⟩, HS1.out.bl⟩
  have HZ := Lib.hid h0
  rw [h0]
  clear h0
  go_wp2_with fail
  go_loopg [7, 8] nd (RwR w #[.slice An nn cn, .slice Ad nd cd] ds ls nd)
  case atStart => exact ⟨0, 0, none, rfl, rfl, Nat.zero_le _, rfl, World.ownsRow_nil _ _ _ _, HS1⟩
  case round =>
    clear HS1
    obtain ⟨i, c3, A, rfl, rfl, hi, rfl, hO, hst⟩ := hrel
    have k1 : wr.cell? ⟨w.heap.size, 1, none⟩ = some (.slice Ad nd cd) := hst.out.bn.cell 1
    by_cases hlt : i < nd
    · go_wp2_with fail
      clear k1
      refine (rlocked_any Al n c Bl ls i wr (HS.out.below hst.out.bl hBl) (by have := hst.out.bl.size; omega)).mono ?_
      rintro e w3 ⟨rfl, hb3⟩
      have HS3 := Lib.hid (hst.out.later hb3)
      have HO3 := Lib.hid (hO.out.later hb3)
      clear hb3 hst hO
      obtain ⟨b, off, x, rfl, hb, hx, hc⟩ := (HD.out.below HS3.out.bl hBd).at (fun _ => rfl) (by decide) hlt
      have HKO := Lib.hid (kindOf_at hx)
      obtain ⟨nm, kd, xa, xb, co⟩ := x
      have c1 : w3.cell? ⟨b, off + i * 5 + 1, none⟩ = some (.int .i64 kd) := hc 1 _ rfl
      have k1 : w3.cell? ⟨w.heap.size, 1, none⟩ = some (.slice (some ⟨b, off, none⟩) nd cd) := HS3.out.bn.cell 1
      clear hc hx
      have hz3 := HS3.out.bn.lt
      have HR1 : Hid (∀ b, (Value.slice A i c3).ownBlock = some b → w.heap.size + 1 ≤ b) := fun b e => (HO3.out.lt b e).1
      have HSU := Lib.hid (wrsTo_succ ds ls i)
      unfold lckE
      have hcase : (lckL ls i = none ∧ kd = 5 ∧ wrsAt ds ls i = 2) ∨ (lckL ls i = none ∧ kd ≠ 5 ∧ wrsAt ds ls i = 3) ∨ ∃ p, lckL ls i = some p ∧ wrsAt ds ls i = p := by
        rcases hl : lckL ls i with _ | p
        · by_cases h5 : kd = 5
          · exact .inl ⟨rfl, h5, wrs_inf hl (by rw [HKO.out]; exact h5)⟩
          · exact .inr (.inl ⟨rfl, h5, wrs_else hl (by rw [HKO.out]; exact h5)⟩)
        · exact .inr (.inr ⟨p, rfl, wrs_some hl⟩)
      rcases hcase with ⟨hl, h5, hw⟩ | ⟨hl, h5, hw⟩ | ⟨p, hl, hw⟩
      · subst h5
        rw [hl]
        rw [hw] at HSU
        clear hl hw
        simp only [Option.getD_none, Option.isSome_none]
        go_upto_region 14 with (fail)
        clear k1 c1
        go_wp2_with (at_builtin; go_must (refine wpList_app rfl (.tmp 40) (.tmp 42) rfl el_int (by rfl) (World.ownsRow.alloc HO3.out _) (by rfl) (Sl.newest (n := 1) (by simp) (by rfl) (by decide)) (by simp [Value.oneCell']) (by omega) (by omega) (by simp; omega) ?_; intro A' cap' w5 hown5 hgr5 hat5; have HO5 := Lib.hid hown5; have HG5 := Lib.hid hgr5; clear hown5 hgr5 hat5))
        go_roundg (nd - (i + 1))
        case rel =>
          have hg5 := HG5.out
          have hb5 : Below (w.heap.size + 1) w3 w5 := ((Below.refl _ _).alloc hz3 _).trans ⟨hg5.os, hg5.tape, hg5.output, hg5.size, fun t ht => hg5.block t (by simp; omega) (fun e => by have := HR1.out t e.symm; omega)⟩
          refine ⟨i + 1, cap', A', rfl, by go_num, by omega, rfl, ?_, ⟨HS3.out.bn.below hb5 (by omega), HS3.out.bl.trans (hb5.mono (by omega))⟩⟩
          unfold Hid IntsO; rw [HSU.out, intsV_append]; exact HO5.out
        case measure => omega
      · have q5 : (kd == 5) = false := by simpa using h5
        rw [hl]
        rw [hw] at HSU
        clear hl hw h5
        simp only [Option.getD_none, Option.isSome_none]
        go_upto_region 14 with (fail)
        clear k1 c1 q5
        go_wp2_with (at_builtin; go_must (refine wpList_app rfl (.tmp 40) (.tmp 42) rfl el_int (by rfl) (World.ownsRow.alloc HO3.out _) (by rfl) (Sl.newest (n := 1) (by simp) (by rfl) (by decide)) (by simp [Value.oneCell']) (by omega) (by omega) (by simp; omega) ?_; intro A' cap' w5 hown5 hgr5 hat5; have HO5 := Lib.hid hown5; have HG5 := Lib.hid hgr5; clear hown5 hgr5 hat5))
        go_roundg (nd - (i + 1))
        case rel =>
          have hg5 := HG5.out
          have hb5 : Below (w.heap.size + 1) w3 w5 := ((Below.refl _ _).alloc hz3 _).trans ⟨hg5.os, hg5.tape, hg5.output, hg5.size, fun t ht => hg5.block t (by simp; omega) (fun e => by have := HR1.out t e.symm; omega)⟩
          refine ⟨i + 1, cap', A', rfl, by go_num, by omega, rfl, ?_, ⟨HS3.out.bn.below hb5 (by omega), HS3.out.bl.trans (hb5.mono (by omega))⟩⟩
          unfold Hid IntsO; rw [HSU.out, intsV_append]; exact HO5.out
        case measure => omega
      · rw [hl]
        rw [hw] at HSU
        clear hl hw
        simp only [Option.getD_some, Option.isSome_some]
        go_upto_region 14 with (fail)
        clear k1 c1
        go_wp2_with (at_builtin; go_must (refine wpList_app rfl (.tmp 40) (.tmp 42) rfl el_int (by rfl) (World.ownsRow.alloc HO3.out _) (by rfl) (Sl.newest (n := 1) (by simp) (by rfl) (by decide)) (by simp [Value.oneCell']) (by omega) (by omega) (by simp; omega) ?_; intro A' cap' w5 hown5 hgr5 hat5; have HO5 := Lib.hid hown5; have HG5 := Lib.hid hgr5; clear hown5 hgr5 hat5))
        go_roundg (nd - (i + 1))
        case rel =>
          have hg5 := HG5.out
          have hb5 : Below (w.heap.size + 1) w3 w5 := ((Below.refl _ _).alloc hz3 _).trans ⟨hg5.os, hg5.tape, hg5.output, hg5.size, fun t ht => hg5.block t (by simp; omega) (fun e => by have := HR1.out t e.symm; omega)⟩
          refine ⟨i + 1, cap', A', rfl, by go_num, by omega, rfl, ?_, ⟨HS3.out.bn.below hb5 (by omega), HS3.out.bl.trans (hb5.mono (by omega))⟩⟩
          unfold Hid IntsO; rw [HSU.out, intsV_append]; exact HO5.out
        case measure => omega
    · obtain rfl : i = nd := by omega
      have hii : decide (i < i) = false := by simp
      have hlen := wrsTo_len ds ls i
      go_wp2_with fail
      go_ret2
      refine ⟨.inr ⟨HZ.out, A, c3, by rw [hlen]; rfl, ?_⟩, hst.out.bl⟩
      unfold Hid; rw [hlen]; exact hO.out.mono (by omega)
end Go.Proofs.YtbjndpjligpjaaaDoor
