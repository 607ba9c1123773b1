/-
  LocksetWorst: the worst masks hold what is locked; more locks have finer masks.
-/
import Derived.Test.YtfabeihlfgemdaaDoorBack14
import Derived.Test.YtfabeihlfgemdaaDoorLkT
import Derived.Test.YtfabeihlfgemdaaDoorHas
import Derived.Test.YtfabeihlfgemdaaDoorFin
namespace Go.Proofs.YtfabeihlfgemdaaDoor
open Go.RowKit
theorem rgap_any (k : Int) (w : World) : Calls Tryd.prog 32 #[.int .i64 k] w fun e w' => e = .returned (.bool (gapB k)) ∧ w = w' := by
  by_cases h1 : k = 1
  · subst h1
    go_enter Tryd.func32, Tryd.ntmps32
    go_wp2_with fail
    go_ret
    exact ⟨rfl, rfl⟩
  · have q1 : (k == 1) = false := by simpa using h1
    by_cases h2 : k = 3
    · subst h2
      go_enter Tryd.func32, Tryd.ntmps32
      go_wp2_with fail
      go_ret
      exact ⟨rfl, rfl⟩
    · have q2 : (k == 3) = false := by simpa using h2
      have HR : Hid (gapB k = (k == 6)) := by unfold Hid gapB; rw [q1, q2]; simp
      go_enter Tryd.func32, Tryd.ntmps32
      go_wp2_with fail
      go_ret
      exact ⟨ret_bool HR.out.symm, rfl⟩
section
variable {ds : List Dv} {ls : List Lk}
theorem lk_valid {k : Lk} (h : lkErr ds k = 0) : (0 ≤ k.dev ∧ k.dev < ds.length) ∧ kindOf ds k.dev ≠ 5 ∧ (k.pos = 1 ∨ k.pos = 2) := by
  unfold lkErr at h
  split at h
  · omega
  · split at h
    · omega
    · split at h
      · omega
      · next hk =>
        split at h
        · omega
        · exact ⟨by omega, hk, by omega⟩
theorem lck_valid (h : GoodL ds ls) {d p : Int} (hl : lckL ls d = some p) : kindOf ds d ≠ 5 ∧ (p = 1 ∨ p = 2) := by
  obtain ⟨x, hx, rfl, rfl⟩ := lck_mem hl
  exact (lk_valid (h.2.1 x hx)).2
theorem wrs_mask (h : GoodL ds ls) (i : Nat) : maskB (wrsAt ds ls i) = true := by
  unfold wrsAt
  rcases hl : lckL ls i with _ | p
  · simp only; split <;> decide
  · rcases (lck_valid h hl).2 with rfl | rfl <;> rfl
theorem wrs_finer (h : GoodL ds ls) (i n : Nat) : finB (wrsTo ds ls n) (wrsTo ds (ls.eraseIdx i) n) := by
  have hg : GoodL ds (ls.eraseIdx i) := good_sub h (List.eraseIdx_sublist _ _)
  refine ⟨by rw [wrsTo_len, wrsTo_len], ?_, ?_, fun j x y hx hy => ?_⟩
  · rw [List.all_eq_true]; intro x hx
    obtain ⟨j, _, rfl⟩ := List.mem_map.1 hx
    exact wrs_mask h j
  · rw [List.all_eq_true]; intro x hx
    obtain ⟨j, _, rfl⟩ := List.mem_map.1 hx
    exact wrs_mask hg j
  · have hj : j < n := by have := (List.getElem?_eq_some_iff.1 hx).1; rwa [wrsTo_len] at this
    rw [wrsTo_at hj] at hx hy
    injection hx with hx; injection hy with hy
    subst hx hy
    unfold wrsAt
    rcases h1 : lckL (ls.eraseIdx i) j with _ | p
    · rcases h2 : lckL ls j with _ | q
      · simp [andM]
      · have h3 := lck_valid h h2
        simp only [if_neg h3.1]
        rcases h3.2 with rfl | rfl <;> rfl
    · obtain ⟨x, hx, h4, h5⟩ := lck_mem h1
      have h6 := lck_of h ((List.eraseIdx_sublist _ _).subset hx)
      rw [h4, h5] at h6
      rw [h6]; simp [andM]
theorem tho_dec {pos kd : Int} {p : Int → Bool} {n i : Nat} (hi : i < n) (hk : kindOf ds i = kd) : decide ((i : Int) ∈ thoTo ds ls pos p n) = (decide (lckL ls i = some pos) && p kd) := by
  rw [Bool.eq_iff_iff, decide_eq_true_eq, thoTo_mem hi]
  unfold thoB
  rw [hk]
theorem wrs_some {i : Nat} {p : Int} (h : lckL ls i = some p) : wrsAt ds ls i = p := by unfold wrsAt; rw [h]
theorem wrs_inf {i : Nat} (h : lckL ls i = none) (hk : kindOf ds i = 5) : wrsAt ds ls i = 2 := by unfold wrsAt; rw [h]; simp only [if_pos hk]
theorem wrs_else {i : Nat} (h : lckL ls i = none) (hk : kindOf ds i ≠ 5) : wrsAt ds ls i = 3 := by unfold wrsAt; rw [h]; simp only [if_neg hk]
end
/-- The law's memory. -/
structure WsM (w : World) (nb : Nat) (An : Option Addr) (nn cn : Nat) (ns : List Nd) (Ad : Option Addr) (nd cd : Nat) (ds : List Dv) (Ag : Option Addr) (mg cg : Nat) (ls : List Lk) (Am : Option Addr) (cm : Nat) (Aa : Option Addr) (ma ca : Nat) (Ae : Option Addr) (me ce : Nat) (wr : World) : Prop where
  n : LwN w nb An nn cn ns Ad nd cd ds wr
  g : SlX wr w.heap.size 3 Ag mg cg (ls.flatMap Lk.cells)
  m : SlX wr w.heap.size 1 Am nd cm (intsV (wrsTo ds ls nd))
  a : SlX wr w.heap.size 1 Aa ma ca (intsV (thoTo ds ls 1 gapB nd))
  e : SlX wr w.heap.size 1 Ae me ce (intsV (thoTo ds ls 2 (fun k => k == 4) nd))
theorem WsM.later {w wr wr' : World} {nb nn cn nd cd mg cg cm ma ca me ce : Nat} {An Ad Ag Am Aa Ae : Option Addr} {ns : List Nd} {ds : List Dv} {ls : List Lk} (h : WsM w nb An nn cn ns Ad nd cd ds Ag mg cg ls Am cm Aa ma ca Ae me ce wr) (hb : Below wr.heap.size wr wr') : WsM w nb An nn cn ns Ad nd cd ds Ag mg cg ls Am cm Aa ma ca Ae me ce wr' :=
  ⟨h.n.later hb, h.g.below hb, h.m.below hb, h.a.below hb, h.e.below hb⟩
theorem finer_true (A A2 : Option Addr) (n c n2 c2 B B2 : Nat) (a b : List Int) (w : World) (ha : Sl w B 1 A n c (intsV a)) (hb : Sl w B2 1 A2 n2 c2 (intsV b)) (hB : B ≤ w.heap.size) (hB2 : B2 ≤ w.heap.size) (hf : finB a b) :
    Calls Tryd.prog 33 #[.slice A n c, .slice A2 n2 c2] w fun e w' => e = .returned (.bool true) ∧ Below w.heap.size w w' :=
  (finer_any A A2 n c n2 c2 B B2 a b w ha hb hB hB2).mono fun _ _ ⟨h1, h2⟩ => ⟨by rw [h1]; simp [hf], h2⟩
theorem app_below0 {w4 w5 w6 : World} {A : Option Addr} {n c : Nat} {xs : List Value} {e : TypeId} {size : Nat} (h5 : w4.drew.grownBy w5 (Value.slice none 0 0).ownBlock) (ho : w5.ownsRow w4.heap.size e size (.slice A n c) n xs) (h6 : w5.grownBy w6 (Value.slice A n c).ownBlock) : Below w4.heap.size w4 w6 := by
  have h1 : Below w4.heap.size w4 w5 := (Below.refl _ _).drew.trans (below_none h5)
  exact h1.trans ⟨h6.os, h6.tape, h6.output, h6.size, fun t ht => h6.block t (by have := h1.size; omega) (fun e => by have := (ho.lt t e.symm).1; omega)⟩
def WlR (M : World → Prop) (n gk : Nat) (iv : Value) (wr : World) : Prop := ∃ i : Nat, iv = .int .i64 i ∧ i ≤ n ∧ gk = n - i ∧ Hid (M wr)
set_option maxRecDepth 100000 in
set_option maxHeartbeats 8000000 in
theorem walk_LocksetWorst (w : World) (hl : Laid w) (A : Option Addr) (n c : Nat) (zs : List Int) (hs : Sl w w.heap.size 1 A n c (intsV zs)) (_hz : ∀ z ∈ zs, (Lit.int .i64 z).wf = true) :
    Calls Tryd.prog 6 #[.slice A n c] w fun e w' => e = .returned (.bool true) ∧ Below w.heap.size w w' := by
  have hnm := hs.le
  have HL := Lib.hid hl; have HS := Lib.hid hs
  clear hl hs _hz
  have HF := Lib.hid (few_any A n c w (by omega))
  rcases hf : decide (n ≤ 400) with _ | _
  · rw [hf] at HF
    clear hf
    go_enter Tryd.func6, Tryd.ntmps6
    go_wp2_with fail
    refine HF.out.mono ?_
    rintro e w1 ⟨rfl, rfl⟩
    go_wp2_with fail
    refine (awake_any w HL.out).mono ?_
    rintro e w1 ⟨rfl, hb⟩
    go_wp2_with fail
    go_ret
    exact ⟨rfl, hb⟩
  rw [hf] at HF
  clear hf
  go_enter Tryd.func6, Tryd.ntmps6
  go_wp2_with fail
  refine HF.out.mono ?_
  rintro e w1 ⟨rfl, rfl⟩
  go_wp2_with fail
  refine (new_any A n c w.heap.size zs w HS.out (Nat.le_refl _)).mono ?_
  rintro e w1 ⟨rfl, hd1, hb1, hs1⟩
  go_wp2_with fail
  refine (mknet_any w.heap.size 7 12 w1 hd1.out (by decide) (by decide)).mono ?_
  rintro e w2 ⟨An, nn, cn, ns, Ad, nd, cd, ds, rfl, hd2, hg2, hrn, hrd, hmade⟩
  have HMK := LwN.mk0 HL.out hb1.out hs1.out hd2.out hg2.out hrn.out hrd.out hmade.out
  have HNN := Lib.hid HMK.2.1; have HND := Lib.hid HMK.2.2
  have HN3 := Lib.hid HMK.1
  have HMA := Lib.hid hmade.out
  have hnd : nd ≤ 12 := by have := hmade.out.dm; rw [HND.out] at this; omega
  have hnd1 : 1 ≤ nd := by have := hmade.out.d1; rw [HND.out] at this; omega
  have hnn : nn ≤ 7 := by have := hmade.out.nm; rw [HNN.out] at this; omega
  have HNM := Lib.hid HMA.out.names
  have HCK := Lib.hid (HMA.out.check (by decide) (by decide))
  clear HMK hd1 hb1 hs1 hd2 hg2 hrn hrd hmade HS HF
  go_wp2_with fail
  generalize World.alloc _ _ = w3 at *
  obtain ⟨nb, hnb⟩ : ∃ nb, nb = w2.heap.size := ⟨_, rfl⟩
  rw [← hnb] at HN3 ⊢
  clear hnb
  refine (mkstate_any w.heap.size An Ad nn cn nd cd ds w3 HN3.out.dk HN3.out.hd (by omega)).mono ?_
  rintro e w5 ⟨As, cs, s, rfl, hd5, hg5, hO5, hpos⟩
  have HN5 := Lib.hid (HN3.out.grown HL.out hg5.out hd5.out)
  have HX5 : Hid (SlX w5 w.heap.size 1 As nd cs (intsV s)) := SlX.of_own hO5.out (by have := HN3.out.bl.size; have := HN3.out.bx.lt; have := HN3.out.ge; omega)
  clear hd5 hg5 hO5 hpos HN3
  have k0 : w5.cell? ⟨nb, 0, none⟩ = some (.slice An nn cn) := HN5.out.bx.cell 0
  have k1 : w5.cell? ⟨nb, 1, none⟩ = some (.slice Ad nd cd) := HN5.out.bx.cell 1
  go_wp2_with fail
  clear k0 k1
  refine (mklocks_any w.heap.size An Ad As nn cn nd cd nd cs 6 ns ds s w5 HN5.out.dk HN5.out.hn HN5.out.hd HX5.out (by omega) (by decide) HNM.out.1 HNM.out.2).mono ?_
  rintro e w6 ⟨Ag, mg, cg, ls, rfl, hd6, hg6, hO6, hmk⟩
  have HN6 := Lib.hid (HN5.out.grown HL.out hg6.out hd6.out)
  have HG6 : Hid (SlX w6 w.heap.size 3 Ag mg cg (ls.flatMap Lk.cells)) := SlX.of_own hO6.out (by have := HN5.out.bl.size; have := HN5.out.bx.lt; have := HN5.out.ge; omega)
  have HLG := Lib.hid (LocksO.len hO6.out)
  have HGD := Lib.hid hmk.out.1
  have hmg : mg ≤ 6 := by have := hmk.out.2.1; have := HLG.out; omega
  have HLE : Hid (locksErr ns ds ls = 0) := locks_ok HCK.out HGD.out
  clear hd6 hg6 hO6 hmk HN5 HX5
  have hge := HN6.out.bl.size
  have hge2 := HN6.out.bx.lt
  have hge3 := HN6.out.ge
  have k0 : w6.cell? ⟨nb, 0, none⟩ = some (.slice An nn cn) := HN6.out.bx.cell 0
  have k1 : w6.cell? ⟨nb, 1, none⟩ = some (.slice Ad nd cd) := HN6.out.bx.cell 1
  go_wp2_with fail
  clear k0 k1
  refine (worst_any An Ad Ag nn cn nd cd mg cg w6.heap.size w6.heap.size w6.heap.size ns ds ls w6 HN6.out.la HN6.out.hn.1 HN6.out.hd.1 HG6.out.1 (Nat.le_refl _) (Nat.le_refl _) (Nat.le_refl _) (by omega) HNM.out.1 HNM.out.2).mono ?_
  intro e w7 hpost
  obtain ⟨Am, cm, rfl, hOm, hb7⟩ := hpost.ok HLE.out
  rw [wrsTo_len] at hOm
  rw [wrsTo_len]
  have HN7 := Lib.hid (HN6.out.later hb7.out)
  have HG7 := Lib.hid (HG6.out.below hb7.out)
  have HM7 : Hid (SlX w7 w.heap.size 1 Am nd cm (intsV (wrsTo ds ls nd))) := SlX.of_own hOm.out (by omega)
  have hz7 := hb7.out.size
  clear hpost hOm hb7 HN6 HG6
  have k0 : w7.cell? ⟨nb, 0, none⟩ = some (.slice An nn cn) := HN7.out.bx.cell 0
  have k1 : w7.cell? ⟨nb, 1, none⟩ = some (.slice Ad nd cd) := HN7.out.bx.cell 1
  go_wp2_with fail
  clear k0 k1
  refine (gaps_any An Ad Ag nn cn nd cd mg cg w7.heap.size w7.heap.size w7.heap.size ns ds ls w7 HN7.out.la HN7.out.hn.1 HN7.out.hd.1 HG7.out.1 (Nat.le_refl _) (Nat.le_refl _) (Nat.le_refl _) (by omega) HNM.out.1 HNM.out.2).mono ?_
  intro e w8 hpost
  obtain ⟨Aa, ca, rfl, hOa, hb8⟩ := hpost.ok HLE.out
  have HN8 := Lib.hid (HN7.out.later hb8.out)
  have HG8 := Lib.hid (HG7.out.below hb8.out)
  have HM8 := Lib.hid (HM7.out.below hb8.out)
  have HA8 := Lib.hid (SlX.of_own (g := w.heap.size) hOa.out (by omega))
  have hz8 := hb8.out.size
  generalize hma : (thoTo ds ls 1 gapB nd).length = ma at HA8 ⊢
  clear hma
  clear hpost hOa hb8 HN7 HG7 HM7
  have k0 : w8.cell? ⟨nb, 0, none⟩ = some (.slice An nn cn) := HN8.out.bx.cell 0
  have k1 : w8.cell? ⟨nb, 1, none⟩ = some (.slice Ad nd cd) := HN8.out.bx.cell 1
  go_wp2_with fail
  clear k0 k1
  refine (earths_any An Ad Ag nn cn nd cd mg cg w8.heap.size w8.heap.size w8.heap.size ns ds ls w8 HN8.out.la HN8.out.hn.1 HN8.out.hd.1 HG8.out.1 (Nat.le_refl _) (Nat.le_refl _) (Nat.le_refl _) (by omega) HNM.out.1 HNM.out.2).mono ?_
  intro e w9 hpost
  obtain ⟨Ae, ce, rfl, hOe, hb9⟩ := hpost.ok HLE.out
  have HE9 := Lib.hid (SlX.of_own (g := w.heap.size) hOe.out (by omega))
  generalize hme : (thoTo ds ls 2 (fun k => k == 4) nd).length = me at HE9 ⊢
  have HW9 : Hid (WsM w nb An nn cn ns Ad nd cd ds Ag mg cg ls Am cm Aa ma ca Ae me ce w9) := ⟨HN8.out.later hb9.out, HG8.out.below hb9.out, HM8.out.below hb9.out, HA8.out.below hb9.out, HE9.out⟩
  clear hme hpost hOe hb9 HN8 HG8 HM8 HA8 HE9 hz7 hz8 hge hge2 hge3
  have qn : ((nd : Int) != (nd : Int)) = false := by simp
  go_wp2_with fail
  clear qn
  go_loopg [74] nd (WlR (WsM w nb An nn cn ns Ad nd cd ds Ag mg cg ls Am cm Aa ma ca Ae me ce) nd)
  case atStart => exact ⟨0, rfl, Nat.zero_le _, rfl, HW9⟩
  case round =>
    clear HW9
    obtain ⟨i, rfl, hi, rfl, hM⟩ := hrel
    by_cases hlt : i < nd
    · go_wp2_with fail
      refine (locked_any Ag mg cg wr.heap.size ls i wr hM.out.g.1 (Nat.le_refl _)).mono ?_
      rintro e w10 ⟨rfl, hb10⟩
      have HM10 := Lib.hid (hM.out.later hb10)
      clear hb10 hM
      obtain ⟨b, off, x, rfl, hb, hx, hc⟩ := HM10.out.n.hd.1.at (fun _ => rfl) (by decide) hlt
      have HKO := Lib.hid (kindOf_at hx)
      obtain ⟨nm, kd, xa, xb, co⟩ := x
      have c1 : w10.cell? ⟨b, off + i * 5 + 1, none⟩ = some (.int .i64 kd) := hc 1 _ rfl
      obtain ⟨bm, offm, y, rfl, hbm, hy, hcm⟩ := HM10.out.m.1.at1 hlt
      rw [wrsTo_at hlt] at hy
      injection hy with hy
      subst hy
      have hcm' : w10.cell? ⟨bm, offm + i, none⟩ = some (.int .i64 (wrsAt ds ls i)) := hcm
      have HGA := Lib.hid (tho_dec (ls := ls) (pos := 1) (p := gapB) hlt HKO.out)
      have HEA := Lib.hid (tho_dec (ls := ls) (pos := 2) (p := fun k => k == 4) hlt HKO.out)
      simp only at HGA HEA
      have k1 : w10.cell? ⟨nb, 1, none⟩ = some (.slice (some ⟨b, off, none⟩) nd cd) := HM10.out.n.bx.cell 1
      clear hx hc hcm hb hbm
      unfold lckE
      rcases hl : lckL ls i with _ | p
      · rw [hl] at HGA HEA
        have HNO := Lib.hid hl
        clear hl
        simp only [Option.getD_none, Option.isSome_none]
        have HF1 : Hid (decide ((i : Int) ∈ thoTo ds ls 1 gapB nd) = false) := HGA.out
        have HF2 : Hid (decide ((i : Int) ∈ thoTo ds ls 2 (fun k => k == 4) nd) = false) := HEA.out
        have hH1 := rhas_any Aa ma ca (thoTo ds ls 1 gapB nd) i w10 HM10.out.a.1
        rw [HF1.out] at hH1
        have hH2 := rhas_any Ae me ce (thoTo ds ls 2 (fun k => k == 4) nd) i w10 HM10.out.e.1
        rw [HF2.out] at hH2
        have HH1 := Lib.hid hH1; have HH2 := Lib.hid hH2
        clear hH1 hH2 HGA HEA HF1 HF2
        by_cases h5 : kd = 5
        · subst h5
          rw [wrs_inf HNO.out HKO.out] at hcm'
          go_wp2_with fail
          refine HH1.out.mono ?_
          rintro e w11 ⟨rfl, rfl⟩
          go_wp2_with fail
          refine HH2.out.mono ?_
          rintro e w11 ⟨rfl, rfl⟩
          go_wp2_with fail
          go_roundg (nd - (i + 1))
          case rel => exact ⟨i + 1, by go_num, by omega, rfl, HM10⟩
          case measure => omega
        · rw [wrs_else HNO.out (by rw [HKO.out]; exact h5)] at hcm'
          have q5 : (kd == 5) = false := by simpa using h5
          have q5' : (kd != 5) = true := by simpa using h5
          clear h5
          go_wp2_with fail
          refine HH1.out.mono ?_
          rintro e w11 ⟨rfl, rfl⟩
          go_wp2_with fail
          refine HH2.out.mono ?_
          rintro e w11 ⟨rfl, rfl⟩
          go_wp2_with fail
          go_roundg (nd - (i + 1))
          case rel => exact ⟨i + 1, by go_num, by omega, rfl, HM10⟩
          case measure => omega
      · have hv := lck_valid HGD.out hl
        rw [HKO.out] at hv
        have h5 : kd ≠ 5 := hv.1
        have hp := hv.2
        rw [hl] at HGA HEA
        rw [wrs_some hl] at hcm'
        clear hl hv
        simp only [Option.getD_some, Option.isSome_some]
        have q5 : (kd == 5) = false := by simpa using h5
        have qy : (p != p) = false := by simp
        have HGP := Lib.hid (fun W => rgap_any kd W)
        rcases hp with rfl | rfl
        · have HF1 : Hid (decide ((i : Int) ∈ thoTo ds ls 1 gapB nd) = gapB kd) := by unfold Hid; rw [HGA.out]; simp
          have HF2 : Hid (decide ((i : Int) ∈ thoTo ds ls 2 (fun k => k == 4) nd) = false) := by unfold Hid; rw [HEA.out]; simp
          have hH1 := rhas_any Aa ma ca (thoTo ds ls 1 gapB nd) i w10 HM10.out.a.1
          rw [HF1.out] at hH1
          have hH2 := rhas_any Ae me ce (thoTo ds ls 2 (fun k => k == 4) nd) i w10 HM10.out.e.1
          rw [HF2.out] at hH2
          have HH1 := Lib.hid hH1; have HH2 := Lib.hid hH2
          clear hH1 hH2 HGA HEA HF1 HF2 h5
          generalize gapB kd = gb at *
          have qg : (gb != gb) = false := by simp
          go_wp2_with fail
          refine HH1.out.mono ?_
          rintro e w11 ⟨rfl, rfl⟩
          go_wp2_with fail
          refine (HGP.out _).mono ?_
          rintro e w11 ⟨rfl, rfl⟩
          go_wp2_with fail
          refine HH2.out.mono ?_
          rintro e w11 ⟨rfl, rfl⟩
          go_wp2_with fail
          go_roundg (nd - (i + 1))
          case rel => exact ⟨i + 1, by go_num, by omega, rfl, HM10⟩
          case measure => omega
        · have HF1 : Hid (decide ((i : Int) ∈ thoTo ds ls 1 gapB nd) = false) := by unfold Hid; rw [HGA.out]; simp
          have HF2 : Hid (decide ((i : Int) ∈ thoTo ds ls 2 (fun k => k == 4) nd) = (kd == 4)) := by unfold Hid; rw [HEA.out]; simp
          have hH1 := rhas_any Aa ma ca (thoTo ds ls 1 gapB nd) i w10 HM10.out.a.1
          rw [HF1.out] at hH1
          have hH2 := rhas_any Ae me ce (thoTo ds ls 2 (fun k => k == 4) nd) i w10 HM10.out.e.1
          rw [HF2.out] at hH2
          have HH1 := Lib.hid hH1; have HH2 := Lib.hid hH2
          clear hH1 hH2 HGA HEA HF1 HF2 h5 HGP
          rcases hk4 : (kd == 4) with _ | _
          all_goals
            rw [hk4] at HH2
            go_wp2_with fail
            refine HH1.out.mono ?_
            rintro e w11 ⟨rfl, rfl⟩
            go_wp2_with fail
            refine HH2.out.mono ?_
            rintro e w11 ⟨rfl, rfl⟩
            go_wp2_with fail
            go_roundg (nd - (i + 1))
            case rel => exact ⟨i + 1, by go_num, by omega, rfl, HM10⟩
            case measure => omega
    · have hii : decide (i < nd) = false := by simpa using hlt
      have hii2 : decide ((i : Int) < (nd : Int)) = false := by simp; omega
      go_wp2_with fail
      clear hii hii2
      go_loopg [155] mg (WlR (WsM w nb An nn cn ns Ad nd cd ds Ag mg cg ls Am cm Aa ma ca Ae me ce) mg)
      case atStart => exact ⟨0, rfl, Nat.zero_le _, rfl, hM⟩
      case round =>
        clear hM
        obtain ⟨j, rfl, hj, rfl, hM⟩ := hrel
        by_cases hjt : j < mg
        · obtain ⟨b, off, d1, p1, q1, rfl, hb, hx, c0, c1, c2⟩ := hM.out.g.1.lock hjt
          have hmem : (⟨d1, p1, q1⟩ : Lk) ∈ ls := List.mem_of_getElem? hx
          have hv := lk_valid (HGD.out.2.1 _ hmem)
          have HWT := Lib.hid (lck_of HGD.out hmem)
          simp only at hv HWT
          rw [HND.out] at hv
          obtain ⟨⟨hv0, hv1⟩, _⟩ := hv
          obtain ⟨t, rfl⟩ := Int.eq_ofNat_of_zero_le hv0
          have htn : t < nd := by omega
          have htnI : (t : Int) < (nd : Int) := hv1
          have HFN := Lib.hid (wrs_finer HGD.out j nd)
          have HLE2 : Hid (locksErr ns ds (ls.eraseIdx j) = 0) := locks_ok HCK.out (good_sub HGD.out (List.eraseIdx_sublist _ _))
          have HM2 := Lib.hid (hM.out.later ((Below.refl _ _).alloc (Nat.le_refl _) (.cells #[.int .i64 t, .int .i64 p1, .int .i64 q1] 37)))
          have HK2 : Hid (Blk (wr.alloc (.cells #[.int .i64 t, .int .i64 p1, .int .i64 q1] 37)) wr.heap.size 37 #[.int .i64 t, .int .i64 p1, .int .i64 q1]) := Blk.new _ _ _
          clear hv0 hv1 hmem hb hM hx
          go_upto_region 25 with (fail)
          clear c0 c1 c2
          generalize World.alloc wr _ = W2 at *
          have hle := HM2.out.g.1.le
          have hjc : j ≤ cg := by omega
          have HSK := Lib.hid (HM2.out.g.1.takeK (fun _ => rfl) (by decide) hj)
          have HSD := Lib.hid (HM2.out.g.1.dropK (k := j + 1) (fun _ => rfl) (by decide) (by omega))
          have HCUT : Hid (∀ W, (Instr.sliceAt 33 (.slice (some ⟨b, off, none⟩) mg cg) (some (.int .i64 ((j : Int) + 1))) none none).run Tryd.prog W = .ok (.slice (cutK (some ⟨b, off, none⟩) cg (j + 1) 3) (mg - (j + 1)) (cg - (j + 1))) W) := fun W => by
            have := run_from_lk W (some ⟨b, off, none⟩) mg cg (j + 1) (by omega)
            rw [← this]; rfl
          obtain ⟨Ad2, hAd2⟩ : ∃ Ad2, cutK (some (⟨b, off, none⟩ : Addr)) cg (j + 1) 3 = Ad2 := ⟨_, rfl⟩
          rw [hAd2] at HCUT HSD
          clear hAd2
          have hw1 : IntKind.i64.wrap ((j : Int) + 1) = (j : Int) + 1 := IntWalk.i64_in _ (by omega)
          refine wp_region_J (S := fun _ => True) (J := []) (by kernel_rfl) ?_ (fun hHeld => ?_)
          · exact trivial
          try dsimp only at hHeld
          refine wpAnyJ_takeL (i := 0) (d := some 160) (v := ?_) #[true, false, false, false, false, false, false, false, false, false] (by kernel_rfl) rfl rfl (by kernel_rfl) (by kernel_rfl) (by kernel_rfl) (by kernel_rfl) (by kernel_rfl) (fun _ _ _ h => h) (Or.inl ⟨by rfl, ?_⟩) hHeld ?_
          rotate_left
          · (intro w hSw; (try dsimp only at hSw);  go_simp; try with_reducible rfl)
          try simp only [Act.put, List.setIfInBounds_toArray, List.set_cons_zero, List.set_cons_succ]
          refine wpAnyJ_takeL (i := 1) (d := some 161) (v := ?_) #[true, true, false, false, false, false, false, false, false, false] (by kernel_rfl) rfl rfl (by kernel_rfl) (by kernel_rfl) (by kernel_rfl) (by kernel_rfl) (by kernel_rfl) (fun _ _ _ h => h) (Or.inl ⟨by rfl, ?_⟩) hHeld ?_
          rotate_left
          · (intro w hSw; (try dsimp only at hSw);  go_simp; try with_reducible rfl)
          try simp only [Act.put, List.setIfInBounds_toArray, List.set_cons_zero, List.set_cons_succ]
          refine wpAnyJ_takeL (i := 2) (d := some 162) (v := ?_) #[true, true, true, false, false, false, false, false, false, false] (by kernel_rfl) rfl rfl (by kernel_rfl) (by kernel_rfl) (by kernel_rfl) (by kernel_rfl) (by kernel_rfl) (fun _ _ _ h => h) (Or.inl ⟨by rfl, ?_⟩) hHeld ?_
          rotate_left
          · (intro w hSw; (try dsimp only at hSw);  go_simp; try with_reducible rfl)
          try simp only [Act.put, List.setIfInBounds_toArray, List.set_cons_zero, List.set_cons_succ]
          refine wpAnyJ_takeL (i := 4) (d := some 164) (v := ?_) #[true, true, true, false, true, false, false, false, false, false] (by kernel_rfl) rfl rfl (by kernel_rfl) (by kernel_rfl) (by kernel_rfl) (by kernel_rfl) (by kernel_rfl) (fun _ _ _ h => h) (Or.inl ⟨by rfl, ?_⟩) hHeld ?_
          rotate_left
          · (intro w hSw; (try dsimp only at hSw);  go_simp; try with_reducible rfl)
          try simp only [Act.put, List.setIfInBounds_toArray, List.set_cons_zero, List.set_cons_succ]
          refine wpAnyJ_takeL (i := 5) (d := some 165) (v := ?_) #[true, true, true, false, true, true, false, false, false, false] (by kernel_rfl) rfl rfl (by kernel_rfl) (by kernel_rfl) (by kernel_rfl) (by kernel_rfl) (by kernel_rfl) (fun _ _ _ h => h) (Or.inl ⟨by rfl, ?_⟩) hHeld ?_
          rotate_left
          · (intro w hSw; (try dsimp only at hSw);  go_simp; try with_reducible rfl)
          try simp only [Act.put, List.setIfInBounds_toArray, List.set_cons_zero, List.set_cons_succ]
          refine wpAnyJ_takeL (i := 6) (d := some 166) (v := ?_) #[true, true, true, false, true, true, true, false, false, false] (by kernel_rfl) rfl rfl (by kernel_rfl) (by kernel_rfl) (by kernel_rfl) (by kernel_rfl) (by kernel_rfl) (fun _ _ _ h => h) (Or.inl ⟨by rfl, ?_⟩) hHeld ?_
          rotate_left
          · (intro w hSw; (try dsimp only at hSw);  go_simp; try with_reducible rfl)
          try simp only [Act.put, List.setIfInBounds_toArray, List.set_cons_zero, List.set_cons_succ]
          refine wpAnyJ_takeL (i := 7) (d := some 167) (v := ?_) #[true, true, true, false, true, true, true, true, false, false] (by kernel_rfl) rfl rfl (by kernel_rfl) (by kernel_rfl) (by kernel_rfl) (by kernel_rfl) (by kernel_rfl) (fun _ _ _ h => h) (Or.inl ⟨by rfl, ?_⟩) hHeld ?_
          rotate_left
          · (intro w hSw; (try dsimp only at hSw); have hcut := HCUT.out; go_simp; try with_reducible rfl)
          try simp only [Act.put, List.setIfInBounds_toArray, List.set_cons_zero, List.set_cons_succ]
          refine wpAnyJ_oneL (k := 3) #[true, true, true, true, true, true, true, true, false, false] (by kernel_rfl) (by kernel_rfl) rfl (fun K hK => ?_)
          (refine step_app_d (d := some 163) (by rfl) (by rfl) _ (.tmp 162) (by rfl) el_lock (by rfl) (World.ownsRow_nil _ W2.heap.size _ _) (by rfl) HSK.out (locks_one _) (by omega) (by omega) (by simp) ?_; intro A1 c1 w11 hown11 hgr11 hat11; simp only [Nat.zero_add, List.nil_append] at hown11 hgr11 hat11 ⊢)
          refine hK.out _ _ (fun _ => ?_) (fun hHeld' => ?_)
          · trivial
          replace hHeld := hHeld' rfl
          clear hHeld' hK K
          try dsimp only at hHeld
          refine wpAnyJ_oneL (k := 8) #[true, true, true, true, true, true, true, true, true, false] (by kernel_rfl) (by kernel_rfl) rfl (fun K hK => ?_)
          (refine step_app_d (d := some 168) (by rfl) (by rfl) (.tmp 163) (.tmp 167) (by rfl) el_lock (by rfl) hown11 (by rfl) (HSD.out.drew.below (below_none hgr11) (Nat.le_refl _)) (locks_one _) (by omega) (by omega) (by have := hgr11.size; simp at this ⊢; omega) ?_; intro A2 c2 w12 hown12 hgr12 hat12)
          refine hK.out _ _ (fun _ => ?_) (fun hHeld' => ?_)
          · trivial
          replace hHeld := hHeld' rfl
          clear hHeld' hK K
          try dsimp only at hHeld
          refine wpAnyJ_takeL (i := 9) (d := some 19) (v := ?_) #[true, true, true, true, true, true, true, true, true, true] (by kernel_rfl) rfl rfl (by kernel_rfl) (by kernel_rfl) (by kernel_rfl) (by kernel_rfl) (by kernel_rfl) (fun _ _ _ h => h) (Or.inl ⟨by rfl, ?_⟩) hHeld ?_
          rotate_left
          · (intro w hSw; (try dsimp only at hSw);  go_simp; try with_reducible rfl)
          try simp only [Act.put, List.setIfInBounds_toArray, List.set_cons_zero, List.set_cons_succ]
          refine wpAnyJ_done (by kernel_rfl) ?_ _
          clear hHeld
          have hb12 := app_below0 hgr11 hown11 hgr12
          have HM12 := Lib.hid (HM2.out.later hb12)
          have HK12 := Lib.hid (HK2.out.below hb12 HK2.out.lt)
          have HLS : Hid (Sl w12 w12.heap.size 3 A2 (j + (mg - (j + 1))) c2 ((ls.eraseIdx j).flatMap Lk.cells)) := by
            have h1 := Sl.of_own hown12
            unfold Hid
            rw [List.eraseIdx_eq_take_drop_succ, List.flatMap_append]
            exact h1
          clear hb12 hgr11 hown11 hgr12 hown12 hat11 hat12 HM2 HK2 HSK HSD HCUT hw1
          have k0 : w12.cell? ⟨nb, 0, none⟩ = some (.slice An nn cn) := HM12.out.n.bx.cell 0
          have k1 : w12.cell? ⟨nb, 1, none⟩ = some (.slice Ad nd cd) := HM12.out.n.bx.cell 1
          generalize j + (mg - (j + 1)) = nl at *
          go_wp2_with fail
          clear k0 k1
          refine (worst_any An Ad A2 nn cn nd cd nl c2 w12.heap.size w12.heap.size w12.heap.size ns ds (ls.eraseIdx j) w12 HM12.out.n.la HM12.out.n.hn.1 HM12.out.n.hd.1 HLS.out (Nat.le_refl _) (Nat.le_refl _) (Nat.le_refl _) (by omega) HNM.out.1 HNM.out.2).mono ?_
          intro e w13 hpost
          obtain ⟨Ax, cx, rfl, hOx, hb13⟩ := hpost.ok HLE2.out
          rw [wrsTo_len] at hOx
          rw [wrsTo_len]
          have HM13 := Lib.hid (HM12.out.later hb13.out)
          have HK13 := Lib.hid (HK12.out.below hb13.out HK12.out.lt)
          have HFA := Lib.hid (finer_true Am Ax nd cm nd cx w13.heap.size w13.heap.size (wrsTo ds ls nd) (wrsTo ds (ls.eraseIdx j) nd) w13.drew HM13.out.m.1.drew (Sl.of_own hOx.out).drew (Nat.le_refl _) (Nat.le_refl _) HFN.out)
          obtain ⟨bm, offm, y, rfl, hbm, hy, hcm⟩ := HM13.out.m.1.at1 (g := fun x : Int => .int .i64 x) htn
          rw [wrsTo_at htn] at hy
          injection hy with hy
          rw [wrs_some HWT.out] at hy
          subst hy
          have HCS : Hid (w13.cell? ⟨wr.heap.size, 0, none⟩ = some (.int .i64 t) ∧ w13.cell? ⟨wr.heap.size, 1, none⟩ = some (.int .i64 p1) ∧ w13.cell? ⟨bm, offm + t, none⟩ = some (.int .i64 p1)) := ⟨HK13.out.cell 0, HK13.out.cell 1, hcm⟩
          clear hpost hb13 hOx HM12 HK12 HK13 HLS hcm hbm
          have qp : (p1 != p1) = false := by simp
          go_upto_region 27 with (fail)
          refine wp_region_J (S := fun W' => W'.cell? ⟨wr.heap.size, 0, none⟩ = some (.int .i64 t) ∧ W'.cell? ⟨wr.heap.size, 1, none⟩ = some (.int .i64 p1) ∧ W'.cell? ⟨bm, offm + t, none⟩ = some (.int .i64 p1)) (J := []) (by kernel_rfl) ?_ (fun hHeld => ?_)
          · exact HCS.out
          try dsimp only at hHeld
          refine wpAnyJ_takeL (i := 0) (d := some 175) (v := ?_) #[true, false, false, false, false, false, false, false, false, false, false, false, false, false, false, false, false, false] (by kernel_rfl) rfl rfl (by kernel_rfl) (by kernel_rfl) (by kernel_rfl) (by kernel_rfl) (by kernel_rfl) (fun _ _ _ h => h) (Or.inl ⟨by rfl, ?_⟩) hHeld ?_
          rotate_left
          · (intro w hSw; (try dsimp only at hSw);  go_simp; try with_reducible rfl)
          try simp only [Act.put, List.setIfInBounds_toArray, List.set_cons_zero, List.set_cons_succ]
          refine wpAnyJ_takeL (i := 1) (d := some 176) (v := ?_) #[true, true, false, false, false, false, false, false, false, false, false, false, false, false, false, false, false, false] (by kernel_rfl) rfl rfl (by kernel_rfl) (by kernel_rfl) (by kernel_rfl) (by kernel_rfl) (by kernel_rfl) (fun _ _ _ h => h) (Or.inl ⟨by rfl, ?_⟩) hHeld ?_
          rotate_left
          · (intro w hSw; (try dsimp only at hSw);  go_simp; try with_reducible rfl)
          try simp only [Act.put, List.setIfInBounds_toArray, List.set_cons_zero, List.set_cons_succ]
          refine wpAnyJ_takeL (i := 2) (d := some 177) (v := ?_) #[true, true, true, false, false, false, false, false, false, false, false, false, false, false, false, false, false, false] (by kernel_rfl) rfl rfl (by kernel_rfl) (by kernel_rfl) (by kernel_rfl) (by kernel_rfl) (by kernel_rfl) (fun _ _ _ h => h) (Or.inl ⟨by rfl, ?_⟩) hHeld ?_
          rotate_left
          · (intro w hSw; (try dsimp only at hSw);  go_simp; try with_reducible rfl)
          try simp only [Act.put, List.setIfInBounds_toArray, List.set_cons_zero, List.set_cons_succ]
          refine wpAnyJ_takeL (i := 3) (d := some 178) (v := ?_) #[true, true, true, true, false, false, false, false, false, false, false, false, false, false, false, false, false, false] (by kernel_rfl) rfl rfl (by kernel_rfl) (by kernel_rfl) (by kernel_rfl) (by kernel_rfl) (by kernel_rfl) (fun _ _ _ h => h) (Or.inl ⟨by rfl, ?_⟩) hHeld ?_
          rotate_left
          · (intro w hSw; (try dsimp only at hSw);  go_simp; try with_reducible rfl)
          try simp only [Act.put, List.setIfInBounds_toArray, List.set_cons_zero, List.set_cons_succ]
          refine wpAnyJ_takeL (i := 4) (d := some 179) (v := ?_) #[true, true, true, true, true, false, false, false, false, false, false, false, false, false, false, false, false, false] (by kernel_rfl) rfl rfl (by kernel_rfl) (by kernel_rfl) (by kernel_rfl) (by kernel_rfl) (by kernel_rfl) (fun _ _ _ h => h) (Or.inl ⟨by rfl, ?_⟩) hHeld ?_
          rotate_left
          · (intro w hSw; (try dsimp only at hSw);  go_simp; try with_reducible rfl)
          try simp only [Act.put, List.setIfInBounds_toArray, List.set_cons_zero, List.set_cons_succ]
          refine wpAnyJ_oneL (k := 5) #[true, true, true, true, true, true, false, false, false, false, false, false, false, false, false, false, false, false] (by kernel_rfl) (by kernel_rfl) rfl (fun K hK => ?_)
          (go_simp; refine HFA.out.mono ?_; rintro e w14 ⟨rfl, hb14⟩; go_simp)
          refine hK.out _ _ (fun _ => ?_) (fun hHeld' => ?_)
          · exact ⟨keep_cell hb14 HCS.out.1, keep_cell hb14 HCS.out.2.1, keep_cell hb14 HCS.out.2.2⟩
          replace hHeld := hHeld' rfl
          clear hHeld' hK K
          try dsimp only at hHeld
          refine wpAnyJ_takeL (i := 6) (d := some 181) (v := ?_) #[true, true, true, true, true, true, true, false, false, false, false, false, false, false, false, false, false, false] (by kernel_rfl) rfl rfl (by kernel_rfl) (by kernel_rfl) (by kernel_rfl) (by kernel_rfl) (by kernel_rfl) (fun _ _ _ h => h) (Or.inl ⟨by rfl, ?_⟩) hHeld ?_
          rotate_left
          · (intro w hSw; (try dsimp only at hSw);  go_simp; try with_reducible rfl)
          try simp only [Act.put, List.setIfInBounds_toArray, List.set_cons_zero, List.set_cons_succ]
          refine wpAnyJ_takeL (i := 7) (d := some 182) (v := ?_) #[true, true, true, true, true, true, true, true, false, false, false, false, false, false, false, false, false, false] (by kernel_rfl) rfl rfl (by kernel_rfl) (by kernel_rfl) (by kernel_rfl) (by kernel_rfl) (by kernel_rfl) (fun _ _ _ h => h) (Or.inl ⟨by rfl, ?_⟩) hHeld ?_
          rotate_left
          · (intro w hSw; (try dsimp only at hSw);  go_simp; try with_reducible rfl)
          try simp only [Act.put, List.setIfInBounds_toArray, List.set_cons_zero, List.set_cons_succ]
          refine wpAnyJ_takeL (i := 8) (d := some 183) (v := ?_) #[true, true, true, true, true, true, true, true, true, false, false, false, false, false, false, false, false, false] (by kernel_rfl) rfl rfl (by kernel_rfl) (by kernel_rfl) (by kernel_rfl) (by kernel_rfl) (by kernel_rfl) (fun _ _ _ h => h) (Or.inl ⟨by rfl, ?_⟩) hHeld ?_
          rotate_left
          · (intro w hSw; (try dsimp only at hSw);  go_simp; try with_reducible rfl)
          try simp only [Act.put, List.setIfInBounds_toArray, List.set_cons_zero, List.set_cons_succ]
          refine wpAnyJ_takeL (i := 9) (d := some 184) (v := ?_) #[true, true, true, true, true, true, true, true, true, true, false, false, false, false, false, false, false, false] (by kernel_rfl) rfl rfl (by kernel_rfl) (by kernel_rfl) (by kernel_rfl) (by kernel_rfl) (by kernel_rfl) (fun _ _ _ h => h) (Or.inl ⟨by rfl, ?_⟩) hHeld ?_
          rotate_left
          · (intro w hSw; (try dsimp only at hSw);  go_simp; try with_reducible rfl)
          try simp only [Act.put, List.setIfInBounds_toArray, List.set_cons_zero, List.set_cons_succ]
          refine wpAnyJ_takeL (i := 10) (d := some 185) (v := ?_) #[true, true, true, true, true, true, true, true, true, true, true, false, false, false, false, false, false, false] (by kernel_rfl) rfl rfl (by kernel_rfl) (by kernel_rfl) (by kernel_rfl) (by kernel_rfl) (by kernel_rfl) (fun _ _ _ h => h) (Or.inl ⟨by rfl, ?_⟩) hHeld ?_
          rotate_left
          · (intro w hSw; (try dsimp only at hSw);  go_simp; try with_reducible rfl)
          try simp only [Act.put, List.setIfInBounds_toArray, List.set_cons_zero, List.set_cons_succ]
          refine wpAnyJ_takeL (i := 11) (d := some 186) (v := ?_) #[true, true, true, true, true, true, true, true, true, true, true, true, false, false, false, false, false, false] (by kernel_rfl) rfl rfl (by kernel_rfl) (by kernel_rfl) (by kernel_rfl) (by kernel_rfl) (by kernel_rfl) (fun _ _ _ h => h) (Or.inl ⟨by rfl, ?_⟩) hHeld ?_
          rotate_left
          · (intro w hSw; (try dsimp only at hSw);  go_simp; try with_reducible rfl)
          try simp only [Act.put, List.setIfInBounds_toArray, List.set_cons_zero, List.set_cons_succ]
          refine wpAnyJ_takeL (i := 12) (d := some 187) (v := ?_) #[true, true, true, true, true, true, true, true, true, true, true, true, true, false, false, false, false, false] (by kernel_rfl) rfl rfl (by kernel_rfl) (by kernel_rfl) (by kernel_rfl) (by kernel_rfl) (by kernel_rfl) (fun _ _ _ h => h) (Or.inl ⟨by rfl, ?_⟩) hHeld ?_
          rotate_left
          · (intro w hSw; (try dsimp only at hSw);  go_simp; try with_reducible rfl)
          try simp only [Act.put, List.setIfInBounds_toArray, List.set_cons_zero, List.set_cons_succ]
          refine wpAnyJ_takeL (i := 13) (d := some 188) (v := ?_) #[true, true, true, true, true, true, true, true, true, true, true, true, true, true, false, false, false, false] (by kernel_rfl) rfl rfl (by kernel_rfl) (by kernel_rfl) (by kernel_rfl) (by kernel_rfl) (by kernel_rfl) (fun _ _ _ h => h) (Or.inl ⟨by rfl, ?_⟩) hHeld ?_
          rotate_left
          · (intro w hSw; (try dsimp only at hSw);  go_simp; try with_reducible rfl)
          try simp only [Act.put, List.setIfInBounds_toArray, List.set_cons_zero, List.set_cons_succ]
          refine wpAnyJ_takeL (i := 14) (d := some 189) (v := ?_) #[true, true, true, true, true, true, true, true, true, true, true, true, true, true, true, false, false, false] (by kernel_rfl) rfl rfl (by kernel_rfl) (by kernel_rfl) (by kernel_rfl) (by kernel_rfl) (by kernel_rfl) (fun _ _ _ h => h) (Or.inl ⟨by rfl, ?_⟩) hHeld ?_
          rotate_left
          · (intro w hSw; (try dsimp only at hSw);  go_simp; try with_reducible rfl)
          try simp only [Act.put, List.setIfInBounds_toArray, List.set_cons_zero, List.set_cons_succ]
          refine wpAnyJ_takeL (i := 15) (d := some 190) (v := ?_) #[true, true, true, true, true, true, true, true, true, true, true, true, true, true, true, true, false, false] (by kernel_rfl) rfl rfl (by kernel_rfl) (by kernel_rfl) (by kernel_rfl) (by kernel_rfl) (by kernel_rfl) (fun _ _ _ h => h) (Or.inl ⟨by rfl, ?_⟩) hHeld ?_
          rotate_left
          · (intro w hSw; (try dsimp only at hSw);  go_simp; try with_reducible rfl)
          try simp only [Act.put, List.setIfInBounds_toArray, List.set_cons_zero, List.set_cons_succ]
          refine wpAnyJ_takeL (i := 16) (d := some 191) (v := ?_) #[true, true, true, true, true, true, true, true, true, true, true, true, true, true, true, true, true, false] (by kernel_rfl) rfl rfl (by kernel_rfl) (by kernel_rfl) (by kernel_rfl) (by kernel_rfl) (by kernel_rfl) (fun _ _ _ h => h) (Or.inl ⟨by rfl, ?_⟩) hHeld ?_
          rotate_left
          · (intro w hSw; (try dsimp only at hSw);  go_simp; try with_reducible rfl)
          try simp only [Act.put, List.setIfInBounds_toArray, List.set_cons_zero, List.set_cons_succ]
          refine wpAnyJ_takeL (i := 17) (d := some 192) (v := ?_) #[true, true, true, true, true, true, true, true, true, true, true, true, true, true, true, true, true, true] (by kernel_rfl) rfl rfl (by kernel_rfl) (by kernel_rfl) (by kernel_rfl) (by kernel_rfl) (by kernel_rfl) (fun _ _ _ h => h) (Or.inl ⟨by rfl, ?_⟩) hHeld ?_
          rotate_left
          · (intro w hSw; (try dsimp only at hSw);  go_simp; try with_reducible rfl)
          try simp only [Act.put, List.setIfInBounds_toArray, List.set_cons_zero, List.set_cons_succ]
          refine wpAnyJ_done (by kernel_rfl) ?_ _
          have HM14 := Lib.hid ((HM13.out.later (Below.refl _ _).drew).later hb14)
          clear hHeld hb14 HM13 HFA HCS
          go_wp2_with fail
          go_roundg (mg - (j + 1))
          case rel => exact ⟨j + 1, by go_num, by omega, rfl, HM14⟩
          case measure => omega
        · have hjj : decide (j < mg) = false := by simpa using hjt
          have hjj2 : decide ((j : Int) < (mg : Int)) = false := by simp; omega
          go_wp2_with fail
          refine (awake_any wr hM.out.n.la).mono ?_
          rintro e w17 ⟨rfl, hb17⟩
          have HM17 := Lib.hid (hM.out.later hb17)
          clear hb17 hM
          go_wp2_with fail
          go_ret
          exact ⟨rfl, HM17.out.n.bl⟩
end Go.Proofs.YtfabeihlfgemdaaDoor
