import Derived.Test.YtiljpejjjgoeaaaDoorZ31
import Derived.Test.YtiljpejjjgoeaaaDoorZ17
import Derived.Test.YtiljpejjjgoeaaaDoorZ13
import Derived.Test.YtiljpejjjgoeaaaDoorZ18
/-
  The program's layer 11: walks of supplied, Supplied, customers.
-/
namespace Go.Proofs.YtiljpejjjgoeaaaDoor
open Go.RowKit
set_option maxRecDepth 100000 in
set_option maxHeartbeats 4000000 in
theorem psupp_any (An Ad As : Option Addr) (nn cn nd cd n c Bn Bd Bs : Nat) (ns : List Nd) (ds : List Dv) (s : List Int) (w : World) (hn : Sl w Bn 3 An nn cn (ns.flatMap Nd.cells)) (hBn : Bn ≤ w.heap.size) (hd : Sl w Bd 5 Ad nd cd (ds.flatMap Dv.cells)) (hBd : Bd ≤ w.heap.size) (hs : Sl w Bs 1 As n c (intsV s)) (hBs : Bs ≤ w.heap.size)
    (hnn : nn ≤ 10000) (hnd : nd ≤ 10000) (hl : nd ≤ n) (hends : EndsOk nn ds) (hA : AOk nn ds) :
    Calls Tryd.prog 76 #[.agg #[.slice An nn cn, .slice Ad nd cd], .slice As n c] w fun e w' => ∃ Ao m co out, e = .returned (.slice Ao m co) ∧ Hid (IntsO w' w.heap.size Ao m co out) ∧ Hid (SupL ns ds s out) ∧ Hid (Below w.heap.size w w') := by
  have HLN := Lib.hid (hn.len (fun _ => rfl) (by decide))
  have HCK := Lib.hid (both_any An Ad As nn cn nd cd n c Bd Bs ds s (w.alloc (.cells #[.slice An nn cn, .slice Ad nd cd] 30)) (hd.alloc hBd _) (by simp; omega) (hs.alloc hBs _) (by simp; omega) hnn hnd hl hends hA)
  have HN := Lib.hid hn
  have hnle := hn.le
  clear hn hd hs hends hA
  go_enter Tryd.func76, Tryd.ntmps76
  go_upto_region 1 with (fail)
  have HB := Lib.hid (Blk.new w 30 #[.slice An nn cn, .slice Ad nd cd])
  have HW : Hid (Below w.heap.size w (w.alloc (.cells #[.slice An nn cn, .slice Ad nd cd] 30))) := (Below.refl _ _).alloc (Nat.le_refl _) _
  generalize World.alloc _ _ = w1 at *
  obtain ⟨nb, hnb⟩ : ∃ nb, nb = w.heap.size := ⟨_, rfl⟩
  rw [← hnb] at HB ⊢
  have HNB := Lib.hid hnb
  clear hnb
  have k0 : w1.cell? ⟨nb, 0, none⟩ = some (.slice An nn cn) := HB.out.cell 0
  have k1 : w1.cell? ⟨nb, 1, none⟩ = some (.slice Ad nd cd) := HB.out.cell 1
  go_wp2_with fail
  clear k0 k1
  refine HCK.out.mono ?_
  rintro e w2 ⟨A1, A2, P, C, rfl, _, hOc, _, hIC, hb2⟩
  have HBX := Lib.hid (HB.out.below hb2.out HB.out.lt)
  have HBW := Lib.hid (HW.out.trans (hb2.out.mono HW.out.size))
  have HSC := Lib.hid hOc.out.sl
  have HSN := Lib.hid (HN.out.below HBW.out hBn)
  clear hOc HCK HB HW hb2 HN
  have k0 : w2.cell? ⟨nb, 0, none⟩ = some (.slice An nn cn) := HBX.out.cell 0
  go_wp2_with fail
  clear k0
  go_loopg [7, 19] nn (SpR w2 ns C nn)
  case atStart => exact ⟨0, 0, 0, none, [], rfl, rfl, Nat.zero_le _, rfl, World.ownsRow_nil _ _ _ _, Below.refl _ _, SpIn.start _ _⟩
  case round =>
    obtain ⟨v, m, co, Ao, out, rfl, rfl, hv, rfl, hO, hbl, hsp⟩ := hrel
    by_cases hlt : v < nn
    · obtain ⟨b, off, cv, rfl, hb, hcv, hc⟩ := (HSC.out.below hbl.out (Nat.le_refl _)).at1 hlt
      obtain ⟨b1, of1, z, rfl, hb1, hz, hcz⟩ := (HSN.out.below hbl.out (Nat.le_trans hBn HBW.out.size)).at (fun _ => rfl) (by decide) hlt
      have HZ := Lib.hid hz
      have HCV := Lib.hid (getD_of hcv)
      obtain ⟨nm2, cu, co2⟩ := z
      have c0 : wr.cell? ⟨b1, of1 + v * 3, none⟩ = some (.string nm2) := hcz 0 _ rfl
      have c1 : wr.cell? ⟨b1, of1 + v * 3 + 1, none⟩ = some (.int .i64 cu) := hcz 1 _ rfl
      have c2 : wr.cell? ⟨b1, of1 + v * 3 + 2, none⟩ = some (.int .i64 co2) := hcz 2 _ rfl
      have hbz : b < wr.heap.size := by have := hbl.out.size; omega
      have hne : b ≠ wr.heap.size := by omega
      have HBA : Hid (Below w2.heap.size w2 (wr.alloc (.cells #[.string nm2, .int .i64 cu, .int .i64 co2] 49))) := hbl.out.alloc hbl.out.size _
      have HOA : Hid (IntsO (wr.alloc (.cells #[.string nm2, .int .i64 cu, .int .i64 co2] 49)) w2.heap.size Ao m co out) := hO.out.alloc _
      clear hcz hz hcv
      by_cases hcu : 0 < cu; rotate_left
      · have qc : decide (0 < cu) = false := by simpa using hcu
        have HS1 := Lib.hid (hsp.out.pass HZ.out (fun h => hcu h.2))
        clear hcu
        go_wp2_with fail
        go_roundg (nn - (v + 1))
        case rel => exact ⟨v + 1, m, co, Ao, out, by go_num, rfl, by omega, rfl, HOA, HBA, HS1⟩
        case measure => omega
      · have qc : decide (0 < cu) = true := by simpa using hcu
        by_cases h1 : cv = 1; rotate_left
        · have q : (cv == 1) = false := by simpa using h1
          have HS1 := Lib.hid (hsp.out.pass HZ.out (fun h => h1 (by have := h.1; rw [HCV.out] at this; exact this)))
          clear h1 hcu
          go_wp2_with fail
          go_roundg (nn - (v + 1))
          case rel => exact ⟨v + 1, m, co, Ao, out, by go_num, rfl, by omega, rfl, HOA, HBA, HS1⟩
          case measure => omega
        · have q : (cv == 1) = true := by simpa using h1
          have HS1 := Lib.hid (hsp.out.put HZ.out (by rw [HCV.out]; exact h1) hcu)
          have hml : m ≤ nn := by have := hsp.out.1; rw [hO.out.len] at this; omega
          have hzz := HBA.out.size
          clear h1 hcu
          go_upto_region 7 with (fail)
          generalize World.alloc wr _ = wq at *
          clear c0 c1 c2 hc
          go_wp2_with (at_builtin; go_must (refine wpList_app rfl (.tmp 34) (.tmp 36) rfl el_int (by rfl) (HOA.out.alloc _) (by rfl) (Sl.newest (n := 1) (by simp) (by rfl) (by decide)) (by simp [Value.oneCell']) (by omega) (by omega) (by simp; omega) ?_; intro A' cap' w3 hown3 hgr3 hat3; have HO3 := Lib.hid hown3; have HG3 := Lib.hid hgr3; clear hown3 hgr3 hat3))
          go_roundg (nn - (v + 1))
          case rel =>
            refine ⟨v + 1, m + 1, cap', A', out ++ [(v : Int)], by go_num, rfl, by omega, rfl, ?_, ?_, HS1⟩
            · have := HO3.out
              unfold Hid IntsO
              rw [intsV_append]
              exact this
            · refine (HBA.out.alloc HBA.out.size _).trans ⟨HG3.out.os, HG3.out.tape, HG3.out.output, HG3.out.size, fun i hi => HG3.out.block i (by simp; omega) (fun e => ?_)⟩
              have := (HOA.out.lt i e.symm).1
              omega
          case measure => omega
    · obtain rfl : v = nn := by omega
      have hii : decide (v < v) = false := by simp
      go_wp2_with fail
      go_ret
      refine ⟨Ao, m, co, out, rfl, hO.out.mono HBW.out.size, ⟨by rw [HLN.out]; exact hsp.out.1, fun x => (hsp.out.2 x).trans ?_⟩, HBW.out.trans (hbl.out.mono HBW.out.size)⟩
      have col : ∀ k : Nat, k < v → (C.getD k 0 = 1 ↔ Sup ds s k) := fun k hk => by rw [getD_of (hIC.out.2 k hk)]; exact sup_col
      constructor
      · rintro ⟨k, y, hk, e, hc, hy, hu⟩; exact ⟨k, y, e, hy, hu, (col k hk).1 hc⟩
      · rintro ⟨k, y, e, hy, hu, hc⟩
        have hk : k < v := by have := (List.getElem?_eq_some_iff.1 hy).1; rw [HLN.out] at this; exact this
        exact ⟨k, y, hk, e, (col k hk).2 hc, hy, hu⟩
set_option maxHeartbeats 2000000 in
/-- Supplied, at a valid state. -/
theorem Supplied_ok (An Ad As : Option Addr) (nn cn nd cd n c Bn Bd Bs : Nat) (ns : List Nd) (ds : List Dv) (s : List Int) (w : World) (hL : Laid w) (hn : Sl w Bn 3 An nn cn (ns.flatMap Nd.cells)) (hBn : Bn ≤ w.heap.size) (hd : Sl w Bd 5 Ad nd cd (ds.flatMap Dv.cells)) (hBd : Bd ≤ w.heap.size) (hs : Sl w Bs 1 As n c (intsV s)) (hBs : Bs ≤ w.heap.size)
    (hsn : ∀ x ∈ ns, x.name.size ≤ 9223372036854775807) (hsd : ∀ x ∈ ds, x.name.size ≤ 9223372036854775807) (h0 : stateErr ns ds s = 0) (hnn : nn ≤ 10000) (hnd : nd ≤ 10000) (hl : nd ≤ n) (hends : EndsOk nn ds) (hA : AOk nn ds) :
    Calls Tryd.prog 52 #[.agg #[.slice An nn cn, .slice Ad nd cd], .slice As n c] w fun e w' => ∃ Ao m co out, e = .returned (.tuple #[.slice Ao m co, .int .i64 0]) ∧ Hid (IntsO w' w.heap.size Ao m co out) ∧ Hid (SupL ns ds s out) ∧ Hid (Below w.heap.size w w') := by
  have HB : Hid (Below w.heap.size w (w.alloc (.cells #[.slice An nn cn, .slice Ad nd cd] 30))) := (Below.refl _ _).alloc (Nat.le_refl _) _
  have HK := Lib.hid (Blk.new w 30 #[.slice An nn cn, .slice Ad nd cd])
  have HL := Lib.hid hL; have HN := Lib.hid hn; have HD := Lib.hid hd; have HS := Lib.hid hs; have HSN := Lib.hid hsn; have HSD := Lib.hid hsd; have H0 := Lib.hid h0; have HE := Lib.hid hends; have HA := Lib.hid hA
  clear hL hn hd hs hsn hsd h0 hends hA
  go_enter Tryd.func52, Tryd.ntmps52
  go_wp2_with fail
  generalize World.alloc _ _ = W at *
  have hz := HB.out.size
  have HC := Lib.hid (mstate_any An Ad As nn cn nd cd n c Bn Bd Bs ns ds s W (HL.out.below HB.out (Nat.le_refl _)) (HN.out.below HB.out hBn) (HD.out.below HB.out hBd) (HS.out.below HB.out hBs) (by omega) (by omega) (by omega) HSN.out HSD.out)
  rw [H0.out] at HC
  refine HC.out.mono ?_
  rintro e w1 ⟨rfl, hb1⟩
  have HB1 := Lib.hid (HB.out.trans (hb1.mono hz))
  have HK1 := Lib.hid (HK.out.below hb1 HK.out.lt)
  have hz1 := HB1.out.size
  clear hb1 HC HB HK hz
  have k0 : w1.cell? ⟨w.heap.size, 0, none⟩ = some (.slice An nn cn) := HK1.out.cell 0
  have k1 : w1.cell? ⟨w.heap.size, 1, none⟩ = some (.slice Ad nd cd) := HK1.out.cell 1
  go_wp2_with fail
  clear k0 k1
  refine (psupp_any An Ad As nn cn nd cd n c Bn Bd Bs ns ds s w1 (HN.out.below HB1.out hBn) (by omega) (HD.out.below HB1.out hBd) (by omega) (HS.out.below HB1.out hBs) (by omega) hnn hnd hl HE.out HA.out).mono ?_
  rintro e w2 ⟨Ao, m, co, out, rfl, hO, hSL, hb2⟩
  go_wp2_with fail
  go_ret2
  exact ⟨Ao, m, co, out, rfl, hO.out.mono hz1, hSL, HB1.out.trans (hb2.out.mono hz1)⟩
def CuR (W : World) (m gk : Nat) (sv iv : Value) (wr : World) : Prop := ∃ (i : Nat) (k : Int), iv = .int .i64 i ∧ sv = .int .i64 k ∧ i ≤ m ∧ gk = m - i ∧ Hid (Below W.heap.size W wr)
set_option maxHeartbeats 2000000 in
/-- customers: some number, at nodes of the network. -/
theorem custs_any (An Ad A : Option Addr) (nn cn nd cd m c Bn B : Nat) (ns : List Nd) (l : List Int) (w : World) (hn : Sl w Bn 3 An nn cn (ns.flatMap Nd.cells)) (hBn : Bn ≤ w.heap.size) (hs : Sl w B 1 A m c (intsV l)) (hB : B ≤ w.heap.size) (hl : ∀ v ∈ l, 0 ≤ v ∧ v < nn) :
    Calls Tryd.prog 55 #[.agg #[.slice An nn cn, .slice Ad nd cd], .slice A m c] w fun e w' => ∃ k : Int, e = .returned (.int .i64 k) ∧ Hid (Below w.heap.size w w') := by
  have HB0 : Hid (Below w.heap.size w (w.alloc (.cells #[.slice An nn cn, .slice Ad nd cd] 30))) := (Below.refl _ _).alloc (Nat.le_refl _) _
  have HK := Lib.hid (Blk.new w 30 #[.slice An nn cn, .slice Ad nd cd])
  have HN := Lib.hid hn; have HS := Lib.hid hs; have HI := Lib.hid hl
  have hnle := hn.le; have hsle := hs.le
  clear hn hs hl
  go_enter Tryd.func55, Tryd.ntmps55
  go_wp2_with fail
  generalize World.alloc _ _ = W at *
  go_loopg [5, 10] m (CuR W m)
  case atStart => exact ⟨0, 0, rfl, rfl, Nat.zero_le _, rfl, Below.refl _ _⟩
  case round =>
    obtain ⟨i, k, rfl, rfl, hi, rfl, hbl⟩ := hrel
    have HB1 := Lib.hid (HB0.out.trans (hbl.out.mono HB0.out.size))
    by_cases hlt : i < m
    · obtain ⟨b, off, v, rfl, hb, hv, hc⟩ := (HS.out.below HB1.out hB).at1 hlt
      obtain ⟨hv0, hv1⟩ := HI.out v (List.mem_of_getElem? hv)
      obtain ⟨t, rfl⟩ := Int.eq_ofNat_of_zero_le hv0
      have htn : t < nn := by omega
      obtain ⟨b1, of1, z, rfl, hb1, hz, hcz⟩ := (HN.out.below HB1.out hBn).at (fun _ => rfl) (by decide) htn
      obtain ⟨nm2, cu, co2⟩ := z
      have c1 : wr.cell? ⟨b1, of1 + t * 3 + 1, none⟩ = some (.int .i64 cu) := hcz 1 _ rfl
      have k0 : wr.cell? ⟨w.heap.size, 0, none⟩ = some (.slice (some ⟨b1, of1, none⟩) nn cn) := (HK.out.below hbl.out HK.out.lt).cell 0
      clear hcz hz hv
      go_wp2_with fail
      go_roundg (m - (i + 1))
      case rel => exact ⟨i + 1, _, by go_num, rfl, by omega, rfl, hbl⟩
      case measure => omega
    · obtain rfl : i = m := by omega
      have hii : decide (i < i) = false := by simp
      go_wp2_with fail
      go_ret
      exact ⟨k, rfl, HB1⟩
end Go.Proofs.YtiljpejjjgoeaaaDoor
/-
  The reference of layer 11: walk of Lost.
-/
namespace Go.Proofs.YtiljpejjjgoeaaaDoor
open Go.RowKit
def LoIn (a b : List Int) (i : Nat) (out : List Int) : Prop := out.length ≤ i ∧ ∀ x : Int, x ∈ out ↔ x ∈ a.take i ∧ x ∉ b
theorem LoIn.start (a b : List Int) : LoIn a b 0 [] := ⟨Nat.le_refl _, fun x => by simp⟩
theorem LoIn.pass {a b out : List Int} {i : Nat} {x : Int} (h : LoIn a b i out) (hx : a[i]? = some x) (hm : x ∈ b) : LoIn a b (i + 1) out := by
  refine ⟨by have := h.1; omega, fun y => (h.2 y).trans ?_⟩
  rw [take_snoc hx, List.mem_append, List.mem_singleton]
  exact ⟨fun k => ⟨.inl k.1, k.2⟩, fun k => ⟨k.1.elim id (fun e => by subst e; exact absurd hm k.2), k.2⟩⟩
theorem LoIn.put {a b out : List Int} {i : Nat} {x : Int} (h : LoIn a b i out) (hx : a[i]? = some x) (hm : x ∉ b) : LoIn a b (i + 1) (out ++ [x]) := by
  refine ⟨by have := h.1; simp; omega, fun y => ?_⟩
  rw [take_snoc hx, List.mem_append, List.mem_singleton, List.mem_append, List.mem_singleton, h.2 y]
  exact ⟨fun k => k.elim (fun k => ⟨.inl k.1, k.2⟩) (fun e => by subst e; exact ⟨.inr rfl, hm⟩), fun k => k.1.elim (fun k1 => .inl ⟨k1, k.2⟩) .inr⟩
/-- Who is supplied before, and not after. -/
def LostL (ns : List Nd) (ds : List Dv) (s s2 out : List Int) : Prop := ∀ x : Int, x ∈ out ↔ ∃ (k : Nat) (y : Nd), x = k ∧ ns[k]? = some y ∧ 0 < y.cust ∧ Sup ds s k ∧ ¬ Sup ds s2 k
end Go.Proofs.YtiljpejjjgoeaaaDoor
