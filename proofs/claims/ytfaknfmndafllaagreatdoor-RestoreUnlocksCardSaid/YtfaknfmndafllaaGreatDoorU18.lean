import Derived.Test.YtfaknfmndafllaaGreatDoorU17
import Derived.Test.YtfaknfmndafllaaGreatDoorU00
import Derived.Test.YtfaknfmndafllaaGreatDoorU04
import Derived.Deep.LoopGhost
import Derived.Test.YtfaknfmndafllaaGreatDoorU16
import Derived.Test.YtfaknfmndafllaaGreatDoorU11
import Derived.Test.YtfaknfmndafllaaGreatDoorU09
import Derived.Test.YtfaknfmndafllaaGreatDoorU13
import Derived.Shelf.Abstract
set_option maxRecDepth 100000
set_option maxHeartbeats 4000000
namespace Go.Proofs.YtfaknfmndafllaaGreatDoor
open Go.RowKit
def SlX (w : World) (g size : Nat) (A : Option Addr) (n c : Nat) (xs : List Value) : Prop := Sl w w.heap.size size A n c xs ∧ ∀ b off, A = some ⟨b, off, none⟩ → b ≠ g
section
variable {w w' : World} {g size n c base : Nat} {A : Option Addr} {xs : List Value}
theorem SlX.grown (h : SlX w g size A n c xs) (hg : w.grownBy w' (some g)) : SlX w' g size A n c xs := by
 obtain ⟨⟨h1, h2, h3, h4, h5⟩, h6⟩ := h
 refine ⟨⟨h1, h2, h3, h4, fun hn => ?_⟩, h6⟩
 obtain ⟨b, off, e, hb, hc⟩ := h5 hn
 refine ⟨b, off, e, Nat.lt_of_lt_of_le hb hg.size, fun j u hu => ?_⟩
 exact (World.cell?_of_block (hg.block b hb (fun e' => h6 b off e (by injection e')))).trans (hc j u hu)
theorem SlX.below (h : SlX w g size A n c xs) (hb : Below w.heap.size w w') : SlX w' g size A n c xs := ⟨(h.1.below hb (Nat.le_refl _)).more hb.size, h.2⟩
theorem SlX.alloc (h : SlX w g size A n c xs) (o : Obj) : SlX (w.alloc o) g size A n c xs := h.below ((Below.refl _ _).alloc (Nat.le_refl _) _)
theorem SlX.of_own {e : TypeId} (h : w.ownsRow base e size (.slice A n c) n xs) (hb : g < base) : SlX w g size A n c xs :=
 ⟨Sl.of_own h, fun b off e => by have := (h.lt b (by rw [e]; rfl)).1; omega⟩
end
end Go.Proofs.YtfaknfmndafllaaGreatDoor
namespace Go.Proofs.YtfaknfmndafllaaGreatDoor
open Go.RowKit
def SpIn (ns : List Nd) (C : List Int) (v : Nat) (out : List Int) : Prop := out.length ≤ v ∧ ∀ x : Int, x ∈ out ↔ ∃ (k : Nat) (y : Nd), k < v ∧ x = k ∧ C.getD k 0 = 1 ∧ ns[k]? = some y ∧ 0 < y.cust
theorem SpIn.start (ns : List Nd) (C : List Int) : SpIn ns C 0 [] := ⟨Nat.le_refl _, fun x => ⟨(fun h => by cases h), (fun ⟨k, _, hk, _⟩ => by omega)⟩⟩
theorem SpIn.pass {ns : List Nd} {C out : List Int} {v : Nat} {y : Nd} (h : SpIn ns C v out) (hy : ns[v]? = some y) (hn : ¬ (C.getD v 0 = 1 ∧ 0 < y.cust)) : SpIn ns C (v + 1) out := by
 refine ⟨by have := h.1; omega, fun x => (h.2 x).trans ⟨?_, ?_⟩⟩
 ·rintro ⟨k, z, hk, r⟩; exact ⟨k, z, by omega, r⟩
 ·rintro ⟨k, z, hk, e, hc, hz, hu⟩
  rcases Nat.lt_succ_iff_lt_or_eq.1 hk with hk | rfl
  ·exact ⟨k, z, hk, e, hc, hz, hu⟩
  ·rw [hy] at hz; injection hz with hz; subst hz; exact absurd ⟨hc, hu⟩ hn
theorem SpIn.put {ns : List Nd} {C out : List Int} {v : Nat} {y : Nd} (h : SpIn ns C v out) (hy : ns[v]? = some y) (hc : C.getD v 0 = 1) (hu : 0 < y.cust) : SpIn ns C (v + 1) (out ++ [(v : Int)]) := by
 refine ⟨by have := h.1; simp; omega, fun x => ?_⟩
 rw [List.mem_append, h.2 x, List.mem_singleton]
 constructor
 ·rintro (⟨k, z, hk, r⟩ | rfl)
  ·exact ⟨k, z, by omega, r⟩
  ·exact ⟨v, y, by omega, rfl, hc, hy, hu⟩
 ·rintro ⟨k, z, hk, e, r⟩
  rcases Nat.lt_succ_iff_lt_or_eq.1 hk with hk | rfl
  ·exact .inl ⟨k, z, hk, e, r⟩
  ·exact .inr e
def SpR (w2 : World) (ns : List Nd) (C : List Int) (nn gk : Nat) (ov iv : Value) (wr : World) : Prop := ∃ (v m co : Nat) (Ao : Option Addr) (out : List Int), iv = .int .i64 v ∧ ov = .slice Ao m co ∧ v ≤ nn ∧ gk = nn - v ∧ Hid (IntsO wr w2.heap.size Ao m co out) ∧ Hid (Below w2.heap.size w2 wr) ∧ Hid (SpIn ns C v out)
def SupL (ns : List Nd) (ds : List Dv) (s out : List Int) : Prop := out.length ≤ ns.length ∧ ∀ x : Int, x ∈ out ↔ ∃ (k : Nat) (y : Nd), x = k ∧ ns[k]? = some y ∧ 0 < y.cust ∧ Sup ds s k
end Go.Proofs.YtfaknfmndafllaaGreatDoor
namespace Go.Proofs.YtfaknfmndafllaaGreatDoor
open Go.RowKit
theorem psupp_any (An Ad As : Option Addr) (nn cn nd cd n c Bn Bd Bs : Nat) (ns : List Nd) (ds : List Dv) (s : List Int) (w : World) (hn : Sl w Bn 3 An nn cn (ns.flatMap Nd.cells)) (hBn : Bn ≤ w.heap.size) (hd : Sl w Bd 5 Ad nd cd (ds.flatMap Dv.cells)) (hBd : Bd ≤ w.heap.size) (hs : Sl w Bs 1 As n c (intsV s)) (hBs : Bs ≤ w.heap.size)
 (hnn : nn ≤ 10000) (hnd : nd ≤ 10000) (hl : nd ≤ n) (hends : EndsOk nn ds) (hA : AOk nn ds) :
 Calls Tryz.prog 138 #[.agg #[.slice An nn cn, .slice Ad nd cd], .slice As n c] w fun e w' => ∃ Ao m co out, e = .returned (.slice Ao m co) ∧ Hid (IntsO w' w.heap.size Ao m co out) ∧ Hid (SupL ns ds s out) ∧ Hid (Below w.heap.size w w') := by
 have HLN := Lib.hid (hn.len (fun _ => rfl) (by decide))
 have HCK := Lib.hid (both_any An Ad As nn cn nd cd n c Bd Bs ds s (w.alloc (.cells #[.slice An nn cn, .slice Ad nd cd] 30)) (hd.alloc hBd _) (by simp; omega) (hs.alloc hBs _) (by simp; omega) hnn hnd hl hends hA)
 have HN := Lib.hid hn
 have hnle := hn.le
 clear hn hd hs hends hA
 go_enter Tryz.func138, Tryz.ntmps138
 go_upto_region 1 with (fail)
 have HB := Lib.hid (Blk.new w 30 #[.slice An nn cn, .slice Ad nd cd])
 have HW : Hid (Below w.heap.size w (w.alloc (.cells #[.slice An nn cn, .slice Ad nd cd] 30))) := (Below.refl _ _).alloc (Nat.le_refl _) _
 generalize World.alloc _ _ = w1 at *
 obtain ⟨nb, hnb⟩ : ∃ nb, nb = w.heap.size := ⟨_, rfl⟩
 rw [← hnb] at HB ⊢
 have HNB := Lib.hid hnb
 clear hnb
 have k0 := HB.out.c0
 have k1 := HB.out.c1
 go_wp2_with fail
 clear k0 k1
 refine HCK.out.mono ?_
 rintro e w2 ⟨A1, A2, P, C, rfl, _, hOc, _, hIC, hb2⟩
 have HBX := Lib.hid (HB.out.below hb2.out HB.out.lt)
 have HBW := Lib.hid (HW.out.trans (hb2.out.mono HW.out.size))
 have HSC := Lib.hid hOc.out.sl
 have HSN := Lib.hid (HN.out.below HBW.out hBn)
 clear hOc HCK HB HW hb2 HN
 have k0 := HBX.out.c0
 go_wp2_with fail
 clear k0
 go_loopg [7, 19] nn (SpR w2 ns C nn)
 case atStart => exact ⟨0, 0, 0, none, [], rfl, rfl, Nat.zero_le _, rfl, World.ownsRow_nil _ _ _ _, Below.refl _ _, SpIn.start _ _⟩
 case round =>
  obtain ⟨v, m, co, Ao, out, rfl, rfl, hv, rfl, hO, hbl, hsp⟩ := hrel
  by_cases hlt : v < nn
  ·obtain ⟨b, off, cv, rfl, hb, hcv, hc⟩ := (HSC.out.below hbl.out (Nat.le_refl _)).at1 hlt
   obtain ⟨b1, of1, z, rfl, hb1, hz, hcz⟩ := (HSN.out.below hbl.out (Nat.le_trans hBn HBW.out.size)).at (fun _ => rfl) (by decide) hlt
   have HZ := Lib.hid hz
   have HCV := Lib.hid (getD_of hcv)
   obtain ⟨nm2, cu, co2⟩ := z
   have c0 : wr.cell? ⟨b1, of1 + v * 3, none⟩ = some (.string nm2) := hcz 0 _ rfl
   have c1 : wr.cell? ⟨b1, of1 + v * 3 + 1, none⟩ = some (.int .i64 cu) := hcz 1 _ rfl
   have c2 : wr.cell? ⟨b1, of1 + v * 3 + 2, none⟩ = some (.int .i64 co2) := hcz 2 _ rfl
   have hbz : b < wr.heap.size := by have := hbl.out.size; omega
   have hne : b ≠ wr.heap.size := by omega
   have HBA : Hid (Below w2.heap.size w2 (wr.alloc (.cells #[.string nm2, .int .i64 cu, .int .i64 co2] 80))) := hbl.out.alloc hbl.out.size _
   have HOA : Hid (IntsO (wr.alloc (.cells #[.string nm2, .int .i64 cu, .int .i64 co2] 80)) w2.heap.size Ao m co out) := hO.out.alloc _
   clear hcz hz hcv
   by_cases hcu : 0 < cu; rotate_left
   ·have qc : decide (0 < cu) = false := by simpa using hcu
    have HS1 := Lib.hid (hsp.out.pass HZ.out (fun h => hcu h.2))
    clear hcu
    go_wp2_with fail
    go_roundg (nn - (v + 1))
    case rel => exact ⟨v + 1, m, co, Ao, out, by go_num, rfl, by omega, rfl, HOA, HBA, HS1⟩
    case measure => omega
   ·have qc : decide (0 < cu) = true := by simpa using hcu
    by_cases h1 : cv = 1; rotate_left
    ·have q : (cv == 1) = false := by simpa using h1
     have HS1 := Lib.hid (hsp.out.pass HZ.out (fun h => h1 (by have := h.1; rw [HCV.out] at this; exact this)))
     clear h1 hcu
     go_wp2_with fail
     go_roundg (nn - (v + 1))
     case rel => exact ⟨v + 1, m, co, Ao, out, by go_num, rfl, by omega, rfl, HOA, HBA, HS1⟩
     case measure => omega
    ·have q : (cv == 1) = true := by simpa using h1
     have HS1 := Lib.hid (hsp.out.put HZ.out (by rw [HCV.out]; exact h1) hcu)
     have hml : m ≤ nn := by have := hsp.out.1; rw [hO.out.len] at this; omega
     have hzz := HBA.out.size
     clear h1 hcu
     go_upto_region 7 with (fail)
     generalize World.alloc wr _ = wq at *
     clear c0 c1 c2 hc
     go_wp2_with (at_builtin; go_must (refine wpList_app rfl (.tmp 34) (.tmp 36) rfl el_int (by rfl) (HOA.out.alloc _) (by rfl) (Sl.newest (n := 1) (by simp) (by rfl) (by decide)) (by simp [Value.oneCell']) (by omega) (by omega) (by simp; omega) ?_; intro A' cap' w3 hown3 hgr3 hat3; have HO3 := Lib.hid hown3; have HG3 := Lib.hid hgr3; clear hown3 hgr3 hat3))
     go_roundg (nn - (v + 1))
     case rel =>
      refine ⟨v + 1, m + 1, cap', A', out ++ [(v : Int)], by go_num, rfl, by omega, rfl, ?_, ?_, HS1⟩
      ·have := HO3.out
       unfold Hid IntsO
       rw [intsV_append]
       exact this
      ·refine (HBA.out.alloc HBA.out.size _).trans ⟨HG3.out.os, HG3.out.tape, HG3.out.output, HG3.out.size, fun i hi => HG3.out.block i (by simp; omega) (fun e => ?_)⟩
       have := (HOA.out.lt i e.symm).1
       omega
     case measure => omega
  ·obtain rfl : v = nn := by omega
   have hii : decide (v < v) = false := by simp
   go_wp2_with fail
   go_ret
   refine ⟨Ao, m, co, out, rfl, hO.out.mono HBW.out.size, ⟨by rw [HLN.out]; exact hsp.out.1, fun x => (hsp.out.2 x).trans ?_⟩, HBW.out.trans (hbl.out.mono HBW.out.size)⟩
   have col : ∀ k : Nat, k < v → (C.getD k 0 = 1 ↔ Sup ds s k) := fun k hk => by rw [getD_of (hIC.out.2 k hk)]; exact sup_col
   constructor
   ·rintro ⟨k, y, hk, e, hc, hy, hu⟩; exact ⟨k, y, e, hy, hu, (col k hk).1 hc⟩
   ·rintro ⟨k, y, e, hy, hu, hc⟩
    have hk : k < v := by have := (List.getElem?_eq_some_iff.1 hy).1; rw [HLN.out] at this; exact this
    exact ⟨k, y, hk, e, (col k hk).2 hc, hy, hu⟩
theorem Supplied_ok (An Ad As : Option Addr) (nn cn nd cd n c Bn Bd Bs : Nat) (ns : List Nd) (ds : List Dv) (s : List Int) (w : World) (hL : Laid w) (hn : Sl w Bn 3 An nn cn (ns.flatMap Nd.cells)) (hBn : Bn ≤ w.heap.size) (hd : Sl w Bd 5 Ad nd cd (ds.flatMap Dv.cells)) (hBd : Bd ≤ w.heap.size) (hs : Sl w Bs 1 As n c (intsV s)) (hBs : Bs ≤ w.heap.size)
 (hsn : ∀ x ∈ ns, x.name.size ≤ 9223372036854775807) (hsd : ∀ x ∈ ds, x.name.size ≤ 9223372036854775807) (h0 : stateErr ns ds s = 0) (hnn : nn ≤ 10000) (hnd : nd ≤ 10000) (hl : nd ≤ n) (hends : EndsOk nn ds) (hA : AOk nn ds) :
 Calls Tryz.prog 99 #[.agg #[.slice An nn cn, .slice Ad nd cd], .slice As n c] w fun e w' => ∃ Ao m co out, e = .returned (.tuple #[.slice Ao m co, .int .i64 0]) ∧ Hid (IntsO w' w.heap.size Ao m co out) ∧ Hid (SupL ns ds s out) ∧ Hid (Below w.heap.size w w') := by
 have HB : Hid (Below w.heap.size w (w.alloc (.cells #[.slice An nn cn, .slice Ad nd cd] 30))) := (Below.refl _ _).alloc (Nat.le_refl _) _
 have HK := Lib.hid (Blk.new w 30 #[.slice An nn cn, .slice Ad nd cd])
 have HL := Lib.hid hL; have HN := Lib.hid hn; have HD := Lib.hid hd; have HS := Lib.hid hs; have HSN := Lib.hid hsn; have HSD := Lib.hid hsd; have H0 := Lib.hid h0; have HE := Lib.hid hends; have HA := Lib.hid hA
 clear hL hn hd hs hsn hsd h0 hends hA
 go_enter Tryz.func99, Tryz.ntmps99
 go_wp2_with fail
 generalize World.alloc _ _ = W at *
 have hz := HB.out.size
 have HC := Lib.hid (mstate_any An Ad As nn cn nd cd n c Bn Bd Bs ns ds s W (HL.out.below HB.out (Nat.le_refl _)) (HN.out.below HB.out hBn) (HD.out.below HB.out hBd) (HS.out.below HB.out hBs) (by omega) (by omega) (by omega) HSN.out HSD.out)
 rw [H0.out] at HC
 refine HC.out.mono ?_
 rintro e w1 ⟨rfl, hb1⟩
 have HB1 := Lib.hid (HB.out.trans (hb1.mono hz))
 have HK1 := Lib.hid (HK.out.below hb1 HK.out.lt)
 have hz1 := HB1.out.size
 clear hb1 HC HB HK hz
 have k0 := HK1.out.c0
 have k1 := HK1.out.c1
 go_wp2_with fail
 clear k0 k1
 refine (psupp_any An Ad As nn cn nd cd n c Bn Bd Bs ns ds s w1 (HN.out.below HB1.out hBn) (by omega) (HD.out.below HB1.out hBd) (by omega) (HS.out.below HB1.out hBs) (by omega) hnn hnd hl HE.out HA.out).mono ?_
 rintro e w2 ⟨Ao, m, co, out, rfl, hO, hSL, hb2⟩
 go_wp2_with fail
 go_ret2
 exact ⟨Ao, m, co, out, rfl, hO.out.mono hz1, hSL, HB1.out.trans (hb2.out.mono hz1)⟩
def CuR (W : World) (m gk : Nat) (sv iv : Value) (wr : World) : Prop := ∃ (i : Nat) (k : Int), iv = .int .i64 i ∧ sv = .int .i64 k ∧ i ≤ m ∧ gk = m - i ∧ Hid (Below W.heap.size W wr)
theorem custs_any (An Ad A : Option Addr) (nn cn nd cd m c Bn B : Nat) (ns : List Nd) (l : List Int) (w : World) (hn : Sl w Bn 3 An nn cn (ns.flatMap Nd.cells)) (hBn : Bn ≤ w.heap.size) (hs : Sl w B 1 A m c (intsV l)) (hB : B ≤ w.heap.size) (hl : ∀ v ∈ l, 0 ≤ v ∧ v < nn) :
 Calls Tryz.prog 102 #[.agg #[.slice An nn cn, .slice Ad nd cd], .slice A m c] w fun e w' => ∃ k : Int, e = .returned (.int .i64 k) ∧ Hid (Below w.heap.size w w') := by
 have HB0 : Hid (Below w.heap.size w (w.alloc (.cells #[.slice An nn cn, .slice Ad nd cd] 30))) := (Below.refl _ _).alloc (Nat.le_refl _) _
 have HK := Lib.hid (Blk.new w 30 #[.slice An nn cn, .slice Ad nd cd])
 have HN := Lib.hid hn; have HS := Lib.hid hs; have HI := Lib.hid hl
 have hnle := hn.le; have hsle := hs.le
 clear hn hs hl
 go_enter Tryz.func102, Tryz.ntmps102
 go_wp2_with fail
 generalize World.alloc _ _ = W at *
 go_loopg [5, 10] m (CuR W m)
 case atStart => exact ⟨0, 0, rfl, rfl, Nat.zero_le _, rfl, Below.refl _ _⟩
 case round =>
  obtain ⟨i, k, rfl, rfl, hi, rfl, hbl⟩ := hrel
  have HB1 := Lib.hid (HB0.out.trans (hbl.out.mono HB0.out.size))
  by_cases hlt : i < m
  ·obtain ⟨b, off, v, rfl, hb, hv, hc⟩ := (HS.out.below HB1.out hB).at1 hlt
   obtain ⟨hv0, hv1⟩ := HI.out v (List.mem_of_getElem? hv)
   obtain ⟨t, rfl⟩ := Int.eq_ofNat_of_zero_le hv0
   have htn : t < nn := by omega
   obtain ⟨b1, of1, z, rfl, hb1, hz, hcz⟩ := (HN.out.below HB1.out hBn).at (fun _ => rfl) (by decide) htn
   obtain ⟨nm2, cu, co2⟩ := z
   have c1 : wr.cell? ⟨b1, of1 + t * 3 + 1, none⟩ = some (.int .i64 cu) := hcz 1 _ rfl
   have k0 := (HK.out.below hbl.out HK.out.lt).c0
   clear hcz hz hv
   go_wp2_with fail
   go_roundg (m - (i + 1))
   case rel => exact ⟨i + 1, _, by go_num, rfl, by omega, rfl, hbl⟩
   case measure => omega
  ·obtain rfl : i = m := by omega
   have hii : decide (i < i) = false := by simp
   go_wp2_with fail
   go_ret
   exact ⟨k, rfl, HB1⟩
end Go.Proofs.YtfaknfmndafllaaGreatDoor
namespace Go.Proofs.YtfaknfmndafllaaGreatDoor
open Go.RowKit
def LoIn (a b : List Int) (i : Nat) (out : List Int) : Prop := out.length ≤ i ∧ ∀ x : Int, x ∈ out ↔ x ∈ a.take i ∧ x ∉ b
theorem LoIn.start (a b : List Int) : LoIn a b 0 [] := ⟨Nat.le_refl _, fun x => by simp⟩
theorem LoIn.pass {a b out : List Int} {i : Nat} {x : Int} (h : LoIn a b i out) (hx : a[i]? = some x) (hm : x ∈ b) : LoIn a b (i + 1) out := by
 refine ⟨by have := h.1; omega, fun y => (h.2 y).trans ?_⟩
 rw [take_snoc hx, List.mem_append, List.mem_singleton]
 exact ⟨fun k => ⟨.inl k.1, k.2⟩, fun k => ⟨k.1.elim id (fun e => by subst e; exact absurd hm k.2), k.2⟩⟩
theorem LoIn.put {a b out : List Int} {i : Nat} {x : Int} (h : LoIn a b i out) (hx : a[i]? = some x) (hm : x ∉ b) : LoIn a b (i + 1) (out ++ [x]) := by
 refine ⟨by have := h.1; simp; omega, fun y => ?_⟩
 rw [take_snoc hx, List.mem_append, List.mem_singleton, List.mem_append, List.mem_singleton, h.2 y]
 exact ⟨fun k => k.elim (fun k => ⟨.inl k.1, k.2⟩) (fun e => by subst e; exact ⟨.inr rfl, hm⟩), fun k => k.1.elim (fun k1 => .inl ⟨k1, k.2⟩) .inr⟩
def LostL (ns : List Nd) (ds : List Dv) (s s2 out : List Int) : Prop := ∀ x : Int, x ∈ out ↔ ∃ (k : Nat) (y : Nd), x = k ∧ ns[k]? = some y ∧ 0 < y.cust ∧ Sup ds s k ∧ ¬ Sup ds s2 k
end Go.Proofs.YtfaknfmndafllaaGreatDoor
namespace Go.Proofs.YtfaknfmndafllaaGreatDoor
open Go.RowKit
def locksErr (ns : List Nd) (ds : List Dv) (ls : List Lk) : Int := if checkN ns ds ≠ 0 then checkN ns ds else if 128 < ls.length then 1 else firstE ds ls ls.length
theorem kindOf_at {ds : List Dv} {x : Dv} {i : Nat} (h : ds[i]? = some x) : kindOf ds (i : Int) = x.kind := by unfold kindOf; rw [Int.toNat_natCast, h]
theorem rfault_any (An Ad : Option Addr) (nn cn nd cd Bd : Nat) (ds : List Dv) (d p q : Int) (w : World) (hd : Sl w Bd 5 Ad nd cd (ds.flatMap Dv.cells)) (hBd : Bd ≤ w.heap.size) :
 Calls Tryz.prog 85 #[.agg #[.slice An nn cn, .slice Ad nd cd], .agg #[.int .i64 d, .int .i64 p, .int .i64 q]] w fun e w' => e = .returned (.int .i64 (lkErr ds ⟨d, p, q⟩)) ∧ Below w.heap.size w w' := by
 have HLD := Lib.hid (hd.len (fun _ => rfl) (by decide))
 have HE : Hid (lkErr ds ⟨d, p, q⟩ = if d < 0 then 8 else if (nd : Int) ≤ d then 8 else if kindOf ds d = 5 then 6 else if p ≠ 1 ∧ p ≠ 2 then 10 else if q < 0 then 5 else if 65536 < q then 5 else 0) := by unfold Hid lkErr; rw [HLD.out]
 have HB : Hid (Below w.heap.size w ((w.alloc (.cells #[.slice An nn cn, .slice Ad nd cd] 30)).alloc (.cells #[.int .i64 d, .int .i64 p, .int .i64 q] 59))) := ((Below.refl _ _).alloc (Nat.le_refl _) _).alloc (by simp) _
 have HD2 := Lib.hid ((hd.alloc hBd (.cells #[.slice An nn cn, .slice Ad nd cd] 30)).alloc (by simp; omega) (.cells #[.int .i64 d, .int .i64 p, .int .i64 q] 59))
 have hdm := hd.le
 clear hd
 by_cases h1 : d < 0
 ·have q1 : decide (d < 0) = true := by simpa using h1
  go_enter Tryz.func85, Tryz.ntmps85
  go_wp2_with fail
  go_ret
  exact ⟨ret_int (by rw [HE.out, if_pos h1]), HB.out⟩
 have q1 : decide (d < 0) = false := by simpa using h1
 by_cases h2 : (nd : Int) ≤ d
 ·have q2 : decide ((nd : Int) ≤ d) = true := by simpa using h2
  go_enter Tryz.func85, Tryz.ntmps85
  go_wp2_with fail
  go_ret
  exact ⟨ret_int (by rw [HE.out, if_neg (by omega), if_pos h2]), HB.out⟩
 obtain ⟨i, rfl⟩ := Int.eq_ofNat_of_zero_le (show 0 ≤ d by omega)
 have hin : i < nd := by omega
 have q2 : decide (nd ≤ i) = false := by simp; omega
 obtain ⟨b0, off, x, rfl, hb0, hx, hc⟩ := HD2.out.at (fun _ => rfl) (by decide) hin
 have HX := Lib.hid (kindOf_at hx)
 obtain ⟨nm, kd, xa, xb, co⟩ := x
 have c1 := hc 1 _ rfl
 clear hc hx
 by_cases h3 : kd = 5
 ·subst h3
  go_enter Tryz.func85, Tryz.ntmps85
  go_wp2_with fail
  go_ret
  exact ⟨ret_int (by rw [HE.out, if_neg (by omega), if_neg (by omega), HX.out, if_pos rfl]), HB.out⟩
 have q3 : (kd == 5) = false := by simpa using h3
 have HR : Hid (lkErr ds ⟨(i : Int), p, q⟩ = if p ≠ 1 ∧ p ≠ 2 then 10 else if q < 0 then 5 else if 65536 < q then 5 else 0) := by unfold Hid; rw [HE.out, if_neg (by omega), if_neg (by omega), HX.out, if_neg h3]
 clear h1 h2 h3 HE HX
 by_cases h4 : p = 1 ∨ p = 2
 ·have HR2 : Hid (lkErr ds ⟨(i : Int), p, q⟩ = if q < 0 then 5 else if 65536 < q then 5 else 0) := by unfold Hid; rw [HR.out, if_neg (by omega)]
  clear HR
  by_cases h5 : q < 0
  ·have q5 : decide (q < 0) = true := by simpa using h5
   rcases h4 with rfl | rfl
   all_goals
    go_enter Tryz.func85, Tryz.ntmps85
    go_wp2_with fail
    go_ret
    exact ⟨ret_int (by rw [HR2.out, if_pos h5]), HB.out⟩
  have q5 : decide (q < 0) = false := by simpa using h5
  by_cases h6 : 65536 < q
  ·have q6 : decide (65536 < q) = true := by simpa using h6
   rcases h4 with rfl | rfl
   all_goals
    go_enter Tryz.func85, Tryz.ntmps85
    go_wp2_with fail
    go_ret
    exact ⟨ret_int (by rw [HR2.out, if_neg (by omega), if_pos h6]), HB.out⟩
  have q6 : decide (65536 < q) = false := by simpa using h6
  rcases h4 with rfl | rfl
  all_goals
   go_enter Tryz.func85, Tryz.ntmps85
   go_wp2_with fail
   go_ret
   exact ⟨ret_int (by rw [HR2.out, if_neg (by omega), if_neg (by omega)]), HB.out⟩
 ·have p1 : (p != 1) = true := by simp; omega
  have p2 : (p != 2) = true := by simp; omega
  go_enter Tryz.func85, Tryz.ntmps85
  go_wp2_with fail
  go_ret
  exact ⟨ret_int (by rw [HR.out, if_pos (by omega)]), HB.out⟩
theorem before_any (a b : Lk) (w : World) : Calls Tryz.prog 87 #[.agg #[.int .i64 a.dev, .int .i64 a.pos, .int .i64 a.key], .agg #[.int .i64 b.dev, .int .i64 b.pos, .int .i64 b.key]] w fun e w' => e = .returned (.bool (befB a b)) ∧ Below w.heap.size w w' := by
 obtain ⟨d, p, q⟩ := a
 obtain ⟨d2, p2, q2⟩ := b
 have HB : Hid (Below w.heap.size w ((w.alloc (.cells #[.int .i64 d, .int .i64 p, .int .i64 q] 59)).alloc (.cells #[.int .i64 d2, .int .i64 p2, .int .i64 q2] 59))) := ((Below.refl _ _).alloc (Nat.le_refl _) _).alloc (by simp) _
 by_cases h1 : d < d2
 ·have e1 : decide (d < d2) = true := by simpa using h1
  have HR : Hid (befB ⟨d, p, q⟩ ⟨d2, p2, q2⟩ = true) := (bef_iff _ _).2 (.inl h1)
  go_enter Tryz.func87, Tryz.ntmps87
  go_wp2_with fail
  go_ret
  exact ⟨ret_bool HR.out.symm, HB.out⟩
 have e1 : decide (d < d2) = false := by simpa using h1
 by_cases h2 : d = d2
 ·subst h2
  have HR : Hid (befB ⟨d, p, q⟩ ⟨d, p2, q2⟩ = decide (q < q2)) := by unfold Hid befB; simp
  go_enter Tryz.func87, Tryz.ntmps87
  go_wp2_with fail
  go_ret
  exact ⟨ret_bool HR.out.symm, HB.out⟩
 ·have e2 : (d == d2) = false := by simpa using h2
  have HR : Hid (befB ⟨d, p, q⟩ ⟨d2, p2, q2⟩ = false) := by unfold Hid befB; simp; omega
  go_enter Tryz.func87, Tryz.ntmps87
  go_wp2_with fail
  go_ret
  exact ⟨ret_bool HR.out.symm, HB.out⟩
def lckE (ls : List Lk) (d : Int) : Ending := .returned (.tuple #[.int .i64 ((lckL ls d).getD 0), .bool (lckL ls d).isSome])
theorem lck_skip {ls : List Lk} {d : Int} : ∀ {i : Nat}, (∀ x ∈ ls.take i, x.dev ≠ d) → lckL ls d = lckL (ls.drop i) d := by
 intro i
 induction i generalizing ls with
 | zero => intro _; rfl
 | succ i ih =>
  intro h
  cases ls with
  | nil => rfl
  | cons x l =>
   rw [lckL, if_neg (h x (by simp)), List.drop_succ_cons]
   exact ih fun y hy => h y (by simp [hy])
theorem lck_hit {ls : List Lk} {d : Int} {i : Nat} {x : Lk} (h : ∀ x ∈ ls.take i, x.dev ≠ d) (hx : ls[i]? = some x) (hd : x.dev = d) : lckL ls d = some x.pos := by
 rw [lck_skip h]
 have hi := (List.getElem?_eq_some_iff.1 hx).1
 rw [List.drop_eq_getElem_cons hi, lckL]
 have : ls[i] = x := by have := List.getElem?_eq_some_iff.1 hx; exact this.2
 rw [this, if_pos hd]
def LkLoR (w : World) (ls : List Lk) (d : Int) (n gk : Nat) (iv : Value) (wr : World) : Prop := ∃ i : Nat, iv = .int .i64 i ∧ i ≤ n ∧ gk = n - i ∧ Hid (∀ x ∈ ls.take i, x.dev ≠ d) ∧ Hid (Below w.heap.size w wr)
theorem rlocked_any (A : Option Addr) (n c B : Nat) (ls : List Lk) (d : Int) (w : World) (hs : Sl w B 3 A n c (ls.flatMap Lk.cells)) (hB : B ≤ w.heap.size) :
 Calls Tryz.prog 86 #[.slice A n c, .int .i64 d] w fun e w' => e = lckE ls d ∧ Below w.heap.size w w' := by
 have HLN := Lib.hid (hs.len (fun _ => rfl) (by decide)); have HS := Lib.hid hs
 have hle := hs.le
 clear hs
 go_enter Tryz.func86, Tryz.ntmps86
 go_wp2_with fail
 go_loopg [6] n (LkLoR w ls d n)
 case atStart => exact ⟨0, rfl, Nat.zero_le _, rfl, (fun x hx => by simp at hx), Below.refl _ _⟩
 case round =>
  obtain ⟨i, rfl, hi, rfl, hno, hbl⟩ := hrel
  by_cases hlt : i < n
  ·obtain ⟨b, off, d1, p1, q1, rfl, hb, hx, c0, c1, c2⟩ := (HS.out.below hbl.out hB).lock hlt
   have HX := Lib.hid hx
   clear hx c2
   by_cases hd : d1 = d
   ·subst hd
    have HR : Hid (lckL ls d1 = some p1) := lck_hit hno.out HX.out rfl
    have qq : (d1 == d1) = true := by simp
    go_wp2_with fail
    go_ret2
    exact ⟨by unfold lckE; rw [HR.out]; rfl, hbl.out⟩
   ·have qq : (d1 == d) = false := by simpa using hd
    have HN : Hid (∀ x ∈ ls.take (i + 1), x.dev ≠ d) := fun x hx => by
     rw [take_snoc HX.out] at hx
     rcases List.mem_append.1 hx with h | h
     ·exact hno.out x h
     ·rw [List.mem_singleton.1 h]; exact hd
    clear hd
    go_wp2_with fail
    go_roundg (n - (i + 1))
    case rel => exact ⟨i + 1, by go_num, by omega, rfl, HN, hbl⟩
    case measure => omega
  ·obtain rfl : i = n := by omega
   have hii : decide (i < i) = false := by simp
   have HR : Hid (lckL ls d = none) := by
    have := hno.out
    rw [List.take_of_length_le (by rw [HLN.out]; exact Nat.le_refl _)] at this
    exact lck_none.2 this
   go_wp2_with fail
   go_ret2
   exact ⟨by unfold lckE; rw [HR.out]; rfl, hbl.out⟩
end Go.Proofs.YtfaknfmndafllaaGreatDoor
namespace Go.Proofs.YtfaknfmndafllaaGreatDoor
open Go.RowKit
section
variable {w : World} {B size n c k : Nat} {A : Option Addr} {α : Type} {f : α → List Value} {l : List α}
theorem Sl.takeK (h : Sl w B size A n c (l.flatMap f)) (hf : ∀ x, (f x).length = size) (hs : 0 < size) (hk : k ≤ n) : Sl w B size A k c ((l.take k).flatMap f) := by
 have hl := h.len hf hs
 obtain ⟨h1, h2, h3, h4, h5⟩ := h
 refine ⟨by rw [flat_len hf, List.length_take, Nat.min_eq_left (by omega)], by omega, h3, h4, fun hp => ?_⟩
 obtain ⟨b, off, e, hb, hc⟩ := h5 (by omega)
 refine ⟨b, off, e, hb, fun j u hu => hc j u ?_⟩
 rw [← List.take_append_drop k l, List.flatMap_append, List.getElem?_append_left (List.getElem?_eq_some_iff.1 hu).1]
 exact hu
def cutK (A : Option Addr) (c k size : Nat) : Option Addr := if c = k then A else A.map (·.add (k * size))
theorem Sl.dropK (h : Sl w B size A n c (l.flatMap f)) (hf : ∀ x, (f x).length = size) (hs : 0 < size) (hk : k ≤ n) : Sl w B size (cutK A c k size) (n - k) (c - k) ((l.drop k).flatMap f) := by
 have hl := h.len hf hs
 obtain ⟨h1, h2, h3, h4, h5⟩ := h
 refine ⟨by rw [flat_len hf, List.length_drop, hl], by omega, by omega, fun e => ?_, fun hp => ?_⟩
 ·unfold cutK at e
  split at e
  ·omega
  ·cases A with
   | none => have := h4 rfl; omega
   | some a => cases e
 ·obtain ⟨b, off, e, hb, hc⟩ := h5 (by omega)
  subst e
  refine ⟨b, off + k * size, by unfold cutK; rw [if_neg (by omega), Option.map_some, add_plain], hb, fun j u hu => ?_⟩
  have := hc (k * size + j) u (by
   rw [← List.take_append_drop k l, List.flatMap_append, List.getElem?_append_right (by rw [flat_len hf, List.length_take, Nat.min_eq_left (by omega)]; omega), flat_len hf, List.length_take, Nat.min_eq_left (by omega), show k * size + j - k * size = j by omega]
   exact hu)
  rw [Nat.add_assoc]; exact this
end
theorem run_from_lk (w : World) (A : Option Addr) (n c k : Nat) (hk : k ≤ n) : (Instr.sliceAt 38 (.slice A n c) (some (.int .i64 (k : Int))) none none).run Tryz.prog w = .ok (.slice (cutK A c k 3) (n - k) (c - k)) w := by
 rw [run_sliceAt_slice _ _ _ _ _ _ (by kernel_rfl), run_slice_l _ _ _ _ _ (by kernel_rfl) _ _ (by omega) (by omega)]
 have : (sizeOf (Tryz.prog.elem 38)).run Tryz.prog w = .ok 3 w := by kernel_rfl
 rw [this]
 simp [sliced, cutK, Result.andThen]
end Go.Proofs.YtfaknfmndafllaaGreatDoor
namespace Go.Proofs.YtfaknfmndafllaaGreatDoor
open Go.RowKit
def PredL (g : Nat) (lb : Array Value) (p : Lk → Bool) (w : World) : Prop :=
 ∀ (W : World) (d q r : Int), Below w.heap.size w W → Calls Tryz.prog g (#[.agg #[.int .i64 d, .int .i64 q, .int .i64 r]] ++ lb) W fun e w' => e = .returned (.bool (p ⟨d, q, r⟩)) ∧ Below w.heap.size w w'
def IfR (w : World) (ls : List Lk) (p : Lk → Bool) (n gk : Nat) (_kv iv : Value) (wr : World) : Prop := ∃ i : Nat, iv = .int .i64 i ∧ i ≤ n ∧ gk = n - i ∧ Hid (∀ x ∈ ls.take i, p x = false) ∧ Hid (Below w.heap.size w wr)
theorem idxf_any (g : Nat) (lb : Array Value) (p : Lk → Bool) (eg : ∀ args w, (callFunc g args).run Tryz.prog w = .ok (.enter g args) w) (A : Option Addr) (n c B : Nat) (ls : List Lk) (w : World) (hs : Sl w B 3 A n c (ls.flatMap Lk.cells)) (hB : B ≤ w.heap.size) (hp : PredL g lb p w) :
 Calls Tryz.prog 153 #[.slice A n c, .func (.func g) #[] lb] w fun e w' => (∃ i : Int, e = .returned (.int .i64 i) ∧ Hid (decide (0 ≤ i) = ls.any p)) ∧ Below w.heap.size w w' := by
 have HLN := Lib.hid (hs.len (fun _ => rfl) (by decide)); have HS := Lib.hid hs
 have hle := hs.le
 have HP := Lib.hid hp
 clear hs hp
 go_enter Tryz.func153, Tryz.ntmps153
 go_wp2_with fail
 go_loopg [5, 8] n (IfR w ls p n)
 case atStart => exact ⟨0, rfl, Nat.zero_le _, rfl, (fun x hx => by simp at hx), Below.refl _ _⟩
 case round =>
  obtain ⟨i, rfl, hi, rfl, hno, hbl⟩ := hrel
  by_cases hlt : i < n
  ·obtain ⟨b, off, d1, p1, q1, rfl, hb, hx, c0, c1, c2⟩ := (HS.out.below hbl.out hB).lock hlt
   have HX := Lib.hid hx
   have hcall := HP.out wr d1 p1 q1 hbl.out
   clear hx
   rcases hq : p ⟨d1, p1, q1⟩ with _ | _
   ·rw [hq] at hcall
    have HN : Hid (∀ x ∈ ls.take (i + 1), p x = false) := fun x hx => by
     rw [take_snoc HX.out] at hx
     rcases List.mem_append.1 hx with h | h
     ·exact hno.out x h
     ·rw [List.mem_singleton.1 h]; exact hq
    clear hq
    go_wp2_with (go_at_fn g; refine hcall.mono ?_; rintro e w' ⟨rfl, hb'⟩)
    go_roundg (n - (i + 1))
    case rel => exact ⟨i + 1, by go_num, by omega, rfl, HN, hb'⟩
    case measure => omega
   ·rw [hq] at hcall
    have HR : Hid (decide (0 ≤ (i : Int)) = ls.any p) := by
     unfold Hid
     rw [decide_eq_true (by omega)]
     symm
     rw [List.any_eq_true]
     exact ⟨_, List.mem_of_getElem? HX.out, hq⟩
    clear hq
    go_wp2_with (go_at_fn g; refine hcall.mono ?_; rintro e w' ⟨rfl, hb'⟩)
    go_ret
    exact ⟨⟨_, rfl, HR⟩, hb'⟩
  ·obtain rfl : i = n := by omega
   have hii : decide (i < i) = false := by simp
   have HR : Hid (decide (0 ≤ (-1 : Int)) = ls.any p) := by
    have := hno.out
    rw [List.take_of_length_le (by rw [HLN.out]; exact Nat.le_refl _)] at this
    unfold Hid
    rw [decide_eq_false (by omega)]
    symm
    rw [List.any_eq_false]
    intro x hx
    rw [this x hx]; simp
   go_wp2_with fail
   go_ret
   exact ⟨⟨_, rfl, HR⟩, hbl.out⟩
theorem contf_any (g : Nat) (lb : Array Value) (p : Lk → Bool) (eg : ∀ args w, (callFunc g args).run Tryz.prog w = .ok (.enter g args) w) (A : Option Addr) (n c B : Nat) (ls : List Lk) (w : World) (hs : Sl w B 3 A n c (ls.flatMap Lk.cells)) (hB : B ≤ w.heap.size) (hp : PredL g lb p w) :
 Calls Tryz.prog 114 #[.slice A n c, .func (.func g) #[] lb] w fun e w' => e = .returned (.bool (ls.any p)) ∧ Below w.heap.size w w' := by
 have HI := Lib.hid (idxf_any g lb p eg A n c B ls w hs hB hp)
 clear hs hp
 go_enter Tryz.func114, Tryz.ntmps114
 go_wp2_with fail
 refine HI.out.mono ?_
 rintro e w1 ⟨⟨i, rfl, hi⟩, hb⟩
 go_wp2_with fail
 go_ret
 exact ⟨ret_bool hi.out, hb⟩
end Go.Proofs.YtfaknfmndafllaaGreatDoor
namespace Go.Proofs.YtfaknfmndafllaaGreatDoor
open Go.RowKit
end Go.Proofs.YtfaknfmndafllaaGreatDoor
