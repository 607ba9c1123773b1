import Derived.Test.YtfaknfmndafllaaGreatDoorW17
import Derived.Test.YtfaknfmndafllaaGreatDoorW00
import Derived.Test.YtfaknfmndafllaaGreatDoorW04
import Derived.Deep.LoopGhost
import Derived.Test.YtfaknfmndafllaaGreatDoorW16
import Derived.Test.YtfaknfmndafllaaGreatDoorW11
import Derived.Test.YtfaknfmndafllaaGreatDoorW09
import Derived.Test.YtfaknfmndafllaaGreatDoorW13
import Derived.Shelf.Abstract
set_option maxRecDepth 100000
set_option maxHeartbeats 4000000
namespace Go.Proofs.YtfaknfmndafllaaGreatDoor
open Go.RowKit
def SlX (w : World) (g size : Nat) (A : Option Addr) (n c : Nat) (xs : List Value) : Prop := Sl w w.heap.size size A n c xs ∧ ∀ b off, A = some ⟨b, off, none⟩ → b ≠ g
section
variable {w w' : World} {g size n c base : Nat} {A : Option Addr} {xs : List Value}
theorem SlX.grown (h : SlX w g size A n c xs) (hg : w.grownBy w' (some g)) : SlX w' g size A n c xs := by
 obtain ⟨⟨h1, h2, h3, h4, h5⟩, h6⟩ := h
 refine ⟨⟨h1, h2, h3, h4, fun hn => ?_⟩, h6⟩
 obtain ⟨b, off, e, hb, hc⟩ := h5 hn
 refine ⟨b, off, e, Nat.lt_of_lt_of_le hb hg.size, fun j u hu => ?_⟩
 exact (World.cell?_of_block (hg.block b hb (fun e' => h6 b off e (by injection e')))).trans (hc j u hu)
theorem SlX.below (h : SlX w g size A n c xs) (hb : Below w.heap.size w w') : SlX w' g size A n c xs := ⟨(h.1.below hb (Nat.le_refl _)).more hb.size, h.2⟩
theorem SlX.alloc (h : SlX w g size A n c xs) (o : Obj) : SlX (w.alloc o) g size A n c xs := h.below ((Below.refl _ _).alloc (Nat.le_refl _) _)
theorem SlX.of_own {e : TypeId} (h : w.ownsRow base e size (.slice A n c) n xs) (hb : g < base) : SlX w g size A n c xs :=
 ⟨Sl.of_own h, fun b off e => by have := (h.lt b (by rw [e]; rfl)).1; omega⟩
end
end Go.Proofs.YtfaknfmndafllaaGreatDoor
namespace Go.Proofs.YtfaknfmndafllaaGreatDoor
open Go.RowKit
def SpIn (ns : List Nd) (C : List Int) (v : Nat) (out : List Int) : Prop := (out.length ≤ v ∧ out.Pairwise (· < ·)) ∧ ∀ x : Int, x ∈ out ↔ ∃ (k : Nat) (y : Nd), k < v ∧ x = k ∧ C.getD k 0 = 1 ∧ ns[k]? = some y ∧ 0 < y.cust
theorem SpIn.start (ns : List Nd) (C : List Int) : SpIn ns C 0 [] := ⟨⟨Nat.le_refl _, List.Pairwise.nil⟩, fun x => ⟨(fun h => by cases h), (fun ⟨k, _, hk, _⟩ => by omega)⟩⟩
theorem SpIn.pass {ns : List Nd} {C out : List Int} {v : Nat} {y : Nd} (h : SpIn ns C v out) (hy : ns[v]? = some y) (hn : ¬ (C.getD v 0 = 1 ∧ 0 < y.cust)) : SpIn ns C (v + 1) out := by
 refine ⟨⟨by have := h.1.1; omega, h.1.2⟩, fun x => (h.2 x).trans ⟨?_, ?_⟩⟩
 ·rintro ⟨k, z, hk, r⟩; exact ⟨k, z, by omega, r⟩
 ·rintro ⟨k, z, hk, e, hc, hz, hu⟩
  rcases Nat.lt_succ_iff_lt_or_eq.1 hk with hk | rfl
  ·exact ⟨k, z, hk, e, hc, hz, hu⟩
  ·rw [hy] at hz; injection hz with hz; subst hz; exact absurd ⟨hc, hu⟩ hn
theorem SpIn.put {ns : List Nd} {C out : List Int} {v : Nat} {y : Nd} (h : SpIn ns C v out) (hy : ns[v]? = some y) (hc : C.getD v 0 = 1) (hu : 0 < y.cust) : SpIn ns C (v + 1) (out ++ [(v : Int)]) := by
 refine ⟨⟨by have := h.1.1; simp; omega, List.pairwise_append.2 ⟨h.1.2, by simp, fun a ha b hb => ?_⟩⟩, fun x => ?_⟩
 ·obtain ⟨k, _, hk, rfl, _⟩ := (h.2 a).1 ha
  rw [List.mem_singleton.1 hb]; omega
 rw [List.mem_append, h.2 x, List.mem_singleton]
 constructor
 ·rintro (⟨k, z, hk, r⟩ | rfl)
  ·exact ⟨k, z, by omega, r⟩
  ·exact ⟨v, y, by omega, rfl, hc, hy, hu⟩
 ·rintro ⟨k, z, hk, e, r⟩
  rcases Nat.lt_succ_iff_lt_or_eq.1 hk with hk | rfl
  ·exact .inl ⟨k, z, hk, e, r⟩
  ·exact .inr e
def SpR (w2 : World) (ns : List Nd) (C : List Int) (nn gk : Nat) (ov iv : Value) (wr : World) : Prop := ∃ (v m co : Nat) (Ao : Option Addr) (out : List Int), iv = .int .i64 v ∧ ov = .slice Ao m co ∧ v ≤ nn ∧ gk = nn - v ∧ Hid (IntsO wr w2.heap.size Ao m co out) ∧ Hid (Below w2.heap.size w2 wr) ∧ Hid (SpIn ns C v out)
def SupL (ns : List Nd) (ds : List Dv) (s out : List Int) : Prop := (out.length ≤ ns.length ∧ out.Pairwise (· < ·)) ∧ ∀ x : Int, x ∈ out ↔ ∃ (k : Nat) (y : Nd), x = k ∧ ns[k]? = some y ∧ 0 < y.cust ∧ Sup ds s k
theorem rsupp_any (An Ad As : Option Addr) (nn cn nd cd n c : Nat) (ns : List Nd) (ds : List Dv) (s : List Int) (w : World) (hn : Sl w w.heap.size 3 An nn cn (ns.flatMap Nd.cells)) (hd : Sl w w.heap.size 5 Ad nd cd (ds.flatMap Dv.cells)) (hs : Sl w w.heap.size 1 As n c (intsV s))
 (hsn : ∀ x ∈ ns, x.name.size ≤ 9223372036854775807) (hsd : ∀ x ∈ ds, x.name.size ≤ 9223372036854775807) (hnn : nn ≤ 10000) (hse : stateErr ns ds s = 0) (hends : nd ≤ n ∧ EndsOk nn ds ∧ ∀ x ∈ ds, joinsB x.kind = true → x.b ≠ x.a) (hA : AOk nn ds ∧ ∀ x ∈ ds, 1 ≤ x.kind ∧ x.kind ≤ 6) :
 Calls Tryz.prog 60 #[.agg #[.slice An nn cn, .slice Ad nd cd], .slice As n c] w fun e w' => ∃ Ao m co out, e = .returned (.tuple #[.slice Ao m co, .int .i64 0]) ∧ Hid (IntsO w' w.heap.size Ao m co out) ∧ Hid (SupL ns ds s out) ∧ Hid (Below w.heap.size w w') := by
 have HLN := Lib.hid (hn.len (fun _ => rfl) (by decide))
 have HCK := Lib.hid (rcols_any An Ad As nn cn nd cd n c w.heap.size w.heap.size w.heap.size ns ds s (w.alloc (.cells #[.slice An nn cn, .slice Ad nd cd] 30)) (hn.alloc (Nat.le_refl _) _) (hd.alloc (Nat.le_refl _) _) (hs.alloc (Nat.le_refl _) _) (by simp) (by simp) (by simp) hsn hsd hnn (fun _ => hends) (fun _ => hA))
 rw [hse] at HCK
 have HN := Lib.hid hn
 have hnle := hn.le
 clear hn hd hs hsn hsd hse hends hA
 go_enter Tryz.func60, Tryz.ntmps60
 go_upto_region 1 with (fail)
 have HB := Lib.hid (Blk.new w 30 #[.slice An nn cn, .slice Ad nd cd])
 have HW : Hid (Below w.heap.size w (w.alloc (.cells #[.slice An nn cn, .slice Ad nd cd] 30))) := (Below.refl _ _).alloc (Nat.le_refl _) _
 generalize World.alloc _ _ = w1 at *
 obtain ⟨nb, hnb⟩ : ∃ nb, nb = w.heap.size := ⟨_, rfl⟩
 rw [← hnb] at HB ⊢
 clear hnb
 have k0 := HB.out.c0
 have k1 := HB.out.c1
 go_wp2_with fail
 clear k0 k1
 refine HCK.out.mono ?_
 rintro e w2 ⟨hb2, h | ⟨_, Ac, C, rfl, hOc, hIC⟩⟩
 ·exact absurd rfl h.1
 have HBX := Lib.hid (HB.out.below hb2.out HB.out.lt)
 have HBW := Lib.hid (HW.out.trans (hb2.out.mono HW.out.size))
 have HSC := Lib.hid hOc.out.sl
 have HSN := Lib.hid (HN.out.below HBW.out (Nat.le_refl _))
 clear hOc HCK HB HW hb2 HN
 go_wp2_with fail
 go_loopg [8, 9] nn (SpR w2 ns C nn)
 case atStart => exact ⟨0, 0, 0, none, [], rfl, rfl, Nat.zero_le _, rfl, World.ownsRow_nil _ _ _ _, Below.refl _ _, SpIn.start _ _⟩
 case round =>
  obtain ⟨v, m, co, Ao, out, rfl, rfl, hv, rfl, hO, hbl, hsp⟩ := hrel
  by_cases hlt : v < nn
  ·obtain ⟨b, off, cv, rfl, hb, hcv, hc⟩ := (HSC.out.below hbl.out (Nat.le_refl _)).at1 hlt
   obtain ⟨b1, of1, z, rfl, hb1, hz, hcz⟩ := (HSN.out.below hbl.out HBW.out.size).at (fun _ => rfl) (by decide) hlt
   have HZ := Lib.hid hz
   have HCV := Lib.hid (getD_of hcv)
   obtain ⟨nm2, cu, co2⟩ := z
   have c1 : wr.cell? ⟨b1, of1 + v * 3 + 1, none⟩ = some (.int .i64 cu) := hcz 1 _ rfl
   have k0 := (HBX.out.below hbl.out HBX.out.lt).c0
   clear hcz hz hcv
   by_cases h1 : cv = 1; rotate_left
   ·have q : (cv == 1) = false := by simpa using h1
    have HS1 := Lib.hid (hsp.out.pass HZ.out (fun h => h1 (by have := h.1; rw [HCV.out] at this; exact this)))
    clear h1
    go_wp2_with fail
    go_roundg (nn - (v + 1))
    case rel => exact ⟨v + 1, m, co, Ao, out, by go_num, rfl, by omega, rfl, hO, hbl, HS1⟩
    case measure => omega
   ·have q : (cv == 1) = true := by simpa using h1
    by_cases hcu : 0 < cu; rotate_left
    ·have qc : decide (0 < cu) = false := by simpa using hcu
     have HS1 := Lib.hid (hsp.out.pass HZ.out (fun h => hcu h.2))
     clear h1 hcu
     go_wp2_with fail
     go_roundg (nn - (v + 1))
     case rel => exact ⟨v + 1, m, co, Ao, out, by go_num, rfl, by omega, rfl, hO, hbl, HS1⟩
     case measure => omega
    ·have qc : decide (0 < cu) = true := by simpa using hcu
     have HS1 := Lib.hid (hsp.out.put HZ.out (by rw [HCV.out]; exact h1) hcu)
     have hml : m ≤ nn := by have := hsp.out.1.1; rw [hO.out.len] at this; omega
     have hzz := hbl.out.size
     clear h1 hcu
     go_wp2_with (at_builtin; go_must (refine wpList_app rfl (.tmp 36) (.tmp 38) rfl el_int (by rfl) (hO.out.alloc _) (by rfl) (Sl.newest (n := 1) (by simp) (by rfl) (by decide)) (by simp [Value.oneCell']) (by omega) (by omega) (by simp; omega) ?_; intro A' cap' w3 hown3 hgr3 hat3; have HO3 := Lib.hid hown3; have HG3 := Lib.hid hgr3; clear hown3 hgr3 hat3))
     go_roundg (nn - (v + 1))
     case rel =>
      refine ⟨v + 1, m + 1, cap', A', out ++ [(v : Int)], by go_num, rfl, by omega, rfl, ?_, ?_, HS1⟩
      ·have := HO3.out
       unfold Hid IntsO
       rw [intsV_append]
       exact this
      ·refine (hbl.out.alloc hbl.out.size _).trans ⟨HG3.out.os, HG3.out.tape, HG3.out.output, HG3.out.size, fun i hi => HG3.out.block i (by simp; omega) (fun e => ?_)⟩
       have := (hO.out.lt i e.symm).1
       omega
     case measure => omega
  ·obtain rfl : v = nn := by omega
   have hii : decide (v < v) = false := by simp
   go_wp2_with fail
   go_ret2
   refine ⟨Ao, m, co, out, rfl, hO.out.mono HBW.out.size, ⟨by rw [HLN.out]; exact hsp.out.1, fun x => (hsp.out.2 x).trans ?_⟩, HBW.out.trans (hbl.out.mono HBW.out.size)⟩
   have col : ∀ k : Nat, k < v → (C.getD k 0 = 1 ↔ Sup ds s k) := fun k hk => by rw [getD_of (hIC.out.2 k hk)]; exact sup_col
   constructor
   ·rintro ⟨k, y, hk, e, hc, hy, hu⟩; exact ⟨k, y, e, hy, hu, (col k hk).1 hc⟩
   ·rintro ⟨k, y, e, hy, hu, hc⟩
    have hk : k < v := by have := (List.getElem?_eq_some_iff.1 hy).1; rw [HLN.out] at this; exact this
    exact ⟨k, y, hk, e, (col k hk).2 hc, hy, hu⟩
end Go.Proofs.YtfaknfmndafllaaGreatDoor
namespace Go.Proofs.YtfaknfmndafllaaGreatDoor
open Go.RowKit
theorem psupp_any (An Ad As : Option Addr) (nn cn nd cd n c Bn Bd Bs : Nat) (ns : List Nd) (ds : List Dv) (s : List Int) (w : World) (hn : Sl w Bn 3 An nn cn (ns.flatMap Nd.cells)) (hBn : Bn ≤ w.heap.size) (hd : Sl w Bd 5 Ad nd cd (ds.flatMap Dv.cells)) (hBd : Bd ≤ w.heap.size) (hs : Sl w Bs 1 As n c (intsV s)) (hBs : Bs ≤ w.heap.size)
 (hnn : nn ≤ 10000) (hnd : nd ≤ 10000) (hl : nd ≤ n) (hends : EndsOk nn ds) (hA : AOk nn ds) :
 Calls Tryz.prog 138 #[.agg #[.slice An nn cn, .slice Ad nd cd], .slice As n c] w fun e w' => ∃ Ao m co out, e = .returned (.slice Ao m co) ∧ Hid (IntsO w' w.heap.size Ao m co out) ∧ Hid (SupL ns ds s out) ∧ Hid (Below w.heap.size w w') := by
 have HLN := Lib.hid (hn.len (fun _ => rfl) (by decide))
 have HCK := Lib.hid (both_any An Ad As nn cn nd cd n c Bd Bs ds s (w.alloc (.cells #[.slice An nn cn, .slice Ad nd cd] 30)) (hd.alloc hBd _) (by simp; omega) (hs.alloc hBs _) (by simp; omega) hnn hnd hl hends hA)
 have HN := Lib.hid hn
 have hnle := hn.le
 clear hn hd hs hends hA
 go_enter Tryz.func138, Tryz.ntmps138
 go_upto_region 1 with (fail)
 have HB := Lib.hid (Blk.new w 30 #[.slice An nn cn, .slice Ad nd cd])
 have HW : Hid (Below w.heap.size w (w.alloc (.cells #[.slice An nn cn, .slice Ad nd cd] 30))) := (Below.refl _ _).alloc (Nat.le_refl _) _
 generalize World.alloc _ _ = w1 at *
 obtain ⟨nb, hnb⟩ : ∃ nb, nb = w.heap.size := ⟨_, rfl⟩
 rw [← hnb] at HB ⊢
 have HNB := Lib.hid hnb
 clear hnb
 have k0 := HB.out.c0
 have k1 := HB.out.c1
 go_wp2_with fail
 clear k0 k1
 refine HCK.out.mono ?_
 rintro e w2 ⟨A1, A2, P, C, rfl, _, hOc, _, hIC, hb2⟩
 have HBX := Lib.hid (HB.out.below hb2.out HB.out.lt)
 have HBW := Lib.hid (HW.out.trans (hb2.out.mono HW.out.size))
 have HSC := Lib.hid hOc.out.sl
 have HSN := Lib.hid (HN.out.below HBW.out hBn)
 clear hOc HCK HB HW hb2 HN
 have k0 := HBX.out.c0
 go_wp2_with fail
 clear k0
 go_loopg [7, 19] nn (SpR w2 ns C nn)
 case atStart => exact ⟨0, 0, 0, none, [], rfl, rfl, Nat.zero_le _, rfl, World.ownsRow_nil _ _ _ _, Below.refl _ _, SpIn.start _ _⟩
 case round =>
  obtain ⟨v, m, co, Ao, out, rfl, rfl, hv, rfl, hO, hbl, hsp⟩ := hrel
  by_cases hlt : v < nn
  ·obtain ⟨b, off, cv, rfl, hb, hcv, hc⟩ := (HSC.out.below hbl.out (Nat.le_refl _)).at1 hlt
   obtain ⟨b1, of1, z, rfl, hb1, hz, hcz⟩ := (HSN.out.below hbl.out (Nat.le_trans hBn HBW.out.size)).at (fun _ => rfl) (by decide) hlt
   have HZ := Lib.hid hz
   have HCV := Lib.hid (getD_of hcv)
   obtain ⟨nm2, cu, co2⟩ := z
   have c0 : wr.cell? ⟨b1, of1 + v * 3, none⟩ = some (.string nm2) := hcz 0 _ rfl
   have c1 : wr.cell? ⟨b1, of1 + v * 3 + 1, none⟩ = some (.int .i64 cu) := hcz 1 _ rfl
   have c2 : wr.cell? ⟨b1, of1 + v * 3 + 2, none⟩ = some (.int .i64 co2) := hcz 2 _ rfl
   have hbz : b < wr.heap.size := by have := hbl.out.size; omega
   have hne : b ≠ wr.heap.size := by omega
   have HBA : Hid (Below w2.heap.size w2 (wr.alloc (.cells #[.string nm2, .int .i64 cu, .int .i64 co2] 80))) := hbl.out.alloc hbl.out.size _
   have HOA : Hid (IntsO (wr.alloc (.cells #[.string nm2, .int .i64 cu, .int .i64 co2] 80)) w2.heap.size Ao m co out) := hO.out.alloc _
   clear hcz hz hcv
   by_cases hcu : 0 < cu; rotate_left
   ·have qc : decide (0 < cu) = false := by simpa using hcu
    have HS1 := Lib.hid (hsp.out.pass HZ.out (fun h => hcu h.2))
    clear hcu
    go_wp2_with fail
    go_roundg (nn - (v + 1))
    case rel => exact ⟨v + 1, m, co, Ao, out, by go_num, rfl, by omega, rfl, HOA, HBA, HS1⟩
    case measure => omega
   ·have qc : decide (0 < cu) = true := by simpa using hcu
    by_cases h1 : cv = 1; rotate_left
    ·have q : (cv == 1) = false := by simpa using h1
     have HS1 := Lib.hid (hsp.out.pass HZ.out (fun h => h1 (by have := h.1; rw [HCV.out] at this; exact this)))
     clear h1 hcu
     go_wp2_with fail
     go_roundg (nn - (v + 1))
     case rel => exact ⟨v + 1, m, co, Ao, out, by go_num, rfl, by omega, rfl, HOA, HBA, HS1⟩
     case measure => omega
    ·have q : (cv == 1) = true := by simpa using h1
     have HS1 := Lib.hid (hsp.out.put HZ.out (by rw [HCV.out]; exact h1) hcu)
     have hml : m ≤ nn := by have := hsp.out.1.1; rw [hO.out.len] at this; omega
     have hzz := HBA.out.size
     clear h1 hcu
     go_upto_region 7 with (fail)
     generalize World.alloc wr _ = wq at *
     clear c0 c1 c2 hc
     go_wp2_with (at_builtin; go_must (refine wpList_app rfl (.tmp 34) (.tmp 36) rfl el_int (by rfl) (HOA.out.alloc _) (by rfl) (Sl.newest (n := 1) (by simp) (by rfl) (by decide)) (by simp [Value.oneCell']) (by omega) (by omega) (by simp; omega) ?_; intro A' cap' w3 hown3 hgr3 hat3; have HO3 := Lib.hid hown3; have HG3 := Lib.hid hgr3; clear hown3 hgr3 hat3))
     go_roundg (nn - (v + 1))
     case rel =>
      refine ⟨v + 1, m + 1, cap', A', out ++ [(v : Int)], by go_num, rfl, by omega, rfl, ?_, ?_, HS1⟩
      ·have := HO3.out
       unfold Hid IntsO
       rw [intsV_append]
       exact this
      ·refine (HBA.out.alloc HBA.out.size _).trans ⟨HG3.out.os, HG3.out.tape, HG3.out.output, HG3.out.size, fun i hi => HG3.out.block i (by simp; omega) (fun e => ?_)⟩
       have := (HOA.out.lt i e.symm).1
       omega
     case measure => omega
  ·obtain rfl : v = nn := by omega
   have hii : decide (v < v) = false := by simp
   go_wp2_with fail
   go_ret
   refine ⟨Ao, m, co, out, rfl, hO.out.mono HBW.out.size, ⟨by rw [HLN.out]; exact hsp.out.1, fun x => (hsp.out.2 x).trans ?_⟩, HBW.out.trans (hbl.out.mono HBW.out.size)⟩
   have col : ∀ k : Nat, k < v → (C.getD k 0 = 1 ↔ Sup ds s k) := fun k hk => by rw [getD_of (hIC.out.2 k hk)]; exact sup_col
   constructor
   ·rintro ⟨k, y, hk, e, hc, hy, hu⟩; exact ⟨k, y, e, hy, hu, (col k hk).1 hc⟩
   ·rintro ⟨k, y, e, hy, hu, hc⟩
    have hk : k < v := by have := (List.getElem?_eq_some_iff.1 hy).1; rw [HLN.out] at this; exact this
    exact ⟨k, y, hk, e, (col k hk).2 hc, hy, hu⟩
theorem Supplied_ok (An Ad As : Option Addr) (nn cn nd cd n c Bn Bd Bs : Nat) (ns : List Nd) (ds : List Dv) (s : List Int) (w : World) (hL : Laid w) (hn : Sl w Bn 3 An nn cn (ns.flatMap Nd.cells)) (hBn : Bn ≤ w.heap.size) (hd : Sl w Bd 5 Ad nd cd (ds.flatMap Dv.cells)) (hBd : Bd ≤ w.heap.size) (hs : Sl w Bs 1 As n c (intsV s)) (hBs : Bs ≤ w.heap.size)
 (hsn : ∀ x ∈ ns, x.name.size ≤ 9223372036854775807) (hsd : ∀ x ∈ ds, x.name.size ≤ 9223372036854775807) (h0 : stateErr ns ds s = 0) (hnn : nn ≤ 10000) (hnd : nd ≤ 10000) (hl : nd ≤ n) (hends : EndsOk nn ds) (hA : AOk nn ds) :
 Calls Tryz.prog 99 #[.agg #[.slice An nn cn, .slice Ad nd cd], .slice As n c] w fun e w' => ∃ Ao m co out, e = .returned (.tuple #[.slice Ao m co, .int .i64 0]) ∧ Hid (IntsO w' w.heap.size Ao m co out) ∧ Hid (SupL ns ds s out) ∧ Hid (Below w.heap.size w w') := by
 have HB : Hid (Below w.heap.size w (w.alloc (.cells #[.slice An nn cn, .slice Ad nd cd] 30))) := (Below.refl _ _).alloc (Nat.le_refl _) _
 have HK := Lib.hid (Blk.new w 30 #[.slice An nn cn, .slice Ad nd cd])
 have HL := Lib.hid hL; have HN := Lib.hid hn; have HD := Lib.hid hd; have HS := Lib.hid hs; have HSN := Lib.hid hsn; have HSD := Lib.hid hsd; have H0 := Lib.hid h0; have HE := Lib.hid hends; have HA := Lib.hid hA
 clear hL hn hd hs hsn hsd h0 hends hA
 go_enter Tryz.func99, Tryz.ntmps99
 go_wp2_with fail
 generalize World.alloc _ _ = W at *
 have hz := HB.out.size
 have HC := Lib.hid (mstate_any An Ad As nn cn nd cd n c Bn Bd Bs ns ds s W (HL.out.below HB.out (Nat.le_refl _)) (HN.out.below HB.out hBn) (HD.out.below HB.out hBd) (HS.out.below HB.out hBs) (by omega) (by omega) (by omega) HSN.out HSD.out)
 rw [H0.out] at HC
 refine HC.out.mono ?_
 rintro e w1 ⟨rfl, hb1⟩
 have HB1 := Lib.hid (HB.out.trans (hb1.mono hz))
 have HK1 := Lib.hid (HK.out.below hb1 HK.out.lt)
 have hz1 := HB1.out.size
 clear hb1 HC HB HK hz
 have k0 := HK1.out.c0
 have k1 := HK1.out.c1
 go_wp2_with fail
 clear k0 k1
 refine (psupp_any An Ad As nn cn nd cd n c Bn Bd Bs ns ds s w1 (HN.out.below HB1.out hBn) (by omega) (HD.out.below HB1.out hBd) (by omega) (HS.out.below HB1.out hBs) (by omega) hnn hnd hl HE.out HA.out).mono ?_
 rintro e w2 ⟨Ao, m, co, out, rfl, hO, hSL, hb2⟩
 go_wp2_with fail
 go_ret2
 exact ⟨Ao, m, co, out, rfl, hO.out.mono hz1, hSL, HB1.out.trans (hb2.out.mono hz1)⟩
def CuR (W : World) (ns : List Nd) (l : List Int) (m gk : Nat) (sv iv : Value) (wr : World) : Prop := ∃ (i : Nat) (k : Int), iv = .int .i64 i ∧ sv = .int .i64 k ∧ i ≤ m ∧ gk = m - i ∧ Hid (Below W.heap.size W wr) ∧ Hid (k = csum ns (l.take i))
theorem custs_any (An Ad A : Option Addr) (nn cn nd cd m c Bn B : Nat) (ns : List Nd) (l : List Int) (w : World) (hn : Sl w Bn 3 An nn cn (ns.flatMap Nd.cells)) (hBn : Bn ≤ w.heap.size) (hs : Sl w B 1 A m c (intsV l)) (hB : B ≤ w.heap.size) (hl : ∀ v ∈ l, 0 ≤ v ∧ v < nn) :
 Calls Tryz.prog 102 #[.agg #[.slice An nn cn, .slice Ad nd cd], .slice A m c] w fun e w' => e = .returned (.int .i64 (csum ns l)) ∧ Hid (Below w.heap.size w w') := by
 have HB0 : Hid (Below w.heap.size w (w.alloc (.cells #[.slice An nn cn, .slice Ad nd cd] 30))) := (Below.refl _ _).alloc (Nat.le_refl _) _
 have HK := Lib.hid (Blk.new w 30 #[.slice An nn cn, .slice Ad nd cd])
 have HLL := Lib.hid (hs.len (fun _ => rfl) (by decide))
 have HN := Lib.hid hn; have HS := Lib.hid hs; have HI := Lib.hid hl
 have hnle := hn.le; have hsle := hs.le
 clear hn hs hl
 go_enter Tryz.func102, Tryz.ntmps102
 go_wp2_with fail
 generalize World.alloc _ _ = W at *
 go_loopg [5, 10] m (CuR W ns l m)
 case atStart => exact ⟨0, 0, rfl, rfl, Nat.zero_le _, rfl, Below.refl _ _, rfl⟩
 case round =>
  obtain ⟨i, k, rfl, rfl, hi, rfl, hbl, hks⟩ := hrel
  have HB1 := Lib.hid (HB0.out.trans (hbl.out.mono HB0.out.size))
  by_cases hlt : i < m
  ·obtain ⟨b, off, v, rfl, hb, hv, hc⟩ := (HS.out.below HB1.out hB).at1 hlt
   obtain ⟨hv0, hv1⟩ := HI.out v (List.mem_of_getElem? hv)
   obtain ⟨t, rfl⟩ := Int.eq_ofNat_of_zero_le hv0
   have htn : t < nn := by omega
   obtain ⟨b1, of1, z, rfl, hb1, hz, hcz⟩ := (HN.out.below HB1.out hBn).at (fun _ => rfl) (by decide) htn
   obtain ⟨nm2, cu, co2⟩ := z
   have c1 : wr.cell? ⟨b1, of1 + t * 3 + 1, none⟩ = some (.int .i64 cu) := hcz 1 _ rfl
   have k0 := (HK.out.below hbl.out HK.out.lt).c0
   have HKS : Hid (wrap64 (k + cu) = csum ns (l.take (i + 1))) := by unfold Hid; rw [csum_next hv hz, ← hks.out, IntWalk.i64_left]
   clear hcz hz hv
   go_wp2_with fail
   go_roundg (m - (i + 1))
   case rel => exact ⟨i + 1, _, by go_num, rfl, by omega, rfl, hbl, HKS⟩
   case measure => omega
  ·obtain rfl : i = m := by omega
   have hii : decide (i < i) = false := by simp
   go_wp2_with fail
   go_ret
   exact ⟨by rw [hks.out, List.take_of_length_le (by rw [HLL.out]; exact Nat.le_refl _)]; rfl, HB1⟩
end Go.Proofs.YtfaknfmndafllaaGreatDoor
namespace Go.Proofs.YtfaknfmndafllaaGreatDoor
open Go.RowKit
def LoIn (a b : List Int) (i : Nat) (out : List Int) : Prop := (out.length ≤ i ∧ out.Sublist (a.take i)) ∧ ∀ x : Int, x ∈ out ↔ x ∈ a.take i ∧ x ∉ b
theorem LoIn.start (a b : List Int) : LoIn a b 0 [] := ⟨⟨Nat.le_refl _, List.nil_sublist _⟩, fun x => by simp⟩
theorem LoIn.pass {a b out : List Int} {i : Nat} {x : Int} (h : LoIn a b i out) (hx : a[i]? = some x) (hm : x ∈ b) : LoIn a b (i + 1) out := by
 refine ⟨⟨by have := h.1.1; omega, by rw [take_snoc hx]; exact h.1.2.trans (List.sublist_append_left _ _)⟩, fun y => (h.2 y).trans ?_⟩
 rw [take_snoc hx, List.mem_append, List.mem_singleton]
 exact ⟨fun k => ⟨.inl k.1, k.2⟩, fun k => ⟨k.1.elim id (fun e => by subst e; exact absurd hm k.2), k.2⟩⟩
theorem LoIn.put {a b out : List Int} {i : Nat} {x : Int} (h : LoIn a b i out) (hx : a[i]? = some x) (hm : x ∉ b) : LoIn a b (i + 1) (out ++ [x]) := by
 refine ⟨⟨by have := h.1.1; simp; omega, by rw [take_snoc hx]; exact List.Sublist.append h.1.2 (List.Sublist.refl _)⟩, fun y => ?_⟩
 rw [take_snoc hx, List.mem_append, List.mem_singleton, List.mem_append, List.mem_singleton, h.2 y]
 exact ⟨fun k => k.elim (fun k => ⟨.inl k.1, k.2⟩) (fun e => by subst e; exact ⟨.inr rfl, hm⟩), fun k => k.1.elim (fun k1 => .inl ⟨k1, k.2⟩) .inr⟩
def LostR (w3 : World) (a b : List Int) (na gk : Nat) (ov iv : Value) (wr : World) : Prop := ∃ (i m co : Nat) (Ao : Option Addr) (out : List Int), iv = .int .i64 i ∧ ov = .slice Ao m co ∧ i ≤ na ∧ gk = na - i ∧ Hid (IntsO wr w3.heap.size Ao m co out) ∧ Hid (Below w3.heap.size w3 wr) ∧ Hid (LoIn a b i out)
open Classical in
noncomputable def lostX (ns : List Nd) (ds : List Dv) (s s2 : List Int) : List Int := ((List.range ns.length).filter fun k : Nat => decide (∃ y : Nd, ns[k]? = some y ∧ 0 < y.cust ∧ Sup ds s k ∧ ¬ Sup ds s2 k)).map fun k : Nat => (k : Int)
noncomputable def lostC (ns : List Nd) (ds : List Dv) (s s2 : List Int) : Int := csum ns (lostX ns ds s s2)
def LostL (ns : List Nd) (ds : List Dv) (s s2 out : List Int) : Prop := ∀ x : Int, x ∈ out ↔ ∃ (k : Nat) (y : Nd), x = k ∧ ns[k]? = some y ∧ 0 < y.cust ∧ Sup ds s k ∧ ¬ Sup ds s2 k
open Classical in
theorem lost_list {ns : List Nd} {ds : List Dv} {s s2 out : List Int} (h : LostL ns ds s s2 out) (hp : out.Pairwise (· < ·)) : out = lostX ns ds s s2 := by
 have hq : (lostX ns ds s s2).Pairwise (· < ·) := by
  unfold lostX
  rw [List.pairwise_map]
  exact (List.Pairwise.filter _ List.pairwise_lt_range).imp fun h => by omega
 refine List.Perm.eq_of_pairwise (le := fun x y : Int => x ≤ y) (fun _ _ _ _ h1 h2 => Int.le_antisymm h1 h2) (hp.imp fun h => Int.le_of_lt h) (hq.imp fun h => Int.le_of_lt h) ((List.perm_ext_iff_of_nodup (hp.imp fun h => Int.ne_of_lt h) (hq.imp fun h => Int.ne_of_lt h)).2 fun x => (h x).trans ?_)
 unfold lostX
 rw [List.mem_map]
 constructor
 ·rintro ⟨k, y, rfl, hy, r⟩
  exact ⟨k, List.mem_filter.2 ⟨List.mem_range.2 (List.getElem?_eq_some_iff.1 hy).1, decide_eq_true ⟨y, hy, r⟩⟩, rfl⟩
 ·rintro ⟨k, hk, rfl⟩
  have h2 := (List.mem_filter.1 hk).2
  obtain ⟨y, hy, r⟩ : ∃ y, ns[k]? = some y ∧ 0 < y.cust ∧ Sup ds s k ∧ ¬ Sup ds s2 k := of_decide_eq_true h2
  exact ⟨k, y, rfl, hy, r⟩
theorem rlost_any (An Ad As At : Option Addr) (nn cn nd cd n c n2 c2 : Nat) (ns : List Nd) (ds : List Dv) (s s2 : List Int) (w : World) (hn : Sl w w.heap.size 3 An nn cn (ns.flatMap Nd.cells)) (hd : Sl w w.heap.size 5 Ad nd cd (ds.flatMap Dv.cells)) (hs : Sl w w.heap.size 1 As n c (intsV s)) (hs2 : Sl w w.heap.size 1 At n2 c2 (intsV s2))
 (hsn : ∀ x ∈ ns, x.name.size ≤ 9223372036854775807) (hsd : ∀ x ∈ ds, x.name.size ≤ 9223372036854775807) (hnn : nn ≤ 10000) (hse : stateErr ns ds s = 0) (hse2 : stateErr ns ds s2 = 0) (hl1 : nd ≤ n) (hl2 : nd ≤ n2) (hends : EndsOk nn ds ∧ ∀ x ∈ ds, joinsB x.kind = true → x.b ≠ x.a) (hA : AOk nn ds ∧ ∀ x ∈ ds, 1 ≤ x.kind ∧ x.kind ≤ 6) :
 Calls Tryz.prog 29 #[.agg #[.slice An nn cn, .slice Ad nd cd], .slice As n c, .slice At n2 c2] w fun e w' => ∃ (Ao : Option Addr) (m co : Nat) (out : List Int) (_ : Int), e = .returned (.tuple #[.slice Ao m co, .int .i64 (lostC ns ds s s2), .int .i64 0]) ∧ Hid (out.length = m) ∧ Hid (m ≤ nn) ∧ Hid (LostL ns ds s s2 out) ∧ Hid (Below w.heap.size w w') := by
 have HLN := Lib.hid (hn.len (fun _ => rfl) (by decide))
 have HN := Lib.hid hn; have HD := Lib.hid hd; have HS := Lib.hid hs; have HS2 := Lib.hid hs2
 have HNM := Lib.hid (And.intro hsn hsd)
 have HE := Lib.hid hends; have HA := Lib.hid hA; have HSE := Lib.hid hse; have HSE2 := Lib.hid hse2
 clear hn hd hs hs2 hsn hsd hse hse2 hends hA
 go_enter Tryz.func29, Tryz.ntmps29
 go_upto_region 1 with (fail)
 have HB := Lib.hid (Blk.new w 30 #[.slice An nn cn, .slice Ad nd cd])
 have HW : Hid (Below w.heap.size w (w.alloc (.cells #[.slice An nn cn, .slice Ad nd cd] 30))) := (Below.refl _ _).alloc (Nat.le_refl _) _
 generalize World.alloc _ _ = w1 at *
 obtain ⟨nb, hnb⟩ : ∃ nb, nb = w.heap.size := ⟨_, rfl⟩
 rw [← hnb] at HB ⊢
 clear hnb
 have k0 := HB.out.c0
 have k1 := HB.out.c1
 go_wp2_with fail
 clear k0 k1
 refine (rsupp_any An Ad As nn cn nd cd n c ns ds s w1 ((HN.out.below HW.out (Nat.le_refl _)).more HW.out.size) ((HD.out.below HW.out (Nat.le_refl _)).more HW.out.size) ((HS.out.below HW.out (Nat.le_refl _)).more HW.out.size) HNM.out.1 HNM.out.2 hnn HSE.out ⟨hl1, HE.out⟩ HA.out).mono ?_
 rintro e w2 ⟨Aa, ma, ca, la, rfl, hOa, hLa, hb2⟩
 have HB2 := Lib.hid (HB.out.below hb2.out HB.out.lt)
 have HW2 := Lib.hid (HW.out.trans (hb2.out.mono HW.out.size))
 clear HB hb2 HW
 have k0 := HB2.out.c0
 have k1 := HB2.out.c1
 go_wp2_with fail
 clear k0 k1
 refine (rsupp_any An Ad At nn cn nd cd n2 c2 ns ds s2 w2 ((HN.out.below HW2.out (Nat.le_refl _)).more HW2.out.size) ((HD.out.below HW2.out (Nat.le_refl _)).more HW2.out.size) ((HS2.out.below HW2.out (Nat.le_refl _)).more HW2.out.size) HNM.out.1 HNM.out.2 hnn HSE2.out ⟨hl2, HE.out⟩ HA.out).mono ?_
 rintro e w3 ⟨Ab, mb, cb, lb, rfl, hOb, hLb, hb3⟩
 have HB3 := Lib.hid (HB2.out.below hb3.out HB2.out.lt)
 have HW3 := Lib.hid (HW2.out.trans (hb3.out.mono HW2.out.size))
 have HSA := Lib.hid (hOa.out.later hb3.out).sl
 have HSB := Lib.hid hOb.out.sl
 have HLA := Lib.hid hOa.out.len
 have hma : ma ≤ nn := by have := hLa.out.1.1; rw [HLA.out, HLN.out] at this; exact this
 clear HB2 hb3 HW2 hOa hOb
 go_wp2_with fail
 go_loopg [12, 13] ma (LostR w3 la lb ma)
 case atStart => exact ⟨0, 0, 0, none, [], rfl, rfl, Nat.zero_le _, rfl, World.ownsRow_nil _ _ _ _, Below.refl _ _, LoIn.start _ _⟩
 case round =>
  obtain ⟨i, m, co, Ao, out, rfl, rfl, hi, rfl, hO, hbl, hin⟩ := hrel
  by_cases hlt : i < ma
  ·obtain ⟨b, off, x, rfl, hb, hx, hc⟩ := (HSA.out.below hbl.out (Nat.le_refl _)).at1 hlt
   have HX := Lib.hid hx
   have HR := Lib.hid (rhas_any Ab mb cb lb x wr ((HSB.out.below hbl.out (Nat.le_refl _)).more hbl.out.size))
   clear hx
   rcases hm : decide (x ∈ lb) with _ | _
   ·rw [hm] at HR
    have HI := Lib.hid (hin.out.put HX.out (by simpa using hm))
    have hml : m ≤ nn := by have := hin.out.1.1; rw [hO.out.len] at this; omega
    have hzz := hbl.out.size
    clear hm
    go_wp2_with fail
    refine HR.out.mono ?_
    rintro e w4 ⟨rfl, rfl⟩
    go_wp2_with (at_builtin; go_must (refine wpList_app rfl (.tmp 45) (.tmp 50) rfl el_int (by rfl) (hO.out.alloc _) (by rfl) (Sl.newest (n := 1) (by simp) (by rfl) (by decide)) (by simp [Value.oneCell']) (by omega) (by omega) (by simp; omega) ?_; intro A' cap' w3 hown3 hgr3 hat3; have HO3 := Lib.hid hown3; have HG3 := Lib.hid hgr3; clear hown3 hgr3 hat3))
    go_roundg (ma - (i + 1))
    case rel =>
     refine ⟨i + 1, m + 1, cap', A', out ++ [x], by go_num, rfl, by omega, rfl, ?_, ?_, HI⟩
     ·have := HO3.out
      unfold Hid IntsO
      rw [intsV_append]
      exact this
     ·refine (hbl.out.alloc hbl.out.size _).trans ⟨HG3.out.os, HG3.out.tape, HG3.out.output, HG3.out.size, fun i hi => HG3.out.block i (by simp; omega) (fun e => ?_)⟩
      have := (hO.out.lt i e.symm).1
      omega
    case measure => omega
   ·rw [hm] at HR
    have HI := Lib.hid (hin.out.pass HX.out (by simpa using hm))
    clear hm
    go_wp2_with fail
    refine HR.out.mono ?_
    rintro e w4 ⟨rfl, rfl⟩
    go_wp2_with fail
    go_roundg (ma - (i + 1))
    case rel => exact ⟨i + 1, m, co, Ao, out, by go_num, rfl, by omega, rfl, hO, hbl, HI⟩
    case measure => omega
  ·obtain rfl : i = ma := by omega
   have hii : decide (i < i) = false := by simp
   have k0 := (HB3.out.below hbl.out HB3.out.lt).c0
   have k1 := (HB3.out.below hbl.out HB3.out.lt).c1
   have HWr := Lib.hid (HW3.out.trans (hbl.out.mono HW3.out.size))
   have HLO : Hid (LostL ns ds s s2 out) := fun x => by
    rw [hin.out.2 x, List.take_of_length_le (by rw [HLA.out]; exact Nat.le_refl _), hLa.out.2 x, hLb.out.2 x]
    constructor
    ·rintro ⟨⟨k, y, e, hy, hu, hc⟩, h2⟩; exact ⟨k, y, e, hy, hu, hc, fun h => h2 ⟨k, y, e, hy, hu, h⟩⟩
    ·rintro ⟨k, y, e, hy, hu, hc, h2⟩
     refine ⟨⟨k, y, e, hy, hu, hc⟩, ?_⟩
     rintro ⟨k', y', e', _, _, h⟩
     obtain rfl : k = k' := by omega
     exact h2 h
   have HOL := Lib.hid hO.out.len
   have HCS : Hid (csum ns out = lostC ns ds s s2) := by unfold Hid lostC; rw [← lost_list HLO.out ((hLa.out.1.2.sublist (List.take_sublist _ _)).sublist hin.out.1.2)]
   have hml : m ≤ nn := by have := hin.out.1.1; rw [HOL.out] at this; omega
   go_wp2_with fail
   clear k0 k1
   refine (rsum_any An Ad Ao nn cn nd cd m co ns out wr ((HN.out.below HWr.out (Nat.le_refl _)).more HWr.out.size) hO.out.sl (fun x hx => by
    obtain ⟨k, y, rfl, hy, _⟩ := (HLO.out x).1 hx
    have := (List.getElem?_eq_some_iff.1 hy).1
    rw [HLN.out] at this
    omega)).mono ?_
   rintro e w5 ⟨rfl, hb5⟩
   go_wp2_with fail
   go_ret3
   exact ⟨Ao, m, co, out, 0, by rw [← HCS.out]; rfl, HOL, hml, HLO, HWr.out.trans (hb5.mono HWr.out.size)⟩
end Go.Proofs.YtfaknfmndafllaaGreatDoor
namespace Go.Proofs.YtfaknfmndafllaaGreatDoor
open Go.RowKit
def locksErr (ns : List Nd) (ds : List Dv) (ls : List Lk) : Int := if checkN ns ds ≠ 0 then checkN ns ds else if 128 < ls.length then 1 else firstE ds ls ls.length
theorem kindOf_at {ds : List Dv} {x : Dv} {i : Nat} (h : ds[i]? = some x) : kindOf ds (i : Int) = x.kind := by unfold kindOf; rw [Int.toNat_natCast, h]
def lckE (ls : List Lk) (d : Int) : Ending := .returned (.tuple #[.int .i64 ((lckL ls d).getD 0), .bool (lckL ls d).isSome])
theorem lck_skip {ls : List Lk} {d : Int} : ∀ {i : Nat}, (∀ x ∈ ls.take i, x.dev ≠ d) → lckL ls d = lckL (ls.drop i) d := by
 intro i
 induction i generalizing ls with
 | zero => intro _; rfl
 | succ i ih =>
  intro h
  cases ls with
  | nil => rfl
  | cons x l =>
   rw [lckL, if_neg (h x (by simp)), List.drop_succ_cons]
   exact ih fun y hy => h y (by simp [hy])
theorem lck_hit {ls : List Lk} {d : Int} {i : Nat} {x : Lk} (h : ∀ x ∈ ls.take i, x.dev ≠ d) (hx : ls[i]? = some x) (hd : x.dev = d) : lckL ls d = some x.pos := by
 rw [lck_skip h]
 have hi := (List.getElem?_eq_some_iff.1 hx).1
 rw [List.drop_eq_getElem_cons hi, lckL]
 have : ls[i] = x := by have := List.getElem?_eq_some_iff.1 hx; exact this.2
 rw [this, if_pos hd]
end Go.Proofs.YtfaknfmndafllaaGreatDoor
namespace Go.Proofs.YtfaknfmndafllaaGreatDoor
open Go.RowKit
section
variable {w : World} {B size n c k : Nat} {A : Option Addr} {α : Type} {f : α → List Value} {l : List α}
theorem Sl.takeK (h : Sl w B size A n c (l.flatMap f)) (hf : ∀ x, (f x).length = size) (hs : 0 < size) (hk : k ≤ n) : Sl w B size A k c ((l.take k).flatMap f) := by
 have hl := h.len hf hs
 obtain ⟨h1, h2, h3, h4, h5⟩ := h
 refine ⟨by rw [flat_len hf, List.length_take, Nat.min_eq_left (by omega)], by omega, h3, h4, fun hp => ?_⟩
 obtain ⟨b, off, e, hb, hc⟩ := h5 (by omega)
 refine ⟨b, off, e, hb, fun j u hu => hc j u ?_⟩
 rw [← List.take_append_drop k l, List.flatMap_append, List.getElem?_append_left (List.getElem?_eq_some_iff.1 hu).1]
 exact hu
end
end Go.Proofs.YtfaknfmndafllaaGreatDoor
namespace Go.Proofs.YtfaknfmndafllaaGreatDoor
open Go.RowKit
def PredL (g : Nat) (lb : Array Value) (p : Lk → Bool) (w : World) : Prop :=
 ∀ (W : World) (d q r : Int), Below w.heap.size w W → Calls Tryz.prog g (#[.agg #[.int .i64 d, .int .i64 q, .int .i64 r]] ++ lb) W fun e w' => e = .returned (.bool (p ⟨d, q, r⟩)) ∧ Below w.heap.size w w'
def IfR (w : World) (ls : List Lk) (p : Lk → Bool) (n gk : Nat) (_kv iv : Value) (wr : World) : Prop := ∃ i : Nat, iv = .int .i64 i ∧ i ≤ n ∧ gk = n - i ∧ Hid (∀ x ∈ ls.take i, p x = false) ∧ Hid (Below w.heap.size w wr)
theorem idxf_any (g : Nat) (lb : Array Value) (p : Lk → Bool) (eg : ∀ args w, (callFunc g args).run Tryz.prog w = .ok (.enter g args) w) (A : Option Addr) (n c B : Nat) (ls : List Lk) (w : World) (hs : Sl w B 3 A n c (ls.flatMap Lk.cells)) (hB : B ≤ w.heap.size) (hp : PredL g lb p w) :
 Calls Tryz.prog 153 #[.slice A n c, .func (.func g) #[] lb] w fun e w' => (∃ i : Int, e = .returned (.int .i64 i) ∧ Hid (decide (0 ≤ i) = ls.any p)) ∧ Below w.heap.size w w' := by
 have HLN := Lib.hid (hs.len (fun _ => rfl) (by decide)); have HS := Lib.hid hs
 have hle := hs.le
 have HP := Lib.hid hp
 clear hs hp
 go_enter Tryz.func153, Tryz.ntmps153
 go_wp2_with fail
 go_loopg [5, 8] n (IfR w ls p n)
 case atStart => exact ⟨0, rfl, Nat.zero_le _, rfl, (fun x hx => by simp at hx), Below.refl _ _⟩
 case round =>
  obtain ⟨i, rfl, hi, rfl, hno, hbl⟩ := hrel
  by_cases hlt : i < n
  ·obtain ⟨b, off, d1, p1, q1, rfl, hb, hx, c0, c1, c2⟩ := (HS.out.below hbl.out hB).lock hlt
   have HX := Lib.hid hx
   have hcall := HP.out wr d1 p1 q1 hbl.out
   clear hx
   rcases hq : p ⟨d1, p1, q1⟩ with _ | _
   ·rw [hq] at hcall
    have HN : Hid (∀ x ∈ ls.take (i + 1), p x = false) := fun x hx => by
     rw [take_snoc HX.out] at hx
     rcases List.mem_append.1 hx with h | h
     ·exact hno.out x h
     ·rw [List.mem_singleton.1 h]; exact hq
    clear hq
    go_wp2_with (go_at_fn g; refine hcall.mono ?_; rintro e w' ⟨rfl, hb'⟩)
    go_roundg (n - (i + 1))
    case rel => exact ⟨i + 1, by go_num, by omega, rfl, HN, hb'⟩
    case measure => omega
   ·rw [hq] at hcall
    have HR : Hid (decide (0 ≤ (i : Int)) = ls.any p) := by
     unfold Hid
     rw [decide_eq_true (by omega)]
     symm
     rw [List.any_eq_true]
     exact ⟨_, List.mem_of_getElem? HX.out, hq⟩
    clear hq
    go_wp2_with (go_at_fn g; refine hcall.mono ?_; rintro e w' ⟨rfl, hb'⟩)
    go_ret
    exact ⟨⟨_, rfl, HR⟩, hb'⟩
  ·obtain rfl : i = n := by omega
   have hii : decide (i < i) = false := by simp
   have HR : Hid (decide (0 ≤ (-1 : Int)) = ls.any p) := by
    have := hno.out
    rw [List.take_of_length_le (by rw [HLN.out]; exact Nat.le_refl _)] at this
    unfold Hid
    rw [decide_eq_false (by omega)]
    symm
    rw [List.any_eq_false]
    intro x hx
    rw [this x hx]; simp
   go_wp2_with fail
   go_ret
   exact ⟨⟨_, rfl, HR⟩, hbl.out⟩
theorem contf_any (g : Nat) (lb : Array Value) (p : Lk → Bool) (eg : ∀ args w, (callFunc g args).run Tryz.prog w = .ok (.enter g args) w) (A : Option Addr) (n c B : Nat) (ls : List Lk) (w : World) (hs : Sl w B 3 A n c (ls.flatMap Lk.cells)) (hB : B ≤ w.heap.size) (hp : PredL g lb p w) :
 Calls Tryz.prog 114 #[.slice A n c, .func (.func g) #[] lb] w fun e w' => e = .returned (.bool (ls.any p)) ∧ Below w.heap.size w w' := by
 have HI := Lib.hid (idxf_any g lb p eg A n c B ls w hs hB hp)
 clear hs hp
 go_enter Tryz.func114, Tryz.ntmps114
 go_wp2_with fail
 refine HI.out.mono ?_
 rintro e w1 ⟨⟨i, rfl, hi⟩, hb⟩
 go_wp2_with fail
 go_ret
 exact ⟨ret_bool hi.out, hb⟩
end Go.Proofs.YtfaknfmndafllaaGreatDoor
namespace Go.Proofs.YtfaknfmndafllaaGreatDoor
open Go.RowKit
end Go.Proofs.YtfaknfmndafllaaGreatDoor
