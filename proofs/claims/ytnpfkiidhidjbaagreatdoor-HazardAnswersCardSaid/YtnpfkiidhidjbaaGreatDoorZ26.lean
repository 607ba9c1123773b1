import Derived.Test.YtnpfkiidhidjbaaGreatDoorZ25
import Derived.Test.YtnpfkiidhidjbaaGreatDoorZ16
import Derived.Shelf.SlicesE.DeleteFunc
import Derived.Lib.SliceRun
import Derived.Test.YtnpfkiidhidjbaaGreatDoorZ14
import Derived.Test.YtnpfkiidhidjbaaGreatDoorZ03
/-
 The reference of layer 11: walk of Lost.
-/
namespace Go.Proofs.YtnpfkiidhidjbaaGreatDoor
open Go.RowKit
def LoIn (a b : List Int) (i : Nat) (out : List Int) : Prop := out.length ≤ i ∧ ∀ x : Int, x ∈ out ↔ x ∈ a.take i ∧ x ∉ b
theorem LoIn.start (a b : List Int) : LoIn a b 0 [] := ⟨Nat.le_refl _, fun x => by simp⟩
theorem LoIn.pass {a b out : List Int} {i : Nat} {x : Int} (h : LoIn a b i out) (hx : a[i]? = some x) (hm : x ∈ b) : LoIn a b (i + 1) out := by
 refine ⟨by have := h.1; omega, fun y => (h.2 y).trans ?_⟩
 rw [take_snoc hx, List.mem_append, List.mem_singleton]
 exact ⟨fun k => ⟨.inl k.1, k.2⟩, fun k => ⟨k.1.elim id (fun e => by subst e; exact absurd hm k.2), k.2⟩⟩
theorem LoIn.put {a b out : List Int} {i : Nat} {x : Int} (h : LoIn a b i out) (hx : a[i]? = some x) (hm : x ∉ b) : LoIn a b (i + 1) (out ++ [x]) := by
 refine ⟨by have := h.1; simp; omega, fun y => ?_⟩
 rw [take_snoc hx, List.mem_append, List.mem_singleton, List.mem_append, List.mem_singleton, h.2 y]
 exact ⟨fun k => k.elim (fun k => ⟨.inl k.1, k.2⟩) (fun e => by subst e; exact ⟨.inr rfl, hm⟩), fun k => k.1.elim (fun k1 => .inl ⟨k1, k.2⟩) .inr⟩
def LostR (w3 : World) (a b : List Int) (na gk : Nat) (ov iv : Value) (wr : World) : Prop := ∃ (i m co : Nat) (Ao : Option Addr) (out : List Int), iv = .int .i64 i ∧ ov = .slice Ao m co ∧ i ≤ na ∧ gk = na - i ∧ Hid (IntsO wr w3.heap.size Ao m co out) ∧ Hid (Below w3.heap.size w3 wr) ∧ Hid (LoIn a b i out)
/-- Who is supplied before, and not after. -/
def LostL (ns : List Nd) (ds : List Dv) (s s2 out : List Int) : Prop := ∀ x : Int, x ∈ out ↔ ∃ (k : Nat) (y : Nd), x = k ∧ ns[k]? = some y ∧ 0 < y.cust ∧ Sup ds s k ∧ ¬ Sup ds s2 k
set_option maxRecDepth 100000 in
set_option maxHeartbeats 4000000 in
theorem rlost_any (An Ad As At : Option Addr) (nn cn nd cd n c n2 c2 : Nat) (ns : List Nd) (ds : List Dv) (s s2 : List Int) (w : World) (hn : Sl w w.heap.size 3 An nn cn (ns.flatMap Nd.cells)) (hd : Sl w w.heap.size 5 Ad nd cd (ds.flatMap Dv.cells)) (hs : Sl w w.heap.size 1 As n c (intsV s)) (hs2 : Sl w w.heap.size 1 At n2 c2 (intsV s2))
  (hsn : ∀ x ∈ ns, x.name.size ≤ 9223372036854775807) (hsd : ∀ x ∈ ds, x.name.size ≤ 9223372036854775807) (hnn : nn ≤ 10000) (hse : stateErr ns ds s = 0) (hse2 : stateErr ns ds s2 = 0) (hl1 : nd ≤ n) (hl2 : nd ≤ n2) (hends : EndsOk nn ds ∧ ∀ x ∈ ds, joinsB x.kind = true → x.b ≠ x.a) (hA : AOk nn ds ∧ ∀ x ∈ ds, 1 ≤ x.kind ∧ x.kind ≤ 6) :
  Calls Tryz.prog 71 #[.agg #[.slice An nn cn, .slice Ad nd cd], .slice As n c, .slice At n2 c2] w fun e w' => ∃ Ao m co out k, e = .returned (.tuple #[.slice Ao m co, .int .i64 k, .int .i64 0]) ∧ Hid (out.length = m) ∧ Hid (m ≤ nn) ∧ Hid (LostL ns ds s s2 out) ∧ Hid (Below w.heap.size w w') := by
 have HLN := Lib.hid (hn.len (fun _ => rfl) (by decide))
 have HN := Lib.hid hn; have HD := Lib.hid hd; have HS := Lib.hid hs; have HS2 := Lib.hid hs2
 have HNM := Lib.hid (And.intro hsn hsd)
 have HE := Lib.hid hends; have HA := Lib.hid hA; have HSE := Lib.hid hse; have HSE2 := Lib.hid hse2
 clear hn hd hs hs2 hsn hsd hse hse2 hends hA
 go_enter Tryz.func71, Tryz.ntmps71
 go_upto_region 1 with (fail)
 have HB := Lib.hid (Blk.new w 26 #[.slice An nn cn, .slice Ad nd cd])
 have HW : Hid (Below w.heap.size w (w.alloc (.cells #[.slice An nn cn, .slice Ad nd cd] 26))) := (Below.refl _ _).alloc (Nat.le_refl _) _
 generalize World.alloc _ _ = w1 at *
 obtain ⟨nb, hnb⟩ : ∃ nb, nb = w.heap.size := ⟨_, rfl⟩
 rw [← hnb] at HB ⊢
 clear hnb
 have k0 : w1.cell? ⟨nb, 0, none⟩ = some (.slice An nn cn) := HB.out.cell 0
 have k1 : w1.cell? ⟨nb, 1, none⟩ = some (.slice Ad nd cd) := HB.out.cell 1
 go_wp2_with fail
 clear k0 k1
 refine (rsupp_any An Ad As nn cn nd cd n c ns ds s w1 ((HN.out.below HW.out (Nat.le_refl _)).more HW.out.size) ((HD.out.below HW.out (Nat.le_refl _)).more HW.out.size) ((HS.out.below HW.out (Nat.le_refl _)).more HW.out.size) HNM.out.1 HNM.out.2 hnn HSE.out ⟨hl1, HE.out⟩ HA.out).mono ?_
 rintro e w2 ⟨Aa, ma, ca, la, rfl, hOa, hLa, hb2⟩
 have HB2 := Lib.hid (HB.out.below hb2.out HB.out.lt)
 have HW2 := Lib.hid (HW.out.trans (hb2.out.mono HW.out.size))
 clear HB hb2 HW
 have k0 : w2.cell? ⟨nb, 0, none⟩ = some (.slice An nn cn) := HB2.out.cell 0
 have k1 : w2.cell? ⟨nb, 1, none⟩ = some (.slice Ad nd cd) := HB2.out.cell 1
 go_wp2_with fail
 clear k0 k1
 refine (rsupp_any An Ad At nn cn nd cd n2 c2 ns ds s2 w2 ((HN.out.below HW2.out (Nat.le_refl _)).more HW2.out.size) ((HD.out.below HW2.out (Nat.le_refl _)).more HW2.out.size) ((HS2.out.below HW2.out (Nat.le_refl _)).more HW2.out.size) HNM.out.1 HNM.out.2 hnn HSE2.out ⟨hl2, HE.out⟩ HA.out).mono ?_
 rintro e w3 ⟨Ab, mb, cb, lb, rfl, hOb, hLb, hb3⟩
 have HB3 := Lib.hid (HB2.out.below hb3.out HB2.out.lt)
 have HW3 := Lib.hid (HW2.out.trans (hb3.out.mono HW2.out.size))
 have HSA := Lib.hid (hOa.out.later hb3.out).sl
 have HSB := Lib.hid hOb.out.sl
 have HLA := Lib.hid hOa.out.len
 have hma : ma ≤ nn := by have := hLa.out.1; rw [HLA.out, HLN.out] at this; exact this
 clear HB2 hb3 HW2 hOa hOb
 go_wp2_with fail
 go_loopg [12, 13] ma (LostR w3 la lb ma)
 case atStart => exact ⟨0, 0, 0, none, [], rfl, rfl, Nat.zero_le _, rfl, World.ownsRow_nil _ _ _ _, Below.refl _ _, LoIn.start _ _⟩
 case round =>
  obtain ⟨i, m, co, Ao, out, rfl, rfl, hi, rfl, hO, hbl, hin⟩ := hrel
  by_cases hlt : i < ma
  ·obtain ⟨b, off, x, rfl, hb, hx, hc⟩ := (HSA.out.below hbl.out (Nat.le_refl _)).at1 hlt
   have HX := Lib.hid hx
   have HR := Lib.hid (rhas_any Ab mb cb lb x wr ((HSB.out.below hbl.out (Nat.le_refl _)).more hbl.out.size))
   clear hx
   rcases hm : decide (x ∈ lb) with _ | _
   ·rw [hm] at HR
    have HI := Lib.hid (hin.out.put HX.out (by simpa using hm))
    have hml : m ≤ nn := by have := hin.out.1; rw [hO.out.len] at this; omega
    have hzz := hbl.out.size
    clear hm
    go_wp2_with fail
    refine HR.out.mono ?_
    rintro e w4 ⟨rfl, rfl⟩
    go_wp2_with (at_builtin; go_must (refine wpList_app rfl (.tmp 45) (.tmp 50) rfl el_int (by rfl) (hO.out.alloc _) (by rfl) (Sl.newest (n := 1) (by simp) (by rfl) (by decide)) (by simp [Value.oneCell']) (by omega) (by omega) (by simp; omega) ?_; intro A' cap' w3 hown3 hgr3 hat3; have HO3 := Lib.hid hown3; have HG3 := Lib.hid hgr3; clear hown3 hgr3 hat3))
    go_roundg (ma - (i + 1))
    case rel =>
     refine ⟨i + 1, m + 1, cap', A', out ++ [x], by go_num, rfl, by omega, rfl, ?_, ?_, HI⟩
     ·have := HO3.out
      unfold Hid IntsO
      rw [intsV_append]
      exact this
     ·refine (hbl.out.alloc hbl.out.size _).trans ⟨HG3.out.os, HG3.out.tape, HG3.out.output, HG3.out.size, fun i hi => HG3.out.block i (by simp; omega) (fun e => ?_)⟩
      have := (hO.out.lt i e.symm).1
      omega
    case measure => omega
   ·rw [hm] at HR
    have HI := Lib.hid (hin.out.pass HX.out (by simpa using hm))
    clear hm
    go_wp2_with fail
    refine HR.out.mono ?_
    rintro e w4 ⟨rfl, rfl⟩
    go_wp2_with fail
    go_roundg (ma - (i + 1))
    case rel => exact ⟨i + 1, m, co, Ao, out, by go_num, rfl, by omega, rfl, hO, hbl, HI⟩
    case measure => omega
  ·obtain rfl : i = ma := by omega
   have hii : decide (i < i) = false := by simp
   have k0 : wr.cell? ⟨nb, 0, none⟩ = some (.slice An nn cn) := (HB3.out.below hbl.out HB3.out.lt).cell 0
   have k1 : wr.cell? ⟨nb, 1, none⟩ = some (.slice Ad nd cd) := (HB3.out.below hbl.out HB3.out.lt).cell 1
   have HWr := Lib.hid (HW3.out.trans (hbl.out.mono HW3.out.size))
   have HLO : Hid (LostL ns ds s s2 out) := fun x => by
    rw [hin.out.2 x, List.take_of_length_le (by rw [HLA.out]; exact Nat.le_refl _), hLa.out.2 x, hLb.out.2 x]
    constructor
    ·rintro ⟨⟨k, y, e, hy, hu, hc⟩, h2⟩; exact ⟨k, y, e, hy, hu, hc, fun h => h2 ⟨k, y, e, hy, hu, h⟩⟩
    ·rintro ⟨k, y, e, hy, hu, hc, h2⟩
     refine ⟨⟨k, y, e, hy, hu, hc⟩, ?_⟩
     rintro ⟨k', y', e', _, _, h⟩
     obtain rfl : k = k' := by omega
     exact h2 h
   have HOL := Lib.hid hO.out.len
   have hml : m ≤ nn := by have := hin.out.1; rw [HOL.out] at this; omega
   go_wp2_with fail
   clear k0 k1
   refine (rsum_any An Ad Ao nn cn nd cd m co ns out wr ((HN.out.below HWr.out (Nat.le_refl _)).more HWr.out.size) hO.out.sl (fun x hx => by
    obtain ⟨k, y, rfl, hy, _⟩ := (HLO.out x).1 hx
    have := (List.getElem?_eq_some_iff.1 hy).1
    rw [HLN.out] at this
    omega)).mono ?_
   rintro e w5 ⟨⟨k, rfl⟩, hb5⟩
   go_wp2_with fail
   go_ret3
   exact ⟨Ao, m, co, out, k, rfl, HOL, hml, HLO, HWr.out.trans (hb5.mono HWr.out.size)⟩
end Go.Proofs.YtnpfkiidhidjbaaGreatDoor
/-
 The program's layer 11: walk of Lost; the library's DeleteFunc at integers.
-/
namespace Go.Proofs.YtnpfkiidhidjbaaGreatDoor
open Go.RowKit
theorem Sl.over {w : World} {B n c blk m size : Nat} {A : Option Addr} {xs : List Value} {os : Array Obj} {dk : Array Int} (h : Sl w B size A n c xs) (hne : ∀ b off, A = some ⟨b, off, none⟩ → b ≠ blk ∧ b < w.heap.size) : Sl (sortWorld (Value.int .i64) w blk 0 m dk os) B size A n c xs := by
 obtain ⟨h1, h2, h3, h4, h5⟩ := h
 refine ⟨h1, h2, h3, h4, fun hn => ?_⟩
 obtain ⟨b, off, e, hb, hc⟩ := h5 hn
 obtain ⟨h6, h7⟩ := hne b off e
 refine ⟨b, off, e, hb, fun j u hu => ?_⟩
 unfold sortWorld
 rw [Go.Sort.cell?_grow _ _ _ (by show b < (Go.Sort.putRow _ _ _ _ _).heap.size; rw [Go.Sort.size_putRow]; exact h7), Go.Sort.cell?_putRow_other _ _ blk 0 _ _ (Or.inl h6)]
 exact hc j u hu
set_option maxHeartbeats 1000000 in
theorem delf_any (g : Nat) (lb : Array Value) (p : Int → Bool) (eg : ∀ args w, (callFunc g args).run Tryz.prog w = .ok (.enter g args) w) (A : Option Addr) (n c base : Nat) (l : List Int) (w : World) (h : IntsO w base A n c l) (hn : n ≤ 1000000)
  (hp : PredAt Tryz.prog g lb (Value.int .i64) p w) (hpo : ∀ blk, A = some ⟨blk, 0, none⟩ → PredOver Tryz.prog g lb (Value.int .i64) p blk 0 n w) :
  Calls Tryz.prog 91 #[.slice A n c, .func (.func g) #[] lb] w fun e w' => ∃ m, e = .returned (.slice A m c) ∧ Hid (IntsO w' base A m c (l.filter fun x => !p x)) ∧ Hid (w.grownBy w' (Value.slice A n c).ownBlock) := by
 have hl := h.len
 rcases h.2 with ⟨hv, h0⟩ | ⟨gb, cap, cur, hv, hb, hh, hnc, hm, hs, ht⟩
 ·injection hv with h1 h2 h3
  subst h1 h3 h0
  have : l = [] := List.eq_nil_of_length_eq_zero hl
  subst this
  have HH := Lib.hid h
  clear h hp hpo hl hn
  go_enter Tryz.func91, Tryz.ntmps91
  go_wp2_with fail
  refine (Tryz.slices_IndexFunc_empty (α := Int) none 0 (.func (.func g) #[] lb) w).mono ?_
  rintro e w1 ⟨rfl, rfl⟩
  go_wp2_with fail
  go_ret
  exact ⟨0, rfl, HH.out, grown_refl _ _⟩
 ·injection hv with h1 h2 h3
  subst h1 h3
  subst hl
  rw [Nat.mul_one, intsV_map] at ht
  have hH := holds_of_blockI hh ht
  refine (Tryz.slices_DeleteFunc (Value.int .i64) (fun _ => rfl) p g lb eg 0 Tryz.zeroValue3 gb 0 c l.toArray w hp (by simpa using hpo gb rfl) hH (by simp; omega) (by simpa using hnc)).mono ?_
  rintro e w1 ⟨rfl, q, rfl⟩
  simp only [List.size_toArray]
  obtain ⟨ts, hts⟩ : ∃ ts, ts = (l.filter fun x => !p x) ++ List.replicate (l.length - (l.filter fun x => !p x).length) 0 := ⟨_, rfl⟩
  have hfl : (l.filter fun x => !p x).length ≤ l.length := List.length_filter_le _ _
  have htl : ts.length = l.length := by rw [hts, List.length_append, List.length_replicate]; omega
  rw [← hts]
  refine ⟨_, rfl, ?_, ?_⟩
  ·have h2 := heap_sortedI (n := q) (os := #[]) ts.toArray hh
   rw [Go.Sort.grow_empty] at h2
   unfold Hid IntsO
   rw [intsV_map]
   refine ⟨by simp, .inr ⟨gb, c, _, rfl, hb, h2, by omega, hm, by simp [Go.Sort.putCells, hs], ?_⟩⟩
   have h3 := take_putCellsI cur ts (by omega)
   rw [Nat.mul_one]
   have h4 := congrArg (List.take (l.filter fun x => !p x).length) h3
   rw [List.take_take, Nat.min_eq_left (by omega)] at h4
   rw [h4, ← List.map_take, hts, List.take_left]
  ·have := grownBy_sortedI (w := w) (g := gb) (n := q) (os := #[]) ts.toArray
   rw [Go.Sort.grow_empty] at this
   exact this
theorem lost1_gives (Ab : Option Addr) (mb cb bb B : Nat) (l : List Int) (x : Int) (W : World) (hc : W.cell? ⟨bb, 0, none⟩ = some (.slice Ab mb cb)) (hs : Sl W B 1 Ab mb cb (intsV l)) :
  FnGives Tryz.prog 92 #[.pointer (some ⟨bb, 0, none⟩)] #[.int .i64 x] (.bool (hasB l x)) W := by
 have HC := Lib.hid (contains_any Ab mb cb B l x W hs)
 show Calls Tryz.prog 92 #[.int .i64 x, .pointer (some ⟨bb, 0, none⟩)] W _
 clear hs
 go_enter Tryz.func92, Tryz.ntmps92
 go_wp2_with fail
 refine HC.out.mono ?_
 rintro e w1 ⟨rfl, rfl⟩
 go_wp2_with fail
 go_ret
 exact ⟨rfl, 0, rfl⟩
set_option maxRecDepth 100000 in
set_option maxHeartbeats 4000000 in
/-- Lost, at valid states. -/
theorem Lost_ok (An Ad As At : Option Addr) (nn cn nd cd n c n2 c2 Bn Bd Bs B2 : Nat) (ns : List Nd) (ds : List Dv) (s s2 : List Int) (w : World) (hL : Laid w) (hn : Sl w Bn 3 An nn cn (ns.flatMap Nd.cells)) (hBn : Bn ≤ w.heap.size) (hd : Sl w Bd 5 Ad nd cd (ds.flatMap Dv.cells)) (hBd : Bd ≤ w.heap.size) (hs : Sl w Bs 1 As n c (intsV s)) (hBs : Bs ≤ w.heap.size) (hs2 : Sl w B2 1 At n2 c2 (intsV s2)) (hB2 : B2 ≤ w.heap.size)
  (hsn : ∀ x ∈ ns, x.name.size ≤ 9223372036854775807) (hsd : ∀ x ∈ ds, x.name.size ≤ 9223372036854775807) (h0 : stateErr ns ds s = 0) (h02 : stateErr ns ds s2 = 0) (hnn : nn ≤ 10000) (hnd : nd ≤ 10000) (hl : nd ≤ n) (hl2 : nd ≤ n2) (hends : EndsOk nn ds) (hA : AOk nn ds) :
  Calls Tryz.prog 65 #[.agg #[.slice An nn cn, .slice Ad nd cd], .slice As n c, .slice At n2 c2] w fun e w' => ∃ Ao m co out k, e = .returned (.tuple #[.slice Ao m co, .int .i64 k, .int .i64 0]) ∧ Hid (out.length = m) ∧ Hid (LostL ns ds s s2 out) ∧ Hid (IntsO w' w.heap.size Ao m co out) ∧ Hid (Below w.heap.size w w') := by
 have HLN := Lib.hid (hn.len (fun _ => rfl) (by decide))
 have HB : Hid (Below w.heap.size w (w.alloc (.cells #[.slice An nn cn, .slice Ad nd cd] 26))) := (Below.refl _ _).alloc (Nat.le_refl _) _
 have HK := Lib.hid (Blk.new w 26 #[.slice An nn cn, .slice Ad nd cd])
 have HL := Lib.hid hL; have HN := Lib.hid hn; have HD := Lib.hid hd; have HS := Lib.hid hs; have HS2 := Lib.hid hs2; have HSN := Lib.hid hsn; have HSD := Lib.hid hsd; have H0 := Lib.hid h0; have H02 := Lib.hid h02; have HE := Lib.hid hends; have HA := Lib.hid hA
 clear hL hn hd hs hs2 hsn hsd h0 h02 hends hA
 go_enter Tryz.func65, Tryz.ntmps65
 go_wp2_with fail
 generalize World.alloc _ _ = W at *
 have hz := HB.out.size
 obtain ⟨nb, hnb⟩ : ∃ nb, nb = w.heap.size := ⟨_, rfl⟩
 rw [← hnb] at HK ⊢
 clear hnb
 have HNB := Lib.hid HK.out.lt
 refine (Supplied_ok An Ad As nn cn nd cd n c Bn Bd Bs ns ds s W (HL.out.below HB.out (Nat.le_refl _)) (HN.out.below HB.out hBn) (by omega) (HD.out.below HB.out hBd) (by omega) (HS.out.below HB.out hBs) (by omega) HSN.out HSD.out H0.out hnn hnd hl HE.out HA.out).mono ?_
 rintro e w1 ⟨Aa, ma, ca, la, rfl, hOa, hLa, hb1⟩
 have HB1 := Lib.hid (HB.out.trans (hb1.out.mono hz))
 have HK1 := Lib.hid (HK.out.below hb1.out HK.out.lt)
 have hz1 := HB1.out.size
 have HZa : Hid (W.heap.size ≤ w1.heap.size) := hb1.out.size
 clear hb1 HB HK
 have k0 : w1.cell? ⟨nb, 0, none⟩ = some (.slice An nn cn) := HK1.out.cell 0
 have k1 : w1.cell? ⟨nb, 1, none⟩ = some (.slice Ad nd cd) := HK1.out.cell 1
 go_wp2_with fail
 clear k0 k1
 refine (Supplied_ok An Ad At nn cn nd cd n2 c2 Bn Bd B2 ns ds s2 w1 (HL.out.below HB1.out (Nat.le_refl _)) (HN.out.below HB1.out hBn) (by omega) (HD.out.below HB1.out hBd) (by omega) (HS2.out.below HB1.out hB2) (by omega) HSN.out HSD.out H02.out hnn hnd hl2 HE.out HA.out).mono ?_
 rintro e w2 ⟨Ab, mb, cb, lb, rfl, hOb, hLb, hb2⟩
 have HB2 := Lib.hid ((HB1.out.trans (hb2.out.mono hz1)).alloc (by have := hb2.out.size; omega) (.cells #[.slice Ab mb cb] 22))
 have HK2 := Lib.hid ((HK1.out.below hb2.out HK1.out.lt).alloc (.cells #[.slice Ab mb cb] 22))
 have HXB := Lib.hid (Blk.new w2 22 #[.slice Ab mb cb])
 have HOA : Hid (IntsO (w2.alloc (.cells #[.slice Ab mb cb] 22)) W.heap.size Aa ma ca la) := (hOa.out.later hb2.out).alloc _
 have HOB : Hid (IntsO (w2.alloc (.cells #[.slice Ab mb cb] 22)) w1.heap.size Ab mb cb lb) := hOb.out.alloc _
 have hz2 : w1.heap.size ≤ w2.heap.size := hb2.out.size
 have hma : ma ≤ nn := by have := hLa.out.1; rw [hOa.out.len, HLN.out] at this; exact this
 have HAL : Hid (∀ gb, (Value.slice Aa ma ca).ownBlock = some gb → gb < w1.heap.size) := fun gb h => (hOa.out.lt gb h).2
 have HZ2 : Hid (w2.heap.size < (w2.alloc (.cells #[.slice Ab mb cb] 22)).heap.size) := by unfold Hid; simp
 clear hb2 HK1 hOa hOb HB1
 go_upto_region 7 with (fail)
 generalize World.alloc w2 _ = W3 at *
 obtain ⟨bb, hbb⟩ : ∃ x, x = w2.heap.size := ⟨_, rfl⟩
 rw [← hbb] at HXB HZ2 hz2 ⊢
 clear hbb
 have HPA : Hid (PredAt Tryz.prog 92 #[.pointer (some ⟨bb, 0, none⟩)] (Value.int .i64) (hasB lb) W3) := fun W' x hb =>
  lost1_gives Ab mb cb bb W3.heap.size lb x W' ((hb.cell (p := ⟨bb, 0, none⟩) HZ2.out).trans (HXB.out.cell 0)) (HOB.out.sl.below hb (Nat.le_refl _))
 have HPO : Hid (∀ blk, Aa = some ⟨blk, 0, none⟩ → PredOver Tryz.prog 92 #[.pointer (some ⟨bb, 0, none⟩)] (Value.int .i64) (hasB lb) blk 0 ma W3) := fun blk e q os dk x _ =>
  lost1_gives Ab mb cb bb W3.heap.size lb x _ (by
   have h1 := HAL.out blk (by rw [e]; rfl)
   unfold sortWorld
   rw [Go.Sort.cell?_grow _ _ _ (by show bb < (Go.Sort.putRow _ _ _ _ _).heap.size; rw [Go.Sort.size_putRow]; exact HZ2.out), Go.Sort.cell?_putRow_other _ _ blk 0 _ _ (Or.inl (by show bb ≠ blk; omega))]
   exact HXB.out.cell 0) (HOB.out.sl.over fun b off e2 => by
    have h1 := HAL.out blk (by rw [e]; rfl)
    have h2 := HOB.out.lt b
    rcases HOB.out.2 with ⟨hv, _⟩ | ⟨gb, cap, cur, hv, hb, hh, _⟩
    ·rw [e2] at hv; cases hv
    ·rw [e2] at hv
     injection hv with hv
     injection hv with hv
     injection hv with hv
     subst hv
     exact ⟨by omega, (Array.getElem?_eq_some_iff.1 hh).1⟩)
 have HDF := Lib.hid (delf_any 92 #[.pointer (some ⟨bb, 0, none⟩)] (hasB lb) (enters_of Tryz.func92 (by kernel_rfl) rfl) Aa ma ca W.heap.size la W3 HOA.out (by omega) HPA.out HPO.out)
 clear HPA HPO
 go_wp2_with fail
 refine HDF.out.mono ?_
 rintro e w4 ⟨m, rfl, hO4, hg4⟩
 have HBG : Hid (Below W.heap.size W3 w4) := ⟨hg4.out.os, hg4.out.tape, hg4.out.output, hg4.out.size, fun q hq => hg4.out.block q (by have := HZa.out; have := HZ2.out; omega) (fun e => by have := (HOA.out.lt q e.symm).1; omega)⟩
 have HB4 := Lib.hid (HB2.out.trans (HBG.out.mono hz))
 have HK4 : Hid (Blk w4 nb 26 #[.slice An nn cn, .slice Ad nd cd]) := HK2.out.below HBG.out HNB.out
 have HIN : Hid (∀ v ∈ la.filter fun x => !hasB lb x, 0 ≤ v ∧ v < nn) := fun v hv => by
  obtain ⟨k, y, rfl, hy, _⟩ := (hLa.out.2 v).1 (List.mem_filter.1 hv).1
  have := (List.getElem?_eq_some_iff.1 hy).1
  rw [HLN.out] at this
  omega
 clear HDF hg4 HBG HK2 HB2 HOA HOB HXB HAL
 have k0 : w4.cell? ⟨nb, 0, none⟩ = some (.slice An nn cn) := HK4.out.cell 0
 have k1 : w4.cell? ⟨nb, 1, none⟩ = some (.slice Ad nd cd) := HK4.out.cell 1
 go_wp2_with fail
 clear k0 k1
 refine (custs_any An Ad Aa nn cn nd cd m ca Bn w4.heap.size ns _ w4 (HN.out.below HB4.out hBn) (by have := HB4.out.size; omega) hO4.out.sl (Nat.le_refl _) HIN.out).mono ?_
 rintro e w5 ⟨k, rfl, hb5⟩
 go_wp2_with fail
 go_ret3
 refine ⟨Aa, m, ca, _, k, rfl, hO4.out.len, fun x => ?_, (hO4.out.later hb5.out).mono hz, HB4.out.trans (hb5.out.mono HB4.out.size)⟩
 rw [List.mem_filter]
 constructor
 ·rintro ⟨h1, h2⟩
  obtain ⟨k, y, rfl, hy, hc, hs⟩ := (hLa.out.2 x).1 h1
  refine ⟨k, y, rfl, hy, hc, hs, fun h3 => ?_⟩
  have h4 : (k : Int) ∉ lb := (hasB_not _ _).1 (by simpa using h2)
  exact h4 ((hLb.out.2 _).2 ⟨k, y, rfl, hy, hc, h3⟩)
 ·rintro ⟨k, y, rfl, hy, hc, hs, hn2⟩
  refine ⟨(hLa.out.2 _).2 ⟨k, y, rfl, hy, hc, hs⟩, ?_⟩
  have : hasB lb (k : Int) = false := (hasB_not _ _).2 fun h => by
   obtain ⟨k2, y2, e, hy2, _, hs2⟩ := (hLb.out.2 _).1 h
   have : k = k2 := by omega
   subst this
   exact hn2 hs2
  rw [this]; rfl
end Go.Proofs.YtnpfkiidhidjbaaGreatDoor
/-
 Memory: slices of locks.
-/
namespace Go.Proofs.YtnpfkiidhidjbaaGreatDoor
open Go.RowKit
def Lk.cells (k : Lk) : List Value := [.int .i64 k.dev, .int .i64 k.pos, .int .i64 k.key]
theorem el_lock : ElemI Tryz.prog 29 77 3 24 := ElemI.mk' (z := .agg #[.int .i64 0, .int .i64 0, .int .i64 0]) Tryz.underlying29 (by kernel_rfl) rfl (by decide)
/-- The slice is the call's own row of these locks. -/
def LocksO (w : World) (base : Nat) (A : Option Addr) (n c : Nat) (ls : List Lk) : Prop := w.ownsRow base 77 3 (.slice A n c) n (ls.flatMap Lk.cells)
section
variable {w w' : World} {base n c B : Nat} {A : Option Addr} {ls : List Lk}
theorem LocksO.sl (h : LocksO w base A n c ls) : Sl w w.heap.size 3 A n c (ls.flatMap Lk.cells) := Sl.of_own h
theorem LocksO.len (h : LocksO w base A n c ls) : ls.length = n := (Sl.of_own h).len (fun _ => rfl) (by decide)
theorem LocksO.later (h : LocksO w base A n c ls) (hb : Below w.heap.size w w') : LocksO w' base A n c ls := own_later h hb
theorem locks_one (l : List Lk) : ∀ u ∈ l.flatMap Lk.cells, u.oneCell' = true := by
 intro u hu
 rw [List.mem_flatMap] at hu
 obtain ⟨x, _, hx⟩ := hu
 simp only [Lk.cells, List.mem_cons, List.not_mem_nil, or_false] at hx
 rcases hx with rfl | rfl | rfl <;> rfl
/-- What a lock's three cells hold. -/
theorem Sl.lock {i : Nat} (h : Sl w B 3 A n c (ls.flatMap Lk.cells)) (hi : i < n) : ∃ b off d p q, A = some ⟨b, off, none⟩ ∧ b < B ∧ ls[i]? = some ⟨d, p, q⟩ ∧ w.cell? ⟨b, off + i * 3, none⟩ = some (.int .i64 d) ∧ w.cell? ⟨b, off + i * 3 + 1, none⟩ = some (.int .i64 p) ∧ w.cell? ⟨b, off + i * 3 + 2, none⟩ = some (.int .i64 q) := by
 obtain ⟨b, off, ⟨d, p, q⟩, e, hb, hx, hc⟩ := h.at (fun _ => rfl) (by decide) hi
 exact ⟨b, off, d, p, q, e, hb, hx, hc 0 _ rfl, hc 1 _ rfl, hc 2 _ rfl⟩
end
end Go.Proofs.YtnpfkiidhidjbaaGreatDoor
