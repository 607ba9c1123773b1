/-
  The reference of layer 11: walk of Lost.
-/
import Derived.Test.YtddjifkmaogpiaaDoorSupp
namespace Go.Proofs.YtddjifkmaogpiaaDoor
open Go.RowKit
def LoIn (a b : List Int) (i : Nat) (out : List Int) : Prop := out.length ≤ i ∧ ∀ x : Int, x ∈ out ↔ x ∈ a.take i ∧ x ∉ b
theorem LoIn.start (a b : List Int) : LoIn a b 0 [] := ⟨Nat.le_refl _, fun x => by simp⟩
theorem LoIn.pass {a b out : List Int} {i : Nat} {x : Int} (h : LoIn a b i out) (hx : a[i]? = some x) (hm : x ∈ b) : LoIn a b (i + 1) out := by
  refine ⟨by have := h.1; omega, fun y => (h.2 y).trans ?_⟩
  rw [take_snoc hx, List.mem_append, List.mem_singleton]
  exact ⟨fun k => ⟨.inl k.1, k.2⟩, fun k => ⟨k.1.elim id (fun e => by subst e; exact absurd hm k.2), k.2⟩⟩
theorem LoIn.put {a b out : List Int} {i : Nat} {x : Int} (h : LoIn a b i out) (hx : a[i]? = some x) (hm : x ∉ b) : LoIn a b (i + 1) (out ++ [x]) := by
  refine ⟨by have := h.1; simp; omega, fun y => ?_⟩
  rw [take_snoc hx, List.mem_append, List.mem_singleton, List.mem_append, List.mem_singleton, h.2 y]
  exact ⟨fun k => k.elim (fun k => ⟨.inl k.1, k.2⟩) (fun e => by subst e; exact ⟨.inr rfl, hm⟩), fun k => k.1.elim (fun k1 => .inl ⟨k1, k.2⟩) .inr⟩
def LostR (w3 : World) (a b : List Int) (na gk : Nat) (ov iv : Value) (wr : World) : Prop := ∃ (i m co : Nat) (Ao : Option Addr) (out : List Int), iv = .int .i64 i ∧ ov = .slice Ao m co ∧ i ≤ na ∧ gk = na - i ∧ Hid (IntsO wr w3.heap.size Ao m co out) ∧ Hid (Below w3.heap.size w3 wr) ∧ Hid (LoIn a b i out)
/-- Who is supplied before, and not after. -/
def LostL (ns : List Nd) (ds : List Dv) (s s2 out : List Int) : Prop := ∀ x : Int, x ∈ out ↔ ∃ (k : Nat) (y : Nd), x = k ∧ ns[k]? = some y ∧ 0 < y.cust ∧ Sup ds s k ∧ ¬ Sup ds s2 k
set_option maxRecDepth 100000 in
set_option maxHeartbeats 4000000 in
theorem rlost_any (An Ad As At : Option Addr) (nn cn nd cd n c n2 c2 : Nat) (ns : List Nd) (ds : List Dv) (s s2 : List Int) (w : World) (hn : Sl w w.heap.size 3 An nn cn (ns.flatMap Nd.cells)) (hd : Sl w w.heap.size 5 Ad nd cd (ds.flatMap Dv.cells)) (hs : Sl w w.heap.size 1 As n c (intsV s)) (hs2 : Sl w w.heap.size 1 At n2 c2 (intsV s2))
    (hsn : ∀ x ∈ ns, x.name.size ≤ 9223372036854775807) (hsd : ∀ x ∈ ds, x.name.size ≤ 9223372036854775807) (hnn : nn ≤ 10000) (hse : stateErr ns ds s = 0) (hse2 : stateErr ns ds s2 = 0) (hl1 : nd ≤ n) (hl2 : nd ≤ n2) (hends : EndsOk nn ds ∧ ∀ x ∈ ds, joinsB x.kind = true → x.b ≠ x.a) (hA : AOk nn ds ∧ ∀ x ∈ ds, 1 ≤ x.kind ∧ x.kind ≤ 6) :
    Calls Tryd.prog 16 #[.agg #[.slice An nn cn, .slice Ad nd cd], .slice As n c, .slice At n2 c2] w fun e w' => ∃ Ao m co out k, e = .returned (.tuple #[.slice Ao m co, .int .i64 k, .int .i64 0]) ∧ Hid (out.length = m) ∧ Hid (m ≤ nn) ∧ Hid (LostL ns ds s s2 out) ∧ Hid (Below w.heap.size w w') := by
  have HLN := Lib.hid (hn.len (fun _ => rfl) (by decide))
  have HN := Lib.hid hn; have HD := Lib.hid hd; have HS := Lib.hid hs; have HS2 := Lib.hid hs2
  have HNM := Lib.hid (And.intro hsn hsd)
  have HE := Lib.hid hends; have HA := Lib.hid hA; have HSE := Lib.hid hse; have HSE2 := Lib.hid hse2
  clear hn hd hs hs2 hsn hsd hse hse2 hends hA
  go_enter Tryd.func16, Tryd.ntmps16
  go_upto_region 1 with (fail)
  have HB := Lib.hid (Blk.new w 30 #[.slice An nn cn, .slice Ad nd cd])
  have HW : Hid (Below w.heap.size w (w.alloc (.cells #[.slice An nn cn, .slice Ad nd cd] 30))) := (Below.refl _ _).alloc (Nat.le_refl _) _
  generalize World.alloc _ _ = w1 at *
  obtain ⟨nb, hnb⟩ : ∃ nb, nb = w.heap.size := ⟨_, rfl⟩
  rw [← hnb] at HB ⊢
  clear hnb
  have k0 : w1.cell? ⟨nb, 0, none⟩ = some (.slice An nn cn) := HB.out.cell 0
  have k1 : w1.cell? ⟨nb, 1, none⟩ = some (.slice Ad nd cd) := HB.out.cell 1
  go_wp2_with fail
  clear k0 k1
  refine (rsupp_any An Ad As nn cn nd cd n c ns ds s w1 ((HN.out.below HW.out (Nat.le_refl _)).more HW.out.size) ((HD.out.below HW.out (Nat.le_refl _)).more HW.out.size) ((HS.out.below HW.out (Nat.le_refl _)).more HW.out.size) HNM.out.1 HNM.out.2 hnn HSE.out ⟨hl1, HE.out⟩ HA.out).mono ?_
  rintro e w2 ⟨Aa, ma, ca, la, rfl, hOa, hLa, hb2⟩
  have HB2 := Lib.hid (HB.out.below hb2.out HB.out.lt)
  have HW2 := Lib.hid (HW.out.trans (hb2.out.mono HW.out.size))
  clear HB hb2 HW
  have k0 : w2.cell? ⟨nb, 0, none⟩ = some (.slice An nn cn) := HB2.out.cell 0
  have k1 : w2.cell? ⟨nb, 1, none⟩ = some (.slice Ad nd cd) := HB2.out.cell 1
  go_wp2_with fail
  clear k0 k1
  refine (rsupp_any An Ad At nn cn nd cd n2 c2 ns ds s2 w2 ((HN.out.below HW2.out (Nat.le_refl _)).more HW2.out.size) ((HD.out.below HW2.out (Nat.le_refl _)).more HW2.out.size) ((HS2.out.below HW2.out (Nat.le_refl _)).more HW2.out.size) HNM.out.1 HNM.out.2 hnn HSE2.out ⟨hl2, HE.out⟩ HA.out).mono ?_
  rintro e w3 ⟨Ab, mb, cb, lb, rfl, hOb, hLb, hb3⟩
  have HB3 := Lib.hid (HB2.out.below hb3.out HB2.out.lt)
  have HW3 := Lib.hid (HW2.out.trans (hb3.out.mono HW2.out.size))
  have HSA := Lib.hid (hOa.out.later hb3.out).sl
  have HSB := Lib.hid hOb.out.sl
  have HLA := Lib.hid hOa.out.len
  have hma : ma ≤ nn := by have := hLa.out.1; rw [HLA.out, HLN.out] at this; exact this
  clear HB2 hb3 HW2 hOa hOb
  go_wp2_with fail
  go_loopg [12, 13] ma (LostR w3 la lb ma)
  case atStart => exact ⟨0, 0, 0, none, [], rfl, rfl, Nat.zero_le _, rfl, World.ownsRow_nil _ _ _ _, Below.refl _ _, LoIn.start _ _⟩
  case round =>
    obtain ⟨i, m, co, Ao, out, rfl, rfl, hi, rfl, hO, hbl, hin⟩ := hrel
    by_cases hlt : i < ma
    · obtain ⟨b, off, x, rfl, hb, hx, hc⟩ := (HSA.out.below hbl.out (Nat.le_refl _)).at1 hlt
      have HX := Lib.hid hx
      have HR := Lib.hid (rhas_any Ab mb cb lb x wr ((HSB.out.below hbl.out (Nat.le_refl _)).more hbl.out.size))
      clear hx
      rcases hm : decide (x ∈ lb) with _ | _
      · rw [hm] at HR
        have HI := Lib.hid (hin.out.put HX.out (by simpa using hm))
        have hml : m ≤ nn := by have := hin.out.1; rw [hO.out.len] at this; omega
        have hzz := hbl.out.size
        clear hm
        go_wp2_with fail
        refine HR.out.mono ?_
        rintro e w4 ⟨rfl, rfl⟩
        go_wp2_with (at_builtin; go_must (refine wpList_app rfl (.tmp 45) (.tmp 50) rfl el_int (by rfl) (hO.out.alloc _) (by rfl) (Sl.newest (n := 1) (by simp) (by rfl) (by decide)) (by simp [Value.oneCell']) (by omega) (by omega) (by simp; omega) ?_; intro A' cap' w3 hown3 hgr3 hat3; have HO3 := Lib.hid hown3; have HG3 := Lib.hid hgr3; clear hown3 hgr3 hat3))
        go_roundg (ma - (i + 1))
        case rel =>
          refine ⟨i + 1, m + 1, cap', A', out ++ [x], by go_num, rfl, by omega, rfl, ?_, ?_, HI⟩
          · have := HO3.out
            unfold Hid IntsO
            rw [intsV_append]
            exact this
          · refine (hbl.out.alloc hbl.out.size _).trans ⟨HG3.out.os, HG3.out.tape, HG3.out.output, HG3.out.size, fun i hi => HG3.out.block i (by simp; omega) (fun e => ?_)⟩
            have := (hO.out.lt i e.symm).1
            omega
        case measure => omega
      · rw [hm] at HR
        have HI := Lib.hid (hin.out.pass HX.out (by simpa using hm))
        clear hm
        go_wp2_with fail
        refine HR.out.mono ?_
        rintro e w4 ⟨rfl, rfl⟩
        go_wp2_with fail
        go_roundg (ma - (i + 1))
        case rel => exact ⟨i + 1, m, co, Ao, out, by go_num, rfl, by omega, rfl, hO, hbl, HI⟩
        case measure => omega
    · obtain rfl : i = ma := by omega
      have hii : decide (i < i) = false := by simp
      have k0 : wr.cell? ⟨nb, 0, none⟩ = some (.slice An nn cn) := (HB3.out.below hbl.out HB3.out.lt).cell 0
      have k1 : wr.cell? ⟨nb, 1, none⟩ = some (.slice Ad nd cd) := (HB3.out.below hbl.out HB3.out.lt).cell 1
      have HWr := Lib.hid (HW3.out.trans (hbl.out.mono HW3.out.size))
      have HLO : Hid (LostL ns ds s s2 out) := fun x => by
        rw [hin.out.2 x, List.take_of_length_le (by rw [HLA.out]; exact Nat.le_refl _), hLa.out.2 x, hLb.out.2 x]
        constructor
        · rintro ⟨⟨k, y, e, hy, hu, hc⟩, h2⟩; exact ⟨k, y, e, hy, hu, hc, fun h => h2 ⟨k, y, e, hy, hu, h⟩⟩
        · rintro ⟨k, y, e, hy, hu, hc, h2⟩
          refine ⟨⟨k, y, e, hy, hu, hc⟩, ?_⟩
          rintro ⟨k', y', e', _, _, h⟩
          obtain rfl : k = k' := by omega
          exact h2 h
      have HOL := Lib.hid hO.out.len
      have hml : m ≤ nn := by have := hin.out.1; rw [HOL.out] at this; omega
      go_wp2_with fail
      clear k0 k1
      refine (rsum_any An Ad Ao nn cn nd cd m co ns out wr ((HN.out.below HWr.out (Nat.le_refl _)).more HWr.out.size) hO.out.sl (fun x hx => by
        obtain ⟨k, y, rfl, hy, _⟩ := (HLO.out x).1 hx
        have := (List.getElem?_eq_some_iff.1 hy).1
        rw [HLN.out] at this
        omega)).mono ?_
      rintro e w5 ⟨⟨k, rfl⟩, hb5⟩
      go_wp2_with fail
      go_ret3
      exact ⟨Ao, m, co, out, k, rfl, HOL, hml, HLO, HWr.out.trans (hb5.mono HWr.out.size)⟩
end Go.Proofs.YtddjifkmaogpiaaDoor
