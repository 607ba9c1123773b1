/-
  The statement DutyLoads: its walk.
-/
import Derived.Test.YtddjifkmaogpiaaDoorLost
import Derived.Test.YtddjifkmaogpiaaDoorDark
namespace Go.Proofs.YtddjifkmaogpiaaDoor
open Go.RowKit
def Two (w6 w7 : World) (g1 g2 nd co1 co2 : Nat) (a b : List Int) (W : World) : Prop := IntsO W w6.heap.size (some ⟨g1, 0, none⟩) nd co1 a ∧ IntsO W w7.heap.size (some ⟨g2, 0, none⟩) nd co2 b ∧ Below w6.heap.size w6 W
theorem two_set {w6 w7 w8 : World} {A1 A2 : Option Addr} {nd co1 co2 i : Nat} {s : List Int} (h1 : IntsO w7 w6.heap.size A1 nd co1 s) (h2 : IntsO w8 w7.heap.size A2 nd co2 s) (b7 : Below w6.heap.size w6 w7) (b8 : Below w7.heap.size w7 w8) (hi : i < nd) (p q : Int) :
    ∃ g1 g2 y1 y2, A1 = some ⟨g1, 0, none⟩ ∧ A2 = some ⟨g2, 0, none⟩ ∧ g1 < g2 ∧ w8.cell? ⟨g1, i, none⟩ = some (.int .i64 y1) ∧ w8.frozen? ⟨g1, i, none⟩ = false ∧ w8.cell? ⟨g2, i, none⟩ = some (.int .i64 y2) ∧ w8.frozen? ⟨g2, i, none⟩ = false ∧ Two w6 w7 g1 g2 nd co1 co2 (s.set i p) (s.set i q) ((w8.setCell ⟨g1, i, none⟩ (.int .i64 p)).setCell ⟨g2, i, none⟩ (.int .i64 q)) := by
  have h1' := h1.later b8
  obtain ⟨g1, y1, rfl, l1, m1, _, _, _, _⟩ := h1.at hi
  obtain ⟨g1', y1, e, _, n1, e1, c1, f1, s1⟩ := h1'.at hi
  injection e with e; injection e with e; subst e
  obtain ⟨g2, y2, rfl, l2, m2, e2, c2, f2, s2⟩ := h2.at hi
  have h2' := ints_far h2 m1 i (.int .i64 p)
  obtain ⟨g2', y3, e, _, _, _, _, _, s3⟩ := h2'.at hi
  injection e with e; injection e with e; subst e
  refine ⟨g1, g2, y1, y2, rfl, rfl, by omega, c1, f1, c2, f2, ?_, s3 q, ((b7.trans (b8.mono b7.size)).setCell (by simp; omega) _).setCell (by simp; omega) _⟩
  exact (s1 p).kept (grown_cell _ _ _) (ne_row fun b e => by simp [Value.ownBlock] at e; subst e; simp; omega)
theorem withL_set {s : List Int} {i : Nat} (h : i < s.length) (p : Int) : withL s i p = s.set i p := by
  unfold withL; rw [if_pos ⟨by omega, by omega⟩, Int.toNat_natCast]
theorem duty_five (nn : Nat) (ns : List Nd) (ds : List Dv) (s : List Int) (i : Int) (x : Dv) : dutyAt nn ns ds s i x = 0 ∨ dutyAt nn ns ds s i x = 1 ∨ dutyAt nn ns ds s i x = 2 ∨ dutyAt nn ns ds s i x = 3 ∨ dutyAt nn ns ds s i x = 4 := by
  unfold dutyAt dutyV
  split
  · simp
  · split
    · simp
    · split
      · simp
      · split <;> simp
theorem nil_of {l : List Int} (h : ∀ x, x ∉ l) : l.length = 0 := by
  cases l with
  | nil => rfl
  | cons a l => exact absurd (List.mem_cons_self) (h a)
/-- What the lists of Lost say of a duty. -/
def LoadOk (d : Int) (m1 m2 : Nat) : Prop := (d = 0 ∨ d = 1 → m1 = 0 ∧ m2 = 0) ∧ (d = 2 → 0 < m1 ∧ m2 = 0) ∧ (d = 3 → m1 = 0 ∧ m2 = 0)
theorem load_ok {ns : List Nd} {ds : List Dv} {o c l1 l2 : List Int} {d : Int} (h : Means ns ds o c d) (h1 : LostL ns ds c o l1) (h2 : LostL ns ds o c l2) : LoadOk d l1.length l2.length := by
  obtain ⟨a, b, e⟩ := h
  refine ⟨fun hd => ⟨nil_of fun x hx => ?_, nil_of fun x hx => ?_⟩, fun hd => ⟨?_, nil_of fun x hx => ?_⟩, fun hd => ⟨nil_of fun x hx => ?_, nil_of fun x hx => ?_⟩⟩
  · obtain ⟨k, y, _, hy, hc, hs, hn⟩ := (h1 x).1 hx
    exact hn ((a hd k y hy hc).1 hs)
  · obtain ⟨k, y, _, hy, hc, hs, hn⟩ := (h2 x).1 hx
    exact hn ((a hd k y hy hc).2 hs)
  · obtain ⟨⟨v, y, hy, hc, hs, hn⟩, _⟩ := b hd
    exact List.length_pos_of_mem ((h1 v).2 ⟨v, y, rfl, hy, hc, hs, hn⟩)
  · obtain ⟨k, y, _, hy, hc, hs, hn⟩ := (h2 x).1 hx
    exact hn ((b hd).2 _ hs)
  · obtain ⟨k, y, _, hy, hc, hs, hn⟩ := (h1 x).1 hx
    exact hn ((e hd k).1 hs)
  · obtain ⟨k, y, _, hy, hc, hs, hn⟩ := (h2 x).1 hx
    exact hn ((e hd k).2 hs)
theorem col_four (ds : List Dv) (s : List Int) (v : Int) : colV ds s v = 0 ∨ colV ds s v = 1 ∨ colV ds s v = 2 ∨ colV ds s v = 3 := by
  unfold colV
  rcases ind_cases (HasK liveK ds s v) 1 with ⟨h, e⟩ | ⟨h, e⟩ <;> rcases ind_cases (HasK (· = 4) ds s v) 2 with ⟨h2, e2⟩ | ⟨h2, e2⟩ <;> rw [e, e2] <;> simp
def LdR (w5 : World) (nd gk : Nat) (iv : Value) (wr : World) : Prop := ∃ i : Nat, iv = .int .i64 i ∧ i ≤ nd ∧ gk = nd - i ∧ Hid (Below w5.heap.size w5 wr)
set_option maxRecDepth 100000 in
set_option maxHeartbeats 8000000 in
theorem walk_DutyLoads (w : World) (hl : Laid w) (A : Option Addr) (n c : Nat) (zs : List Int) (hs : Sl w w.heap.size 1 A n c (intsV zs)) (_hz : ∀ z ∈ zs, (Lit.int .i64 z).wf = true) :
    Calls Tryd.prog 4 #[.slice A n c] w fun e w' => e = .returned (.bool true) ∧ Below w.heap.size w w' := by
  have hnm := hs.le
  have HL := Lib.hid hl; have HS := Lib.hid hs
  clear hl hs _hz
  have HF := Lib.hid (few_any A n c w (by omega))
  rcases hf : decide (n ≤ 400) with _ | _
  · rw [hf] at HF
    clear hf
    go_enter Tryd.func4, Tryd.ntmps4
    go_wp2_with fail
    refine HF.out.mono ?_
    rintro e w1 ⟨rfl, rfl⟩
    go_wp2_with fail
    refine (awake_any w HL.out).mono ?_
    rintro e w1 ⟨rfl, hb⟩
    go_wp2_with fail
    go_ret
    exact ⟨rfl, hb⟩
  rw [hf] at HF
  clear hf
  go_enter Tryd.func4, Tryd.ntmps4
  go_wp2_with fail
  refine HF.out.mono ?_
  rintro e w1 ⟨rfl, rfl⟩
  go_wp2_with fail
  refine (new_any A n c w.heap.size zs w HS.out (Nat.le_refl _)).mono ?_
  rintro e w1 ⟨rfl, hd1, hb1, hs1⟩
  go_wp2_with fail
  refine (mknet_any w.heap.size 7 12 w1 hd1.out (by decide) (by decide)).mono ?_
  rintro e w2 ⟨An, nn, cn, ns, Ad, nd, cd, ds, rfl, hd2, hg2, hrn, hrd, hmade⟩
  have hz1 := hs1.out
  have HB2 := Lib.hid (hb1.out.trans (below_of_grown hg2.out (Nat.le_refl _) (by omega)))
  have hgw : w.heap.size < w1.heap.size := by omega
  have hlt2 := hd2.out.lt
  go_wp2_with fail
  have HD3 := Lib.hid (hd2.out.alloc (.cells #[.slice An nn cn, .slice Ad nd cd] 30))
  have HRN3 := Lib.hid (hrn.out.alloc (.cells #[.slice An nn cn, .slice Ad nd cd] 30))
  have HRD3 := Lib.hid (hrd.out.alloc (.cells #[.slice An nn cn, .slice Ad nd cd] 30))
  have HNB3 := Lib.hid (Blk.new w2 30 #[.slice An nn cn, .slice Ad nd cd])
  have HB3 := Lib.hid (HB2.out.alloc HB2.out.size (.cells #[.slice An nn cn, .slice Ad nd cd] 30))
  have HMA := Lib.hid hmade.out
  have HNN := Lib.hid ((Sl.of_own hrn.out).len (fun _ => rfl) (by decide))
  have HND := Lib.hid ((Sl.of_own hrd.out).len (fun _ => rfl) (by decide))
  have hnd12 : nd ≤ 12 := by have := hmade.out.dm; rw [HND.out] at this; omega
  have hnn7 : nn ≤ 7 := by have := hmade.out.nm; rw [HNN.out] at this; omega
  have HLN : Hid (∀ b, (Value.slice An nn cn).ownBlock = some b → b < w2.heap.size) := fun b e => (hrn.out.lt b e).2
  have HLDV : Hid (∀ b, (Value.slice Ad nd cd).ownBlock = some b → b < w2.heap.size) := fun b e => (hrd.out.lt b e).2
  have hw3z : (w2.alloc (.cells #[.slice An nn cn, .slice Ad nd cd] 30)).heap.size = w2.heap.size + 1 := by simp
  have HW3 := Lib.hid hw3z; clear hw3z
  clear hd1 hb1 hs1 hz1 hd2 hg2 hrn hrd hmade HB2
  generalize World.alloc _ _ = w3 at *
  obtain ⟨nb, hnb⟩ : ∃ nb, nb = w2.heap.size := ⟨_, rfl⟩
  rw [← hnb] at HNB3 HLN HLDV HW3 ⊢
  have hnbw : w.heap.size < nb := by omega
  clear hnb
  refine (mkstate_any w.heap.size An Ad nn cn nd cd ds w3 HD3.out (SlX.of_own HRD3.out (by omega)) (by omega)).mono ?_
  rintro e w5 ⟨As, cs, s, rfl, hd5, hg5, hO5, hpos⟩
  have HST5 : Hid (DkSt w nb An nn cn ns Ad nd cd ds As cs s w5) := ⟨HNB3.out.grown hg5.out (fun e => by injection e with e; omega), (Sl.of_own (hrnk HRN3.out hg5.out (by omega))).tight (fun b e => by have := HLN.out b e; omega), (Sl.of_own (hrnk HRD3.out hg5.out (by omega))).tight (fun b e => by have := HLDV.out b e; omega), hO5.out.mono (by have := HW3.out; omega), HB3.out.trans (below_of_grown hg5.out (Nat.le_refl _) (by have := HB3.out.size; omega)), hnbw⟩
  have HPO := Lib.hid hpos.out
  have HNM := Lib.hid HMA.out.names
  have HEN := HMA.out.ends
  rw [HNN.out] at HEN
  replace HEN := Lib.hid HEN
  have HKK : Hid (∀ x ∈ ds, 1 ≤ x.kind ∧ x.kind ≤ 6) := fun x hx => by
    obtain ⟨j, hj⟩ := List.mem_iff_getElem?.1 hx
    have := HMA.out.dok j x hj
    exact ⟨this.2.1, this.2.2.1⟩
  clear hd5 hg5 hO5 hpos HD3 HRN3 HRD3 HNB3 HB3 HS HF HLN HLDV HW3
  clear hlt2 hgw
  have HLS := Lib.hid HST5.out.hs.len
  have HSE := Lib.hid (HMA.out.state (by decide) (by decide) (s := s) (by rw [HLS.out, HND.out]) HPO.out)
  go_wp2_with fail
  go_loopg [33] nd (LdR w5 nd)
  case atStart => exact ⟨0, rfl, Nat.zero_le _, rfl, Below.refl _ _⟩
  case round =>
    obtain ⟨i, rfl, hi, rfl, hbl⟩ := hrel
    have HST := Lib.hid (HST5.out.later hbl.out)
    by_cases hlt : i < nd
    · obtain ⟨x, hx⟩ : ∃ x, ds[i]? = some x := ⟨_, List.getElem?_eq_getElem (by rw [HND.out]; exact hlt)⟩
      have HX := Lib.hid hx
      have k0 : wr.cell? ⟨nb, 0, none⟩ = some (.slice An nn cn) := HST.out.bx.cell 0
      have k1 : wr.cell? ⟨nb, 1, none⟩ = some (.slice Ad nd cd) := HST.out.bx.cell 1
      clear hx
      go_wp2_with fail
      clear k0 k1
      refine (Of_ok An Ad As nn cn nd cd nd cs (nb + 1) (nb + 1) wr.heap.size i ns ds s x wr (HL.out.below HST.out.bl (Nat.le_refl _)) HST.out.hn HST.out.bx.lt HST.out.hd HST.out.bx.lt HST.out.hs.sl (Nat.le_refl _) HNM.out.1 HNM.out.2 HSE.out (by omega) (by omega) (Nat.le_refl _) hlt HX.out HEN.out.1 HEN.out.2.1).mono ?_
      rintro e w6 ⟨rfl, hb6⟩
      have HB6 := Lib.hid (hbl.out.trans (hb6.mono hbl.out.size))
      have HST6 := Lib.hid (HST.out.later hb6)
      clear hb6 hbl HST
      have HSR := Lib.hid HST6.out.hs.sl
      go_upto_region 11 with (at_builtin; go_must (first
        | (refine wpList_app rfl _ (.tmp 43) rfl el_int (by rfl) (World.ownsRow_nil _ w6.heap.size _ _) (by rfl) HSR.out (ints_one s) (by omega) (by omega) (Nat.le_refl _) ?_; intro A1 co1 w7 hown7 hgr7 hat7; simp only [Nat.zero_add, List.nil_append] at hown7 hgr7 ⊢; have HO7 : Hid (IntsO w7 w6.heap.size A1 nd co1 s) := hown7; have HB7 : Hid (Below w6.heap.size w6 w7) := ⟨hgr7.os, hgr7.tape, hgr7.output, hgr7.size, fun i hi => hgr7.block i hi (by simp [Value.ownBlock])⟩; clear hown7 hgr7 hat7)
        | (refine wpList_app rfl _ (.tmp 45) rfl el_int (by rfl) (World.ownsRow_nil _ w7.heap.size _ _) (by rfl) ((HSR.out.below HB7.out (Nat.le_refl _)).more HB7.out.size) (ints_one s) (by omega) (by omega) (Nat.le_refl _) ?_; intro A2 co2 w8 hown8 hgr8 hat8; simp only [Nat.zero_add, List.nil_append] at hown8 hgr8 ⊢; have HO8 : Hid (IntsO w8 w7.heap.size A2 nd co2 s) := hown8; have HB8 : Hid (Below w7.heap.size w7 w8) := ⟨hgr8.os, hgr8.tape, hgr8.output, hgr8.size, fun i hi => hgr8.block i hi (by simp [Value.ownBlock])⟩; clear hown8 hgr8 hat8)))
      obtain ⟨g1, g2, y1, y2, rfl, rfl, hg12, hc1, hf1, hc2, hf2, htwo⟩ := two_set HO7.out HO8.out HB7.out HB8.out hlt 1 2
      have hc3 : (w8.setCell ⟨g1, i, none⟩ (.int .i64 1)).cell? ⟨g2, i, none⟩ = some (.int .i64 y2) := (World.cell?_setCell_other _ _ _ _ (fun e => by injection e with e1; omega)).trans hc2
      have hf3 : (w8.setCell ⟨g1, i, none⟩ (.int .i64 1)).frozen? ⟨g2, i, none⟩ = false := by simpa using hf2
      have HTW := Lib.hid htwo
      have HLI : Hid (i < s.length) := by show i < s.length; rw [HLS.out]; exact hlt
      rw [← withL_set HLI.out, ← withL_set HLI.out] at HTW
      have HST9 := Lib.hid (HST6.out.later HTW.out.2.2)
      have HB9 := Lib.hid (HB6.out.trans (HTW.out.2.2.mono HB6.out.size))
      have HSO := Lib.hid HTW.out.1.sl
      have HSC := Lib.hid HTW.out.2.1.sl
      clear htwo HO7 HO8 HTW HST6 HB6
      go_upto_region 12 with (fail)
      clear hc1 hf1 hc2 hf2 hc3 hf3
      generalize World.setCell _ _ _ = w9 at *
      have HSE1 := Lib.hid (HMA.out.state (by decide) (by decide) (s := withL s i 1) (by rw [withL_len, HLS.out, HND.out]) (withL_pos HPO.out i rfl))
      have HSE2 := Lib.hid (HMA.out.state (by decide) (by decide) (s := withL s i 2) (by rw [withL_len, HLS.out, HND.out]) (withL_pos HPO.out i rfl))
      have hm := List.mem_of_getElem? HX.out
      have HAX := Lib.hid (HEN.out.2.1 _ hm)
      have HME := Lib.hid (duty_means (nn := nn) (ns := ns) ⟨HLI.out, HX.out, HKK.out _ hm, HEN.out.2.1 _ hm, fun h => (HEN.out.1 _ hm h).2, HNN.out⟩)
      have HDF := Lib.hid (duty_five nn ns ds s i x)
      clear hm
      generalize dutyAt nn ns ds s i x = d at *
      have k0 : w9.cell? ⟨nb, 0, none⟩ = some (.slice An nn cn) := HST9.out.bx.cell 0
      have k1 : w9.cell? ⟨nb, 1, none⟩ = some (.slice Ad nd cd) := HST9.out.bx.cell 1
      go_wp2_with fail
      clear k0 k1
      refine (rlost_any An Ad (some ⟨g2, 0, none⟩) (some ⟨g1, 0, none⟩) nn cn nd cd nd co2 nd co1 ns ds (withL s i 2) (withL s i 1) w9 (HST9.out.hn.more HST9.out.bx.lt) (HST9.out.hd.more HST9.out.bx.lt) HSC.out HSO.out HNM.out.1 HNM.out.2 (by omega) HSE2.out HSE1.out (Nat.le_refl _) (Nat.le_refl _) ⟨HEN.out.1, HEN.out.2.2⟩ ⟨HEN.out.2.1, HKK.out⟩).mono ?_
      rintro e w10 ⟨Ao1, m1, oc1, out1, k1, rfl, hl1, hm1, hlo1, hb10⟩
      have HST10 := Lib.hid (HST9.out.later hb10.out)
      have HB10 := Lib.hid (HB9.out.trans (hb10.out.mono HB9.out.size))
      have HSO10 := Lib.hid ((HSO.out.below hb10.out (Nat.le_refl _)).more hb10.out.size)
      have HSC10 := Lib.hid ((HSC.out.below hb10.out (Nat.le_refl _)).more hb10.out.size)
      clear HST9 HB9 HSO HSC hb10
      have k0 : w10.cell? ⟨nb, 0, none⟩ = some (.slice An nn cn) := HST10.out.bx.cell 0
      have k1 : w10.cell? ⟨nb, 1, none⟩ = some (.slice Ad nd cd) := HST10.out.bx.cell 1
      go_wp2_with fail
      clear k0 k1
      refine (rlost_any An Ad (some ⟨g1, 0, none⟩) (some ⟨g2, 0, none⟩) nn cn nd cd nd co1 nd co2 ns ds (withL s i 1) (withL s i 2) w10 (HST10.out.hn.more HST10.out.bx.lt) (HST10.out.hd.more HST10.out.bx.lt) HSO10.out HSC10.out HNM.out.1 HNM.out.2 (by omega) HSE1.out HSE2.out (Nat.le_refl _) (Nat.le_refl _) ⟨HEN.out.1, HEN.out.2.2⟩ ⟨HEN.out.2.1, HKK.out⟩).mono ?_
      rintro e w11 ⟨Ao2, m2, oc2, out2, k2, rfl, hl2, hm2, hlo2, hb11⟩
      have HST11 := Lib.hid (HST10.out.later hb11.out)
      have HB11 := Lib.hid (HB10.out.trans (hb11.out.mono HB10.out.size))
      have HSC11 := Lib.hid ((HSC10.out.below hb11.out (Nat.le_refl _)).more hb11.out.size)
      have HLO := load_ok HME.out hlo1.out hlo2.out
      rw [hl1.out, hl2.out] at HLO
      replace HLO := Lib.hid HLO
      have hm1' : m1 ≤ nn := hm1.out
      have hm2' : m2 ≤ nn := hm2.out
      clear HST10 HB10 HSO10 HSC10 hb11 HME hlo1 hlo2 hl1 hl2 hm1 hm2
      have k0 : w11.cell? ⟨nb, 0, none⟩ = some (.slice An nn cn) := HST11.out.bx.cell 0
      have k1 : w11.cell? ⟨nb, 1, none⟩ = some (.slice Ad nd cd) := HST11.out.bx.cell 1
      have HC := Lib.hid (rcols_any An Ad (some ⟨g2, 0, none⟩) nn cn nd cd nd co2 (nb + 1) (nb + 1) w11.heap.size ns ds (withL s i 2) w11 HST11.out.hn HST11.out.hd HSC11.out HST11.out.bx.lt HST11.out.bx.lt (Nat.le_refl _) HNM.out.1 HNM.out.2 (by omega) (fun _ => ⟨Nat.le_refl _, HEN.out.1, HEN.out.2.2⟩) (fun _ => ⟨HEN.out.2.1, HKK.out⟩))
      rw [HSE2.out] at HC
      obtain ⟨nm, kd, xa, xb, co⟩ := x
      obtain ⟨a, ea⟩ := Int.eq_ofNat_of_zero_le HAX.out.1
      simp only at ea
      subst ea
      have hax : a < nn := by have := HAX.out.2; simp only at this; omega
      have hd5 : (d = 0 ∨ d = 1 ∨ d = 3) ∧ m1 = 0 ∧ m2 = 0 ∨ d = 2 ∧ 0 < m1 ∧ m2 = 0 ∨ d = 4 := by
        have := HLO.out; have := HDF.out; unfold LoadOk at *; omega
      clear HLO HDF HAX HSE1 HSE2 hg12 HLI HB7 HB8 HSR
      have hd6 : d = 0 ∧ m1 = 0 ∧ m2 = 0 ∨ d = 1 ∧ m1 = 0 ∧ m2 = 0 ∨ d = 3 ∧ m1 = 0 ∧ m2 = 0 ∨ d = 2 ∧ ((m1 : Int) == 0) = false ∧ m2 = 0 ∨ d = 4 := by
        simp only [beq_eq_false_iff_ne]; omega
      clear hd5
      rcases hd6 with ⟨rfl, rfl, rfl⟩ | ⟨rfl, rfl, rfl⟩ | ⟨rfl, rfl, rfl⟩ | ⟨rfl, hm0, rfl⟩ | rfl
      all_goals
        go_wp2_with fail
        clear k0 k1
        refine HC.out.mono ?_
        rintro e w12 ⟨hb12, h | ⟨_, Ac, C, rfl, hOc, hIC⟩⟩
        · exact absurd rfl h.1
        have HST12 := Lib.hid (HST11.out.later hb12.out)
        have HB12 := Lib.hid (HB11.out.trans (hb12.out.mono HB11.out.size))
        obtain ⟨cb, cof, ca0, rfl, hcb, hcaa, hcca⟩ := hOc.out.sl.at1 hax
        have k1 : w12.cell? ⟨nb, 1, none⟩ = some (.slice Ad nd cd) := HST12.out.bx.cell 1
        obtain ⟨b0, off, y, rfl, hb0, hy, hcd⟩ := HST12.out.hd.at (fun _ => rfl) (by decide) hlt
        obtain rfl : y = ⟨nm, kd, a, xb, co⟩ := by rw [HX.out] at hy; injection hy with hy; exact hy.symm
        have c2 : w12.cell? ⟨b0, off + i * 5 + 2, none⟩ = some (.int .i64 a) := hcd 2 _ rfl
        obtain hC4 := col_four ds (withL s i 2) a
        rw [show colV ds (withL s i 2) a = ca0 by have h1 := hIC.out.2 a hax; rw [hcaa] at h1; injection h1 with h1; exact h1.symm] at hC4
        clear hcd hy hcaa hIC hb12 HC hOc
        rcases hC4 with rfl | rfl | rfl | rfl
        all_goals
          go_wp2_with fail
          go_roundg (nd - (i + 1))
          case rel => exact ⟨i + 1, by go_num, by omega, rfl, HB12⟩
          case measure => omega
    · obtain rfl : i = nd := by omega
      have hii : decide (i < i) = false := by simp
      go_wp2_with fail
      clear hii
      refine (awake_any wr (HL.out.below HST.out.bl (Nat.le_refl _))).mono ?_
      rintro e w9 ⟨rfl, hb9⟩
      go_wp2_with fail
      go_ret
      exact ⟨rfl, HST.out.bl.trans (hb9.mono HST.out.bl.size)⟩
end Go.Proofs.YtddjifkmaogpiaaDoor
