/-
  The statement DutyDark: its walk.
-/
import Derived.Test.YtddjifkmaogpiaaDoorDutyAll
import Derived.Test.YtddjifkmaogpiaaDoorDarkP
import Derived.Test.YtddjifkmaogpiaaDoorRef07C
import Derived.Test.YtddjifkmaogpiaaDoorEither
namespace Go.Proofs.YtddjifkmaogpiaaDoor
open Go.RowKit
theorem Sl.tight {w : World} {B B' size n c : Nat} {A : Option Addr} {xs : List Value} (h : Sl w B size A n c xs) (hb : ∀ b, (Value.slice A n c).ownBlock = some b → b < B') : Sl w B' size A n c xs :=
  ⟨h.1, h.2.1, h.2.2.1, h.2.2.2.1, fun hn => by
    obtain ⟨b, off, e, _, hc⟩ := h.2.2.2.2 hn
    exact ⟨b, off, e, hb b (by rw [e]; rfl), hc⟩⟩
/-- The memory of a law that has made a network and a state. -/
structure DkSt (w : World) (nb : Nat) (An : Option Addr) (nn cn : Nat) (ns : List Nd) (Ad : Option Addr) (nd cd : Nat) (ds : List Dv) (As : Option Addr) (cs : Nat) (s : List Int) (wr : World) : Prop where
  bx : Blk wr nb 30 #[.slice An nn cn, .slice Ad nd cd]
  hn : Sl wr (nb + 1) 3 An nn cn (ns.flatMap Nd.cells)
  hd : Sl wr (nb + 1) 5 Ad nd cd (ds.flatMap Dv.cells)
  hs : IntsO wr (nb + 2) As nd cs s
  bl : Below w.heap.size w wr
  ge : w.heap.size < nb
section
variable {w wr wr' : World} {nb nn cn nd cd cs : Nat} {An Ad As : Option Addr} {ns : List Nd} {ds : List Dv} {s : List Int}
theorem DkSt.later (h : DkSt w nb An nn cn ns Ad nd cd ds As cs s wr) (hb : Below wr.heap.size wr wr') : DkSt w nb An nn cn ns Ad nd cd ds As cs s wr' :=
  ⟨h.bx.below hb h.bx.lt, h.hn.below hb h.bx.lt, h.hd.below hb h.bx.lt, h.hs.later hb, h.bl.trans (hb.mono h.bl.size), h.ge⟩
theorem DkSt.alloc (h : DkSt w nb An nn cn ns Ad nd cd ds As cs s wr) (o : Obj) : DkSt w nb An nn cn ns Ad nd cd ds As cs s (wr.alloc o) := h.later ((Below.refl _ _).alloc (Nat.le_refl _) _)
theorem DkSt.put (h : DkSt w nb An nn cn ns Ad nd cd ds As cs s wr) {i : Nat} (hi : i < nd) (p : Int) : ∃ g x, As = some ⟨g, 0, none⟩ ∧ wr.cell? ⟨g, i, none⟩ = some (.int .i64 x) ∧ wr.frozen? ⟨g, i, none⟩ = false ∧ DkSt w nb An nn cn ns Ad nd cd ds As cs (s.set i p) (wr.setCell ⟨g, i, none⟩ (.int .i64 p)) := by
  obtain ⟨g, x, rfl, h1, h2, hx, hc, hf, hst⟩ := h.hs.at hi
  have hge := h.ge
  exact ⟨g, x, rfl, hc, hf, h.bx.far (by simp; omega) _, h.hn.setCell (by simp; omega) _, h.hd.setCell (by simp; omega) _, hst p, h.bl.setCell (by simp; omega) _, hge⟩
end
theorem colsOf_is (nn : Nat) (ds : List Dv) (s : List Int) : IsCols nn ds s (colsOf nn ds s) := by
  have h : IsCols nn ds s ((List.range nn).map fun v => colV ds s (v : Nat)) := ⟨by simp, fun v hv => by simp [List.getElem?_range hv]⟩
  rw [colsOf_eq h]; exact h
theorem dark_duty0 {nn : Nat} {ns : List Nd} {ds : List Dv} {s : List Int} {i : Nat} {x : Dv} (hd : Dark ds s) (hx : ds[i]? = some x) (hk : ¬ liveK x.kind) (hkk : 1 ≤ x.kind ∧ x.kind ≤ 6) (ha : 0 ≤ x.a ∧ x.a < nn) (hb : joinsB x.kind = true → 0 ≤ x.b ∧ x.b < nn) : dutyAt nn ns ds s i x = 0 := dark_other hd hx hk hkk ha hb (colsOf_is _ _ _) (colsOf_is _ _ _)
open Classical in
theorem dark_duty1 {nn : Nat} {ns : List Nd} {ds : List Dv} {s P : List Int} {i : Nat} {x : Dv} (hP : IsParts nn ds s P) (hd : Dark ds s) (hi : i < s.length) (hx : ds[i]? = some x) (hk : liveK x.kind) (ha : 0 ≤ x.a ∧ x.a < nn) : dutyAt nn ns ds s i x = if HasK (· = 4) ds s x.a then 4 else if ∃ (v : Nat) (y : Nd), v < ns.length ∧ ns[v]? = some y ∧ 0 < y.cust ∧ P.getD v 0 = P.getD x.a.toNat 0 then 2 else 1 := by
  have h := dark_source (ns := ns) (parts := partsOf nn ds (withL s i 1)) hd hi hx hk ha (colsOf_is _ _ _) (colsOf_is _ _ _)
  rw [withL_same (hd i x hx hk), partsOf_eq hP] at h
  unfold dutyAt
  rw [withL_same (hd i x hx hk), partsOf_eq hP]
  exact h
def dkTo (ns : List Nd) (P : List Int) (a v : Nat) : Prop := ∃ (k : Nat) (y : Nd), k < v ∧ ns[k]? = some y ∧ 0 < y.cust ∧ P.getD k 0 = P.getD a 0
open Classical in
noncomputable def dkW (ns : List Nd) (P : List Int) (a v : Nat) : Int := if dkTo ns P a v then 2 else 1
open Classical in
theorem dark_duty2 {nn : Nat} {ns : List Nd} {ds : List Dv} {s P : List Int} {i a : Nat} {nm : ByteArray} {kd xb co : Int} (hP : IsParts nn ds s P) (hd : Dark ds s) (hi : i < s.length) (hx : ds[i]? = some ⟨nm, kd, a, xb, co⟩) (hk : liveK kd) (ha : a < nn) (hl : ns.length = nn) : dutyAt nn ns ds s i ⟨nm, kd, a, xb, co⟩ = if HasK (· = 4) ds s a then 4 else dkW ns P a nn := by
  rw [dark_duty1 hP hd hi hx hk ⟨by simp only; omega, by simp only; omega⟩]
  simp only [Int.toNat_natCast, hl]
  rfl
theorem dkTo_succ {ns : List Nd} {P : List Int} {a v : Nat} {y : Nd} (hy : ns[v]? = some y) : dkTo ns P a (v + 1) ↔ dkTo ns P a v ∨ (0 < y.cust ∧ P.getD v 0 = P.getD a 0) := by
  constructor
  · rintro ⟨k, z, hk, hz, h1, h2⟩
    rcases Nat.lt_succ_iff_lt_or_eq.1 hk with h | rfl
    · exact .inl ⟨k, z, h, hz, h1, h2⟩
    · rw [hy] at hz; injection hz with hz; subst hz; exact .inr ⟨h1, h2⟩
  · rintro (⟨k, z, hk, hz, h1, h2⟩ | ⟨h1, h2⟩)
    · exact ⟨k, z, by omega, hz, h1, h2⟩
    · exact ⟨v, y, by omega, hy, h1, h2⟩
theorem dkW_same {ns : List Nd} {P : List Int} {a v : Nat} {y : Nd} (hy : ns[v]? = some y) (h : ¬ (0 < y.cust ∧ P.getD v 0 = P.getD a 0)) : dkW ns P a (v + 1) = dkW ns P a v := by
  unfold dkW
  rw [show dkTo ns P a (v + 1) = dkTo ns P a v from propext ((dkTo_succ hy).trans (or_iff_left h))]
theorem dkW_two {ns : List Nd} {P : List Int} {a v : Nat} {y : Nd} (hy : ns[v]? = some y) (h : 0 < y.cust ∧ P.getD v 0 = P.getD a 0) : dkW ns P a (v + 1) = 2 := by
  unfold dkW
  exact if_pos ((dkTo_succ hy).2 (.inr h))
theorem dkW_zero (ns : List Nd) (P : List Int) (a : Nat) : dkW ns P a 0 = 1 := by
  unfold dkW
  exact if_neg (by rintro ⟨k, y, hk, _⟩; omega)
theorem dkW_cases (ns : List Nd) (P : List Int) (a v : Nat) : dkW ns P a v = 1 ∨ dkW ns P a v = 2 := by
  unfold dkW
  split
  · exact .inr rfl
  · exact .inl rfl
def DkR3 (w8 : World) (bq nn : Nat) (V : Array Value) (ns : List Nd) (P : List Int) (a gk : Nat) (want iv : Value) (wr : World) : Prop := ∃ v : Nat, iv = .int .i64 v ∧ v ≤ nn ∧ gk = nn - v ∧ want = .int .i64 (dkW ns P a v) ∧ Hid (Below w8.heap.size w8 wr) ∧ Hid (Blk wr bq 38 V)
def DkR1 (w : World) (nb : Nat) (An : Option Addr) (nn cn : Nat) (ns : List Nd) (Ad : Option Addr) (nd cd : Nat) (ds : List Dv) (As : Option Addr) (cs gk : Nat) (iv : Value) (wr : World) : Prop := ∃ (i : Nat) (s : List Int), iv = .int .i64 i ∧ i ≤ nd ∧ gk = nd - i ∧ Hid (DkSt w nb An nn cn ns Ad nd cd ds As cs s wr) ∧ Hid (∀ p ∈ s, posB p = true) ∧ Hid (∀ (k : Nat) (x : Dv), k < i → ds[k]? = some x → liveK x.kind → s[k]? = some 1)
def DkR2 (w8 : World) (nd gk : Nat) (iv : Value) (wr : World) : Prop := ∃ i : Nat, iv = .int .i64 i ∧ i ≤ nd ∧ gk = nd - i ∧ Hid (Below w8.heap.size w8 wr)
set_option maxRecDepth 100000 in
set_option maxHeartbeats 8000000 in
theorem walk_DutyDark (w : World) (hl : Laid w) (A : Option Addr) (n c : Nat) (zs : List Int) (hs : Sl w w.heap.size 1 A n c (intsV zs)) (_hz : ∀ z ∈ zs, (Lit.int .i64 z).wf = true) :
    Calls Tryd.prog 5 #[.slice A n c] w fun e w' => e = .returned (.bool true) ∧ Below w.heap.size w w' := by
  have hnm := hs.le
  have HL := Lib.hid hl; have HS := Lib.hid hs
  clear hl hs _hz
  have HF := Lib.hid (few_any A n c w (by omega))
  rcases hf : decide (n ≤ 400) with _ | _
  · rw [hf] at HF
    clear hf
    go_enter Tryd.func5, Tryd.ntmps5
    go_wp2_with fail
    refine HF.out.mono ?_
    rintro e w1 ⟨rfl, rfl⟩
    go_wp2_with fail
    refine (awake_any w HL.out).mono ?_
    rintro e w1 ⟨rfl, hb⟩
    go_wp2_with fail
    go_ret
    exact ⟨rfl, hb⟩
  rw [hf] at HF
  clear hf
  go_enter Tryd.func5, Tryd.ntmps5
  go_wp2_with fail
  refine HF.out.mono ?_
  rintro e w1 ⟨rfl, rfl⟩
  go_wp2_with fail
  refine (new_any A n c w.heap.size zs w HS.out (Nat.le_refl _)).mono ?_
  rintro e w1 ⟨rfl, hd1, hb1, hs1⟩
  go_wp2_with fail
  refine (mknet_any w.heap.size 7 12 w1 hd1.out (by decide) (by decide)).mono ?_
  rintro e w2 ⟨An, nn, cn, ns, Ad, nd, cd, ds, rfl, hd2, hg2, hrn, hrd, hmade⟩
  have hz1 := hs1.out
  have HB2 := Lib.hid (hb1.out.trans (below_of_grown hg2.out (Nat.le_refl _) (by omega)))
  have hgw : w.heap.size < w1.heap.size := by omega
  have hlt2 := hd2.out.lt
  go_wp2_with fail
  have HD3 := Lib.hid (hd2.out.alloc (.cells #[.slice An nn cn, .slice Ad nd cd] 30))
  have HRN3 := Lib.hid (hrn.out.alloc (.cells #[.slice An nn cn, .slice Ad nd cd] 30))
  have HRD3 := Lib.hid (hrd.out.alloc (.cells #[.slice An nn cn, .slice Ad nd cd] 30))
  have HNB3 := Lib.hid (Blk.new w2 30 #[.slice An nn cn, .slice Ad nd cd])
  have HB3 := Lib.hid (HB2.out.alloc HB2.out.size (.cells #[.slice An nn cn, .slice Ad nd cd] 30))
  have HMA := Lib.hid hmade.out
  have HNN := Lib.hid ((Sl.of_own hrn.out).len (fun _ => rfl) (by decide))
  have HND := Lib.hid ((Sl.of_own hrd.out).len (fun _ => rfl) (by decide))
  have hnd12 : nd ≤ 12 := by have := hmade.out.dm; rw [HND.out] at this; omega
  have hnn7 : nn ≤ 7 := by have := hmade.out.nm; rw [HNN.out] at this; omega
  have HLN : Hid (∀ b, (Value.slice An nn cn).ownBlock = some b → b < w2.heap.size) := fun b e => (hrn.out.lt b e).2
  have HLDV : Hid (∀ b, (Value.slice Ad nd cd).ownBlock = some b → b < w2.heap.size) := fun b e => (hrd.out.lt b e).2
  have hw3z : (w2.alloc (.cells #[.slice An nn cn, .slice Ad nd cd] 30)).heap.size = w2.heap.size + 1 := by simp
  have HW3 := Lib.hid hw3z; clear hw3z
  clear hd1 hb1 hs1 hz1 hd2 hg2 hrn hrd hmade HB2
  generalize World.alloc _ _ = w3 at *
  obtain ⟨nb, hnb⟩ : ∃ nb, nb = w2.heap.size := ⟨_, rfl⟩
  rw [← hnb] at HNB3 HLN HLDV HW3 ⊢
  have hnbw : w.heap.size < nb := by omega
  clear hnb
  refine (mkstate_any w.heap.size An Ad nn cn nd cd ds w3 HD3.out (SlX.of_own HRD3.out (by omega)) (by omega)).mono ?_
  rintro e w5 ⟨As, cs, s, rfl, hd5, hg5, hO5, hpos⟩
  have HST5 : Hid (DkSt w nb An nn cn ns Ad nd cd ds As cs s w5) := ⟨HNB3.out.grown hg5.out (fun e => by injection e with e; omega), (Sl.of_own (hrnk HRN3.out hg5.out (by omega))).tight (fun b e => by have := HLN.out b e; omega), (Sl.of_own (hrnk HRD3.out hg5.out (by omega))).tight (fun b e => by have := HLDV.out b e; omega), hO5.out.mono (by have := HW3.out; omega), HB3.out.trans (below_of_grown hg5.out (Nat.le_refl _) (by have := HB3.out.size; omega)), hnbw⟩
  have HPO := Lib.hid hpos.out
  have HNM := Lib.hid HMA.out.names
  have HEN := HMA.out.ends
  rw [HNN.out] at HEN
  replace HEN := Lib.hid HEN
  have HKK : Hid (∀ x ∈ ds, 1 ≤ x.kind ∧ x.kind ≤ 6) := fun x hx => by
    obtain ⟨j, hj⟩ := List.mem_iff_getElem?.1 hx
    have := HMA.out.dok j x hj
    exact ⟨this.2.1, this.2.2.1⟩
  clear hd5 hg5 hO5 hpos HD3 HRN3 HRD3 HNB3 HB3 HS HF HLN HLDV HW3
  clear hlt2 hgw
  have k1 : w5.cell? ⟨nb, 1, none⟩ = some (.slice Ad nd cd) := HST5.out.bx.cell 1
  go_wp2_with fail
  clear k1
  go_loopg [32] nd (DkR1 w nb An nn cn ns Ad nd cd ds As cs)
  case atStart => exact ⟨0, s, rfl, Nat.zero_le _, rfl, HST5, HPO, fun k x hk => absurd hk (by omega)⟩
  case round =>
    clear HST5 HPO
    obtain ⟨i, s, rfl, hi, rfl, hst, hpos, hdk⟩ := hrel
    by_cases hlt : i < nd
    · obtain ⟨b0, off, x, rfl, hb0, hx, hc⟩ := hst.out.hd.at (fun _ => rfl) (by decide) hlt
      have HX := Lib.hid hx
      obtain ⟨nm, kd, xa, xb, co⟩ := x
      have c0 : wr.cell? ⟨b0, off + i * 5, none⟩ = some (.string nm) := hc 0 _ rfl
      have c1 : wr.cell? ⟨b0, off + i * 5 + 1, none⟩ = some (.int .i64 kd) := hc 1 _ rfl
      have c2 : wr.cell? ⟨b0, off + i * 5 + 2, none⟩ = some (.int .i64 xa) := hc 2 _ rfl
      have c3 : wr.cell? ⟨b0, off + i * 5 + 3, none⟩ = some (.int .i64 xb) := hc 3 _ rfl
      have c4 : wr.cell? ⟨b0, off + i * 5 + 4, none⟩ = some (.int .i64 co) := hc 4 _ rfl
      clear hc hx
      go_upto_region 9 with (fail)
      clear c0 c1 c2 c3 c4
      have HKD := Lib.hid (Blk.new wr 38 #[.string nm, .int .i64 kd, .int .i64 xa, .int .i64 xb, .int .i64 co])
      have HS1 := Lib.hid (hst.out.alloc (.cells #[.string nm, .int .i64 kd, .int .i64 xa, .int .i64 xb, .int .i64 co] 38))
      have HSL := Lib.hid hst.out.hs.len
      generalize World.alloc _ _ = w6 at *
      obtain ⟨bq, hbq⟩ : ∃ bq, bq = wr.heap.size := ⟨_, rfl⟩
      rw [← hbq] at HKD ⊢
      clear hbq hst
      have e1 : w6.cell? ⟨bq, 1, none⟩ = some (.int .i64 kd) := HKD.out.cell 1
      by_cases hk : liveK kd
      · obtain ⟨g, y, rfl, hcell, hfz, hput⟩ := HS1.out.put hlt 1
        have HPUT := Lib.hid hput
        have HPO : Hid (∀ p ∈ s.set i 1, posB p = true) := fun p hp => by
          rcases List.mem_or_eq_of_mem_set hp with h1 | h1
          · exact hpos.out p h1
          · rw [h1]; rfl
        have HDK : Hid (∀ (k : Nat) (x : Dv), k < i + 1 → ds[k]? = some x → liveK x.kind → (s.set i 1)[k]? = some 1) := fun k x hk1 hx hl => by
          rw [List.getElem?_set]
          split
          · rw [if_pos (by rw [HSL.out]; exact hlt)]
          · exact hdk.out k x (by omega) hx hl
        have q5 : (kd == 5) = true ∨ (kd == 5) = false ∧ (kd == 6) = true := by
          rcases hk with rfl | rfl
          · exact .inl rfl
          · exact .inr ⟨rfl, rfl⟩
        clear hk hput
        rcases q5 with q5 | ⟨q5, q6⟩
        · go_wp2_with fail
          go_roundg (nd - (i + 1))
          case rel => exact ⟨i + 1, _, by go_num, by omega, rfl, HPUT, HPO, HDK⟩
          case measure => omega
        · go_wp2_with fail
          go_roundg (nd - (i + 1))
          case rel => exact ⟨i + 1, _, by go_num, by omega, rfl, HPUT, HPO, HDK⟩
          case measure => omega
      · have q5 : (kd == 5) = false := by unfold liveK at hk; simp; omega
        have q6 : (kd == 6) = false := by unfold liveK at hk; simp; omega
        have HDK : Hid (∀ (k : Nat) (x : Dv), k < i + 1 → ds[k]? = some x → liveK x.kind → s[k]? = some 1) := fun k x hk1 hx hl => by
          rcases Nat.lt_succ_iff_lt_or_eq.1 hk1 with h | rfl
          · exact hdk.out k x h hx hl
          · rw [HX.out] at hx; injection hx with hx; subst hx; exact absurd hl hk
        clear hk
        go_wp2_with fail
        go_roundg (nd - (i + 1))
        case rel => exact ⟨i + 1, _, by go_num, by omega, rfl, HS1, hpos, HDK⟩
        case measure => omega
    · obtain rfl : i = nd := by omega
      have hii : decide (i < i) = false := by simp
      have HDK : Hid (Dark ds s) := fun k x hx hl => hdk.out k x (by have := (List.getElem?_eq_some_iff.1 hx).1; rw [HND.out] at this; exact this) hx hl
      have HLS := Lib.hid hst.out.hs.len
      have HSE := Lib.hid (HMA.out.state (by decide) (by decide) (s := s) (by rw [HLS.out, HND.out]) hpos.out)
      have HLr := Lib.hid (HL.out.below hst.out.bl (Nat.le_refl _))
      have k0 : wr.cell? ⟨nb, 0, none⟩ = some (.slice An nn cn) := hst.out.bx.cell 0
      have k1 : wr.cell? ⟨nb, 1, none⟩ = some (.slice Ad i cd) := hst.out.bx.cell 1
      clear hdk
      go_wp2_with fail
      clear k0 k1 hii
      refine (All_ok An Ad As nn cn i cd i cs (nb + 1) (nb + 1) wr.heap.size ns ds s wr HLr.out hst.out.hn hst.out.bx.lt hst.out.hd hst.out.bx.lt hst.out.hs.sl (Nat.le_refl _) HNM.out.1 HNM.out.2 HSE.out (by omega) (by omega) (Nat.le_refl _) HEN.out.1 HEN.out.2.1).mono ?_
      rintro e w6 ⟨Aa, al, rfl, hOa, hal, hb6⟩
      have HST6 := Lib.hid (hst.out.later hb6.out)
      clear hst HLr
      have k0 : w6.cell? ⟨nb, 0, none⟩ = some (.slice An nn cn) := HST6.out.bx.cell 0
      have k1 : w6.cell? ⟨nb, 1, none⟩ = some (.slice Ad i cd) := HST6.out.bx.cell 1
      go_wp2_with fail
      clear k0 k1
      have HC := Lib.hid (rparts_any An Ad As nn cn i cd i cs (nb + 1) (nb + 1) w6.heap.size ns ds s w6 HST6.out.hn HST6.out.hd HST6.out.hs.sl HST6.out.bx.lt HST6.out.bx.lt (Nat.le_refl _) HNM.out.1 HNM.out.2 (by omega) (fun _ => ⟨Nat.le_refl _, HEN.out.1, HEN.out.2.2⟩))
      rw [HSE.out] at HC
      refine HC.out.mono ?_
      rintro e w7 ⟨hb7, h | ⟨_, Ap, P, rfl, hOp, hIP⟩⟩
      · exact absurd rfl h.1
      have HST7 := Lib.hid (HST6.out.later hb7.out)
      have HOA7 := Lib.hid (hOa.out.later hb7.out)
      clear HST6 HC
      have k0 : w7.cell? ⟨nb, 0, none⟩ = some (.slice An nn cn) := HST7.out.bx.cell 0
      have k1 : w7.cell? ⟨nb, 1, none⟩ = some (.slice Ad i cd) := HST7.out.bx.cell 1
      go_wp2_with fail
      clear k0 k1
      have HC := Lib.hid (rcols_any An Ad As nn cn i cd i cs (nb + 1) (nb + 1) w7.heap.size ns ds s w7 HST7.out.hn HST7.out.hd HST7.out.hs.sl HST7.out.bx.lt HST7.out.bx.lt (Nat.le_refl _) HNM.out.1 HNM.out.2 (by omega) (fun _ => ⟨Nat.le_refl _, HEN.out.1, HEN.out.2.2⟩) (fun _ => ⟨HEN.out.2.1, HKK.out⟩))
      rw [HSE.out] at HC
      refine HC.out.mono ?_
      rintro e w8 ⟨hb8, h | ⟨_, Ac, C, rfl, hOc, hIC⟩⟩
      · exact absurd rfl h.1
      have HST8 := Lib.hid (HST7.out.later hb8.out)
      have HSA := Lib.hid (HOA7.out.later hb8.out).sl
      have HSP := Lib.hid (hOp.out.later hb8.out).sl
      have HSC := Lib.hid hOc.out.sl
      clear HST7 HC HOA7 hOa hOp hOc hb6 hb7 hb8
      have k1 : w8.cell? ⟨nb, 1, none⟩ = some (.slice Ad i cd) := HST8.out.bx.cell 1
      go_wp2_with fail
      clear k1
      go_loopg [79] i (DkR2 w8 i)
      case atStart => exact ⟨0, rfl, Nat.zero_le _, rfl, Below.refl _ _⟩
      case round =>
        obtain ⟨j, rfl, hj, rfl, hbl⟩ := hrel
        have HSr := Lib.hid (HST8.out.later hbl.out)
        by_cases hlt : j < i
        · obtain ⟨b0, off, x, rfl, hb0, hx, hc⟩ := HSr.out.hd.at (fun _ => rfl) (by decide) hlt
          have HX := Lib.hid hx
          obtain ⟨nm, kd, xa, xb, co⟩ := x
          have c0 : wr.cell? ⟨b0, off + j * 5, none⟩ = some (.string nm) := hc 0 _ rfl
          have c1 : wr.cell? ⟨b0, off + j * 5 + 1, none⟩ = some (.int .i64 kd) := hc 1 _ rfl
          have c2 : wr.cell? ⟨b0, off + j * 5 + 2, none⟩ = some (.int .i64 xa) := hc 2 _ rfl
          have c3 : wr.cell? ⟨b0, off + j * 5 + 3, none⟩ = some (.int .i64 xb) := hc 3 _ rfl
          have c4 : wr.cell? ⟨b0, off + j * 5 + 4, none⟩ = some (.int .i64 co) := hc 4 _ rfl
          clear hc hx
          go_upto_region 21 with (fail)
          clear c0 c1 c2 c3 c4
          have HKD := Lib.hid (Blk.new wr 38 #[.string nm, .int .i64 kd, .int .i64 xa, .int .i64 xb, .int .i64 co])
          have HBL1 := Lib.hid (hbl.out.alloc hbl.out.size (.cells #[.string nm, .int .i64 kd, .int .i64 xa, .int .i64 xb, .int .i64 co] 38))
          generalize World.alloc _ _ = w9 at *
          obtain ⟨bq, hbq⟩ : ∃ bq, bq = wr.heap.size := ⟨_, rfl⟩
          rw [← hbq] at HKD ⊢
          clear hbq hbl HSr
          have e1 : w9.cell? ⟨bq, 1, none⟩ = some (.int .i64 kd) := HKD.out.cell 1
          have HAL := Lib.hid (hal.out j _ HX.out)
          obtain ⟨ga, oa, rfl, hga, hca⟩ := (HSA.out.below HBL1.out (Nat.le_refl _)).2.2.2.2 (by omega)
          have CA : Hid (∀ wx, Below w8.heap.size w8 wx → wx.cell? ⟨ga, oa + j, none⟩ = some (.int .i64 (dutyAt nn ns ds s j ⟨nm, kd, xa, xb, co⟩))) := fun wx hwx => by
            obtain ⟨gb, ob, e, _, hcx⟩ := (HSA.out.below hwx (Nat.le_refl _)).2.2.2.2 (by omega)
            injection e with e; injection e with h1 h2; subst h1 h2
            exact hcx j _ (by have := flat_at (f := fun z => [Value.int .i64 z]) (size := 1) (fun _ => rfl) al j 0 _ HAL.out (by decide); rw [Nat.mul_one] at this; exact this)
          have ca := CA.out w9 HBL1.out
          clear hca hga HAL
          by_cases hk : liveK kd
          · have q5 : (kd == 5) = true ∨ (kd == 5) = false ∧ (kd == 6) = true := by
              rcases hk with rfl | rfl
              · exact .inl rfl
              · exact .inr ⟨rfl, rfl⟩
            have hm := List.mem_of_getElem? HX.out
            have hax := HEN.out.2.1 _ hm
            obtain ⟨a, rfl⟩ := Int.eq_ofNat_of_zero_le hax.1
            replace hax : a < nn := by have := hax.2; simp only at this; omega
            have HDV := Lib.hid (dark_duty2 hIP.out HDK.out (by rw [HLS.out]; exact hlt) HX.out hk hax HNN.out)
            obtain ⟨pb, po, pa, rfl, hpb, hpa, hcpa⟩ := HSP.out.at1 hax
            obtain ⟨cb, cof, ca0, rfl, hcb, hcaa, hcca⟩ := HSC.out.at1 hax
            have HCC : Hid (ca0 = ind (HasK (· = 4) ds s a) 2) := by
              have h1 := hIC.out.2 a hax
              rw [hcaa, dark_col HDK.out] at h1
              injection h1
            have HCB : Hid (∀ wx, Below w8.heap.size w8 wx → wx.cell? ⟨cb, cof + a, none⟩ = some (.int .i64 ca0)) := fun wx hwx => by
              obtain ⟨gb, ob, z, e, _, hz, hcx⟩ := (HSC.out.below hwx (Nat.le_refl _)).at1 hax
              injection e with e; injection e with h1 h2; subst h1 h2
              rw [hcaa] at hz; injection hz with hz; subst hz
              exact hcx
            have HPA := Lib.hid hpa
            clear hk hm ca hpa hcpa hcca hcaa
            rcases q5 with q5 | ⟨q5, q6⟩
            all_goals
              go_wp2_with fail
              clear e1
              go_loopg [16, 94] nn (DkR3 w8 bq nn #[.string nm, .int .i64 kd, .int .i64 a, .int .i64 xb, .int .i64 co] ns P a)
              case atStart => exact ⟨0, rfl, Nat.zero_le _, rfl, by rw [dkW_zero], HBL1, HKD⟩
              case round =>
                clear HBL1 HKD
                obtain ⟨v, rfl, hv, rfl, rfl, hbl, hkd⟩ := hrel
                by_cases hvt : v < nn
                · obtain ⟨b1, of1, y, rfl, hb1, hy, hc⟩ := (HST8.out.later hbl.out).hn.at (fun _ => rfl) (by decide) hvt
                  have HY := Lib.hid hy
                  obtain ⟨nm2, cu, co2⟩ := y
                  have c1 : wr.cell? ⟨b1, of1 + v * 3 + 1, none⟩ = some (.int .i64 cu) := hc 1 _ rfl
                  have k0 : wr.cell? ⟨nb, 0, none⟩ = some (.slice (some ⟨b1, of1, none⟩) nn cn) := (HST8.out.later hbl.out).bx.cell 0
                  have e2 : wr.cell? ⟨bq, 2, none⟩ = some (.int .i64 a) := hkd.out.cell 2
                  obtain ⟨pb1, po1, pv, hA1, _, hpv, hcv⟩ := (HSP.out.below hbl.out (Nat.le_refl _)).at1 hvt
                  obtain ⟨pb2, po2, pa2, hA2, _, hpa2, hca2⟩ := (HSP.out.below hbl.out (Nat.le_refl _)).at1 hax
                  injection hA1 with hA1; injection hA1 with h1 h2; subst h1 h2
                  injection hA2 with hA2; injection hA2 with h1 h2; subst h1 h2
                  obtain rfl : pa2 = pa := by rw [HPA.out] at hpa2; injection hpa2 with h; exact h.symm
                  have p1 : wr.cell? ⟨pb, po + v, none⟩ = some (.int .i64 pv) := hcv
                  have p2 : wr.cell? ⟨pb, po + a, none⟩ = some (.int .i64 pa2) := hca2
                  have HGV := Lib.hid (getD_of hpv); have HGA := Lib.hid (getD_of HPA.out)
                  clear hc hy hcv hca2 hpv hpa2
                  by_cases hpp : pv = pa2
                  · have qp : (pv == pa2) = true := by simpa using hpp
                    by_cases hcu : 0 < cu
                    · have qc : decide (0 < cu) = true := by simpa using hcu
                      have HW := Lib.hid (dkW_two (P := P) (a := a) HY.out ⟨hcu, by rw [HGV.out, HGA.out]; exact hpp⟩)
                      clear hpp hcu
                      go_upto_region 26 with (fail)
                      refine wp_region_J (S := fun W' => W'.cell? ⟨bq, 2, none⟩ = some (.int .i64 a) ∧ W'.cell? ⟨pb, po + v, none⟩ = some (.int .i64 pv) ∧ W'.cell? ⟨pb, po + a, none⟩ = some (.int .i64 pa2) ∧ W'.cell? ⟨nb, 0, none⟩ = some (.slice (some ⟨b1, of1, none⟩) nn cn) ∧ W'.cell? ⟨b1, of1 + v * 3 + 1, none⟩ = some (.int .i64 cu)) (J := []) (by kernel_rfl) ?_ (fun hHeld => ?_)
                      · exact ⟨e2, p1, p2, k0, c1⟩
                      try dsimp only at hHeld
                      refine wpAnyJ_takeL (i := 0) (d := some 97) (v := ?_) #[true, false, false, false, false, false, false, false, false, false, false, false, false, false, false, false, false, false, false] (by kernel_rfl) rfl rfl (by kernel_rfl) (by kernel_rfl) (by kernel_rfl) (by kernel_rfl) (by kernel_rfl) (fun _ _ _ h => h) (Or.inl ⟨by rfl, ?_⟩) hHeld ?_
                      rotate_left
                      · (intro w hSw; (try dsimp only at hSw);  go_simp; try with_reducible rfl)
                      try simp only [Act.put, List.setIfInBounds_toArray, List.set_cons_zero, List.set_cons_succ]
                      refine wpAnyJ_takeL (i := 1) (d := some 98) (v := ?_) #[true, true, false, false, false, false, false, false, false, false, false, false, false, false, false, false, false, false, false] (by kernel_rfl) rfl rfl (by kernel_rfl) (by kernel_rfl) (by kernel_rfl) (by kernel_rfl) (by kernel_rfl) (fun _ _ _ h => h) (Or.inl ⟨by rfl, ?_⟩) hHeld ?_
                      rotate_left
                      · (intro w hSw; (try dsimp only at hSw);  go_simp; try with_reducible rfl)
                      try simp only [Act.put, List.setIfInBounds_toArray, List.set_cons_zero, List.set_cons_succ]
                      refine wpAnyJ_takeL (i := 2) (d := some 99) (v := ?_) #[true, true, true, false, false, false, false, false, false, false, false, false, false, false, false, false, false, false, false] (by kernel_rfl) rfl rfl (by kernel_rfl) (by kernel_rfl) (by kernel_rfl) (by kernel_rfl) (by kernel_rfl) (fun _ _ _ h => h) (Or.inl ⟨by rfl, ?_⟩) hHeld ?_
                      rotate_left
                      · (intro w hSw; (try dsimp only at hSw);  go_simp; try with_reducible rfl)
                      try simp only [Act.put, List.setIfInBounds_toArray, List.set_cons_zero, List.set_cons_succ]
                      refine wpAnyJ_takeL (i := 3) (d := some 100) (v := ?_) #[true, true, true, true, false, false, false, false, false, false, false, false, false, false, false, false, false, false, false] (by kernel_rfl) rfl rfl (by kernel_rfl) (by kernel_rfl) (by kernel_rfl) (by kernel_rfl) (by kernel_rfl) (fun _ _ _ h => h) (Or.inl ⟨by rfl, ?_⟩) hHeld ?_
                      rotate_left
                      · (intro w hSw; (try dsimp only at hSw);  go_simp; try with_reducible rfl)
                      try simp only [Act.put, List.setIfInBounds_toArray, List.set_cons_zero, List.set_cons_succ]
                      refine wpAnyJ_takeL (i := 4) (d := some 101) (v := ?_) #[true, true, true, true, true, false, false, false, false, false, false, false, false, false, false, false, false, false, false] (by kernel_rfl) rfl rfl (by kernel_rfl) (by kernel_rfl) (by kernel_rfl) (by kernel_rfl) (by kernel_rfl) (fun _ _ _ h => h) (Or.inl ⟨by rfl, ?_⟩) hHeld ?_
                      rotate_left
                      · (intro w hSw; (try dsimp only at hSw);  go_simp; try with_reducible rfl)
                      try simp only [Act.put, List.setIfInBounds_toArray, List.set_cons_zero, List.set_cons_succ]
                      refine wpAnyJ_takeL (i := 5) (d := some 102) (v := ?_) #[true, true, true, true, true, true, false, false, false, false, false, false, false, false, false, false, false, false, false] (by kernel_rfl) rfl rfl (by kernel_rfl) (by kernel_rfl) (by kernel_rfl) (by kernel_rfl) (by kernel_rfl) (fun _ _ _ h => h) (Or.inl ⟨by rfl, ?_⟩) hHeld ?_
                      rotate_left
                      · (intro w hSw; (try dsimp only at hSw);  go_simp; try with_reducible rfl)
                      try simp only [Act.put, List.setIfInBounds_toArray, List.set_cons_zero, List.set_cons_succ]
                      refine wpAnyJ_takeL (i := 6) (d := some 103) (v := ?_) #[true, true, true, true, true, true, true, false, false, false, false, false, false, false, false, false, false, false, false] (by kernel_rfl) rfl rfl (by kernel_rfl) (by kernel_rfl) (by kernel_rfl) (by kernel_rfl) (by kernel_rfl) (fun _ _ _ h => h) (Or.inl ⟨by rfl, ?_⟩) hHeld ?_
                      rotate_left
                      · (intro w hSw; (try dsimp only at hSw);  go_simp; try with_reducible rfl)
                      try simp only [Act.put, List.setIfInBounds_toArray, List.set_cons_zero, List.set_cons_succ]
                      refine wpAnyJ_takeL (i := 7) (d := some 104) (v := ?_) #[true, true, true, true, true, true, true, true, false, false, false, false, false, false, false, false, false, false, false] (by kernel_rfl) rfl rfl (by kernel_rfl) (by kernel_rfl) (by kernel_rfl) (by kernel_rfl) (by kernel_rfl) (fun _ _ _ h => h) (Or.inl ⟨by rfl, ?_⟩) hHeld ?_
                      rotate_left
                      · (intro w hSw; (try dsimp only at hSw);  go_simp; try with_reducible rfl)
                      try simp only [Act.put, List.setIfInBounds_toArray, List.set_cons_zero, List.set_cons_succ]
                      refine wpAnyJ_takeL (i := 8) (d := some 105) (v := ?_) #[true, true, true, true, true, true, true, true, true, false, false, false, false, false, false, false, false, false, false] (by kernel_rfl) rfl rfl (by kernel_rfl) (by kernel_rfl) (by kernel_rfl) (by kernel_rfl) (by kernel_rfl) (fun _ _ _ h => h) (Or.inl ⟨by rfl, ?_⟩) hHeld ?_
                      rotate_left
                      · (intro w hSw; (try dsimp only at hSw);  go_simp; try with_reducible rfl)
                      try simp only [Act.put, List.setIfInBounds_toArray, List.set_cons_zero, List.set_cons_succ]
                      refine wpAnyJ_takeL (i := 9) (d := some 106) (v := ?_) #[true, true, true, true, true, true, true, true, true, true, false, false, false, false, false, false, false, false, false] (by kernel_rfl) rfl rfl (by kernel_rfl) (by kernel_rfl) (by kernel_rfl) (by kernel_rfl) (by kernel_rfl) (fun _ _ _ h => h) (Or.inl ⟨by rfl, ?_⟩) hHeld ?_
                      rotate_left
                      · (intro w hSw; (try dsimp only at hSw);  go_simp; try with_reducible rfl)
                      try simp only [Act.put, List.setIfInBounds_toArray, List.set_cons_zero, List.set_cons_succ]
                      refine wpAnyJ_takeL (i := 10) (d := some 107) (v := ?_) #[true, true, true, true, true, true, true, true, true, true, true, false, false, false, false, false, false, false, false] (by kernel_rfl) rfl rfl (by kernel_rfl) (by kernel_rfl) (by kernel_rfl) (by kernel_rfl) (by kernel_rfl) (fun _ _ _ h => h) (Or.inl ⟨by rfl, ?_⟩) hHeld ?_
                      rotate_left
                      · (intro w hSw; (try dsimp only at hSw);  go_simp; try with_reducible rfl)
                      try simp only [Act.put, List.setIfInBounds_toArray, List.set_cons_zero, List.set_cons_succ]
                      refine wpAnyJ_takeL (i := 11) (d := some 108) (v := ?_) #[true, true, true, true, true, true, true, true, true, true, true, true, false, false, false, false, false, false, false] (by kernel_rfl) rfl rfl (by kernel_rfl) (by kernel_rfl) (by kernel_rfl) (by kernel_rfl) (by kernel_rfl) (fun _ _ _ h => h) (Or.inl ⟨by rfl, ?_⟩) hHeld ?_
                      rotate_left
                      · (intro w hSw; (try dsimp only at hSw);  go_simp; try with_reducible rfl)
                      try simp only [Act.put, List.setIfInBounds_toArray, List.set_cons_zero, List.set_cons_succ]
                      refine wpAnyJ_takeL (i := 12) (d := some 109) (v := ?_) #[true, true, true, true, true, true, true, true, true, true, true, true, true, false, false, false, false, false, false] (by kernel_rfl) rfl rfl (by kernel_rfl) (by kernel_rfl) (by kernel_rfl) (by kernel_rfl) (by kernel_rfl) (fun _ _ _ h => h) (Or.inl ⟨by rfl, ?_⟩) hHeld ?_
                      rotate_left
                      · (intro w hSw; (try dsimp only at hSw);  go_simp; try with_reducible rfl)
                      try simp only [Act.put, List.setIfInBounds_toArray, List.set_cons_zero, List.set_cons_succ]
                      refine wpAnyJ_takeL (i := 13) (d := some 110) (v := ?_) #[true, true, true, true, true, true, true, true, true, true, true, true, true, true, false, false, false, false, false] (by kernel_rfl) rfl rfl (by kernel_rfl) (by kernel_rfl) (by kernel_rfl) (by kernel_rfl) (by kernel_rfl) (fun _ _ _ h => h) (Or.inl ⟨by rfl, ?_⟩) hHeld ?_
                      rotate_left
                      · (intro w hSw; (try dsimp only at hSw);  go_simp; try with_reducible rfl)
                      try simp only [Act.put, List.setIfInBounds_toArray, List.set_cons_zero, List.set_cons_succ]
                      refine wpAnyJ_takeL (i := 14) (d := some 111) (v := ?_) #[true, true, true, true, true, true, true, true, true, true, true, true, true, true, true, false, false, false, false] (by kernel_rfl) rfl rfl (by kernel_rfl) (by kernel_rfl) (by kernel_rfl) (by kernel_rfl) (by kernel_rfl) (fun _ _ _ h => h) (Or.inl ⟨by rfl, ?_⟩) hHeld ?_
                      rotate_left
                      · (intro w hSw; (try dsimp only at hSw);  go_simp; try with_reducible rfl)
                      try simp only [Act.put, List.setIfInBounds_toArray, List.set_cons_zero, List.set_cons_succ]
                      refine wpAnyJ_takeL (i := 15) (d := some 112) (v := ?_) #[true, true, true, true, true, true, true, true, true, true, true, true, true, true, true, true, false, false, false] (by kernel_rfl) rfl rfl (by kernel_rfl) (by kernel_rfl) (by kernel_rfl) (by kernel_rfl) (by kernel_rfl) (fun _ _ _ h => h) (Or.inl ⟨by rfl, ?_⟩) hHeld ?_
                      rotate_left
                      · (intro w hSw; (try dsimp only at hSw);  go_simp; try with_reducible rfl)
                      try simp only [Act.put, List.setIfInBounds_toArray, List.set_cons_zero, List.set_cons_succ]
                      refine wpAnyJ_takeL (i := 16) (d := some 113) (v := ?_) #[true, true, true, true, true, true, true, true, true, true, true, true, true, true, true, true, true, false, false] (by kernel_rfl) rfl rfl (by kernel_rfl) (by kernel_rfl) (by kernel_rfl) (by kernel_rfl) (by kernel_rfl) (fun _ _ _ h => h) (Or.inl ⟨by rfl, ?_⟩) hHeld ?_
                      rotate_left
                      · (intro w hSw; (try dsimp only at hSw);  go_simp; try with_reducible rfl)
                      try simp only [Act.put, List.setIfInBounds_toArray, List.set_cons_zero, List.set_cons_succ]
                      refine wpAnyJ_takeL (i := 17) (d := some 114) (v := ?_) #[true, true, true, true, true, true, true, true, true, true, true, true, true, true, true, true, true, true, false] (by kernel_rfl) rfl rfl (by kernel_rfl) (by kernel_rfl) (by kernel_rfl) (by kernel_rfl) (by kernel_rfl) (fun _ _ _ h => h) (Or.inl ⟨by rfl, ?_⟩) hHeld ?_
                      rotate_left
                      · (intro w hSw; (try dsimp only at hSw);  go_simp; try with_reducible rfl)
                      try simp only [Act.put, List.setIfInBounds_toArray, List.set_cons_zero, List.set_cons_succ]
                      refine wpAnyJ_takeL (i := 18) (d := some 115) (v := ?_) #[true, true, true, true, true, true, true, true, true, true, true, true, true, true, true, true, true, true, true] (by kernel_rfl) rfl rfl (by kernel_rfl) (by kernel_rfl) (by kernel_rfl) (by kernel_rfl) (by kernel_rfl) (fun _ _ _ h => h) (Or.inl ⟨by rfl, ?_⟩) hHeld ?_
                      rotate_left
                      · (intro w hSw; (try dsimp only at hSw);  go_simp; try with_reducible rfl)
                      try simp only [Act.put, List.setIfInBounds_toArray, List.set_cons_zero, List.set_cons_succ]
                      refine wpAnyJ_done (by kernel_rfl) ?_ _
                      clear hHeld
                      go_wp2_with fail
                      go_roundg (nn - (v + 1))
                      case rel => exact ⟨v + 1, by go_num, by omega, rfl, by rw [HW.out], hbl.out.drew, hkd⟩
                      case measure => omega
                    · have qc : decide (0 < cu) = false := by simpa using hcu
                      have HW := Lib.hid (dkW_same (P := P) (a := a) HY.out (fun h => hcu h.1))
                      clear hpp hcu
                      go_upto_region 26 with (fail)
                      refine wp_region_J (S := fun W' => W'.cell? ⟨bq, 2, none⟩ = some (.int .i64 a) ∧ W'.cell? ⟨pb, po + v, none⟩ = some (.int .i64 pv) ∧ W'.cell? ⟨pb, po + a, none⟩ = some (.int .i64 pa2) ∧ W'.cell? ⟨nb, 0, none⟩ = some (.slice (some ⟨b1, of1, none⟩) nn cn) ∧ W'.cell? ⟨b1, of1 + v * 3 + 1, none⟩ = some (.int .i64 cu)) (J := []) (by kernel_rfl) ?_ (fun hHeld => ?_)
                      · exact ⟨e2, p1, p2, k0, c1⟩
                      try dsimp only at hHeld
                      refine wpAnyJ_takeL (i := 0) (d := some 97) (v := ?_) #[true, false, false, false, false, false, false, false, false, false, false, false, false, false, false, false, false, false, false] (by kernel_rfl) rfl rfl (by kernel_rfl) (by kernel_rfl) (by kernel_rfl) (by kernel_rfl) (by kernel_rfl) (fun _ _ _ h => h) (Or.inl ⟨by rfl, ?_⟩) hHeld ?_
                      rotate_left
                      · (intro w hSw; (try dsimp only at hSw);  go_simp; try with_reducible rfl)
                      try simp only [Act.put, List.setIfInBounds_toArray, List.set_cons_zero, List.set_cons_succ]
                      refine wpAnyJ_takeL (i := 1) (d := some 98) (v := ?_) #[true, true, false, false, false, false, false, false, false, false, false, false, false, false, false, false, false, false, false] (by kernel_rfl) rfl rfl (by kernel_rfl) (by kernel_rfl) (by kernel_rfl) (by kernel_rfl) (by kernel_rfl) (fun _ _ _ h => h) (Or.inl ⟨by rfl, ?_⟩) hHeld ?_
                      rotate_left
                      · (intro w hSw; (try dsimp only at hSw);  go_simp; try with_reducible rfl)
                      try simp only [Act.put, List.setIfInBounds_toArray, List.set_cons_zero, List.set_cons_succ]
                      refine wpAnyJ_takeL (i := 2) (d := some 99) (v := ?_) #[true, true, true, false, false, false, false, false, false, false, false, false, false, false, false, false, false, false, false] (by kernel_rfl) rfl rfl (by kernel_rfl) (by kernel_rfl) (by kernel_rfl) (by kernel_rfl) (by kernel_rfl) (fun _ _ _ h => h) (Or.inl ⟨by rfl, ?_⟩) hHeld ?_
                      rotate_left
                      · (intro w hSw; (try dsimp only at hSw);  go_simp; try with_reducible rfl)
                      try simp only [Act.put, List.setIfInBounds_toArray, List.set_cons_zero, List.set_cons_succ]
                      refine wpAnyJ_takeL (i := 3) (d := some 100) (v := ?_) #[true, true, true, true, false, false, false, false, false, false, false, false, false, false, false, false, false, false, false] (by kernel_rfl) rfl rfl (by kernel_rfl) (by kernel_rfl) (by kernel_rfl) (by kernel_rfl) (by kernel_rfl) (fun _ _ _ h => h) (Or.inl ⟨by rfl, ?_⟩) hHeld ?_
                      rotate_left
                      · (intro w hSw; (try dsimp only at hSw);  go_simp; try with_reducible rfl)
                      try simp only [Act.put, List.setIfInBounds_toArray, List.set_cons_zero, List.set_cons_succ]
                      refine wpAnyJ_takeL (i := 4) (d := some 101) (v := ?_) #[true, true, true, true, true, false, false, false, false, false, false, false, false, false, false, false, false, false, false] (by kernel_rfl) rfl rfl (by kernel_rfl) (by kernel_rfl) (by kernel_rfl) (by kernel_rfl) (by kernel_rfl) (fun _ _ _ h => h) (Or.inl ⟨by rfl, ?_⟩) hHeld ?_
                      rotate_left
                      · (intro w hSw; (try dsimp only at hSw);  go_simp; try with_reducible rfl)
                      try simp only [Act.put, List.setIfInBounds_toArray, List.set_cons_zero, List.set_cons_succ]
                      refine wpAnyJ_takeL (i := 5) (d := some 102) (v := ?_) #[true, true, true, true, true, true, false, false, false, false, false, false, false, false, false, false, false, false, false] (by kernel_rfl) rfl rfl (by kernel_rfl) (by kernel_rfl) (by kernel_rfl) (by kernel_rfl) (by kernel_rfl) (fun _ _ _ h => h) (Or.inl ⟨by rfl, ?_⟩) hHeld ?_
                      rotate_left
                      · (intro w hSw; (try dsimp only at hSw);  go_simp; try with_reducible rfl)
                      try simp only [Act.put, List.setIfInBounds_toArray, List.set_cons_zero, List.set_cons_succ]
                      refine wpAnyJ_takeL (i := 6) (d := some 103) (v := ?_) #[true, true, true, true, true, true, true, false, false, false, false, false, false, false, false, false, false, false, false] (by kernel_rfl) rfl rfl (by kernel_rfl) (by kernel_rfl) (by kernel_rfl) (by kernel_rfl) (by kernel_rfl) (fun _ _ _ h => h) (Or.inl ⟨by rfl, ?_⟩) hHeld ?_
                      rotate_left
                      · (intro w hSw; (try dsimp only at hSw);  go_simp; try with_reducible rfl)
                      try simp only [Act.put, List.setIfInBounds_toArray, List.set_cons_zero, List.set_cons_succ]
                      refine wpAnyJ_takeL (i := 7) (d := some 104) (v := ?_) #[true, true, true, true, true, true, true, true, false, false, false, false, false, false, false, false, false, false, false] (by kernel_rfl) rfl rfl (by kernel_rfl) (by kernel_rfl) (by kernel_rfl) (by kernel_rfl) (by kernel_rfl) (fun _ _ _ h => h) (Or.inl ⟨by rfl, ?_⟩) hHeld ?_
                      rotate_left
                      · (intro w hSw; (try dsimp only at hSw);  go_simp; try with_reducible rfl)
                      try simp only [Act.put, List.setIfInBounds_toArray, List.set_cons_zero, List.set_cons_succ]
                      refine wpAnyJ_takeL (i := 8) (d := some 105) (v := ?_) #[true, true, true, true, true, true, true, true, true, false, false, false, false, false, false, false, false, false, false] (by kernel_rfl) rfl rfl (by kernel_rfl) (by kernel_rfl) (by kernel_rfl) (by kernel_rfl) (by kernel_rfl) (fun _ _ _ h => h) (Or.inl ⟨by rfl, ?_⟩) hHeld ?_
                      rotate_left
                      · (intro w hSw; (try dsimp only at hSw);  go_simp; try with_reducible rfl)
                      try simp only [Act.put, List.setIfInBounds_toArray, List.set_cons_zero, List.set_cons_succ]
                      refine wpAnyJ_takeL (i := 9) (d := some 106) (v := ?_) #[true, true, true, true, true, true, true, true, true, true, false, false, false, false, false, false, false, false, false] (by kernel_rfl) rfl rfl (by kernel_rfl) (by kernel_rfl) (by kernel_rfl) (by kernel_rfl) (by kernel_rfl) (fun _ _ _ h => h) (Or.inl ⟨by rfl, ?_⟩) hHeld ?_
                      rotate_left
                      · (intro w hSw; (try dsimp only at hSw);  go_simp; try with_reducible rfl)
                      try simp only [Act.put, List.setIfInBounds_toArray, List.set_cons_zero, List.set_cons_succ]
                      refine wpAnyJ_takeL (i := 10) (d := some 107) (v := ?_) #[true, true, true, true, true, true, true, true, true, true, true, false, false, false, false, false, false, false, false] (by kernel_rfl) rfl rfl (by kernel_rfl) (by kernel_rfl) (by kernel_rfl) (by kernel_rfl) (by kernel_rfl) (fun _ _ _ h => h) (Or.inl ⟨by rfl, ?_⟩) hHeld ?_
                      rotate_left
                      · (intro w hSw; (try dsimp only at hSw);  go_simp; try with_reducible rfl)
                      try simp only [Act.put, List.setIfInBounds_toArray, List.set_cons_zero, List.set_cons_succ]
                      refine wpAnyJ_takeL (i := 11) (d := some 108) (v := ?_) #[true, true, true, true, true, true, true, true, true, true, true, true, false, false, false, false, false, false, false] (by kernel_rfl) rfl rfl (by kernel_rfl) (by kernel_rfl) (by kernel_rfl) (by kernel_rfl) (by kernel_rfl) (fun _ _ _ h => h) (Or.inl ⟨by rfl, ?_⟩) hHeld ?_
                      rotate_left
                      · (intro w hSw; (try dsimp only at hSw);  go_simp; try with_reducible rfl)
                      try simp only [Act.put, List.setIfInBounds_toArray, List.set_cons_zero, List.set_cons_succ]
                      refine wpAnyJ_takeL (i := 12) (d := some 109) (v := ?_) #[true, true, true, true, true, true, true, true, true, true, true, true, true, false, false, false, false, false, false] (by kernel_rfl) rfl rfl (by kernel_rfl) (by kernel_rfl) (by kernel_rfl) (by kernel_rfl) (by kernel_rfl) (fun _ _ _ h => h) (Or.inl ⟨by rfl, ?_⟩) hHeld ?_
                      rotate_left
                      · (intro w hSw; (try dsimp only at hSw);  go_simp; try with_reducible rfl)
                      try simp only [Act.put, List.setIfInBounds_toArray, List.set_cons_zero, List.set_cons_succ]
                      refine wpAnyJ_takeL (i := 13) (d := some 110) (v := ?_) #[true, true, true, true, true, true, true, true, true, true, true, true, true, true, false, false, false, false, false] (by kernel_rfl) rfl rfl (by kernel_rfl) (by kernel_rfl) (by kernel_rfl) (by kernel_rfl) (by kernel_rfl) (fun _ _ _ h => h) (Or.inl ⟨by rfl, ?_⟩) hHeld ?_
                      rotate_left
                      · (intro w hSw; (try dsimp only at hSw);  go_simp; try with_reducible rfl)
                      try simp only [Act.put, List.setIfInBounds_toArray, List.set_cons_zero, List.set_cons_succ]
                      refine wpAnyJ_takeL (i := 14) (d := some 111) (v := ?_) #[true, true, true, true, true, true, true, true, true, true, true, true, true, true, true, false, false, false, false] (by kernel_rfl) rfl rfl (by kernel_rfl) (by kernel_rfl) (by kernel_rfl) (by kernel_rfl) (by kernel_rfl) (fun _ _ _ h => h) (Or.inl ⟨by rfl, ?_⟩) hHeld ?_
                      rotate_left
                      · (intro w hSw; (try dsimp only at hSw);  go_simp; try with_reducible rfl)
                      try simp only [Act.put, List.setIfInBounds_toArray, List.set_cons_zero, List.set_cons_succ]
                      refine wpAnyJ_takeL (i := 15) (d := some 112) (v := ?_) #[true, true, true, true, true, true, true, true, true, true, true, true, true, true, true, true, false, false, false] (by kernel_rfl) rfl rfl (by kernel_rfl) (by kernel_rfl) (by kernel_rfl) (by kernel_rfl) (by kernel_rfl) (fun _ _ _ h => h) (Or.inl ⟨by rfl, ?_⟩) hHeld ?_
                      rotate_left
                      · (intro w hSw; (try dsimp only at hSw);  go_simp; try with_reducible rfl)
                      try simp only [Act.put, List.setIfInBounds_toArray, List.set_cons_zero, List.set_cons_succ]
                      refine wpAnyJ_takeL (i := 16) (d := some 113) (v := ?_) #[true, true, true, true, true, true, true, true, true, true, true, true, true, true, true, true, true, false, false] (by kernel_rfl) rfl rfl (by kernel_rfl) (by kernel_rfl) (by kernel_rfl) (by kernel_rfl) (by kernel_rfl) (fun _ _ _ h => h) (Or.inl ⟨by rfl, ?_⟩) hHeld ?_
                      rotate_left
                      · (intro w hSw; (try dsimp only at hSw);  go_simp; try with_reducible rfl)
                      try simp only [Act.put, List.setIfInBounds_toArray, List.set_cons_zero, List.set_cons_succ]
                      refine wpAnyJ_takeL (i := 17) (d := some 114) (v := ?_) #[true, true, true, true, true, true, true, true, true, true, true, true, true, true, true, true, true, true, false] (by kernel_rfl) rfl rfl (by kernel_rfl) (by kernel_rfl) (by kernel_rfl) (by kernel_rfl) (by kernel_rfl) (fun _ _ _ h => h) (Or.inl ⟨by rfl, ?_⟩) hHeld ?_
                      rotate_left
                      · (intro w hSw; (try dsimp only at hSw);  go_simp; try with_reducible rfl)
                      try simp only [Act.put, List.setIfInBounds_toArray, List.set_cons_zero, List.set_cons_succ]
                      refine wpAnyJ_takeL (i := 18) (d := some 115) (v := ?_) #[true, true, true, true, true, true, true, true, true, true, true, true, true, true, true, true, true, true, true] (by kernel_rfl) rfl rfl (by kernel_rfl) (by kernel_rfl) (by kernel_rfl) (by kernel_rfl) (by kernel_rfl) (fun _ _ _ h => h) (Or.inl ⟨by rfl, ?_⟩) hHeld ?_
                      rotate_left
                      · (intro w hSw; (try dsimp only at hSw);  go_simp; try with_reducible rfl)
                      try simp only [Act.put, List.setIfInBounds_toArray, List.set_cons_zero, List.set_cons_succ]
                      refine wpAnyJ_done (by kernel_rfl) ?_ _
                      clear hHeld
                      go_wp2_with fail
                      go_roundg (nn - (v + 1))
                      case rel => exact ⟨v + 1, by go_num, by omega, rfl, by rw [HW.out], hbl.out.drew, hkd⟩
                      case measure => omega
                  · have qp : (pv == pa2) = false := by simpa using hpp
                    have HW := Lib.hid (dkW_same (P := P) (a := a) HY.out (fun h => hpp (by have := h.2; rw [HGV.out, HGA.out] at this; exact this)))
                    clear hpp
                    go_upto_region 26 with (fail)
                    refine wp_region_J (S := fun W' => W'.cell? ⟨bq, 2, none⟩ = some (.int .i64 a) ∧ W'.cell? ⟨pb, po + v, none⟩ = some (.int .i64 pv) ∧ W'.cell? ⟨pb, po + a, none⟩ = some (.int .i64 pa2)) (J := []) (by kernel_rfl) ?_ (fun hHeld => ?_)
                    · exact ⟨e2, p1, p2⟩
                    try dsimp only at hHeld
                    refine wpAnyJ_takeL (i := 0) (d := some 97) (v := ?_) #[true, false, false, false, false, false, false, false, false, false, false, false, false, false, false, false, false, false, false] (by kernel_rfl) rfl rfl (by kernel_rfl) (by kernel_rfl) (by kernel_rfl) (by kernel_rfl) (by kernel_rfl) (fun _ _ _ h => h) (Or.inl ⟨by rfl, ?_⟩) hHeld ?_
                    rotate_left
                    · (intro w hSw; (try dsimp only at hSw);  go_simp; try with_reducible rfl)
                    try simp only [Act.put, List.setIfInBounds_toArray, List.set_cons_zero, List.set_cons_succ]
                    refine wpAnyJ_takeL (i := 1) (d := some 98) (v := ?_) #[true, true, false, false, false, false, false, false, false, false, false, false, false, false, false, false, false, false, false] (by kernel_rfl) rfl rfl (by kernel_rfl) (by kernel_rfl) (by kernel_rfl) (by kernel_rfl) (by kernel_rfl) (fun _ _ _ h => h) (Or.inl ⟨by rfl, ?_⟩) hHeld ?_
                    rotate_left
                    · (intro w hSw; (try dsimp only at hSw);  go_simp; try with_reducible rfl)
                    try simp only [Act.put, List.setIfInBounds_toArray, List.set_cons_zero, List.set_cons_succ]
                    refine wpAnyJ_takeL (i := 2) (d := some 99) (v := ?_) #[true, true, true, false, false, false, false, false, false, false, false, false, false, false, false, false, false, false, false] (by kernel_rfl) rfl rfl (by kernel_rfl) (by kernel_rfl) (by kernel_rfl) (by kernel_rfl) (by kernel_rfl) (fun _ _ _ h => h) (Or.inl ⟨by rfl, ?_⟩) hHeld ?_
                    rotate_left
                    · (intro w hSw; (try dsimp only at hSw);  go_simp; try with_reducible rfl)
                    try simp only [Act.put, List.setIfInBounds_toArray, List.set_cons_zero, List.set_cons_succ]
                    refine wpAnyJ_takeL (i := 3) (d := some 100) (v := ?_) #[true, true, true, true, false, false, false, false, false, false, false, false, false, false, false, false, false, false, false] (by kernel_rfl) rfl rfl (by kernel_rfl) (by kernel_rfl) (by kernel_rfl) (by kernel_rfl) (by kernel_rfl) (fun _ _ _ h => h) (Or.inl ⟨by rfl, ?_⟩) hHeld ?_
                    rotate_left
                    · (intro w hSw; (try dsimp only at hSw);  go_simp; try with_reducible rfl)
                    try simp only [Act.put, List.setIfInBounds_toArray, List.set_cons_zero, List.set_cons_succ]
                    refine wpAnyJ_takeL (i := 4) (d := some 101) (v := ?_) #[true, true, true, true, true, false, false, false, false, false, false, false, false, false, false, false, false, false, false] (by kernel_rfl) rfl rfl (by kernel_rfl) (by kernel_rfl) (by kernel_rfl) (by kernel_rfl) (by kernel_rfl) (fun _ _ _ h => h) (Or.inl ⟨by rfl, ?_⟩) hHeld ?_
                    rotate_left
                    · (intro w hSw; (try dsimp only at hSw);  go_simp; try with_reducible rfl)
                    try simp only [Act.put, List.setIfInBounds_toArray, List.set_cons_zero, List.set_cons_succ]
                    refine wpAnyJ_takeL (i := 5) (d := some 102) (v := ?_) #[true, true, true, true, true, true, false, false, false, false, false, false, false, false, false, false, false, false, false] (by kernel_rfl) rfl rfl (by kernel_rfl) (by kernel_rfl) (by kernel_rfl) (by kernel_rfl) (by kernel_rfl) (fun _ _ _ h => h) (Or.inl ⟨by rfl, ?_⟩) hHeld ?_
                    rotate_left
                    · (intro w hSw; (try dsimp only at hSw);  go_simp; try with_reducible rfl)
                    try simp only [Act.put, List.setIfInBounds_toArray, List.set_cons_zero, List.set_cons_succ]
                    refine wpAnyJ_takeL (i := 6) (d := some 103) (v := ?_) #[true, true, true, true, true, true, true, false, false, false, false, false, false, false, false, false, false, false, false] (by kernel_rfl) rfl rfl (by kernel_rfl) (by kernel_rfl) (by kernel_rfl) (by kernel_rfl) (by kernel_rfl) (fun _ _ _ h => h) (Or.inl ⟨by rfl, ?_⟩) hHeld ?_
                    rotate_left
                    · (intro w hSw; (try dsimp only at hSw);  go_simp; try with_reducible rfl)
                    try simp only [Act.put, List.setIfInBounds_toArray, List.set_cons_zero, List.set_cons_succ]
                    refine wpAnyJ_takeL (i := 7) (d := some 104) (v := ?_) #[true, true, true, true, true, true, true, true, false, false, false, false, false, false, false, false, false, false, false] (by kernel_rfl) rfl rfl (by kernel_rfl) (by kernel_rfl) (by kernel_rfl) (by kernel_rfl) (by kernel_rfl) (fun _ _ _ h => h) (Or.inl ⟨by rfl, ?_⟩) hHeld ?_
                    rotate_left
                    · (intro w hSw; (try dsimp only at hSw);  go_simp; try with_reducible rfl)
                    try simp only [Act.put, List.setIfInBounds_toArray, List.set_cons_zero, List.set_cons_succ]
                    refine wpAnyJ_takeL (i := 8) (d := some 105) (v := ?_) #[true, true, true, true, true, true, true, true, true, false, false, false, false, false, false, false, false, false, false] (by kernel_rfl) rfl rfl (by kernel_rfl) (by kernel_rfl) (by kernel_rfl) (by kernel_rfl) (by kernel_rfl) (fun _ _ _ h => h) (Or.inl ⟨by rfl, ?_⟩) hHeld ?_
                    rotate_left
                    · (intro w hSw; (try dsimp only at hSw);  go_simp; try with_reducible rfl)
                    try simp only [Act.put, List.setIfInBounds_toArray, List.set_cons_zero, List.set_cons_succ]
                    refine wpAnyJ_takeL (i := 9) (d := some 106) (v := ?_) #[true, true, true, true, true, true, true, true, true, true, false, false, false, false, false, false, false, false, false] (by kernel_rfl) rfl rfl (by kernel_rfl) (by kernel_rfl) (by kernel_rfl) (by kernel_rfl) (by kernel_rfl) (fun _ _ _ h => h) (Or.inl ⟨by rfl, ?_⟩) hHeld ?_
                    rotate_left
                    · (intro w hSw; (try dsimp only at hSw);  go_simp; try with_reducible rfl)
                    try simp only [Act.put, List.setIfInBounds_toArray, List.set_cons_zero, List.set_cons_succ]
                    refine wpAnyJ_takeL (i := 10) (d := some 107) (v := ?_) #[true, true, true, true, true, true, true, true, true, true, true, false, false, false, false, false, false, false, false] (by kernel_rfl) rfl rfl (by kernel_rfl) (by kernel_rfl) (by kernel_rfl) (by kernel_rfl) (by kernel_rfl) (fun _ _ _ h => h) (Or.inl ⟨by rfl, ?_⟩) hHeld ?_
                    rotate_left
                    · (intro w hSw; (try dsimp only at hSw);  go_simp; try with_reducible rfl)
                    try simp only [Act.put, List.setIfInBounds_toArray, List.set_cons_zero, List.set_cons_succ]
                    refine wpAnyJ_takeL (i := 11) (d := some 108) (v := undef) #[true, true, true, true, true, true, true, true, true, true, true, true, false, false, false, false, false, false, false] (by kernel_rfl) rfl rfl (by kernel_rfl) (by kernel_rfl) (by kernel_rfl) (by kernel_rfl) (by kernel_rfl) (fun _ _ _ h => h) (Or.inr ⟨by rfl, by rfl⟩) hHeld ?_
                    try simp only [Act.put, List.setIfInBounds_toArray, List.set_cons_zero, List.set_cons_succ]
                    refine wpAnyJ_takeL (i := 12) (d := some 109) (v := undef) #[true, true, true, true, true, true, true, true, true, true, true, true, true, false, false, false, false, false, false] (by kernel_rfl) rfl rfl (by kernel_rfl) (by kernel_rfl) (by kernel_rfl) (by kernel_rfl) (by kernel_rfl) (fun _ _ _ h => h) (Or.inr ⟨by rfl, by rfl⟩) hHeld ?_
                    try simp only [Act.put, List.setIfInBounds_toArray, List.set_cons_zero, List.set_cons_succ]
                    refine wpAnyJ_takeL (i := 13) (d := some 110) (v := undef) #[true, true, true, true, true, true, true, true, true, true, true, true, true, true, false, false, false, false, false] (by kernel_rfl) rfl rfl (by kernel_rfl) (by kernel_rfl) (by kernel_rfl) (by kernel_rfl) (by kernel_rfl) (fun _ _ _ h => h) (Or.inr ⟨by rfl, by rfl⟩) hHeld ?_
                    try simp only [Act.put, List.setIfInBounds_toArray, List.set_cons_zero, List.set_cons_succ]
                    refine wpAnyJ_takeL (i := 14) (d := some 111) (v := undef) #[true, true, true, true, true, true, true, true, true, true, true, true, true, true, true, false, false, false, false] (by kernel_rfl) rfl rfl (by kernel_rfl) (by kernel_rfl) (by kernel_rfl) (by kernel_rfl) (by kernel_rfl) (fun _ _ _ h => h) (Or.inr ⟨by rfl, by rfl⟩) hHeld ?_
                    try simp only [Act.put, List.setIfInBounds_toArray, List.set_cons_zero, List.set_cons_succ]
                    refine wpAnyJ_takeL (i := 15) (d := some 112) (v := undef) #[true, true, true, true, true, true, true, true, true, true, true, true, true, true, true, true, false, false, false] (by kernel_rfl) rfl rfl (by kernel_rfl) (by kernel_rfl) (by kernel_rfl) (by kernel_rfl) (by kernel_rfl) (fun _ _ _ h => h) (Or.inr ⟨by rfl, by rfl⟩) hHeld ?_
                    try simp only [Act.put, List.setIfInBounds_toArray, List.set_cons_zero, List.set_cons_succ]
                    refine wpAnyJ_takeL (i := 16) (d := some 113) (v := undef) #[true, true, true, true, true, true, true, true, true, true, true, true, true, true, true, true, true, false, false] (by kernel_rfl) rfl rfl (by kernel_rfl) (by kernel_rfl) (by kernel_rfl) (by kernel_rfl) (by kernel_rfl) (fun _ _ _ h => h) (Or.inr ⟨by rfl, by rfl⟩) hHeld ?_
                    try simp only [Act.put, List.setIfInBounds_toArray, List.set_cons_zero, List.set_cons_succ]
                    refine wpAnyJ_takeL (i := 17) (d := some 114) (v := undef) #[true, true, true, true, true, true, true, true, true, true, true, true, true, true, true, true, true, true, false] (by kernel_rfl) rfl rfl (by kernel_rfl) (by kernel_rfl) (by kernel_rfl) (by kernel_rfl) (by kernel_rfl) (fun _ _ _ h => h) (Or.inr ⟨by rfl, by rfl⟩) hHeld ?_
                    try simp only [Act.put, List.setIfInBounds_toArray, List.set_cons_zero, List.set_cons_succ]
                    refine wpAnyJ_takeL (i := 18) (d := some 115) (v := ?_) #[true, true, true, true, true, true, true, true, true, true, true, true, true, true, true, true, true, true, true] (by kernel_rfl) rfl rfl (by kernel_rfl) (by kernel_rfl) (by kernel_rfl) (by kernel_rfl) (by kernel_rfl) (fun _ _ _ h => h) (Or.inl ⟨by rfl, ?_⟩) hHeld ?_
                    rotate_left
                    · (intro w hSw; (try dsimp only at hSw);  go_simp; try with_reducible rfl)
                    try simp only [Act.put, List.setIfInBounds_toArray, List.set_cons_zero, List.set_cons_succ]
                    refine wpAnyJ_done (by kernel_rfl) ?_ _
                    clear hHeld
                    go_wp2_with fail
                    go_roundg (nn - (v + 1))
                    case rel => exact ⟨v + 1, by go_num, by omega, rfl, by rw [HW.out], hbl.out.drew, hkd⟩
                    case measure => omega
                · obtain rfl : v = nn := by omega
                  have hvv : decide (v < v) = false := by simp
                  have CAw := CA.out wr hbl.out
                  have CBw := HCB.out wr hbl.out
                  have e2 : wr.cell? ⟨bq, 2, none⟩ = some (.int .i64 a) := hkd.out.cell 2
                  rw [HDV.out] at CAw
                  rw [HCC.out] at CBw
                  rcases ind_cases (HasK (· = 4) ds s a) 2 with ⟨h, e⟩ | ⟨h, e⟩
                  · rw [if_pos h] at CAw
                    rw [e] at CBw
                    clear h e
                    go_wp2_with fail
                    go_roundg (i - (j + 1))
                    case rel => exact ⟨j + 1, by go_num, by omega, rfl, hbl⟩
                    case measure => omega
                  · rw [if_neg h] at CAw
                    rw [e] at CBw
                    clear h e
                    rcases dkW_cases ns P a v with h | h
                    all_goals
                      rw [h] at CAw ⊢
                      clear h
                      go_wp2_with fail
                      go_roundg (i - (j + 1))
                      case rel => exact ⟨j + 1, by go_num, by omega, rfl, hbl⟩
                      case measure => omega
          · have q5 : (kd == 5) = false := by unfold liveK at hk; simp; omega
            have q6 : (kd == 6) = false := by unfold liveK at hk; simp; omega
            have hm := List.mem_of_getElem? HX.out
            rw [dark_duty0 HDK.out HX.out hk (HKK.out _ hm) (HEN.out.2.1 _ hm) (fun h => (HEN.out.1 _ hm h).2)] at ca
            clear hk hm
            go_wp2_with fail
            go_roundg (i - (j + 1))
            case rel => exact ⟨j + 1, by go_num, by omega, rfl, HBL1⟩
            case measure => omega
        · obtain rfl : j = i := by omega
          have hii : decide (j < j) = false := by simp
          go_wp2_with fail
          clear hii
          refine (awake_any wr (HL.out.below HSr.out.bl (Nat.le_refl _))).mono ?_
          rintro e w9 ⟨rfl, hb9⟩
          go_wp2_with fail
          go_ret
          exact ⟨rfl, HSr.out.bl.trans (hb9.mono HSr.out.bl.size)⟩
end Go.Proofs.YtddjifkmaogpiaaDoor
