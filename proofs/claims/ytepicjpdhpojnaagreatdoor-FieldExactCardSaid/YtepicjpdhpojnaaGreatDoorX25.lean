import Derived.Test.YtepicjpdhpojnaaGreatDoorX22
set_option maxRecDepth 100000
set_option maxHeartbeats 8000000
namespace Go.Proofs.YtepicjpdhpojnaaGreatDoor
section
open Go.RowKit
structure PrI (nn : Nat) (ds : List Dv) (es : List Int) (v : Int) (out : List Bool) (met : Bool) : Prop where
 len : out.length = nn
 sound : ∀ u, zZ out u → Rea ds es v u ∧ yx es u = false
 base : zZ out v
 met1 : met = true → ∃ u ∈ es, Rea ds es v u
def sP (es : List Int) (out : List Bool) (met : Bool) (a b : Int) : Prop := zZ out a → zZ out b ∨ yx es b = true ∧ met = true
def okP (ds : List Dv) (es : List Int) (out : List Bool) (met : Bool) (j : Nat) : Prop := ∀ x, ds[j]? = some x → zo x.kind = true → sP es out met x.a x.b ∧ sP es out met x.b x.a
theorem sP.met {es : List Int} {out : List Bool} {met : Bool} {a b : Int} (h : sP es out met a b) : sP es out true a b := fun ha => (h ha).imp id fun h => ⟨h.1, rfl⟩
theorem okP.met {ds : List Dv} {es : List Int} {out : List Bool} {met : Bool} {j : Nat} (h : okP ds es out met j) : okP ds es out true j := fun x hx hj => ⟨(h x hx hj).1.met, (h x hx hj).2.met⟩
section
variable {nn : Nat} {ds : List Dv} {es : List Int} {v : Int} {out : List Bool} {met : Bool}
theorem PrI.reach (h : PrI nn ds es v out met) (hok : ∀ j, okP ds es out met j) {u : Int} (hr : Rea ds es v u) : zZ out u ∨ yx es u = true ∧ met = true := by
 unfold Rea at hr
 induction hr with
 | base hv => rw [List.mem_singleton.1 hv]; exact .inl h.base
 | step _ hS hx _ h0 ih =>
  rename_i u i x _ _
  have hm : zZ out u := ih.resolve_right fun e => by rw [hS] at e; cases e.1
  obtain ⟨hj, ⟨e, e2⟩ | ⟨e, e2⟩⟩ := mq h0
  ·rw [e2]; rw [e] at hm; exact (hok i x hx hj).1 hm
  ·rw [e2]; rw [e] at hm; exact (hok i x hx hj).2 hm
theorem PrI.final (h : PrI nn ds es v out met) (hok : ∀ j, okP ds es out met j) (u : Int) : zZ out u ↔ Rea ds es v u ∧ yx es u = false :=
 ⟨h.sound u, fun hu => (h.reach hok hu.1).resolve_right fun e => by rw [hu.2] at e; cases e.1⟩
theorem PrI.finalMet (h : PrI nn ds es v out met) (hok : ∀ j, okP ds es out met j) : met = true ↔ ∃ u ∈ es, Rea ds es v u :=
 ⟨h.met1, fun ⟨u, hu, hr⟩ => by
  rcases h.reach hok hr with hm | hm
  ·have := (h.sound u hm).2
   rw [o4] at this
   exact absurd hu this
  ·exact hm.2⟩
theorem Rea.step {j : Nat} {x : Dv} {a b : Int} (hr : Rea ds es v a) (hs : yx es a = false) (hx : ds[j]? = some x) (hj : zo x.kind = true) (hab : x.a = a ∧ x.b = b ∨ x.b = a ∧ x.a = b) (hne : x.b ≠ x.a) (h0 : 0 ≤ b) : Rea ds es v b := by
 have h1 : yy x a = b := by
  rcases hab with ⟨rfl, rfl⟩ | ⟨rfl, rfl⟩
  ·exact ji hj
  ·exact jh hj hne
 have := Rch.step (x := x) (i := j) (U := fun _ => true) (S := fun u => yx es u) hr hs hx rfl (by rw [h1]; exact h0)
 rw [h1] at this
 exact this
theorem PrI.mark (h : PrI nn ds es v out met) {b : Nat} (hb : b < nn) (hr : Rea ds es v b) (hs : yx es b = false) : PrI nn ds es v (out.set b true) met := by
 have hm := fun u => y7 (out := out) (k := b) (by rw [h.len]; exact hb) u
 refine ⟨by rw [List.length_set]; exact h.len, fun u hu => ?_, (hm v).2 (.inr h.base), h.met1⟩
 rcases (hm u).1 hu with rfl | hu
 ·exact ⟨hr, hs⟩
 ·exact h.sound u hu
theorem PrI.meet (h : PrI nn ds es v out met) {b : Int} (hr : Rea ds es v b) (hs : yx es b = true) : PrI nn ds es v out true :=
 ⟨h.len, h.sound, h.base, fun _ => ⟨b, (vl _ _).1 hs, hr⟩⟩
theorem l5 (hs : yx es v = true) {u : Int} (hr : Rea ds es v u) : u = v := by
 unfold Rea at hr
 induction hr with
 | base hv => exact List.mem_singleton.1 hv
 | step _ hS _ _ _ ih => rw [ih, hs] at hS; cases hS
theorem l8 (hs : yx es v = true) : Ptd ds es v :=
 ⟨fun _ x _ _ hr => by rw [l5 hs hr]; exact hs, v, (vl _ _).1 hs, Rch.base (by simp)⟩
theorem PrI.answer (h : PrI nn ds es v out met) (hok : ∀ j, okP ds es out met j) (hsrc : ∀ (i : Nat) (x : Dv), ds[i]? = some x → uM x.kind = true → ¬ zZ out x.a) : xZ ds es v = met := by
 rcases met with _ | _
 ·refine tn fun hp => ?_
  have := (h.finalMet hok).2 hp.2
  cases this
 ·refine sL.2 ⟨fun i x hx hk hr => ?_, (h.finalMet hok).1 rfl⟩
  rcases hh : yx es x.a with _ | _
  ·exact absurd ((h.final hok x.a).2 ⟨hr, hh⟩) (hsrc i x hx hk)
  ·rfl
theorem PrI.bad (h : PrI nn ds es v out met) {i : Nat} {x : Dv} (hx : ds[i]? = some x) (hk : uM x.kind = true) (hm : zZ out x.a) : xZ ds es v = false :=
 tn fun hp => by
  obtain ⟨h1, h2⟩ := h.sound _ hm
  have := hp.1 i x hx hk h1
  rw [h2] at this; cases this
end
end
section
open Go.RowKit
theorem uq (A : Option Addr) (n c : Nat) (l : List Int) (x : Int) (w : World) (hs : Sl w w.heap.size 1 A n c (zK l)) :
 Calls Tryz.prog 24 #[.slice A n c, .int .i64 x] w fun e w' => e = .returned (.bool (yx l x)) ∧ w = w' := by
 have h := xB A n c l x w hs
 rwa [show decide (x ∈ l) = yx l x by rw [Bool.eq_iff_iff, decide_eq_true_iff, vl]] at h
def Pr1 (w : World) (N : Array Value) (go nn : Nat) (ds : List Dv) (es : List Int) (v : Int) (gk : Nat) (mv cv : Value) (wr : World) : Prop := ∃ (met ch : Bool) (out : List Bool), mv = .bool met ∧ cv = .bool ch ∧ gk = (if ch = true then zx out + 1 else 0) ∧ Hid (ZhM w N go nn out wr) ∧ Hid (PrI nn ds es v out met) ∧ Hid (ch = false → ∀ j, okP ds es out met j)
def Pr2 (w : World) (N : Array Value) (go nn : Nat) (ds : List Dv) (es : List Int) (v : Int) (out0 : List Bool) (nd gk : Nat) (mv cv iv : Value) (wr : World) : Prop := ∃ (j : Nat) (met ch : Bool) (out : List Bool), mv = .bool met ∧ cv = .bool ch ∧ iv = .int .i64 j ∧ j ≤ nd ∧ gk = nd - j ∧ Hid (ZhM w N go nn out wr) ∧ Hid (PrI nn ds es v out met) ∧ Hid (ch = false → out = out0 ∧ ∀ q, q < j → okP ds es out met q) ∧ Hid (ch = true → zx out < zx out0)
def Pr3 (w : World) (N : Array Value) (go nn : Nat) (ds : List Dv) (es : List Int) (v : Int) (out0 : List Bool) (j vb : Nat) (D : Array Value) (xa xb : Int) (gk : Nat) (mv cv kv : Value) (wr : World) : Prop := ∃ (k : Nat) (met ch : Bool) (out : List Bool), mv = .bool met ∧ cv = .bool ch ∧ kv = .int .i64 k ∧ k ≤ 2 ∧ gk = 2 - k ∧ Hid (ZhM w N go nn out wr) ∧ Hid (Blk wr vb 38 D) ∧ Hid (PrI nn ds es v out met) ∧ Hid (ch = false → out = out0 ∧ (∀ q, q < j → okP ds es out met q) ∧ (1 ≤ k → sP es out met xa xb) ∧ (2 ≤ k → sP es out met xb xa)) ∧ Hid (ch = true → zx out < zx out0)
def Pr4 (w : World) (N : Array Value) (go nn : Nat) (ds : List Dv) (out : List Bool) (nd gk : Nat) (iv : Value) (wr : World) : Prop := ∃ i : Nat, iv = .int .i64 i ∧ i ≤ nd ∧ gk = nd - i ∧ Hid (ZhM w N go nn out wr) ∧ Hid (∀ (j : Nat) (x : Dv), j < i → ds[j]? = some x → uM x.kind = true → ¬ zZ out x.a)
theorem lF (An Ad Ae : Option Addr) (nn cn nd cd ne ce : Nat) (ds : List Dv) (es : List Int) (v : Int) (w : World) (hd : Sl w w.heap.size 5 Ad nd cd (ds.flatMap Dv.cells)) (he : Sl w w.heap.size 1 Ae ne ce (zK es))
 (hnn : nn ≤ 10000) (hends : xG nn ds) (ha : AOk nn ds) (hneq : ∀ x ∈ ds, zo x.kind = true → x.b ≠ x.a) (hv : 0 ≤ v ∧ v < nn) :
 Calls Tryz.prog 121 #[.agg #[.slice An nn cn, .slice Ad nd cd], .int .i64 v, .slice Ae ne ce] w fun e w' => e = .returned (.bool (xZ ds es v)) ∧ Below w.heap.size w w' := by
 obtain ⟨v, rfl⟩ := Int.eq_ofNat_of_zero_le hv.1
 have hvn : v < nn := by omega
 have HLD := iD (hd.len (fun _ => rfl) (by decide))
 have hdl := hd.le
 have HD := iD hd; have HG := iD he; have HE := iD hends; have HNE := iD hneq; have HAO := iD ha
 clear hd he hends hneq ha hv
 have hmk := uT nn (by omega) (w.alloc (.cells #[.slice An nn cn, .slice Ad nd cd] 30))
 have hsz1 : (w.alloc (.cells #[.slice An nn cn, .slice Ad nd cd] 30)).heap.size = w.heap.size + 1 := by simp
 have HST : Hid (ZhM w #[.slice An nn cn, .slice Ad nd cd] (w.heap.size + 1) nn (List.replicate nn false) ((w.alloc (.cells #[.slice An nn cn, .slice Ad nd cd] 30)).alloc (.cells (xR (List.replicate nn false)).toArray 4))) := by
  refine ⟨(Blk.new w _ _).alloc _, ?_, ((Below.refl _ _).alloc lR _).alloc (by simp) _⟩
  have := sZ (w := w.alloc (.cells #[.slice An nn cn, .slice Ad nd cd] 30)) (base := w.heap.size + 1) (n := nn) (by simp) (by omega)
  rw [hsz1] at this
  exact this
 have HB : Hid (Below w.heap.size w (w.alloc (.cells #[.slice An nn cn, .slice Ad nd cd] 30))) := (Below.refl _ _).alloc lR _
 have HH0 := iD (uq Ae ne ce es (v : Int) (w.alloc (.cells #[.slice An nn cn, .slice Ad nd cd] 30)) ((HG.out.below HB.out lR).more HB.out.size))
 rw [hsz1] at hmk
 clear hsz1
 have k0 : (w.alloc (.cells #[.slice An nn cn, .slice Ad nd cd] 30)).cell? ⟨w.heap.size, 0, none⟩ = some (.slice An nn cn) := (Blk.new w _ _).cell 0
 go_enter Tryz.func121, Tryz.ntmps121
 go_wp2_with fail
 refine HH0.out.mono ?_
 rintro e w1 ⟨rfl, rfl⟩
 rcases hh : yx es (v : Int) with _ | _; rotate_left
 ·have HP : Hid (xZ ds es (v : Int) = true) := sL.2 (l8 hh)
  clear hh
  go_wp2_with fail
  go_ret
  exact ⟨by rw [HP.out]; rfl, HB.out⟩
 have HHV := iD hh
 clear hh
 go_upto_region 4 with (fail)
 clear hmk k0 HB HH0
 obtain ⟨go, hgo⟩ : ∃ go, go = w.heap.size + 1 := ⟨_, rfl⟩
 rw [← hgo] at HST ⊢
 clear hgo
 generalize World.alloc (World.alloc _ _) _ = W at *
 obtain ⟨x, -, hcell, hfz⟩ := HST.out.cell hvn
 have HM0 := iD (HST.out.put hvn true)
 have HI0 : Hid (PrI nn ds es (v : Int) ((List.replicate nn false).set v true) false) := by
  have hl : (List.replicate nn false).length = nn := List.length_replicate
  have hm := fun u => y7 (out := List.replicate nn false) (k := v) (by rw [hl]; exact hvn) u
  refine ⟨by rw [List.length_set]; exact hl, fun u hu => ?_, (hm v).2 (.inl rfl), fun e => by cases e⟩
  rcases (hm u).1 hu with rfl | hu
  ·exact ⟨Rch.base (by simp), HHV.out⟩
  ·exact absurd hu (tT nn u)
 obtain ⟨o0, ho0⟩ : ∃ o0, o0 = (List.replicate nn false).set v true := ⟨_, rfl⟩
 rw [← ho0] at HM0 HI0
 clear ho0 HST
 go_upto_region 7 with (fail)
 clear hcell hfz
 generalize World.setCell _ _ _ = W2 at *
 go_loopg [8, 9] (zx o0 + 1) (Pr1 w #[.slice An nn cn, .slice Ad nd cd] go nn ds es v)
 case atStart => exact ⟨false, true, o0, rfl, rfl, rfl, HM0, HI0, fun e => by cases e⟩
 case round =>
  clear HM0 HI0
  obtain ⟨met, ch, oz, rfl, rfl, rfl, hM, hI, hok⟩ := hrel
  rcases ch with _ | _
  ·have HIF := iD hI.out; have HOKF := iD (hok.out rfl)
   clear hI hok
   go_wp2_with fail
   go_loopg [15] nd (Pr4 w #[.slice An nn cn, .slice Ad nd cd] go nn ds oz nd)
   case atStart => exact ⟨0, rfl, Nat.zero_le _, rfl, hM, fun j x hj => by omega⟩
   case round =>
    clear hM
    obtain ⟨i, rfl, hi, rfl, hM, hS⟩ := hrel
    have k1 : wr.cell? ⟨w.heap.size, 1, none⟩ = some (.slice Ad nd cd) := hM.out.bn.cell 1
    by_cases hlt : i < nd; rotate_left
    ·obtain rfl : i = nd := by omega
     have hii : decide (i < i) = false := by simp
     have HANS : Hid (xZ ds es (v : Int) = met) := HIF.out.answer HOKF.out fun j x hx hk => by
      by_cases hq : j < i
      ·exact hS.out j x hq hx hk
      ·rw [List.getElem?_eq_none (by rw [HLD.out]; omega)] at hx; cases hx
     go_wp2_with fail
     go_ret
     exact ⟨by rw [HANS.out]; rfl, hM.out.bl⟩
    obtain ⟨b0, off, x, rfl, hb0, hx, hcx⟩ := (HD.out.below hM.out.bl lR).at (k := i) (fun _ => rfl) (by decide) hlt
    have HX := iD hx
    have har := HAO.out x (List.mem_of_getElem? hx)
    obtain ⟨nm, kd, xa, xb, co⟩ := x
    obtain ⟨a, hae⟩ := Int.eq_ofNat_of_zero_le har.1
    (try dsimp only at hae)
    subst hae
    have hla : a < nn := by have := har.2; (try dsimp only at this); omega
    have c0 : wr.cell? ⟨b0, off + i * 5, none⟩ = some (.string nm) := hcx 0 _ rfl
    have c1 : wr.cell? ⟨b0, off + i * 5 + 1, none⟩ = some (.int .i64 kd) := hcx 1 _ rfl
    have c2 : wr.cell? ⟨b0, off + i * 5 + 2, none⟩ = some (.int .i64 (a : Int)) := hcx 2 _ rfl
    have c3 : wr.cell? ⟨b0, off + i * 5 + 3, none⟩ = some (.int .i64 xb) := hcx 3 _ rfl
    have c4 : wr.cell? ⟨b0, off + i * 5 + 4, none⟩ = some (.int .i64 co) := hcx 4 _ rfl
    clear hx hcx hb0 har
    go_upto_region 29 with (fail)
    clear c0 c1 c2 c3 c4 k1
    have HV := iD (Blk.new wr 38 #[.string nm, .int .i64 kd, .int .i64 (a : Int), .int .i64 xb, .int .i64 co])
    have HM2 := iD (hM.out.later ((Below.refl _ _).alloc lR (.cells #[.string nm, .int .i64 kd, .int .i64 (a : Int), .int .i64 xb, .int .i64 co] 38)))
    clear hM
    obtain ⟨vb, hvb⟩ : ∃ x, x = wr.heap.size := ⟨_, rfl⟩
    rw [← hvb] at HV ⊢
    clear hvb
    generalize World.alloc wr _ = W3 at *
    have hkd : W3.cell? ⟨vb, 1, none⟩ = some (.int .i64 kd) := HV.out.cell 1
    have hxa : W3.cell? ⟨vb, 2, none⟩ = some (.int .i64 (a : Int)) := HV.out.cell 2
    obtain ⟨pa, hpa, hca, hfa⟩ := HM2.out.cell (k := a) hla
    have HPA := iD hpa
    clear hpa
    rcases pa with _ | _
    ·have HN : Hid (∀ (j : Nat) (x : Dv), j < i + 1 → ds[j]? = some x → uM x.kind = true → ¬ zZ oz x.a) := fun j x hj hx hk hm => (Nat.lt_succ_iff_lt_or_eq.1 hj).elim (fun h => hS.out j x h hx hk hm) (fun h => by rw [h, HX.out] at hx; injection hx with hx; subst hx; (try dsimp only at hm); rw [yP, HPA.out] at hm; cases hm)
     go_wp2_with fail
     go_roundg (nd - (i + 1))
     case rel => exact ⟨i + 1, by go_num, by omega, rfl, HM2, HN⟩
     case measure => omega
    rcases hk5 : (kd == 5) with _ | _; rotate_left
    ·have HBAD : Hid (xZ ds es (v : Int) = false) := HIF.out.bad HX.out (by unfold uM; (try dsimp only); rw [hk5]; rfl) (yP.2 HPA.out)
     go_wp2_with fail
     go_ret
     exact ⟨by rw [HBAD.out]; rfl, HM2.out.bl⟩
    rcases hk6 : (kd == 6) with _ | _; rotate_left
    ·have HBAD : Hid (xZ ds es (v : Int) = false) := HIF.out.bad HX.out (by unfold uM; (try dsimp only); rw [hk5, hk6]; rfl) (yP.2 HPA.out)
     go_wp2_with fail
     go_ret
     exact ⟨by rw [HBAD.out]; rfl, HM2.out.bl⟩
    have HN : Hid (∀ (j : Nat) (x : Dv), j < i + 1 → ds[j]? = some x → uM x.kind = true → ¬ zZ oz x.a) := fun j x hj hx hk hm => (Nat.lt_succ_iff_lt_or_eq.1 hj).elim (fun h => hS.out j x h hx hk hm) (fun h => by rw [h, HX.out] at hx; injection hx with hx; subst hx; unfold uM at hk; (try dsimp only at hk); rw [hk5, hk6] at hk; cases hk)
    go_wp2_with fail
    go_roundg (nd - (i + 1))
    case rel => exact ⟨i + 1, by go_num, by omega, rfl, HM2, HN⟩
    case measure => omega
  clear hok
  go_wp2_with fail
  go_loopg [8, 9, 10] nd (Pr2 w #[.slice An nn cn, .slice Ad nd cd] go nn ds es v oz nd)
  case atStart => exact ⟨0, met, false, oz, rfl, rfl, rfl, Nat.zero_le _, rfl, hM, hI, fun _ => ⟨rfl, fun j hj => by omega⟩, fun e => by cases e⟩
  case round =>
   clear hM hI
   obtain ⟨j, met, ch, out, rfl, rfl, rfl, hj, rfl, hM, hI, hno, hyes⟩ := hrel
   have k1 : wr.cell? ⟨w.heap.size, 1, none⟩ = some (.slice Ad nd cd) := hM.out.bn.cell 1
   by_cases hlt : j < nd; rotate_left
   ·obtain rfl : j = nd := by omega
    have hii : decide (j < j) = false := by simp
    have HOKA : Hid (ch = false → ∀ q, okP ds es out met q) := fun e q => by
     by_cases hq : q < j
     ·exact (hno.out e).2 q hq
     ·intro x hx; rw [List.getElem?_eq_none (by rw [HLD.out]; omega)] at hx; cases hx
    go_wp2_with fail
    go_roundg (if ch = true then zx out + 1 else 0)
    case rel => exact ⟨met, ch, out, rfl, rfl, rfl, hM, hI, HOKA⟩
    case measure =>
     rcases ch with _ | _
     ·simp
     ·have := hyes.out rfl; simp; omega
   obtain ⟨b0, off, x, rfl, hb0, hx, hcx⟩ := (HD.out.below hM.out.bl lR).at (k := j) (fun _ => rfl) (by decide) hlt
   have HX := iD hx
   have hxm := List.mem_of_getElem? hx
   have HEX := iD (HE.out x hxm)
   have HNX := iD (HNE.out x hxm)
   obtain ⟨nm, kd, xa, xb, co⟩ := x
   have c0 : wr.cell? ⟨b0, off + j * 5, none⟩ = some (.string nm) := hcx 0 _ rfl
   have c1 : wr.cell? ⟨b0, off + j * 5 + 1, none⟩ = some (.int .i64 kd) := hcx 1 _ rfl
   have c2 : wr.cell? ⟨b0, off + j * 5 + 2, none⟩ = some (.int .i64 xa) := hcx 2 _ rfl
   have c3 : wr.cell? ⟨b0, off + j * 5 + 3, none⟩ = some (.int .i64 xb) := hcx 3 _ rfl
   have c4 : wr.cell? ⟨b0, off + j * 5 + 4, none⟩ = some (.int .i64 co) := hcx 4 _ rfl
   clear hx hxm hcx hb0
   go_upto_region 13 with (fail)
   clear c0 c1 c2 c3 c4 k1
   have HV := iD (Blk.new wr 38 #[.string nm, .int .i64 kd, .int .i64 xa, .int .i64 xb, .int .i64 co])
   have HM2 := iD (hM.out.later ((Below.refl _ _).alloc lR (.cells #[.string nm, .int .i64 kd, .int .i64 xa, .int .i64 xb, .int .i64 co] 38)))
   have hgo1 := hM.out.ge (by omega)
   have hgo2 : go < wr.heap.size := by
    obtain ⟨g, x, e, h1, h2, -⟩ := hM.out.ob.at (by omega : 0 < nn)
    injection e with e; injection e with e; subst e
    exact h2
   clear hM
   obtain ⟨vb, hvb⟩ : ∃ x, x = wr.heap.size := ⟨_, rfl⟩
   rw [← hvb] at HV hgo2 ⊢
   clear hvb
   generalize World.alloc wr _ = W3 at *
   have hkd : W3.cell? ⟨vb, 1, none⟩ = some (.int .i64 kd) := HV.out.cell 1
   go_wp2_with fail
   refine (wo kd W3).mono ?_
   rintro e w4 ⟨rfl, rfl⟩
   clear hkd
   rcases hj0 : zo kd with _ | _
   ·have HOK : Hid (ch = false → out = oz ∧ ∀ q, q < j + 1 → okP ds es out met q) := fun e => ⟨(hno.out e).1, fun q hq => (Nat.lt_succ_iff_lt_or_eq.1 hq).elim (fun h => (hno.out e).2 q h) (fun h => by rw [h]; intro x hx hjx; rw [HX.out] at hx; injection hx with hx; subst hx; rw [hj0] at hjx; cases hjx)⟩
    clear hj0
    go_wp2_with fail
    go_roundg (nd - (j + 1))
    case rel => exact ⟨j + 1, met, ch, out, rfl, rfl, by go_num, by omega, rfl, HM2, hI, HOK, hyes⟩
    case measure => omega
   have hab := HEX.out hj0
   have hne0 := HNX.out hj0
   obtain ⟨a, ha⟩ := Int.eq_ofNat_of_zero_le hab.1.1
   obtain ⟨b, hb⟩ := Int.eq_ofNat_of_zero_le hab.2.1
   (try dsimp only at ha hb)
   subst ha hb
   have hla : a < nn := by have := hab.1.2; (try dsimp only at this); omega
   have hlb : b < nn := by have := hab.2.2; (try dsimp only at this); omega
   have hneab : b ≠ a := fun e => hne0 (by (try dsimp only); rw [e])
   have HJ := iD hj0
   clear hab hne0 HEX HNX hj0
   go_wp2_with fail
   go_loopg [8, 9, 12] 2 (Pr3 w #[.slice An nn cn, .slice (some ⟨b0, off, none⟩) nd cd] go nn ds es v oz j vb #[.string nm, .int .i64 kd, .int .i64 a, .int .i64 b, .int .i64 co] a b)
   case atStart => exact ⟨0, met, ch, out, rfl, rfl, rfl, by decide, rfl, HM2, HV, hI, fun e => ⟨(hno.out e).1, (hno.out e).2, fun h => by omega, fun h => by omega⟩, hyes⟩
   case round =>
    clear HM2 HV hI hno hyes
    obtain ⟨k, met, ch, out, rfl, rfl, rfl, hk, rfl, hM, hV, hI, hno, hyes⟩ := hrel
    have hk3 : k = 0 ∨ k = 1 ∨ k = 2 := by omega
    clear hk
    rcases hk3 with rfl | rfl | rfl; rotate_left 2
    ·have HOK : Hid (ch = false → out = oz ∧ ∀ q, q < j + 1 → okP ds es out met q) := fun e => ⟨(hno.out e).1, fun q hq => (Nat.lt_succ_iff_lt_or_eq.1 hq).elim (fun h => (hno.out e).2.1 q h) (fun h => by rw [h]; intro x hx hjx; rw [HX.out] at hx; injection hx with hx; subst hx; exact ⟨(hno.out e).2.2.1 (by decide), (hno.out e).2.2.2 (by decide)⟩)⟩
     go_wp2_with fail
     go_roundg (nd - (j + 1))
     case rel => exact ⟨j + 1, met, ch, out, rfl, rfl, by go_num, by omega, rfl, hM, hI, HOK, hyes⟩
     case measure => omega
    ·have hxa : wr.cell? ⟨vb, 2, none⟩ = some (.int .i64 (a : Int)) := hV.out.cell 2
     have hxb : wr.cell? ⟨vb, 3, none⟩ = some (.int .i64 (b : Int)) := hV.out.cell 3
     go_wp2_with fail
     go_quiet (fail)
     clear hxa hxb
     have HM3 : Hid (ZhM w #[.slice An nn cn, .slice (some ⟨b0, off, none⟩) nd cd] go nn out (wr.drewN nq)) := ⟨hM.out.bn, hM.out.ob, below_drewN' hM.out.bl nq⟩
     have HV3 : Hid (Blk (wr.drewN nq) vb 38 #[.string nm, .int .i64 kd, .int .i64 (a : Int), .int .i64 (b : Int), .int .i64 co]) := hV.out
     clear hM hV
     generalize wr.drewN nq = W4 at *
     obtain ⟨pa, hpa, hca, hfa⟩ := HM3.out.cell (k := a) hla
     obtain ⟨pb, hpb, hcb, hfb⟩ := HM3.out.cell (k := b) hlb
     have HPA := iD hpa; have HPB := iD hpb
     clear hpa hpb
     rcases pa with _ | _
     ·have HH : Hid (sP es out met (a : Int) (b : Int)) := fun h => by rw [yP, HPA.out] at h; cases h
      go_wp2_with fail
      go_roundg (2 - (0 + 1))
      case rel => exact ⟨0 + 1, met, ch, out, rfl, rfl, by go_num, by decide, rfl, HM3, HV3, hI, fun e => ⟨(hno.out e).1, (hno.out e).2.1, fun _ => HH.out, fun h => by omega⟩, hyes⟩
      case measure => omega
     rcases pb with _ | _; rotate_left
     ·have HH : Hid (sP es out met (a : Int) (b : Int)) := fun _ => .inl (yP.2 HPB.out)
      go_wp2_with fail
      go_roundg (2 - (0 + 1))
      case rel => exact ⟨0 + 1, met, ch, out, rfl, rfl, by go_num, by decide, rfl, HM3, HV3, hI, fun e => ⟨(hno.out e).1, (hno.out e).2.1, fun _ => HH.out, fun h => by omega⟩, hyes⟩
      case measure => omega
     have HRB : Hid (Rea ds es (v : Int) (b : Int)) := by
      obtain ⟨h1, h2⟩ := hI.out.sound _ (yP.2 HPA.out)
      exact Rea.step h1 h2 HX.out HJ.out (.inl ⟨rfl, rfl⟩) (by (try dsimp only); omega) (by omega)
     have HGS : Hid (Sl W4 W4.heap.size 1 Ae ne ce (zK es)) := (HG.out.below HM3.out.bl lR).more HM3.out.bl.size
     go_wp2_with fail
     refine (uq Ae ne ce es (b : Int) W4 HGS.out).mono ?_
     rintro e w5 ⟨rfl, rfl⟩
     rcases hh : yx es (b : Int) with _ | _; rotate_left
     ·have HI2 := iD (hI.out.meet HRB.out hh)
      have HH : Hid (sP es out true (a : Int) (b : Int)) := fun _ => .inr ⟨hh, rfl⟩
      clear hh
      go_wp2_with fail
      go_roundg (2 - (0 + 1))
      case rel => exact ⟨0 + 1, true, ch, out, rfl, rfl, by go_num, by decide, rfl, HM3, HV3, HI2, fun e => ⟨(hno.out e).1, fun q hq => ((hno.out e).2.1 q hq).met, fun _ => HH.out, fun h => by omega⟩, hyes⟩
      case measure => omega
     have HI2 := iD (hI.out.mark hlb HRB.out hh)
     have HM4 := iD (HM3.out.put hlb true)
     have HV4 : Hid (Blk (W4.setCell ⟨go, b, none⟩ (.bool true)) vb 38 #[.string nm, .int .i64 kd, .int .i64 (a : Int), .int .i64 (b : Int), .int .i64 co]) := HV3.out.far (by simp; omega) _
     have HCT : Hid (zx (out.set b true) < zx oz) := by
      have h1 := vH HPB.out
      unfold Hid
      rcases ch with _ | _
      ·rw [← (hno.out rfl).1]; omega
      ·have := hyes.out rfl; omega
     clear hh hI hno hyes
     go_wp2_with fail
     go_roundg (2 - (0 + 1))
     case rel => exact ⟨0 + 1, met, true, out.set b true, rfl, rfl, by go_num, by decide, rfl, HM4, HV4, HI2, (fun e => by cases e), fun _ => HCT.out⟩
     case measure => omega
    ·have hxa : wr.cell? ⟨vb, 2, none⟩ = some (.int .i64 (a : Int)) := hV.out.cell 2
     have hxb : wr.cell? ⟨vb, 3, none⟩ = some (.int .i64 (b : Int)) := hV.out.cell 3
     go_wp2_with fail
     go_quiet (fail)
     clear hxa hxb
     have HM3 : Hid (ZhM w #[.slice An nn cn, .slice (some ⟨b0, off, none⟩) nd cd] go nn out (wr.drewN nq)) := ⟨hM.out.bn, hM.out.ob, below_drewN' hM.out.bl nq⟩
     have HV3 : Hid (Blk (wr.drewN nq) vb 38 #[.string nm, .int .i64 kd, .int .i64 (a : Int), .int .i64 (b : Int), .int .i64 co]) := hV.out
     clear hM hV
     generalize wr.drewN nq = W4 at *
     obtain ⟨pa, hpa, hca, hfa⟩ := HM3.out.cell (k := b) hlb
     obtain ⟨pb, hpb, hcb, hfb⟩ := HM3.out.cell (k := a) hla
     have HPA := iD hpa; have HPB := iD hpb
     clear hpa hpb
     rcases pa with _ | _
     ·have HH : Hid (sP es out met (b : Int) (a : Int)) := fun h => by rw [yP, HPA.out] at h; cases h
      go_wp2_with fail
      go_roundg (2 - (1 + 1))
      case rel => exact ⟨1 + 1, met, ch, out, rfl, rfl, by go_num, by decide, rfl, HM3, HV3, hI, fun e => ⟨(hno.out e).1, (hno.out e).2.1, fun _ => (hno.out e).2.2.1 (by decide), fun _ => HH.out⟩, hyes⟩
      case measure => omega
     rcases pb with _ | _; rotate_left
     ·have HH : Hid (sP es out met (b : Int) (a : Int)) := fun _ => .inl (yP.2 HPB.out)
      go_wp2_with fail
      go_roundg (2 - (1 + 1))
      case rel => exact ⟨1 + 1, met, ch, out, rfl, rfl, by go_num, by decide, rfl, HM3, HV3, hI, fun e => ⟨(hno.out e).1, (hno.out e).2.1, fun _ => (hno.out e).2.2.1 (by decide), fun _ => HH.out⟩, hyes⟩
      case measure => omega
     have HRB : Hid (Rea ds es (v : Int) (a : Int)) := by
      obtain ⟨h1, h2⟩ := hI.out.sound _ (yP.2 HPA.out)
      exact Rea.step h1 h2 HX.out HJ.out (.inr ⟨rfl, rfl⟩) (by (try dsimp only); omega) (by omega)
     have HGS : Hid (Sl W4 W4.heap.size 1 Ae ne ce (zK es)) := (HG.out.below HM3.out.bl lR).more HM3.out.bl.size
     go_wp2_with fail
     refine (uq Ae ne ce es (a : Int) W4 HGS.out).mono ?_
     rintro e w5 ⟨rfl, rfl⟩
     rcases hh : yx es (a : Int) with _ | _; rotate_left
     ·have HI2 := iD (hI.out.meet HRB.out hh)
      have HH : Hid (sP es out true (b : Int) (a : Int)) := fun _ => .inr ⟨hh, rfl⟩
      clear hh
      go_wp2_with fail
      go_roundg (2 - (1 + 1))
      case rel => exact ⟨1 + 1, true, ch, out, rfl, rfl, by go_num, by decide, rfl, HM3, HV3, HI2, fun e => ⟨(hno.out e).1, fun q hq => ((hno.out e).2.1 q hq).met, fun _ => ((hno.out e).2.2.1 (by decide)).met, fun _ => HH.out⟩, hyes⟩
      case measure => omega
     have HI2 := iD (hI.out.mark hla HRB.out hh)
     have HM4 := iD (HM3.out.put hla true)
     have HV4 : Hid (Blk (W4.setCell ⟨go, a, none⟩ (.bool true)) vb 38 #[.string nm, .int .i64 kd, .int .i64 (a : Int), .int .i64 (b : Int), .int .i64 co]) := HV3.out.far (by simp; omega) _
     have HCT : Hid (zx (out.set a true) < zx oz) := by
      have h1 := vH HPB.out
      unfold Hid
      rcases ch with _ | _
      ·rw [← (hno.out rfl).1]; omega
      ·have := hyes.out rfl; omega
     clear hh hI hno hyes
     go_wp2_with fail
     go_roundg (2 - (1 + 1))
     case rel => exact ⟨1 + 1, met, true, out.set a true, rfl, rfl, by go_num, by decide, rfl, HM4, HV4, HI2, (fun e => by cases e), fun _ => HCT.out⟩
     case measure => omega
end
section
open Go.RowKit
def RmJ (w : World) (NN : Array Value) (n : Nat) (ds : List Dv) (es z : List Int) (gk : Nat) (ov iv : Value) (wr : World) : Prop :=
 ∃ (i m co : Nat) (Ao : Option Addr), ov = .slice Ao m co ∧ iv = .int .i64 i ∧ i ≤ n ∧ gk = n - i ∧ m ≤ i ∧ Hid (Blk wr w.heap.size 30 NN) ∧ Hid (Below w.heap.size w wr) ∧ Hid (zQ wr (w.heap.size + 1) Ao m co (xd ds es (z.take i)))
theorem lG (An Ad Az Ae : Option Addr) (nn cn nd cd n c ne ce : Nat) (ds : List Dv) (es z : List Int) (w : World) (hd : Sl w w.heap.size 5 Ad nd cd (ds.flatMap Dv.cells)) (hz : Sl w w.heap.size 1 Az n c (zK z)) (he : Sl w w.heap.size 1 Ae ne ce (zK es))
 (hnn : nn ≤ 10000) (hends : xG nn ds) (ha : AOk nn ds) (hneq : ∀ x ∈ ds, zo x.kind = true → x.b ≠ x.a) (hzv : ∀ v ∈ z, 0 ≤ v ∧ v < nn) (hn : n ≤ 10000) :
 Calls Tryz.prog 95 #[.agg #[.slice An nn cn, .slice Ad nd cd], .slice Az n c, .slice Ae ne ce] w (ul w (xd ds es z)) := by
 have HLZ := iD (hz.len (fun _ => rfl) (by decide))
 have hzl := hz.le
 have HB0 : Hid (Below w.heap.size w (w.alloc (.cells #[.slice An nn cn, .slice Ad nd cd] 30))) := (Below.refl _ _).alloc lR _
 have HK0 := iD (Blk.new w 30 #[.slice An nn cn, .slice Ad nd cd])
 have HZ := iD hz
 have HPR := iD (fun (W : World) (hb : Below w.heap.size w W) (v : Int) (hv : v ∈ z) => lF An Ad Ae nn cn nd cd ne ce ds es v W ((hd.below hb lR).more hb.size) ((he.below hb lR).more hb.size) hnn hends ha hneq (hzv v hv))
 clear hd hz he hends ha hneq hzv
 go_enter Tryz.func95, Tryz.ntmps95
 go_wp2_with fail
 generalize World.alloc w _ = W at *
 go_loopg [7, 8] n (RmJ w #[.slice An nn cn, .slice Ad nd cd] n ds es z)
 case atStart => exact ⟨0, 0, 0, none, rfl, rfl, Nat.zero_le _, rfl, Nat.le_refl _, HK0, HB0, World.ownsRow_nil _ _ _ _⟩
 case round =>
  clear HK0 HB0
  obtain ⟨i, m, co, Ao, rfl, rfl, hi, rfl, hmi, HK, HB, HI⟩ := hrel
  by_cases hlt : i < n; rotate_left
  ·obtain rfl : i = n := by omega
   have hii : decide (i < i) = false := by simp
   go_wp2_with fail
   go_ret
   have := HI.out.base1
   rw [List.take_of_length_le (by rw [HLZ.out]; exact Nat.le_refl _)] at this
   exact uY this.len this HB.out
  obtain ⟨bz, oz, v, rfl, hbz, hx, hc⟩ := (HZ.out.below HB.out lR).at1 hlt
  have HX := iD hx
  have HVM := iD (List.mem_of_getElem? hx)
  have HC := iD hc
  clear hx hc
  go_upto_region 5 with (fail)
  refine za (S := fun W' => W'.cell? ⟨w.heap.size, 0, none⟩ = some (.slice An nn cn) ∧ W'.cell? ⟨w.heap.size, 1, none⟩ = some (.slice Ad nd cd) ∧ W'.cell? ⟨bz, oz + i, none⟩ = some (.int .i64 v)) (J := []) (n := _) ((1, true) :: (2, true) :: (5, true) :: (0, true) :: (3, true) :: (4, true) :: (6, false) :: (7, true) :: []) (by as_aux_lemma => kernel_rfl) (by rfl) (zM (k := 1) (by go_simp; rfl) (zM (k := 8) (by go_simp; rfl) (zM (k := 2) (by go_simp; rfl) (zM (k := 3) (by go_simp; rfl) yH)))) ?_ (fun _ _ _ _ _ h => h) (fun Q2 A hsz hbase hn2 AA => ?_)
  ·exact ⟨HK.out.cell 0, HK.out.cell 1, HC.out⟩
  try dsimp only at AA
  obtain ⟨b1, b8, b2, b3, -⟩ := hbase
  refine oM 1 16 ?_ rfl rfl rfl (zB rfl) AA (fun ρ AB => ?_) ?_
  rotate_left
  ·(have e1 := tm AB hsz 1 rfl (zF b1); exact e1)
  refine oM 2 17 ?_ rfl rfl rfl (zB rfl) AA (fun ρ AB => ?_) ?_
  rotate_left
  ·(have e8 := tm AB hsz 8 rfl (zC rfl (zF b8)); exact e8)
  refine oM 5 20 ?_ rfl rfl rfl (zB rfl) AA (fun ρ AB => ?_) ?_
  rotate_left
  ·(have e2 := tm AB hsz 2 rfl (zC rfl (zC rfl (zF b2))); exact e2)
  refine oT 0 15 ?_ rfl rfl (zB rfl) AA (fun ρ AB w hSw => ?_) ?_
  rotate_left
  ·(have e3 := tm AB hsz 3 rfl (zC rfl (zC rfl (zC rfl (zF b3)))); clear AB; (try dsimp only at hSw); have k0 := hSw.1; have k1 := hSw.2.1; clear hSw; go_simp; try with_reducible rfl)
  refine oT 3 18 ?_ rfl rfl (zB rfl) AA (fun ρ AB w hSw => ?_) ?_
  rotate_left
  ·(have e16 := tm AB hsz 16 rfl (zC rfl (zC rfl (zC rfl zA))); have e17 := tm AB hsz 17 rfl (zC rfl (zC rfl zA)); clear AB; (try dsimp only at hSw); go_simp; try with_reducible rfl)
  refine oT 4 19 ?_ rfl rfl (zB rfl) AA (fun ρ AB w hSw => ?_) ?_
  rotate_left
  ·(have e18 := tm AB hsz 18 rfl zA; clear AB; (try dsimp only at hSw); have hc := hSw.2.2; clear hSw; go_simp; try with_reducible rfl)
  refine yR (i := 6) (d := 21) (vs := ?_) rfl rfl rfl (zB rfl) (fun ρ AB => ?_) ?_ ?_
  rotate_left
  ·(have e15 := tm AB hsz 15 rfl (zC rfl (zC rfl zA)); have e19 := tm AB hsz 19 rfl zA; have e20 := tm AB hsz 20 rfl (zC rfl (zC rfl (zC rfl zA))); simp only [List.map_toArray, List.map_cons, List.map_nil, e15, e19, e20]; try with_reducible rfl)
  ·(intro w; go_simp)
  refine (HPR.out wr.drew HB.out.drew v HVM.out).mono ?_
  rintro e w3 ⟨rfl, hb3⟩
  have HB3 := iD (HB.out.drew.trans (hb3.mono HB.out.drew.size))
  have HK3 := iD ((HK.out.below (Below.refl wr.heap.size wr).drew HK.out.lt).below hb3 HK.out.lt)
  have HI3 := iD ((HI.out.later (Below.refl _ _).drew).later hb3)
  have HC3 : Hid (w3.cell? ⟨bz, oz + i, none⟩ = some (.int .i64 v)) := (hb3.cell (p := ⟨bz, oz + i, none⟩) (by have := HB.out.size; exact Nat.lt_of_lt_of_le hbz this)).trans HC.out
  clear hb3 HB HK HI HC
  refine ⟨_, rfl, fun _ => ?_, fun AA' => ?_⟩
  ·exact ⟨HK3.out.cell 0, HK3.out.cell 1, HC3.out⟩
  replace AA := AA' rfl
  clear AA'
  try dsimp only at AA
  refine oT 7 22 ?_ rfl rfl (zB rfl) AA (fun ρ AB w hSw => ?_) ?_
  rotate_left
  ·(have e21 := tm AB hsz 21 rfl zA; clear AB; (try dsimp only at hSw); go_simp; try with_reducible rfl)
  refine yG hn2 ?_
  clear AA hn2 b1 b8 b2 b3 hsz A Q2
  simp only [yF, zu, yQ, xO, xP]
  rcases hp : xZ ds es v with _ | _
  ·have HT : Hid (xd ds es (z.take (i + 1)) = xd ds es (z.take i) ++ [v]) := by have := uC ds es HX.out; rw [hp] at this; unfold Hid; simpa using this
   have hc3 := HC3.out
   have hzs := HB3.out.size
   go_wp2_with (at_builtin; go_must (refine zW rfl (.tmp 23) (.tmp 28) rfl yX (by rfl) (HI3.out.alloc _) (by rfl) (Sl.newest (n := 1) (by simp) (by rfl) (by decide)) (by simp [Value.oneCell']) (by omega) (by omega) (by simp; omega) ?_; intro A2 co2 w5 hown5 hgr5 hat5; have HO5 := iD hown5; have HG5 := iD hgr5; clear hown5 hgr5 hat5))
   have HB5 : Hid (Below w.heap.size w w5) := (HB3.out.alloc hzs _).trans ⟨HG5.out.os, HG5.out.tape, HG5.out.output, HG5.out.size, fun t ht => HG5.out.block t (by simp; omega) (fun e => by have := (HI3.out.lt t e.symm).1; omega)⟩
   have HK5 : Hid (Blk w5 w.heap.size 30 #[.slice An nn cn, .slice Ad nd cd]) := (HK3.out.alloc _).keep (HG5.out.block _ (by simp; have := HK3.out.lt; omega) (fun e => by have := (HI3.out.lt _ e.symm).1; omega))
   have HO6 : Hid (zQ w5 (w.heap.size + 1) A2 (m + 1) co2 (xd ds es (z.take (i + 1)))) := by
    unfold Hid
    rw [HT.out]
    unfold zQ
    rw [zw]
    exact HO5.out
   go_roundg (n - (i + 1))
   case rel => exact ⟨i + 1, m + 1, co2, A2, rfl, by go_num, by omega, rfl, by omega, HK5, HB5, HO6⟩
   case measure => omega
  ·have HT : Hid (xd ds es (z.take (i + 1)) = xd ds es (z.take i)) := by have := uC ds es HX.out; rw [hp] at this; unfold Hid; simpa using this
   have HO6 : Hid (zQ w3 (w.heap.size + 1) Ao m co (xd ds es (z.take (i + 1)))) := by rw [HT.out]; exact HI3
   go_wp2_with fail
   go_roundg (n - (i + 1))
   case rel => exact ⟨i + 1, m, co, Ao, rfl, by go_num, by omega, rfl, by omega, HK3, HB3, HO6⟩
   case measure => omega
end
section
open Go.RowKit
theorem lz (k : Int) (w : World) : Calls Tryz.prog 97 #[.int .i64 k] w fun e w' => e = .returned (.bool (wO k)) ∧ w = w' := by
 by_cases h1 : k = 1
 ·subst h1
  go_enter Tryz.func97, Tryz.ntmps97
  go_wp2_with fail
  go_ret
  exact ⟨rfl, rfl⟩
 ·have q1 : (k == 1) = false := by simpa using h1
  by_cases h2 : k = 3
  ·subst h2
   go_enter Tryz.func97, Tryz.ntmps97
   go_wp2_with fail
   go_ret
   exact ⟨rfl, rfl⟩
  ·have q2 : (k == 3) = false := by simpa using h2
   have HR : Hid (wO k = (k == 6)) := by unfold Hid wO; rw [q1, q2]; simp
   go_enter Tryz.func97, Tryz.ntmps97
   go_wp2_with fail
   go_ret
   exact ⟨zP HR.out.symm, rfl⟩
section
variable {ds : List Dv} {ls : List Lk}
end
end
end Go.Proofs.YtepicjpdhpojnaaGreatDoor
