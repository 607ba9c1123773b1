import Derived.Test.YtfaknfmndafllaaGreatDoorW15
import Derived.Test.YtfaknfmndafllaaGreatDoorW08
import Derived.Test.YtfaknfmndafllaaGreatDoorW00
import Derived.Deep.LoopGhost
import Derived.Test.YtfaknfmndafllaaGreatDoorW11
import Derived.Test.YtfaknfmndafllaaGreatDoorW05
import Derived.Test.YtfaknfmndafllaaGreatDoorW04
import Derived.Deep.RegionLaw
import Derived.Deep.RegionWith
import Derived.Deep.DrawnRows
import Derived.Deep.DeepCutAuto
set_option maxRecDepth 100000
set_option maxHeartbeats 8000000
namespace Go.Proofs.YtfaknfmndafllaaGreatDoor
open Go.RowKit
def RColsPost (w : World) (nn : Nat) (er : Int) (ds : List Dv) (s : List Int) (e : Ending) (w' : World) : Prop :=
 Hid (Below w.heap.size w w') ∧ ((er ≠ 0 ∧ e = .returned (.tuple #[.slice none 0 0, .int .i64 er])) ∨ (er = 0 ∧ ∃ (A : Option Addr) (out : List Int), e = .returned (.tuple #[.slice A nn nn, .int .i64 0]) ∧ Hid (IntsO w' w.heap.size A nn nn out) ∧ Hid (IsCols nn ds s out)))
def RcC1 (w : World) (N : Array Value) (go nn nd : Nat) (A : Option Addr) (P : List Int) (ds : List Dv) (s : List Int) (gk : Nat) (iv : Value) (wr : World) : Prop := ∃ (j : Nat) (out : List Int), iv = .int .i64 j ∧ j ≤ nd ∧ gk = nd - j ∧ Hid (RpSt w N go nn out wr) ∧ Hid (Sl wr go 1 A nn nn (intsV P)) ∧ Hid (∀ (t : Nat) (q : Int), P[t]? = some q → out[t]? = some (bitsTo P ds s j q))
def RcC2 (w : World) (N : Array Value) (go nn bq : Nat) (nm : ByteArray) (kd a xb co : Int) (A : Option Addr) (P : List Int) (f f' : Int → Int) (gk : Nat) (iv : Value) (wr : World) : Prop := ∃ (v : Nat) (out : List Int), iv = .int .i64 v ∧ v ≤ nn ∧ gk = nn - v ∧ Hid (RpSt w N go nn out wr) ∧ Hid (Blk wr bq 68 #[.string nm, .int .i64 kd, .int .i64 a, .int .i64 xb, .int .i64 co]) ∧ Hid (Sl wr go 1 A nn nn (intsV P)) ∧ Hid (∀ (t : Nat) (q : Int), P[t]? = some q → out[t]? = some (if t < v then f' q else f q))
theorem or_earth {parts s : List Int} {ds : List Dv} {j : Nat} {x : Dv} {p : Int} (hx : ds[j]? = some x) (hs : s[j]? = some 2) (hk : x.kind = 4) (hp : parts[x.a.toNat]? = some p) : bits BinOp.or IntKind.i64 (bitsTo parts ds s j p) 2 = bitsTo parts ds s (j + 1) p := by
 have h := bits_earth hx hs hk hp
 rcases bits_range (parts := parts) (ds := ds) (s := s) (j := j) (p := p) with e | e | e | e
 ·rw [h.1 e, e] <;> first | rfl | kernel_rfl
 ·rw [h.2.1 e, e] <;> first | rfl | kernel_rfl
 ·rw [h.2.2.1 e, e] <;> first | rfl | kernel_rfl
 ·rw [h.2.2.2 e, e] <;> first | rfl | kernel_rfl
theorem or_live {parts s : List Int} {ds : List Dv} {j : Nat} {x : Dv} {p : Int} (hx : ds[j]? = some x) (hs : s[j]? = some 2) (hk : liveK x.kind) (hp : parts[x.a.toNat]? = some p) : bits BinOp.or IntKind.i64 (bitsTo parts ds s j p) 1 = bitsTo parts ds s (j + 1) p := by
 have h := bits_live hx hs hk hp
 rcases bits_range (parts := parts) (ds := ds) (s := s) (j := j) (p := p) with e | e | e | e
 ·rw [h.1 e, e] <;> first | rfl | kernel_rfl
 ·rw [h.2.1 e, e] <;> first | rfl | kernel_rfl
 ·rw [h.2.2.1 e, e] <;> first | rfl | kernel_rfl
 ·rw [h.2.2.2 e, e] <;> first | rfl | kernel_rfl
theorem rcols_any (An Ad As : Option Addr) (nn cn nd cd n c Bn Bd Bs : Nat) (ns : List Nd) (ds : List Dv) (s : List Int) (w : World) (hn : Sl w Bn 3 An nn cn (ns.flatMap Nd.cells)) (hd : Sl w Bd 5 Ad nd cd (ds.flatMap Dv.cells)) (hs : Sl w Bs 1 As n c (intsV s)) (hBn : Bn ≤ w.heap.size) (hBd : Bd ≤ w.heap.size) (hBs : Bs ≤ w.heap.size)
 (hsn : ∀ x ∈ ns, x.name.size ≤ 9223372036854775807) (hsd : ∀ x ∈ ds, x.name.size ≤ 9223372036854775807) (hnn : nn ≤ 10000) (hends : stateErr ns ds s = 0 → nd ≤ n ∧ EndsOk nn ds ∧ ∀ x ∈ ds, joinsB x.kind = true → x.b ≠ x.a) (hA : stateErr ns ds s = 0 → AOk nn ds ∧ ∀ x ∈ ds, 1 ≤ x.kind ∧ x.kind ≤ 6) :
 Calls Tryz.prog 62 #[.agg #[.slice An nn cn, .slice Ad nd cd], .slice As n c] w (RColsPost w nn (stateErr ns ds s) ds s) := by
 have HLD := Lib.hid (hd.len (fun _ => rfl) (by decide))
 obtain ⟨hdc, hdm⟩ := hd.le
 obtain ⟨hsc1, hsm⟩ := hs.le
 have HCK := Lib.hid (rparts_any An Ad As nn cn nd cd n c Bn Bd Bs ns ds s (w.alloc (.cells #[.slice An nn cn, .slice Ad nd cd] 30)) (hn.alloc hBn _) (hd.alloc hBd _) (hs.alloc hBs _) (by simp; omega) (by simp; omega) (by simp; omega) hsn hsd hnn hends)
 have HD := Lib.hid hd; have HS := Lib.hid hs; have HEN := Lib.hid hends; have HAA := Lib.hid hA
 clear hn hd hs hsn hsd hends hA
 have HR0 : Hid (RcSt w #[.slice An nn cn, .slice Ad nd cd] (w.alloc (.cells #[.slice An nn cn, .slice Ad nd cd] 30))) := ⟨Blk.new _ _ _, (Below.refl _ _).alloc (Nat.le_refl _) _⟩
 generalize stateErr ns ds s = er at *
 go_enter Tryz.func62, Tryz.ntmps62
 go_wp2_with fail
 refine HCK.out.mono ?_
 rintro e w1 ⟨hb1, ⟨h0, rfl⟩ | ⟨rfl, A, P, rfl, hO, hP⟩⟩
 ·have h0' : (er != 0) = true := by simpa using h0
  have H0 := Lib.hid h0; clear h0
  have HR1 := Lib.hid (HR0.out.later hb1.out)
  go_wp2_with fail
  go_ret2
  exact ⟨HR1.out.bl, .inl ⟨H0.out, rfl⟩⟩
 have hndn : nd ≤ n := (HEN.out rfl).1
 have HA := Lib.hid (HAA.out rfl).1; have HKK := Lib.hid (HAA.out rfl).2
 have HR1 := Lib.hid (HR0.out.later hb1.out)
 have HIP := Lib.hid hP.out
 have HLP := Lib.hid hO.out.len
 have k0 := HR1.out.bx.c0
 have hmk := run_mk_int nn (by omega) w1
 have HRP : Hid (RpSt w #[.slice An nn cn, .slice Ad nd cd] w1.heap.size nn (List.replicate nn 0) (w1.alloc (.cells (intsV (List.replicate nn 0)).toArray 3))) :=
  ⟨HR1.out.bx.alloc _, ints_new HR1.out.bx.lt (by omega), (HR1.out.alloc _).bl⟩
 have HPS := Lib.hid (hO.out.sl.alloc (Nat.le_refl _) (.cells (intsV (List.replicate nn 0)).toArray 3))
 clear HR1 HR0 HCK hb1 hO hP HEN HAA
 go_wp2_with fail
 clear hmk k0
 generalize World.alloc _ _ = W at *
 obtain ⟨go, hgo⟩ : ∃ go, go = w1.heap.size := ⟨_, rfl⟩
 rw [← hgo] at HRP HPS ⊢
 clear hgo
 go_loopg [9] nd (RcC1 w #[.slice An nn cn, .slice Ad nd cd] go nn nd A P ds s)
 case atStart => exact ⟨0, _, rfl, Nat.zero_le _, rfl, HRP, HPS, fun t q hq => by
  have ht : t < nn := by have := (List.getElem?_eq_some_iff.1 hq).1; rw [HLP.out] at this; exact this
  rw [List.getElem?_replicate, if_pos ht, bits_zero]⟩
 case round =>
  clear HRP HPS
  obtain ⟨j, out, rfl, hj, rfl, hst, hps, hf⟩ := hrel
  have k1 := hst.out.bx.c1
  by_cases hlj : j < nd; rotate_left
  ·obtain rfl : j = nd := by omega
   have hjj : decide (j < j) = false := by simp
   go_wp2_with fail
   go_ret2
   refine ⟨hst.out.bl, .inr ⟨rfl, _, out, rfl, hst.out.ob.mono (by omega), hst.out.ob.len, fun v hv => ?_⟩⟩
   obtain ⟨q, h1, _⟩ := HIP.out.2 v hv
   rw [hf.out v q h1, ← bits_col HIP.out HA.out hv h1, HLD.out]
  obtain ⟨b0, off, x, rfl, hb, hx, hc⟩ := (HD.out.below hst.out.bl hBd).at (fun _ => rfl) (by decide) hlj
  have HX := Lib.hid hx
  have hax := HA.out x (List.mem_of_getElem? hx)
  have hkx := HKK.out x (List.mem_of_getElem? hx)
  obtain ⟨nm, kd, xa, xb, co⟩ := x
  simp only at hax hkx
  obtain ⟨a, rfl⟩ := Int.eq_ofNat_of_zero_le hax.1
  have han : a < nn := by omega
  have c0 : wr.cell? ⟨b0, off + j * 5, none⟩ = some (.string nm) := hc 0 _ rfl
  have c1 : wr.cell? ⟨b0, off + j * 5 + 1, none⟩ = some (.int .i64 kd) := hc 1 _ rfl
  have c2 : wr.cell? ⟨b0, off + j * 5 + 2, none⟩ = some (.int .i64 a) := hc 2 _ rfl
  have c3 : wr.cell? ⟨b0, off + j * 5 + 3, none⟩ = some (.int .i64 xb) := hc 3 _ rfl
  have c4 : wr.cell? ⟨b0, off + j * 5 + 4, none⟩ = some (.int .i64 co) := hc 4 _ rfl
  clear hc hx hax
  go_upto_region 9 with (fail)
  clear c0 c1 c2 c3 c4 k1
  have HK := Lib.hid (Blk.new wr 68 #[.string nm, .int .i64 kd, .int .i64 a, .int .i64 xb, .int .i64 co])
  have HS1 := Lib.hid (hst.out.alloc (.cells #[.string nm, .int .i64 kd, .int .i64 a, .int .i64 xb, .int .i64 co] 68))
  have HPS1 := Lib.hid (hps.out.alloc (Nat.le_of_lt hst.out.ge.2) (.cells #[.string nm, .int .i64 kd, .int .i64 a, .int .i64 xb, .int .i64 co] 68))
  have hgq : go < wr.heap.size := hst.out.ge.2
  generalize World.alloc _ _ = w2 at *
  obtain ⟨bq, hbq⟩ : ∃ bq, bq = wr.heap.size := ⟨_, rfl⟩
  rw [← hbq] at HK ⊢
  have hgb : go < bq := by omega
  clear hbq hst hps hgq
  obtain ⟨sb, soff, sx, rfl, hsb, hsx, hsc⟩ := (HS.out.below HS1.out.bl hBs).at1 (k := j) (by omega)
  have HSX := Lib.hid hsx; clear hsx
  have hjn : j < n := by omega
  have e1 := HK.out.c1
  have HJ2 := Lib.hid (rjoins_any kd)
  by_cases h2 : sx = 2; rotate_left
  ·have q2 : (sx != 2) = true := by simpa using h2
   have HFN : Hid (∀ (t : Nat) (q : Int), P[t]? = some q → out[t]? = some (bitsTo P ds s (j + 1) q)) := fun t q hq => by
    rw [hf.out t q hq, bits_same HX.out (fun K _ h => h2 (by have := h.1; rw [HSX.out] at this; exact Option.some.inj this))]
   clear h2
   go_wp2_with fail
   go_roundg (nd - (j + 1))
   case rel => exact ⟨j + 1, out, by go_num, by omega, rfl, HS1, HPS1, HFN⟩
   case measure => omega
  subst h2
  rcases hjk : joinsB kd with _ | _; rotate_left
  ·have HFN : Hid (∀ (t : Nat) (q : Int), P[t]? = some q → out[t]? = some (bitsTo P ds s (j + 1) q)) := fun t q hq => by
    rw [hf.out t q hq, bits_same HX.out (fun K hK h => by
     have h3 := h.2.1
     have h4 : 1 ≤ kd ∧ kd ≤ 3 := by simpa [joinsB] using hjk
     rcases hK with rfl | rfl
     ·unfold liveK at h3; simp only at h3; omega
     ·simp only at h3; omega)]
   rw [hjk] at HJ2
   clear hjk
   go_wp2_with fail
   refine (HJ2.out _).mono ?_
   rintro e w3 ⟨rfl, rfl⟩
   go_wp2_with fail
   go_roundg (nd - (j + 1))
   case rel => exact ⟨j + 1, out, by go_num, by omega, rfl, HS1, HPS1, HFN⟩
   case measure => omega
  have hk46 : 4 ≤ kd := by
   have h5 : ¬ (1 ≤ kd ∧ kd ≤ 3) := by
    intro h6
    have h7 : joinsB kd = true := by simp [joinsB]; omega
    rw [h7] at hjk
    cases hjk
   omega
  rw [hjk] at HJ2
  clear hjk
  obtain ⟨pb, poff, pa, rfl, _, hpa, _⟩ := HPS1.out.at1 (k := a) han
  have HPA := Lib.hid hpa; clear hpa
  by_cases h4 : kd = 4
  ·subst h4
   go_wp2_with fail
   refine (HJ2.out _).mono ?_
   rintro e w3 ⟨rfl, rfl⟩
   go_wp2_with fail
   go_loopg [12] nn (RcC2 w #[.slice An nn cn, .slice (some ⟨b0, off, none⟩) nd cd] go nn bq nm 4 a xb co (some ⟨pb, poff, none⟩) P (bitsTo P ds s j) (bitsTo P ds s (j + 1)))
   case atStart => exact ⟨0, out, rfl, Nat.zero_le _, rfl, HS1, HK, HPS1, fun v q hq => by rw [if_neg (by omega)]; exact hf.out v q hq⟩
   case round =>
    clear HS1 HK HPS1 e1
    obtain ⟨v, out', rfl, hv, rfl, hst, hk, hps, hfv⟩ := hrel
    by_cases hlv : v < nn; rotate_left
    ·obtain rfl : v = nn := by omega
     have hvv : decide (v < v) = false := by simp
     have HFN : Hid (∀ (t : Nat) (q : Int), P[t]? = some q → out'[t]? = some (bitsTo P ds s (j + 1) q)) := fun t q hq => by
      have := hfv.out t q hq
      rwa [if_pos (by have := (List.getElem?_eq_some_iff.1 hq).1; rw [HLP.out] at this; exact this)] at this
     go_wp2_with fail
     go_roundg (nd - (j + 1))
     case rel => exact ⟨j + 1, out', by go_num, by omega, rfl, hst, hps, HFN⟩
     case measure => omega
    obtain ⟨pb2, poff2, q, hA2, _, hq, hcv⟩ := hps.out.at1 (k := v) hlv
    injection hA2 with hA2
    injection hA2 with h3 h4
    subst h3 h4
    have HQ := Lib.hid hq; clear hq
    obtain ⟨pb2, poff2, pa', hA2, _, hpa', hca⟩ := hps.out.at1 (k := a) han
    injection hA2 with hA2
    injection hA2 with h3 h4
    subst h3 h4
    obtain rfl : pa = pa' := by rw [HPA.out] at hpa'; exact Option.some.inj hpa'
    clear hpa'
    have e2 := hk.out.c2
    go_upto_region 16 with (fail)
    refine wp_region_J (S := fun W' => W'.cell? ⟨pb, poff + v, none⟩ = some (.int .i64 q) ∧ W'.cell? ⟨bq, 2, none⟩ = some (.int .i64 a) ∧ W'.cell? ⟨pb, poff + a, none⟩ = some (.int .i64 pa)) (J := []) (by kernel_rfl) ?_ (fun hHeld => ?_)
    ·exact ⟨hcv, e2, hca⟩
    try dsimp only at hHeld
    refine tk 0 57 (mf 10 1) hHeld ?_
    refine tk 1 58 (mf 10 2) hHeld ?_
    refine tk 2 59 (mf 10 3) hHeld ?_
    refine tk 3 60 (mf 10 4) hHeld ?_
    refine tk 4 61 (mf 10 5) hHeld ?_
    refine tk 5 62 (mf 10 6) hHeld ?_
    refine tk 6 63 (mf 10 7) hHeld ?_
    refine tk 7 64 (mf 10 8) hHeld ?_
    refine tk 8 65 (mf 10 9) hHeld ?_
    refine tk 9 66 (mf 10 10) hHeld ?_
    refine wpAnyJ_done (by kernel_rfl) ?_ _
    clear hHeld hcv hca e2
    have HOV := Lib.hid (hfv.out v q HQ.out)
    rw [if_neg (by omega)] at HOV
    by_cases hqp : q = pa; rotate_left
    ·have qqp : (q == pa) = false := by simpa using hqp
     have HNX : Hid (∀ (t : Nat) (r : Int), P[t]? = some r → out'[t]? = some (if t < v + 1 then bitsTo P ds s (j + 1) r else bitsTo P ds s j r)) := fun t r hr => by
      by_cases htv : t = v
      ·subst htv
       rw [HQ.out] at hr
       injection hr with hr
       subst hr
       rw [if_pos (by omega), HOV.out, bits_same HX.out (fun K _ h => hqp (by have := h.2.2; simp only [Int.toNat_natCast] at this; rw [HPA.out] at this; exact (Option.some.inj this).symm))]
      ·rw [hfv.out t r hr]
       by_cases h5 : t < v
       ·rw [if_pos h5, if_pos (by omega)]
       ·rw [if_neg h5, if_neg (by omega)]
     clear hqp
     go_wp2_with fail
     go_roundg (nn - (v + 1))
     case rel => exact ⟨v + 1, out', by go_num, by omega, rfl, hst.out.drew, hk, hps, HNX⟩
     case measure => omega
    ·subst hqp
     obtain ⟨x0, hx0, hcell, hfz⟩ := hst.out.cell hlv
     obtain rfl : bitsTo P ds s j q = x0 := by rw [HOV.out] at hx0; exact Option.some.inj hx0
     have hor : bits BinOp.or IntKind.i64 (bitsTo P ds s j q) 2 = bitsTo P ds s (j + 1) q := or_earth HX.out HSX.out rfl HPA.out
     have HOL := Lib.hid hst.out.ob.len
     have HPUT := Lib.hid (hst.out.put hlv (bitsTo P ds s (j + 1) q))
     have hgk : go < bq := hgb
     have HK2 : Hid (Blk (wr.setCell ⟨go, v, none⟩ (.int .i64 (bitsTo P ds s (j + 1) q))) bq 68 #[.string nm, .int .i64 4, .int .i64 a, .int .i64 xb, .int .i64 co]) := hk.out.far (by simp; omega) _
     have HPS2 : Hid (Sl (wr.setCell ⟨go, v, none⟩ (.int .i64 (bitsTo P ds s (j + 1) q))) go 1 (some ⟨pb, poff, none⟩) nn nn (intsV P)) := hps.out.setCell (Nat.le_refl _) _
     have HNX : Hid (∀ (t : Nat) (r : Int), P[t]? = some r → (out'.set v (bitsTo P ds s (j + 1) q))[t]? = some (if t < v + 1 then bitsTo P ds s (j + 1) r else bitsTo P ds s j r)) := fun t r hr => by
      rw [List.getElem?_set]
      by_cases htv : v = t
      ·subst htv
       rw [HQ.out] at hr
       injection hr with hr
       subst hr
       rw [if_pos rfl, if_pos (by rw [HOL.out]; exact hlv), if_pos (by omega)]
      ·rw [if_neg htv, hfv.out t r hr]
       by_cases h5 : t < v
       ·rw [if_pos h5, if_pos (by omega)]
       ·rw [if_neg h5, if_neg (by omega)]
     clear hx0 HOV
     generalize bitsTo P ds s (j + 1) q = b1 at *
     generalize bitsTo P ds s j q = b2 at *
     go_wp2_with fail
     go_roundg (nn - (v + 1))
     case rel => exact ⟨v + 1, _, by go_num, by omega, rfl, HPUT.out.drew, HK2, HPS2, HNX⟩
     case measure => omega
  ·have q4 : (kd == 4) = false := by simpa using h4
   have HLK : Hid (liveK kd) := by unfold Hid liveK; omega
   go_wp2_with fail
   refine (HJ2.out _).mono ?_
   rintro e w3 ⟨rfl, rfl⟩
   go_wp2_with fail
   go_loopg [12] nn (RcC2 w #[.slice An nn cn, .slice (some ⟨b0, off, none⟩) nd cd] go nn bq nm kd a xb co (some ⟨pb, poff, none⟩) P (bitsTo P ds s j) (bitsTo P ds s (j + 1)))
   case atStart => exact ⟨0, out, rfl, Nat.zero_le _, rfl, HS1, HK, HPS1, fun v q hq => by rw [if_neg (by omega)]; exact hf.out v q hq⟩
   case round =>
    clear HS1 HK HPS1 e1
    obtain ⟨v, out', rfl, hv, rfl, hst, hk, hps, hfv⟩ := hrel
    by_cases hlv : v < nn; rotate_left
    ·obtain rfl : v = nn := by omega
     have hvv : decide (v < v) = false := by simp
     have HFN : Hid (∀ (t : Nat) (q : Int), P[t]? = some q → out'[t]? = some (bitsTo P ds s (j + 1) q)) := fun t q hq => by
      have := hfv.out t q hq
      rwa [if_pos (by have := (List.getElem?_eq_some_iff.1 hq).1; rw [HLP.out] at this; exact this)] at this
     go_wp2_with fail
     go_roundg (nd - (j + 1))
     case rel => exact ⟨j + 1, out', by go_num, by omega, rfl, hst, hps, HFN⟩
     case measure => omega
    obtain ⟨pb2, poff2, q, hA2, _, hq, hcv⟩ := hps.out.at1 (k := v) hlv
    injection hA2 with hA2
    injection hA2 with h3 h4
    subst h3 h4
    have HQ := Lib.hid hq; clear hq
    obtain ⟨pb2, poff2, pa', hA2, _, hpa', hca⟩ := hps.out.at1 (k := a) han
    injection hA2 with hA2
    injection hA2 with h3 h4
    subst h3 h4
    obtain rfl : pa = pa' := by rw [HPA.out] at hpa'; exact Option.some.inj hpa'
    clear hpa'
    have e2 := hk.out.c2
    go_upto_region 16 with (fail)
    refine wp_region_J (S := fun W' => W'.cell? ⟨pb, poff + v, none⟩ = some (.int .i64 q) ∧ W'.cell? ⟨bq, 2, none⟩ = some (.int .i64 a) ∧ W'.cell? ⟨pb, poff + a, none⟩ = some (.int .i64 pa)) (J := []) (by kernel_rfl) ?_ (fun hHeld => ?_)
    ·exact ⟨hcv, e2, hca⟩
    try dsimp only at hHeld
    refine tk 0 57 (mf 10 1) hHeld ?_
    refine tk 1 58 (mf 10 2) hHeld ?_
    refine tk 2 59 (mf 10 3) hHeld ?_
    refine tk 3 60 (mf 10 4) hHeld ?_
    refine tk 4 61 (mf 10 5) hHeld ?_
    refine tk 5 62 (mf 10 6) hHeld ?_
    refine tk 6 63 (mf 10 7) hHeld ?_
    refine tk 7 64 (mf 10 8) hHeld ?_
    refine tk 8 65 (mf 10 9) hHeld ?_
    refine tk 9 66 (mf 10 10) hHeld ?_
    refine wpAnyJ_done (by kernel_rfl) ?_ _
    clear hHeld hcv hca e2
    have HOV := Lib.hid (hfv.out v q HQ.out)
    rw [if_neg (by omega)] at HOV
    by_cases hqp : q = pa; rotate_left
    ·have qqp : (q == pa) = false := by simpa using hqp
     have HNX : Hid (∀ (t : Nat) (r : Int), P[t]? = some r → out'[t]? = some (if t < v + 1 then bitsTo P ds s (j + 1) r else bitsTo P ds s j r)) := fun t r hr => by
      by_cases htv : t = v
      ·subst htv
       rw [HQ.out] at hr
       injection hr with hr
       subst hr
       rw [if_pos (by omega), HOV.out, bits_same HX.out (fun K _ h => hqp (by have := h.2.2; simp only [Int.toNat_natCast] at this; rw [HPA.out] at this; exact (Option.some.inj this).symm))]
      ·rw [hfv.out t r hr]
       by_cases h5 : t < v
       ·rw [if_pos h5, if_pos (by omega)]
       ·rw [if_neg h5, if_neg (by omega)]
     clear hqp
     go_wp2_with fail
     go_roundg (nn - (v + 1))
     case rel => exact ⟨v + 1, out', by go_num, by omega, rfl, hst.out.drew, hk, hps, HNX⟩
     case measure => omega
    ·subst hqp
     obtain ⟨x0, hx0, hcell, hfz⟩ := hst.out.cell hlv
     obtain rfl : bitsTo P ds s j q = x0 := by rw [HOV.out] at hx0; exact Option.some.inj hx0
     have hor : bits BinOp.or IntKind.i64 (bitsTo P ds s j q) 1 = bitsTo P ds s (j + 1) q := or_live HX.out HSX.out HLK.out HPA.out
     have HOL := Lib.hid hst.out.ob.len
     have HPUT := Lib.hid (hst.out.put hlv (bitsTo P ds s (j + 1) q))
     have hgk : go < bq := hgb
     have HK2 : Hid (Blk (wr.setCell ⟨go, v, none⟩ (.int .i64 (bitsTo P ds s (j + 1) q))) bq 68 #[.string nm, .int .i64 kd, .int .i64 a, .int .i64 xb, .int .i64 co]) := hk.out.far (by simp; omega) _
     have HPS2 : Hid (Sl (wr.setCell ⟨go, v, none⟩ (.int .i64 (bitsTo P ds s (j + 1) q))) go 1 (some ⟨pb, poff, none⟩) nn nn (intsV P)) := hps.out.setCell (Nat.le_refl _) _
     have HNX : Hid (∀ (t : Nat) (r : Int), P[t]? = some r → (out'.set v (bitsTo P ds s (j + 1) q))[t]? = some (if t < v + 1 then bitsTo P ds s (j + 1) r else bitsTo P ds s j r)) := fun t r hr => by
      rw [List.getElem?_set]
      by_cases htv : v = t
      ·subst htv
       rw [HQ.out] at hr
       injection hr with hr
       subst hr
       rw [if_pos rfl, if_pos (by rw [HOL.out]; exact hlv), if_pos (by omega)]
      ·rw [if_neg htv, hfv.out t r hr]
       by_cases h5 : t < v
       ·rw [if_pos h5, if_pos (by omega)]
       ·rw [if_neg h5, if_neg (by omega)]
     clear hx0 HOV
     generalize bitsTo P ds s (j + 1) q = b1 at *
     generalize bitsTo P ds s j q = b2 at *
     go_wp2_with fail
     go_roundg (nn - (v + 1))
     case rel => exact ⟨v + 1, _, by go_num, by omega, rfl, HPUT.out.drew, HK2, HPS2, HNX⟩
     case measure => omega
end Go.Proofs.YtfaknfmndafllaaGreatDoor
namespace Go.Proofs.YtfaknfmndafllaaGreatDoor
open Go.RowKit
def HaR (w : World) (l : List Int) (x : Int) (n gk : Nat) (iv : Value) (wr : World) : Prop := ∃ i : Nat, iv = .int .i64 i ∧ i ≤ n ∧ gk = n - i ∧ wr = w ∧ Hid (∀ k, k < i → l[k]? ≠ some x)
theorem rhas_any (A : Option Addr) (n c : Nat) (l : List Int) (x : Int) (w : World) (hs : Sl w w.heap.size 1 A n c (intsV l)) :
 Calls Tryz.prog 35 #[.slice A n c, .int .i64 x] w fun e w' => e = .returned (.bool (decide (x ∈ l))) ∧ w = w' := by
 have hnm := hs.le
 have HS := Lib.hid hs
 have HLN := Lib.hid (hs.len (fun _ => rfl) (by decide))
 clear hs
 go_enter Tryz.func35, Tryz.ntmps35
 go_wp2_with fail
 go_loopg [5] n (HaR w l x n)
 case atStart => exact ⟨0, rfl, Nat.zero_le _, rfl, rfl, fun k hk => absurd hk (by omega)⟩
 case round =>
  obtain ⟨i, rfl, hi, rfl, rfl, hno⟩ := hrel
  by_cases hlt : i < n
  ·obtain ⟨b, off, y, rfl, hb, hy, hc⟩ := HS.out.at1 hlt
   have HY := Lib.hid hy
   clear hy
   by_cases hxy : y = x
   ·have q : (y == x) = true := by simpa using hxy
    have HR : Hid (decide (x ∈ l) = true) := by
     unfold Hid
     rw [decide_eq_true_eq, ← hxy]
     exact List.mem_of_getElem? HY.out
    clear hxy
    go_wp2_with fail
    go_ret
    exact ⟨ret_bool HR.out.symm, rfl⟩
   ·have q : (y == x) = false := by simpa using hxy
    have HN : Hid (∀ k, k < i + 1 → l[k]? ≠ some x) := fun k hk e => by
     rcases Nat.lt_succ_iff_lt_or_eq.1 hk with h | rfl
     ·exact hno.out k h e
     ·rw [HY.out] at e; injection e with e; exact hxy e
    clear hxy
    go_wp2_with fail
    go_roundg (n - (i + 1))
    case rel => exact ⟨i + 1, by go_num, by omega, rfl, rfl, HN⟩
    case measure => omega
  ·obtain rfl : i = n := by omega
   have hii : decide (i < i) = false := by simp
   have HR : Hid (decide (x ∈ l) = false) := by
    unfold Hid
    rw [decide_eq_false_iff_not]
    intro hm
    obtain ⟨k, hk⟩ := List.mem_iff_getElem?.1 hm
    exact hno.out k (by have := (List.getElem?_eq_some_iff.1 hk).1; rw [HLN.out] at this; exact this) hk
   go_wp2_with fail
   go_ret
   exact ⟨ret_bool HR.out.symm, rfl⟩
end Go.Proofs.YtfaknfmndafllaaGreatDoor
namespace Go.Proofs.YtfaknfmndafllaaGreatDoor
open Go.RowKit
def csum (ns : List Nd) (l : List Int) : Int := l.foldl (fun k v => IntKind.i64.wrap (k + (match ns[v.toNat]? with | some y => y.cust | none => 0))) 0
theorem csum_next {ns : List Nd} {l : List Int} {i v : Nat} {y : Nd} (hl : l[i]? = some (v : Int)) (hy : ns[v]? = some y) : csum ns (l.take (i + 1)) = IntKind.i64.wrap (csum ns (l.take i) + y.cust) := by
 unfold csum
 rw [take_snoc hl, List.foldl_append]
 simp only [List.foldl_cons, List.foldl_nil, Int.toNat_natCast, hy]
def SumR (w : World) (nb : Nat) (V : Array Value) (ns : List Nd) (l : List Int) (n gk : Nat) (kv iv : Value) (wr : World) : Prop := ∃ (i : Nat) (k : Int), iv = .int .i64 i ∧ kv = .int .i64 k ∧ i ≤ n ∧ gk = n - i ∧ Hid (Below w.heap.size w wr) ∧ Hid (Blk wr nb 30 V) ∧ Hid (k = csum ns (l.take i))
theorem rsum_any (An Ad A : Option Addr) (nn cn nd cd n c : Nat) (ns : List Nd) (l : List Int) (w : World) (hn : Sl w w.heap.size 3 An nn cn (ns.flatMap Nd.cells)) (hs : Sl w w.heap.size 1 A n c (intsV l)) (hl : ∀ x ∈ l, 0 ≤ x ∧ x < nn) :
 Calls Tryz.prog 61 #[.agg #[.slice An nn cn, .slice Ad nd cd], .slice A n c] w fun e w' => e = .returned (.int .i64 (csum ns l)) ∧ Below w.heap.size w w' := by
 have hnm := hs.le
 have hnn := hn.le
 have HLL := Lib.hid (hs.len (fun _ => rfl) (by decide))
 have HS := Lib.hid hs
 have HN := Lib.hid hn
 have HL := Lib.hid hl
 clear hs hn hl
 go_enter Tryz.func61, Tryz.ntmps61
 go_upto_region 1 with (fail)
 have HB := Lib.hid (Blk.new w 30 #[.slice An nn cn, .slice Ad nd cd])
 have HW : Hid (Below w.heap.size w (w.alloc (.cells #[.slice An nn cn, .slice Ad nd cd] 30))) := (Below.refl _ _).alloc (Nat.le_refl _) _
 generalize World.alloc _ _ = w1 at *
 obtain ⟨nb, hnb⟩ : ∃ nb, nb = w.heap.size := ⟨_, rfl⟩
 rw [← hnb] at HB ⊢
 clear hnb
 go_wp2_with fail
 go_loopg [5, 6] n (SumR w nb #[.slice An nn cn, .slice Ad nd cd] ns l n)
 case atStart => exact ⟨0, 0, rfl, rfl, Nat.zero_le _, rfl, HW, HB, rfl⟩
 case round =>
  clear HB HW
  obtain ⟨i, k, rfl, rfl, hi, rfl, hbl, hbx, hks⟩ := hrel
  by_cases hlt : i < n
  ·obtain ⟨b, off, y, rfl, hb, hy, hc⟩ := (HS.out.below hbl.out (Nat.le_refl _)).at1 hlt
   have hyy := HL.out y (List.mem_of_getElem? hy)
   obtain ⟨v, rfl⟩ := Int.eq_ofNat_of_zero_le hyy.1
   have hv : v < nn := by omega
   obtain ⟨b1, of1, z, rfl, hb1, hz, hcz⟩ := (HN.out.below hbl.out (Nat.le_refl _)).at (fun _ => rfl) (by decide) hv
   obtain ⟨nm2, cu, co2⟩ := z
   have c1 : wr.cell? ⟨b1, of1 + v * 3 + 1, none⟩ = some (.int .i64 cu) := hcz 1 _ rfl
   have k0 := hbx.out.c0
   have HKS : Hid (IntKind.i64.wrap (k + cu) = csum ns (l.take (i + 1))) := by unfold Hid; rw [csum_next hy hz, ← hks.out]
   clear hcz hz hy hyy
   go_upto_region 5 with (fail)
   refine wp_region_J (S := fun W' => W'.cell? ⟨nb, 0, none⟩ = some (.slice (some ⟨b1, of1, none⟩) nn cn) ∧ W'.cell? ⟨b, off + i, none⟩ = some (.int .i64 (v : Nat)) ∧ W'.cell? ⟨b1, of1 + v * 3 + 1, none⟩ = some (.int .i64 cu)) (J := []) (by kernel_rfl) ?_ (fun hHeld => ?_)
   ·exact ⟨k0, hc, c1⟩
   try dsimp only at hHeld
   refine tk 0 13 (mf 12 1) hHeld ?_
   refine tk 1 14 (mf 12 2) hHeld ?_
   refine tk 2 15 (mf 12 3) hHeld ?_
   refine tk 3 16 (mf 12 4) hHeld ?_
   refine tk 4 17 (mf 12 5) hHeld ?_
   refine tk 5 18 (mf 12 6) hHeld ?_
   refine tk 6 19 (mf 12 7) hHeld ?_
   refine tk 7 20 (mf 12 8) hHeld ?_
   refine tk 8 21 (mf 12 9) hHeld ?_
   refine tk 9 22 (mf 12 10) hHeld ?_
   refine tk 10 23 (mf 12 11) hHeld ?_
   refine tk 11 5 (mf 12 12) hHeld ?_
   refine wpAnyJ_done (by kernel_rfl) ?_ _
   clear hHeld
   go_wp2_with fail
   go_roundg (n - (i + 1))
   case rel => exact ⟨i + 1, _, by go_num, rfl, by omega, rfl, hbl.out.drew, hbx, HKS⟩
   case measure => omega
  ·obtain rfl : i = n := by omega
   have hii : decide (i < i) = false := by simp
   go_wp2_with fail
   go_ret
   exact ⟨by rw [hks.out, List.take_of_length_le (by rw [HLL.out]; exact Nat.le_refl _)]; rfl, hbl.out⟩
end Go.Proofs.YtfaknfmndafllaaGreatDoor
namespace Go.Proofs.YtfaknfmndafllaaGreatDoor
open Go.RowKit
attribute [local go_sem ↓] Go.wp_at_zero Go.wp_at_succ
def letterT (k : Nat) : List UInt8 := [[], [76], [81], [68], [69], [83], [71]].getD k []
section
variable {w0 w W W' : World} {g : Nat} {dmax : Int} {An Ad : Option Addr} {nn cn nd cd kind t : Nat} {ns : List Nd} {ds : List Dv} {LT : ByteArray}
end
end Go.Proofs.YtfaknfmndafllaaGreatDoor
namespace Go.Proofs.YtfaknfmndafllaaGreatDoor
open Go.RowKit
def NdOk (i : Nat) (x : Nd) : Prop := x.name = mkS (nm2 [78] i) ∧ 0 ≤ x.cust ∧ x.cust ≤ 50 ∧ 0 ≤ x.comp ∧ x.comp ≤ 2
def DvOk (k i : Nat) (x : Dv) : Prop := x.name = mkS (nm2 (letterT x.kind.toNat) i) ∧ 1 ≤ x.kind ∧ x.kind ≤ 6 ∧ endsB x.kind x.a x.b k = true ∧ 0 ≤ x.comp ∧ x.comp ≤ 2
def MadeN (ns : List Nd) : Prop := ∀ i x, ns[i]? = some x → NdOk i x
def MadeD (k : Nat) (ds : List Dv) : Prop := ∀ i x, ds[i]? = some x → DvOk k i x
theorem MadeN.snoc {ns : List Nd} (h : MadeN ns) {x : Nd} (hx : NdOk ns.length x) : MadeN (ns ++ [x]) := by
 intro i y hy
 rcases Nat.lt_trichotomy i ns.length with h1 | h1 | h1
 ·rw [List.getElem?_append_left h1] at hy; exact h i y hy
 ·subst h1; simp at hy; subst hy; exact hx
 ·rw [List.getElem?_eq_none (by simp; omega)] at hy; cases hy
theorem MadeD.snoc {k : Nat} {ds : List Dv} (h : MadeD k ds) {x : Dv} (hx : DvOk k ds.length x) : MadeD k (ds ++ [x]) := by
 intro i y hy
 rcases Nat.lt_trichotomy i ds.length with h1 | h1 | h1
 ·rw [List.getElem?_append_left h1] at hy; exact h i y hy
 ·subst h1; simp at hy; subst hy; exact hx
 ·rw [List.getElem?_eq_none (by simp; omega)] at hy; cases hy
def NetD (lo : Nat) (w0 : World) (g : Nat) (dmax : Int) (An : Option Addr) (k cn : Nat) (ns : List Nd) (w : World) : Prop :=
 ∃ (Ad : Option Addr) (nd cd : Nat) (ds : List Dv), NetSt w0 g dmax An k cn ns Ad nd cd ds w ∧ (nd : Int) ≤ dmax ∧ lo ≤ nd ∧ ds.length = nd ∧ MadeD k ds
section
variable {w0 w w' : World} {g lo k cn : Nat} {dmax : Int} {An : Option Addr} {ns : List Nd}
theorem NetD.next (h : NetD lo w0 g dmax An k cn ns w) (hd : DeckAt w' g) (hg : w.grownBy w' (some g)) : NetD lo w0 g dmax An k cn ns w' := by
 obtain ⟨Ad, nd, cd, ds, h1, h2⟩ := h
 exact ⟨Ad, nd, cd, ds, h1.next hd hg, h2⟩
theorem NetD.deck (h : NetD lo w0 g dmax An k cn ns w) : DeckAt w g := by
 obtain ⟨Ad, nd, cd, ds, h1, h2⟩ := h
 exact h1.deck
theorem NetD.pc (h : NetD lo w0 g dmax An k cn ns w) : w.cell? ⟨w0.heap.size, 0, none⟩ = some (.pointer (some ⟨g, 0, none⟩)) := by
 obtain ⟨Ad, nd, cd, ds, h1, h2⟩ := h
 exact h1.pb.cell 0
end
structure MadeNet (nodes dmax : Int) (ns : List Nd) (ds : List Dv) : Prop where
 n2 : 2 ≤ ns.length
 nm : (ns.length : Int) ≤ nodes
 d1 : 1 ≤ ds.length
 dm : (ds.length : Int) ≤ dmax
 nok : MadeN ns
 dok : MadeD ns.length ds
end Go.Proofs.YtfaknfmndafllaaGreatDoor
