import Derived.Test.YtepicjpdhpojnaaGreatDoorX13
import Derived.Test.YtepicjpdhpojnaaGreatDoorX08
set_option maxRecDepth 100000
set_option maxHeartbeats 8000000
namespace Go.Proofs.YtepicjpdhpojnaaGreatDoor
section
open Go.RowKit
def pH (w : World) (nn : Nat) (er : Int) (ds : List Dv) (s : List Int) (e : Ending) (w' : World) : Prop :=
 Hid (Below w.heap.size w w') ∧ ((er ≠ 0 ∧ e = .returned (.tuple #[.slice none 0 0, .int .i64 er])) ∨ (er = 0 ∧ ∃ (A : Option Addr) (out : List Int), e = .returned (.tuple #[.slice A nn nn, .int .i64 0]) ∧ Hid (zQ w' w.heap.size A nn nn out) ∧ Hid (uJ nn ds s out)))
def iV (w : World) (N : Array Value) (go nn nd : Nat) (A : Option Addr) (P : List Int) (ds : List Dv) (s : List Int) (gk : Nat) (iv : Value) (wr : World) : Prop := ∃ (j : Nat) (out : List Int), iv = .int .i64 j ∧ j ≤ nd ∧ gk = nd - j ∧ Hid (vK w N go nn out wr) ∧ Hid (Sl wr go 1 A nn nn (zK P)) ∧ Hid (∀ (t : Nat) (q : Int), P[t]? = some q → out[t]? = some (zS P ds s j q))
def j6 (w : World) (N : Array Value) (go nn bq : Nat) (nm : ByteArray) (kd a xb co : Int) (A : Option Addr) (P : List Int) (f f' : Int → Int) (gk : Nat) (iv : Value) (wr : World) : Prop := ∃ (v : Nat) (out : List Int), iv = .int .i64 v ∧ v ≤ nn ∧ gk = nn - v ∧ Hid (vK w N go nn out wr) ∧ Hid (Blk wr bq 38 #[.string nm, .int .i64 kd, .int .i64 a, .int .i64 xb, .int .i64 co]) ∧ Hid (Sl wr go 1 A nn nn (zK P)) ∧ Hid (∀ (t : Nat) (q : Int), P[t]? = some q → out[t]? = some (if t < v then f' q else f q))
theorem kF {parts s : List Int} {ds : List Dv} {j : Nat} {x : Dv} {p : Int} (hx : ds[j]? = some x) (hs : s[j]? = some 2) (hk : x.kind = 4) (hp : parts[x.a.toNat]? = some p) : bits BinOp.or IntKind.i64 (zS parts ds s j p) 2 = zS parts ds s (j + 1) p := by
 have h := qF hx hs hk hp
 rcases uH (parts := parts) (ds := ds) (s := s) (j := j) (p := p) with e | e | e | e
 ·rw [h.1 e, e] <;> first | rfl | kernel_rfl
 ·rw [h.2.1 e, e] <;> first | rfl | kernel_rfl
 ·rw [h.2.2.1 e, e] <;> first | rfl | kernel_rfl
 ·rw [h.2.2.2 e, e] <;> first | rfl | kernel_rfl
theorem jS {parts s : List Int} {ds : List Dv} {j : Nat} {x : Dv} {p : Int} (hx : ds[j]? = some x) (hs : s[j]? = some 2) (hk : xQ x.kind) (hp : parts[x.a.toNat]? = some p) : bits BinOp.or IntKind.i64 (zS parts ds s j p) 1 = zS parts ds s (j + 1) p := by
 have h := pF hx hs hk hp
 rcases uH (parts := parts) (ds := ds) (s := s) (j := j) (p := p) with e | e | e | e
 ·rw [h.1 e, e] <;> first | rfl | kernel_rfl
 ·rw [h.2.1 e, e] <;> first | rfl | kernel_rfl
 ·rw [h.2.2.1 e, e] <;> first | rfl | kernel_rfl
 ·rw [h.2.2.2 e, e] <;> first | rfl | kernel_rfl
theorem qa (An Ad As : Option Addr) (nn cn nd cd n c Bn Bd Bs : Nat) (ns : List Nd) (ds : List Dv) (s : List Int) (w : World) (hn : Sl w Bn 3 An nn cn (ns.flatMap Nd.cells)) (hd : Sl w Bd 5 Ad nd cd (ds.flatMap Dv.cells)) (hs : Sl w Bs 1 As n c (zK s)) (hBn : Bn ≤ w.heap.size) (hBd : Bd ≤ w.heap.size) (hBs : Bs ≤ w.heap.size)
 (hsn : ∀ x ∈ ns, x.name.size ≤ 9223372036854775807) (hsd : ∀ x ∈ ds, x.name.size ≤ 9223372036854775807) (hnn : nn ≤ 10000) (hends : zV ns ds s = 0 → nd ≤ n ∧ xG nn ds ∧ ∀ x ∈ ds, zo x.kind = true → x.b ≠ x.a) (hA : zV ns ds s = 0 → AOk nn ds ∧ ∀ x ∈ ds, 1 ≤ x.kind ∧ x.kind ≤ 6) :
 Calls Tryz.prog 20 #[.agg #[.slice An nn cn, .slice Ad nd cd], .slice As n c] w (pH w nn (zV ns ds s) ds s) := by
 have HLD := iD (hd.len (fun _ => rfl) (by decide))
 obtain ⟨hdc, hdm⟩ := hd.le
 obtain ⟨hsc1, hsm⟩ := hs.le
 have HCK := iD (nv An Ad As nn cn nd cd n c Bn Bd Bs ns ds s (w.alloc (.cells #[.slice An nn cn, .slice Ad nd cd] 30)) (hn.alloc hBn _) (hd.alloc hBd _) (hs.alloc hBs _) (by simp; omega) (by simp; omega) (by simp; omega) hsn hsd hnn hends)
 have HD := iD hd; have HS := iD hs; have HEN := iD hends; have HAA := iD hA
 clear hn hd hs hsn hsd hends hA
 have HR0 : Hid (ui w #[.slice An nn cn, .slice Ad nd cd] (w.alloc (.cells #[.slice An nn cn, .slice Ad nd cd] 30))) := ⟨Blk.new _ _ _, (Below.refl _ _).alloc lR _⟩
 generalize zV ns ds s = er at *
 go_enter Tryz.func20, Tryz.ntmps20
 go_wp2_with fail
 refine HCK.out.mono ?_
 rintro e w1 ⟨hb1, ⟨h0, rfl⟩ | ⟨rfl, A, P, rfl, hO, hP⟩⟩
 ·have h0' : (er != 0) = true := by simpa using h0
  have H0 := iD h0; clear h0
  have HR1 := iD (HR0.out.later hb1.out)
  go_wp2_with fail
  go_ret2
  exact ⟨HR1.out.bl, .inl ⟨H0.out, rfl⟩⟩
 have hndn : nd ≤ n := (HEN.out rfl).1
 have HA := iD (HAA.out rfl).1; have HKK := iD (HAA.out rfl).2
 have HR1 := iD (HR0.out.later hb1.out)
 have HIP := iD hP.out
 have HLP := iD hO.out.len
 have k0 : w1.cell? ⟨w.heap.size, 0, none⟩ = some (.slice An nn cn) := HR1.out.bx.cell 0
 have hmk := vz nn (by omega) w1
 have HRP : Hid (vK w #[.slice An nn cn, .slice Ad nd cd] w1.heap.size nn (List.replicate nn 0) (w1.alloc (.cells (zK (List.replicate nn 0)).toArray 3))) :=
  ⟨HR1.out.bx.alloc _, tw HR1.out.bx.lt (by omega), (HR1.out.alloc _).bl⟩
 have HPS := iD (hO.out.sl.alloc lR (.cells (zK (List.replicate nn 0)).toArray 3))
 clear HR1 HR0 HCK hb1 hO hP HEN HAA
 go_wp2_with fail
 clear hmk k0
 generalize World.alloc _ _ = W at *
 obtain ⟨go, hgo⟩ : ∃ go, go = w1.heap.size := ⟨_, rfl⟩
 rw [← hgo] at HRP HPS ⊢
 clear hgo
 go_loopg [9] nd (iV w #[.slice An nn cn, .slice Ad nd cd] go nn nd A P ds s)
 case atStart => exact ⟨0, _, rfl, Nat.zero_le _, rfl, HRP, HPS, fun t q hq => by
  have ht : t < nn := by have := (List.getElem?_eq_some_iff.1 hq).1; rw [HLP.out] at this; exact this
  rw [List.getElem?_replicate, if_pos ht, pE]⟩
 case round =>
  clear HRP HPS
  obtain ⟨j, out, rfl, hj, rfl, hst, hps, hf⟩ := hrel
  have k1 : wr.cell? ⟨w.heap.size, 1, none⟩ = some (.slice Ad nd cd) := hst.out.bx.cell 1
  by_cases hlj : j < nd; rotate_left
  ·obtain rfl : j = nd := by omega
   have hjj : decide (j < j) = false := by simp
   go_wp2_with fail
   go_ret2
   refine ⟨hst.out.bl, .inr ⟨rfl, _, out, rfl, hst.out.ob.mono (by omega), hst.out.ob.len, fun v hv => ?_⟩⟩
   obtain ⟨q, h1, _⟩ := HIP.out.2 v hv
   rw [hf.out v q h1, ← nL HIP.out HA.out hv h1, HLD.out]
  obtain ⟨b0, off, x, rfl, hb, hx, hc⟩ := (HD.out.below hst.out.bl hBd).at (fun _ => rfl) (by decide) hlj
  have HX := iD hx
  have hax := HA.out x (List.mem_of_getElem? hx)
  have hkx := HKK.out x (List.mem_of_getElem? hx)
  obtain ⟨nm, kd, xa, xb, co⟩ := x
  simp only at hax hkx
  obtain ⟨a, rfl⟩ := Int.eq_ofNat_of_zero_le hax.1
  have han : a < nn := by omega
  have c0 : wr.cell? ⟨b0, off + j * 5, none⟩ = some (.string nm) := hc 0 _ rfl
  have c1 : wr.cell? ⟨b0, off + j * 5 + 1, none⟩ = some (.int .i64 kd) := hc 1 _ rfl
  have c2 : wr.cell? ⟨b0, off + j * 5 + 2, none⟩ = some (.int .i64 a) := hc 2 _ rfl
  have c3 : wr.cell? ⟨b0, off + j * 5 + 3, none⟩ = some (.int .i64 xb) := hc 3 _ rfl
  have c4 : wr.cell? ⟨b0, off + j * 5 + 4, none⟩ = some (.int .i64 co) := hc 4 _ rfl
  clear hc hx hax
  go_upto_region 9 with (fail)
  clear c0 c1 c2 c3 c4 k1
  have HK := iD (Blk.new wr 38 #[.string nm, .int .i64 kd, .int .i64 a, .int .i64 xb, .int .i64 co])
  have HS1 := iD (hst.out.alloc (.cells #[.string nm, .int .i64 kd, .int .i64 a, .int .i64 xb, .int .i64 co] 38))
  have HPS1 := iD (hps.out.alloc (Nat.le_of_lt hst.out.ge.2) (.cells #[.string nm, .int .i64 kd, .int .i64 a, .int .i64 xb, .int .i64 co] 38))
  have hgq : go < wr.heap.size := hst.out.ge.2
  generalize World.alloc _ _ = w2 at *
  obtain ⟨bq, hbq⟩ : ∃ bq, bq = wr.heap.size := ⟨_, rfl⟩
  rw [← hbq] at HK ⊢
  have hgb : go < bq := by omega
  clear hbq hst hps hgq
  obtain ⟨sb, soff, sx, rfl, hsb, hsx, hsc⟩ := (HS.out.below HS1.out.bl hBs).at1 (k := j) (by omega)
  have HSX := iD hsx; clear hsx
  have hjn : j < n := by omega
  have e1 : w2.cell? ⟨bq, 1, none⟩ = some (.int .i64 kd) := HK.out.cell 1
  have HJ2 := iD (wo kd)
  by_cases h2 : sx = 2; rotate_left
  ·have q2 : (sx != 2) = true := by simpa using h2
   have HFN : Hid (∀ (t : Nat) (q : Int), P[t]? = some q → out[t]? = some (zS P ds s (j + 1) q)) := fun t q hq => by
    rw [hf.out t q hq, xg HX.out (fun K _ h => h2 (by have := h.1; rw [HSX.out] at this; exact Option.some.inj this))]
   clear h2
   go_wp2_with fail
   go_roundg (nd - (j + 1))
   case rel => exact ⟨j + 1, out, by go_num, by omega, rfl, HS1, HPS1, HFN⟩
   case measure => omega
  subst h2
  rcases hjk : zo kd with _ | _; rotate_left
  ·have HFN : Hid (∀ (t : Nat) (q : Int), P[t]? = some q → out[t]? = some (zS P ds s (j + 1) q)) := fun t q hq => by
    rw [hf.out t q hq, xg HX.out (fun K hK h => by
     have h3 := h.2.1
     have h4 : 1 ≤ kd ∧ kd ≤ 3 := by simpa [zo] using hjk
     rcases hK with rfl | rfl
     ·unfold xQ at h3; simp only at h3; omega
     ·simp only at h3; omega)]
   rw [hjk] at HJ2
   clear hjk
   go_wp2_with fail
   refine (HJ2.out _).mono ?_
   rintro e w3 ⟨rfl, rfl⟩
   go_wp2_with fail
   go_roundg (nd - (j + 1))
   case rel => exact ⟨j + 1, out, by go_num, by omega, rfl, HS1, HPS1, HFN⟩
   case measure => omega
  have hk46 : 4 ≤ kd := by
   have h5 : ¬ (1 ≤ kd ∧ kd ≤ 3) := by
    intro h6
    have h7 : zo kd = true := by simp [zo]; omega
    rw [h7] at hjk
    cases hjk
   omega
  rw [hjk] at HJ2
  clear hjk
  obtain ⟨pb, poff, pa, rfl, _, hpa, _⟩ := HPS1.out.at1 (k := a) han
  have HPA := iD hpa; clear hpa
  by_cases h4 : kd = 4
  ·subst h4
   go_wp2_with fail
   refine (HJ2.out _).mono ?_
   rintro e w3 ⟨rfl, rfl⟩
   go_wp2_with fail
   go_loopg [12] nn (j6 w #[.slice An nn cn, .slice (some ⟨b0, off, none⟩) nd cd] go nn bq nm 4 a xb co (some ⟨pb, poff, none⟩) P (zS P ds s j) (zS P ds s (j + 1)))
   case atStart => exact ⟨0, out, rfl, Nat.zero_le _, rfl, HS1, HK, HPS1, fun v q hq => by rw [if_neg (by omega)]; exact hf.out v q hq⟩
   case round =>
    clear HS1 HK HPS1 e1
    obtain ⟨v, out', rfl, hv, rfl, hst, hk, hps, hfv⟩ := hrel
    by_cases hlv : v < nn; rotate_left
    ·obtain rfl : v = nn := by omega
     have hvv : decide (v < v) = false := by simp
     have HFN : Hid (∀ (t : Nat) (q : Int), P[t]? = some q → out'[t]? = some (zS P ds s (j + 1) q)) := fun t q hq => by
      have := hfv.out t q hq
      rwa [if_pos (by have := (List.getElem?_eq_some_iff.1 hq).1; rw [HLP.out] at this; exact this)] at this
     go_wp2_with fail
     go_roundg (nd - (j + 1))
     case rel => exact ⟨j + 1, out', by go_num, by omega, rfl, hst, hps, HFN⟩
     case measure => omega
    obtain ⟨pb2, poff2, q, hA2, _, hq, hcv⟩ := hps.out.at1 (k := v) hlv
    injection hA2 with hA2
    injection hA2 with h3 h4
    subst h3 h4
    have HQ := iD hq; clear hq
    obtain ⟨pb2, poff2, pa', hA2, _, hpa', hca⟩ := hps.out.at1 (k := a) han
    injection hA2 with hA2
    injection hA2 with h3 h4
    subst h3 h4
    obtain rfl : pa = pa' := by rw [HPA.out] at hpa'; exact Option.some.inj hpa'
    clear hpa'
    have e2 : wr.cell? ⟨bq, 2, none⟩ = some (.int .i64 a) := hk.out.cell 2
    go_upto_region 16 with (fail)
    refine zJ (S := fun W' => W'.cell? ⟨pb, poff + v, none⟩ = some (.int .i64 q) ∧ W'.cell? ⟨bq, 2, none⟩ = some (.int .i64 a) ∧ W'.cell? ⟨pb, poff + a, none⟩ = some (.int .i64 pa)) (J := []) (by kernel_rfl) ?_ (fun AA => ?_)
    ·exact ⟨hcv, e2, hca⟩
    try dsimp only at AA
    refine tk 0 57 (mf 10 1) AA ?_
    refine tk 1 58 (mf 10 2) AA ?_
    refine tk 2 59 (mf 10 3) AA ?_
    refine tk 3 60 (mf 10 4) AA ?_
    refine tk 4 61 (mf 10 5) AA ?_
    refine tk 5 62 (mf 10 6) AA ?_
    refine tk 6 63 (mf 10 7) AA ?_
    refine tk 7 64 (mf 10 8) AA ?_
    refine tk 8 65 (mf 10 9) AA ?_
    refine tk 9 66 (mf 10 10) AA ?_
    refine zH (by kernel_rfl) ?_ _
    clear AA hcv hca e2
    have HOV := iD (hfv.out v q HQ.out)
    rw [if_neg (by omega)] at HOV
    by_cases hqp : q = pa; rotate_left
    ·have qqp : (q == pa) = false := by simpa using hqp
     have HNX : Hid (∀ (t : Nat) (r : Int), P[t]? = some r → out'[t]? = some (if t < v + 1 then zS P ds s (j + 1) r else zS P ds s j r)) := fun t r hr => by
      by_cases htv : t = v
      ·subst htv
       rw [HQ.out] at hr
       injection hr with hr
       subst hr
       rw [if_pos (by omega), HOV.out, xg HX.out (fun K _ h => hqp (by have := h.2.2; simp only [Int.toNat_natCast] at this; rw [HPA.out] at this; exact (Option.some.inj this).symm))]
      ·rw [hfv.out t r hr]
       by_cases h5 : t < v
       ·rw [if_pos h5, if_pos (by omega)]
       ·rw [if_neg h5, if_neg (by omega)]
     clear hqp
     go_wp2_with fail
     go_roundg (nn - (v + 1))
     case rel => exact ⟨v + 1, out', by go_num, by omega, rfl, hst.out.drew, hk, hps, HNX⟩
     case measure => omega
    ·subst hqp
     obtain ⟨x0, hx0, hcell, hfz⟩ := hst.out.cell hlv
     obtain rfl : zS P ds s j q = x0 := by rw [HOV.out] at hx0; exact Option.some.inj hx0
     have hor : bits BinOp.or IntKind.i64 (zS P ds s j q) 2 = zS P ds s (j + 1) q := kF HX.out HSX.out rfl HPA.out
     have HOL := iD hst.out.ob.len
     have HPUT := iD (hst.out.put hlv (zS P ds s (j + 1) q))
     have hgk : go < bq := hgb
     have HK2 : Hid (Blk (wr.setCell ⟨go, v, none⟩ (.int .i64 (zS P ds s (j + 1) q))) bq 38 #[.string nm, .int .i64 4, .int .i64 a, .int .i64 xb, .int .i64 co]) := hk.out.far (by simp; omega) _
     have HPS2 : Hid (Sl (wr.setCell ⟨go, v, none⟩ (.int .i64 (zS P ds s (j + 1) q))) go 1 (some ⟨pb, poff, none⟩) nn nn (zK P)) := hps.out.setCell lR _
     have HNX : Hid (∀ (t : Nat) (r : Int), P[t]? = some r → (out'.set v (zS P ds s (j + 1) q))[t]? = some (if t < v + 1 then zS P ds s (j + 1) r else zS P ds s j r)) := fun t r hr => by
      rw [List.getElem?_set]
      by_cases htv : v = t
      ·subst htv
       rw [HQ.out] at hr
       injection hr with hr
       subst hr
       rw [if_pos rfl, if_pos (by rw [HOL.out]; exact hlv), if_pos (by omega)]
      ·rw [if_neg htv, hfv.out t r hr]
       by_cases h5 : t < v
       ·rw [if_pos h5, if_pos (by omega)]
       ·rw [if_neg h5, if_neg (by omega)]
     clear hx0 HOV
     generalize zS P ds s (j + 1) q = b1 at *
     generalize zS P ds s j q = b2 at *
     go_wp2_with fail
     go_roundg (nn - (v + 1))
     case rel => exact ⟨v + 1, _, by go_num, by omega, rfl, HPUT.out.drew, HK2, HPS2, HNX⟩
     case measure => omega
  ·have q4 : (kd == 4) = false := by simpa using h4
   have HLK : Hid (xQ kd) := by unfold Hid xQ; omega
   go_wp2_with fail
   refine (HJ2.out _).mono ?_
   rintro e w3 ⟨rfl, rfl⟩
   go_wp2_with fail
   go_loopg [12] nn (j6 w #[.slice An nn cn, .slice (some ⟨b0, off, none⟩) nd cd] go nn bq nm kd a xb co (some ⟨pb, poff, none⟩) P (zS P ds s j) (zS P ds s (j + 1)))
   case atStart => exact ⟨0, out, rfl, Nat.zero_le _, rfl, HS1, HK, HPS1, fun v q hq => by rw [if_neg (by omega)]; exact hf.out v q hq⟩
   case round =>
    clear HS1 HK HPS1 e1
    obtain ⟨v, out', rfl, hv, rfl, hst, hk, hps, hfv⟩ := hrel
    by_cases hlv : v < nn; rotate_left
    ·obtain rfl : v = nn := by omega
     have hvv : decide (v < v) = false := by simp
     have HFN : Hid (∀ (t : Nat) (q : Int), P[t]? = some q → out'[t]? = some (zS P ds s (j + 1) q)) := fun t q hq => by
      have := hfv.out t q hq
      rwa [if_pos (by have := (List.getElem?_eq_some_iff.1 hq).1; rw [HLP.out] at this; exact this)] at this
     go_wp2_with fail
     go_roundg (nd - (j + 1))
     case rel => exact ⟨j + 1, out', by go_num, by omega, rfl, hst, hps, HFN⟩
     case measure => omega
    obtain ⟨pb2, poff2, q, hA2, _, hq, hcv⟩ := hps.out.at1 (k := v) hlv
    injection hA2 with hA2
    injection hA2 with h3 h4
    subst h3 h4
    have HQ := iD hq; clear hq
    obtain ⟨pb2, poff2, pa', hA2, _, hpa', hca⟩ := hps.out.at1 (k := a) han
    injection hA2 with hA2
    injection hA2 with h3 h4
    subst h3 h4
    obtain rfl : pa = pa' := by rw [HPA.out] at hpa'; exact Option.some.inj hpa'
    clear hpa'
    have e2 : wr.cell? ⟨bq, 2, none⟩ = some (.int .i64 a) := hk.out.cell 2
    go_upto_region 16 with (fail)
    refine zJ (S := fun W' => W'.cell? ⟨pb, poff + v, none⟩ = some (.int .i64 q) ∧ W'.cell? ⟨bq, 2, none⟩ = some (.int .i64 a) ∧ W'.cell? ⟨pb, poff + a, none⟩ = some (.int .i64 pa)) (J := []) (by kernel_rfl) ?_ (fun AA => ?_)
    ·exact ⟨hcv, e2, hca⟩
    try dsimp only at AA
    refine tk 0 57 (mf 10 1) AA ?_
    refine tk 1 58 (mf 10 2) AA ?_
    refine tk 2 59 (mf 10 3) AA ?_
    refine tk 3 60 (mf 10 4) AA ?_
    refine tk 4 61 (mf 10 5) AA ?_
    refine tk 5 62 (mf 10 6) AA ?_
    refine tk 6 63 (mf 10 7) AA ?_
    refine tk 7 64 (mf 10 8) AA ?_
    refine tk 8 65 (mf 10 9) AA ?_
    refine tk 9 66 (mf 10 10) AA ?_
    refine zH (by kernel_rfl) ?_ _
    clear AA hcv hca e2
    have HOV := iD (hfv.out v q HQ.out)
    rw [if_neg (by omega)] at HOV
    by_cases hqp : q = pa; rotate_left
    ·have qqp : (q == pa) = false := by simpa using hqp
     have HNX : Hid (∀ (t : Nat) (r : Int), P[t]? = some r → out'[t]? = some (if t < v + 1 then zS P ds s (j + 1) r else zS P ds s j r)) := fun t r hr => by
      by_cases htv : t = v
      ·subst htv
       rw [HQ.out] at hr
       injection hr with hr
       subst hr
       rw [if_pos (by omega), HOV.out, xg HX.out (fun K _ h => hqp (by have := h.2.2; simp only [Int.toNat_natCast] at this; rw [HPA.out] at this; exact (Option.some.inj this).symm))]
      ·rw [hfv.out t r hr]
       by_cases h5 : t < v
       ·rw [if_pos h5, if_pos (by omega)]
       ·rw [if_neg h5, if_neg (by omega)]
     clear hqp
     go_wp2_with fail
     go_roundg (nn - (v + 1))
     case rel => exact ⟨v + 1, out', by go_num, by omega, rfl, hst.out.drew, hk, hps, HNX⟩
     case measure => omega
    ·subst hqp
     obtain ⟨x0, hx0, hcell, hfz⟩ := hst.out.cell hlv
     obtain rfl : zS P ds s j q = x0 := by rw [HOV.out] at hx0; exact Option.some.inj hx0
     have hor : bits BinOp.or IntKind.i64 (zS P ds s j q) 1 = zS P ds s (j + 1) q := jS HX.out HSX.out HLK.out HPA.out
     have HOL := iD hst.out.ob.len
     have HPUT := iD (hst.out.put hlv (zS P ds s (j + 1) q))
     have hgk : go < bq := hgb
     have HK2 : Hid (Blk (wr.setCell ⟨go, v, none⟩ (.int .i64 (zS P ds s (j + 1) q))) bq 38 #[.string nm, .int .i64 kd, .int .i64 a, .int .i64 xb, .int .i64 co]) := hk.out.far (by simp; omega) _
     have HPS2 : Hid (Sl (wr.setCell ⟨go, v, none⟩ (.int .i64 (zS P ds s (j + 1) q))) go 1 (some ⟨pb, poff, none⟩) nn nn (zK P)) := hps.out.setCell lR _
     have HNX : Hid (∀ (t : Nat) (r : Int), P[t]? = some r → (out'.set v (zS P ds s (j + 1) q))[t]? = some (if t < v + 1 then zS P ds s (j + 1) r else zS P ds s j r)) := fun t r hr => by
      rw [List.getElem?_set]
      by_cases htv : v = t
      ·subst htv
       rw [HQ.out] at hr
       injection hr with hr
       subst hr
       rw [if_pos rfl, if_pos (by rw [HOL.out]; exact hlv), if_pos (by omega)]
      ·rw [if_neg htv, hfv.out t r hr]
       by_cases h5 : t < v
       ·rw [if_pos h5, if_pos (by omega)]
       ·rw [if_neg h5, if_neg (by omega)]
     clear hx0 HOV
     generalize zS P ds s (j + 1) q = b1 at *
     generalize zS P ds s j q = b2 at *
     go_wp2_with fail
     go_roundg (nn - (v + 1))
     case rel => exact ⟨v + 1, _, by go_num, by omega, rfl, HPUT.out.drew, HK2, HPS2, HNX⟩
     case measure => omega
end
section
open Go.RowKit
structure vu (ns : List Nd) (ds : List Dv) : Prop where
 e : xG ns.length ds
 a : AOk ns.length ds
 k : ∀ x ∈ ds, 1 ≤ x.kind ∧ x.kind ≤ 6
 ne : ∀ x ∈ ds, zo x.kind = true → x.b ≠ x.a
 nl : ns.length ≤ 32
 dl : ds.length ≤ 64
theorem mo {k : Int} : ∀ (ds : List Dv) (used : List (List UInt8)), vo k used ds = 0 → ∀ x ∈ ds, (1 ≤ x.kind ∧ x.kind ≤ 6) ∧ wP x.kind x.a x.b k = true
 | [], _, _, x, hx => by cases hx
 | y :: r, used, h, x, hx => by
  rw [vo] at h
  by_cases h0 : xl k used y = 0
  ·rw [if_pos h0] at h
   rcases List.mem_cons.1 hx with rfl | hx
   ·unfold xl at h0
    by_cases h1 : xK (toL x.name) = false
    ·rw [if_pos h1] at h0; cases h0
    by_cases h2 : toL x.name ∈ used
    ·rw [if_neg h1, if_pos h2] at h0; cases h0
    by_cases h3 : x.kind < 1 ∨ 6 < x.kind
    ·rw [if_neg h1, if_neg h2, if_pos h3] at h0; cases h0
    by_cases h4 : wP x.kind x.a x.b k = false
    ·rw [if_neg h1, if_neg h2, if_neg h3, if_pos h4] at h0; cases h0
    exact ⟨by omega, by simpa using h4⟩
   ·exact mo r _ h x hx
  ·rw [if_neg h0] at h; exact absurd h h0
theorem vu.of {ns : List Nd} {ds : List Dv} (h : zX ns ds = 0) : vu ns ds := by
 unfold zX at h
 by_cases h1 : 32 < ns.length
 ·rw [if_pos h1] at h; cases h
 by_cases h2 : 64 < ds.length
 ·rw [if_neg h1, if_pos h2] at h; cases h
 by_cases h3 : xm [] ns = 0
 ·rw [if_neg h1, if_neg h2, if_pos h3] at h
  have H := mo ds _ h
  have E : ∀ x ∈ ds, 0 ≤ x.a ∧ x.a < ns.length ∧ (zo x.kind = true → 0 ≤ x.b ∧ x.b < ns.length ∧ x.b ≠ x.a) := fun x hx => by
   have := (H x hx).2
   unfold wP at this
   split at this
   ·cases this
   ·next e1 =>
    split at this
    ·cases this
    ·next e2 =>
     refine ⟨by omega, by omega, fun hj => ?_⟩
     rw [if_neg (by rw [hj]; simp)] at this
     simp at this
     omega
  exact ⟨fun x hx hj => ⟨⟨(E x hx).1, (E x hx).2.1⟩, ((E x hx).2.2 hj).1, ((E x hx).2.2 hj).2.1⟩, fun x hx => ⟨(E x hx).1, (E x hx).2.1⟩, fun x hx => (H x hx).1, fun x hx hj => ((E x hx).2.2 hj).2.2, by omega, by omega⟩
 ·rw [if_neg h1, if_neg h2, if_neg h3] at h; exact absurd h h3
end
section
structure Lk where
 dev : Int
 pos : Int
 key : Int
def yM (a b : Lk) : Bool := decide (a.dev < b.dev) || (decide (a.dev = b.dev) && decide (a.key < b.key))
theorem u7 (a b : Lk) : yM a b = true ↔ a.dev < b.dev ∨ (a.dev = b.dev ∧ a.key < b.key) := by simp [yM]
theorem sc {a b c : Lk} (h1 : yM a b = true) (h2 : yM b c = true) : yM a c = true := by rw [u7] at *; omega
theorem se {a b : Lk} (h1 : yM a b = true) (h2 : yM b a = true) : False := by rw [u7] at *; omega
theorem pG {a b : Lk} (h : a.key ≠ b.key) (h1 : yM a b = false) : yM b a = true := by
 have h2 : ¬ yM a b = true := by rw [h1]; simp
 rw [u7] at *; omega
def xU (ds : List Dv) (d : Int) : Int := match ds[d.toNat]? with | some x => x.kind | none => 0
def yJ (ds : List Dv) (k : Lk) : Int := if k.dev < 0 then 8 else if (ds.length : Int) ≤ k.dev then 8 else if xU ds k.dev = 5 then 6 else if k.pos ≠ 1 ∧ k.pos ≠ 2 then 10 else if k.key < 0 then 5 else if 65536 < k.key then 5 else 0
def tr (k x : Lk) : Bool := decide (x.dev = k.dev) && !decide (x.pos = k.pos)
def yj (l : List Lk) (k : Lk) : Bool := l.any (tr k)
def yr (l : List Lk) (q : Int) : Bool := l.any fun x => decide (x.key = q)
theorem ut {l : List Lk} {k : Lk} : yj l k = false ↔ ∀ x ∈ l, x.dev = k.dev → x.pos = k.pos := by
 unfold yj tr
 rw [List.any_eq_false]
 constructor
 ·intro h x hx hd
  have := h x hx
  simp [hd] at this
  exact this
 ·intro h x hx
  simp
  exact h x hx
theorem pO {l : List Lk} {q : Int} : yr l q = false ↔ ∀ x ∈ l, x.key ≠ q := by
 unfold yr
 rw [List.any_eq_false]
 constructor
 ·intro h x hx; have := h x hx; simpa using this
 ·intro h x hx; simpa using h x hx
def xJ (ls : List Lk) (i : Nat) (k : Lk) : Bool := decide (0 < i) && !(match ls[i - 1]? with | some p => yM p k | none => true)
def xL (ds : List Dv) (ls : List Lk) (i : Nat) : Int := match ls[i]? with
 | none => 0
 | some k => if yJ ds k ≠ 0 then yJ ds k else if xJ ls i k = true then 14 else if yj (ls.take i) k = true then 18 else if yr (ls.take i) k.key = true then 4 else 0
def yW (ds : List Dv) (ls : List Lk) : Nat → Int
 | 0 => 0
 | i + 1 => if yW ds ls i ≠ 0 then yW ds ls i else xL ds ls i
theorem yz {ds : List Dv} {ls : List Lk} {i : Nat} {e : Int} (h : yW ds ls i = 0) (he : xL ds ls i = e) (h0 : e ≠ 0) : ∀ n, i < n → yW ds ls n = e
 | 0, hn => by omega
 | n + 1, hn => by
  rw [yW]
  rcases Nat.lt_succ_iff_lt_or_eq.1 hn with hlt | rfl
  ·rw [yz h he h0 n hlt, if_pos h0]
  ·rw [h, if_neg (by simp), he]
theorem ub {ds : List Dv} {ls : List Lk} : ∀ n, yW ds ls n = 0 ↔ ∀ i, i < n → xL ds ls i = 0
 | 0 => ⟨fun _ i hi => by omega, fun _ => rfl⟩
 | n + 1 => by
  rw [yW]
  have ih := ub (ds := ds) (ls := ls) n
  by_cases h : yW ds ls n = 0
  ·rw [if_neg (by simp [h])]
   constructor
   ·intro he i hi
    rcases Nat.lt_succ_iff_lt_or_eq.1 hi with hlt | rfl
    ·exact ih.1 h i hlt
    ·exact he
   ·intro hall; exact hall n (by omega)
  ·rw [if_pos h]
   exact ⟨fun e => absurd e h, fun hall => ih.2 fun i hi => hall i (by omega)⟩
theorem uc {ds : List Dv} {ls : List Lk} {i : Nat} (h : yW ds ls i = 0) (he : xL ds ls i = 0) : yW ds ls (i + 1) = 0 := by rw [yW, h, if_neg (by simp), he]
def iC (a b : Lk) : Prop := yM a b = true ∧ (a.dev = b.dev → a.pos = b.pos) ∧ a.key ≠ b.key
def vS (ds : List Dv) (ls : List Lk) : Prop := ls.length ≤ 128 ∧ (∀ k ∈ ls, yJ ds k = 0) ∧ ls.Pairwise iC
theorem r9 {ds : List Dv} {ls : List Lk} {i : Nat} {k : Lk} (hk : ls[i]? = some k) : xL ds ls i = 0 ↔ yJ ds k = 0 ∧ xJ ls i k = false ∧ yj (ls.take i) k = false ∧ yr (ls.take i) k.key = false := by
 unfold xL
 rw [hk]
 simp only
 by_cases h1 : yJ ds k = 0
 ·rw [if_neg (by simp [h1])]
  rcases h2 : xJ ls i k with _ | _
  ·rw [if_neg (by simp)]
   rcases h3 : yj (ls.take i) k with _ | _
   ·rw [if_neg (by simp)]
    rcases h4 : yr (ls.take i) k.key with _ | _
    ·simp [h1]
    ·simp
   ·simp
  ·simp
 ·rw [if_pos h1]; simp [h1]
theorem jX {ds : List Dv} {ls : List Lk} (hl : ls.length ≤ 128) (h : yW ds ls ls.length = 0) : vS ds ls := by
 have hall := (ub ls.length).1 h
 have at' : ∀ i (hi : i < ls.length), yJ ds ls[i] = 0 ∧ xJ ls i ls[i] = false ∧ yj (ls.take i) ls[i] = false ∧ yr (ls.take i) ls[i].key = false := fun i hi => (r9 (List.getElem?_eq_getElem hi)).1 (hall i hi)
 refine ⟨hl, fun k hk => ?_, ?_⟩
 ·obtain ⟨i, hi, rfl⟩ := List.mem_iff_getElem.1 hk
  exact (at' i hi).1
 ·have step : ∀ i (hi : i + 1 < ls.length), yM ls[i] ls[i + 1] = true := by
   intro i hi
   have := (at' (i + 1) hi).2.1
   unfold xJ at this
   rw [Nat.add_sub_cancel, List.getElem?_eq_getElem (show i < ls.length by omega)] at this
   simpa using this
  have bef : ∀ (j i : Nat) (hj : j < ls.length) (hij : i < j), yM (ls[i]'(by omega)) ls[j] = true := by
   intro j
   induction j with
   | zero => intro i hj hij; omega
   | succ j ih =>
    intro i hj hij
    rcases Nat.lt_succ_iff_lt_or_eq.1 hij with hlt | rfl
    ·exact sc (ih i (by omega) hlt) (step j hj)
    ·exact step i hj
  rw [List.pairwise_iff_getElem]
  intro i j hi hj hij
  obtain ⟨_, _, h3, h4⟩ := at' j hj
  have hm : ls[i] ∈ ls.take j := by
   rw [List.mem_iff_getElem]
   exact ⟨i, by simp; omega, by simp⟩
  exact ⟨bef j i hj hij, fun hd => ut.1 h3 _ hm hd, pO.1 h4 _ hm⟩
theorem kW {ds : List Dv} {ls : List Lk} (h : vS ds ls) : yW ds ls ls.length = 0 := by
 obtain ⟨_, h2, h3⟩ := h
 rw [ub]
 intro i hi
 rw [r9 (List.getElem?_eq_getElem hi)]
 rw [List.pairwise_iff_getElem] at h3
 have mem : ∀ x ∈ ls.take i, ∃ j, ∃ hj : j < ls.length, j < i ∧ x = ls[j] := by
  intro x hx
  obtain ⟨j, hj, rfl⟩ := List.mem_iff_getElem.1 hx
  simp at hj
  exact ⟨j, by omega, by omega, by simp⟩
 refine ⟨h2 _ (List.getElem_mem hi), ?_, ?_, ?_⟩
 ·unfold xJ
  rcases Nat.eq_zero_or_pos i with rfl | h0
  ·rfl
  ·rw [List.getElem?_eq_getElem (show i - 1 < ls.length by omega)]
   simp only
   rw [(h3 (i - 1) i (by omega) hi (by omega)).1]
   simp
 ·rw [ut]
  intro x hx hd
  obtain ⟨j, hj, hji, rfl⟩ := mem x hx
  exact (h3 j i hj hi hji).2.1 hd
 ·rw [pO]
  intro x hx
  obtain ⟨j, hj, hji, rfl⟩ := mem x hx
  exact (h3 j i hj hi hji).2.2
def yw : List Lk → Int → Option Int
 | [], _ => none
 | x :: l, d => if x.dev = d then some x.pos else yw l d
theorem mY {l : List Lk} {d p : Int} (h : yw l d = some p) : ∃ x ∈ l, x.dev = d ∧ x.pos = p := by
 induction l with
 | nil => cases h
 | cons x l ih =>
  rw [yw] at h
  split at h
  ·next hd => exact ⟨x, List.mem_cons_self, hd, by injection h⟩
  ·obtain ⟨y, hy, h1⟩ := ih h; exact ⟨y, List.mem_cons_of_mem _ hy, h1⟩
theorem vh {l : List Lk} {d : Int} : yw l d = none ↔ ∀ x ∈ l, x.dev ≠ d := by
 induction l with
 | nil => simp [yw]
 | cons x l ih =>
  rw [yw]
  split
  ·next hd => simp [hd]
  ·next hd => rw [ih]; simp [hd]
theorem oD {ds : List Dv} {ls : List Lk} (h : vS ds ls) {x y : Lk} (hx : x ∈ ls) (hy : y ∈ ls) (hd : x.dev = y.dev) : x.pos = y.pos := by
 obtain ⟨i, hi, rfl⟩ := List.mem_iff_getElem.1 hx
 obtain ⟨j, hj, rfl⟩ := List.mem_iff_getElem.1 hy
 have h3 := List.pairwise_iff_getElem.1 h.2.2
 rcases Nat.lt_trichotomy i j with hij | rfl | hij
 ·exact (h3 i j hi hj hij).2.1 hd
 ·rfl
 ·exact ((h3 j i hj hi hij).2.1 hd.symm).symm
theorem jr {ds : List Dv} {ls : List Lk} (h : vS ds ls) {x : Lk} (hx : x ∈ ls) : yw ls x.dev = some x.pos := by
 rcases hl : yw ls x.dev with _ | p
 ·exact absurd rfl (vh.1 hl x hx)
 ·obtain ⟨y, hy, h1, h2⟩ := mY hl
  rw [← h2, oD h hy hx h1]
theorem jR {ds : List Dv} {ls : List Lk} (h : vS ds ls) (k : Lk) : yj ls k = (match yw ls k.dev with | some p => !decide (p = k.pos) | none => false) := by
 rcases hl : yw ls k.dev with _ | p
 ·simp only
  rw [ut]
  intro x hx hd
  exact absurd hd (vh.1 hl x hx)
 ·obtain ⟨y, hy, h1, h2⟩ := mY hl
  simp only
  by_cases hp : p = k.pos
  ·rw [decide_eq_true hp, Bool.not_true, ut]
   intro x hx hd
   rw [oD h hx hy (by omega), h2, hp]
  ·rw [decide_eq_false hp, Bool.not_false]
   rcases ho : yj ls k with _ | _
   ·exact absurd (by rw [← h2]; exact ut.1 ho y hy h1) hp
   ·rfl
def wI (k : Lk) (ls : List Lk) : List Lk := ls.takeWhile (fun x => yM x k) ++ k :: ls.dropWhile (fun x => yM x k)
theorem xj (k : Lk) (ls : List Lk) : (wI k ls).length = ls.length + 1 := by
 have := congrArg List.length (List.takeWhile_append_dropWhile (p := fun x => yM x k) (l := ls))
 rw [List.length_append] at this
 unfold wI
 rw [List.length_append, List.length_cons]; omega
theorem rC (k x : Lk) (ls : List Lk) : x ∈ wI k ls ↔ x = k ∨ x ∈ ls := by
 have h : ls.takeWhile (fun x => yM x k) ++ ls.dropWhile (fun x => yM x k) = ls := List.takeWhile_append_dropWhile
 have hm : x ∈ ls ↔ x ∈ ls.takeWhile (fun x => yM x k) ∨ x ∈ ls.dropWhile (fun x => yM x k) := by rw [← List.mem_append, h]
 unfold wI
 rw [List.mem_append, List.mem_cons, hm]
 constructor
 ·rintro (h | h | h)
  ·exact .inr (.inl h)
  ·exact .inl h
  ·exact .inr (.inr h)
 ·rintro (h | h | h)
  ·exact .inr (.inl h)
  ·exact .inl h
  ·exact .inr (.inr h)
theorem kR (k : Lk) (ls : List Lk) : (wI k ls).Perm (ls ++ [k]) := by
 unfold wI
 have h : ls.takeWhile (fun x => yM x k) ++ ls.dropWhile (fun x => yM x k) = ls := List.takeWhile_append_dropWhile
 refine List.perm_middle.trans ?_
 rw [h]
 exact (List.perm_append_comm (l₁ := [k]) (l₂ := ls))
theorem pB {p : Lk → Bool} : ∀ {l : List Lk} {y : Lk} {t : List Lk}, l.dropWhile p = y :: t → p y = false
 | [], _, _, h => by simp at h
 | x :: l, y, t, h => by
  rw [List.dropWhile_cons] at h
  split at h
  ·exact pB h
  ·next hp => injection h with h1; subst h1; simpa using hp
theorem rv {ds : List Dv} {ls : List Lk} {k : Lk} (h : vS ds ls) (hk : yJ ds k = 0) (hu : yr ls k.key = false) (ho : yj ls k = false) (hl : ls.length < 128) : vS ds (wI k ls) := by
 have hs : ls.takeWhile (fun x => yM x k) ++ ls.dropWhile (fun x => yM x k) = ls := List.takeWhile_append_dropWhile
 have hu' := pO.1 hu
 have ho' := ut.1 ho
 refine ⟨by rw [xj]; omega, fun x hx => ?_, ?_⟩
 ·rcases (rC k x ls).1 hx with rfl | hx
  ·exact hk
  ·exact h.2.1 x hx
 ·have hp := h.2.2
  rw [← hs, List.pairwise_append] at hp
  obtain ⟨p1, p2, p3⟩ := hp
  have mem1 : ∀ x ∈ ls.takeWhile (fun x => yM x k), x ∈ ls := fun x hx => by rw [← hs]; exact List.mem_append_left _ hx
  have mem2 : ∀ x ∈ ls.dropWhile (fun x => yM x k), x ∈ ls := fun x hx => by rw [← hs]; exact List.mem_append_right _ hx
  have bef1 : ∀ x ∈ ls.takeWhile (fun x => yM x k), yM x k = true := fun x hx => by
   have := List.all_takeWhile (p := fun x => yM x k) (l := ls)
   exact List.all_eq_true.1 this x hx
  have bef2 : ∀ x ∈ ls.dropWhile (fun x => yM x k), yM k x = true := by
   rcases hd : ls.dropWhile (fun x => yM x k) with _ | ⟨y, t⟩
   ·intro x hx; cases hx
   ·have hy : yM k y = true := pG (hu' y (mem2 y (by rw [hd]; exact List.mem_cons_self))) (pB (p := fun x => yM x k) hd)
    intro x hx
    rcases List.mem_cons.1 hx with rfl | hx
    ·exact hy
    ·rw [hd, List.pairwise_cons] at p2
     exact sc hy (p2.1 x hx).1
  unfold wI
  rw [List.pairwise_append, List.pairwise_cons]
  refine ⟨p1, ⟨fun x hx => ⟨bef2 x hx, fun e => (ho' x (mem2 x hx) e.symm).symm, fun e => hu' x (mem2 x hx) e.symm⟩, p2⟩, fun a ha b hb => ?_⟩
  rcases List.mem_cons.1 hb with rfl | hb
  ·exact ⟨bef1 a ha, ho' a (mem1 a ha), hu' a (mem1 a ha)⟩
  ·exact p3 a ha b hb
theorem kL : ∀ {a b : List Lk}, a.Pairwise (fun x y => yM x y = true) → b.Pairwise (fun x y => yM x y = true) → (∀ x, x ∈ a ↔ x ∈ b) → a = b
 | [], [], _, _, _ => rfl
 | [], y :: b, _, _, h => absurd ((h y).2 List.mem_cons_self) (by simp)
 | x :: a, [], _, _, h => absurd ((h x).1 List.mem_cons_self) (by simp)
 | x :: a, y :: b, ha, hb, h => by
  rw [List.pairwise_cons] at ha hb
  have e : x = y := by
   have h1 := (h x).1 List.mem_cons_self
   have h2 := (h y).2 List.mem_cons_self
   rcases List.mem_cons.1 h1 with h1 | h1
   ·exact h1
   ·rcases List.mem_cons.1 h2 with h2 | h2
    ·exact h2.symm
    ·exact (se (ha.1 y h2) (hb.1 x h1)).elim
  subst e
  congr 1
  refine kL ha.2 hb.2 fun z => ?_
  have hz := h z
  simp only [List.mem_cons] at hz
  constructor
  ·intro hm
   rcases hz.1 (.inr hm) with rfl | h1
   ·exact (se (ha.1 z hm) (ha.1 z hm)).elim
   ·exact h1
  ·intro hm
   rcases hz.2 (.inr hm) with rfl | h1
   ·exact (se (hb.1 z hm) (hb.1 z hm)).elim
   ·exact h1
theorem vS.sorted {ds : List Dv} {ls : List Lk} (h : vS ds ls) : ls.Pairwise (fun x y => yM x y = true) := h.2.2.imp fun h => h.1
def xk (d q : Int) : List Lk → Option Nat
 | [] => none
 | x :: l => if x.dev = d ∧ x.key = q then some 0 else (xk d q l).map (· + 1)
end
section
open Go.RowKit
def Lk.cells (k : Lk) : List Value := [.int .i64 k.dev, .int .i64 k.pos, .int .i64 k.key]
theorem yd : wM Tryz.prog 33 46 3 24 := wM.mk' (z := .agg #[.int .i64 0, .int .i64 0, .int .i64 0]) Tryz.underlying33 (by kernel_rfl) rfl (by decide)
def yI (w : World) (base : Nat) (A : Option Addr) (n c : Nat) (ls : List Lk) : Prop := w.ownsRow base 46 3 (.slice A n c) n (ls.flatMap Lk.cells)
section
variable {w w' : World} {base n c B : Nat} {A : Option Addr} {ls : List Lk}
theorem yI.sl (h : yI w base A n c ls) : Sl w w.heap.size 3 A n c (ls.flatMap Lk.cells) := Sl.of_own h
theorem yI.len (h : yI w base A n c ls) : ls.length = n := (Sl.of_own h).len (fun _ => rfl) (by decide)
theorem yI.later (h : yI w base A n c ls) (hb : Below w.heap.size w w') : yI w' base A n c ls := xE h hb
theorem yh (l : List Lk) : ∀ u ∈ l.flatMap Lk.cells, u.oneCell' = true := by
 intro u hu
 rw [List.mem_flatMap] at hu
 obtain ⟨x, _, hx⟩ := hu
 simp only [Lk.cells, List.mem_cons, List.not_mem_nil, or_false] at hx
 rcases hx with rfl | rfl | rfl <;> rfl
theorem Sl.lock {i : Nat} (h : Sl w B 3 A n c (ls.flatMap Lk.cells)) (hi : i < n) : ∃ b off d p q, A = some ⟨b, off, none⟩ ∧ b < B ∧ ls[i]? = some ⟨d, p, q⟩ ∧ w.cell? ⟨b, off + i * 3, none⟩ = some (.int .i64 d) ∧ w.cell? ⟨b, off + i * 3 + 1, none⟩ = some (.int .i64 p) ∧ w.cell? ⟨b, off + i * 3 + 2, none⟩ = some (.int .i64 q) := by
 obtain ⟨b, off, ⟨d, p, q⟩, e, hb, hx, hc⟩ := h.at (fun _ => rfl) (by decide) hi
 exact ⟨b, off, d, p, q, e, hb, hx, hc 0 _ rfl, hc 1 _ rfl, hc 2 _ rfl⟩
end
end
end Go.Proofs.YtepicjpdhpojnaaGreatDoor
