import Derived.Test.YtfaknfmndafllaaGreatDoorW14
import Derived.Test.YtfaknfmndafllaaGreatDoorW07
set_option maxRecDepth 100000
set_option maxHeartbeats 8000000
namespace Go.Proofs.YtfaknfmndafllaaGreatDoor
open Go.RowKit
structure RpSt (w : World) (N : Array Value) (go nn : Nat) (out : List Int) (wr : World) : Prop where
 bx : Blk wr w.heap.size 30 N
 ob : IntsO wr (w.heap.size + 1) (some ⟨go, 0, none⟩) nn nn out
 bl : Below w.heap.size w wr
section
variable {w wr wr' : World} {N : Array Value} {go nn : Nat} {out : List Int}
theorem RpSt.ge (h : RpSt w N go nn out wr) : w.heap.size + 1 ≤ go ∧ go < wr.heap.size := h.ob.lt go rfl
theorem RpSt.later (h : RpSt w N go nn out wr) (hb : Below wr.heap.size wr wr') : RpSt w N go nn out wr' := ⟨h.bx.below hb h.bx.lt, h.ob.later hb, h.bl.trans (hb.mono h.bl.size)⟩
theorem RpSt.alloc (h : RpSt w N go nn out wr) (o : Obj) : RpSt w N go nn out (wr.alloc o) := h.later ((Below.refl _ _).alloc (Nat.le_refl _) _)
theorem RpSt.drew (h : RpSt w N go nn out wr) : RpSt w N go nn out wr.drew := h.later (Below.refl _ _).drew
theorem RpSt.put (h : RpSt w N go nn out wr) {k : Nat} (hk : k < nn) (v : Int) : RpSt w N go nn (out.set k v) (wr.setCell ⟨go, k, none⟩ (.int .i64 v)) := by
 have hg := h.ge
 obtain ⟨g, x, hA, h1, h2, hx, hc, hf, hst⟩ := h.ob.at hk
 injection hA with hA
 injection hA with hA
 subst hA
 exact ⟨h.bx.far (by simp; omega) _, hst v, h.bl.setCell (by simp; omega) _⟩
theorem RpSt.cell (h : RpSt w N go nn out wr) {k : Nat} (hk : k < nn) : ∃ x, out[k]? = some x ∧ wr.cell? ⟨go, k, none⟩ = some (.int .i64 x) ∧ wr.frozen? ⟨go, k, none⟩ = false := by
 obtain ⟨g, x, hA, h1, h2, hx, hc, hf, hst⟩ := h.ob.at hk
 injection hA with hA
 injection hA with hA
 subst hA
 exact ⟨x, hx, hc, hf⟩
end
def RPartsPost (w : World) (nn : Nat) (er : Int) (ds : List Dv) (s : List Int) (e : Ending) (w' : World) : Prop :=
 Hid (Below w.heap.size w w') ∧ ((er ≠ 0 ∧ e = .returned (.tuple #[.slice none 0 0, .int .i64 er])) ∨ (er = 0 ∧ ∃ (A : Option Addr) (out : List Int), e = .returned (.tuple #[.slice A nn nn, .int .i64 0]) ∧ Hid (IntsO w' w.heap.size A nn nn out) ∧ Hid (IsParts nn ds s out)))
def RpR1 (w : World) (N : Array Value) (go nn gk : Nat) (iv : Value) (wr : World) : Prop := ∃ (i : Nat) (out : List Int), iv = .int .i64 i ∧ i ≤ nn ∧ gk = nn - i ∧ Hid (RpSt w N go nn out wr) ∧ Hid (∀ j : Nat, j < i → out[j]? = some (j : Int))
def RpR2 (w : World) (N : Array Value) (go nn : Nat) (ds : List Dv) (s : List Int) (gk : Nat) (cv : Value) (wr : World) : Prop := ∃ (ch : Bool) (out : List Int), cv = .bool ch ∧ gk = sumN out + ch.toNat ∧ Hid (RpSt w N go nn out wr) ∧ Hid (LInv nn ds s out) ∧ Hid (ch = false → ∀ i, i < ds.length → LOne ds s out i)
def RpR3 (w : World) (N : Array Value) (go nn nd : Nat) (ds : List Dv) (s : List Int) (S0 : Nat) (gk : Nat) (cv iv : Value) (wr : World) : Prop := ∃ (ch : Bool) (j : Nat) (out : List Int), cv = .bool ch ∧ iv = .int .i64 j ∧ j ≤ nd ∧ gk = nd - j ∧ Hid (RpSt w N go nn out wr) ∧ Hid (LInv nn ds s out) ∧ Hid (ch = false → ∀ i, i < j → LOne ds s out i) ∧ Hid (sumN out ≤ S0 ∧ (ch = true → sumN out < S0))
theorem rparts_any (An Ad As : Option Addr) (nn cn nd cd n c Bn Bd Bs : Nat) (ns : List Nd) (ds : List Dv) (s : List Int) (w : World) (hn : Sl w Bn 3 An nn cn (ns.flatMap Nd.cells)) (hd : Sl w Bd 5 Ad nd cd (ds.flatMap Dv.cells)) (hs : Sl w Bs 1 As n c (intsV s)) (hBn : Bn ≤ w.heap.size) (hBd : Bd ≤ w.heap.size) (hBs : Bs ≤ w.heap.size)
 (hsn : ∀ x ∈ ns, x.name.size ≤ 9223372036854775807) (hsd : ∀ x ∈ ds, x.name.size ≤ 9223372036854775807) (hnn : nn ≤ 10000) (hends : stateErr ns ds s = 0 → nd ≤ n ∧ EndsOk nn ds ∧ ∀ x ∈ ds, joinsB x.kind = true → x.b ≠ x.a) :
 Calls Tryz.prog 103 #[.agg #[.slice An nn cn, .slice Ad nd cd], .slice As n c] w (RPartsPost w nn (stateErr ns ds s) ds s) := by
 have HLD := Lib.hid (hd.len (fun _ => rfl) (by decide))
 obtain ⟨hdc, hdm⟩ := hd.le
 obtain ⟨hsc1, hsm⟩ := hs.le
 have HCK := Lib.hid (rstate_any An Ad As nn cn nd cd n c Bn Bd Bs ns ds s (w.alloc (.cells #[.slice An nn cn, .slice Ad nd cd] 30)) (hn.alloc hBn _) (hd.alloc hBd _) (hs.alloc hBs _) (by simp; omega) (by simp; omega) (by simp; omega) hsn hsd)
 have HD := Lib.hid hd; have HS := Lib.hid hs; have HEN := Lib.hid hends
 clear hn hd hs hsn hsd hends
 have HR0 : Hid (RcSt w #[.slice An nn cn, .slice Ad nd cd] (w.alloc (.cells #[.slice An nn cn, .slice Ad nd cd] 30))) := ⟨Blk.new _ _ _, (Below.refl _ _).alloc (Nat.le_refl _) _⟩
 generalize stateErr ns ds s = er at *
 by_cases h0 : er = 0; rotate_left
 ·have h0' : (er != 0) = true := by simpa using h0
  have H0 := Lib.hid h0; clear h0
  go_enter Tryz.func103, Tryz.ntmps103
  go_wp2_with fail
  refine HCK.out.mono ?_
  rintro e w1 ⟨rfl, hb1⟩
  have HR1 := Lib.hid (HR0.out.later hb1)
  go_wp2_with fail
  go_ret2
  exact ⟨HR1.out.bl, .inl ⟨H0.out, rfl⟩⟩
 subst h0
 have hends := HEN.out rfl
 have hndn : nd ≤ n := hends.1
 have HE := Lib.hid hends.2.1; have HBA := Lib.hid hends.2.2
 clear hends HEN
 go_enter Tryz.func103, Tryz.ntmps103
 go_wp2_with fail
 refine HCK.out.mono ?_
 rintro e w1 ⟨rfl, hb1⟩
 have HR1 := Lib.hid (HR0.out.later hb1)
 clear hb1 HCK HR0
 have k0 := HR1.out.bx.c0
 have hmk := run_mk_int nn (by omega) w1
 have HRP : Hid (RpSt w #[.slice An nn cn, .slice Ad nd cd] w1.heap.size nn (List.replicate nn 0) (w1.alloc (.cells (intsV (List.replicate nn 0)).toArray 3))) :=
  ⟨HR1.out.bx.alloc _, ints_new HR1.out.bx.lt (by omega), (HR1.out.alloc _).bl⟩
 clear HR1
 go_wp2_with fail
 clear hmk k0
 generalize World.alloc _ _ = W at *
 obtain ⟨go, hgo⟩ : ∃ go, go = w1.heap.size := ⟨_, rfl⟩
 rw [← hgo] at HRP ⊢
 clear hgo
 go_loopg [8] nn (RpR1 w #[.slice An nn cn, .slice Ad nd cd] go nn)
 case atStart => exact ⟨0, _, rfl, Nat.zero_le _, rfl, HRP, fun j hj => absurd hj (by omega)⟩
 case round =>
  clear HRP
  obtain ⟨i, out, rfl, hi, rfl, hst, hf⟩ := hrel
  by_cases hlt : i < nn
  ·obtain ⟨x, hx, hcell, hfz⟩ := hst.out.cell hlt
   clear hx
   have HM := Lib.hid (hst.out.put hlt i)
   have HOL := Lib.hid hst.out.ob.len
   go_wp2_with fail
   go_roundg (nn - (i + 1))
   case rel =>
    refine ⟨i + 1, _, by go_num, by omega, rfl, HM, fun j hj => ?_⟩
    rw [List.getElem?_set]
    split
    ·rename_i e; subst e; rw [if_pos (by rw [HOL.out]; exact hlt)]
    ·exact hf.out j (by omega)
   case measure => omega
  ·obtain rfl : i = nn := by omega
   have hii : decide (i < i) = false := by simp
   have HLI := Lib.hid (LInv.start i ds s out hst.out.ob.len hf.out)
   clear hf
   go_wp2_with fail
   clear hii
   go_loopg [9] (sumN out + 1) (RpR2 w #[.slice An i cn, .slice Ad nd cd] go i ds s)
   case atStart => exact ⟨true, out, rfl, rfl, hst, HLI, fun h => by cases h⟩
   case round =>
    clear hst HLI
    obtain ⟨ch, out, rfl, rfl, hst, hLI, hdone⟩ := hrel
    rcases ch with _ | _
    ·go_wp2_with fail
     go_ret2
     exact ⟨hst.out.bl, .inr ⟨rfl, _, out, rfl, hst.out.ob.mono (by omega), hLI.out.final (hdone.out (by simp))⟩⟩
    ·clear hdone
     go_wp2_with fail
     go_loopg [9, 10] nd (RpR3 w #[.slice An i cn, .slice Ad nd cd] go i nd ds s (sumN out))
     case atStart => exact ⟨false, 0, out, rfl, rfl, Nat.zero_le _, rfl, hst, hLI, fun _ t ht => absurd ht (by omega), ⟨Nat.le_refl _, fun h => by cases h⟩⟩
     case round =>
      obtain ⟨S0, hS0⟩ : ∃ S0, S0 = sumN out := ⟨_, rfl⟩
      rw [← hS0] at hrel
      have HS0 := Lib.hid hS0
      clear hst hLI hS0
      obtain ⟨ch, j, out, rfl, rfl, hj, rfl, hst, hLI, hone, hsum⟩ := hrel
      have k1 := hst.out.bx.c1
      by_cases hlj : j < nd; rotate_left
      ·obtain rfl : j = nd := by omega
       have hjj : decide (j < j) = false := by simp
       go_wp2_with fail
       go_roundg (sumN out + ch.toNat)
       case rel => exact ⟨ch, out, rfl, rfl, hst, hLI, fun h t ht => hone.out h t (by rw [HLD.out] at ht; exact ht)⟩
       case measure =>
        have h1 := hsum.out
        have h2 := HS0.out
        rcases ch with _ | _
        ·simp; omega
        ·have := h1.2 rfl; simp; omega
      obtain ⟨b0, off, x, rfl, hb, hx, hc⟩ := (HD.out.below hst.out.bl hBd).at (fun _ => rfl) (by decide) hlj
      have HX := Lib.hid hx
      have hxe := HE.out x (List.mem_of_getElem? hx)
      have hxn := HBA.out x (List.mem_of_getElem? hx)
      obtain ⟨nm, kd, xa, xb, co⟩ := x
      simp only at hxe hxn
      have HXE := Lib.hid hxe; have HXN := Lib.hid hxn
      have c0 : wr.cell? ⟨b0, off + j * 5, none⟩ = some (.string nm) := hc 0 _ rfl
      have c1 : wr.cell? ⟨b0, off + j * 5 + 1, none⟩ = some (.int .i64 kd) := hc 1 _ rfl
      have c2 : wr.cell? ⟨b0, off + j * 5 + 2, none⟩ = some (.int .i64 xa) := hc 2 _ rfl
      have c3 : wr.cell? ⟨b0, off + j * 5 + 3, none⟩ = some (.int .i64 xb) := hc 3 _ rfl
      have c4 : wr.cell? ⟨b0, off + j * 5 + 4, none⟩ = some (.int .i64 co) := hc 4 _ rfl
      clear hc hx hxe hxn
      go_upto_region 16 with (fail)
      clear c0 c1 c2 c3 c4 k1
      have HK := Lib.hid (Blk.new wr 68 #[.string nm, .int .i64 kd, .int .i64 xa, .int .i64 xb, .int .i64 co])
      have HS1 := Lib.hid (hst.out.alloc (.cells #[.string nm, .int .i64 kd, .int .i64 xa, .int .i64 xb, .int .i64 co] 68))
      have hgq : go < wr.heap.size := hst.out.ge.2
      generalize World.alloc _ _ = w2 at *
      obtain ⟨bq, hbq⟩ : ∃ bq, bq = wr.heap.size := ⟨_, rfl⟩
      rw [← hbq] at HK ⊢
      have hgb : go < bq := by omega
      clear hbq hst hgq
      obtain ⟨sb, soff, sx, rfl, hsb, hsx, hsc⟩ := (HS.out.below HS1.out.bl hBs).at1 (k := j) (by omega)
      have HSX : Hid (shutB s j = (sx == 2)) := by unfold Hid shutB; rw [List.getD_eq_getElem?_getD, hsx]; rfl
      clear hsx
      have hjn : j < n := by omega
      have e1 := HK.out.c1
      have e2 := HK.out.c2
      have e3 := HK.out.c3
      have HJ2 := Lib.hid (rjoins_any kd)
      by_cases h2 : sx = 2; rotate_left
      ·have q2 : (sx != 2) = true := by simpa using h2
       have HON : Hid (ch = false → ∀ t, t < j + 1 → LOne ds s out t) := fun h t ht => by
        rcases Nat.lt_succ_iff_lt_or_eq.1 ht with h3 | rfl
        ·exact hone.out h t h3
        ·intro x hx hc; rw [HSX.out] at hc; exact absurd (by simpa using hc) h2
       clear h2 e1 e2 e3
       refine wp_region_J (S := fun W' => W'.cell? ⟨sb, soff + j, none⟩ = some (.int .i64 sx)) (J := []) (by kernel_rfl) ?_ (fun hHeld => ?_)
       ·exact hsc
       try dsimp only at hHeld
       refine tk 0 46 (mf 24 1) hHeld ?_
       refine tk 1 47 (mf 24 2) hHeld ?_
       refine tk 2 48 (mf 24 3) hHeld ?_
       refine tk 3 49 (mf 24 4) hHeld ?_
       refine tk 4 50 (mf 24 5) hHeld ?_
       refine tk 5 51 (mf 24 6) hHeld ?_
       refine ts 6 52 (mf 24 7) hHeld ?_
       refine ts 7 53 (mf 24 8) hHeld ?_
       refine ts 8 54 (mf 24 9) hHeld ?_
       refine ts 9 55 (mf 24 10) hHeld ?_
       refine tk 10 56 (mf 24 11) hHeld ?_
       refine tk 11 57 (mf 24 12) hHeld ?_
       refine ts 12 58 (mf 24 13) hHeld ?_
       refine ts 13 59 (mf 24 14) hHeld ?_
       refine ts 14 60 (mf 24 15) hHeld ?_
       refine ts 15 61 (mf 24 16) hHeld ?_
       refine ts 16 62 (mf 24 17) hHeld ?_
       refine ts 17 63 (mf 24 18) hHeld ?_
       refine ts 18 64 (mf 24 19) hHeld ?_
       refine ts 19 65 (mf 24 20) hHeld ?_
       refine ts 20 66 (mf 24 21) hHeld ?_
       refine ts 21 67 (mf 24 22) hHeld ?_
       refine ts 22 68 (mf 24 23) hHeld ?_
       refine tk 23 69 (mf 24 24) hHeld ?_
       refine wpAnyJ_done (by kernel_rfl) ?_ _
       clear hHeld
       go_wp2_with fail
       go_roundg (nd - (j + 1))
       case rel => exact ⟨ch, j + 1, out, rfl, by go_num, by omega, rfl, HS1.out.drew, hLI, HON, (by have := hsum.out; rw [HS0.out] at this; exact this)⟩
       case measure => omega
      subst h2
      rcases hjk : joinsB kd with _ | _
      ·have HON : Hid (ch = false → ∀ t, t < j + 1 → LOne ds s out t) := fun h t ht => by
        rcases Nat.lt_succ_iff_lt_or_eq.1 ht with h3 | rfl
        ·exact hone.out h t h3
        ·intro x hx hc hj2
         rw [HX.out] at hx
         injection hx with hx
         subst hx
         rw [hjk] at hj2; cases hj2
       rw [hjk] at HJ2
       clear hjk e2 e3
       refine wp_region_J (S := fun W' => W'.cell? ⟨sb, soff + j, none⟩ = some (.int .i64 2) ∧ W'.cell? ⟨bq, 1, none⟩ = some (.int .i64 kd)) (J := []) (by kernel_rfl) ?_ (fun hHeld => ?_)
       ·exact ⟨hsc, e1⟩
       try dsimp only at hHeld
       refine tk 0 46 (mf 24 1) hHeld ?_
       refine tk 1 47 (mf 24 2) hHeld ?_
       refine tk 2 48 (mf 24 3) hHeld ?_
       refine tk 3 49 (mf 24 4) hHeld ?_
       refine tk 4 50 (mf 24 5) hHeld ?_
       refine tk 5 51 (mf 24 6) hHeld ?_
       refine tk 6 52 (mf 24 7) hHeld ?_
       refine tk 7 53 (mf 24 8) hHeld ?_
       refine wpAnyJ_oneL (k := 8) (mf 24 9) (by kernel_rfl) (by kernel_rfl) rfl (fun K hK => ?_)
       (go_simp; refine (HJ2.out _).mono ?_; rintro e w3 ⟨rfl, rfl⟩; go_simp)
       refine hK.out _ _ (fun _ => ?_) (fun hHeld' => ?_)
       ·exact hHeld
       replace hHeld := hHeld' rfl
       clear hHeld' hK K
       try dsimp only at hHeld
       refine tk 9 55 (mf 24 10) hHeld ?_
       refine tk 10 56 (mf 24 11) hHeld ?_
       refine tk 11 57 (mf 24 12) hHeld ?_
       refine ts 12 58 (mf 24 13) hHeld ?_
       refine ts 13 59 (mf 24 14) hHeld ?_
       refine ts 14 60 (mf 24 15) hHeld ?_
       refine ts 15 61 (mf 24 16) hHeld ?_
       refine ts 16 62 (mf 24 17) hHeld ?_
       refine ts 17 63 (mf 24 18) hHeld ?_
       refine ts 18 64 (mf 24 19) hHeld ?_
       refine ts 19 65 (mf 24 20) hHeld ?_
       refine ts 20 66 (mf 24 21) hHeld ?_
       refine ts 21 67 (mf 24 22) hHeld ?_
       refine ts 22 68 (mf 24 23) hHeld ?_
       refine tk 23 69 (mf 24 24) hHeld ?_
       refine wpAnyJ_done (by kernel_rfl) ?_ _
       clear hHeld
       go_wp2_with fail
       go_roundg (nd - (j + 1))
       case rel => exact ⟨ch, j + 1, out, rfl, by go_num, by omega, rfl, HS1.out.drew, hLI, HON, (by have := hsum.out; rw [HS0.out] at this; exact this)⟩
       case measure => omega
      have HJK := Lib.hid hjk
      have hxe := HXE.out hjk
      have hxn := HXN.out hjk
      rw [hjk] at HJ2
      clear hjk HXE HXN
      obtain ⟨a, rfl⟩ := Int.eq_ofNat_of_zero_le hxe.1.1
      obtain ⟨b, rfl⟩ := Int.eq_ofNat_of_zero_le hxe.2.1
      have hai : a < i := by omega
      have hbi : b < i := by omega
      obtain ⟨pv, hpv, hca, hfa⟩ := HS1.out.cell hai
      obtain ⟨qv, hqv, hcb, hfb⟩ := HS1.out.cell hbi
      obtain ⟨p, hp1, hp2, _⟩ := hLI.out.2 a hai
      obtain ⟨q, hq1, hq2, _⟩ := hLI.out.2 b hbi
      obtain rfl : pv = (p : Int) := by rw [hpv] at hp1; exact Option.some.inj hp1
      obtain rfl : qv = (q : Int) := by rw [hqv] at hq1; exact Option.some.inj hq1
      have HPV := Lib.hid hpv; have HQV := Lib.hid hqv
      have hab : a ≠ b := by omega
      clear hpv hqv hp1 hq1 hxe hxn
      refine wp_region_J (S := fun W' => W'.cell? ⟨sb, soff + j, none⟩ = some (.int .i64 2) ∧ W'.cell? ⟨bq, 1, none⟩ = some (.int .i64 kd) ∧ W'.cell? ⟨bq, 2, none⟩ = some (.int .i64 a) ∧ W'.cell? ⟨bq, 3, none⟩ = some (.int .i64 b) ∧ W'.cell? ⟨go, a, none⟩ = some (.int .i64 p) ∧ W'.cell? ⟨go, b, none⟩ = some (.int .i64 q)) (J := []) (by kernel_rfl) ?_ (fun hHeld => ?_)
      ·exact ⟨hsc, e1, e2, e3, hca, hcb⟩
      try dsimp only at hHeld
      refine tk 0 46 (mf 24 1) hHeld ?_
      refine tk 1 47 (mf 24 2) hHeld ?_
      refine tk 2 48 (mf 24 3) hHeld ?_
      refine tk 3 49 (mf 24 4) hHeld ?_
      refine tk 4 50 (mf 24 5) hHeld ?_
      refine tk 5 51 (mf 24 6) hHeld ?_
      refine tk 6 52 (mf 24 7) hHeld ?_
      refine tk 7 53 (mf 24 8) hHeld ?_
      refine wpAnyJ_oneL (k := 8) (mf 24 9) (by kernel_rfl) (by kernel_rfl) rfl (fun K hK => ?_)
      (go_simp; refine (HJ2.out _).mono ?_; rintro e w3 ⟨rfl, rfl⟩; go_simp)
      refine hK.out _ _ (fun _ => ?_) (fun hHeld' => ?_)
      ·exact hHeld
      replace hHeld := hHeld' rfl
      clear hHeld' hK K
      try dsimp only at hHeld
      refine tk 9 55 (mf 24 10) hHeld ?_
      refine tk 10 56 (mf 24 11) hHeld ?_
      refine tk 11 57 (mf 24 12) hHeld ?_
      refine tk 12 58 (mf 24 13) hHeld ?_
      refine tk 13 59 (mf 24 14) hHeld ?_
      refine tk 14 60 (mf 24 15) hHeld ?_
      refine tk 15 61 (mf 24 16) hHeld ?_
      refine tk 16 62 (mf 24 17) hHeld ?_
      refine tk 17 63 (mf 24 18) hHeld ?_
      refine tk 18 64 (mf 24 19) hHeld ?_
      refine tk 19 65 (mf 24 20) hHeld ?_
      refine tk 20 66 (mf 24 21) hHeld ?_
      refine tk 21 67 (mf 24 22) hHeld ?_
      refine tk 22 68 (mf 24 23) hHeld ?_
      refine tk 23 69 (mf 24 24) hHeld ?_
      refine wpAnyJ_done (by kernel_rfl) ?_ _
      clear hHeld
      by_cases hpq : p = q
      ·subst hpq
       have HON : Hid (ch = false → ∀ t, t < j + 1 → LOne ds s out t) := fun h t ht => by
        rcases Nat.lt_succ_iff_lt_or_eq.1 ht with h3 | rfl
        ·exact hone.out h t h3
        ·intro x hx _ _
         rw [HX.out] at hx
         injection hx with hx
         subst hx
         simp only [Int.toNat_natCast]
         rw [HPV.out, HQV.out]
       go_wp2_with fail
       go_roundg (nd - (j + 1))
       case rel => exact ⟨ch, j + 1, out, rfl, by go_num, by omega, rfl, HS1.out.drew, hLI, HON, (by have := hsum.out; rw [HS0.out] at this; exact this)⟩
       case measure => omega
      ·have qpq : ((p : Int) == (q : Int)) = false := by simp; omega
       have hput := hLI.out.put HX.out (by rw [HSX.out]; rfl) HJK.out rfl rfl hai hbi hab HPV.out HQV.out hpq
       go_upto_region 17 with (fail)
       refine wp_region_J (S := fun W' => W'.cell? ⟨bq, 2, none⟩ = some (.int .i64 a) ∧ W'.cell? ⟨bq, 3, none⟩ = some (.int .i64 b) ∧ W'.cell? ⟨go, a, none⟩ = some (.int .i64 p) ∧ W'.cell? ⟨go, b, none⟩ = some (.int .i64 q)) (J := []) (by kernel_rfl) ?_ (fun hHeld => ?_)
       ·exact ⟨e2, e3, hca, hcb⟩
       try dsimp only at hHeld
       refine tk 0 70 (mf 12 1) hHeld ?_
       refine tk 1 71 (mf 12 2) hHeld ?_
       refine tk 2 72 (mf 12 3) hHeld ?_
       refine tk 3 73 (mf 12 4) hHeld ?_
       refine tk 4 74 (mf 12 5) hHeld ?_
       refine tk 5 75 (mf 12 6) hHeld ?_
       refine tk 6 76 (mf 12 7) hHeld ?_
       refine tk 7 77 (mf 12 8) hHeld ?_
       refine tk 8 78 (mf 12 9) hHeld ?_
       refine tk 9 79 (mf 12 10) hHeld ?_
       refine tk 10 80 (mf 12 11) hHeld ?_
       refine tk 11 12 (mf 12 12) hHeld ?_
       refine wpAnyJ_done (by kernel_rfl) ?_ _
       clear hHeld
       go_upto_region 18 with (fail)
       first | rw [show (if q < p then (q : Int) else (p : Int)) = ((min p q : Nat) : Int) by split <;> omega] | rw [show min (p : Int) (q : Int) = ((min p q : Nat) : Int) by omega]
       obtain ⟨m, hm⟩ : ∃ m, m = min p q := ⟨_, rfl⟩
       rw [← hm] at hput ⊢
       have HPUT := Lib.hid hput
       have HSP := Lib.hid ((HS1.out.put hai (m : Int)).put hbi (m : Int))
       have hba : ¬ b = a := fun e => hab e.symm
       clear hput hm
       refine wp_region_J (S := fun W' => W'.cell? ⟨bq, 2, none⟩ = some (.int .i64 a) ∧ W'.cell? ⟨bq, 3, none⟩ = some (.int .i64 b)) (J := []) (by kernel_rfl) ?_ (fun hHeld => ?_)
       ·exact ⟨e2, e3⟩
       try dsimp only at hHeld
       refine tk 0 81 (mf 12 1) hHeld ?_
       refine tk 1 82 (mf 12 2) hHeld ?_
       refine tk 2 83 (mf 12 3) hHeld ?_
       refine tk 3 84 (mf 12 4) hHeld ?_
       refine tk 4 85 (mf 12 5) hHeld ?_
       refine tk 5 86 (mf 12 6) hHeld ?_
       refine tk 6 87 (mf 12 7) hHeld ?_
       refine tk 7 88 (mf 12 8) hHeld ?_
       refine tk 8 89 (mf 12 9) hHeld ?_
       refine wpAnyJ_oneL (k := 9) (mf 12 10) (by kernel_rfl) (by kernel_rfl) rfl (fun K hK => ?_)
       go_simp
       refine hK.out _ _ (fun _ => ?_) (fun hHeld' => ?_)
       ·exact ⟨(World.cell?_setCell_other _ _ _ _ (fun e => by injection e with e1; omega)).trans e2, (World.cell?_setCell_other _ _ _ _ (fun e => by injection e with e1; omega)).trans e3⟩
       replace hHeld := hHeld' rfl
       clear hHeld' hK K
       try dsimp only at hHeld
       refine tk 10 90 (mf 12 11) hHeld ?_
       refine wpAnyJ_oneL (k := 11) (mf 12 12) (by kernel_rfl) (by kernel_rfl) rfl (fun K hK => ?_)
       go_simp
       refine hK.out _ _ (fun _ => ?_) (fun hHeld' => ?_)
       ·exact ⟨(World.cell?_setCell_other _ _ _ _ (fun e => by injection e with e1; omega)).trans ((World.cell?_setCell_other _ _ _ _ (fun e => by injection e with e1; omega)).trans e2), (World.cell?_setCell_other _ _ _ _ (fun e => by injection e with e1; omega)).trans ((World.cell?_setCell_other _ _ _ _ (fun e => by injection e with e1; omega)).trans e3)⟩
       replace hHeld := hHeld' rfl
       clear hHeld' hK K
       try dsimp only at hHeld
       refine wpAnyJ_done (by kernel_rfl) ?_ _
       clear hHeld
       go_wp2_with fail
       go_roundg (nd - (j + 1))
       case rel => exact ⟨true, j + 1, _, rfl, by go_num, by omega, rfl, HSP.out.drew.drew.drew, HPUT.out.1, (fun h => by cases h), ⟨by have := hsum.out.1; have := HPUT.out.2; have := HS0.out; omega, fun _ => by have := hsum.out.1; have := HPUT.out.2; have := HS0.out; omega⟩⟩
       case measure => omega
end Go.Proofs.YtfaknfmndafllaaGreatDoor
