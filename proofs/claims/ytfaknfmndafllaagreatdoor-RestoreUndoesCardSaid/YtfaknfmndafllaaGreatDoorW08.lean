import Derived.Test.YtfaknfmndafllaaGreatDoorW07
import Derived.Test.YtfaknfmndafllaaGreatDoorW03
set_option maxRecDepth 100000
set_option maxHeartbeats 8000000
namespace Go.Proofs.YtfaknfmndafllaaGreatDoor
open Go.RowKit
open Go.Maps (Keyed)
theorem law_int : Keyed Tryz.prog 3 := Go.Maps.int_keyed Tryz.underlying3
def BitsAt (w : World) (b n : Nat) (f : Int → Int) : Prop :=
 ∃ (D : DataW Unit), w.ownsMap Tryz.prog 3 (plainElem Tryz.prog 3) b n D ∧ Go.Maps.IsMap D ∧ ∀ k, D.atKey (.int .i64 k) (.lit (.int .i64 0)) = .lit (.int .i64 (f k))
theorem wf_small {k : Int} (h0 : -1000000 ≤ k) (h1 : k ≤ 1000000) : (Lit.int .i64 k).wf = true := by
 have e : IntKind.i64.min = -9223372036854775808 := by kernel_rfl
 simp [Lit.wf, e]; omega
section
variable {w w' : World} {b n : Nat} {f g : Int → Int}
theorem bits_made (w : World) : BitsAt (w.alloc (.map #[] 0)) w.heap.size 0 (fun _ => 0) := ⟨.map [], World.ownsMap_made _ _ _ _, ⟨[], rfl⟩, fun k => by simp [DataW.atKey]⟩
theorem BitsAt.lt (h : BitsAt w b n f) : b < w.heap.size := by
 obtain ⟨D, h1, _⟩ := h
 exact h1.lt
theorem BitsAt.congr (h : BitsAt w b n f) (e : ∀ k, f k = g k) : BitsAt w b n g := by
 obtain ⟨D, h1, h2, h3⟩ := h
 exact ⟨D, h1, h2, fun k => by rw [h3, e]⟩
theorem BitsAt.kept {row : Option Nat} (h : BitsAt w b n f) (hg : w.grownBy w' row) (hne : some b ≠ row) : BitsAt w' b n f := by
 obtain ⟨D, h1, h2, h3⟩ := h
 exact ⟨D, h1.kept hg hne, h2, h3⟩
theorem BitsAt.below (h : BitsAt w b n f) (hb : Below w.heap.size w w') : BitsAt w' b n f := h.kept (grown_of_below hb none) (by simp)
theorem BitsAt.alloc (h : BitsAt w b n f) (o : Obj) : BitsAt (w.alloc o) b n f := h.below ((Below.refl _ _).alloc (Nat.le_refl _) _)
theorem BitsAt.look (h : BitsAt w b n f) (k : Int) (h0 : -1000000 ≤ k) (h1 : k ≤ 1000000) :
 (Instr.lookup 212 (.map (some b)) (.int .i64 k) false).run Tryz.prog w = .ok (.int .i64 (f k)) w := by
 obtain ⟨D, hD, _, h3⟩ := h
 obtain ⟨v, ps, hr, hv⟩ := hD.lookup law_int Tryz.underlying212 (z := .int .i64 0) (by kernel_rfl) (plainElem_int Tryz.underlying3 (by decide)) (Go.Maps.keyOf_int_mk Tryz.underlying3 (wf_small h0 h1))
 obtain ⟨x, rfl, hx, _⟩ := plainElem_int_inv Tryz.underlying3 hv
 rw [h3] at hx
 simp only [Prod.mk.injEq, DataW.lit.injEq, Lit.int.injEq, true_and] at hx
 rw [hr, hx.1]
theorem BitsAt.put (h : BitsAt w b n f) (hn : n ≤ 1000000) (k x : Int) (h0 : -1000000 ≤ k) (h1 : k ≤ 1000000) (x0 : -1000000 ≤ x) (x1 : x ≤ 1000000) :
 ∃ w', (Instr.mapUpdate 212 (.map (some b)) (.int .i64 k) (.int .i64 x)).run Tryz.prog w = .ok () w' ∧ BitsAt w' b (n + 1) (fun j => if j = k then x else f j) ∧ w.grownBy w' (some b) := by
 obtain ⟨D, hD, h2, h3⟩ := h
 obtain ⟨w', hr, ho, hg⟩ := hD.update law_int Tryz.underlying212 (by unfold maxLen; omega) (Go.Maps.keyOf_int_mk Tryz.underlying3 (wf_small h0 h1)) (plainElem_int Tryz.underlying3 (wf_small x0 x1))
 refine ⟨w', hr, ⟨_, ho, ?_, fun j => ?_⟩, hg⟩
 ·obtain ⟨es, rfl⟩ := h2
  exact ⟨_, rfl⟩
 ·by_cases e : j = k
  ·rw [e, Go.Maps.atKey_put_same h2 (by simp [WideAt.IsKeyLit])]; simp only [if_true]
  ·rw [Go.Maps.atKey_put_other (fun e' => e (by injection e')), h3]; simp only [if_neg e]
end
structure CoSt (w : World) (N : Array Value) (mb j : Nat) (f : Int → Int) (wr : World) : Prop where
 bx : Blk wr w.heap.size 30 N
 mp : BitsAt wr mb j f
 bl : Below w.heap.size w wr
 ge : w.heap.size < mb
section
variable {w wr wr' : World} {N : Array Value} {mb j : Nat} {f : Int → Int}
theorem CoSt.later (h : CoSt w N mb j f wr) (hb : Below wr.heap.size wr wr') : CoSt w N mb j f wr' := ⟨h.bx.below hb h.bx.lt, h.mp.below hb, h.bl.trans (hb.mono h.bl.size), h.ge⟩
theorem CoSt.alloc (h : CoSt w N mb j f wr) (o : Obj) : CoSt w N mb j f (wr.alloc o) := h.later ((Below.refl _ _).alloc (Nat.le_refl _) _)
theorem CoSt.put {f' : Int → Int} (h : CoSt w N mb j f wr) (hm : BitsAt wr' mb (j + 1) f') (hg : wr.grownBy wr' (some mb)) : CoSt w N mb (j + 1) f' wr' :=
 ⟨h.bx.grown hg (fun e => by injection e with e; have := h.ge; omega), hm, h.bl.trans (below_of_grown hg (Nat.le_of_lt h.ge) h.bl.size), h.ge⟩
theorem CoSt.skip (h : CoSt w N mb j f wr) {f' : Int → Int} (e : ∀ k, f k = f' k) : CoSt w N mb (j + 1) f' wr := ⟨h.bx, by
 obtain ⟨D, ⟨es, cl, a1, a2, a3, a4⟩, h2, h3⟩ := h.mp
 exact ⟨D, ⟨es, cl, a1, a2, by omega, a4⟩, h2, fun k => by rw [h3, e]⟩, h.bl, h.ge⟩
end
def ColsPost (w : World) (nn : Nat) (ds : List Dv) (s : List Int) (e : Ending) (w' : World) : Prop :=
 ∃ (A : Option Addr) (out : List Int), e = .returned (.slice A nn nn) ∧ Hid (IntsO w' w.heap.size A nn nn out) ∧ Hid (IsCols nn ds s out) ∧ Hid (Below w.heap.size w w')
def CoR1 (w : World) (N : Array Value) (mb nd : Nat) (parts : List Int) (ds : List Dv) (s : List Int) (gk : Nat) (iv : Value) (wr : World) : Prop :=
 ∃ (j : Nat), iv = .int .i64 j ∧ j ≤ nd ∧ gk = nd - j ∧ Hid (CoSt w N mb j (bitsTo parts ds s j) wr)
def CoR2 (w : World) (N : Array Value) (mb nd nn go : Nat) (parts : List Int) (f : Int → Int) (gk : Nat) (iv : Value) (wr : World) : Prop :=
 ∃ (i : Nat) (out : List Int), iv = .int .i64 i ∧ i ≤ nn ∧ gk = nn - i ∧ Hid (CoSt w N mb nd f wr) ∧ Hid (IntsO wr (mb + 1) (some ⟨go, 0, none⟩) nn nn out) ∧ Hid (∀ (j : Nat) (q : Int), j < i → parts[j]? = some q → out[j]? = some (f q))
theorem bits_put_earth {parts s : List Int} {ds : List Dv} {j : Nat} {x : Dv} {p v : Int} (hx : ds[j]? = some x) (_hs : s[j]? = some 2) (_hk : x.kind = 4) (hp : parts[x.a.toNat]? = some p) (hv : bitsTo parts ds s (j + 1) p = v) (k : Int) : (if k = p then v else bitsTo parts ds s j k) = bitsTo parts ds s (j + 1) k := by
 by_cases e : k = p
 ·subst e; rw [if_pos rfl, hv]
 ·rw [if_neg e]
  refine (bits_same hx (fun K _ h => e ?_)).symm
  have := h.2.2
  rw [hp] at this
  exact (Option.some.inj this).symm
theorem bits_put_live {parts s : List Int} {ds : List Dv} {j : Nat} {x : Dv} {p v : Int} (hx : ds[j]? = some x) (_hs : s[j]? = some 2) (_hk : liveK x.kind) (hp : parts[x.a.toNat]? = some p) (hv : bitsTo parts ds s (j + 1) p = v) (k : Int) : (if k = p then v else bitsTo parts ds s j k) = bitsTo parts ds s (j + 1) k := by
 by_cases e : k = p
 ·subst e; rw [if_pos rfl, hv]
 ·rw [if_neg e]
  refine (bits_same hx (fun K _ h => e ?_)).symm
  have := h.2.2
  rw [hp] at this
  exact (Option.some.inj this).symm
theorem colours_any (An Ad As Ap : Option Addr) (nn cn nd cd n c cp Bd Bs Bp : Nat) (ds : List Dv) (s parts : List Int) (w : World)
 (hd : Sl w Bd 5 Ad nd cd (ds.flatMap Dv.cells)) (hBd : Bd ≤ w.heap.size) (hs : Sl w Bs 1 As n c (intsV s)) (hBs : Bs ≤ w.heap.size) (hp : Sl w Bp 1 Ap nn cp (intsV parts)) (hBp : Bp ≤ w.heap.size) (hnn : nn ≤ 10000) (hnd : nd ≤ 10000) (hn : nd ≤ n) (hA : AOk nn ds) (hP : IsParts nn ds s parts) :
 Calls Tryz.prog 148 #[.agg #[.slice An nn cn, .slice Ad nd cd], .slice As n c, .slice Ap nn cp] w (ColsPost w nn ds s) := by
 have HLD := Lib.hid (hd.len (fun _ => rfl) (by decide)); have HLP := Lib.hid (hp.len (fun _ => rfl) (by decide))
 have hdm := hd.le
 have hsm := hs.le
 have hpm := hp.le
 have HD := Lib.hid hd; have HS := Lib.hid hs; have HP := Lib.hid hp; have HA := Lib.hid hA; have HIP := Lib.hid hP
 clear hd hs hp hA hP
 have hmm := @run_makeMap Tryz.prog
 have HST : Hid (CoSt w #[.slice An nn cn, .slice Ad nd cd] (w.heap.size + 1) 0 (bitsTo parts ds s 0) ((w.alloc (.cells #[.slice An nn cn, .slice Ad nd cd] 30)).alloc (.map #[] 0))) := by
  refine ⟨(Blk.new w _ _).alloc _, ?_, ((Below.refl _ _).alloc (Nat.le_refl _) _).alloc (by simp) _, by omega⟩
  have := bits_made (w.alloc (.cells #[.slice An nn cn, .slice Ad nd cd] 30))
  rw [World.size_alloc] at this
  exact this.congr (fun k => bits_zero.symm)
 go_enter Tryz.func148, Tryz.ntmps148
 go_wp2_with fail
 clear hmm
 obtain ⟨mb, hmb⟩ : ∃ mb, mb = w.heap.size + 1 := ⟨_, rfl⟩
 rw [← hmb] at HST ⊢
 have hmb1 : w.heap.size + 1 ≤ mb := by omega
 clear hmb
 generalize World.alloc (World.alloc _ _) _ = W at *
 go_loopg [17] nd (CoR1 w #[.slice An nn cn, .slice Ad nd cd] mb nd parts ds s)
 case atStart => exact ⟨0, rfl, Nat.zero_le _, rfl, HST⟩
 case round =>
  clear HST
  obtain ⟨j, rfl, hj, rfl, hst⟩ := hrel
  by_cases hlt : j < nd
  ·obtain ⟨b, off, x, rfl, hb, hx, hc⟩ := (HD.out.below hst.out.bl hBd).at (fun _ => rfl) (by decide) hlt
   have HX := Lib.hid hx
   have hax := HA.out x (List.mem_of_getElem? hx)
   obtain ⟨nm, kd, xa, xb, co⟩ := x
   simp only at hax
   obtain ⟨a, rfl⟩ := Int.eq_ofNat_of_zero_le hax.1
   have han : a < nn := by omega
   have c0 : wr.cell? ⟨b, off + j * 5, none⟩ = some (.string nm) := hc 0 _ rfl
   have c1 : wr.cell? ⟨b, off + j * 5 + 1, none⟩ = some (.int .i64 kd) := hc 1 _ rfl
   have c2 : wr.cell? ⟨b, off + j * 5 + 2, none⟩ = some (.int .i64 a) := hc 2 _ rfl
   have c3 : wr.cell? ⟨b, off + j * 5 + 3, none⟩ = some (.int .i64 xb) := hc 3 _ rfl
   have c4 : wr.cell? ⟨b, off + j * 5 + 4, none⟩ = some (.int .i64 co) := hc 4 _ rfl
   clear hc hx hax
   go_upto_region 5 with (fail)
   clear c0 c1 c2 c3 c4
   have HK := Lib.hid (Blk.new wr 68 #[.string nm, .int .i64 kd, .int .i64 a, .int .i64 xb, .int .i64 co])
   have HST1 := Lib.hid (hst.out.alloc (.cells #[.string nm, .int .i64 kd, .int .i64 a, .int .i64 xb, .int .i64 co] 68))
   generalize World.alloc _ _ = w1 at *
   obtain ⟨bq, hbq⟩ : ∃ bq, bq = wr.heap.size := ⟨_, rfl⟩
   rw [← hbq] at HK ⊢
   clear hbq hst
   obtain ⟨sb, soff, sx, rfl, hsb, hsx, hsc⟩ := (HS.out.below HST1.out.bl hBs).at1 (k := j) (by omega)
   obtain ⟨pb, poff, p, rfl, hpb, hpx, hpc⟩ := (HP.out.below HST1.out.bl hBp).at1 (k := a) han
   have HSX := Lib.hid hsx; have HPX := Lib.hid hpx
   have hp0 : 0 ≤ p ∧ p ≤ 10000 := by
    obtain ⟨q, h1, h2, _⟩ := HIP.out.2 a han
    rw [hpx] at h1
    injection h1 with h1
    omega
   clear hsx hpx
   have e1 := HK.out.c1
   have e2 := HK.out.c2
   by_cases h2 : sx = 2; rotate_left
   ·have q2 : (sx != 2) = true := by simpa using h2
    have HSK := Lib.hid (HST1.out.skip (fun k => (bits_same HX.out (fun K _ h => h2 (by have := h.1; rw [HSX.out] at this; exact Option.some.inj this))).symm))
    clear h2
    go_wp2_with fail
    go_roundg (nd - (j + 1))
    case rel => exact ⟨j + 1, by go_num, by omega, rfl, HSK⟩
    case measure => omega
   ·subst h2
    have hlook := HST1.out.mp.look p (by omega) (by omega)
    by_cases h4 : kd = 4
    ·subst h4
     have hbe := bits_earth HX.out HSX.out rfl HPX.out
     rcases bits_range (parts := parts) (ds := ds) (s := s) (j := j) (p := p) with e | e | e | e
     ·have hn := hbe.1 e
      obtain ⟨w2, hput, hB2, hg2⟩ := HST1.out.mp.put (by omega) p 2 (by omega) (by omega) (by decide) (by decide)
      have HP2 := Lib.hid (HST1.out.put (hB2.congr (bits_put_earth HX.out HSX.out rfl HPX.out hn)) hg2)
      rw [e] at hlook
      clear hn hB2 hg2 hbe e
      have hor : bits BinOp.or IntKind.i64 0 2 = 2 := by kernel_rfl
      go_wp2_with fail
      go_roundg (nd - (j + 1))
      case rel => exact ⟨j + 1, by go_num, by omega, rfl, HP2⟩
      case measure => omega
     ·have hn := hbe.2.1 e
      obtain ⟨w2, hput, hB2, hg2⟩ := HST1.out.mp.put (by omega) p 3 (by omega) (by omega) (by decide) (by decide)
      have HP2 := Lib.hid (HST1.out.put (hB2.congr (bits_put_earth HX.out HSX.out rfl HPX.out hn)) hg2)
      rw [e] at hlook
      clear hn hB2 hg2 hbe e
      have hor : bits BinOp.or IntKind.i64 1 2 = 3 := by kernel_rfl
      go_wp2_with fail
      go_roundg (nd - (j + 1))
      case rel => exact ⟨j + 1, by go_num, by omega, rfl, HP2⟩
      case measure => omega
     ·have hn := hbe.2.2.1 e
      obtain ⟨w2, hput, hB2, hg2⟩ := HST1.out.mp.put (by omega) p 2 (by omega) (by omega) (by decide) (by decide)
      have HP2 := Lib.hid (HST1.out.put (hB2.congr (bits_put_earth HX.out HSX.out rfl HPX.out hn)) hg2)
      rw [e] at hlook
      clear hn hB2 hg2 hbe e
      have hor : bits BinOp.or IntKind.i64 2 2 = 2 := by kernel_rfl
      go_wp2_with fail
      go_roundg (nd - (j + 1))
      case rel => exact ⟨j + 1, by go_num, by omega, rfl, HP2⟩
      case measure => omega
     ·have hn := hbe.2.2.2 e
      obtain ⟨w2, hput, hB2, hg2⟩ := HST1.out.mp.put (by omega) p 3 (by omega) (by omega) (by decide) (by decide)
      have HP2 := Lib.hid (HST1.out.put (hB2.congr (bits_put_earth HX.out HSX.out rfl HPX.out hn)) hg2)
      rw [e] at hlook
      clear hn hB2 hg2 hbe e
      have hor : bits BinOp.or IntKind.i64 3 2 = 3 := by kernel_rfl
      go_wp2_with fail
      go_roundg (nd - (j + 1))
      case rel => exact ⟨j + 1, by go_num, by omega, rfl, HP2⟩
      case measure => omega
    ·have q4 : (kd == 4) = false := by simpa using h4
     by_cases h5 : liveK kd
     ·have hbe := bits_live HX.out HSX.out h5 HPX.out
      have q5 : (kd == 5) = true ∨ (kd == 5) = false ∧ (kd == 6) = true := by
       rcases h5 with rfl | rfl
       ·exact .inl rfl
       ·exact .inr ⟨rfl, rfl⟩
      rcases bits_range (parts := parts) (ds := ds) (s := s) (j := j) (p := p) with e | e | e | e
      ·have hn := hbe.1 e
       obtain ⟨w2, hput, hB2, hg2⟩ := HST1.out.mp.put (by omega) p 1 (by omega) (by omega) (by decide) (by decide)
       have HP2 := Lib.hid (HST1.out.put (hB2.congr (bits_put_live HX.out HSX.out h5 HPX.out hn)) hg2)
       rw [e] at hlook
       clear hn hB2 hg2 hbe e
       have hor : bits BinOp.or IntKind.i64 0 1 = 1 := by kernel_rfl
       clear h5
       rcases q5 with q5 | ⟨q5, q6⟩
       ·go_wp2_with fail
        go_roundg (nd - (j + 1))
        case rel => exact ⟨j + 1, by go_num, by omega, rfl, HP2⟩
        case measure => omega
       ·go_wp2_with fail
        go_roundg (nd - (j + 1))
        case rel => exact ⟨j + 1, by go_num, by omega, rfl, HP2⟩
        case measure => omega
      ·have hn := hbe.2.1 e
       obtain ⟨w2, hput, hB2, hg2⟩ := HST1.out.mp.put (by omega) p 1 (by omega) (by omega) (by decide) (by decide)
       have HP2 := Lib.hid (HST1.out.put (hB2.congr (bits_put_live HX.out HSX.out h5 HPX.out hn)) hg2)
       rw [e] at hlook
       clear hn hB2 hg2 hbe e
       have hor : bits BinOp.or IntKind.i64 1 1 = 1 := by kernel_rfl
       clear h5
       rcases q5 with q5 | ⟨q5, q6⟩
       ·go_wp2_with fail
        go_roundg (nd - (j + 1))
        case rel => exact ⟨j + 1, by go_num, by omega, rfl, HP2⟩
        case measure => omega
       ·go_wp2_with fail
        go_roundg (nd - (j + 1))
        case rel => exact ⟨j + 1, by go_num, by omega, rfl, HP2⟩
        case measure => omega
      ·have hn := hbe.2.2.1 e
       obtain ⟨w2, hput, hB2, hg2⟩ := HST1.out.mp.put (by omega) p 3 (by omega) (by omega) (by decide) (by decide)
       have HP2 := Lib.hid (HST1.out.put (hB2.congr (bits_put_live HX.out HSX.out h5 HPX.out hn)) hg2)
       rw [e] at hlook
       clear hn hB2 hg2 hbe e
       have hor : bits BinOp.or IntKind.i64 2 1 = 3 := by kernel_rfl
       clear h5
       rcases q5 with q5 | ⟨q5, q6⟩
       ·go_wp2_with fail
        go_roundg (nd - (j + 1))
        case rel => exact ⟨j + 1, by go_num, by omega, rfl, HP2⟩
        case measure => omega
       ·go_wp2_with fail
        go_roundg (nd - (j + 1))
        case rel => exact ⟨j + 1, by go_num, by omega, rfl, HP2⟩
        case measure => omega
      ·have hn := hbe.2.2.2 e
       obtain ⟨w2, hput, hB2, hg2⟩ := HST1.out.mp.put (by omega) p 3 (by omega) (by omega) (by decide) (by decide)
       have HP2 := Lib.hid (HST1.out.put (hB2.congr (bits_put_live HX.out HSX.out h5 HPX.out hn)) hg2)
       rw [e] at hlook
       clear hn hB2 hg2 hbe e
       have hor : bits BinOp.or IntKind.i64 3 1 = 3 := by kernel_rfl
       clear h5
       rcases q5 with q5 | ⟨q5, q6⟩
       ·go_wp2_with fail
        go_roundg (nd - (j + 1))
        case rel => exact ⟨j + 1, by go_num, by omega, rfl, HP2⟩
        case measure => omega
       ·go_wp2_with fail
        go_roundg (nd - (j + 1))
        case rel => exact ⟨j + 1, by go_num, by omega, rfl, HP2⟩
        case measure => omega
     ·have q5 : (kd == 5) = false := by unfold liveK at h5; simp; omega
      have q6 : (kd == 6) = false := by unfold liveK at h5; simp; omega
      have HSK := Lib.hid (HST1.out.skip (fun k => (bits_same HX.out (fun K hK h => by
       rcases hK with rfl | rfl
       ·exact h5 h.2.1
       ·exact h4 h.2.1)).symm))
      clear h4 h5 hlook
      go_wp2_with fail
      go_roundg (nd - (j + 1))
      case rel => exact ⟨j + 1, by go_num, by omega, rfl, HSK⟩
      case measure => omega
  ·obtain rfl : j = nd := by omega
   have hjj : decide (j < j) = false := by simp
   have k0 := hst.out.bx.c0
   have hmk := run_mk_int nn (by omega) wr
   have HO := Lib.hid (ints_new (w := wr) (base := mb + 1) (n := nn) hst.out.mp.lt (by omega))
   have HST1 := Lib.hid (hst.out.alloc (.cells (intsV (List.replicate nn 0)).toArray 3))
   clear hst
   go_wp2_with fail
   clear hmk k0 hjj
   generalize World.alloc _ _ = w1 at *
   obtain ⟨go, hgo⟩ : ∃ go, go = wr.heap.size := ⟨_, rfl⟩
   rw [← hgo] at HO ⊢
   clear hgo
   go_loopg [64] nn (CoR2 w #[.slice An nn cn, .slice Ad j cd] mb j nn go parts (bitsTo parts ds s j))
   case atStart => exact ⟨0, _, rfl, Nat.zero_le _, rfl, HST1, HO, fun i q hi => absurd hi (by omega)⟩
   case round =>
    clear HST1 HO
    obtain ⟨i, out, rfl, hi, rfl, hst, ho, hf⟩ := hrel
    by_cases hli : i < nn
    ·obtain ⟨pb, poff, p, rfl, hpb, hpx, hpc⟩ := (HP.out.below hst.out.bl hBp).at1 (k := i) hli
     have hp0 : 0 ≤ p ∧ p ≤ 10000 := by
      obtain ⟨q, h1, h2, _⟩ := HIP.out.2 i hli
      rw [hpx] at h1
      injection h1 with h1
      omega
     have HPX := Lib.hid hpx; clear hpx
     have hlook := hst.out.mp.look p (by omega) (by omega)
     obtain ⟨g, x, hA, hg1, hg2, hx, hcell, hfz, hset⟩ := ho.out.at hli
     injection hA with hA
     injection hA with hA
     subst hA
     clear hx
     have HOL := Lib.hid ho.out.len
     have hge := hst.out.ge
     have HST2 : Hid (CoSt w #[.slice An nn cn, .slice Ad j cd] mb j (bitsTo parts ds s j) (wr.setCell ⟨go, i, none⟩ (.int .i64 (bitsTo parts ds s j p)))) :=
      ⟨hst.out.bx.far (by simp; omega) _, hst.out.mp.kept (grown_cell wr _ _) (by simp; omega), hst.out.bl.setCell (by simp; omega) _, hge⟩
     have HSET := Lib.hid (hset (bitsTo parts ds s j p))
     clear hset
     have HF : Hid (∀ (y : Nat) (q : Int), y < i + 1 → parts[y]? = some q → (out.set i (bitsTo parts ds s j p))[y]? = some (bitsTo parts ds s j q)) := by
      intro y q hy hq
      rw [List.getElem?_set]
      split
      ·rename_i e
       subst e
       rw [if_pos (by rw [HOL.out]; exact hli)]
       rw [HPX.out] at hq
       injection hq with hq
       rw [hq]
      ·exact hf.out y q (by omega) hq
     generalize bitsTo parts ds s j p = bp at *
     go_wp2_with fail
     go_roundg (nn - (i + 1))
     case rel => exact ⟨i + 1, _, by go_num, by omega, rfl, HST2, HSET, HF⟩
     case measure => omega
    ·obtain rfl : i = nn := by omega
     have hii : decide (i < i) = false := by simp
     go_wp2_with fail
     go_ret
     refine ⟨_, out, rfl, ho.out.mono (by omega), ⟨ho.out.len, fun v hv => ?_⟩, hst.out.bl⟩
     obtain ⟨q, h1, _⟩ := HIP.out.2 v hv
     rw [hf.out v q hv h1, ← bits_col HIP.out HA.out hv h1, HLD.out]
end Go.Proofs.YtfaknfmndafllaaGreatDoor
