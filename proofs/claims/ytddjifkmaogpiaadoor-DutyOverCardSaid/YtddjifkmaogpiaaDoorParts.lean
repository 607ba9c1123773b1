/-
  Layer 7: walk of parts.
-/
import Derived.Test.YtddjifkmaogpiaaDoorFlood
import Derived.Test.YtddjifkmaogpiaaDoorPartsP
namespace Go.Proofs.YtddjifkmaogpiaaDoor
open Go.RowKit
/-- The memory of parts. -/
structure PaSt (w : World) (N : Array Value) (As : Option Addr) (n c go nn : Nat) (out : List Int) (wr : World) : Prop where
  bx : Blk wr w.heap.size 30 N
  sx : Blk wr (w.heap.size + 1) 22 #[.slice As n c]
  ob : IntsO wr (w.heap.size + 2) (some ⟨go, 0, none⟩) nn nn out
  bl : Below w.heap.size w wr
section
variable {w wr wr' : World} {N : Array Value} {As : Option Addr} {n c go nn : Nat} {out : List Int}
theorem PaSt.ge (h : PaSt w N As n c go nn out wr) : w.heap.size + 2 ≤ go ∧ go < wr.heap.size := h.ob.lt go rfl
theorem PaSt.later (h : PaSt w N As n c go nn out wr) (hb : Below wr.heap.size wr wr') : PaSt w N As n c go nn out wr' :=
  ⟨h.bx.below hb h.bx.lt, h.sx.below hb h.sx.lt, h.ob.later hb, h.bl.trans (hb.mono h.bl.size)⟩
theorem PaSt.alloc (h : PaSt w N As n c go nn out wr) (o : Obj) : PaSt w N As n c go nn out (wr.alloc o) := h.later ((Below.refl _ _).alloc (Nat.le_refl _) _)
theorem PaSt.put (h : PaSt w N As n c go nn out wr) {k : Nat} (hk : k < nn) (v : Int) : PaSt w N As n c go nn (out.set k v) (wr.setCell ⟨go, k, none⟩ (.int .i64 v)) := by
  have hg := h.ge
  obtain ⟨g, x, hA, h1, h2, hx, hc, hf, hst⟩ := h.ob.at hk
  injection hA with hA
  injection hA with hA
  subst hA
  exact ⟨h.bx.far (by simp; omega) _, h.sx.far (by simp; omega) _, hst v, h.bl.setCell (by simp; omega) _⟩
theorem PaSt.cell (h : PaSt w N As n c go nn out wr) {k : Nat} (hk : k < nn) : ∃ x, out[k]? = some x ∧ wr.cell? ⟨go, k, none⟩ = some (.int .i64 x) ∧ wr.frozen? ⟨go, k, none⟩ = false := by
  obtain ⟨g, x, hA, h1, h2, hx, hc, hf, hst⟩ := h.ob.at hk
  injection hA with hA
  injection hA with hA
  subst hA
  exact ⟨x, hx, hc, hf⟩
end
theorem closed_any (As : Option Addr) (n c B : Nat) (s : List Int) (p : Addr) (i : Nat) (w : World) (hs : Sl w B 1 As n c (intsV s)) (hp : w.cell? p = some (.slice As n c)) (hi : i < n) : Calls Tryd.prog 79 #[.int .i64 i, .pointer (some p)] w fun e w' => e = .returned (.bool (shutB s i)) ∧ w = w' := by
  obtain ⟨b, off, x, rfl, hb, hx, hc⟩ := hs.at1 hi
  have hm := hs.le
  have HC : Hid (shutB s i = (x == 2)) := by unfold Hid shutB; rw [List.getD_eq_getElem?_getD, hx]; rfl
  clear hs hx
  go_enter Tryd.func79, Tryd.ntmps79
  go_wp2_with fail
  go_ret
  exact ⟨ret_bool (by rw [HC.out]), rfl⟩
theorem never_any (v : Int) (w : World) : Calls Tryd.prog 80 #[.int .i64 v] w fun e w' => e = .returned (.bool false) ∧ w = w' := by
  go_enter Tryd.func80, Tryd.ntmps80
  go_wp2_with fail
  go_ret
  exact ⟨rfl, rfl⟩
def PartsPost (w : World) (nn : Nat) (ds : List Dv) (s : List Int) (e : Ending) (w' : World) : Prop :=
  ∃ (A : Option Addr) (out : List Int), e = .returned (.slice A nn nn) ∧ Hid (IntsO w' w.heap.size A nn nn out) ∧ Hid (IsParts nn ds s out) ∧ Hid (Below w.heap.size w w')
def PaR1 (w : World) (N : Array Value) (As : Option Addr) (n c go nn gk : Nat) (iv : Value) (wr : World) : Prop :=
  ∃ (i : Nat) (out : List Int), iv = .int .i64 i ∧ i ≤ nn ∧ gk = nn - i ∧ Hid (PaSt w N As n c go nn out wr) ∧ Hid (∀ j, j < i → out[j]? = some (-1))
def PaR2 (w : World) (N : Array Value) (As : Option Addr) (n c go nn : Nat) (ds : List Dv) (s : List Int) (gk : Nat) (iv : Value) (wr : World) : Prop :=
  ∃ (i : Nat) (out : List Int), iv = .int .i64 i ∧ i ≤ nn ∧ gk = nn - i ∧ Hid (PaSt w N As n c go nn out wr) ∧ Hid (PInv nn ds s i out)
def PaR3 (w : World) (N : Array Value) (As : Option Addr) (n c go nn : Nat) (Al : Option Addr) (l : List Bool) (v : Nat) (out0 : List Int) (gk : Nat) (iv : Value) (wr : World) : Prop :=
  ∃ (i : Nat) (out : List Int), iv = .int .i64 i ∧ i ≤ nn ∧ gk = nn - i ∧ Hid (PaSt w N As n c go nn out wr) ∧ Hid (Upd out0 l v i out) ∧ Hid (BoolsO wr (go + 1) Al nn nn l)
set_option maxRecDepth 100000 in
set_option maxHeartbeats 8000000 in
theorem parts_any (An Ad As : Option Addr) (nn cn nd cd n c Bd Bs : Nat) (ds : List Dv) (s : List Int) (w : World)
    (hd : Sl w Bd 5 Ad nd cd (ds.flatMap Dv.cells)) (hBd : Bd ≤ w.heap.size) (hs : Sl w Bs 1 As n c (intsV s)) (hBs : Bs ≤ w.heap.size) (hnn : nn ≤ 10000) (hn : nd ≤ n) (hends : EndsOk nn ds) :
    Calls Tryd.prog 58 #[.agg #[.slice An nn cn, .slice Ad nd cd], .slice As n c] w (PartsPost w nn ds s) := by
  have HD := Lib.hid hd; have HS := Lib.hid hs; have HE := Lib.hid hends
  clear hd hs hends
  have hmk := run_mk_int nn (by omega) ((w.alloc (.cells #[.slice An nn cn, .slice Ad nd cd] 30)).alloc (.cells #[.slice As n c] 22))
  have hsz1 : ((w.alloc (.cells #[.slice An nn cn, .slice Ad nd cd] 30)).alloc (.cells #[.slice As n c] 22)).heap.size = w.heap.size + 1 + 1 := by simp
  have HST : Hid (PaSt w #[.slice An nn cn, .slice Ad nd cd] As n c (w.heap.size + 1 + 1) nn (List.replicate nn 0) (((w.alloc (.cells #[.slice An nn cn, .slice Ad nd cd] 30)).alloc (.cells #[.slice As n c] 22)).alloc (.cells (intsV (List.replicate nn 0)).toArray 3))) := by
    refine ⟨((Blk.new w _ _).alloc _).alloc _, ?_, ?_, (((Below.refl _ _).alloc (Nat.le_refl _) _).alloc (by simp) _).alloc (by simp; omega) _⟩
    · have := Blk.new (w.alloc (.cells #[.slice An nn cn, .slice Ad nd cd] 30)) 22 #[.slice As n c]
      rw [World.size_alloc] at this
      exact this.alloc _
    · have := ints_new (w := (w.alloc (.cells #[.slice An nn cn, .slice Ad nd cd] 30)).alloc (.cells #[.slice As n c] 22)) (base := w.heap.size + 2) (n := nn) (by simp) (by omega)
      rw [hsz1] at this
      exact this
  rw [hsz1] at hmk
  clear hsz1
  have hmf : ∀ (fn : Fn) (first cap : Array Value) (w : World), (Instr.makeFunc fn first cap).run Tryd.prog w = .ok (.func fn first cap) w := fun _ _ _ _ => rfl
  go_enter Tryd.func58, Tryd.ntmps58
  go_wp2_with fail
  clear hmk
  obtain ⟨go, hgo⟩ : ∃ go, go = w.heap.size + 1 + 1 := ⟨_, rfl⟩
  rw [← hgo] at HST ⊢
  have hgo1 : w.heap.size + 2 ≤ go := by omega
  clear hgo
  generalize World.alloc (World.alloc (World.alloc _ _) _) _ = W at *
  go_loopg [18] nn (PaR1 w #[.slice An nn cn, .slice Ad nd cd] As n c go nn)
  case atStart => exact ⟨0, _, rfl, Nat.zero_le _, rfl, HST, fun j hj => absurd hj (by omega)⟩
  case round =>
    clear HST
    obtain ⟨i, out, rfl, hi, rfl, hst, hm1⟩ := hrel
    by_cases hlt : i < nn
    · obtain ⟨x, hx, hcell, hfz⟩ := hst.out.cell hlt
      clear hx
      have HM := Lib.hid (hst.out.put hlt (-1))
      have HOL := Lib.hid hst.out.ob.len
      go_wp2_with fail
      go_roundg (nn - (i + 1))
      case rel => exact ⟨i + 1, _, by go_num, by omega, rfl, HM, rep_set nn i out HOL.out hm1.out hlt⟩
      case measure => omega
    · obtain rfl : i = nn := by omega
      have hii : decide (i < i) = false := by simp
      have HPI : Hid (PInv i ds s 0 out) := by
        have := rep_all i out hst.out.ob.len hm1.out
        rw [this]
        exact PInv.start i ds s
      clear hm1
      go_wp2_with fail
      go_loopg [28] i (PaR2 w #[.slice An i cn, .slice Ad nd cd] As n c go i ds s)
      case atStart => exact ⟨0, _, rfl, Nat.zero_le _, rfl, hst, HPI⟩
      case round =>
        clear hst HPI hii
        obtain ⟨v, out, rfl, hv, rfl, hst, hPI⟩ := hrel
        by_cases hlv : v < i; rotate_left
        · obtain rfl : v = i := by omega
          have hvv : decide (v < v) = false := by simp
          go_wp2_with fail
          go_ret
          exact ⟨_, out, rfl, hst.out.ob.mono (by omega), hPI.out.final, hst.out.bl⟩
        · obtain ⟨x, hx, hcell, hfz⟩ := hst.out.cell hlv
          have HX := Lib.hid hx; clear hx
          by_cases h0 : 0 ≤ x
          · go_wp2_with fail
            go_roundg (i - (v + 1))
            case rel => exact ⟨v + 1, out, by go_num, by omega, rfl, hst, hPI.out.skip HX.out h0⟩
            case measure => omega
          · have q0 : decide (0 ≤ x) = false := by simpa using h0
            have k0 : wr.cell? ⟨w.heap.size, 0, none⟩ = some (.slice An i cn) := hst.out.bx.cell 0
            have k1 : wr.cell? ⟨w.heap.size, 1, none⟩ = some (.slice Ad nd cd) := hst.out.bx.cell 1
            go_wp2_with fail
            clear k0 k1 hcell hfz q0
            have HST1 := Lib.hid (hst.out.alloc (.cells #[.int .i64 v] 3))
            have HSL : Hid (Sl (wr.alloc (.cells #[.int .i64 v] 3)) (wr.heap.size + 1) 1 (some ⟨wr.heap.size, 0, none⟩) 1 1 (intsV [(v : Int)])) := Sl.newest (n := 1) rfl rfl (by decide)
            have hgw := hst.out.ge
            have hwz : (wr.alloc (.cells #[.int .i64 v] 3)).heap.size = wr.heap.size + 1 := by simp
            have HWZ := Lib.hid hwz; clear hwz hst
            obtain ⟨bq, hbq⟩ : ∃ bq, bq = wr.heap.size := ⟨_, rfl⟩
            rw [← hbq] at HSL HWZ ⊢
            generalize World.alloc _ _ = w1 at *
            refine (flood_any An Ad (some ⟨bq, 0, none⟩) i cn nd cd 1 1 Bd (bq + 1) 79 80 #[.pointer (some ⟨w.heap.size + 1, 0, none⟩)] #[] ds [(v : Int)] (shutB s) (fun _ => false) w1 (HD.out.below HST1.out.bl hBd) (by have := HST1.out.bl.size; omega) HSL.out (by have := HWZ.out; omega) hnn (by decide) HE.out ?_ ?_ ?_ ?_ ?_).mono ?_
            · intro u hu; rw [List.mem_singleton.1 hu]; omega
            · intro args W; rfl
            · intro args W; rfl
            · intro W j hb hj
              refine (closed_any As n c Bs s ⟨w.heap.size + 1, 0, none⟩ j W ((HS.out.below HST1.out.bl hBs).below hb (by have := HST1.out.bl.size; omega)) ?_ (by omega)).mono ?_
              · exact (HST1.out.sx.below hb HST1.out.sx.lt).cell 0
              · rintro e W' ⟨rfl, rfl⟩; exact ⟨rfl, Below.refl _ _⟩
            · intro W u hb _ _
              refine (never_any u W).mono ?_
              rintro e W' ⟨rfl, rfl⟩; exact ⟨rfl, Below.refl _ _⟩
            · rintro e w2 ⟨Al, l, rfl, hll, hlo, hlr, hb2⟩
              have HST2 := Lib.hid (HST1.out.later hb2.out)
              have HLO : Hid (BoolsO w2 (go + 1) Al i i l) := hlo.out.mono (by have := HWZ.out; omega)
              have HLL := Lib.hid hll
              clear HST1 hb2 hlo hll HSL HWZ
              go_wp2_with fail
              go_loopg [43] i (PaR3 w #[.slice An i cn, .slice Ad nd cd] As n c go i Al l v out)
              case atStart => exact ⟨0, out, rfl, Nat.zero_le _, rfl, HST2, Upd.start _ _ _, HLO⟩
              case round =>
                clear HST2 HLO
                obtain ⟨t, out', rfl, ht, rfl, hst, hup, hlo⟩ := hrel
                by_cases hlt' : t < i; rotate_left
                · obtain rfl : t = i := by omega
                  have htt : decide (t < t) = false := by simp
                  have HPF : Hid (PInv t ds s (v + 1) out') := by
                    refine hPI.out.flood HX.out (by omega) hup.out.1 (fun y hy => ?_)
                    have hy' : y < out.length := by rw [hPI.out.1]; exact hy
                    have hq := hlr.out y hy
                    rw [hup.out.2 y hy']
                    refine ⟨fun hc => ?_, fun hc => ?_⟩
                    · rw [if_pos (And.intro hy (hq.2 hc))]
                    · rw [if_neg (fun h => hc (hq.1 h.2))]
                  go_wp2_with fail
                  go_roundg (t - (v + 1))
                  case rel => exact ⟨v + 1, out', by go_num, by omega, rfl, hst, HPF⟩
                  case measure => omega
                · obtain ⟨gl, bv, rfl, hgl, _, hbv, hcl, hfl, _⟩ := hlo.out.at hlt'
                  have HBV := Lib.hid hbv; clear hbv hfl
                  rcases bv with _ | _
                  · go_wp2_with fail
                    go_roundg (i - (t + 1))
                    case rel => exact ⟨t + 1, out', by go_num, by omega, rfl, hst, hup.out.pass HBV.out, hlo⟩
                    case measure => omega
                  · obtain ⟨x', hx', hcell, hfz⟩ := hst.out.cell hlt'
                    clear hx'
                    have HM := Lib.hid (hst.out.put hlt' v)
                    have HLO : Hid (BoolsO (wr.setCell ⟨go, t, none⟩ (.int .i64 v)) (go + 1) (some ⟨gl, 0, none⟩) i i l) := hlo.out.kept (grown_cell wr _ _) (ne_row fun b e => by have := (hlo.out.lt b e).1; simp; omega)
                    go_wp2_with fail
                    go_roundg (i - (t + 1))
                    case rel => exact ⟨t + 1, _, by go_num, by omega, rfl, HM, hup.out.put HBV.out, HLO⟩
                    case measure => omega
end Go.Proofs.YtddjifkmaogpiaaDoor
