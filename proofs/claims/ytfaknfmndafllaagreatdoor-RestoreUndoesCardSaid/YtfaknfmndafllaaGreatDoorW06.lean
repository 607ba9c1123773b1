import Derived.Test.YtfaknfmndafllaaGreatDoorW04
import Derived.Test.YtfaknfmndafllaaGreatDoorW05
import Derived.Deep.DeepCutAuto
set_option maxRecDepth 100000
set_option maxHeartbeats 8000000
namespace Go.Proofs.YtfaknfmndafllaaGreatDoor
open Go.RowKit
structure FlSt (w : World) (N : Array Value) (go nn : Nat) (out : List Bool) (Aw : Option Addr) (nw cw : Nat) (wait : List Int) (wr : World) : Prop where
 bx : Blk wr w.heap.size 30 N
 ob : BoolsO wr (w.heap.size + 1) (some ⟨go, 0, none⟩) nn nn out
 qu : Que wr (w.heap.size + 1) 3 Aw nw cw (intsV wait)
 ne : (Value.slice Aw nw cw).ownBlock = none ∨ (Value.slice Aw nw cw).ownBlock ≠ some go
 bl : Below w.heap.size w wr
section
variable {w wr wr' : World} {N : Array Value} {go nn nw cw : Nat} {out : List Bool} {Aw : Option Addr} {wait : List Int}
theorem FlSt.ge (h : FlSt w N go nn out Aw nw cw wait wr) : w.heap.size + 1 ≤ go ∧ go < wr.heap.size := h.ob.lt go rfl
theorem FlSt.later (h : FlSt w N go nn out Aw nw cw wait wr) (hb : Below wr.heap.size wr wr') : FlSt w N go nn out Aw nw cw wait wr' :=
 ⟨h.bx.below hb h.bx.lt, h.ob.later hb, h.qu.later hb, h.ne, h.bl.trans (hb.mono h.bl.size)⟩
theorem FlSt.alloc (h : FlSt w N go nn out Aw nw cw wait wr) (o : Obj) : FlSt w N go nn out Aw nw cw wait (wr.alloc o) := h.later ((Below.refl _ _).alloc (Nat.le_refl _) _)
theorem FlSt.drew (h : FlSt w N go nn out Aw nw cw wait wr) : FlSt w N go nn out Aw nw cw wait wr.drew := h.later (Below.refl _ _).drew
theorem FlSt.mark (h : FlSt w N go nn out Aw nw cw wait wr) {k : Nat} (hk : k < nn) : FlSt w N go nn (out.set k true) Aw nw cw wait (wr.setCell ⟨go, k, none⟩ (.bool true)) := by
 have hg := h.ge
 obtain ⟨g, x, hA, h1, h2, hx, hc, hf, hst⟩ := h.ob.at hk
 injection hA with hA
 injection hA with hA
 subst hA
 exact ⟨h.bx.far (by simp; omega) _, hst true, h.qu.kept (grown_cell wr _ _) h.ne, h.ne, h.bl.setCell (by simp; omega) _⟩
theorem FlSt.pop (h : FlSt w N go nn out Aw nw cw wait wr) (hk : 1 ≤ nw) : FlSt w N go nn out (cutA Aw cw 1) (nw - 1) (cw - 1) (wait.drop 1) wr :=
 ⟨h.bx, h.ob, by have := h.qu.cut hk; rw [intsV_map] at this ⊢; rw [List.map_drop]; exact this, by rw [cutA_own Aw nw cw]; exact h.ne, h.bl⟩
theorem FlSt.push (h : FlSt w N go nn out Aw nw cw wait wr) {A' : Option Addr} {c' : Nat} {v : Int} (hq : Que wr' (w.heap.size + 1) 3 A' (nw + 1) c' (intsV wait ++ [.int .i64 v])) (hg : wr.grownBy wr' (Value.slice Aw nw cw).ownBlock)
 (ha : (Value.slice A' (nw + 1) c').ownBlock = (Value.slice Aw nw cw).ownBlock ∨ (Value.slice A' (nw + 1) c').ownBlock = some wr.heap.size) : FlSt w N go nn out A' (nw + 1) c' (wait ++ [v]) wr' := by
 have hge := h.ge
 have hne : some go ≠ (Value.slice Aw nw cw).ownBlock := by
  rcases h.ne with e | e
  ·rw [e]; simp
  ·exact fun e2 => e e2.symm
 refine ⟨h.bx.grown hg (fun e => by have := (h.qu.lt _ e.symm).1; omega), h.ob.kept hg (.inr hne), ?_, ?_, h.bl.trans ⟨hg.os, hg.tape, hg.output, hg.size, fun i hi => hg.block i (by have := h.bl.size; omega) (fun e => by have := (h.qu.lt _ e.symm).1; omega)⟩⟩
 ·rw [intsV_append]; exact hq
 ·rcases ha with e | e
  ·rw [e]; exact h.ne
  ·rw [e]; exact .inr (fun e2 => by injection e2 with e2; omega)
end
def FloodPost (w : World) (nn : Nat) (R : Int → Prop) (e : Ending) (w' : World) : Prop :=
 ∃ (A : Option Addr) (l : List Bool), e = .returned (.slice A nn nn) ∧ l.length = nn ∧ Hid (BoolsO w' (w.heap.size + 1) A nn nn l) ∧ Hid (∀ v : Nat, v < nn → (l[v]? = some true ↔ R v)) ∧ Hid (Below w.heap.size w w')
def FlR1 (w : World) (N : Array Value) (go nn : Nat) (Aw : Option Addr) (nw cw : Nat) (src : List Int) (gk : Nat) (iv : Value) (wr : World) : Prop :=
 ∃ (i : Nat) (out : List Bool), iv = .int .i64 i ∧ i ≤ src.length ∧ gk = src.length - i ∧ Hid (FlSt w N go nn out Aw nw cw src wr) ∧ Hid (∀ v, marked out v ↔ v ∈ src.take i)
def FlR2 (w : World) (N : Array Value) (go nn : Nat) (ds : List Dv) (U : Nat → Bool) (S : Int → Bool) (src : List Int) (gk : Nat) (qv : Value) (wr : World) : Prop :=
 ∃ (Aw : Option Addr) (nw cw : Nat) (wait : List Int) (out : List Bool), qv = .slice Aw nw cw ∧ gk = countF out + nw ∧ nw + countF out ≤ nn + src.length ∧ Hid (FlSt w N go nn out Aw nw cw wait wr) ∧ Hid (BInv ds U S src out wait)
def FlR3 (w : World) (N : Array Value) (go nn nd : Nat) (ds : List Dv) (U : Nat → Bool) (S : Int → Bool) (src : List Int) (v : Int) (M gk : Nat) (qv jv : Value) (wr : World) : Prop :=
 ∃ (Aw : Option Addr) (nw cw : Nat) (wait : List Int) (out : List Bool) (j : Nat), qv = .slice Aw nw cw ∧ jv = .int .i64 j ∧ j ≤ nd ∧ gk = nd - j ∧ countF out + nw = M ∧ 0 < nw ∧ Hid (FlSt w N go nn out Aw nw cw wait wr) ∧ Hid (IInv ds U S src v j out wait)
theorem FlSt.wlen {w wr : World} {N : Array Value} {go nn nw cw : Nat} {out : List Bool} {Aw : Option Addr} {wait : List Int} (h : FlSt w N go nn out Aw nw cw wait wr) : wait.length = nw := by have := h.qu.1; rwa [intsV_len] at this
theorem FlSt.first {w wr : World} {N : Array Value} {go nn nw cw : Nat} {out : List Bool} {Aw : Option Addr} {wait : List Int} (h : FlSt w N go nn out Aw nw cw wait wr) (hw : 1 ≤ nw) : ∃ g off v r, wait = v :: r ∧ Aw = some ⟨g, off, none⟩ ∧ wr.cell? ⟨g, off, none⟩ = some (.int .i64 v) := by
 obtain ⟨g, off, u, rfl, hu, hc⟩ := h.qu.at (k := 0) hw
 have hl := h.wlen
 cases wait with
 | nil => simp at hl; omega
 | cons v r =>
  rw [intsV_map] at hu
  simp at hu
  subst hu
  exact ⟨g, off, v, r, rfl, rfl, hc⟩
theorem flood_any (An Ad Af : Option Addr) (nn cn nd cd nf cf Bd Bf fu fs : Nat) (capU capS : Array Value) (ds : List Dv) (src : List Int) (U : Nat → Bool) (S : Int → Bool) (w : World)
 (hd : Sl w Bd 5 Ad nd cd (ds.flatMap Dv.cells)) (hBd : Bd ≤ w.heap.size) (hf : Sl w Bf 1 Af nf cf (intsV src)) (hBf : Bf ≤ w.heap.size) (hnn : nn ≤ 10000) (hnf : nf ≤ 10000) (hends : EndsOk nn ds) (hsrc : ∀ v ∈ src, 0 ≤ v ∧ v < nn)
 (heU : ∀ (args : Array Value) (W : World), (callFunc fu args).run Tryz.prog W = .ok (.enter fu args) W) (heS : ∀ (args : Array Value) (W : World), (callFunc fs args).run Tryz.prog W = .ok (.enter fs args) W)
 (hU : ∀ (W : World) (i : Nat), Below w.heap.size w W → i < nd → Calls Tryz.prog fu (#[.int .i64 i] ++ capU) W fun e W' => e = .returned (.bool (U i)) ∧ Below W.heap.size W W')
 (hS : ∀ (W : World) (v : Int), Below w.heap.size w W → 0 ≤ v → v < nn → Calls Tryz.prog fs (#[.int .i64 v] ++ capS) W fun e W' => e = .returned (.bool (S v)) ∧ Below W.heap.size W W') :
 Calls Tryz.prog 175 #[.agg #[.slice An nn cn, .slice Ad nd cd], .slice Af nf cf, .func (.func fu) #[] capU, .func (.func fs) #[] capS] w (FloodPost w nn (Rch ds U S src)) := by
 have HLF := Lib.hid (hf.len (fun _ => rfl) (by decide)); have HLD := Lib.hid (hd.len (fun _ => rfl) (by decide))
 have hdm := hd.le
 have hfm := hf.le
 have HD := Lib.hid hd; have HF := Lib.hid hf; have HU := Lib.hid hU; have HS := Lib.hid hS; have HE := Lib.hid hends; have HSR := Lib.hid hsrc
 clear hd hf hU hS hends hsrc
 have hmk := run_mk_bool nn (by omega) (w.alloc (.cells #[.slice An nn cn, .slice Ad nd cd] 30))
 have hsz1 : (w.alloc (.cells #[.slice An nn cn, .slice Ad nd cd] 30)).heap.size = w.heap.size + 1 := by simp
 have HO1 := Lib.hid (bools_new (w := w.alloc (.cells #[.slice An nn cn, .slice Ad nd cd] 30)) (base := w.heap.size + 1) (n := nn) (by simp) (by omega))
 rw [hsz1] at hmk HO1
 have HK1 := Lib.hid ((Blk.new w 30 #[.slice An nn cn, .slice Ad nd cd]).alloc (.cells (boolsV (List.replicate nn false)).toArray 4))
 have HB1 : Hid (Below w.heap.size w ((w.alloc (.cells #[.slice An nn cn, .slice Ad nd cd] 30)).alloc (.cells (boolsV (List.replicate nn false)).toArray 4))) := ((Below.refl _ _).alloc (Nat.le_refl _) _).alloc (by simp) _
 have HZ1 : Hid (((w.alloc (.cells #[.slice An nn cn, .slice Ad nd cd] 30)).alloc (.cells (boolsV (List.replicate nn false)).toArray 4)).heap.size = w.heap.size + 2) := by unfold Hid; simp
 clear hsz1
 go_enter Tryz.func175, Tryz.ntmps175
 go_wp2_with fail
 clear hmk
 generalize World.alloc (World.alloc _ _) _ = W at *
 refine (clone_any Af nf cf Bf src W (HF.out.below HB1.out hBf) (by have := HZ1.out; omega) (by omega)).mono ?_
 rintro e w1 ⟨Aw, cw, rfl, hO, hb⟩
 rw [HLF.out]
 have HST : Hid (FlSt w #[.slice An nn cn, .slice Ad nd cd] (w.heap.size + 1) nn (List.replicate nn false) Aw nf cw src w1) := by
  have hO' := hO.out
  have hz := HZ1.out
  rw [HLF.out] at hO'
  refine ⟨HK1.out.below hb.out HK1.out.lt, HO1.out.later hb.out, (Que.of_own hO').1 |> fun _ => Que.of_own (hO'.mono (by omega)), ne_row (fun b e => by have := (hO'.lt b e).1; omega), HB1.out.trans (hb.out.mono (by omega))⟩
 clear hO hb HO1 HK1 HB1 HZ1
 obtain ⟨go, hgo⟩ : ∃ go, go = w.heap.size + 1 := ⟨_, rfl⟩
 rw [← hgo] at HST ⊢
 have hgo1 : w.heap.size + 1 ≤ go := by omega
 clear hgo
 go_wp2_with fail
 go_loopg [24] src.length (FlR1 w #[.slice An nn cn, .slice Ad nd cd] go nn Aw nf cw src)
 case atStart => exact ⟨0, _, rfl, Nat.zero_le _, rfl, HST, fun v => by simp [marked_rep]⟩
 case round =>
  clear HST w1
  obtain ⟨i, out, rfl, hi, rfl, hst, hmk⟩ := hrel
  rw [HLF.out] at hi
  by_cases hlt : i < nf
  ·obtain ⟨b, off, v, rfl, hb, hx, hc⟩ := (HF.out.below hst.out.bl hBf).at1 hlt
   have hv := HSR.out v (List.mem_of_getElem? hx)
   obtain ⟨k, rfl⟩ := Int.eq_ofNat_of_zero_le hv.1
   have HX := Lib.hid hx; clear hx
   have hkn : k < nn := by omega
   obtain ⟨g, x, hA, _, _, _, hcell, hfz, _⟩ := hst.out.ob.at hkn
   injection hA with hA
   injection hA with hA
   subst hA
   have HM := Lib.hid (hst.out.mark hkn)
   have HOL := Lib.hid hst.out.ob.len
   go_wp2_with fail
   go_roundg (src.length - (i + 1))
   case rel =>
    refine ⟨i + 1, out.set k true, by go_num, by rw [HLF.out]; omega, rfl, HM, fun u => ?_⟩
    rw [marked_set (by rw [HOL.out]; exact hkn), hmk.out u, take_snoc HX.out, List.mem_append, List.mem_singleton]
    exact Or.comm
   case measure => rw [HLF.out]; omega
  ·obtain rfl : i = nf := by omega
   have hii : decide (i < i) = false := by simp
   have HBI : Hid (BInv ds U S src out src) := BInv.start (fun v => by rw [hmk.out v, List.take_of_length_le (by rw [HLF.out]; exact Nat.le_refl _)])
   have hcl : countF out ≤ nn := by rw [← hst.out.ob.len]; exact List.length_filter_le _ _
   clear hmk
   go_wp2_with fail
   go_loopg [10] (countF out + i) (FlR2 w #[.slice An nn cn, .slice Ad nd cd] go nn ds U S src)
   case atStart => exact ⟨Aw, i, cw, src, out, rfl, rfl, by rw [HLF.out]; omega, hst, HBI⟩
   case round =>
    clear HBI hst hcl hii
    obtain ⟨Aw, nw, cw, wait, out, rfl, rfl, hM, hst, hBI⟩ := hrel
    rw [HLF.out] at hM
    have hqm := hst.out.qu.le
    by_cases hw : 0 < nw; rotate_left
    ·obtain rfl : nw = 0 := by omega
     have hw0 : wait = [] := List.eq_nil_of_length_eq_zero hst.out.wlen
     subst hw0
     go_wp2_with fail
     go_ret
     have hfin := hBI.out.final
     exact ⟨_, out, rfl, hst.out.ob.len, hst.out.ob, fun v hv => by rw [← hfin]; simp [marked], hst.out.bl⟩
    ·obtain ⟨g, off, v, r, rfl, rfl, hc0⟩ := hst.out.first hw
     have hvm := hBI.out.waits v List.mem_cons_self
     have hvn : 0 ≤ v ∧ v < nn := ⟨hvm.1, by have := (List.getElem?_eq_some_iff.1 hvm.2).1; rw [hst.out.ob.len] at this; omega⟩
     go_wp2_with fail
     refine (HS.out wr v hst.out.bl hvn.1 hvn.2).mono ?_
     rintro e w1 ⟨rfl, hb1⟩
     have HST1 := Lib.hid (hst.out.later hb1)
     clear hb1 hc0 hst
     rcases hSv : S v with _ | _; rotate_left
     ·have hcut : ∀ W, (Instr.sliceAt 22 (.slice (some ⟨g, off, none⟩) nw cw) (some (.int .i64 1)) none none).run Tryz.prog W = .ok (.slice (cutA (some ⟨g, off, none⟩) cw 1) (nw - 1) (cw - 1)) W := fun W => run_from_int W _ _ _ 1 hw
      have HP := Lib.hid (HST1.out.pop hw)
      have HBS := Lib.hid (hBI.out.stop hSv)
      clear hSv
      go_wp2_with fail
      go_roundg (countF out + (nw - 1))
      case rel => exact ⟨_, nw - 1, cw - 1, r, out, rfl, rfl, by rw [HLF.out]; omega, HP, HBS⟩
      case measure => omega
     ·have HSV := Lib.hid hSv; clear hSv
      have k1 := HST1.out.bx.c1
      have HII := Lib.hid (hBI.out.enter (v := v) rfl)
      clear hBI hvm
      go_wp2_with fail
      clear k1
      go_loopg [10, 45] nd (FlR3 w #[.slice An nn cn, .slice Ad nd cd] go nn nd ds U S src v (countF out + nw))
      case atStart => exact ⟨_, nw, cw, v :: r, out, 0, rfl, rfl, Nat.zero_le _, rfl, rfl, hw, HST1, HII⟩
      case round =>
       obtain ⟨M, hMM⟩ : ∃ M, M = countF out + nw := ⟨_, rfl⟩
       rw [← hMM] at hrel
       have hMb : M ≤ nn + i := by omega
       have HMO := Lib.hid hMM
       clear HST1 HII hw hM hqm hMM
       obtain ⟨Aw, nw, cw, wait, out, j, rfl, rfl, hj, rfl, hMM, hw, hst, hII⟩ := hrel
       have hqm := hst.out.qu.le
       obtain ⟨g, off, v', r, rfl, rfl, hc0⟩ := hst.out.first hw
       obtain rfl : v = v' := by have := hII.out.head; simp at this; exact this.symm
       by_cases hlj : j < nd
       ·obtain ⟨b, doff, x, rfl, hb, hx, hc⟩ := (HD.out.below hst.out.bl hBd).at (fun _ => rfl) (by decide) hlj
        have HX := Lib.hid hx
        obtain ⟨nm, kd, xa, xb, co⟩ := x
        have c0 : wr.cell? ⟨b, doff + j * 5, none⟩ = some (.string nm) := hc 0 _ rfl
        have c1 : wr.cell? ⟨b, doff + j * 5 + 1, none⟩ = some (.int .i64 kd) := hc 1 _ rfl
        have c2 : wr.cell? ⟨b, doff + j * 5 + 2, none⟩ = some (.int .i64 xa) := hc 2 _ rfl
        have c3 : wr.cell? ⟨b, doff + j * 5 + 3, none⟩ = some (.int .i64 xb) := hc 3 _ rfl
        have c4 : wr.cell? ⟨b, doff + j * 5 + 4, none⟩ = some (.int .i64 co) := hc 4 _ rfl
        clear hc hx
        go_upto_region 14 with (fail)
        clear c0 c1 c2 c3 c4 hc0
        have HK := Lib.hid (Blk.new wr 68 #[.string nm, .int .i64 kd, .int .i64 xa, .int .i64 xb, .int .i64 co])
        have HST2 := Lib.hid (hst.out.alloc (.cells #[.string nm, .int .i64 kd, .int .i64 xa, .int .i64 xb, .int .i64 co] 68))
        generalize World.alloc _ _ = w2 at *
        obtain ⟨bq, hbq⟩ : ∃ bq, bq = wr.heap.size := ⟨_, rfl⟩
        rw [← hbq] at HK ⊢
        have hc0 : w2.cell? ⟨g, off, none⟩ = some (.int .i64 v) := by
         obtain ⟨g', off', v'', r'', e1, e2, e3⟩ := HST2.out.first hw
         injection e1 with e1; injection e2 with e2; injection e2 with e2 e4
         subst e1 e2 e4
         exact e3
        clear hbq hst
        refine wp_region_J (S := fun W' => W'.cell? ⟨bq, 0, none⟩ = some (.string nm) ∧ W'.cell? ⟨bq, 1, none⟩ = some (.int .i64 kd) ∧ W'.cell? ⟨bq, 2, none⟩ = some (.int .i64 xa) ∧ W'.cell? ⟨bq, 3, none⟩ = some (.int .i64 xb) ∧ W'.cell? ⟨bq, 4, none⟩ = some (.int .i64 co) ∧ W'.cell? ⟨g, off, none⟩ = some (.int .i64 v)) (J := [4, 5]) (by kernel_rfl) ?_ (fun hHeld => ?_)
        ·exact ⟨HK.out.cell 0, HK.out.cell 1, HK.out.cell 2, HK.out.cell 3, HK.out.cell 4, hc0⟩
        try dsimp only at hHeld
        refine wpAnyJ_take (i := 0) (d := some 50) (v := ?_) rfl rfl (by kernel_rfl) (by kernel_rfl) (by kernel_rfl) (by kernel_rfl) (by kernel_rfl) (fun _ _ _ h => h) (Or.inl ⟨by rfl, ?_⟩) hHeld ?_
        rotate_left
        ·(intro w hSw; (try dsimp only at hSw);  go_simp; try with_reducible rfl)
        try simp only [Act.put, sA, sB, sC]
        refine wpAnyJ_take (i := 1) (d := some 51) (v := ?_) rfl rfl (by kernel_rfl) (by kernel_rfl) (by kernel_rfl) (by kernel_rfl) (by kernel_rfl) (fun _ _ _ h => h) (Or.inl ⟨by rfl, ?_⟩) hHeld ?_
        rotate_left
        ·(intro w hSw; (try dsimp only at hSw);  go_simp; try with_reducible rfl)
        try simp only [Act.put, sA, sB, sC]
        refine wpAnyJ_take (i := 2) (d := some 52) (v := ?_) rfl rfl (by kernel_rfl) (by kernel_rfl) (by kernel_rfl) (by kernel_rfl) (by kernel_rfl) (fun _ _ _ h => h) (Or.inl ⟨by rfl, ?_⟩) hHeld ?_
        rotate_left
        ·(intro w hSw; (try dsimp only at hSw);  go_simp; try with_reducible rfl)
        try simp only [Act.put, sA, sB, sC]
        refine wpAnyJ_take (i := 3) (d := some 53) (v := ?_) rfl rfl (by kernel_rfl) (by kernel_rfl) (by kernel_rfl) (by kernel_rfl) (by kernel_rfl) (fun _ _ _ h => h) (Or.inl ⟨by rfl, ?_⟩) hHeld ?_
        rotate_left
        ·(intro w hSw; (try dsimp only at hSw);  go_simp; try with_reducible rfl)
        try simp only [Act.put, sA, sB, sC]
        refine wpAnyJ_one (k := 4) (by kernel_rfl) rfl (fun K hK => ?_)
        (go_simp; refine (across_any nm kd xa xb co v _).mono ?_; rintro e w3 ⟨rfl, hb3⟩; go_simp)
        refine hK.out _ _ (fun h => by cases h) (fun _ => ?_)
        try clear hHeld
        clear hK K
        try simp only [Act.put, sA, sB, sC]
        refine wpAnyJ_one (k := 5) (by kernel_rfl) rfl (fun K hK => ?_)
        go_simp
        refine hK.out _ _ (fun h => by cases h) (fun _ => ?_)
        try clear hHeld
        clear hK K
        try simp only [Act.put, sA, sB, sC]
        refine wpAnyJ_done (by kernel_rfl) ?_ _
        have HST3 := Lib.hid (HST2.out.drew.later hb3)
        have HAL := Lib.hid (acr_lt HE.out HX.out v)
        clear hb3 HST2 HK hc0
        obtain ⟨y, hy⟩ : ∃ y, acrB ⟨nm, kd, xa, xb, co⟩ v = y := ⟨_, rfl⟩
        rw [hy] at HAL ⊢
        have HY := Lib.hid hy; clear hy
        by_cases h0 : 0 ≤ y; rotate_left
        ·have q0 : decide (0 ≤ y) = false := by simpa using h0
         go_wp2_with fail
         go_roundg (nd - (j + 1))
         case rel => exact ⟨_, nw, cw, _, out, j + 1, rfl, by go_num, by omega, rfl, hMM.trans HMO.out, hw, HST3, hII.out.pass HX.out (fun _ h => absurd h (by rw [HY.out]; omega))⟩
         case measure => omega
        ·obtain ⟨k, rfl⟩ := Int.eq_ofNat_of_zero_le h0
         have hkn : k < nn := by have := HAL.out h0; omega
         obtain ⟨g2, bv, hA, _, _, hbv, hcell, hfz, _⟩ := HST3.out.ob.at hkn
         injection hA with hA
         injection hA with hA
         subst hA
         have HBV := Lib.hid hbv; clear hbv
         rcases bv with _ | _; rotate_left
         ·go_wp2_with fail
          go_roundg (nd - (j + 1))
          case rel => exact ⟨_, nw, cw, _, out, j + 1, rfl, by go_num, by omega, rfl, hMM.trans HMO.out, hw, HST3, hII.out.pass HX.out (fun _ _ => by rw [HY.out]; exact ⟨h0, HBV.out⟩)⟩
          case measure => omega
         ·go_wp2_with fail
          refine (HU.out w3 j HST3.out.bl hlj).mono ?_
          rintro e w4 ⟨rfl, hb4⟩
          have HST4 := Lib.hid (HST3.out.later hb4)
          clear hb4 hcell hfz HST3
          rcases hUj : U j with _ | _
          ·have HUJ := Lib.hid hUj; clear hUj
           go_wp2_with fail
           go_roundg (nd - (j + 1))
           case rel => exact ⟨_, nw, cw, _, out, j + 1, rfl, by go_num, by omega, rfl, hMM.trans HMO.out, hw, HST4, hII.out.pass HX.out (fun h => by rw [HUJ.out] at h; cases h)⟩
           case measure => omega
          ·have HUJ := Lib.hid hUj; clear hUj
           obtain ⟨g2, bv, hA, _, _, hbv, hcell, hfz, _⟩ := HST4.out.ob.at hkn
           injection hA with hA
           injection hA with hA
           subst hA
           clear hbv
           have HM := Lib.hid (HST4.out.mark hkn)
           have HOL := Lib.hid HST4.out.ob.len
           have hCF := countF_set HBV.out
           have hz := HM.out.ge
           simp only [World.size_setCell] at hz
           have HU0 : Hid (((w4.setCell ⟨go, k, none⟩ (.bool true)).alloc (.cells #[.int .i64 k] 3)).cell? ⟨w4.heap.size, 0, none⟩ = some (.int .i64 k)) := by
            have := (Blk.new (w4.setCell ⟨go, k, none⟩ (.bool true)) 3 #[.int .i64 k]).cell 0
            rwa [World.size_setCell] at this
           go_wp2_with (at_builtin; go_must (refine wpList_appQ rfl (.tmp 72) (.tmp 74) rfl el_int (by rfl) (HM.out.qu.alloc _) (by simp; omega) (by rfl) (u := .int .i64 k) HU0.out rfl (by omega) (by omega) ?_; intro A' c' w6 hq6 hg6 ha6; have HP := Lib.hid ((HM.out.alloc _).push hq6 hg6 ha6); clear hq6 hg6 ha6))
           go_roundg (nd - (j + 1))
           case rel => exact ⟨A', nw + 1, c', _, _, j + 1, rfl, by go_num, by omega, rfl, by have := HMO.out; omega, by omega, HP, hII.out.push HX.out HY.out (by rw [HOL.out]; exact hkn) HUJ.out HSV.out⟩
           case measure => omega
       ·obtain rfl : j = nd := by omega
        have hjj : decide (j < j) = false := by simp
        have hcut : ∀ W, (Instr.sliceAt 22 (.slice (some ⟨g, off, none⟩) nw cw) (some (.int .i64 1)) none none).run Tryz.prog W = .ok (.slice (cutA (some ⟨g, off, none⟩) cw 1) (nw - 1) (cw - 1)) W := fun W => run_from_int W _ _ _ 1 hw
        have HP := Lib.hid (hst.out.pop hw)
        have HL := Lib.hid (hII.out.leave (by rw [HLD.out]; exact Nat.le_refl _))
        clear hst hII hc0
        go_wp2_with fail
        go_roundg (countF out + (nw - 1))
        case rel => exact ⟨_, nw - 1, cw - 1, r, out, rfl, rfl, by rw [HLF.out]; omega, HP, HL⟩
        case measure => have := HMO.out; omega
end Go.Proofs.YtfaknfmndafllaaGreatDoor
