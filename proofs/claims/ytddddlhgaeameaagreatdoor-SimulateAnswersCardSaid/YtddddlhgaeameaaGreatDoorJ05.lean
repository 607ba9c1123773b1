import Derived.Test.YtddddlhgaeameaaGreatDoorJ03
import Derived.Deep.DeepCutAuto
import Derived.Test.YtddddlhgaeameaaGreatDoorJ04
set_option maxRecDepth 100000
set_option maxHeartbeats 8000000
namespace Go.Proofs.YtddddlhgaeameaaGreatDoor
open Go.RowKit Tryz
structure xq (w : World) (N : Array Value) (go nn : Nat) (out : List Bool) (Aw : Option Addr) (nw cw : Nat) (wait : List Int) (wr : World) : Prop where
 bx : AJ wr w.heap.size 26 N
 ob : xU wr (w.heap.size + 1) (some ⟨go, 0, none⟩) nn nn out
 qu : Fe wr (w.heap.size + 1) 3 Aw nw cw (zF wait)
 ne : (Value.slice Aw nw cw).ownBlock = none ∨ (Value.slice Aw nw cw).ownBlock ≠ some go
 bl : bW w wr
section
variable {w wr wr' : World} {N : Array Value} {go nn nw cw : Nat} {out : List Bool} {Aw : Option Addr} {wait : List Int}
theorem xq.ge (h : xq w N go nn out Aw nw cw wait wr) : w.heap.size + 1 ≤ go ∧ go < wr.heap.size := h.ob.lt go rfl
theorem xq.later (h : xq w N go nn out Aw nw cw wait wr) (hb : bW wr wr') : xq w N go nn out Aw nw cw wait wr' :=
 ⟨h.bx.below hb h.bx.lt, h.ob.later hb, h.qu.later hb, h.ne, h.bl.trans (hb.mono h.bl.size)⟩
theorem xq.alloc (h : xq w N go nn out Aw nw cw wait wr) (o : Obj) : xq w N go nn out Aw nw cw wait (wr.alloc o) := h.later ((Below.refl _ _).alloc lR _)
theorem xq.drew (h : xq w N go nn out Aw nw cw wait wr) : xq w N go nn out Aw nw cw wait wr.drew := h.later (Below.refl _ _).drew
theorem xq.mark (h : xq w N go nn out Aw nw cw wait wr) {k : Nat} (hk : k < nn) : xq w N go nn (out.set k true) Aw nw cw wait (wr.setCell ⟨go, k, none⟩ (.bool true)) := by
 have hg := h.ge;obtain ⟨g, x, hA, h1, h2, hx, hc, hf, hst⟩ := h.ob.at hk;injection hA with hA;injection hA with hA;subst hA;exact ⟨h.bx.far (by simp; omega) _, hst true, h.qu.kept (zo wr _ _) h.ne, h.ne, h.bl.setCell (by simp; omega) _⟩
theorem xq.pop (h : xq w N go nn out Aw nw cw wait wr) (hk : 1 ≤ nw) : xq w N go nn out (sY Aw cw 1) (nw - 1) (cw - 1) (wait.drop 1) wr :=
 ⟨h.bx, h.ob, by have := h.qu.cut hk; rw [yS] at this ⊢; rw [List.map_drop]; exact this, by rw [nG Aw nw cw]; exact h.ne, h.bl⟩
theorem xq.push (h : xq w N go nn out Aw nw cw wait wr) {A' : Option Addr} {c' : Nat} {v : Int} (hq : Fe wr' (w.heap.size + 1) 3 A' (nw + 1) c' (zF wait ++ [.int .i64 v])) (hg : wr.grownBy wr' (Value.slice Aw nw cw).ownBlock)
 (ha : (Value.slice A' (nw + 1) c').ownBlock = (Value.slice Aw nw cw).ownBlock ∨ (Value.slice A' (nw + 1) c').ownBlock = some wr.heap.size) : xq w N go nn out A' (nw + 1) c' (wait ++ [v]) wr' := by
 have Sb := h.ge
 have hne : some go ≠ (Value.slice Aw nw cw).ownBlock := by
  rcases h.ne with e | e
  ·rw [e]; simp
  ·exact fun e2 => e e2.symm
 refine ⟨h.bx.grown hg (fun e => by have := (h.qu.lt _ e.symm).1; omega), h.ob.kept hg (.inr hne), ?_, ?_, h.bl.trans ⟨hg.os, hg.tape, hg.output, hg.size, fun i hi => hg.block i (by have := h.bl.size; omega) (fun e => by have := (h.qu.lt _ e.symm).1; omega)⟩⟩
 ·rw [yL]; exact hq
 ·rcases ha with e | e
  ·rw [e]; exact h.ne
  ·rw [e]; exact .inr (fun e2 => by injection e2 with e2; omega)
end
def kO (w : World) (nn : Nat) (R : Int → Prop) (e : Ending) (w' : World) : Prop :=
 ∃ (A : Option Addr) (l : List Bool), e = .returned (.slice A nn nn) ∧ l.length = nn ∧ Hid (xU w' (w.heap.size + 1) A nn nn l) ∧ Hid (∀ v : Nat, v < nn → (l[v]? = some true ↔ R v)) ∧ Hid (Below w.heap.size w w')
def fR (w : World) (N : Array Value) (go nn : Nat) (Aw : Option Addr) (nw cw : Nat) (src : List Int) (gk : Nat) (iv : Value) (wr : World) : Prop :=
 ∃ (i : Nat) (out : List Bool), iv = .int .i64 i ∧ i ≤ src.length ∧ gk = src.length - i ∧ Hid (xq w N go nn out Aw nw cw src wr) ∧ Hid (∀ v, yk out v ↔ v ∈ src.take i)
def fQ (w : World) (N : Array Value) (go nn : Nat) (ds : List Dv) (U : Nat → Bool) (S : Int → Bool) (src : List Int) (gk : Nat) (qv : Value) (wr : World) : Prop :=
 ∃ (Aw : Option Addr) (nw cw : Nat) (wait : List Int) (out : List Bool), qv = .slice Aw nw cw ∧ gk = wD out + nw ∧ nw + wD out ≤ nn + src.length ∧ Hid (xq w N go nn out Aw nw cw wait wr) ∧ Hid (sH ds U S src out wait)
def fP (w : World) (N : Array Value) (go nn nd : Nat) (ds : List Dv) (U : Nat → Bool) (S : Int → Bool) (src : List Int) (v : Int) (M gk : Nat) (qv jv : Value) (wr : World) : Prop :=
 ∃ (Aw : Option Addr) (nw cw : Nat) (wait : List Int) (out : List Bool) (j : Nat), qv = .slice Aw nw cw ∧ jv = .int .i64 j ∧ j ≤ nd ∧ gk = nd - j ∧ wD out + nw = M ∧ 0 < nw ∧ Hid (xq w N go nn out Aw nw cw wait wr) ∧ Hid (qA ds U S src v j out wait)
theorem xq.wlen {w wr : World} {N : Array Value} {go nn nw cw : Nat} {out : List Bool} {Aw : Option Addr} {wait : List Int} (h : xq w N go nn out Aw nw cw wait wr) : wait.length = nw := by have := h.qu.1; rwa [vP] at this
theorem xq.first {w wr : World} {N : Array Value} {go nn nw cw : Nat} {out : List Bool} {Aw : Option Addr} {wait : List Int} (h : xq w N go nn out Aw nw cw wait wr) (hw : 1 ≤ nw) : ∃ g off v r, wait = v :: r ∧ Aw = some ⟨g, off, none⟩ ∧ wr.cell? ⟨g, off, none⟩ = some (.int .i64 v) := by
 obtain ⟨g, off, u, rfl, hu, hc⟩ := h.qu.at (k := 0) hw;have hl := h.wlen;cases wait with
 | nil => simp at hl; omega
 | cons v r =>
  rw [yS] at hu;simp at hu;subst hu;exact ⟨g, off, v, r, rfl, rfl, hc⟩
theorem lx (An Ad Af : Option Addr) (nn cn nd cd nf cf Bd Bf fu fs : Nat) (WZ Wd : Array Value) (ds : List Dv) (src : List Int) (U : Nat → Bool) (S : Int → Bool) (w : World)
 (hd : Sl w Bd 5 Ad nd cd (ds.flatMap Dv.cells)) (BN : Bd ≤ w.heap.size) (hf : Sl w Bf 1 Af nf cf (zF src)) (AU : Bf ≤ w.heap.size) (Bq : nn ≤ 10000) (Ag : nf ≤ 10000) (Ae : xA nn ds) (Dq : ∀ v ∈ src, 0 ≤ v ∧ v < nn)
 (Ai : ∀ (args : Array Value) (W : World), (callFunc fu args).run prog W = .ok (.enter fu args) W) (Aj : ∀ (args : Array Value) (W : World), (callFunc fs args).run prog W = .ok (.enter fs args) W)
 (hU : ∀ (W : World) (i : Nat), bW w W → i < nd → Calls prog fu (#[.int .i64 i] ++ WZ) W fun e W' => e = .returned (.bool (U i)) ∧ bW W W')
 (hS : ∀ (W : World) (v : Int), bW w W → 0 ≤ v → v < nn → Calls prog fs (#[.int .i64 v] ++ Wd) W fun e W' => e = .returned (.bool (S v)) ∧ bW W W') :
 Calls prog 117 #[.agg #[.slice An nn cn, .slice Ad nd cd], .slice Af nf cf, .func (.func fu) #[] WZ, .func (.func fs) #[] Wd] w (kO w nn (RN ds U S src)) := by
 have NL := iD (hf.len (fun _ => rfl) (by decide)); have Fx := iD (hd.len (fun _ => rfl) (by decide));have MO := hd.le;have Ah := hf.le;have HD := iD hd; have HF := iD hf; have HU := iD hU; have HS := iD hS; have HE := iD Ae; have Ab := iD Dq;clear hd hf hU hS Ae Dq;have Kn := oG nn (by omega) (w.alloc (.cells #[.slice An nn cn, .slice Ad nd cd] 26));have MK : (w.alloc (.cells #[.slice An nn cn, .slice Ad nd cd] 26)).heap.size = w.heap.size + 1 := by simp
 have CE := iD (kE (w := w.alloc (.cells #[.slice An nn cn, .slice Ad nd cd] 26)) (base := w.heap.size + 1) (n := nn) (by simp) (by omega));rw [MK] at Kn CE;have DV := iD ((AJ.new w 26 #[.slice An nn cn, .slice Ad nd cd]).alloc (.cells (wE (List.replicate nn false)).toArray 4));have AL : Hid (Below w.heap.size w ((w.alloc (.cells #[.slice An nn cn, .slice Ad nd cd] 26)).alloc (.cells (wE (List.replicate nn false)).toArray 4))) := ((Below.refl _ _).alloc lR _).alloc (by simp) _;have AH : Hid (((w.alloc (.cells #[.slice An nn cn, .slice Ad nd cd] 26)).alloc (.cells (wE (List.replicate nn false)).toArray 4)).heap.size = w.heap.size + 2) := by unfold Hid; simp
 clear MK
 go_enter func117, ntmps117
 go_wp2_with fail
 clear Kn;generalize World.alloc (World.alloc _ _) _ = W at *;refine (xO Af nf cf Bf src W (HF.below AL AU) (by have := AH.out; omega) (by omega)).mono ?_;rintro e w1 ⟨Aw, cw, rfl, hO, hb⟩;rw [NL.out]
 have Ar : Hid (xq w #[.slice An nn cn, .slice Ad nd cd] (w.heap.size + 1) nn (List.replicate nn false) Aw nf cw src w1) := by
  have hO' := hO.out;have hz := AH.out;rw [NL.out] at hO';refine ⟨DV.below hb DV.lt, CE.later hb, (Fe.of_own hO').1 |> fun _ => Fe.of_own (hO'.mono (by omega)), zj (fun b e => by have := (hO'.lt b e).1; omega), AL.trans (hb.mono (by omega))⟩
 clear hO hb CE DV AL AH;obtain ⟨go, hgo⟩ := eX (w.heap.size + 1);rw [← hgo] at Ar ⊢;have AZ : w.heap.size + 1 ≤ go := by omega
 clear hgo
 go_wp2_with fail
 go_loopg [24] src.length (fR w #[.slice An nn cn, .slice Ad nd cd] go nn Aw nf cw src)
 case atStart => exact ⟨0, _, rfl, Nat.zero_le _, rfl, Ar, fun v => by simp [mF]⟩
 case round =>
  clear Ar w1;obtain ⟨i, out, rfl, hi, rfl, hst, Kn⟩ := hrel;rw [NL.out] at hi;by_cases hlt : i < nf
  ·obtain ⟨b, off, v, rfl, hb, hx, hc⟩ := (HF.below hst.bl AU).at1 hlt;have hv := Ab v (List.mem_of_getElem? hx);obtain ⟨k, rfl⟩ := Int.eq_ofNat_of_zero_le hv.1;have HX := iD hx; clear hx;have IM : k < nn := by omega
   obtain ⟨g, x, hA, _, _, _, hcell, AE, _⟩ := hst.ob.at IM;injection hA with hA;injection hA with hA;subst hA;have HM := iD (hst.mark IM);have KU := iD hst.ob.len
   go_wp2_with fail
   go_roundg (src.length - (i + 1))
   case rel =>
    refine ⟨i + 1, out.set k true, by go_num, by rw [NL.out]; omega, rfl, HM, fun u => ?_⟩;rw [rO (by rw [KU.out]; exact IM), Kn.out u, zO HX.out, List.mem_append, List.mem_singleton];exact Or.comm
   case measure => rw [NL.out]; omega
  ·obtain rfl : i = nf := by omega
   have Ck : decide (i < i) = false := by simp
   have AW : Hid (sH ds U S src out src) := sH.start (fun v => by rw [Kn.out v, List.take_of_length_le (by rw [NL.out]; exact Nat.le_refl _)]);have Jl : wD out ≤ nn := by rw [← hst.ob.len]; exact List.length_filter_le _ _
   clear Kn
   go_wp2_with fail
   go_loopg [10] (wD out + i) (fQ w #[.slice An nn cn, .slice Ad nd cd] go nn ds U S src)
   case atStart => exact ⟨Aw, i, cw, src, out, rfl, rfl, by rw [NL.out]; omega, hst, AW⟩
   case round =>
    clear AW hst Jl Ck;obtain ⟨Aw, nw, cw, wait, out, rfl, rfl, hM, hst, WO⟩ := hrel;rw [NL.out] at hM;have AO := hst.qu.le;by_cases hw : 0 < nw; rotate_left
    ·obtain rfl : nw = 0 := by omega
     have AY : wait = [] := List.eq_nil_of_length_eq_zero hst.wlen;subst AY
     go_wp2_with fail
     go_ret;have AG := WO.final;exact ⟨_, out, rfl, hst.ob.len, hst.ob, fun v hv => by rw [← AG]; simp [yk], hst.bl⟩
    ·obtain ⟨g, off, v, r, rfl, rfl, Mv⟩ := hst.first hw;have AB := WO.waits v List.mem_cons_self;have MJ : 0 ≤ v ∧ v < nn := ⟨AB.1, by have := (List.getElem?_eq_some_iff.1 AB.2).1; rw [hst.ob.len] at this; omega⟩
     go_wp2_with fail
     refine (HS wr v hst.bl MJ.1 MJ.2).mono ?_;rintro e w1 ⟨rfl, AX⟩;have BB := iD (hst.later AX);clear AX Mv hst;rcases hSv : S v with _ | _; rotate_left
     ·have hcut : ∀ W, (Instr.sliceAt 22 (.slice (some ⟨g, off, none⟩) nw cw) (some (.int .i64 1)) none none).run prog W = .ok (.slice (sY (some ⟨g, off, none⟩) cw 1) (nw - 1) (cw - 1)) W := fun W => vV W _ _ _ 1 hw
      have HP := iD (BB.pop hw);have Ac := iD (WO.stop hSv);clear hSv
      go_wp2_with fail
      go_roundg (wD out + (nw - 1))
      ·exact ⟨_, nw - 1, cw - 1, r, out, rfl, rfl, by rw [NL.out]; omega, HP, Ac⟩
      omega
     ·have LH := iD hSv; clear hSv;have k1 := BB.bx.c1;have AV := iD (WO.enter (v := v) rfl);clear WO AB
      go_wp2_with fail
      clear k1
      go_loopg [10, 45] nd (fP w #[.slice An nn cn, .slice Ad nd cd] go nn nd ds U S src v (wD out + nw))
      case atStart => exact ⟨_, nw, cw, v :: r, out, 0, rfl, rfl, Nat.zero_le _, rfl, rfl, hw, BB, AV⟩
      case round =>
       obtain ⟨M, Si⟩ := eX (wD out + nw);rw [← Si] at hrel;have Ak : M ≤ nn + i := by omega
       have XH := iD Si;clear BB AV hw hM AO Si;obtain ⟨Aw, nw, cw, wait, out, j, rfl, rfl, hj, rfl, Si, hw, hst, Sk⟩ := hrel;have AO := hst.qu.le;obtain ⟨g, off, v', r, rfl, rfl, Mv⟩ := hst.first hw;obtain rfl : v = v' := by have := Sk.head; simp at this; exact this.symm
       by_cases PM : j < nd
       ·obtain ⟨b, OI, x, rfl, hb, hx, hc⟩ := (HD.below hst.bl BN).at (fun _ => rfl) (by decide) PM;have HX := iD hx;obtain ⟨nm, kd, xa, xb, co⟩ := x;have c0 : wr.cell? ⟨b, OI + j * 5, none⟩ = some (.string nm) := hc 0 _ rfl;have c1 : wr.cell? ⟨b, OI + j * 5 + 1, none⟩ = some (.int .i64 kd) := hc 1 _ rfl;have c2 : wr.cell? ⟨b, OI + j * 5 + 2, none⟩ = some (.int .i64 xa) := hc 2 _ rfl;have c3 : wr.cell? ⟨b, OI + j * 5 + 3, none⟩ = some (.int .i64 xb) := hc 3 _ rfl;have c4 : wr.cell? ⟨b, OI + j * 5 + 4, none⟩ = some (.int .i64 co) := hc 4 _ rfl;clear hc hx;go_upto_region 14 with (fail);clear c0 c1 c2 c3 c4 Mv;have HK := iD (AJ.new wr 75 #[.string nm, .int .i64 kd, .int .i64 xa, .int .i64 xb, .int .i64 co]);have EX := iD (hst.alloc (.cells #[.string nm, .int .i64 kd, .int .i64 xa, .int .i64 xb, .int .i64 co] 75));generalize World.alloc _ _ = w2 at *;obtain ⟨bq, Fb⟩ := eX wr.heap.size
        rw [← Fb] at HK ⊢
        have Mv : w2.cell? ⟨g, off, none⟩ = some (.int .i64 v) := by
         obtain ⟨g', off', v'', r'', e1, e2, e3⟩ := EX.first hw;injection e1 with e1; injection e2 with e2; injection e2 with e2 e4;subst e1 e2 e4;exact e3
        clear Fb hst;refine fX (fun W' => W'.cell? ⟨bq, 0, none⟩ = some (.string nm) ∧ W'.cell? ⟨bq, 1, none⟩ = some (.int .i64 kd) ∧ W'.cell? ⟨bq, 2, none⟩ = some (.int .i64 xa) ∧ W'.cell? ⟨bq, 3, none⟩ = some (.int .i64 xb) ∧ W'.cell? ⟨bq, 4, none⟩ = some (.int .i64 co) ∧ W'.cell? ⟨g, off, none⟩ = some (.int .i64 v)) [4, 5] ?_ fun AA => ?_
        ·exact ⟨HK.cell 0, HK.cell 1, HK.cell 2, HK.cell 3, HK.cell 4, Mv⟩
        try dsimp only at AA
        refine tj 0 50 AA ?_;refine tj 1 51 AA ?_;refine tj 2 52 AA ?_;refine tj 3 53 AA ?_;refine yT (k := 4) (by kernel_rfl) rfl (fun K hK => ?_)
        (go_simp; refine (mU nm kd xa xb co v _).mono ?_; rintro e w3 ⟨rfl, BJ⟩; go_simp)
        refine hK _ _ (fun h => by cases h) (fun _ => ?_)
        try clear AA
        clear hK K
        try simp only [Act.put, sA, sB, sC]
        refine yT (k := 5) (by kernel_rfl) rfl (fun K hK => ?_)
        go_simp
        refine hK _ _ (fun h => by cases h) (fun _ => ?_)
        try clear AA
        clear hK K
        try simp only [Act.put, sA, sB, sC]
        refine tK ?_;have FX := iD (EX.drew.later BJ);have EB := iD (je HE HX v);clear BJ EX HK Mv;obtain ⟨y, hy⟩ : ∃ y, xn ⟨nm, kd, xa, xb, co⟩ v = y := ⟨_, rfl⟩
        rw [hy] at EB ⊢;have HY := iD hy; clear hy;by_cases h0 : 0 ≤ y; rotate_left
        ·have q0 : decide (0 ≤ y) = false := by simpa using h0
         go_wp2_with fail
         go_roundg (nd - (j + 1))
         ·exact ⟨_, nw, cw, _, out, j + 1, rfl, by go_num, by omega, rfl, Si.trans XH, hw, FX, Sk.pass HX (fun _ h => absurd h (by rw [HY.out]; omega))⟩
         omega
        ·obtain ⟨k, rfl⟩ := Int.eq_ofNat_of_zero_le h0;have IM : k < nn := by have := EB h0; omega
         obtain ⟨g2, bv, hA, _, _, QD, hcell, AE, _⟩ := FX.ob.at IM;injection hA with hA;injection hA with hA;subst hA;have Co := iD QD; clear QD;rcases bv with _ | _; rotate_left
         ·go_wp2_with fail
          go_roundg (nd - (j + 1))
          ·exact ⟨_, nw, cw, _, out, j + 1, rfl, by go_num, by omega, rfl, Si.trans XH, hw, FX, Sk.pass HX (fun _ _ => by rw [HY.out]; exact ⟨h0, Co⟩)⟩
          omega
         ·go_wp2_with fail
          refine (HU w3 j FX.bl PM).mono ?_;rintro e w4 ⟨rfl, BX⟩;have Jr := iD (FX.later BX);clear BX hcell AE FX;rcases hUj : U j with _ | _
          ·have AK := iD hUj; clear hUj
           go_wp2_with fail
           go_roundg (nd - (j + 1))
           ·exact ⟨_, nw, cw, _, out, j + 1, rfl, by go_num, by omega, rfl, Si.trans XH, hw, Jr, Sk.pass HX (fun h => by rw [AK.out] at h; cases h)⟩
           omega
          ·have AK := iD hUj; clear hUj;obtain ⟨g2, bv, hA, _, _, QD, hcell, AE, _⟩ := Jr.ob.at IM;injection hA with hA;injection hA with hA;subst hA;clear QD;have HM := iD (Jr.mark IM);have KU := iD Jr.ob.len;have Al := rZ Co.out;have hz := HM.ge;simp only [World.size_setCell] at hz
           have Aa : Hid (((w4.setCell ⟨go, k, none⟩ (.bool true)).alloc (.cells #[.int .i64 k] 3)).cell? ⟨w4.heap.size, 0, none⟩ = some (.int .i64 k)) := by
            have := (AJ.new (w4.setCell ⟨go, k, none⟩ (.bool true)) 3 #[.int .i64 k]).cell 0
            rwa [World.size_setCell] at this
           go_wp2_with (at_builtin; go_must (refine pp rfl (.tmp 72) (.tmp 74) rfl yl (by rfl) (HM.qu.alloc _) (by simp; omega) (by rfl) (u := .int .i64 k) Aa rfl (by omega) (by omega) ?_; intro A' c' w6 AP Jj AQ; have HP := iD ((HM.alloc _).push AP Jj AQ); clear AP Jj AQ))
           go_roundg (nd - (j + 1))
           ·exact ⟨A', nw + 1, c', _, _, j + 1, rfl, by go_num, by omega, rfl, by have := XH.out; omega, by omega, HP, Sk.push HX HY (by rw [KU.out]; exact IM) AK LH⟩
           omega
       ·obtain rfl : j = nd := by omega
        have KJ : decide (j < j) = false := by simp
        have hcut : ∀ W, (Instr.sliceAt 22 (.slice (some ⟨g, off, none⟩) nw cw) (some (.int .i64 1)) none none).run prog W = .ok (.slice (sY (some ⟨g, off, none⟩) cw 1) (nw - 1) (cw - 1)) W := fun W => vV W _ _ _ 1 hw
        have HP := iD (hst.pop hw);have HL := iD (Sk.leave (by rw [Fx.out]; exact Nat.le_refl _));clear hst Sk Mv
        go_wp2_with fail
        go_roundg (wD out + (nw - 1))
        case rel => exact ⟨_, nw - 1, cw - 1, r, out, rfl, rfl, by rw [NL.out]; omega, HP, HL⟩
        case measure => have := XH.out; omega
end Go.Proofs.YtddddlhgaeameaaGreatDoor
