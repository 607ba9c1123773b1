import Derived.Test.YtfaknfmndafllaaGreatDoorW30
import Derived.Test.YtfaknfmndafllaaGreatDoorW16
import Derived.ScopeJumps
import Derived.WalkMore
import Derived.Test.YtfaknfmndafllaaGreatDoorW27
import Derived.Lib.SliceRun
import Derived.Test.YtfaknfmndafllaaGreatDoorW23
import Derived.BigQuiet
set_option maxRecDepth 100000
set_option maxHeartbeats 8000000
namespace Go.Proofs.YtfaknfmndafllaaGreatDoor
open Go.RowKit
def SrcIn (ds : List Dv) (gs z : List Int) : Prop := ∃ (i : Nat) (x : Dv), ds[i]? = some x ∧ Rgn ds gs z x.a ∧ (x.kind = 5 ∨ x.kind = 6 ∧ hasB gs i = false)
open Classical in
noncomputable def isoB (ds : List Dv) (gs z : List Int) : Bool := !decide (SrcIn ds gs z)
def hitB (ds : List Dv) (gs : List Int) (R : Int → Prop) (i : Nat) : Prop := ∃ x, ds[i]? = some x ∧ R x.a ∧ (x.kind = 5 ∨ x.kind = 6 ∧ hasB gs i = false)
theorem iso_yes {ds : List Dv} {gs z : List Int} (h : ∀ i, i < ds.length → ¬ hitB ds gs (Rgn ds gs z) i) : isoB ds gs z = true := by
 unfold isoB
 simp only [Bool.not_eq_true', decide_eq_false_iff_not]
 rintro ⟨i, x, hx, hr, hk⟩
 exact h i (List.getElem?_eq_some_iff.1 hx).1 ⟨x, hx, hr, hk⟩
theorem iso_no {ds : List Dv} {gs z : List Int} {i : Nat} (h : hitB ds gs (Rgn ds gs z) i) : isoB ds gs z = false := by
 unfold isoB
 simp only [Bool.not_eq_false', decide_eq_true_eq]
 obtain ⟨x, hx, hr, hk⟩ := h
 exact ⟨i, x, hx, hr, hk⟩
theorem hit_next {ds : List Dv} {gs : List Int} {R : Int → Prop} {i : Nat} (h : ∀ j, j < i → ¬ hitB ds gs R j) (hi : ¬ hitB ds gs R i) : ∀ j, j < i + 1 → ¬ hitB ds gs R j := fun j hj => by
 rcases Nat.lt_succ_iff_lt_or_eq.1 hj with hj | rfl
 ·exact h j hj
 ·exact hi
def EuR2 (w : World) (N : Array Value) (w4 : World) (ds : List Dv) (gs : List Int) (R : Int → Prop) (n gk : Nat) (iv : Value) (wr : World) : Prop := ∃ i : Nat, iv = .int .i64 i ∧ i ≤ n ∧ gk = n - i ∧ Hid (Blk wr w.heap.size 30 N) ∧ Hid (Below w4.heap.size w4 wr) ∧ Hid (∀ j, j < i → ¬ hitB ds gs R j)
end Go.Proofs.YtfaknfmndafllaaGreatDoor
namespace Go.Proofs.YtfaknfmndafllaaGreatDoor
open Go.RowKit
def RegPost (w : World) (ns : List Nd) (ds : List Dv) (z gs : List Int) (e : Ending) (w' : World) : Prop :=
 (zoneErr ns ds z ≠ 0 ∧ e = .returned (.tuple #[.slice none 0 0, .int .i64 (zoneErr ns ds z)]) ∨ zoneErr ns ds z = 0 ∧ ∃ (A : Option Addr) (k c : Nat), e = .returned (.tuple #[.slice A k c, .int .i64 0]) ∧ Hid (IntsO w' w.heap.size A k c (nodesL ns.length (Rgn ds gs z)))) ∧ Hid (Below w.heap.size w w')
def ZrR (w2 : World) (R : Int → Prop) (n gk : Nat) (ov iv : Value) (wr : World) : Prop := ∃ (i m co : Nat) (Ao : Option Addr), ov = .slice Ao m co ∧ iv = .int .i64 i ∧ i ≤ n ∧ gk = n - i ∧ m ≤ i ∧ Hid (IntsO wr w2.heap.size Ao m co (nodesL i R)) ∧ Hid (Below w2.heap.size w2 wr)
theorem nodesL_yes {n : Nat} {R : Int → Prop} (h : R n) : nodesL (n + 1) R = nodesL n R ++ [(n : Int)] := by rw [nodesL_succ, if_pos h]
theorem nodesL_no {n : Nat} {R : Int → Prop} (h : ¬ R n) : nodesL (n + 1) R = nodesL n R := by rw [nodesL_succ, if_neg h, List.append_nil]
theorem Region_any (An Ad Az Ag : Option Addr) (nn cn nd cd n c ng cg : Nat) (ns : List Nd) (ds : List Dv) (z gs : List Int) (w : World) (hl : Laid w) (hn : Sl w w.heap.size 3 An nn cn (ns.flatMap Nd.cells)) (hd : Sl w w.heap.size 5 Ad nd cd (ds.flatMap Dv.cells)) (hz : Sl w w.heap.size 1 Az n c (intsV z)) (hg : Sl w w.heap.size 1 Ag ng cg (intsV gs))
 (hsn : ∀ x ∈ ns, x.name.size ≤ 9223372036854775807) (hsd : ∀ x ∈ ds, x.name.size ≤ 9223372036854775807) (hgo : GapsOk ds gs) (hnz : n ≤ 10000) :
 Calls Tryz.prog 211 #[.agg #[.slice An nn cn, .slice Ad nd cd], .slice Az n c, .slice Ag ng cg] w (RegPost w ns ds z gs) := by
 have HLN := Lib.hid (hn.len (fun _ => rfl) (by decide))
 have HB : Hid (Below w.heap.size w (w.alloc (.cells #[.slice An nn cn, .slice Ad nd cd] 30))) := (Below.refl _ _).alloc (Nat.le_refl _) _
 have HK := Lib.hid (Blk.new w 30 #[.slice An nn cn, .slice Ad nd cd])
 have hz1 := HB.out.size
 have HC := Lib.hid (zgcheck_any An Ad Az Ag nn cn nd cd n c ng cg ns ds z gs (w.alloc (.cells #[.slice An nn cn, .slice Ad nd cd] 30)) (hl.alloc _) ((hn.below HB.out (Nat.le_refl _)).more hz1) ((hd.below HB.out (Nat.le_refl _)).more hz1) ((hz.below HB.out (Nat.le_refl _)).more hz1) ((hg.below HB.out (Nat.le_refl _)).more hz1) hsn hsd hgo)
 have HD := Lib.hid hd; have HZ := Lib.hid hz; have HG := Lib.hid hg
 clear hl hn hd hz hg hsn hsd hgo hz1
 go_enter Tryz.func211, Tryz.ntmps211
 go_wp2_with fail
 generalize World.alloc w _ = W at *
 refine HC.out.mono ?_
 rintro e w1 ⟨rfl, hb1⟩
 have HB1 := Lib.hid (HB.out.trans (hb1.mono HB.out.size))
 have HK1 := Lib.hid (HK.out.below hb1 HK.out.lt)
 clear hb1 HC HB HK
 by_cases he : zoneErr ns ds z = 0; rotate_left
 ·have q : (zoneErr ns ds z != 0) = true := by simpa using he
  have HE := Lib.hid he
  clear he
  go_wp2_with fail
  go_ret2
  exact ⟨.inl ⟨HE.out, rfl⟩, HB1.out⟩
 have HE := Lib.hid he
 obtain ⟨hck, hzp, hzr⟩ := zoneErr_zero he
 have HOK := Lib.hid (NetOk.of hck)
 have hnl := HOK.out.nl
 have HZI : Hid (∀ v ∈ z, 0 ≤ v ∧ v < nn) := fun v hv => by have := ris_mem hzr v hv; rw [HLN.out] at this; omega
 have HEN : Hid (EndsOk nn ds) := by have := HOK.out.e; rw [HLN.out] at this; exact this
 have hnn : nn ≤ 32 := by have := HLN.out; omega
 rw [he]
 clear he hck hzp hzr hnl
 have hzw := HB1.out.size
 have k0 := HK1.out.c0
 have k1 := HK1.out.c1
 go_wp2_with fail
 clear k0 k1
 refine (region_any An Ad Az Ag nn cn nd cd n c ng cg ds z gs w1 ((HD.out.below HB1.out (Nat.le_refl _)).more hzw) ((HZ.out.below HB1.out (Nat.le_refl _)).more hzw) ((HG.out.below HB1.out (Nat.le_refl _)).more hzw) (by omega) (by omega) HEN.out HZI.out).mono ?_
 rintro e w2 ⟨AR, l, rfl, hll, hO, hR, hb2⟩
 have HB2 := Lib.hid (HB1.out.trans (hb2.out.mono hzw))
 have HLL := Lib.hid hll
 clear hb2 HB1 HK1 hll
 have hz2 := HB2.out.size
 obtain ⟨R, hRR⟩ : ∃ R, R = Rgn ds gs z := ⟨_, rfl⟩
 rw [← hRR] at hR
 have HRR := Lib.hid hRR
 clear hRR
 go_wp2_with fail
 go_loopg [9, 24] nn (ZrR w2 R nn)
 case atStart => exact ⟨0, 0, 0, none, rfl, rfl, Nat.zero_le _, rfl, Nat.le_refl _, World.ownsRow_nil _ _ _ _, Below.refl _ _⟩
 case round =>
  obtain ⟨i, m, co, Ao, rfl, rfl, hi, rfl, hmi, hI, hb⟩ := hrel
  by_cases hlt : i < nn
  ·obtain ⟨g, x, rfl, hg1, hg2, hx, hc, -, -⟩ := (hO.out.later hb.out).at hlt
   have HX := Lib.hid hx
   clear hx
   rcases x with _ | _
   ·have HI2 : Hid (IntsO wr w2.heap.size Ao m co (nodesL (i + 1) R)) := by
     unfold Hid
     rw [nodesL_no (fun h => by have := (hR.out i hlt).2 h; rw [HX.out] at this; cases this)]
     exact hI.out
    go_wp2_with fail
    go_roundg (nn - (i + 1))
    case rel => exact ⟨i + 1, m, co, Ao, rfl, by go_num, by omega, rfl, by omega, HI2, hb⟩
    case measure => omega
   ·have HT : Hid (nodesL (i + 1) R = nodesL i R ++ [(i : Int)]) := nodesL_yes ((hR.out i hlt).1 HX.out)
    have HI3 := Lib.hid hI.out
    clear hI
    go_wp2_with (at_builtin; go_must (refine wpList_app rfl (.tmp 30) (.tmp 32) rfl el_int (by rfl) (HI3.out.alloc _) (by rfl) (Sl.newest (n := 1) (by simp) (by rfl) (by decide)) (by simp [Value.oneCell']) (by omega) (by omega) (by have := hb.out.size; simp; omega) ?_; intro A2 co2 w5 hown5 hgr5 hat5; have HO5 := Lib.hid hown5; have HB5 : Hid (Below w2.heap.size w2 w5) := (hb.out.alloc hb.out.size _).trans ⟨hgr5.os, hgr5.tape, hgr5.output, hgr5.size, fun t ht => hgr5.block t (by have := hb.out.size; simp; omega) (fun e => by have := (HI3.out.lt t e.symm).1; omega)⟩; clear hown5 hgr5 hat5))
    have HO6 : Hid (IntsO w5 w2.heap.size A2 (m + 1) co2 (nodesL (i + 1) R)) := by
     unfold Hid
     rw [HT.out]
     unfold IntsO
     rw [intsV_append]
     exact HO5.out
    go_roundg (nn - (i + 1))
    case rel => exact ⟨i + 1, m + 1, co2, A2, rfl, by go_num, by omega, rfl, by omega, HO6, HB5⟩
    case measure => omega
  ·obtain rfl : i = nn := by omega
   have hii : decide (i < i) = false := by simp
   go_wp2_with fail
   go_ret2
   exact ⟨.inr ⟨HE.out, Ao, m, co, rfl, by rw [HLN.out, ← HRR.out]; exact hI.out.mono hz2⟩, HB2.out.trans (hb.out.mono hz2)⟩
end Go.Proofs.YtfaknfmndafllaaGreatDoor
namespace Go.Proofs.YtfaknfmndafllaaGreatDoor
open Go.RowKit
theorem intsPost_is {w w' : World} {l : List Int} {A : Option Addr} {n c : Nat} (hl : l.length = n) (h : IntsO w' w.heap.size A n c l) (hb : Below w.heap.size w w') : IntsPost w l (.returned (.slice A n c)) w' := by subst hl; exact ⟨A, c, rfl, h, hb⟩
structure ZhI (nn : Nat) (ds : List Dv) (gs z : List Int) (out : List Bool) : Prop where
 len : out.length = nn
 sound : ∀ v, marked out v → Rgn ds gs z v
 base : ∀ v ∈ z, marked out v
def okD (ds : List Dv) (gs : List Int) (out : List Bool) (j : Nat) : Prop := ∀ x, ds[j]? = some x → joinsB x.kind = true → hasB gs j = false → (marked out x.a ↔ marked out x.b)
theorem acr_a {x : Dv} (hj : joinsB x.kind = true) : acrB x x.a = x.b := by unfold acrB; rw [if_neg (by rw [hj]; simp), if_pos rfl]
theorem acr_b {x : Dv} (hj : joinsB x.kind = true) (hne : x.b ≠ x.a) : acrB x x.b = x.a := by unfold acrB; rw [if_neg (by rw [hj]; simp), if_neg (fun e => hne e.symm), if_pos rfl]
theorem acr_two {x : Dv} {u : Int} (h : 0 ≤ acrB x u) : joinsB x.kind = true ∧ (u = x.a ∧ acrB x u = x.b ∨ u = x.b ∧ acrB x u = x.a) := by
 unfold acrB at h ⊢
 split at h
 ·omega
 next hj =>
 have hj : joinsB x.kind = true := by simpa using hj
 rw [if_neg (by rw [hj]; simp)]
 split at h
 ·next e => exact ⟨hj, .inl ⟨e.symm, by rw [if_pos e]⟩⟩
 next e =>
 split at h
 ·next e2 => exact ⟨hj, .inr ⟨e2.symm, by rw [if_neg e, if_pos e2]⟩⟩
 ·omega
theorem ZhI.final {nn : Nat} {ds : List Dv} {gs z : List Int} {out : List Bool} (h : ZhI nn ds gs z out) (hok : ∀ j, okD ds gs out j) (v : Int) : marked out v ↔ Rgn ds gs z v := by
 refine ⟨h.sound v, fun hr => ?_⟩
 induction hr with
 | base hv => exact h.base _ hv
 | step _ _ hx hU h0 ih =>
  rename_i u i x _ _
  obtain ⟨hj, ⟨e, e2⟩ | ⟨e, e2⟩⟩ := acr_two h0
  ·rw [e2]; rw [e] at ih
   exact (hok i x hx hj (by simpa using hU)).1 ih
  ·rw [e2]; rw [e] at ih
   exact (hok i x hx hj (by simpa using hU)).2 ih
theorem ZhI.mark {nn : Nat} {ds : List Dv} {gs z : List Int} {out out2 : List Bool} {j a b : Nat} {x : Dv} (h : ZhI nn ds gs z out) (hx : ds[j]? = some x) (hj : joinsB x.kind = true) (hg : hasB gs j = false) (ha : x.a = a) (hb : x.b = b) (hne : b ≠ a) (hd : marked out a ∨ marked out b) (hl : out2.length = nn) (h2 : ∀ v, marked out2 v ↔ v = a ∨ v = b ∨ marked out v) : ZhI nn ds gs z out2 := by
 have h1 : acrB x a = b := by rw [← ha, acr_a hj, hb]
 have h3 : acrB x b = a := by rw [← hb, acr_b hj (by rw [ha, hb]; omega), ha]
 have hab : Rgn ds gs z a ∧ Rgn ds gs z b := by
  rcases hd with hm | hm
  ·have := h.sound _ hm
   refine ⟨this, ?_⟩
   have := Rch.step (x := x) (i := j) this rfl hx (by simpa using hg) (by rw [h1]; omega)
   rwa [h1] at this
  ·have := h.sound _ hm
   refine ⟨?_, this⟩
   have := Rch.step (x := x) (i := j) this rfl hx (by simpa using hg) (by rw [h3]; omega)
   rwa [h3] at this
 refine ⟨hl, fun v hv => ?_, fun v hv => (h2 v).2 (.inr (.inr (h.base v hv)))⟩
 rcases (h2 v).1 hv with rfl | rfl | hv
 ·exact hab.1
 ·exact hab.2
 ·exact h.sound v hv
structure ZhM (w : World) (N : Array Value) (go nn : Nat) (out : List Bool) (wr : World) : Prop where
 bn : Blk wr w.heap.size 30 N
 ob : BoolsO wr (w.heap.size + 1) (some ⟨go, 0, none⟩) nn nn out
 bl : Below w.heap.size w wr
section
variable {w wr wr' : World} {N : Array Value} {go nn : Nat} {out : List Bool}
theorem ZhM.later (h : ZhM w N go nn out wr) (hb : Below wr.heap.size wr wr') : ZhM w N go nn out wr' := ⟨h.bn.below hb h.bn.lt, h.ob.later hb, h.bl.trans (hb.mono h.bl.size)⟩
theorem ZhM.put (h : ZhM w N go nn out wr) {k : Nat} (hk : k < nn) (y : Bool) : ZhM w N go nn (out.set k y) (wr.setCell ⟨go, k, none⟩ (.bool y)) := by
 obtain ⟨g, x, e, h1, h2, hx, hc, hf, hst⟩ := h.ob.at hk
 injection e with e; injection e with e; subst e
 exact ⟨h.bn.far (by simp; omega) _, hst y, h.bl.setCell (by simp; omega) _⟩
theorem ZhM.cell (h : ZhM w N go nn out wr) {k : Nat} (hk : k < nn) : ∃ x, out[k]? = some x ∧ wr.cell? ⟨go, k, none⟩ = some (.bool x) ∧ wr.frozen? ⟨go, k, none⟩ = false := by
 obtain ⟨g, x, e, h1, h2, hx, hc, hf, hst⟩ := h.ob.at hk
 injection e with e; injection e with e; subst e
 exact ⟨x, hx, hc, hf⟩
theorem ZhM.ge (h : ZhM w N go nn out wr) (hn : 0 < nn) : w.heap.size < go := by
 obtain ⟨g, x, e, h1, h2, hx, hc, hf, hst⟩ := h.ob.at hn
 injection e with e; injection e with e; subst e
 omega
end
end Go.Proofs.YtfaknfmndafllaaGreatDoor
namespace Go.Proofs.YtfaknfmndafllaaGreatDoor
open Go.RowKit
def Rea (ds : List Dv) (es : List Int) (v u : Int) : Prop := Rch ds (fun _ => true) (fun u => hasB es u) [v] u
def srcB (k : Int) : Bool := k == 5 || k == 6
def Ptd (ds : List Dv) (es : List Int) (v : Int) : Prop := (∀ (i : Nat) (x : Dv), ds[i]? = some x → srcB x.kind = true → Rea ds es v x.a → hasB es x.a = true) ∧ ∃ u ∈ es, Rea ds es v u
open Classical in
noncomputable def protB (ds : List Dv) (es : List Int) (v : Int) : Bool := decide (Ptd ds es v)
theorem protB_iff {ds : List Dv} {es : List Int} {v : Int} : protB ds es v = true ↔ Ptd ds es v := by unfold protB; simp
theorem protB_no {ds : List Dv} {es : List Int} {v : Int} (h : ¬ Ptd ds es v) : protB ds es v = false := by unfold protB; simpa using h
theorem ear1_any (Ag : Option Addr) (n c B bb : Nat) (es : List Int) (u : Int) (W : World) (hc : W.cell? ⟨bb, 0, none⟩ = some (.slice Ag n c)) (hs : Sl W B 1 Ag n c (intsV es)) :
 Calls Tryz.prog 240 #[.int .i64 u, .pointer (some ⟨bb, 0, none⟩)] W fun e W' => e = .returned (.bool (hasB es u)) ∧ W = W' := by
 have HC := Lib.hid (contains_any Ag n c B es u W hs)
 clear hs
 go_enter Tryz.func240, Tryz.ntmps240
 go_wp2_with fail
 refine HC.out.mono ?_
 rintro e w1 ⟨rfl, rfl⟩
 go_wp2_with fail
 go_ret
 exact ⟨rfl, rfl⟩
theorem ear2_any (v : Int) (w : World) : Calls Tryz.prog 241 #[.int .i64 v] w fun e w' => e = .returned (.bool true) ∧ w = w' := by
 go_enter Tryz.func241, Tryz.ntmps241
 go_wp2_with fail
 go_ret
 exact ⟨rfl, rfl⟩
theorem ear3_gives (b go n : Nat) (c B : Nat) (l : List Bool) (u : Int) (W : World) (hc : W.cell? ⟨b, 0, none⟩ = some (.slice (some ⟨go, 0, none⟩) n c)) (hs : Sl W B 1 (some ⟨go, 0, none⟩) n c (boolsV l)) (h0 : 0 ≤ u) (h1 : u < n) :
 FnGives Tryz.prog 242 #[.pointer (some ⟨b, 0, none⟩)] #[.int .i64 u] (.bool (l.getD u.toNat false)) W := by
 obtain ⟨k, rfl⟩ := Int.eq_ofNat_of_zero_le h0
 have hk : k < n := by omega
 have hll : l.length = n := by have := hs.1; rw [boolsV_len] at this; omega
 obtain ⟨x, hx⟩ : ∃ x, l[k]? = some x := ⟨_, List.getElem?_eq_getElem (by omega)⟩
 have hcx : W.cell? ⟨go, k, none⟩ = some (.bool x) := by
  obtain ⟨b', off', e, hb, hat⟩ := hs.2.2.2.2 (by omega)
  injection e with e; injection e with e1 e2; subst e1 e2
  have := hat k (.bool x) (by rw [boolsV_map, List.getElem?_map, hx]; rfl)
  simpa using this
 have HR : Hid (l.getD (k : Int).toNat false = x) := by unfold Hid; rw [Int.toNat_natCast, List.getD_eq_getElem?_getD, hx]; rfl
 show Calls Tryz.prog 242 #[.int .i64 (k : Int), .pointer (some ⟨b, 0, none⟩)] W _
 clear hs hx hll h0 h1
 go_enter Tryz.func242, Tryz.ntmps242
 go_wp2_with fail
 go_ret
 exact ⟨by rw [HR.out]; rfl, 0, rfl⟩
def EpR (w2 : World) (ds : List Dv) (es : List Int) (v : Int) (n gk : Nat) (iv : Value) (wr : World) : Prop := ∃ i : Nat, iv = .int .i64 i ∧ i ≤ n ∧ gk = n - i ∧ Hid (Below w2.heap.size w2 wr) ∧ Hid (∀ (j : Nat) (x : Dv), j < i → ds[j]? = some x → srcB x.kind = true → Rea ds es v x.a → hasB es x.a = true)
theorem prot_any (An Ad Ae : Option Addr) (nn cn nd cd ne ce : Nat) (ds : List Dv) (es : List Int) (v : Int) (w : World) (hd : Sl w w.heap.size 5 Ad nd cd (ds.flatMap Dv.cells)) (he : Sl w w.heap.size 1 Ae ne ce (intsV es))
 (hnn : nn ≤ 10000) (hends : EndsOk nn ds) (ha : AOk nn ds) (hv : 0 ≤ v ∧ v < nn) (hes : ∀ u ∈ es, 0 ≤ u ∧ u < nn) :
 Calls Tryz.prog 214 #[.agg #[.slice An nn cn, .slice Ad nd cd], .int .i64 v, .slice Ae ne ce] w fun e w' => e = .returned (.bool (protB ds es v)) ∧ Below w.heap.size w w' := by
 have HLD := Lib.hid (hd.len (fun _ => rfl) (by decide))
 have hdl := hd.le
 have HB : Hid (Below w.heap.size w (((w.alloc (.cells #[.slice An nn cn, .slice Ad nd cd] 30)).alloc (.cells #[.slice Ae ne ce] 22)).alloc (.cells #[.int .i64 v] 3))) := (((Below.refl _ _).alloc (Nat.le_refl _) _).alloc (by simp) _).alloc (by simp; omega) _
 have HK := Lib.hid (((Blk.new w 30 #[.slice An nn cn, .slice Ad nd cd]).alloc (.cells #[.slice Ae ne ce] 22)).alloc (.cells #[.int .i64 v] 3))
 have hsz : (w.alloc (.cells #[.slice An nn cn, .slice Ad nd cd] 30)).heap.size = w.heap.size + 1 := by simp
 have hsz2 : ((w.alloc (.cells #[.slice An nn cn, .slice Ad nd cd] 30)).alloc (.cells #[.slice Ae ne ce] 22)).heap.size = w.heap.size + 1 + 1 := by simp
 have HE2 := Lib.hid ((Blk.new (w.alloc (.cells #[.slice An nn cn, .slice Ad nd cd] 30)) 22 #[.slice Ae ne ce]).alloc (.cells #[.int .i64 v] 3))
 rw [hsz] at HE2
 have HV : Hid (Sl (((w.alloc (.cells #[.slice An nn cn, .slice Ad nd cd] 30)).alloc (.cells #[.slice Ae ne ce] 22)).alloc (.cells #[.int .i64 v] 3)) (w.heap.size + 1 + 1 + 1) 1 (some ⟨w.heap.size + 1 + 1, 0, none⟩) 1 1 (intsV [v])) := by
  have := Blk.new ((w.alloc (.cells #[.slice An nn cn, .slice Ad nd cd] 30)).alloc (.cells #[.slice Ae ne ce] 22)) 3 #[.int .i64 v]
  rw [hsz2] at this
  refine ⟨rfl, Nat.le_refl _, by decide, (fun e => by cases e), fun _ => ⟨_, 0, rfl, by omega, fun j u hu => ?_⟩⟩
  rw [Nat.zero_add, this.cell j]
  rcases j with _ | j
  ·exact hu
  ·simp [intsV] at hu
 have hsz3 : (((w.alloc (.cells #[.slice An nn cn, .slice Ad nd cd] 30)).alloc (.cells #[.slice Ae ne ce] 22)).alloc (.cells #[.int .i64 v] 3)).heap.size = w.heap.size + 1 + 1 + 1 := by simp
 have HD := Lib.hid hd; have HE := Lib.hid he; have HEN := Lib.hid hends; have HA := Lib.hid ha; have HVR := Lib.hid hv; have HES := Lib.hid hes
 clear hd he hends ha hv hes hsz hsz2
 have hmf : ∀ (fn : Go.Fn) (first cap : Array Value) (w : World), (Instr.makeFunc fn first cap).run Tryz.prog w = .ok (.func fn first cap) w := fun _ _ _ _ => rfl
 go_enter Tryz.func214, Tryz.ntmps214
 go_wp2_with fail
 have HZ3 := Lib.hid hsz3
 clear hsz3
 generalize World.alloc (World.alloc (World.alloc w _) _) _ = W at *
 have hzW := HB.out.size
 refine (flood_any An Ad (some ⟨w.heap.size + 1 + 1, 0, none⟩) nn cn nd cd 1 1 W.heap.size W.heap.size 241 240 #[] #[.pointer (some ⟨w.heap.size + 1, 0, none⟩)] ds [v] (fun _ => true) (fun u => hasB es u) W ((HD.out.below HB.out (Nat.le_refl _)).more hzW) (Nat.le_refl _) (by have := HV.out; rw [HZ3.out]; exact this) (Nat.le_refl _) hnn (by decide) HEN.out (fun u hu => by rw [List.mem_singleton.1 hu]; exact HVR.out) (enters_of Tryz.func241 (by kernel_rfl) rfl) (enters_of Tryz.func240 (by kernel_rfl) rfl) ?_ ?_).mono ?_
 ·intro W' i _ _
  refine (ear2_any i W').mono ?_
  rintro e w' ⟨rfl, rfl⟩
  exact ⟨rfl, Below.refl _ _⟩
 ·intro W' u hb _ _
  refine (ear1_any Ae ne ce w.heap.size (w.heap.size + 1) es u W' ((hb.cell (p := ⟨w.heap.size + 1, 0, none⟩) HE2.out.lt).trans (HE2.out.cell 0)) ((HE.out.below HB.out (Nat.le_refl _)).below hb hzW)).mono ?_
  rintro e w' ⟨rfl, rfl⟩
  exact ⟨rfl, Below.refl _ _⟩
 rintro e w1 ⟨AR, l, rfl, hll, hO, hR, hb1⟩
 have HB1 := Lib.hid (HB.out.trans (hb1.out.mono hzW))
 have HK1 := Lib.hid (HK.out.below hb1.out HK.out.lt)
 have HE1 := Lib.hid (HE2.out.below hb1.out HE2.out.lt)
 have HLL := Lib.hid hll
 have HRE : Hid (∀ u : Nat, u < nn → (l[u]? = some true ↔ Rea ds es v u)) := hR.out
 have HOS := Lib.hid hO.out.sl
 have HGO : Hid (∃ go, AR = some ⟨go, 0, none⟩) := by obtain ⟨g, e, _⟩ := own_some hO.out (by have := HVR.out; omega); exact ⟨g, e⟩
 clear hb1 HB HK HE2 HV HZ3 hzW hll hO hR
 go_upto_region 4 with (fail)
 have HK2 := Lib.hid (HK1.out.alloc (.cells #[.slice AR nn nn] 131))
 have HRB := Lib.hid (Blk.new w1 131 #[.slice AR nn nn])
 have HB2 := Lib.hid (HB1.out.alloc HB1.out.size (.cells #[.slice AR nn nn] 131))
 have HE3 := Lib.hid (HE1.out.alloc (.cells #[.slice AR nn nn] 131))
 have HOS2 : Hid (Sl (w1.alloc (.cells #[.slice AR nn nn] 131)) w1.heap.size 1 AR nn nn (boolsV l)) := HOS.out.alloc (Nat.le_refl _) _
 have hw12 : w1.heap.size ≤ (w1.alloc (.cells #[.slice AR nn nn] 131)).heap.size := by simp
 generalize World.alloc w1 _ = w2 at *
 obtain ⟨rb, hrb⟩ : ∃ x, x = w1.heap.size := ⟨_, rfl⟩
 rw [← hrb] at HRB HOS2 hw12 ⊢
 clear hrb HOS HB1 HK1 HE1
 have hz2 := HB2.out.size
 have k1 := HK2.out.c1
 go_wp2_with fail
 clear k1
 go_loopg [23] nd (EpR w2 ds es v nd)
 case atStart => exact ⟨0, rfl, Nat.zero_le _, rfl, Below.refl _ _, fun j x hj => by omega⟩
 case round =>
  obtain ⟨i, rfl, hi, rfl, hb, hno⟩ := hrel
  by_cases hlt : i < nd; rotate_left
  ·obtain rfl : i = nd := by omega
   have hii : decide (i < i) = false := by simp
   have HPB : Hid (es.any (fun u => l.getD u.toNat false) = protB ds es v) := by
    unfold Hid
    rw [Bool.eq_iff_iff, protB_iff, List.any_eq_true]
    have key : ∀ u ∈ es, (l.getD u.toNat false = true ↔ Rea ds es v u) := fun u hu => by
     obtain ⟨h0, h1⟩ := HES.out u hu
     obtain ⟨k, rfl⟩ := Int.eq_ofNat_of_zero_le h0
     rw [← HRE.out k (by omega), Int.toNat_natCast, List.getD_eq_getElem?_getD]
     rcases l[k]? with _ | x
     ·simp
     ·simp
    constructor
    ·rintro ⟨u, hu, h⟩
     exact ⟨fun j x hx hk hr => hno.out j x (by have := (List.getElem?_eq_some_iff.1 hx).1; rw [HLD.out] at this; exact this) hx hk hr, u, hu, (key u hu).1 h⟩
    ·rintro ⟨_, u, hu, h⟩
     exact ⟨u, hu, (key u hu).2 h⟩
   have e0 := (HE3.out.below hb.out HE3.out.lt).c0
   go_wp2_with fail
   clear e0
   refine (contR_any (fun u => 0 ≤ u ∧ u < nn) 242 #[.pointer (some ⟨rb, 0, none⟩)] (fun u => l.getD u.toNat false) (enters_of Tryz.func242 (by kernel_rfl) rfl) Ae ne ce w.heap.size es wr ((HE.out.below HB2.out (Nat.le_refl _)).below hb.out hz2) HES.out (fun W' x hx hb' => ?_)).mono ?_
   ·have hcl := (((HRB.out.below hb.out HRB.out.lt).below hb' (Nat.lt_of_lt_of_le HRB.out.lt hb.out.size))).c0
    have hsl := (HOS2.out.below hb.out hw12).below hb' (Nat.le_trans hw12 hb.out.size)
    obtain ⟨go, hgo⟩ := HGO.out
    subst hgo
    exact ear3_gives rb go nn nn rb l x W' hcl hsl hx.1 hx.2
   ·rintro e w5 ⟨rfl, q, rfl⟩
    rw [HPB.out]
    go_wp2_with fail
    go_ret
    exact ⟨rfl, below_drewN (HB2.out.trans (hb.out.mono hz2)) q⟩
  obtain ⟨b0, off, x, rfl, hb0, hx, hc⟩ := ((HD.out.below HB2.out (Nat.le_refl _)).below hb.out hz2).at (k := i) (fun _ => rfl) (by decide) hlt
  have HX := Lib.hid hx
  have har := HA.out x (List.mem_of_getElem? hx)
  obtain ⟨nm, kd, a, b, co⟩ := x
  simp only at har
  obtain ⟨a, rfl⟩ := Int.eq_ofNat_of_zero_le har.1
  have han : a < nn := by omega
  have c0 : wr.cell? ⟨b0, off + i * 5, none⟩ = some (.string nm) := hc 0 _ rfl
  have c1 : wr.cell? ⟨b0, off + i * 5 + 1, none⟩ = some (.int .i64 kd) := hc 1 _ rfl
  have c2 : wr.cell? ⟨b0, off + i * 5 + 2, none⟩ = some (.int .i64 a) := hc 2 _ rfl
  have c3 : wr.cell? ⟨b0, off + i * 5 + 3, none⟩ = some (.int .i64 b) := hc 3 _ rfl
  have c4 : wr.cell? ⟨b0, off + i * 5 + 4, none⟩ = some (.int .i64 co) := hc 4 _ rfl
  clear hc hx hb0 har
  go_upto_region 7 with (fail)
  clear c0 c1 c2 c3 c4
  have HDV := Lib.hid (Blk.new wr 68 #[.string nm, .int .i64 kd, .int .i64 a, .int .i64 b, .int .i64 co])
  have HBN := Lib.hid (hb.out.alloc hb.out.size (.cells #[.string nm, .int .i64 kd, .int .i64 a, .int .i64 b, .int .i64 co] 68))
  generalize World.alloc wr _ = W3 at *
  obtain ⟨vb, hvb⟩ : ∃ x, x = wr.heap.size := ⟨_, rfl⟩
  rw [← hvb] at HDV ⊢
  clear hvb
  have d1 := HDV.out.c1
  have d2 := HDV.out.c2
  have r0 := (HRB.out.below HBN.out HRB.out.lt).c0
  have hsl := HOS2.out.below HBN.out hw12
  obtain ⟨br, ofr, hAR, hbr, hat⟩ := hsl.2.2.2.2 (by omega)
  obtain ⟨rx, hrx⟩ : ∃ rx, l[a]? = some rx := ⟨_, List.getElem?_eq_getElem (by rw [HLL.out]; exact han)⟩
  have ra : W3.cell? ⟨br, ofr + a, none⟩ = some (.bool rx) := hat a (.bool rx) (by rw [boolsV_map, List.getElem?_map, hrx]; rfl)
  have HRX := Lib.hid hrx
  have HARS := Lib.hid hAR
  subst hAR
  clear hat hsl hbr hrx hb
  rcases hk5 : (kd == 5) with _ | _
  ·rcases hk6 : (kd == 6) with _ | _
   ·have HNX : Hid (∀ (j : Nat) (x : Dv), j < i + 1 → ds[j]? = some x → srcB x.kind = true → Rea ds es v x.a → hasB es x.a = true) := fun j x hj hx hs hr => by
     rcases Nat.lt_succ_iff_lt_or_eq.1 hj with h | rfl
     ·exact hno.out j x h hx hs hr
     ·rw [HX.out] at hx; injection hx with hx; subst hx
      unfold srcB at hs; simp only at hs; rw [hk5, hk6] at hs; cases hs
    go_wp2_with fail
    go_roundg (nd - (i + 1))
    case rel => exact ⟨i + 1, by go_num, by omega, rfl, HBN, HNX⟩
    case measure => omega
   ·rcases rx with _ | _
    ·have HNX : Hid (∀ (j : Nat) (x : Dv), j < i + 1 → ds[j]? = some x → srcB x.kind = true → Rea ds es v x.a → hasB es x.a = true) := fun j x hj hx hs hr => by
      rcases Nat.lt_succ_iff_lt_or_eq.1 hj with h | rfl
      ·exact hno.out j x h hx hs hr
      ·rw [HX.out] at hx; injection hx with hx; subst hx
       have := (HRE.out a han).2 hr; rw [HRX.out] at this; cases this
     go_wp2_with fail
     go_roundg (nd - (i + 1))
     case rel => exact ⟨i + 1, by go_num, by omega, rfl, HBN, HNX⟩
     case measure => omega
    have HEA := Lib.hid (ear1_any Ae ne ce w.heap.size (w.heap.size + 1) es a W3 ((HE3.out.below HBN.out HE3.out.lt).cell 0) ((HE.out.below HB2.out (Nat.le_refl _)).below HBN.out hz2))
    rcases he : hasB es a with _ | _
    ·have HF : Hid (protB ds es v = false) := protB_no fun h => by
      have := h.1 i _ HX.out (by unfold srcB; simp only; rw [hk5, hk6]; rfl) ((HRE.out a han).1 HRX.out)
      simp only at this
      rw [he] at this; cases this
     rw [he] at HEA
     clear he
     go_wp2_with fail
     refine HEA.out.mono ?_
     rintro e w5 ⟨rfl, rfl⟩
     go_wp2_with fail
     go_ret
     exact ⟨ret_bool HF.out.symm, HB2.out.trans (HBN.out.mono hz2)⟩
    ·have HNX : Hid (∀ (j : Nat) (x : Dv), j < i + 1 → ds[j]? = some x → srcB x.kind = true → Rea ds es v x.a → hasB es x.a = true) := fun j x hj hx hs hr => by
      rcases Nat.lt_succ_iff_lt_or_eq.1 hj with h | rfl
      ·exact hno.out j x h hx hs hr
      ·rw [HX.out] at hx; injection hx with hx; subst hx
       exact he
     rw [he] at HEA
     clear he
     go_wp2_with fail
     refine HEA.out.mono ?_
     rintro e w5 ⟨rfl, rfl⟩
     go_wp2_with fail
     go_roundg (nd - (i + 1))
     case rel => exact ⟨i + 1, by go_num, by omega, rfl, HBN, HNX⟩
     case measure => omega
  ·rcases rx with _ | _
   ·have HNX : Hid (∀ (j : Nat) (x : Dv), j < i + 1 → ds[j]? = some x → srcB x.kind = true → Rea ds es v x.a → hasB es x.a = true) := fun j x hj hx hs hr => by
     rcases Nat.lt_succ_iff_lt_or_eq.1 hj with h | rfl
     ·exact hno.out j x h hx hs hr
     ·rw [HX.out] at hx; injection hx with hx; subst hx
      have := (HRE.out a han).2 hr; rw [HRX.out] at this; cases this
    go_wp2_with fail
    go_roundg (nd - (i + 1))
    case rel => exact ⟨i + 1, by go_num, by omega, rfl, HBN, HNX⟩
    case measure => omega
   have HEA := Lib.hid (ear1_any Ae ne ce w.heap.size (w.heap.size + 1) es a W3 ((HE3.out.below HBN.out HE3.out.lt).cell 0) ((HE.out.below HB2.out (Nat.le_refl _)).below HBN.out hz2))
   rcases he : hasB es a with _ | _
   ·have HF : Hid (protB ds es v = false) := protB_no fun h => by
     have := h.1 i _ HX.out (by unfold srcB; simp only; rw [hk5]; rfl) ((HRE.out a han).1 HRX.out)
     simp only at this
     rw [he] at this; cases this
    rw [he] at HEA
    clear he
    go_wp2_with fail
    refine HEA.out.mono ?_
    rintro e w5 ⟨rfl, rfl⟩
    go_wp2_with fail
    go_ret
    exact ⟨ret_bool HF.out.symm, HB2.out.trans (HBN.out.mono hz2)⟩
   ·have HNX : Hid (∀ (j : Nat) (x : Dv), j < i + 1 → ds[j]? = some x → srcB x.kind = true → Rea ds es v x.a → hasB es x.a = true) := fun j x hj hx hs hr => by
     rcases Nat.lt_succ_iff_lt_or_eq.1 hj with h | rfl
     ·exact hno.out j x h hx hs hr
     ·rw [HX.out] at hx; injection hx with hx; subst hx
      exact he
    rw [he] at HEA
    clear he
    go_wp2_with fail
    refine HEA.out.mono ?_
    rintro e w5 ⟨rfl, rfl⟩
    go_wp2_with fail
    go_roundg (nd - (i + 1))
    case rel => exact ⟨i + 1, by go_num, by omega, rfl, HBN, HNX⟩
    case measure => omega
end Go.Proofs.YtfaknfmndafllaaGreatDoor
namespace Go.Proofs.YtfaknfmndafllaaGreatDoor
open Go.RowKit
noncomputable def missL (ds : List Dv) (es z : List Int) : List Int := z.filter fun v => !protB ds es v
theorem missL_snoc (ds : List Dv) (es : List Int) {z : List Int} {i : Nat} {v : Int} (h : z[i]? = some v) : missL ds es (z.take (i + 1)) = missL ds es (z.take i) ++ if protB ds es v = true then [] else [v] := by
 unfold missL
 rw [take_snoc h, List.filter_append]
 congr 1
 rcases hp : protB ds es v with _ | _ <;> simp [hp]
theorem IntsO.base1 {w : World} {b n c : Nat} {A : Option Addr} {l : List Int} (h : IntsO w (b + 1) A n c l) : IntsO w b A n c l := ⟨h.1, h.2.imp id fun ⟨g, cap, cur, hv, hb, r⟩ => ⟨g, cap, cur, hv, by omega, r⟩⟩
theorem scope_jumps2 {P : Program} {Q : Exit → Act → World → Prop} {a : Act} {w : World} {c X : Code} (l : Nat) (J : Act → World → Prop) (μ : Act → World → Nat) (hf : findLabel c l = some (Code.skip.seq X))
 (first : (∀ a w, J a w → X.wp P (Exit.jump l J Q) a w) → c.wp P (Exit.jump l J Q) a w)
 (pass : ∀ a w, J a w → X.wp P (Exit.jump l (fun a' w' => J a' w' ∧ μ a' w' < μ a w) Q) a w) : (Code.scope c).wp P Q a w :=
 wp_scope_jumps l J μ hf (first fun a w h => Code.wp_mono (fun e _ _ hq => by
  cases e with
  | goto l' => exact ⟨hq.1, hq.2.1⟩
  | _ => exact hq) (pass a w h)) fun a w h => wp_seq (wp_skip (pass a w h))
def intAt : Value → Int | .int _ q => q | _ => 0
def EmJ (w : World) (An Ad Az Ae : Option Addr) (nn cn nd cd n c ne ce : Nat) (ds : List Dv) (es z : List Int) (a : Act) (wr : World) : Prop :=
 ∃ (i m co : Nat) (Ao : Option Addr) (u9 u10 u11 u12 u13 u14 u15 u16 u17 u18 u19 u20 u21 u22 u23 u24 u25 u26 u27 u28 u29 u30 : Value), a = ⟨#[.agg #[.slice An nn cn, .slice Ad nd cd], .slice Az n c, .slice Ae ne ce, .pointer (some ⟨w.heap.size, 0, none⟩), undef, undef, .slice none 0 0, .slice Ao m co, .int .i64 i, u9, u10, u11, u12, u13, u14, u15, u16, u17, u18, u19, u20, u21, u22, u23, u24, u25, u26, u27, u28, u29, u30], []⟩ ∧ i ≤ n ∧ m ≤ i ∧ Hid (Blk wr w.heap.size 30 #[.slice An nn cn, .slice Ad nd cd]) ∧ Hid (Below w.heap.size w wr) ∧ Hid (IntsO wr (w.heap.size + 1) Ao m co (missL ds es (z.take i)))
theorem miss_any (An Ad Az Ae : Option Addr) (nn cn nd cd n c ne ce : Nat) (ds : List Dv) (es z : List Int) (w : World) (hd : Sl w w.heap.size 5 Ad nd cd (ds.flatMap Dv.cells)) (hz : Sl w w.heap.size 1 Az n c (intsV z)) (he : Sl w w.heap.size 1 Ae ne ce (intsV es))
 (hnn : nn ≤ 10000) (hends : EndsOk nn ds) (ha : AOk nn ds) (hzv : ∀ v ∈ z, 0 ≤ v ∧ v < nn) (hes : ∀ u ∈ es, 0 ≤ u ∧ u < nn) (hn : n ≤ 10000) :
 Calls Tryz.prog 193 #[.agg #[.slice An nn cn, .slice Ad nd cd], .slice Az n c, .slice Ae ne ce] w (IntsPost w (missL ds es z)) := by
 have HLZ := Lib.hid (hz.len (fun _ => rfl) (by decide))
 have hzl := hz.le
 have HB0 : Hid (Below w.heap.size w (w.alloc (.cells #[.slice An nn cn, .slice Ad nd cd] 30))) := (Below.refl _ _).alloc (Nat.le_refl _) _
 have HK0 := Lib.hid (Blk.new w 30 #[.slice An nn cn, .slice Ad nd cd])
 have HD := Lib.hid hd; have HZ := Lib.hid hz; have HE := Lib.hid he; have HEN := Lib.hid hends; have HA := Lib.hid ha; have HZV := Lib.hid hzv; have HES := Lib.hid hes
 have HPR := Lib.hid (fun (W : World) (hb : Below w.heap.size w W) (v : Int) (hv : v ∈ z) => prot_any An Ad Ae nn cn nd cd ne ce ds es v W ((hd.below hb (Nat.le_refl _)).more hb.size) ((he.below hb (Nat.le_refl _)).more hb.size) hnn hends ha (hzv v hv) hes)
 clear hd hz he hends ha hzv hes
 go_enter Tryz.func193, Tryz.ntmps193
 go_wp2_with fail
 refine scope_jumps2 0 (EmJ w An Ad Az Ae nn cn nd cd n c ne ce ds es z) (fun a' _ => n - (intAt (a'.tmps.getD 8 undef)).toNat) rfl ?_ ?_
 ·intro H
  go_wp2_with fail
  go_step3
  rename_i K hK
  refine hK _ _ (H _ _ ⟨0, 0, 0, none, _, _, _, _, _, _, _, _, _, _, _, _, _, _, _, _, _, _, _, _, _, _, rfl, Nat.zero_le _, Nat.le_refl _, HK0, HB0, World.ownsRow_nil _ _ _ _⟩)
 ·rintro a' wr ⟨i, m, co, Ao, u9, u10, u11, u12, u13, u14, u15, u16, u17, u18, u19, u20, u21, u22, u23, u24, u25, u26, u27, u28, u29, u30, rfl, hi, hmi, HK, HB, HI⟩
  by_cases hlt : i < n; rotate_left
  ·obtain rfl : i = n := by omega
   have hii : ((i : Int) == (i : Int)) = true := by simp
   have hii2 : (i == i) = true := by simp
   go_wp2_with fail
   simp only [Exit.jump]
   go_ret
   have := HI.out.base1
   rw [List.take_of_length_le (by rw [HLZ.out]; exact Nat.le_refl _)] at this
   exact intsPost_is this.len this HB.out
  have q0 : ((i : Int) == (n : Int)) = false := by simp; omega
  have q1 : (i == n) = false := by simp; omega
  obtain ⟨bz, oz, v, rfl, hbz, hx, hc⟩ := (HZ.out.below HB.out (Nat.le_refl _)).at1 hlt
  have HX := Lib.hid hx
  have HVM := Lib.hid (List.mem_of_getElem? hx)
  have HC := Lib.hid hc
  clear hx hc
  go_upto_region 5 with (fail)
  clear q0 q1
  refine wp_region_ord (S := fun W' => W'.cell? ⟨w.heap.size, 0, none⟩ = some (.slice An nn cn) ∧ W'.cell? ⟨w.heap.size, 1, none⟩ = some (.slice Ad nd cd) ∧ W'.cell? ⟨bz, oz + i, none⟩ = some (.int .i64 v)) (J := []) (n := _) ((1, true) :: (2, true) :: (5, true) :: (0, true) :: (3, true) :: (4, true) :: (6, false) :: (7, true) :: []) (by as_aux_lemma => kernel_rfl) (by rfl) (base_cons (k := 1) (by go_simp; rfl) (base_cons (k := 8) (by go_simp; rfl) (base_cons (k := 2) (by go_simp; rfl) (base_cons (k := 3) (by go_simp; rfl) base_nil)))) ?_ (fun _ _ _ _ _ h => h) (fun Q2 A hsz hbase hn2 hHeld => ?_)
  ·exact ⟨HK.out.cell 0, HK.out.cell 1, HC.out⟩
  try dsimp only at hHeld
  obtain ⟨b1, b8, b2, b3, -⟩ := hbase
  refine ord_move (i := 1) (d := 15) (v := ?_) rfl rfl rfl (wanted_none rfl) hHeld (fun ρ hρ => ?_) ?_
  rotate_left
  ·(have e1 := Eq.trans (hρ.tmp hsz 1 rfl) (lkp_base b1); exact e1)
  show wpOrd _ _ _ _ _ _ _ _
  refine ord_move (i := 2) (d := 16) (v := ?_) rfl rfl rfl (wanted_none rfl) hHeld (fun ρ hρ => ?_) ?_
  rotate_left
  ·(have e8 := Eq.trans (hρ.tmp hsz 8 rfl) (miss1 rfl (lkp_base b8)); exact e8)
  show wpOrd _ _ _ _ _ _ _ _
  refine ord_move (i := 5) (d := 19) (v := ?_) rfl rfl rfl (wanted_none rfl) hHeld (fun ρ hρ => ?_) ?_
  rotate_left
  ·(have e2 := Eq.trans (hρ.tmp hsz 2 rfl) (miss1 rfl (miss1 rfl (lkp_base b2))); exact e2)
  show wpOrd _ _ _ _ _ _ _ _
  refine ord_take (i := 0) (d := 14) (v := ?_) rfl rfl (wanted_none rfl) hHeld (fun ρ hρ w hSw => ?_) ?_
  rotate_left
  ·(have e3 := Eq.trans (hρ.tmp hsz 3 rfl) (miss1 rfl (miss1 rfl (miss1 rfl (lkp_base b3)))); clear hρ; (try dsimp only at hSw); have k0 := hSw.1; have k1 := hSw.2.1; clear hSw; go_simp; try with_reducible rfl)
  show wpOrd _ _ _ _ _ _ _ _
  refine ord_take (i := 3) (d := 17) (v := ?_) rfl rfl (wanted_none rfl) hHeld (fun ρ hρ w hSw => ?_) ?_
  rotate_left
  ·(have e15 := Eq.trans (hρ.tmp hsz 15 rfl) (miss1 rfl (miss1 rfl (miss1 rfl lkp_hit))); have e16 := Eq.trans (hρ.tmp hsz 16 rfl) (miss1 rfl (miss1 rfl lkp_hit)); clear hρ; (try dsimp only at hSw); go_simp; try with_reducible rfl)
  show wpOrd _ _ _ _ _ _ _ _
  refine ord_take (i := 4) (d := 18) (v := ?_) rfl rfl (wanted_none rfl) hHeld (fun ρ hρ w hSw => ?_) ?_
  rotate_left
  ·(have e17 := Eq.trans (hρ.tmp hsz 17 rfl) lkp_hit; clear hρ; (try dsimp only at hSw); have hc := hSw.2.2; clear hSw; go_simp; try with_reducible rfl)
  show wpOrd _ _ _ _ _ _ _ _
  refine ord_call (i := 6) (d := 20) (vs := ?_) rfl rfl rfl (wanted_none rfl) (fun ρ hρ => ?_) ?_ ?_
  rotate_left
  ·(have e14 := Eq.trans (hρ.tmp hsz 14 rfl) (miss1 rfl (miss1 rfl lkp_hit)); have e18 := Eq.trans (hρ.tmp hsz 18 rfl) lkp_hit; have e19 := Eq.trans (hρ.tmp hsz 19 rfl) (miss1 rfl (miss1 rfl (miss1 rfl lkp_hit))); simp only [List.map_toArray, List.map_cons, List.map_nil, e14, e18, e19]; try with_reducible rfl)
  ·(intro w; go_simp)
  refine (HPR.out wr.drew HB.out.drew v HVM.out).mono ?_
  rintro e w3 ⟨rfl, hb3⟩
  have HB3 := Lib.hid (HB.out.drew.trans (hb3.mono HB.out.drew.size))
  have HK3 := Lib.hid ((HK.out.below (Below.refl wr.heap.size wr).drew HK.out.lt).below hb3 HK.out.lt)
  have HI3 := Lib.hid ((HI.out.later (Below.refl _ _).drew).later hb3)
  have HC3 : Hid (w3.cell? ⟨bz, oz + i, none⟩ = some (.int .i64 v)) := (hb3.cell (p := ⟨bz, oz + i, none⟩) (by have := HB.out.size; exact Nat.lt_of_lt_of_le hbz this)).trans HC.out
  clear hb3 HB HK HI HC
  refine ⟨_, rfl, fun _ => ?_, fun hHeld' => ?_⟩
  ·exact ⟨HK3.out.cell 0, HK3.out.cell 1, HC3.out⟩
  replace hHeld := hHeld' rfl
  clear hHeld'
  try dsimp only at hHeld
  show wpOrd _ _ _ _ _ _ _ _
  refine ord_take (i := 7) (d := 21) (v := ?_) rfl rfl (wanted_none rfl) hHeld (fun ρ hρ w hSw => ?_) ?_
  rotate_left
  ·(have e20 := Eq.trans (hρ.tmp hsz 20 rfl) lkp_hit; clear hρ; (try dsimp only at hSw); go_simp; try with_reducible rfl)
  show wpOrd _ _ _ _ _ _ _ _
  refine ord_done hn2 ?_
  clear hHeld hn2 b1 b8 b2 b3 hsz A Q2
  simp only [puts_nil, puts_cons, put_lit, set_1, set_0]
  rcases hp : protB ds es v with _ | _
  ·have HT : Hid (missL ds es (z.take (i + 1)) = missL ds es (z.take i) ++ [v]) := by have := missL_snoc ds es HX.out; rw [hp] at this; unfold Hid; simpa using this
   have hc3 := HC3.out
   have hzs := HB3.out.size
   go_wp2_with (at_builtin; go_must (refine wpList_app rfl (.tmp 22) (.tmp 27) rfl el_int (by rfl) (HI3.out.alloc _) (by rfl) (Sl.newest (n := 1) (by simp) (by rfl) (by decide)) (by simp [Value.oneCell']) (by omega) (by omega) (by simp; omega) ?_; intro A2 co2 w5 hown5 hgr5 hat5; have HO5 := Lib.hid hown5; have HG5 := Lib.hid hgr5; clear hown5 hgr5 hat5))
   have HB5 : Hid (Below w.heap.size w w5) := (HB3.out.alloc hzs _).trans ⟨HG5.out.os, HG5.out.tape, HG5.out.output, HG5.out.size, fun t ht => HG5.out.block t (by simp; omega) (fun e => by have := (HI3.out.lt t e.symm).1; omega)⟩
   have HK5 : Hid (Blk w5 w.heap.size 30 #[.slice An nn cn, .slice Ad nd cd]) := (HK3.out.alloc _).keep (HG5.out.block _ (by simp; have := HK3.out.lt; omega) (fun e => by have := (HI3.out.lt _ e.symm).1; omega))
   have HO6 : Hid (IntsO w5 (w.heap.size + 1) A2 (m + 1) co2 (missL ds es (z.take (i + 1)))) := by
    unfold Hid
    rw [HT.out]
    unfold IntsO
    rw [intsV_append]
    exact HO5.out
   go_step3
   refine ⟨rfl, ⟨i + 1, m + 1, co2, A2, _, _, _, _, _, _, _, _, _, _, _, _, _, _, _, _, _, _, _, _, _, _, by go_num, by omega, by omega, HK5, HB5, HO6⟩, ?_⟩
   simp only [Array.getD_eq_getD_getElem?, intAt]
   simp
   omega
  ·have HT : Hid (missL ds es (z.take (i + 1)) = missL ds es (z.take i)) := by have := missL_snoc ds es HX.out; rw [hp] at this; unfold Hid; simpa using this
   have HO6 : Hid (IntsO w3 (w.heap.size + 1) Ao m co (missL ds es (z.take (i + 1)))) := by rw [HT.out]; exact HI3
   go_wp2_with fail
   go_step3
   refine ⟨rfl, ⟨i + 1, m, co, Ao, _, _, _, _, _, _, _, _, _, _, _, _, _, _, _, _, _, _, _, _, _, _, by go_num, by omega, by omega, HK3, HB3, HO6⟩, ?_⟩
   simp only [Array.getD_eq_getD_getElem?, intAt]
   simp
   omega
end Go.Proofs.YtfaknfmndafllaaGreatDoor
namespace Go.Proofs.YtfaknfmndafllaaGreatDoor
open Go.RowKit
def ClG (g : Nat) (lb : Array Value) (p : Int → Bool) (row : Option Nat) (w : World) : Prop := ∀ (W : World) (x : Int), w.grownBy W row → Calls Tryz.prog g (#[.int .i64 x] ++ lb) W fun e w' => e = .returned (.bool (p x)) ∧ Hid (Below W.heap.size W w')
def IdxP (p : Int → Bool) (l : List Int) (k : Int) : Prop := (k = -1 ∧ ∀ x ∈ l, p x = false) ∨ ∃ i : Nat, k = i ∧ i < l.length ∧ (∀ x ∈ l.take i, p x = false) ∧ ∀ x, l[i]? = some x → p x = true
theorem IntsO.cut {w : World} {base n c i : Nat} {A : Option Addr} {l : List Int} (h : IntsO w base A n c l) (hi : i ≤ n) : IntsO w base A i c (l.take i) := by
 have hl := h.len
 rcases h.2 with ⟨hv, h0⟩ | ⟨gb, cap, cur, hv, hb, hh, hnc, hm, hs, ht⟩
 ·injection hv with h1 h2 h3
  subst h1 h3 h0
  obtain rfl : i = 0 := by omega
  rw [List.take_zero]
  exact World.ownsRow_nil _ _ _ _
 ·injection hv with h1 h2 h3
  subst h1 h3
  refine ⟨by rw [intsV_len, List.length_take]; omega, .inr ⟨gb, c, cur, rfl, hb, hh, by omega, hm, hs, ?_⟩⟩
  rw [Nat.mul_one] at ht ⊢
  have h4 := congrArg (List.take i) ht
  rw [List.take_take, Nat.min_eq_left hi] at h4
  rw [h4, intsV_map, intsV_map, List.map_take]
theorem IntsO.over {base n c g : Nat} : ∀ (xs l : List Int) (w : World) (k : Nat), IntsO w base (some ⟨g, 0, none⟩) n c l → k + xs.length ≤ n → ∃ l', IntsO (w.setCells g k (intsV xs)) base (some ⟨g, 0, none⟩) n c l' ∧ l'.take k = l.take k ∧ w.grownBy (w.setCells g k (intsV xs)) (some g)
 | [], l, w, k, h, _ => ⟨l, h, rfl, grown_refl _ _⟩
 | x :: xs, l, w, k, h, hk => by
  rw [List.length_cons] at hk
  obtain ⟨g2, y, e, _, _, hy, _, _, hst⟩ := h.at (i := k) (by omega)
  injection e with e
  injection e with e
  subst e
  obtain ⟨l', h1, h2, h3⟩ := IntsO.over xs (l.set k x) (w.setCell ⟨g, k, none⟩ (.int .i64 x)) (k + 1) (hst x) (by omega)
  refine ⟨l', h1, ?_, grown_trans (grown_cell w ⟨g, k, none⟩ _) h3⟩
  have h4 := congrArg (List.take k) h2
  rw [List.take_take, List.take_take, Nat.min_eq_left (by omega)] at h4
  rw [h4]
  apply List.ext_getElem?
  intro j
  rw [List.getElem?_take, List.getElem?_take]
  split
  ·rw [List.getElem?_set_ne (by omega)]
  ·rfl
def IgR (w : World) (p : Int → Bool) (l : List Int) (n gk : Nat) (s8 : Value) (wr : World) : Prop := ∃ i : Nat, s8 = .int .i64 i ∧ i ≤ n ∧ n - i ≤ gk ∧ Hid (Below w.heap.size w wr) ∧ Hid (∀ x ∈ l.take i, p x = false)
theorem take_snocI {l : List Int} {i : Nat} {x : Int} (h : l[i]? = some x) : l.take (i + 1) = l.take i ++ [x] := by
 rw [List.take_add_one, h]; rfl
theorem idxg_any (g : Nat) (lb : Array Value) (p : Int → Bool) (row : Option Nat) (eg : ∀ args w, (callFunc g args).run Tryz.prog w = .ok (.enter g args) w) (A : Option Addr) (n c : Nat) (l : List Int) (w : World) (h : Sl w w.heap.size 1 A n c (intsV l)) (hc : ClG g lb p row w) :
 Calls Tryz.prog 119 #[.slice A n c, .func (.func g) #[] lb] w fun e w' => ∃ k, e = .returned (.int .i64 k) ∧ Hid (IdxP p l k) ∧ Hid (Below w.heap.size w w') := by
 have HL := Lib.hid (h.len (fun _ => rfl) (by decide))
 have hle := h.le
 have HH := Lib.hid h; have HC := Lib.hid hc
 have HB0 : Hid (Below w.heap.size w w) := Below.refl _ _
 clear h hc
 go_enter Tryz.func119, Tryz.ntmps119
 go_wp2_with fail
 go_loopg [5, 8] n (fun gk _ s8 wr => IgR w p l n gk s8 wr)
 case atStart => exact ⟨0, rfl, Nat.zero_le _, by omega, HB0, by intro x hx; simp at hx⟩
 case round =>
  clear HB0
  obtain ⟨i, rfl, hi, hgk, HB, HP⟩ := hrel
  by_cases hlt : i < n
  ·have hltz : (i : Int) < (n : Int) := by omega
   obtain ⟨b, off, x, rfl, hb, hx, hcl⟩ := (HH.out.below HB.out (Nat.le_refl _)).at1 hlt
   have HX := Lib.hid hx
   clear hx
   have hcall := HC.out wr x (grown_of_below HB.out _)
   rcases hq : p x with _ | _
   ·rw [hq] at hcall
    go_wp2_with (go_at_fn g; refine hcall.mono ?_; rintro e w3 ⟨rfl, hb3⟩)
    have HB3 := Lib.hid (HB.out.trans (hb3.out.mono HB.out.size))
    go_roundg (n - (i + 1))
    case measure => omega
    case rel =>
     refine ⟨i + 1, by go_num, by omega, Nat.le_refl _, HB3, ?_⟩
     unfold Hid
     rw [take_snocI HX.out]
     intro y hy
     rcases List.mem_append.1 hy with hy | hy
     ·exact HP.out y hy
     ·rw [List.mem_singleton.1 hy]; exact hq
   ·rw [hq] at hcall
    go_wp2_with (go_at_fn g; refine hcall.mono ?_; rintro e w3 ⟨rfl, hb3⟩)
    have HB3 := Lib.hid (HB.out.trans (hb3.out.mono HB.out.size))
    go_ret
    exact ⟨i, rfl, .inr ⟨i, rfl, by rw [HL.out]; exact hlt, HP.out, fun y hy => by rw [HX.out] at hy; injection hy with hy; rw [← hy]; exact hq⟩, HB3⟩
  ·have hltz : ¬ (i : Int) < (n : Int) := by omega
   obtain rfl : i = n := by omega
   go_wp2_with fail
   go_ret
   exact ⟨-1, rfl, .inl ⟨rfl, fun y hy => HP.out y (by rw [List.take_of_length_le (by rw [HL.out]; exact Nat.le_refl _)]; exact hy)⟩, HB⟩
def DlR (w : World) (p : Int → Bool) (l : List Int) (base gb c n gk : Nat) (s5 s6 : Value) (wr : World) : Prop := ∃ (i j : Nat) (cur : List Int), s5 = .int .i64 i ∧ s6 = .int .i64 j ∧ i < j ∧ j ≤ n ∧ n - j ≤ gk ∧ Hid (IntsO wr base (some ⟨gb, 0, none⟩) n c cur) ∧ Hid (cur.take i = (l.take j).filter fun x => !p x) ∧ Hid (∀ t, j ≤ t → cur[t]? = l[t]?) ∧ Hid (w.grownBy wr (some gb))
theorem filt_snoc {l : List Int} {j : Nat} {x : Int} (p : Int → Bool) (h : l[j]? = some x) : (l.take (j + 1)).filter (fun x => !p x) = (l.take j).filter (fun x => !p x) ++ if p x = true then [] else [x] := by
 rw [take_snocI h, List.filter_append]
 congr 1
 rcases hp : p x with _ | _ <;> simp [hp]
theorem delg_any (g : Nat) (lb : Array Value) (p : Int → Bool) (eg : ∀ args w, (callFunc g args).run Tryz.prog w = .ok (.enter g args) w) (A : Option Addr) (n c base : Nat) (l : List Int) (w : World) (h : IntsO w base A n c l) (hn : n ≤ 1000000)
 (hc : ClG g lb p (Value.slice A n c).ownBlock w) :
 Calls Tryz.prog 100 #[.slice A n c, .func (.func g) #[] lb] w fun e w' => ∃ m, e = .returned (.slice A m c) ∧ Hid (IntsO w' base A m c (l.filter fun x => !p x)) ∧ Hid (w.grownBy w' (Value.slice A n c).ownBlock) := by
 have HL := Lib.hid h.len
 have HO := Lib.hid h
 have HC := Lib.hid hc
 have hle := h.sl.le
 have HIX := Lib.hid (idxg_any g lb p _ eg A n c l w h.sl hc)
 clear h hc
 go_enter Tryz.func100, Tryz.ntmps100
 go_wp2_with fail
 refine HIX.out.mono ?_
 rintro e w1 ⟨k, rfl, hk, hb1⟩
 clear HIX
 rcases hk.out with ⟨rfl, hall⟩ | ⟨i0, rfl, hi0, hpre, hhit⟩
 ·have HA := Lib.hid hall
  clear hall hk
  go_wp2_with fail
  go_ret
  refine ⟨n, rfl, ?_, grown_of_below hb1.out _⟩
  rw [List.filter_eq_self.2 (fun x hx => by rw [HA.out x hx]; rfl)]
  exact HO.out.later hb1.out
 have hin : i0 < n := by have := HL.out; omega
 obtain ⟨gb, x0, rfl, _, _, hx0, _, _, _⟩ := HO.out.at hin
 have HX0 := Lib.hid hx0
 have HH := Lib.hid (hhit x0 hx0)
 have HPR := Lib.hid hpre
 clear hk hx0 hhit hpre hi0
 have q1 : ((i0 : Int) == -1) = false := by simp
 go_wp2_with fail
 clear q1
 go_loopg [5, 6, 7] n (fun gk s5 s6 _ wr => DlR w p l base gb c n gk s5 s6 wr)
 case atStart =>
  refine ⟨i0, i0 + 1, l, rfl, by go_num, by omega, by omega, by omega, HO.out.later hb1.out, ?_, fun t _ => rfl, grown_of_below hb1.out _⟩
  unfold Hid
  rw [filt_snoc p HX0.out, if_pos HH.out, List.append_nil, List.filter_eq_self.2 (fun x hx => by rw [HPR.out x hx]; rfl)]
 case round =>
  clear hb1 HX0 HH HPR HO
  obtain ⟨i, j, cur, rfl, rfl, hij, hj, hgk, HI, HT, HR, HG⟩ := hrel
  have HCL := Lib.hid HI.out.len
  by_cases hlt : j < n
  ·have hltz : (j : Int) < (n : Int) := by omega
   obtain ⟨gb2, x, e, hbg, _, hx, hcl, _, _⟩ := HI.out.at hlt
   injection e with e
   injection e with e
   subst e
   have HX : Hid (l[j]? = some x) := (HR.out j (Nat.le_refl _)).symm.trans hx
   clear hx
   have hcall := HC.out wr x HG.out
   rcases hq : p x with _ | _
   ·rw [hq] at hcall
    go_wp2_with (go_at_fn g; refine hcall.mono ?_; rintro e w3 ⟨rfl, hb3⟩; have HI3 := Lib.hid (HI.out.later hb3.out); have HG3 := Lib.hid (grown_trans HG.out (grown_of_below hb3.out (some gb))); obtain ⟨gb3, y, e3, _, _, _, hcy, hfy, hst⟩ := HI3.out.at (i := i) (by omega); have HST := Lib.hid (hst x); clear hst hb3 HI HG; cases e3)
    go_roundg (n - (j + 1))
    case measure => omega
    case rel =>
     refine ⟨i + 1, j + 1, cur.set i x, by go_num, by go_num, by omega, by omega, Nat.le_refl _, HST, ?_, ?_, ?_⟩
     rotate_left 2
     ·exact grown_trans HG3.out (grown_cell w3 ⟨gb, i, none⟩ _)
     ·unfold Hid
      rw [filt_snoc p HX.out, hq, ← HT.out]
      have h1 : (cur.set i x)[i]? = some x := by rw [List.getElem?_set_self (by rw [HCL.out]; omega)]
      rw [take_snocI h1]
      have h2 : (cur.set i x).take i = cur.take i := by
       apply List.ext_getElem?
       intro t
       rw [List.getElem?_take, List.getElem?_take]
       split
       ·rw [List.getElem?_set_ne (by omega)]
       ·rfl
      rw [h2]
      rfl
     ·unfold Hid
      intro t ht
      rw [List.getElem?_set_ne (by omega)]
      exact HR.out t (by omega)
   ·rw [hq] at hcall
    go_wp2_with (go_at_fn g; refine hcall.mono ?_; rintro e w3 ⟨rfl, hb3⟩)
    have HI3 := Lib.hid (HI.out.later hb3.out)
    have HG3 := Lib.hid (grown_trans HG.out (grown_of_below hb3.out (some gb)))
    go_roundg (n - (j + 1))
    case measure => omega
    case rel =>
     refine ⟨i, j + 1, cur, rfl, by go_num, by omega, by omega, Nat.le_refl _, HI3, ?_, fun t ht => HR.out t (by omega), HG3⟩
     unfold Hid
     rw [filt_snoc p HX.out, if_pos hq, List.append_nil]
     exact HT.out
  ·obtain rfl : j = n := by omega
   have hltz : ¬ (j : Int) < (j : Int) := by omega
   have hcl : ∀ ty, (Builtin.clear_ #[22] ty #[.slice (some ⟨gb, i, none⟩) (j - i) (c - i)]).run Tryz.prog wr = .ok (.tuple #[]) (wr.setCells gb i (List.replicate (j - i) (.int .i64 0))) :=
    fun ty => Lib.run_clear_slice wr _ 3 ty _ Tryz.underlying22 Tryz.zeroValue3 (by rfl) (by rfl) gb i _ _ (by omega) (fun t ht => by
     obtain ⟨g3, y, e, _, _, _, hc, _, _⟩ := HI.out.at (i := i + t) (by omega)
     injection e with e
     injection e with e
     subst e
     rw [hc]; rfl) (fun t ht => by
     obtain ⟨g3, y, e, _, _, _, _, hf, _⟩ := HI.out.at (i := i + t) (by omega)
     injection e with e
     injection e with e
     subst e
     exact hf)
   obtain ⟨l', hO', hT', hG'⟩ := IntsO.over (List.replicate (j - i) 0) cur wr i HI.out (by rw [List.length_replicate]; omega)
   rw [← intsV_replicate] at hO' hG'
   have HO' := Lib.hid hO'
   have HG' := Lib.hid hG'
   have HT' := Lib.hid hT'
   clear hO' hG' hT'
   go_wp2_with fail
   go_ret
   refine ⟨i, rfl, ?_, grown_trans HG.out HG'.out⟩
   have := HO'.out.cut (i := i) (by omega)
   rw [HT'.out, HT.out, List.take_of_length_le (by rw [HL.out]; exact Nat.le_refl _)] at this
   exact this
end Go.Proofs.YtfaknfmndafllaaGreatDoor
namespace Go.Proofs.YtfaknfmndafllaaGreatDoor
open Go.RowKit
theorem tho_ris (ds : List Dv) (ls : List Lk) (pos : Int) (p : Int → Bool) (u : Nat) : ∀ n, n ≤ u → risL u (-1) (thoTo ds ls pos p n) = true ∧ lastD (-1) (thoTo ds ls pos p n) < n
 | 0, _ => ⟨rfl, by show (-1 : Int) < 0; omega⟩
 | n + 1, h => by
  obtain ⟨h1, h2⟩ := tho_ris ds ls pos p u n (by omega)
  rw [thoTo_succ]
  split
  ·refine ⟨?_, by rw [lastD_snoc]; omega⟩
   rw [risL_snoc, h1]
   have : ((n : Nat) : Int) < (u : Nat) := by omega
   simp [h2, this]
  ·exact ⟨h1, by omega⟩
theorem tho_ok {ds : List Dv} (ls : List Lk) : GapsOk ds (thoTo ds ls 1 gapB ds.length) := by
 refine ⟨(tho_ris ds ls 1 gapB ds.length _ (Nat.le_refl _)).1, fun g hg x hx => ?_⟩
 unfold thoTo at hg
 obtain ⟨i, hi, rfl⟩ := List.mem_map.1 hg
 have h := (List.mem_filter.1 hi).2
 unfold thoB at h
 rw [Int.toNat_natCast] at hx
 rw [Bool.and_eq_true, kindOf_at hx] at h
 exact h.2
theorem tho_range {ds : List Dv} {ls : List Lk} {pos : Int} {p : Int → Bool} {n : Nat} {d : Int} (h : d ∈ thoTo ds ls pos p n) : 0 ≤ d ∧ d < n := by
 unfold thoTo at h
 obtain ⟨i, hi, rfl⟩ := List.mem_map.1 h
 have := List.mem_range.1 (List.mem_filter.1 hi).1
 omega
def aAt (ds : List Dv) (d : Int) : Int := match ds[d.toNat]? with | some x => x.a | none => 0
def cntB (ds : List Dv) (er : List Int) (v : Int) : Bool := er.any fun d => aAt ds d == v
theorem cnt11_gives (nb vb : Nat) (_An Ad : Option Addr) (_nn _cn nd cd B : Nat) (ds : List Dv) (v d : Int) (W : World) (h1 : W.cell? ⟨nb, 1, none⟩ = some (.slice Ad nd cd)) (hv : W.cell? ⟨vb, 0, none⟩ = some (.int .i64 v)) (hd : Sl W B 5 Ad nd cd (ds.flatMap Dv.cells)) (hr : 0 ≤ d ∧ d < nd) :
 FnGives Tryz.prog 213 #[.pointer (some ⟨nb, 0, none⟩), .pointer (some ⟨vb, 0, none⟩)] #[.int .i64 d] (.bool (aAt ds d == v)) W := by
 obtain ⟨k, rfl⟩ := Int.eq_ofNat_of_zero_le hr.1
 have hk : k < nd := by omega
 have hdl := hd.le
 obtain ⟨b, off, x, rfl, hb, hx, hc⟩ := hd.at (fun _ => rfl) (by decide) hk
 have HA : Hid (aAt ds (k : Int) = x.a) := by unfold Hid aAt; rw [Int.toNat_natCast, hx]
 obtain ⟨nm, kd, xa, xb, co⟩ := x
 have c2 : W.cell? ⟨b, off + k * 5 + 2, none⟩ = some (.int .i64 xa) := hc 2 _ rfl
 show Calls Tryz.prog 213 #[.int .i64 (k : Int), .pointer (some ⟨nb, 0, none⟩), .pointer (some ⟨vb, 0, none⟩)] W _
 clear hc hx hd hr
 go_enter Tryz.func213, Tryz.ntmps213
 go_wp2_with fail
 go_quiet (fail)
 go_wp2_with fail
 go_ret
 exact ⟨by rw [HA.out]; rfl, _, rfl⟩
theorem cnt1_any (nb eb : Nat) (An Ad Ae : Option Addr) (nn cn nd cd ne ce B : Nat) (ds : List Dv) (er : List Int) (v : Int) (W : World) (h1 : W.cell? ⟨nb, 1, none⟩ = some (.slice Ad nd cd)) (he : W.cell? ⟨eb, 0, none⟩ = some (.slice Ae ne ce)) (hd : Sl W B 5 Ad nd cd (ds.flatMap Dv.cells)) (hs : Sl W B 1 Ae ne ce (intsV er)) (hB : B ≤ W.heap.size) (hr : ∀ d ∈ er, 0 ≤ d ∧ d < nd) (hnb : nb < W.heap.size) :
 Calls Tryz.prog 212 (#[.int .i64 v] ++ #[.pointer (some ⟨eb, 0, none⟩), .pointer (some ⟨nb, 0, none⟩)]) W fun e w' => e = .returned (.bool (!cntB ds er v)) ∧ Hid (Below W.heap.size W w') := by
 have HB : Hid (Below W.heap.size W (W.alloc (.cells #[.int .i64 v] 3))) := (Below.refl _ _).alloc (Nat.le_refl _) _
 have HK := Lib.hid (Blk.new W 3 #[.int .i64 v])
 have HCF := Lib.hid (contR_any (fun d => 0 ≤ d ∧ d < nd) 213 #[.pointer (some ⟨nb, 0, none⟩), .pointer (some ⟨W.heap.size, 0, none⟩)] (fun d => aAt ds d == v) (enters_of Tryz.func213 (by kernel_rfl) rfl) Ae ne ce B er (W.alloc (.cells #[.int .i64 v] 3)) (hs.alloc hB _) hr
  (fun W2 x hx hb2 => cnt11_gives nb W.heap.size An Ad nn cn nd cd B ds v x W2 (hb2.cell (p := ⟨nb, 1, none⟩) (by show nb < _; simp; omega) |>.trans (HB.out.cell (p := ⟨nb, 1, none⟩) hnb |>.trans h1)) (((HK.out.below hb2 HK.out.lt).cell 0).trans rfl) ((hd.alloc hB _).below hb2 (by simp; omega)) hx))
 clear h1 hd hs hr
 show Calls Tryz.prog 212 #[.int .i64 v, .pointer (some ⟨eb, 0, none⟩), .pointer (some ⟨nb, 0, none⟩)] W _
 have heb : eb < W.heap.size := World.block_lt_of_cell? W ⟨eb, 0, none⟩ he
 have he2 : (W.alloc (.cells #[.int .i64 v] 3)).cell? ⟨eb, 0, none⟩ = some (.slice Ae ne ce) := (HB.out.cell (p := ⟨eb, 0, none⟩) heb).trans he
 go_enter Tryz.func212, Tryz.ntmps212
 go_upto_region 1 with (fail)
 generalize hW : World.alloc W _ = W2 at *
 clear hW he
 go_wp2_with fail
 refine HCF.out.mono ?_
 rintro e w3 ⟨rfl, q, rfl⟩
 go_wp2_with fail
 go_ret
 exact ⟨rfl, below_drewN' HB.out q⟩
end Go.Proofs.YtfaknfmndafllaaGreatDoor
namespace Go.Proofs.YtfaknfmndafllaaGreatDoor
open Go.RowKit
def sideErr (ns : List Nd) (ds : List Dv) (ls : List Lk) (z : List Int) : Int := if locksErr ns ds ls ≠ 0 then locksErr ns ds ls else zoneErr ns ds z
def ersL (ds : List Dv) (ls : List Lk) : List Int := thoTo ds ls 2 (fun k => k == 4) ds.length
def gpsL (ds : List Dv) (ls : List Lk) : List Int := thoTo ds ls 1 gapB ds.length
noncomputable def cntL (ns : List Nd) (ds : List Dv) (ls : List Lk) (z : List Int) : List Int := (nodesL ns.length (Rgn ds (gpsL ds ls) z)).filter (cntB ds (ersL ds ls))
def ListPost (w : World) (er : Int) (l : List Int) (e : Ending) (w' : World) : Prop :=
 (er ≠ 0 ∧ e = .returned (.tuple #[.slice none 0 0, .int .i64 er]) ∨ er = 0 ∧ ∃ (A : Option Addr) (k c : Nat), e = .returned (.tuple #[.slice A k c, .int .i64 0]) ∧ Hid (IntsO w' w.heap.size A k c l)) ∧ Hid (Below w.heap.size w w')
theorem grown_belowE {w w' : World} {B : Nat} {row : Option Nat} (h : w.grownBy w' row) (hB : B ≤ w.heap.size) (hr : ∀ g, row = some g → B ≤ g) : Below B w w' := ⟨h.os, h.tape, h.output, h.size, fun i hi => h.block i (by omega) (fun e => by have := hr i e.symm; omega)⟩
theorem Counted_any (An Ad Al Az : Option Addr) (nn cn nd cd nl cl n c : Nat) (ns : List Nd) (ds : List Dv) (ls : List Lk) (z : List Int) (w : World) (hl : Laid w) (hn : Sl w w.heap.size 3 An nn cn (ns.flatMap Nd.cells)) (hd : Sl w w.heap.size 5 Ad nd cd (ds.flatMap Dv.cells)) (hs : Sl w w.heap.size 3 Al nl cl (ls.flatMap Lk.cells)) (hz : Sl w w.heap.size 1 Az n c (intsV z))
 (hsn : ∀ x ∈ ns, x.name.size ≤ 9223372036854775807) (hsd : ∀ x ∈ ds, x.name.size ≤ 9223372036854775807) (hnz : n ≤ 10000) (hnd : nd ≤ 1000) :
 Calls Tryz.prog 192 #[.agg #[.slice An nn cn, .slice Ad nd cd], .slice Al nl cl, .slice Az n c] w (ListPost w (sideErr ns ds ls z) (cntL ns ds ls z)) := by
 have HLD := Lib.hid (hd.len (fun _ => rfl) (by decide))
 have HLN := Lib.hid (hn.len (fun _ => rfl) (by decide))
 have HB : Hid (Below w.heap.size w (w.alloc (.cells #[.slice An nn cn, .slice Ad nd cd] 30))) := (Below.refl _ _).alloc (Nat.le_refl _) _
 have HK := Lib.hid (Blk.new w 30 #[.slice An nn cn, .slice Ad nd cd])
 have HER := Lib.hid (earths_any An Ad Al nn cn nd cd nl cl w.heap.size w.heap.size w.heap.size ns ds ls (w.alloc (.cells #[.slice An nn cn, .slice Ad nd cd] 30)) (hl.alloc _) (hn.alloc (Nat.le_refl _) _) (hd.alloc (Nat.le_refl _) _) (hs.alloc (Nat.le_refl _) _) (by simp) (by simp) (by simp) hnd hsn hsd)
 have HLa := Lib.hid hl; have HN := Lib.hid hn; have HD := Lib.hid hd; have HS := Lib.hid hs; have HZ := Lib.hid hz; have HSN := Lib.hid hsn; have HSD := Lib.hid hsd
 clear hl hn hd hs hz hsn hsd
 go_enter Tryz.func192, Tryz.ntmps192
 go_wp2_with fail
 generalize World.alloc w _ = W at *
 refine HER.out.mono ?_
 rintro e w1 ⟨hcase, hb1⟩
 have HB1 := Lib.hid (HB.out.trans (hb1.out.mono HB.out.size))
 have HK1 := Lib.hid (HK.out.below hb1.out HK.out.lt)
 clear HB HK HER
 rcases hcase with ⟨he, rfl⟩ | ⟨he, Ae, ce, rfl, hoe⟩
 ·have HE : Hid (sideErr ns ds ls z = locksErr ns ds ls) := by unfold Hid sideErr; rw [if_pos he]
  have q : (locksErr ns ds ls != 0) = true := by simpa using he
  have HNZ := Lib.hid he
  clear he hb1
  have HB2 : Hid (Below w.heap.size w (w1.alloc (.cells #[.slice none 0 0] 22))) := HB1.out.alloc HB1.out.size _
  go_wp2_with fail
  go_ret2
  exact ⟨.inl ⟨by rw [HE.out]; exact HNZ.out, by rw [HE.out]; rfl⟩, HB2.out⟩
 have HZ0 := Lib.hid he
 have HE2 : Hid (sideErr ns ds ls z = zoneErr ns ds z) := by unfold Hid sideErr; rw [if_neg (by omega)]
 clear he hb1
 obtain ⟨er, hera⟩ : ∃ er, er = thoTo ds ls 2 (fun k => k == 4) nd := ⟨_, rfl⟩
 rw [← hera] at hoe ⊢
 have HERA := Lib.hid hera
 have HERR : Hid (∀ d ∈ er, 0 ≤ d ∧ d < nd) := fun d hd => tho_range (by rw [hera] at hd; exact hd)
 obtain ⟨ne, hnera⟩ : ∃ ne, ne = er.length := ⟨_, rfl⟩
 rw [← hnera] at hoe ⊢
 clear hera hnera
 have HKE := Lib.hid (Blk.new w1 22 #[.slice Ae ne ce])
 have HES : Hid (Sl (w1.alloc (.cells #[.slice Ae ne ce] 22)) w1.heap.size 1 Ae ne ce (intsV er)) := hoe.out.sl.alloc (Nat.le_refl _) _
 have HB2 : Hid (Below w.heap.size w (w1.alloc (.cells #[.slice Ae ne ce] 22))) := HB1.out.alloc HB1.out.size _
 have HK2 := Lib.hid (HK1.out.alloc (.cells #[.slice Ae ne ce] 22))
 have hz1 := HB1.out.size
 have hz2 : w1.heap.size < (w1.alloc (.cells #[.slice Ae ne ce] 22)).heap.size := by simp
 have hzb : w.heap.size < w1.heap.size := HK1.out.lt
 have k0 : (w1.alloc (.cells #[.slice Ae ne ce] 22)).cell? ⟨w.heap.size, 0, none⟩ = some (.slice An nn cn) := HK2.out.cell 0
 have k1 : (w1.alloc (.cells #[.slice Ae ne ce] 22)).cell? ⟨w.heap.size, 1, none⟩ = some (.slice Ad nd cd) := HK2.out.cell 1
 clear HB1 HK1 hoe
 go_upto_region 4 with (fail)
 generalize World.alloc w1 _ = W2 at *
 go_wp2_with fail
 clear k0 k1
 refine (gaps_any An Ad Al nn cn nd cd nl cl w.heap.size w.heap.size w.heap.size ns ds ls W2 (HLa.out.below HB2.out (Nat.le_refl _)) (HN.out.below HB2.out (Nat.le_refl _)) (HD.out.below HB2.out (Nat.le_refl _)) (HS.out.below HB2.out (Nat.le_refl _)) (by omega) (by omega) (by omega) hnd HSN.out HSD.out).mono ?_
 rintro e w3 ⟨⟨he3, _⟩ | ⟨_, Ag, cg, rfl, hog⟩, hb3⟩
 ·exact absurd HZ0.out he3
 have hz3 := hb3.out.size
 have HB3 := Lib.hid (HB2.out.trans (hb3.out.mono HB2.out.size))
 have HK3 := Lib.hid (HK2.out.below hb3.out HK2.out.lt)
 have HKE3 := Lib.hid (HKE.out.below hb3.out HKE.out.lt)
 have HES3 := Lib.hid (HES.out.below hb3.out (by omega))
 obtain ⟨gs, hgs⟩ : ∃ gs, gs = thoTo ds ls 1 gapB nd := ⟨_, rfl⟩
 rw [← hgs] at hog ⊢
 have HGS : Hid (gs = gpsL ds ls) := by unfold Hid gpsL; rw [hgs, HLD.out]
 have HGO : Hid (GapsOk ds gs) := by rw [HGS.out]; exact tho_ok ls
 obtain ⟨ng, hng⟩ : ∃ ng, ng = gs.length := ⟨_, rfl⟩
 rw [← hng] at hog ⊢
 clear hgs hng hb3 HB2 HK2 HKE HES
 have k0 := HK3.out.c0
 have k1 := HK3.out.c1
 go_wp2_with fail
 clear k0 k1
 refine (Region_any An Ad Az Ag nn cn nd cd n c ng cg ns ds z gs w3 (HLa.out.below HB3.out (Nat.le_refl _)) ((HN.out.below HB3.out (Nat.le_refl _)).more HB3.out.size) ((HD.out.below HB3.out (Nat.le_refl _)).more HB3.out.size) ((HZ.out.below HB3.out (Nat.le_refl _)).more HB3.out.size) hog.out.sl HSN.out HSD.out HGO.out hnz).mono ?_
 rintro e w4 ⟨hcase, hb4⟩
 have HB4 := Lib.hid (HB3.out.trans (hb4.out.mono HB3.out.size))
 rcases hcase with ⟨he, rfl⟩ | ⟨he, AR, k, cr, rfl, hR⟩
 ·have q : (zoneErr ns ds z != 0) = true := by simpa using he
  have HNZ := Lib.hid he
  clear he hb4 hog
  go_wp2_with fail
  go_ret2
  exact ⟨.inl ⟨by rw [HE2.out]; exact HNZ.out, by rw [HE2.out]; rfl⟩, HB4.out⟩
 have HEZ := Lib.hid he
 obtain ⟨hck, hzp, hzr⟩ := zoneErr_zero he
 have HOK := Lib.hid (NetOk.of hck)
 have hnl := HOK.out.nl
 have HKL : Hid (k ≤ 1000000) := by have h1 := hR.out.len; have h2 := nodesL_len ns.length (Rgn ds gs z); unfold Hid; omega
 have HK4 := Lib.hid (HK3.out.below hb4.out HK3.out.lt)
 have HKE4 := Lib.hid (HKE3.out.below hb4.out HKE3.out.lt)
 have HES4 := Lib.hid (HES3.out.below hb4.out (by omega))
 have hz4 := hb4.out.size
 have HR := Lib.hid hR.out
 clear he hck hzp hzr hnl hb4 hR hog HB3 HK3 HKE3 HES3
 have hrow : ∀ g, (Value.slice AR k cr).ownBlock = some g → w3.heap.size ≤ g := fun g hg => (HR.out.lt g hg).1
 have HCL : Hid (ClG 212 #[.pointer (some ⟨w1.heap.size, 0, none⟩), .pointer (some ⟨w.heap.size, 0, none⟩)] (fun v => !cntB ds er v) (Value.slice AR k cr).ownBlock w4) := by
  intro W' x hg
  have hs := hg.size
  refine cnt1_any w.heap.size w1.heap.size An Ad Ae nn cn nd cd ne ce w1.heap.size ds er x W' ?_ ?_ ?_ ?_ (by omega) HERR.out (by omega)
  ·exact hg.cell (HK4.out.cell 1) (fun e => by have := hrow _ e.symm; simp at this; omega)
  ·exact hg.cell (HKE4.out.cell 0) (fun e => by have := hrow _ e.symm; simp at this; omega)
  ·exact ((HD.out.below HB4.out (Nat.le_refl _)).grown hg (by omega) (fun g e => by have := hrow g e; omega)).more (by omega)
  ·exact HES4.out.grown hg (by omega) (fun g e => by have := hrow g e; omega)
 have HDF := Lib.hid (delg_any 212 _ _ (enters_of Tryz.func212 (by kernel_rfl) rfl) AR k cr w3.heap.size _ w4 HR.out HKL.out HCL.out)
 clear hrow HCL
 go_wp2_with fail
 refine HDF.out.mono ?_
 rintro e w5 ⟨m, rfl, hO, hg⟩
 have HRL := Lib.hid (fun g hg => (HR.out.lt g hg).1)
 go_wp2_with fail
 go_ret2
 refine ⟨.inr ⟨by rw [HE2.out, HEZ.out], AR, m, cr, rfl, ?_⟩, HB4.out.trans (grown_belowE hg.out (by omega) (fun g e => by have := HRL.out g e; omega))⟩
 have : cntL ns ds ls z = (nodesL ns.length (Rgn ds gs z)).filter fun x => !!cntB ds er x := by
  unfold cntL ersL
  rw [← HGS.out, HLD.out, ← HERA.out]
  congr 1
  funext x
  rw [Bool.not_not]
 rw [this]
 exact hO.out.mono (by omega)
end Go.Proofs.YtfaknfmndafllaaGreatDoor
