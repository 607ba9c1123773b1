import Derived.Test.YtnpfkiidhidjbaaGreatDoorZ03
import Derived.Deep.LoopGhost
import Derived.Test.YtnpfkiidhidjbaaGreatDoorZ13
import Derived.Test.YtnpfkiidhidjbaaGreatDoorZ16
import Derived.Test.YtnpfkiidhidjbaaGreatDoorZ15
import Derived.Test.YtnpfkiidhidjbaaGreatDoorZ04
/-
 The reference of layer 6: masks; walk of masked.
-/
namespace Go.Proofs.YtnpfkiidhidjbaaGreatDoor
open Go.RowKit
def maskB (p : Int) : Bool := decide (1 ≤ p) && decide (p ≤ 3)
def MdR (w : World) (m : List Int) (n gk : Nat) (iv : Value) (wr : World) : Prop := ∃ i : Nat, iv = .int .i64 i ∧ i ≤ n ∧ gk = n - i ∧ Hid (∀ p ∈ m.take i, maskB p = true) ∧ Hid (Below w.heap.size w wr)
set_option maxRecDepth 100000 in
set_option maxHeartbeats 2000000 in
theorem masked_any (A : Option Addr) (n c B : Nat) (m : List Int) (w : World) (hs : Sl w B 1 A n c (intsV m)) (hB : B ≤ w.heap.size) : Calls Tryz.prog 128 #[.slice A n c] w fun e w' => e = .returned (.bool (m.all maskB)) ∧ Below w.heap.size w w' := by
 have HLM := Lib.hid (hs.len (fun _ => rfl) (by decide)); have HS := Lib.hid hs
 have hle := hs.le
 clear hs
 go_enter Tryz.func128, Tryz.ntmps128
 go_wp2_with fail
 go_loopg [3] n (MdR w m n)
 case atStart => exact ⟨0, rfl, Nat.zero_le _, rfl, (by unfold Hid; simp), Below.refl _ _⟩
 case round =>
  obtain ⟨i, rfl, hi, rfl, hok, hbl⟩ := hrel
  by_cases hlt : i < n
  ·obtain ⟨b, off, x, rfl, hb, hx, hc⟩ := (HS.out.below hbl.out hB).at1 hlt
   have HX := Lib.hid hx
   clear hx
   by_cases h1 : x < 1
   ·have q : decide (x < 1) = true := by simpa using h1
    have HR : Hid (m.all maskB = false) := by
     unfold Hid
     rw [List.all_eq_false]
     exact ⟨x, List.mem_of_getElem? HX.out, by simp [maskB]; omega⟩
    clear h1
    go_wp2_with fail
    go_ret
    exact ⟨ret_bool HR.out.symm, hbl.out⟩
   ·have q : decide (x < 1) = false := by simpa using h1
    by_cases h2 : 3 < x
    ·have q2 : decide (3 < x) = true := by simpa using h2
     have HR : Hid (m.all maskB = false) := by
      unfold Hid
      rw [List.all_eq_false]
      exact ⟨x, List.mem_of_getElem? HX.out, by simp [maskB]; omega⟩
     clear h1 h2
     go_wp2_with fail
     go_ret
     exact ⟨ret_bool HR.out.symm, hbl.out⟩
    ·have q2 : decide (3 < x) = false := by simpa using h2
     have HR : Hid (∀ p ∈ m.take (i + 1), maskB p = true) := by
      intro p hp
      rw [take_snoc HX.out] at hp
      rcases List.mem_append.1 hp with h | h
      ·exact hok.out p h
      ·rw [List.mem_singleton.1 h]; simp [maskB]; omega
     clear h1 h2
     go_wp2_with fail
     go_roundg (n - (i + 1))
     case rel => exact ⟨i + 1, by go_num, by omega, rfl, HR, hbl⟩
     case measure => omega
  ·obtain rfl : i = n := by omega
   have hii : decide (i < i) = false := by simp
   have HR : Hid (m.all maskB = true) := by
    unfold Hid
    have := hok.out
    rw [List.take_of_length_le (by rw [HLM.out]; exact Nat.le_refl _)] at this
    exact List.all_eq_true.2 this
   go_wp2_with fail
   go_ret
   exact ⟨ret_bool HR.out.symm, hbl.out⟩
end Go.Proofs.YtnpfkiidhidjbaaGreatDoor
/-
 Layer 6: walks of is, valid, Check, Unknown, Count.
-/
namespace Go.Proofs.YtnpfkiidhidjbaaGreatDoor
open Go.RowKit
set_option maxHeartbeats 1000000 in
theorem is_any (p : Int) (w : World) (hl : Laid w) : Calls Tryz.prog 79 #[.int .i64 p] w fun e w' => e = .returned (.bool (maskB p)) ∧ w = w' := by
 have c1 := hl.2 0 _ rfl
 have c3 := hl.2 2 _ rfl
 have c5 := hl.2 4 _ rfl
 have c7 := hl.2 6 _ rfl
 clear hl
 by_cases h0 : 0 ≤ p; rotate_left
 ·have h0' : decide (0 ≤ p) = false := by simpa using h0
  have HP : Hid (maskB p = false) := by unfold Hid; simp [maskB]; omega
  go_enter Tryz.func79, Tryz.ntmps79
  go_wp2_with fail
  go_ret
  exact ⟨ret_bool (by rw [HP.out]), rfl⟩
 by_cases h4 : p < 4; rotate_left
 ·have h4' : decide (p < 4) = false := by simpa using h4
  have HP : Hid (maskB p = false) := by unfold Hid; simp [maskB]; omega
  go_enter Tryz.func79, Tryz.ntmps79
  go_wp2_with fail
  go_ret
  exact ⟨ret_bool (by rw [HP.out]), rfl⟩
 rcases (show p = 0 ∨ p = 1 ∨ p = 2 ∨ p = 3 by omega) with rfl | rfl | rfl | rfl
 all_goals
  go_enter Tryz.func79, Tryz.ntmps79
  go_wp2_with fail
  go_ret
  exact ⟨ret_bool (by decide), rfl⟩
theorem notis_pred (w : World) (hl : Laid w) : Go.Proofs.PredAt Tryz.prog 136 #[] (Value.int .i64) (fun x => !maskB x) w := by
 intro W x hb
 unfold FnGives; dsimp only
 have HI := Lib.hid (is_any x W (hl.below hb (Nat.le_refl _)))
 clear hl hb
 generalize maskB x = r at *
 go_enter Tryz.func136, Tryz.ntmps136
 go_wp2_with fail
 refine HI.out.mono ?_
 rintro e w1 ⟨rfl, rfl⟩
 go_wp2_with fail
 go_ret
 exact ⟨rfl, 0, rfl⟩
theorem Sl.getB {w : World} {B n c : Nat} {A : Option Addr} {l : List Int} (h : Sl w B 1 A n c (intsV l)) (hn : 0 < n) : ∃ b off, A = some ⟨b, off, none⟩ ∧ b < B ∧ l.length = n ∧ ∀ j, j < l.length → w.cell? ⟨b, off + j, none⟩ = some (.int .i64 (l.getD j 0)) := by
 obtain ⟨b, off, e, hb, hc⟩ := h.2.2.2.2 hn
 refine ⟨b, off, e, hb, h.len (fun _ => rfl) (by decide), fun j hj => hc j _ ?_⟩
 have := flat_at (f := fun z => [Value.int .i64 z]) (size := 1) (fun _ => rfl) l j 0 _ (List.getElem?_eq_getElem hj) (by decide)
 rw [Nat.mul_one] at this
 rw [List.getD_eq_getElem?_getD, List.getElem?_eq_getElem hj]
 exact this
theorem valid_any (A : Option Addr) (n c B : Nat) (m : List Int) (w : World) (hl : Laid w) (hs : Sl w B 1 A n c (intsV m)) : Calls Tryz.prog 121 #[.slice A n c] w fun e w' => e = .returned (.bool (m.all maskB)) ∧ Below w.heap.size w w' := by
 have HNA : Hid (m.all maskB = !(m.any fun x => !maskB x)) := by unfold Hid; rw [List.all_eq_not_any_not]
 have hlen : m.length = n := hs.len (fun _ => rfl) (by decide)
 have hle := hs.le
 have HC : Hid (Calls Tryz.prog 46 #[.slice A n c, .func (.func 136) #[] #[]] w fun e w' => e = .returned (.bool (m.any fun x => !maskB x)) ∧ Below w.heap.size w w') := by
  rcases Nat.eq_zero_or_pos n with rfl | h0
  ·have : m = [] := List.eq_nil_of_length_eq_zero hlen
   subst this
   exact (Tryz.slices_ContainsFunc_empty (α := Int) A c _ w).mono (by rintro e w1 ⟨rfl, rfl⟩; exact ⟨rfl, Below.refl _ _⟩)
  ·obtain ⟨b, off, rfl, hb, _, hc⟩ := hs.getB h0
   refine (Tryz.slices_ContainsFunc (Value.int .i64) (fun x => !maskB x) 136 #[] (enters_of Tryz.func136 (by kernel_rfl) rfl) b off n c m w (notis_pred w hl) (by omega) (by omega) (fun j hj => by rw [hc j hj, List.getD_eq_getElem?_getD, List.getElem!_eq_getElem?_getD]; rfl)).mono ?_
   rintro e w1 ⟨rfl, q, rfl⟩
   rw [List.take_of_length_le (by omega)]
   exact ⟨rfl, below_drewN (Below.refl _ _) q⟩
 clear hl hs hlen hle
 rw [HNA.out]
 clear HNA
 generalize (m.any fun x => !maskB x) = r at *
 go_enter Tryz.func121, Tryz.ntmps121
 go_wp2_with fail
 refine HC.out.mono ?_
 rintro e w1 ⟨rfl, hb⟩
 go_wp2_with fail
 go_ret
 exact ⟨rfl, hb⟩
def maskErr (ns : List Nd) (ds : List Dv) (s : List Int) : Int := if checkN ns ds ≠ 0 then checkN ns ds else if s.length ≠ ds.length then 9 else if ∀ p ∈ s, maskB p = true then 0 else 10
set_option maxHeartbeats 2000000 in
theorem mcheck_is (An Ad As : Option Addr) (nn cn nd cd n c Bn Bd Bs : Nat) (ns : List Nd) (ds : List Dv) (s : List Int) (w : World) (hl : Laid w) (hn : Sl w Bn 3 An nn cn (ns.flatMap Nd.cells)) (hd : Sl w Bd 5 Ad nd cd (ds.flatMap Dv.cells)) (hs : Sl w Bs 1 As n c (intsV s)) (hBn : Bn ≤ w.heap.size) (hBd : Bd ≤ w.heap.size) (hBs : Bs ≤ w.heap.size)
  (hsn : ∀ x ∈ ns, x.name.size ≤ 9223372036854775807) (hsd : ∀ x ∈ ds, x.name.size ≤ 9223372036854775807) :
  Calls Tryz.prog 60 #[.agg #[.slice An nn cn, .slice Ad nd cd], .slice As n c, .func (.func 79) #[] #[]] w fun e w' => e = .returned (.int .i64 (maskErr ns ds s)) ∧ Below w.heap.size w w' := by
 have HLS := Lib.hid (hs.len (fun _ => rfl) (by decide)); have HLD := Lib.hid (hd.len (fun _ => rfl) (by decide))
 obtain ⟨hnc, hcm⟩ := hs.le
 obtain ⟨hdc, hdm⟩ := hd.le
 have HE : Hid (maskErr ns ds s = if checkN ns ds ≠ 0 then checkN ns ds else if n ≠ nd then 9 else if ∀ p ∈ s, maskB p = true then 0 else 10) := by unfold Hid; rw [maskErr, HLS.out, HLD.out]
 have HL := Lib.hid hl; have HN := Lib.hid hn; have HD := Lib.hid hd; have HS := Lib.hid hs
 have HCK := Lib.hid (ncheck_any An Ad nn cn nd cd Bn Bd ns ds (w.alloc (.cells #[.slice An nn cn, .slice Ad nd cd] 26)) (hl.alloc _) (hn.alloc hBn _) (hd.alloc hBd _) (by simp; omega) (by simp; omega) hsn hsd)
 clear hl hn hd hs hsn hsd
 generalize checkN ns ds = er at *
 have HBW : Hid (Below w.heap.size w (w.alloc (.cells #[.slice An nn cn, .slice Ad nd cd] 26))) := (Below.refl _ _).alloc (Nat.le_refl _) _
 by_cases h0 : er = 0; rotate_left
 ·have h0' : (er != 0) = true := by simpa using h0
  have HR : Hid (maskErr ns ds s = er) := by unfold Hid; rw [HE.out, if_pos h0]
  clear h0
  go_enter Tryz.func60, Tryz.ntmps60
  go_wp2_with fail
  refine HCK.out.mono ?_
  rintro e w1 ⟨rfl, hb1⟩
  go_wp2_with fail
  go_ret
  exact ⟨ret_int (by rw [HR.out]), HBW.out.trans (hb1.mono (by simp))⟩
 subst h0
 go_enter Tryz.func60, Tryz.ntmps60
 go_wp2_with fail
 refine HCK.out.mono ?_
 rintro e w1 ⟨rfl, hb1⟩
 have HK1 := Lib.hid ((Blk.new w 26 #[.slice An nn cn, .slice Ad nd cd]).below hb1 (by simp))
 have HB1 := Lib.hid (HBW.out.trans (hb1.mono (by simp)))
 have k1 : w1.cell? ⟨w.heap.size, 1, none⟩ = some (.slice Ad nd cd) := HK1.out.cell 1
 have hz1 := HB1.out.size
 clear hb1 HCK
 by_cases hnd : n = nd; rotate_left
 ·have q : decide (n = nd) = false := by simpa using hnd
  have q' : ((n : Int) != (nd : Int)) = true := by simp; omega
  have HR : Hid (maskErr ns ds s = 9) := by unfold Hid; rw [HE.out, if_neg (by simp), if_pos hnd]
  clear hnd
  go_wp2_with fail
  go_ret
  exact ⟨ret_int (by rw [HR.out]), HB1.out⟩
 subst hnd
 have HL1 := Lib.hid (HL.out.below HB1.out (Nat.le_refl _))
 have HS1 := Lib.hid (HS.out.below HB1.out hBs)
 go_wp2_with fail
 clear k1
 go_loop [9, 23] (fun _ iv => ∃ i : Nat, iv = .int .i64 i ∧ i ≤ n ∧ Hid (∀ p ∈ s.take i, maskB p = true)) (fun _ iv => n - (intOf iv).toNat)
 case atStart => exact ⟨0, rfl, Nat.zero_le _, by simp [Hid]⟩
 case round =>
  obtain ⟨i, rfl, hi, hok⟩ := hrel
  by_cases hlt : i < n
  ·obtain ⟨b, off, x, rfl, hb, hx, hc⟩ := HS1.out.at1 hlt
   have HX := Lib.hid hx; clear hx
   have HPA := Lib.hid (is_any x w1 HL1.out)
   rcases hp : maskB x with _ | _
   ·have HR : Hid (maskErr ns ds s = 10) := by
     unfold Hid
     rw [HE.out, if_neg (by simp), if_neg (by simp), if_neg (fun h => by have := h x (List.mem_of_getElem? HX.out); rw [hp] at this; cases this)]
    rw [hp] at HPA
    clear hp
    go_wp2_with fail
    refine HPA.out.mono ?_
    rintro e w2 ⟨rfl, rfl⟩
    go_wp2_with fail
    go_ret
    exact ⟨ret_int (by rw [HR.out]), HB1.out⟩
   ·rw [hp] at HPA
    have HP := Lib.hid hp; clear hp
    go_wp2_with fail
    refine HPA.out.mono ?_
    rintro e w2 ⟨rfl, rfl⟩
    go_wp2_with fail
    go_round
    case rel =>
     refine ⟨i + 1, by go_num, by omega, fun p hp => ?_⟩
     rw [take_snoc HX.out] at hp
     rcases List.mem_append.1 hp with h | h
     ·exact hok.out p h
     ·rw [List.mem_singleton.1 h]; exact HP.out
    case measure => simp [intOf]; omega
  ·obtain rfl : i = n := by omega
   have hjj : decide (i < i) = false := by simp
   have HR : Hid (maskErr ns ds s = 0) := by
    unfold Hid
    have := hok.out
    rw [List.take_of_length_le (by rw [HLS.out]; exact Nat.le_refl _)] at this
    rw [HE.out, if_neg (by simp), if_neg (by simp), if_pos this]
   go_wp2_with fail
   go_ret
   exact ⟨ret_int (by rw [HR.out]), HB1.out⟩
theorem mcheckm_any (An Ad As : Option Addr) (nn cn nd cd n c Bn Bd Bs : Nat) (ns : List Nd) (ds : List Dv) (s : List Int) (w : World) (hl : Laid w) (hn : Sl w Bn 3 An nn cn (ns.flatMap Nd.cells)) (hd : Sl w Bd 5 Ad nd cd (ds.flatMap Dv.cells)) (hs : Sl w Bs 1 As n c (intsV s)) (hBn : Bn ≤ w.heap.size) (hBd : Bd ≤ w.heap.size) (hBs : Bs ≤ w.heap.size)
  (hsn : ∀ x ∈ ns, x.name.size ≤ 9223372036854775807) (hsd : ∀ x ∈ ds, x.name.size ≤ 9223372036854775807) :
  Calls Tryz.prog 48 #[.agg #[.slice An nn cn, .slice Ad nd cd], .slice As n c] w fun e w' => e = .returned (.int .i64 (maskErr ns ds s)) ∧ Below w.heap.size w w' := by
 have HC := Lib.hid (mcheck_is An Ad As nn cn nd cd n c Bn Bd Bs ns ds s (w.alloc (.cells #[.slice An nn cn, .slice Ad nd cd] 26)) (hl.alloc _) (hn.alloc hBn _) (hd.alloc hBd _) (hs.alloc hBs _) (by simp; omega) (by simp; omega) (by simp; omega) hsn hsd)
 clear hl hn hd hs hsn hsd
 go_enter Tryz.func48, Tryz.ntmps48
 go_wp2_with fail
 refine HC.out.mono ?_
 rintro e w1 ⟨rfl, hb1⟩
 go_wp2_with fail
 go_ret
 exact ⟨rfl, ((Below.refl _ _).alloc (Nat.le_refl _) _).trans (hb1.mono (by simp))⟩
/-- The unknown devices, as a row of the call's own. -/
def UnkPost (w : World) (m : List Int) (e : Ending) (w' : World) : Prop := ∃ (A : Option Addr) (k c : Nat), e = .returned (.slice A k c) ∧ Hid (k = cntN m m.length) ∧ Hid (IntsO w' w.heap.size A k c ((unkN m m.length).map (Nat.cast (R := Int)))) ∧ Hid (Below w.heap.size w w')
def UnR (w : World) (m : List Int) (n gk : Nat) (ov iv : Value) (wr : World) : Prop := ∃ (i k c : Nat) (A : Option Addr), iv = .int .i64 i ∧ ov = .slice A k c ∧ i ≤ n ∧ gk = n - i ∧ k ≤ i ∧ Hid (k = cntN m i) ∧ Hid (IntsO wr w.heap.size A k c ((unkN m i).map (Nat.cast (R := Int)))) ∧ Hid (Below w.heap.size w wr)
theorem unk_put {m : List Int} {i : Nat} (h : m[i]? = some 3) : (unkN m (i + 1)).map (Nat.cast (R := Int)) = (unkN m i).map (Nat.cast (R := Int)) ++ [(i : Int)] := by rw [unkN, if_pos h]; simp
theorem unk_pass {m : List Int} {i : Nat} (h : m[i]? ≠ some 3) : unkN m (i + 1) = unkN m i := by rw [unkN, if_neg h]
theorem cnt_put {m : List Int} {i k : Nat} (h : m[i]? = some 3) (hk : k = cntN m i) : k + 1 = cntN m (i + 1) := by rw [cntN_succ, if_pos h, hk]
theorem cnt_pass {m : List Int} {i k : Nat} (h : m[i]? ≠ some 3) (hk : k = cntN m i) : k = cntN m (i + 1) := by rw [cntN_succ, if_neg h, hk]; rfl
set_option maxRecDepth 100000 in
set_option maxHeartbeats 2000000 in
theorem unknown_any (A : Option Addr) (n c B : Nat) (m : List Int) (w : World) (hs : Sl w B 1 A n c (intsV m)) (hB : B ≤ w.heap.size) (hn : n ≤ 1000000) : Calls Tryz.prog 99 #[.slice A n c] w (UnkPost w m) := by
 have HLM := Lib.hid (hs.len (fun _ => rfl) (by decide)); have HS := Lib.hid hs
 clear hs
 go_enter Tryz.func99, Tryz.ntmps99
 go_wp2_with fail
 go_loopg [3, 8] n (UnR w m n)
 case atStart => exact ⟨0, 0, 0, none, rfl, rfl, Nat.zero_le _, rfl, Nat.le_refl _, rfl, World.ownsRow_nil _ _ _ _, Below.refl _ _⟩
 case round =>
  obtain ⟨i, k, co, Ao, rfl, rfl, hi, rfl, hki, hk, hO, hbl⟩ := hrel
  by_cases hlt : i < n
  ·obtain ⟨b, off, x, rfl, hb, hx, hc⟩ := (HS.out.below hbl.out hB).at1 hlt
   have HX := Lib.hid hx
   clear hx
   by_cases h3 : x = 3
   ·subst h3
    have HU := Lib.hid (unk_put HX.out); have HK := Lib.hid (cnt_put HX.out hk.out)
    go_wp2_with (at_builtin; go_must (refine wpList_app rfl (.tmp 15) (.tmp 17) rfl el_int (by rfl) (hO.out.alloc _) (by rfl) (Sl.newest (n := 1) (by simp) (by rfl) (by decide)) (by simp [Value.oneCell']) (by omega) (by omega) (by have := hbl.out.size; simp; omega) ?_; intro A' cap' w3 hown3 hgr3 hat3; have HO3 := Lib.hid hown3; have HG3 := Lib.hid hgr3; clear hown3 hgr3 hat3))
    go_roundg (n - (i + 1))
    case rel =>
     refine ⟨i + 1, k + 1, cap', A', by go_num, rfl, by omega, rfl, by omega, HK, ?_, ?_⟩
     ·have h := HO3.out
      unfold Hid; rw [HU.out]; unfold IntsO; rw [intsV_append]
      exact h
     ·have h1 := hbl.out.alloc hbl.out.size (.cells #[.int .i64 (i : Int)] 3)
      refine h1.trans ⟨HG3.out.os, HG3.out.tape, HG3.out.output, HG3.out.size, fun q hq => HG3.out.block q (by have := h1.size; omega) (fun e => by have := (hO.out.lt q e.symm).1; omega)⟩
    case measure => omega
   ·have q : (x == 3) = false := by simpa using h3
    have h3' : m[i]? ≠ some 3 := fun h => h3 (by rw [HX.out] at h; injection h)
    have HU := Lib.hid (unk_pass h3'); have HK := Lib.hid (cnt_pass h3' hk.out)
    clear h3 h3'
    go_wp2_with fail
    go_roundg (n - (i + 1))
    case rel => exact ⟨i + 1, k, co, Ao, by go_num, rfl, by omega, rfl, by omega, HK, (by unfold Hid; rw [HU.out]; exact hO.out), hbl⟩
    case measure => omega
  ·obtain rfl : i = n := by omega
   have hii : decide (i < i) = false := by simp
   go_wp2_with fail
   go_ret
   refine ⟨Ao, k, co, rfl, ?_, ?_, hbl⟩
   ·unfold Hid; rw [HLM.out]; exact hk.out
   ·unfold Hid; rw [HLM.out]; exact hO.out
end Go.Proofs.YtnpfkiidhidjbaaGreatDoor
/-
 Layer 6: walk of Count; the reference's masked, Unknown, Count.
-/
namespace Go.Proofs.YtnpfkiidhidjbaaGreatDoor
open Go.RowKit
/-- The error of masks whose states are counted; their number. -/
def cErr (m : List Int) : Int := if m.all maskB = true then (if 8 < cntN m m.length then 1 else 0) else 10
def cntV (m : List Int) : Int := if cErr m = 0 then (2 ^ cntN m m.length : Nat) else 0
set_option maxRecDepth 100000 in
set_option maxHeartbeats 2000000 in
theorem count_any (A : Option Addr) (n c B : Nat) (m : List Int) (w : World) (hl : Laid w) (hs : Sl w B 1 A n c (intsV m)) (hB : B ≤ w.heap.size) (hn : n ≤ 1000000) : Calls Tryz.prog 98 #[.slice A n c] w fun e w' => e = .returned (.tuple #[.int .i64 (cntV m), .int .i64 (cErr m)]) ∧ Below w.heap.size w w' := by
 have HV := Lib.hid (valid_any A n c B m w hl hs)
 have HU : Hid (∀ w1, Below w.heap.size w w1 → Calls Tryz.prog 99 #[.slice A n c] w1 (UnkPost w1 m)) := fun w1 hb => unknown_any A n c B m w1 (hs.below hb hB) (Nat.le_trans hB hb.size) hn
 clear hl; clear hs
 rcases hv : m.all maskB with _ | _
 ·have HE : Hid (cErr m = 10) := by unfold Hid cErr; rw [hv]; rfl
  have HN : Hid (cntV m = 0) := by unfold Hid cntV; rw [HE.out]; rfl
  rw [HE.out, HN.out]
  rw [hv] at HV
  clear hv HE HN
  go_enter Tryz.func98, Tryz.ntmps98
  go_wp2_with fail
  refine HV.out.mono ?_
  rintro e w1 ⟨rfl, hb1⟩
  go_wp2_with fail
  go_ret2
  exact ⟨rfl, hb1⟩
 rw [hv] at HV
 by_cases h8 : 8 < cntN m m.length
 ·have HE : Hid (cErr m = 1) := by unfold Hid cErr; rw [hv, if_pos rfl, if_pos h8]
  have HN : Hid (cntV m = 0) := by unfold Hid cntV; rw [HE.out]; rfl
  have H8 := Lib.hid h8
  rw [HE.out, HN.out]
  clear hv HE HN h8
  go_enter Tryz.func98, Tryz.ntmps98
  go_wp2_with fail
  refine HV.out.mono ?_
  rintro e w1 ⟨rfl, hb1⟩
  go_wp2_with fail
  refine (HU.out w1 hb1).mono ?_
  rintro e w2 ⟨Au, k, cu, rfl, hk, hO, hb2⟩
  have hk8 : decide ((8 : Int) < (k : Int)) = true := by have := hk.out; have := H8.out; simp; omega
  go_wp2_with fail
  go_ret2
  exact ⟨rfl, hb1.trans (hb2.out.mono hb1.size)⟩
 ·have HE : Hid (cErr m = 0) := by unfold Hid cErr; rw [hv, if_pos rfl, if_neg h8]
  have HN : Hid (cntV m = (2 ^ cntN m m.length : Nat)) := by unfold Hid cntV; rw [HE.out]; rfl
  have H8 := Lib.hid h8
  rw [HE.out]
  clear hv HE h8
  go_enter Tryz.func98, Tryz.ntmps98
  go_wp2_with fail
  refine HV.out.mono ?_
  rintro e w1 ⟨rfl, hb1⟩
  go_wp2_with fail
  refine (HU.out w1 hb1).mono ?_
  rintro e w2 ⟨Au, k, cu, rfl, hk, hO, hb2⟩
  have hk9 : k = 0 ∨ k = 1 ∨ k = 2 ∨ k = 3 ∨ k = 4 ∨ k = 5 ∨ k = 6 ∨ k = 7 ∨ k = 8 := by have := hk.out; have := H8.out; omega
  clear H8 hO
  rcases hk9 with rfl | rfl | rfl | rfl | rfl | rfl | rfl | rfl | rfl
  all_goals
   go_wp2_with fail
   go_ret2
   exact ⟨by rw [HN.out, ← hk.out]; rfl, hb1.trans (hb2.out.mono hb1.size)⟩
set_option maxRecDepth 100000 in
set_option maxHeartbeats 2000000 in
theorem runknown_any (A : Option Addr) (n c B : Nat) (m : List Int) (w : World) (hs : Sl w B 1 A n c (intsV m)) (hB : B ≤ w.heap.size) (hn : n ≤ 1000000) : Calls Tryz.prog 129 #[.slice A n c] w (UnkPost w m) := by
 have HLM := Lib.hid (hs.len (fun _ => rfl) (by decide)); have HS := Lib.hid hs
 clear hs
 go_enter Tryz.func129, Tryz.ntmps129
 go_wp2_with fail
 go_loopg [3, 4] n (UnR w m n)
 case atStart => exact ⟨0, 0, 0, none, rfl, rfl, Nat.zero_le _, rfl, Nat.le_refl _, rfl, World.ownsRow_nil _ _ _ _, Below.refl _ _⟩
 case round =>
  obtain ⟨i, k, co, Ao, rfl, rfl, hi, rfl, hki, hk, hO, hbl⟩ := hrel
  by_cases hlt : i < n
  ·obtain ⟨b, off, x, rfl, hb, hx, hc⟩ := (HS.out.below hbl.out hB).at1 hlt
   have HX := Lib.hid hx
   clear hx
   by_cases h3 : x = 3
   ·subst h3
    have HU := Lib.hid (unk_put HX.out); have HK := Lib.hid (cnt_put HX.out hk.out)
    go_wp2_with (at_builtin; go_must (refine wpList_app rfl (.tmp 16) (.tmp 18) rfl el_int (by rfl) (hO.out.alloc _) (by rfl) (Sl.newest (n := 1) (by simp) (by rfl) (by decide)) (by simp [Value.oneCell']) (by omega) (by omega) (by have := hbl.out.size; simp; omega) ?_; intro A' cap' w3 hown3 hgr3 hat3; have HO3 := Lib.hid hown3; have HG3 := Lib.hid hgr3; clear hown3 hgr3 hat3))
    go_roundg (n - (i + 1))
    case rel =>
     refine ⟨i + 1, k + 1, cap', A', by go_num, rfl, by omega, rfl, by omega, HK, ?_, ?_⟩
     ·have h := HO3.out
      unfold Hid; rw [HU.out]; unfold IntsO; rw [intsV_append]
      exact h
     ·have h1 := hbl.out.alloc hbl.out.size (.cells #[.int .i64 (i : Int)] 3)
      refine h1.trans ⟨HG3.out.os, HG3.out.tape, HG3.out.output, HG3.out.size, fun q hq => HG3.out.block q (by have := h1.size; omega) (fun e => by have := (hO.out.lt q e.symm).1; omega)⟩
    case measure => omega
   ·have q : (x == 3) = false := by simpa using h3
    have h3' : m[i]? ≠ some 3 := fun h => h3 (by rw [HX.out] at h; injection h)
    have HU := Lib.hid (unk_pass h3'); have HK := Lib.hid (cnt_pass h3' hk.out)
    clear h3 h3'
    go_wp2_with fail
    go_roundg (n - (i + 1))
    case rel => exact ⟨i + 1, k, co, Ao, by go_num, rfl, by omega, rfl, by omega, HK, (by unfold Hid; rw [HU.out]; exact hO.out), hbl⟩
    case measure => omega
  ·obtain rfl : i = n := by omega
   have hii : decide (i < i) = false := by simp
   go_wp2_with fail
   go_ret
   refine ⟨Ao, k, co, rfl, ?_, ?_, hbl⟩
   ·unfold Hid; rw [HLM.out]; exact hk.out
   ·unfold Hid; rw [HLM.out]; exact hO.out
set_option maxRecDepth 100000 in
set_option maxHeartbeats 2000000 in
theorem rcount_any (A : Option Addr) (n c B : Nat) (m : List Int) (w : World) (hs : Sl w B 1 A n c (intsV m)) (hB : B ≤ w.heap.size) (hn : n ≤ 1000000) : Calls Tryz.prog 111 #[.slice A n c] w fun e w' => e = .returned (.tuple #[.int .i64 (cntV m), .int .i64 (cErr m)]) ∧ Below w.heap.size w w' := by
 have HV := Lib.hid (masked_any A n c B m w hs hB)
 have HU : Hid (∀ w1, Below w.heap.size w w1 → Calls Tryz.prog 129 #[.slice A n c] w1 (UnkPost w1 m)) := fun w1 hb => runknown_any A n c B m w1 (hs.below hb hB) (Nat.le_trans hB hb.size) hn
 clear hs
 rcases hv : m.all maskB with _ | _
 ·have HE : Hid (cErr m = 10) := by unfold Hid cErr; rw [hv]; rfl
  have HN : Hid (cntV m = 0) := by unfold Hid cntV; rw [HE.out]; rfl
  rw [HE.out, HN.out]
  rw [hv] at HV
  clear hv HE HN
  go_enter Tryz.func111, Tryz.ntmps111
  go_wp2_with fail
  refine HV.out.mono ?_
  rintro e w1 ⟨rfl, hb1⟩
  go_wp2_with fail
  go_ret2
  exact ⟨rfl, hb1⟩
 rw [hv] at HV
 by_cases h8 : 8 < cntN m m.length
 ·have HE : Hid (cErr m = 1) := by unfold Hid cErr; rw [hv, if_pos rfl, if_pos h8]
  have HN : Hid (cntV m = 0) := by unfold Hid cntV; rw [HE.out]; rfl
  have H8 := Lib.hid h8
  rw [HE.out, HN.out]
  clear hv HE HN h8
  go_enter Tryz.func111, Tryz.ntmps111
  go_wp2_with fail
  refine HV.out.mono ?_
  rintro e w1 ⟨rfl, hb1⟩
  go_wp2_with fail
  refine (HU.out w1 hb1).mono ?_
  rintro e w2 ⟨Au, k, cu, rfl, hk, hO, hb2⟩
  have hk8 : decide ((8 : Int) < (k : Int)) = true := by have := hk.out; have := H8.out; simp; omega
  go_wp2_with fail
  go_ret2
  exact ⟨rfl, hb1.trans (hb2.out.mono hb1.size)⟩
 ·have HE : Hid (cErr m = 0) := by unfold Hid cErr; rw [hv, if_pos rfl, if_neg h8]
  have HN : Hid (cntV m = (2 ^ cntN m m.length : Nat)) := by unfold Hid cntV; rw [HE.out]; rfl
  have H8 := Lib.hid h8
  rw [HE.out]
  clear hv HE h8
  go_enter Tryz.func111, Tryz.ntmps111
  go_wp2_with fail
  refine HV.out.mono ?_
  rintro e w1 ⟨rfl, hb1⟩
  go_wp2_with fail
  refine (HU.out w1 hb1).mono ?_
  rintro e w2 ⟨Au, k, cu, rfl, hk, hO, hb2⟩
  have hk9 : k = 0 ∨ k = 1 ∨ k = 2 ∨ k = 3 ∨ k = 4 ∨ k = 5 ∨ k = 6 ∨ k = 7 ∨ k = 8 := by have := hk.out; have := H8.out; omega
  clear H8 hO
  rcases hk9 with rfl | rfl | rfl | rfl | rfl | rfl | rfl | rfl | rfl
  all_goals
   go_wp2_with fail
   go_ret2
   exact ⟨by rw [HN.out, ← hk.out]; rfl, hb1.trans (hb2.out.mono hb1.size)⟩
end Go.Proofs.YtnpfkiidhidjbaaGreatDoor
