import Derived.Test.YtnpfkiidhidjbaaGreatDoorZ31
import Derived.Test.YtnpfkiidhidjbaaGreatDoorZ20
import Derived.Test.YtnpfkiidhidjbaaGreatDoorZ30
import Derived.Deep.LoopGhost
/-
 Layers 6 and 13: walks of fill, Highest, Fault, Safe, Witness.
-/
namespace Go.Proofs.YtnpfkiidhidjbaaGreatDoor
open Go.RowKit
def fillL (m : List Int) (p : Int) : List Int := m.map fun x => if x = 3 then p else x
def FillTo (m : List Int) (p : Int) (j : Nat) (l : List Int) : Prop := l.length = m.length ∧ ∀ d, d < m.length → l[d]? = some (if m[d]? = some 3 ∧ cntN m d < j then p else m.getD d 0)
section
variable {m l : List Int} {p : Int} {j d : Nat}
theorem FillTo.start : FillTo m p 0 m := ⟨rfl, fun d hd => by rw [if_neg (by omega), List.getD_eq_getElem?_getD, List.getElem?_eq_getElem hd]; rfl⟩
theorem FillTo.step (h : FillTo m p j l) (hd : (unkN m m.length)[j]? = some d) : FillTo m p (j + 1) (l.set d p) := by
 obtain ⟨h3, hlt, hc⟩ := unkN_at m _ _ _ hd
 refine ⟨by simp [h.1], fun e he => ?_⟩
 rw [List.getElem?_set]
 by_cases hde : d = e
 ·subst hde
  rw [if_pos rfl, if_pos (by rw [h.1]; exact he), if_pos ⟨h3, by omega⟩]
 ·rw [if_neg hde, h.2 e he]
  congr 1
  by_cases h3e : m[e]? = some 3
  ·have : cntN m e ≠ j := fun hh => hde (cntN_inj h3 h3e (by omega))
   by_cases hlt2 : cntN m e < j
   ·rw [if_pos ⟨h3e, hlt2⟩, if_pos ⟨h3e, by omega⟩]
   ·rw [if_neg (fun x => hlt2 x.2), if_neg (fun x => by omega)]
  ·rw [if_neg (fun x => h3e x.1), if_neg (fun x => h3e x.1)]
theorem FillTo.done (h : FillTo m p (cntN m m.length) l) : l = fillL m p := by
 apply List.ext_getElem?
 intro d
 unfold fillL
 rw [List.getElem?_map]
 by_cases hd : d < m.length
 ·rw [h.2 d hd, List.getD_eq_getElem?_getD, List.getElem?_eq_getElem hd]
  simp only [Option.map_some, Option.getD_some, Option.some.injEq]
  by_cases h3 : m[d] = 3
  ·rw [if_pos h3, if_pos ⟨h3, cntN_lt (by rw [List.getElem?_eq_getElem hd, h3]) hd⟩]
  ·rw [if_neg h3, if_neg (fun x => h3 x.1)]
 ·rw [List.getElem?_eq_none (by rw [h.1]; omega), List.getElem?_eq_none (by omega)]; rfl
end
theorem fillL_len (m : List Int) (p : Int) : (fillL m p).length = m.length := List.length_map _
theorem fillL_state {ns : List Nd} {ds : List Dv} {m : List Int} (h : maskErr ns ds m = 0) {p : Int} (hp : p = 1 ∨ p = 2) : stateErr ns ds (fillL m p) = 0 := by
 obtain ⟨h1, h2, h3⟩ := maskErr_net h
 unfold stateErr
 rw [if_neg (by simp [h1]), if_neg (by rw [fillL_len]; omega), if_pos]
 intro q hq
 obtain ⟨x, hx, rfl⟩ := List.mem_map.1 hq
 have h4 := h3 x hx
 split
 ·rcases hp with rfl | rfl <;> rfl
 ·simp [maskB, posB] at h4 ⊢; omega
def FiG (W : World) (B1 B0 : Nat) (Ak Au : Option Addr) (ck u cu : Nat) (m : List Int) (p : Int) (n gk : Nat) (iv : Value) (wr : World) : Prop := ∃ (j : Nat) (l : List Int), iv = .int .i64 j ∧ j ≤ n ∧ gk = n - j ∧ Hid (IntsO wr B0 Ak m.length ck l) ∧ Hid (FillTo m p j l) ∧ Hid (IntsO wr B1 Au u cu ((unkN m m.length).map (Nat.cast (R := Int)))) ∧ Hid (W.grownBy wr (Value.slice Ak m.length ck).ownBlock)
set_option maxRecDepth 100000 in
set_option maxHeartbeats 4000000 in
theorem fill_any (A : Option Addr) (c B : Nat) (m : List Int) (p : Int) (w : World) (hs : Sl w B 1 A m.length c (intsV m)) (hB : B ≤ w.heap.size) (hn : m.length ≤ 1000) : Calls Tryz.prog 82 #[.slice A m.length c, .int .i64 p] w (IntsPost w (fillL m p)) := by
 have HS := Lib.hid hs
 have HC := Lib.hid (clone_any A m.length c B m w hs hB (by omega))
 clear hs
 go_enter Tryz.func82, Tryz.ntmps82
 go_wp2_with fail
 refine HC.out.mono ?_
 rintro e w1 ⟨Ak, ck, rfl, hO1, hb1⟩
 go_wp2_with fail
 refine (unknown_any A m.length c B m w1 (HS.out.below hb1.out hB) (Nat.le_trans hB hb1.out.size) (by omega)).mono ?_
 rintro e W ⟨Au, u, cu, rfl, hu, hOu, hb2⟩
 have HB1 := Lib.hid (hb1.out.trans (hb2.out.mono hb1.out.size))
 have HOW : Hid (IntsO W w.heap.size Ak m.length ck m) := hO1.out.later hb2.out
 have hz1 := hb1.out.size
 have HAL : Hid (∀ q, (Value.slice Ak m.length ck).ownBlock = some q → w.heap.size ≤ q ∧ q < w1.heap.size) := hO1.out.lt
 have HFI := Lib.hid (FillTo.start (m := m) (p := p))
 clear hO1 HC hb1 hb2
 have hu1 : u ≤ 1000 := by have := cntN_le m m.length; have := hu.out; omega
 have HGR := Lib.hid (grown_refl W (Value.slice Ak m.length ck).ownBlock)
 go_wp2_with fail
 go_loopg [13] u (FiG W w1.heap.size w.heap.size Ak Au ck u cu m p u)
 case atStart => exact ⟨0, m, rfl, Nat.zero_le _, rfl, HOW, HFI, hOu, HGR⟩
 case round =>
  clear HOW HFI hOu HGR
  obtain ⟨j, l, rfl, hj, rfl, hO, hfi, hOu, hgr⟩ := hrel
  by_cases hjt : j < u
  ·obtain ⟨ub, uo, x, rfl, hub, hx, hcu⟩ := hOu.out.sl.at1 hjt
   rw [List.getElem?_map] at hx
   obtain ⟨d, hd, rfl⟩ : ∃ d, (unkN m m.length)[j]? = some d ∧ (d : Int) = x := by
    rcases hq : (unkN m m.length)[j]? with _ | d
    ·rw [hq] at hx; cases hx
    ·rw [hq] at hx; exact ⟨d, rfl, by injection hx⟩
   have hdm : d < m.length := (unkN_at m _ _ _ hd).2.1
   have HF2 := Lib.hid (hfi.out.step hd)
   have HAK := HAL.out
   have HUL := hOu.out.lt
   obtain ⟨gk, y, rfl, hgb, hgl, hy, hcy, hfy, hst⟩ := hO.out.at hdm
   have hgk := (HAK gk rfl).2
   have HSW := Lib.hid (hst p)
   have HOU2 := Lib.hid (hOu.out.kept (grown_cell wr ⟨gk, d, none⟩ (.int .i64 p)) (ne_row fun b e => by have := (HUL b e).1; simp; omega))
   have HG2 : Hid (W.grownBy (wr.setCell ⟨gk, d, none⟩ (.int .i64 p)) (Value.slice (some ⟨gk, 0, none⟩) m.length ck).ownBlock) := grown_trans hgr.out (grown_cell wr ⟨gk, d, none⟩ (.int .i64 p))
   clear hx hd hy hst hO hOu hgr HUL HAK
   go_wp2_with fail
   go_roundg (u - (j + 1))
   case rel => exact ⟨j + 1, _, by go_num, by omega, rfl, HSW, HF2, HOU2, HG2⟩
   case measure => omega
  ·obtain rfl : j = u := by omega
   have hjj : decide (j < j) = false := by simp
   have HLQ : Hid (l = fillL m p) := by
    have := hfi.out
    rw [hu.out] at this
    exact this.done
   have HBW : Hid (Below w.heap.size w wr) := HB1.out.trans ⟨hgr.out.os, hgr.out.tape, hgr.out.output, hgr.out.size, fun q hq => hgr.out.block q (by have := HB1.out.size; omega) (fun e => by have := (HAL.out q e.symm).1; omega)⟩
   go_wp2_with fail
   go_ret
   rw [HLQ.out] at hO
   exact ⟨Ak, ck, by rw [fillL_len]; rfl, by unfold Hid; rw [fillL_len]; exact hO.out, HBW⟩
theorem highest_any (A : Option Addr) (c B : Nat) (m : List Int) (w : World) (hs : Sl w B 1 A m.length c (intsV m)) (hB : B ≤ w.heap.size) (hn : m.length ≤ 1000) : Calls Tryz.prog 50 #[.slice A m.length c] w (IntsPost w (fillL m 2)) := by
 have HC := Lib.hid (fill_any A c B m 2 w hs hB hn)
 clear hs
 go_enter Tryz.func50, Tryz.ntmps50
 go_wp2_with fail
 refine HC.out.mono ?_
 rintro e w1 ⟨A1, c1, rfl, hO, hb⟩
 go_wp2_with fail
 go_ret
 exact ⟨A1, c1, rfl, hO, hb⟩
end Go.Proofs.YtnpfkiidhidjbaaGreatDoor
/-
 Layer 13, plain: the reference's hazards, as flags.
-/
namespace Go.Proofs.YtnpfkiidhidjbaaGreatDoor
open Go.RowKit
/-- The numbers of what is true, counted from k. -/
def onFrom : Int → List Bool → List Int
 | _, [] => []
 | k, b :: t => pickH b k ++ onFrom (k + 1) t
theorem onFrom_snoc (b : Bool) : ∀ (l : List Bool) (k : Int), onFrom k (l ++ [b]) = onFrom k l ++ pickH b (k + l.length)
 | [], k => by simp [onFrom]
 | a :: t, k => by
  rw [List.cons_append, onFrom, onFrom_snoc b t, onFrom, List.append_assoc, List.length_cons, show k + 1 + (t.length : Int) = k + ((t.length + 1 : Nat) : Int) by omega]
theorem onFrom_mem : ∀ (l : List Bool) (k h : Int), h ∈ onFrom k l ↔ ∃ i : Nat, l[i]? = some true ∧ h = k + i
 | [], k, h => by simp [onFrom]
 | a :: t, k, h => by
  rw [onFrom, List.mem_append, pickH_mem, onFrom_mem t]
  constructor
  ·rintro (⟨rfl, rfl⟩ | ⟨i, h1, rfl⟩)
   ·exact ⟨0, rfl, by omega⟩
   ·exact ⟨i + 1, h1, by omega⟩
  ·rintro ⟨i, h1, rfl⟩
   cases i with
   | zero => exact .inl ⟨by omega, by simpa using h1⟩
   | succ i => exact .inr ⟨i, h1, by omega⟩
theorem onFrom_ge : ∀ (l : List Bool) (k : Int), ∀ h ∈ onFrom k l, k ≤ h := fun l k h hh => by
 obtain ⟨i, _, rfl⟩ := (onFrom_mem l k h).1 hh
 omega
theorem onFrom_lt : ∀ (l : List Bool) (k : Int), (onFrom k l).Pairwise (· < ·)
 | [], k => by simp [onFrom]
 | a :: t, k => by
  rw [onFrom, List.pairwise_append]
  refine ⟨by cases a <;> simp [pickH], onFrom_lt t _, fun x hx y hy => ?_⟩
  have h1 := ((pickH_mem _ _ _).1 hx).1
  have h2 := onFrom_ge t _ y hy
  omega
theorem onF_set {F : Int → Prop} {l : List Bool} (h : ∀ i : Nat, l[i]? = some true ↔ F i) (hn : ∀ x, F x → 0 ≤ x) : SetL F (onFrom 0 l) := by
 have hp := onFrom_lt l 0
 refine ⟨hp.imp (fun h => by omega), hp.imp (fun h => by omega), fun x => ?_⟩
 rw [onFrom_mem]
 constructor
 ·rintro ⟨i, h1, rfl⟩
  have := (h i).1 h1
  simpa using this
 ·intro hx
  obtain ⟨i, rfl⟩ := Int.eq_ofNat_of_zero_le (hn x hx)
  exact ⟨i, (h i).2 hx, by simp⟩
/-- The reference's flags. -/
noncomputable def hzF (nn : Nat) (ns : List Nd) (ds : List Dv) (s : List Int) (d : Nat) (p co : Int) (ls : List Lk) (pr : List Int) (x : Dv) : List Bool :=
 if s.getD d 0 = p then [false, false, false, false, lockB ls d, false, x.comp != co, true, false]
 else [false, decide (p = 2) && decide (dutyAt nn ns ds s d x = 4), badB x.kind p (dutyAt nn ns ds s d x) (lvE (colsOf nn ds s) x), lostB ns ds s (withL s d p), lockB ls d, decide (p = 2) && decide (x.kind = 4) && !hasB pr x.a, x.comp != co, false, false]
theorem hzF_len (nn : Nat) (ns : List Nd) (ds : List Dv) (s : List Int) (d : Nat) (p co : Int) (ls : List Lk) (pr : List Int) (x : Dv) : (hzF nn ns ds s d p co ls pr x).length = 9 := by
 unfold hzF; split <;> rfl
theorem hzF_on (nn : Nat) (ns : List Nd) (ds : List Dv) (s : List Int) (d : Nat) (p co : Int) (ls : List Lk) (pr : List Int) (x : Dv) : onFrom 0 (hzF nn ns ds s d p co ls pr x) = hzAt nn ns ds s d p co ls pr x := by
 have hp : ∀ h, pickH false h = [] := fun _ => rfl
 have e : ∀ a b c d e f g : Bool, onFrom 0 [false, a, b, c, d, e, f, g, false] = hzL a b c d e f g := fun a b c d e f g => by
  simp only [onFrom, hp, hzL, List.nil_append, List.append_nil, List.append_assoc]; rfl
 unfold hzF hzAt
 split <;> exact e _ _ _ _ _ _ _
theorem hzF_mem (nn : Nat) (ns : List Nd) (ds : List Dv) (s : List Int) (d : Nat) (p co : Int) (ls : List Lk) (pr : List Int) (x : Dv) (i : Nat) : (hzF nn ns ds s d p co ls pr x)[i]? = some true ↔ (i : Int) ∈ hzAt nn ns ds s d p co ls pr x := by
 rw [← hzF_on, onFrom_mem]
 constructor
 ·intro h; exact ⟨i, h, by omega⟩
 ·rintro ⟨j, h, e⟩; obtain rfl : i = j := by omega
  exact h
theorem hzAt_seven (nn : Nat) (ns : List Nd) (ds : List Dv) (s : List Int) (d : Nat) (p co : Int) (ls : List Lk) (pr : List Int) (x : Dv) : (7 : Int) ∈ hzAt nn ns ds s d p co ls pr x ↔ s.getD d 0 = p := by
 unfold hzAt
 split
 ·next h => rw [hzL_mem]; exact ⟨fun _ => h, fun _ => by simp⟩
 ·next h => rw [hzL_mem]; exact ⟨fun e => by simp at e, fun e => absurd e h⟩
/-- Which flags some of the first states have. -/
def MfIn (F : List Int → List Bool) (rows : List (List Int)) (k : Nat) (S : List Bool) (nb : Bool) : Prop := S.length = 9 ∧ (∀ i, i < 9 → (S[i]? = some true ↔ ∃ s ∈ rows.take k, (F s)[i]? = some true)) ∧ (nb = true ↔ ∀ s ∈ rows.take k, (F s)[7]? = some true)
def MfTo (F : List Int → List Bool) (rows : List (List Int)) (k : Nat) (s : List Int) (j : Nat) (S : List Bool) : Prop := S.length = 9 ∧ (∀ i, i < 9 → (S[i]? = some true ↔ (∃ s ∈ rows.take k, (F s)[i]? = some true) ∨ i < j ∧ (F s)[i]? = some true))
section
variable {F : List Int → List Bool} {rows : List (List Int)} {k j : Nat} {s : List Int} {S : List Bool} {nb a b : Bool}
theorem MfIn.start : MfIn F rows 0 (List.replicate 9 false) true := ⟨rfl, fun i hi => by rw [List.getElem?_replicate, if_pos hi]; simp, by simp⟩
theorem MfIn.two (h : MfIn F rows k S nb) : MfTo F rows k s 0 S := ⟨h.1, fun i hi => by rw [h.2.1 i hi]; simp⟩
theorem MfIn.nothing (h : MfIn F rows k S nb) (hs : rows[k]? = some s) (hb : (F s)[7]? = some b) : (nb && b) = true ↔ ∀ s ∈ rows.take (k + 1), (F s)[7]? = some true := by
 rw [Bool.and_eq_true, h.2.2, take_snoc hs]
 constructor
 ·rintro ⟨h1, rfl⟩ t ht
  rcases List.mem_append.1 ht with h2 | h2
  ·exact h1 t h2
  ·rw [List.mem_singleton.1 h2]; exact hb
 ·intro h1
  refine ⟨fun t ht => h1 t (List.mem_append_left _ ht), ?_⟩
  have := h1 s (by simp)
  rw [hb] at this
  exact Option.some.inj this
theorem MfTo.step (h : MfTo F rows k s j S) (hj : j < 9) (ha : S[j]? = some a) (hb : (F s)[j]? = some b) : MfTo F rows k s (j + 1) (S.set j (a || b)) := by
 refine ⟨by rw [List.length_set]; exact h.1, fun i hi => ?_⟩
 by_cases hij : j = i
 ·subst hij
  rw [List.getElem?_set_self (by rw [h.1]; exact hj)]
  have h1 := h.2 j hj
  rw [ha] at h1
  rw [hb]
  constructor
  ·intro h2
   have h2 := Option.some.inj h2
   rw [Bool.or_eq_true] at h2
   rcases h2 with rfl | rfl
   ·rcases h1.1 rfl with h3 | h3
    ·exact .inl h3
    ·omega
   ·exact .inr ⟨by omega, rfl⟩
  ·rintro (h2 | ⟨_, h2⟩)
   ·have := Option.some.inj (h1.2 (.inl h2))
    rw [this]; rfl
   ·have := Option.some.inj h2
    rw [this, Bool.or_true]
 ·rw [List.getElem?_set_ne hij, h.2 i hi]
  constructor
  ·rintro (h1 | ⟨h1, h2⟩)
   ·exact .inl h1
   ·exact .inr ⟨by omega, h2⟩
  ·rintro (h1 | ⟨h1, h2⟩)
   ·exact .inl h1
   ·exact .inr ⟨by omega, h2⟩
theorem MfTo.done (h : MfTo F rows k s 9 S) (hs : rows[k]? = some s) (hn : nb = true ↔ ∀ s ∈ rows.take (k + 1), (F s)[7]? = some true) : MfIn F rows (k + 1) S nb := by
 refine ⟨h.1, fun i hi => ?_, hn⟩
 rw [h.2 i hi, take_snoc hs]
 constructor
 ·rintro (⟨t, ht, h1⟩ | ⟨_, h1⟩)
  ·exact ⟨t, List.mem_append_left _ ht, h1⟩
  ·exact ⟨s, by simp, h1⟩
 ·rintro ⟨t, ht, h1⟩
  rcases List.mem_append.1 ht with h2 | h2
  ·exact .inl ⟨t, h2, h1⟩
  ·rw [List.mem_singleton.1 h2] at h1; exact .inr ⟨hi, h1⟩
end
theorem fill_in2 (m : List Int) {p : Int} (hp : p = 1 ∨ p = 2) : fillL m p ∈ allOf m := by
 refine (mem_allN m m.length _).2 ⟨fillL_len m p, fun d hd => ?_⟩
 unfold fillL
 rw [List.getElem?_map, List.getElem?_eq_getElem hd]
 simp only [Option.map_some]
 constructor
 ·intro h; injection h with h; rw [if_pos h]
  rcases hp with rfl | rfl
  ·exact .inl rfl
  ·exact .inr rfl
 ·intro h
  rw [if_neg (fun e => h (by rw [e])), List.getD_eq_getElem?_getD, List.getElem?_eq_getElem hd]; rfl
/-- All states have a position exactly if the mask is this position. -/
theorem all_pos {m : List Int} {d : Nat} (hd : d < m.length) {p : Int} (hp : p = 1 ∨ p = 2) : (∀ s ∈ allOf m, s.getD d 0 = p) ↔ m.getD d 0 = p := by
 have hg : m.getD d 0 = m[d]'hd := by rw [List.getD_eq_getElem?_getD, List.getElem?_eq_getElem hd]; rfl
 by_cases h3 : m[d]'hd = 3
 ·rw [hg]
  constructor
  ·intro h
   have hq : ∀ q : Int, (q = 1 ∨ q = 2) → q = p := fun q hq => by
    have := h _ (fill_in2 m hq)
    unfold fillL at this
    rw [List.getD_eq_getElem?_getD, List.getElem?_map, List.getElem?_eq_getElem hd] at this
    simpa [h3] using this
   have h1 := hq 1 (.inl rfl)
   have h2 := hq 2 (.inr rfl)
   omega
  ·intro h; rw [h3] at h; omega
 ·constructor
  ·intro h
   have h1 := h _ (fill_in2 m hp)
   unfold fillL at h1
   rw [List.getD_eq_getElem?_getD, List.getElem?_map, List.getElem?_eq_getElem hd] at h1
   rw [hg]
   simpa [h3] using h1
  ·intro h s hs
   have h1 := (((mem_allN m m.length s).1 hs).2 d hd).2 (by rw [List.getElem?_eq_getElem hd]; exact fun e => h3 (Option.some.inj e))
   rw [List.getD_eq_getElem?_getD, h1]
   exact h
/-- The reference's list over masks is the program's. -/
theorem may_list {nn : Nat} {ns : List Nd} {ds : List Dv} {m : List Int} {d : Nat} {p co : Int} {ls : List Lk} {pr : List Int} {x : Dv} {S : List Bool} {nb : Bool} (hd : d < m.length) (hp : p = 1 ∨ p = 2) (h : MfIn (fun s => hzF nn ns ds s d p co ls pr x) (allOf m) (allOf m).length S nb) : SetL (MayP nn ns ds (allOf m) (m.getD d 0) d p co ls pr x) (onFrom 0 (S.set 7 nb)) := by
 obtain ⟨h9, h1, h2⟩ := h
 rw [List.take_length] at h1 h2
 refine onF_set (fun i => ?_) (fun y hy => ?_)
 ·by_cases hi : i < 9
  ·by_cases h7 : i = 7
   ·subst h7
    rw [List.getElem?_set_self (by omega)]
    constructor
    ·intro e
     have e := h2.1 (Option.some.inj e)
     have ha : ∀ s ∈ allOf m, s.getD d 0 = p := fun s hs => (hzAt_seven nn ns ds s d p co ls pr x).1 ((hzF_mem nn ns ds s d p co ls pr x 7).1 (e s hs))
     exact ⟨_, fill_in2 m (p := 1) (.inl rfl), (hzF_mem nn ns ds _ d p co ls pr x 7).1 (e _ (fill_in2 m (.inl rfl))), .inr ((all_pos hd hp).1 ha)⟩
    ·rintro ⟨s, _, _, hm⟩
     have hm : m.getD d 0 = p := hm.resolve_left (by simp)
     have := (all_pos hd hp).2 hm
     rw [h2.2 fun s hs => (hzF_mem nn ns ds s d p co ls pr x 7).2 ((hzAt_seven nn ns ds s d p co ls pr x).2 (this s hs))]
   ·rw [List.getElem?_set_ne (by omega), h1 i hi]
    constructor
    ·rintro ⟨s, hs, h3⟩
     exact ⟨s, hs, (hzF_mem nn ns ds s d p co ls pr x i).1 h3, .inl (by omega)⟩
    ·rintro ⟨s, hs, h3, _⟩
     exact ⟨s, hs, (hzF_mem nn ns ds s d p co ls pr x i).2 h3⟩
  ·rw [List.getElem?_eq_none (by rw [List.length_set]; omega)]
   constructor
   ·intro e; cases e
   ·rintro ⟨s, hs, h3, _⟩
    have := hzAt_range h3
    omega
 ·obtain ⟨s, hs, h3, _⟩ := hy
  have := hzAt_range h3
  omega
end Go.Proofs.YtnpfkiidhidjbaaGreatDoor
/-
 The references of layers 6, 12 and 13: walks of Check, fill, Highest, With, fault, locked, list.
-/
namespace Go.Proofs.YtnpfkiidhidjbaaGreatDoor
open Go.RowKit
theorem posErr_three (ns : List Nd) (ds : List Dv) (s : List Int) : posErr ns ds s 3 = maskErr ns ds s := by
 unfold posErr maskErr
 have e : (∀ p ∈ s, 1 ≤ p ∧ p ≤ 3) ↔ ∀ p ∈ s, maskB p = true :=
  ⟨fun h p hp => by have := h p hp; simp [maskB]; omega, fun h p hp => by have := h p hp; simp [maskB] at this; omega⟩
 by_cases h1 : checkN ns ds ≠ 0
 ·rw [if_pos h1, if_pos h1]
 ·rw [if_neg h1, if_neg h1]
  by_cases h2 : s.length ≠ ds.length
  ·rw [if_pos h2, if_pos h2]
  ·rw [if_neg h2, if_neg h2]
   by_cases h3 : ∀ p ∈ s, 1 ≤ p ∧ p ≤ 3
   ·rw [if_pos h3, if_pos (e.1 h3)]
   ·rw [if_neg h3, if_neg (fun h => h3 (e.2 h))]
theorem rcheckm_any (An Ad As : Option Addr) (nn cn nd cd n c Bn Bd Bs : Nat) (ns : List Nd) (ds : List Dv) (s : List Int) (w : World) (hn : Sl w Bn 3 An nn cn (ns.flatMap Nd.cells)) (hd : Sl w Bd 5 Ad nd cd (ds.flatMap Dv.cells)) (hs : Sl w Bs 1 As n c (intsV s)) (hBn : Bn ≤ w.heap.size) (hBd : Bd ≤ w.heap.size) (hBs : Bs ≤ w.heap.size)
  (hsn : ∀ x ∈ ns, x.name.size ≤ 9223372036854775807) (hsd : ∀ x ∈ ds, x.name.size ≤ 9223372036854775807) :
  Calls Tryz.prog 51 #[.agg #[.slice An nn cn, .slice Ad nd cd], .slice As n c] w fun e w' => e = .returned (.int .i64 (maskErr ns ds s)) ∧ Below w.heap.size w w' := by
 have HC := Lib.hid (rpos_any An Ad As nn cn nd cd n c Bn Bd Bs ns ds s 3 (w.alloc (.cells #[.slice An nn cn, .slice Ad nd cd] 26)) (hn.alloc hBn _) (hd.alloc hBd _) (hs.alloc hBs _) (by simp; omega) (by simp; omega) (by simp; omega) hsn hsd)
 rw [posErr_three] at HC
 clear hn hd hs hsn hsd
 go_enter Tryz.func51, Tryz.ntmps51
 go_wp2_with fail
 refine HC.out.mono ?_
 rintro e w1 ⟨rfl, hb1⟩
 go_wp2_with fail
 go_ret
 exact ⟨rfl, ((Below.refl _ _).alloc (Nat.le_refl _) _).trans (hb1.mono (by simp))⟩
def RfiR (w : World) (m : List Int) (p : Int) (A : Option Addr) (c gk : Nat) (iv : Value) (wr : World) : Prop := ∃ (i : Nat) (l : List Int), iv = .int .i64 i ∧ i ≤ m.length ∧ gk = m.length - i ∧ Hid (l.length = m.length ∧ ∀ k, k < m.length → l[k]? = if k < i then (fillL m p)[k]? else m[k]?) ∧ Hid (IntsO wr w.heap.size A m.length c l) ∧ Hid (Below w.heap.size w wr)
set_option maxRecDepth 100000 in
set_option maxHeartbeats 4000000 in
theorem rfill_any (A : Option Addr) (c B : Nat) (m : List Int) (p : Int) (w : World) (hs : Sl w B 1 A m.length c (intsV m)) (hB : B ≤ w.heap.size) (hn : m.length ≤ 1000) : Calls Tryz.prog 85 #[.slice A m.length c, .int .i64 p] w (IntsPost w (fillL m p)) := by
 have HS := Lib.hid (hs.more hB)
 clear hs
 go_enter Tryz.func85, Tryz.ntmps85
 go_wp2_with (at_builtin; go_must (refine wpList_app rfl _ (.tmp 7) rfl el_int (by rfl) (World.ownsRow_nil _ w.heap.size _ _) (by rfl) HS.out (ints_one m) (by omega) (by omega) (Nat.le_refl _) ?_; intro A1 co1 w4 hown4 hgr4 hat4; simp only [Nat.zero_add, List.nil_append] at hown4 hgr4 ⊢; have HO4 : Hid (IntsO w4 w.heap.size A1 m.length co1 m) := hown4; have HB4 : Hid (Below w.heap.size w w4) := ⟨hgr4.os, hgr4.tape, hgr4.output, hgr4.size, fun i hi => hgr4.block i hi (by simp [Value.ownBlock])⟩; clear hown4 hgr4 hat4))
 go_loopg [6] m.length (RfiR w m p A1 co1)
 case atStart => exact ⟨0, m, rfl, Nat.zero_le _, rfl, ⟨rfl, fun k _ => by rw [if_neg (by omega)]⟩, HO4, HB4⟩
 case round =>
  clear HO4 HB4
  obtain ⟨i, l, rfl, hi, rfl, hl, hO, hb⟩ := hrel
  by_cases hlt : i < m.length
  ·obtain ⟨g, x, rfl, hg1, hg2, hx, hcell, hfz, hst⟩ := hO.out.at (i := i) hlt
   have hmx : m[i]? = some x := by have := hl.out.2 i hlt; rw [if_neg (by omega)] at this; rw [← this]; exact hx
   have hfx : (fillL m p)[i]? = some (if x = 3 then p else x) := by unfold fillL; rw [List.getElem?_map, hmx]; rfl
   have HST := Lib.hid (hst p)
   by_cases h3 : x = 3
   ·have q : (x == 3) = true := by simpa using h3
    have HL : Hid ((l.set i p).length = m.length ∧ ∀ k, k < m.length → (l.set i p)[k]? = if k < i + 1 then (fillL m p)[k]? else m[k]?) := by
     refine ⟨by rw [List.length_set]; exact hl.out.1, fun k hk => ?_⟩
     by_cases hki : i = k
     ·subst hki
      rw [List.getElem?_set_self (by rw [hl.out.1]; exact hk), if_pos (by omega), hfx, if_pos h3]
     ·rw [List.getElem?_set_ne hki, hl.out.2 k hk]
      by_cases hk2 : k < i
      ·rw [if_pos hk2, if_pos (by omega)]
      ·rw [if_neg hk2, if_neg (by omega)]
    have HB := Lib.hid (hb.out.setCell (p := ⟨g, i, none⟩) hg1 (.int .i64 p))
    clear hst hx hmx hfx h3 hl hO hb
    go_wp2_with fail
    go_roundg (m.length - (i + 1))
    case rel => exact ⟨i + 1, _, by go_num, by omega, rfl, HL, HST, HB⟩
    case measure => omega
   ·have q : (x == 3) = false := by simpa using h3
    have HL : Hid (l.length = m.length ∧ ∀ k, k < m.length → l[k]? = if k < i + 1 then (fillL m p)[k]? else m[k]?) := by
     refine ⟨hl.out.1, fun k hk => ?_⟩
     by_cases hki : i = k
     ·subst hki
      rw [hx, if_pos (by omega), hfx, if_neg h3]
     ·rw [hl.out.2 k hk]
      by_cases hk2 : k < i
      ·rw [if_pos hk2, if_pos (by omega)]
      ·rw [if_neg hk2, if_neg (by omega)]
    clear hst hx hmx hfx h3 hl HST
    go_wp2_with fail
    go_roundg (m.length - (i + 1))
    case rel => exact ⟨i + 1, _, by go_num, by omega, rfl, HL, hO, hb⟩
    case measure => omega
  ·obtain rfl : i = m.length := by omega
   have hii : decide (m.length < m.length) = false := by simp
   have HL : Hid (l = fillL m p) := by
    refine List.ext_getElem? fun k => ?_
    by_cases hk : k < m.length
    ·rw [hl.out.2 k hk, if_pos hk]
    ·rw [List.getElem?_eq_none (by rw [hl.out.1]; omega), List.getElem?_eq_none (by rw [fillL_len]; omega)]
   go_wp2_with fail
   go_ret
   rw [HL.out] at hO
   exact intsPost_mk (fillL_len m p) hO.out hb.out
theorem rhighest_any (A : Option Addr) (c B : Nat) (m : List Int) (w : World) (hs : Sl w B 1 A m.length c (intsV m)) (hB : B ≤ w.heap.size) (hn : m.length ≤ 1000) : Calls Tryz.prog 53 #[.slice A m.length c] w (IntsPost w (fillL m 2)) := by
 have HC := Lib.hid (rfill_any A c B m 2 w hs hB hn)
 clear hs
 go_enter Tryz.func53, Tryz.ntmps53
 go_wp2_with fail
 refine HC.out.mono ?_
 rintro e w1 ⟨A1, c1, rfl, hO, hb⟩
 go_wp2_with fail
 go_ret
 exact ⟨A1, c1, rfl, hO, hb⟩
set_option maxRecDepth 100000 in
set_option maxHeartbeats 1000000 in
theorem rwith_any (A : Option Addr) (n c B : Nat) (l : List Int) (d p : Int) (w : World) (hs : Sl w B 1 A n c (intsV l)) (hB : B ≤ w.heap.size) (hn : n ≤ 1000000) : Calls Tryz.prog 72 #[.slice A n c, .int .i64 d, .int .i64 p] w (IntsPost w (withL l d p)) := by
 have HL := Lib.hid (hs.len (fun _ => rfl) (by decide))
 have HS := Lib.hid (hs.more hB)
 clear hs
 have hnn : n ≤ 9223372036854775807 := by omega
 by_cases h0 : 0 ≤ d
 ·by_cases h1 : d < n
  ·obtain ⟨k, rfl⟩ := Int.eq_ofNat_of_zero_le h0
   have HW : Hid (withL l k p = l.set k p) := by unfold Hid withL; rw [if_pos ⟨h0, by rw [HL.out]; exact h1⟩]; rfl
   have hkn : k < n := by omega
   go_enter Tryz.func72, Tryz.ntmps72
   go_upto_region 2 with (at_builtin; go_must (refine wpList_app rfl _ (.tmp 8) rfl el_int (by rfl) (World.ownsRow_nil _ w.heap.size _ _) (by rfl) HS.out (ints_one l) (by omega) (by omega) (Nat.le_refl _) ?_; intro A1 co1 w4 hown4 hgr4 hat4; simp only [Nat.zero_add, List.nil_append] at hown4 hgr4 ⊢; have HO4 : Hid (IntsO w4 w.heap.size A1 n co1 l) := hown4; have HB4 : Hid (Below w.heap.size w w4) := ⟨hgr4.os, hgr4.tape, hgr4.output, hgr4.size, fun i hi => hgr4.block i hi (by simp [Value.ownBlock])⟩; clear hown4 hgr4 hat4))
   obtain ⟨g, x, rfl, hg1, hg2, hx, hcell, hfz, hst⟩ := HO4.out.at (i := k) (by omega)
   have HST := Lib.hid (hst p)
   clear hst hx
   go_wp2_with fail
   go_ret
   exact intsPost_mk (by rw [HW.out, List.length_set, HL.out]) (by rw [HW.out]; exact HST.out) (HB4.out.setCell hg1 _)
  ·have q1 : decide (d < (n : Int)) = false := by simpa using h1
   have HW : Hid (withL l d p = l) := by unfold Hid withL; rw [if_neg (by rw [HL.out]; omega)]
   go_enter Tryz.func72, Tryz.ntmps72
   go_upto_region 2 with (at_builtin; go_must (refine wpList_app rfl _ (.tmp 8) rfl el_int (by rfl) (World.ownsRow_nil _ w.heap.size _ _) (by rfl) HS.out (ints_one l) (by omega) (by omega) (Nat.le_refl _) ?_; intro A1 co1 w4 hown4 hgr4 hat4; simp only [Nat.zero_add, List.nil_append] at hown4 hgr4 ⊢; have HO4 : Hid (IntsO w4 w.heap.size A1 n co1 l) := hown4; have HB4 : Hid (Below w.heap.size w w4) := ⟨hgr4.os, hgr4.tape, hgr4.output, hgr4.size, fun i hi => hgr4.block i hi (by simp [Value.ownBlock])⟩; clear hown4 hgr4 hat4))
   go_wp2_with fail
   go_ret
   exact intsPost_mk (by rw [HW.out, HL.out]) (by rw [HW.out]; exact HO4.out) HB4.out
 ·have q0 : decide (0 ≤ d) = false := by simpa using h0
  have HW : Hid (withL l d p = l) := by unfold Hid withL; rw [if_neg (by omega)]
  go_enter Tryz.func72, Tryz.ntmps72
  go_upto_region 2 with (at_builtin; go_must (refine wpList_app rfl _ (.tmp 8) rfl el_int (by rfl) (World.ownsRow_nil _ w.heap.size _ _) (by rfl) HS.out (ints_one l) (by omega) (by omega) (Nat.le_refl _) ?_; intro A1 co1 w4 hown4 hgr4 hat4; simp only [Nat.zero_add, List.nil_append] at hown4 hgr4 ⊢; have HO4 : Hid (IntsO w4 w.heap.size A1 n co1 l) := hown4; have HB4 : Hid (Below w.heap.size w w4) := ⟨hgr4.os, hgr4.tape, hgr4.output, hgr4.size, fun i hi => hgr4.block i hi (by simp [Value.ownBlock])⟩; clear hown4 hgr4 hat4))
  go_wp2_with fail
  go_ret
  exact intsPost_mk (by rw [HW.out, HL.out]) (by rw [HW.out]; exact HO4.out) HB4.out
set_option maxHeartbeats 4000000 in
theorem hfault_any (An Ad Al Ap : Option Addr) (nn cn nd cd nl cl np cp : Nat) (d p co : Int) (w : World) (_hndm : nd ≤ 9223372036854775807) :
  Calls Tryz.prog 39 #[.agg #[.slice An nn cn, .slice Ad nd cd], .agg #[.int .i64 d, .int .i64 p], .agg #[.int .i64 co, .slice Al nl cl, .slice Ap np cp]] w fun e w' => e = .returned (.int .i64 (hzErr nd d p co)) ∧ Below w.heap.size w w' := by
 have HE : Hid (hzErr nd d p co = if d < 0 then 8 else if (nd : Int) ≤ d then 8 else if p ≠ 1 ∧ p ≠ 2 then 10 else if co < 0 then 5 else if 7 < co then 5 else 0) := rfl
 have HB := Lib.hid (Bx3.new w #[.slice An nn cn, .slice Ad nd cd] #[.int .i64 d, .int .i64 p] #[.int .i64 co, .slice Al nl cl, .slice Ap np cp]).bl
 by_cases h1 : d < 0
 ·go_enter Tryz.func39, Tryz.ntmps39
  go_wp2_with fail
  go_ret
  exact ⟨ret_int (by rw [HE.out, if_pos (by omega)]), HB.out⟩
 have q1 : decide (d < 0) = false := by simpa using h1
 by_cases h2 : (nd : Int) ≤ d
 ·go_enter Tryz.func39, Tryz.ntmps39
  go_wp2_with fail
  go_ret
  exact ⟨ret_int (by rw [HE.out, if_neg (by omega), if_pos (by omega)]), HB.out⟩
 have q2 : decide ((nd : Int) ≤ d) = false := by simpa using h2
 by_cases h3 : p ≠ 1 ∧ p ≠ 2
 ·have q3 : (p != 1) = true := by simpa using h3.1
  have q4 : (p != 2) = true := by simpa using h3.2
  go_enter Tryz.func39, Tryz.ntmps39
  go_wp2_with fail
  go_ret
  exact ⟨ret_int (by rw [HE.out, if_neg (by omega), if_neg (by omega), if_pos (by omega)]), HB.out⟩
 have HN3 : Hid (hzErr nd d p co = if co < 0 then 5 else if 7 < co then 5 else 0) := by unfold Hid; rw [HE.out, if_neg (by omega), if_neg (by omega), if_neg (by omega)]
 clear HE
 by_cases h4 : co < 0
 ·rcases (show p = 1 ∨ p = 2 by omega) with rfl | rfl
  ·go_enter Tryz.func39, Tryz.ntmps39
   go_wp2_with fail
   go_ret
   exact ⟨ret_int (by rw [HN3.out, if_pos (by omega)]), HB.out⟩
  ·go_enter Tryz.func39, Tryz.ntmps39
   go_wp2_with fail
   go_ret
   exact ⟨ret_int (by rw [HN3.out, if_pos (by omega)]), HB.out⟩
 have q5 : decide (co < 0) = false := by simpa using h4
 have HN4 : Hid (hzErr nd d p co = if 7 < co then 5 else 0) := by unfold Hid; rw [HN3.out, if_neg (by omega)]
 clear HN3
 by_cases h5 : 7 < co
 ·rcases (show p = 1 ∨ p = 2 by omega) with rfl | rfl
  ·go_enter Tryz.func39, Tryz.ntmps39
   go_wp2_with fail
   go_ret
   exact ⟨ret_int (by rw [HN4.out, if_pos (by omega)]), HB.out⟩
  ·go_enter Tryz.func39, Tryz.ntmps39
   go_wp2_with fail
   go_ret
   exact ⟨ret_int (by rw [HN4.out, if_pos (by omega)]), HB.out⟩
 have q6 : decide (7 < co) = false := by simpa using h5
 rcases (show p = 1 ∨ p = 2 by omega) with rfl | rfl
 ·go_enter Tryz.func39, Tryz.ntmps39
  go_wp2_with fail
  go_ret
  exact ⟨ret_int (by rw [HN4.out, if_neg (by omega)]), HB.out⟩
 ·go_enter Tryz.func39, Tryz.ntmps39
  go_wp2_with fail
  go_ret
  exact ⟨ret_int (by rw [HN4.out, if_neg (by omega)]), HB.out⟩
def RlkR (W : World) (ls : List Lk) (d : Int) (n gk : Nat) (iv : Value) (wr : World) : Prop := ∃ i : Nat, iv = .int .i64 i ∧ i ≤ n ∧ gk = n - i ∧ wr = W ∧ Hid (∀ x ∈ ls.take i, x.dev ≠ d)
set_option maxRecDepth 100000 in
set_option maxHeartbeats 2000000 in
theorem hlocked_any (Al Ap : Option Addr) (nl cl np cp : Nat) (ls : List Lk) (co d : Int) (w : World) (hl : Sl w w.heap.size 3 Al nl cl (ls.flatMap Lk.cells)) :
  Calls Tryz.prog 69 #[.agg #[.int .i64 co, .slice Al nl cl, .slice Ap np cp], .int .i64 d] w fun e w' => e = .returned (.bool (lockB ls d)) ∧ Below w.heap.size w w' := by
 have HLN := Lib.hid (hl.len (fun _ => rfl) (by decide))
 have hnm := hl.le
 have HB : Hid (Below w.heap.size w (w.alloc (.cells #[.int .i64 co, .slice Al nl cl, .slice Ap np cp] 31))) := (Below.refl _ _).alloc (Nat.le_refl _) _
 have HK := Lib.hid (Blk.new w 31 #[.int .i64 co, .slice Al nl cl, .slice Ap np cp])
 have HS := Lib.hid (hl.below HB.out (Nat.le_refl _))
 clear hl
 go_enter Tryz.func69, Tryz.ntmps69
 go_wp2_with fail
 generalize World.alloc w _ = W at *
 have k1 : W.cell? ⟨w.heap.size, 1, none⟩ = some (.slice Al nl cl) := HK.out.cell 1
 obtain ⟨gb, hgb⟩ : ∃ x, x = w.heap.size := ⟨_, rfl⟩
 rw [← hgb] at k1 ⊢
 clear HK hgb
 go_loopg [5] nl (RlkR W ls d nl)
 case atStart => exact ⟨0, rfl, Nat.zero_le _, rfl, rfl, fun x hx => by simp at hx⟩
 case round =>
  obtain ⟨i, rfl, hi, rfl, rfl, hno⟩ := hrel
  by_cases hlt : i < nl
  ·obtain ⟨b, off, x, rfl, hb, hx, hc⟩ := HS.out.at (fun _ => rfl) (by decide) hlt
   have HX := Lib.hid hx
   have c0 : wr.cell? ⟨b, off + i * 3, none⟩ = some (.int .i64 x.dev) := hc 0 _ rfl
   clear hx hc
   by_cases hxd : x.dev = d
   ·have q : (x.dev == d) = true := by simpa using hxd
    have HR : Hid (lockB ls d = true) := by
     unfold Hid lockB
     rw [List.any_eq_true]
     exact ⟨x, List.mem_of_getElem? HX.out, by simpa using hxd⟩
    clear hxd
    go_wp2_with fail
    go_ret
    exact ⟨ret_bool HR.out.symm, HB.out⟩
   ·have q : (x.dev == d) = false := by simpa using hxd
    have HN : Hid (∀ y ∈ ls.take (i + 1), y.dev ≠ d) := fun y hy => by
     rw [take_snoc HX.out] at hy
     rcases List.mem_append.1 hy with h | h
     ·exact hno.out y h
     ·rw [List.mem_singleton.1 h]; exact hxd
    clear hxd
    go_wp2_with fail
    go_roundg (nl - (i + 1))
    case rel => exact ⟨i + 1, by go_num, by omega, rfl, rfl, HN⟩
    case measure => omega
  ·obtain rfl : i = nl := by omega
   have hii : decide (i < i) = false := by simp
   have HR : Hid (lockB ls d = false) := by
    unfold Hid lockB
    rw [List.any_eq_false]
    intro x hx
    have := hno.out x (by rw [List.take_of_length_le (by rw [HLN.out]; exact Nat.le_refl _)]; exact hx)
    simpa using this
   go_wp2_with fail
   go_ret
   exact ⟨ret_bool HR.out.symm, HB.out⟩
def RliR (W : World) (l : List Bool) (gk : Nat) (ov iv : Value) (wr : World) : Prop := ∃ (i m co : Nat) (Ao : Option Addr), iv = .int .i64 i ∧ ov = .slice Ao m co ∧ i ≤ 9 ∧ gk = 9 - i ∧ m ≤ i ∧ Hid (IntsO wr W.heap.size Ao m co (onFrom 0 (l.take i))) ∧ Hid (Below W.heap.size W wr)
set_option maxRecDepth 100000 in
set_option maxHeartbeats 4000000 in
theorem rlist_any (b0 b1 b2 b3 b4 b5 b6 b7 b8 : Bool) (w : World) : Calls Tryz.prog 40 #[.agg #[.bool b0, .bool b1, .bool b2, .bool b3, .bool b4, .bool b5, .bool b6, .bool b7, .bool b8]] w (IntsPost w (onFrom 0 [b0, b1, b2, b3, b4, b5, b6, b7, b8])) := by
 have HB : Hid (Below w.heap.size w (w.alloc (.cells #[.bool b0, .bool b1, .bool b2, .bool b3, .bool b4, .bool b5, .bool b6, .bool b7, .bool b8] 82))) := (Below.refl _ _).alloc (Nat.le_refl _) _
 have HK := Lib.hid (Blk.new w 82 #[.bool b0, .bool b1, .bool b2, .bool b3, .bool b4, .bool b5, .bool b6, .bool b7, .bool b8])
 obtain ⟨l, hl⟩ : ∃ l, l = [b0, b1, b2, b3, b4, b5, b6, b7, b8] := ⟨_, rfl⟩
 have HLL := Lib.hid hl
 have H9 : Hid (l.length = 9) := by unfold Hid; rw [hl]; rfl
 go_enter Tryz.func40, Tryz.ntmps40
 go_wp2_with fail
 rw [← hl]
 clear hl
 generalize World.alloc w _ = W at *
 have hwz := HB.out.size
 have hbw := HK.out.lt
 obtain ⟨gb, hgb⟩ : ∃ x, x = w.heap.size := ⟨_, rfl⟩
 rw [← hgb] at HK hbw ⊢
 have HGB := Lib.hid hgb
 clear hgb
 go_loopg [3, 4] 9 (RliR W l)
 case atStart => exact ⟨0, 0, 0, none, rfl, rfl, Nat.zero_le _, rfl, Nat.le_refl _, World.ownsRow_nil _ _ _ _, Below.refl _ _⟩
 case round =>
  obtain ⟨i, m, co, Ao, rfl, rfl, hi, rfl, hmi, hO, hb⟩ := hrel
  by_cases hlt : i < 9
  ·obtain ⟨x, hx⟩ : ∃ x, l[i]? = some x := ⟨_, List.getElem?_eq_getElem (by rw [H9.out]; exact hlt)⟩
   have HX := Lib.hid hx
   have HK2 := Lib.hid (HK.out.below hb.out hbw)
   have c0 : wr.cell? ⟨gb, i, none⟩ = some (.bool x) := by
    have h1 : (l.map Value.bool)[i]? = some (.bool x) := by rw [List.getElem?_map, hx]; rfl
    rw [HLL.out] at h1
    rw [HK2.out.cell i, List.getElem?_toArray]
    exact h1
   have HT : Hid (onFrom 0 (l.take (i + 1)) = onFrom 0 (l.take i) ++ pickH x i) := by
    unfold Hid
    rw [take_snoc hx, onFrom_snoc, List.length_take, H9.out, Nat.min_eq_left (by omega), Int.zero_add]
   clear hx
   rcases x with _ | _
   ·have HO2 : Hid (IntsO wr W.heap.size Ao m co (onFrom 0 (l.take (i + 1)))) := by unfold Hid; rw [HT.out]; simp only [pickH, List.append_nil, Bool.false_eq_true, if_false]; exact hO.out
    go_wp2_with fail
    go_roundg (9 - (i + 1))
    case rel => exact ⟨i + 1, m, co, Ao, by go_num, rfl, by omega, rfl, by omega, HO2, hb⟩
    case measure => omega
   ·go_wp2_with (at_builtin; go_must (refine wpList_app rfl (.tmp 12) (.tmp 14) rfl el_int (by rfl) (hO.out.alloc _) (by rfl) (Sl.newest (n := 1) (by simp) (by rfl) (by decide)) (by simp [Value.oneCell']) (by omega) (by omega) (by have := hb.out.size; simp; omega) ?_; intro A2 co2 w5 hown5 hgr5 hat5; have HO5 := Lib.hid hown5; have HB5 : Hid (Below W.heap.size W w5) := (hb.out.alloc hb.out.size _).trans ⟨hgr5.os, hgr5.tape, hgr5.output, hgr5.size, fun t ht => hgr5.block t (by have := hb.out.size; simp; omega) (fun e => by have := (hO.out.lt t e.symm).1; omega)⟩; clear hown5 hgr5 hat5))
    have HO6 : Hid (IntsO w5 W.heap.size A2 (m + 1) co2 (onFrom 0 (l.take (i + 1)))) := by
     unfold Hid
     rw [HT.out]
     simp only [pickH, if_true]
     unfold IntsO
     rw [intsV_append]
     exact HO5.out
    go_roundg (9 - (i + 1))
    case rel => exact ⟨i + 1, m + 1, co2, A2, by go_num, rfl, by omega, rfl, by omega, HO6, HB5⟩
    case measure => omega
  ·obtain rfl : i = 9 := by omega
   have hii : decide ((9 : Int) < 9) = false := by decide
   have HO2 : Hid (IntsO wr W.heap.size Ao m co (onFrom 0 l)) := by have := hO.out; rw [List.take_of_length_le (by rw [H9.out]; exact Nat.le_refl _)] at this; exact this
   go_wp2_with fail
   go_ret
   rw [HLL.out] at HO2
   exact intsPost_mk HO2.out.len (HO2.out.mono hwz) (HB.out.trans (hb.out.mono hwz))
end Go.Proofs.YtnpfkiidhidjbaaGreatDoor
