import Derived.Test.YtfaknfmndafllaaGreatDoorV26
import Derived.Test.YtfaknfmndafllaaGreatDoorV29
import Derived.Test.YtfaknfmndafllaaGreatDoorV28
import Derived.Test.YtfaknfmndafllaaGreatDoorV21
import Derived.Test.YtfaknfmndafllaaGreatDoorV15
import Derived.Deep.LoopGhost
set_option maxRecDepth 100000
set_option maxHeartbeats 4000000
namespace Go.Proofs.YtfaknfmndafllaaGreatDoor
def badK (ds : List Dv) (d : Nat) : Bool := match ds[d]? with | some x => x.kind == 1 || x.kind == 5 | none => false
section
variable {ns : List Nd} {ds : List Dv} {s t : List Int}
theorem bay_comp (k : Nat) : ∀ x ∈ bayD ++ bayE k, x.comp = 0 := by
 rcases k with _ | _ | _ | k
 ·decide
 ·decide
 ·decide
 ·exact (by decide : ∀ x ∈ bayD ++ bayE 3, x.comp = 0)
theorem state_p12 (h : stateErr ns ds s = 0) {k : Nat} (hl : s.length = k) : P12 s k := fun d hd => by
 have hg : s[d]? = some (s.getD d 0) := by rw [List.getD_eq_getElem?_getD, List.getElem?_eq_getElem (by omega)]; rfl
 have := (stateErr_pos h).get hg
 omega
theorem mv_good {i : Nat} (h : i < (mvS ds [] 0 ds.length).length) : badK ds (mvF ds [] 0 i) = false := by
 have hm := List.mem_of_getElem? (mvF_at h)
 generalize mvF ds [] 0 i = d at hm
 unfold mvS at hm
 have h2 := (List.mem_filter.1 hm).2
 unfold badK
 cases hx : ds[d]? with
 | none => rfl
 | some x =>
  rw [hx] at h2
  simp only [mvB, Bool.and_eq_true, Bool.not_eq_true'] at h2
  simp only [h2.1.1.1, h2.1.1.2, Bool.or_self]
theorem mv_all (h : BayOk ns ds s) {d : Nat} (hd : d < ds.length) (hb : badK ds d = false) : ∃ i, i < (mvS ds [] 0 ds.length).length ∧ mvF ds [] 0 i = d := by
 have hx : ds[d]? = some ds[d] := List.getElem?_eq_getElem hd
 have hc : ds[d].comp = 0 := by
  obtain ⟨k, hk⟩ := h.dv
  exact bay_comp k _ (by rw [← hk]; exact List.getElem_mem hd)
 have hm : d ∈ mvS ds [] 0 ds.length := by
  unfold mvS
  rw [List.mem_filter, List.mem_range]
  refine ⟨hd, ?_⟩
  unfold badK at hb
  rw [hx] at hb ⊢
  simp only [Bool.or_eq_false_iff] at hb
  simp [mvB, hb.1, hb.2, hc, lockB]
 obtain ⟨i, hi, he⟩ := List.getElem_of_mem hm
 refine ⟨i, hi, ?_⟩
 have h1 := mvF_at hi
 rw [List.getElem?_eq_getElem hi, he] at h1
 injection h1 with h1; exact h1.symm
theorem goal_at {b : List Int} {c : Int} (h : goalT t b = some c) : b = t := by
 unfold goalT at h
 split at h
 ·next e => exact e
 ·cases h
theorem order_law (h : BayOk ns ds s) (ht : stateErr ns ds t = 0) (hl : t.length = ds.length) :
 (NoneIs (stS (permB ns ds 0 [] [] [5]) (mvF ds [] 0) (mvS ds [] 0 ds.length).length) s (goalT t) → ordF (permB ns ds 0 [] [] [5]) (badK ds) (dfL s t ds.length).length s (dfL s t ds.length) = false) ∧
 ∀ p, SomeIs (stS (permB ns ds 0 [] [] [5]) (mvF ds [] 0) (mvS ds [] 0 ds.length).length) s (goalT t) p → (dfL s t ds.length).length ≤ p.length ∧ (p.length - (dfL s t ds.length).length) % 2 = 0 ∧ decide (p.length = (dfL s t ds.length).length) = ordF (permB ns ds 0 [] [] [5]) (badK ds) (dfL s t ds.length).length s (dfL s t ds.length) := by
 have hs := state_p12 h.state h.sl
 have hT := state_p12 ht hl
 have key : ordF (permB ns ds 0 [] [] [5]) (badK ds) (dfL s t ds.length).length s (dfL s t ds.length) = true → ∃ q : List Nat, q.length = (dfL s t ds.length).length ∧ wk (stS (permB ns ds 0 [] [] [5]) (mvF ds [] 0) (mvS ds [] 0 ds.length).length) s q = some t := fun ho => by
  obtain ⟨hb, q, h1, h2⟩ := ordF_true ho
  obtain ⟨p, h3, h4⟩ := way_of hl hT h.sl hs h1 h2 (fun d hd => by
   have := h1.mem_iff.1 hd
   exact mv_all h (dfL_mem.1 this).1 (hb d this))
  exact ⟨p, h3.trans h1.length_eq, h4⟩
 have hgt : goalT t t = some 0 := by unfold goalT; rw [if_pos rfl]
 refine ⟨fun hn => ?_, fun p hp => ?_⟩
 ·rw [Bool.eq_false_iff]
  intro ho
  obtain ⟨q, _, h4⟩ := key ho
  have := hn q t h4
  rw [hgt] at this; cases this
 ·obtain ⟨b, c, h1, h2, h3⟩ := hp
  obtain rfl := goal_at h2
  obtain ⟨a1, a2, a3, a4, a5⟩ := way_diff (fun i hi => mvF_lt hi) hT h.sl hs h1
  refine ⟨a1, a2, ?_⟩
  rw [Bool.eq_iff_iff, decide_eq_true_eq]
  constructor
  ·intro e
   refine ordF_of (Nat.le_refl _) (fun d hd => ?_) (a4 e) a3
   obtain ⟨i, hi, rfl⟩ := List.mem_map.1 ((a4 e).mem_iff.2 hd)
   exact mv_good (a5 i hi)
  ·intro ho
   obtain ⟨q, h4, h5⟩ := key ho
   have := (h3 q _ _ h5 hgt).1
   omega
end
end Go.Proofs.YtfaknfmndafllaaGreatDoor
namespace Go.Proofs.YtfaknfmndafllaaGreatDoor
open Go.RowKit
def MyIn (hz : List Int → List Int) (g : Int → Prop) (rows : List (List Int)) (k : Nat) (out : List Int) : Prop := out.length ≤ 7 * k ∧ out.Nodup ∧ ∀ h : Int, h ∈ out ↔ ∃ s ∈ rows.take k, h ∈ hz s ∧ g h
def MyIn2 (hz : List Int → List Int) (g : Int → Prop) (rows : List (List Int)) (k : Nat) (s : List Int) (j : Nat) (out : List Int) : Prop := out.length ≤ 7 * k + j ∧ out.Nodup ∧ ∀ h : Int, h ∈ out ↔ (∃ s ∈ rows.take k, h ∈ hz s ∧ g h) ∨ h ∈ (hz s).take j ∧ g h
section
variable {hz : List Int → List Int} {g : Int → Prop} {rows : List (List Int)} {k j : Nat} {s out : List Int} {x : Int}
theorem MyIn.start : MyIn hz g rows 0 [] := ⟨by simp, List.nodup_nil, fun h => by simp⟩
theorem MyIn.two (h : MyIn hz g rows k out) : MyIn2 hz g rows k s 0 out := ⟨by have := h.1; omega, h.2.1, fun y => by rw [h.2.2 y]; simp⟩
theorem MyIn2.pass (h : MyIn2 hz g rows k s j out) (hx : (hz s)[j]? = some x) (hm : x ∈ out ∨ ¬ g x) : MyIn2 hz g rows k s (j + 1) out := by
 refine ⟨by have := h.1; omega, h.2.1, fun y => ?_⟩
 rw [take_snoc hx, List.mem_append, List.mem_singleton]
 constructor
 ·intro hy
  rcases (h.2.2 y).1 hy with h1 | h1
  ·exact .inl h1
  ·exact .inr ⟨.inl h1.1, h1.2⟩
 ·rintro (h1 | ⟨h1 | h1, h2⟩)
  ·exact (h.2.2 y).2 (.inl h1)
  ·exact (h.2.2 y).2 (.inr ⟨h1, h2⟩)
  ·subst h1
   rcases hm with hm | hm
   ·exact hm
   ·exact absurd h2 hm
theorem MyIn2.put (h : MyIn2 hz g rows k s j out) (hx : (hz s)[j]? = some x) (hm : x ∉ out) (hg : g x) : MyIn2 hz g rows k s (j + 1) (out ++ [x]) := by
 refine ⟨by have := h.1; rw [List.length_append, List.length_singleton]; omega, ?_, fun y => ?_⟩
 ·rw [List.nodup_append]
  exact ⟨h.2.1, by simp, fun a ha b hb e => hm (by rw [List.mem_singleton.1 hb] at e; rw [← e]; exact ha)⟩
 ·rw [take_snoc hx, List.mem_append, List.mem_append, List.mem_singleton, h.2.2 y]
  constructor
  ·rintro ((h1 | h1) | rfl)
   ·exact .inl h1
   ·exact .inr ⟨.inl h1.1, h1.2⟩
   ·exact .inr ⟨.inr rfl, hg⟩
  ·rintro (h1 | ⟨h1 | h1, h2⟩)
   ·exact .inl (.inl h1)
   ·exact .inl (.inr ⟨h1, h2⟩)
   ·exact .inr h1
theorem MyIn2.done (h : MyIn2 hz g rows k s j out) (hj : (hz s).length = j) (h7 : j ≤ 7) (hs : rows[k]? = some s) : MyIn hz g rows (k + 1) out := by
 refine ⟨by have := h.1; omega, h.2.1, fun y => ?_⟩
 rw [h.2.2 y, show (hz s).take j = hz s from List.take_of_length_le (by omega), take_snoc hs]
 constructor
 ·rintro (⟨t, ht, h1⟩ | h1)
  ·exact ⟨t, List.mem_append_left _ ht, h1⟩
  ·exact ⟨s, by simp, h1⟩
 ·rintro ⟨t, ht, h1⟩
  rcases List.mem_append.1 ht with h2 | h2
  ·exact .inl ⟨t, h2, h1⟩
  ·rw [List.mem_singleton.1 h2] at h1; exact .inr h1
end
end Go.Proofs.YtfaknfmndafllaaGreatDoor
namespace Go.Proofs.YtfaknfmndafllaaGreatDoor
open Go.RowKit
def fillL (m : List Int) (p : Int) : List Int := m.map fun x => if x = 3 then p else x
def FillTo (m : List Int) (p : Int) (j : Nat) (l : List Int) : Prop := l.length = m.length ∧ ∀ d, d < m.length → l[d]? = some (if m[d]? = some 3 ∧ cntN m d < j then p else m.getD d 0)
section
variable {m l : List Int} {p : Int} {j d : Nat}
theorem FillTo.start : FillTo m p 0 m := ⟨rfl, fun d hd => by rw [if_neg (by omega), List.getD_eq_getElem?_getD, List.getElem?_eq_getElem hd]; rfl⟩
theorem FillTo.step (h : FillTo m p j l) (hd : (unkN m m.length)[j]? = some d) : FillTo m p (j + 1) (l.set d p) := by
 obtain ⟨h3, hlt, hc⟩ := unkN_at m _ _ _ hd
 refine ⟨by simp [h.1], fun e he => ?_⟩
 rw [List.getElem?_set]
 by_cases hde : d = e
 ·subst hde
  rw [if_pos rfl, if_pos (by rw [h.1]; exact he), if_pos ⟨h3, by omega⟩]
 ·rw [if_neg hde, h.2 e he]
  congr 1
  by_cases h3e : m[e]? = some 3
  ·have : cntN m e ≠ j := fun hh => hde (cntN_inj h3 h3e (by omega))
   by_cases hlt2 : cntN m e < j
   ·rw [if_pos ⟨h3e, hlt2⟩, if_pos ⟨h3e, by omega⟩]
   ·rw [if_neg (fun x => hlt2 x.2), if_neg (fun x => by omega)]
  ·rw [if_neg (fun x => h3e x.1), if_neg (fun x => h3e x.1)]
theorem FillTo.done (h : FillTo m p (cntN m m.length) l) : l = fillL m p := by
 apply List.ext_getElem?
 intro d
 unfold fillL
 rw [List.getElem?_map]
 by_cases hd : d < m.length
 ·rw [h.2 d hd, List.getD_eq_getElem?_getD, List.getElem?_eq_getElem hd]
  simp only [Option.map_some, Option.getD_some, Option.some.injEq]
  by_cases h3 : m[d] = 3
  ·rw [if_pos h3, if_pos ⟨h3, cntN_lt (by rw [List.getElem?_eq_getElem hd, h3]) hd⟩]
  ·rw [if_neg h3, if_neg (fun x => h3 x.1)]
 ·rw [List.getElem?_eq_none (by rw [h.1]; omega), List.getElem?_eq_none (by omega)]; rfl
end
end Go.Proofs.YtfaknfmndafllaaGreatDoor
namespace Go.Proofs.YtfaknfmndafllaaGreatDoor
open Go.RowKit
def onFrom : Int → List Bool → List Int
 | _, [] => []
 | k, b :: t => pickH b k ++ onFrom (k + 1) t
theorem onFrom_snoc (b : Bool) : ∀ (l : List Bool) (k : Int), onFrom k (l ++ [b]) = onFrom k l ++ pickH b (k + l.length)
 | [], k => by simp [onFrom]
 | a :: t, k => by
  rw [List.cons_append, onFrom, onFrom_snoc b t, onFrom, List.append_assoc, List.length_cons, show k + 1 + (t.length : Int) = k + ((t.length + 1 : Nat) : Int) by omega]
noncomputable def hzF (nn : Nat) (ns : List Nd) (ds : List Dv) (s : List Int) (d : Nat) (p co : Int) (ls : List Lk) (pr : List Int) (x : Dv) : List Bool :=
 if s.getD d 0 = p then [false, false, false, false, lockB ls d, false, x.comp != co, true, false]
 else [false, decide (p = 2) && decide (dutyAt nn ns ds s d x = 4), badB x.kind p (dutyAt nn ns ds s d x) (lvE (colsOf nn ds s) x), lostB ns ds s (withL s d p), lockB ls d, decide (p = 2) && decide (x.kind = 4) && !hasB pr x.a, x.comp != co, false, false]
theorem hzF_len (nn : Nat) (ns : List Nd) (ds : List Dv) (s : List Int) (d : Nat) (p co : Int) (ls : List Lk) (pr : List Int) (x : Dv) : (hzF nn ns ds s d p co ls pr x).length = 9 := by
 unfold hzF; split <;> rfl
theorem hzF_on (nn : Nat) (ns : List Nd) (ds : List Dv) (s : List Int) (d : Nat) (p co : Int) (ls : List Lk) (pr : List Int) (x : Dv) : onFrom 0 (hzF nn ns ds s d p co ls pr x) = hzAt nn ns ds s d p co ls pr x := by
 have hp : ∀ h, pickH false h = [] := fun _ => rfl
 have e : ∀ a b c d e f g : Bool, onFrom 0 [false, a, b, c, d, e, f, g, false] = hzL a b c d e f g := fun a b c d e f g => by
  simp only [onFrom, hp, hzL, List.nil_append, List.append_nil, List.append_assoc]; rfl
 unfold hzF hzAt
 split <;> exact e _ _ _ _ _ _ _
def MfIn (F : List Int → List Bool) (rows : List (List Int)) (k : Nat) (S : List Bool) (nb : Bool) : Prop := S.length = 9 ∧ (∀ i, i < 9 → (S[i]? = some true ↔ ∃ s ∈ rows.take k, (F s)[i]? = some true)) ∧ (nb = true ↔ ∀ s ∈ rows.take k, (F s)[7]? = some true)
def MfTo (F : List Int → List Bool) (rows : List (List Int)) (k : Nat) (s : List Int) (j : Nat) (S : List Bool) : Prop := S.length = 9 ∧ (∀ i, i < 9 → (S[i]? = some true ↔ (∃ s ∈ rows.take k, (F s)[i]? = some true) ∨ i < j ∧ (F s)[i]? = some true))
section
variable {F : List Int → List Bool} {rows : List (List Int)} {k j : Nat} {s : List Int} {S : List Bool} {nb a b : Bool}
theorem MfIn.start : MfIn F rows 0 (List.replicate 9 false) true := ⟨rfl, fun i hi => by rw [List.getElem?_replicate, if_pos hi]; simp, by simp⟩
theorem MfIn.two (h : MfIn F rows k S nb) : MfTo F rows k s 0 S := ⟨h.1, fun i hi => by rw [h.2.1 i hi]; simp⟩
theorem MfIn.nothing (h : MfIn F rows k S nb) (hs : rows[k]? = some s) (hb : (F s)[7]? = some b) : (nb && b) = true ↔ ∀ s ∈ rows.take (k + 1), (F s)[7]? = some true := by
 rw [Bool.and_eq_true, h.2.2, take_snoc hs]
 constructor
 ·rintro ⟨h1, rfl⟩ t ht
  rcases List.mem_append.1 ht with h2 | h2
  ·exact h1 t h2
  ·rw [List.mem_singleton.1 h2]; exact hb
 ·intro h1
  refine ⟨fun t ht => h1 t (List.mem_append_left _ ht), ?_⟩
  have := h1 s (by simp)
  rw [hb] at this
  exact Option.some.inj this
theorem MfTo.step (h : MfTo F rows k s j S) (hj : j < 9) (ha : S[j]? = some a) (hb : (F s)[j]? = some b) : MfTo F rows k s (j + 1) (S.set j (a || b)) := by
 refine ⟨by rw [List.length_set]; exact h.1, fun i hi => ?_⟩
 by_cases hij : j = i
 ·subst hij
  rw [List.getElem?_set_self (by rw [h.1]; exact hj)]
  have h1 := h.2 j hj
  rw [ha] at h1
  rw [hb]
  constructor
  ·intro h2
   have h2 := Option.some.inj h2
   rw [Bool.or_eq_true] at h2
   rcases h2 with rfl | rfl
   ·rcases h1.1 rfl with h3 | h3
    ·exact .inl h3
    ·omega
   ·exact .inr ⟨by omega, rfl⟩
  ·rintro (h2 | ⟨_, h2⟩)
   ·have := Option.some.inj (h1.2 (.inl h2))
    rw [this]; rfl
   ·have := Option.some.inj h2
    rw [this, Bool.or_true]
 ·rw [List.getElem?_set_ne hij, h.2 i hi]
  constructor
  ·rintro (h1 | ⟨h1, h2⟩)
   ·exact .inl h1
   ·exact .inr ⟨by omega, h2⟩
  ·rintro (h1 | ⟨h1, h2⟩)
   ·exact .inl h1
   ·exact .inr ⟨by omega, h2⟩
theorem MfTo.done (h : MfTo F rows k s 9 S) (hs : rows[k]? = some s) (hn : nb = true ↔ ∀ s ∈ rows.take (k + 1), (F s)[7]? = some true) : MfIn F rows (k + 1) S nb := by
 refine ⟨h.1, fun i hi => ?_, hn⟩
 rw [h.2 i hi, take_snoc hs]
 constructor
 ·rintro (⟨t, ht, h1⟩ | ⟨_, h1⟩)
  ·exact ⟨t, List.mem_append_left _ ht, h1⟩
  ·exact ⟨s, by simp, h1⟩
 ·rintro ⟨t, ht, h1⟩
  rcases List.mem_append.1 ht with h2 | h2
  ·exact .inl ⟨t, h2, h1⟩
  ·rw [List.mem_singleton.1 h2] at h1; exact .inr ⟨hi, h1⟩
end
end Go.Proofs.YtfaknfmndafllaaGreatDoor
namespace Go.Proofs.YtfaknfmndafllaaGreatDoor
open Go.RowKit
theorem rwith_any (A : Option Addr) (n c B : Nat) (l : List Int) (d p : Int) (w : World) (hs : Sl w B 1 A n c (intsV l)) (hB : B ≤ w.heap.size) (hn : n ≤ 1000000) : Calls Tryz.prog 126 #[.slice A n c, .int .i64 d, .int .i64 p] w (IntsPost w (withL l d p)) := by
 have HL := Lib.hid (hs.len (fun _ => rfl) (by decide))
 have HS := Lib.hid (hs.more hB)
 clear hs
 have hnn : n ≤ 9223372036854775807 := by omega
 by_cases h0 : 0 ≤ d
 ·by_cases h1 : d < n
  ·obtain ⟨k, rfl⟩ := Int.eq_ofNat_of_zero_le h0
   have HW : Hid (withL l k p = l.set k p) := by unfold Hid withL; rw [if_pos ⟨h0, by rw [HL.out]; exact h1⟩]; rfl
   have hkn : k < n := by omega
   go_enter Tryz.func126, Tryz.ntmps126
   go_upto_region 2 with (at_builtin; go_must (refine wpList_app rfl _ (.tmp 8) rfl el_int (by rfl) (World.ownsRow_nil _ w.heap.size _ _) (by rfl) HS.out (ints_one l) (by omega) (by omega) (Nat.le_refl _) ?_; intro A1 co1 w4 hown4 hgr4 hat4; simp only [Nat.zero_add, List.nil_append] at hown4 hgr4 ⊢; have HO4 : Hid (IntsO w4 w.heap.size A1 n co1 l) := hown4; have HB4 : Hid (Below w.heap.size w w4) := ⟨hgr4.os, hgr4.tape, hgr4.output, hgr4.size, fun i hi => hgr4.block i hi (by simp [Value.ownBlock])⟩; clear hown4 hgr4 hat4))
   obtain ⟨g, x, rfl, hg1, hg2, hx, hcell, hfz, hst⟩ := HO4.out.at (i := k) (by omega)
   have HST := Lib.hid (hst p)
   clear hst hx
   go_wp2_with fail
   go_ret
   exact intsPost_mk (by rw [HW.out, List.length_set, HL.out]) (by rw [HW.out]; exact HST.out) (HB4.out.setCell hg1 _)
  ·have q1 : decide (d < (n : Int)) = false := by simpa using h1
   have HW : Hid (withL l d p = l) := by unfold Hid withL; rw [if_neg (by rw [HL.out]; omega)]
   go_enter Tryz.func126, Tryz.ntmps126
   go_upto_region 2 with (at_builtin; go_must (refine wpList_app rfl _ (.tmp 8) rfl el_int (by rfl) (World.ownsRow_nil _ w.heap.size _ _) (by rfl) HS.out (ints_one l) (by omega) (by omega) (Nat.le_refl _) ?_; intro A1 co1 w4 hown4 hgr4 hat4; simp only [Nat.zero_add, List.nil_append] at hown4 hgr4 ⊢; have HO4 : Hid (IntsO w4 w.heap.size A1 n co1 l) := hown4; have HB4 : Hid (Below w.heap.size w w4) := ⟨hgr4.os, hgr4.tape, hgr4.output, hgr4.size, fun i hi => hgr4.block i hi (by simp [Value.ownBlock])⟩; clear hown4 hgr4 hat4))
   go_wp2_with fail
   go_ret
   exact intsPost_mk (by rw [HW.out, HL.out]) (by rw [HW.out]; exact HO4.out) HB4.out
 ·have q0 : decide (0 ≤ d) = false := by simpa using h0
  have HW : Hid (withL l d p = l) := by unfold Hid withL; rw [if_neg (by omega)]
  go_enter Tryz.func126, Tryz.ntmps126
  go_upto_region 2 with (at_builtin; go_must (refine wpList_app rfl _ (.tmp 8) rfl el_int (by rfl) (World.ownsRow_nil _ w.heap.size _ _) (by rfl) HS.out (ints_one l) (by omega) (by omega) (Nat.le_refl _) ?_; intro A1 co1 w4 hown4 hgr4 hat4; simp only [Nat.zero_add, List.nil_append] at hown4 hgr4 ⊢; have HO4 : Hid (IntsO w4 w.heap.size A1 n co1 l) := hown4; have HB4 : Hid (Below w.heap.size w w4) := ⟨hgr4.os, hgr4.tape, hgr4.output, hgr4.size, fun i hi => hgr4.block i hi (by simp [Value.ownBlock])⟩; clear hown4 hgr4 hat4))
  go_wp2_with fail
  go_ret
  exact intsPost_mk (by rw [HW.out, HL.out]) (by rw [HW.out]; exact HO4.out) HB4.out
theorem hfault_any (An Ad Al Ap : Option Addr) (nn cn nd cd nl cl np cp : Nat) (d p co : Int) (w : World) (_hndm : nd ≤ 9223372036854775807) :
 Calls Tryz.prog 79 #[.agg #[.slice An nn cn, .slice Ad nd cd], .agg #[.int .i64 d, .int .i64 p], .agg #[.int .i64 co, .slice Al nl cl, .slice Ap np cp]] w fun e w' => e = .returned (.int .i64 (hzErr nd d p co)) ∧ Below w.heap.size w w' := by
 have HE : Hid (hzErr nd d p co = if d < 0 then 8 else if (nd : Int) ≤ d then 8 else if p ≠ 1 ∧ p ≠ 2 then 10 else if co < 0 then 5 else if 7 < co then 5 else 0) := rfl
 have HB := Lib.hid (Bx3.new w #[.slice An nn cn, .slice Ad nd cd] #[.int .i64 d, .int .i64 p] #[.int .i64 co, .slice Al nl cl, .slice Ap np cp]).bl
 by_cases h1 : d < 0
 ·go_enter Tryz.func79, Tryz.ntmps79
  go_wp2_with fail
  go_ret
  exact ⟨ret_int (by rw [HE.out, if_pos (by omega)]), HB.out⟩
 have q1 : decide (d < 0) = false := by simpa using h1
 by_cases h2 : (nd : Int) ≤ d
 ·go_enter Tryz.func79, Tryz.ntmps79
  go_wp2_with fail
  go_ret
  exact ⟨ret_int (by rw [HE.out, if_neg (by omega), if_pos (by omega)]), HB.out⟩
 have q2 : decide ((nd : Int) ≤ d) = false := by simpa using h2
 by_cases h3 : p ≠ 1 ∧ p ≠ 2
 ·have q3 : (p != 1) = true := by simpa using h3.1
  have q4 : (p != 2) = true := by simpa using h3.2
  go_enter Tryz.func79, Tryz.ntmps79
  go_wp2_with fail
  go_ret
  exact ⟨ret_int (by rw [HE.out, if_neg (by omega), if_neg (by omega), if_pos (by omega)]), HB.out⟩
 have HN3 : Hid (hzErr nd d p co = if co < 0 then 5 else if 7 < co then 5 else 0) := by unfold Hid; rw [HE.out, if_neg (by omega), if_neg (by omega), if_neg (by omega)]
 clear HE
 by_cases h4 : co < 0
 ·rcases (show p = 1 ∨ p = 2 by omega) with rfl | rfl
  ·go_enter Tryz.func79, Tryz.ntmps79
   go_wp2_with fail
   go_ret
   exact ⟨ret_int (by rw [HN3.out, if_pos (by omega)]), HB.out⟩
  ·go_enter Tryz.func79, Tryz.ntmps79
   go_wp2_with fail
   go_ret
   exact ⟨ret_int (by rw [HN3.out, if_pos (by omega)]), HB.out⟩
 have q5 : decide (co < 0) = false := by simpa using h4
 have HN4 : Hid (hzErr nd d p co = if 7 < co then 5 else 0) := by unfold Hid; rw [HN3.out, if_neg (by omega)]
 clear HN3
 by_cases h5 : 7 < co
 ·rcases (show p = 1 ∨ p = 2 by omega) with rfl | rfl
  ·go_enter Tryz.func79, Tryz.ntmps79
   go_wp2_with fail
   go_ret
   exact ⟨ret_int (by rw [HN4.out, if_pos (by omega)]), HB.out⟩
  ·go_enter Tryz.func79, Tryz.ntmps79
   go_wp2_with fail
   go_ret
   exact ⟨ret_int (by rw [HN4.out, if_pos (by omega)]), HB.out⟩
 have q6 : decide (7 < co) = false := by simpa using h5
 rcases (show p = 1 ∨ p = 2 by omega) with rfl | rfl
 ·go_enter Tryz.func79, Tryz.ntmps79
  go_wp2_with fail
  go_ret
  exact ⟨ret_int (by rw [HN4.out, if_neg (by omega)]), HB.out⟩
 ·go_enter Tryz.func79, Tryz.ntmps79
  go_wp2_with fail
  go_ret
  exact ⟨ret_int (by rw [HN4.out, if_neg (by omega)]), HB.out⟩
def RlkR (W : World) (ls : List Lk) (d : Int) (n gk : Nat) (iv : Value) (wr : World) : Prop := ∃ i : Nat, iv = .int .i64 i ∧ i ≤ n ∧ gk = n - i ∧ wr = W ∧ Hid (∀ x ∈ ls.take i, x.dev ≠ d)
theorem hlocked_any (Al Ap : Option Addr) (nl cl np cp : Nat) (ls : List Lk) (co d : Int) (w : World) (hl : Sl w w.heap.size 3 Al nl cl (ls.flatMap Lk.cells)) :
 Calls Tryz.prog 123 #[.agg #[.int .i64 co, .slice Al nl cl, .slice Ap np cp], .int .i64 d] w fun e w' => e = .returned (.bool (lockB ls d)) ∧ Below w.heap.size w w' := by
 have HLN := Lib.hid (hl.len (fun _ => rfl) (by decide))
 have hnm := hl.le
 have HB : Hid (Below w.heap.size w (w.alloc (.cells #[.int .i64 co, .slice Al nl cl, .slice Ap np cp] 40))) := (Below.refl _ _).alloc (Nat.le_refl _) _
 have HK := Lib.hid (Blk.new w 40 #[.int .i64 co, .slice Al nl cl, .slice Ap np cp])
 have HS := Lib.hid (hl.below HB.out (Nat.le_refl _))
 clear hl
 go_enter Tryz.func123, Tryz.ntmps123
 go_wp2_with fail
 generalize World.alloc w _ = W at *
 have k1 := HK.out.c1
 obtain ⟨gb, hgb⟩ : ∃ x, x = w.heap.size := ⟨_, rfl⟩
 rw [← hgb] at k1 ⊢
 clear HK hgb
 go_loopg [5] nl (RlkR W ls d nl)
 case atStart => exact ⟨0, rfl, Nat.zero_le _, rfl, rfl, fun x hx => by simp at hx⟩
 case round =>
  obtain ⟨i, rfl, hi, rfl, rfl, hno⟩ := hrel
  by_cases hlt : i < nl
  ·obtain ⟨b, off, x, rfl, hb, hx, hc⟩ := HS.out.at (fun _ => rfl) (by decide) hlt
   have HX := Lib.hid hx
   have c0 : wr.cell? ⟨b, off + i * 3, none⟩ = some (.int .i64 x.dev) := hc 0 _ rfl
   clear hx hc
   by_cases hxd : x.dev = d
   ·have q : (x.dev == d) = true := by simpa using hxd
    have HR : Hid (lockB ls d = true) := by
     unfold Hid lockB
     rw [List.any_eq_true]
     exact ⟨x, List.mem_of_getElem? HX.out, by simpa using hxd⟩
    clear hxd
    go_wp2_with fail
    go_ret
    exact ⟨ret_bool HR.out.symm, HB.out⟩
   ·have q : (x.dev == d) = false := by simpa using hxd
    have HN : Hid (∀ y ∈ ls.take (i + 1), y.dev ≠ d) := fun y hy => by
     rw [take_snoc HX.out] at hy
     rcases List.mem_append.1 hy with h | h
     ·exact hno.out y h
     ·rw [List.mem_singleton.1 h]; exact hxd
    clear hxd
    go_wp2_with fail
    go_roundg (nl - (i + 1))
    case rel => exact ⟨i + 1, by go_num, by omega, rfl, rfl, HN⟩
    case measure => omega
  ·obtain rfl : i = nl := by omega
   have hii : decide (i < i) = false := by simp
   have HR : Hid (lockB ls d = false) := by
    unfold Hid lockB
    rw [List.any_eq_false]
    intro x hx
    have := hno.out x (by rw [List.take_of_length_le (by rw [HLN.out]; exact Nat.le_refl _)]; exact hx)
    simpa using this
   go_wp2_with fail
   go_ret
   exact ⟨ret_bool HR.out.symm, HB.out⟩
def RliR (W : World) (l : List Bool) (gk : Nat) (ov iv : Value) (wr : World) : Prop := ∃ (i m co : Nat) (Ao : Option Addr), iv = .int .i64 i ∧ ov = .slice Ao m co ∧ i ≤ 9 ∧ gk = 9 - i ∧ m ≤ i ∧ Hid (IntsO wr W.heap.size Ao m co (onFrom 0 (l.take i))) ∧ Hid (Below W.heap.size W wr)
theorem rlist_any (b0 b1 b2 b3 b4 b5 b6 b7 b8 : Bool) (w : World) : Calls Tryz.prog 80 #[.agg #[.bool b0, .bool b1, .bool b2, .bool b3, .bool b4, .bool b5, .bool b6, .bool b7, .bool b8]] w (IntsPost w (onFrom 0 [b0, b1, b2, b3, b4, b5, b6, b7, b8])) := by
 have HB : Hid (Below w.heap.size w (w.alloc (.cells #[.bool b0, .bool b1, .bool b2, .bool b3, .bool b4, .bool b5, .bool b6, .bool b7, .bool b8] 135))) := (Below.refl _ _).alloc (Nat.le_refl _) _
 have HK := Lib.hid (Blk.new w 135 #[.bool b0, .bool b1, .bool b2, .bool b3, .bool b4, .bool b5, .bool b6, .bool b7, .bool b8])
 obtain ⟨l, hl⟩ : ∃ l, l = [b0, b1, b2, b3, b4, b5, b6, b7, b8] := ⟨_, rfl⟩
 have HLL := Lib.hid hl
 have H9 : Hid (l.length = 9) := by unfold Hid; rw [hl]; rfl
 go_enter Tryz.func80, Tryz.ntmps80
 go_wp2_with fail
 rw [← hl]
 clear hl
 generalize World.alloc w _ = W at *
 have hwz := HB.out.size
 have hbw := HK.out.lt
 obtain ⟨gb, hgb⟩ : ∃ x, x = w.heap.size := ⟨_, rfl⟩
 rw [← hgb] at HK hbw ⊢
 have HGB := Lib.hid hgb
 clear hgb
 go_loopg [3, 4] 9 (RliR W l)
 case atStart => exact ⟨0, 0, 0, none, rfl, rfl, Nat.zero_le _, rfl, Nat.le_refl _, World.ownsRow_nil _ _ _ _, Below.refl _ _⟩
 case round =>
  obtain ⟨i, m, co, Ao, rfl, rfl, hi, rfl, hmi, hO, hb⟩ := hrel
  by_cases hlt : i < 9
  ·obtain ⟨x, hx⟩ : ∃ x, l[i]? = some x := ⟨_, List.getElem?_eq_getElem (by rw [H9.out]; exact hlt)⟩
   have HX := Lib.hid hx
   have HK2 := Lib.hid (HK.out.below hb.out hbw)
   have c0 : wr.cell? ⟨gb, i, none⟩ = some (.bool x) := by
    have h1 : (l.map Value.bool)[i]? = some (.bool x) := by rw [List.getElem?_map, hx]; rfl
    rw [HLL.out] at h1
    rw [HK2.out.cell i, List.getElem?_toArray]
    exact h1
   have HT : Hid (onFrom 0 (l.take (i + 1)) = onFrom 0 (l.take i) ++ pickH x i) := by
    unfold Hid
    rw [take_snoc hx, onFrom_snoc, List.length_take, H9.out, Nat.min_eq_left (by omega), Int.zero_add]
   clear hx
   rcases x with _ | _
   ·have HO2 : Hid (IntsO wr W.heap.size Ao m co (onFrom 0 (l.take (i + 1)))) := by unfold Hid; rw [HT.out]; simp only [pickH, List.append_nil, Bool.false_eq_true, if_false]; exact hO.out
    go_wp2_with fail
    go_roundg (9 - (i + 1))
    case rel => exact ⟨i + 1, m, co, Ao, by go_num, rfl, by omega, rfl, by omega, HO2, hb⟩
    case measure => omega
   ·go_wp2_with (at_builtin; go_must (refine wpList_app rfl (.tmp 12) (.tmp 14) rfl el_int (by rfl) (hO.out.alloc _) (by rfl) (Sl.newest (n := 1) (by simp) (by rfl) (by decide)) (by simp [Value.oneCell']) (by omega) (by omega) (by have := hb.out.size; simp; omega) ?_; intro A2 co2 w5 hown5 hgr5 hat5; have HO5 := Lib.hid hown5; have HB5 : Hid (Below W.heap.size W w5) := (hb.out.alloc hb.out.size _).trans ⟨hgr5.os, hgr5.tape, hgr5.output, hgr5.size, fun t ht => hgr5.block t (by have := hb.out.size; simp; omega) (fun e => by have := (hO.out.lt t e.symm).1; omega)⟩; clear hown5 hgr5 hat5))
    have HO6 : Hid (IntsO w5 W.heap.size A2 (m + 1) co2 (onFrom 0 (l.take (i + 1)))) := by
     unfold Hid
     rw [HT.out]
     simp only [pickH, if_true]
     unfold IntsO
     rw [intsV_append]
     exact HO5.out
    go_roundg (9 - (i + 1))
    case rel => exact ⟨i + 1, m + 1, co2, A2, by go_num, rfl, by omega, rfl, by omega, HO6, HB5⟩
    case measure => omega
  ·obtain rfl : i = 9 := by omega
   have hii : decide ((9 : Int) < 9) = false := by decide
   have HO2 : Hid (IntsO wr W.heap.size Ao m co (onFrom 0 l)) := by have := hO.out; rw [List.take_of_length_le (by rw [H9.out]; exact Nat.le_refl _)] at this; exact this
   go_wp2_with fail
   go_ret
   rw [HLL.out] at HO2
   exact intsPost_mk HO2.out.len (HO2.out.mono hwz) (HB.out.trans (hb.out.mono hwz))
end Go.Proofs.YtfaknfmndafllaaGreatDoor
