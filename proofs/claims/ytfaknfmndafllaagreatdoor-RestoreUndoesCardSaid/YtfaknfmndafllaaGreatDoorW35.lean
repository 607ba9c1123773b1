import Derived.Test.YtfaknfmndafllaaGreatDoorW23
import Derived.Test.YtfaknfmndafllaaGreatDoorW32
import Derived.Test.YtfaknfmndafllaaGreatDoorW03
import Derived.Test.YtfaknfmndafllaaGreatDoorW30
import Derived.Test.YtfaknfmndafllaaGreatDoorW29
import Derived.Test.YtfaknfmndafllaaGreatDoorW21
import Derived.Test.YtfaknfmndafllaaGreatDoorW18
namespace Go.Proofs.YtfaknfmndafllaaGreatDoor
theorem tog_getD (s : List Int) {d : Nat} (hd : d < s.length) (e : Nat) : (tog s d).getD e 0 = if e = d then 3 - s.getD d 0 else s.getD e 0 := by
 rw [List.getD_eq_getElem?_getD, tog_at]
 by_cases h : e = d
 ·subst h
  rw [if_pos rfl, List.getElem?_eq_getElem hd, List.getD_eq_getElem?_getD, List.getElem?_eq_getElem hd]; simp
 ·rw [if_neg h, List.getD_eq_getElem?_getD]
  cases s[e]? with
  | none => rfl
  | some x => simp [Ne.symm h]
theorem tog_tog (s : List Int) (d : Nat) : tog (tog s d) d = s := by
 apply List.ext_getElem?
 intro e
 rw [tog_at, tog_at]
 cases s[e]? with
 | none => rfl
 | some x =>
  by_cases h : d = e
  ·simp [h]; omega
  ·simp [h]
def P12 (s : List Int) (k : Nat) : Prop := ∀ d, d < k → s.getD d 0 = 1 ∨ s.getD d 0 = 2
theorem P12.tog {s : List Int} {k : Nat} (h : P12 s k) (hl : s.length = k) (d : Nat) : P12 (tog s d) k := fun e he => by
 by_cases hd : d < s.length
 ·rw [tog_getD s hd]
  split
  ·rcases h d (by omega) with h | h <;> omega
  ·exact h e he
 ·have : Go.Proofs.YtfaknfmndafllaaGreatDoor.tog s d = s := by unfold Go.Proofs.YtfaknfmndafllaaGreatDoor.tog; exact List.set_eq_of_length_le (by omega)
  rw [this]; exact h e he
section
variable {perm : List Int → Nat → Bool} {M : Nat → Nat} {m k : Nat}
end
end Go.Proofs.YtfaknfmndafllaaGreatDoor
namespace Go.Proofs.YtfaknfmndafllaaGreatDoor
theorem bay_chk : chkD 6 [nm2 [78] 5, nm2 [78] 4, nm2 [78] 3, nm2 [78] 2, nm2 [78] 1, nm2 [78] 0] (bayD ++ bayE 0) = 0 ∧ chkD 6 [nm2 [78] 5, nm2 [78] 4, nm2 [78] 3, nm2 [78] 2, nm2 [78] 1, nm2 [78] 0] (bayD ++ bayE 1) = 0 ∧ chkD 6 [nm2 [78] 5, nm2 [78] 4, nm2 [78] 3, nm2 [78] 2, nm2 [78] 1, nm2 [78] 0] (bayD ++ bayE 2) = 0 ∧ chkD 6 [nm2 [78] 5, nm2 [78] 4, nm2 [78] 3, nm2 [78] 2, nm2 [78] 1, nm2 [78] 0] (bayD ++ bayE 3) = 0 := ⟨by kernel_rfl, by kernel_rfl, by kernel_rfl, by kernel_rfl⟩
section
variable {ns : List Nd} {ds : List Dv} {s : List Int}
theorem bay_len (k : Nat) : (bayD ++ bayE k).length ≤ 9 := by
 rcases k with _ | _ | _ | k
 ·decide
 ·decide
 ·decide
 ·exact (by decide : (bayD ++ bayE 3).length ≤ 9)
theorem BayOk.dl (h : BayOk ns ds s) : ds.length ≤ 9 := by
 obtain ⟨k, rfl⟩ := h.dv
 exact bay_len k
theorem BayOk.check (h : BayOk ns ds s) : checkN ns ds = 0 := by
 have hdl := h.dl
 have hN := chkN_all (ns := ns) (fun i x hx => by
  obtain ⟨h1, h2, h3, h4, h5⟩ := h.nok i x hx
  have hi : i < ns.length := (List.getElem?_eq_some_iff.1 hx).1
  have := h.n6
  unfold ndErr
  rw [h1, toL_mk, if_neg (by rw [nm2_name 78 i (by decide) (by omega)]; simp), if_neg ?_, if_neg (by omega), if_neg (by simp [compB]; omega)]
  intro hm
  obtain ⟨k, y, hk, hy, he⟩ := mem_Un.1 hm
  rw [(h.nok k y hy).1, toL_mk] at he
  have := (nm2_inj (by omega) (by omega) rfl he).2
  omega) _ 0 rfl
 have hD : chkD ns.length (usedN [] ns) ds = 0 := by
  have hk := h.nok
  have h6 := h.n6
  obtain ⟨k, rfl⟩ := h.dv
  match ns, h6, hk with
  | [a, b, c, d, e, f], _, hk =>
   have ha := (hk 0 a rfl).1; have hb := (hk 1 b rfl).1; have hc := (hk 2 c rfl).1; have hd := (hk 3 d rfl).1; have he := (hk 4 e rfl).1; have hf := (hk 5 f rfl).1
   have hu : usedN [] [a, b, c, d, e, f] = [nm2 [78] 5, nm2 [78] 4, nm2 [78] 3, nm2 [78] 2, nm2 [78] 1, nm2 [78] 0] := by
    simp only [usedN, ha, hb, hc, hd, he, hf, toL_mk]
   rw [hu]
   show chkD 6 _ _ = 0
   rcases k with _ | _ | _ | k
   ·exact bay_chk.1
   ·exact bay_chk.2.1
   ·exact bay_chk.2.2.1
   ·exact bay_chk.2.2.2
 unfold checkN
 have h0 : chkN [] ns = 0 := hN
 rw [if_neg (by have := h.n6; omega), if_neg (by omega), if_pos h0]
 exact hD
theorem BayOk.state (h : BayOk ns ds s) : stateErr ns ds s = 0 := by
 unfold stateErr
 rw [if_neg (by rw [h.check]; simp), if_neg (by rw [h.sl]; simp), if_pos h.ps]
theorem BayOk.names (h : BayOk ns ds s) : (∀ x ∈ ns, x.name.size ≤ 9223372036854775807) ∧ ∀ x ∈ ds, x.name.size ≤ 9223372036854775807 := by
 refine ⟨fun x hx => ?_, fun x hx => ?_⟩
 ·obtain ⟨i, hi, rfl⟩ := List.getElem_of_mem hx
  rw [(h.nok i _ (List.getElem?_eq_getElem hi)).1, ← toL_len, toL_mk]
  simp [nm2]
 ·obtain ⟨k, rfl⟩ := h.dv
  have hall : ∀ x ∈ bayD ++ bayE k, x.name.size ≤ 100 := by
   rcases k with _ | _ | _ | k
   ·decide
   ·decide
   ·decide
   ·exact (by decide : ∀ x ∈ bayD ++ bayE 3, x.name.size ≤ 100)
  have := hall x hx
  omega
theorem BayOk.problem (h : BayOk ns ds s) {co : Int} {ls : List Lk} {pr : List Int} (hg : grErr ns ds co ls pr = 0) (hd : difB ls s = false) : pbErr ns ds s co ls pr = 0 := by
 have h1 : mvErr ns ds co ls pr = 0 := by
  unfold mvErr
  rw [if_neg (by rw [h.check]; simp), if_neg (by rw [hg]; simp), if_neg (by have := mvS_len ds ls co ds.length; have := h.dl; omega)]
 unfold pbErr
 rw [if_neg (by rw [h1]; simp), if_neg (by rw [hd]; simp)]
end
end Go.Proofs.YtfaknfmndafllaaGreatDoor
namespace Go.Proofs.YtfaknfmndafllaaGreatDoor
section
variable {ns : List Nd} {ds : List Dv} {s t : List Int}
theorem state_p12 (h : stateErr ns ds s = 0) {k : Nat} (hl : s.length = k) : P12 s k := fun d hd => by
 have hg : s[d]? = some (s.getD d 0) := by rw [List.getD_eq_getElem?_getD, List.getElem?_eq_getElem (by omega)]; rfl
 have := (stateErr_pos h).get hg
 omega
theorem goal_at {b : List Int} {c : Int} (h : goalT t b = some c) : b = t := by
 unfold goalT at h
 split at h
 ·next e => exact e
 ·cases h
end
end Go.Proofs.YtfaknfmndafllaaGreatDoor
namespace Go.Proofs.YtfaknfmndafllaaGreatDoor
open Go.RowKit
def MyIn (hz : List Int → List Int) (g : Int → Prop) (rows : List (List Int)) (k : Nat) (out : List Int) : Prop := out.length ≤ 7 * k ∧ out.Nodup ∧ ∀ h : Int, h ∈ out ↔ ∃ s ∈ rows.take k, h ∈ hz s ∧ g h
def MyIn2 (hz : List Int → List Int) (g : Int → Prop) (rows : List (List Int)) (k : Nat) (s : List Int) (j : Nat) (out : List Int) : Prop := out.length ≤ 7 * k + j ∧ out.Nodup ∧ ∀ h : Int, h ∈ out ↔ (∃ s ∈ rows.take k, h ∈ hz s ∧ g h) ∨ h ∈ (hz s).take j ∧ g h
section
variable {hz : List Int → List Int} {g : Int → Prop} {rows : List (List Int)} {k j : Nat} {s out : List Int} {x : Int}
theorem MyIn.start : MyIn hz g rows 0 [] := ⟨by simp, List.nodup_nil, fun h => by simp⟩
theorem MyIn.two (h : MyIn hz g rows k out) : MyIn2 hz g rows k s 0 out := ⟨by have := h.1; omega, h.2.1, fun y => by rw [h.2.2 y]; simp⟩
theorem MyIn2.pass (h : MyIn2 hz g rows k s j out) (hx : (hz s)[j]? = some x) (hm : x ∈ out ∨ ¬ g x) : MyIn2 hz g rows k s (j + 1) out := by
 refine ⟨by have := h.1; omega, h.2.1, fun y => ?_⟩
 rw [take_snoc hx, List.mem_append, List.mem_singleton]
 constructor
 ·intro hy
  rcases (h.2.2 y).1 hy with h1 | h1
  ·exact .inl h1
  ·exact .inr ⟨.inl h1.1, h1.2⟩
 ·rintro (h1 | ⟨h1 | h1, h2⟩)
  ·exact (h.2.2 y).2 (.inl h1)
  ·exact (h.2.2 y).2 (.inr ⟨h1, h2⟩)
  ·subst h1
   rcases hm with hm | hm
   ·exact hm
   ·exact absurd h2 hm
theorem MyIn2.put (h : MyIn2 hz g rows k s j out) (hx : (hz s)[j]? = some x) (hm : x ∉ out) (hg : g x) : MyIn2 hz g rows k s (j + 1) (out ++ [x]) := by
 refine ⟨by have := h.1; rw [List.length_append, List.length_singleton]; omega, ?_, fun y => ?_⟩
 ·rw [List.nodup_append]
  exact ⟨h.2.1, by simp, fun a ha b hb e => hm (by rw [List.mem_singleton.1 hb] at e; rw [← e]; exact ha)⟩
 ·rw [take_snoc hx, List.mem_append, List.mem_append, List.mem_singleton, h.2.2 y]
  constructor
  ·rintro ((h1 | h1) | rfl)
   ·exact .inl h1
   ·exact .inr ⟨.inl h1.1, h1.2⟩
   ·exact .inr ⟨.inr rfl, hg⟩
  ·rintro (h1 | ⟨h1 | h1, h2⟩)
   ·exact .inl (.inl h1)
   ·exact .inl (.inr ⟨h1, h2⟩)
   ·exact .inr h1
theorem MyIn2.done (h : MyIn2 hz g rows k s j out) (hj : (hz s).length = j) (h7 : j ≤ 7) (hs : rows[k]? = some s) : MyIn hz g rows (k + 1) out := by
 refine ⟨by have := h.1; omega, h.2.1, fun y => ?_⟩
 rw [h.2.2 y, show (hz s).take j = hz s from List.take_of_length_le (by omega), take_snoc hs]
 constructor
 ·rintro (⟨t, ht, h1⟩ | h1)
  ·exact ⟨t, List.mem_append_left _ ht, h1⟩
  ·exact ⟨s, by simp, h1⟩
 ·rintro ⟨t, ht, h1⟩
  rcases List.mem_append.1 ht with h2 | h2
  ·exact .inl ⟨t, h2, h1⟩
  ·rw [List.mem_singleton.1 h2] at h1; exact .inr h1
end
end Go.Proofs.YtfaknfmndafllaaGreatDoor
namespace Go.Proofs.YtfaknfmndafllaaGreatDoor
open Go.RowKit
def fillL (m : List Int) (p : Int) : List Int := m.map fun x => if x = 3 then p else x
def FillTo (m : List Int) (p : Int) (j : Nat) (l : List Int) : Prop := l.length = m.length ∧ ∀ d, d < m.length → l[d]? = some (if m[d]? = some 3 ∧ cntN m d < j then p else m.getD d 0)
section
variable {m l : List Int} {p : Int} {j d : Nat}
theorem FillTo.start : FillTo m p 0 m := ⟨rfl, fun d hd => by rw [if_neg (by omega), List.getD_eq_getElem?_getD, List.getElem?_eq_getElem hd]; rfl⟩
theorem FillTo.step (h : FillTo m p j l) (hd : (unkN m m.length)[j]? = some d) : FillTo m p (j + 1) (l.set d p) := by
 obtain ⟨h3, hlt, hc⟩ := unkN_at m _ _ _ hd
 refine ⟨by simp [h.1], fun e he => ?_⟩
 rw [List.getElem?_set]
 by_cases hde : d = e
 ·subst hde
  rw [if_pos rfl, if_pos (by rw [h.1]; exact he), if_pos ⟨h3, by omega⟩]
 ·rw [if_neg hde, h.2 e he]
  congr 1
  by_cases h3e : m[e]? = some 3
  ·have : cntN m e ≠ j := fun hh => hde (cntN_inj h3 h3e (by omega))
   by_cases hlt2 : cntN m e < j
   ·rw [if_pos ⟨h3e, hlt2⟩, if_pos ⟨h3e, by omega⟩]
   ·rw [if_neg (fun x => hlt2 x.2), if_neg (fun x => by omega)]
  ·rw [if_neg (fun x => h3e x.1), if_neg (fun x => h3e x.1)]
theorem FillTo.done (h : FillTo m p (cntN m m.length) l) : l = fillL m p := by
 apply List.ext_getElem?
 intro d
 unfold fillL
 rw [List.getElem?_map]
 by_cases hd : d < m.length
 ·rw [h.2 d hd, List.getD_eq_getElem?_getD, List.getElem?_eq_getElem hd]
  simp only [Option.map_some, Option.getD_some, Option.some.injEq]
  by_cases h3 : m[d] = 3
  ·rw [if_pos h3, if_pos ⟨h3, cntN_lt (by rw [List.getElem?_eq_getElem hd, h3]) hd⟩]
  ·rw [if_neg h3, if_neg (fun x => h3 x.1)]
 ·rw [List.getElem?_eq_none (by rw [h.1]; omega), List.getElem?_eq_none (by omega)]; rfl
end
end Go.Proofs.YtfaknfmndafllaaGreatDoor
namespace Go.Proofs.YtfaknfmndafllaaGreatDoor
open Go.RowKit
end Go.Proofs.YtfaknfmndafllaaGreatDoor
namespace Go.Proofs.YtfaknfmndafllaaGreatDoor
open Go.RowKit
def nsC : List Nd := [⟨⟨#[65]⟩, 0, 0⟩]
def dsC : List Dv := [⟨⟨#[83]⟩, 5, 0, -1, 0⟩, ⟨⟨#[69]⟩, 4, 0, -1, 0⟩]
structure AwC (w wr : World) : Prop where
 bn : Blk wr (w.heap.size + 1 + 1) 30 #[.slice (some ⟨w.heap.size, 0, none⟩) 1 1, .slice (some ⟨w.heap.size + 1, 0, none⟩) 2 2]
 sn : Sl wr (w.heap.size + 1) 3 (some ⟨w.heap.size, 0, none⟩) 1 1 (nsC.flatMap Nd.cells)
 sd : Sl wr (w.heap.size + 1 + 1) 5 (some ⟨w.heap.size + 1, 0, none⟩) 2 2 (dsC.flatMap Dv.cells)
 bl : Below w.heap.size w wr
 la : Laid wr
 sz : w.heap.size + 3 ≤ wr.heap.size
theorem AwC.later {w wr wr' : World} (h : AwC w wr) (hb : Below wr.heap.size wr wr') : AwC w wr' :=
 ⟨h.bn.below hb h.bn.lt, h.sn.below hb (by have := h.sz; omega), h.sd.below hb (by have := h.sz; omega), h.bl.trans (hb.mono h.bl.size), h.la.below hb (Nat.le_refl _), Nat.le_trans h.sz hb.size⟩
theorem AwC.mk0 (w : World) (hl : Laid w) : AwC w (((w.alloc (.cells #[.string ⟨#[65]⟩, .int .i64 0, .int .i64 0] 80)).alloc (.cells #[.string ⟨#[83]⟩, .int .i64 5, .int .i64 0, .int .i64 (-1), .int .i64 0, .string ⟨#[69]⟩, .int .i64 4, .int .i64 0, .int .i64 (-1), .int .i64 0] 68)).alloc (.cells #[.slice (some ⟨w.heap.size, 0, none⟩) 1 1, .slice (some ⟨w.heap.size + 1, 0, none⟩) 2 2] 30)) := by
 refine ⟨?_, ?_, ?_, ?_, ((hl.alloc _).alloc _).alloc _, by simp⟩
 ·have := Blk.new ((w.alloc (.cells #[.string ⟨#[65]⟩, .int .i64 0, .int .i64 0] 80)).alloc (.cells #[.string ⟨#[83]⟩, .int .i64 5, .int .i64 0, .int .i64 (-1), .int .i64 0, .string ⟨#[69]⟩, .int .i64 4, .int .i64 0, .int .i64 (-1), .int .i64 0] 68)) 30 #[.slice (some ⟨w.heap.size, 0, none⟩) 1 1, .slice (some ⟨w.heap.size + 1, 0, none⟩) 2 2]
  simpa using this
 ·refine Sl.alloc (Sl.alloc ?_ (by simp) _) (by simp) _
  exact Sl.newest (n := 1) (size := 3) rfl rfl (by decide)
 ·refine Sl.alloc ?_ (by simp) _
  exact Sl.newest (n := 2) (size := 5) (by simp) rfl (by decide)
 ·exact (((Below.refl _ _).alloc (Nat.le_refl _) _).alloc (by simp) _).alloc (by simp; omega) _
end Go.Proofs.YtfaknfmndafllaaGreatDoor
namespace Go.Proofs.YtfaknfmndafllaaGreatDoor
open Go.RowKit
end Go.Proofs.YtfaknfmndafllaaGreatDoor
