import Derived.Test.YtkkobemhbicjgaaGreatDoorG39
import Derived.Test.YtkkobemhbicjgaaGreatDoorG26
import Derived.Test.YtkkobemhbicjgaaGreatDoorG30
import Derived.Test.YtkkobemhbicjgaaGreatDoorG10
import Derived.Test.YtkkobemhbicjgaaGreatDoorG38
import Derived.Test.YtkkobemhbicjgaaGreatDoorG21
import Derived.Test.YtkkobemhbicjgaaGreatDoorG29
import Derived.Test.YtkkobemhbicjgaaGreatDoorG20
import Derived.Test.YtkkobemhbicjgaaGreatDoorG24
import Derived.Test.YtkkobemhbicjgaaGreatDoorG03
import Derived.Test.YtkkobemhbicjgaaGreatDoorG22
set_option maxRecDepth 100000
set_option maxHeartbeats 16000000
namespace Go.Proofs.YtkkobemhbicjgaaGreatDoor
open Go.RowKit
def FaIn (C : List Int) (v : Nat) (out : List Int) : Prop := out.length ≤ v ∧ ∀ x : Int, x ∈ out ↔ ∃ k : Nat, k < v ∧ x = k ∧ C.getD k 0 = 3
theorem FaIn.start (C : List Int) : FaIn C 0 [] := ⟨Nat.le_refl _, fun x => ⟨(fun h => by cases h), (fun ⟨k, hk, _⟩ => by omega)⟩⟩
theorem FaIn.pass {C out : List Int} {v : Nat} (h : FaIn C v out) (hn : C.getD v 0 ≠ 3) : FaIn C (v + 1) out := by
 refine ⟨by have := h.1; omega, fun x => (h.2 x).trans ⟨?_, ?_⟩⟩
 ·rintro ⟨k, hk, r⟩; exact ⟨k, by omega, r⟩
 ·rintro ⟨k, hk, e, hc⟩
  rcases Nat.lt_succ_iff_lt_or_eq.1 hk with hk | rfl
  ·exact ⟨k, hk, e, hc⟩
  ·exact absurd hc hn
theorem FaIn.put {C out : List Int} {v : Nat} (h : FaIn C v out) (hc : C.getD v 0 = 3) : FaIn C (v + 1) (out ++ [(v : Int)]) := by
 refine ⟨by have := h.1; simp; omega, fun x => ?_⟩
 rw [List.mem_append, h.2 x, List.mem_singleton]
 constructor
 ·rintro (⟨k, hk, r⟩ | rfl)
  ·exact ⟨k, by omega, r⟩
  ·exact ⟨v, by omega, rfl, hc⟩
 ·rintro ⟨k, hk, e, r⟩
  rcases Nat.lt_succ_iff_lt_or_eq.1 hk with hk | rfl
  ·exact .inl ⟨k, hk, e, r⟩
  ·exact .inr e
section
variable {nn : Nat} {ns : List Nd} {ds : List Dv} {s s' m : List Int} {x : Dv} {i : Nat}
theorem col3 {v : Int} : colV ds s v = 3 ↔ HasK liveK ds s v ∧ HasK (· = 4) ds s v := by
 unfold colV
 rcases ind_cases (HasK liveK ds s v) 1 with ⟨h, e⟩ | ⟨h, e⟩ <;> rcases ind_cases (HasK (· = 4) ds s v) 2 with ⟨h2, e2⟩ | ⟨h2, e2⟩ <;> rw [e, e2] <;> simp [h, h2]
def FB (ds : List Dv) (x : Dv) (i : Nat) (s : List Int) : Prop := colV ds (withL s i 2) x.a = 3 ∨ joinsB x.kind = true ∧ colV ds (withL s i 2) x.b = 3
theorem faultB_iff (he : EndsOk nn ds) (ha : AOk nn ds) (hx : x ∈ ds) : faultB x.kind x.a x.b (colsOf nn ds s) = true ↔ colV ds s x.a = 3 ∨ joinsB x.kind = true ∧ colV ds s x.b = 3 := by
 have hC := colsOf_are nn ds s
 have h1 := cols_get hC (ha x hx).1 (ha x hx).2
 unfold faultB
 rw [Bool.or_eq_true, Bool.and_eq_true, beq_iff_eq, beq_iff_eq, h1]
 constructor
 ·rintro (h | ⟨h, h2⟩)
  ·exact .inl h
  ·exact .inr ⟨h, by rw [cols_get hC (he x hx h).2.1 (he x hx h).2.2] at h2; exact h2⟩
 ·rintro (h | ⟨h, h2⟩)
  ·exact .inl h
  ·exact .inr ⟨h, by rw [cols_get hC (he x hx h).2.1 (he x hx h).2.2]; exact h2⟩
theorem duty4 (he : EndsOk nn ds) (ha : AOk nn ds) (hx : x ∈ ds) : dutyAt nn ns ds s i x = 4 ↔ FB ds x i s := by
 unfold dutyAt dutyV FB
 rw [← faultB_iff he ha hx]
 constructor
 ·intro h
  split at h
  ·assumption
  ·split at h
   ·cases h
   ·split at h
    ·cases h
    ·split at h <;> cases h
 ·intro h; rw [if_pos h]
theorem fill_in (m : List Int) : fillL m 2 ∈ allOf m := by
 refine (mem_allN m m.length _).2 ⟨fillL_len m 2, fun d hd => ?_⟩
 unfold fillL
 rw [List.getElem?_map, List.getElem?_eq_getElem hd]
 simp only [Option.map_some]
 constructor
 ·intro h; injection h with h; rw [if_pos h]; exact .inr rfl
 ·intro h
  rw [if_neg (fun e => h (by rw [e])), List.getD_eq_getElem?_getD, List.getElem?_eq_getElem hd]; rfl
end
end Go.Proofs.YtkkobemhbicjgaaGreatDoor
namespace Go.Proofs.YtkkobemhbicjgaaGreatDoor
open Go.RowKit
section
variable {ns : List Nd} {ds : List Dv} {m s : List Int} {d p co h : Int} {ls : List Lk} {pr pr2 : List Int} {x : Dv}
theorem agr_iff : s ∈ allOf m ↔ AgrN m m.length s := mem_allN m m.length s
theorem agr_len (hs : s ∈ allOf m) : s.length = m.length := (agr_iff.1 hs).1
theorem agr_at (hs : s ∈ allOf m) {i : Nat} (hi : i < m.length) : m[i]? = some 3 ∧ (s[i]? = some 1 ∨ s[i]? = some 2) ∨ m[i]? ≠ some 3 ∧ s[i]? = m[i]? := by
 obtain ⟨h1, h2⟩ := (agr_iff.1 hs).2 i hi
 by_cases h3 : m[i]? = some 3
 ·exact .inl ⟨h3, h1 h3⟩
 ·refine .inr ⟨h3, ?_⟩
  rw [h2 h3, List.getD_eq_getElem?_getD, List.getElem?_eq_getElem hi]; rfl
theorem agr_mk (hl : s.length = m.length) (h : ∀ i, i < m.length → m[i]? = some 3 ∧ (s[i]? = some 1 ∨ s[i]? = some 2) ∨ m[i]? ≠ some 3 ∧ s[i]? = m[i]?) : s ∈ allOf m := by
 refine agr_iff.2 ⟨hl, fun i hi => ?_⟩
 rcases h i hi with ⟨h1, h2⟩ | ⟨h1, h2⟩
 ·exact ⟨fun _ => h2, fun h => absurd h1 h⟩
 ·refine ⟨fun h => absurd h h1, fun _ => ?_⟩
  rw [h2, List.getD_eq_getElem?_getD, List.getElem?_eq_getElem hi]; rfl
theorem agr_back {i : Nat} {q : Int} (hs : s ∈ allOf (m.set i p)) (hq : m[i]? = some 3 ∧ (q = 1 ∨ q = 2) ∨ m[i]? ≠ some 3 ∧ m[i]? = some q) : s.set i q ∈ allOf m := by
 have hl := agr_len hs
 rw [List.length_set] at hl
 refine agr_mk (by simp [hl]) fun k hk => ?_
 have h := agr_at hs (i := k) (by simpa using hk)
 rw [List.getElem?_set] at h ⊢
 by_cases e : i = k
 ·subst e
  rw [if_pos rfl, if_pos (by omega)]
  rcases hq with ⟨h1, h2⟩ | ⟨h1, h2⟩
  ·exact .inl ⟨h1, by rcases h2 with rfl | rfl <;> simp⟩
  ·exact .inr ⟨h1, h2.symm⟩
 ·rw [if_neg e] at h ⊢; exact h
theorem hz_pr5 {nn i : Nat} (hh : h ∈ hzAt nn ns ds s i p co ls pr x) (h5 : h ≠ 5) : h ∈ hzAt nn ns ds s i p co ls pr2 x := by
 unfold hzAt at hh ⊢
 split at hh
 ·next h1 => rw [if_pos h1]; exact hh
 ·next h1 =>
  rw [if_neg h1]
  rw [hzL_mem] at hh ⊢
  rcases hh with hh | hh | hh | hh | ⟨h6, -⟩ | hh | hh
  ·exact .inl hh
  ·exact .inr (.inl hh)
  ·exact .inr (.inr (.inl hh))
  ·exact .inr (.inr (.inr (.inl hh)))
  ·exact absurd h6 h5
  ·exact .inr (.inr (.inr (.inr (.inr (.inl hh)))))
  ·exact .inr (.inr (.inr (.inr (.inr (.inr hh)))))
end
section
variable {ns : List Nd} {ds : List Dv} {co : Int} {t u : Sm} {x : Sp}
theorem smToOO (hk : x.kind = 1 ∨ x.kind = 2) : smTo ns ds co t x = ⟨hzD ns ds t.s x.dev x.kind co t.ls t.pr, ⟨t.s.set x.dev.toNat x.kind, t.ls, if clsB ds x.kind x.dev then [] else t.pr⟩, true⟩ := by unfold smTo; rw [if_pos hk]
theorem smTo5x (hk : x.kind = 5) : smTo ns ds co t x = if lvB (colsOf ns.length ds t.s) x.node then ⟨[8], t, true⟩ else ⟨[], ⟨t.s, t.ls, provL t.pr x.node⟩, true⟩ := by
 unfold smTo; rw [if_neg (by omega), if_pos hk]
theorem smTo4x (hk : x.kind = 4) : smTo ns ds co t x = if (lkdTo ns ds t.ls x).2 then ⟨[], ⟨t.s, (lkdTo ns ds t.ls x).1, t.pr⟩, true⟩ else ⟨[4], t, true⟩ := by
 have e : smTo ns ds co t x = match idxL x.dev x.key t.ls with
  | none => ⟨[4], t, true⟩
  | some i => ⟨[], ⟨t.s, t.ls.eraseIdx i, t.pr⟩, true⟩ := by
  unfold smTo; rw [if_neg (by omega), if_neg (by omega), if_pos hk]; rfl
 have e2 : lkdTo ns ds t.ls x = match idxL x.dev x.key t.ls with
  | none => (t.ls, false)
  | some i => (t.ls.eraseIdx i, true) := by
  unfold lkdTo; rw [if_neg (by omega)]; rfl
 rw [e, e2]
 rcases idxL x.dev x.key t.ls with _ | i <;> rfl
theorem smTo36 (hk : x.kind = 3 ∨ x.kind = 6) : smTo ns ds co t x = if t.s.getD x.dev.toNat 0 ≠ x.pos then ⟨[8], t, false⟩
 else if x.kind = 6 then ⟨[], t, true⟩
 else if (lkdTo ns ds t.ls x).2 then ⟨[], ⟨t.s, (lkdTo ns ds t.ls x).1, t.pr⟩, true⟩ else ⟨[4], t, true⟩ := by
 unfold smTo; rw [if_neg (by omega), if_neg (by omega), if_neg (by omega)]
 split
 ·rfl
 split
 ·rfl
 ·have e2 : lkdTo ns ds t.ls x = if addErr ns ds t.ls ⟨x.dev, x.pos, x.key⟩ ≠ 0 then (t.ls, false) else (insL ⟨x.dev, x.pos, x.key⟩ t.ls, true) := by
   unfold lkdTo; rw [if_pos (by omega)]
  rw [e2]
  by_cases h : addErr ns ds t.ls ⟨x.dev, x.pos, x.key⟩ ≠ 0
  ·rw [if_pos h, if_pos h]; rfl
  ·rw [if_neg h, if_neg h]; rfl
end
end Go.Proofs.YtkkobemhbicjgaaGreatDoor
namespace Go.Proofs.YtkkobemhbicjgaaGreatDoor
open Go.RowKit
section
variable {ns : List Nd} {ds : List Dv} {co : Int} {t t2 u : Sm} {x : Sp} {m s : List Int}
theorem chTo_e (hd : ds.length ≤ 8) (hc : ChOk ns ds t) : (chTo ns ds co t x).e = 0 := by
 unfold chTo
 split
 ·exact cErr_ok hc.s hd
 split
 ·split <;> rfl
 split
 ·split <;> rfl
 split
 ·rfl
 split
 ·rfl
 split <;> rfl
theorem chRun_e (hd : ds.length ≤ 8) : ∀ (xs : List Sp) (i : Nat) (out : List Fn) (t : Sm), ChOk ns ds t → (∀ x ∈ xs, spErr ns.length ds.length x = 0) → (chRun ns ds co i out t xs).e = 0
 | [], _, _, _, _, _ => rfl
 | x :: r, i, out, t, hc, hx => by
  rw [chRun, if_neg (by simp [chTo_e hd hc])]
  split
  ·rfl
  ·exact chRun_e hd r _ _ _ (chTo_ok hc (hx x (by simp))) fun y hy => hx y (List.mem_cons_of_mem _ hy)
theorem smRun_mono (stk : List Int) : ∀ (xs : List Sp) (i : Nat) (out : List Fn) (t : Sm), ∀ f ∈ out, f ∈ (smRun ns ds co stk i out t xs).1
 | [], _, _, _, _, hf => hf
 | x :: r, i, out, t, f, hf => by
  rw [smRun]
  split
  ·exact hf
  split
  ·exact smRun_mono stk r _ _ _ f (List.mem_append_left _ hf)
  ·exact List.mem_append_left _ hf
theorem smRun_le (stk : List Int) : ∀ (xs : List Sp) (i : Nat) (out : List Fn) (t : Sm), (smRun ns ds co stk i out t xs).2.2 ≤ i + xs.length
 | [], _, _, _ => Nat.le_refl _
 | x :: r, i, out, t => by
  rw [smRun]
  split
  ·exact Nat.le_add_right _ _
  split
  ·have := smRun_le stk r (i + 1) (out ++ fnsOf i (smTo ns ds co t x).h) (smTo ns ds co t x).t
   rw [List.length_cons]; omega
  ·exact Nat.le_add_right _ _
theorem stk_nil (x : Sp) : stkB [] x = false := by unfold stkB; simp
theorem agr_put (hs : s ∈ allOf m) {i : Nat} {q : Int} (h3 : m[i]? = some 3) (hq : q = 1 ∨ q = 2) : s.set i q ∈ allOf m := by
 have hl := agr_len hs
 refine agr_mk (by simp [hl]) fun k hk => ?_
 rw [List.getElem?_set]
 by_cases e : i = k
 ·subst e
  rw [if_pos rfl, if_pos (by omega)]
  exact .inl ⟨h3, by rcases hq with rfl | rfl <;> simp⟩
 ·rw [if_neg e]; exact agr_at hs hk
theorem step_hit (hc : ChOk ns ds t) (hx : spErr ns.length ds.length x = 0) {h : Int} (hh : h ∈ (chTo ns ds co t x).h) (h7 : h ≠ 7) (h5 : h ≠ 5) :
 ∃ s ∈ allOf t.s, ∀ u : Sm, u.s = s → u.ls = t.ls → h ∈ (smTo ns ds co u x).h := by
 obtain ⟨h1, h2, h3, h4, -⟩ := spErr_ok hx
 have hms := (maskErr_net hc.s).2.1
 by_cases k12 : x.kind = 1 ∨ x.kind = 2
 ·obtain ⟨i, hi⟩ := Int.eq_ofNat_of_zero_le (h2 (by omega)).1
  have hlt := (h2 (by omega)).2
  have hx2 : ds[x.dev.toNat]? = some (ds[x.dev.toNat]'(by omega)) := List.getElem?_eq_getElem (by omega)
  rw [chToO k12] at hh
  obtain ⟨s, hs, hz, -⟩ := (mayF_mem hx2 h).1 hh
  refine ⟨s, hs, fun u e1 e2 => ?_⟩
  rw [smToOO k12, e1, e2]
  dsimp only
  unfold hzD
  rw [hx2]
  exact hz_pr5 hz h5
 by_cases k5 : x.kind = 5
 ·rw [chTo5 k5] at hh
  split at hh
  ·next hv =>
   refine ⟨_, fill_in t.s, fun u e1 _ => ?_⟩
   rw [smTo5x k5, e1, if_pos hv]
   exact hh
  ·cases hh
 by_cases k4 : x.kind = 4
 ·rw [chTo4 k4] at hh
  split at hh
  ·cases hh
  ·next hv =>
   refine ⟨_, fill_in t.s, fun u _ e2 => ?_⟩
   rw [smTo4x k4, e2, if_neg hv]
   exact hh
 have k36 : x.kind = 3 ∨ x.kind = 6 := by omega
 have hp := h4 k36
 obtain ⟨i, hi⟩ := Int.eq_ofNat_of_zero_le (h2 (by omega)).1
 have hlt := (h2 (by omega)).2
 have him : x.dev.toNat < t.s.length := by omega
 have hmk := mask_at hc.s him
 have hfl : x.dev.toNat < (fillL t.s 2).length := by rw [fillL_len]; exact him
 have hfa := agr_at (fill_in t.s) him
 rw [chTo36 k36] at hh
 split at hh
 ·next hm =>
  have h8 : h = 8 := by simpa using hh
  subst h8
  refine ⟨_, fill_in t.s, fun u e1 _ => ?_⟩
  rw [smTo36 k36, e1, if_pos]
  ·simp
  unfold misB at hm
  simp only [Bool.and_eq_true, Bool.not_eq_true', decide_eq_false_iff_not] at hm
  rcases hfa with ⟨h6, -⟩ | ⟨-, h6⟩
  ·exact absurd (getD_at h6) hm.2
  ·rw [List.getD_eq_getElem?_getD, h6, ← List.getD_eq_getElem?_getD]; exact hm.1
 next hm =>
 have hm2 : t.s.getD x.dev.toNat 0 = x.pos ∨ t.s.getD x.dev.toNat 0 = 3 := by
  unfold misB at hm
  simp only [Bool.and_eq_true, Bool.not_eq_true', decide_eq_false_iff_not] at hm
  omega
 have g3 : t.s.getD x.dev.toNat 0 = 3 → t.s[x.dev.toNat]? = some 3 := fun e => by
  rw [List.getD_eq_getElem?_getD, List.getElem?_eq_getElem him] at e
  rw [List.getElem?_eq_getElem him]; simpa using e
 -- the two hazards
 have H8 : 8 ∈ unsL (t.s.getD x.dev.toNat 0) x.pos → ∃ s ∈ allOf t.s, ∀ u : Sm, u.s = s → u.ls = t.ls → (8 : Int) ∈ (smTo ns ds co u x).h := fun hu => by
  have hne : t.s.getD x.dev.toNat 0 ≠ x.pos := by
   intro e; unfold unsL at hu; rw [if_pos e] at hu; cases hu
  have e3 := g3 (hm2.resolve_left hne)
  refine ⟨_, agr_put (fill_in t.s) e3 (q := 3 - x.pos) (by omega), fun u e1 _ => ?_⟩
  rw [smTo36 k36, e1, set_at hfl, if_pos (by omega)]
  simp
 have H4 : x.kind ≠ 6 → ¬ (lkdTo ns ds t.ls x).2 = true → ∃ s ∈ allOf t.s, ∀ u : Sm, u.s = s → u.ls = t.ls → (4 : Int) ∈ (smTo ns ds co u x).h := fun k6 hl => by
  obtain ⟨s, hs, hsp⟩ : ∃ s ∈ allOf t.s, s.getD x.dev.toNat 0 = x.pos := by
   rcases hm2 with e | e
   ·refine ⟨_, fill_in t.s, ?_⟩
    rcases hfa with ⟨h6, -⟩ | ⟨-, h6⟩
    ·rw [getD_at h6] at e; omega
    ·rw [List.getD_eq_getElem?_getD, h6, ← List.getD_eq_getElem?_getD]; exact e
   ·exact ⟨_, agr_put (fill_in t.s) (g3 e) hp, set_at hfl _⟩
  refine ⟨s, hs, fun u e1 e2 => ?_⟩
  rw [smTo36 k36, e1, e2, if_neg (by simpa using hsp), if_neg k6, if_neg hl]
  simp
 have hu8 : ∀ y ∈ unsL (t.s.getD x.dev.toNat 0) x.pos, y = 8 := fun y hy => by
  unfold unsL at hy; split at hy
  ·cases hy
  ·simpa using hy
 split at hh
 ·obtain rfl := hu8 h hh; exact H8 hh
 next k6 =>
 split at hh
 ·obtain rfl := hu8 h hh; exact H8 hh
 next hl =>
 rcases List.mem_cons.mp hh with rfl | hh
 ·exact H4 k6 hl
 ·obtain rfl := hu8 h hh; exact H8 hh
theorem step_back (hc : ChOk ns ds t) (hx : spErr ns.length ds.length x = 0) (ho : (chTo ns ds co t x).ov = false) {s' : List Int} (hs : s' ∈ allOf (chTo ns ds co t x).t.s) :
 ∃ s ∈ allOf t.s, ∀ u : Sm, u.s = s → u.ls = t.ls → (smTo ns ds co u x).ok = true ∧ (smTo ns ds co u x).t.s = s' ∧ (smTo ns ds co u x).t.ls = (chTo ns ds co t x).t.ls := by
 obtain ⟨h1, h2, h3, h4, -⟩ := spErr_ok hx
 have hms := (maskErr_net hc.s).2.1
 by_cases k12 : x.kind = 1 ∨ x.kind = 2
 ·obtain ⟨i, hi⟩ := Int.eq_ofNat_of_zero_le (h2 (by omega)).1
  have hlt := (h2 (by omega)).2
  have him : x.dev.toNat < t.s.length := by omega
  have hmk := mask_at hc.s him
  rw [chToO k12] at hs ⊢
  dsimp only at hs ⊢
  have hl := agr_len hs
  rw [List.length_set] at hl
  have hat := agr_at hs (i := x.dev.toNat) (by simpa using him)
  rw [List.getElem?_set, if_pos rfl, if_pos him] at hat
  have hk : s'[x.dev.toNat]? = some x.kind := by
   rcases hat with ⟨h6, -⟩ | ⟨-, h6⟩
   ·simp at h6; omega
   ·exact h6
  obtain ⟨q, hq⟩ : ∃ q, t.s[x.dev.toNat]? = some 3 ∧ (q = 1 ∨ q = 2) ∨ t.s[x.dev.toNat]? ≠ some 3 ∧ t.s[x.dev.toNat]? = some q := by
   rcases hmk with h6 | h6 | h6
   ·exact ⟨1, .inr ⟨by rw [h6]; simp, h6⟩⟩
   ·exact ⟨2, .inr ⟨by rw [h6]; simp, h6⟩⟩
   ·exact ⟨1, .inl ⟨h6, .inl rfl⟩⟩
  refine ⟨_, agr_back hs hq, fun u e1 e2 => ?_⟩
  rw [smToOO k12, e1, e2]
  exact ⟨rfl, by dsimp only; rw [List.set_set, set_id hk], rfl⟩
 by_cases k5 : x.kind = 5
 ·have ht : (chTo ns ds co t x).t.s = t.s ∧ (chTo ns ds co t x).t.ls = t.ls := by rw [chTo5 k5]; split <;> exact ⟨rfl, rfl⟩
  rw [ht.1] at hs
  rw [ht.2]
  refine ⟨s', hs, fun u e1 e2 => ?_⟩
  rw [smTo5x k5]
  split <;> exact ⟨rfl, e1, e2⟩
 by_cases k4 : x.kind = 4
 ·rw [chTo4 k4] at hs ⊢
  refine ⟨s', by split at hs <;> exact hs, fun u e1 e2 => ?_⟩
  rw [smTo4x k4, e2]
  split
  ·exact ⟨rfl, e1, rfl⟩
  ·exact ⟨rfl, e1, e2⟩
 have k36 : x.kind = 3 ∨ x.kind = 6 := by omega
 have hp := h4 k36
 obtain ⟨i, hi⟩ := Int.eq_ofNat_of_zero_le (h2 (by omega)).1
 have hlt := (h2 (by omega)).2
 have him : x.dev.toNat < t.s.length := by omega
 have hmk := mask_at hc.s him
 rw [chTo36 k36] at ho hs ⊢
 split at ho
 ·cases ho
 next hm =>
 rw [if_neg hm] at hs ⊢
 have hm2 : t.s.getD x.dev.toNat 0 = x.pos ∨ t.s.getD x.dev.toNat 0 = 3 := by
  unfold misB at hm
  simp only [Bool.and_eq_true, Bool.not_eq_true', decide_eq_false_iff_not] at hm
  omega
 have hS : s' ∈ allOf (t.s.set x.dev.toNat x.pos) := by
  split at hs
  ·exact hs
  split at hs <;> exact hs
 clear hs
 have hat := agr_at hS (i := x.dev.toNat) (by simpa using him)
 rw [List.getElem?_set, if_pos rfl, if_pos him] at hat
 have hk : s'[x.dev.toNat]? = some x.pos := by
  rcases hat with ⟨h6, -⟩ | ⟨-, h6⟩
  ·simp at h6; omega
  ·exact h6
 have gD : ∀ y : Int, t.s.getD x.dev.toNat 0 = y → t.s[x.dev.toNat]? = some y := fun y e => by
  rw [List.getD_eq_getElem?_getD, List.getElem?_eq_getElem him] at e
  rw [List.getElem?_eq_getElem him]; simpa using e
 have hb : s' ∈ allOf t.s := by
  have := agr_back (q := x.pos) hS (by
   rcases hm2 with e | e
   ·exact .inr ⟨by rw [gD _ e]; simp; omega, gD _ e⟩
   ·exact .inl ⟨gD _ e, hp⟩)
  rwa [set_id hk] at this
 refine ⟨s', hb, fun u e1 e2 => ?_⟩
 rw [smTo36 k36, e1, e2, if_neg (by simpa using getD_at hk)]
 split
 ·exact ⟨rfl, e1, e2⟩
 split
 ·exact ⟨rfl, rfl, rfl⟩
 ·exact ⟨rfl, e1, e2⟩
theorem exact_run : ∀ (xs : List Sp) (i : Nat) (out : List Fn) (t : Sm), ChOk ns ds t → (∀ x ∈ xs, spErr ns.length ds.length x = 0) → ∀ f ∈ (chRun ns ds co i out t xs).o, f ∉ out → f.hz ≠ 7 → f.hz ≠ 5 →
 ∃ s ∈ allOf t.s, ∀ u : Sm, u.s = s → u.ls = t.ls → ∀ out2, f ∈ (smRun ns ds co [] i out2 u xs).1
 | [], i, out, t, _, _, f, hf, hn, _, _ => absurd hf hn
 | x :: r, i, out, t, hc, hx, f, hf, hn, h7, h5 => by
  have hx1 := hx x (by simp)
  have hxr : ∀ y ∈ r, spErr ns.length ds.length y = 0 := fun y hy => hx y (List.mem_cons_of_mem _ hy)
  have hit : f ∈ fnsOf i (chTo ns ds co t x).h → ∃ s ∈ allOf t.s, ∀ u : Sm, u.s = s → u.ls = t.ls → ∀ out2, f ∈ (smRun ns ds co [] i out2 u (x :: r)).1 := fun hf => by
   obtain ⟨y, hy, rfl⟩ := List.mem_map.mp hf
   obtain ⟨s, hs, hu⟩ := step_hit hc hx1 hy h7 h5
   refine ⟨s, hs, fun u e1 e2 out2 => ?_⟩
   have hm : (⟨(i : Int), y⟩ : Fn) ∈ out2 ++ fnsOf i (smTo ns ds co u x).h := List.mem_append_right _ (List.mem_map.mpr ⟨y, hu u e1 e2, rfl⟩)
   rw [smRun, if_neg (by simp [stk_nil])]
   split
   ·exact smRun_mono _ _ _ _ _ _ hm
   ·exact hm
  rw [chRun] at hf
  split at hf
  ·cases hf
  split at hf
  ·exact hit ((List.mem_append.mp hf).resolve_left hn)
  next ho =>
  by_cases hin : f ∈ out ++ fnsOf i (chTo ns ds co t x).h
  ·exact hit ((List.mem_append.mp hin).resolve_left hn)
  ·obtain ⟨s', hs', hu'⟩ := exact_run r _ _ _ (chTo_ok hc hx1) hxr f hf hin h7 h5
   obtain ⟨s, hs, hu⟩ := step_back hc hx1 (by simpa using ho) hs'
   refine ⟨s, hs, fun u e1 e2 out2 => ?_⟩
   obtain ⟨g1, g2, g3⟩ := hu u e1 e2
   rw [smRun, if_neg (by simp [stk_nil]), if_pos g1]
   exact hu' _ g2 g3 _
end
end Go.Proofs.YtkkobemhbicjgaaGreatDoor
namespace Go.Proofs.YtkkobemhbicjgaaGreatDoor
open Go.RowKit
section
variable {ns : List Nd} {ds : List Dv} {m s : List Int} {i : Nat} {x : Dv}
end
end Go.Proofs.YtkkobemhbicjgaaGreatDoor
namespace Go.Proofs.YtkkobemhbicjgaaGreatDoor
open Go.RowKit
def nsW : List Nd := [⟨⟨#[65]⟩, 0, 0⟩]
def dsW : List Dv := [⟨⟨#[69]⟩, 4, 0, -1, 0⟩]
def xsW : List Sp := [⟨2, 0, 0, 0, 0⟩, ⟨3, 0, 0, 2, 4⟩]
theorem namesW : (∀ x ∈ nsW, x.name.size ≤ 9223372036854775807) ∧ (∀ x ∈ dsW, x.name.size ≤ 9223372036854775807) := by
 constructor <;> intro x hx <;> simp [nsW, dsW] at hx <;> rcases hx with rfl | rfl <;> decide
theorem chW : chErr nsW dsW [1] 0 [] [] ⟨#[80]⟩ xsW = 0 := by decide
theorem noLiveW (s : List Int) (v : Int) : ¬ HasK liveK dsW s v := by
 rintro ⟨k, x, hx, -, hk, -⟩
 rcases k with _ | k
 ·simp [dsW] at hx; subst hx; rcases hk with hk | hk <;> cases hk
 ·simp [dsW] at hx
theorem mayW : mayF nsW dsW [1] 0 2 0 [] [] = [5] := by
 have hx : dsW[(0 : Int).toNat]? = some ⟨⟨#[69]⟩, 4, 0, -1, 0⟩ := rfl
 have hnet := NetOk.of (ns := nsW) (ds := dsW) (by decide)
 refine (mayF_is hx ⟨by decide, by simp, fun h => ?_⟩).symm
 rw [List.mem_singleton]
 have h1 : ∀ s ∈ allOf ([1] : List Int), s[0]? = some 1 := fun s hs => by
  rcases agr_at hs (i := 0) (by decide) with ⟨h, -⟩ | ⟨-, h⟩
  ·cases h
  ·exact h
 constructor
 ·rintro rfl
  refine ⟨fillL [1] 2, fill_in _, ?_, .inl (by decide)⟩
  unfold hzAt
  rw [if_neg (by decide), hzL_mem]
  exact .inr (.inr (.inr (.inr (.inl ⟨rfl, by simp [hasB]⟩))))
 ·rintro ⟨s, hs, hz, -⟩
  have hs1 := h1 s hs
  unfold hzAt at hz
  rw [if_neg (by show ¬ s.getD 0 0 = 2; rw [getD_at hs1]; decide), hzL_mem] at hz
  rcases hz with ⟨-, hz⟩ | ⟨-, hz⟩ | ⟨-, hz⟩ | ⟨-, hz⟩ | ⟨h, -⟩ | ⟨-, hz⟩ | ⟨-, hz⟩
  ·simp only [Bool.and_eq_true, decide_eq_true_eq] at hz
   have := (duty4 hnet.e hnet.a (by simp [dsW])).1 hz.2
   rcases this with h | ⟨h, -⟩
   ·exact absurd (col3.1 h).1 (noLiveW _ _)
   ·cases h
  ·simp [badB] at hz
  ·unfold lostB at hz
   simp only [decide_eq_true_eq] at hz
   obtain ⟨k, y, -, -, h, -⟩ := hz
   exact absurd h.1 (noLiveW _ _)
  ·simp [lockB] at hz
  ·exact h
  ·simp at hz
  ·cases hz
theorem runW : chRun nsW dsW 0 0 [] ⟨[1], [], []⟩ xsW = ⟨0, [⟨0, 5⟩], ⟨[2], [⟨0, 2, 4⟩], []⟩⟩ := by
 have e1 : chTo nsW dsW 0 ⟨[1], [], []⟩ ⟨2, 0, 0, 0, 0⟩ = ⟨0, [5], ⟨[2], [], []⟩, false⟩ := by
  rw [chToO (.inr rfl)]
  dsimp only
  rw [mayW]; rfl
 have e2 : chTo nsW dsW 0 ⟨[2], [], []⟩ ⟨3, 0, 0, 2, 4⟩ = ⟨0, [], ⟨[2], [⟨0, 2, 4⟩], []⟩, false⟩ := by
  rw [chTo36 (.inl rfl)]
  have e3 : lkdTo nsW dsW [] ⟨3, 0, 0, 2, 4⟩ = ([⟨0, 2, 4⟩], true) := by
   unfold lkdTo
   rw [if_pos rfl, if_neg (by decide)]; rfl
  dsimp only
  rw [e3]; rfl
 unfold xsW
 rw [chRun, e1, if_neg (by decide), if_neg (by decide), chRun, e2, if_neg (by decide), if_neg (by decide), chRun]; rfl
theorem Blk.sl {w : World} {g n size : Nat} {T : TypeId} {cs : Array Value} {xs : List Value} (h : Blk w g T cs) (hc : cs.toList = xs) (hs : cs.size = n * size) (hn : n ≤ 100) : Sl w w.heap.size size (some ⟨g, 0, none⟩) n n xs := by
 subst hc
 refine ⟨by simpa using hs, Nat.le_refl _, by omega, (fun e => by cases e), fun _ => ⟨g, 0, rfl, h.lt, fun j u hu => ?_⟩⟩
 rw [Nat.zero_add, h.cell]; simpa using hu
def nW : Array Value := #[.string ⟨#[65]⟩, .int .i64 0, .int .i64 0]
def dW : Array Value := #[.string ⟨#[69]⟩, .int .i64 4, .int .i64 0, .int .i64 (-1), .int .i64 0]
def xW : Array Value := #[.int .i64 2, .int .i64 0, .int .i64 0, .int .i64 0, .int .i64 0, .int .i64 3, .int .i64 0, .int .i64 0, .int .i64 2, .int .i64 4]
theorem awake_any (w : World) (hl : Laid w) : Calls Tryz.prog 11 #[] w fun e w' => e = .returned (.bool true) ∧ Below w.heap.size w w' := by
 have HB : Hid (Bxs w [(85, nW), (57, dW), (30, #[.slice (some ⟨w.heap.size, 0, none⟩) 1 1, .slice (some ⟨w.heap.size + 1, 0, none⟩) 1 1]), (43, xW), (41, #[.string ⟨#[80]⟩, .slice (some ⟨w.heap.size + 1 + 1 + 1, 0, none⟩) 2 2])] _) := (Bxs.new4 w (85, nW) (57, dW) (30, #[.slice (some ⟨w.heap.size, 0, none⟩) 1 1, .slice (some ⟨w.heap.size + 1, 0, none⟩) 1 1]) (43, xW)).add (by simp) 41 #[.string ⟨#[80]⟩, .slice (some ⟨w.heap.size + 1 + 1 + 1, 0, none⟩) 2 2]
 have HLA := Lib.hid hl
 clear hl
 dsimp only [nW, dW, xW] at HB
 go_enter Tryz.func11, Tryz.ntmps11
 go_upto_region 3 with (fail)
 generalize World.alloc (World.alloc (World.alloc (World.alloc (World.alloc w _) _) _) _) _ = W at *
 rw [show w.heap.size + 1 + 1 = w.heap.size + 2 from rfl, show w.heap.size + 2 + 1 = w.heap.size + 3 from rfl, show w.heap.size + 3 + 1 = w.heap.size + 4 from rfl]
 have k0 := HB.out.b2.c0
 have k1 := HB.out.b2.c1
 have p0 := HB.out.b4.c0
 have p1 := HB.out.b4.c1
 have hlt := HB.out.b4.lt
 go_wp2_with fail
 clear k0 k1 p0 p1 hlt
 have HB1 := Lib.hid (HB.out.later ((Below.refl _ W).alloc (Nat.le_refl _) (.cells #[.int .i64 1] 3)))
 have HS1 : Hid (Sl (W.alloc (.cells #[.int .i64 1] 3)) (W.alloc (.cells #[.int .i64 1] 3)).heap.size 1 (some ⟨W.heap.size, 0, none⟩) 1 1 (intsV [1])) := (Sl.newest (n := 1) (size := 1) rfl rfl (by decide)).more (by simp)
 clear HB
 generalize World.alloc W _ = w1 at *
 have HM1 : Hid (SmMem w1 (some ⟨w.heap.size, 0, none⟩) (some ⟨w.heap.size + 1, 0, none⟩) (some ⟨W.heap.size, 0, none⟩) none none (some ⟨w.heap.size + 3, 0, none⟩) 1 1 1 1 1 1 0 0 0 0 2 2 nsW dsW [1] [] [] ⟨#[80]⟩ xsW) := ⟨⟨HB1.out.b0.sl rfl rfl (by decide), HB1.out.b1.sl rfl rfl (by decide), HS1.out, Sl.nil _ _ _, Sl.nil _ _ _, HLA.out.below HB1.out.l (Nat.le_refl _), namesW.1, namesW.2⟩, HB1.out.b3.sl rfl rfl (by decide), by decide⟩
 refine (chRun_any _ _ _ _ _ _ 1 1 1 1 1 1 0 0 0 0 2 2 nsW dsW [1] [] [] 0 ⟨#[80]⟩ xsW w1 HM1.out).mono ?_
 rintro e w2 ⟨⟨h1, -⟩ | ⟨-, h1, -⟩ | ⟨-, -, A1, A2, A3, A4, n1, c1, n2, c2, n3, c3, n4, c4, rfl, hR⟩, hb2⟩
 ·exact absurd chW h1
 ·rw [runW] at h1; exact absurd rfl h1
 rw [runW] at hR
 obtain rfl : 1 = n1 := hR.out.o.len (f := Fn.cells) (fun _ => rfl) (by decide)
 obtain rfl : 1 = n3 := hR.out.l.len (f := Lk.cells) (fun _ => rfl) (by decide)
 have HB2 : Hid (Below w.heap.size w w2) := HB1.out.l.trans (hb2.out.mono HB1.out.l.size)
 have HR2 := Lib.hid hR.out
 clear hR hb2 HB1 HS1 HM1
 go_upto_region 4 with (fail)
 have HG5 := Lib.hid (Blk.new w2 47 #[.slice A1 1 c1, .slice A2 n2 c2, .int .i64 0, .slice A3 1 c3, .slice A4 n4 c4])
 have HB3 : Hid (Below w2.heap.size w2 (w2.alloc (.cells #[.slice A1 1 c1, .slice A2 n2 c2, .int .i64 0, .slice A3 1 c3, .slice A4 n4 c4] 47))) := (Below.refl _ _).alloc (Nat.le_refl _) _
 have HF3 := Lib.hid ((HR2.out.o.below HB3.out (Nat.le_refl _)).more HB3.out.size)
 have HM3 := Lib.hid ((HR2.out.s.below HB3.out (Nat.le_refl _)).more HB3.out.size)
 replace HB3 := Lib.hid (HB2.out.trans (HB3.out.mono HB2.out.size))
 clear HB2 HR2
 dsimp only at HF3 HM3
 generalize World.alloc w2 _ = w3 at *
 obtain ⟨rb, hrb⟩ : ∃ x, x = w2.heap.size := ⟨_, rfl⟩
 rw [← hrb] at HG5 ⊢
 clear hrb
 have r0 := HG5.out.c0
 go_wp2_with fail
 clear r0
 have HBL : Hid (Below w3.heap.size w3 (w3.alloc (.cells #[.int .i64 0, .int .i64 5] 53))) := (Below.refl _ _).alloc (Nat.le_refl _) _
 have HN : Hid (Sl (w3.alloc (.cells #[.int .i64 0, .int .i64 5] 53)) (w3.alloc (.cells #[.int .i64 0, .int .i64 5] 53)).heap.size 2 (some ⟨w3.heap.size, 0, none⟩) 1 1 (([⟨0, 5⟩] : List Fn).flatMap Fn.cells)) := (Sl.newest (n := 1) (size := 2) rfl rfl (by decide)).more (by simp)
 have HF4 := Lib.hid ((HF3.out.below HBL.out (Nat.le_refl _)).more HBL.out.size)
 have HM4 := Lib.hid ((HM3.out.below HBL.out (Nat.le_refl _)).more HBL.out.size)
 have HG4 := Lib.hid (HG5.out.below HBL.out HG5.out.lt)
 have HB4 := Lib.hid (HB3.out.trans (HBL.out.mono HB3.out.size))
 clear HF3 HM3 HG5 HB3 HBL
 generalize World.alloc w3 _ = w4 at *
 refine (samef_any A1 _ 1 c1 1 1 w4.heap.size w4.heap.size _ _ w4 HF4.out HN.out (Nat.le_refl _) (Nat.le_refl _)).mono ?_
 rintro e w5 ⟨rfl, hb5⟩
 rw [show decide (([⟨0, 5⟩] : List Fn) = [⟨0, 5⟩]) = true from rfl]
 have HF5 := Lib.hid ((HF4.out.below hb5 (Nat.le_refl _)).more hb5.size)
 have HM5 := Lib.hid ((HM4.out.below hb5 (Nat.le_refl _)).more hb5.size)
 have HG6 := Lib.hid (HG4.out.below hb5 HG4.out.lt)
 have HB5 := Lib.hid (HB4.out.trans (hb5.mono HB4.out.size))
 clear hb5 HF4 HM4 HG4 HB4 HN
 have r1 := HG6.out.c1
 have r3 := HG6.out.c3
 have hlt := HG6.out.lt
 go_wp2_with fail
 clear r1 r3 hlt
 have HBL : Hid (Below w5.heap.size w5 (w5.alloc (.cells #[.int .i64 2] 3))) := (Below.refl _ _).alloc (Nat.le_refl _) _
 have HN : Hid (Sl (w5.alloc (.cells #[.int .i64 2] 3)) (w5.alloc (.cells #[.int .i64 2] 3)).heap.size 1 (some ⟨w5.heap.size, 0, none⟩) 1 1 (intsV [2])) := (Sl.newest (n := 1) (size := 1) rfl rfl (by decide)).more (by simp)
 have HF6 := Lib.hid ((HF5.out.below HBL.out (Nat.le_refl _)).more HBL.out.size)
 have HM6 := Lib.hid ((HM5.out.below HBL.out (Nat.le_refl _)).more HBL.out.size)
 have HG7 := Lib.hid (HG6.out.below HBL.out HG6.out.lt)
 have HB6 := Lib.hid (HB5.out.trans (HBL.out.mono HB5.out.size))
 clear HF5 HM5 HG6 HB5 HBL
 generalize World.alloc w5 _ = w6 at *
 refine (ints_any A2 _ n2 c2 1 1 w6.heap.size w6.heap.size [2] [2] w6 HM6.out HN.out (Nat.le_refl _) (Nat.le_refl _)).mono ?_
 rintro e w7 ⟨rfl, hb7⟩
 rw [show decide (([2] : List Int) = [2]) = true from rfl]
 have HF7 := Lib.hid ((HF6.out.below hb7 (Nat.le_refl _)).more hb7.size)
 have HG8 := Lib.hid (HG7.out.below hb7 HG7.out.lt)
 have HB7 := Lib.hid (HB6.out.trans (hb7.mono HB6.out.size))
 clear hb7 HF6 HM6 HG7 HB6 HN
 have r0 := HG8.out.c0
 have r1 := HG8.out.c1
 have r2 := HG8.out.c2
 have r3 := HG8.out.c3
 have r4 := HG8.out.c4
 have hlt := HG8.out.lt
 go_wp2_with fail
 clear r0 r1 r2 r3 r4 hlt
 have HBL : Hid (Below w7.heap.size w7 (w7.alloc (.cells #[.int .i64 5] 3))) := (Below.refl _ _).alloc (Nat.le_refl _) _
 have HN : Hid (Sl (w7.alloc (.cells #[.int .i64 5] 3)) (w7.alloc (.cells #[.int .i64 5] 3)).heap.size 1 (some ⟨w7.heap.size, 0, none⟩) 1 1 (intsV [5])) := (Sl.newest (n := 1) (size := 1) rfl rfl (by decide)).more (by simp)
 have HF8 := Lib.hid ((HF7.out.below HBL.out (Nat.le_refl _)).more HBL.out.size)
 have HB8 := Lib.hid (HB7.out.trans (HBL.out.mono HB7.out.size))
 clear HF7 HG8 HB7 HBL
 generalize World.alloc w7 _ = w8 at *
 refine (clean_any A1 A2 A3 A4 _ 1 c1 n2 c2 1 c3 n4 c4 1 1 0 [⟨0, 5⟩] [5] w8 HF8.out HN.out).mono ?_
 rintro e w9 ⟨rfl, hb9⟩
 rw [show clnB [⟨0, 5⟩] [5] = true from by decide]
 go_wp2_with fail
 go_ret
 exact ⟨rfl, HB8.out.trans (hb9.mono HB8.out.size)⟩
end Go.Proofs.YtkkobemhbicjgaaGreatDoor
namespace Go.Proofs.YtkkobemhbicjgaaGreatDoor
open Go.RowKit
structure MsM (w : World) (g x : Nat) (nt st : Array Value) (wr : World) : Prop where
 b0 : Blk wr w.heap.size 30 nt
 b1 : Blk wr (w.heap.size + 1) 43 #[.int .i64 0, .int .i64 0, .int .i64 0, .int .i64 0, .int .i64 0]
 bx : Blk wr x 43 st
 dk : DeckAt wr g
 gr : w.grownBy wr (some g)
section
variable {w wr wr' : World} {g x : Nat} {nt st : Array Value}
theorem MsM.grown (h : MsM w g x nt st wr) (hg : wr.grownBy wr' (some g)) (hd : DeckAt wr' g) (h0 : g < w.heap.size) (hx : w.heap.size + 1 < x) : MsM w g x nt st wr' :=
 ⟨h.b0.grown hg (fun e => by injection e with e; omega), h.b1.grown hg (fun e => by injection e with e; omega), h.bx.grown hg (fun e => by injection e with e; omega), hd, grown_trans h.gr hg⟩
theorem MsM.put (h : MsM w g x nt st wr) (h0 : g < w.heap.size) (hx : w.heap.size + 1 < x) (i : Nat) (u : Value) : MsM w g x nt (st.setIfInBounds i u) (wr.setCell ⟨x, i, none⟩ u) :=
 ⟨h.b0.far (by show w.heap.size ≠ x; omega) _, h.b1.far (by show w.heap.size + 1 ≠ x; omega) _, h.bx.set i u, h.dk.setCell (by show g < x; omega) _, grown_set h.gr (by show w.heap.size ≤ x; omega) _⟩
theorem MsM.fin {a b c d e : Value} (h : MsM w g x nt #[a, b, c, d, e] wr) (h0 : g < w.heap.size) : Blk (set5 wr (w.heap.size + 1) a b c d e) (w.heap.size + 1) 43 #[a, b, c, d, e] ∧ DeckAt (set5 wr (w.heap.size + 1) a b c d e) g ∧ w.grownBy (set5 wr (w.heap.size + 1) a b c d e) (some g) :=
 ⟨h.b1.all5, ((((h.dk.setCell (p := ⟨w.heap.size + 1, 0, none⟩) (by simp; omega) a).setCell (p := ⟨w.heap.size + 1, 1, none⟩) (by simp; omega) b).setCell (p := ⟨w.heap.size + 1, 2, none⟩) (by simp; omega) c).setCell (p := ⟨w.heap.size + 1, 3, none⟩) (by simp; omega) d).setCell (p := ⟨w.heap.size + 1, 4, none⟩) (by simp; omega) e,
  grown_set (grown_set (grown_set (grown_set (grown_set h.gr (p := ⟨w.heap.size + 1, 0, none⟩) (by simp) a) (p := ⟨w.heap.size + 1, 1, none⟩) (by simp) b) (p := ⟨w.heap.size + 1, 2, none⟩) (by simp) c) (p := ⟨w.heap.size + 1, 3, none⟩) (by simp) d) (p := ⟨w.heap.size + 1, 4, none⟩) (by simp) e⟩
end
def MstPost (w : World) (g nn nd : Nat) (e : Ending) (w' : World) : Prop := ∃ (k d no p q : Int), e = .returned (.agg #[.int .i64 k, .int .i64 d, .int .i64 no, .int .i64 p, .int .i64 q]) ∧ Hid (spErr nn nd ⟨k, d, no, p, q⟩ = 0) ∧ Hid (DeckAt w' g) ∧ Hid (w.grownBy w' (some g))
theorem mkstep_any (g : Nat) (An Ad : Option Addr) (nn cn nd cd : Nat) (w : World) (hd : DeckAt w g) (hnn : 0 < nn) (hnn1 : nn ≤ 1000) (hnd : 0 < nd) (hnd1 : nd ≤ 1000) :
 Calls Tryz.prog 18 #[.pointer (some ⟨g, 0, none⟩), .agg #[.slice An nn cn, .slice Ad nd cd]] w (MstPost w g nn nd) := by
 have hlt := hd.lt
 have HB0 := Lib.hid ((Blk.new w 30 #[.slice An nn cn, .slice Ad nd cd]).alloc (.cells #[.int .i64 0, .int .i64 0, .int .i64 0, .int .i64 0, .int .i64 0] 43))
 have HB1 : Hid (Blk ((w.alloc (.cells #[.slice An nn cn, .slice Ad nd cd] 30)).alloc (.cells #[.int .i64 0, .int .i64 0, .int .i64 0, .int .i64 0, .int .i64 0] 43)) (w.heap.size + 1) 43 #[.int .i64 0, .int .i64 0, .int .i64 0, .int .i64 0, .int .i64 0]) := by
  have := Blk.new (w.alloc (.cells #[.slice An nn cn, .slice Ad nd cd] 30)) 43 #[.int .i64 0, .int .i64 0, .int .i64 0, .int .i64 0, .int .i64 0]
  unfold Hid; simpa using this
 have HBL : Hid (Below w.heap.size w ((w.alloc (.cells #[.slice An nn cn, .slice Ad nd cd] 30)).alloc (.cells #[.int .i64 0, .int .i64 0, .int .i64 0, .int .i64 0, .int .i64 0] 43))) := ((Below.refl _ _).alloc (Nat.le_refl _) _).alloc (by simp) _
 have HD0 := Lib.hid ((hd.alloc (.cells #[.slice An nn cn, .slice Ad nd cd] 30)).alloc (.cells #[.int .i64 0, .int .i64 0, .int .i64 0, .int .i64 0, .int .i64 0] 43))
 clear hd
 go_enter Tryz.func18, Tryz.ntmps18
 go_upto_region 1 with (fail)
 generalize World.alloc (World.alloc w _) _ = W at *
 go_wp2_with fail
 refine (next_any g 6 W HD0.out (by decide)).mono ?_
 rintro e w1 ⟨r, rfl, hv0, _, hv1, hd1, hg1, hs1⟩
 have hvn := hv1.out (by decide)
 have hx : w.heap.size + 1 < w1.heap.size := by have := HB1.out.lt; have := hg1.out.size; omega
 have HG1 := Lib.hid (grown_trans (grown_of_below HBL.out (some g)) hg1.out)
 have HC0 := Lib.hid (HB0.out.grown hg1.out (fun e => by injection e with e; omega))
 have HC1 := Lib.hid (HB1.out.grown hg1.out (fun e => by injection e with e; omega))
 have HDK := Lib.hid hd1.out
 clear hv1 hd1 hg1 hs1 HB0 HB1 HBL HD0
 rcases (show r = 0 ∨ r = 1 ∨ r = 2 ∨ r = 3 ∨ r = 4 ∨ r = 5 by omega) with rfl | rfl | rfl | rfl | rfl | rfl
 ·clear hv0 hvn
  go_upto_region 2 with (fail)
  have HM : Hid (MsM w g w1.heap.size #[.slice An nn cn, .slice Ad nd cd] #[.int .i64 1, .int .i64 0, .int .i64 0, .int .i64 0, .int .i64 0] (w1.alloc (.cells #[.int .i64 1, .int .i64 0, .int .i64 0, .int .i64 0, .int .i64 0] 43))) := ⟨HC0.out.alloc _, HC1.out.alloc _, Blk.new _ _ _, HDK.out.alloc _, grown_trans HG1.out (grown_of_below ((Below.refl _ _).alloc (Nat.le_refl _) _) _)⟩
  clear HC0 HC1 HDK HG1
  generalize World.alloc w1 _ = V at *
  obtain ⟨x, hxx⟩ : ∃ x, x = w1.heap.size := ⟨_, rfl⟩
  rw [← hxx] at HM hx ⊢
  clear hxx
  have b0 := HM.out.b0.c0
  have b1 := HM.out.b0.c1
  have s0 := HM.out.bx.c0
  go_wp2_with fail
  clear b0 b1 s0
  refine (next_any g (nd : Int) V HM.out.dk (by omega)).mono ?_
  rintro e w2 ⟨v1, rfl, h01, _, hv1, hd1, hg1, hs1⟩
  have h11 := hv1.out (by omega)
  have HM := Lib.hid (HM.out.grown hg1.out hd1.out hlt hx)
  clear hv1 hd1 hg1 hs1
  have c0 := HM.out.bx.c1
  have f0 := HM.out.bx.frozen 1
  have HM := Lib.hid (HM.out.put hlt hx 1 (.int .i64 v1))
  go_upto_region 6 with (fail)
  clear c0 f0
  generalize World.setCell w2 _ _ = X1 at *
  have HM : Hid (MsM w g x #[.slice An nn cn, .slice Ad nd cd] #[.int .i64 1, .int .i64 v1, .int .i64 0, .int .i64 0, .int .i64 0] X1) := HM.out
  have s0 := HM.out.bx.c0
  have s1 := HM.out.bx.c1
  have s2 := HM.out.bx.c2
  have s3 := HM.out.bx.c3
  have s4 := HM.out.bx.c4
  have d0 := HM.out.b1.c0
  have y50 := HM.out.b1.frozen 0
  have d1 := HM.out.b1.c1
  have y51 := HM.out.b1.frozen 1
  have d2 := HM.out.b1.c2
  have y52 := HM.out.b1.frozen 2
  have d3 := HM.out.b1.c3
  have y53 := HM.out.b1.frozen 3
  have d4 := HM.out.b1.c4
  have y54 := HM.out.b1.frozen 4
  have HF := Lib.hid (HM.out.fin hlt)
  unfold set5 at HF
  go_wp2_with fail
  generalize World.setCell (World.setCell (World.setCell (World.setCell (World.setCell X1 _ _) _ _) _ _) _ _) _ _ = z at *
  have q0 := HF.out.1.c0
  have q1 := HF.out.1.c1
  have q2 := HF.out.1.c2
  have q3 := HF.out.1.c3
  have q4 := HF.out.1.c4
  exact bodyPost_ret (v := .agg #[.int .i64 1, .int .i64 v1, .int .i64 0, .int .i64 0, .int .i64 0]) (by simp [results, Tryz.results18, go_sem, q0, q1, q2, q3, q4]) rfl ⟨_, _, _, _, _, rfl, by unfold Hid; rw [spE1, if_neg (by omega), if_neg (by omega)], HF.out.2.1, HF.out.2.2⟩
 ·clear hv0 hvn
  go_upto_region 2 with (fail)
  have HM : Hid (MsM w g w1.heap.size #[.slice An nn cn, .slice Ad nd cd] #[.int .i64 2, .int .i64 0, .int .i64 0, .int .i64 0, .int .i64 0] (w1.alloc (.cells #[.int .i64 2, .int .i64 0, .int .i64 0, .int .i64 0, .int .i64 0] 43))) := ⟨HC0.out.alloc _, HC1.out.alloc _, Blk.new _ _ _, HDK.out.alloc _, grown_trans HG1.out (grown_of_below ((Below.refl _ _).alloc (Nat.le_refl _) _) _)⟩
  clear HC0 HC1 HDK HG1
  generalize World.alloc w1 _ = V at *
  obtain ⟨x, hxx⟩ : ∃ x, x = w1.heap.size := ⟨_, rfl⟩
  rw [← hxx] at HM hx ⊢
  clear hxx
  have b0 := HM.out.b0.c0
  have b1 := HM.out.b0.c1
  have s0 := HM.out.bx.c0
  go_wp2_with fail
  clear b0 b1 s0
  refine (next_any g (nd : Int) V HM.out.dk (by omega)).mono ?_
  rintro e w2 ⟨v1, rfl, h01, _, hv1, hd1, hg1, hs1⟩
  have h11 := hv1.out (by omega)
  have HM := Lib.hid (HM.out.grown hg1.out hd1.out hlt hx)
  clear hv1 hd1 hg1 hs1
  have c0 := HM.out.bx.c1
  have f0 := HM.out.bx.frozen 1
  have HM := Lib.hid (HM.out.put hlt hx 1 (.int .i64 v1))
  go_upto_region 6 with (fail)
  clear c0 f0
  generalize World.setCell w2 _ _ = X1 at *
  have HM : Hid (MsM w g x #[.slice An nn cn, .slice Ad nd cd] #[.int .i64 2, .int .i64 v1, .int .i64 0, .int .i64 0, .int .i64 0] X1) := HM.out
  have s0 := HM.out.bx.c0
  have s1 := HM.out.bx.c1
  have s2 := HM.out.bx.c2
  have s3 := HM.out.bx.c3
  have s4 := HM.out.bx.c4
  have d0 := HM.out.b1.c0
  have y50 := HM.out.b1.frozen 0
  have d1 := HM.out.b1.c1
  have y51 := HM.out.b1.frozen 1
  have d2 := HM.out.b1.c2
  have y52 := HM.out.b1.frozen 2
  have d3 := HM.out.b1.c3
  have y53 := HM.out.b1.frozen 3
  have d4 := HM.out.b1.c4
  have y54 := HM.out.b1.frozen 4
  have HF := Lib.hid (HM.out.fin hlt)
  unfold set5 at HF
  go_wp2_with fail
  generalize World.setCell (World.setCell (World.setCell (World.setCell (World.setCell X1 _ _) _ _) _ _) _ _) _ _ = z at *
  have q0 := HF.out.1.c0
  have q1 := HF.out.1.c1
  have q2 := HF.out.1.c2
  have q3 := HF.out.1.c3
  have q4 := HF.out.1.c4
  exact bodyPost_ret (v := .agg #[.int .i64 2, .int .i64 v1, .int .i64 0, .int .i64 0, .int .i64 0]) (by simp [results, Tryz.results18, go_sem, q0, q1, q2, q3, q4]) rfl ⟨_, _, _, _, _, rfl, by unfold Hid; rw [spE2, if_neg (by omega), if_neg (by omega)], HF.out.2.1, HF.out.2.2⟩
 ·clear hv0 hvn
  go_upto_region 2 with (fail)
  have HM : Hid (MsM w g w1.heap.size #[.slice An nn cn, .slice Ad nd cd] #[.int .i64 3, .int .i64 0, .int .i64 0, .int .i64 0, .int .i64 0] (w1.alloc (.cells #[.int .i64 3, .int .i64 0, .int .i64 0, .int .i64 0, .int .i64 0] 43))) := ⟨HC0.out.alloc _, HC1.out.alloc _, Blk.new _ _ _, HDK.out.alloc _, grown_trans HG1.out (grown_of_below ((Below.refl _ _).alloc (Nat.le_refl _) _) _)⟩
  clear HC0 HC1 HDK HG1
  generalize World.alloc w1 _ = V at *
  obtain ⟨x, hxx⟩ : ∃ x, x = w1.heap.size := ⟨_, rfl⟩
  rw [← hxx] at HM hx ⊢
  clear hxx
  have b0 := HM.out.b0.c0
  have b1 := HM.out.b0.c1
  have s0 := HM.out.bx.c0
  go_wp2_with fail
  clear b0 b1 s0
  refine (next_any g (nd : Int) V HM.out.dk (by omega)).mono ?_
  rintro e w2 ⟨v1, rfl, h01, _, hv1, hd1, hg1, hs1⟩
  have h11 := hv1.out (by omega)
  have HM := Lib.hid (HM.out.grown hg1.out hd1.out hlt hx)
  clear hv1 hd1 hg1 hs1
  have c0 := HM.out.bx.c1
  have f0 := HM.out.bx.frozen 1
  have HM := Lib.hid (HM.out.put hlt hx 1 (.int .i64 v1))
  go_upto_region 6 with (fail)
  clear c0 f0
  generalize World.setCell w2 _ _ = X1 at *
  have HM : Hid (MsM w g x #[.slice An nn cn, .slice Ad nd cd] #[.int .i64 3, .int .i64 v1, .int .i64 0, .int .i64 0, .int .i64 0] X1) := HM.out
  have b0 := HM.out.b0.c0
  have b1 := HM.out.b0.c1
  have s0 := HM.out.bx.c0
  go_wp2_with fail
  clear b0 b1 s0
  refine (next_any g 2 X1 HM.out.dk (by omega)).mono ?_
  rintro e w3 ⟨v2, rfl, h02, _, hv1, hd1, hg1, hs1⟩
  have h12 := hv1.out (by omega)
  have HM := Lib.hid (HM.out.grown hg1.out hd1.out hlt hx)
  clear hv1 hd1 hg1 hs1
  have c0 := HM.out.bx.c3
  have f0 := HM.out.bx.frozen 3
  have HM := Lib.hid (HM.out.put hlt hx 3 (.int .i64 (1 + v2)))
  go_upto_region 8 with (fail)
  clear c0 f0
  generalize World.setCell w3 _ _ = X2 at *
  have HM : Hid (MsM w g x #[.slice An nn cn, .slice Ad nd cd] #[.int .i64 3, .int .i64 v1, .int .i64 0, .int .i64 (1 + v2), .int .i64 0] X2) := HM.out
  have b0 := HM.out.b0.c0
  have b1 := HM.out.b0.c1
  have s0 := HM.out.bx.c0
  go_wp2_with fail
  clear b0 b1 s0
  refine (next_any g 12 X2 HM.out.dk (by omega)).mono ?_
  rintro e w4 ⟨v3, rfl, h03, _, hv1, hd1, hg1, hs1⟩
  have h13 := hv1.out (by omega)
  have HM := Lib.hid (HM.out.grown hg1.out hd1.out hlt hx)
  clear hv1 hd1 hg1 hs1
  have c0 := HM.out.bx.c4
  have f0 := HM.out.bx.frozen 4
  have HM := Lib.hid (HM.out.put hlt hx 4 (.int .i64 (10 + v3)))
  go_upto_region 10 with (fail)
  clear c0 f0
  generalize World.setCell w4 _ _ = X3 at *
  have HM : Hid (MsM w g x #[.slice An nn cn, .slice Ad nd cd] #[.int .i64 3, .int .i64 v1, .int .i64 0, .int .i64 (1 + v2), .int .i64 (10 + v3)] X3) := HM.out
  have s0 := HM.out.bx.c0
  have s1 := HM.out.bx.c1
  have s2 := HM.out.bx.c2
  have s3 := HM.out.bx.c3
  have s4 := HM.out.bx.c4
  have d0 := HM.out.b1.c0
  have y50 := HM.out.b1.frozen 0
  have d1 := HM.out.b1.c1
  have y51 := HM.out.b1.frozen 1
  have d2 := HM.out.b1.c2
  have y52 := HM.out.b1.frozen 2
  have d3 := HM.out.b1.c3
  have y53 := HM.out.b1.frozen 3
  have d4 := HM.out.b1.c4
  have y54 := HM.out.b1.frozen 4
  have HF := Lib.hid (HM.out.fin hlt)
  unfold set5 at HF
  go_wp2_with fail
  generalize World.setCell (World.setCell (World.setCell (World.setCell (World.setCell X3 _ _) _ _) _ _) _ _) _ _ = z at *
  have q0 := HF.out.1.c0
  have q1 := HF.out.1.c1
  have q2 := HF.out.1.c2
  have q3 := HF.out.1.c3
  have q4 := HF.out.1.c4
  exact bodyPost_ret (v := .agg #[.int .i64 3, .int .i64 v1, .int .i64 0, .int .i64 (1 + v2), .int .i64 (10 + v3)]) (by simp [results, Tryz.results18, go_sem, q0, q1, q2, q3, q4]) rfl ⟨_, _, _, _, _, rfl, by unfold Hid; rw [spE3, if_neg (by omega), if_neg (by omega), if_neg (by omega), if_neg (by omega)], HF.out.2.1, HF.out.2.2⟩
 ·clear hv0 hvn
  go_upto_region 2 with (fail)
  have HM : Hid (MsM w g w1.heap.size #[.slice An nn cn, .slice Ad nd cd] #[.int .i64 4, .int .i64 0, .int .i64 0, .int .i64 0, .int .i64 0] (w1.alloc (.cells #[.int .i64 4, .int .i64 0, .int .i64 0, .int .i64 0, .int .i64 0] 43))) := ⟨HC0.out.alloc _, HC1.out.alloc _, Blk.new _ _ _, HDK.out.alloc _, grown_trans HG1.out (grown_of_below ((Below.refl _ _).alloc (Nat.le_refl _) _) _)⟩
  clear HC0 HC1 HDK HG1
  generalize World.alloc w1 _ = V at *
  obtain ⟨x, hxx⟩ : ∃ x, x = w1.heap.size := ⟨_, rfl⟩
  rw [← hxx] at HM hx ⊢
  clear hxx
  have b0 := HM.out.b0.c0
  have b1 := HM.out.b0.c1
  have s0 := HM.out.bx.c0
  go_wp2_with fail
  clear b0 b1 s0
  refine (next_any g (nd : Int) V HM.out.dk (by omega)).mono ?_
  rintro e w2 ⟨v1, rfl, h01, _, hv1, hd1, hg1, hs1⟩
  have h11 := hv1.out (by omega)
  have HM := Lib.hid (HM.out.grown hg1.out hd1.out hlt hx)
  clear hv1 hd1 hg1 hs1
  have c0 := HM.out.bx.c1
  have f0 := HM.out.bx.frozen 1
  have HM := Lib.hid (HM.out.put hlt hx 1 (.int .i64 v1))
  go_upto_region 6 with (fail)
  clear c0 f0
  generalize World.setCell w2 _ _ = X1 at *
  have HM : Hid (MsM w g x #[.slice An nn cn, .slice Ad nd cd] #[.int .i64 4, .int .i64 v1, .int .i64 0, .int .i64 0, .int .i64 0] X1) := HM.out
  have b0 := HM.out.b0.c0
  have b1 := HM.out.b0.c1
  have s0 := HM.out.bx.c0
  go_wp2_with fail
  clear b0 b1 s0
  refine (next_any g 12 X1 HM.out.dk (by omega)).mono ?_
  rintro e w3 ⟨v2, rfl, h02, _, hv1, hd1, hg1, hs1⟩
  have h12 := hv1.out (by omega)
  have HM := Lib.hid (HM.out.grown hg1.out hd1.out hlt hx)
  clear hv1 hd1 hg1 hs1
  have c0 := HM.out.bx.c4
  have f0 := HM.out.bx.frozen 4
  have HM := Lib.hid (HM.out.put hlt hx 4 (.int .i64 (10 + v2)))
  go_upto_region 10 with (fail)
  clear c0 f0
  generalize World.setCell w3 _ _ = X2 at *
  have HM : Hid (MsM w g x #[.slice An nn cn, .slice Ad nd cd] #[.int .i64 4, .int .i64 v1, .int .i64 0, .int .i64 0, .int .i64 (10 + v2)] X2) := HM.out
  have s0 := HM.out.bx.c0
  have s1 := HM.out.bx.c1
  have s2 := HM.out.bx.c2
  have s3 := HM.out.bx.c3
  have s4 := HM.out.bx.c4
  have d0 := HM.out.b1.c0
  have y50 := HM.out.b1.frozen 0
  have d1 := HM.out.b1.c1
  have y51 := HM.out.b1.frozen 1
  have d2 := HM.out.b1.c2
  have y52 := HM.out.b1.frozen 2
  have d3 := HM.out.b1.c3
  have y53 := HM.out.b1.frozen 3
  have d4 := HM.out.b1.c4
  have y54 := HM.out.b1.frozen 4
  have HF := Lib.hid (HM.out.fin hlt)
  unfold set5 at HF
  go_wp2_with fail
  generalize World.setCell (World.setCell (World.setCell (World.setCell (World.setCell X2 _ _) _ _) _ _) _ _) _ _ = z at *
  have q0 := HF.out.1.c0
  have q1 := HF.out.1.c1
  have q2 := HF.out.1.c2
  have q3 := HF.out.1.c3
  have q4 := HF.out.1.c4
  exact bodyPost_ret (v := .agg #[.int .i64 4, .int .i64 v1, .int .i64 0, .int .i64 0, .int .i64 (10 + v2)]) (by simp [results, Tryz.results18, go_sem, q0, q1, q2, q3, q4]) rfl ⟨_, _, _, _, _, rfl, by unfold Hid; rw [spE4, if_neg (by omega), if_neg (by omega), if_neg (by omega)], HF.out.2.1, HF.out.2.2⟩
 ·clear hv0 hvn
  go_upto_region 2 with (fail)
  have HM : Hid (MsM w g w1.heap.size #[.slice An nn cn, .slice Ad nd cd] #[.int .i64 5, .int .i64 0, .int .i64 0, .int .i64 0, .int .i64 0] (w1.alloc (.cells #[.int .i64 5, .int .i64 0, .int .i64 0, .int .i64 0, .int .i64 0] 43))) := ⟨HC0.out.alloc _, HC1.out.alloc _, Blk.new _ _ _, HDK.out.alloc _, grown_trans HG1.out (grown_of_below ((Below.refl _ _).alloc (Nat.le_refl _) _) _)⟩
  clear HC0 HC1 HDK HG1
  generalize World.alloc w1 _ = V at *
  obtain ⟨x, hxx⟩ : ∃ x, x = w1.heap.size := ⟨_, rfl⟩
  rw [← hxx] at HM hx ⊢
  clear hxx
  have b0 := HM.out.b0.c0
  have b1 := HM.out.b0.c1
  have s0 := HM.out.bx.c0
  go_wp2_with fail
  clear b0 b1 s0
  refine (next_any g (nn : Int) V HM.out.dk (by omega)).mono ?_
  rintro e w2 ⟨v1, rfl, h01, _, hv1, hd1, hg1, hs1⟩
  have h11 := hv1.out (by omega)
  have HM := Lib.hid (HM.out.grown hg1.out hd1.out hlt hx)
  clear hv1 hd1 hg1 hs1
  have c0 := HM.out.bx.c2
  have f0 := HM.out.bx.frozen 2
  have HM := Lib.hid (HM.out.put hlt hx 2 (.int .i64 v1))
  go_upto_region 4 with (fail)
  clear c0 f0
  generalize World.setCell w2 _ _ = X1 at *
  have HM : Hid (MsM w g x #[.slice An nn cn, .slice Ad nd cd] #[.int .i64 5, .int .i64 0, .int .i64 v1, .int .i64 0, .int .i64 0] X1) := HM.out
  have s0 := HM.out.bx.c0
  have s1 := HM.out.bx.c1
  have s2 := HM.out.bx.c2
  have s3 := HM.out.bx.c3
  have s4 := HM.out.bx.c4
  have d0 := HM.out.b1.c0
  have y50 := HM.out.b1.frozen 0
  have d1 := HM.out.b1.c1
  have y51 := HM.out.b1.frozen 1
  have d2 := HM.out.b1.c2
  have y52 := HM.out.b1.frozen 2
  have d3 := HM.out.b1.c3
  have y53 := HM.out.b1.frozen 3
  have d4 := HM.out.b1.c4
  have y54 := HM.out.b1.frozen 4
  have HF := Lib.hid (HM.out.fin hlt)
  unfold set5 at HF
  go_wp2_with fail
  generalize World.setCell (World.setCell (World.setCell (World.setCell (World.setCell X1 _ _) _ _) _ _) _ _) _ _ = z at *
  have q0 := HF.out.1.c0
  have q1 := HF.out.1.c1
  have q2 := HF.out.1.c2
  have q3 := HF.out.1.c3
  have q4 := HF.out.1.c4
  exact bodyPost_ret (v := .agg #[.int .i64 5, .int .i64 0, .int .i64 v1, .int .i64 0, .int .i64 0]) (by simp [results, Tryz.results18, go_sem, q0, q1, q2, q3, q4]) rfl ⟨_, _, _, _, _, rfl, by unfold Hid; rw [spE5, if_neg (by omega), if_neg (by omega)], HF.out.2.1, HF.out.2.2⟩
 ·clear hv0 hvn
  go_upto_region 2 with (fail)
  have HM : Hid (MsM w g w1.heap.size #[.slice An nn cn, .slice Ad nd cd] #[.int .i64 6, .int .i64 0, .int .i64 0, .int .i64 0, .int .i64 0] (w1.alloc (.cells #[.int .i64 6, .int .i64 0, .int .i64 0, .int .i64 0, .int .i64 0] 43))) := ⟨HC0.out.alloc _, HC1.out.alloc _, Blk.new _ _ _, HDK.out.alloc _, grown_trans HG1.out (grown_of_below ((Below.refl _ _).alloc (Nat.le_refl _) _) _)⟩
  clear HC0 HC1 HDK HG1
  generalize World.alloc w1 _ = V at *
  obtain ⟨x, hxx⟩ : ∃ x, x = w1.heap.size := ⟨_, rfl⟩
  rw [← hxx] at HM hx ⊢
  clear hxx
  have b0 := HM.out.b0.c0
  have b1 := HM.out.b0.c1
  have s0 := HM.out.bx.c0
  go_wp2_with fail
  clear b0 b1 s0
  refine (next_any g (nd : Int) V HM.out.dk (by omega)).mono ?_
  rintro e w2 ⟨v1, rfl, h01, _, hv1, hd1, hg1, hs1⟩
  have h11 := hv1.out (by omega)
  have HM := Lib.hid (HM.out.grown hg1.out hd1.out hlt hx)
  clear hv1 hd1 hg1 hs1
  have c0 := HM.out.bx.c1
  have f0 := HM.out.bx.frozen 1
  have HM := Lib.hid (HM.out.put hlt hx 1 (.int .i64 v1))
  go_upto_region 6 with (fail)
  clear c0 f0
  generalize World.setCell w2 _ _ = X1 at *
  have HM : Hid (MsM w g x #[.slice An nn cn, .slice Ad nd cd] #[.int .i64 6, .int .i64 v1, .int .i64 0, .int .i64 0, .int .i64 0] X1) := HM.out
  have b0 := HM.out.b0.c0
  have b1 := HM.out.b0.c1
  have s0 := HM.out.bx.c0
  go_wp2_with fail
  clear b0 b1 s0
  refine (next_any g 2 X1 HM.out.dk (by omega)).mono ?_
  rintro e w3 ⟨v2, rfl, h02, _, hv1, hd1, hg1, hs1⟩
  have h12 := hv1.out (by omega)
  have HM := Lib.hid (HM.out.grown hg1.out hd1.out hlt hx)
  clear hv1 hd1 hg1 hs1
  have c0 := HM.out.bx.c3
  have f0 := HM.out.bx.frozen 3
  have HM := Lib.hid (HM.out.put hlt hx 3 (.int .i64 (1 + v2)))
  go_upto_region 8 with (fail)
  clear c0 f0
  generalize World.setCell w3 _ _ = X2 at *
  have HM : Hid (MsM w g x #[.slice An nn cn, .slice Ad nd cd] #[.int .i64 6, .int .i64 v1, .int .i64 0, .int .i64 (1 + v2), .int .i64 0] X2) := HM.out
  have s0 := HM.out.bx.c0
  have s1 := HM.out.bx.c1
  have s2 := HM.out.bx.c2
  have s3 := HM.out.bx.c3
  have s4 := HM.out.bx.c4
  have d0 := HM.out.b1.c0
  have y50 := HM.out.b1.frozen 0
  have d1 := HM.out.b1.c1
  have y51 := HM.out.b1.frozen 1
  have d2 := HM.out.b1.c2
  have y52 := HM.out.b1.frozen 2
  have d3 := HM.out.b1.c3
  have y53 := HM.out.b1.frozen 3
  have d4 := HM.out.b1.c4
  have y54 := HM.out.b1.frozen 4
  have HF := Lib.hid (HM.out.fin hlt)
  unfold set5 at HF
  go_wp2_with fail
  generalize World.setCell (World.setCell (World.setCell (World.setCell (World.setCell X2 _ _) _ _) _ _) _ _) _ _ = z at *
  have q0 := HF.out.1.c0
  have q1 := HF.out.1.c1
  have q2 := HF.out.1.c2
  have q3 := HF.out.1.c3
  have q4 := HF.out.1.c4
  exact bodyPost_ret (v := .agg #[.int .i64 6, .int .i64 v1, .int .i64 0, .int .i64 (1 + v2), .int .i64 0]) (by simp [results, Tryz.results18, go_sem, q0, q1, q2, q3, q4]) rfl ⟨_, _, _, _, _, rfl, by unfold Hid; rw [spE6, if_neg (by omega), if_neg (by omega), if_neg (by omega)], HF.out.2.1, HF.out.2.2⟩
end Go.Proofs.YtkkobemhbicjgaaGreatDoor
namespace Go.Proofs.YtkkobemhbicjgaaGreatDoor
open Go.RowKit
theorem el_step : ElemI Tryz.prog 39 43 5 40 := ElemI.mk' (z := .agg #[.int .i64 0, .int .i64 0, .int .i64 0, .int .i64 0, .int .i64 0]) Tryz.underlying39 (by kernel_rfl) rfl (by decide)
def StepsO (w : World) (base : Nat) (A : Option Addr) (n c : Nat) (xs : List Sp) : Prop := w.ownsRow base 43 5 (.slice A n c) n (xs.flatMap Sp.cells)
theorem StepsO.len {w : World} {base : Nat} {A : Option Addr} {n c : Nat} {xs : List Sp} (h : StepsO w base A n c xs) : xs.length = n := (Sl.of_own h).len (fun _ => rfl) (by decide)
structure MpM (w : World) (g x : Nat) (nt : Array Value) (nm : ByteArray) (A : Option Addr) (n c : Nat) (xs : List Sp) (wr : World) : Prop where
 b0 : Blk wr w.heap.size 30 nt
 b1 : Blk wr (w.heap.size + 1) 41 #[.string ⟨#[]⟩, .slice none 0 0]
 bx : Blk wr x 41 #[.string nm, .slice A n c]
 dk : DeckAt wr g
 gr : w.grownBy wr (some g)
 o : wr.ownsRow (x + 1) 43 5 (.slice A n c) n (xs.flatMap Sp.cells)
 hx : w.heap.size + 1 < x
section
variable {w wr wr' : World} {g x : Nat} {nt : Array Value} {nm : ByteArray} {A A' : Option Addr} {n c c' : Nat} {xs : List Sp} {f : Sp}
theorem MpM.grown (h : MpM w g x nt nm A n c xs wr) (hg : wr.grownBy wr' (some g)) (hd : DeckAt wr' g) (h0 : g < w.heap.size) : MpM w g x nt nm A n c xs wr' :=
 have := h.hx
 ⟨h.b0.grown hg (fun e => by injection e with e; omega), h.b1.grown hg (fun e => by injection e with e; omega), h.bx.grown hg (fun e => by injection e with e; omega), hd, grown_trans h.gr hg, h.o.kept hg (ne_row fun b e => by have := (h.o.lt b e).1; omega), h.hx⟩
theorem MpM.later (h : MpM w g x nt nm A n c xs wr) (hb : Below wr.heap.size wr wr') : MpM w g x nt nm A n c xs wr' :=
 ⟨h.b0.below hb h.b0.lt, h.b1.below hb h.b1.lt, h.bx.below hb h.bx.lt, h.dk.below hb h.dk.lt, grown_then h.gr (hb.mono h.gr.size), own_later h.o hb, h.hx⟩
theorem MpM.drw (h : MpM w g x nt nm A n c xs wr) : MpM w g x nt nm A n c xs wr.drew := h.later (Below.refl _ wr).drew
theorem MpM.app (h : MpM w g x nt nm A n c xs wr) (hg : wr.grownBy wr' (Value.slice A n c).ownBlock) (hr : wr'.ownsRow (x + 1) 43 5 (.slice A' (n + 1) c') (n + 1) (xs.flatMap Sp.cells ++ f.cells)) (h0 : g < w.heap.size) :
 Blk wr' x 41 #[.string nm, .slice A n c] ∧ Blk wr' w.heap.size 30 nt ∧ MpM w g x nt nm A' (n + 1) c' (xs ++ [f]) (wr'.setCell ⟨x, 1, none⟩ (.slice A' (n + 1) c')) := by
 have hx := h.hx
 have nb : ∀ {b : Nat}, b ≤ x → some b ≠ (Value.slice A n c).ownBlock := fun {b} hb e => by have := (h.o.lt b e.symm).1; omega
 have hB : Below w.heap.size w w := Below.refl _ _
 refine ⟨h.bx.grown hg (nb (Nat.le_refl _)), h.b0.grown hg (nb (by omega)), (h.b0.grown hg (nb (by omega))).far (by show w.heap.size ≠ x; omega) _, (h.b1.grown hg (nb (by omega))).far (by show w.heap.size + 1 ≠ x; omega) _, (h.bx.grown hg (nb (Nat.le_refl _))).set 1 _, ?_, ?_, ?_, hx⟩
 ·exact (h.dk.grown hg (fun k e => by have := (h.o.lt k e).1; omega)).setCell (p := ⟨x, 1, none⟩) (by show g < x; omega) _
 ·have hb : Below w.heap.size wr wr' := ⟨hg.os, hg.tape, hg.output, hg.size, fun i hi => hg.block i (Nat.lt_of_lt_of_le hi h.gr.size) (nb (by omega))⟩
  exact grown_then h.gr (hb.setCell (by show w.heap.size ≤ x; omega) _)
 ·rw [List.flatMap_append, List.flatMap_cons, List.flatMap_nil, List.append_nil]
  exact hr.kept (grown_cell _ _ _) (ne_row fun b e => by have := (hr.lt b e).1; simp; omega)
theorem MpM.fin (h : MpM w g x nt nm A n c xs wr) (h0 : g < w.heap.size) : StepsO ((wr.setCell ⟨w.heap.size + 1, 0, none⟩ (.string nm)).setCell ⟨w.heap.size + 1, 1, none⟩ (.slice A n c)) w.heap.size A n c xs ∧ DeckAt ((wr.setCell ⟨w.heap.size + 1, 0, none⟩ (.string nm)).setCell ⟨w.heap.size + 1, 1, none⟩ (.slice A n c)) g ∧ w.grownBy ((wr.setCell ⟨w.heap.size + 1, 0, none⟩ (.string nm)).setCell ⟨w.heap.size + 1, 1, none⟩ (.slice A n c)) (some g) := by
 have hx := h.hx
 exact ⟨(ownF (ownF h.o (by omega)) (by omega)).mono (by omega), (h.dk.setCell (p := ⟨w.heap.size + 1, 0, none⟩) (by simp; omega) _).setCell (p := ⟨w.heap.size + 1, 1, none⟩) (by simp; omega) _, grown_set (grown_set h.gr (p := ⟨w.heap.size + 1, 0, none⟩) (by simp) _) (p := ⟨w.heap.size + 1, 1, none⟩) (by simp) _⟩
end
def PrgPost (w : World) (g nn nd most : Nat) (e : Ending) (w' : World) : Prop := ∃ (nm : ByteArray) (A : Option Addr) (n c : Nat) (xs : List Sp), e = .returned (.agg #[.string nm, .slice A n c]) ∧ Hid (nameB (toL nm) = true) ∧ Hid (spsErr nn nd xs = 0 ∧ xs.length = n ∧ n ≤ most) ∧ Hid (StepsO w' w.heap.size A n c xs) ∧ Hid (DeckAt w' g) ∧ Hid (w.grownBy w' (some g))
theorem sps_snoc {nn nd : Nat} {f : Sp} : ∀ {xs : List Sp}, spsErr nn nd xs = 0 → spErr nn nd f = 0 → spsErr nn nd (xs ++ [f]) = 0
 | [], _, h => by rw [List.nil_append, spsErr, if_neg (by omega)]; rfl
 | x :: xs, h, hf => by
  rw [spsErr] at h
  split at h
  ·next h1 => exact absurd h h1
  ·next h1 => rw [List.cons_append, spsErr, if_neg h1]; exact sps_snoc h hf
def MpR (w : World) (g x : Nat) (An Ad : Option Addr) (nn cn nd cd most : Nat) (nm : ByteArray) (gk : Nat) (kv : Value) (wr : World) : Prop :=
 ∃ (k n c : Nat) (A : Option Addr) (xs : List Sp), kv = .int .i64 (k : Int) ∧ gk = k ∧ n + k ≤ most ∧ Hid (MpM w g x #[.slice An nn cn, .slice Ad nd cd] nm A n c xs wr) ∧ Hid (spsErr nn nd xs = 0)
theorem mkprog_any (g : Nat) (An Ad : Option Addr) (nn cn nd cd most : Nat) (w : World) (hd : DeckAt w g) (hnn : 0 < nn) (hnn1 : nn ≤ 1000) (hnd : 0 < nd) (hnd1 : nd ≤ 1000) (hmo : most ≤ 1000) :
 Calls Tryz.prog 28 #[.pointer (some ⟨g, 0, none⟩), .agg #[.slice An nn cn, .slice Ad nd cd], .int .i64 (most : Int)] w (PrgPost w g nn nd most) := by
 have hlt := hd.lt
 have HB0 := Lib.hid ((Blk.new w 30 #[.slice An nn cn, .slice Ad nd cd]).alloc (.cells #[.string ⟨#[]⟩, .slice none 0 0] 41))
 have HB1 : Hid (Blk ((w.alloc (.cells #[.slice An nn cn, .slice Ad nd cd] 30)).alloc (.cells #[.string ⟨#[]⟩, .slice none 0 0] 41)) (w.heap.size + 1) 41 #[.string ⟨#[]⟩, .slice none 0 0]) := by
  have := Blk.new (w.alloc (.cells #[.slice An nn cn, .slice Ad nd cd] 30)) 41 #[.string ⟨#[]⟩, .slice none 0 0]
  unfold Hid; simpa using this
 have HBL : Hid (Below w.heap.size w ((w.alloc (.cells #[.slice An nn cn, .slice Ad nd cd] 30)).alloc (.cells #[.string ⟨#[]⟩, .slice none 0 0] 41))) := ((Below.refl _ _).alloc (Nat.le_refl _) _).alloc (by simp) _
 have HD0 := Lib.hid ((hd.alloc (.cells #[.slice An nn cn, .slice Ad nd cd] 30)).alloc (.cells #[.string ⟨#[]⟩, .slice none 0 0] 41))
 clear hd
 go_enter Tryz.func28, Tryz.ntmps28
 go_upto_region 1 with (fail)
 generalize World.alloc (World.alloc w _) _ = W at *
 go_wp2_with fail
 refine (next_any g 50 W HD0.out (by decide)).mono ?_
 rintro e w1 ⟨r, rfl, hv0, _, hv1, hd1, hg1, hs1⟩
 have hvn := hv1.out (by decide)
 obtain ⟨r, rfl⟩ := Int.eq_ofNat_of_zero_le hv0
 have HG1 := Lib.hid (grown_trans (grown_of_below HBL.out (some g)) hg1.out)
 have HC0 := Lib.hid (HB0.out.grown hg1.out (fun e => by injection e with e; omega))
 have HC1 := Lib.hid (HB1.out.grown hg1.out (fun e => by injection e with e; omega))
 have HDK := Lib.hid hd1.out
 clear hv1 hd1 hg1 hs1 HB0 HB1 HBL HD0
 go_wp2_with fail
 refine (mkname_any ⟨#[80]⟩ r w1 (by decide) (by omega)).mono ?_
 rintro e w2 ⟨rfl, hb2⟩
 obtain ⟨nm, hnm⟩ : ∃ nm, nm = mkS (nm2 (toL ⟨#[80]⟩) r) := ⟨_, rfl⟩
 rw [← hnm]
 have HNM : Hid (nameB (toL nm) = true) := by unfold Hid; rw [hnm, toL_mk]; exact nm2_name 80 r (by decide) (by omega)
 have HX : Hid (w.heap.size + 1 < w2.heap.size) := by have := HC1.out.lt; have := hb2.size; unfold Hid; omega
 have HM : Hid (MpM w g w2.heap.size #[.slice An nn cn, .slice Ad nd cd] nm none 0 0 [] (w2.alloc (.cells #[.string nm, .slice none 0 0] 41))) :=
  ⟨(HC0.out.below hb2 HC0.out.lt).alloc _, (HC1.out.below hb2 HC1.out.lt).alloc _, Blk.new _ _ _, (HDK.out.below hb2 HDK.out.lt).alloc _, grown_then HG1.out ((hb2.mono HG1.out.size).alloc (Nat.le_trans HG1.out.size hb2.size) _), World.ownsRow_nil _ _ _ _, HX.out⟩
 clear hnm hb2 HC0 HC1 HDK HG1
 go_upto_region 2 with (fail)
 generalize World.alloc w2 _ = V at *
 obtain ⟨x, hxx⟩ : ∃ x, x = w2.heap.size := ⟨_, rfl⟩
 rw [← hxx] at HM HX ⊢
 clear hxx HX
 have hwr : IntKind.i64.wrap ((most : Int) + 1) = (most : Int) + 1 := IntWalk.i64_in _ (by omega)
 go_wp2_with fail
 refine (next_any g ((most : Int) + 1) V HM.out.dk (by omega)).mono ?_
 rintro e w3 ⟨k, rfl, hk0, _, hk1, hd3, hg3, hs3⟩
 have hkn := hk1.out (by omega)
 obtain ⟨k, rfl⟩ := Int.eq_ofNat_of_zero_le hk0
 have HMV := Lib.hid (HM.out.grown hg3.out hd3.out hlt)
 clear hk1 hd3 hg3 hs3 hwr HM V
 go_upto_region 3 with (fail)
 refine wp_loop_u1 [(7, 0), (0, 2), (7, 0), (11, 1), (0, 0)] 8 (k) (MpR w g x An Ad nn cn nd cd most nm) (by (try dsimp only [gt]); exact ⟨k, 0, 0, none, [], rfl, rfl, by omega, HMV, rfl⟩) (by kernel_rfl) ?_
 intro u1 p8 gk wr a hrel ha J1 K1 hJ1 hK1
 dsimp only [relaxR, Go.Proofs.YtkkobemhbicjgaaGreatDoor.v1, Nat.reduceAdd] at ha
 subst ha
 clear HMV hkn hk0
 obtain ⟨k', n, c, A, xs, rfl, rfl, hk, HM, HSX⟩ := hrel
 by_cases hlt2 : 0 < gk; rotate_left
 ·obtain rfl : gk = 0 := by omega
  go_upto_region 6 with (fail)
  have c0 := HM.out.bx.cell 0
  have c1 := HM.out.bx.cell 1
  have d0 := HM.out.b1.cell 0
  have d1 := HM.out.b1.cell 1
  have y0 := HM.out.b1.frozen 0
  have y1 := HM.out.b1.frozen 1
  have HF : Hid (Blk ((wr.setCell ⟨w.heap.size + 1, 0, none⟩ (.string nm)).setCell ⟨w.heap.size + 1, 1, none⟩ (.slice A n c)) (w.heap.size + 1) 41 #[.string nm, .slice A n c]) := (HM.out.b1.set 0 _).set 1 _
  have HE : Hid (StepsO ((wr.setCell ⟨w.heap.size + 1, 0, none⟩ (.string nm)).setCell ⟨w.heap.size + 1, 1, none⟩ (.slice A n c)) w.heap.size A n c xs ∧ DeckAt ((wr.setCell ⟨w.heap.size + 1, 0, none⟩ (.string nm)).setCell ⟨w.heap.size + 1, 1, none⟩ (.slice A n c)) g ∧ w.grownBy ((wr.setCell ⟨w.heap.size + 1, 0, none⟩ (.string nm)).setCell ⟨w.heap.size + 1, 1, none⟩ (.slice A n c)) (some g)) := HM.out.fin hlt
  go_wp2_with fail
  clear c0 c1 d0 d1 y0 y1
  generalize World.setCell (World.setCell wr _ _) _ _ = z at *
  have q0 := HF.out.c0
  have q1 := HF.out.c1
  exact bodyPost_ret (v := .agg #[.string nm, .slice A n c]) (by simp [results, Tryz.results28, go_sem, q0, q1]) rfl ⟨nm, A, n, c, xs, rfl, HNM, ⟨HSX.out, StepsO.len HE.out.1, by omega⟩, HE.out.1, HE.out.2.1, HE.out.2.2⟩
 have q1 : decide ((gk : Int) > 0) = true := by simpa using hlt2
 have q2 : decide (0 < (gk : Int)) = true := by simpa using hlt2
 go_upto_region 5 with (fail)
 clear q1 q2
 have hfz := HM.out.bx.frozen 1
 refine wp_region_J (S := fun W' => W'.cell? ⟨x, 1, none⟩ = some (.slice A n c) ∧ W'.cell? ⟨w.heap.size, 0, none⟩ = some (.slice An nn cn) ∧ W'.cell? ⟨w.heap.size, 1, none⟩ = some (.slice Ad nd cd)) (J := [8]) (by kernel_rfl) ?_ (fun hHeld => ?_)
 ·exact ⟨HM.out.bx.cell 1, HM.out.b0.cell 0, HM.out.b0.cell 1⟩
 try dsimp only at hHeld
 refine tk 0 21 (mf 9 1) hHeld ?_
 refine tk 2 23 #[tt, ff, tt, ff, ff, ff, ff, ff, ff] hHeld ?_
 refine wpAnyJ_takeL (i := 1) (d := some 22) (v := ?_) (mf 9 3) (by kernel_rfl) rfl rfl (by kernel_rfl) (by kernel_rfl) (by kernel_rfl) (by kernel_rfl) (by kernel_rfl) (fun _ _ _ h => h) (Or.inl ⟨by rfl, ?_⟩) hHeld ?_
 rotate_left
 ·(intro w hSw; (try dsimp only at hSw); have u0 := hSw.1; go_simp; try with_reducible rfl)
 try simp only [Act.put, sA, sB, sC]
 refine wpAnyJ_takeL (i := 3) (d := some 24) (v := ?_) (mf 9 4) (by kernel_rfl) rfl rfl (by kernel_rfl) (by kernel_rfl) (by kernel_rfl) (by kernel_rfl) (by kernel_rfl) (fun _ _ _ h => h) (Or.inl ⟨by rfl, ?_⟩) hHeld ?_
 rotate_left
 ·(intro w hSw; (try dsimp only at hSw); have u0 := hSw.2.1; have u1 := hSw.2.2; go_simp; try with_reducible rfl)
 try simp only [Act.put, sA, sB, sC]
 refine wpAnyJ_oneL (k := 4) (mf 9 5) (by kernel_rfl) (by kernel_rfl) rfl (fun K hK => ?_)
 (go_simp; refine (mkstep_any g An Ad nn cn nd cd wr.drew HM.out.drw.dk (by omega) (by omega) (by omega) (by omega)).mono ?_; rintro e w3 ⟨k, d, no, p, q, rfl, hsp, hd3, hg3⟩; have HM3 := Lib.hid (HM.out.drw.grown hg3.out hd3.out hlt); have HSP := Lib.hid hsp.out; clear hd3 hg3 hsp; go_simp)
 refine hK.out _ _ (fun _ => ?_) (fun hHeld' => ?_)
 ·exact ⟨HM3.out.bx.cell 1, HM3.out.b0.cell 0, HM3.out.b0.cell 1⟩
 replace hHeld := hHeld' rfl
 clear hHeld' hK K
 try dsimp only at hHeld
 refine wpAnyJ_oneL (k := 5) (mf 9 6) (by kernel_rfl) (by kernel_rfl) rfl (fun K hK => ?_)
 (go_simp)
 refine hK.out _ _ (fun _ => ?_) (fun hHeld' => ?_)
 ·exact ⟨(HM3.out.later ((Below.refl _ w3).alloc (Nat.le_refl _) (.cells #[.int .i64 k, .int .i64 d, .int .i64 no, .int .i64 p, .int .i64 q] 43))).bx.cell 1, (HM3.out.later ((Below.refl _ w3).alloc (Nat.le_refl _) (.cells #[.int .i64 k, .int .i64 d, .int .i64 no, .int .i64 p, .int .i64 q] 43))).b0.cell 0, (HM3.out.later ((Below.refl _ w3).alloc (Nat.le_refl _) (.cells #[.int .i64 k, .int .i64 d, .int .i64 no, .int .i64 p, .int .i64 q] 43))).b0.cell 1⟩
 replace hHeld := hHeld' rfl
 clear hHeld' hK K
 try dsimp only at hHeld
 refine wpAnyJ_oneL (k := 6) (mf 9 7) (by kernel_rfl) (by kernel_rfl) rfl (fun K hK => ?_)
 (refine step_app_d (d := some 27) (by rfl) (by rfl) (.tmp 22) (.tmp 26) (by rfl) el_step (by rfl) (HM3.out.later ((Below.refl _ w3).alloc (Nat.le_refl _) (.cells #[.int .i64 k, .int .i64 d, .int .i64 no, .int .i64 p, .int .i64 q] 43))).o (by rfl) (Sl.newest (n := 1) rfl rfl (by decide)) (by simp [Value.oneCell']) (by omega) (by omega) (by have := (HM3.out.bx).lt; simp; omega) ?_; intro A' c' w7 hown7 hgr7 hat7; have HM7 := Lib.hid (MpM.app (f := ⟨k, d, no, p, q⟩) (HM3.out.later ((Below.refl _ w3).alloc (Nat.le_refl _) (.cells #[.int .i64 k, .int .i64 d, .int .i64 no, .int .i64 p, .int .i64 q] 43))) hgr7 hown7 hlt); have q0 := HM7.out.1.cell 1; have q1 := HM7.out.1.frozen 1; clear hown7 hgr7 hat7)
 refine hK.out _ _ (fun _ => ?_) (fun hHeld' => ?_)
 ·exact ⟨HM7.out.1.cell 1, HM7.out.2.1.cell 0, HM7.out.2.1.cell 1⟩
 replace hHeld := hHeld' rfl
 clear hHeld' hK K
 try dsimp only at hHeld
 refine tk 7 28 (mf 9 8) hHeld ?_
 refine wpAnyJ_oneL (k := 8) (mf 9 9) (by kernel_rfl) (by kernel_rfl) rfl (fun K hK => ?_)
 go_simp
 refine hK.out _ _ (fun h => by cases h) (fun _ => ?_)
 try clear hHeld
 clear hK K
 refine wpAnyJ_done (by kernel_rfl) ?_ _
 have HM8 := Lib.hid HM7.out.2.2
 have HS8 := Lib.hid (sps_snoc HSX.out HSP.out)
 clear HM7 q0 q1 HM3 HM HSX HSP
 generalize World.setCell w7 _ _ = w8 at *
 go_wp2_with fail
 refine Handed.intro (gk - 1) (by omega) (hJ1 _ _ _ (LpI1.back 8 ?_ (by kernel_rfl)))
 dsimp only [gt]
 exact ⟨gk - 1, n + 1, c', A', xs ++ [⟨k, d, no, p, q⟩], by go_num, rfl, by omega, HM8, HS8⟩
end Go.Proofs.YtkkobemhbicjgaaGreatDoor
namespace Go.Proofs.YtkkobemhbicjgaaGreatDoor
open Go.RowKit
structure LmM (w : World) (nb gb pb : Nat) (An Ad As Al Ap Ax : Option Addr) (nn cn nd cd cs nl cl np cp nx cx : Nat) (ns : List Nd) (ds : List Dv) (m : List Int) (ls : List Lk) (pr : List Int) (co : Int) (nm : ByteArray) (xs : List Sp) (wr : World) : Prop where
 n : LwN w nb An nn cn ns Ad nd cd ds wr
 s : Sl wr wr.heap.size 1 As nd cs (intsV m)
 g : Blk wr gb 37 #[.int .i64 co, .slice Al nl cl, .slice Ap np cp]
 l : Sl wr wr.heap.size 3 Al nl cl (ls.flatMap Lk.cells)
 r : Sl wr wr.heap.size 1 Ap np cp (intsV pr)
 p : Blk wr pb 41 #[.string nm, .slice Ax nx cx]
 x : Sl wr wr.heap.size 5 Ax nx cx (xs.flatMap Sp.cells)
section
variable {w wr wr' : World} {nb gb pb rb : Nat} {An Ad As Al Ap Ax : Option Addr} {nn cn nd cd cs nl cl np cp nx cx : Nat} {ns : List Nd} {ds : List Dv} {m : List Int} {ls : List Lk} {pr : List Int} {co : Int} {nm : ByteArray} {xs : List Sp}
theorem LmM.later (h : LmM w nb gb pb An Ad As Al Ap Ax nn cn nd cd cs nl cl np cp nx cx ns ds m ls pr co nm xs wr) (hb : Below wr.heap.size wr wr') : LmM w nb gb pb An Ad As Al Ap Ax nn cn nd cd cs nl cl np cp nx cx ns ds m ls pr co nm xs wr' :=
 ⟨h.n.later hb, (h.s.below hb (Nat.le_refl _)).more hb.size, h.g.below hb h.g.lt, (h.l.below hb (Nat.le_refl _)).more hb.size, (h.r.below hb (Nat.le_refl _)).more hb.size, h.p.below hb h.p.lt, (h.x.below hb (Nat.le_refl _)).more hb.size⟩
theorem LmM.mem {A : Option Addr} {n c : Nat} {s : List Int} (h : LmM w nb gb pb An Ad As Al Ap Ax nn cn nd cd cs nl cl np cp nx cx ns ds m ls pr co nm xs wr) (hn : (∀ x ∈ ns, x.name.size ≤ 9223372036854775807) ∧ ∀ x ∈ ds, x.name.size ≤ 9223372036854775807) (hm : nm.size ≤ 9223372036854775807) (hs : Sl wr wr.heap.size 1 A n c (intsV s)) :
 SmMem wr An Ad A Al Ap Ax nn cn nd cd n c nl cl np cp nx cx ns ds s ls pr nm xs :=
 ⟨⟨h.n.hn.1, h.n.hd.1, hs, h.l, h.r, h.n.la, hn.1, hn.2⟩, h.x, hm⟩
structure LmW (w : World) (nb gb pb rb : Nat) (An Ad As Al Ap Ax : Option Addr) (nn cn nd cd cs nl cl np cp nx cx : Nat) (ns : List Nd) (ds : List Dv) (m : List Int) (ls : List Lk) (pr : List Int) (co : Int) (nm : ByteArray) (xs : List Sp) (A1 A2 A3 A4 : Option Addr) (n1 c1 n2 c2 n3 c3 n4 c4 : Nat) (o : List Fn) (t : Sm) (wr : World) : Prop where
 z : LmM w nb gb pb An Ad As Al Ap Ax nn cn nd cd cs nl cl np cp nx cx ns ds m ls pr co nm xs wr
 b : Blk wr rb 47 #[.slice A1 n1 c1, .slice A2 n2 c2, .int .i64 co, .slice A3 n3 c3, .slice A4 n4 c4]
 o : RnAt wr A1 A2 A3 A4 n1 c1 n2 c2 n3 c3 n4 c4 o t
theorem LmW.later {A1 A2 A3 A4 : Option Addr} {n1 c1 n2 c2 n3 c3 n4 c4 : Nat} {o : List Fn} {t : Sm} (h : LmW w nb gb pb rb An Ad As Al Ap Ax nn cn nd cd cs nl cl np cp nx cx ns ds m ls pr co nm xs A1 A2 A3 A4 n1 c1 n2 c2 n3 c3 n4 c4 o t wr) (hb : Below wr.heap.size wr wr') :
 LmW w nb gb pb rb An Ad As Al Ap Ax nn cn nd cd cs nl cl np cp nx cx ns ds m ls pr co nm xs A1 A2 A3 A4 n1 c1 n2 c2 n3 c3 n4 c4 o t wr' :=
 ⟨h.z.later hb, h.b.below hb h.b.lt, h.o.later8 hb⟩
end
theorem any_snc {α : Type} {fs : List α} {i : Nat} {x : α} {p : α → Bool} (h : fs[i]? = some x) : (fs.take (i + 1)).any p = ((fs.take i).any p || p x) := by rw [take_snoc h]; simp
theorem sm_mades {ns : List Nd} {ds : List Dv} {s : List Int} {co : Int} {ls : List Lk} {pr : List Int} {nm : ByteArray} {xs : List Sp} (hs : stateErr ns ds s = 0) (hc : checkN ns ds = 0) (hco : 0 ≤ co ∧ co ≤ 7) (hg : GoodL ds ls) (hp : risL ns.length (-1) pr = true) (hn : nameB (toL nm) = true) (hl : xs.length ≤ 64) (hx : spsErr ns.length ds.length xs = 0) : smErr ns ds s co ls pr nm xs = 0 := by
 have h1 : grErr ns ds co ls pr = 0 := by
  unfold grErr; rw [if_neg (by omega), if_neg (by rw [sm_locks hc hg]; simp), if_neg (by simp [hp])]
 have h2 : pgErr ns ds nm xs = 0 := by
  unfold pgErr; rw [if_neg (by simp [hc]), if_neg (by simp [hn]), if_neg (by omega)]; exact hx
 unfold smErr; rw [if_neg (by simp [hs]), if_neg (by simp [h1]), h2]
def FdR (M : World → Prop) (n gk : Nat) (iv : Value) (wr : World) : Prop := ∃ i : Nat, iv = .int .i64 i ∧ i ≤ n ∧ gk = n - i ∧ Hid (M wr)
def FdH {α : Type} (M : World → Prop) (U : Bool) (fs : List α) (p : α → Bool) (n gk : Nat) (iv hv : Value) (wr : World) : Prop := ∃ i : Nat, iv = .int .i64 i ∧ i ≤ n ∧ gk = n - i ∧ hv = .bool (U || (fs.take i).any p) ∧ Hid (M wr)
end Go.Proofs.YtkkobemhbicjgaaGreatDoor
