import Derived.Test.YtkkobemhbicjgaaGreatDoorE40
set_option maxRecDepth 100000
set_option maxHeartbeats 16000000
namespace Go.Proofs.YtkkobemhbicjgaaGreatDoor
section
open Go.RowKit
def oN (C : List Int) (v : Nat) (out : List Int) : Prop := out.length ≤ v ∧ ∀ x : Int, x ∈ out ↔ ∃ k : Nat, k < v ∧ x = k ∧ C.getD k 0 = 3
theorem oN.start (C : List Int) : oN C 0 [] := ⟨Nat.le_refl _, fun x => ⟨(fun h => by cases h), (fun ⟨k, hk, _⟩ => by omega)⟩⟩
theorem oN.pass {C out : List Int} {v : Nat} (h : oN C v out) (hn : C.getD v 0 ≠ 3) : oN C (v + 1) out := by
 refine ⟨by have := h.1; omega, fun x => (h.2 x).trans ⟨?_, ?_⟩⟩
 ·rintro ⟨k, hk, r⟩; exact ⟨k, by omega, r⟩
 ·rintro ⟨k, hk, e, hc⟩
  rcases Nat.lt_succ_iff_lt_or_eq.1 hk with hk | rfl
  ·exact ⟨k, hk, e, hc⟩
  ·exact absurd hc hn
theorem oN.put {C out : List Int} {v : Nat} (h : oN C v out) (hc : C.getD v 0 = 3) : oN C (v + 1) (out ++ [(v : Int)]) := by
 refine ⟨by have := h.1; simp; omega, fun x => ?_⟩
 rw [List.mem_append, h.2 x, List.mem_singleton]
 constructor
 ·rintro (⟨k, hk, r⟩ | rfl)
  ·exact ⟨k, by omega, r⟩
  ·exact ⟨v, by omega, rfl, hc⟩
 ·rintro ⟨k, hk, e, r⟩
  rcases Nat.lt_succ_iff_lt_or_eq.1 hk with hk | rfl
  ·exact .inl ⟨k, hk, e, r⟩
  ·exact .inr e
section
variable {nn : Nat} {ns : List Nd} {ds : List Dv} {s s' m : List Int} {x : Dv} {i : Nat}
theorem lg (h : ∀ k : Nat, s[k]? = some 2 → s'[k]? = some 2) {u v : Int} (hc : zx ds s u v) : zx ds s' u v := by
 unfold zx at *
 induction hc with
 | base h1 => exact .base h1
 | step _ h2 h3 h4 h5 ih =>
  refine .step ih h2 h3 ?_ h5
  unfold uW at *
  simp only [beq_iff_eq] at *
  rename_i k _ _
  have h6 : s[k]? = some 2 := by
   rcases hq : s[k]? with _ | y
   ·rw [List.getD_eq_getElem?_getD, hq] at h4; cases h4
   ·rw [List.getD_eq_getElem?_getD, hq] at h4; simp at h4; rw [h4]
  rw [List.getD_eq_getElem?_getD, h k h6]; rfl
theorem lW {K : Int → Prop} (h : ∀ k : Nat, s[k]? = some 2 → s'[k]? = some 2) {v : Int} (hk : vd K ds s v) : vd K ds s' v := by
 obtain ⟨k, y, h1, h2, h3, h4⟩ := hk
 exact ⟨k, y, h1, h k h2, h3, lg h h4⟩
theorem fx {v : Int} : uj ds s v = 3 ↔ vd yk ds s v ∧ vd (· = 4) ds s v := by
 unfold uj
 rcases yP (vd yk ds s v) 1 with ⟨h, e⟩ | ⟨h, e⟩ <;> rcases yP (vd (· = 4) ds s v) 2 with ⟨h2, e2⟩ | ⟨h2, e2⟩ <;> rw [e, e2] <;> simp [h, h2]
def FB (ds : List Dv) (x : Dv) (i : Nat) (s : List Int) : Prop := uj ds (ye s i 2) x.a = 3 ∨ zc x.kind = true ∧ uj ds (ye s i 2) x.b = 3
theorem nK (he : yo nn ds) (ha : AOk nn ds) (hx : x ∈ ds) : vV x.kind x.a x.b (zh nn ds s) = true ↔ uj ds s x.a = 3 ∨ zc x.kind = true ∧ uj ds s x.b = 3 := by
 have hC := sa nn ds s
 have h1 := ui hC (ha x hx).1 (ha x hx).2
 unfold vV
 rw [Bool.or_eq_true, Bool.and_eq_true, beq_iff_eq, beq_iff_eq, h1]
 constructor
 ·rintro (h | ⟨h, h2⟩)
  ·exact .inl h
  ·exact .inr ⟨h, by rw [ui hC (he x hx h).2.1 (he x hx h).2.2] at h2; exact h2⟩
 ·rintro (h | ⟨h, h2⟩)
  ·exact .inl h
  ·exact .inr ⟨h, by rw [ui hC (he x hx h).2.1 (he x hx h).2.2]; exact h2⟩
theorem fN (he : yo nn ds) (ha : AOk nn ds) (hx : x ∈ ds) : wo nn ns ds s i x = 4 ↔ FB ds x i s := by
 unfold wo mP FB
 rw [← nK he ha hx]
 constructor
 ·intro h
  split at h
  ·assumption
  ·split at h
   ·cases h
   ·split at h
    ·cases h
    ·split at h <;> cases h
 ·intro h; rw [if_pos h]
theorem iZ (m : List Int) : xB m 2 ∈ yM m := by
 refine (xr m m.length _).2 ⟨wW m 2, fun d hd => ?_⟩
 unfold xB
 rw [List.getElem?_map, List.getElem?_eq_getElem hd]
 simp only [Option.map_some]
 constructor
 ·intro h; injection h with h; rw [if_pos h]; exact .inr rfl
 ·intro h
  rw [if_neg (fun e => h (by rw [e])), List.getD_eq_getElem?_getD, List.getElem?_eq_getElem hd]; rfl
end
end
section
open Go.RowKit
section
variable {ns : List Nd} {ds : List Dv} {m s : List Int} {d p co h : Int} {ls : List Lk} {pr pr2 : List Int} {x : Dv}
theorem qe : s ∈ yM m ↔ gB m m.length s := xr m m.length s
theorem ur (hs : s ∈ yM m) : s.length = m.length := (qe.1 hs).1
theorem qf (hs : s ∈ yM m) {i : Nat} (hi : i < m.length) : m[i]? = some 3 ∧ (s[i]? = some 1 ∨ s[i]? = some 2) ∨ m[i]? ≠ some 3 ∧ s[i]? = m[i]? := by
 obtain ⟨h1, h2⟩ := (qe.1 hs).2 i hi
 by_cases h3 : m[i]? = some 3
 ·exact .inl ⟨h3, h1 h3⟩
 ·refine .inr ⟨h3, ?_⟩
  rw [h2 h3, List.getD_eq_getElem?_getD, List.getElem?_eq_getElem hi]; rfl
theorem gi (hl : s.length = m.length) (h : ∀ i, i < m.length → m[i]? = some 3 ∧ (s[i]? = some 1 ∨ s[i]? = some 2) ∨ m[i]? ≠ some 3 ∧ s[i]? = m[i]?) : s ∈ yM m := by
 refine qe.2 ⟨hl, fun i hi => ?_⟩
 rcases h i hi with ⟨h1, h2⟩ | ⟨h1, h2⟩
 ·exact ⟨fun _ => h2, fun h => absurd h1 h⟩
 ·refine ⟨fun h => absurd h h1, fun _ => ?_⟩
  rw [h2, List.getD_eq_getElem?_getD, List.getElem?_eq_getElem hi]; rfl
theorem mW (hs : s ∈ yM m) (i : Nat) (hp : p = 1 ∨ p = 2) : s.set i p ∈ yM (m.set i p) := by
 refine gi (by simp [ur hs]) fun k hk => ?_
 rw [List.length_set] at hk
 have hl := ur hs
 rw [List.getElem?_set, List.getElem?_set]
 by_cases e : i = k
 ·subst e
  rw [if_pos rfl, if_pos rfl, if_pos hk, if_pos (show i < s.length by omega)]
  exact .inr ⟨by rcases hp with rfl | rfl <;> simp, rfl⟩
 ·rw [if_neg e, if_neg e]; exact qf hs hk
theorem im (hs : s ∈ yM m) {i : Nat} (hi : s[i]? = some p) (hp : p = 1 ∨ p = 2) : s ∈ yM (m.set i p) := by
 have h := mW hs i hp
 rwa [show s.set i p = s from by
  refine List.ext_getElem? fun k => ?_
  rw [List.getElem?_set]
  by_cases e : i = k
  ·subst e; rw [if_pos rfl, hi, if_pos (List.getElem?_eq_some_iff.1 hi).1]
  ·rw [if_neg e]] at h
theorem jI (nn : Nat) (ds : List Dv) (s : List Int) {v : Int} (h0 : 0 ≤ v) (h1 : v < nn) : lvB (zh nn ds s) v = true ↔ vd yk ds s v := by
 unfold lvB
 rw [ui (sa nn ds s) h0 h1]
 unfold uj
 rcases yP (vd yk ds s v) 1 with ⟨h, e⟩ | ⟨h, e⟩ <;> rcases yP (vd (· = 4) ds s v) 2 with ⟨h2, e2⟩ | ⟨h2, e2⟩ <;> rw [e, e2] <;> simp only [h, iff_true, iff_false] <;> decide +kernel
theorem lV (hs : s ∈ yM m) : ∀ k : Nat, s[k]? = some 2 → (xB m 2)[k]? = some 2 := fun k hk => by
 have hkm : k < m.length := by have := (List.getElem?_eq_some_iff.1 hk).1; rw [ur hs] at this; exact this
 unfold xB
 rw [List.getElem?_map, List.getElem?_eq_getElem hkm]
 simp only [Option.map_some, Option.some.injEq]
 rcases qf hs hkm with ⟨h1, -⟩ | ⟨h1, h2⟩
 ·rw [List.getElem?_eq_getElem hkm] at h1; injection h1 with h1; rw [if_pos h1]
 ·rw [hk, List.getElem?_eq_getElem hkm] at h2; injection h2 with h2
  rw [if_neg (fun e => by rw [e] at h2; cases h2)]; exact h2.symm
theorem jH {nn : Nat} (hs : s ∈ yM m) {v : Int} (h0 : 0 ≤ v) (h1 : v < nn) (hv : lvB (zh nn ds s) v = true) : lvB (zh nn ds (xB m 2)) v = true := by
 rw [jI nn ds _ h0 h1] at hv ⊢
 exact lW (lV hs) hv
theorem fM (hsub : ∀ v ∈ pr, v ∈ pr2) {nn i : Nat} (hh : h ∈ xu nn ns ds s i p co ls pr2 x) : h ∈ xu nn ns ds s i p co ls pr x := by
 unfold xu at hh ⊢
 split at hh
 ·next h1 => rw [if_pos h1]; exact hh
 ·next h1 =>
  rw [if_neg h1]
  rw [tg] at hh ⊢
  rcases hh with hh | hh | hh | hh | ⟨h5, h6⟩ | hh | hh
  ·exact .inl hh
  ·exact .inr (.inl hh)
  ·exact .inr (.inr (.inl hh))
  ·exact .inr (.inr (.inr (.inl hh)))
  ·refine .inr (.inr (.inr (.inr (.inl ⟨h5, ?_⟩))))
   simp only [Bool.and_eq_true, Bool.not_eq_true', uh] at h6 ⊢
   exact ⟨h6.1, fun h => h6.2 (hsub _ h)⟩
  ·exact .inr (.inr (.inr (.inr (.inr (.inl hh)))))
  ·exact .inr (.inr (.inr (.inr (.inr (.inr hh)))))
end
theorem pT {pr : List Int} {v y : Int} : y ∈ yr pr v ↔ y = v ∨ y ∈ pr := by
 unfold yr
 split
 ·next h => exact ⟨.inr, fun h2 => by rcases h2 with rfl | h2 <;> assumption⟩
 ·conv => rhs; rw [← List.takeWhile_append_dropWhile (p := fun x => decide (x < v)) (l := pr)]
  simp only [List.mem_append, List.mem_cons]
  constructor <;> rintro (h | h | h)
  all_goals first | exact .inr (.inl h) | exact .inl h | exact .inr (.inr h)
section
variable {ns : List Nd} {ds : List Dv} {co : Int} {t u : Sm} {x : Sp}
structure sy (t u : Sm) : Prop where
 s : u.s ∈ yM t.s
 l : u.ls = t.ls
 p : ∀ v ∈ t.pr, v ∈ u.pr
theorem gN (hk : x.kind = 1 ∨ x.kind = 2) : zd ns ds co t x = ⟨hzD ns ds t.s x.dev x.kind co t.ls t.pr, ⟨t.s.set x.dev.toNat x.kind, t.ls, if vX ds x.kind x.dev then [] else t.pr⟩, true⟩ := by unfold zd; rw [if_pos hk]
theorem gO (hk : x.kind = 5) : zd ns ds co t x = if lvB (zh ns.length ds t.s) x.node then ⟨[8], t, true⟩ else ⟨[], ⟨t.s, t.ls, yr t.pr x.node⟩, true⟩ := by
 unfold zd; rw [if_neg (by omega), if_pos hk]
theorem gP (hk : x.kind = 4) : zd ns ds co t x = if (zX ns ds t.ls x).2 then ⟨[], ⟨t.s, (zX ns ds t.ls x).1, t.pr⟩, true⟩ else ⟨[4], t, true⟩ := by
 have e : zd ns ds co t x = match wQ x.dev x.key t.ls with
  | none => ⟨[4], t, true⟩
  | some i => ⟨[], ⟨t.s, t.ls.eraseIdx i, t.pr⟩, true⟩ := by
  unfold zd; rw [if_neg (by omega), if_neg (by omega), if_pos hk]; rfl
 have e2 : zX ns ds t.ls x = match wQ x.dev x.key t.ls with
  | none => (t.ls, false)
  | some i => (t.ls.eraseIdx i, true) := by
  unfold zX; rw [if_neg (by omega)]; rfl
 rw [e, e2]
 rcases wQ x.dev x.key t.ls with _ | i <;> rfl
theorem kM (hk : x.kind = 3 ∨ x.kind = 6) : zd ns ds co t x = if t.s.getD x.dev.toNat 0 ≠ x.pos then ⟨[8], t, false⟩
 else if x.kind = 6 then ⟨[], t, true⟩
 else if (zX ns ds t.ls x).2 then ⟨[], ⟨t.s, (zX ns ds t.ls x).1, t.pr⟩, true⟩ else ⟨[4], t, true⟩ := by
 unfold zd; rw [if_neg (by omega), if_neg (by omega), if_neg (by omega)]
 split
 ·rfl
 split
 ·rfl
 ·have e2 : zX ns ds t.ls x = if zw ns ds t.ls ⟨x.dev, x.pos, x.key⟩ ≠ 0 then (t.ls, false) else (wP ⟨x.dev, x.pos, x.key⟩ t.ls, true) := by
   unfold zX; rw [if_pos (by omega)]
  rw [e2]
  by_cases h : zw ns ds t.ls ⟨x.dev, x.pos, x.key⟩ ≠ 0
  ·rw [if_pos h, if_pos h]; rfl
  ·rw [if_neg h, if_neg h]; rfl
theorem oF (hc : wX ns ds t) (hb : sy t u) (hx : zT ns.length ds.length x = 0) :
 (∀ h ∈ (zd ns ds co u x).h, h = 7 ∨ h ∈ (zu ns ds co t x).h) ∧ ((zd ns ds co u x).ok = true → (zu ns ds co t x).ov = false ∧ sy (zu ns ds co t x).t (zd ns ds co u x).t) := by
 obtain ⟨h1, h2, h3, h4, h5⟩ := yE hx
 have hms := (zV hc.s).2.1
 by_cases k12 : x.kind = 1 ∨ x.kind = 2
 ·obtain ⟨i, hi⟩ := Int.eq_ofNat_of_zero_le (h2 (by omega)).1
  have hlt := (h2 (by omega)).2
  have hx2 : ds[x.dev.toNat]? = some (ds[x.dev.toNat]'(by omega)) := List.getElem?_eq_getElem (by omega)
  rw [gN k12, jg k12]
  refine ⟨fun h hh => ?_, fun _ => ⟨rfl, mW hb.s _ k12, hb.l, fun v hv => ?_⟩⟩
  ·dsimp only at hh ⊢
   unfold hzD at hh
   rw [hx2] at hh
   by_cases h7 : h = 7
   ·exact .inl h7
   ·refine .inr ((pU hx2 h).2 ⟨u.s, hb.s, ?_, .inl h7⟩)
    rw [hb.l] at hh
    exact fM hb.p hh
  ·dsimp only at hv ⊢
   split at hv
   ·cases hv
   ·next h9 => rw [if_neg h9]; exact hb.p v hv
 by_cases k5 : x.kind = 5
 ·have hn := h3 k5
  rw [gO k5, jh k5]
  rcases e1 : lvB (zh ns.length ds u.s) x.node with _ | _ <;> rcases e2 : lvB (zh ns.length ds (xB t.s 2)) x.node with _ | _
  ·refine ⟨fun h hh => (by cases hh), fun _ => ⟨rfl, hb.s, hb.l, fun v hv => ?_⟩⟩
   simp only [Bool.false_eq_true, if_false] at hv ⊢
   rw [pT] at hv ⊢
   exact hv.imp id (hb.p v)
  ·refine ⟨fun h hh => (by cases hh), fun _ => ⟨rfl, hb.s, hb.l, fun v hv => ?_⟩⟩
   simp only [Bool.false_eq_true, if_false, if_true] at hv ⊢
   rw [pT]
   exact .inr (hb.p v hv)
  ·rw [jH hb.s hn.1 hn.2 e1] at e2; cases e2
  ·exact ⟨fun h hh => .inr hh, fun _ => ⟨rfl, hb⟩⟩
 by_cases k4 : x.kind = 4
 ·rw [gP k4, ji k4, hb.l]
  rcases (zX ns ds t.ls x).2 with _ | _
  ·exact ⟨fun h hh => .inr hh, fun _ => ⟨rfl, hb⟩⟩
  ·exact ⟨fun h hh => (by cases hh), fun _ => ⟨rfl, hb.s, rfl, hb.p⟩⟩
 have k36 : x.kind = 3 ∨ x.kind = 6 := by omega
 have hp := h4 k36
 obtain ⟨i, hi⟩ := Int.eq_ofNat_of_zero_le (h2 (by omega)).1
 have hlt := (h2 (by omega)).2
 have him : x.dev.toNat < t.s.length := by omega
 have hat := qf hb.s him
 have hmk := mD hc.s him
 have eu : u.s.getD x.dev.toNat 0 = x.pos ↔ u.s[x.dev.toNat]? = some x.pos := by
  rw [List.getD_eq_getElem?_getD]
  have := ur hb.s
  rw [List.getElem?_eq_getElem (by omega)]; simp
 have et : ∀ y : Int, t.s[x.dev.toNat]? = some y → t.s.getD x.dev.toNat 0 = y := fun y hy => by rw [List.getD_eq_getElem?_getD, hy]; rfl
 by_cases hu : u.s.getD x.dev.toNat 0 = x.pos
 ·have hu2 := eu.1 hu
  have hmi : ¬ rF (t.s.getD x.dev.toNat 0) x.pos = true := by
   unfold rF
   rcases hat with ⟨h6, -⟩ | ⟨-, h6⟩
   ·rw [et 3 h6]; simp
   ·rw [hu2] at h6; rw [et _ h6.symm]; simp
  have hag := im hb.s hu2 hp
  have eS := kM (ns := ns) (ds := ds) (co := co) (t := u) k36
  have eC := sc (ns := ns) (ds := ds) (co := co) (t := t) k36
  rw [if_neg (by simpa using hu), hb.l] at eS
  rw [if_neg hmi] at eC
  by_cases k6 : x.kind = 6
  ·rw [if_pos k6] at eS eC
   rw [eS, eC]
   exact ⟨fun h hh => (by cases hh), fun _ => ⟨rfl, hag, hb.l, hb.p⟩⟩
  ·rw [if_neg k6] at eS eC
   by_cases hl : (zX ns ds t.ls x).2 = true
   ·rw [if_pos hl] at eS eC
    rw [eS, eC]
    exact ⟨fun h hh => (by cases hh), fun _ => ⟨rfl, hag, rfl, hb.p⟩⟩
   ·rw [if_neg hl] at eS eC
    rw [eS, eC]
    exact ⟨fun h hh => .inr (by dsimp only at hh ⊢; rw [List.mem_singleton.1 hh]; exact List.mem_cons_self ..), fun _ => ⟨rfl, hag, hb.l, hb.p⟩⟩
 ·have eS := kM (ns := ns) (ds := ds) (co := co) (t := u) k36
  have eC := sc (ns := ns) (ds := ds) (co := co) (t := t) k36
  rw [if_pos hu] at eS
  rw [eS, eC]
  refine ⟨fun h hh => .inr ?_, fun h => (by cases h)⟩
  have h8 : h = 8 := by simpa using hh
  subst h8
  by_cases em : rF (t.s.getD x.dev.toNat 0) x.pos = true
  ·rw [if_pos em]; simp
  ·rw [if_neg em]
   have hne : t.s.getD x.dev.toNat 0 ≠ x.pos := by
    intro e
    rcases hat with ⟨h6, -⟩ | ⟨-, h6⟩
    ·rw [et 3 h6] at e; omega
    ·exact hu (by rw [List.getD_eq_getElem?_getD, h6, ← List.getD_eq_getElem?_getD]; exact e)
   rw [show uR (t.s.getD x.dev.toNat 0) x.pos = [8] by rw [uR, if_neg hne]]
   split
   ·exact List.mem_singleton.2 rfl
   split
   ·exact List.mem_singleton.2 rfl
   ·exact List.mem_cons_of_mem _ (List.mem_singleton.2 rfl)
end
end
section
open Go.RowKit
section
variable {ns : List Nd} {ds : List Dv} {co : Int} {t t2 u : Sm} {x : Sp} {m s : List Int}
theorem nS (hd : ds.length ≤ 8) (hc : wX ns ds t) : (zu ns ds co t x).e = 0 := by
 unfold zu
 split
 ·exact qY hc.s hd
 split
 ·split <;> rfl
 split
 ·split <;> rfl
 split
 ·rfl
 split
 ·rfl
 split <;> rfl
theorem qX (hd : ds.length ≤ 8) : ∀ (xs : List Sp) (i : Nat) (out : List Fn) (t : Sm), wX ns ds t → (∀ x ∈ xs, zT ns.length ds.length x = 0) → (zf ns ds co i out t xs).e = 0
 | [], _, _, _, _, _ => rfl
 | x :: r, i, out, t, hc, hx => by
  rw [zf, if_neg (by simp [nS hd hc])]
  split
  ·rfl
  ·exact qX hd r _ _ _ (vo hc (hx x (by simp))) fun y hy => hx y (List.mem_cons_of_mem _ hy)
theorem se : ∀ (xs : List Sp) (i : Nat) (out : List Fn) (t : Sm), (zf ns ds co i out t xs).e = 0 → ∀ f ∈ out, f ∈ (zf ns ds co i out t xs).o
 | [], _, _, _, _, _, hf => hf
 | x :: r, i, out, t, he, f, hf => by
  rw [zf] at he ⊢
  split at he
  ·next h1 => exact absurd he h1
  next h1 =>
  rw [if_neg h1]
  split at he
  ·next h2 => rw [if_pos h2]; exact List.mem_append_left _ hf
  ·next h2 => rw [if_neg h2]; exact se r _ _ _ he f (List.mem_append_left _ hf)
theorem pE (stk : List Int) : ∀ (xs : List Sp) (i : Nat) (out : List Fn) (t : Sm), (yj ns ds co stk i out t xs).2.2 ≤ i + xs.length
 | [], _, _, _ => Nat.le_refl _
 | x :: r, i, out, t => by
  rw [yj]
  split
  ·exact Nat.le_add_right _ _
  split
  ·have := pE stk r (i + 1) (out ++ zi i (zd ns ds co t x).h) (zd ns ds co t x).t
   rw [List.length_cons]; omega
  ·exact Nat.le_add_right _ _
theorem iE (x : Sp) : uS [] x = false := by unfold uS; simp
def jt (a b : List Fn) : Prop := ∀ f ∈ a, f.hz = 7 ∨ f ∈ b
theorem jP {a b : List Fn} (h : jt a b) (i : Nat) {k l : List Int} (hk : ∀ y ∈ k, y = 7 ∨ y ∈ l) : jt (a ++ zi i k) (b ++ zi i l) := by
 intro f hf
 rcases List.mem_append.mp hf with hf | hf
 ·exact (h f hf).imp id (List.mem_append_left _)
 ·obtain ⟨y, hy, rfl⟩ := List.mem_map.mp hf
  exact (hk y hy).imp id fun h => List.mem_append_right _ (List.mem_map.mpr ⟨y, h, rfl⟩)
theorem si (hd : ds.length ≤ 8) : ∀ (xs : List Sp) (i : Nat) (out out2 : List Fn) (t u : Sm), wX ns ds t → sy t u → jt out2 out → (∀ x ∈ xs, zT ns.length ds.length x = 0) →
 jt (yj ns ds co [] i out2 u xs).1 (zf ns ds co i out t xs).o ∧ ((yj ns ds co [] i out2 u xs).2.2 = i + xs.length → sy (zf ns ds co i out t xs).t (yj ns ds co [] i out2 u xs).2.1)
 | [], i, out, out2, t, u, _, hb, hi, _ => ⟨hi, fun _ => hb⟩
 | x :: r, i, out, out2, t, u, hc, hb, hi, hx => by
  have hx1 := hx x (by simp)
  have hxr : ∀ y ∈ r, zT ns.length ds.length y = 0 := fun y hy => hx y (List.mem_cons_of_mem _ hy)
  obtain ⟨h1, h2⟩ := oF (co := co) hc hb hx1
  have hi2 := jP hi i h1
  rw [yj, if_neg (by simp [iE])]
  have he := nS (co := co) (x := x) hd hc
  rcases ho : (zd ns ds co u x).ok with _ | _
  ·rw [if_neg (by simp)]
   refine ⟨fun f hf => ?_, fun h => ?_⟩
   ·refine (hi2 f hf).imp id fun hf => ?_
    rw [zf, if_neg (by simp [he])]
    split
    ·exact hf
    ·exact se _ _ _ _ (qX hd r _ _ _ (vo hc hx1) hxr) f hf
   ·simp at h
  ·rw [if_pos rfl]
   obtain ⟨h3, h4⟩ := h2 ho
   rw [zf, if_neg (by simp [he]), if_neg (by simp [h3])]
   have := si hd r (i + 1) _ _ _ _ (vo hc hx1) h4 hi2 hxr
   refine ⟨this.1, fun h => this.2 ?_⟩
   rw [h, List.length_cons]; omega
end
end
section
open Go.RowKit
section
variable {ns : List Nd} {ds : List Dv} {m s : List Int} {i : Nat} {x : Dv}
end
end
section
open Go.RowKit
def nsW : List Nd := [⟨⟨#[65]⟩, 0, 0⟩]
def dsW : List Dv := [⟨⟨#[69]⟩, 4, 0, -1, 0⟩]
def xsW : List Sp := [⟨2, 0, 0, 0, 0⟩, ⟨3, 0, 0, 2, 4⟩]
theorem kw : (∀ x ∈ nsW, x.name.size ≤ 9223372036854775807) ∧ (∀ x ∈ dsW, x.name.size ≤ 9223372036854775807) := by
 constructor <;> intro x hx <;> simp [nsW, dsW] at hx <;> rcases hx with rfl | rfl <;> decide
theorem chW : yn nsW dsW [1] 0 [] [] ⟨#[80]⟩ xsW = 0 := by decide
theorem mB (s : List Int) (v : Int) : ¬ vd yk dsW s v := by
 rintro ⟨k, x, hx, -, hk, -⟩
 rcases k with _ | k
 ·simp [dsW] at hx; subst hx; rcases hk with hk | hk <;> cases hk
 ·simp [dsW] at hx
theorem fo : vD nsW dsW [1] 0 2 0 [] [] = [5] := by
 have hx : dsW[(0 : Int).toNat]? = some ⟨⟨#[69]⟩, 4, 0, -1, 0⟩ := rfl
 have hnet := yt.of (ns := nsW) (ds := dsW) (by decide)
 refine (mC hx ⟨by decide, by simp, fun h => ?_⟩).symm
 rw [List.mem_singleton]
 have h1 : ∀ s ∈ yM ([1] : List Int), s[0]? = some 1 := fun s hs => by
  rcases qf hs (i := 0) (by decide) with ⟨h, -⟩ | ⟨-, h⟩
  ·cases h
  ·exact h
 constructor
 ·rintro rfl
  refine ⟨xB [1] 2, iZ _, ?_, .inl (by decide)⟩
  unfold xu
  rw [if_neg (by decide), tg]
  exact .inr (.inr (.inr (.inr (.inl ⟨rfl, by simp [xv]⟩))))
 ·rintro ⟨s, hs, hz, -⟩
  have hs1 := h1 s hs
  unfold xu at hz
  rw [if_neg (by show ¬ s.getD 0 0 = 2; rw [iX hs1]; decide), tg] at hz
  rcases hz with ⟨-, hz⟩ | ⟨-, hz⟩ | ⟨-, hz⟩ | ⟨-, hz⟩ | ⟨h, -⟩ | ⟨-, hz⟩ | ⟨-, hz⟩
  ·simp only [Bool.and_eq_true, decide_eq_true_eq] at hz
   have := (fN hnet.e hnet.a (by simp [dsW])).1 hz.2
   rcases this with h | ⟨h, -⟩
   ·exact absurd (fx.1 h).1 (mB _ _)
   ·cases h
  ·simp [vF] at hz
  ·unfold pX at hz
   simp only [decide_eq_true_eq] at hz
   obtain ⟨k, y, -, -, h, -⟩ := hz
   exact absurd h.1 (mB _ _)
  ·simp [mE] at hz
  ·exact h
  ·simp at hz
  ·cases hz
theorem fG : zf nsW dsW 0 0 [] ⟨[1], [], []⟩ xsW = ⟨0, [⟨0, 5⟩], ⟨[2], [⟨0, 2, 4⟩], []⟩⟩ := by
 have e1 : zu nsW dsW 0 ⟨[1], [], []⟩ ⟨2, 0, 0, 0, 0⟩ = ⟨0, [5], ⟨[2], [], []⟩, false⟩ := by
  rw [jg (.inr rfl)]
  dsimp only
  rw [fo]; rfl
 have e2 : zu nsW dsW 0 ⟨[2], [], []⟩ ⟨3, 0, 0, 2, 4⟩ = ⟨0, [], ⟨[2], [⟨0, 2, 4⟩], []⟩, false⟩ := by
  rw [sc (.inl rfl)]
  have e3 : zX nsW dsW [] ⟨3, 0, 0, 2, 4⟩ = ([⟨0, 2, 4⟩], true) := by
   unfold zX
   rw [if_pos rfl, if_neg (by decide)]; rfl
  dsimp only
  rw [e3]; rfl
 unfold xsW
 rw [zf, e1, if_neg (by decide), if_neg (by decide), zf, e2, if_neg (by decide), if_neg (by decide), zf]; rfl
theorem Blk.sl {w : World} {g n size : Nat} {T : TypeId} {cs : Array Value} {xs : List Value} (h : Blk w g T cs) (hc : cs.toList = xs) (hs : cs.size = n * size) (hn : n ≤ 100) : Sl w w.heap.size size (some ⟨g, 0, none⟩) n n xs := by
 subst hc
 refine ⟨by simpa using hs, Nat.le_refl _, by omega, (fun e => by cases e), fun _ => ⟨g, 0, rfl, h.lt, fun j u hu => ?_⟩⟩
 rw [Nat.zero_add, h.cell]; simpa using hu
def nW : Array Value := #[.string ⟨#[65]⟩, .int .i64 0, .int .i64 0]
def dW : Array Value := #[.string ⟨#[69]⟩, .int .i64 4, .int .i64 0, .int .i64 (-1), .int .i64 0]
def xW : Array Value := #[.int .i64 2, .int .i64 0, .int .i64 0, .int .i64 0, .int .i64 0, .int .i64 3, .int .i64 0, .int .i64 0, .int .i64 2, .int .i64 4]
theorem ri (w : World) (hl : Laid w) : Calls Tryz.prog 11 #[] w fun e w' => e = .returned (.bool true) ∧ Below w.heap.size w w' := by
 have HB : Hid (Bxs w [(85, nW), (57, dW), (30, #[.slice (some ⟨w.heap.size, 0, none⟩) 1 1, .slice (some ⟨w.heap.size + 1, 0, none⟩) 1 1]), (43, xW), (41, #[.string ⟨#[80]⟩, .slice (some ⟨w.heap.size + 1 + 1 + 1, 0, none⟩) 2 2])] _) := (Bxs.new4 w (85, nW) (57, dW) (30, #[.slice (some ⟨w.heap.size, 0, none⟩) 1 1, .slice (some ⟨w.heap.size + 1, 0, none⟩) 1 1]) (43, xW)).add (by simp) 41 #[.string ⟨#[80]⟩, .slice (some ⟨w.heap.size + 1 + 1 + 1, 0, none⟩) 2 2]
 have HLA := iD hl
 clear hl
 dsimp only [nW, dW, xW] at HB
 go_enter Tryz.func11, Tryz.ntmps11
 go_upto_region 3 with (fail)
 generalize World.alloc (World.alloc (World.alloc (World.alloc (World.alloc w _) _) _) _) _ = W at *
 rw [show w.heap.size + 1 + 1 = w.heap.size + 2 from rfl, show w.heap.size + 2 + 1 = w.heap.size + 3 from rfl, show w.heap.size + 3 + 1 = w.heap.size + 4 from rfl]
 have k0 := HB.out.b2.c0
 have k1 := HB.out.b2.c1
 have p0 := HB.out.b4.c0
 have p1 := HB.out.b4.c1
 have hlt := HB.out.b4.lt
 go_wp2_with fail
 clear k0 k1 p0 p1 hlt
 have HB1 := iD (HB.out.later ((Below.refl _ W).alloc lR (.cells #[.int .i64 1] 3)))
 have HS1 : Hid (Sl (W.alloc (.cells #[.int .i64 1] 3)) (W.alloc (.cells #[.int .i64 1] 3)).heap.size 1 (some ⟨W.heap.size, 0, none⟩) 1 1 (zD [1])) := (Sl.newest (n := 1) (size := 1) rfl rfl (by decide)).more (by simp)
 clear HB
 generalize World.alloc W _ = w1 at *
 have HM1 : Hid (uB w1 (some ⟨w.heap.size, 0, none⟩) (some ⟨w.heap.size + 1, 0, none⟩) (some ⟨W.heap.size, 0, none⟩) none none (some ⟨w.heap.size + 3, 0, none⟩) 1 1 1 1 1 1 0 0 0 0 2 2 nsW dsW [1] [] [] ⟨#[80]⟩ xsW) := ⟨⟨HB1.out.b0.sl rfl rfl (by decide), HB1.out.b1.sl rfl rfl (by decide), HS1.out, Sl.nil _ _ _, Sl.nil _ _ _, HLA.out.below HB1.out.l lR, kw.1, kw.2⟩, HB1.out.b3.sl rfl rfl (by decide), by decide⟩
 refine (rf _ _ _ _ _ _ 1 1 1 1 1 1 0 0 0 0 2 2 nsW dsW [1] [] [] 0 ⟨#[80]⟩ xsW w1 HM1.out).mono ?_
 rintro e w2 ⟨⟨h1, -⟩ | ⟨-, h1, -⟩ | ⟨-, -, A1, A2, A3, A4, n1, c1, n2, c2, n3, c3, n4, c4, rfl, hR⟩, hb2⟩
 ·exact absurd chW h1
 ·rw [fG] at h1; exact absurd rfl h1
 rw [fG] at hR
 obtain rfl : 1 = n1 := hR.out.o.len (f := Fn.cells) (fun _ => rfl) (by decide)
 obtain rfl : 1 = n3 := hR.out.l.len (f := Lk.cells) (fun _ => rfl) (by decide)
 have HB2 : Hid (Below w.heap.size w w2) := HB1.out.l.trans (hb2.out.mono HB1.out.l.size)
 have HR2 := iD hR.out
 clear hR hb2 HB1 HS1 HM1
 go_upto_region 4 with (fail)
 have HG5 := iD (Blk.new w2 47 #[.slice A1 1 c1, .slice A2 n2 c2, .int .i64 0, .slice A3 1 c3, .slice A4 n4 c4])
 have HB3 : Hid (Below w2.heap.size w2 (w2.alloc (.cells #[.slice A1 1 c1, .slice A2 n2 c2, .int .i64 0, .slice A3 1 c3, .slice A4 n4 c4] 47))) := (Below.refl _ _).alloc lR _
 have HF3 := iD ((HR2.out.o.below HB3.out lR).more HB3.out.size)
 have HM3 := iD ((HR2.out.s.below HB3.out lR).more HB3.out.size)
 replace HB3 := iD (HB2.out.trans (HB3.out.mono HB2.out.size))
 clear HB2 HR2
 dsimp only at HF3 HM3
 generalize World.alloc w2 _ = w3 at *
 obtain ⟨rb, hrb⟩ : ∃ x, x = w2.heap.size := ⟨_, rfl⟩
 rw [← hrb] at HG5 ⊢
 clear hrb
 have r0 := HG5.out.c0
 go_wp2_with fail
 clear r0
 have HBL : Hid (Below w3.heap.size w3 (w3.alloc (.cells #[.int .i64 0, .int .i64 5] 53))) := (Below.refl _ _).alloc lR _
 have HN : Hid (Sl (w3.alloc (.cells #[.int .i64 0, .int .i64 5] 53)) (w3.alloc (.cells #[.int .i64 0, .int .i64 5] 53)).heap.size 2 (some ⟨w3.heap.size, 0, none⟩) 1 1 (([⟨0, 5⟩] : List Fn).flatMap Fn.cells)) := (Sl.newest (n := 1) (size := 2) rfl rfl (by decide)).more (by simp)
 have HF4 := iD ((HF3.out.below HBL.out lR).more HBL.out.size)
 have HM4 := iD ((HM3.out.below HBL.out lR).more HBL.out.size)
 have HG4 := iD (HG5.out.below HBL.out HG5.out.lt)
 have HB4 := iD (HB3.out.trans (HBL.out.mono HB3.out.size))
 clear HF3 HM3 HG5 HB3 HBL
 generalize World.alloc w3 _ = w4 at *
 refine (mu A1 _ 1 c1 1 1 w4.heap.size w4.heap.size _ _ w4 HF4.out HN.out lR lR).mono ?_
 rintro e w5 ⟨rfl, hb5⟩
 rw [show decide (([⟨0, 5⟩] : List Fn) = [⟨0, 5⟩]) = true from rfl]
 have HF5 := iD ((HF4.out.below hb5 lR).more hb5.size)
 have HM5 := iD ((HM4.out.below hb5 lR).more hb5.size)
 have HG6 := iD (HG4.out.below hb5 HG4.out.lt)
 have HB5 := iD (HB4.out.trans (hb5.mono HB4.out.size))
 clear hb5 HF4 HM4 HG4 HB4 HN
 have r1 := HG6.out.c1
 have r3 := HG6.out.c3
 have hlt := HG6.out.lt
 go_wp2_with fail
 clear r1 r3 hlt
 have HBL : Hid (Below w5.heap.size w5 (w5.alloc (.cells #[.int .i64 2] 3))) := (Below.refl _ _).alloc lR _
 have HN : Hid (Sl (w5.alloc (.cells #[.int .i64 2] 3)) (w5.alloc (.cells #[.int .i64 2] 3)).heap.size 1 (some ⟨w5.heap.size, 0, none⟩) 1 1 (zD [2])) := (Sl.newest (n := 1) (size := 1) rfl rfl (by decide)).more (by simp)
 have HF6 := iD ((HF5.out.below HBL.out lR).more HBL.out.size)
 have HM6 := iD ((HM5.out.below HBL.out lR).more HBL.out.size)
 have HG7 := iD (HG6.out.below HBL.out HG6.out.lt)
 have HB6 := iD (HB5.out.trans (HBL.out.mono HB5.out.size))
 clear HF5 HM5 HG6 HB5 HBL
 generalize World.alloc w5 _ = w6 at *
 refine (jN A2 _ n2 c2 1 1 w6.heap.size w6.heap.size [2] [2] w6 HM6.out HN.out lR lR).mono ?_
 rintro e w7 ⟨rfl, hb7⟩
 rw [show decide (([2] : List Int) = [2]) = true from rfl]
 have HF7 := iD ((HF6.out.below hb7 lR).more hb7.size)
 have HG8 := iD (HG7.out.below hb7 HG7.out.lt)
 have HB7 := iD (HB6.out.trans (hb7.mono HB6.out.size))
 clear hb7 HF6 HM6 HG7 HB6 HN
 have r0 := HG8.out.c0
 have r1 := HG8.out.c1
 have r2 := HG8.out.c2
 have r3 := HG8.out.c3
 have r4 := HG8.out.c4
 have hlt := HG8.out.lt
 go_wp2_with fail
 clear r0 r1 r2 r3 r4 hlt
 have HBL : Hid (Below w7.heap.size w7 (w7.alloc (.cells #[.int .i64 5] 3))) := (Below.refl _ _).alloc lR _
 have HN : Hid (Sl (w7.alloc (.cells #[.int .i64 5] 3)) (w7.alloc (.cells #[.int .i64 5] 3)).heap.size 1 (some ⟨w7.heap.size, 0, none⟩) 1 1 (zD [5])) := (Sl.newest (n := 1) (size := 1) rfl rfl (by decide)).more (by simp)
 have HF8 := iD ((HF7.out.below HBL.out lR).more HBL.out.size)
 have HB8 := iD (HB7.out.trans (HBL.out.mono HB7.out.size))
 clear HF7 HG8 HB7 HBL
 generalize World.alloc w7 _ = w8 at *
 refine (lh A1 A2 A3 A4 _ 1 c1 n2 c2 1 c3 n4 c4 1 1 0 [⟨0, 5⟩] [5] w8 HF8.out HN.out).mono ?_
 rintro e w9 ⟨rfl, hb9⟩
 rw [show fP [⟨0, 5⟩] [5] = true from by decide]
 go_wp2_with fail
 go_ret
 exact ⟨rfl, HB8.out.trans (hb9.mono HB8.out.size)⟩
end
section
open Go.RowKit
structure MsM (w : World) (g x : Nat) (nt st : Array Value) (wr : World) : Prop where
 b0 : Blk wr w.heap.size 30 nt
 b1 : Blk wr (w.heap.size + 1) 43 #[.int .i64 0, .int .i64 0, .int .i64 0, .int .i64 0, .int .i64 0]
 bx : Blk wr x 43 st
 dk : zP wr g
 gr : w.grownBy wr (some g)
section
variable {w wr wr' : World} {g x : Nat} {nt st : Array Value}
theorem MsM.grown (h : MsM w g x nt st wr) (hg : wr.grownBy wr' (some g)) (hd : zP wr' g) (h0 : g < w.heap.size) (hx : w.heap.size + 1 < x) : MsM w g x nt st wr' :=
 ⟨h.b0.grown hg (fun e => by injection e with e; omega), h.b1.grown hg (fun e => by injection e with e; omega), h.bx.grown hg (fun e => by injection e with e; omega), hd, zM h.gr hg⟩
theorem MsM.put (h : MsM w g x nt st wr) (h0 : g < w.heap.size) (hx : w.heap.size + 1 < x) (i : Nat) (u : Value) : MsM w g x nt (st.setIfInBounds i u) (wr.setCell ⟨x, i, none⟩ u) :=
 ⟨h.b0.far (by show w.heap.size ≠ x; omega) _, h.b1.far (by show w.heap.size + 1 ≠ x; omega) _, h.bx.set i u, h.dk.setCell (by show g < x; omega) _, zg h.gr (by show w.heap.size ≤ x; omega) _⟩
theorem MsM.fin {a b c d e : Value} (h : MsM w g x nt #[a, b, c, d, e] wr) (h0 : g < w.heap.size) : Blk (uX wr (w.heap.size + 1) a b c d e) (w.heap.size + 1) 43 #[a, b, c, d, e] ∧ zP (uX wr (w.heap.size + 1) a b c d e) g ∧ w.grownBy (uX wr (w.heap.size + 1) a b c d e) (some g) :=
 ⟨h.b1.all5, ((((h.dk.setCell (p := ⟨w.heap.size + 1, 0, none⟩) (by simp; omega) a).setCell (p := ⟨w.heap.size + 1, 1, none⟩) (by simp; omega) b).setCell (p := ⟨w.heap.size + 1, 2, none⟩) (by simp; omega) c).setCell (p := ⟨w.heap.size + 1, 3, none⟩) (by simp; omega) d).setCell (p := ⟨w.heap.size + 1, 4, none⟩) (by simp; omega) e,
  zg (zg (zg (zg (zg h.gr (p := ⟨w.heap.size + 1, 0, none⟩) (by simp) a) (p := ⟨w.heap.size + 1, 1, none⟩) (by simp) b) (p := ⟨w.heap.size + 1, 2, none⟩) (by simp) c) (p := ⟨w.heap.size + 1, 3, none⟩) (by simp) d) (p := ⟨w.heap.size + 1, 4, none⟩) (by simp) e⟩
end
def iy (w : World) (g nn nd : Nat) (e : Ending) (w' : World) : Prop := ∃ (k d no p q : Int), e = .returned (.agg #[.int .i64 k, .int .i64 d, .int .i64 no, .int .i64 p, .int .i64 q]) ∧ Hid (zT nn nd ⟨k, d, no, p, q⟩ = 0) ∧ Hid (zP w' g) ∧ Hid (w.grownBy w' (some g))
theorem nA (g : Nat) (An Ad : Option Addr) (nn cn nd cd : Nat) (w : World) (hd : zP w g) (hnn : 0 < nn) (hnn1 : nn ≤ 1000) (hnd : 0 < nd) (hnd1 : nd ≤ 1000) :
 Calls Tryz.prog 18 #[.pointer (some ⟨g, 0, none⟩), .agg #[.slice An nn cn, .slice Ad nd cd]] w (iy w g nn nd) := by
 have hlt := hd.lt
 have HB0 := iD ((Blk.new w 30 #[.slice An nn cn, .slice Ad nd cd]).alloc (.cells #[.int .i64 0, .int .i64 0, .int .i64 0, .int .i64 0, .int .i64 0] 43))
 have HB1 : Hid (Blk ((w.alloc (.cells #[.slice An nn cn, .slice Ad nd cd] 30)).alloc (.cells #[.int .i64 0, .int .i64 0, .int .i64 0, .int .i64 0, .int .i64 0] 43)) (w.heap.size + 1) 43 #[.int .i64 0, .int .i64 0, .int .i64 0, .int .i64 0, .int .i64 0]) := by
  have := Blk.new (w.alloc (.cells #[.slice An nn cn, .slice Ad nd cd] 30)) 43 #[.int .i64 0, .int .i64 0, .int .i64 0, .int .i64 0, .int .i64 0]
  unfold Hid; simpa using this
 have HBL : Hid (Below w.heap.size w ((w.alloc (.cells #[.slice An nn cn, .slice Ad nd cd] 30)).alloc (.cells #[.int .i64 0, .int .i64 0, .int .i64 0, .int .i64 0, .int .i64 0] 43))) := ((Below.refl _ _).alloc lR _).alloc (by simp) _
 have HD0 := iD ((hd.alloc (.cells #[.slice An nn cn, .slice Ad nd cd] 30)).alloc (.cells #[.int .i64 0, .int .i64 0, .int .i64 0, .int .i64 0, .int .i64 0] 43))
 clear hd
 go_enter Tryz.func18, Tryz.ntmps18
 go_upto_region 1 with (fail)
 generalize World.alloc (World.alloc w _) _ = W at *
 go_wp2_with fail
 refine (zS g 6 W HD0.out (by decide)).mono ?_
 rintro e w1 ⟨r, rfl, hv0, _, hv1, hd1, hg1, hs1⟩
 have hvn := hv1.out (by decide)
 have hx : w.heap.size + 1 < w1.heap.size := by have := HB1.out.lt; have := hg1.out.size; omega
 have HG1 := iD (zM (zL HBL.out (some g)) hg1.out)
 have HC0 := iD (HB0.out.grown hg1.out (fun e => by injection e with e; omega))
 have HC1 := iD (HB1.out.grown hg1.out (fun e => by injection e with e; omega))
 have HDK := iD hd1.out
 clear hv1 hd1 hg1 hs1 HB0 HB1 HBL HD0
 rcases (show r = 0 ∨ r = 1 ∨ r = 2 ∨ r = 3 ∨ r = 4 ∨ r = 5 by omega) with rfl | rfl | rfl | rfl | rfl | rfl
 ·clear hv0 hvn
  go_upto_region 2 with (fail)
  have HM : Hid (MsM w g w1.heap.size #[.slice An nn cn, .slice Ad nd cd] #[.int .i64 1, .int .i64 0, .int .i64 0, .int .i64 0, .int .i64 0] (w1.alloc (.cells #[.int .i64 1, .int .i64 0, .int .i64 0, .int .i64 0, .int .i64 0] 43))) := ⟨HC0.out.alloc _, HC1.out.alloc _, Blk.new _ _ _, HDK.out.alloc _, zM HG1.out (zL ((Below.refl _ _).alloc lR _) _)⟩
  clear HC0 HC1 HDK HG1
  generalize World.alloc w1 _ = V at *
  obtain ⟨x, hxx⟩ : ∃ x, x = w1.heap.size := ⟨_, rfl⟩
  rw [← hxx] at HM hx ⊢
  clear hxx
  have b0 := HM.out.b0.c0
  have b1 := HM.out.b0.c1
  have s0 := HM.out.bx.c0
  go_wp2_with fail
  clear b0 b1 s0
  refine (zS g (nd : Int) V HM.out.dk (by omega)).mono ?_
  rintro e w2 ⟨v1, rfl, h01, _, hv1, hd1, hg1, hs1⟩
  have h11 := hv1.out (by omega)
  have HM := iD (HM.out.grown hg1.out hd1.out hlt hx)
  clear hv1 hd1 hg1 hs1
  have c0 := HM.out.bx.c1
  have f0 := HM.out.bx.frozen 1
  have HM := iD (HM.out.put hlt hx 1 (.int .i64 v1))
  go_upto_region 6 with (fail)
  clear c0 f0
  generalize World.setCell w2 _ _ = X1 at *
  have HM : Hid (MsM w g x #[.slice An nn cn, .slice Ad nd cd] #[.int .i64 1, .int .i64 v1, .int .i64 0, .int .i64 0, .int .i64 0] X1) := HM.out
  have s0 := HM.out.bx.c0
  have s1 := HM.out.bx.c1
  have s2 := HM.out.bx.c2
  have s3 := HM.out.bx.c3
  have s4 := HM.out.bx.c4
  have d0 := HM.out.b1.c0
  have y50 := HM.out.b1.frozen 0
  have d1 := HM.out.b1.c1
  have y51 := HM.out.b1.frozen 1
  have d2 := HM.out.b1.c2
  have y52 := HM.out.b1.frozen 2
  have d3 := HM.out.b1.c3
  have y53 := HM.out.b1.frozen 3
  have d4 := HM.out.b1.c4
  have y54 := HM.out.b1.frozen 4
  have HF := iD (HM.out.fin hlt)
  unfold uX at HF
  go_wp2_with fail
  generalize World.setCell (World.setCell (World.setCell (World.setCell (World.setCell X1 _ _) _ _) _ _) _ _) _ _ = z at *
  have q0 := HF.out.1.c0
  have q1 := HF.out.1.c1
  have q2 := HF.out.1.c2
  have q3 := HF.out.1.c3
  have q4 := HF.out.1.c4
  exact bodyPost_ret (v := .agg #[.int .i64 1, .int .i64 v1, .int .i64 0, .int .i64 0, .int .i64 0]) (by simp [results, Tryz.results18, go_sem, q0, q1, q2, q3, q4]) rfl ⟨_, _, _, _, _, rfl, by unfold Hid; rw [fF, if_neg (by omega), if_neg (by omega)], HF.out.2.1, HF.out.2.2⟩
 ·clear hv0 hvn
  go_upto_region 2 with (fail)
  have HM : Hid (MsM w g w1.heap.size #[.slice An nn cn, .slice Ad nd cd] #[.int .i64 2, .int .i64 0, .int .i64 0, .int .i64 0, .int .i64 0] (w1.alloc (.cells #[.int .i64 2, .int .i64 0, .int .i64 0, .int .i64 0, .int .i64 0] 43))) := ⟨HC0.out.alloc _, HC1.out.alloc _, Blk.new _ _ _, HDK.out.alloc _, zM HG1.out (zL ((Below.refl _ _).alloc lR _) _)⟩
  clear HC0 HC1 HDK HG1
  generalize World.alloc w1 _ = V at *
  obtain ⟨x, hxx⟩ : ∃ x, x = w1.heap.size := ⟨_, rfl⟩
  rw [← hxx] at HM hx ⊢
  clear hxx
  have b0 := HM.out.b0.c0
  have b1 := HM.out.b0.c1
  have s0 := HM.out.bx.c0
  go_wp2_with fail
  clear b0 b1 s0
  refine (zS g (nd : Int) V HM.out.dk (by omega)).mono ?_
  rintro e w2 ⟨v1, rfl, h01, _, hv1, hd1, hg1, hs1⟩
  have h11 := hv1.out (by omega)
  have HM := iD (HM.out.grown hg1.out hd1.out hlt hx)
  clear hv1 hd1 hg1 hs1
  have c0 := HM.out.bx.c1
  have f0 := HM.out.bx.frozen 1
  have HM := iD (HM.out.put hlt hx 1 (.int .i64 v1))
  go_upto_region 6 with (fail)
  clear c0 f0
  generalize World.setCell w2 _ _ = X1 at *
  have HM : Hid (MsM w g x #[.slice An nn cn, .slice Ad nd cd] #[.int .i64 2, .int .i64 v1, .int .i64 0, .int .i64 0, .int .i64 0] X1) := HM.out
  have s0 := HM.out.bx.c0
  have s1 := HM.out.bx.c1
  have s2 := HM.out.bx.c2
  have s3 := HM.out.bx.c3
  have s4 := HM.out.bx.c4
  have d0 := HM.out.b1.c0
  have y50 := HM.out.b1.frozen 0
  have d1 := HM.out.b1.c1
  have y51 := HM.out.b1.frozen 1
  have d2 := HM.out.b1.c2
  have y52 := HM.out.b1.frozen 2
  have d3 := HM.out.b1.c3
  have y53 := HM.out.b1.frozen 3
  have d4 := HM.out.b1.c4
  have y54 := HM.out.b1.frozen 4
  have HF := iD (HM.out.fin hlt)
  unfold uX at HF
  go_wp2_with fail
  generalize World.setCell (World.setCell (World.setCell (World.setCell (World.setCell X1 _ _) _ _) _ _) _ _) _ _ = z at *
  have q0 := HF.out.1.c0
  have q1 := HF.out.1.c1
  have q2 := HF.out.1.c2
  have q3 := HF.out.1.c3
  have q4 := HF.out.1.c4
  exact bodyPost_ret (v := .agg #[.int .i64 2, .int .i64 v1, .int .i64 0, .int .i64 0, .int .i64 0]) (by simp [results, Tryz.results18, go_sem, q0, q1, q2, q3, q4]) rfl ⟨_, _, _, _, _, rfl, by unfold Hid; rw [fE, if_neg (by omega), if_neg (by omega)], HF.out.2.1, HF.out.2.2⟩
 ·clear hv0 hvn
  go_upto_region 2 with (fail)
  have HM : Hid (MsM w g w1.heap.size #[.slice An nn cn, .slice Ad nd cd] #[.int .i64 3, .int .i64 0, .int .i64 0, .int .i64 0, .int .i64 0] (w1.alloc (.cells #[.int .i64 3, .int .i64 0, .int .i64 0, .int .i64 0, .int .i64 0] 43))) := ⟨HC0.out.alloc _, HC1.out.alloc _, Blk.new _ _ _, HDK.out.alloc _, zM HG1.out (zL ((Below.refl _ _).alloc lR _) _)⟩
  clear HC0 HC1 HDK HG1
  generalize World.alloc w1 _ = V at *
  obtain ⟨x, hxx⟩ : ∃ x, x = w1.heap.size := ⟨_, rfl⟩
  rw [← hxx] at HM hx ⊢
  clear hxx
  have b0 := HM.out.b0.c0
  have b1 := HM.out.b0.c1
  have s0 := HM.out.bx.c0
  go_wp2_with fail
  clear b0 b1 s0
  refine (zS g (nd : Int) V HM.out.dk (by omega)).mono ?_
  rintro e w2 ⟨v1, rfl, h01, _, hv1, hd1, hg1, hs1⟩
  have h11 := hv1.out (by omega)
  have HM := iD (HM.out.grown hg1.out hd1.out hlt hx)
  clear hv1 hd1 hg1 hs1
  have c0 := HM.out.bx.c1
  have f0 := HM.out.bx.frozen 1
  have HM := iD (HM.out.put hlt hx 1 (.int .i64 v1))
  go_upto_region 6 with (fail)
  clear c0 f0
  generalize World.setCell w2 _ _ = X1 at *
  have HM : Hid (MsM w g x #[.slice An nn cn, .slice Ad nd cd] #[.int .i64 3, .int .i64 v1, .int .i64 0, .int .i64 0, .int .i64 0] X1) := HM.out
  have b0 := HM.out.b0.c0
  have b1 := HM.out.b0.c1
  have s0 := HM.out.bx.c0
  go_wp2_with fail
  clear b0 b1 s0
  refine (zS g 2 X1 HM.out.dk (by omega)).mono ?_
  rintro e w3 ⟨v2, rfl, h02, _, hv1, hd1, hg1, hs1⟩
  have h12 := hv1.out (by omega)
  have HM := iD (HM.out.grown hg1.out hd1.out hlt hx)
  clear hv1 hd1 hg1 hs1
  have c0 := HM.out.bx.c3
  have f0 := HM.out.bx.frozen 3
  have HM := iD (HM.out.put hlt hx 3 (.int .i64 (1 + v2)))
  go_upto_region 8 with (fail)
  clear c0 f0
  generalize World.setCell w3 _ _ = X2 at *
  have HM : Hid (MsM w g x #[.slice An nn cn, .slice Ad nd cd] #[.int .i64 3, .int .i64 v1, .int .i64 0, .int .i64 (1 + v2), .int .i64 0] X2) := HM.out
  have b0 := HM.out.b0.c0
  have b1 := HM.out.b0.c1
  have s0 := HM.out.bx.c0
  go_wp2_with fail
  clear b0 b1 s0
  refine (zS g 12 X2 HM.out.dk (by omega)).mono ?_
  rintro e w4 ⟨v3, rfl, h03, _, hv1, hd1, hg1, hs1⟩
  have h13 := hv1.out (by omega)
  have HM := iD (HM.out.grown hg1.out hd1.out hlt hx)
  clear hv1 hd1 hg1 hs1
  have c0 := HM.out.bx.c4
  have f0 := HM.out.bx.frozen 4
  have HM := iD (HM.out.put hlt hx 4 (.int .i64 (10 + v3)))
  go_upto_region 10 with (fail)
  clear c0 f0
  generalize World.setCell w4 _ _ = X3 at *
  have HM : Hid (MsM w g x #[.slice An nn cn, .slice Ad nd cd] #[.int .i64 3, .int .i64 v1, .int .i64 0, .int .i64 (1 + v2), .int .i64 (10 + v3)] X3) := HM.out
  have s0 := HM.out.bx.c0
  have s1 := HM.out.bx.c1
  have s2 := HM.out.bx.c2
  have s3 := HM.out.bx.c3
  have s4 := HM.out.bx.c4
  have d0 := HM.out.b1.c0
  have y50 := HM.out.b1.frozen 0
  have d1 := HM.out.b1.c1
  have y51 := HM.out.b1.frozen 1
  have d2 := HM.out.b1.c2
  have y52 := HM.out.b1.frozen 2
  have d3 := HM.out.b1.c3
  have y53 := HM.out.b1.frozen 3
  have d4 := HM.out.b1.c4
  have y54 := HM.out.b1.frozen 4
  have HF := iD (HM.out.fin hlt)
  unfold uX at HF
  go_wp2_with fail
  generalize World.setCell (World.setCell (World.setCell (World.setCell (World.setCell X3 _ _) _ _) _ _) _ _) _ _ = z at *
  have q0 := HF.out.1.c0
  have q1 := HF.out.1.c1
  have q2 := HF.out.1.c2
  have q3 := HF.out.1.c3
  have q4 := HF.out.1.c4
  exact bodyPost_ret (v := .agg #[.int .i64 3, .int .i64 v1, .int .i64 0, .int .i64 (1 + v2), .int .i64 (10 + v3)]) (by simp [results, Tryz.results18, go_sem, q0, q1, q2, q3, q4]) rfl ⟨_, _, _, _, _, rfl, by unfold Hid; rw [fD, if_neg (by omega), if_neg (by omega), if_neg (by omega), if_neg (by omega)], HF.out.2.1, HF.out.2.2⟩
 ·clear hv0 hvn
  go_upto_region 2 with (fail)
  have HM : Hid (MsM w g w1.heap.size #[.slice An nn cn, .slice Ad nd cd] #[.int .i64 4, .int .i64 0, .int .i64 0, .int .i64 0, .int .i64 0] (w1.alloc (.cells #[.int .i64 4, .int .i64 0, .int .i64 0, .int .i64 0, .int .i64 0] 43))) := ⟨HC0.out.alloc _, HC1.out.alloc _, Blk.new _ _ _, HDK.out.alloc _, zM HG1.out (zL ((Below.refl _ _).alloc lR _) _)⟩
  clear HC0 HC1 HDK HG1
  generalize World.alloc w1 _ = V at *
  obtain ⟨x, hxx⟩ : ∃ x, x = w1.heap.size := ⟨_, rfl⟩
  rw [← hxx] at HM hx ⊢
  clear hxx
  have b0 := HM.out.b0.c0
  have b1 := HM.out.b0.c1
  have s0 := HM.out.bx.c0
  go_wp2_with fail
  clear b0 b1 s0
  refine (zS g (nd : Int) V HM.out.dk (by omega)).mono ?_
  rintro e w2 ⟨v1, rfl, h01, _, hv1, hd1, hg1, hs1⟩
  have h11 := hv1.out (by omega)
  have HM := iD (HM.out.grown hg1.out hd1.out hlt hx)
  clear hv1 hd1 hg1 hs1
  have c0 := HM.out.bx.c1
  have f0 := HM.out.bx.frozen 1
  have HM := iD (HM.out.put hlt hx 1 (.int .i64 v1))
  go_upto_region 6 with (fail)
  clear c0 f0
  generalize World.setCell w2 _ _ = X1 at *
  have HM : Hid (MsM w g x #[.slice An nn cn, .slice Ad nd cd] #[.int .i64 4, .int .i64 v1, .int .i64 0, .int .i64 0, .int .i64 0] X1) := HM.out
  have b0 := HM.out.b0.c0
  have b1 := HM.out.b0.c1
  have s0 := HM.out.bx.c0
  go_wp2_with fail
  clear b0 b1 s0
  refine (zS g 12 X1 HM.out.dk (by omega)).mono ?_
  rintro e w3 ⟨v2, rfl, h02, _, hv1, hd1, hg1, hs1⟩
  have h12 := hv1.out (by omega)
  have HM := iD (HM.out.grown hg1.out hd1.out hlt hx)
  clear hv1 hd1 hg1 hs1
  have c0 := HM.out.bx.c4
  have f0 := HM.out.bx.frozen 4
  have HM := iD (HM.out.put hlt hx 4 (.int .i64 (10 + v2)))
  go_upto_region 10 with (fail)
  clear c0 f0
  generalize World.setCell w3 _ _ = X2 at *
  have HM : Hid (MsM w g x #[.slice An nn cn, .slice Ad nd cd] #[.int .i64 4, .int .i64 v1, .int .i64 0, .int .i64 0, .int .i64 (10 + v2)] X2) := HM.out
  have s0 := HM.out.bx.c0
  have s1 := HM.out.bx.c1
  have s2 := HM.out.bx.c2
  have s3 := HM.out.bx.c3
  have s4 := HM.out.bx.c4
  have d0 := HM.out.b1.c0
  have y50 := HM.out.b1.frozen 0
  have d1 := HM.out.b1.c1
  have y51 := HM.out.b1.frozen 1
  have d2 := HM.out.b1.c2
  have y52 := HM.out.b1.frozen 2
  have d3 := HM.out.b1.c3
  have y53 := HM.out.b1.frozen 3
  have d4 := HM.out.b1.c4
  have y54 := HM.out.b1.frozen 4
  have HF := iD (HM.out.fin hlt)
  unfold uX at HF
  go_wp2_with fail
  generalize World.setCell (World.setCell (World.setCell (World.setCell (World.setCell X2 _ _) _ _) _ _) _ _) _ _ = z at *
  have q0 := HF.out.1.c0
  have q1 := HF.out.1.c1
  have q2 := HF.out.1.c2
  have q3 := HF.out.1.c3
  have q4 := HF.out.1.c4
  exact bodyPost_ret (v := .agg #[.int .i64 4, .int .i64 v1, .int .i64 0, .int .i64 0, .int .i64 (10 + v2)]) (by simp [results, Tryz.results18, go_sem, q0, q1, q2, q3, q4]) rfl ⟨_, _, _, _, _, rfl, by unfold Hid; rw [fC, if_neg (by omega), if_neg (by omega), if_neg (by omega)], HF.out.2.1, HF.out.2.2⟩
 ·clear hv0 hvn
  go_upto_region 2 with (fail)
  have HM : Hid (MsM w g w1.heap.size #[.slice An nn cn, .slice Ad nd cd] #[.int .i64 5, .int .i64 0, .int .i64 0, .int .i64 0, .int .i64 0] (w1.alloc (.cells #[.int .i64 5, .int .i64 0, .int .i64 0, .int .i64 0, .int .i64 0] 43))) := ⟨HC0.out.alloc _, HC1.out.alloc _, Blk.new _ _ _, HDK.out.alloc _, zM HG1.out (zL ((Below.refl _ _).alloc lR _) _)⟩
  clear HC0 HC1 HDK HG1
  generalize World.alloc w1 _ = V at *
  obtain ⟨x, hxx⟩ : ∃ x, x = w1.heap.size := ⟨_, rfl⟩
  rw [← hxx] at HM hx ⊢
  clear hxx
  have b0 := HM.out.b0.c0
  have b1 := HM.out.b0.c1
  have s0 := HM.out.bx.c0
  go_wp2_with fail
  clear b0 b1 s0
  refine (zS g (nn : Int) V HM.out.dk (by omega)).mono ?_
  rintro e w2 ⟨v1, rfl, h01, _, hv1, hd1, hg1, hs1⟩
  have h11 := hv1.out (by omega)
  have HM := iD (HM.out.grown hg1.out hd1.out hlt hx)
  clear hv1 hd1 hg1 hs1
  have c0 := HM.out.bx.c2
  have f0 := HM.out.bx.frozen 2
  have HM := iD (HM.out.put hlt hx 2 (.int .i64 v1))
  go_upto_region 4 with (fail)
  clear c0 f0
  generalize World.setCell w2 _ _ = X1 at *
  have HM : Hid (MsM w g x #[.slice An nn cn, .slice Ad nd cd] #[.int .i64 5, .int .i64 0, .int .i64 v1, .int .i64 0, .int .i64 0] X1) := HM.out
  have s0 := HM.out.bx.c0
  have s1 := HM.out.bx.c1
  have s2 := HM.out.bx.c2
  have s3 := HM.out.bx.c3
  have s4 := HM.out.bx.c4
  have d0 := HM.out.b1.c0
  have y50 := HM.out.b1.frozen 0
  have d1 := HM.out.b1.c1
  have y51 := HM.out.b1.frozen 1
  have d2 := HM.out.b1.c2
  have y52 := HM.out.b1.frozen 2
  have d3 := HM.out.b1.c3
  have y53 := HM.out.b1.frozen 3
  have d4 := HM.out.b1.c4
  have y54 := HM.out.b1.frozen 4
  have HF := iD (HM.out.fin hlt)
  unfold uX at HF
  go_wp2_with fail
  generalize World.setCell (World.setCell (World.setCell (World.setCell (World.setCell X1 _ _) _ _) _ _) _ _) _ _ = z at *
  have q0 := HF.out.1.c0
  have q1 := HF.out.1.c1
  have q2 := HF.out.1.c2
  have q3 := HF.out.1.c3
  have q4 := HF.out.1.c4
  exact bodyPost_ret (v := .agg #[.int .i64 5, .int .i64 0, .int .i64 v1, .int .i64 0, .int .i64 0]) (by simp [results, Tryz.results18, go_sem, q0, q1, q2, q3, q4]) rfl ⟨_, _, _, _, _, rfl, by unfold Hid; rw [fB, if_neg (by omega), if_neg (by omega)], HF.out.2.1, HF.out.2.2⟩
 ·clear hv0 hvn
  go_upto_region 2 with (fail)
  have HM : Hid (MsM w g w1.heap.size #[.slice An nn cn, .slice Ad nd cd] #[.int .i64 6, .int .i64 0, .int .i64 0, .int .i64 0, .int .i64 0] (w1.alloc (.cells #[.int .i64 6, .int .i64 0, .int .i64 0, .int .i64 0, .int .i64 0] 43))) := ⟨HC0.out.alloc _, HC1.out.alloc _, Blk.new _ _ _, HDK.out.alloc _, zM HG1.out (zL ((Below.refl _ _).alloc lR _) _)⟩
  clear HC0 HC1 HDK HG1
  generalize World.alloc w1 _ = V at *
  obtain ⟨x, hxx⟩ : ∃ x, x = w1.heap.size := ⟨_, rfl⟩
  rw [← hxx] at HM hx ⊢
  clear hxx
  have b0 := HM.out.b0.c0
  have b1 := HM.out.b0.c1
  have s0 := HM.out.bx.c0
  go_wp2_with fail
  clear b0 b1 s0
  refine (zS g (nd : Int) V HM.out.dk (by omega)).mono ?_
  rintro e w2 ⟨v1, rfl, h01, _, hv1, hd1, hg1, hs1⟩
  have h11 := hv1.out (by omega)
  have HM := iD (HM.out.grown hg1.out hd1.out hlt hx)
  clear hv1 hd1 hg1 hs1
  have c0 := HM.out.bx.c1
  have f0 := HM.out.bx.frozen 1
  have HM := iD (HM.out.put hlt hx 1 (.int .i64 v1))
  go_upto_region 6 with (fail)
  clear c0 f0
  generalize World.setCell w2 _ _ = X1 at *
  have HM : Hid (MsM w g x #[.slice An nn cn, .slice Ad nd cd] #[.int .i64 6, .int .i64 v1, .int .i64 0, .int .i64 0, .int .i64 0] X1) := HM.out
  have b0 := HM.out.b0.c0
  have b1 := HM.out.b0.c1
  have s0 := HM.out.bx.c0
  go_wp2_with fail
  clear b0 b1 s0
  refine (zS g 2 X1 HM.out.dk (by omega)).mono ?_
  rintro e w3 ⟨v2, rfl, h02, _, hv1, hd1, hg1, hs1⟩
  have h12 := hv1.out (by omega)
  have HM := iD (HM.out.grown hg1.out hd1.out hlt hx)
  clear hv1 hd1 hg1 hs1
  have c0 := HM.out.bx.c3
  have f0 := HM.out.bx.frozen 3
  have HM := iD (HM.out.put hlt hx 3 (.int .i64 (1 + v2)))
  go_upto_region 8 with (fail)
  clear c0 f0
  generalize World.setCell w3 _ _ = X2 at *
  have HM : Hid (MsM w g x #[.slice An nn cn, .slice Ad nd cd] #[.int .i64 6, .int .i64 v1, .int .i64 0, .int .i64 (1 + v2), .int .i64 0] X2) := HM.out
  have s0 := HM.out.bx.c0
  have s1 := HM.out.bx.c1
  have s2 := HM.out.bx.c2
  have s3 := HM.out.bx.c3
  have s4 := HM.out.bx.c4
  have d0 := HM.out.b1.c0
  have y50 := HM.out.b1.frozen 0
  have d1 := HM.out.b1.c1
  have y51 := HM.out.b1.frozen 1
  have d2 := HM.out.b1.c2
  have y52 := HM.out.b1.frozen 2
  have d3 := HM.out.b1.c3
  have y53 := HM.out.b1.frozen 3
  have d4 := HM.out.b1.c4
  have y54 := HM.out.b1.frozen 4
  have HF := iD (HM.out.fin hlt)
  unfold uX at HF
  go_wp2_with fail
  generalize World.setCell (World.setCell (World.setCell (World.setCell (World.setCell X2 _ _) _ _) _ _) _ _) _ _ = z at *
  have q0 := HF.out.1.c0
  have q1 := HF.out.1.c1
  have q2 := HF.out.1.c2
  have q3 := HF.out.1.c3
  have q4 := HF.out.1.c4
  exact bodyPost_ret (v := .agg #[.int .i64 6, .int .i64 v1, .int .i64 0, .int .i64 (1 + v2), .int .i64 0]) (by simp [results, Tryz.results18, go_sem, q0, q1, q2, q3, q4]) rfl ⟨_, _, _, _, _, rfl, by unfold Hid; rw [gz, if_neg (by omega), if_neg (by omega), if_neg (by omega)], HF.out.2.1, HF.out.2.2⟩
end
section
open Go.RowKit
theorem ib : yg Tryz.prog 39 43 5 40 := yg.mk' (z := .agg #[.int .i64 0, .int .i64 0, .int .i64 0, .int .i64 0, .int .i64 0]) Tryz.underlying39 (by kernel_rfl) rfl (by decide)
def tI (w : World) (base : Nat) (A : Option Addr) (n c : Nat) (xs : List Sp) : Prop := w.ownsRow base 43 5 (.slice A n c) n (xs.flatMap Sp.cells)
theorem tI.len {w : World} {base : Nat} {A : Option Addr} {n c : Nat} {xs : List Sp} (h : tI w base A n c xs) : xs.length = n := (Sl.of_own h).len (fun _ => rfl) (by decide)
structure MpM (w : World) (g x : Nat) (nt : Array Value) (nm : ByteArray) (A : Option Addr) (n c : Nat) (xs : List Sp) (wr : World) : Prop where
 b0 : Blk wr w.heap.size 30 nt
 b1 : Blk wr (w.heap.size + 1) 41 #[.string ⟨#[]⟩, .slice none 0 0]
 bx : Blk wr x 41 #[.string nm, .slice A n c]
 dk : zP wr g
 gr : w.grownBy wr (some g)
 o : wr.ownsRow (x + 1) 43 5 (.slice A n c) n (xs.flatMap Sp.cells)
 hx : w.heap.size + 1 < x
section
variable {w wr wr' : World} {g x : Nat} {nt : Array Value} {nm : ByteArray} {A A' : Option Addr} {n c c' : Nat} {xs : List Sp} {f : Sp}
theorem MpM.grown (h : MpM w g x nt nm A n c xs wr) (hg : wr.grownBy wr' (some g)) (hd : zP wr' g) (h0 : g < w.heap.size) : MpM w g x nt nm A n c xs wr' :=
 have := h.hx
 ⟨h.b0.grown hg (fun e => by injection e with e; omega), h.b1.grown hg (fun e => by injection e with e; omega), h.bx.grown hg (fun e => by injection e with e; omega), hd, zM h.gr hg, h.o.kept hg (zk fun b e => by have := (h.o.lt b e).1; omega), h.hx⟩
theorem MpM.later (h : MpM w g x nt nm A n c xs wr) (hb : Below wr.heap.size wr wr') : MpM w g x nt nm A n c xs wr' :=
 ⟨h.b0.below hb h.b0.lt, h.b1.below hb h.b1.lt, h.bx.below hb h.bx.lt, h.dk.below hb h.dk.lt, wn h.gr (hb.mono h.gr.size), zt h.o hb, h.hx⟩
theorem MpM.drw (h : MpM w g x nt nm A n c xs wr) : MpM w g x nt nm A n c xs wr.drew := h.later (Below.refl _ wr).drew
theorem MpM.app (h : MpM w g x nt nm A n c xs wr) (hg : wr.grownBy wr' (Value.slice A n c).ownBlock) (hr : wr'.ownsRow (x + 1) 43 5 (.slice A' (n + 1) c') (n + 1) (xs.flatMap Sp.cells ++ f.cells)) (h0 : g < w.heap.size) :
 Blk wr' x 41 #[.string nm, .slice A n c] ∧ Blk wr' w.heap.size 30 nt ∧ MpM w g x nt nm A' (n + 1) c' (xs ++ [f]) (wr'.setCell ⟨x, 1, none⟩ (.slice A' (n + 1) c')) := by
 have hx := h.hx
 have nb : ∀ {b : Nat}, b ≤ x → some b ≠ (Value.slice A n c).ownBlock := fun {b} hb e => by have := (h.o.lt b e.symm).1; omega
 have hB : Below w.heap.size w w := Below.refl _ _
 refine ⟨h.bx.grown hg (nb lR), h.b0.grown hg (nb (by omega)), (h.b0.grown hg (nb (by omega))).far (by show w.heap.size ≠ x; omega) _, (h.b1.grown hg (nb (by omega))).far (by show w.heap.size + 1 ≠ x; omega) _, (h.bx.grown hg (nb lR)).set 1 _, ?_, ?_, ?_, hx⟩
 ·exact (h.dk.grown hg (fun k e => by have := (h.o.lt k e).1; omega)).setCell (p := ⟨x, 1, none⟩) (by show g < x; omega) _
 ·have hb : Below w.heap.size wr wr' := ⟨hg.os, hg.tape, hg.output, hg.size, fun i hi => hg.block i (Nat.lt_of_lt_of_le hi h.gr.size) (nb (by omega))⟩
  exact wn h.gr (hb.setCell (by show w.heap.size ≤ x; omega) _)
 ·rw [List.flatMap_append, List.flatMap_cons, List.flatMap_nil, List.append_nil]
  exact hr.kept (ze _ _ _) (zk fun b e => by have := (hr.lt b e).1; simp; omega)
theorem MpM.fin (h : MpM w g x nt nm A n c xs wr) (h0 : g < w.heap.size) : tI ((wr.setCell ⟨w.heap.size + 1, 0, none⟩ (.string nm)).setCell ⟨w.heap.size + 1, 1, none⟩ (.slice A n c)) w.heap.size A n c xs ∧ zP ((wr.setCell ⟨w.heap.size + 1, 0, none⟩ (.string nm)).setCell ⟨w.heap.size + 1, 1, none⟩ (.slice A n c)) g ∧ w.grownBy ((wr.setCell ⟨w.heap.size + 1, 0, none⟩ (.string nm)).setCell ⟨w.heap.size + 1, 1, none⟩ (.slice A n c)) (some g) := by
 have hx := h.hx
 exact ⟨(wi (wi h.o (by omega)) (by omega)).mono (by omega), (h.dk.setCell (p := ⟨w.heap.size + 1, 0, none⟩) (by simp; omega) _).setCell (p := ⟨w.heap.size + 1, 1, none⟩) (by simp; omega) _, zg (zg h.gr (p := ⟨w.heap.size + 1, 0, none⟩) (by simp) _) (p := ⟨w.heap.size + 1, 1, none⟩) (by simp) _⟩
end
def iw (w : World) (g nn nd most : Nat) (e : Ending) (w' : World) : Prop := ∃ (nm : ByteArray) (A : Option Addr) (n c : Nat) (xs : List Sp), e = .returned (.agg #[.string nm, .slice A n c]) ∧ Hid (yl (toL nm) = true) ∧ Hid (zo nn nd xs = 0 ∧ xs.length = n ∧ n ≤ most) ∧ Hid (tI w' w.heap.size A n c xs) ∧ Hid (zP w' g) ∧ Hid (w.grownBy w' (some g))
theorem qx {nn nd : Nat} {f : Sp} : ∀ {xs : List Sp}, zo nn nd xs = 0 → zT nn nd f = 0 → zo nn nd (xs ++ [f]) = 0
 | [], _, h => by rw [List.nil_append, zo, if_neg (by omega)]; rfl
 | x :: xs, h, hf => by
  rw [zo] at h
  split at h
  ·next h1 => exact absurd h h1
  ·next h1 => rw [List.cons_append, zo, if_neg h1]; exact qx h hf
def MpR (w : World) (g x : Nat) (An Ad : Option Addr) (nn cn nd cd most : Nat) (nm : ByteArray) (gk : Nat) (kv : Value) (wr : World) : Prop :=
 ∃ (k n c : Nat) (A : Option Addr) (xs : List Sp), kv = .int .i64 (k : Int) ∧ gk = k ∧ n + k ≤ most ∧ Hid (MpM w g x #[.slice An nn cn, .slice Ad nd cd] nm A n c xs wr) ∧ Hid (zo nn nd xs = 0)
theorem nB (g : Nat) (An Ad : Option Addr) (nn cn nd cd most : Nat) (w : World) (hd : zP w g) (hnn : 0 < nn) (hnn1 : nn ≤ 1000) (hnd : 0 < nd) (hnd1 : nd ≤ 1000) (hmo : most ≤ 1000) :
 Calls Tryz.prog 28 #[.pointer (some ⟨g, 0, none⟩), .agg #[.slice An nn cn, .slice Ad nd cd], .int .i64 (most : Int)] w (iw w g nn nd most) := by
 have hlt := hd.lt
 have HB0 := iD ((Blk.new w 30 #[.slice An nn cn, .slice Ad nd cd]).alloc (.cells #[.string ⟨#[]⟩, .slice none 0 0] 41))
 have HB1 : Hid (Blk ((w.alloc (.cells #[.slice An nn cn, .slice Ad nd cd] 30)).alloc (.cells #[.string ⟨#[]⟩, .slice none 0 0] 41)) (w.heap.size + 1) 41 #[.string ⟨#[]⟩, .slice none 0 0]) := by
  have := Blk.new (w.alloc (.cells #[.slice An nn cn, .slice Ad nd cd] 30)) 41 #[.string ⟨#[]⟩, .slice none 0 0]
  unfold Hid; simpa using this
 have HBL : Hid (Below w.heap.size w ((w.alloc (.cells #[.slice An nn cn, .slice Ad nd cd] 30)).alloc (.cells #[.string ⟨#[]⟩, .slice none 0 0] 41))) := ((Below.refl _ _).alloc lR _).alloc (by simp) _
 have HD0 := iD ((hd.alloc (.cells #[.slice An nn cn, .slice Ad nd cd] 30)).alloc (.cells #[.string ⟨#[]⟩, .slice none 0 0] 41))
 clear hd
 go_enter Tryz.func28, Tryz.ntmps28
 go_upto_region 1 with (fail)
 generalize World.alloc (World.alloc w _) _ = W at *
 go_wp2_with fail
 refine (zS g 50 W HD0.out (by decide)).mono ?_
 rintro e w1 ⟨r, rfl, hv0, _, hv1, hd1, hg1, hs1⟩
 have hvn := hv1.out (by decide)
 obtain ⟨r, rfl⟩ := Int.eq_ofNat_of_zero_le hv0
 have HG1 := iD (zM (zL HBL.out (some g)) hg1.out)
 have HC0 := iD (HB0.out.grown hg1.out (fun e => by injection e with e; omega))
 have HC1 := iD (HB1.out.grown hg1.out (fun e => by injection e with e; omega))
 have HDK := iD hd1.out
 clear hv1 hd1 hg1 hs1 HB0 HB1 HBL HD0
 go_wp2_with fail
 refine (xq ⟨#[80]⟩ r w1 (by decide) (by omega)).mono ?_
 rintro e w2 ⟨rfl, hb2⟩
 obtain ⟨nm, hnm⟩ : ∃ nm, nm = mkS (nm2 (toL ⟨#[80]⟩) r) := ⟨_, rfl⟩
 rw [← hnm]
 have HNM : Hid (yl (toL nm) = true) := by unfold Hid; rw [hnm, wb]; exact sK 80 r (by decide) (by omega)
 have HX : Hid (w.heap.size + 1 < w2.heap.size) := by have := HC1.out.lt; have := hb2.size; unfold Hid; omega
 have HM : Hid (MpM w g w2.heap.size #[.slice An nn cn, .slice Ad nd cd] nm none 0 0 [] (w2.alloc (.cells #[.string nm, .slice none 0 0] 41))) :=
  ⟨(HC0.out.below hb2 HC0.out.lt).alloc _, (HC1.out.below hb2 HC1.out.lt).alloc _, Blk.new _ _ _, (HDK.out.below hb2 HDK.out.lt).alloc _, wn HG1.out ((hb2.mono HG1.out.size).alloc (Nat.le_trans HG1.out.size hb2.size) _), World.ownsRow_nil _ _ _ _, HX.out⟩
 clear hnm hb2 HC0 HC1 HDK HG1
 go_upto_region 2 with (fail)
 generalize World.alloc w2 _ = V at *
 obtain ⟨x, hxx⟩ : ∃ x, x = w2.heap.size := ⟨_, rfl⟩
 rw [← hxx] at HM HX ⊢
 clear hxx HX
 have hwr : IntKind.i64.wrap ((most : Int) + 1) = (most : Int) + 1 := IntWalk.i64_in _ (by omega)
 go_wp2_with fail
 refine (zS g ((most : Int) + 1) V HM.out.dk (by omega)).mono ?_
 rintro e w3 ⟨k, rfl, hk0, _, hk1, hd3, hg3, hs3⟩
 have hkn := hk1.out (by omega)
 obtain ⟨k, rfl⟩ := Int.eq_ofNat_of_zero_le hk0
 have HMV := iD (HM.out.grown hg3.out hd3.out hlt)
 clear hk1 hd3 hg3 hs3 hwr HM V
 go_upto_region 3 with (fail)
 refine zv [(7, 0), (0, 2), (7, 0), (11, 1), (0, 0)] 8 (k) (MpR w g x An Ad nn cn nd cd most nm) (by (try dsimp only [gt]); exact ⟨k, 0, 0, none, [], rfl, rfl, by omega, HMV, rfl⟩) (by kernel_rfl) ?_
 intro u1 p8 gk wr a hrel ha J1 K1 hJ1 hK1
 dsimp only [zZ, Go.Proofs.YtkkobemhbicjgaaGreatDoor.v1, Nat.reduceAdd] at ha
 subst ha
 clear HMV hkn hk0
 obtain ⟨k', n, c, A, xs, rfl, rfl, hk, HM, HSX⟩ := hrel
 by_cases hlt2 : 0 < gk; rotate_left
 ·obtain rfl : gk = 0 := by omega
  go_upto_region 6 with (fail)
  have c0 := HM.out.bx.cell 0
  have c1 := HM.out.bx.cell 1
  have d0 := HM.out.b1.cell 0
  have d1 := HM.out.b1.cell 1
  have y0 := HM.out.b1.frozen 0
  have y1 := HM.out.b1.frozen 1
  have HF : Hid (Blk ((wr.setCell ⟨w.heap.size + 1, 0, none⟩ (.string nm)).setCell ⟨w.heap.size + 1, 1, none⟩ (.slice A n c)) (w.heap.size + 1) 41 #[.string nm, .slice A n c]) := (HM.out.b1.set 0 _).set 1 _
  have HE : Hid (tI ((wr.setCell ⟨w.heap.size + 1, 0, none⟩ (.string nm)).setCell ⟨w.heap.size + 1, 1, none⟩ (.slice A n c)) w.heap.size A n c xs ∧ zP ((wr.setCell ⟨w.heap.size + 1, 0, none⟩ (.string nm)).setCell ⟨w.heap.size + 1, 1, none⟩ (.slice A n c)) g ∧ w.grownBy ((wr.setCell ⟨w.heap.size + 1, 0, none⟩ (.string nm)).setCell ⟨w.heap.size + 1, 1, none⟩ (.slice A n c)) (some g)) := HM.out.fin hlt
  go_wp2_with fail
  clear c0 c1 d0 d1 y0 y1
  generalize World.setCell (World.setCell wr _ _) _ _ = z at *
  have q0 := HF.out.c0
  have q1 := HF.out.c1
  exact bodyPost_ret (v := .agg #[.string nm, .slice A n c]) (by simp [results, Tryz.results28, go_sem, q0, q1]) rfl ⟨nm, A, n, c, xs, rfl, HNM, ⟨HSX.out, tI.len HE.out.1, by omega⟩, HE.out.1, HE.out.2.1, HE.out.2.2⟩
 have q1 : decide ((gk : Int) > 0) = true := by simpa using hlt2
 have q2 : decide (0 < (gk : Int)) = true := by simpa using hlt2
 go_upto_region 5 with (fail)
 clear q1 q2
 have hfz := HM.out.bx.frozen 1
 refine zC (S := fun W' => W'.cell? ⟨x, 1, none⟩ = some (.slice A n c) ∧ W'.cell? ⟨w.heap.size, 0, none⟩ = some (.slice An nn cn) ∧ W'.cell? ⟨w.heap.size, 1, none⟩ = some (.slice Ad nd cd)) (J := [8]) (by kernel_rfl) ?_ (fun AA => ?_)
 ·exact ⟨HM.out.bx.cell 1, HM.out.b0.cell 0, HM.out.b0.cell 1⟩
 try dsimp only at AA
 refine tk 0 21 (mf 9 1) AA ?_
 refine tk 2 23 (ma 9 5) AA ?_
 refine tx 1 22 ?_ (mf 9 3) ?_ AA ?_
 rotate_left
 ·(intro w hSw; (try dsimp only at hSw); have u0 := hSw.1; go_simp; try with_reducible rfl)
 try simp only [Act.put, sA, sB, sC]
 refine tx 3 24 ?_ (mf 9 4) ?_ AA ?_
 rotate_left
 ·(intro w hSw; (try dsimp only at hSw); have u0 := hSw.2.1; have u1 := hSw.2.2; go_simp; try with_reducible rfl)
 try simp only [Act.put, sA, sB, sC]
 refine tb 4 (mf 9 5) fun K hK => ?_
 (go_simp; refine (nA g An Ad nn cn nd cd wr.drew HM.out.drw.dk (by omega) (by omega) (by omega) (by omega)).mono ?_; rintro e w3 ⟨k, d, no, p, q, rfl, hsp, hd3, hg3⟩; have HM3 := iD (HM.out.drw.grown hg3.out hd3.out hlt); have HSP := iD hsp.out; clear hd3 hg3 hsp; go_simp)
 refine hK.out _ _ (fun _ => ?_) (fun AA' => ?_)
 ·exact ⟨HM3.out.bx.cell 1, HM3.out.b0.cell 0, HM3.out.b0.cell 1⟩
 replace AA := AA' rfl
 clear AA' hK K
 try dsimp only at AA
 refine tb 5 (mf 9 6) fun K hK => ?_
 (go_simp)
 refine hK.out _ _ (fun _ => ?_) (fun AA' => ?_)
 ·exact ⟨(HM3.out.later ((Below.refl _ w3).alloc lR (.cells #[.int .i64 k, .int .i64 d, .int .i64 no, .int .i64 p, .int .i64 q] 43))).bx.cell 1, (HM3.out.later ((Below.refl _ w3).alloc lR (.cells #[.int .i64 k, .int .i64 d, .int .i64 no, .int .i64 p, .int .i64 q] 43))).b0.cell 0, (HM3.out.later ((Below.refl _ w3).alloc lR (.cells #[.int .i64 k, .int .i64 d, .int .i64 no, .int .i64 p, .int .i64 q] 43))).b0.cell 1⟩
 replace AA := AA' rfl
 clear AA' hK K
 try dsimp only at AA
 refine tb 6 (mf 9 7) fun K hK => ?_
 (refine uE (d := some 27) (by rfl) (by rfl) (.tmp 22) (.tmp 26) (by rfl) ib (by rfl) (HM3.out.later ((Below.refl _ w3).alloc lR (.cells #[.int .i64 k, .int .i64 d, .int .i64 no, .int .i64 p, .int .i64 q] 43))).o (by rfl) (Sl.newest (n := 1) rfl rfl (by decide)) (by simp [Value.oneCell']) (by omega) (by omega) (by have := (HM3.out.bx).lt; simp; omega) ?_; intro A' c' w7 hown7 hgr7 hat7; have HM7 := iD (MpM.app (f := ⟨k, d, no, p, q⟩) (HM3.out.later ((Below.refl _ w3).alloc lR (.cells #[.int .i64 k, .int .i64 d, .int .i64 no, .int .i64 p, .int .i64 q] 43))) hgr7 hown7 hlt); have q0 := HM7.out.1.cell 1; have q1 := HM7.out.1.frozen 1; clear hown7 hgr7 hat7)
 refine hK.out _ _ (fun _ => ?_) (fun AA' => ?_)
 ·exact ⟨HM7.out.1.cell 1, HM7.out.2.1.cell 0, HM7.out.2.1.cell 1⟩
 replace AA := AA' rfl
 clear AA' hK K
 try dsimp only at AA
 refine tk 7 28 (mf 9 8) AA ?_
 refine tb 8 (mf 9 9) fun K hK => ?_
 go_simp
 refine hK.out _ _ (fun h => by cases h) (fun _ => ?_)
 try clear AA
 clear hK K
 refine zA (by kernel_rfl) ?_ _
 have HM8 := iD HM7.out.2.2
 have HS8 := iD (qx HSX.out HSP.out)
 clear HM7 q0 q1 HM3 HM HSX HSP
 generalize World.setCell w7 _ _ = w8 at *
 go_wp2_with fail
 refine Handed.intro (gk - 1) (by omega) (hJ1 _ _ _ (yw.back 8 ?_ (by kernel_rfl)))
 dsimp only [gt]
 exact ⟨gk - 1, n + 1, c', A', xs ++ [⟨k, d, no, p, q⟩], by go_num, rfl, by omega, HM8, HS8⟩
end
section
open Go.RowKit
structure LmM (w : World) (nb gb pb : Nat) (An Ad As Al Ap Ax : Option Addr) (nn cn nd cd cs nl cl np cp nx cx : Nat) (ns : List Nd) (ds : List Dv) (m : List Int) (ls : List Lk) (pr : List Int) (co : Int) (nm : ByteArray) (xs : List Sp) (wr : World) : Prop where
 n : LwN w nb An nn cn ns Ad nd cd ds wr
 s : Sl wr wr.heap.size 1 As nd cs (zD m)
 g : Blk wr gb 37 #[.int .i64 co, .slice Al nl cl, .slice Ap np cp]
 l : Sl wr wr.heap.size 3 Al nl cl (ls.flatMap Lk.cells)
 r : Sl wr wr.heap.size 1 Ap np cp (zD pr)
 p : Blk wr pb 41 #[.string nm, .slice Ax nx cx]
 x : Sl wr wr.heap.size 5 Ax nx cx (xs.flatMap Sp.cells)
section
variable {w wr wr' : World} {nb gb pb rb : Nat} {An Ad As Al Ap Ax : Option Addr} {nn cn nd cd cs nl cl np cp nx cx : Nat} {ns : List Nd} {ds : List Dv} {m : List Int} {ls : List Lk} {pr : List Int} {co : Int} {nm : ByteArray} {xs : List Sp}
theorem LmM.later (h : LmM w nb gb pb An Ad As Al Ap Ax nn cn nd cd cs nl cl np cp nx cx ns ds m ls pr co nm xs wr) (hb : Below wr.heap.size wr wr') : LmM w nb gb pb An Ad As Al Ap Ax nn cn nd cd cs nl cl np cp nx cx ns ds m ls pr co nm xs wr' :=
 ⟨h.n.later hb, (h.s.below hb lR).more hb.size, h.g.below hb h.g.lt, (h.l.below hb lR).more hb.size, (h.r.below hb lR).more hb.size, h.p.below hb h.p.lt, (h.x.below hb lR).more hb.size⟩
theorem LmM.mem {A : Option Addr} {n c : Nat} {s : List Int} (h : LmM w nb gb pb An Ad As Al Ap Ax nn cn nd cd cs nl cl np cp nx cx ns ds m ls pr co nm xs wr) (hn : (∀ x ∈ ns, x.name.size ≤ 9223372036854775807) ∧ ∀ x ∈ ds, x.name.size ≤ 9223372036854775807) (hm : nm.size ≤ 9223372036854775807) (hs : Sl wr wr.heap.size 1 A n c (zD s)) :
 uB wr An Ad A Al Ap Ax nn cn nd cd n c nl cl np cp nx cx ns ds s ls pr nm xs :=
 ⟨⟨h.n.hn.1, h.n.hd.1, hs, h.l, h.r, h.n.la, hn.1, hn.2⟩, h.x, hm⟩
structure LmW (w : World) (nb gb pb rb : Nat) (An Ad As Al Ap Ax : Option Addr) (nn cn nd cd cs nl cl np cp nx cx : Nat) (ns : List Nd) (ds : List Dv) (m : List Int) (ls : List Lk) (pr : List Int) (co : Int) (nm : ByteArray) (xs : List Sp) (A1 A2 A3 A4 : Option Addr) (n1 c1 n2 c2 n3 c3 n4 c4 : Nat) (o : List Fn) (t : Sm) (wr : World) : Prop where
 z : LmM w nb gb pb An Ad As Al Ap Ax nn cn nd cd cs nl cl np cp nx cx ns ds m ls pr co nm xs wr
 b : Blk wr rb 47 #[.slice A1 n1 c1, .slice A2 n2 c2, .int .i64 co, .slice A3 n3 c3, .slice A4 n4 c4]
 o : vG wr A1 A2 A3 A4 n1 c1 n2 c2 n3 c3 n4 c4 o t
theorem LmW.later {A1 A2 A3 A4 : Option Addr} {n1 c1 n2 c2 n3 c3 n4 c4 : Nat} {o : List Fn} {t : Sm} (h : LmW w nb gb pb rb An Ad As Al Ap Ax nn cn nd cd cs nl cl np cp nx cx ns ds m ls pr co nm xs A1 A2 A3 A4 n1 c1 n2 c2 n3 c3 n4 c4 o t wr) (hb : Below wr.heap.size wr wr') :
 LmW w nb gb pb rb An Ad As Al Ap Ax nn cn nd cd cs nl cl np cp nx cx ns ds m ls pr co nm xs A1 A2 A3 A4 n1 c1 n2 c2 n3 c3 n4 c4 o t wr' :=
 ⟨h.z.later hb, h.b.below hb h.b.lt, h.o.later8 hb⟩
end
theorem ik {α : Type} {fs : List α} {i : Nat} {x : α} {p : α → Bool} (h : fs[i]? = some x) : (fs.take (i + 1)).any p = ((fs.take i).any p || p x) := by rw [zQ h]; simp
theorem kL {ns : List Nd} {ds : List Dv} {s : List Int} {co : Int} {ls : List Lk} {pr : List Int} {nm : ByteArray} {xs : List Sp} (hs : zN ns ds s = 0) (hc : za ns ds = 0) (hco : 0 ≤ co ∧ co ≤ 7) (hg : xK ds ls) (hp : yi ns.length (-1) pr = true) (hn : yl (toL nm) = true) (hl : xs.length ≤ 64) (hx : zo ns.length ds.length xs = 0) : xp ns ds s co ls pr nm xs = 0 := by
 have h1 : zy ns ds co ls pr = 0 := by
  unfold zy; rw [if_neg (by omega), if_neg (by rw [xo hc hg]; simp), if_neg (by simp [hp])]
 have h2 : yf ns ds nm xs = 0 := by
  unfold yf; rw [if_neg (by simp [hc]), if_neg (by simp [hn]), if_neg (by omega)]; exact hx
 unfold xp; rw [if_neg (by simp [hs]), if_neg (by simp [h1]), h2]
theorem oD {ns : List Nd} {ds : List Dv} {co : Int} (hd : ds.length ≤ 8) : ∀ (xs : List Sp) (i : Nat) (out : List Fn) (t : Sm), wX ns ds t → (∀ x ∈ xs, zT ns.length ds.length x = 0) → wX ns ds (zf ns ds co i out t xs).t
 | [], _, _, _, hc, _ => hc
 | x :: r, i, out, t, hc, hx => by
  rw [zf, if_neg (by simp [nS hd hc])]
  split
  ·exact vo hc (hx x (by simp))
  ·exact oD hd r _ _ _ (vo hc (hx x (by simp))) fun y hy => hx y (List.mem_cons_of_mem _ hy)
def FdR (M : World → Prop) (n gk : Nat) (iv : Value) (wr : World) : Prop := ∃ i : Nat, iv = .int .i64 i ∧ i ≤ n ∧ gk = n - i ∧ Hid (M wr)
def FdH {α : Type} (M : World → Prop) (U : Bool) (fs : List α) (p : α → Bool) (n gk : Nat) (iv hv : Value) (wr : World) : Prop := ∃ i : Nat, iv = .int .i64 i ∧ i ≤ n ∧ gk = n - i ∧ hv = .bool (U || (fs.take i).any p) ∧ Hid (M wr)
theorem gf {p : Prop} {h : Decidable p} (hp : p) : @decide p h = true := decide_eq_true hp
end
end Go.Proofs.YtkkobemhbicjgaaGreatDoor
