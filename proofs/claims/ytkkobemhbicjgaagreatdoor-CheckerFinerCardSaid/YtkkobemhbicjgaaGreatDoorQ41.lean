import Derived.Test.YtkkobemhbicjgaaGreatDoorQ40
import Derived.Test.YtkkobemhbicjgaaGreatDoorQ26
import Derived.Test.YtkkobemhbicjgaaGreatDoorQ31
import Derived.Test.YtkkobemhbicjgaaGreatDoorQ10
import Derived.Test.YtkkobemhbicjgaaGreatDoorQ39
import Derived.Test.YtkkobemhbicjgaaGreatDoorQ21
import Derived.Test.YtkkobemhbicjgaaGreatDoorQ30
import Derived.Test.YtkkobemhbicjgaaGreatDoorQ20
import Derived.Test.YtkkobemhbicjgaaGreatDoorQ24
import Derived.Test.YtkkobemhbicjgaaGreatDoorQ03
import Derived.Test.YtkkobemhbicjgaaGreatDoorQ22
set_option maxRecDepth 100000
set_option maxHeartbeats 16000000
namespace Go.Proofs.YtkkobemhbicjgaaGreatDoor
open Go.RowKit
def FaIn (C : List Int) (v : Nat) (out : List Int) : Prop := out.length ≤ v ∧ ∀ x : Int, x ∈ out ↔ ∃ k : Nat, k < v ∧ x = k ∧ C.getD k 0 = 3
theorem FaIn.start (C : List Int) : FaIn C 0 [] := ⟨Nat.le_refl _, fun x => ⟨(fun h => by cases h), (fun ⟨k, hk, _⟩ => by omega)⟩⟩
theorem FaIn.pass {C out : List Int} {v : Nat} (h : FaIn C v out) (hn : C.getD v 0 ≠ 3) : FaIn C (v + 1) out := by
 refine ⟨by have := h.1; omega, fun x => (h.2 x).trans ⟨?_, ?_⟩⟩
 ·rintro ⟨k, hk, r⟩; exact ⟨k, by omega, r⟩
 ·rintro ⟨k, hk, e, hc⟩
  rcases Nat.lt_succ_iff_lt_or_eq.1 hk with hk | rfl
  ·exact ⟨k, hk, e, hc⟩
  ·exact absurd hc hn
theorem FaIn.put {C out : List Int} {v : Nat} (h : FaIn C v out) (hc : C.getD v 0 = 3) : FaIn C (v + 1) (out ++ [(v : Int)]) := by
 refine ⟨by have := h.1; simp; omega, fun x => ?_⟩
 rw [List.mem_append, h.2 x, List.mem_singleton]
 constructor
 ·rintro (⟨k, hk, r⟩ | rfl)
  ·exact ⟨k, by omega, r⟩
  ·exact ⟨v, by omega, rfl, hc⟩
 ·rintro ⟨k, hk, e, r⟩
  rcases Nat.lt_succ_iff_lt_or_eq.1 hk with hk | rfl
  ·exact .inl ⟨k, hk, e, r⟩
  ·exact .inr e
section
variable {nn : Nat} {ns : List Nd} {ds : List Dv} {s s' m : List Int} {x : Dv} {i : Nat}
theorem conn_mono (h : ∀ k : Nat, s[k]? = some 2 → s'[k]? = some 2) {u v : Int} (hc : Conn ds s u v) : Conn ds s' u v := by
 unfold Conn at *
 induction hc with
 | base h1 => exact .base h1
 | step _ h2 h3 h4 h5 ih =>
  refine .step ih h2 h3 ?_ h5
  unfold shutB at *
  simp only [beq_iff_eq] at *
  rename_i k _ _
  have h6 : s[k]? = some 2 := by
   rcases hq : s[k]? with _ | y
   ·rw [List.getD_eq_getElem?_getD, hq] at h4; cases h4
   ·rw [List.getD_eq_getElem?_getD, hq] at h4; simp at h4; rw [h4]
  rw [List.getD_eq_getElem?_getD, h k h6]; rfl
theorem hasK_mono {K : Int → Prop} (h : ∀ k : Nat, s[k]? = some 2 → s'[k]? = some 2) {v : Int} (hk : HasK K ds s v) : HasK K ds s' v := by
 obtain ⟨k, y, h1, h2, h3, h4⟩ := hk
 exact ⟨k, y, h1, h k h2, h3, conn_mono h h4⟩
theorem col3 {v : Int} : colV ds s v = 3 ↔ HasK liveK ds s v ∧ HasK (· = 4) ds s v := by
 unfold colV
 rcases ind_cases (HasK liveK ds s v) 1 with ⟨h, e⟩ | ⟨h, e⟩ <;> rcases ind_cases (HasK (· = 4) ds s v) 2 with ⟨h2, e2⟩ | ⟨h2, e2⟩ <;> rw [e, e2] <;> simp [h, h2]
def FB (ds : List Dv) (x : Dv) (i : Nat) (s : List Int) : Prop := colV ds (withL s i 2) x.a = 3 ∨ joinsB x.kind = true ∧ colV ds (withL s i 2) x.b = 3
theorem faultB_iff (he : EndsOk nn ds) (ha : AOk nn ds) (hx : x ∈ ds) : faultB x.kind x.a x.b (colsOf nn ds s) = true ↔ colV ds s x.a = 3 ∨ joinsB x.kind = true ∧ colV ds s x.b = 3 := by
 have hC := colsOf_are nn ds s
 have h1 := cols_get hC (ha x hx).1 (ha x hx).2
 unfold faultB
 rw [Bool.or_eq_true, Bool.and_eq_true, beq_iff_eq, beq_iff_eq, h1]
 constructor
 ·rintro (h | ⟨h, h2⟩)
  ·exact .inl h
  ·exact .inr ⟨h, by rw [cols_get hC (he x hx h).2.1 (he x hx h).2.2] at h2; exact h2⟩
 ·rintro (h | ⟨h, h2⟩)
  ·exact .inl h
  ·exact .inr ⟨h, by rw [cols_get hC (he x hx h).2.1 (he x hx h).2.2]; exact h2⟩
theorem duty4 (he : EndsOk nn ds) (ha : AOk nn ds) (hx : x ∈ ds) : dutyAt nn ns ds s i x = 4 ↔ FB ds x i s := by
 unfold dutyAt dutyV FB
 rw [← faultB_iff he ha hx]
 constructor
 ·intro h
  split at h
  ·assumption
  ·split at h
   ·cases h
   ·split at h
    ·cases h
    ·split at h <;> cases h
 ·intro h; rw [if_pos h]
theorem fill_in (m : List Int) : fillL m 2 ∈ allOf m := by
 refine (mem_allN m m.length _).2 ⟨fillL_len m 2, fun d hd => ?_⟩
 unfold fillL
 rw [List.getElem?_map, List.getElem?_eq_getElem hd]
 simp only [Option.map_some]
 constructor
 ·intro h; injection h with h; rw [if_pos h]; exact .inr rfl
 ·intro h
  rw [if_neg (fun e => h (by rw [e])), List.getD_eq_getElem?_getD, List.getElem?_eq_getElem hd]; rfl
end
end Go.Proofs.YtkkobemhbicjgaaGreatDoor
namespace Go.Proofs.YtkkobemhbicjgaaGreatDoor
open Go.RowKit
section
variable {ns : List Nd} {ds : List Dv} {m s : List Int} {d p co h : Int} {ls : List Lk} {pr pr2 : List Int} {x : Dv}
theorem agr_iff : s ∈ allOf m ↔ AgrN m m.length s := mem_allN m m.length s
theorem agr_len (hs : s ∈ allOf m) : s.length = m.length := (agr_iff.1 hs).1
theorem agr_at (hs : s ∈ allOf m) {i : Nat} (hi : i < m.length) : m[i]? = some 3 ∧ (s[i]? = some 1 ∨ s[i]? = some 2) ∨ m[i]? ≠ some 3 ∧ s[i]? = m[i]? := by
 obtain ⟨h1, h2⟩ := (agr_iff.1 hs).2 i hi
 by_cases h3 : m[i]? = some 3
 ·exact .inl ⟨h3, h1 h3⟩
 ·refine .inr ⟨h3, ?_⟩
  rw [h2 h3, List.getD_eq_getElem?_getD, List.getElem?_eq_getElem hi]; rfl
theorem agr_mk (hl : s.length = m.length) (h : ∀ i, i < m.length → m[i]? = some 3 ∧ (s[i]? = some 1 ∨ s[i]? = some 2) ∨ m[i]? ≠ some 3 ∧ s[i]? = m[i]?) : s ∈ allOf m := by
 refine agr_iff.2 ⟨hl, fun i hi => ?_⟩
 rcases h i hi with ⟨h1, h2⟩ | ⟨h1, h2⟩
 ·exact ⟨fun _ => h2, fun h => absurd h1 h⟩
 ·refine ⟨fun h => absurd h h1, fun _ => ?_⟩
  rw [h2, List.getD_eq_getElem?_getD, List.getElem?_eq_getElem hi]; rfl
theorem live_iff (nn : Nat) (ds : List Dv) (s : List Int) {v : Int} (h0 : 0 ≤ v) (h1 : v < nn) : lvB (colsOf nn ds s) v = true ↔ HasK liveK ds s v := by
 unfold lvB
 rw [cols_get (colsOf_are nn ds s) h0 h1]
 unfold colV
 rcases ind_cases (HasK liveK ds s v) 1 with ⟨h, e⟩ | ⟨h, e⟩ <;> rcases ind_cases (HasK (· = 4) ds s v) 2 with ⟨h2, e2⟩ | ⟨h2, e2⟩ <;> rw [e, e2] <;> simp only [h, iff_true, iff_false] <;> decide +kernel
theorem high_most (hs : s ∈ allOf m) : ∀ k : Nat, s[k]? = some 2 → (fillL m 2)[k]? = some 2 := fun k hk => by
 have hkm : k < m.length := by have := (List.getElem?_eq_some_iff.1 hk).1; rw [agr_len hs] at this; exact this
 unfold fillL
 rw [List.getElem?_map, List.getElem?_eq_getElem hkm]
 simp only [Option.map_some, Option.some.injEq]
 rcases agr_at hs hkm with ⟨h1, -⟩ | ⟨h1, h2⟩
 ·rw [List.getElem?_eq_getElem hkm] at h1; injection h1 with h1; rw [if_pos h1]
 ·rw [hk, List.getElem?_eq_getElem hkm] at h2; injection h2 with h2
  rw [if_neg (fun e => by rw [e] at h2; cases h2)]; exact h2.symm
theorem live_may {nn : Nat} (hs : s ∈ allOf m) {v : Int} (h0 : 0 ≤ v) (h1 : v < nn) (hv : lvB (colsOf nn ds s) v = true) : lvB (colsOf nn ds (fillL m 2)) v = true := by
 rw [live_iff nn ds _ h0 h1] at hv ⊢
 exact hasK_mono (high_most hs) hv
theorem hz_pr (hsub : ∀ v ∈ pr, v ∈ pr2) {nn i : Nat} (hh : h ∈ hzAt nn ns ds s i p co ls pr2 x) : h ∈ hzAt nn ns ds s i p co ls pr x := by
 unfold hzAt at hh ⊢
 split at hh
 ·next h1 => rw [if_pos h1]; exact hh
 ·next h1 =>
  rw [if_neg h1]
  rw [hzL_mem] at hh ⊢
  rcases hh with hh | hh | hh | hh | ⟨h5, h6⟩ | hh | hh
  ·exact .inl hh
  ·exact .inr (.inl hh)
  ·exact .inr (.inr (.inl hh))
  ·exact .inr (.inr (.inr (.inl hh)))
  ·refine .inr (.inr (.inr (.inr (.inl ⟨h5, ?_⟩))))
   simp only [Bool.and_eq_true, Bool.not_eq_true', hasB_not] at h6 ⊢
   exact ⟨h6.1, fun h => h6.2 (hsub _ h)⟩
  ·exact .inr (.inr (.inr (.inr (.inr (.inl hh)))))
  ·exact .inr (.inr (.inr (.inr (.inr (.inr hh)))))
end
theorem mem_prov {pr : List Int} {v y : Int} : y ∈ provL pr v ↔ y = v ∨ y ∈ pr := by
 unfold provL
 split
 ·next h => exact ⟨.inr, fun h2 => by rcases h2 with rfl | h2 <;> assumption⟩
 ·conv => rhs; rw [← List.takeWhile_append_dropWhile (p := fun x => decide (x < v)) (l := pr)]
  simp only [List.mem_append, List.mem_cons]
  constructor <;> rintro (h | h | h)
  all_goals first | exact .inr (.inl h) | exact .inl h | exact .inr (.inr h)
section
variable {ns : List Nd} {ds : List Dv} {co : Int} {t u : Sm} {x : Sp}
end
end Go.Proofs.YtkkobemhbicjgaaGreatDoor
namespace Go.Proofs.YtkkobemhbicjgaaGreatDoor
open Go.RowKit
section
variable {ns : List Nd} {ds : List Dv} {co : Int} {t t2 u : Sm} {x : Sp} {m s : List Int}
theorem chTo_e (hd : ds.length ≤ 8) (hc : ChOk ns ds t) : (chTo ns ds co t x).e = 0 := by
 unfold chTo
 split
 ·exact cErr_ok hc.s hd
 split
 ·split <;> rfl
 split
 ·split <;> rfl
 split
 ·rfl
 split
 ·rfl
 split <;> rfl
theorem chRun_e (hd : ds.length ≤ 8) : ∀ (xs : List Sp) (i : Nat) (out : List Fn) (t : Sm), ChOk ns ds t → (∀ x ∈ xs, spErr ns.length ds.length x = 0) → (chRun ns ds co i out t xs).e = 0
 | [], _, _, _, _, _ => rfl
 | x :: r, i, out, t, hc, hx => by
  rw [chRun, if_neg (by simp [chTo_e hd hc])]
  split
  ·rfl
  ·exact chRun_e hd r _ _ _ (chTo_ok hc (hx x (by simp))) fun y hy => hx y (List.mem_cons_of_mem _ hy)
def Incl (a b : List Fn) : Prop := ∀ f ∈ a, f.hz = 7 ∨ f ∈ b
theorem incl_fns {a b : List Fn} (h : Incl a b) (i : Nat) {k l : List Int} (hk : ∀ y ∈ k, y = 7 ∨ y ∈ l) : Incl (a ++ fnsOf i k) (b ++ fnsOf i l) := by
 intro f hf
 rcases List.mem_append.mp hf with hf | hf
 ·exact (h f hf).imp id (List.mem_append_left _)
 ·obtain ⟨y, hy, rfl⟩ := List.mem_map.mp hf
  exact (hk y hy).imp id fun h => List.mem_append_right _ (List.mem_map.mpr ⟨y, h, rfl⟩)
structure FinM (t2 t : Sm) : Prop where
 n : t2.s.length = t.s.length
 s : ∀ i : Nat, i < t.s.length → t2.s[i]? = t.s[i]? ∨ t.s[i]? = some 3
 l : t2.ls = t.ls
 p : ∀ v ∈ t.pr, v ∈ t2.pr
theorem fin_all (hf : FinM t2 t) (hc : ChOk ns ds t2) (hs : s ∈ allOf t2.s) : s ∈ allOf t.s := by
 have hl := agr_len hs
 refine agr_mk (by rw [hl, hf.n]) fun i hi => ?_
 have hi2 : i < t2.s.length := by rw [hf.n]; exact hi
 have hat := agr_at hs hi2
 rcases hf.s i hi with e | e
 ·rw [e] at hat; exact hat
 ·refine .inl ⟨e, ?_⟩
  rcases hat with ⟨-, h⟩ | ⟨h1, h2⟩
  ·exact h
  ·rcases mask_at hc.s hi2 with h3 | h3 | h3
   ·exact .inl (h2.trans h3)
   ·exact .inr (h2.trans h3)
   ·exact absurd h3 h1
theorem fin_step (hf : FinM t2 t) (hc2 : ChOk ns ds t2) (hx : spErr ns.length ds.length x = 0) (hk : x.kind ≠ 3 ∧ x.kind ≠ 6) :
 (∀ h ∈ (chTo ns ds co t2 x).h, h = 7 ∨ h ∈ (chTo ns ds co t x).h) ∧ FinM (chTo ns ds co t2 x).t (chTo ns ds co t x).t ∧ (chTo ns ds co t2 x).ov = false ∧ (chTo ns ds co t x).ov = false := by
 obtain ⟨h1, h2, h3, h4, -⟩ := spErr_ok hx
 by_cases k12 : x.kind = 1 ∨ x.kind = 2
 ·obtain ⟨i, hi⟩ := Int.eq_ofNat_of_zero_le (h2 (by omega)).1
  have hlt := (h2 (by omega)).2
  have hx2 : ds[x.dev.toNat]? = some (ds[x.dev.toNat]'(by omega)) := List.getElem?_eq_getElem (by omega)
  rw [chToO k12, chToO k12]
  refine ⟨fun h hh => ?_, ⟨by simp [hf.n], fun j hj => ?_, hf.l, fun v hv => ?_⟩, rfl, rfl⟩
  ·dsimp only at hh ⊢
   obtain ⟨s, hs, hz, -⟩ := (mayF_mem hx2 h).1 hh
   by_cases h7 : h = 7
   ·exact .inl h7
   ·refine .inr ((mayF_mem hx2 h).2 ⟨s, fin_all hf hc2 hs, ?_, .inl h7⟩)
    rw [hf.l] at hz
    exact hz_pr hf.p hz
  ·dsimp only at hj ⊢
   rw [List.length_set] at hj
   rw [List.getElem?_set, List.getElem?_set]
   by_cases e : x.dev.toNat = j
   ·subst e
    rw [if_pos rfl, if_pos rfl, if_pos (by rw [hf.n]; exact hj), if_pos hj]
    exact .inl rfl
   ·rw [if_neg e, if_neg e]; exact hf.s j hj
  ·dsimp only at hv ⊢
   split at hv
   ·cases hv
   ·next h9 => rw [if_neg h9]; exact hf.p v hv
 by_cases k5 : x.kind = 5
 ·have hn := h3 k5
  rw [chTo5 k5, chTo5 k5]
  rcases e1 : lvB (colsOf ns.length ds (fillL t2.s 2)) x.node with _ | _ <;> rcases e2 : lvB (colsOf ns.length ds (fillL t.s 2)) x.node with _ | _
  ·refine ⟨fun h hh => (by cases hh), ⟨hf.n, hf.s, hf.l, fun v hv => ?_⟩, rfl, rfl⟩
   simp only [Bool.false_eq_true, if_false] at hv ⊢
   rw [mem_prov] at hv ⊢
   exact hv.imp id (hf.p v)
  ·refine ⟨fun h hh => (by cases hh), ⟨hf.n, hf.s, hf.l, fun v hv => ?_⟩, rfl, rfl⟩
   simp only [Bool.false_eq_true, if_false, if_true] at hv ⊢
   rw [mem_prov]
   exact .inr (hf.p v hv)
  ·rw [live_may (fin_all hf hc2 (fill_in t2.s)) hn.1 hn.2 e1] at e2; cases e2
  ·exact ⟨fun h hh => .inr hh, hf, rfl, rfl⟩
 have k4 : x.kind = 4 := by omega
 rw [chTo4 k4, chTo4 k4, hf.l]
 rcases (lkdTo ns ds t.ls x).2 with _ | _
 ·exact ⟨fun h hh => .inr hh, hf, rfl, rfl⟩
 ·exact ⟨fun h hh => (by cases hh), ⟨hf.n, hf.s, rfl, hf.p⟩, rfl, rfl⟩
theorem fin_run (hd : ds.length ≤ 8) : ∀ (xs : List Sp) (i : Nat) (out out2 : List Fn) (t t2 : Sm), ChOk ns ds t → ChOk ns ds t2 → FinM t2 t → Incl out2 out → (∀ x ∈ xs, spErr ns.length ds.length x = 0 ∧ x.kind ≠ 3 ∧ x.kind ≠ 6) →
 Incl (chRun ns ds co i out2 t2 xs).o (chRun ns ds co i out t xs).o ∧ FinM (chRun ns ds co i out2 t2 xs).t (chRun ns ds co i out t xs).t ∧ ChOk ns ds (chRun ns ds co i out2 t2 xs).t ∧ ChOk ns ds (chRun ns ds co i out t xs).t
 | [], i, out, out2, t, t2, hc, hc2, hf, hi, _ => ⟨hi, hf, hc2, hc⟩
 | x :: r, i, out, out2, t, t2, hc, hc2, hf, hi, hx => by
  have hx1 := hx x (by simp)
  obtain ⟨h1, h2, h3, h4⟩ := fin_step (co := co) hf hc2 hx1.1 hx1.2
  rw [chRun, if_neg (by simp [chTo_e hd hc2]), if_neg (by simp [h3]), chRun, if_neg (by simp [chTo_e hd hc]), if_neg (by simp [h4])]
  exact fin_run hd r _ _ _ _ _ (chTo_ok hc hx1.1) (chTo_ok hc2 hx1.1) h2 (incl_fns hi i h1) fun y hy => hx y (List.mem_cons_of_mem _ hy)
end
end Go.Proofs.YtkkobemhbicjgaaGreatDoor
namespace Go.Proofs.YtkkobemhbicjgaaGreatDoor
open Go.RowKit
section
variable {ns : List Nd} {ds : List Dv} {m s : List Int} {i : Nat} {x : Dv}
end
end Go.Proofs.YtkkobemhbicjgaaGreatDoor
namespace Go.Proofs.YtkkobemhbicjgaaGreatDoor
open Go.RowKit
def nsW : List Nd := [⟨⟨#[65]⟩, 0, 0⟩]
def dsW : List Dv := [⟨⟨#[69]⟩, 4, 0, -1, 0⟩]
def xsW : List Sp := [⟨2, 0, 0, 0, 0⟩, ⟨3, 0, 0, 2, 4⟩]
theorem namesW : (∀ x ∈ nsW, x.name.size ≤ 9223372036854775807) ∧ (∀ x ∈ dsW, x.name.size ≤ 9223372036854775807) := by
 constructor <;> intro x hx <;> simp [nsW, dsW] at hx <;> rcases hx with rfl | rfl <;> decide
theorem chW : chErr nsW dsW [1] 0 [] [] ⟨#[80]⟩ xsW = 0 := by decide
theorem noLiveW (s : List Int) (v : Int) : ¬ HasK liveK dsW s v := by
 rintro ⟨k, x, hx, -, hk, -⟩
 rcases k with _ | k
 ·simp [dsW] at hx; subst hx; rcases hk with hk | hk <;> cases hk
 ·simp [dsW] at hx
theorem mayW : mayF nsW dsW [1] 0 2 0 [] [] = [5] := by
 have hx : dsW[(0 : Int).toNat]? = some ⟨⟨#[69]⟩, 4, 0, -1, 0⟩ := rfl
 have hnet := NetOk.of (ns := nsW) (ds := dsW) (by decide)
 refine (mayF_is hx ⟨by decide, by simp, fun h => ?_⟩).symm
 rw [List.mem_singleton]
 have h1 : ∀ s ∈ allOf ([1] : List Int), s[0]? = some 1 := fun s hs => by
  rcases agr_at hs (i := 0) (by decide) with ⟨h, -⟩ | ⟨-, h⟩
  ·cases h
  ·exact h
 constructor
 ·rintro rfl
  refine ⟨fillL [1] 2, fill_in _, ?_, .inl (by decide)⟩
  unfold hzAt
  rw [if_neg (by decide), hzL_mem]
  exact .inr (.inr (.inr (.inr (.inl ⟨rfl, by simp [hasB]⟩))))
 ·rintro ⟨s, hs, hz, -⟩
  have hs1 := h1 s hs
  unfold hzAt at hz
  rw [if_neg (by show ¬ s.getD 0 0 = 2; rw [getD_at hs1]; decide), hzL_mem] at hz
  rcases hz with ⟨-, hz⟩ | ⟨-, hz⟩ | ⟨-, hz⟩ | ⟨-, hz⟩ | ⟨h, -⟩ | ⟨-, hz⟩ | ⟨-, hz⟩
  ·simp only [Bool.and_eq_true, decide_eq_true_eq] at hz
   have := (duty4 hnet.e hnet.a (by simp [dsW])).1 hz.2
   rcases this with h | ⟨h, -⟩
   ·exact absurd (col3.1 h).1 (noLiveW _ _)
   ·cases h
  ·simp [badB] at hz
  ·unfold lostB at hz
   simp only [decide_eq_true_eq] at hz
   obtain ⟨k, y, -, -, h, -⟩ := hz
   exact absurd h.1 (noLiveW _ _)
  ·simp [lockB] at hz
  ·exact h
  ·simp at hz
  ·cases hz
theorem runW : chRun nsW dsW 0 0 [] ⟨[1], [], []⟩ xsW = ⟨0, [⟨0, 5⟩], ⟨[2], [⟨0, 2, 4⟩], []⟩⟩ := by
 have e1 : chTo nsW dsW 0 ⟨[1], [], []⟩ ⟨2, 0, 0, 0, 0⟩ = ⟨0, [5], ⟨[2], [], []⟩, false⟩ := by
  rw [chToO (.inr rfl)]
  dsimp only
  rw [mayW]; rfl
 have e2 : chTo nsW dsW 0 ⟨[2], [], []⟩ ⟨3, 0, 0, 2, 4⟩ = ⟨0, [], ⟨[2], [⟨0, 2, 4⟩], []⟩, false⟩ := by
  rw [chTo36 (.inl rfl)]
  have e3 : lkdTo nsW dsW [] ⟨3, 0, 0, 2, 4⟩ = ([⟨0, 2, 4⟩], true) := by
   unfold lkdTo
   rw [if_pos rfl, if_neg (by decide)]; rfl
  dsimp only
  rw [e3]; rfl
 unfold xsW
 rw [chRun, e1, if_neg (by decide), if_neg (by decide), chRun, e2, if_neg (by decide), if_neg (by decide), chRun]; rfl
theorem Blk.sl {w : World} {g n size : Nat} {T : TypeId} {cs : Array Value} {xs : List Value} (h : Blk w g T cs) (hc : cs.toList = xs) (hs : cs.size = n * size) (hn : n ≤ 100) : Sl w w.heap.size size (some ⟨g, 0, none⟩) n n xs := by
 subst hc
 refine ⟨by simpa using hs, Nat.le_refl _, by omega, (fun e => by cases e), fun _ => ⟨g, 0, rfl, h.lt, fun j u hu => ?_⟩⟩
 rw [Nat.zero_add, h.cell]; simpa using hu
def nW : Array Value := #[.string ⟨#[65]⟩, .int .i64 0, .int .i64 0]
def dW : Array Value := #[.string ⟨#[69]⟩, .int .i64 4, .int .i64 0, .int .i64 (-1), .int .i64 0]
def xW : Array Value := #[.int .i64 2, .int .i64 0, .int .i64 0, .int .i64 0, .int .i64 0, .int .i64 3, .int .i64 0, .int .i64 0, .int .i64 2, .int .i64 4]
theorem awake_any (w : World) (hl : Laid w) : Calls Tryz.prog 11 #[] w fun e w' => e = .returned (.bool true) ∧ Below w.heap.size w w' := by
 have HB : Hid (Bxs w [(85, nW), (57, dW), (30, #[.slice (some ⟨w.heap.size, 0, none⟩) 1 1, .slice (some ⟨w.heap.size + 1, 0, none⟩) 1 1]), (43, xW), (41, #[.string ⟨#[80]⟩, .slice (some ⟨w.heap.size + 1 + 1 + 1, 0, none⟩) 2 2])] _) := (Bxs.new4 w (85, nW) (57, dW) (30, #[.slice (some ⟨w.heap.size, 0, none⟩) 1 1, .slice (some ⟨w.heap.size + 1, 0, none⟩) 1 1]) (43, xW)).add (by simp) 41 #[.string ⟨#[80]⟩, .slice (some ⟨w.heap.size + 1 + 1 + 1, 0, none⟩) 2 2]
 have HLA := Lib.hid hl
 clear hl
 dsimp only [nW, dW, xW] at HB
 go_enter Tryz.func11, Tryz.ntmps11
 go_upto_region 3 with (fail)
 generalize World.alloc (World.alloc (World.alloc (World.alloc (World.alloc w _) _) _) _) _ = W at *
 rw [show w.heap.size + 1 + 1 = w.heap.size + 2 from rfl, show w.heap.size + 2 + 1 = w.heap.size + 3 from rfl, show w.heap.size + 3 + 1 = w.heap.size + 4 from rfl]
 have k0 := HB.out.b2.c0
 have k1 := HB.out.b2.c1
 have p0 := HB.out.b4.c0
 have p1 := HB.out.b4.c1
 have hlt := HB.out.b4.lt
 go_wp2_with fail
 clear k0 k1 p0 p1 hlt
 have HB1 := Lib.hid (HB.out.later ((Below.refl _ W).alloc (Nat.le_refl _) (.cells #[.int .i64 1] 3)))
 have HS1 : Hid (Sl (W.alloc (.cells #[.int .i64 1] 3)) (W.alloc (.cells #[.int .i64 1] 3)).heap.size 1 (some ⟨W.heap.size, 0, none⟩) 1 1 (intsV [1])) := (Sl.newest (n := 1) (size := 1) rfl rfl (by decide)).more (by simp)
 clear HB
 generalize World.alloc W _ = w1 at *
 have HM1 : Hid (SmMem w1 (some ⟨w.heap.size, 0, none⟩) (some ⟨w.heap.size + 1, 0, none⟩) (some ⟨W.heap.size, 0, none⟩) none none (some ⟨w.heap.size + 3, 0, none⟩) 1 1 1 1 1 1 0 0 0 0 2 2 nsW dsW [1] [] [] ⟨#[80]⟩ xsW) := ⟨⟨HB1.out.b0.sl rfl rfl (by decide), HB1.out.b1.sl rfl rfl (by decide), HS1.out, Sl.nil _ _ _, Sl.nil _ _ _, HLA.out.below HB1.out.l (Nat.le_refl _), namesW.1, namesW.2⟩, HB1.out.b3.sl rfl rfl (by decide), by decide⟩
 refine (chRun_any _ _ _ _ _ _ 1 1 1 1 1 1 0 0 0 0 2 2 nsW dsW [1] [] [] 0 ⟨#[80]⟩ xsW w1 HM1.out).mono ?_
 rintro e w2 ⟨⟨h1, -⟩ | ⟨-, h1, -⟩ | ⟨-, -, A1, A2, A3, A4, n1, c1, n2, c2, n3, c3, n4, c4, rfl, hR⟩, hb2⟩
 ·exact absurd chW h1
 ·rw [runW] at h1; exact absurd rfl h1
 rw [runW] at hR
 obtain rfl : 1 = n1 := hR.out.o.len (f := Fn.cells) (fun _ => rfl) (by decide)
 obtain rfl : 1 = n3 := hR.out.l.len (f := Lk.cells) (fun _ => rfl) (by decide)
 have HB2 : Hid (Below w.heap.size w w2) := HB1.out.l.trans (hb2.out.mono HB1.out.l.size)
 have HR2 := Lib.hid hR.out
 clear hR hb2 HB1 HS1 HM1
 go_upto_region 4 with (fail)
 have HG5 := Lib.hid (Blk.new w2 47 #[.slice A1 1 c1, .slice A2 n2 c2, .int .i64 0, .slice A3 1 c3, .slice A4 n4 c4])
 have HB3 : Hid (Below w2.heap.size w2 (w2.alloc (.cells #[.slice A1 1 c1, .slice A2 n2 c2, .int .i64 0, .slice A3 1 c3, .slice A4 n4 c4] 47))) := (Below.refl _ _).alloc (Nat.le_refl _) _
 have HF3 := Lib.hid ((HR2.out.o.below HB3.out (Nat.le_refl _)).more HB3.out.size)
 have HM3 := Lib.hid ((HR2.out.s.below HB3.out (Nat.le_refl _)).more HB3.out.size)
 replace HB3 := Lib.hid (HB2.out.trans (HB3.out.mono HB2.out.size))
 clear HB2 HR2
 dsimp only at HF3 HM3
 generalize World.alloc w2 _ = w3 at *
 obtain ⟨rb, hrb⟩ : ∃ x, x = w2.heap.size := ⟨_, rfl⟩
 rw [← hrb] at HG5 ⊢
 clear hrb
 have r0 := HG5.out.c0
 go_wp2_with fail
 clear r0
 have HBL : Hid (Below w3.heap.size w3 (w3.alloc (.cells #[.int .i64 0, .int .i64 5] 53))) := (Below.refl _ _).alloc (Nat.le_refl _) _
 have HN : Hid (Sl (w3.alloc (.cells #[.int .i64 0, .int .i64 5] 53)) (w3.alloc (.cells #[.int .i64 0, .int .i64 5] 53)).heap.size 2 (some ⟨w3.heap.size, 0, none⟩) 1 1 (([⟨0, 5⟩] : List Fn).flatMap Fn.cells)) := (Sl.newest (n := 1) (size := 2) rfl rfl (by decide)).more (by simp)
 have HF4 := Lib.hid ((HF3.out.below HBL.out (Nat.le_refl _)).more HBL.out.size)
 have HM4 := Lib.hid ((HM3.out.below HBL.out (Nat.le_refl _)).more HBL.out.size)
 have HG4 := Lib.hid (HG5.out.below HBL.out HG5.out.lt)
 have HB4 := Lib.hid (HB3.out.trans (HBL.out.mono HB3.out.size))
 clear HF3 HM3 HG5 HB3 HBL
 generalize World.alloc w3 _ = w4 at *
 refine (samef_any A1 _ 1 c1 1 1 w4.heap.size w4.heap.size _ _ w4 HF4.out HN.out (Nat.le_refl _) (Nat.le_refl _)).mono ?_
 rintro e w5 ⟨rfl, hb5⟩
 rw [show decide (([⟨0, 5⟩] : List Fn) = [⟨0, 5⟩]) = true from rfl]
 have HF5 := Lib.hid ((HF4.out.below hb5 (Nat.le_refl _)).more hb5.size)
 have HM5 := Lib.hid ((HM4.out.below hb5 (Nat.le_refl _)).more hb5.size)
 have HG6 := Lib.hid (HG4.out.below hb5 HG4.out.lt)
 have HB5 := Lib.hid (HB4.out.trans (hb5.mono HB4.out.size))
 clear hb5 HF4 HM4 HG4 HB4 HN
 have r1 := HG6.out.c1
 have r3 := HG6.out.c3
 have hlt := HG6.out.lt
 go_wp2_with fail
 clear r1 r3 hlt
 have HBL : Hid (Below w5.heap.size w5 (w5.alloc (.cells #[.int .i64 2] 3))) := (Below.refl _ _).alloc (Nat.le_refl _) _
 have HN : Hid (Sl (w5.alloc (.cells #[.int .i64 2] 3)) (w5.alloc (.cells #[.int .i64 2] 3)).heap.size 1 (some ⟨w5.heap.size, 0, none⟩) 1 1 (intsV [2])) := (Sl.newest (n := 1) (size := 1) rfl rfl (by decide)).more (by simp)
 have HF6 := Lib.hid ((HF5.out.below HBL.out (Nat.le_refl _)).more HBL.out.size)
 have HM6 := Lib.hid ((HM5.out.below HBL.out (Nat.le_refl _)).more HBL.out.size)
 have HG7 := Lib.hid (HG6.out.below HBL.out HG6.out.lt)
 have HB6 := Lib.hid (HB5.out.trans (HBL.out.mono HB5.out.size))
 clear HF5 HM5 HG6 HB5 HBL
 generalize World.alloc w5 _ = w6 at *
 refine (ints_any A2 _ n2 c2 1 1 w6.heap.size w6.heap.size [2] [2] w6 HM6.out HN.out (Nat.le_refl _) (Nat.le_refl _)).mono ?_
 rintro e w7 ⟨rfl, hb7⟩
 rw [show decide (([2] : List Int) = [2]) = true from rfl]
 have HF7 := Lib.hid ((HF6.out.below hb7 (Nat.le_refl _)).more hb7.size)
 have HG8 := Lib.hid (HG7.out.below hb7 HG7.out.lt)
 have HB7 := Lib.hid (HB6.out.trans (hb7.mono HB6.out.size))
 clear hb7 HF6 HM6 HG7 HB6 HN
 have r0 := HG8.out.c0
 have r1 := HG8.out.c1
 have r2 := HG8.out.c2
 have r3 := HG8.out.c3
 have r4 := HG8.out.c4
 have hlt := HG8.out.lt
 go_wp2_with fail
 clear r0 r1 r2 r3 r4 hlt
 have HBL : Hid (Below w7.heap.size w7 (w7.alloc (.cells #[.int .i64 5] 3))) := (Below.refl _ _).alloc (Nat.le_refl _) _
 have HN : Hid (Sl (w7.alloc (.cells #[.int .i64 5] 3)) (w7.alloc (.cells #[.int .i64 5] 3)).heap.size 1 (some ⟨w7.heap.size, 0, none⟩) 1 1 (intsV [5])) := (Sl.newest (n := 1) (size := 1) rfl rfl (by decide)).more (by simp)
 have HF8 := Lib.hid ((HF7.out.below HBL.out (Nat.le_refl _)).more HBL.out.size)
 have HB8 := Lib.hid (HB7.out.trans (HBL.out.mono HB7.out.size))
 clear HF7 HG8 HB7 HBL
 generalize World.alloc w7 _ = w8 at *
 refine (clean_any A1 A2 A3 A4 _ 1 c1 n2 c2 1 c3 n4 c4 1 1 0 [⟨0, 5⟩] [5] w8 HF8.out HN.out).mono ?_
 rintro e w9 ⟨rfl, hb9⟩
 rw [show clnB [⟨0, 5⟩] [5] = true from by decide]
 go_wp2_with fail
 go_ret
 exact ⟨rfl, HB8.out.trans (hb9.mono HB8.out.size)⟩
end Go.Proofs.YtkkobemhbicjgaaGreatDoor
namespace Go.Proofs.YtkkobemhbicjgaaGreatDoor
open Go.RowKit
structure MsM (w : World) (g x : Nat) (nt st : Array Value) (wr : World) : Prop where
 b0 : Blk wr w.heap.size 30 nt
 b1 : Blk wr (w.heap.size + 1) 43 #[.int .i64 0, .int .i64 0, .int .i64 0, .int .i64 0, .int .i64 0]
 bx : Blk wr x 43 st
 dk : DeckAt wr g
 gr : w.grownBy wr (some g)
section
variable {w wr wr' : World} {g x : Nat} {nt st : Array Value}
theorem MsM.grown (h : MsM w g x nt st wr) (hg : wr.grownBy wr' (some g)) (hd : DeckAt wr' g) (h0 : g < w.heap.size) (hx : w.heap.size + 1 < x) : MsM w g x nt st wr' :=
 ⟨h.b0.grown hg (fun e => by injection e with e; omega), h.b1.grown hg (fun e => by injection e with e; omega), h.bx.grown hg (fun e => by injection e with e; omega), hd, grown_trans h.gr hg⟩
theorem MsM.put (h : MsM w g x nt st wr) (h0 : g < w.heap.size) (hx : w.heap.size + 1 < x) (i : Nat) (u : Value) : MsM w g x nt (st.setIfInBounds i u) (wr.setCell ⟨x, i, none⟩ u) :=
 ⟨h.b0.far (by show w.heap.size ≠ x; omega) _, h.b1.far (by show w.heap.size + 1 ≠ x; omega) _, h.bx.set i u, h.dk.setCell (by show g < x; omega) _, grown_set h.gr (by show w.heap.size ≤ x; omega) _⟩
theorem MsM.fin {a b c d e : Value} (h : MsM w g x nt #[a, b, c, d, e] wr) (h0 : g < w.heap.size) : Blk (set5 wr (w.heap.size + 1) a b c d e) (w.heap.size + 1) 43 #[a, b, c, d, e] ∧ DeckAt (set5 wr (w.heap.size + 1) a b c d e) g ∧ w.grownBy (set5 wr (w.heap.size + 1) a b c d e) (some g) :=
 ⟨h.b1.all5, ((((h.dk.setCell (p := ⟨w.heap.size + 1, 0, none⟩) (by simp; omega) a).setCell (p := ⟨w.heap.size + 1, 1, none⟩) (by simp; omega) b).setCell (p := ⟨w.heap.size + 1, 2, none⟩) (by simp; omega) c).setCell (p := ⟨w.heap.size + 1, 3, none⟩) (by simp; omega) d).setCell (p := ⟨w.heap.size + 1, 4, none⟩) (by simp; omega) e,
  grown_set (grown_set (grown_set (grown_set (grown_set h.gr (p := ⟨w.heap.size + 1, 0, none⟩) (by simp) a) (p := ⟨w.heap.size + 1, 1, none⟩) (by simp) b) (p := ⟨w.heap.size + 1, 2, none⟩) (by simp) c) (p := ⟨w.heap.size + 1, 3, none⟩) (by simp) d) (p := ⟨w.heap.size + 1, 4, none⟩) (by simp) e⟩
end
def MstPost (w : World) (g nn nd : Nat) (e : Ending) (w' : World) : Prop := ∃ (k d no p q : Int), e = .returned (.agg #[.int .i64 k, .int .i64 d, .int .i64 no, .int .i64 p, .int .i64 q]) ∧ Hid (spErr nn nd ⟨k, d, no, p, q⟩ = 0) ∧ Hid (DeckAt w' g) ∧ Hid (w.grownBy w' (some g))
theorem mkstep_any (g : Nat) (An Ad : Option Addr) (nn cn nd cd : Nat) (w : World) (hd : DeckAt w g) (hnn : 0 < nn) (hnn1 : nn ≤ 1000) (hnd : 0 < nd) (hnd1 : nd ≤ 1000) :
 Calls Tryz.prog 18 #[.pointer (some ⟨g, 0, none⟩), .agg #[.slice An nn cn, .slice Ad nd cd]] w (MstPost w g nn nd) := by
 have hlt := hd.lt
 have HB0 := Lib.hid ((Blk.new w 30 #[.slice An nn cn, .slice Ad nd cd]).alloc (.cells #[.int .i64 0, .int .i64 0, .int .i64 0, .int .i64 0, .int .i64 0] 43))
 have HB1 : Hid (Blk ((w.alloc (.cells #[.slice An nn cn, .slice Ad nd cd] 30)).alloc (.cells #[.int .i64 0, .int .i64 0, .int .i64 0, .int .i64 0, .int .i64 0] 43)) (w.heap.size + 1) 43 #[.int .i64 0, .int .i64 0, .int .i64 0, .int .i64 0, .int .i64 0]) := by
  have := Blk.new (w.alloc (.cells #[.slice An nn cn, .slice Ad nd cd] 30)) 43 #[.int .i64 0, .int .i64 0, .int .i64 0, .int .i64 0, .int .i64 0]
  unfold Hid; simpa using this
 have HBL : Hid (Below w.heap.size w ((w.alloc (.cells #[.slice An nn cn, .slice Ad nd cd] 30)).alloc (.cells #[.int .i64 0, .int .i64 0, .int .i64 0, .int .i64 0, .int .i64 0] 43))) := ((Below.refl _ _).alloc (Nat.le_refl _) _).alloc (by simp) _
 have HD0 := Lib.hid ((hd.alloc (.cells #[.slice An nn cn, .slice Ad nd cd] 30)).alloc (.cells #[.int .i64 0, .int .i64 0, .int .i64 0, .int .i64 0, .int .i64 0] 43))
 clear hd
 go_enter Tryz.func18, Tryz.ntmps18
 go_upto_region 1 with (fail)
 generalize World.alloc (World.alloc w _) _ = W at *
 go_wp2_with fail
 refine (next_any g 6 W HD0.out (by decide)).mono ?_
 rintro e w1 ⟨r, rfl, hv0, _, hv1, hd1, hg1, hs1⟩
 have hvn := hv1.out (by decide)
 have hx : w.heap.size + 1 < w1.heap.size := by have := HB1.out.lt; have := hg1.out.size; omega
 have HG1 := Lib.hid (grown_trans (grown_of_below HBL.out (some g)) hg1.out)
 have HC0 := Lib.hid (HB0.out.grown hg1.out (fun e => by injection e with e; omega))
 have HC1 := Lib.hid (HB1.out.grown hg1.out (fun e => by injection e with e; omega))
 have HDK := Lib.hid hd1.out
 clear hv1 hd1 hg1 hs1 HB0 HB1 HBL HD0
 rcases (show r = 0 ∨ r = 1 ∨ r = 2 ∨ r = 3 ∨ r = 4 ∨ r = 5 by omega) with rfl | rfl | rfl | rfl | rfl | rfl
 ·clear hv0 hvn
  go_upto_region 2 with (fail)
  have HM : Hid (MsM w g w1.heap.size #[.slice An nn cn, .slice Ad nd cd] #[.int .i64 1, .int .i64 0, .int .i64 0, .int .i64 0, .int .i64 0] (w1.alloc (.cells #[.int .i64 1, .int .i64 0, .int .i64 0, .int .i64 0, .int .i64 0] 43))) := ⟨HC0.out.alloc _, HC1.out.alloc _, Blk.new _ _ _, HDK.out.alloc _, grown_trans HG1.out (grown_of_below ((Below.refl _ _).alloc (Nat.le_refl _) _) _)⟩
  clear HC0 HC1 HDK HG1
  generalize World.alloc w1 _ = V at *
  obtain ⟨x, hxx⟩ : ∃ x, x = w1.heap.size := ⟨_, rfl⟩
  rw [← hxx] at HM hx ⊢
  clear hxx
  have b0 := HM.out.b0.c0
  have b1 := HM.out.b0.c1
  have s0 := HM.out.bx.c0
  go_wp2_with fail
  clear b0 b1 s0
  refine (next_any g (nd : Int) V HM.out.dk (by omega)).mono ?_
  rintro e w2 ⟨v1, rfl, h01, _, hv1, hd1, hg1, hs1⟩
  have h11 := hv1.out (by omega)
  have HM := Lib.hid (HM.out.grown hg1.out hd1.out hlt hx)
  clear hv1 hd1 hg1 hs1
  have c0 := HM.out.bx.c1
  have f0 := HM.out.bx.frozen 1
  have HM := Lib.hid (HM.out.put hlt hx 1 (.int .i64 v1))
  go_upto_region 6 with (fail)
  clear c0 f0
  generalize World.setCell w2 _ _ = X1 at *
  have HM : Hid (MsM w g x #[.slice An nn cn, .slice Ad nd cd] #[.int .i64 1, .int .i64 v1, .int .i64 0, .int .i64 0, .int .i64 0] X1) := HM.out
  have s0 := HM.out.bx.c0
  have s1 := HM.out.bx.c1
  have s2 := HM.out.bx.c2
  have s3 := HM.out.bx.c3
  have s4 := HM.out.bx.c4
  have d0 := HM.out.b1.c0
  have y50 := HM.out.b1.frozen 0
  have d1 := HM.out.b1.c1
  have y51 := HM.out.b1.frozen 1
  have d2 := HM.out.b1.c2
  have y52 := HM.out.b1.frozen 2
  have d3 := HM.out.b1.c3
  have y53 := HM.out.b1.frozen 3
  have d4 := HM.out.b1.c4
  have y54 := HM.out.b1.frozen 4
  have HF := Lib.hid (HM.out.fin hlt)
  unfold set5 at HF
  go_wp2_with fail
  generalize World.setCell (World.setCell (World.setCell (World.setCell (World.setCell X1 _ _) _ _) _ _) _ _) _ _ = z at *
  have q0 := HF.out.1.c0
  have q1 := HF.out.1.c1
  have q2 := HF.out.1.c2
  have q3 := HF.out.1.c3
  have q4 := HF.out.1.c4
  exact bodyPost_ret (v := .agg #[.int .i64 1, .int .i64 v1, .int .i64 0, .int .i64 0, .int .i64 0]) (by simp [results, Tryz.results18, go_sem, q0, q1, q2, q3, q4]) rfl ⟨_, _, _, _, _, rfl, by unfold Hid; rw [spE1, if_neg (by omega), if_neg (by omega)], HF.out.2.1, HF.out.2.2⟩
 ·clear hv0 hvn
  go_upto_region 2 with (fail)
  have HM : Hid (MsM w g w1.heap.size #[.slice An nn cn, .slice Ad nd cd] #[.int .i64 2, .int .i64 0, .int .i64 0, .int .i64 0, .int .i64 0] (w1.alloc (.cells #[.int .i64 2, .int .i64 0, .int .i64 0, .int .i64 0, .int .i64 0] 43))) := ⟨HC0.out.alloc _, HC1.out.alloc _, Blk.new _ _ _, HDK.out.alloc _, grown_trans HG1.out (grown_of_below ((Below.refl _ _).alloc (Nat.le_refl _) _) _)⟩
  clear HC0 HC1 HDK HG1
  generalize World.alloc w1 _ = V at *
  obtain ⟨x, hxx⟩ : ∃ x, x = w1.heap.size := ⟨_, rfl⟩
  rw [← hxx] at HM hx ⊢
  clear hxx
  have b0 := HM.out.b0.c0
  have b1 := HM.out.b0.c1
  have s0 := HM.out.bx.c0
  go_wp2_with fail
  clear b0 b1 s0
  refine (next_any g (nd : Int) V HM.out.dk (by omega)).mono ?_
  rintro e w2 ⟨v1, rfl, h01, _, hv1, hd1, hg1, hs1⟩
  have h11 := hv1.out (by omega)
  have HM := Lib.hid (HM.out.grown hg1.out hd1.out hlt hx)
  clear hv1 hd1 hg1 hs1
  have c0 := HM.out.bx.c1
  have f0 := HM.out.bx.frozen 1
  have HM := Lib.hid (HM.out.put hlt hx 1 (.int .i64 v1))
  go_upto_region 6 with (fail)
  clear c0 f0
  generalize World.setCell w2 _ _ = X1 at *
  have HM : Hid (MsM w g x #[.slice An nn cn, .slice Ad nd cd] #[.int .i64 2, .int .i64 v1, .int .i64 0, .int .i64 0, .int .i64 0] X1) := HM.out
  have s0 := HM.out.bx.c0
  have s1 := HM.out.bx.c1
  have s2 := HM.out.bx.c2
  have s3 := HM.out.bx.c3
  have s4 := HM.out.bx.c4
  have d0 := HM.out.b1.c0
  have y50 := HM.out.b1.frozen 0
  have d1 := HM.out.b1.c1
  have y51 := HM.out.b1.frozen 1
  have d2 := HM.out.b1.c2
  have y52 := HM.out.b1.frozen 2
  have d3 := HM.out.b1.c3
  have y53 := HM.out.b1.frozen 3
  have d4 := HM.out.b1.c4
  have y54 := HM.out.b1.frozen 4
  have HF := Lib.hid (HM.out.fin hlt)
  unfold set5 at HF
  go_wp2_with fail
  generalize World.setCell (World.setCell (World.setCell (World.setCell (World.setCell X1 _ _) _ _) _ _) _ _) _ _ = z at *
  have q0 := HF.out.1.c0
  have q1 := HF.out.1.c1
  have q2 := HF.out.1.c2
  have q3 := HF.out.1.c3
  have q4 := HF.out.1.c4
  exact bodyPost_ret (v := .agg #[.int .i64 2, .int .i64 v1, .int .i64 0, .int .i64 0, .int .i64 0]) (by simp [results, Tryz.results18, go_sem, q0, q1, q2, q3, q4]) rfl ⟨_, _, _, _, _, rfl, by unfold Hid; rw [spE2, if_neg (by omega), if_neg (by omega)], HF.out.2.1, HF.out.2.2⟩
 ·clear hv0 hvn
  go_upto_region 2 with (fail)
  have HM : Hid (MsM w g w1.heap.size #[.slice An nn cn, .slice Ad nd cd] #[.int .i64 3, .int .i64 0, .int .i64 0, .int .i64 0, .int .i64 0] (w1.alloc (.cells #[.int .i64 3, .int .i64 0, .int .i64 0, .int .i64 0, .int .i64 0] 43))) := ⟨HC0.out.alloc _, HC1.out.alloc _, Blk.new _ _ _, HDK.out.alloc _, grown_trans HG1.out (grown_of_below ((Below.refl _ _).alloc (Nat.le_refl _) _) _)⟩
  clear HC0 HC1 HDK HG1
  generalize World.alloc w1 _ = V at *
  obtain ⟨x, hxx⟩ : ∃ x, x = w1.heap.size := ⟨_, rfl⟩
  rw [← hxx] at HM hx ⊢
  clear hxx
  have b0 := HM.out.b0.c0
  have b1 := HM.out.b0.c1
  have s0 := HM.out.bx.c0
  go_wp2_with fail
  clear b0 b1 s0
  refine (next_any g (nd : Int) V HM.out.dk (by omega)).mono ?_
  rintro e w2 ⟨v1, rfl, h01, _, hv1, hd1, hg1, hs1⟩
  have h11 := hv1.out (by omega)
  have HM := Lib.hid (HM.out.grown hg1.out hd1.out hlt hx)
  clear hv1 hd1 hg1 hs1
  have c0 := HM.out.bx.c1
  have f0 := HM.out.bx.frozen 1
  have HM := Lib.hid (HM.out.put hlt hx 1 (.int .i64 v1))
  go_upto_region 6 with (fail)
  clear c0 f0
  generalize World.setCell w2 _ _ = X1 at *
  have HM : Hid (MsM w g x #[.slice An nn cn, .slice Ad nd cd] #[.int .i64 3, .int .i64 v1, .int .i64 0, .int .i64 0, .int .i64 0] X1) := HM.out
  have b0 := HM.out.b0.c0
  have b1 := HM.out.b0.c1
  have s0 := HM.out.bx.c0
  go_wp2_with fail
  clear b0 b1 s0
  refine (next_any g 2 X1 HM.out.dk (by omega)).mono ?_
  rintro e w3 ⟨v2, rfl, h02, _, hv1, hd1, hg1, hs1⟩
  have h12 := hv1.out (by omega)
  have HM := Lib.hid (HM.out.grown hg1.out hd1.out hlt hx)
  clear hv1 hd1 hg1 hs1
  have c0 := HM.out.bx.c3
  have f0 := HM.out.bx.frozen 3
  have HM := Lib.hid (HM.out.put hlt hx 3 (.int .i64 (1 + v2)))
  go_upto_region 8 with (fail)
  clear c0 f0
  generalize World.setCell w3 _ _ = X2 at *
  have HM : Hid (MsM w g x #[.slice An nn cn, .slice Ad nd cd] #[.int .i64 3, .int .i64 v1, .int .i64 0, .int .i64 (1 + v2), .int .i64 0] X2) := HM.out
  have b0 := HM.out.b0.c0
  have b1 := HM.out.b0.c1
  have s0 := HM.out.bx.c0
  go_wp2_with fail
  clear b0 b1 s0
  refine (next_any g 12 X2 HM.out.dk (by omega)).mono ?_
  rintro e w4 ⟨v3, rfl, h03, _, hv1, hd1, hg1, hs1⟩
  have h13 := hv1.out (by omega)
  have HM := Lib.hid (HM.out.grown hg1.out hd1.out hlt hx)
  clear hv1 hd1 hg1 hs1
  have c0 := HM.out.bx.c4
  have f0 := HM.out.bx.frozen 4
  have HM := Lib.hid (HM.out.put hlt hx 4 (.int .i64 (10 + v3)))
  go_upto_region 10 with (fail)
  clear c0 f0
  generalize World.setCell w4 _ _ = X3 at *
  have HM : Hid (MsM w g x #[.slice An nn cn, .slice Ad nd cd] #[.int .i64 3, .int .i64 v1, .int .i64 0, .int .i64 (1 + v2), .int .i64 (10 + v3)] X3) := HM.out
  have s0 := HM.out.bx.c0
  have s1 := HM.out.bx.c1
  have s2 := HM.out.bx.c2
  have s3 := HM.out.bx.c3
  have s4 := HM.out.bx.c4
  have d0 := HM.out.b1.c0
  have y50 := HM.out.b1.frozen 0
  have d1 := HM.out.b1.c1
  have y51 := HM.out.b1.frozen 1
  have d2 := HM.out.b1.c2
  have y52 := HM.out.b1.frozen 2
  have d3 := HM.out.b1.c3
  have y53 := HM.out.b1.frozen 3
  have d4 := HM.out.b1.c4
  have y54 := HM.out.b1.frozen 4
  have HF := Lib.hid (HM.out.fin hlt)
  unfold set5 at HF
  go_wp2_with fail
  generalize World.setCell (World.setCell (World.setCell (World.setCell (World.setCell X3 _ _) _ _) _ _) _ _) _ _ = z at *
  have q0 := HF.out.1.c0
  have q1 := HF.out.1.c1
  have q2 := HF.out.1.c2
  have q3 := HF.out.1.c3
  have q4 := HF.out.1.c4
  exact bodyPost_ret (v := .agg #[.int .i64 3, .int .i64 v1, .int .i64 0, .int .i64 (1 + v2), .int .i64 (10 + v3)]) (by simp [results, Tryz.results18, go_sem, q0, q1, q2, q3, q4]) rfl ⟨_, _, _, _, _, rfl, by unfold Hid; rw [spE3, if_neg (by omega), if_neg (by omega), if_neg (by omega), if_neg (by omega)], HF.out.2.1, HF.out.2.2⟩
 ·clear hv0 hvn
  go_upto_region 2 with (fail)
  have HM : Hid (MsM w g w1.heap.size #[.slice An nn cn, .slice Ad nd cd] #[.int .i64 4, .int .i64 0, .int .i64 0, .int .i64 0, .int .i64 0] (w1.alloc (.cells #[.int .i64 4, .int .i64 0, .int .i64 0, .int .i64 0, .int .i64 0] 43))) := ⟨HC0.out.alloc _, HC1.out.alloc _, Blk.new _ _ _, HDK.out.alloc _, grown_trans HG1.out (grown_of_below ((Below.refl _ _).alloc (Nat.le_refl _) _) _)⟩
  clear HC0 HC1 HDK HG1
  generalize World.alloc w1 _ = V at *
  obtain ⟨x, hxx⟩ : ∃ x, x = w1.heap.size := ⟨_, rfl⟩
  rw [← hxx] at HM hx ⊢
  clear hxx
  have b0 := HM.out.b0.c0
  have b1 := HM.out.b0.c1
  have s0 := HM.out.bx.c0
  go_wp2_with fail
  clear b0 b1 s0
  refine (next_any g (nd : Int) V HM.out.dk (by omega)).mono ?_
  rintro e w2 ⟨v1, rfl, h01, _, hv1, hd1, hg1, hs1⟩
  have h11 := hv1.out (by omega)
  have HM := Lib.hid (HM.out.grown hg1.out hd1.out hlt hx)
  clear hv1 hd1 hg1 hs1
  have c0 := HM.out.bx.c1
  have f0 := HM.out.bx.frozen 1
  have HM := Lib.hid (HM.out.put hlt hx 1 (.int .i64 v1))
  go_upto_region 6 with (fail)
  clear c0 f0
  generalize World.setCell w2 _ _ = X1 at *
  have HM : Hid (MsM w g x #[.slice An nn cn, .slice Ad nd cd] #[.int .i64 4, .int .i64 v1, .int .i64 0, .int .i64 0, .int .i64 0] X1) := HM.out
  have b0 := HM.out.b0.c0
  have b1 := HM.out.b0.c1
  have s0 := HM.out.bx.c0
  go_wp2_with fail
  clear b0 b1 s0
  refine (next_any g 12 X1 HM.out.dk (by omega)).mono ?_
  rintro e w3 ⟨v2, rfl, h02, _, hv1, hd1, hg1, hs1⟩
  have h12 := hv1.out (by omega)
  have HM := Lib.hid (HM.out.grown hg1.out hd1.out hlt hx)
  clear hv1 hd1 hg1 hs1
  have c0 := HM.out.bx.c4
  have f0 := HM.out.bx.frozen 4
  have HM := Lib.hid (HM.out.put hlt hx 4 (.int .i64 (10 + v2)))
  go_upto_region 10 with (fail)
  clear c0 f0
  generalize World.setCell w3 _ _ = X2 at *
  have HM : Hid (MsM w g x #[.slice An nn cn, .slice Ad nd cd] #[.int .i64 4, .int .i64 v1, .int .i64 0, .int .i64 0, .int .i64 (10 + v2)] X2) := HM.out
  have s0 := HM.out.bx.c0
  have s1 := HM.out.bx.c1
  have s2 := HM.out.bx.c2
  have s3 := HM.out.bx.c3
  have s4 := HM.out.bx.c4
  have d0 := HM.out.b1.c0
  have y50 := HM.out.b1.frozen 0
  have d1 := HM.out.b1.c1
  have y51 := HM.out.b1.frozen 1
  have d2 := HM.out.b1.c2
  have y52 := HM.out.b1.frozen 2
  have d3 := HM.out.b1.c3
  have y53 := HM.out.b1.frozen 3
  have d4 := HM.out.b1.c4
  have y54 := HM.out.b1.frozen 4
  have HF := Lib.hid (HM.out.fin hlt)
  unfold set5 at HF
  go_wp2_with fail
  generalize World.setCell (World.setCell (World.setCell (World.setCell (World.setCell X2 _ _) _ _) _ _) _ _) _ _ = z at *
  have q0 := HF.out.1.c0
  have q1 := HF.out.1.c1
  have q2 := HF.out.1.c2
  have q3 := HF.out.1.c3
  have q4 := HF.out.1.c4
  exact bodyPost_ret (v := .agg #[.int .i64 4, .int .i64 v1, .int .i64 0, .int .i64 0, .int .i64 (10 + v2)]) (by simp [results, Tryz.results18, go_sem, q0, q1, q2, q3, q4]) rfl ⟨_, _, _, _, _, rfl, by unfold Hid; rw [spE4, if_neg (by omega), if_neg (by omega), if_neg (by omega)], HF.out.2.1, HF.out.2.2⟩
 ·clear hv0 hvn
  go_upto_region 2 with (fail)
  have HM : Hid (MsM w g w1.heap.size #[.slice An nn cn, .slice Ad nd cd] #[.int .i64 5, .int .i64 0, .int .i64 0, .int .i64 0, .int .i64 0] (w1.alloc (.cells #[.int .i64 5, .int .i64 0, .int .i64 0, .int .i64 0, .int .i64 0] 43))) := ⟨HC0.out.alloc _, HC1.out.alloc _, Blk.new _ _ _, HDK.out.alloc _, grown_trans HG1.out (grown_of_below ((Below.refl _ _).alloc (Nat.le_refl _) _) _)⟩
  clear HC0 HC1 HDK HG1
  generalize World.alloc w1 _ = V at *
  obtain ⟨x, hxx⟩ : ∃ x, x = w1.heap.size := ⟨_, rfl⟩
  rw [← hxx] at HM hx ⊢
  clear hxx
  have b0 := HM.out.b0.c0
  have b1 := HM.out.b0.c1
  have s0 := HM.out.bx.c0
  go_wp2_with fail
  clear b0 b1 s0
  refine (next_any g (nn : Int) V HM.out.dk (by omega)).mono ?_
  rintro e w2 ⟨v1, rfl, h01, _, hv1, hd1, hg1, hs1⟩
  have h11 := hv1.out (by omega)
  have HM := Lib.hid (HM.out.grown hg1.out hd1.out hlt hx)
  clear hv1 hd1 hg1 hs1
  have c0 := HM.out.bx.c2
  have f0 := HM.out.bx.frozen 2
  have HM := Lib.hid (HM.out.put hlt hx 2 (.int .i64 v1))
  go_upto_region 4 with (fail)
  clear c0 f0
  generalize World.setCell w2 _ _ = X1 at *
  have HM : Hid (MsM w g x #[.slice An nn cn, .slice Ad nd cd] #[.int .i64 5, .int .i64 0, .int .i64 v1, .int .i64 0, .int .i64 0] X1) := HM.out
  have s0 := HM.out.bx.c0
  have s1 := HM.out.bx.c1
  have s2 := HM.out.bx.c2
  have s3 := HM.out.bx.c3
  have s4 := HM.out.bx.c4
  have d0 := HM.out.b1.c0
  have y50 := HM.out.b1.frozen 0
  have d1 := HM.out.b1.c1
  have y51 := HM.out.b1.frozen 1
  have d2 := HM.out.b1.c2
  have y52 := HM.out.b1.frozen 2
  have d3 := HM.out.b1.c3
  have y53 := HM.out.b1.frozen 3
  have d4 := HM.out.b1.c4
  have y54 := HM.out.b1.frozen 4
  have HF := Lib.hid (HM.out.fin hlt)
  unfold set5 at HF
  go_wp2_with fail
  generalize World.setCell (World.setCell (World.setCell (World.setCell (World.setCell X1 _ _) _ _) _ _) _ _) _ _ = z at *
  have q0 := HF.out.1.c0
  have q1 := HF.out.1.c1
  have q2 := HF.out.1.c2
  have q3 := HF.out.1.c3
  have q4 := HF.out.1.c4
  exact bodyPost_ret (v := .agg #[.int .i64 5, .int .i64 0, .int .i64 v1, .int .i64 0, .int .i64 0]) (by simp [results, Tryz.results18, go_sem, q0, q1, q2, q3, q4]) rfl ⟨_, _, _, _, _, rfl, by unfold Hid; rw [spE5, if_neg (by omega), if_neg (by omega)], HF.out.2.1, HF.out.2.2⟩
 ·clear hv0 hvn
  go_upto_region 2 with (fail)
  have HM : Hid (MsM w g w1.heap.size #[.slice An nn cn, .slice Ad nd cd] #[.int .i64 6, .int .i64 0, .int .i64 0, .int .i64 0, .int .i64 0] (w1.alloc (.cells #[.int .i64 6, .int .i64 0, .int .i64 0, .int .i64 0, .int .i64 0] 43))) := ⟨HC0.out.alloc _, HC1.out.alloc _, Blk.new _ _ _, HDK.out.alloc _, grown_trans HG1.out (grown_of_below ((Below.refl _ _).alloc (Nat.le_refl _) _) _)⟩
  clear HC0 HC1 HDK HG1
  generalize World.alloc w1 _ = V at *
  obtain ⟨x, hxx⟩ : ∃ x, x = w1.heap.size := ⟨_, rfl⟩
  rw [← hxx] at HM hx ⊢
  clear hxx
  have b0 := HM.out.b0.c0
  have b1 := HM.out.b0.c1
  have s0 := HM.out.bx.c0
  go_wp2_with fail
  clear b0 b1 s0
  refine (next_any g (nd : Int) V HM.out.dk (by omega)).mono ?_
  rintro e w2 ⟨v1, rfl, h01, _, hv1, hd1, hg1, hs1⟩
  have h11 := hv1.out (by omega)
  have HM := Lib.hid (HM.out.grown hg1.out hd1.out hlt hx)
  clear hv1 hd1 hg1 hs1
  have c0 := HM.out.bx.c1
  have f0 := HM.out.bx.frozen 1
  have HM := Lib.hid (HM.out.put hlt hx 1 (.int .i64 v1))
  go_upto_region 6 with (fail)
  clear c0 f0
  generalize World.setCell w2 _ _ = X1 at *
  have HM : Hid (MsM w g x #[.slice An nn cn, .slice Ad nd cd] #[.int .i64 6, .int .i64 v1, .int .i64 0, .int .i64 0, .int .i64 0] X1) := HM.out
  have b0 := HM.out.b0.c0
  have b1 := HM.out.b0.c1
  have s0 := HM.out.bx.c0
  go_wp2_with fail
  clear b0 b1 s0
  refine (next_any g 2 X1 HM.out.dk (by omega)).mono ?_
  rintro e w3 ⟨v2, rfl, h02, _, hv1, hd1, hg1, hs1⟩
  have h12 := hv1.out (by omega)
  have HM := Lib.hid (HM.out.grown hg1.out hd1.out hlt hx)
  clear hv1 hd1 hg1 hs1
  have c0 := HM.out.bx.c3
  have f0 := HM.out.bx.frozen 3
  have HM := Lib.hid (HM.out.put hlt hx 3 (.int .i64 (1 + v2)))
  go_upto_region 8 with (fail)
  clear c0 f0
  generalize World.setCell w3 _ _ = X2 at *
  have HM : Hid (MsM w g x #[.slice An nn cn, .slice Ad nd cd] #[.int .i64 6, .int .i64 v1, .int .i64 0, .int .i64 (1 + v2), .int .i64 0] X2) := HM.out
  have s0 := HM.out.bx.c0
  have s1 := HM.out.bx.c1
  have s2 := HM.out.bx.c2
  have s3 := HM.out.bx.c3
  have s4 := HM.out.bx.c4
  have d0 := HM.out.b1.c0
  have y50 := HM.out.b1.frozen 0
  have d1 := HM.out.b1.c1
  have y51 := HM.out.b1.frozen 1
  have d2 := HM.out.b1.c2
  have y52 := HM.out.b1.frozen 2
  have d3 := HM.out.b1.c3
  have y53 := HM.out.b1.frozen 3
  have d4 := HM.out.b1.c4
  have y54 := HM.out.b1.frozen 4
  have HF := Lib.hid (HM.out.fin hlt)
  unfold set5 at HF
  go_wp2_with fail
  generalize World.setCell (World.setCell (World.setCell (World.setCell (World.setCell X2 _ _) _ _) _ _) _ _) _ _ = z at *
  have q0 := HF.out.1.c0
  have q1 := HF.out.1.c1
  have q2 := HF.out.1.c2
  have q3 := HF.out.1.c3
  have q4 := HF.out.1.c4
  exact bodyPost_ret (v := .agg #[.int .i64 6, .int .i64 v1, .int .i64 0, .int .i64 (1 + v2), .int .i64 0]) (by simp [results, Tryz.results18, go_sem, q0, q1, q2, q3, q4]) rfl ⟨_, _, _, _, _, rfl, by unfold Hid; rw [spE6, if_neg (by omega), if_neg (by omega), if_neg (by omega)], HF.out.2.1, HF.out.2.2⟩
end Go.Proofs.YtkkobemhbicjgaaGreatDoor
namespace Go.Proofs.YtkkobemhbicjgaaGreatDoor
open Go.RowKit
theorem el_step : ElemI Tryz.prog 39 43 5 40 := ElemI.mk' (z := .agg #[.int .i64 0, .int .i64 0, .int .i64 0, .int .i64 0, .int .i64 0]) Tryz.underlying39 (by kernel_rfl) rfl (by decide)
def StepsO (w : World) (base : Nat) (A : Option Addr) (n c : Nat) (xs : List Sp) : Prop := w.ownsRow base 43 5 (.slice A n c) n (xs.flatMap Sp.cells)
theorem StepsO.len {w : World} {base : Nat} {A : Option Addr} {n c : Nat} {xs : List Sp} (h : StepsO w base A n c xs) : xs.length = n := (Sl.of_own h).len (fun _ => rfl) (by decide)
structure MpM (w : World) (g x : Nat) (nt : Array Value) (nm : ByteArray) (A : Option Addr) (n c : Nat) (xs : List Sp) (wr : World) : Prop where
 b0 : Blk wr w.heap.size 30 nt
 b1 : Blk wr (w.heap.size + 1) 41 #[.string ⟨#[]⟩, .slice none 0 0]
 bx : Blk wr x 41 #[.string nm, .slice A n c]
 dk : DeckAt wr g
 gr : w.grownBy wr (some g)
 o : wr.ownsRow (x + 1) 43 5 (.slice A n c) n (xs.flatMap Sp.cells)
 hx : w.heap.size + 1 < x
section
variable {w wr wr' : World} {g x : Nat} {nt : Array Value} {nm : ByteArray} {A A' : Option Addr} {n c c' : Nat} {xs : List Sp} {f : Sp}
theorem MpM.grown (h : MpM w g x nt nm A n c xs wr) (hg : wr.grownBy wr' (some g)) (hd : DeckAt wr' g) (h0 : g < w.heap.size) : MpM w g x nt nm A n c xs wr' :=
 have := h.hx
 ⟨h.b0.grown hg (fun e => by injection e with e; omega), h.b1.grown hg (fun e => by injection e with e; omega), h.bx.grown hg (fun e => by injection e with e; omega), hd, grown_trans h.gr hg, h.o.kept hg (ne_row fun b e => by have := (h.o.lt b e).1; omega), h.hx⟩
theorem MpM.later (h : MpM w g x nt nm A n c xs wr) (hb : Below wr.heap.size wr wr') : MpM w g x nt nm A n c xs wr' :=
 ⟨h.b0.below hb h.b0.lt, h.b1.below hb h.b1.lt, h.bx.below hb h.bx.lt, h.dk.below hb h.dk.lt, grown_then h.gr (hb.mono h.gr.size), own_later h.o hb, h.hx⟩
theorem MpM.app (h : MpM w g x nt nm A n c xs wr) (hg : wr.grownBy wr' (Value.slice A n c).ownBlock) (hr : wr'.ownsRow (x + 1) 43 5 (.slice A' (n + 1) c') (n + 1) (xs.flatMap Sp.cells ++ f.cells)) (h0 : g < w.heap.size) :
 Blk wr' x 41 #[.string nm, .slice A n c] ∧ Blk wr' w.heap.size 30 nt ∧ MpM w g x nt nm A' (n + 1) c' (xs ++ [f]) (wr'.setCell ⟨x, 1, none⟩ (.slice A' (n + 1) c')) := by
 have hx := h.hx
 have nb : ∀ {b : Nat}, b ≤ x → some b ≠ (Value.slice A n c).ownBlock := fun {b} hb e => by have := (h.o.lt b e.symm).1; omega
 have hB : Below w.heap.size w w := Below.refl _ _
 refine ⟨h.bx.grown hg (nb (Nat.le_refl _)), h.b0.grown hg (nb (by omega)), (h.b0.grown hg (nb (by omega))).far (by show w.heap.size ≠ x; omega) _, (h.b1.grown hg (nb (by omega))).far (by show w.heap.size + 1 ≠ x; omega) _, (h.bx.grown hg (nb (Nat.le_refl _))).set 1 _, ?_, ?_, ?_, hx⟩
 ·exact (h.dk.grown hg (fun k e => by have := (h.o.lt k e).1; omega)).setCell (p := ⟨x, 1, none⟩) (by show g < x; omega) _
 ·have hb : Below w.heap.size wr wr' := ⟨hg.os, hg.tape, hg.output, hg.size, fun i hi => hg.block i (Nat.lt_of_lt_of_le hi h.gr.size) (nb (by omega))⟩
  exact grown_then h.gr (hb.setCell (by show w.heap.size ≤ x; omega) _)
 ·rw [List.flatMap_append, List.flatMap_cons, List.flatMap_nil, List.append_nil]
  exact hr.kept (grown_cell _ _ _) (ne_row fun b e => by have := (hr.lt b e).1; simp; omega)
theorem MpM.fin (h : MpM w g x nt nm A n c xs wr) (h0 : g < w.heap.size) : StepsO ((wr.setCell ⟨w.heap.size + 1, 0, none⟩ (.string nm)).setCell ⟨w.heap.size + 1, 1, none⟩ (.slice A n c)) w.heap.size A n c xs ∧ DeckAt ((wr.setCell ⟨w.heap.size + 1, 0, none⟩ (.string nm)).setCell ⟨w.heap.size + 1, 1, none⟩ (.slice A n c)) g ∧ w.grownBy ((wr.setCell ⟨w.heap.size + 1, 0, none⟩ (.string nm)).setCell ⟨w.heap.size + 1, 1, none⟩ (.slice A n c)) (some g) := by
 have hx := h.hx
 exact ⟨(ownF (ownF h.o (by omega)) (by omega)).mono (by omega), (h.dk.setCell (p := ⟨w.heap.size + 1, 0, none⟩) (by simp; omega) _).setCell (p := ⟨w.heap.size + 1, 1, none⟩) (by simp; omega) _, grown_set (grown_set h.gr (p := ⟨w.heap.size + 1, 0, none⟩) (by simp) _) (p := ⟨w.heap.size + 1, 1, none⟩) (by simp) _⟩
end
end Go.Proofs.YtkkobemhbicjgaaGreatDoor
namespace Go.Proofs.YtkkobemhbicjgaaGreatDoor
open Go.RowKit
structure LmM (w : World) (nb gb pb : Nat) (An Ad As Al Ap Ax : Option Addr) (nn cn nd cd cs nl cl np cp nx cx : Nat) (ns : List Nd) (ds : List Dv) (m : List Int) (ls : List Lk) (pr : List Int) (co : Int) (nm : ByteArray) (xs : List Sp) (wr : World) : Prop where
 n : LwN w nb An nn cn ns Ad nd cd ds wr
 s : Sl wr wr.heap.size 1 As nd cs (intsV m)
 g : Blk wr gb 37 #[.int .i64 co, .slice Al nl cl, .slice Ap np cp]
 l : Sl wr wr.heap.size 3 Al nl cl (ls.flatMap Lk.cells)
 r : Sl wr wr.heap.size 1 Ap np cp (intsV pr)
 p : Blk wr pb 41 #[.string nm, .slice Ax nx cx]
 x : Sl wr wr.heap.size 5 Ax nx cx (xs.flatMap Sp.cells)
section
variable {w wr wr' : World} {nb gb pb rb : Nat} {An Ad As Al Ap Ax : Option Addr} {nn cn nd cd cs nl cl np cp nx cx : Nat} {ns : List Nd} {ds : List Dv} {m : List Int} {ls : List Lk} {pr : List Int} {co : Int} {nm : ByteArray} {xs : List Sp}
theorem LmM.later (h : LmM w nb gb pb An Ad As Al Ap Ax nn cn nd cd cs nl cl np cp nx cx ns ds m ls pr co nm xs wr) (hb : Below wr.heap.size wr wr') : LmM w nb gb pb An Ad As Al Ap Ax nn cn nd cd cs nl cl np cp nx cx ns ds m ls pr co nm xs wr' :=
 ⟨h.n.later hb, (h.s.below hb (Nat.le_refl _)).more hb.size, h.g.below hb h.g.lt, (h.l.below hb (Nat.le_refl _)).more hb.size, (h.r.below hb (Nat.le_refl _)).more hb.size, h.p.below hb h.p.lt, (h.x.below hb (Nat.le_refl _)).more hb.size⟩
theorem LmM.mem {A : Option Addr} {n c : Nat} {s : List Int} (h : LmM w nb gb pb An Ad As Al Ap Ax nn cn nd cd cs nl cl np cp nx cx ns ds m ls pr co nm xs wr) (hn : (∀ x ∈ ns, x.name.size ≤ 9223372036854775807) ∧ ∀ x ∈ ds, x.name.size ≤ 9223372036854775807) (hm : nm.size ≤ 9223372036854775807) (hs : Sl wr wr.heap.size 1 A n c (intsV s)) :
 SmMem wr An Ad A Al Ap Ax nn cn nd cd n c nl cl np cp nx cx ns ds s ls pr nm xs :=
 ⟨⟨h.n.hn.1, h.n.hd.1, hs, h.l, h.r, h.n.la, hn.1, hn.2⟩, h.x, hm⟩
structure LmW (w : World) (nb gb pb rb : Nat) (An Ad As Al Ap Ax : Option Addr) (nn cn nd cd cs nl cl np cp nx cx : Nat) (ns : List Nd) (ds : List Dv) (m : List Int) (ls : List Lk) (pr : List Int) (co : Int) (nm : ByteArray) (xs : List Sp) (A1 A2 A3 A4 : Option Addr) (n1 c1 n2 c2 n3 c3 n4 c4 : Nat) (o : List Fn) (t : Sm) (wr : World) : Prop where
 z : LmM w nb gb pb An Ad As Al Ap Ax nn cn nd cd cs nl cl np cp nx cx ns ds m ls pr co nm xs wr
 b : Blk wr rb 47 #[.slice A1 n1 c1, .slice A2 n2 c2, .int .i64 co, .slice A3 n3 c3, .slice A4 n4 c4]
 o : RnAt wr A1 A2 A3 A4 n1 c1 n2 c2 n3 c3 n4 c4 o t
theorem LmW.later {A1 A2 A3 A4 : Option Addr} {n1 c1 n2 c2 n3 c3 n4 c4 : Nat} {o : List Fn} {t : Sm} (h : LmW w nb gb pb rb An Ad As Al Ap Ax nn cn nd cd cs nl cl np cp nx cx ns ds m ls pr co nm xs A1 A2 A3 A4 n1 c1 n2 c2 n3 c3 n4 c4 o t wr) (hb : Below wr.heap.size wr wr') :
 LmW w nb gb pb rb An Ad As Al Ap Ax nn cn nd cd cs nl cl np cp nx cx ns ds m ls pr co nm xs A1 A2 A3 A4 n1 c1 n2 c2 n3 c3 n4 c4 o t wr' :=
 ⟨h.z.later hb, h.b.below hb h.b.lt, h.o.later8 hb⟩
end
theorem any_snc {α : Type} {fs : List α} {i : Nat} {x : α} {p : α → Bool} (h : fs[i]? = some x) : (fs.take (i + 1)).any p = ((fs.take i).any p || p x) := by rw [take_snoc h]; simp
def FdR (M : World → Prop) (n gk : Nat) (iv : Value) (wr : World) : Prop := ∃ i : Nat, iv = .int .i64 i ∧ i ≤ n ∧ gk = n - i ∧ Hid (M wr)
def FdH {α : Type} (M : World → Prop) (U : Bool) (fs : List α) (p : α → Bool) (n gk : Nat) (iv hv : Value) (wr : World) : Prop := ∃ i : Nat, iv = .int .i64 i ∧ i ≤ n ∧ gk = n - i ∧ hv = .bool (U || (fs.take i).any p) ∧ Hid (M wr)
theorem dec_it {p : Prop} {h : Decidable p} (hp : p) : @decide p h = true := decide_eq_true hp
end Go.Proofs.YtkkobemhbicjgaaGreatDoor
