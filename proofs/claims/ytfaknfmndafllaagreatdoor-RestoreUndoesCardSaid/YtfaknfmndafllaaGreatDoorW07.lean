import Derived.Test.YtfaknfmndafllaaGreatDoorW04
import Derived.Shelf.Abstract
import Derived.Test.YtfaknfmndafllaaGreatDoorW06
import Derived.Test.YtfaknfmndafllaaGreatDoorW05
set_option maxRecDepth 100000
set_option maxHeartbeats 8000000
namespace Go.Proofs.YtfaknfmndafllaaGreatDoor
def shutB (s : List Int) (i : Nat) : Bool := s.getD i 0 == 2
def Conn (ds : List Dv) (s : List Int) (u v : Int) : Prop := Rch ds (shutB s) (fun _ => false) [u] v
theorem acr_sym {x : Dv} {u : Int} (h : 0 ≤ acrB x u) : acrB x (acrB x u) = u := by
 unfold acrB at h ⊢
 by_cases hj : joinsB x.kind = false
 ·rw [if_pos hj] at h; omega
 ·simp only [if_neg hj] at h ⊢
  by_cases h1 : x.a = u
  ·simp only [if_pos h1]
   by_cases h2 : x.a = x.b
   ·rw [if_pos h2]; omega
   ·rw [if_neg h2]; simpa using h1
  ·simp only [if_neg h1] at h ⊢
   by_cases h2 : x.b = u
   ·simp only [if_pos h2, if_true]; exact h2
   ·simp only [if_neg h2] at h; omega
section
variable {ds : List Dv} {s : List Int} {u v t : Int} {nn : Nat}
theorem Conn.refl (ds : List Dv) (s : List Int) (u : Int) : Conn ds s u u := .base (List.mem_singleton.2 rfl)
theorem Conn.trans (h : Conn ds s u v) (k : Conn ds s v t) : Conn ds s u t := by
 unfold Conn at k
 induction k with
 | base hv => rw [List.mem_singleton.1 hv]; exact h
 | step _ hs hx hU h0 ih => exact .step ih hs hx hU h0
theorem Conn.nonneg (hu : 0 ≤ u) (h : Conn ds s u v) : 0 ≤ v := by
 unfold Conn at h
 cases h with
 | base hv => rw [List.mem_singleton.1 hv]; exact hu
 | step _ _ _ _ h0 => exact h0
theorem Conn.lt (he : EndsOk nn ds) (hu : u < nn) (h : Conn ds s u v) : v < nn := by
 unfold Conn at h
 cases h with
 | base hv => rw [List.mem_singleton.1 hv]; exact hu
 | step _ _ hx _ h0 => exact acr_lt he hx _ h0
theorem Conn.edge {i : Nat} {x : Dv} (hx : ds[i]? = some x) (hc : shutB s i = true) (h0 : 0 ≤ acrB x u) : Conn ds s u (acrB x u) := .step (Conn.refl ds s u) rfl hx hc h0
theorem Conn.sym (hu : 0 ≤ u) (h : Conn ds s u v) : Conn ds s v u := by
 unfold Conn at h
 induction h with
 | base hv => rw [List.mem_singleton.1 hv]; exact Conn.refl _ _ _
 | step hr _ hx hU h0 ih =>
  rename_i a i x _
  have ha : 0 ≤ a := Conn.nonneg hu hr
  have := Conn.edge (s := s) (u := acrB x a) hx hU (by rw [acr_sym h0]; exact ha)
  rw [acr_sym h0] at this
  exact this.trans ih
end
def IsParts (nn : Nat) (ds : List Dv) (s out : List Int) : Prop := out.length = nn ∧ ∀ v : Nat, v < nn → ∃ p : Nat, out[v]? = some (p : Int) ∧ p ≤ v ∧ Conn ds s p v ∧ ∀ u : Nat, u < nn → Conn ds s u v → p ≤ u
section
variable {nn : Nat} {ds : List Dv} {s out a b : List Int}
theorem IsParts.unique (h : IsParts nn ds s a) (k : IsParts nn ds s b) : a = b := by
 apply List.ext_getElem?
 intro v
 by_cases hv : v < nn
 ·obtain ⟨p, h1, h2, h3, h4⟩ := h.2 v hv
  obtain ⟨q, k1, k2, k3, k4⟩ := k.2 v hv
  have := h4 q (by omega) k3
  have := k4 p (by omega) h3
  rw [h1, k1, show p = q by omega]
 ·rw [List.getElem?_eq_none (by rw [h.1]; omega), List.getElem?_eq_none (by rw [k.1]; omega)]
theorem IsParts.iff (h : IsParts nn ds s out) {u v : Nat} (hu : u < nn) (hv : v < nn) : out[u]? = out[v]? ↔ Conn ds s u v := by
 obtain ⟨p, h1, h2, h3, h4⟩ := h.2 u hu
 obtain ⟨q, k1, k2, k3, k4⟩ := h.2 v hv
 rw [h1, k1]
 constructor
 ·intro e
  have : p = q := by injection e with e; omega
  subst this
  exact (h3.sym (by omega)).trans k3
 ·intro e
  have e' := e.sym (by omega)
  have a1 := k4 p (by omega) (h3.trans e)
  have a2 := h4 q (by omega) (k3.trans e')
  rw [show p = q by omega]
def PInv (nn : Nat) (ds : List Dv) (s : List Int) (v : Nat) (out : List Int) : Prop :=
 out.length = nn ∧ ∀ t : Nat, t < nn → (out[t]? = some (-1) ∧ ∀ u : Nat, u < v → ¬ Conn ds s u t) ∨ ∃ p : Nat, out[t]? = some (p : Int) ∧ p < v ∧ p ≤ t ∧ Conn ds s p t ∧ ∀ u : Nat, u < nn → Conn ds s u t → p ≤ u
theorem PInv.start (nn : Nat) (ds : List Dv) (s : List Int) : PInv nn ds s 0 (List.replicate nn (-1)) :=
 ⟨List.length_replicate, fun t ht => .inl ⟨by rw [List.getElem?_replicate, if_pos ht], fun u hu => absurd hu (by omega)⟩⟩
theorem PInv.skip {v : Nat} {x : Int} (h : PInv nn ds s v out) (hx : out[v]? = some x) (h0 : 0 ≤ x) : PInv nn ds s (v + 1) out := by
 have hv : v < nn := by rw [← h.1]; exact (List.getElem?_eq_some_iff.1 hx).1
 refine ⟨h.1, fun t ht => ?_⟩
 rcases h.2 t ht with ⟨h1, h2⟩ | ⟨p, h1, h2, h3⟩
 ·refine .inl ⟨h1, fun u hu hc => ?_⟩
  rcases Nat.lt_succ_iff_lt_or_eq.1 hu with hu | rfl
  ·exact h2 u hu hc
  ·rcases h.2 u hv with ⟨k1, _⟩ | ⟨q, k1, k2, _, k3, _⟩
   ·rw [hx] at k1; injection k1; omega
   ·exact h2 q k2 (k3.trans hc)
 ·exact .inr ⟨p, h1, by omega, h3⟩
theorem PInv.flood {v : Nat} {x : Int} {out' : List Int} (h : PInv nn ds s v out) (hx : out[v]? = some x) (h0 : x < 0) (hl : out'.length = out.length) (hu : ∀ y : Nat, y < nn → (Conn ds s v y → out'[y]? = some (v : Int)) ∧ (¬ Conn ds s v y → out'[y]? = out[y]?)) : PInv nn ds s (v + 1) out' := by
 have hv : v < nn := by rw [← h.1]; exact (List.getElem?_eq_some_iff.1 hx).1
 have hno : ∀ u : Nat, u < v → ¬ Conn ds s u v := by
  rcases h.2 v hv with ⟨_, h2⟩ | ⟨p, h1, _⟩
  ·exact h2
  ·rw [hx] at h1; injection h1; omega
 refine ⟨hl.trans h.1, fun t ht => ?_⟩
 by_cases hc : Conn ds s v t
 ·have hc' := hc.sym (by omega)
  have hle : ∀ u : Nat, u < nn → Conn ds s u t → v ≤ u := fun u _ hut => by
   rcases Nat.lt_or_ge u v with h1 | h1
   ·exact absurd (hut.trans hc') (hno u h1)
   ·exact h1
  exact .inr ⟨v, (hu t ht).1 hc, by omega, hle t ht (Conn.refl _ _ _), hc, hle⟩
 ·rw [(hu t ht).2 hc]
  rcases h.2 t ht with ⟨h1, h2⟩ | ⟨p, h1, h2, h3⟩
  ·refine .inl ⟨h1, fun u hu hcu => ?_⟩
   rcases Nat.lt_succ_iff_lt_or_eq.1 hu with hu | rfl
   ·exact h2 u hu hcu
   ·exact hc hcu
  ·exact .inr ⟨p, h1, by omega, h3⟩
theorem PInv.final (h : PInv nn ds s nn out) : IsParts nn ds s out := by
 refine ⟨h.1, fun v hv => ?_⟩
 rcases h.2 v hv with ⟨_, h2⟩ | ⟨p, h1, _, h2, h3⟩
 ·exact absurd (Conn.refl _ _ _) (h2 v hv)
 ·exact ⟨p, h1, h2, h3⟩
end
def Upd (out : List Int) (l : List Bool) (v : Int) (w : Nat) (out' : List Int) : Prop := out'.length = out.length ∧ ∀ y : Nat, y < out.length → out'[y]? = if y < w ∧ l[y]? = some true then some v else out[y]?
section
variable {out out' : List Int} {l : List Bool} {v : Int} {w : Nat}
theorem Upd.start (out : List Int) (l : List Bool) (v : Int) : Upd out l v 0 out := ⟨rfl, fun y _ => by rw [if_neg (by omega)]⟩
theorem Upd.pass (h : Upd out l v w out') (hl : l[w]? = some false) : Upd out l v (w + 1) out' := by
 refine ⟨h.1, fun y hyl => ?_⟩
 rw [h.2 y hyl]
 by_cases hy : y = w
 ·subst hy; rw [if_neg (by omega), if_neg (by rw [hl]; simp)]
 ·by_cases hb : y < w ∧ l[y]? = some true
  ·rw [if_pos hb, if_pos (And.intro (by omega) hb.2)]
  ·rw [if_neg hb, if_neg (fun hc => hb (And.intro (by omega) hc.2))]
theorem Upd.put (h : Upd out l v w out') (hl : l[w]? = some true) : Upd out l v (w + 1) (out'.set w v) := by
 refine ⟨by rw [List.length_set]; exact h.1, fun y hyl => ?_⟩
 rw [List.getElem?_set]
 by_cases hy : w = y
 ·subst hy; rw [if_pos rfl, if_pos (by rw [h.1]; exact hyl), if_pos (And.intro (by omega) hl)]
 ·rw [if_neg hy, h.2 y hyl]
  by_cases hb : y < w ∧ l[y]? = some true
  ·rw [if_pos hb, if_pos (And.intro (by omega) hb.2)]
  ·rw [if_neg hb, if_neg (fun hc => hb (And.intro (by omega) hc.2))]
end
theorem rep_set (n i : Nat) (l : List Int) (hl : l.length = n) (h : ∀ j, j < i → l[j]? = some (-1)) (hi : i < n) : ∀ j, j < i + 1 → (l.set i (-1))[j]? = some (-1 : Int) := by
 intro j hj
 rw [List.getElem?_set]
 split
 ·rw [if_pos (by omega)]
 ·exact h j (by omega)
theorem rep_all (n : Nat) (l : List Int) (hl : l.length = n) (h : ∀ j, j < n → l[j]? = some (-1)) : l = List.replicate n (-1 : Int) := by
 apply List.ext_getElem?
 intro j
 by_cases hj : j < n
 ·rw [h j hj, List.getElem?_replicate, if_pos hj]
 ·rw [List.getElem?_eq_none (by omega), List.getElem?_replicate, if_neg hj]
def liveK (k : Int) : Prop := k = 5 ∨ k = 6
def hasTo (K : Int → Prop) (parts : List Int) (ds : List Dv) (s : List Int) (j : Nat) (p : Int) : Prop := ∃ (i : Nat) (x : Dv), i < j ∧ ds[i]? = some x ∧ s[i]? = some 2 ∧ K x.kind ∧ parts[x.a.toNat]? = some p
open Classical in
noncomputable def ind (P : Prop) (n : Int) : Int := if P then n else 0
theorem ind_pos {P : Prop} (h : P) (n : Int) : ind P n = n := if_pos h
theorem ind_neg {P : Prop} (h : ¬ P) (n : Int) : ind P n = 0 := if_neg h
theorem ind_congr {P Q : Prop} (h : P ↔ Q) (n : Int) : ind P n = ind Q n := by rw [propext h]
theorem ind_cases (P : Prop) (n : Int) : (P ∧ ind P n = n) ∨ (¬ P ∧ ind P n = 0) := by
 by_cases h : P
 ·exact .inl ⟨h, ind_pos h n⟩
 ·exact .inr ⟨h, ind_neg h n⟩
noncomputable def bitsTo (parts : List Int) (ds : List Dv) (s : List Int) (j : Nat) (p : Int) : Int := ind (hasTo liveK parts ds s j p) 1 + ind (hasTo (· = 4) parts ds s j p) 2
def HasK (K : Int → Prop) (ds : List Dv) (s : List Int) (v : Int) : Prop := ∃ (i : Nat) (x : Dv), ds[i]? = some x ∧ s[i]? = some 2 ∧ K x.kind ∧ Conn ds s x.a v
noncomputable def colV (ds : List Dv) (s : List Int) (v : Int) : Int := ind (HasK liveK ds s v) 1 + ind (HasK (· = 4) ds s v) 2
def IsCols (nn : Nat) (ds : List Dv) (s c : List Int) : Prop := c.length = nn ∧ ∀ v : Nat, v < nn → c[v]? = some (colV ds s v)
def AOk (nn : Nat) (ds : List Dv) : Prop := ∀ x ∈ ds, 0 ≤ x.a ∧ x.a < nn
section
variable {K : Int → Prop} {parts s : List Int} {ds : List Dv} {j nn : Nat} {p : Int} {x : Dv}
theorem hasTo_zero : ¬ hasTo K parts ds s 0 p := by rintro ⟨i, x, hi, _⟩; omega
theorem hasTo_succ (hx : ds[j]? = some x) : hasTo K parts ds s (j + 1) p ↔ hasTo K parts ds s j p ∨ (s[j]? = some 2 ∧ K x.kind ∧ parts[x.a.toNat]? = some p) := by
 constructor
 ·rintro ⟨i, y, hi, hy, h1, h2, h3⟩
  rcases Nat.lt_succ_iff_lt_or_eq.1 hi with hi | rfl
  ·exact .inl ⟨i, y, hi, hy, h1, h2, h3⟩
  ·obtain rfl : y = x := Option.some.inj (hy.symm.trans hx)
   exact .inr ⟨h1, h2, h3⟩
 ·rintro (⟨i, y, hi, hr⟩ | hr)
  ·exact ⟨i, y, by omega, hr⟩
  ·exact ⟨j, x, by omega, hx, hr⟩
theorem bits_zero : bitsTo parts ds s 0 p = 0 := by unfold bitsTo; rw [ind_neg hasTo_zero, ind_neg hasTo_zero]; rfl
theorem bits_same (hx : ds[j]? = some x) (h : ∀ K : Int → Prop, (K = liveK ∨ K = (· = 4)) → ¬ (s[j]? = some 2 ∧ K x.kind ∧ parts[x.a.toNat]? = some p)) : bitsTo parts ds s (j + 1) p = bitsTo parts ds s j p := by
 unfold bitsTo
 rw [ind_congr ((hasTo_succ hx).trans ⟨fun e => e.elim id (fun e => absurd e (h liveK (.inl rfl))), .inl⟩), ind_congr ((hasTo_succ hx).trans ⟨fun e => e.elim id (fun e => absurd e (h (· = 4) (.inr rfl))), .inl⟩)]
theorem bits_range : bitsTo parts ds s j p = 0 ∨ bitsTo parts ds s j p = 1 ∨ bitsTo parts ds s j p = 2 ∨ bitsTo parts ds s j p = 3 := by
 unfold bitsTo
 rcases ind_cases (hasTo liveK parts ds s j p) 1 with ⟨_, e⟩ | ⟨_, e⟩ <;> rcases ind_cases (hasTo (· = 4) parts ds s j p) 2 with ⟨_, f⟩ | ⟨_, f⟩ <;> rw [e, f] <;> simp
theorem bits_earth (hx : ds[j]? = some x) (hs : s[j]? = some 2) (hk : x.kind = 4) (hp : parts[x.a.toNat]? = some p) : (bitsTo parts ds s j p = 0 → bitsTo parts ds s (j + 1) p = 2) ∧ (bitsTo parts ds s j p = 1 → bitsTo parts ds s (j + 1) p = 3) ∧ (bitsTo parts ds s j p = 2 → bitsTo parts ds s (j + 1) p = 2) ∧ (bitsTo parts ds s j p = 3 → bitsTo parts ds s (j + 1) p = 3) := by
 have h4 : hasTo (· = 4) parts ds s (j + 1) p := (hasTo_succ hx).2 (.inr ⟨hs, hk, hp⟩)
 have hl : hasTo liveK parts ds s (j + 1) p ↔ hasTo liveK parts ds s j p := by
  rw [hasTo_succ hx]
  exact ⟨fun h => h.elim id (fun h => by have := h.2.1; unfold liveK at this; omega), .inl⟩
 unfold bitsTo
 rw [ind_pos h4, ind_congr hl]
 rcases ind_cases (hasTo liveK parts ds s j p) 1 with ⟨_, e⟩ | ⟨_, e⟩ <;> rcases ind_cases (hasTo (· = 4) parts ds s j p) 2 with ⟨_, f⟩ | ⟨_, f⟩ <;> rw [e, f] <;> simp
theorem bits_live (hx : ds[j]? = some x) (hs : s[j]? = some 2) (hk : liveK x.kind) (hp : parts[x.a.toNat]? = some p) : (bitsTo parts ds s j p = 0 → bitsTo parts ds s (j + 1) p = 1) ∧ (bitsTo parts ds s j p = 1 → bitsTo parts ds s (j + 1) p = 1) ∧ (bitsTo parts ds s j p = 2 → bitsTo parts ds s (j + 1) p = 3) ∧ (bitsTo parts ds s j p = 3 → bitsTo parts ds s (j + 1) p = 3) := by
 have h4 : hasTo liveK parts ds s (j + 1) p := (hasTo_succ hx).2 (.inr ⟨hs, hk, hp⟩)
 have hl : hasTo (· = 4) parts ds s (j + 1) p ↔ hasTo (· = 4) parts ds s j p := by
  rw [hasTo_succ hx]
  exact ⟨fun h => h.elim id (fun h => by have := h.2.1; unfold liveK at hk; omega), .inl⟩
 unfold bitsTo
 rw [ind_pos h4, ind_congr hl]
 rcases ind_cases (hasTo liveK parts ds s j p) 1 with ⟨_, e⟩ | ⟨_, e⟩ <;> rcases ind_cases (hasTo (· = 4) parts ds s j p) 2 with ⟨_, f⟩ | ⟨_, f⟩ <;> rw [e, f] <;> simp
theorem has_iff (hp : IsParts nn ds s parts) (ha : AOk nn ds) {v : Nat} (hv : v < nn) {q : Int} (hq : parts[v]? = some q) : hasTo K parts ds s ds.length q ↔ HasK K ds s v := by
 constructor
 ·rintro ⟨i, x, _, hx, h1, h2, h3⟩
  have hax := ha x (List.mem_of_getElem? hx)
  obtain ⟨a, hae⟩ := Int.eq_ofNat_of_zero_le hax.1
  refine ⟨i, x, hx, h1, h2, ?_⟩
  rw [hae] at h3 ⊢
  exact (hp.iff (by omega) hv).1 (by rw [hq]; exact h3)
 ·rintro ⟨i, x, hx, h1, h2, h3⟩
  have hax := ha x (List.mem_of_getElem? hx)
  obtain ⟨a, hae⟩ := Int.eq_ofNat_of_zero_le hax.1
  refine ⟨i, x, (List.getElem?_eq_some_iff.1 hx).1, hx, h1, h2, ?_⟩
  rw [hae] at h3 ⊢
  have := (hp.iff (by omega) hv).2 h3
  rw [hq] at this
  exact this
theorem bits_col (hp : IsParts nn ds s parts) (ha : AOk nn ds) {v : Nat} (hv : v < nn) {q : Int} (hq : parts[v]? = some q) : bitsTo parts ds s ds.length q = colV ds s v := by
 unfold bitsTo colV
 rw [ind_congr (has_iff hp ha hv hq), ind_congr (has_iff hp ha hv hq)]
theorem IsCols.unique {a b : List Int} (h : IsCols nn ds s a) (k : IsCols nn ds s b) : a = b := by
 apply List.ext_getElem?
 intro v
 by_cases hv : v < nn
 ·rw [h.2 v hv, k.2 v hv]
 ·rw [List.getElem?_eq_none (by rw [h.1]; omega), List.getElem?_eq_none (by rw [k.1]; omega)]
end
end Go.Proofs.YtfaknfmndafllaaGreatDoor
namespace Go.Proofs.YtfaknfmndafllaaGreatDoor
open Go.RowKit
structure PaSt (w : World) (N : Array Value) (As : Option Addr) (n c go nn : Nat) (out : List Int) (wr : World) : Prop where
 bx : Blk wr w.heap.size 30 N
 sx : Blk wr (w.heap.size + 1) 22 #[.slice As n c]
 ob : IntsO wr (w.heap.size + 2) (some ⟨go, 0, none⟩) nn nn out
 bl : Below w.heap.size w wr
section
variable {w wr wr' : World} {N : Array Value} {As : Option Addr} {n c go nn : Nat} {out : List Int}
theorem PaSt.ge (h : PaSt w N As n c go nn out wr) : w.heap.size + 2 ≤ go ∧ go < wr.heap.size := h.ob.lt go rfl
theorem PaSt.later (h : PaSt w N As n c go nn out wr) (hb : Below wr.heap.size wr wr') : PaSt w N As n c go nn out wr' :=
 ⟨h.bx.below hb h.bx.lt, h.sx.below hb h.sx.lt, h.ob.later hb, h.bl.trans (hb.mono h.bl.size)⟩
theorem PaSt.alloc (h : PaSt w N As n c go nn out wr) (o : Obj) : PaSt w N As n c go nn out (wr.alloc o) := h.later ((Below.refl _ _).alloc (Nat.le_refl _) _)
theorem PaSt.put (h : PaSt w N As n c go nn out wr) {k : Nat} (hk : k < nn) (v : Int) : PaSt w N As n c go nn (out.set k v) (wr.setCell ⟨go, k, none⟩ (.int .i64 v)) := by
 have hg := h.ge
 obtain ⟨g, x, hA, h1, h2, hx, hc, hf, hst⟩ := h.ob.at hk
 injection hA with hA
 injection hA with hA
 subst hA
 exact ⟨h.bx.far (by simp; omega) _, h.sx.far (by simp; omega) _, hst v, h.bl.setCell (by simp; omega) _⟩
theorem PaSt.cell (h : PaSt w N As n c go nn out wr) {k : Nat} (hk : k < nn) : ∃ x, out[k]? = some x ∧ wr.cell? ⟨go, k, none⟩ = some (.int .i64 x) ∧ wr.frozen? ⟨go, k, none⟩ = false := by
 obtain ⟨g, x, hA, h1, h2, hx, hc, hf, hst⟩ := h.ob.at hk
 injection hA with hA
 injection hA with hA
 subst hA
 exact ⟨x, hx, hc, hf⟩
end
theorem closed_any (As : Option Addr) (n c B : Nat) (s : List Int) (p : Addr) (i : Nat) (w : World) (hs : Sl w B 1 As n c (intsV s)) (hp : w.cell? p = some (.slice As n c)) (hi : i < n) : Calls Tryz.prog 173 #[.int .i64 i, .pointer (some p)] w fun e w' => e = .returned (.bool (shutB s i)) ∧ w = w' := by
 obtain ⟨b, off, x, rfl, hb, hx, hc⟩ := hs.at1 hi
 have hm := hs.le
 have HC : Hid (shutB s i = (x == 2)) := by unfold Hid shutB; rw [List.getD_eq_getElem?_getD, hx]; rfl
 clear hs hx
 go_enter Tryz.func173, Tryz.ntmps173
 go_wp2_with fail
 go_ret
 exact ⟨ret_bool (by rw [HC.out]), rfl⟩
theorem never_any (v : Int) (w : World) : Calls Tryz.prog 174 #[.int .i64 v] w fun e w' => e = .returned (.bool false) ∧ w = w' := by
 go_enter Tryz.func174, Tryz.ntmps174
 go_wp2_with fail
 go_ret
 exact ⟨rfl, rfl⟩
def PartsPost (w : World) (nn : Nat) (ds : List Dv) (s : List Int) (e : Ending) (w' : World) : Prop :=
 ∃ (A : Option Addr) (out : List Int), e = .returned (.slice A nn nn) ∧ Hid (IntsO w' w.heap.size A nn nn out) ∧ Hid (IsParts nn ds s out) ∧ Hid (Below w.heap.size w w')
def PaR1 (w : World) (N : Array Value) (As : Option Addr) (n c go nn gk : Nat) (iv : Value) (wr : World) : Prop :=
 ∃ (i : Nat) (out : List Int), iv = .int .i64 i ∧ i ≤ nn ∧ gk = nn - i ∧ Hid (PaSt w N As n c go nn out wr) ∧ Hid (∀ j, j < i → out[j]? = some (-1))
def PaR2 (w : World) (N : Array Value) (As : Option Addr) (n c go nn : Nat) (ds : List Dv) (s : List Int) (gk : Nat) (iv : Value) (wr : World) : Prop :=
 ∃ (i : Nat) (out : List Int), iv = .int .i64 i ∧ i ≤ nn ∧ gk = nn - i ∧ Hid (PaSt w N As n c go nn out wr) ∧ Hid (PInv nn ds s i out)
def PaR3 (w : World) (N : Array Value) (As : Option Addr) (n c go nn : Nat) (Al : Option Addr) (l : List Bool) (v : Nat) (out0 : List Int) (gk : Nat) (iv : Value) (wr : World) : Prop :=
 ∃ (i : Nat) (out : List Int), iv = .int .i64 i ∧ i ≤ nn ∧ gk = nn - i ∧ Hid (PaSt w N As n c go nn out wr) ∧ Hid (Upd out0 l v i out) ∧ Hid (BoolsO wr (go + 1) Al nn nn l)
theorem parts_any (An Ad As : Option Addr) (nn cn nd cd n c Bd Bs : Nat) (ds : List Dv) (s : List Int) (w : World)
 (hd : Sl w Bd 5 Ad nd cd (ds.flatMap Dv.cells)) (hBd : Bd ≤ w.heap.size) (hs : Sl w Bs 1 As n c (intsV s)) (hBs : Bs ≤ w.heap.size) (hnn : nn ≤ 10000) (hn : nd ≤ n) (hends : EndsOk nn ds) :
 Calls Tryz.prog 147 #[.agg #[.slice An nn cn, .slice Ad nd cd], .slice As n c] w (PartsPost w nn ds s) := by
 have HD := Lib.hid hd; have HS := Lib.hid hs; have HE := Lib.hid hends
 clear hd hs hends
 have hmk := run_mk_int nn (by omega) ((w.alloc (.cells #[.slice An nn cn, .slice Ad nd cd] 30)).alloc (.cells #[.slice As n c] 22))
 have hsz1 : ((w.alloc (.cells #[.slice An nn cn, .slice Ad nd cd] 30)).alloc (.cells #[.slice As n c] 22)).heap.size = w.heap.size + 1 + 1 := by simp
 have HST : Hid (PaSt w #[.slice An nn cn, .slice Ad nd cd] As n c (w.heap.size + 1 + 1) nn (List.replicate nn 0) (((w.alloc (.cells #[.slice An nn cn, .slice Ad nd cd] 30)).alloc (.cells #[.slice As n c] 22)).alloc (.cells (intsV (List.replicate nn 0)).toArray 3))) := by
  refine ⟨((Blk.new w _ _).alloc _).alloc _, ?_, ?_, (((Below.refl _ _).alloc (Nat.le_refl _) _).alloc (by simp) _).alloc (by simp; omega) _⟩
  ·have := Blk.new (w.alloc (.cells #[.slice An nn cn, .slice Ad nd cd] 30)) 22 #[.slice As n c]
   rw [World.size_alloc] at this
   exact this.alloc _
  ·have := ints_new (w := (w.alloc (.cells #[.slice An nn cn, .slice Ad nd cd] 30)).alloc (.cells #[.slice As n c] 22)) (base := w.heap.size + 2) (n := nn) (by simp) (by omega)
   rw [hsz1] at this
   exact this
 rw [hsz1] at hmk
 clear hsz1
 have hmf : ∀ (fn : Fn) (first cap : Array Value) (w : World), (Instr.makeFunc fn first cap).run Tryz.prog w = .ok (.func fn first cap) w := fun _ _ _ _ => rfl
 go_enter Tryz.func147, Tryz.ntmps147
 go_wp2_with fail
 clear hmk
 obtain ⟨go, hgo⟩ : ∃ go, go = w.heap.size + 1 + 1 := ⟨_, rfl⟩
 rw [← hgo] at HST ⊢
 have hgo1 : w.heap.size + 2 ≤ go := by omega
 clear hgo
 generalize World.alloc (World.alloc (World.alloc _ _) _) _ = W at *
 go_loopg [18] nn (PaR1 w #[.slice An nn cn, .slice Ad nd cd] As n c go nn)
 case atStart => exact ⟨0, _, rfl, Nat.zero_le _, rfl, HST, fun j hj => absurd hj (by omega)⟩
 case round =>
  clear HST
  obtain ⟨i, out, rfl, hi, rfl, hst, hm1⟩ := hrel
  by_cases hlt : i < nn
  ·obtain ⟨x, hx, hcell, hfz⟩ := hst.out.cell hlt
   clear hx
   have HM := Lib.hid (hst.out.put hlt (-1))
   have HOL := Lib.hid hst.out.ob.len
   go_wp2_with fail
   go_roundg (nn - (i + 1))
   case rel => exact ⟨i + 1, _, by go_num, by omega, rfl, HM, rep_set nn i out HOL.out hm1.out hlt⟩
   case measure => omega
  ·obtain rfl : i = nn := by omega
   have hii : decide (i < i) = false := by simp
   have HPI : Hid (PInv i ds s 0 out) := by
    have := rep_all i out hst.out.ob.len hm1.out
    rw [this]
    exact PInv.start i ds s
   clear hm1
   go_wp2_with fail
   go_loopg [28] i (PaR2 w #[.slice An i cn, .slice Ad nd cd] As n c go i ds s)
   case atStart => exact ⟨0, _, rfl, Nat.zero_le _, rfl, hst, HPI⟩
   case round =>
    clear hst HPI hii
    obtain ⟨v, out, rfl, hv, rfl, hst, hPI⟩ := hrel
    by_cases hlv : v < i; rotate_left
    ·obtain rfl : v = i := by omega
     have hvv : decide (v < v) = false := by simp
     go_wp2_with fail
     go_ret
     exact ⟨_, out, rfl, hst.out.ob.mono (by omega), hPI.out.final, hst.out.bl⟩
    ·obtain ⟨x, hx, hcell, hfz⟩ := hst.out.cell hlv
     have HX := Lib.hid hx; clear hx
     by_cases h0 : 0 ≤ x
     ·go_wp2_with fail
      go_roundg (i - (v + 1))
      case rel => exact ⟨v + 1, out, by go_num, by omega, rfl, hst, hPI.out.skip HX.out h0⟩
      case measure => omega
     ·have q0 : decide (0 ≤ x) = false := by simpa using h0
      have k0 := hst.out.bx.c0
      have k1 := hst.out.bx.c1
      go_wp2_with fail
      clear k0 k1 hcell hfz q0
      have HST1 := Lib.hid (hst.out.alloc (.cells #[.int .i64 v] 3))
      have HSL : Hid (Sl (wr.alloc (.cells #[.int .i64 v] 3)) (wr.heap.size + 1) 1 (some ⟨wr.heap.size, 0, none⟩) 1 1 (intsV [(v : Int)])) := Sl.newest (n := 1) rfl rfl (by decide)
      have hgw := hst.out.ge
      have hwz : (wr.alloc (.cells #[.int .i64 v] 3)).heap.size = wr.heap.size + 1 := by simp
      have HWZ := Lib.hid hwz; clear hwz hst
      obtain ⟨bq, hbq⟩ : ∃ bq, bq = wr.heap.size := ⟨_, rfl⟩
      rw [← hbq] at HSL HWZ ⊢
      generalize World.alloc _ _ = w1 at *
      refine (flood_any An Ad (some ⟨bq, 0, none⟩) i cn nd cd 1 1 Bd (bq + 1) 173 174 #[.pointer (some ⟨w.heap.size + 1, 0, none⟩)] #[] ds [(v : Int)] (shutB s) (fun _ => false) w1 (HD.out.below HST1.out.bl hBd) (by have := HST1.out.bl.size; omega) HSL.out (by have := HWZ.out; omega) hnn (by decide) HE.out ?_ ?_ ?_ ?_ ?_).mono ?_
      ·intro u hu; rw [List.mem_singleton.1 hu]; omega
      ·exact enters_of Tryz.func173 (by kernel_rfl) rfl
      ·exact enters_of Tryz.func174 (by kernel_rfl) rfl
      ·intro W j hb hj
       refine (closed_any As n c Bs s ⟨w.heap.size + 1, 0, none⟩ j W ((HS.out.below HST1.out.bl hBs).below hb (by have := HST1.out.bl.size; omega)) ?_ (by omega)).mono ?_
       ·exact (HST1.out.sx.below hb HST1.out.sx.lt).cell 0
       ·rintro e W' ⟨rfl, rfl⟩; exact ⟨rfl, Below.refl _ _⟩
      ·intro W u hb _ _
       refine (never_any u W).mono ?_
       rintro e W' ⟨rfl, rfl⟩; exact ⟨rfl, Below.refl _ _⟩
      ·rintro e w2 ⟨Al, l, rfl, hll, hlo, hlr, hb2⟩
       have HST2 := Lib.hid (HST1.out.later hb2.out)
       have HLO : Hid (BoolsO w2 (go + 1) Al i i l) := hlo.out.mono (by have := HWZ.out; omega)
       have HLL := Lib.hid hll
       clear HST1 hb2 hlo hll HSL HWZ
       go_wp2_with fail
       go_loopg [43] i (PaR3 w #[.slice An i cn, .slice Ad nd cd] As n c go i Al l v out)
       case atStart => exact ⟨0, out, rfl, Nat.zero_le _, rfl, HST2, Upd.start _ _ _, HLO⟩
       case round =>
        clear HST2 HLO
        obtain ⟨t, out', rfl, ht, rfl, hst, hup, hlo⟩ := hrel
        by_cases hlt' : t < i; rotate_left
        ·obtain rfl : t = i := by omega
         have htt : decide (t < t) = false := by simp
         have HPF : Hid (PInv t ds s (v + 1) out') := by
          refine hPI.out.flood HX.out (by omega) hup.out.1 (fun y hy => ?_)
          have hy' : y < out.length := by rw [hPI.out.1]; exact hy
          have hq := hlr.out y hy
          rw [hup.out.2 y hy']
          refine ⟨fun hc => ?_, fun hc => ?_⟩
          ·rw [if_pos (And.intro hy (hq.2 hc))]
          ·rw [if_neg (fun h => hc (hq.1 h.2))]
         go_wp2_with fail
         go_roundg (t - (v + 1))
         case rel => exact ⟨v + 1, out', by go_num, by omega, rfl, hst, HPF⟩
         case measure => omega
        ·obtain ⟨gl, bv, rfl, hgl, _, hbv, hcl, hfl, _⟩ := hlo.out.at hlt'
         have HBV := Lib.hid hbv; clear hbv hfl
         rcases bv with _ | _
         ·go_wp2_with fail
          go_roundg (i - (t + 1))
          case rel => exact ⟨t + 1, out', by go_num, by omega, rfl, hst, hup.out.pass HBV.out, hlo⟩
          case measure => omega
         ·obtain ⟨x', hx', hcell, hfz⟩ := hst.out.cell hlt'
          clear hx'
          have HM := Lib.hid (hst.out.put hlt' v)
          have HLO : Hid (BoolsO (wr.setCell ⟨go, t, none⟩ (.int .i64 v)) (go + 1) (some ⟨gl, 0, none⟩) i i l) := hlo.out.kept (grown_cell wr _ _) (ne_row fun b e => by have := (hlo.out.lt b e).1; simp; omega)
          go_wp2_with fail
          go_roundg (i - (t + 1))
          case rel => exact ⟨t + 1, _, by go_num, by omega, rfl, HM, hup.out.put HBV.out, HLO⟩
          case measure => omega
end Go.Proofs.YtfaknfmndafllaaGreatDoor
