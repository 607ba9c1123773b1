import Derived.Shelf.Abstract
import Derived.Test.YtddddlhgaeameaaGreatDoorJ05
set_option maxRecDepth 100000
set_option maxHeartbeats 8000000
namespace Go.Proofs.YtddddlhgaeameaaGreatDoor
open Go.RowKit Tryz
variable {v : Nat}
section
def ud (s : List Int) (i : Nat) : Bool := s.getD i 0 == 2
def yH (ds : List Dv) (s : List Int) (u v : Int) : Prop := RN ds (ud s) (fun _ => false) [u] v
theorem lL {x : Dv} {u : Int} (h : 0 ≤ xn x u) : xn x (xn x u) = u := by
 unfold xn at h ⊢;by_cases hj : zV x.kind = false
 ·rw [if_pos hj] at h; omega
 ·simp only [if_neg hj] at h ⊢;by_cases h1 : x.a = u
  ·simp only [if_pos h1];by_cases h2 : x.a = x.b
   ·rw [if_pos h2]; omega
   ·rw [if_neg h2]; simpa using h1
  ·simp only [if_neg h1] at h ⊢;by_cases h2 : x.b = u
   ·simp only [if_pos h2, if_true]; exact h2
   ·simp only [if_neg h2] at h; omega
section
variable {ds : List Dv} {s : List Int} {u v t : Int} {nn : Nat}
theorem yH.refl (ds : List Dv) (s : List Int) (u : Int) : yH ds s u u := .base (List.mem_singleton.2 rfl)
theorem yH.trans (h : yH ds s u v) (k : yH ds s v t) : yH ds s u t := by
 unfold yH at k
 induction k with
 | base hv => rw [List.mem_singleton.1 hv]; exact h
 | step _ hs hx hU h0 ih => exact .step ih hs hx hU h0
theorem yH.nonneg (hu : 0 ≤ u) (h : yH ds s u v) : 0 ≤ v := by
 unfold yH at h;cases h with
 | base hv => rw [List.mem_singleton.1 hv]; exact hu
 | step _ _ _ _ h0 => exact h0
theorem yH.lt (he : xA nn ds) (hu : u < nn) (h : yH ds s u v) : v < nn := by
 unfold yH at h;cases h with
 | base hv => rw [List.mem_singleton.1 hv]; exact hu
 | step _ _ hx _ h0 => exact je he hx _ h0
theorem yH.edge {i : Nat} {x : Dv} (hx : ds[i]? = some x) (hc : ud s i = true) (h0 : 0 ≤ xn x u) : yH ds s u (xn x u) := .step (yH.refl ds s u) rfl hx hc h0
theorem yH.sym (hu : 0 ≤ u) (h : yH ds s u v) : yH ds s v u := by
 unfold yH at h
 induction h with
 | base hv => rw [List.mem_singleton.1 hv]; exact yH.refl _ _ _
 | step hr _ hx hU h0 ih =>
  rename_i a i x _
  have ha : 0 ≤ a := yH.nonneg hu hr;have := yH.edge (s := s) (u := xn x a) hx hU (by rw [lL h0]; exact ha);rw [lL h0] at this;exact this.trans ih
end
def yZ (nn : Nat) (ds : List Dv) (s out : List Int) : Prop := out.length = nn ∧ ∀ v : Nat, v < nn → ∃ p : Nat, out[v]? = some (p : Int) ∧ p ≤ v ∧ yH ds s p v ∧ ∀ u : Nat, u < nn → yH ds s u v → p ≤ u
section
variable {nn : Nat} {ds : List Dv} {s out a b : List Int}
theorem yZ.unique (h : yZ nn ds s a) (k : yZ nn ds s b) : a = b := by
 apply List.ext_getElem?
 intro v;by_cases hv : v < nn
 ·obtain ⟨p, h1, h2, h3, h4⟩ := h.2 v hv;obtain ⟨q, k1, k2, k3, k4⟩ := k.2 v hv;have := h4 q (by omega) k3;have := k4 p (by omega) h3;rw [h1, k1, show p = q by omega]
 ·rw [List.getElem?_eq_none (by rw [h.1]; omega), List.getElem?_eq_none (by rw [k.1]; omega)]
theorem yZ.iff (h : yZ nn ds s out) {u : Nat} (hu : u < nn) (hv : v < nn) : out[u]? = out[v]? ↔ yH ds s u v := by
 obtain ⟨p, h1, h2, h3, h4⟩ := h.2 u hu;obtain ⟨q, k1, k2, k3, k4⟩ := h.2 v hv;rw [h1, k1]
 constructor
 ·intro e;have : p = q := by injection e with e; omega
  subst this;exact (h3.sym (by omega)).trans k3
 ·intro e;have e' := e.sym (by omega);have a1 := k4 p (by omega) (h3.trans e);have a2 := h4 q (by omega) (k3.trans e');rw [show p = q by omega]
def tY (nn : Nat) (ds : List Dv) (s : List Int) (v : Nat) (out : List Int) : Prop :=
 out.length = nn ∧ ∀ t : Nat, t < nn → (out[t]? = some (-1) ∧ ∀ u : Nat, u < v → ¬ yH ds s u t) ∨ ∃ p : Nat, out[t]? = some (p : Int) ∧ p < v ∧ p ≤ t ∧ yH ds s p t ∧ ∀ u : Nat, u < nn → yH ds s u t → p ≤ u
theorem tY.start (nn : Nat) (ds : List Dv) (s : List Int) : tY nn ds s 0 (List.replicate nn (-1)) :=
 ⟨List.length_replicate, fun t ht => .inl ⟨by rw [List.getElem?_replicate, if_pos ht], fun u hu => absurd hu (by omega)⟩⟩
theorem tY.skip {x : Int} (h : tY nn ds s v out) (hx : out[v]? = some x) (h0 : 0 ≤ x) : tY nn ds s (v + 1) out := by
 have hv : v < nn := by rw [← h.1]; exact (List.getElem?_eq_some_iff.1 hx).1
 refine ⟨h.1, fun t ht => ?_⟩;rcases h.2 t ht with ⟨h1, h2⟩ | ⟨p, h1, h2, h3⟩
 ·refine .inl ⟨h1, fun u hu hc => ?_⟩;rcases Nat.lt_succ_iff_lt_or_eq.1 hu with hu | rfl
  ·exact h2 u hu hc
  ·rcases h.2 u hv with ⟨k1, _⟩ | ⟨q, k1, k2, _, k3, _⟩
   ·rw [hx] at k1; injection k1; omega
   ·exact h2 q k2 (k3.trans hc)
 ·exact .inr ⟨p, h1, by omega, h3⟩
theorem tY.flood {x : Int} {out' : List Int} (h : tY nn ds s v out) (hx : out[v]? = some x) (h0 : x < 0) (hl : out'.length = out.length) (hu : ∀ y : Nat, y < nn → (yH ds s v y → out'[y]? = some (v : Int)) ∧ (¬ yH ds s v y → out'[y]? = out[y]?)) : tY nn ds s (v + 1) out' := by
 have hv : v < nn := by rw [← h.1]; exact (List.getElem?_eq_some_iff.1 hx).1
 have hno : ∀ u : Nat, u < v → ¬ yH ds s u v := by
  rcases h.2 v hv with ⟨_, h2⟩ | ⟨p, h1, _⟩
  ·exact h2
  ·rw [hx] at h1; injection h1; omega
 refine ⟨hl.trans h.1, fun t ht => ?_⟩;by_cases hc : yH ds s v t
 ·have hc' := hc.sym (by omega)
  have hle : ∀ u : Nat, u < nn → yH ds s u t → v ≤ u := fun u _ AO => by
   rcases Nat.lt_or_ge u v with h1 | h1
   ·exact absurd (AO.trans hc') (hno u h1)
   ·exact h1
  exact .inr ⟨v, (hu t ht).1 hc, by omega, hle t ht (yH.refl _ _ _), hc, hle⟩
 ·rw [(hu t ht).2 hc];rcases h.2 t ht with ⟨h1, h2⟩ | ⟨p, h1, h2, h3⟩
  ·refine .inl ⟨h1, fun u hu DY => ?_⟩;rcases Nat.lt_succ_iff_lt_or_eq.1 hu with hu | rfl
   ·exact h2 u hu DY
   ·exact hc DY
  ·exact .inr ⟨p, h1, by omega, h3⟩
theorem tY.final (h : tY nn ds s nn out) : yZ nn ds s out := by
 refine ⟨h.1, fun v hv => ?_⟩;rcases h.2 v hv with ⟨_, h2⟩ | ⟨p, h1, _, h2, h3⟩
 ·exact absurd (yH.refl _ _ _) (h2 v hv)
 ·exact ⟨p, h1, h2, h3⟩
end
def PU (out : List Int) (l : List Bool) (v : Int) (w : Nat) (out' : List Int) : Prop := out'.length = out.length ∧ ∀ y : Nat, y < out.length → out'[y]? = if y < w ∧ l[y]? = some true then some v else out[y]?
section
variable {out out' : List Int} {l : List Bool} {v : Int} {w : Nat}
theorem PU.start (out : List Int) (l : List Bool) (v : Int) : PU out l v 0 out := ⟨rfl, fun y _ => by rw [if_neg (by omega)]⟩
theorem PU.pass (h : PU out l v w out') (hl : l[w]? = some false) : PU out l v (w + 1) out' := by
 refine ⟨h.1, fun y KH => ?_⟩;rw [h.2 y KH];by_cases hy : y = w
 ·subst hy; rw [if_neg (by omega), if_neg (by rw [hl]; simp)]
 ·by_cases hb : y < w ∧ l[y]? = some true
  ·rw [if_pos hb, if_pos (And.intro (by omega) hb.2)]
  ·rw [if_neg hb, if_neg (fun hc => hb (And.intro (by omega) hc.2))]
theorem PU.put (h : PU out l v w out') (hl : l[w]? = some true) : PU out l v (w + 1) (out'.set w v) := by
 refine ⟨by rw [List.length_set]; exact h.1, fun y KH => ?_⟩;rw [List.getElem?_set];by_cases hy : w = y
 ·subst hy; rw [if_pos rfl, if_pos (by rw [h.1]; exact KH), if_pos (And.intro (by omega) hl)]
 ·rw [if_neg hy, h.2 y KH];by_cases hb : y < w ∧ l[y]? = some true
  ·rw [if_pos hb, if_pos (And.intro (by omega) hb.2)]
  ·rw [if_neg hb, if_neg (fun hc => hb (And.intro (by omega) hc.2))]
end
theorem jy (n i : Nat) (l : List Int) (hl : l.length = n) (h : ∀ j, j < i → l[j]? = some (-1)) (hi : i < n) : ∀ j, j < i + 1 → (l.set i (-1))[j]? = some (-1 : Int) := by
 intro j hj;rw [List.getElem?_set];split
 ·rw [if_pos (by omega)]
 ·exact h j (by omega)
theorem jz (n : Nat) (l : List Int) (hl : l.length = n) (h : ∀ j, j < n → l[j]? = some (-1)) : l = List.replicate n (-1 : Int) := by
 apply List.ext_getElem?
 intro j;by_cases hj : j < n
 ·rw [h j hj, List.getElem?_replicate, if_pos hj]
 ·rw [List.getElem?_eq_none (by omega), List.getElem?_replicate, if_neg hj]
def yv (k : Int) : Prop := k = 5 ∨ k = 6
def xt (K : Int → Prop) (parts : List Int) (ds : List Dv) (s : List Int) (j : Nat) (p : Int) : Prop := ∃ (i : Nat) (x : Dv), i < j ∧ ds[i]? = some x ∧ s[i]? = some 2 ∧ K x.kind ∧ parts[x.a.toNat]? = some p
open Classical in
noncomputable def ind (P : Prop) (n : Int) : Int := if P then n else 0
theorem pf {P : Prop} (h : P) (n : Int) : ind P n = n := if_pos h
theorem ph {P : Prop} (h : ¬ P) (n : Int) : ind P n = 0 := if_neg h
theorem wY {P Q : Prop} (h : P ↔ Q) (n : Int) : ind P n = ind Q n := by rw [propext h]
theorem yh (P : Prop) (n : Int) : (P ∧ ind P n = n) ∨ (¬ P ∧ ind P n = 0) := by
 by_cases h : P
 ·exact .inl ⟨h, pf h n⟩
 ·exact .inr ⟨h, ph h n⟩
noncomputable def zK (parts : List Int) (ds : List Dv) (s : List Int) (j : Nat) (p : Int) : Int := ind (xt yv parts ds s j p) 1 + ind (xt (· = 4) parts ds s j p) 2
def rm (K : Int → Prop) (ds : List Dv) (s : List Int) (v : Int) : Prop := ∃ (i : Nat) (x : Dv), ds[i]? = some x ∧ s[i]? = some 2 ∧ K x.kind ∧ yH ds s x.a v
noncomputable def kD (ds : List Dv) (s : List Int) (v : Int) : Int := ind (rm yv ds s v) 1 + ind (rm (· = 4) ds s v) 2
def vH (nn : Nat) (ds : List Dv) (s c : List Int) : Prop := c.length = nn ∧ ∀ v : Nat, v < nn → c[v]? = some (kD ds s v)
def Ki (nn : Nat) (ds : List Dv) : Prop := ∀ x ∈ ds, 0 ≤ x.a ∧ x.a < nn
section
variable {K : Int → Prop} {parts s : List Int} {ds : List Dv} {j nn : Nat} {p : Int} {x : Dv}
theorem rU : ¬ xt K parts ds s 0 p := by rintro ⟨i, x, hi, _⟩; omega
theorem wB (hx : ds[j]? = some x) : xt K parts ds s (j + 1) p ↔ xt K parts ds s j p ∨ (s[j]? = some 2 ∧ K x.kind ∧ parts[x.a.toNat]? = some p) := by
 constructor
 ·rintro ⟨i, y, hi, hy, h1, h2, h3⟩;rcases Nat.lt_succ_iff_lt_or_eq.1 hi with hi | rfl
  ·exact .inl ⟨i, y, hi, hy, h1, h2, h3⟩
  ·obtain rfl : y = x := Option.some.inj (hy.symm.trans hx);exact .inr ⟨h1, h2, h3⟩
 ·rintro (⟨i, y, hi, hr⟩ | hr)
  ·exact ⟨i, y, by omega, hr⟩
  ·exact ⟨j, x, by omega, hx, hr⟩
theorem qw : zK parts ds s 0 p = 0 := by unfold zK; rw [ph rU, ph rU]; rfl
theorem xZ (hx : ds[j]? = some x) (h : ∀ K : Int → Prop, (K = yv ∨ K = (· = 4)) → ¬ (s[j]? = some 2 ∧ K x.kind ∧ parts[x.a.toNat]? = some p)) : zK parts ds s (j + 1) p = zK parts ds s j p := by
 unfold zK;rw [wY ((wB hx).trans ⟨fun e => e.elim id (fun e => absurd e (h yv (.inl rfl))), .inl⟩), wY ((wB hx).trans ⟨fun e => e.elim id (fun e => absurd e (h (· = 4) (.inr rfl))), .inl⟩)]
theorem vh : zK parts ds s j p = 0 ∨ zK parts ds s j p = 1 ∨ zK parts ds s j p = 2 ∨ zK parts ds s j p = 3 := by
 unfold zK;rcases yh (xt yv parts ds s j p) 1 with ⟨_, e⟩ | ⟨_, e⟩ <;> rcases yh (xt (· = 4) parts ds s j p) 2 with ⟨_, f⟩ | ⟨_, f⟩ <;> rw [e, f] <;> simp
theorem re (hx : ds[j]? = some x) (hs : s[j]? = some 2) (hk : x.kind = 4) (hp : parts[x.a.toNat]? = some p) : (zK parts ds s j p = 0 → zK parts ds s (j + 1) p = 2) ∧ (zK parts ds s j p = 1 → zK parts ds s (j + 1) p = 3) ∧ (zK parts ds s j p = 2 → zK parts ds s (j + 1) p = 2) ∧ (zK parts ds s j p = 3 → zK parts ds s (j + 1) p = 3) := by
 have h4 : xt (· = 4) parts ds s (j + 1) p := (wB hx).2 (.inr ⟨hs, hk, hp⟩)
 have hl : xt yv parts ds s (j + 1) p ↔ xt yv parts ds s j p := by
  rw [wB hx];exact ⟨fun h => h.elim id (fun h => by have := h.2.1; unfold yv at this; omega), .inl⟩
 unfold zK;rw [pf h4, wY hl];rcases yh (xt yv parts ds s j p) 1 with ⟨_, e⟩ | ⟨_, e⟩ <;> rcases yh (xt (· = 4) parts ds s j p) 2 with ⟨_, f⟩ | ⟨_, f⟩ <;> rw [e, f] <;> simp
theorem qx (hx : ds[j]? = some x) (hs : s[j]? = some 2) (hk : yv x.kind) (hp : parts[x.a.toNat]? = some p) : (zK parts ds s j p = 0 → zK parts ds s (j + 1) p = 1) ∧ (zK parts ds s j p = 1 → zK parts ds s (j + 1) p = 1) ∧ (zK parts ds s j p = 2 → zK parts ds s (j + 1) p = 3) ∧ (zK parts ds s j p = 3 → zK parts ds s (j + 1) p = 3) := by
 have h4 : xt yv parts ds s (j + 1) p := (wB hx).2 (.inr ⟨hs, hk, hp⟩)
 have hl : xt (· = 4) parts ds s (j + 1) p ↔ xt (· = 4) parts ds s j p := by
  rw [wB hx];exact ⟨fun h => h.elim id (fun h => by have := h.2.1; unfold yv at hk; omega), .inl⟩
 unfold zK;rw [pf h4, wY hl];rcases yh (xt yv parts ds s j p) 1 with ⟨_, e⟩ | ⟨_, e⟩ <;> rcases yh (xt (· = 4) parts ds s j p) 2 with ⟨_, f⟩ | ⟨_, f⟩ <;> rw [e, f] <;> simp
theorem lC (hp : yZ nn ds s parts) (ha : Ki nn ds) (hv : v < nn) {q : Int} (hq : parts[v]? = some q) : xt K parts ds s ds.length q ↔ rm K ds s v := by
 constructor
 ·rintro ⟨i, x, _, hx, h1, h2, h3⟩;have Nt := ha x (List.mem_of_getElem? hx);obtain ⟨a, AK⟩ := Int.eq_ofNat_of_zero_le Nt.1;refine ⟨i, x, hx, h1, h2, ?_⟩;rw [AK] at h3 ⊢;exact (hp.iff (by omega) hv).1 (by rw [hq]; exact h3)
 ·rintro ⟨i, x, hx, h1, h2, h3⟩;have Nt := ha x (List.mem_of_getElem? hx);obtain ⟨a, AK⟩ := Int.eq_ofNat_of_zero_le Nt.1;refine ⟨i, x, (List.getElem?_eq_some_iff.1 hx).1, hx, h1, h2, ?_⟩;rw [AK] at h3 ⊢;have := (hp.iff (by omega) hv).2 h3;rw [hq] at this;exact this
theorem nN (hp : yZ nn ds s parts) (ha : Ki nn ds) (hv : v < nn) {q : Int} (hq : parts[v]? = some q) : zK parts ds s ds.length q = kD ds s v := by
 unfold zK kD;rw [wY (lC hp ha hv hq), wY (lC hp ha hv hq)]
theorem vH.unique {a b : List Int} (h : vH nn ds s a) (k : vH nn ds s b) : a = b := by
 apply List.ext_getElem?
 intro v;by_cases hv : v < nn
 ·rw [h.2 v hv, k.2 v hv]
 ·rw [List.getElem?_eq_none (by rw [h.1]; omega), List.getElem?_eq_none (by rw [k.1]; omega)]
end
end
structure uI (w : World) (N : Array Value) (As : Option Addr) (n c go nn : Nat) (out : List Int) (wr : World) : Prop where
 bx : AJ wr w.heap.size 26 N
 sx : AJ wr (w.heap.size + 1) 22 #[.slice As n c]
 ob : zN wr (w.heap.size + 2) (some ⟨go, 0, none⟩) nn nn out
 bl : bW w wr
section
variable {w wr wr' : World} {N : Array Value} {As : Option Addr} {n c go nn : Nat} {out : List Int}
theorem uI.ge (h : uI w N As n c go nn out wr) : w.heap.size + 2 ≤ go ∧ go < wr.heap.size := h.ob.lt go rfl
theorem uI.later (h : uI w N As n c go nn out wr) (hb : bW wr wr') : uI w N As n c go nn out wr' :=
 ⟨h.bx.below hb h.bx.lt, h.sx.below hb h.sx.lt, h.ob.later hb, h.bl.trans (hb.mono h.bl.size)⟩
theorem uI.alloc (h : uI w N As n c go nn out wr) (o : Obj) : uI w N As n c go nn out (wr.alloc o) := h.later ((Below.refl _ _).alloc lR _)
theorem uI.put (h : uI w N As n c go nn out wr) {k : Nat} (hk : k < nn) (v : Int) : uI w N As n c go nn (out.set k v) (wr.setCell ⟨go, k, none⟩ (.int .i64 v)) := by
 have hg := h.ge;obtain ⟨g, x, hA, h1, h2, hx, hc, hf, hst⟩ := h.ob.at hk;injection hA with hA;injection hA with hA;subst hA;exact ⟨h.bx.far (by simp; omega) _, h.sx.far (by simp; omega) _, hst v, h.bl.setCell (by simp; omega) _⟩
theorem uI.cell (h : uI w N As n c go nn out wr) {k : Nat} (hk : k < nn) : ∃ x, out[k]? = some x ∧ wr.cell? ⟨go, k, none⟩ = some (.int .i64 x) ∧ wr.frozen? ⟨go, k, none⟩ = false := by
 obtain ⟨g, x, hA, h1, h2, hx, hc, hf, hst⟩ := h.ob.at hk;injection hA with hA;injection hA with hA;subst hA;exact ⟨x, hx, hc, hf⟩
end
theorem mO (As : Option Addr) (n c B : Nat) (s : List Int) (p : Addr) (i : Nat) (w : World) (hs : Sl w B 1 As n c (zF s)) (hp : w.cell? p = some (.slice As n c)) (hi : i < n) : Calls prog 115 #[.int .i64 i, .pointer (some p)] w fun e w' => e = .returned (.bool (ud s i)) ∧ w = w' := by
 obtain ⟨b, off, x, rfl, hb, hx, hc⟩ := hs.at1 hi;have hm := hs.le;have HC : Hid (ud s i = (x == 2)) := by unfold Hid ud; rw [List.getD_eq_getElem?_getD, hx]; rfl
 clear hs hx
 go_enter func115, ntmps115
 go_wp2_with fail
 go_ret;exact ⟨zE (by rw [HC.out]), rfl⟩
theorem ll (v : Int) (w : World) : Calls prog 116 #[.int .i64 v] w fun e w' => e = .returned (.bool false) ∧ w = w' := by
 go_enter func116, ntmps116
 go_wp2_with fail
 go_ret;exact ⟨rfl, rfl⟩
def kL (w : World) (nn : Nat) (ds : List Dv) (s : List Int) (e : Ending) (w' : World) : Prop :=
 ∃ (A : Option Addr) (out : List Int), e = .returned (.slice A nn nn) ∧ Hid (zN w' w.heap.size A nn nn out) ∧ Hid (yZ nn ds s out) ∧ Hid (Below w.heap.size w w')
def fM (w : World) (N : Array Value) (As : Option Addr) (n c go nn gk : Nat) (iv : Value) (wr : World) : Prop :=
 ∃ (i : Nat) (out : List Int), iv = .int .i64 i ∧ i ≤ nn ∧ gk = nn - i ∧ Hid (uI w N As n c go nn out wr) ∧ Hid (∀ j, j < i → out[j]? = some (-1))
def fL (w : World) (N : Array Value) (As : Option Addr) (n c go nn : Nat) (ds : List Dv) (s : List Int) (gk : Nat) (iv : Value) (wr : World) : Prop :=
 ∃ (i : Nat) (out : List Int), iv = .int .i64 i ∧ i ≤ nn ∧ gk = nn - i ∧ Hid (uI w N As n c go nn out wr) ∧ Hid (tY nn ds s i out)
def fK (w : World) (N : Array Value) (As : Option Addr) (n c go nn : Nat) (Al : Option Addr) (l : List Bool) (v : Nat) (AG : List Int) (gk : Nat) (iv : Value) (wr : World) : Prop :=
 ∃ (i : Nat) (out : List Int), iv = .int .i64 i ∧ i ≤ nn ∧ gk = nn - i ∧ Hid (uI w N As n c go nn out wr) ∧ Hid (PU AG l v i out) ∧ Hid (xU wr (go + 1) Al nn nn l)
theorem lh (An Ad As : Option Addr) (nn cn nd cd n c Bd Bs : Nat) (ds : List Dv) (s : List Int) (w : World)
 (hd : Sl w Bd 5 Ad nd cd (ds.flatMap Dv.cells)) (BN : Bd ≤ w.heap.size) (hs : Sl w Bs 1 As n c (zF s)) (Ci : Bs ≤ w.heap.size) (Bq : nn ≤ 10000) (hn : nd ≤ n) (Ae : xA nn ds) :
 Calls prog 89 #[.agg #[.slice An nn cn, .slice Ad nd cd], .slice As n c] w (kL w nn ds s) := by
 have HD := iD hd; have HS := iD hs; have HE := iD Ae;clear hd hs Ae;have Kn := vU nn (by omega) ((w.alloc (.cells #[.slice An nn cn, .slice Ad nd cd] 26)).alloc (.cells #[.slice As n c] 22));have MK : ((w.alloc (.cells #[.slice An nn cn, .slice Ad nd cd] 26)).alloc (.cells #[.slice As n c] 22)).heap.size = w.heap.size + 1 + 1 := by simp
 have Ar : Hid (uI w #[.slice An nn cn, .slice Ad nd cd] As n c (w.heap.size + 1 + 1) nn (List.replicate nn 0) (((w.alloc (.cells #[.slice An nn cn, .slice Ad nd cd] 26)).alloc (.cells #[.slice As n c] 22)).alloc (.cells (zF (List.replicate nn 0)).toArray 3))) := by
  refine ⟨((AJ.new w _ _).alloc _).alloc _, ?_, ?_, (((Below.refl _ _).alloc lR _).alloc (by simp) _).alloc (by simp; omega) _⟩
  ·have := AJ.new (w.alloc (.cells #[.slice An nn cn, .slice Ad nd cd] 26)) 22 #[.slice As n c];rw [World.size_alloc] at this;exact this.alloc _
  ·have := tU (w := (w.alloc (.cells #[.slice An nn cn, .slice Ad nd cd] 26)).alloc (.cells #[.slice As n c] 22)) (base := w.heap.size + 2) (n := nn) (by simp) (by omega);rw [MK] at this;exact this
 rw [MK] at Kn;clear MK;have Qx : ∀ (fn : Fn) (first cap : Array Value) (w : World), (Instr.makeFunc fn first cap).run prog w = .ok (.func fn first cap) w := fun _ _ _ _ => rfl
 go_enter func89, ntmps89
 go_wp2_with fail
 clear Kn;obtain ⟨go, hgo⟩ := eX (w.heap.size + 1 + 1);rw [← hgo] at Ar ⊢;have AU : w.heap.size + 2 ≤ go := by omega
 clear hgo;generalize World.alloc (World.alloc (World.alloc _ _) _) _ = W at *
 go_loopg [18] nn (fM w #[.slice An nn cn, .slice Ad nd cd] As n c go nn)
 case atStart => exact ⟨0, _, rfl, Nat.zero_le _, rfl, Ar, fun j hj => absurd hj (by omega)⟩
 case round =>
  clear Ar;obtain ⟨i, out, rfl, hi, rfl, hst, UU⟩ := hrel;by_cases hlt : i < nn
  ·obtain ⟨x, hx, hcell, AH⟩ := hst.cell hlt;clear hx;have HM := iD (hst.put hlt (-1));have KU := iD hst.ob.len
   go_wp2_with fail
   go_roundg (nn - (i + 1))
   ·exact ⟨i + 1, _, by go_num, by omega, rfl, HM, jy nn i out KU UU hlt⟩
   omega
  ·obtain rfl : i = nn := by omega
   have Ck : decide (i < i) = false := by simp
   have AL : Hid (tY i ds s 0 out) := by
    have := jz i out hst.ob.len UU.out;rw [this];exact tY.start i ds s
   clear UU
   go_wp2_with fail
   go_loopg [28] i (fL w #[.slice An i cn, .slice Ad nd cd] As n c go i ds s)
   case atStart => exact ⟨0, _, rfl, Nat.zero_le _, rfl, hst, AL⟩
   case round =>
    clear hst AL Ck;obtain ⟨v, out, rfl, hv, rfl, hst, AB⟩ := hrel;by_cases IL : v < i; rotate_left
    ·obtain rfl : v = i := by omega
     have AW : decide (v < v) = false := by simp
     go_wp2_with fail
     go_ret;exact ⟨_, out, rfl, hst.ob.mono (by omega), AB.final, hst.bl⟩
    ·obtain ⟨x, hx, hcell, AH⟩ := hst.cell IL;have HX := iD hx; clear hx;by_cases h0 : 0 ≤ x
     ·go_wp2_with fail
      go_roundg (i - (v + 1))
      ·exact ⟨v + 1, out, by go_num, by omega, rfl, hst, AB.skip HX h0⟩
      omega
     ·have q0 : decide (0 ≤ x) = false := by simpa using h0
      obtain ⟨k0, k1⟩ := hst.bx.d2
      go_wp2_with fail
      clear k0 k1 hcell AH q0;have BB := iD (hst.alloc (.cells #[.int .i64 v] 3));have RS : Hid (Sl (wr.alloc (.cells #[.int .i64 v] 3)) (wr.heap.size + 1) 1 (some ⟨wr.heap.size, 0, none⟩) 1 1 (zF [(v : Int)])) := Sl.newest (n := 1) rfl rfl (by decide);have UX := hst.ge;have SF : (wr.alloc (.cells #[.int .i64 v] 3)).heap.size = wr.heap.size + 1 := by simp
      have AE := iD SF; clear SF hst;obtain ⟨bq, Fb⟩ := eX wr.heap.size;rw [← Fb] at RS AE ⊢;generalize World.alloc _ _ = w1 at *;refine (lx An Ad (some ⟨bq, 0, none⟩) i cn nd cd 1 1 Bd (bq + 1) 115 116 #[.pointer (some ⟨w.heap.size + 1, 0, none⟩)] #[] ds [(v : Int)] (ud s) (fun _ => false) w1 (HD.below BB.bl BN) (by have := BB.bl.size; omega) RS (by have := AE.out; omega) Bq (by decide) HE ?_ ?_ ?_ ?_ ?_).mono ?_
      ·intro u hu; rw [List.mem_singleton.1 hu]; omega
      ·exact enters_of func115 (by kernel_rfl) rfl
      ·exact enters_of func116 (by kernel_rfl) rfl
      ·intro W j hb hj;refine (mO As n c Bs s ⟨w.heap.size + 1, 0, none⟩ j W ((HS.below BB.bl Ci).below hb (by have := BB.bl.size; omega)) ?_ (by omega)).mono ?_
       ·exact (BB.sx.below hb BB.sx.lt).cell 0
       ·rintro e W' ⟨rfl, rfl⟩; exact ⟨rfl, Below.refl _ _⟩
      ·intro W u hb _ _;refine (ll u W).mono ?_;rintro e W' ⟨rfl, rfl⟩; exact ⟨rfl, Below.refl _ _⟩
      ·rintro e w2 ⟨Al, l, rfl, Lj, SS, AP, AQ⟩;have EX := iD (BB.later AQ);have Gi : Hid (xU w2 (go + 1) Al i i l) := SS.mono (by have := AE.out; omega);have JV := iD Lj;clear BB AQ SS Lj RS AE
       go_wp2_with fail
       go_loopg [43] i (fK w #[.slice An i cn, .slice Ad nd cd] As n c go i Al l v out)
       case atStart => exact ⟨0, out, rfl, Nat.zero_le _, rfl, EX, PU.start _ _ _, Gi⟩
       case round =>
        clear EX Gi;obtain ⟨t, out', rfl, ht, rfl, hst, AA, SS⟩ := hrel;by_cases hlt' : t < i; rotate_left
        ·obtain rfl : t = i := by omega
         have AX : decide (t < t) = false := by simp
         have AV : Hid (tY t ds s (v + 1) out') := by
          refine AB.flood HX (by omega) AA.1 (fun y hy => ?_);have hy' : y < out.length := by rw [AB.1]; exact hy
          have hq := AP y hy;rw [AA.2 y hy'];refine ⟨fun hc => ?_, fun hc => ?_⟩
          ·rw [if_pos (And.intro hy (hq.2 hc))]
          ·rw [if_neg (fun h => hc (hq.1 h.2))]
         go_wp2_with fail
         go_roundg (t - (v + 1))
         ·exact ⟨v + 1, out', by go_num, by omega, rfl, hst, AV⟩
         omega
        ·obtain ⟨gl, bv, rfl, UY, _, QD, Jl, Mq, _⟩ := SS.at hlt';have Co := iD QD; clear QD Mq;rcases bv with _ | _
         ·go_wp2_with fail
          go_roundg (i - (t + 1))
          ·exact ⟨t + 1, out', by go_num, by omega, rfl, hst, AA.pass Co, SS⟩
          omega
         ·obtain ⟨x', hx', hcell, AH⟩ := hst.cell hlt';clear hx';have HM := iD (hst.put hlt' v);have Gi : Hid (xU (wr.setCell ⟨go, t, none⟩ (.int .i64 v)) (go + 1) (some ⟨gl, 0, none⟩) i i l) := SS.kept (zo wr _ _) (zj fun b e => by have := (SS.lt b e).1; simp; omega)
          go_wp2_with fail
          go_roundg (i - (t + 1))
          ·exact ⟨t + 1, _, by go_num, by omega, rfl, HM, AA.put Co, Gi⟩
          omega
end Go.Proofs.YtddddlhgaeameaaGreatDoor
