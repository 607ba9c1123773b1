import Derived.Test.YtddddlhgaeameaaGreatDoorJ12
import Derived.Test.YtddddlhgaeameaaGreatDoorJ10
set_option maxHeartbeats 2000000
namespace Go.Proofs.YtddddlhgaeameaaGreatDoor
open Go.RowKit Tryz
def vF (ns : List Nd) (ds : List Dv) (s : List Int) (m : Int) : Int := if zR ns ds ≠ 0 then zR ns ds else if s.length ≠ ds.length then 9 else if ∀ p ∈ s, 1 ≤ p ∧ p ≤ m then 0 else 10
theorem nu (ns : List Nd) (ds : List Dv) (s : List Int) : vF ns ds s 2 = zG ns ds s := by
 unfold vF zG
 have e : (∀ p ∈ s, 1 ≤ p ∧ p ≤ 2) ↔ (∀ p ∈ s, posB p = true) := by
  constructor <;> intro h p hp <;> have := h p hp <;> simp [posB] at * <;> omega
 split
 ·rfl
 ·split
  ·rfl
  ·by_cases h : ∀ p ∈ s, posB p = true
   ·rw [if_pos h, if_pos (e.2 h)]
   ·rw [if_neg h, if_neg (fun k => h (e.1 k))]
def RpR (w : World) (N : Array Value) (n : Nat) (s : List Int) (m : Int) (gk : Nat) (iv : Value) (wr : World) : Prop := ∃ i : Nat, iv = .int .i64 i ∧ i ≤ n ∧ gk = n - i ∧ Hid (uH w N wr) ∧ Hid (∀ p ∈ s.take i, 1 ≤ p ∧ p ≤ m)
theorem kg (An Ad As : Option Addr) (nn cn nd cd n c Bn Bd Bs : Nat) (ns : List Nd) (ds : List Dv) (s : List Int) (m : Int) (w : World) (hn : Sl w Bn 3 An nn cn (ns.flatMap Nd.cells)) (hd : Sl w Bd 5 Ad nd cd (ds.flatMap Dv.cells)) (hs : Sl w Bs 1 As n c (zF s)) (Ce : Bn ≤ w.heap.size) (BN : Bd ≤ w.heap.size) (Ci : Bs ≤ w.heap.size)
 (Bj : FO ns) (Bc : GH ds) :
 Calls prog 51 #[.agg #[.slice An nn cn, .slice Ad nd cd], .slice As n c, .int .i64 m] w fun e w' => e = .returned (.int .i64 (vF ns ds s m)) ∧ bW w w' := by
 have GV := iD (hs.len (fun _ => rfl) (by decide)); have Fx := iD (hd.len (fun _ => rfl) (by decide));obtain ⟨Ir, Nq⟩ := hs.le;obtain ⟨Vs, MO⟩ := hd.le;have HE : Hid (vF ns ds s m = if zR ns ds ≠ 0 then zR ns ds else if n ≠ nd then 9 else if ∀ p ∈ s, 1 ≤ p ∧ p ≤ m then 0 else 10) := by unfold Hid; rw [vF, GV.out, Fx.out]
 have HS := iD hs;have Cy := iD (vY An Ad nn cn nd cd Bn Bd ns ds (w.alloc (.cells #[.slice An nn cn, .slice Ad nd cd] 26)) (hn.alloc Ce _) (hd.alloc BN _) (by simp; omega) (by simp; omega) Bj Bc);clear hn hd hs Bj Bc;generalize zR ns ds = er at *;have Js : Hid (uH w #[.slice An nn cn, .slice Ad nd cd] (w.alloc (.cells #[.slice An nn cn, .slice Ad nd cd] 26))) := ⟨AJ.new _ _ _, (Below.refl _ _).alloc lR _⟩;by_cases h0 : er = 0; rotate_left
 ·have h0' : (er != 0) = true := by simpa using h0
  have HR : Hid (vF ns ds s m = er) := by unfold Hid; rw [HE.out, if_pos h0]
  clear h0
  go_enter func51, ntmps51
  go_wp2_with fail
  refine Cy.mono ?_;rintro e w1 ⟨rfl, AX⟩;have CZ := iD (Js.later AX)
  go_wp2_with fail
  go_ret;exact ⟨zC (by rw [HR.out]), CZ.bl⟩
 subst h0
 go_enter func51, ntmps51
 go_wp2_with fail
 refine Cy.mono ?_;rintro e w1 ⟨rfl, AX⟩;have CZ := iD (Js.later AX);clear AX Cy Js;have k1 := CZ.bx.c1;by_cases AA : n = nd; rotate_left
 ·have q : decide (n = nd) = false := by simpa using AA
  have q' : ((n : Int) != (nd : Int)) = true := by simp; omega
  have HR : Hid (vF ns ds s m = 9) := by unfold Hid; rw [HE.out, if_neg (by simp), if_pos AA]
  clear AA
  go_wp2_with fail
  go_ret;exact ⟨zC (by rw [HR.out]), CZ.bl⟩
 subst AA
 go_wp2_with fail
 clear k1
 go_loopg [8] n (RpR w #[.slice An nn cn, .slice Ad n cd] n s m)
 case atStart => exact ⟨0, rfl, Nat.zero_le _, rfl, CZ, by simp [Hid]⟩
 case round =>
  clear CZ;obtain ⟨i, rfl, hi, rfl, hst, CB⟩ := hrel;by_cases hlt : i < n
  ·obtain ⟨b, off, x, rfl, hb, hx, hc⟩ := (HS.below hst.bl Ci).at1 hlt;have HX := iD hx; clear hx;by_cases h1 : x < 1
   ·have HR : Hid (vF ns ds s m = 10) := by
     unfold Hid;rw [HE.out, if_neg (by simp), if_neg (by simp), if_neg (fun h => by have := h x (List.mem_of_getElem? HX.out); omega)]
    go_wp2_with fail
    go_ret;exact ⟨zC (by rw [HR.out]), hst.bl⟩
   ·have q1 : decide (x < 1) = false := by simpa using h1
    by_cases h2 : m < x
    ·have HR : Hid (vF ns ds s m = 10) := by
      unfold Hid;rw [HE.out, if_neg (by simp), if_neg (by simp), if_neg (fun h => by have := h x (List.mem_of_getElem? HX.out); omega)]
     go_wp2_with fail
     go_ret;exact ⟨zC (by rw [HR.out]), hst.bl⟩
    ·have q2 : decide (m < x) = false := by simpa using h2
     go_wp2_with fail
     go_roundg (n - (i + 1))
     case rel =>
      refine ⟨i + 1, by go_num, by omega, rfl, hst, fun p hp => ?_⟩;rw [zO HX.out] at hp;rcases List.mem_append.1 hp with h | h
      ·exact CB p h
      ·rw [List.mem_singleton.1 h]; omega
     case measure => omega
  ·obtain rfl : i = n := by omega
   have KJ : decide (i < i) = false := by simp
   have HR : Hid (vF ns ds s m = 0) := by
    unfold Hid;have := CB.out;rw [List.take_of_length_le (by rw [GV.out]; exact Nat.le_refl _)] at this;rw [HE.out, if_neg (by simp), if_neg (by simp), if_pos this]
   go_wp2_with fail
   go_ret;exact ⟨zC (by rw [HR.out]), hst.bl⟩
theorem vW (An Ad As : Option Addr) (nn cn nd cd n c Bn Bd Bs : Nat) (ns : List Nd) (ds : List Dv) (s : List Int) (w : World) (hn : Sl w Bn 3 An nn cn (ns.flatMap Nd.cells)) (hd : Sl w Bd 5 Ad nd cd (ds.flatMap Dv.cells)) (hs : Sl w Bs 1 As n c (zF s)) (Ce : Bn ≤ w.heap.size) (BN : Bd ≤ w.heap.size) (Ci : Bs ≤ w.heap.size)
 (Bj : FO ns) (Bc : GH ds) :
 Calls prog 29 #[.agg #[.slice An nn cn, .slice Ad nd cd], .slice As n c] w fun e w' => e = .returned (.int .i64 (zG ns ds s)) ∧ bW w w' := by
 have HC := iD (kg An Ad As nn cn nd cd n c Bn Bd Bs ns ds s 2 (w.alloc (.cells #[.slice An nn cn, .slice Ad nd cd] 26)) (hn.alloc Ce _) (hd.alloc BN _) (hs.alloc Ci _) (by simp; omega) (by simp; omega) (by simp; omega) Bj Bc);rw [nu] at HC;clear hn hd hs Bj Bc
 go_enter func29, ntmps29
 go_wp2_with fail
 refine HC.mono ?_;rintro e w1 ⟨rfl, AX⟩
 go_wp2_with fail
 go_ret;exact ⟨rfl, ((Below.refl _ _).alloc lR _).trans (AX.mono (by simp))⟩
def tc (l : List Int) : Nat := (l.map Int.toNat).sum
theorem sz : ∀ {l : List Int} {k : Nat} {x : Int} (y : Int), l[k]? = some x → tc (l.set k y) + x.toNat = tc l + y.toNat
 | [], k, x, y, h => by simp at h
 | a :: l, 0, x, y, h => by simp at h; subst h; simp [tc]; omega
 | a :: l, k + 1, x, y, h => by
  simp at h;have := sz y h;simp [tc] at *;omega
def rz (nn : Nat) (ds : List Dv) (s out : List Int) : Prop := out.length = nn ∧ ∀ v : Nat, v < nn → ∃ p : Nat, out[v]? = some (p : Int) ∧ p ≤ v ∧ yH ds s p v
def kN (ds : List Dv) (s out : List Int) (i : Nat) : Prop := ∀ x, ds[i]? = some x → ud s i = true → zV x.kind = true → out[x.a.toNat]? = out[x.b.toNat]?
section
variable {nn : Nat} {ds : List Dv} {s out : List Int}
theorem rz.put (h : rz nn ds s out) {i : Nat} {x : Dv} {a b p q : Nat} (hx : ds[i]? = some x) (hc : ud s i = true) (hj : zV x.kind = true) (ha : x.a = a) (hb : x.b = b) (JS : a < nn) (DK : b < nn) (Uc : a ≠ b) (hp : out[a]? = some (p : Int)) (hq : out[b]? = some (q : Int)) (Er : p ≠ q) :
 rz nn ds s ((out.set a (min p q : Nat)).set b (min p q : Nat)) ∧ tc ((out.set a (min p q : Nat)).set b (min p q : Nat)) < tc out := by
 have hA : xn x a = b := by unfold xn; rw [if_neg (by rw [hj]; simp), if_pos ha, hb]
 have hB : xn x b = a := by unfold xn; rw [if_neg (by rw [hj]; simp), if_neg (by omega), if_pos hb, ha]
 have AH : yH ds s a b := by have := yH.edge (s := s) (u := (a : Int)) hx hc (by rw [hA]; omega); rwa [hA] at this
 have AG : yH ds s b a := by have := yH.edge (s := s) (u := (b : Int)) hx hc (by rw [hB]; omega); rwa [hB] at this
 obtain ⟨p', PK, PI, AE⟩ := h.2 a JS;obtain ⟨q', JP, Va, AB⟩ := h.2 b DK;have e1 : p' = p := by rw [hp] at PK; injection PK with e; omega
 have e2 : q' = q := by rw [hq] at JP; injection JP with e; omega
 subst e1 e2;have hm : (min p' q' = p' ∧ p' < q') ∨ (min p' q' = q' ∧ q' < p') := by omega
 have ca : yH ds s (min p' q' : Nat) a := by
  rcases hm with ⟨e, _⟩ | ⟨e, _⟩ <;> rw [e]
  ·exact AE
  ·exact AB.trans AG
 have cb : yH ds s (min p' q' : Nat) b := ca.trans AH;have Ie : out.length = nn := h.1;refine ⟨⟨by simp [h.1], fun v hv => ?_⟩, ?_⟩
 ·rw [List.getElem?_set, List.getElem?_set];by_cases EF : b = v
  ·subst EF;rw [if_pos rfl, if_pos (by simp; omega)];exact ⟨min p' q', rfl, by omega, cb⟩
  ·rw [if_neg EF];by_cases VO : a = v
   ·subst VO;rw [if_pos rfl, if_pos (by omega)];exact ⟨min p' q', rfl, by omega, ca⟩
   ·rw [if_neg VO];exact h.2 v hv
 ·have s1 := sz (min p' q' : Nat) hp;have s2 := sz (l := out.set a (min p' q' : Nat)) (k := b) (x := (q' : Int)) (min p' q' : Nat) (by rw [List.getElem?_set, if_neg Uc]; exact hq);simp only [Int.toNat_natCast] at s1 s2;omega
theorem rz.start (nn : Nat) (ds : List Dv) (s out : List Int) (hl : out.length = nn) (h : ∀ v : Nat, v < nn → out[v]? = some (v : Int)) : rz nn ds s out := ⟨hl, fun v hv => ⟨v, h v hv, Nat.le_refl _, yH.refl _ _ _⟩⟩
theorem rz.final (h : rz nn ds s out) (h1 : ∀ i, i < ds.length → kN ds s out i) : yZ nn ds s out := by
 have same : ∀ (u v : Int), 0 ≤ u → u < nn → yH ds s u v → out[u.toNat]? = out[v.toNat]? := by
  intro u v h0 hu hc;unfold yH at hc
  induction hc with
  | base hv => rw [List.mem_singleton.1 hv]
  | step hr _ hx hU ND ih =>
   rename_i a i x _
   rw [ih];have hL := h1 i (List.getElem?_eq_some_iff.1 hx).1 x hx hU;unfold xn at ND ⊢;by_cases hj : zV x.kind = false
   ·rw [if_pos hj] at ND; omega
   ·simp only [if_neg hj] at ND ⊢;have hL := hL (by simpa using hj);by_cases ha : x.a = a
    ·rw [if_pos ha, ← ha]; exact hL
    ·simp only [if_neg ha] at ND ⊢;by_cases hb : x.b = a
     ·rw [if_pos hb, ← hb]; exact hL.symm
     ·rw [if_neg hb] at ND; omega
 refine ⟨h.1, fun v hv => ?_⟩;obtain ⟨p, h2, h3, h4⟩ := h.2 v hv;refine ⟨p, h2, h3, h4, fun u hu hc => ?_⟩;obtain ⟨q, k2, k3, k4⟩ := h.2 u hu;have := same u v (by omega) (by omega) hc;simp only [Int.toNat_natCast] at this;rw [h2, k2] at this;injection this with e;omega
end
end Go.Proofs.YtddddlhgaeameaaGreatDoor
