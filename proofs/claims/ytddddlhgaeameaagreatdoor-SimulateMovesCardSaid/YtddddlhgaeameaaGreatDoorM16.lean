import Derived.Test.YtddddlhgaeameaaGreatDoorM15
import Derived.Test.YtddddlhgaeameaaGreatDoorM13
set_option maxHeartbeats 2000000
namespace Go.Proofs.YtddddlhgaeameaaGreatDoor
section
open Go.RowKit
def wu (ns : List Nd) (ds : List Dv) (s : List Int) (m : Int) : Int := if zR ns ds ≠ 0 then zR ns ds else if s.length ≠ ds.length then 9 else if ∀ p ∈ s, 1 ≤ p ∧ p ≤ m then 0 else 10
theorem oz (ns : List Nd) (ds : List Dv) (s : List Int) : wu ns ds s 2 = zL ns ds s := by
 unfold wu zL
 have e : (∀ p ∈ s, 1 ≤ p ∧ p ≤ 2) ↔ (∀ p ∈ s, posB p = true) := by
  constructor <;> intro h p hp <;> have := h p hp <;> simp [posB] at * <;> omega
 split
 ·rfl
 ·split
  ·rfl
  ·by_cases h : ∀ p ∈ s, posB p = true
   ·rw [if_pos h, if_pos (e.2 h)]
   ·rw [if_neg h, if_neg (fun k => h (e.1 k))]
def RpR (w : World) (N : Array Value) (n : Nat) (s : List Int) (m : Int) (gk : Nat) (iv : Value) (wr : World) : Prop := ∃ i : Nat, iv = .int .i64 i ∧ i ≤ n ∧ gk = n - i ∧ Hid (vt w N wr) ∧ Hid (∀ p ∈ s.take i, 1 ≤ p ∧ p ≤ m)
theorem lT (An Ad As : Option Addr) (nn cn nd cd n c Bn Bd Bs : Nat) (ns : List Nd) (ds : List Dv) (s : List Int) (m : Int) (w : World) (hn : Sl w Bn 3 An nn cn (ns.flatMap Nd.cells)) (hd : Sl w Bd 5 Ad nd cd (ds.flatMap Dv.cells)) (hs : Sl w Bs 1 As n c (zK s)) (hBn : Bn ≤ w.heap.size) (hBd : Bd ≤ w.heap.size) (hBs : Bs ≤ w.heap.size)
 (hsn : ∀ x ∈ ns, x.name.size ≤ 9223372036854775807) (hsd : ∀ x ∈ ds, x.name.size ≤ 9223372036854775807) :
 Calls Tryz.prog 51 #[.agg #[.slice An nn cn, .slice Ad nd cd], .slice As n c, .int .i64 m] w fun e w' => e = .returned (.int .i64 (wu ns ds s m)) ∧ Below w.heap.size w w' := by
 have HLS := iD (hs.len (fun _ => rfl) (by decide)); have HLD := iD (hd.len (fun _ => rfl) (by decide))
 obtain ⟨hnc, hcm⟩ := hs.le
 obtain ⟨hdc, hdm⟩ := hd.le
 have HE : Hid (wu ns ds s m = if zR ns ds ≠ 0 then zR ns ds else if n ≠ nd then 9 else if ∀ p ∈ s, 1 ≤ p ∧ p ≤ m then 0 else 10) := by unfold Hid; rw [wu, HLS.out, HLD.out]
 have HS := iD hs
 have HCK := iD (uU An Ad nn cn nd cd Bn Bd ns ds (w.alloc (.cells #[.slice An nn cn, .slice Ad nd cd] 26)) (hn.alloc hBn _) (hd.alloc hBd _) (by simp; omega) (by simp; omega) hsn hsd)
 clear hn hd hs hsn hsd
 generalize zR ns ds = er at *
 have HR0 : Hid (vt w #[.slice An nn cn, .slice Ad nd cd] (w.alloc (.cells #[.slice An nn cn, .slice Ad nd cd] 26))) := ⟨Blk.new _ _ _, (Below.refl _ _).alloc lR _⟩
 by_cases h0 : er = 0; rotate_left
 ·have h0' : (er != 0) = true := by simpa using h0
  have HR : Hid (wu ns ds s m = er) := by unfold Hid; rw [HE.out, if_pos h0]
  clear h0
  go_enter Tryz.func51, Tryz.ntmps51
  go_wp2_with fail
  refine HCK.out.mono ?_
  rintro e w1 ⟨rfl, hb1⟩
  have HR1 := iD (HR0.out.later hb1)
  go_wp2_with fail
  go_ret
  exact ⟨zE (by rw [HR.out]), HR1.out.bl⟩
 subst h0
 go_enter Tryz.func51, Tryz.ntmps51
 go_wp2_with fail
 refine HCK.out.mono ?_
 rintro e w1 ⟨rfl, hb1⟩
 have HR1 := iD (HR0.out.later hb1)
 clear hb1 HCK HR0
 have k1 := HR1.out.bx.c1
 by_cases hnd : n = nd; rotate_left
 ·have q : decide (n = nd) = false := by simpa using hnd
  have q' : ((n : Int) != (nd : Int)) = true := by simp; omega
  have HR : Hid (wu ns ds s m = 9) := by unfold Hid; rw [HE.out, if_neg (by simp), if_pos hnd]
  clear hnd
  go_wp2_with fail
  go_ret
  exact ⟨zE (by rw [HR.out]), HR1.out.bl⟩
 subst hnd
 go_wp2_with fail
 clear k1
 go_loopg [8] n (RpR w #[.slice An nn cn, .slice Ad n cd] n s m)
 case atStart => exact ⟨0, rfl, Nat.zero_le _, rfl, HR1, by simp [Hid]⟩
 case round =>
  clear HR1
  obtain ⟨i, rfl, hi, rfl, hst, hok⟩ := hrel
  by_cases hlt : i < n
  ·obtain ⟨b, off, x, rfl, hb, hx, hc⟩ := (HS.out.below hst.out.bl hBs).at1 hlt
   have HX := iD hx; clear hx
   by_cases h1 : x < 1
   ·have HR : Hid (wu ns ds s m = 10) := by
     unfold Hid
     rw [HE.out, if_neg (by simp), if_neg (by simp), if_neg (fun h => by have := h x (List.mem_of_getElem? HX.out); omega)]
    go_wp2_with fail
    go_ret
    exact ⟨zE (by rw [HR.out]), hst.out.bl⟩
   ·have q1 : decide (x < 1) = false := by simpa using h1
    by_cases h2 : m < x
    ·have HR : Hid (wu ns ds s m = 10) := by
      unfold Hid
      rw [HE.out, if_neg (by simp), if_neg (by simp), if_neg (fun h => by have := h x (List.mem_of_getElem? HX.out); omega)]
     go_wp2_with fail
     go_ret
     exact ⟨zE (by rw [HR.out]), hst.out.bl⟩
    ·have q2 : decide (m < x) = false := by simpa using h2
     go_wp2_with fail
     go_roundg (n - (i + 1))
     case rel =>
      refine ⟨i + 1, by go_num, by omega, rfl, hst, fun p hp => ?_⟩
      rw [zV HX.out] at hp
      rcases List.mem_append.1 hp with h | h
      ·exact hok.out p h
      ·rw [List.mem_singleton.1 h]; omega
     case measure => omega
  ·obtain rfl : i = n := by omega
   have hjj : decide (i < i) = false := by simp
   have HR : Hid (wu ns ds s m = 0) := by
    unfold Hid
    have := hok.out
    rw [List.take_of_length_le (by rw [HLS.out]; exact Nat.le_refl _)] at this
    rw [HE.out, if_neg (by simp), if_neg (by simp), if_pos this]
   go_wp2_with fail
   go_ret
   exact ⟨zE (by rw [HR.out]), hst.out.bl⟩
theorem wU (An Ad As : Option Addr) (nn cn nd cd n c Bn Bd Bs : Nat) (ns : List Nd) (ds : List Dv) (s : List Int) (w : World) (hn : Sl w Bn 3 An nn cn (ns.flatMap Nd.cells)) (hd : Sl w Bd 5 Ad nd cd (ds.flatMap Dv.cells)) (hs : Sl w Bs 1 As n c (zK s)) (hBn : Bn ≤ w.heap.size) (hBd : Bd ≤ w.heap.size) (hBs : Bs ≤ w.heap.size)
 (hsn : ∀ x ∈ ns, x.name.size ≤ 9223372036854775807) (hsd : ∀ x ∈ ds, x.name.size ≤ 9223372036854775807) :
 Calls Tryz.prog 29 #[.agg #[.slice An nn cn, .slice Ad nd cd], .slice As n c] w fun e w' => e = .returned (.int .i64 (zL ns ds s)) ∧ Below w.heap.size w w' := by
 have HC := iD (lT An Ad As nn cn nd cd n c Bn Bd Bs ns ds s 2 (w.alloc (.cells #[.slice An nn cn, .slice Ad nd cd] 26)) (hn.alloc hBn _) (hd.alloc hBd _) (hs.alloc hBs _) (by simp; omega) (by simp; omega) (by simp; omega) hsn hsd)
 rw [oz] at HC
 clear hn hd hs hsn hsd
 go_enter Tryz.func29, Tryz.ntmps29
 go_wp2_with fail
 refine HC.out.mono ?_
 rintro e w1 ⟨rfl, hb1⟩
 go_wp2_with fail
 go_ret
 exact ⟨rfl, ((Below.refl _ _).alloc lR _).trans (hb1.mono (by simp))⟩
end
section
def tL (l : List Int) : Nat := (l.map Int.toNat).sum
theorem sT : ∀ {l : List Int} {k : Nat} {x : Int} (y : Int), l[k]? = some x → tL (l.set k y) + x.toNat = tL l + y.toNat
 | [], k, x, y, h => by simp at h
 | a :: l, 0, x, y, h => by simp at h; subst h; simp [tL]; omega
 | a :: l, k + 1, x, y, h => by
  simp at h
  have := sT y h
  simp [tL] at *
  omega
def rg (nn : Nat) (ds : List Dv) (s out : List Int) : Prop := out.length = nn ∧ ∀ v : Nat, v < nn → ∃ p : Nat, out[v]? = some (p : Int) ∧ p ≤ v ∧ yD ds s p v
def lH (ds : List Dv) (s out : List Int) (i : Nat) : Prop := ∀ x, ds[i]? = some x → uO s i = true → zX x.kind = true → out[x.a.toNat]? = out[x.b.toNat]?
section
variable {nn : Nat} {ds : List Dv} {s out : List Int}
theorem rg.put (h : rg nn ds s out) {i : Nat} {x : Dv} {a b p q : Nat} (hx : ds[i]? = some x) (hc : uO s i = true) (hj : zX x.kind = true) (ha : x.a = a) (hb : x.b = b) (han : a < nn) (hbn : b < nn) (hab : a ≠ b) (hp : out[a]? = some (p : Int)) (hq : out[b]? = some (q : Int)) (hpq : p ≠ q) :
 rg nn ds s ((out.set a (min p q : Nat)).set b (min p q : Nat)) ∧ tL ((out.set a (min p q : Nat)).set b (min p q : Nat)) < tL out := by
 have hA : xl x a = b := by unfold xl; rw [if_neg (by rw [hj]; simp), if_pos ha, hb]
 have hB : xl x b = a := by unfold xl; rw [if_neg (by rw [hj]; simp), if_neg (by omega), if_pos hb, ha]
 have cab : yD ds s a b := by have := yD.edge (s := s) (u := (a : Int)) hx hc (by rw [hA]; omega); rwa [hA] at this
 have cba : yD ds s b a := by have := yD.edge (s := s) (u := (b : Int)) hx hc (by rw [hB]; omega); rwa [hB] at this
 obtain ⟨p', hp1, hp2, hp3⟩ := h.2 a han
 obtain ⟨q', hq1, hq2, hq3⟩ := h.2 b hbn
 have e1 : p' = p := by rw [hp] at hp1; injection hp1 with e; omega
 have e2 : q' = q := by rw [hq] at hq1; injection hq1 with e; omega
 subst e1 e2
 have hm : (min p' q' = p' ∧ p' < q') ∨ (min p' q' = q' ∧ q' < p') := by omega
 have ca : yD ds s (min p' q' : Nat) a := by
  rcases hm with ⟨e, _⟩ | ⟨e, _⟩ <;> rw [e]
  ·exact hp3
  ·exact hq3.trans cba
 have cb : yD ds s (min p' q' : Nat) b := ca.trans cab
 have hla : out.length = nn := h.1
 refine ⟨⟨by simp [h.1], fun v hv => ?_⟩, ?_⟩
 ·rw [List.getElem?_set, List.getElem?_set]
  by_cases hvb : b = v
  ·subst hvb
   rw [if_pos rfl, if_pos (by simp; omega)]
   exact ⟨min p' q', rfl, by omega, cb⟩
  ·rw [if_neg hvb]
   by_cases hva : a = v
   ·subst hva
    rw [if_pos rfl, if_pos (by omega)]
    exact ⟨min p' q', rfl, by omega, ca⟩
   ·rw [if_neg hva]
    exact h.2 v hv
 ·have s1 := sT (min p' q' : Nat) hp
  have s2 := sT (l := out.set a (min p' q' : Nat)) (k := b) (x := (q' : Int)) (min p' q' : Nat) (by rw [List.getElem?_set, if_neg hab]; exact hq)
  simp only [Int.toNat_natCast] at s1 s2
  omega
theorem rg.start (nn : Nat) (ds : List Dv) (s out : List Int) (hl : out.length = nn) (h : ∀ v : Nat, v < nn → out[v]? = some (v : Int)) : rg nn ds s out := ⟨hl, fun v hv => ⟨v, h v hv, Nat.le_refl _, yD.refl _ _ _⟩⟩
theorem rg.final (h : rg nn ds s out) (h1 : ∀ i, i < ds.length → lH ds s out i) : yR nn ds s out := by
 have same : ∀ (u v : Int), 0 ≤ u → u < nn → yD ds s u v → out[u.toNat]? = out[v.toNat]? := by
  intro u v h0 hu hc
  unfold yD at hc
  induction hc with
  | base hv => rw [List.mem_singleton.1 hv]
  | step hr _ hx hU h00 ih =>
   rename_i a i x _
   rw [ih]
   have hL := h1 i (List.getElem?_eq_some_iff.1 hx).1 x hx hU
   unfold xl at h00 ⊢
   by_cases hj : zX x.kind = false
   ·rw [if_pos hj] at h00; omega
   ·simp only [if_neg hj] at h00 ⊢
    have hL := hL (by simpa using hj)
    by_cases ha : x.a = a
    ·rw [if_pos ha, ← ha]; exact hL
    ·simp only [if_neg ha] at h00 ⊢
     by_cases hb : x.b = a
     ·rw [if_pos hb, ← hb]; exact hL.symm
     ·rw [if_neg hb] at h00; omega
 refine ⟨h.1, fun v hv => ?_⟩
 obtain ⟨p, h2, h3, h4⟩ := h.2 v hv
 refine ⟨p, h2, h3, h4, fun u hu hc => ?_⟩
 obtain ⟨q, k2, k3, k4⟩ := h.2 u hu
 have := same u v (by omega) (by omega) hc
 simp only [Int.toNat_natCast] at this
 rw [h2, k2] at this
 injection this with e
 omega
end
end
end Go.Proofs.YtddddlhgaeameaaGreatDoor
