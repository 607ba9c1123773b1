import Derived.Test.YtfaknfmndafllaaGreatDoorW13
import Derived.Test.YtfaknfmndafllaaGreatDoorW11
import Derived.Test.YtfaknfmndafllaaGreatDoorW07
set_option maxHeartbeats 2000000
namespace Go.Proofs.YtfaknfmndafllaaGreatDoor
open Go.RowKit
def posErr (ns : List Nd) (ds : List Dv) (s : List Int) (m : Int) : Int := if checkN ns ds ≠ 0 then checkN ns ds else if s.length ≠ ds.length then 9 else if ∀ p ∈ s, 1 ≤ p ∧ p ≤ m then 0 else 10
theorem posErr_two (ns : List Nd) (ds : List Dv) (s : List Int) : posErr ns ds s 2 = stateErr ns ds s := by
 unfold posErr stateErr
 have e : (∀ p ∈ s, 1 ≤ p ∧ p ≤ 2) ↔ (∀ p ∈ s, posB p = true) := by
  constructor <;> intro h p hp <;> have := h p hp <;> simp [posB] at * <;> omega
 split
 ·rfl
 ·split
  ·rfl
  ·by_cases h : ∀ p ∈ s, posB p = true
   ·rw [if_pos h, if_pos (e.2 h)]
   ·rw [if_neg h, if_neg (fun k => h (e.1 k))]
def RpR (w : World) (N : Array Value) (n : Nat) (s : List Int) (m : Int) (gk : Nat) (iv : Value) (wr : World) : Prop := ∃ i : Nat, iv = .int .i64 i ∧ i ≤ n ∧ gk = n - i ∧ Hid (RcSt w N wr) ∧ Hid (∀ p ∈ s.take i, 1 ≤ p ∧ p ≤ m)
theorem rpos_any (An Ad As : Option Addr) (nn cn nd cd n c Bn Bd Bs : Nat) (ns : List Nd) (ds : List Dv) (s : List Int) (m : Int) (w : World) (hn : Sl w Bn 3 An nn cn (ns.flatMap Nd.cells)) (hd : Sl w Bd 5 Ad nd cd (ds.flatMap Dv.cells)) (hs : Sl w Bs 1 As n c (intsV s)) (hBn : Bn ≤ w.heap.size) (hBd : Bd ≤ w.heap.size) (hBs : Bs ≤ w.heap.size)
 (hsn : ∀ x ∈ ns, x.name.size ≤ 9223372036854775807) (hsd : ∀ x ∈ ds, x.name.size ≤ 9223372036854775807) :
 Calls Tryz.prog 43 #[.agg #[.slice An nn cn, .slice Ad nd cd], .slice As n c, .int .i64 m] w fun e w' => e = .returned (.int .i64 (posErr ns ds s m)) ∧ Below w.heap.size w w' := by
 have HLS := Lib.hid (hs.len (fun _ => rfl) (by decide)); have HLD := Lib.hid (hd.len (fun _ => rfl) (by decide))
 obtain ⟨hnc, hcm⟩ := hs.le
 obtain ⟨hdc, hdm⟩ := hd.le
 have HE : Hid (posErr ns ds s m = if checkN ns ds ≠ 0 then checkN ns ds else if n ≠ nd then 9 else if ∀ p ∈ s, 1 ≤ p ∧ p ≤ m then 0 else 10) := by unfold Hid; rw [posErr, HLS.out, HLD.out]
 have HS := Lib.hid hs
 have HCK := Lib.hid (rcheck_any An Ad nn cn nd cd Bn Bd ns ds (w.alloc (.cells #[.slice An nn cn, .slice Ad nd cd] 30)) (hn.alloc hBn _) (hd.alloc hBd _) (by simp; omega) (by simp; omega) hsn hsd)
 clear hn hd hs hsn hsd
 generalize checkN ns ds = er at *
 have HR0 : Hid (RcSt w #[.slice An nn cn, .slice Ad nd cd] (w.alloc (.cells #[.slice An nn cn, .slice Ad nd cd] 30))) := ⟨Blk.new _ _ _, (Below.refl _ _).alloc (Nat.le_refl _) _⟩
 by_cases h0 : er = 0; rotate_left
 ·have h0' : (er != 0) = true := by simpa using h0
  have HR : Hid (posErr ns ds s m = er) := by unfold Hid; rw [HE.out, if_pos h0]
  clear h0
  go_enter Tryz.func43, Tryz.ntmps43
  go_wp2_with fail
  refine HCK.out.mono ?_
  rintro e w1 ⟨rfl, hb1⟩
  have HR1 := Lib.hid (HR0.out.later hb1)
  go_wp2_with fail
  go_ret
  exact ⟨ret_int (by rw [HR.out]), HR1.out.bl⟩
 subst h0
 go_enter Tryz.func43, Tryz.ntmps43
 go_wp2_with fail
 refine HCK.out.mono ?_
 rintro e w1 ⟨rfl, hb1⟩
 have HR1 := Lib.hid (HR0.out.later hb1)
 clear hb1 HCK HR0
 have k1 := HR1.out.bx.c1
 by_cases hnd : n = nd; rotate_left
 ·have q : decide (n = nd) = false := by simpa using hnd
  have q' : ((n : Int) != (nd : Int)) = true := by simp; omega
  have HR : Hid (posErr ns ds s m = 9) := by unfold Hid; rw [HE.out, if_neg (by simp), if_pos hnd]
  clear hnd
  go_wp2_with fail
  go_ret
  exact ⟨ret_int (by rw [HR.out]), HR1.out.bl⟩
 subst hnd
 go_wp2_with fail
 clear k1
 go_loopg [8] n (RpR w #[.slice An nn cn, .slice Ad n cd] n s m)
 case atStart => exact ⟨0, rfl, Nat.zero_le _, rfl, HR1, by simp [Hid]⟩
 case round =>
  clear HR1
  obtain ⟨i, rfl, hi, rfl, hst, hok⟩ := hrel
  by_cases hlt : i < n
  ·obtain ⟨b, off, x, rfl, hb, hx, hc⟩ := (HS.out.below hst.out.bl hBs).at1 hlt
   have HX := Lib.hid hx; clear hx
   by_cases h1 : x < 1
   ·have HR : Hid (posErr ns ds s m = 10) := by
     unfold Hid
     rw [HE.out, if_neg (by simp), if_neg (by simp), if_neg (fun h => by have := h x (List.mem_of_getElem? HX.out); omega)]
    go_wp2_with fail
    go_ret
    exact ⟨ret_int (by rw [HR.out]), hst.out.bl⟩
   ·have q1 : decide (x < 1) = false := by simpa using h1
    by_cases h2 : m < x
    ·have HR : Hid (posErr ns ds s m = 10) := by
      unfold Hid
      rw [HE.out, if_neg (by simp), if_neg (by simp), if_neg (fun h => by have := h x (List.mem_of_getElem? HX.out); omega)]
     go_wp2_with fail
     go_ret
     exact ⟨ret_int (by rw [HR.out]), hst.out.bl⟩
    ·have q2 : decide (m < x) = false := by simpa using h2
     go_wp2_with fail
     go_roundg (n - (i + 1))
     case rel =>
      refine ⟨i + 1, by go_num, by omega, rfl, hst, fun p hp => ?_⟩
      rw [take_snoc HX.out] at hp
      rcases List.mem_append.1 hp with h | h
      ·exact hok.out p h
      ·rw [List.mem_singleton.1 h]; omega
     case measure => omega
  ·obtain rfl : i = n := by omega
   have hjj : decide (i < i) = false := by simp
   have HR : Hid (posErr ns ds s m = 0) := by
    unfold Hid
    have := hok.out
    rw [List.take_of_length_le (by rw [HLS.out]; exact Nat.le_refl _)] at this
    rw [HE.out, if_neg (by simp), if_neg (by simp), if_pos this]
   go_wp2_with fail
   go_ret
   exact ⟨ret_int (by rw [HR.out]), hst.out.bl⟩
theorem rstate_any (An Ad As : Option Addr) (nn cn nd cd n c Bn Bd Bs : Nat) (ns : List Nd) (ds : List Dv) (s : List Int) (w : World) (hn : Sl w Bn 3 An nn cn (ns.flatMap Nd.cells)) (hd : Sl w Bd 5 Ad nd cd (ds.flatMap Dv.cells)) (hs : Sl w Bs 1 As n c (intsV s)) (hBn : Bn ≤ w.heap.size) (hBd : Bd ≤ w.heap.size) (hBs : Bs ≤ w.heap.size)
 (hsn : ∀ x ∈ ns, x.name.size ≤ 9223372036854775807) (hsd : ∀ x ∈ ds, x.name.size ≤ 9223372036854775807) :
 Calls Tryz.prog 16 #[.agg #[.slice An nn cn, .slice Ad nd cd], .slice As n c] w fun e w' => e = .returned (.int .i64 (stateErr ns ds s)) ∧ Below w.heap.size w w' := by
 have HC := Lib.hid (rpos_any An Ad As nn cn nd cd n c Bn Bd Bs ns ds s 2 (w.alloc (.cells #[.slice An nn cn, .slice Ad nd cd] 30)) (hn.alloc hBn _) (hd.alloc hBd _) (hs.alloc hBs _) (by simp; omega) (by simp; omega) (by simp; omega) hsn hsd)
 rw [posErr_two] at HC
 clear hn hd hs hsn hsd
 go_enter Tryz.func16, Tryz.ntmps16
 go_wp2_with fail
 refine HC.out.mono ?_
 rintro e w1 ⟨rfl, hb1⟩
 go_wp2_with fail
 go_ret
 exact ⟨rfl, ((Below.refl _ _).alloc (Nat.le_refl _) _).trans (hb1.mono (by simp))⟩
end Go.Proofs.YtfaknfmndafllaaGreatDoor
namespace Go.Proofs.YtfaknfmndafllaaGreatDoor
def sumN (l : List Int) : Nat := (l.map Int.toNat).sum
theorem sumN_set : ∀ {l : List Int} {k : Nat} {x : Int} (y : Int), l[k]? = some x → sumN (l.set k y) + x.toNat = sumN l + y.toNat
 | [], k, x, y, h => by simp at h
 | a :: l, 0, x, y, h => by simp at h; subst h; simp [sumN]; omega
 | a :: l, k + 1, x, y, h => by
  simp at h
  have := sumN_set y h
  simp [sumN] at *
  omega
def LInv (nn : Nat) (ds : List Dv) (s out : List Int) : Prop := out.length = nn ∧ ∀ v : Nat, v < nn → ∃ p : Nat, out[v]? = some (p : Int) ∧ p ≤ v ∧ Conn ds s p v
def LOne (ds : List Dv) (s out : List Int) (i : Nat) : Prop := ∀ x, ds[i]? = some x → shutB s i = true → joinsB x.kind = true → out[x.a.toNat]? = out[x.b.toNat]?
section
variable {nn : Nat} {ds : List Dv} {s out : List Int}
theorem LInv.put (h : LInv nn ds s out) {i : Nat} {x : Dv} {a b p q : Nat} (hx : ds[i]? = some x) (hc : shutB s i = true) (hj : joinsB x.kind = true) (ha : x.a = a) (hb : x.b = b) (han : a < nn) (hbn : b < nn) (hab : a ≠ b) (hp : out[a]? = some (p : Int)) (hq : out[b]? = some (q : Int)) (hpq : p ≠ q) :
 LInv nn ds s ((out.set a (min p q : Nat)).set b (min p q : Nat)) ∧ sumN ((out.set a (min p q : Nat)).set b (min p q : Nat)) < sumN out := by
 have hA : acrB x a = b := by unfold acrB; rw [if_neg (by rw [hj]; simp), if_pos ha, hb]
 have hB : acrB x b = a := by unfold acrB; rw [if_neg (by rw [hj]; simp), if_neg (by omega), if_pos hb, ha]
 have cab : Conn ds s a b := by have := Conn.edge (s := s) (u := (a : Int)) hx hc (by rw [hA]; omega); rwa [hA] at this
 have cba : Conn ds s b a := by have := Conn.edge (s := s) (u := (b : Int)) hx hc (by rw [hB]; omega); rwa [hB] at this
 obtain ⟨p', hp1, hp2, hp3⟩ := h.2 a han
 obtain ⟨q', hq1, hq2, hq3⟩ := h.2 b hbn
 have e1 : p' = p := by rw [hp] at hp1; injection hp1 with e; omega
 have e2 : q' = q := by rw [hq] at hq1; injection hq1 with e; omega
 subst e1 e2
 have hm : (min p' q' = p' ∧ p' < q') ∨ (min p' q' = q' ∧ q' < p') := by omega
 have ca : Conn ds s (min p' q' : Nat) a := by
  rcases hm with ⟨e, _⟩ | ⟨e, _⟩ <;> rw [e]
  ·exact hp3
  ·exact hq3.trans cba
 have cb : Conn ds s (min p' q' : Nat) b := ca.trans cab
 have hla : out.length = nn := h.1
 refine ⟨⟨by simp [h.1], fun v hv => ?_⟩, ?_⟩
 ·rw [List.getElem?_set, List.getElem?_set]
  by_cases hvb : b = v
  ·subst hvb
   rw [if_pos rfl, if_pos (by simp; omega)]
   exact ⟨min p' q', rfl, by omega, cb⟩
  ·rw [if_neg hvb]
   by_cases hva : a = v
   ·subst hva
    rw [if_pos rfl, if_pos (by omega)]
    exact ⟨min p' q', rfl, by omega, ca⟩
   ·rw [if_neg hva]
    exact h.2 v hv
 ·have s1 := sumN_set (min p' q' : Nat) hp
  have s2 := sumN_set (l := out.set a (min p' q' : Nat)) (k := b) (x := (q' : Int)) (min p' q' : Nat) (by rw [List.getElem?_set, if_neg hab]; exact hq)
  simp only [Int.toNat_natCast] at s1 s2
  omega
theorem LInv.start (nn : Nat) (ds : List Dv) (s out : List Int) (hl : out.length = nn) (h : ∀ v : Nat, v < nn → out[v]? = some (v : Int)) : LInv nn ds s out := ⟨hl, fun v hv => ⟨v, h v hv, Nat.le_refl _, Conn.refl _ _ _⟩⟩
theorem LInv.final (h : LInv nn ds s out) (h1 : ∀ i, i < ds.length → LOne ds s out i) : IsParts nn ds s out := by
 have same : ∀ (u v : Int), 0 ≤ u → u < nn → Conn ds s u v → out[u.toNat]? = out[v.toNat]? := by
  intro u v h0 hu hc
  unfold Conn at hc
  induction hc with
  | base hv => rw [List.mem_singleton.1 hv]
  | step hr _ hx hU h00 ih =>
   rename_i a i x _
   rw [ih]
   have hL := h1 i (List.getElem?_eq_some_iff.1 hx).1 x hx hU
   unfold acrB at h00 ⊢
   by_cases hj : joinsB x.kind = false
   ·rw [if_pos hj] at h00; omega
   ·simp only [if_neg hj] at h00 ⊢
    have hL := hL (by simpa using hj)
    by_cases ha : x.a = a
    ·rw [if_pos ha, ← ha]; exact hL
    ·simp only [if_neg ha] at h00 ⊢
     by_cases hb : x.b = a
     ·rw [if_pos hb, ← hb]; exact hL.symm
     ·rw [if_neg hb] at h00; omega
 refine ⟨h.1, fun v hv => ?_⟩
 obtain ⟨p, h2, h3, h4⟩ := h.2 v hv
 refine ⟨p, h2, h3, h4, fun u hu hc => ?_⟩
 obtain ⟨q, k2, k3, k4⟩ := h.2 u hu
 have := same u v (by omega) (by omega) hc
 simp only [Int.toNat_natCast] at this
 rw [h2, k2] at this
 injection this with e
 omega
end
end Go.Proofs.YtfaknfmndafllaaGreatDoor
