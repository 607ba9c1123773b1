import Derived.Test.YtddddlhgaeameaaGreatDoorM12
set_option maxHeartbeats 2000000
namespace Go.Proofs.YtddddlhgaeameaaGreatDoor
section
open Go.RowKit
def zL (ns : List Nd) (ds : List Dv) (s : List Int) : Int := if zR ns ds ≠ 0 then zR ns ds else if s.length ≠ ds.length then 9 else if ∀ p ∈ s, posB p = true then 0 else 10
theorem nD (An Ad As : Option Addr) (nn cn nd cd n c Bn Bd Bs : Nat) (ns : List Nd) (ds : List Dv) (s : List Int) (w : World) (hl : Laid w) (hn : Sl w Bn 3 An nn cn (ns.flatMap Nd.cells)) (hd : Sl w Bd 5 Ad nd cd (ds.flatMap Dv.cells)) (hs : Sl w Bs 1 As n c (zK s)) (hBn : Bn ≤ w.heap.size) (hBd : Bd ≤ w.heap.size) (hBs : Bs ≤ w.heap.size)
 (hsn : ∀ x ∈ ns, x.name.size ≤ 9223372036854775807) (hsd : ∀ x ∈ ds, x.name.size ≤ 9223372036854775807) :
 Calls Tryz.prog 79 #[.agg #[.slice An nn cn, .slice Ad nd cd], .slice As n c, .func (.func 80) #[] #[]] w fun e w' => e = .returned (.int .i64 (zL ns ds s)) ∧ Below w.heap.size w w' := by
 have HLS := iD (hs.len (fun _ => rfl) (by decide)); have HLD := iD (hd.len (fun _ => rfl) (by decide))
 obtain ⟨hnc, hcm⟩ := hs.le
 obtain ⟨hdc, hdm⟩ := hd.le
 have HE : Hid (zL ns ds s = if zR ns ds ≠ 0 then zR ns ds else if n ≠ nd then 9 else if ∀ p ∈ s, posB p = true then 0 else 10) := by unfold Hid; rw [zL, HLS.out, HLD.out]
 have HL := iD hl; have HN := iD hn; have HD := iD hd; have HS := iD hs
 have HCK := iD (uY An Ad nn cn nd cd Bn Bd ns ds (w.alloc (.cells #[.slice An nn cn, .slice Ad nd cd] 26)) (hl.alloc _) (hn.alloc hBn _) (hd.alloc hBd _) (by simp; omega) (by simp; omega) hsn hsd)
 clear hl hn hd hs hsn hsd
 generalize zR ns ds = er at *
 have HBW : Hid (Below w.heap.size w (w.alloc (.cells #[.slice An nn cn, .slice Ad nd cd] 26))) := (Below.refl _ _).alloc lR _
 by_cases h0 : er = 0; rotate_left
 ·have h0' : (er != 0) = true := by simpa using h0
  have HR : Hid (zL ns ds s = er) := by unfold Hid; rw [HE.out, if_pos h0]
  clear h0
  go_enter Tryz.func79, Tryz.ntmps79
  go_wp2_with fail
  refine HCK.out.mono ?_
  rintro e w1 ⟨rfl, hb1⟩
  go_wp2_with fail
  go_ret
  exact ⟨zE (by rw [HR.out]), HBW.out.trans (hb1.mono (by simp))⟩
 subst h0
 go_enter Tryz.func79, Tryz.ntmps79
 go_wp2_with fail
 refine HCK.out.mono ?_
 rintro e w1 ⟨rfl, hb1⟩
 have HK1 := iD ((Blk.new w 26 #[.slice An nn cn, .slice Ad nd cd]).below hb1 (by simp))
 have HB1 := iD (HBW.out.trans (hb1.mono (by simp)))
 have k1 := HK1.out.c1
 have hz1 := HB1.out.size
 clear hb1 HCK
 by_cases hnd : n = nd; rotate_left
 ·have q : decide (n = nd) = false := by simpa using hnd
  have q' : ((n : Int) != (nd : Int)) = true := by simp; omega
  have HR : Hid (zL ns ds s = 9) := by unfold Hid; rw [HE.out, if_neg (by simp), if_pos hnd]
  clear hnd
  go_wp2_with fail
  go_ret
  exact ⟨zE (by rw [HR.out]), HB1.out⟩
 subst hnd
 have HL1 := iD (HL.out.below HB1.out lR)
 have HS1 := iD (HS.out.below HB1.out hBs)
 go_wp2_with fail
 clear k1
 go_loop [9, 23] (fun _ iv => ∃ i : Nat, iv = .int .i64 i ∧ i ≤ n ∧ Hid (∀ p ∈ s.take i, posB p = true)) (fun _ iv => n - (intOf iv).toNat)
 case atStart => exact ⟨0, rfl, Nat.zero_le _, by simp [Hid]⟩
 case round =>
  obtain ⟨i, rfl, hi, hok⟩ := hrel
  by_cases hlt : i < n
  ·obtain ⟨b, off, x, rfl, hb, hx, hc⟩ := HS1.out.at1 hlt
   have HX := iD hx; clear hx
   have HPA := iD (qf x w1 HL1.out)
   rcases hp : posB x with _ | _
   ·have HR : Hid (zL ns ds s = 10) := by
     unfold Hid
     rw [HE.out, if_neg (by simp), if_neg (by simp), if_neg (fun h => by have := h x (List.mem_of_getElem? HX.out); rw [hp] at this; cases this)]
    rw [hp] at HPA
    clear hp
    go_wp2_with fail
    refine HPA.out.mono ?_
    rintro e w2 ⟨rfl, rfl⟩
    go_wp2_with fail
    go_ret
    exact ⟨zE (by rw [HR.out]), HB1.out⟩
   ·rw [hp] at HPA
    have HP := iD hp; clear hp
    go_wp2_with fail
    refine HPA.out.mono ?_
    rintro e w2 ⟨rfl, rfl⟩
    go_wp2_with fail
    go_round
    case rel =>
     refine ⟨i + 1, by go_num, by omega, fun p hp => ?_⟩
     rw [zV HX.out] at hp
     rcases List.mem_append.1 hp with h | h
     ·exact hok.out p h
     ·rw [List.mem_singleton.1 h]; exact HP.out
    case measure => simp [intOf]; omega
  ·obtain rfl : i = n := by omega
   have hjj : decide (i < i) = false := by simp
   have HR : Hid (zL ns ds s = 0) := by
    unfold Hid
    have := hok.out
    rw [List.take_of_length_le (by rw [HLS.out]; exact Nat.le_refl _)] at this
    rw [HE.out, if_neg (by simp), if_neg (by simp), if_pos this]
   go_wp2_with fail
   go_ret
   exact ⟨zE (by rw [HR.out]), HB1.out⟩
theorem vR (An Ad As : Option Addr) (nn cn nd cd n c Bn Bd Bs : Nat) (ns : List Nd) (ds : List Dv) (s : List Int) (w : World) (hl : Laid w) (hn : Sl w Bn 3 An nn cn (ns.flatMap Nd.cells)) (hd : Sl w Bd 5 Ad nd cd (ds.flatMap Dv.cells)) (hs : Sl w Bs 1 As n c (zK s)) (hBn : Bn ≤ w.heap.size) (hBd : Bd ≤ w.heap.size) (hBs : Bs ≤ w.heap.size)
 (hsn : ∀ x ∈ ns, x.name.size ≤ 9223372036854775807) (hsd : ∀ x ∈ ds, x.name.size ≤ 9223372036854775807) :
 Calls Tryz.prog 58 #[.agg #[.slice An nn cn, .slice Ad nd cd], .slice As n c] w fun e w' => e = .returned (.int .i64 (zL ns ds s)) ∧ Below w.heap.size w w' := by
 have HC := iD (nD An Ad As nn cn nd cd n c Bn Bd Bs ns ds s (w.alloc (.cells #[.slice An nn cn, .slice Ad nd cd] 26)) (hl.alloc _) (hn.alloc hBn _) (hd.alloc hBd _) (hs.alloc hBs _) (by simp; omega) (by simp; omega) (by simp; omega) hsn hsd)
 clear hl hn hd hs hsn hsd
 go_enter Tryz.func58, Tryz.ntmps58
 go_wp2_with fail
 refine HC.out.mono ?_
 rintro e w1 ⟨rfl, hb1⟩
 go_wp2_with fail
 go_ret
 exact ⟨rfl, ((Below.refl _ _).alloc lR _).trans (hb1.mono (by simp))⟩
end
section
open Go.RowKit
def pB (nd : Nat) (d : Int) : Int := if d < 0 then 8 else if (nd : Int) ≤ d then 8 else 0
theorem nN (An Ad : Option Addr) (nn cn nd cd : Nat) (d : Int) (w : World) (_hnd : nd ≤ 9223372036854775807) : Calls Tryz.prog 134 #[.agg #[.slice An nn cn, .slice Ad nd cd], .int .i64 d] w fun e w' => e = .returned (.int .i64 (pB nd d)) ∧ Below w.heap.size w w' := by
 have HE : Hid (pB nd d = if d < 0 then 8 else if (nd : Int) ≤ d then 8 else 0) := rfl
 by_cases h1 : d < 0
 ·go_enter Tryz.func134, Tryz.ntmps134
  go_wp2_with fail
  go_ret
  exact ⟨zE (by rw [HE.out, if_pos h1]), (Below.refl _ _).alloc lR _⟩
 ·have q1 : decide (d < 0) = false := by simpa using h1
  by_cases h2 : (nd : Int) ≤ d
  ·go_enter Tryz.func134, Tryz.ntmps134
   go_wp2_with fail
   go_ret
   exact ⟨zE (by rw [HE.out, if_neg (by omega), if_pos h2]), (Below.refl _ _).alloc lR _⟩
  ·have q2 : decide ((nd : Int) ≤ d) = false := by simpa using h2
   go_enter Tryz.func134, Tryz.ntmps134
   go_wp2_with fail
   go_ret
   exact ⟨zE (by rw [HE.out, if_neg (by omega), if_neg (by omega)]), (Below.refl _ _).alloc lR _⟩
theorem iO (An Ad As : Option Addr) (nn cn nd cd n c Bn Bd Bs i : Nat) (ns : List Nd) (ds : List Dv) (s : List Int) (x : Dv) (w : World) (hl : Laid w)
 (hn : Sl w Bn 3 An nn cn (ns.flatMap Nd.cells)) (hBn : Bn ≤ w.heap.size) (hd : Sl w Bd 5 Ad nd cd (ds.flatMap Dv.cells)) (hBd : Bd ≤ w.heap.size) (hs : Sl w Bs 1 As n c (zK s)) (hBs : Bs ≤ w.heap.size) (hsn : ∀ x ∈ ns, x.name.size ≤ 9223372036854775807) (hsd : ∀ x ∈ ds, x.name.size ≤ 9223372036854775807)
 (h0 : zL ns ds s = 0) (hnn : nn ≤ 10000) (hn1 : n ≤ 10000) (hnd : nd ≤ n) (hi : i < nd) (hx : ds[i]? = some x) (hends : yu nn ds) (hA : AOk nn ds) :
 Calls Tryz.prog 111 #[.agg #[.slice An nn cn, .slice Ad nd cd], .slice As n c, .int .i64 i] w fun e w' => e = .returned (.tuple #[.int .i64 (xG nn ns ds s i x), .int .i64 0]) ∧ Below w.heap.size w w' := by
 have HB : Hid (Below w.heap.size w (w.alloc (.cells #[.slice An nn cn, .slice Ad nd cd] 26))) := (Below.refl _ _).alloc lR _
 have HK := iD (Blk.new w 26 #[.slice An nn cn, .slice Ad nd cd])
 have HL := iD hl; have HN := iD hn; have HD := iD hd; have HS := iD hs; have HSN := iD hsn; have HSD := iD hsd; have H0 := iD h0; have HX := iD hx; have HE := iD hends; have HA := iD hA
 have hndm := hd.le
 clear hl hn hd hs hsn hsd h0 hx hends hA
 have HDE : Hid (pB nd i = 0) := by unfold Hid pB; rw [if_neg (by omega), if_neg (by omega)]
 go_enter Tryz.func111, Tryz.ntmps111
 go_wp2_with fail
 generalize World.alloc _ _ = W at *
 have hz := HB.out.size
 have HC := iD (vR An Ad As nn cn nd cd n c Bn Bd Bs ns ds s W (HL.out.below HB.out lR) (HN.out.below HB.out hBn) (HD.out.below HB.out hBd) (HS.out.below HB.out hBs) (by omega) (by omega) (by omega) HSN.out HSD.out)
 rw [H0.out] at HC
 refine HC.out.mono ?_
 rintro e w1 ⟨rfl, hb1⟩
 have HB1 := iD (HB.out.trans (hb1.mono hz))
 have HK1 := iD (HK.out.below hb1 HK.out.lt)
 have hz1 := HB1.out.size
 clear hb1 HC HB HK hz
 have k0 := HK1.out.c0
 have k1 := HK1.out.c1
 go_wp2_with fail
 have HC := iD (nN An Ad nn cn nd cd i w1 (by omega))
 rw [HDE.out] at HC
 refine HC.out.mono ?_
 rintro e w2 ⟨rfl, hb2⟩
 have HB2 := iD (HB1.out.trans (hb2.mono hz1))
 have HK2 := iD (HK1.out.below hb2 HK1.out.lt)
 have hz2 := HB2.out.size
 clear hb2 HC HB1 HK1 hz1 k0 k1
 have k0 := HK2.out.c0
 have k1 := HK2.out.c1
 go_wp2_with fail
 clear k0 k1
 refine (jg An Ad As nn cn nd cd n c Bn Bd Bs i ns ds s x w2 (HN.out.below HB2.out hBn) (by omega) (HD.out.below HB2.out hBd) (by omega) (HS.out.below HB2.out hBs) (by omega) hnn hn1 hnd hi HX.out HE.out HA.out).mono ?_
 rintro e w3 ⟨rfl, hb3⟩
 go_wp2_with fail
 go_ret2
 exact ⟨rfl, HB2.out.trans (hb3.mono hz2)⟩
end
section
section
variable {nn : Nat} {ns : List Nd} {ds : List Dv} {s : List Int} {i : Nat} {x : Dv}
end
end
section
theorem gJ {Q : Nat → Prop} : ∀ n, Q n → ∃ m, Q m ∧ ∀ k, Q k → m ≤ k := by
 intro n
 induction n using Nat.strongRecOn with
 | ind n ih =>
  intro h
  by_cases hx : ∃ k, k < n ∧ Q k
  ·obtain ⟨k, hk, hq⟩ := hx; exact ih k hk hq
  ·exact ⟨n, h, fun k hk => Nat.le_of_not_lt (fun hl => hx ⟨k, hl, hk⟩)⟩
def Sup (ds : List Dv) (s : List Int) (v : Int) : Prop := rR ym ds s v ∧ ¬ rR (· = 4) ds s v
theorem nc {ds : List Dv} {s : List Int} {v : Int} : mx ds s v = 1 ↔ Sup ds s v := by
 unfold mx Sup
 rcases yV (rR ym ds s v) 1 with ⟨h, e⟩ | ⟨h, e⟩ <;> rcases yV (rR (· = 4) ds s v) 2 with ⟨h2, e2⟩ | ⟨h2, e2⟩ <;> rw [e, e2] <;> simp [h, h2]
section
variable {nn : Nat} {ns : List Nd} {ds : List Dv} {s : List Int} {i : Nat} {x : Dv}
theorem mZ {P : List Int} (hP : yR nn ds s P) {u v : Int} (hu : 0 ≤ u ∧ u < nn) (hv : 0 ≤ v ∧ v < nn) : P.getD u.toNat 0 = P.getD v.toNat 0 ↔ yD ds s u v := by
 obtain ⟨a, rfl⟩ := Int.eq_ofNat_of_zero_le hu.1
 obtain ⟨b, rfl⟩ := Int.eq_ofNat_of_zero_le hv.1
 rw [Int.toNat_natCast, Int.toNat_natCast, ← hP.iff (by omega) (by omega)]
 obtain ⟨p, hp, _⟩ := hP.2 a (by omega)
 obtain ⟨q, hq, _⟩ := hP.2 b (by omega)
 rw [yG hp, yG hq, hp, hq]
 simp
def qM (ns : List Nd) (ds : List Dv) (o c : List Int) (d : Int) : Prop :=
 (d = 0 ∨ d = 1 → ∀ (v : Nat) (y : Nd), ns[v]? = some y → 0 < y.cust → (Sup ds c v ↔ Sup ds o v)) ∧
 (d = 2 → (∃ (v : Nat) (y : Nd), ns[v]? = some y ∧ 0 < y.cust ∧ Sup ds c v ∧ ¬ Sup ds o v) ∧ ∀ v : Int, Sup ds o v → Sup ds c v) ∧
 (d = 3 → ∀ v : Int, Sup ds c v ↔ Sup ds o v)
theorem qM.fault {o c : List Int} : qM ns ds o c 4 := ⟨fun h => by omega, fun h => by omega, fun h => by omega⟩
theorem qM.same {o c : List Int} {d : Int} (h : ∀ v : Int, Sup ds c v ↔ Sup ds o v) (hd : d ≠ 2) : qM ns ds o c d := ⟨fun _ v _ _ _ => h v, fun e => absurd e hd, fun _ => h⟩
open Classical in
theorem qM.one {o c P : List Int} {q : Int} (hP : yR nn ds o P) (hl : ns.length = nn) (hq : 0 ≤ q ∧ q < nn)
 (h1 : ∀ v, yD ds o q v → Sup ds c v ∧ ¬ Sup ds o v) (h2 : ∀ v, ¬ yD ds o q v → (Sup ds c v ↔ Sup ds o v)) :
 qM ns ds o c (if ∃ (v : Nat) (y : Nd), v < ns.length ∧ ns[v]? = some y ∧ 0 < y.cust ∧ P.getD v 0 = P.getD q.toNat 0 then 2 else 1) := by
 have pc : ∀ v : Nat, v < nn → (P.getD v 0 = P.getD q.toNat 0 ↔ yD ds o q v) := by
  intro v hv
  have h := mZ hP (u := q) (v := v) hq ⟨by omega, by omega⟩
  rw [Int.toNat_natCast] at h
  exact ⟨fun e => h.1 e.symm, fun e => (h.2 e).symm⟩
 split
 ·rename_i hx
  obtain ⟨v, y, hv, hy, hc, hp⟩ := hx
  have k := h1 v ((pc v (by omega)).1 hp)
  refine ⟨fun h => by omega, fun _ => ⟨⟨v, y, hy, hc, k.1, k.2⟩, fun u hu => ?_⟩, fun h => by omega⟩
  by_cases hcn : yD ds o q u
  ·exact (h1 u hcn).1
  ·exact (h2 u hcn).2 hu
 ·rename_i hx
  refine ⟨fun _ v y hy hc => h2 v (fun hcn => hx ?_), fun h => by omega, fun h => by omega⟩
  have hv := (List.getElem?_eq_some_iff.1 hy).1
  exact ⟨v, y, hv, hy, hc, (pc v (by omega)).2 hcn⟩
end
end
end Go.Proofs.YtddddlhgaeameaaGreatDoor
