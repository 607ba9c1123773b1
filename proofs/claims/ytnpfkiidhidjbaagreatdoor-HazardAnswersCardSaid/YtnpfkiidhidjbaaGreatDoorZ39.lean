import Derived.Test.YtnpfkiidhidjbaaGreatDoorZ38
import Derived.Test.YtnpfkiidhidjbaaGreatDoorZ36
import Derived.Test.YtnpfkiidhidjbaaGreatDoorZ25
/-
 HazardAnswers, plain: what the program and the reference give is one thing.
-/
namespace Go.Proofs.YtnpfkiidhidjbaaGreatDoor
open Go.RowKit
theorem mod_is (a n : Int) (w : World) (h1 : 1 ≤ n) (h2 : n ≤ 1000000000) : Calls Tryz.prog 23 #[.int .i64 a, .int .i64 n] w fun e w' => e = .returned (.int .i64 ((a.tmod n + n) % n)) ∧ w = w' := by
 have hm1 := Int.tmod_lt_of_pos a (show (0 : Int) < n by omega)
 have hm0 : -n < a.tmod n := by
  have := Int.lt_tmod_of_pos a (show (0 : Int) < n by omega)
  exact this
 have h3 := Int.emod_lt_of_pos (a.tmod n + n) (show (0 : Int) < n by omega)
 have h4 : 0 ≤ (a.tmod n + n) % n := Int.emod_nonneg _ (by omega)
 have hn0 : (n == 0) = false := by simpa using by omega
 go_enter Tryz.func23, Tryz.ntmps23
 go_wp2
 go_ret
 exact ⟨rfl, rfl⟩
section
variable {w w' : World} {e : Ending} {ns : List Nd} {ds : List Dv} {s m : List Int} {d p co h : Int} {ls : List Lk} {pr but : List Int}
/-- A list and an error came back. -/
def TwoP (er : Int) (L : List Int → Prop) (w : World) (e : Ending) (w' : World) : Prop := ∃ (A : Option Addr) (k c : Nat) (l : List Int), e = .returned (.tuple #[.slice A k c, .int .i64 er]) ∧ Hid (Sl w' w'.heap.size 1 A k c (intsV l)) ∧ Hid (L l) ∧ Hid (Below w.heap.size w w')
def InQ (ns : List Nd) (ds : List Dv) (s : List Int) (d p co : Int) (ls : List Lk) (pr l : List Int) : Prop := inErr ns ds s d p co ≠ 0 ∧ l = [] ∨ inErr ns ds s d p co = 0 ∧ ∃ x : Dv, ds[d.toNat]? = some x ∧ l = hzAt ns.length ns ds s d.toNat p co ls pr x
def MayQ (ns : List Nd) (ds : List Dv) (m : List Int) (d p co : Int) (ls : List Lk) (pr l : List Int) : Prop := stsErr ns ds m d p co ≠ 0 ∧ l = [] ∨ stsErr ns ds m d p co = 0 ∧ ∃ x : Dv, ds[d.toNat]? = some x ∧ MayL ns ds m d p co ls pr x l
def SafeQ (ns : List Nd) (ds : List Dv) (m : List Int) (d p co : Int) (ls : List Lk) (pr but : List Int) (b : Bool) : Prop := stsErr ns ds m d p co ≠ 0 ∧ b = false ∨ stsErr ns ds m d p co = 0 ∧ ∃ (x : Dv) (l : List Int), ds[d.toNat]? = some x ∧ MayL ns ds m d p co ls pr x l ∧ b = safeB l but
def WitQ (ns : List Nd) (ds : List Dv) (m : List Int) (d p co : Int) (ls : List Lk) (pr : List Int) (h : Int) (l : List Int) (b : Bool) : Prop := stsErr ns ds m d p co ≠ 0 ∧ l = [] ∧ b = false ∨ stsErr ns ds m d p co = 0 ∧ ∃ x : Dv, ds[d.toNat]? = some x ∧ ((∃ (k : Nat) (s : List Int), (allOf m)[k]? = some s ∧ h ∈ hzAt ns.length ns ds s d.toNat p co ls pr x ∧ (∀ t ∈ (allOf m).take k, h ∉ hzAt ns.length ns ds t d.toNat p co ls pr x) ∧ l = s ∧ b = true) ∨ (∀ t ∈ allOf m, h ∉ hzAt ns.length ns ds t d.toNat p co ls pr x) ∧ l = [] ∧ b = false)
def FaQ (ns : List Nd) (ds : List Dv) (m : List Int) (d : Int) (b : Bool) (er : Int) : Prop := maskErr ns ds m ≠ 0 ∧ b = false ∧ er = maskErr ns ds m ∨ maskErr ns ds m = 0 ∧ devErr ds.length d ≠ 0 ∧ b = false ∧ er = devErr ds.length d ∨ maskErr ns ds m = 0 ∧ devErr ds.length d = 0 ∧ ∃ x : Dv, ds[d.toNat]? = some x ∧ b = decide (dutyAt ns.length ns ds (fillL m 2) d x = 4) ∧ er = 0
theorem InPost.two (h : InPost w ns ds s d p co ls pr e w') : TwoP (inErr ns ds s d p co) (InQ ns ds s d p co ls pr) w e w' := by
 obtain ⟨⟨h1, rfl⟩ | ⟨h1, A, k, c, x, hx, rfl, hO⟩, hb⟩ := h
 ·exact ⟨none, 0, 0, [], rfl, Sl.nil _ _ _, .inl ⟨h1, rfl⟩, hb⟩
 ·exact ⟨A, k, c, _, by rw [h1], hO.out.sl, .inr ⟨h1, x, hx, rfl⟩, hb⟩
theorem InQ.same {a b : List Int} (h : InQ ns ds s d p co ls pr a) (k : InQ ns ds s d p co ls pr b) : a = b := by
 rcases h with ⟨h1, rfl⟩ | ⟨h1, x, hx, rfl⟩ <;> rcases k with ⟨k1, rfl⟩ | ⟨k1, y, hy, rfl⟩
 ·rfl
 ·exact absurd k1 h1
 ·exact absurd h1 k1
 ·rw [hx] at hy; injection hy with hy; rw [hy]
theorem MayPost.two (h : MayPost w ns ds m d p co ls pr e w') : TwoP (stsErr ns ds m d p co) (MayQ ns ds m d p co ls pr) w e w' := by
 obtain ⟨⟨h1, rfl⟩ | ⟨h1, A, k, c, x, l, hx, rfl, hO, hL⟩, hb⟩ := h
 ·exact ⟨none, 0, 0, [], rfl, Sl.nil _ _ _, .inl ⟨h1, rfl⟩, hb⟩
 ·exact ⟨A, k, c, l, by rw [h1], hO.out.sl, .inr ⟨h1, x, hx, hL.out⟩, hb⟩
theorem MayQ.same {a b : List Int} (h : MayQ ns ds m d p co ls pr a) (k : MayQ ns ds m d p co ls pr b) : a = b := by
 rcases h with ⟨h1, rfl⟩ | ⟨h1, x, hx, h2⟩ <;> rcases k with ⟨k1, rfl⟩ | ⟨k1, y, hy, k2⟩
 ·rfl
 ·exact absurd k1 h1
 ·exact absurd h1 k1
 ·rw [hx] at hy; injection hy with hy; subst hy; exact SetL.unique h2 k2
theorem SafePost.two (h : SafePost w ns ds m d p co ls pr but e w') : ∃ b : Bool, e = .returned (.tuple #[.bool b, .int .i64 (stsErr ns ds m d p co)]) ∧ Hid (SafeQ ns ds m d p co ls pr but b) ∧ Hid (Below w.heap.size w w') := by
 obtain ⟨⟨h1, rfl⟩ | ⟨h1, x, l, hx, hL, rfl⟩, hb⟩ := h
 ·exact ⟨false, rfl, .inl ⟨h1, rfl⟩, hb⟩
 ·exact ⟨_, by rw [h1], .inr ⟨h1, x, l, hx, hL.out, rfl⟩, hb⟩
theorem SafeQ.same {a b : Bool} (h : SafeQ ns ds m d p co ls pr but a) (k : SafeQ ns ds m d p co ls pr but b) : a = b := by
 rcases h with ⟨h1, rfl⟩ | ⟨h1, x, l, hx, h2, rfl⟩ <;> rcases k with ⟨k1, rfl⟩ | ⟨k1, y, l2, hy, k2, rfl⟩
 ·rfl
 ·exact absurd k1 h1
 ·exact absurd h1 k1
 ·rw [hx] at hy; injection hy with hy; subst hy; rw [SetL.unique h2 k2]
theorem WitPost.three (k : WitPost w ns ds m d p co ls pr h e w') : ∃ (A : Option Addr) (n c : Nat) (l : List Int) (b : Bool), e = .returned (.tuple #[.slice A n c, .bool b, .int .i64 (stsErr ns ds m d p co)]) ∧ Hid (Sl w' w'.heap.size 1 A n c (intsV l)) ∧ Hid (WitQ ns ds m d p co ls pr h l b) ∧ Hid (Below w.heap.size w w') := by
 obtain ⟨⟨h1, rfl⟩ | ⟨h1, x, hx, ⟨k, s, A, c, hs, hm, hn, rfl, hS⟩ | ⟨hn, rfl⟩⟩, hb⟩ := k
 ·exact ⟨none, 0, 0, [], false, rfl, Sl.nil _ _ _, .inl ⟨h1, rfl, rfl⟩, hb⟩
 ·exact ⟨A, _, c, s, true, by rw [h1], hS, .inr ⟨h1, x, hx, .inl ⟨k, s, hs, hm, hn, rfl, rfl⟩⟩, hb⟩
 ·exact ⟨none, 0, 0, [], false, by rw [h1], Sl.nil _ _ _, .inr ⟨h1, x, hx, .inr ⟨hn, rfl, rfl⟩⟩, hb⟩
theorem WitQ.same {l l2 : List Int} {b b2 : Bool} (j : WitQ ns ds m d p co ls pr h l b) (k : WitQ ns ds m d p co ls pr h l2 b2) : l = l2 ∧ b = b2 := by
 rcases j with ⟨h1, rfl, rfl⟩ | ⟨h1, x, hx, h2⟩ <;> rcases k with ⟨k1, rfl, rfl⟩ | ⟨k1, y, hy, k2⟩
 ·exact ⟨rfl, rfl⟩
 ·exact absurd k1 h1
 ·exact absurd h1 k1
 ·rw [hx] at hy; injection hy with hy; subst hy
  have at1 : ∀ {i j : Nat} {u : List Int}, (allOf m)[i]? = some u → i < j → u ∈ (allOf m).take j := fun {i j u} h1 h2 => List.mem_of_getElem? (i := i) (by rw [List.getElem?_take, if_pos h2]; exact h1)
  rcases h2 with ⟨i, u, hu, hm, hn, rfl, rfl⟩ | ⟨hn, rfl, rfl⟩ <;> rcases k2 with ⟨j, v, hv, km, kn, rfl, rfl⟩ | ⟨kn, rfl, rfl⟩
  ·rcases Nat.lt_trichotomy i j with h | h | h
   ·exact absurd hm (kn _ (at1 hu h))
   ·subst h; rw [hu] at hv; injection hv with hv; exact ⟨hv, rfl⟩
   ·exact absurd km (hn _ (at1 hv h))
  ·exact absurd hm (kn _ (List.mem_of_getElem? hu))
  ·exact absurd km (hn _ (List.mem_of_getElem? hv))
  ·exact ⟨rfl, rfl⟩
theorem FaultPost.two (h : FaultPost w ns ds m d e w') : ∃ (b : Bool) (er : Int), e = .returned (.tuple #[.bool b, .int .i64 er]) ∧ Hid (FaQ ns ds m d b er) ∧ Hid (Below w.heap.size w w') := by
 obtain ⟨⟨h1, rfl⟩ | ⟨h1, h2, rfl⟩ | ⟨h1, h2, x, hx, rfl⟩, hb⟩ := h
 ·exact ⟨_, _, rfl, .inl ⟨h1, rfl, rfl⟩, hb⟩
 ·exact ⟨_, _, rfl, .inr (.inl ⟨h1, h2, rfl, rfl⟩), hb⟩
 ·exact ⟨_, _, rfl, .inr (.inr ⟨h1, h2, x, hx, rfl, rfl⟩), hb⟩
theorem FaQ.same {b b2 : Bool} {er er2 : Int} (h : FaQ ns ds m d b er) (k : FaQ ns ds m d b2 er2) : b = b2 ∧ er = er2 := by
 rcases h with ⟨h1, rfl, rfl⟩ | ⟨h1, h2, rfl, rfl⟩ | ⟨h1, h2, x, hx, rfl, rfl⟩ <;> rcases k with ⟨k1, rfl, rfl⟩ | ⟨k1, k2, rfl, rfl⟩ | ⟨k1, k2, y, hy, rfl, rfl⟩
 all_goals first | exact ⟨rfl, rfl⟩ | exact absurd k1 h1 | exact absurd h1 k1 | exact absurd k2 h2 | exact absurd h2 k2 | (rw [hx] at hy; injection hy with hy; subst hy; exact ⟨rfl, rfl⟩)
end
end Go.Proofs.YtnpfkiidhidjbaaGreatDoor
/-
 The example of the chapter on hazards.
-/
namespace Go.Proofs.YtnpfkiidhidjbaaGreatDoor
open Go.RowKit
def nsC : List Nd := [⟨⟨#[65]⟩, 0, 0⟩]
def dsC : List Dv := [⟨⟨#[83]⟩, 5, 0, -1, 0⟩, ⟨⟨#[69]⟩, 4, 0, -1, 0⟩]
theorem namesC : (∀ x ∈ nsC, x.name.size ≤ 9223372036854775807) ∧ (∀ x ∈ dsC, x.name.size ≤ 9223372036854775807) := by
 constructor <;> intro x hx <;> simp [nsC, dsC] at hx
 ·subst hx; decide
 ·rcases hx with rfl | rfl <;> decide
theorem stsC : stsErr nsC dsC [3, 1] 1 2 0 = 0 := by decide
theorem maskC : maskErr nsC dsC [1, 3] = 0 := by decide
theorem dsC_cases {i : Nat} {x : Dv} (h : dsC[i]? = some x) : (i = 0 ∧ x = ⟨⟨#[83]⟩, 5, 0, -1, 0⟩) ∨ (i = 1 ∧ x = ⟨⟨#[69]⟩, 4, 0, -1, 0⟩) := by
 match i, h with
 | 0, h => left; exact ⟨rfl, (Option.some.inj h).symm⟩
 | 1, h => right; exact ⟨rfl, (Option.some.inj h).symm⟩
 | i + 2, h => simp [dsC] at h
theorem colC {s : List Int} {x : Int} (h : colV dsC s 0 = x) : colsOf 1 dsC s = [x] := by
 refine colsOf_eq ⟨rfl, fun v hv => ?_⟩
 obtain rfl : v = 0 := by omega
 simpa using h.symm
theorem dutyC1 : dutyAt 1 nsC dsC [2, 1] (1 : Nat) ⟨⟨#[69]⟩, 4, 0, -1, 0⟩ = 4 := by
 have h : colsOf 1 dsC (withL [2, 1] (1 : Nat) 2) = [3] := by
  refine colC ?_
  show colV dsC [2, 2] 0 = 3
  unfold colV
  rw [ind_pos (show HasK liveK dsC [2, 2] 0 from ⟨0, _, rfl, rfl, .inl rfl, Conn.refl _ _ _⟩), ind_pos (show HasK (· = 4) dsC [2, 2] 0 from ⟨1, _, rfl, rfl, rfl, Conn.refl _ _ _⟩)]
  rfl
 unfold dutyAt dutyV
 rw [h]
 rfl
theorem dutyC2 : dutyAt 1 nsC dsC (fillL [1, 3] 2) (1 : Nat) ⟨⟨#[69]⟩, 4, 0, -1, 0⟩ ≠ 4 := by
 have h : colsOf 1 dsC (withL (fillL [1, 3] 2) (1 : Nat) 2) = [2] := by
  refine colC ?_
  show colV dsC [1, 2] 0 = 2
  unfold colV
  rw [ind_neg (show ¬ HasK liveK dsC [1, 2] 0 from ?_), ind_pos (show HasK (· = 4) dsC [1, 2] 0 from ⟨1, _, rfl, rfl, rfl, Conn.refl _ _ _⟩)]
  ·rfl
  ·rintro ⟨i, x, hx, hs, hk, _⟩
   rcases dsC_cases hx with ⟨rfl, rfl⟩ | ⟨rfl, rfl⟩
   ·cases hs
   ·rcases hk with hk | hk <;> cases hk
 unfold dutyAt dutyV
 rw [h, if_neg (by decide)]
 split
 ·decide
 split
 ·decide
 split <;> decide
theorem mayC {x : Dv} {out : List Int} (hx : dsC[1]? = some x) (h : MayL nsC dsC [3, 1] 1 2 0 [] [0] x out) : hasB out 1 = true ∧ hasB out 5 = false := by
 obtain rfl : x = ⟨⟨#[69]⟩, 4, 0, -1, 0⟩ := (Option.some.inj hx).symm
 constructor
 ·rw [hasB_iff, h.2.2]
  refine ⟨[2, 1], by decide, ?_, .inl (by decide)⟩
  unfold hzAt
  rw [if_neg (by decide), hzL_mem]
  refine .inl ⟨rfl, ?_⟩
  rw [show dutyAt nsC.length nsC dsC [2, 1] ((1 : Int).toNat) ⟨⟨#[69]⟩, 4, 0, -1, 0⟩ = 4 from dutyC1]
  rfl
 ·rw [hasB_not, h.2.2]
  rintro ⟨s, _, h5, _⟩
  unfold hzAt at h5
  split at h5 <;> rw [hzL_mem] at h5 <;> simp [hasB] at h5
/-- The example's network in memory. -/
structure AwC (w wr : World) : Prop where
 bn : Blk wr (w.heap.size + 1 + 1) 26 #[.slice (some ⟨w.heap.size, 0, none⟩) 1 1, .slice (some ⟨w.heap.size + 1, 0, none⟩) 2 2]
 sn : Sl wr (w.heap.size + 1) 3 (some ⟨w.heap.size, 0, none⟩) 1 1 (nsC.flatMap Nd.cells)
 sd : Sl wr (w.heap.size + 1 + 1) 5 (some ⟨w.heap.size + 1, 0, none⟩) 2 2 (dsC.flatMap Dv.cells)
 bl : Below w.heap.size w wr
 la : Laid wr
 sz : w.heap.size + 3 ≤ wr.heap.size
theorem AwC.later {w wr wr' : World} (h : AwC w wr) (hb : Below wr.heap.size wr wr') : AwC w wr' :=
 ⟨h.bn.below hb h.bn.lt, h.sn.below hb (by have := h.sz; omega), h.sd.below hb (by have := h.sz; omega), h.bl.trans (hb.mono h.bl.size), h.la.below hb (Nat.le_refl _), Nat.le_trans h.sz hb.size⟩
theorem AwC.mk0 (w : World) (hl : Laid w) : AwC w (((w.alloc (.cells #[.string ⟨#[65]⟩, .int .i64 0, .int .i64 0] 61)).alloc (.cells #[.string ⟨#[83]⟩, .int .i64 5, .int .i64 0, .int .i64 (-1), .int .i64 0, .string ⟨#[69]⟩, .int .i64 4, .int .i64 0, .int .i64 (-1), .int .i64 0] 63)).alloc (.cells #[.slice (some ⟨w.heap.size, 0, none⟩) 1 1, .slice (some ⟨w.heap.size + 1, 0, none⟩) 2 2] 26)) := by
 refine ⟨?_, ?_, ?_, ?_, ((hl.alloc _).alloc _).alloc _, by simp⟩
 ·have := Blk.new ((w.alloc (.cells #[.string ⟨#[65]⟩, .int .i64 0, .int .i64 0] 61)).alloc (.cells #[.string ⟨#[83]⟩, .int .i64 5, .int .i64 0, .int .i64 (-1), .int .i64 0, .string ⟨#[69]⟩, .int .i64 4, .int .i64 0, .int .i64 (-1), .int .i64 0] 63)) 26 #[.slice (some ⟨w.heap.size, 0, none⟩) 1 1, .slice (some ⟨w.heap.size + 1, 0, none⟩) 2 2]
  simpa using this
 ·refine Sl.alloc (Sl.alloc ?_ (by simp) _) (by simp) _
  exact Sl.newest (n := 1) (size := 3) rfl rfl (by decide)
 ·refine Sl.alloc ?_ (by simp) _
  exact Sl.newest (n := 2) (size := 5) (by simp) rfl (by decide)
 ·exact (((Below.refl _ _).alloc (Nat.le_refl _) _).alloc (by simp) _).alloc (by simp; omega) _
theorem rhasb_any (A : Option Addr) (n c : Nat) (l : List Int) (x : Int) (w : World) (hs : Sl w w.heap.size 1 A n c (intsV l)) :
  Calls Tryz.prog 28 #[.slice A n c, .int .i64 x] w fun e w' => e = .returned (.bool (hasB l x)) ∧ w = w' := by
 have h := rhas_any A n c l x w hs
 rwa [show decide (x ∈ l) = hasB l x by rw [Bool.eq_iff_iff, hasB_iff]; simp] at h
set_option maxRecDepth 100000 in
set_option maxHeartbeats 4000000 in
theorem awake_any (w : World) (hl : Laid w) : Calls Tryz.prog 6 #[] w fun e w' => e = .returned (.bool true) ∧ Below w.heap.size w w' := by
 have HA0 := Lib.hid (AwC.mk0 w hl)
 clear hl
 go_enter Tryz.func6, Tryz.ntmps6
 go_upto_region 2 with (fail)
 generalize World.alloc (World.alloc (World.alloc _ _) _) _ = w0 at *
 have hz0 := HA0.out.sz
 have k0 : w0.cell? ⟨w.heap.size + 1 + 1, 0, none⟩ = some (.slice (some ⟨w.heap.size, 0, none⟩) 1 1) := HA0.out.bn.cell 0
 have k1 : w0.cell? ⟨w.heap.size + 1 + 1, 1, none⟩ = some (.slice (some ⟨w.heap.size + 1, 0, none⟩) 2 2) := HA0.out.bn.cell 1
 go_wp2_with fail
 clear k0 k1
 have HA1 : Hid (AwC w ((w0.alloc (.cells #[.int .i64 3, .int .i64 1] 3)).alloc (.cells #[.int .i64 0] 3))) := HA0.out.later (((Below.refl _ _).alloc (Nat.le_refl _) _).alloc (by simp) _)
 have HM1 : Hid (HzMem ((w0.alloc (.cells #[.int .i64 3, .int .i64 1] 3)).alloc (.cells #[.int .i64 0] 3)) (some ⟨w.heap.size, 0, none⟩) (some ⟨w.heap.size + 1, 0, none⟩) (some ⟨w0.heap.size, 0, none⟩) none (some ⟨w0.heap.size + 1, 0, none⟩) 1 1 2 2 2 2 0 0 1 1 nsC dsC [3, 1] [] [0]) := by
  refine ⟨HA1.out.sn.more (by have := HA1.out.sz; omega), HA1.out.sd.more (by have := HA1.out.sz; omega), ?_, Sl.nil _ _ _, ?_, HA1.out.la, namesC.1, namesC.2⟩
  ·exact (Sl.alloc (B := w0.heap.size + 1) (Sl.newest (n := 2) (size := 1) rfl rfl (by decide)) (by simp) _).more (by simp)
  ·exact (Sl.newest (H := w0.heap.size + 1) (n := 1) (size := 1) (by simp) rfl (by decide)).more (by simp)
 generalize World.alloc (World.alloc w0 _) _ = w1 at *
 clear HA0
 refine (May_any _ _ _ _ _ 1 1 2 2 2 2 0 0 1 1 nsC dsC [3, 1] [] [0] 1 2 0 w1 HM1.out).mono ?_
 rintro e w2 ⟨⟨h1, _⟩ | ⟨_, A, k, c, x, out, hx, rfl, hO, hML⟩, hb2⟩
 ·exact absurd stsC h1
 obtain ⟨hq1, hq5⟩ := mayC hx hML.out
 have HQ1 := Lib.hid hq1; have HQ5 := Lib.hid hq5
 have HA2 := Lib.hid (HA1.out.later hb2.out)
 have HSO := Lib.hid hO.out.sl
 clear hx hML hb2 hO hq1 hq5 HA1 HM1 hz0
 have k0 : w2.cell? ⟨w.heap.size + 1 + 1, 0, none⟩ = some (.slice (some ⟨w.heap.size, 0, none⟩) 1 1) := HA2.out.bn.cell 0
 have k1 : w2.cell? ⟨w.heap.size + 1 + 1, 1, none⟩ = some (.slice (some ⟨w.heap.size + 1, 0, none⟩) 2 2) := HA2.out.bn.cell 1
 have HB3 : Hid (Below w2.heap.size w2 (w2.alloc (.cells #[.int .i64 1, .int .i64 3] 3))) := (Below.refl _ _).alloc (Nat.le_refl _) _
 have HA3 := Lib.hid (HA2.out.later HB3.out)
 have HM3 : Hid (HzMem (w2.alloc (.cells #[.int .i64 1, .int .i64 3] 3)) (some ⟨w.heap.size, 0, none⟩) (some ⟨w.heap.size + 1, 0, none⟩) (some ⟨w2.heap.size, 0, none⟩) none none 1 1 2 2 2 2 0 0 0 0 nsC dsC [1, 3] [] []) := by
  refine ⟨HA3.out.sn.more (by have := HA3.out.sz; omega), HA3.out.sd.more (by have := HA3.out.sz; omega), ?_, Sl.nil _ _ _, Sl.nil _ _ _, HA3.out.la, namesC.1, namesC.2⟩
  exact (Sl.newest (n := 2) (size := 1) rfl rfl (by decide)).more (by simp)
 have HSO3 := Lib.hid ((HSO.out.below HB3.out (Nat.le_refl _)).more HB3.out.size)
 clear HA2 HSO
 go_wp2_with fail
 clear k0 k1
 generalize World.alloc w2 _ = w3 at *
 refine (Fault_any _ _ _ 1 1 2 2 2 2 nsC dsC [1, 3] 1 w3 HM3.out).mono ?_
 rintro e w4 ⟨⟨h1, _⟩ | ⟨_, h1, _⟩ | ⟨_, _, x, hx, rfl⟩, hb4⟩
 ·exact absurd maskC h1
 ·exact absurd (by decide) h1
 obtain rfl : x = ⟨⟨#[69]⟩, 4, 0, -1, 0⟩ := (Option.some.inj hx).symm
 rw [show decide (dutyAt nsC.length nsC dsC (fillL [1, 3] 2) 1 ⟨⟨#[69]⟩, 4, 0, -1, 0⟩ = 4) = false from decide_eq_false dutyC2]
 have HA4 := Lib.hid (HA3.out.later hb4.out)
 have HSO4 := Lib.hid ((HSO3.out.below hb4.out (Nat.le_refl _)).more hb4.out.size)
 clear hx hb4 HA3 HM3 HSO3 HB3
 go_wp2_with fail
 refine (rhasb_any A k c out 1 w4 HSO4.out).mono ?_
 rintro e w5 ⟨rfl, rfl⟩
 rw [HQ1.out]
 go_wp2_with fail
 refine (rhasb_any A k c out 5 w4 HSO4.out).mono ?_
 rintro e w5 ⟨rfl, rfl⟩
 rw [HQ5.out]
 go_wp2_with fail
 go_ret
 exact ⟨rfl, HA4.out.bl⟩
end Go.Proofs.YtnpfkiidhidjbaaGreatDoor
/-
 The statements' makers of sets, grounds and operations.
-/
namespace Go.Proofs.YtnpfkiidhidjbaaGreatDoor
open Go.RowKit
theorem grown_then {w w1 w2 : World} {row : Option Nat} (h : w.grownBy w1 row) (hb : Below w.heap.size w1 w2) : w.grownBy w2 row :=
 ⟨hb.os.trans h.os, hb.tape.trans h.tape, hb.output.trans h.output, Nat.le_trans h.size hb.size, fun i hi hne => (hb.block i hi).trans (h.block i hi hne)⟩
def SetPost (w : World) (g below : Nat) (e : Ending) (w' : World) : Prop := ∃ (A : Option Addr) (k c : Nat) (l : List Int), e = .returned (.slice A k c) ∧ Hid (DeckAt w' g) ∧ Hid (w.grownBy w' (some g)) ∧ Hid (IntsO w' w.heap.size A k c l) ∧ Hid (∀ v ∈ l, 0 ≤ v ∧ v < below)
def MsetR (w : World) (g below gk : Nat) (ov iv : Value) (wr : World) : Prop := ∃ (i m co : Nat) (Ao : Option Addr) (out : List Int), iv = .int .i64 i ∧ ov = .slice Ao m co ∧ i ≤ below ∧ gk = below - i ∧ m ≤ i ∧ Hid (IntsO wr w.heap.size Ao m co out) ∧ Hid (DeckAt wr g) ∧ Hid (w.grownBy wr (some g)) ∧ Hid (∀ v ∈ out, 0 ≤ v ∧ v < below)
set_option maxRecDepth 100000 in
set_option maxHeartbeats 4000000 in
theorem mkset_any (g below most : Nat) (w : World) (hd : DeckAt w g) (hb : below ≤ 1000) (hm : most ≤ 1000) :
  Calls Tryz.prog 33 #[.pointer (some ⟨g, 0, none⟩), .int .i64 (below : Int), .int .i64 (most : Int)] w (SetPost w g below) := by
 have hlt := hd.lt
 have HD0 := Lib.hid hd
 clear hd
 go_enter Tryz.func33, Tryz.ntmps33
 go_wp2_with fail
 go_loopg [7, 8] below (MsetR w g below)
 case atStart => exact ⟨0, 0, 0, none, [], rfl, rfl, Nat.zero_le _, rfl, Nat.le_refl _, World.ownsRow_nil _ _ _ _, HD0, grown_refl _ _, fun v hv => by simp at hv⟩
 case round =>
  obtain ⟨i, m, co, Ao, out, rfl, rfl, hi, rfl, hmi, hO, hD, hG, hR⟩ := hrel
  by_cases hgo : i < below ∧ m < most
  ·obtain ⟨hl1, hl2⟩ := hgo
   go_wp2_with fail
   refine (one_any g 3 wr hD.out (by decide)).mono ?_
   rintro e w3 ⟨r, rfl, hd3, hg3, hs3⟩
   have HO3 := Lib.hid (hO.out.kept hg3.out (ne_row fun b e => by have := (hO.out.lt b e).1; omega))
   have HG3 := Lib.hid (grown_trans hG.out hg3.out)
   have hz3 := HG3.out.size
   clear hD hG hg3 hs3 hO
   rcases r with _ | _
   ·go_wp2_with fail
    go_roundg (below - (i + 1))
    case rel => exact ⟨i + 1, m, co, Ao, out, by go_num, rfl, by omega, rfl, by omega, HO3, hd3, HG3, hR⟩
    case measure => omega
   ·have HR1 : Hid (∀ v ∈ out ++ [(i : Int)], 0 ≤ v ∧ v < below) := fun v hv => by
     rcases List.mem_append.1 hv with h1 | h1
     ·exact hR.out v h1
     ·rw [List.mem_singleton.1 h1]; omega
    go_wp2_with (at_builtin; go_must (refine wpList_app rfl (.tmp 22) (.tmp 24) rfl el_int (by rfl) (HO3.out.alloc _) (by rfl) (Sl.newest (n := 1) (by simp) (by rfl) (by decide)) (by simp [Value.oneCell']) (by omega) (by omega) (by simp; omega) ?_; intro A' cap' w4 hown4 hgr4 hat4; have HO4 := Lib.hid hown4; have HG4 := Lib.hid hgr4; clear hown4 hgr4 hat4))
    have HB4 : Hid (Below w.heap.size w3 w4) := ((Below.refl _ _).alloc (by omega) _).trans ⟨HG4.out.os, HG4.out.tape, HG4.out.output, HG4.out.size, fun q hq => HG4.out.block q (by simp; omega) (fun e => by have := (HO3.out.lt q e.symm).1; omega)⟩
    have HD4 := Lib.hid (hd3.out.below HB4.out (by omega))
    have HG5 : Hid (w.grownBy w4 (some g)) := grown_then HG3.out HB4.out
    go_roundg (below - (i + 1))
    case rel =>
     refine ⟨i + 1, m + 1, cap', A', out ++ [(i : Int)], by go_num, rfl, by omega, rfl, by omega, ?_, HD4, HG5, HR1⟩
     have := HO4.out
     unfold Hid IntsO
     rw [intsV_append]
     exact this
    case measure => omega
  ·have HEND : Hid (SetPost w g below (.returned (.slice Ao m co)) wr) := ⟨Ao, m, co, out, rfl, hD, hG, hO, hR⟩
   by_cases hl : i < below
   ·have ql : decide ((m : Int) < (most : Int)) = false := by simp; omega
    have ql2 : decide (m < most) = false := by simp; omega
    go_wp2_with fail
    go_ret
    exact HEND.out
   ·have ql : decide ((i : Int) < (below : Int)) = false := by simp; omega
    have ql2 : decide (i < below) = false := by simp; omega
    go_wp2_with fail
    go_ret
    exact HEND.out
def OpPost (w : World) (g nd : Nat) (e : Ending) (w' : World) : Prop := ∃ (i : Nat) (p : Int), e = .returned (.agg #[.int .i64 i, .int .i64 p]) ∧ i < nd ∧ (p = 1 ∨ p = 2) ∧ Hid (DeckAt w' g) ∧ Hid (w.grownBy w' (some g))
set_option maxHeartbeats 4000000 in
theorem mkop_any (g : Nat) (An Ad : Option Addr) (nn cn nd cd : Nat) (w : World) (hd : DeckAt w g) (hnd : 0 < nd) (hn : nd ≤ 1000) :
  Calls Tryz.prog 14 #[.pointer (some ⟨g, 0, none⟩), .agg #[.slice An nn cn, .slice Ad nd cd]] w (OpPost w g nd) := by
 have hlt := hd.lt
 have HD0 := Lib.hid ((hd.alloc (.cells #[.slice An nn cn, .slice Ad nd cd] 26)).alloc (.cells #[.int .i64 0, .int .i64 0] 28))
 have HB0 : Hid (Below w.heap.size w ((w.alloc (.cells #[.slice An nn cn, .slice Ad nd cd] 26)).alloc (.cells #[.int .i64 0, .int .i64 0] 28))) := ((Below.refl _ _).alloc (Nat.le_refl _) _).alloc (by simp) _
 have HK0 : Hid (Blk ((w.alloc (.cells #[.slice An nn cn, .slice Ad nd cd] 26)).alloc (.cells #[.int .i64 0, .int .i64 0] 28)) (w.heap.size + 1) 28 #[.int .i64 0, .int .i64 0]) := by
  have := Blk.new (w.alloc (.cells #[.slice An nn cn, .slice Ad nd cd] 26)) 28 #[.int .i64 0, .int .i64 0]
  unfold Hid; simpa using this
 clear hd
 go_enter Tryz.func14, Tryz.ntmps14
 go_wp2_with fail
 generalize World.alloc (World.alloc w _) _ = W at *
 refine (next_any g (nd : Int) W HD0.out (by omega)).mono ?_
 rintro e w1 ⟨v, rfl, hv0, _, hv1, hd1, hg1, hs1⟩
 have hvn := hv1.out (by omega)
 obtain ⟨t, rfl⟩ := Int.eq_ofNat_of_zero_le hv0
 have htn : t < nd := by omega
 have HK1 := Lib.hid (HK0.out.grown hg1.out (fun e => by injection e with e; omega))
 have HG1 := Lib.hid (grown_trans (grown_of_below HB0.out (some g)) hg1.out)
 clear HD0 HB0 HK0 hv1 hvn hv0 hg1 hs1
 go_wp2_with fail
 refine (next_any g 2 w1 hd1.out (by decide)).mono ?_
 rintro e w2 ⟨r, rfl, hv0, _, hv1, hd2, hg2, hs2⟩
 have hvn := hv1.out (by omega)
 have HK2 := Lib.hid (HK1.out.grown hg2.out (fun e => by injection e with e; omega))
 have HG2 := Lib.hid (grown_trans HG1.out hg2.out)
 have hp : 1 + r = 1 ∨ 1 + r = 2 := by omega
 obtain ⟨p, hpp⟩ : ∃ p, p = 1 + r := ⟨_, rfl⟩
 have hw : IntKind.wrap .i64 (1 + r) = p := by rcases (show r = 0 ∨ r = 1 by omega) with rfl | rfl <;> subst hpp <;> rfl
 rw [← hpp] at hp
 have c0 : w2.cell? ⟨w.heap.size + 1, 0, none⟩ = some (.int .i64 0) := HK2.out.cell 0
 have c1 : w2.cell? ⟨w.heap.size + 1, 1, none⟩ = some (.int .i64 0) := HK2.out.cell 1
 have f0 : w2.frozen? ⟨w.heap.size + 1, 0, none⟩ = false := HK2.out.frozen 0
 have f1 : w2.frozen? ⟨w.heap.size + 1, 1, none⟩ = false := HK2.out.frozen 1
 have HD3 := Lib.hid ((hd2.out.setCell (p := ⟨w.heap.size + 1, 0, none⟩) (by simp; omega) (.int .i64 t)).setCell (p := ⟨w.heap.size + 1, 1, none⟩) (by simp; omega) (.int .i64 p))
 have HG3 := Lib.hid (grown_set (grown_set HG2.out (p := ⟨w.heap.size + 1, 0, none⟩) (by simp) (.int .i64 t)) (p := ⟨w.heap.size + 1, 1, none⟩) (by simp) (.int .i64 p))
 have HX : Hid (OpPost w g nd (.returned (.agg #[.int .i64 t, .int .i64 p])) ((w2.setCell ⟨w.heap.size + 1, 0, none⟩ (.int .i64 t)).setCell ⟨w.heap.size + 1, 1, none⟩ (.int .i64 p))) := ⟨t, p, rfl, htn, hp, HD3, HG3⟩
 clear hv0 hv1 hvn hpp HG1 HK1 hd1 hd2 hg2 hs2 HD3 HG3 HG2 HK2
 go_wp2_with fail
 exact bodyPost_ret (v := .agg #[.int .i64 t, .int .i64 p]) (by simp [results, Tryz.results14, go_sem, c0, c1]) rfl HX.out
def GrPost (w : World) (g nn : Nat) (Al : Option Addr) (nl cl : Nat) (e : Ending) (w' : World) : Prop := ∃ (co : Int) (Ap : Option Addr) (np cp : Nat) (pr : List Int), e = .returned (.agg #[.int .i64 co, .slice Al nl cl, .slice Ap np cp]) ∧ (0 ≤ co ∧ co ≤ 7) ∧ Hid (DeckAt w' g) ∧ Hid (w.grownBy w' (some g)) ∧ Hid (IntsO w' w.heap.size Ap np cp pr) ∧ Hid (∀ v ∈ pr, 0 ≤ v ∧ v < nn)
set_option maxHeartbeats 4000000 in
theorem mkground_any (g : Nat) (An Ad Al : Option Addr) (nn cn nd cd nl cl : Nat) (w : World) (hd : DeckAt w g) (hnn : nn ≤ 1000) :
  Calls Tryz.prog 11 #[.pointer (some ⟨g, 0, none⟩), .agg #[.slice An nn cn, .slice Ad nd cd], .slice Al nl cl] w (GrPost w g nn Al nl cl) := by
 have hlt := hd.lt
 have HD0 := Lib.hid ((hd.alloc (.cells #[.slice An nn cn, .slice Ad nd cd] 26)).alloc (.cells #[.int .i64 0, .slice none 0 0, .slice none 0 0] 31))
 have HB0 : Hid (Below w.heap.size w ((w.alloc (.cells #[.slice An nn cn, .slice Ad nd cd] 26)).alloc (.cells #[.int .i64 0, .slice none 0 0, .slice none 0 0] 31))) := ((Below.refl _ _).alloc (Nat.le_refl _) _).alloc (by simp) _
 have HK0 : Hid (Blk ((w.alloc (.cells #[.slice An nn cn, .slice Ad nd cd] 26)).alloc (.cells #[.int .i64 0, .slice none 0 0, .slice none 0 0] 31)) (w.heap.size + 1) 31 #[.int .i64 0, .slice none 0 0, .slice none 0 0]) := by
  have := Blk.new (w.alloc (.cells #[.slice An nn cn, .slice Ad nd cd] 26)) 31 #[.int .i64 0, .slice none 0 0, .slice none 0 0]
  unfold Hid; simpa using this
 clear hd
 go_enter Tryz.func11, Tryz.ntmps11
 go_wp2_with fail
 generalize World.alloc (World.alloc w _) _ = W at *
 have hz0 := HB0.out.size
 have HX5 : Hid (w.heap.size + 1 < W.heap.size) := HK0.out.lt
 refine (mkset_any g nn 3 W HD0.out hnn (by decide)).mono ?_
 rintro e w1 ⟨Ap, np, cp, pr, rfl, hd1, hg1, hO1, hr1⟩
 have HK1 := Lib.hid ((HK0.out.grown hg1.out (fun e => by injection e with e; omega)).alloc (.cells #[.int .i64 0, .slice Al nl cl, .slice Ap np cp] 31))
 have HG1 := Lib.hid (grown_trans (grown_trans (grown_of_below HB0.out (some g)) hg1.out) (grown_of_below ((Below.refl _ _).alloc (Nat.le_refl _) (.cells #[.int .i64 0, .slice Al nl cl, .slice Ap np cp] 31)) (some g)))
 have HD1 := Lib.hid (hd1.out.alloc (.cells #[.int .i64 0, .slice Al nl cl, .slice Ap np cp] 31))
 have HO1 : Hid (IntsO (w1.alloc (.cells #[.int .i64 0, .slice Al nl cl, .slice Ap np cp] 31)) W.heap.size Ap np cp pr) := hO1.out.alloc _
 have HV1 := Lib.hid (Blk.new w1 31 #[.int .i64 0, .slice Al nl cl, .slice Ap np cp])
 have hz1 := hg1.out.size
 have HAP : Hid (∀ q, (Value.slice Ap np cp).ownBlock = some q → q < w1.heap.size) := fun q h => (hO1.out.lt q h).2
 clear hd1 hg1 hO1 HK0 HD0 HB0
 go_upto_region 2 with (fail)
 generalize World.alloc w1 _ = W2 at *
 obtain ⟨vb, hvb⟩ : ∃ x, x = w1.heap.size := ⟨_, rfl⟩
 rw [← hvb] at HV1 HAP hz1 ⊢
 clear hvb
 go_wp2_with fail
 refine (one_any g 6 W2 HD1.out (by decide)).mono ?_
 rintro e w3 ⟨r, rfl, hd3, hg3, hs3⟩
 have HK3 := Lib.hid (HK1.out.grown hg3.out (fun e => by injection e with e; omega))
 have HV3 := Lib.hid (HV1.out.grown hg3.out (fun e => by injection e with e; omega))
 have HO3 := Lib.hid (HO1.out.kept hg3.out (ne_row fun b e => by have := (HO1.out.lt b e).1; omega))
 have HG3 := Lib.hid (grown_trans HG1.out hg3.out)
 clear HK1 HV1 HO1 HG1 HD1 hg3 hs3
 have HEND : Hid (∀ (co : Int) (w4 : World), 0 ≤ co ∧ co ≤ 7 → Blk w4 vb 31 #[.int .i64 co, .slice Al nl cl, .slice Ap np cp] → DeckAt w4 g → w.grownBy w4 (some g) → IntsO w4 W.heap.size Ap np cp pr →
   GrPost w g nn Al nl cl (.returned (.agg #[.int .i64 co, .slice Al nl cl, .slice Ap np cp])) (((w4.setCell ⟨w.heap.size + 1, 0, none⟩ (.int .i64 co)).setCell ⟨w.heap.size + 1, 1, none⟩ (.slice Al nl cl)).setCell ⟨w.heap.size + 1, 2, none⟩ (.slice Ap np cp))) := by
  intro co w4 hco _ hd4 hg4 hO4
  refine ⟨co, Ap, np, cp, pr, rfl, hco, ((hd4.setCell (by simp; omega) _).setCell (by simp; omega) _).setCell (by simp; omega) _, grown_set (grown_set (grown_set hg4 (by simp) _) (by simp) _) (by simp) _, ?_, hr1⟩
  have hq : ∀ b, (Value.slice Ap np cp).ownBlock = some b → b ≠ w.heap.size + 1 := fun b e => by have := (hO4.lt b e).1; have := HX5.out; omega
  exact (((hO4.kept (grown_cell _ _ _) (ne_row hq)).kept (grown_cell _ _ _) (ne_row hq)).kept (grown_cell _ _ _) (ne_row hq)).mono hz0
 rcases r with _ | _
 ·have HX := Lib.hid (HEND.out 0 w3 ⟨by decide, by decide⟩ HV3.out hd3.out HG3.out HO3.out)
  clear HEND HO3 HG3 hd3
  have v0 : w3.cell? ⟨vb, 0, none⟩ = some (.int .i64 0) := HV3.out.cell 0
  have v1 : w3.cell? ⟨vb, 1, none⟩ = some (.slice Al nl cl) := HV3.out.cell 1
  have v2 : w3.cell? ⟨vb, 2, none⟩ = some (.slice Ap np cp) := HV3.out.cell 2
  have c0 : w3.cell? ⟨w.heap.size + 1, 0, none⟩ = some (.int .i64 0) := HK3.out.cell 0
  have c1 : w3.cell? ⟨w.heap.size + 1, 1, none⟩ = some (.slice none 0 0) := HK3.out.cell 1
  have c2 : w3.cell? ⟨w.heap.size + 1, 2, none⟩ = some (.slice none 0 0) := HK3.out.cell 2
  have f0 : w3.frozen? ⟨w.heap.size + 1, 0, none⟩ = false := HK3.out.frozen 0
  have f1 : w3.frozen? ⟨w.heap.size + 1, 1, none⟩ = false := HK3.out.frozen 1
  have f2 : w3.frozen? ⟨w.heap.size + 1, 2, none⟩ = false := HK3.out.frozen 2
  go_wp2_with fail
  exact bodyPost_ret (v := .agg #[.int .i64 0, .slice Al nl cl, .slice Ap np cp]) (by simp [results, Tryz.results11, go_sem, c0, c1, c2]) rfl HX.out
 ·go_wp2_with fail
  refine (next_any g 3 w3 hd3.out (by decide)).mono ?_
  rintro e w4 ⟨co, rfl, hv0, _, hv1, hd4, hg4, hs4⟩
  have hvn := hv1.out (by omega)
  have HK4 := Lib.hid ((HK3.out.grown hg4.out (fun e => by injection e with e; omega)).far (p := ⟨vb, 0, none⟩) (by show w.heap.size + 1 ≠ vb; have := HX5.out; omega) (.int .i64 co))
  have HV4 : Hid (Blk (w4.setCell ⟨vb, 0, none⟩ (.int .i64 co)) vb 31 #[.int .i64 co, .slice Al nl cl, .slice Ap np cp]) := (HV3.out.grown hg4.out (fun e => by injection e with e; omega)).set 0 (.int .i64 co)
  have HO4 := Lib.hid ((HO3.out.kept hg4.out (ne_row fun b e => by have := (HO3.out.lt b e).1; omega)).kept (grown_cell w4 ⟨vb, 0, none⟩ (.int .i64 co)) (ne_row fun b e => by have := HAP.out b e; simp; omega))
  have HG4 := Lib.hid (grown_set (grown_trans HG3.out hg4.out) (p := ⟨vb, 0, none⟩) (by simp; omega) (.int .i64 co))
  have HD4 := Lib.hid (hd4.out.setCell (p := ⟨vb, 0, none⟩) (by simp; omega) (.int .i64 co))
  have e0 : w4.cell? ⟨vb, 0, none⟩ = some (.int .i64 0) := (HV3.out.grown hg4.out (fun e => by injection e with e; omega)).cell 0
  have e1 : w4.frozen? ⟨vb, 0, none⟩ = false := (HV3.out.grown hg4.out (fun e => by injection e with e; omega)).frozen 0
  have HX := Lib.hid (HEND.out co _ ⟨hv0, by omega⟩ HV4.out HD4.out HG4.out HO4.out)
  clear HEND HO3 HG3 hd3 hd4 hg4 hs4 HK3 HV3 HO4 HG4 HD4 hv1
  go_upto_region 4 with (fail)
  generalize World.setCell w4 _ _ = w5 at *
  clear e0 e1
  have v0 : w5.cell? ⟨vb, 0, none⟩ = some (.int .i64 co) := HV4.out.cell 0
  have v1 : w5.cell? ⟨vb, 1, none⟩ = some (.slice Al nl cl) := HV4.out.cell 1
  have v2 : w5.cell? ⟨vb, 2, none⟩ = some (.slice Ap np cp) := HV4.out.cell 2
  have c0 : w5.cell? ⟨w.heap.size + 1, 0, none⟩ = some (.int .i64 0) := HK4.out.cell 0
  have c1 : w5.cell? ⟨w.heap.size + 1, 1, none⟩ = some (.slice none 0 0) := HK4.out.cell 1
  have c2 : w5.cell? ⟨w.heap.size + 1, 2, none⟩ = some (.slice none 0 0) := HK4.out.cell 2
  have f0 : w5.frozen? ⟨w.heap.size + 1, 0, none⟩ = false := HK4.out.frozen 0
  have f1 : w5.frozen? ⟨w.heap.size + 1, 1, none⟩ = false := HK4.out.frozen 1
  have f2 : w5.frozen? ⟨w.heap.size + 1, 2, none⟩ = false := HK4.out.frozen 2
  go_wp2_with fail
  exact bodyPost_ret (v := .agg #[.int .i64 co, .slice Al nl cl, .slice Ap np cp]) (by simp [results, Tryz.results11, go_sem, c0, c1, c2]) rfl HX.out
end Go.Proofs.YtnpfkiidhidjbaaGreatDoor
