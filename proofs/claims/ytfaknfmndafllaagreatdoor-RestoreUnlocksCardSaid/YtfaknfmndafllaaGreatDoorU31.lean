import Derived.Test.YtfaknfmndafllaaGreatDoorU29
import Derived.Test.YtfaknfmndafllaaGreatDoorU03
import Derived.Test.YtfaknfmndafllaaGreatDoorU04
import Derived.Test.YtfaknfmndafllaaGreatDoorU30
import Derived.Test.YtfaknfmndafllaaGreatDoorU22
import Derived.Test.YtfaknfmndafllaaGreatDoorU24
import Derived.Test.YtfaknfmndafllaaGreatDoorU25
import Derived.Test.YtfaknfmndafllaaGreatDoorU21
set_option maxRecDepth 100000
set_option maxHeartbeats 16000000
namespace Go.Proofs.YtfaknfmndafllaaGreatDoor
open Go.RowKit
def opE (a b : Int × Int) : Bool := a.1 == b.1 && a.2 == b.2
theorem run_neq_op (a b c d : Int) (w : World) : (binOp .neq 62 (.agg #[.int .i64 a, .int .i64 b]) (.agg #[.int .i64 c, .int .i64 d])).run Tryz.prog w = .ok (.bool (!opE (a, b) (c, d))) w := by
 have u3 := Tryz.underlying3
 have a3 := Tryz.isAgg3
 have z3 := Tryz.sizeOf3
 have hS : Tryz.prog.underlying 62 = some (.struct (Tryz.prog.fieldsOf 62)) := by kernel_rfl
 have hp : Tryz.prog.stoodInHeld 62 = false := by kernel_rfl
 rw [run_neq_struct, show (10000 : Nat) = 9999 + 1 from rfl, run_equalIn_agg w 9999 62 _ _ hS hp]
 simp only [Program.fieldsOf, Tryz.underlying62]
 go_simp
 by_cases h0 : a = c <;> by_cases h1 : b = d <;> simp [h0, h1, opE]
def SoR20 (w : World) (a b : List (Int × Int)) (n gk : Nat) (iv : Value) (wr : World) : Prop := ∃ i : Nat, iv = .int .i64 i ∧ i ≤ n ∧ gk = n - i ∧ Hid (a.take i = b.take i) ∧ Hid (Below w.heap.size w wr)
theorem sameo_any (A A2 : Option Addr) (n c n2 c2 B B2 : Nat) (a b : List (Int × Int)) (w : World) (ha : Sl w B 2 A n c (opsV a)) (hb : Sl w B2 2 A2 n2 c2 (opsV b)) (hB : B ≤ w.heap.size) (hB2 : B2 ≤ w.heap.size) :
 Calls Tryz.prog 24 #[.slice A n c, .slice A2 n2 c2] w fun e w' => e = .returned (.bool (decide (a = b))) ∧ Below w.heap.size w w' := by
 have HA := Lib.hid ha; have HB := Lib.hid hb
 have HLA := Lib.hid (ha.len (f := fun o : Int × Int => [Value.int .i64 o.1, Value.int .i64 o.2]) (fun _ => rfl) (by decide)); have HLB := Lib.hid (hb.len (f := fun o : Int × Int => [Value.int .i64 o.1, Value.int .i64 o.2]) (fun _ => rfl) (by decide))
 have hm1 := ha.le
 have hm2 := hb.le
 clear ha hb
 by_cases hl : n = n2; rotate_left
 ·have q1 : ((n : Int) != (n2 : Int)) = true := by simp; omega
  have q2 : (n != n2) = true := by simpa using hl
  have HV : Hid (decide (a = b) = false) := by
   refine decide_eq_false fun e => hl ?_
   have h1 := HLA.out; have h2 := HLB.out; rw [e] at h1; omega
  clear hl
  go_enter Tryz.func24, Tryz.ntmps24
  go_wp2_with fail
  go_ret
  exact ⟨by rw [HV.out]; rfl, Below.refl _ _⟩
 subst hl
 go_enter Tryz.func24, Tryz.ntmps24
 go_upto_region 4 with (fail)
 refine wp_loop_u1 [(3, 0), (0, 1), (0, 2), (4, 0), (14, 1)] 5 (n) (SoR20 w a b n) (by (try dsimp only [gt]); exact ⟨0, rfl, Nat.zero_le _, rfl, rfl, Below.refl _ _⟩) (by kernel_rfl) ?_
 intro u1 p5 gk wr a hrel ha J1 K1 hJ1 hK1
 dsimp only [relaxR, Go.Proofs.YtfaknfmndafllaaGreatDoor.v1, Nat.reduceAdd] at ha
 subst ha
 obtain ⟨i, rfl, hi, rfl, HE, HBL⟩ := hrel
 by_cases hlt : i < n; rotate_left
 ·have hii : decide ((i : Int) < (n : Int)) = false := by simp; omega
  have hii2 : decide (i < n) = false := by simp; omega
  have HV : Hid (decide (a = b) = true) := by
   have h := HE.out
   rw [List.take_of_length_le (by have := HLA.out; omega), List.take_of_length_le (by have := HLB.out; omega)] at h
   exact decide_eq_true h
  go_wp2_with fail
  go_ret
  exact ⟨by rw [HV.out]; rfl, HBL.out⟩
 obtain ⟨b1, o1, x, hA, hb1, hx, hc⟩ := (HA.out.below HBL.out hB).at (f := fun o : Int × Int => [Value.int .i64 o.1, Value.int .i64 o.2]) (fun _ => rfl) (by decide) hlt
 obtain ⟨b2, o2, y, hA2, hb2, hy, hd⟩ := (HB.out.below HBL.out hB2).at (f := fun o : Int × Int => [Value.int .i64 o.1, Value.int .i64 o.2]) (fun _ => rfl) (by decide) hlt
 obtain ⟨x1, x2⟩ := x
 obtain ⟨y1, y2⟩ := y
 have HCS : Hid ((wr.cell? ⟨b1, o1 + i * 2, none⟩ = some (.int .i64 x1) ∧ wr.cell? ⟨b1, o1 + i * 2 + 1, none⟩ = some (.int .i64 x2)) ∧ wr.cell? ⟨b2, o2 + i * 2, none⟩ = some (.int .i64 y1) ∧ wr.cell? ⟨b2, o2 + i * 2 + 1, none⟩ = some (.int .i64 y2)) := ⟨⟨hc 0 _ rfl, hc 1 _ rfl⟩, hd 0 _ rfl, hd 1 _ rfl⟩
 have HX := Lib.hid hx; have HY := Lib.hid hy
 subst hA hA2
 clear hc hd hx hy hb1 hb2
 have hq := run_neq_op x1 x2 y1 y2
 go_upto_region 6 with (fail)
 refine wp_region_J (S := fun W' => (W'.cell? ⟨b1, o1 + i * 2, none⟩ = some (.int .i64 x1) ∧ W'.cell? ⟨b1, o1 + i * 2 + 1, none⟩ = some (.int .i64 x2)) ∧ W'.cell? ⟨b2, o2 + i * 2, none⟩ = some (.int .i64 y1) ∧ W'.cell? ⟨b2, o2 + i * 2 + 1, none⟩ = some (.int .i64 y2)) (J := []) (by kernel_rfl) ?_ (fun hHeld => ?_)
 ·exact HCS.out
 try dsimp only at hHeld
 refine tk 0 17 (mf 9 1) hHeld ?_
 refine tk 1 18 (mf 9 2) hHeld ?_
 refine tk 2 19 (mf 9 3) hHeld ?_
 refine wpAnyJ_takeL (i := 3) (d := some 20) (v := ?_) (mf 9 4) (by kernel_rfl) rfl rfl (by kernel_rfl) (by kernel_rfl) (by kernel_rfl) (by kernel_rfl) (by kernel_rfl) (fun _ _ _ h => h) (Or.inl ⟨by rfl, ?_⟩) hHeld ?_
 rotate_left
 ·(intro w hSw; (try dsimp only at hSw); obtain ⟨⟨u0, u1⟩, -⟩ := hSw; go_simp; try with_reducible rfl)
 try simp only [Act.put, sA, sB, sC]
 refine tk 4 21 (mf 9 5) hHeld ?_
 refine tk 5 22 (mf 9 6) hHeld ?_
 refine tk 6 23 (mf 9 7) hHeld ?_
 refine wpAnyJ_takeL (i := 7) (d := some 24) (v := ?_) (mf 9 8) (by kernel_rfl) rfl rfl (by kernel_rfl) (by kernel_rfl) (by kernel_rfl) (by kernel_rfl) (by kernel_rfl) (fun _ _ _ h => h) (Or.inl ⟨by rfl, ?_⟩) hHeld ?_
 rotate_left
 ·(intro w hSw; (try dsimp only at hSw); obtain ⟨-, u0, u1⟩ := hSw; go_simp; try with_reducible rfl)
 try simp only [Act.put, sA, sB, sC]
 refine tk 8 25 (mf 9 9) hHeld ?_
 refine wpAnyJ_done (by kernel_rfl) ?_ _
 clear hHeld hq
 have HEQ : Hid (opE (x1, x2) (y1, y2) = true ↔ ((x1, x2) : Int × Int) = ⟨y1, y2⟩) := by unfold Hid opE; simp
 generalize opE (x1, x2) (y1, y2) = bb at *
 rcases bb with _ | _
 ·have HV : Hid (decide (a = b) = false) := by
   refine decide_eq_false fun e => ?_
   have h1 := HX.out; rw [e, HY.out] at h1
   have h2 := HEQ.out.mpr (Option.some.inj h1).symm
   cases h2
  clear HEQ
  go_wp2_with fail
  go_ret
  exact ⟨by rw [HV.out]; rfl, HBL.out.drew⟩
 ·have HN : Hid (a.take (i + 1) = b.take (i + 1)) := by unfold Hid; rw [take_snoc HX.out, take_snoc HY.out, HE.out, HEQ.out.mp rfl]
  clear HEQ
  go_wp2_with fail
  refine Handed.intro (n - (i + 1)) (by omega) (hJ1 _ _ _ (LpI1.back 5 ?_ (by kernel_rfl)))
  dsimp only [gt]
  exact ⟨i + 1, by go_num, by omega, rfl, HN, HBL.out.drew⟩
end Go.Proofs.YtfaknfmndafllaaGreatDoor
namespace Go.Proofs.YtfaknfmndafllaaGreatDoor
open Go.RowKit
theorem namesE : (∀ x ∈ nsA, x.name.size ≤ 9223372036854775807) ∧ (∀ x ∈ dsE, x.name.size ≤ 9223372036854775807) := by
 constructor <;> intro x hx <;> simp [nsA, dsE] at hx
 ·rcases hx with rfl | rfl <;> decide
 ·rcases hx with rfl | rfl | rfl <;> decide
theorem Blk.asl {w : World} {g n size : Nat} {T : TypeId} {cs : Array Value} {xs : List Value} (h : Blk w g T cs) (hc : cs.toList = xs) (hs : cs.size = n * size) (hn : n ≤ 100) : Sl w w.heap.size size (some ⟨g, 0, none⟩) n n xs := by
 subst hc
 refine ⟨by simpa using hs, Nat.le_refl _, by omega, (fun e => by cases e), fun _ => ⟨g, 0, rfl, h.lt, fun j u hu => ?_⟩⟩
 rw [Nat.zero_add, h.cell]; simpa using hu
def nE : Array Value := #[.string ⟨#[65]⟩, .int .i64 0, .int .i64 0, .string ⟨#[66]⟩, .int .i64 0, .int .i64 0]
def dE : Array Value := #[.string ⟨#[83]⟩, .int .i64 5, .int .i64 0, .int .i64 (-1), .int .i64 0, .string ⟨#[68]⟩, .int .i64 3, .int .i64 0, .int .i64 1, .int .i64 0, .string ⟨#[69]⟩, .int .i64 4, .int .i64 1, .int .i64 (-1), .int .i64 0]
theorem awake_any (w : World) (hl : Laid w) : Calls Tryz.prog 9 #[] w fun e w' => e = .returned (.bool true) ∧ Below w.heap.size w w' := by
 have HB : Hid (Bxs w [(80, nE), (68, dE), (30, #[.slice (some ⟨w.heap.size, 0, none⟩) 2 2, .slice (some ⟨w.heap.size + 1, 0, none⟩) 3 3])] _) := Bxs.new3 w (80, nE) (68, dE) (30, #[.slice (some ⟨w.heap.size, 0, none⟩) 2 2, .slice (some ⟨w.heap.size + 1, 0, none⟩) 3 3])
 have HLA := Lib.hid hl
 clear hl
 dsimp only [nE, dE] at HB
 go_enter Tryz.func9, Tryz.ntmps9
 go_upto_region 2 with (fail)
 generalize World.alloc (World.alloc (World.alloc w _) _) _ = W at *
 rw [show w.heap.size + 1 + 1 = w.heap.size + 2 from rfl]
 have k0 := HB.out.b2.c0
 have k1 := HB.out.b2.c1
 go_wp2_with fail
 clear k0 k1
 have HA1 : Hid (Below W.heap.size W (W.alloc (.cells #[.int .i64 2, .int .i64 1, .int .i64 2] 3))) := (Below.refl _ _).alloc (Nat.le_refl _) _
 have HS1 : Hid (Sl (W.alloc (.cells #[.int .i64 2, .int .i64 1, .int .i64 2] 3)) (W.alloc (.cells #[.int .i64 2, .int .i64 1, .int .i64 2] 3)).heap.size 1 (some ⟨W.heap.size, 0, none⟩) 3 3 (intsV [2, 1, 2])) := (Sl.newest (n := 3) (size := 1) rfl rfl (by decide)).more (by simp)
 have HB1 := Lib.hid (HB.out.later HA1.out)
 obtain ⟨sa, hsa⟩ : ∃ sa : Option Addr, sa = some ⟨W.heap.size, 0, none⟩ := ⟨_, rfl⟩
 rw [← hsa] at HS1 ⊢
 clear hsa HB HA1
 have hz : (World.alloc W (.cells #[.int .i64 2, .int .i64 1, .int .i64 2] 3)).heap.size = W.heap.size + 1 := by simp
 generalize World.alloc W _ = W1 at *
 rw [← hz]
 clear hz
 have HA2 : Hid (Below W1.heap.size W1 (W1.alloc (.cells #[.int .i64 2, .int .i64 2, .int .i64 1] 3))) := (Below.refl _ _).alloc (Nat.le_refl _) _
 have HS2 : Hid (Sl (W1.alloc (.cells #[.int .i64 2, .int .i64 2, .int .i64 1] 3)) (W1.alloc (.cells #[.int .i64 2, .int .i64 2, .int .i64 1] 3)).heap.size 1 (some ⟨W1.heap.size, 0, none⟩) 3 3 (intsV [2, 2, 1])) := (Sl.newest (n := 3) (size := 1) rfl rfl (by decide)).more (by simp)
 have HB2 := Lib.hid (HB1.out.later HA2.out)
 have HS3 := Lib.hid ((HS1.out.below HA2.out (Nat.le_refl _)).more HA2.out.size)
 obtain ⟨sb, hsb⟩ : ∃ sb : Option Addr, sb = some ⟨W1.heap.size, 0, none⟩ := ⟨_, rfl⟩
 rw [← hsb] at HS2 ⊢
 clear hsb HB1 HA2 HS1
 generalize World.alloc W1 _ = W2 at *
 have HM : Hid (HzMem W2 (some ⟨w.heap.size, 0, none⟩) (some ⟨w.heap.size + 1, 0, none⟩) sa none none 2 2 3 3 3 3 0 0 0 0 nsA dsE [2, 1, 2] [] []) := ⟨HB2.out.b0.asl rfl rfl (by decide), HB2.out.b1.asl rfl rfl (by decide), HS3.out, Sl.nil _ _ _, Sl.nil _ _ _, HLA.out.below HB2.out.l (Nat.le_refl _), namesE.1, namesE.2⟩
 refine (rsearch_any _ _ _ none none _ 2 2 3 3 3 3 0 0 0 0 3 3 nsA dsE [2, 1, 2] [2, 2, 1] [] [] 0 W2 HM.out HS2.out).mono ?_
 rintro e w3 ⟨⟨h1, -⟩ | ⟨-, ⟨h1, -⟩ | ⟨p, A, c, hso, -, rfl, hO⟩⟩, hb3⟩
 ·exact absurd errE h1
 ·have := FindIs.unique (r := none) (r' := some [1, 0]) h1 wayE
  cases this
 have hpe : p = [1, 0] := by
  have := FindIs.unique (r := some p) (r' := some [1, 0]) hso wayE
  injection this
 subst hpe
 rw [opsE] at hO
 have HO := Lib.hid hO
 have HB3 := Lib.hid (HB2.out.l.trans (hb3.out.mono HB2.out.l.size))
 clear hso hO hb3 HM HS2 HS3 HB2 HLA
 go_wp2_with fail
 have HA4 : Hid (Below w3.heap.size w3 (w3.alloc (.cells #[.int .i64 2, .int .i64 1, .int .i64 1, .int .i64 2] 62))) := (Below.refl _ _).alloc (Nat.le_refl _) _
 have HS4 : Hid (Sl (w3.alloc (.cells #[.int .i64 2, .int .i64 1, .int .i64 1, .int .i64 2] 62)) (w3.alloc (.cells #[.int .i64 2, .int .i64 1, .int .i64 1, .int .i64 2] 62)).heap.size 2 (some ⟨w3.heap.size, 0, none⟩) 2 2 (opsV [(2, 1), (1, 2)])) := (Sl.newest (n := 2) (size := 2) rfl rfl (by decide)).more (by simp)
 have HO4 := Lib.hid (Sl.of_own (own_later HO.out HA4.out))
 have HB4 := Lib.hid (HB3.out.trans (HA4.out.mono HB3.out.size))
 clear HO HA4 HB3
 obtain ⟨sc, hsc⟩ : ∃ sc : Option Addr, sc = some ⟨w3.heap.size, 0, none⟩ := ⟨_, rfl⟩
 rw [← hsc] at HS4 ⊢
 clear hsc
 generalize World.alloc w3 _ = w4 at *
 refine (sameo_any A sc 2 c 2 2 w4.heap.size w4.heap.size [(2, 1), (1, 2)] [(2, 1), (1, 2)] w4 HO4.out HS4.out (Nat.le_refl _) (Nat.le_refl _)).mono ?_
 rintro e w5 ⟨rfl, hb5⟩
 rw [show decide (([(2, 1), (1, 2)] : List (Int × Int)) = [(2, 1), (1, 2)]) = true from rfl]
 have HB5 := Lib.hid (HB4.out.trans (hb5.mono HB4.out.size))
 clear hb5 HB4 HO4 HS4
 go_wp2_with fail
 have HA6 : Hid (Below w5.heap.size w5 (w5.alloc (.cells #[.int .i64 2, .int .i64 1, .int .i64 2] 3))) := (Below.refl _ _).alloc (Nat.le_refl _) _
 have HS6 : Hid (Sl (w5.alloc (.cells #[.int .i64 2, .int .i64 1, .int .i64 2] 3)) (w5.alloc (.cells #[.int .i64 2, .int .i64 1, .int .i64 2] 3)).heap.size 1 (some ⟨w5.heap.size, 0, none⟩) 3 3 (intsV [2, 1, 2])) := (Sl.newest (n := 3) (size := 1) rfl rfl (by decide)).more (by simp)
 have HB6 := Lib.hid (HB5.out.trans (HA6.out.mono HB5.out.size))
 obtain ⟨sd, hsd⟩ : ∃ sd : Option Addr, sd = some ⟨w5.heap.size, 0, none⟩ := ⟨_, rfl⟩
 rw [← hsd] at HS6 ⊢
 clear hsd HA6 HB5
 have hz : (World.alloc w5 (.cells #[.int .i64 2, .int .i64 1, .int .i64 2] 3)).heap.size = w5.heap.size + 1 := by simp
 generalize World.alloc w5 _ = w6 at *
 rw [← hz]
 clear hz
 have HA7 : Hid (Below w6.heap.size w6 (w6.alloc (.cells #[.int .i64 2, .int .i64 2, .int .i64 1] 3))) := (Below.refl _ _).alloc (Nat.le_refl _) _
 have HS7 : Hid (Sl (w6.alloc (.cells #[.int .i64 2, .int .i64 2, .int .i64 1] 3)) (w6.alloc (.cells #[.int .i64 2, .int .i64 2, .int .i64 1] 3)).heap.size 1 (some ⟨w6.heap.size, 0, none⟩) 3 3 (intsV [2, 2, 1])) := (Sl.newest (n := 3) (size := 1) rfl rfl (by decide)).more (by simp)
 have HS8 := Lib.hid ((HS6.out.below HA7.out (Nat.le_refl _)).more HA7.out.size)
 have HB7 := Lib.hid (HB6.out.trans (HA7.out.mono HB6.out.size))
 obtain ⟨se, hse⟩ : ∃ se : Option Addr, se = some ⟨w6.heap.size, 0, none⟩ := ⟨_, rfl⟩
 rw [← hse] at HS7 ⊢
 clear hse HA7 HB6 HS6
 generalize World.alloc w6 _ = w7 at *
 refine (rsdiff_any sd se 3 3 3 3 w7.heap.size w7.heap.size [2, 1, 2] [2, 2, 1] w7 HS8.out HS7.out (Nat.le_refl _) (Nat.le_refl _) (by decide)).mono ?_
 rintro e w8 ⟨A8, c8, rfl, hO8, hb8⟩
 rw [show min ([2, 1, 2] : List Int).length ([2, 2, 1] : List Int).length = 3 from rfl, difE] at hO8 ⊢
 have HO8 := Lib.hid hO8.out
 have HB8 := Lib.hid (HB7.out.trans (hb8.out.mono HB7.out.size))
 clear hO8 hb8 HB7 HS7 HS8
 go_wp2_with fail
 have HA9 : Hid (Below w8.heap.size w8 (w8.alloc (.cells #[.int .i64 1, .int .i64 2] 3))) := (Below.refl _ _).alloc (Nat.le_refl _) _
 have HS9 : Hid (Sl (w8.alloc (.cells #[.int .i64 1, .int .i64 2] 3)) (w8.alloc (.cells #[.int .i64 1, .int .i64 2] 3)).heap.size 1 (some ⟨w8.heap.size, 0, none⟩) 2 2 (intsV [1, 2])) := (Sl.newest (n := 2) (size := 1) rfl rfl (by decide)).more (by simp)
 have HO9 : Hid (Sl (w8.alloc (.cells #[.int .i64 1, .int .i64 2] 3)) (w8.alloc (.cells #[.int .i64 1, .int .i64 2] 3)).heap.size 1 A8 2 c8 (intsV [1, 2])) := Sl.of_own (own_later HO8.out HA9.out)
 have HB9 := Lib.hid (HB8.out.trans (HA9.out.mono HB8.out.size))
 clear HO8 HA9 HB8
 obtain ⟨sf, hsf⟩ : ∃ sf : Option Addr, sf = some ⟨w8.heap.size, 0, none⟩ := ⟨_, rfl⟩
 rw [← hsf] at HS9 ⊢
 clear hsf
 generalize World.alloc w8 _ = w9 at *
 refine (ints_any A8 sf 2 c8 2 2 w9.heap.size w9.heap.size [1, 2] [1, 2] w9 HO9.out HS9.out (Nat.le_refl _) (Nat.le_refl _)).mono ?_
 rintro e w10 ⟨rfl, hb10⟩
 have HB10 := Lib.hid (HB9.out.trans (hb10.mono HB9.out.size))
 clear hb10 HB9 HO9 HS9
 go_wp2_with fail
 go_ret
 exact ⟨by simp, HB10.out⟩
end Go.Proofs.YtfaknfmndafllaaGreatDoor
namespace Go.Proofs.YtfaknfmndafllaaGreatDoor
open Go.RowKit
structure LwB (w : World) (nb : Nat) (An : Option Addr) (cn : Nat) (ns : List Nd) (Ad : Option Addr) (nd cd : Nat) (ds : List Dv) (As : Option Addr) (cs : Nat) (s : List Int) (wr : World) : Prop where
 n : LwN w nb An 6 cn ns Ad nd cd ds wr
 s : SlX wr w.heap.size 1 As nd cs (intsV s)
section
variable {w wr wr' : World} {nb cn nd cd cs : Nat} {An Ad As : Option Addr} {ns : List Nd} {ds : List Dv} {s : List Int}
theorem LwB.grown (h : LwB w nb An cn ns Ad nd cd ds As cs s wr) (hl : Laid w) (hg : wr.grownBy wr' (some w.heap.size)) (hd : DeckAt wr' w.heap.size) : LwB w nb An cn ns Ad nd cd ds As cs s wr' := ⟨h.n.grown hl hg hd, h.s.grown hg⟩
theorem LwB.later (h : LwB w nb An cn ns Ad nd cd ds As cs s wr) (hb : Below wr.heap.size wr wr') : LwB w nb An cn ns Ad nd cd ds As cs s wr' := ⟨h.n.later hb, h.s.below hb⟩
theorem LwB.mk0 {w1 w2 : World} (hl : Laid w) (hb1 : Below w.heap.size w w1) (hs1 : w1.heap.size = w.heap.size + 1) (hd2 : DeckAt w2 w.heap.size) (hg2 : w1.grownBy w2 (some w.heap.size))
 (hrn : w2.ownsRow (w1.heap.size + 2) 80 3 (.slice An 6 cn) 6 (ns.flatMap Nd.cells)) (hrd : w2.ownsRow (w1.heap.size + 2) 68 5 (.slice Ad nd cd) nd (ds.flatMap Dv.cells)) (hrs : IntsO w2 (w1.heap.size + 2) As nd cs s) :
 LwB w w2.heap.size An cn ns Ad nd cd ds As cs s (w2.alloc (.cells #[.slice An 6 cn, .slice Ad nd cd] 30)) ∧ ds.length = nd := by
 have hb2 : Below w.heap.size w w2 := hb1.trans (below_of_grown hg2 (Nat.le_refl _) (by omega))
 refine ⟨⟨⟨hd2.alloc _, Blk.new _ _ _, (SlX.of_own hrn (by omega)).alloc _, (SlX.of_own hrd (by omega)).alloc _, hb2.alloc hb2.size _, ?_, (hl.below hb2 (Nat.le_refl _)).alloc _⟩, (SlX.of_own hrs (by omega)).alloc _⟩, (Sl.of_own hrd).len (fun _ => rfl) (by decide)⟩
 have := hg2.size; omega
end
theorem stay_is (st : List Int → Nat → Option (List Int)) (s : List Int) : SomeIs st s (goalT s) [] := by
 refine ⟨s, 0, rfl, by unfold goalT; rw [if_pos rfl], fun q b' c' _ hg => ⟨Nat.zero_le _, fun h => ?_⟩⟩
 have hc : c' = 0 := by
  unfold goalT at hg
  split at hg
  ·injection hg with hg; exact hg.symm
  ·cases hg
 exact ⟨by omega, fun _ => trivial⟩
theorem stay_some {st : List Int → Nat → Option (List Int)} {s : List Int} {p : List Nat} (h : SomeIs st s (goalT s) p) : p = [] := by
 have := FindIs.unique (r := some p) (r' := some []) h (stay_is st s)
 injection this
theorem stay_none {st : List Int → Nat → Option (List Int)} {s : List Int} (h : NoneIs st s (goalT s)) : False := by
 have := FindIs.unique (r := none) (r' := some []) h (stay_is st s)
 cases this
theorem rstS_nil (ds : List Dv) (s : List Int) (co : Int) (ls : List Lk) : rstS ds s co ls [] = ls.map unl := by unfold rstS; simp [opsP, opsSt]
theorem BayOk.ground {ns : List Nd} {ds : List Dv} {s : List Int} (h : BayOk ns ds s) {ls : List Lk} (hl : GoodL ds ls) : grErr ns ds 0 ls [] = 0 := by
 unfold grErr
 rw [if_neg (by omega), if_neg (by rw [sm_locks h.check hl]; simp), if_neg (by simp [risL])]
theorem BayOk.search {ns : List Nd} {ds : List Dv} {s : List Int} (h : BayOk ns ds s) {t : List Int} (ht : stateErr ns ds t = 0) {pr : List Int} (hg : grErr ns ds 0 [] pr = 0) : srErr ns ds s t 0 [] pr = 0 := by
 have h1 : stsE ns ds s t = 0 := by unfold stsE; rw [if_neg (by rw [h.state]; simp)]; exact ht
 unfold srErr
 rw [if_neg (by rw [h1]; simp)]
 exact h.problem hg (by rfl)
theorem BayOk.restore {ns : List Nd} {ds : List Dv} {s : List Int} (h : BayOk ns ds s) {t : List Int} (ht : stateErr ns ds t = 0) {ls : List Lk} (hl : GoodL ds ls) : rstE ns ds s t 0 ls [] = 0 := by
 have h1 : stsE ns ds s t = 0 := by unfold stsE; rw [if_neg (by rw [h.state]; simp)]; exact ht
 unfold rstE
 rw [if_neg (by rw [h1]; simp), if_neg (by rw [h.ground hl]; simp)]
 exact h.search ht (h.ground (ls := []) ⟨by simp, by simp, List.Pairwise.nil⟩)
def UlkR (z : World) (nl gk : Nat) (iv : Value) (wr : World) : Prop := ∃ i : Nat, iv = .int .i64 i ∧ i ≤ nl ∧ gk = nl - i ∧ Hid (Below z.heap.size z wr)
theorem walk_RestoreUnlocks (w : World) (hl : Laid w) (A : Option Addr) (n c : Nat) (zs : List Int) (hs : Sl w w.heap.size 1 A n c (intsV zs)) (_hz : ∀ z ∈ zs, (Lit.int .i64 z).wf = true) :
 Calls Tryz.prog 5 #[.slice A n c] w fun e w' => e = .returned (.bool true) ∧ Below w.heap.size w w' := by
 have hnm := hs.le
 have HL := Lib.hid hl; have HS := Lib.hid hs
 clear hl hs _hz
 have HF := Lib.hid (few_any A n c w (by omega))
 rcases hf : decide (n ≤ 400) with _ | _
 ·rw [hf] at HF
  clear hf
  go_enter Tryz.func5, Tryz.ntmps5
  go_wp2_with fail
  refine HF.out.mono ?_
  rintro e w1 ⟨rfl, rfl⟩
  go_wp2_with fail
  refine (awake_any w HL.out).mono ?_
  rintro e w1 ⟨rfl, hb⟩
  go_wp2_with fail
  go_ret
  exact ⟨rfl, hb⟩
 rw [hf] at HF
 clear hf
 go_enter Tryz.func5, Tryz.ntmps5
 go_wp2_with fail
 refine HF.out.mono ?_
 rintro e w1 ⟨rfl, rfl⟩
 go_wp2_with fail
 refine (new_any A n c w.heap.size zs w HS.out (Nat.le_refl _)).mono ?_
 rintro e w1 ⟨rfl, hd1, hb1, hs1⟩
 go_wp2_with fail
 refine (mkbay_any w.heap.size w1 hd1.out).mono ?_
 rintro e w2 ⟨An, cn, ns, Ad, nd, cd, ds, As, cs, s, rfl, hd2, hg2, hrn, hrd, hrs, hok⟩
 have HMK := LwB.mk0 HL.out hb1.out hs1.out hd2.out hg2.out hrn.out hrd.out hrs.out
 have HND := Lib.hid HMK.2
 have HN3 := Lib.hid HMK.1
 have HOK := Lib.hid hok.out
 have hnd : nd ≤ 9 := by have := hok.out.dl; rw [HND.out] at this; exact this
 clear HMK hd1 hb1 hs1 hd2 hg2 hrn hrd hrs hok HS HF
 go_upto_region 5 with (fail)
 generalize World.alloc _ _ = w3 at *
 obtain ⟨nb, hnb⟩ : ∃ nb, nb = w2.heap.size := ⟨_, rfl⟩
 rw [← hnb] at HN3 ⊢
 clear hnb
 have n0 := HN3.out.n.bx.cell 0; have n1 := HN3.out.n.bx.cell 1
 go_wp2_with fail
 refine (mklocks_any w.heap.size An Ad As 6 cn nd cd nd cs 5 ns ds s w3 HN3.out.n.dk HN3.out.n.hn HN3.out.n.hd HN3.out.s (by omega) (by decide) HOK.out.names.1 HOK.out.names.2).mono ?_
 rintro e w4 ⟨Al, nl, cl, ls, rfl, hd4, hg4, hO4, hmd⟩
 have HN4 := Lib.hid (HN3.out.grown HL.out hg4.out hd4.out)
 have HO4 := Lib.hid (Sl.of_own hO4.out)
 have HLS : Hid (ls.length = nl) := HO4.out.len (fun _ => rfl) (by decide)
 have HMD := Lib.hid hmd.out
 have hnl : nl ≤ 5 := by have := hmd.out.2.1; rw [HLS.out] at this; exact this
 clear hd4 hg4 hO4 hmd HN3 n0 n1
 have HA5 : Hid (Below w4.heap.size w4 (w4.alloc (.cells #[.int .i64 0, .slice Al nl cl, .slice none 0 0] 40))) := (Below.refl _ _).alloc (Nat.le_refl _) _
 have HG5 := Lib.hid (Blk.new w4 40 #[.int .i64 0, .slice Al nl cl, .slice none 0 0])
 have HN5 := Lib.hid (HN4.out.later HA5.out)
 have HO5 := Lib.hid ((HO4.out.below HA5.out (Nat.le_refl _)).more HA5.out.size)
 clear HA5 HN4 HO4
 go_upto_region 6 with (fail)
 generalize World.alloc w4 _ = w5 at *
 obtain ⟨gb, hgb⟩ : ∃ gb, gb = w4.heap.size := ⟨_, rfl⟩
 rw [← hgb] at HG5 ⊢
 clear hgb
 have n0 := HN5.out.n.bx.cell 0; have n1 := HN5.out.n.bx.cell 1; have g0 := HG5.out.cell 0; have g1 := HG5.out.cell 1; have g2 := HG5.out.cell 2
 have HM5 : Hid (HzMem w5 An Ad As Al none 6 cn nd cd nd cs nl cl 0 0 ns ds s ls []) := ⟨HN5.out.n.hn.1, HN5.out.n.hd.1, HN5.out.s.1, HO5.out, Sl.nil _ _ _, HN5.out.n.la, HOK.out.names.1, HOK.out.names.2⟩
 go_wp2_with fail
 refine (restore_any An Ad As Al none As 6 cn nd cd nd cs nl cl 0 0 nd cs ns ds s s ls [] 0 w5 HM5.out HN5.out.s.1).mono ?_
 rintro e w6 ⟨hp, hb6⟩
 have HN6 := Lib.hid (HN5.out.later hb6.out)
 have HG6 := Lib.hid (HG5.out.below hb6.out HG5.out.lt)
 have HO6 := Lib.hid ((HO5.out.below hb6.out (Nat.le_refl _)).more hb6.out.size)
 have HRE : Hid (rstE ns ds s s 0 ls [] = 0) := HOK.out.restore HOK.out.state HMD.out.1
 clear hb6 HN5 HG5 HO5 HM5 n0 n1 g0 g1 g2
 rcases hp with ⟨er, rfl, hp⟩ | ⟨-, p, A1, c1, hso, hlen, rfl, hO⟩
 ·exfalso
  rcases hp with ⟨h1, -⟩ | ⟨-, ⟨h1, -⟩ | ⟨p, hso, h64, -⟩⟩
  ·exact h1 HRE.out
  ·exact stay_none h1
  ·have := stay_some hso
   subst this
   rw [rstS_nil, List.length_map, HLS.out] at h64
   omega
 have hpe := stay_some hso
 subst hpe
 rw [rstS_nil] at hO
 have hln : (rstS ds s 0 ls []).length = nl := by rw [rstS_nil, List.length_map, HLS.out]
 rw [hln]
 rw [List.length_map, HLS.out] at hO
 have HST := Lib.hid (Sl.of_own hO)
 clear hso hlen hO hln HRE
 have HA7 : Hid (Below w6.heap.size w6 (w6.alloc (.cells #[.string ⟨#[82, 69, 83, 84, 79, 82, 69]⟩, .slice A1 nl c1] 50))) := (Below.refl _ _).alloc (Nat.le_refl _) _
 have HP7 := Lib.hid (Blk.new w6 50 #[.string ⟨#[82, 69, 83, 84, 79, 82, 69]⟩, .slice A1 nl c1])
 have HN7 := Lib.hid (HN6.out.later HA7.out)
 have HG7 := Lib.hid (HG6.out.below HA7.out HG6.out.lt)
 have HO7 := Lib.hid ((HO6.out.below HA7.out (Nat.le_refl _)).more HA7.out.size)
 have HS7 := Lib.hid ((HST.out.below HA7.out (Nat.le_refl _)).more HA7.out.size)
 clear HA7 HN6 HG6 HO6 HST
 go_upto_region 7 with (fail)
 generalize World.alloc w6 _ = z at *
 obtain ⟨pb, hpb⟩ : ∃ pb, pb = w6.heap.size := ⟨_, rfl⟩
 rw [← hpb] at HP7 ⊢
 clear hpb
 have p0 := HP7.out.cell 0; have p1 := HP7.out.cell 1; have g1 := HG7.out.cell 1
 have q1 : ((nl : Int) != (nl : Int)) = false := by simp
 go_upto_region 10 with (fail)
 clear p0 p1 g1 q1
 refine wp_loop_u1 [(1, 0), (0, 1), (5, 0), (1, 1), (42, 0), (0, 2), (15, 1), (0, 0)] 54 (nl) (UlkR z nl) (by (try dsimp only [gt]); exact ⟨0, rfl, Nat.zero_le _, rfl, Below.refl _ _⟩) (by kernel_rfl) ?_
 intro u1 p54 gk wr a hrel ha J1 K1 hJ1 hK1
 dsimp only [relaxR, Go.Proofs.YtfaknfmndafllaaGreatDoor.v1, Nat.reduceAdd] at ha
 subst ha
 obtain ⟨i, rfl, hi, rfl, hB⟩ := hrel
 have HB := Lib.hid hB.out
 clear hB
 by_cases hlt : i < nl; rotate_left
 ·have q1 : decide ((i : Int) < (nl : Int)) = false := by simp; omega
  have HN8 := Lib.hid (HN7.out.later HB.out)
  go_wp2_with fail
  refine (awake_any wr HN8.out.n.la).mono ?_
  rintro e w9 ⟨rfl, hb9⟩
  have HN9 := Lib.hid (HN8.out.n.bl.trans (hb9.mono HN8.out.n.bl.size))
  clear hb9
  go_wp2_with fail
  go_ret
  exact ⟨rfl, HN9.out⟩
 have q1 : decide ((i : Int) < (nl : Int)) = true := by simp; omega
 obtain ⟨b1, o1, f, rfl, hb1, hf, hc1⟩ := (HO7.out.below HB.out (Nat.le_refl _)).at (l := ls) (f := Lk.cells) (fun _ => rfl) (by decide) hlt
 have HSW := Lib.hid ((HS7.out.below HB.out (Nat.le_refl _)).more HB.out.size)
 have e0 : wr.cell? ⟨b1, o1 + i * 3, none⟩ = some (.int .i64 f.dev) := hc1 0 _ rfl
 have e1 : wr.cell? ⟨b1, o1 + i * 3 + 1, none⟩ = some (.int .i64 f.pos) := hc1 1 _ rfl
 have e2 : wr.cell? ⟨b1, o1 + i * 3 + 2, none⟩ = some (.int .i64 f.key) := hc1 2 _ rfl
 have HAL : Hid (Below wr.heap.size wr (wr.alloc (.cells #[.int .i64 f.dev, .int .i64 f.pos, .int .i64 f.key] 59))) := (Below.refl _ _).alloc (Nat.le_refl _) _
 have HLB := Lib.hid (Blk.new wr 59 #[.int .i64 f.dev, .int .i64 f.pos, .int .i64 f.key])
 have HPB := Lib.hid ((HP7.out.below HB.out HP7.out.lt).below HAL.out (Nat.lt_of_lt_of_le HP7.out.lt HB.out.size))
 have HSB := Lib.hid (HSW.out.below HAL.out (Nat.le_refl _))
 have HBV := Lib.hid (HB.out.trans (HAL.out.mono HB.out.size))
 have hii : IntKind.i64.wrap ((i : Int) + 1) = (i : Int) + 1 := IntWalk.i64_in _ (by omega)
 clear hc1 HSW
 go_upto_region 12 with (fail)
 clear e0 e1 e2 q1
 obtain ⟨lb, hlb⟩ : ∃ lb, lb = wr.heap.size := ⟨_, rfl⟩
 rw [← hlb] at HLB ⊢
 clear hlb HAL
 generalize World.alloc wr _ = V at *
 obtain ⟨b2, o2, x, rfl, hb2, hx, hc3⟩ := HSB.out.at (l := ls.map unl) (f := Sp.cells) (fun _ => rfl) (by decide) hlt
 have hxe : x = unl f := by rw [List.getElem?_map, hf] at hx; injection hx with hx; exact hx.symm
 subst hxe
 have HCS : Hid (V.cell? ⟨pb, 1, none⟩ = some (.slice (some ⟨b2, o2, none⟩) nl c1) ∧ V.cell? ⟨b2, o2 + i * 5, none⟩ = some (.int .i64 4) ∧ V.cell? ⟨b2, o2 + i * 5 + 1, none⟩ = some (.int .i64 f.dev) ∧ V.cell? ⟨b2, o2 + i * 5 + 2, none⟩ = some (.int .i64 0) ∧ V.cell? ⟨b2, o2 + i * 5 + 3, none⟩ = some (.int .i64 0) ∧ V.cell? ⟨b2, o2 + i * 5 + 4, none⟩ = some (.int .i64 f.key) ∧ V.cell? ⟨lb, 0, none⟩ = some (.int .i64 f.dev) ∧ V.cell? ⟨lb, 2, none⟩ = some (.int .i64 f.key)) := ⟨HPB.out.cell 1, hc3 0 _ rfl, hc3 1 _ rfl, hc3 2 _ rfl, hc3 3 _ rfl, hc3 4 _ rfl, HLB.out.cell 0, HLB.out.cell 2⟩
 have hq : ∀ w : World, (binOp .neq 56 (.agg #[.int .i64 4, .int .i64 f.dev, .int .i64 0, .int .i64 0, .int .i64 f.key]) (.agg #[.int .i64 4, .int .i64 f.dev, .int .i64 0, .int .i64 0, .int .i64 f.key])).run Tryz.prog w = .ok (.bool false) w := fun w => by rw [run_neq_sp]; simp [Sp.eqB]
 clear hc3 hx hf
 refine wp_region_J (S := fun W' => W'.cell? ⟨pb, 1, none⟩ = some (.slice (some ⟨b2, o2, none⟩) nl c1) ∧ W'.cell? ⟨b2, o2 + i * 5, none⟩ = some (.int .i64 4) ∧ W'.cell? ⟨b2, o2 + i * 5 + 1, none⟩ = some (.int .i64 f.dev) ∧ W'.cell? ⟨b2, o2 + i * 5 + 2, none⟩ = some (.int .i64 0) ∧ W'.cell? ⟨b2, o2 + i * 5 + 3, none⟩ = some (.int .i64 0) ∧ W'.cell? ⟨b2, o2 + i * 5 + 4, none⟩ = some (.int .i64 f.key) ∧ W'.cell? ⟨lb, 0, none⟩ = some (.int .i64 f.dev) ∧ W'.cell? ⟨lb, 2, none⟩ = some (.int .i64 f.key)) (J := []) (by kernel_rfl) ?_ (fun hHeld => ?_)
 ·exact HCS.out
 try dsimp only at hHeld
 refine tk 0 59 (mf 11 1) hHeld ?_
 refine wpAnyJ_takeL (i := 1) (d := some 60) (v := ?_) (mf 11 2) (by kernel_rfl) rfl rfl (by kernel_rfl) (by kernel_rfl) (by kernel_rfl) (by kernel_rfl) (by kernel_rfl) (fun _ _ _ h => h) (Or.inl ⟨by rfl, ?_⟩) hHeld ?_
 rotate_left
 ·(intro w hSw; (try dsimp only at hSw); have u0 := hSw.1; go_simp; try with_reducible rfl)
 try simp only [Act.put, sA, sB, sC]
 refine tk 2 61 (mf 11 3) hHeld ?_
 refine tk 3 62 (mf 11 4) hHeld ?_
 refine wpAnyJ_takeL (i := 4) (d := some 63) (v := ?_) (mf 11 5) (by kernel_rfl) rfl rfl (by kernel_rfl) (by kernel_rfl) (by kernel_rfl) (by kernel_rfl) (by kernel_rfl) (fun _ _ _ h => h) (Or.inl ⟨by rfl, ?_⟩) hHeld ?_
 rotate_left
 ·(intro w hSw; (try dsimp only at hSw); obtain ⟨-, u0, u1, u2, u3, u4, -⟩ := hSw; go_simp; try with_reducible rfl)
 try simp only [Act.put, sA, sB, sC]
 refine tk 5 64 (mf 11 6) hHeld ?_
 refine wpAnyJ_takeL (i := 6) (d := some 65) (v := ?_) (mf 11 7) (by kernel_rfl) rfl rfl (by kernel_rfl) (by kernel_rfl) (by kernel_rfl) (by kernel_rfl) (by kernel_rfl) (fun _ _ _ h => h) (Or.inl ⟨by rfl, ?_⟩) hHeld ?_
 rotate_left
 ·(intro w hSw; (try dsimp only at hSw); obtain ⟨-, -, -, -, -, -, u0, -⟩ := hSw; go_simp; try with_reducible rfl)
 try simp only [Act.put, sA, sB, sC]
 refine tk 7 66 (mf 11 8) hHeld ?_
 refine wpAnyJ_takeL (i := 8) (d := some 67) (v := ?_) (mf 11 9) (by kernel_rfl) rfl rfl (by kernel_rfl) (by kernel_rfl) (by kernel_rfl) (by kernel_rfl) (by kernel_rfl) (fun _ _ _ h => h) (Or.inl ⟨by rfl, ?_⟩) hHeld ?_
 rotate_left
 ·(intro w hSw; (try dsimp only at hSw); obtain ⟨-, -, -, -, -, -, -, u0⟩ := hSw; go_simp; try with_reducible rfl)
 try simp only [Act.put, sA, sB, sC]
 refine tk 9 68 (mf 11 10) hHeld ?_
 refine tk 10 69 (mf 11 11) hHeld ?_
 refine wpAnyJ_done (by kernel_rfl) ?_ _
 clear hHeld hq HCS
 go_wp2_with fail
 refine Handed.intro (nl - (i + 1)) (by omega) (hJ1 _ _ _ (LpI1.back 54 ?_ (by kernel_rfl)))
 dsimp only [gt]
 exact ⟨i + 1, by go_num, by omega, rfl, HBV.out.drew⟩
end Go.Proofs.YtfaknfmndafllaaGreatDoor
