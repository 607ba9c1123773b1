import Derived.Test.YtfaknfmndafllaaGreatDoorW36
import Derived.Test.YtfaknfmndafllaaGreatDoorW32
import Derived.Test.YtfaknfmndafllaaGreatDoorW25
import Derived.Test.YtfaknfmndafllaaGreatDoorW23
set_option maxRecDepth 100000
set_option maxHeartbeats 8000000
namespace Go.Proofs.YtfaknfmndafllaaGreatDoor
open Go.RowKit
theorem namesE : (∀ x ∈ nsA, x.name.size ≤ 9223372036854775807) ∧ (∀ x ∈ dsE, x.name.size ≤ 9223372036854775807) := by
 constructor <;> intro x hx <;> simp [nsA, dsE] at hx
 ·rcases hx with rfl | rfl <;> decide
 ·rcases hx with rfl | rfl | rfl <;> decide
theorem Blk.asl {w : World} {g n size : Nat} {T : TypeId} {cs : Array Value} {xs : List Value} (h : Blk w g T cs) (hc : cs.toList = xs) (hs : cs.size = n * size) (hn : n ≤ 100) : Sl w w.heap.size size (some ⟨g, 0, none⟩) n n xs := by
 subst hc
 refine ⟨by simpa using hs, Nat.le_refl _, by omega, (fun e => by cases e), fun _ => ⟨g, 0, rfl, h.lt, fun j u hu => ?_⟩⟩
 rw [Nat.zero_add, h.cell]; simpa using hu
def nE : Array Value := #[.string ⟨#[65]⟩, .int .i64 0, .int .i64 0, .string ⟨#[66]⟩, .int .i64 0, .int .i64 0]
def dE : Array Value := #[.string ⟨#[83]⟩, .int .i64 5, .int .i64 0, .int .i64 (-1), .int .i64 0, .string ⟨#[68]⟩, .int .i64 3, .int .i64 0, .int .i64 1, .int .i64 0, .string ⟨#[69]⟩, .int .i64 4, .int .i64 1, .int .i64 (-1), .int .i64 0]
theorem awake_any (w : World) (hl : Laid w) : Calls Tryz.prog 9 #[] w fun e w' => e = .returned (.bool true) ∧ Below w.heap.size w w' := by
 have HB : Hid (Bxs w [(80, nE), (68, dE), (30, #[.slice (some ⟨w.heap.size, 0, none⟩) 2 2, .slice (some ⟨w.heap.size + 1, 0, none⟩) 3 3])] _) := Bxs.new3 w (80, nE) (68, dE) (30, #[.slice (some ⟨w.heap.size, 0, none⟩) 2 2, .slice (some ⟨w.heap.size + 1, 0, none⟩) 3 3])
 have HLA := Lib.hid hl
 clear hl
 dsimp only [nE, dE] at HB
 go_enter Tryz.func9, Tryz.ntmps9
 go_upto_region 2 with (fail)
 generalize World.alloc (World.alloc (World.alloc w _) _) _ = W at *
 rw [show w.heap.size + 1 + 1 = w.heap.size + 2 from rfl]
 have k0 := HB.out.b2.c0
 have k1 := HB.out.b2.c1
 go_wp2_with fail
 clear k0 k1
 have HA1 : Hid (Below W.heap.size W (W.alloc (.cells #[.int .i64 2, .int .i64 1, .int .i64 2] 3))) := (Below.refl _ _).alloc (Nat.le_refl _) _
 have HS1 : Hid (Sl (W.alloc (.cells #[.int .i64 2, .int .i64 1, .int .i64 2] 3)) (W.alloc (.cells #[.int .i64 2, .int .i64 1, .int .i64 2] 3)).heap.size 1 (some ⟨W.heap.size, 0, none⟩) 3 3 (intsV [2, 1, 2])) := (Sl.newest (n := 3) (size := 1) rfl rfl (by decide)).more (by simp)
 have HB1 := Lib.hid (HB.out.later HA1.out)
 obtain ⟨sa, hsa⟩ : ∃ sa : Option Addr, sa = some ⟨W.heap.size, 0, none⟩ := ⟨_, rfl⟩
 rw [← hsa] at HS1 ⊢
 clear hsa HB HA1
 have hz : (World.alloc W (.cells #[.int .i64 2, .int .i64 1, .int .i64 2] 3)).heap.size = W.heap.size + 1 := by simp
 generalize World.alloc W _ = W1 at *
 rw [← hz]
 clear hz
 have HA2 : Hid (Below W1.heap.size W1 (W1.alloc (.cells #[.int .i64 2, .int .i64 2, .int .i64 1] 3))) := (Below.refl _ _).alloc (Nat.le_refl _) _
 have HS2 : Hid (Sl (W1.alloc (.cells #[.int .i64 2, .int .i64 2, .int .i64 1] 3)) (W1.alloc (.cells #[.int .i64 2, .int .i64 2, .int .i64 1] 3)).heap.size 1 (some ⟨W1.heap.size, 0, none⟩) 3 3 (intsV [2, 2, 1])) := (Sl.newest (n := 3) (size := 1) rfl rfl (by decide)).more (by simp)
 have HB2 := Lib.hid (HB1.out.later HA2.out)
 have HS3 := Lib.hid ((HS1.out.below HA2.out (Nat.le_refl _)).more HA2.out.size)
 obtain ⟨sb, hsb⟩ : ∃ sb : Option Addr, sb = some ⟨W1.heap.size, 0, none⟩ := ⟨_, rfl⟩
 rw [← hsb] at HS2 ⊢
 clear hsb HB1 HA2 HS1
 generalize World.alloc W1 _ = W2 at *
 have HM : Hid (HzMem W2 (some ⟨w.heap.size, 0, none⟩) (some ⟨w.heap.size + 1, 0, none⟩) sa none none 2 2 3 3 3 3 0 0 0 0 nsA dsE [2, 1, 2] [] []) := ⟨HB2.out.b0.asl rfl rfl (by decide), HB2.out.b1.asl rfl rfl (by decide), HS3.out, Sl.nil _ _ _, Sl.nil _ _ _, HLA.out.below HB2.out.l (Nat.le_refl _), namesE.1, namesE.2⟩
 refine (rsearch_any _ _ _ none none _ 2 2 3 3 3 3 0 0 0 0 3 3 nsA dsE [2, 1, 2] [2, 2, 1] [] [] 0 W2 HM.out HS2.out).mono ?_
 rintro e w3 ⟨⟨h1, -⟩ | ⟨-, ⟨h1, -⟩ | ⟨p, A, c, hso, -, rfl, hO⟩⟩, hb3⟩
 ·exact absurd errE h1
 ·have := FindIs.unique (r := none) (r' := some [1, 0]) h1 wayE
  cases this
 have hpe : p = [1, 0] := by
  have := FindIs.unique (r := some p) (r' := some [1, 0]) hso wayE
  injection this
 subst hpe
 rw [opsE] at hO
 have HO := Lib.hid hO
 have HB3 := Lib.hid (HB2.out.l.trans (hb3.out.mono HB2.out.l.size))
 clear hso hO hb3 HM HS2 HS3 HB2 HLA
 go_wp2_with fail
 have HA4 : Hid (Below w3.heap.size w3 (w3.alloc (.cells #[.int .i64 2, .int .i64 1, .int .i64 1, .int .i64 2] 62))) := (Below.refl _ _).alloc (Nat.le_refl _) _
 have HS4 : Hid (Sl (w3.alloc (.cells #[.int .i64 2, .int .i64 1, .int .i64 1, .int .i64 2] 62)) (w3.alloc (.cells #[.int .i64 2, .int .i64 1, .int .i64 1, .int .i64 2] 62)).heap.size 2 (some ⟨w3.heap.size, 0, none⟩) 2 2 (opsV [(2, 1), (1, 2)])) := (Sl.newest (n := 2) (size := 2) rfl rfl (by decide)).more (by simp)
 have HO4 := Lib.hid (Sl.of_own (own_later HO.out HA4.out))
 have HB4 := Lib.hid (HB3.out.trans (HA4.out.mono HB3.out.size))
 clear HO HA4 HB3
 obtain ⟨sc, hsc⟩ : ∃ sc : Option Addr, sc = some ⟨w3.heap.size, 0, none⟩ := ⟨_, rfl⟩
 rw [← hsc] at HS4 ⊢
 clear hsc
 generalize World.alloc w3 _ = w4 at *
 refine (sameo_any A sc 2 c 2 2 w4.heap.size w4.heap.size [(2, 1), (1, 2)] [(2, 1), (1, 2)] w4 HO4.out HS4.out (Nat.le_refl _) (Nat.le_refl _)).mono ?_
 rintro e w5 ⟨rfl, hb5⟩
 rw [show decide (([(2, 1), (1, 2)] : List (Int × Int)) = [(2, 1), (1, 2)]) = true from rfl]
 have HB5 := Lib.hid (HB4.out.trans (hb5.mono HB4.out.size))
 clear hb5 HB4 HO4 HS4
 go_wp2_with fail
 have HA6 : Hid (Below w5.heap.size w5 (w5.alloc (.cells #[.int .i64 2, .int .i64 1, .int .i64 2] 3))) := (Below.refl _ _).alloc (Nat.le_refl _) _
 have HS6 : Hid (Sl (w5.alloc (.cells #[.int .i64 2, .int .i64 1, .int .i64 2] 3)) (w5.alloc (.cells #[.int .i64 2, .int .i64 1, .int .i64 2] 3)).heap.size 1 (some ⟨w5.heap.size, 0, none⟩) 3 3 (intsV [2, 1, 2])) := (Sl.newest (n := 3) (size := 1) rfl rfl (by decide)).more (by simp)
 have HB6 := Lib.hid (HB5.out.trans (HA6.out.mono HB5.out.size))
 obtain ⟨sd, hsd⟩ : ∃ sd : Option Addr, sd = some ⟨w5.heap.size, 0, none⟩ := ⟨_, rfl⟩
 rw [← hsd] at HS6 ⊢
 clear hsd HA6 HB5
 have hz : (World.alloc w5 (.cells #[.int .i64 2, .int .i64 1, .int .i64 2] 3)).heap.size = w5.heap.size + 1 := by simp
 generalize World.alloc w5 _ = w6 at *
 rw [← hz]
 clear hz
 have HA7 : Hid (Below w6.heap.size w6 (w6.alloc (.cells #[.int .i64 2, .int .i64 2, .int .i64 1] 3))) := (Below.refl _ _).alloc (Nat.le_refl _) _
 have HS7 : Hid (Sl (w6.alloc (.cells #[.int .i64 2, .int .i64 2, .int .i64 1] 3)) (w6.alloc (.cells #[.int .i64 2, .int .i64 2, .int .i64 1] 3)).heap.size 1 (some ⟨w6.heap.size, 0, none⟩) 3 3 (intsV [2, 2, 1])) := (Sl.newest (n := 3) (size := 1) rfl rfl (by decide)).more (by simp)
 have HS8 := Lib.hid ((HS6.out.below HA7.out (Nat.le_refl _)).more HA7.out.size)
 have HB7 := Lib.hid (HB6.out.trans (HA7.out.mono HB6.out.size))
 obtain ⟨se, hse⟩ : ∃ se : Option Addr, se = some ⟨w6.heap.size, 0, none⟩ := ⟨_, rfl⟩
 rw [← hse] at HS7 ⊢
 clear hse HA7 HB6 HS6
 generalize World.alloc w6 _ = w7 at *
 refine (rsdiff_any sd se 3 3 3 3 w7.heap.size w7.heap.size [2, 1, 2] [2, 2, 1] w7 HS8.out HS7.out (Nat.le_refl _) (Nat.le_refl _) (by decide)).mono ?_
 rintro e w8 ⟨A8, c8, rfl, hO8, hb8⟩
 rw [show min ([2, 1, 2] : List Int).length ([2, 2, 1] : List Int).length = 3 from rfl, difE] at hO8 ⊢
 have HO8 := Lib.hid hO8.out
 have HB8 := Lib.hid (HB7.out.trans (hb8.out.mono HB7.out.size))
 clear hO8 hb8 HB7 HS7 HS8
 go_wp2_with fail
 have HA9 : Hid (Below w8.heap.size w8 (w8.alloc (.cells #[.int .i64 1, .int .i64 2] 3))) := (Below.refl _ _).alloc (Nat.le_refl _) _
 have HS9 : Hid (Sl (w8.alloc (.cells #[.int .i64 1, .int .i64 2] 3)) (w8.alloc (.cells #[.int .i64 1, .int .i64 2] 3)).heap.size 1 (some ⟨w8.heap.size, 0, none⟩) 2 2 (intsV [1, 2])) := (Sl.newest (n := 2) (size := 1) rfl rfl (by decide)).more (by simp)
 have HO9 : Hid (Sl (w8.alloc (.cells #[.int .i64 1, .int .i64 2] 3)) (w8.alloc (.cells #[.int .i64 1, .int .i64 2] 3)).heap.size 1 A8 2 c8 (intsV [1, 2])) := Sl.of_own (own_later HO8.out HA9.out)
 have HB9 := Lib.hid (HB8.out.trans (HA9.out.mono HB8.out.size))
 clear HO8 HA9 HB8
 obtain ⟨sf, hsf⟩ : ∃ sf : Option Addr, sf = some ⟨w8.heap.size, 0, none⟩ := ⟨_, rfl⟩
 rw [← hsf] at HS9 ⊢
 clear hsf
 generalize World.alloc w8 _ = w9 at *
 refine (ints_any A8 sf 2 c8 2 2 w9.heap.size w9.heap.size [1, 2] [1, 2] w9 HO9.out HS9.out (Nat.le_refl _) (Nat.le_refl _)).mono ?_
 rintro e w10 ⟨rfl, hb10⟩
 have HB10 := Lib.hid (HB9.out.trans (hb10.mono HB9.out.size))
 clear hb10 HB9 HO9 HS9
 go_wp2_with fail
 go_ret
 exact ⟨by simp, HB10.out⟩
end Go.Proofs.YtfaknfmndafllaaGreatDoor
