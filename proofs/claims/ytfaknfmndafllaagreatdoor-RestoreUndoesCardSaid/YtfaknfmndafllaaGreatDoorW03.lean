import Derived.Test.YtfaknfmndafllaaGreatDoorProg
import Derived.Test.YtfaknfmndafllaaGreatDoorW00
import Derived.Test.YtfaknfmndafllaaGreatDoorW01
import Derived.Test.YtfaknfmndafllaaGreatDoorW02
import Derived.Outline
import Derived.Maps.OwnOps
import Derived.Maps.Views
import Derived.Maps.Keyed
import Derived.Deep.LoopGhost
import Derived.Deep.DeepCutAuto
import Derived.Deep.RegionHeld
import Derived.StillTail
set_option maxRecDepth 100000
set_option maxHeartbeats 4000000
namespace Go.Proofs.YtfaknfmndafllaaGreatDoor
open Go.RowKit
def fitC (b : Int) (first : Bool) : Bool := if 65 ≤ b ∧ b ≤ 90 then true else if 97 ≤ b ∧ b ≤ 122 then true else if 48 ≤ b ∧ b ≤ 57 then !first else if b = 95 then !first else false
theorem fits_any (b : Int) (first : Bool) (w : World) (hl : Laid w) (hb0 : 0 ≤ b) (hb1 : b < 256) : Calls Tryz.prog 163 #[.int .u8 b, .bool first] w fun e w' => e = .returned (.bool (fitC b first)) ∧ Below w.heap.size w w' := by
 have c0 := hl.1 0 _ rfl
 have c1 := hl.1 1 _ rfl
 have c2 := hl.1 2 _ rfl
 have c3 := hl.1 3 _ rfl
 have c4 := hl.1 4 _ rfl
 have c5 := hl.1 5 _ rfl
 have c6 := hl.1 6 _ rfl
 have c7 := hl.1 7 _ rfl
 have c8 := hl.1 8 _ rfl
 have c9 := hl.1 9 _ rfl
 have c10 := hl.1 10 _ rfl
 have c11 := hl.1 11 _ rfl
 clear hl
 go_enter Tryz.func163, Tryz.ntmps163
 go_wp2_with fail
 clear c0 c1 c2 c3 c4 c5 c6 c7 c8 c9 c10 c11
 have i0 : ∀ w, (Instr.index 224 (.agg classesV.toArray) (.int .i64 0)).run Tryz.prog w = .ok (.agg #[.int .u8 65, .int .u8 90, .bool true]) w := fun _ => by kernel_rfl
 have i1 : ∀ w, (Instr.index 224 (.agg classesV.toArray) (.int .i64 1)).run Tryz.prog w = .ok (.agg #[.int .u8 97, .int .u8 122, .bool true]) w := fun _ => by kernel_rfl
 have i2 : ∀ w, (Instr.index 224 (.agg classesV.toArray) (.int .i64 2)).run Tryz.prog w = .ok (.agg #[.int .u8 48, .int .u8 57, .bool false]) w := fun _ => by kernel_rfl
 have i3 : ∀ w, (Instr.index 224 (.agg classesV.toArray) (.int .i64 3)).run Tryz.prog w = .ok (.agg #[.int .u8 95, .int .u8 95, .bool false]) w := fun _ => by kernel_rfl
 simp only [classesV] at i0 i1 i2 i3
 have HF : Hid (fitC b first = if 65 ≤ b ∧ b ≤ 90 then true else if 97 ≤ b ∧ b ≤ 122 then true else if 48 ≤ b ∧ b ≤ 57 then !first else if b = 95 then !first else false) := rfl
 go_loopw [8] (fun i wr => ∃ (i' : Nat), i = .int .i64 i' ∧ i' ≤ 4 ∧ Hid (Below w.heap.size w wr) ∧ Hid ((0 < i' → ¬ (65 ≤ b ∧ b ≤ 90)) ∧ (1 < i' → ¬ (97 ≤ b ∧ b ≤ 122)) ∧ (2 < i' → ¬ (48 ≤ b ∧ b ≤ 57)) ∧ (3 < i' → ¬ b = 95))) (fun i _ => 4 - (intOf i).toNat)
 case atStart => exact ⟨0, rfl, Nat.zero_le _, Below.refl _ _, by unfold Hid; refine ⟨?_, ?_, ?_, ?_⟩ <;> intro h <;> omega⟩
 case round =>
  obtain ⟨i, rfl, hi, hbl, hno⟩ := hrel
  have hsz := hbl.out.size
  rcases (show i = 0 ∨ i = 1 ∨ i = 2 ∨ i = 3 ∨ i = 4 by omega) with rfl | rfl | rfl | rfl | rfl
  ·by_cases h1 : 65 ≤ b
   ·by_cases h2 : b ≤ 90
    ·go_wp2_with fail
     go_ret
     exact ⟨ret_bool (by rw [HF.out, if_pos ⟨h1, h2⟩]), hbl.out.alloc hsz _⟩
    ·have h2' : decide (b ≤ 90) = false := by simpa using h2
     go_wp2_with fail
     go_roundw
     case rel => exact ⟨1, rfl, by decide, hbl.out.alloc hsz _, by have hn := hno.out; unfold Hid; refine ⟨?_, ?_, ?_, ?_⟩ <;> intro h <;> omega⟩
     case measure => decide
   ·have h1' : decide (65 ≤ b) = false := by simpa using h1
    go_wp2_with fail
    go_roundw
    case rel => exact ⟨1, rfl, by decide, hbl.out.alloc hsz _, by have hn := hno.out; unfold Hid; refine ⟨?_, ?_, ?_, ?_⟩ <;> intro h <;> omega⟩
    case measure => decide
  ·by_cases h1 : 97 ≤ b
   ·by_cases h2 : b ≤ 122
    ·go_wp2_with fail
     go_ret
     exact ⟨ret_bool (by rw [HF.out, if_neg (hno.out.1 (by decide)), if_pos ⟨h1, h2⟩]), hbl.out.alloc hsz _⟩
    ·have h2' : decide (b ≤ 122) = false := by simpa using h2
     go_wp2_with fail
     go_roundw
     case rel => exact ⟨2, rfl, by decide, hbl.out.alloc hsz _, by have hn := hno.out; unfold Hid; refine ⟨?_, ?_, ?_, ?_⟩ <;> intro h <;> omega⟩
     case measure => decide
   ·have h1' : decide (97 ≤ b) = false := by simpa using h1
    go_wp2_with fail
    go_roundw
    case rel => exact ⟨2, rfl, by decide, hbl.out.alloc hsz _, by have hn := hno.out; unfold Hid; refine ⟨?_, ?_, ?_, ?_⟩ <;> intro h <;> omega⟩
    case measure => decide
  ·by_cases h1 : 48 ≤ b
   ·by_cases h2 : b ≤ 57
    ·go_wp2_with fail
     go_ret
     exact ⟨ret_bool (by rw [HF.out, if_neg (hno.out.1 (by decide)), if_neg (hno.out.2.1 (by decide)), if_pos ⟨h1, h2⟩]), hbl.out.alloc hsz _⟩
    ·have h2' : decide (b ≤ 57) = false := by simpa using h2
     go_wp2_with fail
     go_roundw
     case rel => exact ⟨3, rfl, by decide, hbl.out.alloc hsz _, by have hn := hno.out; unfold Hid; refine ⟨?_, ?_, ?_, ?_⟩ <;> intro h <;> omega⟩
     case measure => decide
   ·have h1' : decide (48 ≤ b) = false := by simpa using h1
    go_wp2_with fail
    go_roundw
    case rel => exact ⟨3, rfl, by decide, hbl.out.alloc hsz _, by have hn := hno.out; unfold Hid; refine ⟨?_, ?_, ?_, ?_⟩ <;> intro h <;> omega⟩
    case measure => decide
  ·by_cases h1 : 95 ≤ b
   ·by_cases h2 : b ≤ 95
    ·go_wp2_with fail
     go_ret
     exact ⟨ret_bool (by rw [HF.out, if_neg (hno.out.1 (by decide)), if_neg (hno.out.2.1 (by decide)), if_neg (hno.out.2.2.1 (by decide)), if_pos (by omega)]), hbl.out.alloc hsz _⟩
    ·have h2' : decide (b ≤ 95) = false := by simpa using h2
     go_wp2_with fail
     go_roundw
     case rel => exact ⟨4, rfl, by decide, hbl.out.alloc hsz _, by have hn := hno.out; unfold Hid; refine ⟨?_, ?_, ?_, ?_⟩ <;> intro h <;> omega⟩
     case measure => decide
   ·have h1' : decide (95 ≤ b) = false := by simpa using h1
    go_wp2_with fail
    go_roundw
    case rel => exact ⟨4, rfl, by decide, hbl.out.alloc hsz _, by have hn := hno.out; unfold Hid; refine ⟨?_, ?_, ?_, ?_⟩ <;> intro h <;> omega⟩
    case measure => decide
  ·go_wp2_with fail
   go_ret
   exact ⟨ret_bool (by rw [HF.out, if_neg (hno.out.1 (by decide)), if_neg (hno.out.2.1 (by decide)), if_neg (hno.out.2.2.1 (by decide)), if_neg (hno.out.2.2.2 (by decide))]), hbl.out⟩
def nameB (s : List UInt8) : Bool := decide (∀ i, i < s.length → fitC (s.getD i 0).toNat (i == 0) = true) && decide (1 ≤ s.length) && decide (s.length ≤ 12)
theorem name_any (s : ByteArray) (w : World) (hl : Laid w) (hs : s.size ≤ 9223372036854775807) : Calls Tryz.prog 132 #[.string s] w fun e w' => e = .returned (.bool (nameB (toL s))) ∧ Below w.heap.size w w' := by
 have HL := Lib.hid hl; clear hl
 have HN : Hid (nameB (toL s) = (decide (∀ i, i < s.size → fitC ((toL s).getD i 0).toNat (i == 0) = true) && decide (1 ≤ s.size) && decide (s.size ≤ 12))) := by unfold Hid; rw [nameB, toL_len]
 go_enter Tryz.func132, Tryz.ntmps132
 go_wp2_with fail
 go_loopw [6] (fun i wr => ∃ (i' : Nat), i = .int .i64 i' ∧ i' ≤ s.size ∧ Hid (Below w.heap.size w wr) ∧ Hid (∀ j, j < i' → fitC ((toL s).getD j 0).toNat (j == 0) = true)) (fun i _ => s.size - (intOf i).toNat)
 case atStart => exact ⟨0, rfl, Nat.zero_le _, Below.refl _ _, fun j hj => absurd hj (by omega)⟩
 case round =>
  obtain ⟨i, rfl, hi, hbl, hok⟩ := hrel
  have hsz := hbl.out.size
  by_cases hlt : i < s.size
  ·have HF := Lib.hid (fun W h => fits_any ((s[i]).toNat : Int) (i == 0) W h (by omega) (by have := (s[i]).toNat_lt; omega))
   have hg : (toL s).getD i 0 = s[i] := by rw [List.getD_eq_getElem?_getD, List.getElem?_eq_getElem (by rw [toL_len]; exact hlt)]; rfl
   have HG := Lib.hid hg; clear hg
   have hi0 : ((i : Int) == 0) = (i == 0) := by rw [Bool.eq_iff_iff]; simp
   go_wp2_with fail
   refine (HF.out _ (HL.out.below hbl.out (Nat.le_refl _))).mono ?_
   rintro e w1 ⟨rfl, hb1⟩
   have HB1 := Lib.hid (hbl.out.trans (hb1.mono hsz))
   clear hb1 hi0
   rcases hf : fitC ((s[i]).toNat : Int) (i == 0) with _ | _
   ·go_wp2_with fail
    go_ret
    refine ⟨ret_bool ?_, HB1.out⟩
    rw [HN.out, decide_eq_false (fun h => by have := h i hlt; rw [HG.out, hf] at this; cases this)]
    rfl
   ·have HFF := Lib.hid hf; clear hf
    go_wp2_with fail
    go_roundw
    case rel =>
     refine ⟨i + 1, by go_num, by omega, HB1, fun j hj => ?_⟩
     rcases Nat.lt_succ_iff_lt_or_eq.1 hj with h | h
     ·exact hok.out j h
     ·rw [h, HG.out]; exact HFF.out
    case measure => simp [intOf]; omega
  ·obtain rfl : i = s.size := by omega
   have q0 : decide (s.size < s.size) = false := by simp
   have HT : Hid (decide (∀ i, i < s.size → fitC ((toL s).getD i 0).toNat (i == 0) = true) = true) := by unfold Hid; exact decide_eq_true hok.out
   by_cases h1 : 1 ≤ s.size
   ·have q1 : decide ((1 : Int) ≤ (s.size : Int)) = true := by simp; omega
    go_wp2_with fail
    go_ret
    exact ⟨ret_bool (by rw [HN.out, HT.out, decide_eq_true h1]; simp; omega), hbl.out⟩
   ·have q1 : decide ((1 : Int) ≤ (s.size : Int)) = false := by simp; omega
    go_wp2_with fail
    go_ret
    exact ⟨ret_bool (by rw [HN.out, HT.out, decide_eq_false h1]; rfl), hbl.out⟩
def posB (p : Int) : Bool := decide (p = 1) || decide (p = 2)
end Go.Proofs.YtfaknfmndafllaaGreatDoor
namespace Go.Proofs.YtfaknfmndafllaaGreatDoor
open Go.RowKit
open Go.Maps (Keyed)
theorem law_str : Keyed Tryz.prog 9 := Go.Maps.string_keyed Tryz.underlying9
theorem plainElem_bool_inv {H : Type} {P : Program} {e : TypeId} (he : P.underlying e = some .bool) {v : Value} {z : DataW H × List MemPlace} (h : plainElem P e v = some z) : ∃ x, v = .bool x ∧ z = (.lit (.bool x), []) := by
 unfold plainElem at h
 rw [he] at h
 cases v <;> simp at h
 exact ⟨_, rfl, h.symm⟩
def UsedAt (w : World) (b : Nat) (names : List (List UInt8)) : Prop :=
 ∃ (D : DataW Unit), w.ownsMap Tryz.prog 9 (plainElem Tryz.prog 4) b names.length D ∧ Go.Maps.IsMap D ∧ ∀ k, D.atKey (.string k) (.lit (.bool false)) = .lit (.bool (decide (k ∈ names)))
theorem key_str (s : ByteArray) (hs : s.size ≤ 9223372036854775807) : keyOf Tryz.prog 9 (.string s) = some (.string (toL s)) := by
 have hu : Tryz.prog.underlying 9 = some .string := Tryz.underlying9
 simp [keyOf, mapKey, hu, maxLen, hs, toL]
theorem used_made (w : World) : UsedAt (w.alloc (.map #[] 0)) w.heap.size [] := ⟨.map [], World.ownsMap_made _ _ _ _, ⟨[], rfl⟩, fun k => by simp [DataW.atKey]⟩
theorem UsedAt.lt {w : World} {b : Nat} {names : List (List UInt8)} (h : UsedAt w b names) : b < w.heap.size := by
 obtain ⟨D, h1, _⟩ := h
 exact h1.lt
theorem UsedAt.kept {w w' : World} {b : Nat} {names : List (List UInt8)} {row : Option Nat} (h : UsedAt w b names) (hg : w.grownBy w' row) (hne : some b ≠ row) : UsedAt w' b names := by
 obtain ⟨D, h1, h2, h3⟩ := h
 exact ⟨D, h1.kept hg hne, h2, h3⟩
theorem UsedAt.below {w w' : World} {b : Nat} {names : List (List UInt8)} (h : UsedAt w b names) (hb : Below w.heap.size w w') : UsedAt w' b names := h.kept (grown_of_below hb none) (by simp)
theorem UsedAt.alloc {w : World} {b : Nat} {names : List (List UInt8)} (h : UsedAt w b names) (o : Obj) : UsedAt (w.alloc o) b names := h.below ((Below.refl _ _).alloc (Nat.le_refl _) _)
theorem UsedAt.look {w : World} {b : Nat} {names : List (List UInt8)} (h : UsedAt w b names) (s : ByteArray) (hs : s.size ≤ 9223372036854775807) :
 (Instr.lookup 182 (.map (some b)) (.string s) false).run Tryz.prog w = .ok (.bool (decide (toL s ∈ names))) w := by
 obtain ⟨D, h1, h2, h3⟩ := h
 obtain ⟨v, ps, hr, hv⟩ := h1.lookup law_str Tryz.underlying182 (z := .bool false) (by kernel_rfl) (plainElem_bool Tryz.underlying4 false) (key_str s hs)
 obtain ⟨x, rfl, hx⟩ := plainElem_bool_inv Tryz.underlying4 hv
 rw [h3] at hx
 simp only [Prod.mk.injEq, DataW.lit.injEq, Lit.bool.injEq] at hx
 rw [hr, hx.1]
theorem UsedAt.put {w : World} {b : Nat} {names : List (List UInt8)} (h : UsedAt w b names) (hn : names.length ≤ 1000000) (s : ByteArray) (hs : s.size ≤ 9223372036854775807) :
 ∃ w', (Instr.mapUpdate 182 (.map (some b)) (.string s) (.bool true)).run Tryz.prog w = .ok () w' ∧ UsedAt w' b (toL s :: names) ∧ w.grownBy w' (some b) := by
 obtain ⟨D, h1, h2, h3⟩ := h
 obtain ⟨w', hr, ho, hg⟩ := h1.update law_str Tryz.underlying182 (by unfold maxLen; omega) (key_str s hs) (plainElem_bool Tryz.underlying4 true)
 refine ⟨w', hr, ⟨_, ho, ?_, fun k => ?_⟩, hg⟩
 ·obtain ⟨es, rfl⟩ := h2
  exact ⟨_, rfl⟩
 ·by_cases e : k = toL s
  ·rw [e, Go.Maps.atKey_put_same h2 (by simp [WideAt.IsKeyLit])]; simp
  ·rw [Go.Maps.atKey_put_other (fun e' => e (by injection e')), h3]; simp [e]
end Go.Proofs.YtfaknfmndafllaaGreatDoor
namespace Go.Proofs.YtfaknfmndafllaaGreatDoor
open Go.RowKit
structure Nd where
 name : ByteArray
 cust : Int
 comp : Int
structure Dv where
 name : ByteArray
 kind : Int
 a : Int
 b : Int
 comp : Int
def Nd.cells (x : Nd) : List Value := [.string x.name, .int .i64 x.cust, .int .i64 x.comp]
def Dv.cells (x : Dv) : List Value := [.string x.name, .int .i64 x.kind, .int .i64 x.a, .int .i64 x.b, .int .i64 x.comp]
def compB (n : Int) : Bool := decide (0 ≤ n) && decide (n ≤ 7)
def joinsB (k : Int) : Bool := decide (1 ≤ k) && decide (k ≤ 3)
def endsB (kind a b k : Int) : Bool := if a < 0 then false else if k ≤ a then false else if joinsB kind = false then decide (b = -1) else decide (0 ≤ b) && decide (b < k) && !decide (b = a)
theorem company_any (n : Int) (w : World) : Calls Tryz.prog 133 #[.int .i64 n] w fun e w' => e = .returned (.bool (compB n)) ∧ w = w' := by
 by_cases h0 : 0 ≤ n
 ·go_enter Tryz.func133, Tryz.ntmps133
  go_wp2
  go_ret
  exact ⟨by simp [compB, h0], rfl⟩
 ·have h0' : decide (0 ≤ n) = false := by simpa using h0
  go_enter Tryz.func133, Tryz.ntmps133
  go_wp2
  go_ret
  exact ⟨by simp [compB, h0'], rfl⟩
theorem joins_any (n : Int) (w : World) : Calls Tryz.prog 164 #[.int .i64 n] w fun e w' => e = .returned (.bool (joinsB n)) ∧ w = w' := by
 by_cases h0 : 1 ≤ n
 ·go_enter Tryz.func164, Tryz.ntmps164
  go_wp2
  go_ret
  exact ⟨by simp [joinsB, h0], rfl⟩
 ·have h0' : decide (1 ≤ n) = false := by simpa using h0
  go_enter Tryz.func164, Tryz.ntmps164
  go_wp2
  go_ret
  exact ⟨by simp [joinsB, h0'], rfl⟩
theorem ends_any (nm : ByteArray) (kind a b comp k : Int) (w : World) : Calls Tryz.prog 134 #[.agg #[.string nm, .int .i64 kind, .int .i64 a, .int .i64 b, .int .i64 comp], .int .i64 k] w fun e w' => e = .returned (.bool (endsB kind a b k)) ∧ Below w.heap.size w w' := by
 have hE : endsB kind a b k = if a < 0 then false else if k ≤ a then false else if joinsB kind = false then decide (b = -1) else decide (0 ≤ b) && decide (b < k) && !decide (b = a) := rfl
 have HE := Lib.hid hE; clear hE
 by_cases h1 : a < 0
 ·go_enter Tryz.func134, Tryz.ntmps134
  go_wp2_with fail
  go_ret
  exact ⟨ret_bool (by rw [HE.out, if_pos h1]), (Below.refl _ _).alloc (Nat.le_refl _) _⟩
 have h1' : decide (a < 0) = false := by simpa using h1
 by_cases h2 : k ≤ a
 ·go_enter Tryz.func134, Tryz.ntmps134
  go_wp2_with fail
  go_ret
  exact ⟨ret_bool (by rw [HE.out, if_neg (by omega), if_pos h2]), (Below.refl _ _).alloc (Nat.le_refl _) _⟩
 have h2' : decide (k ≤ a) = false := by simpa using h2
 rcases hj : joinsB kind with _ | _
 ·have HJ := Lib.hid hj
  have HJ2 := Lib.hid (joins_any kind)
  rw [hj] at HJ2
  clear hj
  go_enter Tryz.func134, Tryz.ntmps134
  go_wp2_with fail
  refine (HJ2.out _).mono ?_
  rintro e w1 ⟨rfl, rfl⟩
  go_wp2_with fail
  go_ret
  exact ⟨ret_bool (by rw [HE.out, if_neg (by omega), if_neg (by omega), if_pos HJ.out]; rfl), (Below.refl _ _).alloc (Nat.le_refl _) _⟩
 ·have HJ := Lib.hid hj
  have HJ2 := Lib.hid (joins_any kind)
  rw [hj] at HJ2
  clear hj
  by_cases h3 : 0 ≤ b
  ·by_cases h4 : b < k
   ·go_enter Tryz.func134, Tryz.ntmps134
    go_wp2_with fail
    refine (HJ2.out _).mono ?_
    rintro e w1 ⟨rfl, rfl⟩
    go_wp2_with fail
    go_ret
    exact ⟨ret_bool (by rw [HE.out, if_neg (by omega), if_neg (by omega), if_neg (by rw [HJ.out]; simp), decide_eq_true h3, decide_eq_true h4, Bool.eq_iff_iff]; simp), (Below.refl _ _).alloc (Nat.le_refl _) _⟩
   ·have h4' : decide (b < k) = false := by simpa using h4
    go_enter Tryz.func134, Tryz.ntmps134
    go_wp2_with fail
    refine (HJ2.out _).mono ?_
    rintro e w1 ⟨rfl, rfl⟩
    go_wp2_with fail
    go_ret
    exact ⟨ret_bool (by rw [HE.out, if_neg (by omega), if_neg (by omega), if_neg (by rw [HJ.out]; simp), h4']; simp), (Below.refl _ _).alloc (Nat.le_refl _) _⟩
  ·have h3' : decide (0 ≤ b) = false := by simpa using h3
   go_enter Tryz.func134, Tryz.ntmps134
   go_wp2_with fail
   refine (HJ2.out _).mono ?_
   rintro e w1 ⟨rfl, rfl⟩
   go_wp2_with fail
   go_ret
   exact ⟨ret_bool (by rw [HE.out, if_neg (by omega), if_neg (by omega), if_neg (by rw [HJ.out]; simp), h3']; simp), (Below.refl _ _).alloc (Nat.le_refl _) _⟩
def ndErr (used : List (List UInt8)) (x : Nd) : Int := if nameB (toL x.name) = false then 3 else if toL x.name ∈ used then 4 else if x.cust < 0 ∨ 1048576 < x.cust then 5 else if compB x.comp = false then 5 else 0
def dvErr (k : Int) (used : List (List UInt8)) (x : Dv) : Int := if nameB (toL x.name) = false then 3 else if toL x.name ∈ used then 4 else if x.kind < 1 ∨ 6 < x.kind then 6 else if endsB x.kind x.a x.b k = false then 7 else if compB x.comp = false then 5 else 0
def chkN : List (List UInt8) → List Nd → Int
 | _, [] => 0
 | used, x :: r => if ndErr used x = 0 then chkN (toL x.name :: used) r else ndErr used x
def usedN : List (List UInt8) → List Nd → List (List UInt8)
 | used, [] => used
 | used, x :: r => usedN (toL x.name :: used) r
def chkD (k : Int) : List (List UInt8) → List Dv → Int
 | _, [] => 0
 | used, x :: r => if dvErr k used x = 0 then chkD k (toL x.name :: used) r else dvErr k used x
def checkN (ns : List Nd) (ds : List Dv) : Int := if 32 < ns.length then 1 else if 64 < ds.length then 1 else if chkN [] ns = 0 then chkD ns.length (usedN [] ns) ds else chkN [] ns
theorem chkN_step {used : List (List UInt8)} {ns : List Nd} {i : Nat} {x : Nd} (hx : ns[i]? = some x) (h0 : ndErr used x = 0) : chkN used (ns.drop i) = chkN (toL x.name :: used) (ns.drop (i + 1)) ∧ usedN used (ns.drop i) = usedN (toL x.name :: used) (ns.drop (i + 1)) := by
 obtain ⟨hi, rfl⟩ := List.getElem?_eq_some_iff.1 hx
 rw [List.drop_eq_getElem_cons hi, chkN, if_pos h0, usedN]
 exact ⟨rfl, rfl⟩
theorem chkN_stop {used : List (List UInt8)} {ns : List Nd} {i : Nat} {x : Nd} (hx : ns[i]? = some x) (h0 : ndErr used x ≠ 0) : chkN used (ns.drop i) = ndErr used x := by
 obtain ⟨hi, rfl⟩ := List.getElem?_eq_some_iff.1 hx
 rw [List.drop_eq_getElem_cons hi, chkN, if_neg h0]
theorem chkD_step {k : Int} {used : List (List UInt8)} {ds : List Dv} {i : Nat} {x : Dv} (hx : ds[i]? = some x) (h0 : dvErr k used x = 0) : chkD k used (ds.drop i) = chkD k (toL x.name :: used) (ds.drop (i + 1)) := by
 obtain ⟨hi, rfl⟩ := List.getElem?_eq_some_iff.1 hx
 rw [List.drop_eq_getElem_cons hi, chkD, if_pos h0]
theorem chkD_stop {k : Int} {used : List (List UInt8)} {ds : List Dv} {i : Nat} {x : Dv} (hx : ds[i]? = some x) (h0 : dvErr k used x ≠ 0) : chkD k used (ds.drop i) = dvErr k used x := by
 obtain ⟨hi, rfl⟩ := List.getElem?_eq_some_iff.1 hx
 rw [List.drop_eq_getElem_cons hi, chkD, if_neg h0]
end Go.Proofs.YtfaknfmndafllaaGreatDoor
namespace Go.Proofs.YtfaknfmndafllaaGreatDoor
open Go.RowKit
def acrB (x : Dv) (v : Int) : Int := if joinsB x.kind = false then -1 else if x.a = v then x.b else if x.b = v then x.a else -1
theorem across_any (nm : ByteArray) (kind a b comp v : Int) (w : World) : Calls Tryz.prog 198 #[.agg #[.string nm, .int .i64 kind, .int .i64 a, .int .i64 b, .int .i64 comp], .int .i64 v] w fun e w' => e = .returned (.int .i64 (acrB ⟨nm, kind, a, b, comp⟩ v)) ∧ Below w.heap.size w w' := by
 have HE : Hid (acrB ⟨nm, kind, a, b, comp⟩ v = if joinsB kind = false then -1 else if a = v then b else if b = v then a else -1) := rfl
 have HJ2 := Lib.hid (joins_any kind)
 rcases hj : joinsB kind with _ | _
 ·rw [hj] at HJ2
  have HJ := Lib.hid hj; clear hj
  go_enter Tryz.func198, Tryz.ntmps198
  go_wp2_with fail
  refine (HJ2.out _).mono ?_
  rintro e w1 ⟨rfl, rfl⟩
  go_wp2_with fail
  go_ret
  exact ⟨ret_int (by rw [HE.out, if_pos HJ.out]), (Below.refl _ _).alloc (Nat.le_refl _) _⟩
 ·rw [hj] at HJ2
  have HJ := Lib.hid hj; clear hj
  by_cases h1 : a = v
  ·subst h1
   have q : (a == a) = true := by simp
   go_enter Tryz.func198, Tryz.ntmps198
   go_wp2_with fail
   refine (HJ2.out _).mono ?_
   rintro e w1 ⟨rfl, rfl⟩
   go_wp2_with fail
   go_ret
   exact ⟨ret_int (by rw [HE.out, if_neg (by rw [HJ.out]; simp)]; simp), (Below.refl _ _).alloc (Nat.le_refl _) _⟩
  ·have q : (a == v) = false := by simpa using h1
   by_cases h2 : b = v
   ·subst h2
    have q2 : (b == b) = true := by simp
    go_enter Tryz.func198, Tryz.ntmps198
    go_wp2_with fail
    refine (HJ2.out _).mono ?_
    rintro e w1 ⟨rfl, rfl⟩
    go_wp2_with fail
    go_ret
    exact ⟨ret_int (by rw [HE.out, if_neg (by rw [HJ.out]; simp), if_neg h1]; simp), (Below.refl _ _).alloc (Nat.le_refl _) _⟩
   ·have q2 : (b == v) = false := by simpa using h2
    go_enter Tryz.func198, Tryz.ntmps198
    go_wp2_with fail
    refine (HJ2.out _).mono ?_
    rintro e w1 ⟨rfl, rfl⟩
    go_wp2_with fail
    go_ret
    exact ⟨ret_int (by rw [HE.out, if_neg (by rw [HJ.out]; simp), if_neg h1, if_neg h2]), (Below.refl _ _).alloc (Nat.le_refl _) _⟩
def IntsPost (w : World) (l : List Int) (e : Ending) (w' : World) : Prop := ∃ (A : Option Addr) (c : Nat), e = .returned (.slice A l.length c) ∧ Hid (IntsO w' w.heap.size A l.length c l) ∧ Hid (Below w.heap.size w w')
theorem run_isnil (A : Option Addr) (n c : Nat) (w : World) : (binOp BinOp.eql 22 (.slice A n c) (.slice none 0 0)).run Tryz.prog w = .ok (.bool A.isNone) w := by
 cases A <;> kernel_rfl
theorem clone_any (A : Option Addr) (n c B : Nat) (l : List Int) (w : World) (hs : Sl w B 1 A n c (intsV l)) (hB : B ≤ w.heap.size) (hn : n ≤ 1000000) : Calls Tryz.prog 64 #[.slice A n c] w (IntsPost w l) := by
 have hl := hs.len (fun _ => rfl) (by decide)
 have HL := Lib.hid hl; clear hl
 cases A with
 | none =>
  have h0 : n = 0 := by have := hs.2.2.2.1 rfl; have := hs.le; omega
  subst h0
  have hl0 : l = [] := List.eq_nil_of_length_eq_zero HL.out
  subst hl0
  clear hs HL
  have hnil := run_isnil none 0 c w
  simp only [Option.isNone_none] at hnil
  go_enter Tryz.func64, Tryz.ntmps64
  go_wp2_with fail
  go_ret
  exact ⟨none, 0, rfl, World.ownsRow_nil _ _ _ _, Below.refl _ _⟩
 | some a =>
  have HS := Lib.hid hs
  have hH := hs.le
  clear hs
  have hnil := run_isnil (some a) n c w
  simp only [Option.isNone_some] at hnil
  go_enter Tryz.func64, Tryz.ntmps64
  have h1 : ∀ u ∈ intsV l, u.oneCell' = true := ints_one l
  have HS1 := Lib.hid (HS.out.alloc hB (.cells #[] 3))
  go_wp2_with (at_builtin; go_must (refine wpList_app rfl (.tmp 5) (.tmp 6) rfl el_int (base := w.heap.size) (n := 0) (xs := []) (by rfl) (own_new (xs := []) (Nat.le_refl _) (by decide) rfl) (by rfl) HS1.out h1 (by omega) (by omega) (by simp) ?_; intro A' cap' w2 hown2 hgr2 hat2; simp only [Nat.zero_add, List.nil_append] at hown2 hgr2; have HO := Lib.hid hown2; have HG := Lib.hid hgr2; clear hown2 hgr2 hat2))
  go_ret
  obtain rfl : l.length = n := HL.out
  exact ⟨A', cap', rfl, HO.out, ((Below.refl _ _).alloc (Nat.le_refl _) _).trans (below_of_grown HG.out (Nat.le_refl _) (by simp))⟩
end Go.Proofs.YtfaknfmndafllaaGreatDoor
namespace Go.Proofs.YtfaknfmndafllaaGreatDoor
open Go.RowKit
def withL (l : List Int) (d p : Int) : List Int := if 0 ≤ d ∧ d < l.length then l.set d.toNat p else l
theorem withL_len (l : List Int) (d p : Int) : (withL l d p).length = l.length := by unfold withL; split <;> simp
theorem intsPost_mk {w w' : World} {l : List Int} {A : Option Addr} {n c : Nat} (hl : l.length = n) (h : IntsO w' w.heap.size A n c l) (hb : Below w.heap.size w w') : IntsPost w l (.returned (.slice A n c)) w' := by subst hl; exact ⟨A, c, rfl, h, hb⟩
theorem with_any (A : Option Addr) (n c B : Nat) (l : List Int) (d p : Int) (w : World) (hs : Sl w B 1 A n c (intsV l)) (hB : B ≤ w.heap.size) (hn : n ≤ 1000000) : Calls Tryz.prog 157 #[.slice A n c, .int .i64 d, .int .i64 p] w (IntsPost w (withL l d p)) := by
 have HL := Lib.hid (hs.len (fun _ => rfl) (by decide))
 have HC := Lib.hid (clone_any A n c B l w hs hB hn)
 clear hs
 by_cases h0 : 0 ≤ d
 ·by_cases h1 : d < n
  ·obtain ⟨k, rfl⟩ := Int.eq_ofNat_of_zero_le h0
   have HW : Hid (withL l k p = l.set k p) := by unfold Hid withL; rw [if_pos ⟨h0, by rw [HL.out]; exact h1⟩]; rfl
   go_enter Tryz.func157, Tryz.ntmps157
   go_wp2_with fail
   refine HC.out.mono ?_
   rintro e w1 ⟨A1, c1, rfl, hO, hb⟩
   rw [HL.out] at hO ⊢
   obtain ⟨g, x, rfl, hg1, hg2, hx, hcell, hfz, hst⟩ := hO.out.at (i := k) (by omega)
   have HST := Lib.hid (hst p)
   clear hst hx
   have hnn : n ≤ 9223372036854775807 := by omega
   have hkn : k < n := by omega
   go_wp2_with fail
   go_ret
   exact intsPost_mk (by rw [HW.out, List.length_set, HL.out]) (by rw [HW.out]; exact HST.out) (hb.out.setCell hg1 _)
  ·have q1 : decide (d < (n : Int)) = false := by simpa using h1
   have HW : Hid (withL l d p = l) := by unfold Hid withL; rw [if_neg (by rw [HL.out]; omega)]
   go_enter Tryz.func157, Tryz.ntmps157
   go_wp2_with fail
   refine HC.out.mono ?_
   rintro e w1 ⟨A1, c1, rfl, hO, hb⟩
   rw [HL.out] at hO ⊢
   have hnn : n ≤ 9223372036854775807 := by omega
   go_wp2_with fail
   go_ret
   exact intsPost_mk (by rw [HW.out, HL.out]) (by rw [HW.out]; exact hO.out) hb.out
 ·have q0 : decide (0 ≤ d) = false := by simpa using h0
  have HW : Hid (withL l d p = l) := by unfold Hid withL; rw [if_neg (by omega)]
  go_enter Tryz.func157, Tryz.ntmps157
  go_wp2_with fail
  refine HC.out.mono ?_
  rintro e w1 ⟨A1, c1, rfl, hO, hb⟩
  rw [HL.out] at hO ⊢
  go_wp2_with fail
  go_ret
  exact intsPost_mk (by rw [HW.out, HL.out]) (by rw [HW.out]; exact hO.out) hb.out
end Go.Proofs.YtfaknfmndafllaaGreatDoor
namespace Go.Proofs.YtfaknfmndafllaaGreatDoor
open Go.RowKit
def relaxR (u v : Nat → Value) : List (Nat × Nat) → Nat → List Value → List Value
 | [], _, fr => fr
 | _ :: _, _, [] => []
 | (0, 0) :: rs, i, x :: fr => x :: relaxR u v rs (i + 1) fr
 | (n + 1, 0) :: rs, i, x :: fr => x :: relaxR u v ((n, 0) :: rs) (i + 1) fr
 | (0, 1) :: rs, i, _ :: fr => u i :: relaxR u v rs (i + 1) fr
 | (n + 1, 1) :: rs, i, _ :: fr => u i :: relaxR u v ((n, 1) :: rs) (i + 1) fr
 | (_, j + 2) :: rs, i, _ :: fr => v j :: relaxR u v rs (i + 1) fr
def gt : List Value → Nat → Value
 | [], _ => undef
 | x :: _, 0 => x
 | _ :: xs, n + 1 => gt xs n
section
variable {P : Program} {Q : Exit → Act → World → Prop} {w : World} {c : Code} {fr fr' : List Value} {k n₀ : Nat}
def v1 (p : Value) : Nat → Value := fun _ => p
def LpI1 (rel : Nat → Value → World → Prop) (rs : List (Nat × Nat)) (fr : List Value) (k : Nat) (a : Act) (w : World) : Prop := ∃ u p, rel k p w ∧ a = ⟨(relaxR u (v1 p) rs 0 fr).toArray, []⟩
theorem wp_loop_u1 (rs : List (Nat × Nat)) (s1 : Nat) (n₀ : Nat) (rel : Nat → Value → World → Prop) (h₀ : rel n₀ (gt fr s1) w) (hv : relaxR (gt fr) (v1 (gt fr s1)) rs 0 fr = fr)
 (round : ∀ u p n w a, rel n p w → a = ⟨(relaxR u (v1 p) rs 0 fr).toArray, []⟩ → ∀ (J : Nat → Act → World → Prop) (K : Act → World → Prop), (∀ k a' w', LpI1 rel rs fr k a' w' → J k a' w') → (∀ a' w', Handed J n a' w' → K a' w') → c.wp P (Exit.then K Q) a w) : (Code.loop c).wp P Q ⟨fr.toArray, []⟩ w :=
 wp_loop_ghost_k (LpI1 rel rs fr) n₀ ⟨_, _, h₀, by rw [hv]⟩ fun n a w ⟨u, p, h, ha⟩ J K hJ hK => round u p n w a h ha J K hJ hK
theorem LpI1.back {rel : Nat → Value → World → Prop} {rs : List (Nat × Nat)} (s1 : Nat) (h : rel k (gt fr' s1) w) (hv : relaxR (gt fr') (v1 (gt fr' s1)) rs 0 fr = fr') : LpI1 rel rs fr k ⟨fr'.toArray, []⟩ w := ⟨_, _, h, by rw [hv]⟩
def v2 (p q : Value) : Nat → Value
 | 0 => p
 | _ => q
def LpI2 (rel : Nat → Value → Value → World → Prop) (rs : List (Nat × Nat)) (fr : List Value) (k : Nat) (a : Act) (w : World) : Prop := ∃ u p q, rel k p q w ∧ a = ⟨(relaxR u (v2 p q) rs 0 fr).toArray, []⟩
theorem wp_loop_u2 (rs : List (Nat × Nat)) (s1 s2 : Nat) (n₀ : Nat) (rel : Nat → Value → Value → World → Prop) (h₀ : rel n₀ (gt fr s1) (gt fr s2) w) (hv : relaxR (gt fr) (v2 (gt fr s1) (gt fr s2)) rs 0 fr = fr)
 (round : ∀ u p q n w a, rel n p q w → a = ⟨(relaxR u (v2 p q) rs 0 fr).toArray, []⟩ → ∀ (J : Nat → Act → World → Prop) (K : Act → World → Prop), (∀ k a' w', LpI2 rel rs fr k a' w' → J k a' w') → (∀ a' w', Handed J n a' w' → K a' w') → c.wp P (Exit.then K Q) a w) : (Code.loop c).wp P Q ⟨fr.toArray, []⟩ w :=
 wp_loop_ghost_k (LpI2 rel rs fr) n₀ ⟨_, _, _, h₀, by rw [hv]⟩ fun n a w ⟨u, p, q, h, ha⟩ J K hJ hK => round u p q n w a h ha J K hJ hK
theorem LpI2.back {rel : Nat → Value → Value → World → Prop} {rs : List (Nat × Nat)} (s1 s2 : Nat) (h : rel k (gt fr' s1) (gt fr' s2) w) (hv : relaxR (gt fr') (v2 (gt fr' s1) (gt fr' s2)) rs 0 fr = fr') : LpI2 rel rs fr k ⟨fr'.toArray, []⟩ w := ⟨_, _, _, h, by rw [hv]⟩
def v3 (p q r : Value) : Nat → Value
 | 0 => p
 | 1 => q
 | _ => r
def LpI3 (rel : Nat → Value → Value → Value → World → Prop) (rs : List (Nat × Nat)) (fr : List Value) (k : Nat) (a : Act) (w : World) : Prop := ∃ u p q r, rel k p q r w ∧ a = ⟨(relaxR u (v3 p q r) rs 0 fr).toArray, []⟩
theorem wp_loop_u3 (rs : List (Nat × Nat)) (s1 s2 s3 : Nat) (n₀ : Nat) (rel : Nat → Value → Value → Value → World → Prop) (h₀ : rel n₀ (gt fr s1) (gt fr s2) (gt fr s3) w) (hv : relaxR (gt fr) (v3 (gt fr s1) (gt fr s2) (gt fr s3)) rs 0 fr = fr)
 (round : ∀ u p q r n w a, rel n p q r w → a = ⟨(relaxR u (v3 p q r) rs 0 fr).toArray, []⟩ → ∀ (J : Nat → Act → World → Prop) (K : Act → World → Prop), (∀ k a' w', LpI3 rel rs fr k a' w' → J k a' w') → (∀ a' w', Handed J n a' w' → K a' w') → c.wp P (Exit.then K Q) a w) : (Code.loop c).wp P Q ⟨fr.toArray, []⟩ w :=
 wp_loop_ghost_k (LpI3 rel rs fr) n₀ ⟨_, _, _, _, h₀, by rw [hv]⟩ fun n a w ⟨u, p, q, r, h, ha⟩ J K hJ hK => round u p q r n w a h ha J K hJ hK
theorem LpI3.back {rel : Nat → Value → Value → Value → World → Prop} {rs : List (Nat × Nat)} (s1 s2 s3 : Nat) (h : rel k (gt fr' s1) (gt fr' s2) (gt fr' s3) w) (hv : relaxR (gt fr') (v3 (gt fr' s1) (gt fr' s2) (gt fr' s3)) rs 0 fr = fr') : LpI3 rel rs fr k ⟨fr'.toArray, []⟩ w := ⟨_, _, _, _, h, by rw [hv]⟩
def v4 (p q r t : Value) : Nat → Value
 | 0 => p
 | 1 => q
 | 2 => r
 | _ => t
def LpI4 (rel : Nat → Value → Value → Value → Value → World → Prop) (rs : List (Nat × Nat)) (fr : List Value) (k : Nat) (a : Act) (w : World) : Prop := ∃ u p q r t, rel k p q r t w ∧ a = ⟨(relaxR u (v4 p q r t) rs 0 fr).toArray, []⟩
theorem LpI4.back {rel : Nat → Value → Value → Value → Value → World → Prop} {rs : List (Nat × Nat)} (s1 s2 s3 s4 : Nat) (h : rel k (gt fr' s1) (gt fr' s2) (gt fr' s3) (gt fr' s4) w) (hv : relaxR (gt fr') (v4 (gt fr' s1) (gt fr' s2) (gt fr' s3) (gt fr' s4)) rs 0 fr = fr') : LpI4 rel rs fr k ⟨fr'.toArray, []⟩ w := ⟨_, _, _, _, _, h, by rw [hv]⟩
def CtI1 (R : Value → World → Prop) (rs : List (Nat × Nat)) (fr : List Value) (a : Act) (w : World) : Prop := ∃ u p, R p w ∧ a = ⟨(relaxR u (v1 p) rs 0 fr).toArray, []⟩
theorem CtI1.back {R : Value → World → Prop} {rs : List (Nat × Nat)} (s1 : Nat) (h : R (gt fr' s1) w) (hv : relaxR (gt fr') (v1 (gt fr' s1)) rs 0 fr = fr') : CtI1 R rs fr ⟨fr'.toArray, []⟩ w := ⟨_, _, h, by rw [hv]⟩
def CtI2 (R : Value → Value → World → Prop) (rs : List (Nat × Nat)) (fr : List Value) (a : Act) (w : World) : Prop := ∃ u p q, R p q w ∧ a = ⟨(relaxR u (v2 p q) rs 0 fr).toArray, []⟩
theorem CtI2.back {R : Value → Value → World → Prop} {rs : List (Nat × Nat)} (s1 s2 : Nat) (h : R (gt fr' s1) (gt fr' s2) w) (hv : relaxR (gt fr') (v2 (gt fr' s1) (gt fr' s2)) rs 0 fr = fr') : CtI2 R rs fr ⟨fr'.toArray, []⟩ w := ⟨_, _, _, h, by rw [hv]⟩
def CtI3 (R : Value → Value → Value → World → Prop) (rs : List (Nat × Nat)) (fr : List Value) (a : Act) (w : World) : Prop := ∃ u p q r, R p q r w ∧ a = ⟨(relaxR u (v3 p q r) rs 0 fr).toArray, []⟩
theorem CtI3.back {R : Value → Value → Value → World → Prop} {rs : List (Nat × Nat)} (s1 s2 s3 : Nat) (h : R (gt fr' s1) (gt fr' s2) (gt fr' s3) w) (hv : relaxR (gt fr') (v3 (gt fr' s1) (gt fr' s2) (gt fr' s3)) rs 0 fr = fr') : CtI3 R rs fr ⟨fr'.toArray, []⟩ w := ⟨_, _, _, _, h, by rw [hv]⟩
def CtI4 (R : Value → Value → Value → Value → World → Prop) (rs : List (Nat × Nat)) (fr : List Value) (a : Act) (w : World) : Prop := ∃ u p q r t, R p q r t w ∧ a = ⟨(relaxR u (v4 p q r t) rs 0 fr).toArray, []⟩
theorem CtI4.back {R : Value → Value → Value → Value → World → Prop} {rs : List (Nat × Nat)} (s1 s2 s3 s4 : Nat) (h : R (gt fr' s1) (gt fr' s2) (gt fr' s3) (gt fr' s4) w) (hv : relaxR (gt fr') (v4 (gt fr' s1) (gt fr' s2) (gt fr' s3) (gt fr' s4)) rs 0 fr = fr') : CtI4 R rs fr ⟨fr'.toArray, []⟩ w := ⟨_, _, _, _, _, h, by rw [hv]⟩
end
end Go.Proofs.YtfaknfmndafllaaGreatDoor
namespace Go.Proofs.YtfaknfmndafllaaGreatDoor
open Go.RowKit
def mvL (m : Nat) (M : Nat → Nat) : List Int := lstF m fun i => (M i : Int)
def PosL (s : List Int) : Prop := ∀ x ∈ s, 1 ≤ x ∧ x ≤ 2
theorem PosL.get {s : List Int} (h : PosL s) {d : Nat} {x : Int} (hx : s[d]? = some x) : 1 ≤ x ∧ x ≤ 2 := h x (List.mem_of_getElem? hx)
theorem PosL.tog {s : List Int} (h : PosL s) (d : Nat) : PosL (tog s d) := by
 intro x hx
 obtain ⟨i, hi, e⟩ := List.getElem_of_mem hx
 have h1 : (Go.Proofs.YtfaknfmndafllaaGreatDoor.tog s d)[i]? = some x := by rw [List.getElem?_eq_getElem hi, e]
 rw [tog_at] at h1
 obtain ⟨y, h2, h3⟩ := Option.map_eq_some_iff.1 h1
 have := h.get h2
 split at h3 <;> omega
theorem PosL.sbN {s : List Int} (h : PosL s) (M : Nat → Nat) (b : Nat) : ∀ j, PosL (sbN s M b j)
 | 0 => h
 | j + 1 => by
  unfold Go.Proofs.YtfaknfmndafllaaGreatDoor.sbN
  split
  ·exact (PosL.sbN h M b j).tog _
  ·exact PosL.sbN h M b j
def StbR (w : World) (_nt : Array Value) (A1 Am : Option Addr) (n c1 m cm : Nat) (s : List Int) (M : Nat → Nat) (b : Nat) (gk : Nat) (iv : Value) (wr : World) : Prop :=
 ∃ k : Nat, iv = .int .i64 k ∧ k ≤ m ∧ gk = m - k ∧ Hid (IntsO wr w.heap.size A1 n c1 (sbN s M b k)) ∧ Hid (Sl wr w.heap.size 1 Am m cm (intsV (mvL m M))) ∧ Hid (Below w.heap.size w wr)
theorem ptstate_any (As Am : Option Addr) (n cs m cm : Nat) (s : List Int) (M : Nat → Nat) (F : Value) (b : Nat) (w : World) (hs : Sl w w.heap.size 1 As n cs (intsV s)) (hm : Sl w w.heap.size 1 Am m cm (intsV (mvL m M))) (hn : n ≤ 64) (hm10 : m ≤ 10) (hM : ∀ i, i < m → M i < n) (hb : b < 1024) (hp : PosL s) :
 Calls Tryz.prog 121 #[.agg #[.slice As n cs, .slice Am m cm, F], .int .i64 b] w (IntsPost w (sbN s M b m)) := by
 have HL := Lib.hid (hs.len (fun _ => rfl) (by decide))
 have HP := Lib.hid hp
 have HBL : Hid (Below w.heap.size w (w.alloc (.cells #[.slice As n cs, .slice Am m cm, F] 90))) := (Below.refl _ _).alloc (Nat.le_refl _) _
 have HB := Lib.hid (Blk.new w 90 #[.slice As n cs, .slice Am m cm, F])
 have HC := Lib.hid (clone_any As n cs w.heap.size s (w.alloc (.cells #[.slice As n cs, .slice Am m cm, F] 90)) (hs.alloc (Nat.le_refl _) _) (by simp) (by omega))
 have HM := Lib.hid hm
 have HMM := Lib.hid hM
 clear hs hm hM hp
 go_enter Tryz.func121, Tryz.ntmps121
 go_upto_region 1 with (fail)
 generalize World.alloc w _ = W at *
 have k0 := HB.out.c0
 have k1 := HB.out.c1
 go_wp2_with fail
 refine HC.out.mono ?_
 rintro e w1 ⟨A1, c1, rfl, hO, hb1⟩
 rw [HL.out] at hO ⊢
 have HO := Lib.hid hO.out
 have HBW := Lib.hid (HB.out.below hb1.out HB.out.lt)
 have HL1 := Lib.hid (HBL.out.trans (hb1.out.mono HBL.out.size))
 have HSZ := Lib.hid HBL.out.size
 clear hO hb1 HC k0 k1
 have k1 := HBW.out.c1
 go_wp2_with fail
 clear k1 HBW HB HBL
 refine wp_loop_u1 [(5, 0), (1, 1), (5, 0), (0, 2), (17, 1), (0, 0)] 14 (m) (StbR w #[] A1 Am n c1 m cm s M b) (by (try dsimp only [gt]); exact ⟨0, rfl, Nat.zero_le _, rfl, World.ownsRow.mono HO.out HSZ.out, HM.out.below HL1.out (Nat.le_refl _), HL1⟩) (by kernel_rfl) ?_
 intro u1 p14 gk wr a hrel ha J1 K1 hJ1 hK1
 dsimp only [relaxR, Go.Proofs.YtfaknfmndafllaaGreatDoor.v1, Nat.reduceAdd] at ha
 subst ha
 clear HO HM HL1 HSZ
 obtain ⟨k, rfl, hk, rfl, hO, hM2, hL⟩ := hrel
 have HO := Lib.hid hO.out; have HM := Lib.hid hM2.out; have HL1 := Lib.hid hL.out
 clear hO hM2 hL
 by_cases hlt : k < m; rotate_left
 ·have q1 : decide (k < m) = false := by simpa using hlt
  obtain rfl : k = m := by omega
  go_wp2_with fail
  go_ret
  exact intsPost_mk (by rw [sbN_len, HL.out]) HO.out HL1.out
 have q1 : decide (k < m) = true := by simpa using hlt
 obtain ⟨b2, o2, x2, rfl, hb2, hx2, hc2⟩ := HM.out.at1 hlt
 obtain rfl : x2 = (M k : Int) := by unfold mvL at hx2; rw [lstF_at hlt] at hx2; injection hx2 with hx2; exact hx2.symm
 have hMk := HMM.out k hlt
 obtain ⟨g, x, rfl, hg1, hg2, hx, hcell, hfz, hst⟩ := HO.out.at (i := M k) hMk
 have hxr := (HP.out.sbN M b k).get hx
 have HST := Lib.hid (hst (3 - x))
 have HX := Lib.hid hx
 have hw3 : IntKind.i64.wrap (3 - x) = 3 - x := IntWalk.i64_in _ (by omega)
 have hkk : IntKind.i64.wrap ((k : Int) + 1) = (k : Int) + 1 := IntWalk.i64_in _ (by omega)
 have hbt := bit64 k hb
 clear hst hx hx2
 by_cases ht : b.testBit k = true
 ·rw [if_pos ht] at hbt
  have HT : Hid (sbN s M b (k + 1) = (sbN s M b k).set (M k) (3 - x)) := by
   unfold Hid
   rw [sbN, if_pos ht, tog, List.getD_eq_getElem?_getD, HX.out]; rfl
  go_wp2_with fail
  refine Handed.intro (m - (k + 1)) (by omega) (hJ1 _ _ _ (LpI1.back 14 ?_ (by kernel_rfl)))
  dsimp only [gt]
  exact ⟨k + 1, by go_num, hlt, rfl, by rw [HT.out]; exact HST.out, HM.out.setCell (p := ⟨g, M k, none⟩) hg1 _, HL1.out.setCell hg1 _⟩
 ·have ht' : b.testBit k = false := by simpa using ht
  rw [if_neg ht] at hbt
  have HT : Hid (sbN s M b (k + 1) = sbN s M b k) := by
   unfold Hid
   rw [sbN, if_neg ht]
  go_wp2_with fail
  refine Handed.intro (m - (k + 1)) (by omega) (hJ1 _ _ _ (LpI1.back 14 ?_ (by kernel_rfl)))
  dsimp only [gt]
  exact ⟨k + 1, by go_num, hlt, rfl, by rw [HT.out]; exact HO.out, HM.out, HL1.out⟩
end Go.Proofs.YtfaknfmndafllaaGreatDoor
namespace Go.Proofs.YtfaknfmndafllaaGreatDoor
section
variable {P : Program} {ops : Array Oper} {Q : Exit → Act → World → Prop} {md : Region.Mode} {S : World → Prop} {J : List Nat}
def ancB (md : Region.Mode) (ops : Array Oper) (i : Nat) : Nat → Nat → Bool
 | 0, _ => false
 | f + 1, j => match ops[j]? with
  | some oj => oj.after.any fun e => Region.binds md e && (e.on == i || ancB md ops i f e.on)
  | none => false
def ClosedL (md : Region.Mode) (ops : Array Oper) (listed : Array Bool) : Prop :=
 ∀ j oj, ops[j]? = some oj → listed.getD j false = true → ∀ e ∈ oj.after, Region.binds md e = true → listed.getD e.on false = true
theorem anc_listed {listed : Array Bool} (hc : ClosedL md ops listed) {i : Nat} (hi : listed.getD i false = false) : ∀ (f k : Nat), listed.getD k false = true → ancB md ops i f k = true → False
 | 0, _, _, h => by simp [ancB] at h
 | f + 1, k, hk, h => by
  unfold ancB at h
  split at h
  ·next ok hok =>
   obtain ⟨e, he, hb⟩ := Array.any_eq_true'.1 h
   simp only [Bool.and_eq_true, Bool.or_eq_true, beq_iff_eq] at hb
   have hl := hc k ok hok hk e he hb.1
   rcases hb.2 with h2 | h2
   ·rw [h2, hi] at hl; cases hl
   ·exact anc_listed hc hi f e.on hl h2
  ·cases h
theorem anc_ready {listed : Array Bool} (hc : ClosedL md ops listed) {i j f : Nat} (hi : listed.getD i false = false) (hj : j ∈ Region.ready md ops listed) : ancB md ops i f j = true → False := by
 intro h
 obtain ⟨_, oj, hoj, hall⟩ := mem_ready.1 hj
 cases f with
 | zero => simp [ancB] at h
 | succ f =>
  unfold ancB at h
  rw [hoj] at h
  obtain ⟨e, he, hb⟩ := Array.any_eq_true'.1 h
  simp only [Bool.and_eq_true, Bool.or_eq_true, beq_iff_eq] at hb
  have hl := hall e he hb.1
  rcases hb.2 with h2 | h2
  ·rw [h2, hi] at hl; cases hl
  ·exact anc_listed hc hi f e.on hl h2
theorem closed_set {listed : Array Bool} (hc : ClosedL md ops listed) {i : Nat} (hi : i ∈ Region.ready md ops listed) : ClosedL md ops (listed.setIfInBounds i true) := by
 obtain ⟨_, oi, hoi, hall⟩ := mem_ready.1 hi
 intro j oj hj hl e he hb
 by_cases hij : i = j
 ·subst hij
  have : oj = oi := Option.some.inj (hj.symm.trans hoi)
  subst this
  exact getD_set_true (hall e he hb)
 ·rw [getD_set_ne false hij] at hl
  exact getD_set_true (hc j oj hj hl e he hb)
def wpAnyJ (P : Program) (md : Region.Mode) (ops : Array Oper) (Q : Exit → Act → World → Prop) (S : World → Prop) (J : List Nat) : Nat → Array Bool → Act → World → Prop
 | 0, listed, a, w => Region.ready md ops listed = [] ∧ Q .normal a w
 | fuel + 1, listed, a, w =>
  (Region.ready md ops listed = [] → Q .normal a w) ∧
  ∀ i ∈ Region.ready md ops listed, wpOp P ops Q i (fun a' w' => (J.contains i = false → S w') ∧ wpAnyJ P md ops Q S J fuel (listed.setIfInBounds i true) a' w') a w
theorem wpAny_of_J : ∀ (fuel : Nat) (listed : Array Bool) (a : Act) (w : World), wpAnyJ P md ops Q S J fuel listed a w → wpAny P md ops Q fuel listed a w
 | 0, _, _, _, h => h
 | fuel + 1, _, _, _, h => ⟨h.1, fun i hi => wpOp_mono (fun a' w' h' => wpAny_of_J fuel _ a' w' h'.2) (h.2 i hi)⟩
theorem wpAnyJ_first {i f : Nat} {oi : Oper} {v : Value} (hi : ops[i]? = some oi) (hsel : ∀ (j : Nat) (o : Oper) cs b, ops[j]? = some o → o.op ≠ .select cs b)
 (hQ : ∀ c a w, Q (.panic c) (a.put oi.dst v) w → Q (.panic c) a w) (hJ : ∀ j ∈ J, ancB md ops i f j = true) :
 ∀ (fuel : Nat) (listed : Array Bool) (a : Act) (w : World), ClosedL md ops listed →
  (∀ j oj, ops[j]? = some oj → j ≠ i → listed.getD j true = false → (∀ e ∈ oj.after, Region.binds md e = true → e.on ≠ i) → oi.apart ops oj = true) →
  i ∈ Region.ready md ops listed → YieldsIf P ops S oi v a → S w →
  wpAnyJ P md ops Q S J fuel (listed.setIfInBounds i true) (a.put oi.dst v) w → wpAnyJ P md ops Q S J (fuel + 1) listed a w := by
 intro fuel
 induction fuel with
 | zero =>
  intro listed a w _ _ hr hy hS H
  refine ⟨fun h => (by rw [h] at hr; cases hr), fun j hj => ?_⟩
  by_cases hji : j = i
  ·subst hji; exact hy.wpOp hi hS ⟨fun _ => hS, H⟩
  ·have := ready_mono hj hji
   rw [H.1] at this
   cases this
 | succ fuel ih =>
  intro listed a w hc hfree hr hy hS H
  have hun : listed.getD i false = false := getD_both (mem_ready.1 hr).1
  refine ⟨fun h => (by rw [h] at hr; cases hr), fun j hj => ?_⟩
  by_cases hji : j = i
  ·subst hji; exact hy.wpOp hi hS ⟨fun _ => hS, H⟩
  ·have h1 := H.2 j (ready_mono hj hji)
   have hjJ : J.contains j = false := by
    rcases hb : J.contains j with _ | _
    ·rfl
    ·exact (anc_ready hc hun hj (hJ j (by simpa using hb))).elim
   obtain ⟨hjun, oj, hoj, hall⟩ := mem_ready.1 hj
   have hnot : ∀ e ∈ oj.after, Region.binds md e = true → e.on ≠ i := fun e he hb heq => by
    have h1 := hall e he hb
    rw [heq, hun] at h1
    cases h1
   have h2 := wpOp_putIf hoj (hfree j oj hoj hji hjun hnot) (fun cs b => hsel i oi cs b hi) (fun cs b => hsel j oj cs b hoj) hQ hy h1
   have hfree' : ∀ k ok, ops[k]? = some ok → k ≠ i → (listed.setIfInBounds j true).getD k true = false →
    (∀ e ∈ ok.after, Region.binds md e = true → e.on ≠ i) → oi.apart ops ok = true := fun k ok hk hki hun hno => by
    refine hfree k ok hk hki ?_ hno
    by_cases hjk : j = k
    ·subst hjk; exact hjun
    ·rw [getD_set_ne true hjk] at hun; exact hun
   refine wpOp_mono (fun a' w' h3 => ⟨fun _ => h3.2.1 hjJ, ih (listed.setIfInBounds j true) a' w' (closed_set hc hj) hfree' (ready_mono hr (Ne.symm hji)) h3.1 (h3.2.1 hjJ) ?_⟩) h2
   rw [Array.setIfInBounds_comm _ _ hji]
   exact h3.2.2
def closedB (md : Region.Mode) (ops : Array Oper) (listed : Array Bool) : Bool :=
 (List.range ops.size).all fun j => !listed.getD j false || ((ops[j]?).map fun oj => oj.after.all fun e => !Region.binds md e || listed.getD e.on false).getD true
theorem closed_of_B {listed : Array Bool} (h : closedB md ops listed = true) : ClosedL md ops listed := by
 intro j oj hj hl e he hb
 have hjs : j < ops.size := (Array.getElem?_eq_some_iff.1 hj).1
 have := List.all_eq_true.1 h j (List.mem_range.2 hjs)
 rw [hl, hj] at this
 simp only [Bool.not_true, Bool.false_or, Option.map_some, Option.getD_some] at this
 have := Array.all_eq_true'.1 this e he
 rw [hb] at this
 simpa using this
theorem wpAnyJ_take {i : Nat} {oi : Oper} {d : Option Tmp} {v : Value} {fuel : Nat} {listed : Array Bool} {a : Act} {w : World} (hi : ops[i]? = some oi) (hd : oi.dst = d)
 (hs : Region.noSelect ops = true) (hf : Region.free md ops listed i = true) (hr : (Region.ready md ops listed).contains i = true) (hc : closedB md ops listed = true) (hJ : J.all (ancB md ops i ops.size) = true)
 (hQ : ∀ c a w, Q (.panic c) (a.put oi.dst v) w → Q (.panic c) a w) (hy : YieldsIf P ops S oi v a) (hS : S w)
 (h : wpAnyJ P md ops Q S J fuel (listed.setIfInBounds i true) (a.put d v) w) : wpAnyJ P md ops Q S J (fuel + 1) listed a w := by
 subst hd
 exact wpAnyJ_first (f := ops.size) hi (Region.noSelect_spec hs) hQ (List.all_eq_true.1 hJ) fuel listed a w (closed_of_B hc) (Region.free_spec hi hf) (by simpa using hr) hy hS h
theorem wpAnyJ_one {k : Nat} {o : Oper} {fuel : Nat} {listed : Array Bool} {a : Act} {w : World} (hr : Region.ready md ops listed = [k]) (ho : ops[k]? = some o)
 (h : ∀ K' : Act → World → Prop, Shut (∀ a w, (J.contains k = false → S w) → ((J.contains k = false → S w) → wpAnyJ P md ops Q S J fuel (listed.setIfInBounds k true) a w) → K' a w) → if Region.wanted o (yielded ops a.tmps) = true then Oper.wp P o a w K' Q else K' (a.put o.dst undef) w) :
 wpAnyJ P md ops Q S J (fuel + 1) listed a w := by
 refine ⟨fun h0 => (by rw [hr] at h0; cases h0), fun i hi => ?_⟩
 rw [hr] at hi
 obtain rfl := List.mem_singleton.1 hi
 exact wpOp_step ho (fun K' hK => h K' (fun a w hS hW => hK a w ⟨hS, hW hS⟩))
theorem wpAnyJ_done {listed : Array Bool} {a : Act} {w : World} (hr : Region.ready md ops listed = []) (h : Q .normal a w) : ∀ fuel, wpAnyJ P md ops Q S J fuel listed a w
 | 0 => ⟨hr, h⟩
 | _ + 1 => ⟨fun _ => h, by rw [hr]; simp⟩
theorem wp_region_J {id : Nat} {a : Act} {w : World} (hm : P.follows .mixedOrders = true) (hS : S w.drew)
 (h : S w.drew → wpAnyJ P .any ops Q S J ops.size (Array.replicate ops.size false) a w.drew) : (Code.region id ops true).wp P Q a w :=
 wp_region_any hm (wpAny_of_J _ _ _ _ (h hS))
end
theorem step_app_d {P : Program} {w : World} {t e : TypeId} {size bytes : Nat} {o : Oper} {a : Act} {d : Option Tmp} {ops : Array Oper} {K : Act → World → Prop} {Q : Exit → Act → World → Prop} {F : Prop} (hd : o.dst = d) (hgd : o.guard = none) (s x : Operand) (ho : o.op = .call { callee := .builtin .append, args := #[s, x], argTypes := #[t, t] })
 (E : ElemI P t e size bytes) {base : Nat} {v : Value} {n : Nat} {xs : List Value} (hs : a.eval s = v) (hown : w.ownsRow base e size v n xs) {Bx : Nat} {Ax : Option Addr} {m c : Nat} {news : List Value} (hx : a.eval x = .slice Ax m c) (hsrc : Sl w Bx size Ax m c news)
 (h1 : ∀ u ∈ news, u.oneCell' = true) (hby : (n + m) * bytes ≤ 140737488355328) (h63 : n + m ≤ 9223372036854775807) (hbase : base ≤ w.heap.size)
 (h : ∀ A' cap w', w'.ownsRow base e size (.slice A' (n + m) cap) (n + m) (xs ++ news) → w.grownBy w' v.ownBlock → ((Value.slice A' (n + m) cap).ownBlock = v.ownBlock ∨ (Value.slice A' (n + m) cap).ownBlock = some w.heap.size) → K (a.put d (.slice A' (n + m) cap)) w') :
 if Region.wanted o (yielded ops a.tmps) = true then Oper.wp P o a w K Q else F := by
 subst hd
 exact step_app hgd s x ho E hs hown hx hsrc h1 hby h63 hbase h
end Go.Proofs.YtfaknfmndafllaaGreatDoor
