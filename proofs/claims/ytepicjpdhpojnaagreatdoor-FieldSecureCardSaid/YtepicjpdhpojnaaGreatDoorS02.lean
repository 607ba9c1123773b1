import Derived.Test.YtepicjpdhpojnaaGreatDoorProg
import Derived.Test.YtepicjpdhpojnaaGreatDoorS00
import Derived.Test.YtepicjpdhpojnaaGreatDoorS01
import Derived.Outline
import Derived.Maps.OwnOps
import Derived.Maps.Views
import Derived.Maps.Keyed
set_option maxRecDepth 100000
set_option maxHeartbeats 4000000
namespace Go.Proofs.YtepicjpdhpojnaaGreatDoor
open Go.RowKit
def fitC (b : Int) (first : Bool) : Bool := if 65 ≤ b ∧ b ≤ 90 then true else if 97 ≤ b ∧ b ≤ 122 then true else if 48 ≤ b ∧ b ≤ 57 then !first else if b = 95 then !first else false
theorem fits_any (b : Int) (first : Bool) (w : World) (hl : Laid w) (hb0 : 0 ≤ b) (hb1 : b < 256) : Calls Tryz.prog 127 #[.int .u8 b, .bool first] w fun e w' => e = .returned (.bool (fitC b first)) ∧ Below w.heap.size w w' := by
 have c0 := hl.1 0 _ rfl
 have c1 := hl.1 1 _ rfl
 have c2 := hl.1 2 _ rfl
 have c3 := hl.1 3 _ rfl
 have c4 := hl.1 4 _ rfl
 have c5 := hl.1 5 _ rfl
 have c6 := hl.1 6 _ rfl
 have c7 := hl.1 7 _ rfl
 have c8 := hl.1 8 _ rfl
 have c9 := hl.1 9 _ rfl
 have c10 := hl.1 10 _ rfl
 have c11 := hl.1 11 _ rfl
 clear hl
 go_enter Tryz.func127, Tryz.ntmps127
 go_wp2_with fail
 clear c0 c1 c2 c3 c4 c5 c6 c7 c8 c9 c10 c11
 have i0 : ∀ w, (Instr.index 145 (.agg classesV.toArray) (.int .i64 0)).run Tryz.prog w = .ok (.agg #[.int .u8 65, .int .u8 90, .bool true]) w := fun _ => by kernel_rfl
 have i1 : ∀ w, (Instr.index 145 (.agg classesV.toArray) (.int .i64 1)).run Tryz.prog w = .ok (.agg #[.int .u8 97, .int .u8 122, .bool true]) w := fun _ => by kernel_rfl
 have i2 : ∀ w, (Instr.index 145 (.agg classesV.toArray) (.int .i64 2)).run Tryz.prog w = .ok (.agg #[.int .u8 48, .int .u8 57, .bool false]) w := fun _ => by kernel_rfl
 have i3 : ∀ w, (Instr.index 145 (.agg classesV.toArray) (.int .i64 3)).run Tryz.prog w = .ok (.agg #[.int .u8 95, .int .u8 95, .bool false]) w := fun _ => by kernel_rfl
 simp only [classesV] at i0 i1 i2 i3
 have HF : Hid (fitC b first = if 65 ≤ b ∧ b ≤ 90 then true else if 97 ≤ b ∧ b ≤ 122 then true else if 48 ≤ b ∧ b ≤ 57 then !first else if b = 95 then !first else false) := rfl
 go_loopw [8] (fun i wr => ∃ (i' : Nat), i = .int .i64 i' ∧ i' ≤ 4 ∧ Hid (Below w.heap.size w wr) ∧ Hid ((0 < i' → ¬ (65 ≤ b ∧ b ≤ 90)) ∧ (1 < i' → ¬ (97 ≤ b ∧ b ≤ 122)) ∧ (2 < i' → ¬ (48 ≤ b ∧ b ≤ 57)) ∧ (3 < i' → ¬ b = 95))) (fun i _ => 4 - (intOf i).toNat)
 case atStart => exact ⟨0, rfl, Nat.zero_le _, Below.refl _ _, by unfold Hid; refine ⟨?_, ?_, ?_, ?_⟩ <;> intro h <;> omega⟩
 case round =>
  obtain ⟨i, rfl, hi, hbl, hno⟩ := hrel
  have hsz := hbl.out.size
  rcases (show i = 0 ∨ i = 1 ∨ i = 2 ∨ i = 3 ∨ i = 4 by omega) with rfl | rfl | rfl | rfl | rfl
  ·by_cases h1 : 65 ≤ b
   ·by_cases h2 : b ≤ 90
    ·go_wp2_with fail
     go_ret
     exact ⟨ret_bool (by rw [HF.out, if_pos ⟨h1, h2⟩]), hbl.out.alloc hsz _⟩
    ·have h2' : decide (b ≤ 90) = false := by simpa using h2
     go_wp2_with fail
     go_roundw
     case rel => exact ⟨1, rfl, by decide, hbl.out.alloc hsz _, by have hn := hno.out; unfold Hid; refine ⟨?_, ?_, ?_, ?_⟩ <;> intro h <;> omega⟩
     case measure => decide
   ·have h1' : decide (65 ≤ b) = false := by simpa using h1
    go_wp2_with fail
    go_roundw
    case rel => exact ⟨1, rfl, by decide, hbl.out.alloc hsz _, by have hn := hno.out; unfold Hid; refine ⟨?_, ?_, ?_, ?_⟩ <;> intro h <;> omega⟩
    case measure => decide
  ·by_cases h1 : 97 ≤ b
   ·by_cases h2 : b ≤ 122
    ·go_wp2_with fail
     go_ret
     exact ⟨ret_bool (by rw [HF.out, if_neg (hno.out.1 (by decide)), if_pos ⟨h1, h2⟩]), hbl.out.alloc hsz _⟩
    ·have h2' : decide (b ≤ 122) = false := by simpa using h2
     go_wp2_with fail
     go_roundw
     case rel => exact ⟨2, rfl, by decide, hbl.out.alloc hsz _, by have hn := hno.out; unfold Hid; refine ⟨?_, ?_, ?_, ?_⟩ <;> intro h <;> omega⟩
     case measure => decide
   ·have h1' : decide (97 ≤ b) = false := by simpa using h1
    go_wp2_with fail
    go_roundw
    case rel => exact ⟨2, rfl, by decide, hbl.out.alloc hsz _, by have hn := hno.out; unfold Hid; refine ⟨?_, ?_, ?_, ?_⟩ <;> intro h <;> omega⟩
    case measure => decide
  ·by_cases h1 : 48 ≤ b
   ·by_cases h2 : b ≤ 57
    ·go_wp2_with fail
     go_ret
     exact ⟨ret_bool (by rw [HF.out, if_neg (hno.out.1 (by decide)), if_neg (hno.out.2.1 (by decide)), if_pos ⟨h1, h2⟩]), hbl.out.alloc hsz _⟩
    ·have h2' : decide (b ≤ 57) = false := by simpa using h2
     go_wp2_with fail
     go_roundw
     case rel => exact ⟨3, rfl, by decide, hbl.out.alloc hsz _, by have hn := hno.out; unfold Hid; refine ⟨?_, ?_, ?_, ?_⟩ <;> intro h <;> omega⟩
     case measure => decide
   ·have h1' : decide (48 ≤ b) = false := by simpa using h1
    go_wp2_with fail
    go_roundw
    case rel => exact ⟨3, rfl, by decide, hbl.out.alloc hsz _, by have hn := hno.out; unfold Hid; refine ⟨?_, ?_, ?_, ?_⟩ <;> intro h <;> omega⟩
    case measure => decide
  ·by_cases h1 : 95 ≤ b
   ·by_cases h2 : b ≤ 95
    ·go_wp2_with fail
     go_ret
     exact ⟨ret_bool (by rw [HF.out, if_neg (hno.out.1 (by decide)), if_neg (hno.out.2.1 (by decide)), if_neg (hno.out.2.2.1 (by decide)), if_pos (by omega)]), hbl.out.alloc hsz _⟩
    ·have h2' : decide (b ≤ 95) = false := by simpa using h2
     go_wp2_with fail
     go_roundw
     case rel => exact ⟨4, rfl, by decide, hbl.out.alloc hsz _, by have hn := hno.out; unfold Hid; refine ⟨?_, ?_, ?_, ?_⟩ <;> intro h <;> omega⟩
     case measure => decide
   ·have h1' : decide (95 ≤ b) = false := by simpa using h1
    go_wp2_with fail
    go_roundw
    case rel => exact ⟨4, rfl, by decide, hbl.out.alloc hsz _, by have hn := hno.out; unfold Hid; refine ⟨?_, ?_, ?_, ?_⟩ <;> intro h <;> omega⟩
    case measure => decide
  ·go_wp2_with fail
   go_ret
   exact ⟨ret_bool (by rw [HF.out, if_neg (hno.out.1 (by decide)), if_neg (hno.out.2.1 (by decide)), if_neg (hno.out.2.2.1 (by decide)), if_neg (hno.out.2.2.2 (by decide))]), hbl.out⟩
def nameB (s : List UInt8) : Bool := decide (∀ i, i < s.length → fitC (s.getD i 0).toNat (i == 0) = true) && decide (1 ≤ s.length) && decide (s.length ≤ 12)
theorem name_any (s : ByteArray) (w : World) (hl : Laid w) (hs : s.size ≤ 9223372036854775807) : Calls Tryz.prog 109 #[.string s] w fun e w' => e = .returned (.bool (nameB (toL s))) ∧ Below w.heap.size w w' := by
 have HL := Lib.hid hl; clear hl
 have HN : Hid (nameB (toL s) = (decide (∀ i, i < s.size → fitC ((toL s).getD i 0).toNat (i == 0) = true) && decide (1 ≤ s.size) && decide (s.size ≤ 12))) := by unfold Hid; rw [nameB, toL_len]
 go_enter Tryz.func109, Tryz.ntmps109
 go_wp2_with fail
 go_loopw [6] (fun i wr => ∃ (i' : Nat), i = .int .i64 i' ∧ i' ≤ s.size ∧ Hid (Below w.heap.size w wr) ∧ Hid (∀ j, j < i' → fitC ((toL s).getD j 0).toNat (j == 0) = true)) (fun i _ => s.size - (intOf i).toNat)
 case atStart => exact ⟨0, rfl, Nat.zero_le _, Below.refl _ _, fun j hj => absurd hj (by omega)⟩
 case round =>
  obtain ⟨i, rfl, hi, hbl, hok⟩ := hrel
  have hsz := hbl.out.size
  by_cases hlt : i < s.size
  ·have HF := Lib.hid (fun W h => fits_any ((s[i]).toNat : Int) (i == 0) W h (by omega) (by have := (s[i]).toNat_lt; omega))
   have hg : (toL s).getD i 0 = s[i] := by rw [List.getD_eq_getElem?_getD, List.getElem?_eq_getElem (by rw [toL_len]; exact hlt)]; rfl
   have HG := Lib.hid hg; clear hg
   have hi0 : ((i : Int) == 0) = (i == 0) := by rw [Bool.eq_iff_iff]; simp
   go_wp2_with fail
   refine (HF.out _ (HL.out.below hbl.out (Nat.le_refl _))).mono ?_
   rintro e w1 ⟨rfl, hb1⟩
   have HB1 := Lib.hid (hbl.out.trans (hb1.mono hsz))
   clear hb1 hi0
   rcases hf : fitC ((s[i]).toNat : Int) (i == 0) with _ | _
   ·go_wp2_with fail
    go_ret
    refine ⟨ret_bool ?_, HB1.out⟩
    rw [HN.out, decide_eq_false (fun h => by have := h i hlt; rw [HG.out, hf] at this; cases this)]
    rfl
   ·have HFF := Lib.hid hf; clear hf
    go_wp2_with fail
    go_roundw
    case rel =>
     refine ⟨i + 1, by go_num, by omega, HB1, fun j hj => ?_⟩
     rcases Nat.lt_succ_iff_lt_or_eq.1 hj with h | h
     ·exact hok.out j h
     ·rw [h, HG.out]; exact HFF.out
    case measure => simp [intOf]; omega
  ·obtain rfl : i = s.size := by omega
   have q0 : decide (s.size < s.size) = false := by simp
   have HT : Hid (decide (∀ i, i < s.size → fitC ((toL s).getD i 0).toNat (i == 0) = true) = true) := by unfold Hid; exact decide_eq_true hok.out
   by_cases h1 : 1 ≤ s.size
   ·have q1 : decide ((1 : Int) ≤ (s.size : Int)) = true := by simp; omega
    go_wp2_with fail
    go_ret
    exact ⟨ret_bool (by rw [HN.out, HT.out, decide_eq_true h1]; simp; omega), hbl.out⟩
   ·have q1 : decide ((1 : Int) ≤ (s.size : Int)) = false := by simp; omega
    go_wp2_with fail
    go_ret
    exact ⟨ret_bool (by rw [HN.out, HT.out, decide_eq_false h1]; rfl), hbl.out⟩
def posB (p : Int) : Bool := decide (p = 1) || decide (p = 2)
end Go.Proofs.YtepicjpdhpojnaaGreatDoor
namespace Go.Proofs.YtepicjpdhpojnaaGreatDoor
open Go.RowKit
open Go.Maps (Keyed)
theorem law_str : Keyed Tryz.prog 9 := Go.Maps.string_keyed Tryz.underlying9
theorem plainElem_bool_inv {H : Type} {P : Program} {e : TypeId} (he : P.underlying e = some .bool) {v : Value} {z : DataW H × List MemPlace} (h : plainElem P e v = some z) : ∃ x, v = .bool x ∧ z = (.lit (.bool x), []) := by
 unfold plainElem at h
 rw [he] at h
 cases v <;> simp at h
 exact ⟨_, rfl, h.symm⟩
def UsedAt (w : World) (b : Nat) (names : List (List UInt8)) : Prop :=
 ∃ (D : DataW Unit), w.ownsMap Tryz.prog 9 (plainElem Tryz.prog 4) b names.length D ∧ Go.Maps.IsMap D ∧ ∀ k, D.atKey (.string k) (.lit (.bool false)) = .lit (.bool (decide (k ∈ names)))
theorem key_str (s : ByteArray) (hs : s.size ≤ 9223372036854775807) : keyOf Tryz.prog 9 (.string s) = some (.string (toL s)) := by
 have hu : Tryz.prog.underlying 9 = some .string := Tryz.underlying9
 simp [keyOf, mapKey, hu, maxLen, hs, toL]
theorem used_made (w : World) : UsedAt (w.alloc (.map #[] 0)) w.heap.size [] := ⟨.map [], World.ownsMap_made _ _ _ _, ⟨[], rfl⟩, fun k => by simp [DataW.atKey]⟩
theorem UsedAt.lt {w : World} {b : Nat} {names : List (List UInt8)} (h : UsedAt w b names) : b < w.heap.size := by
 obtain ⟨D, h1, _⟩ := h
 exact h1.lt
theorem UsedAt.kept {w w' : World} {b : Nat} {names : List (List UInt8)} {row : Option Nat} (h : UsedAt w b names) (hg : w.grownBy w' row) (hne : some b ≠ row) : UsedAt w' b names := by
 obtain ⟨D, h1, h2, h3⟩ := h
 exact ⟨D, h1.kept hg hne, h2, h3⟩
theorem UsedAt.below {w w' : World} {b : Nat} {names : List (List UInt8)} (h : UsedAt w b names) (hb : Below w.heap.size w w') : UsedAt w' b names := h.kept (grown_of_below hb none) (by simp)
theorem UsedAt.alloc {w : World} {b : Nat} {names : List (List UInt8)} (h : UsedAt w b names) (o : Obj) : UsedAt (w.alloc o) b names := h.below ((Below.refl _ _).alloc (Nat.le_refl _) _)
theorem UsedAt.look {w : World} {b : Nat} {names : List (List UInt8)} (h : UsedAt w b names) (s : ByteArray) (hs : s.size ≤ 9223372036854775807) :
 (Instr.lookup 125 (.map (some b)) (.string s) false).run Tryz.prog w = .ok (.bool (decide (toL s ∈ names))) w := by
 obtain ⟨D, h1, h2, h3⟩ := h
 obtain ⟨v, ps, hr, hv⟩ := h1.lookup law_str Tryz.underlying125 (z := .bool false) (by kernel_rfl) (plainElem_bool Tryz.underlying4 false) (key_str s hs)
 obtain ⟨x, rfl, hx⟩ := plainElem_bool_inv Tryz.underlying4 hv
 rw [h3] at hx
 simp only [Prod.mk.injEq, DataW.lit.injEq, Lit.bool.injEq] at hx
 rw [hr, hx.1]
theorem UsedAt.put {w : World} {b : Nat} {names : List (List UInt8)} (h : UsedAt w b names) (hn : names.length ≤ 1000000) (s : ByteArray) (hs : s.size ≤ 9223372036854775807) :
 ∃ w', (Instr.mapUpdate 125 (.map (some b)) (.string s) (.bool true)).run Tryz.prog w = .ok () w' ∧ UsedAt w' b (toL s :: names) ∧ w.grownBy w' (some b) := by
 obtain ⟨D, h1, h2, h3⟩ := h
 obtain ⟨w', hr, ho, hg⟩ := h1.update law_str Tryz.underlying125 (by unfold maxLen; omega) (key_str s hs) (plainElem_bool Tryz.underlying4 true)
 refine ⟨w', hr, ⟨_, ho, ?_, fun k => ?_⟩, hg⟩
 ·obtain ⟨es, rfl⟩ := h2
  exact ⟨_, rfl⟩
 ·by_cases e : k = toL s
  ·rw [e, Go.Maps.atKey_put_same h2 (by simp [WideAt.IsKeyLit])]; simp
  ·rw [Go.Maps.atKey_put_other (fun e' => e (by injection e')), h3]; simp [e]
end Go.Proofs.YtepicjpdhpojnaaGreatDoor
namespace Go.Proofs.YtepicjpdhpojnaaGreatDoor
open Go.RowKit
structure Nd where
 name : ByteArray
 cust : Int
 comp : Int
structure Dv where
 name : ByteArray
 kind : Int
 a : Int
 b : Int
 comp : Int
def Nd.cells (x : Nd) : List Value := [.string x.name, .int .i64 x.cust, .int .i64 x.comp]
def Dv.cells (x : Dv) : List Value := [.string x.name, .int .i64 x.kind, .int .i64 x.a, .int .i64 x.b, .int .i64 x.comp]
def compB (n : Int) : Bool := decide (0 ≤ n) && decide (n ≤ 7)
def joinsB (k : Int) : Bool := decide (1 ≤ k) && decide (k ≤ 3)
def endsB (kind a b k : Int) : Bool := if a < 0 then false else if k ≤ a then false else if joinsB kind = false then decide (b = -1) else decide (0 ≤ b) && decide (b < k) && !decide (b = a)
theorem company_any (n : Int) (w : World) : Calls Tryz.prog 110 #[.int .i64 n] w fun e w' => e = .returned (.bool (compB n)) ∧ w = w' := by
 by_cases h0 : 0 ≤ n
 ·go_enter Tryz.func110, Tryz.ntmps110
  go_wp2
  go_ret
  exact ⟨by simp [compB, h0], rfl⟩
 ·have h0' : decide (0 ≤ n) = false := by simpa using h0
  go_enter Tryz.func110, Tryz.ntmps110
  go_wp2
  go_ret
  exact ⟨by simp [compB, h0'], rfl⟩
theorem joins_any (n : Int) (w : World) : Calls Tryz.prog 128 #[.int .i64 n] w fun e w' => e = .returned (.bool (joinsB n)) ∧ w = w' := by
 by_cases h0 : 1 ≤ n
 ·go_enter Tryz.func128, Tryz.ntmps128
  go_wp2
  go_ret
  exact ⟨by simp [joinsB, h0], rfl⟩
 ·have h0' : decide (1 ≤ n) = false := by simpa using h0
  go_enter Tryz.func128, Tryz.ntmps128
  go_wp2
  go_ret
  exact ⟨by simp [joinsB, h0'], rfl⟩
theorem ends_any (nm : ByteArray) (kind a b comp k : Int) (w : World) : Calls Tryz.prog 111 #[.agg #[.string nm, .int .i64 kind, .int .i64 a, .int .i64 b, .int .i64 comp], .int .i64 k] w fun e w' => e = .returned (.bool (endsB kind a b k)) ∧ Below w.heap.size w w' := by
 have hE : endsB kind a b k = if a < 0 then false else if k ≤ a then false else if joinsB kind = false then decide (b = -1) else decide (0 ≤ b) && decide (b < k) && !decide (b = a) := rfl
 have HE := Lib.hid hE; clear hE
 by_cases h1 : a < 0
 ·go_enter Tryz.func111, Tryz.ntmps111
  go_wp2_with fail
  go_ret
  exact ⟨ret_bool (by rw [HE.out, if_pos h1]), (Below.refl _ _).alloc (Nat.le_refl _) _⟩
 have h1' : decide (a < 0) = false := by simpa using h1
 by_cases h2 : k ≤ a
 ·go_enter Tryz.func111, Tryz.ntmps111
  go_wp2_with fail
  go_ret
  exact ⟨ret_bool (by rw [HE.out, if_neg (by omega), if_pos h2]), (Below.refl _ _).alloc (Nat.le_refl _) _⟩
 have h2' : decide (k ≤ a) = false := by simpa using h2
 rcases hj : joinsB kind with _ | _
 ·have HJ := Lib.hid hj
  have HJ2 := Lib.hid (joins_any kind)
  rw [hj] at HJ2
  clear hj
  go_enter Tryz.func111, Tryz.ntmps111
  go_wp2_with fail
  refine (HJ2.out _).mono ?_
  rintro e w1 ⟨rfl, rfl⟩
  go_wp2_with fail
  go_ret
  exact ⟨ret_bool (by rw [HE.out, if_neg (by omega), if_neg (by omega), if_pos HJ.out]; rfl), (Below.refl _ _).alloc (Nat.le_refl _) _⟩
 ·have HJ := Lib.hid hj
  have HJ2 := Lib.hid (joins_any kind)
  rw [hj] at HJ2
  clear hj
  by_cases h3 : 0 ≤ b
  ·by_cases h4 : b < k
   ·go_enter Tryz.func111, Tryz.ntmps111
    go_wp2_with fail
    refine (HJ2.out _).mono ?_
    rintro e w1 ⟨rfl, rfl⟩
    go_wp2_with fail
    go_ret
    exact ⟨ret_bool (by rw [HE.out, if_neg (by omega), if_neg (by omega), if_neg (by rw [HJ.out]; simp), decide_eq_true h3, decide_eq_true h4, Bool.eq_iff_iff]; simp), (Below.refl _ _).alloc (Nat.le_refl _) _⟩
   ·have h4' : decide (b < k) = false := by simpa using h4
    go_enter Tryz.func111, Tryz.ntmps111
    go_wp2_with fail
    refine (HJ2.out _).mono ?_
    rintro e w1 ⟨rfl, rfl⟩
    go_wp2_with fail
    go_ret
    exact ⟨ret_bool (by rw [HE.out, if_neg (by omega), if_neg (by omega), if_neg (by rw [HJ.out]; simp), h4']; simp), (Below.refl _ _).alloc (Nat.le_refl _) _⟩
  ·have h3' : decide (0 ≤ b) = false := by simpa using h3
   go_enter Tryz.func111, Tryz.ntmps111
   go_wp2_with fail
   refine (HJ2.out _).mono ?_
   rintro e w1 ⟨rfl, rfl⟩
   go_wp2_with fail
   go_ret
   exact ⟨ret_bool (by rw [HE.out, if_neg (by omega), if_neg (by omega), if_neg (by rw [HJ.out]; simp), h3']; simp), (Below.refl _ _).alloc (Nat.le_refl _) _⟩
def ndErr (used : List (List UInt8)) (x : Nd) : Int := if nameB (toL x.name) = false then 3 else if toL x.name ∈ used then 4 else if x.cust < 0 ∨ 1048576 < x.cust then 5 else if compB x.comp = false then 5 else 0
def dvErr (k : Int) (used : List (List UInt8)) (x : Dv) : Int := if nameB (toL x.name) = false then 3 else if toL x.name ∈ used then 4 else if x.kind < 1 ∨ 6 < x.kind then 6 else if endsB x.kind x.a x.b k = false then 7 else if compB x.comp = false then 5 else 0
def chkN : List (List UInt8) → List Nd → Int
 | _, [] => 0
 | used, x :: r => if ndErr used x = 0 then chkN (toL x.name :: used) r else ndErr used x
def usedN : List (List UInt8) → List Nd → List (List UInt8)
 | used, [] => used
 | used, x :: r => usedN (toL x.name :: used) r
def chkD (k : Int) : List (List UInt8) → List Dv → Int
 | _, [] => 0
 | used, x :: r => if dvErr k used x = 0 then chkD k (toL x.name :: used) r else dvErr k used x
def checkN (ns : List Nd) (ds : List Dv) : Int := if 32 < ns.length then 1 else if 64 < ds.length then 1 else if chkN [] ns = 0 then chkD ns.length (usedN [] ns) ds else chkN [] ns
theorem chkN_step {used : List (List UInt8)} {ns : List Nd} {i : Nat} {x : Nd} (hx : ns[i]? = some x) (h0 : ndErr used x = 0) : chkN used (ns.drop i) = chkN (toL x.name :: used) (ns.drop (i + 1)) ∧ usedN used (ns.drop i) = usedN (toL x.name :: used) (ns.drop (i + 1)) := by
 obtain ⟨hi, rfl⟩ := List.getElem?_eq_some_iff.1 hx
 rw [List.drop_eq_getElem_cons hi, chkN, if_pos h0, usedN]
 exact ⟨rfl, rfl⟩
theorem chkN_stop {used : List (List UInt8)} {ns : List Nd} {i : Nat} {x : Nd} (hx : ns[i]? = some x) (h0 : ndErr used x ≠ 0) : chkN used (ns.drop i) = ndErr used x := by
 obtain ⟨hi, rfl⟩ := List.getElem?_eq_some_iff.1 hx
 rw [List.drop_eq_getElem_cons hi, chkN, if_neg h0]
theorem chkD_step {k : Int} {used : List (List UInt8)} {ds : List Dv} {i : Nat} {x : Dv} (hx : ds[i]? = some x) (h0 : dvErr k used x = 0) : chkD k used (ds.drop i) = chkD k (toL x.name :: used) (ds.drop (i + 1)) := by
 obtain ⟨hi, rfl⟩ := List.getElem?_eq_some_iff.1 hx
 rw [List.drop_eq_getElem_cons hi, chkD, if_pos h0]
theorem chkD_stop {k : Int} {used : List (List UInt8)} {ds : List Dv} {i : Nat} {x : Dv} (hx : ds[i]? = some x) (h0 : dvErr k used x ≠ 0) : chkD k used (ds.drop i) = dvErr k used x := by
 obtain ⟨hi, rfl⟩ := List.getElem?_eq_some_iff.1 hx
 rw [List.drop_eq_getElem_cons hi, chkD, if_neg h0]
end Go.Proofs.YtepicjpdhpojnaaGreatDoor
namespace Go.Proofs.YtepicjpdhpojnaaGreatDoor
open Go.RowKit
def NcRel (W : World) (mb nn : Nat) (ns : List Nd) (iv : Value) (wr : World) : Prop :=
 ∃ (i : Nat) (U : List (List UInt8)), iv = .int .i64 i ∧ i ≤ nn ∧ U.length ≤ i ∧ Hid (UsedAt wr mb U) ∧ Hid (chkN [] ns = chkN U (ns.drop i) ∧ usedN [] ns = usedN U (ns.drop i)) ∧ Hid (Below W.heap.size W wr)
def NdRel (W : World) (mb nn nd : Nat) (ns : List Nd) (ds : List Dv) (iv : Value) (wr : World) : Prop :=
 ∃ (i : Nat) (U : List (List UInt8)), iv = .int .i64 i ∧ i ≤ nd ∧ U.length ≤ i + nn ∧ Hid (UsedAt wr mb U) ∧ Hid (checkN ns ds = chkD nn U (ds.drop i)) ∧ Hid (Below W.heap.size W wr)
theorem ncheck_any (An Ad : Option Addr) (nn cn nd cd Bn Bd : Nat) (ns : List Nd) (ds : List Dv) (w : World) (hl : Laid w) (hn : Sl w Bn 3 An nn cn (ns.flatMap Nd.cells)) (hd : Sl w Bd 5 Ad nd cd (ds.flatMap Dv.cells)) (hBn : Bn ≤ w.heap.size) (hBd : Bd ≤ w.heap.size)
 (hsn : ∀ x ∈ ns, x.name.size ≤ 9223372036854775807) (hsd : ∀ x ∈ ds, x.name.size ≤ 9223372036854775807) :
 Calls Tryz.prog 82 #[.agg #[.slice An nn cn, .slice Ad nd cd]] w fun e w' => e = .returned (.int .i64 (checkN ns ds)) ∧ Below w.heap.size w w' := by
 have HLN := Lib.hid (hn.len (fun _ => rfl) (by decide)); have HLD := Lib.hid (hd.len (fun _ => rfl) (by decide))
 obtain ⟨hnc, hcm⟩ := hn.le
 obtain ⟨hdc, hdm⟩ := hd.le
 have HL := Lib.hid hl; have HN := Lib.hid hn; have HD := Lib.hid hd; have HSN := Lib.hid hsn; have HSD := Lib.hid hsd
 clear hl hn hd hsn hsd
 have HC : Hid (checkN ns ds = if 32 < nn then 1 else if 64 < nd then 1 else if chkN [] ns = 0 then chkD nn (usedN [] ns) ds else chkN [] ns) := by unfold Hid; rw [checkN, HLN.out, HLD.out]
 have hmm := @run_makeMap Tryz.prog
 by_cases h1 : 32 < nn
 ·have q1 : decide ((32 : Int) < (nn : Int)) = true := by simp; omega
  go_enter Tryz.func82, Tryz.ntmps82
  go_wp2_with fail
  go_ret
  exact ⟨ret_int (by rw [HC.out, if_pos h1]), (Below.refl _ _).alloc (Nat.le_refl _) _⟩
 have q1 : decide ((32 : Int) < (nn : Int)) = false := by simp; omega
 by_cases h2 : 64 < nd
 ·have q2 : decide ((64 : Int) < (nd : Int)) = true := by simp; omega
  go_enter Tryz.func82, Tryz.ntmps82
  go_wp2_with fail
  go_ret
  exact ⟨ret_int (by rw [HC.out, if_neg h1, if_pos h2]), (Below.refl _ _).alloc (Nat.le_refl _) _⟩
 have q2 : decide ((64 : Int) < (nd : Int)) = false := by simp; omega
 go_enter Tryz.func82, Tryz.ntmps82
 go_wp2_with fail
 clear q1 q2 hmm
 generalize hW : w.alloc (.cells #[.slice An nn cn, .slice Ad nd cd] 30) = W
 have HK : Hid (Blk W w.heap.size 30 #[.slice An nn cn, .slice Ad nd cd]) := hW ▸ Blk.new _ _ _
 have HB0 : Hid (Below w.heap.size w W) := hW ▸ (Below.refl _ _).alloc (Nat.le_refl _) _
 have hWs : w.heap.size < W.heap.size := HK.out.lt
 have hWe : w.heap.size + 1 = W.heap.size := by rw [← hW]; simp
 clear hW
 rw [hWe]
 have hU0 := used_made W
 obtain ⟨mb, hmb⟩ : ∃ mb, W.heap.size = mb := ⟨_, rfl⟩
 have HBW : Hid (Below W.heap.size W (W.alloc (.map #[] 0))) := (Below.refl _ _).alloc (Nat.le_refl _) _
 rw [hmb] at hU0 ⊢
 have HMB := Lib.hid hmb; clear hmb hWe
 go_loopw [22] (fun iv wr => NcRel W mb nn ns iv wr) (fun iv _ => nn - (intOf iv).toNat)
 case atStart => exact ⟨0, [], rfl, Nat.zero_le _, Nat.le_refl _, hU0, ⟨rfl, rfl⟩, HBW⟩
 case round =>
  clear hU0 HBW
  obtain ⟨i, U, rfl, hi, hUl, hU, hch, hbl⟩ := hrel
  have hsz := hbl.out.size
  have k0 : wr.cell? ⟨w.heap.size, 0, none⟩ = some (.slice An nn cn) := (HK.out.below hbl.out hWs).cell 0
  have k1 : wr.cell? ⟨w.heap.size, 1, none⟩ = some (.slice Ad nd cd) := (HK.out.below hbl.out hWs).cell 1
  by_cases hlt : i < nn; rotate_left
  ·obtain rfl : i = nn := by omega
   have hjj : decide (i < i) = false := by simp
   have hd0 : ns.drop i = [] := List.drop_eq_nil_of_le (by rw [HLN.out]; omega)
   have hch' := hch.out
   rw [hd0] at hch'
   simp only [chkN, usedN] at hch'
   have HCC : Hid (checkN ns ds = chkD i U (ds.drop 0)) := by
    unfold Hid
    rw [HC.out, if_neg h1, if_neg h2, if_pos hch'.1, hch'.2, List.drop_zero]
   clear hch' hch hd0
   go_wp2_with fail
   go_loopw [58] (fun iv wr => NdRel W mb i nd ns ds iv wr) (fun iv _ => nd - (intOf iv).toNat)
   case atStart => exact ⟨0, U, rfl, Nat.zero_le _, by omega, hU, HCC, hbl⟩
   case round =>
    clear hU HCC hbl k0 k1 hjj
    obtain ⟨j, U, rfl, hj, hUl, hU, hch, hbl⟩ := hrel
    have hsz := hbl.out.size
    have k0 : wr.cell? ⟨w.heap.size, 0, none⟩ = some (.slice An i cn) := (HK.out.below hbl.out hWs).cell 0
    by_cases hlj : j < nd; rotate_left
    ·obtain rfl : j = nd := by omega
     have hjj : decide (j < j) = false := by simp
     have hd0 : ds.drop j = [] := List.drop_eq_nil_of_le (by rw [HLD.out]; omega)
     have hch' := hch.out
     rw [hd0] at hch'
     simp only [chkD] at hch'
     have HCH := Lib.hid hch'
     clear hch' hch hd0
     go_wp2_with fail
     go_ret
     exact ⟨ret_int (by rw [HCH.out]), HB0.out.trans (hbl.out.mono (Nat.le_of_lt hWs))⟩
    obtain ⟨b, off, x, rfl, hb, hx, hc⟩ := ((HD.out.below HB0.out hBd).below hbl.out (Nat.le_trans hBd (Nat.le_of_lt hWs))).at (fun _ => rfl) (by decide) hlj
    have HXS := Lib.hid (HSD.out x (List.mem_of_getElem? hx))
    have HX := Lib.hid hx
    obtain ⟨nm, kd, xa, xb, co⟩ := x
    have c0 : wr.cell? ⟨b, off + j * 5, none⟩ = some (.string nm) := hc 0 _ rfl
    have c1 : wr.cell? ⟨b, off + j * 5 + 1, none⟩ = some (.int .i64 kd) := hc 1 _ rfl
    have c2 : wr.cell? ⟨b, off + j * 5 + 2, none⟩ = some (.int .i64 xa) := hc 2 _ rfl
    have c3 : wr.cell? ⟨b, off + j * 5 + 3, none⟩ = some (.int .i64 xb) := hc 3 _ rfl
    have c4 : wr.cell? ⟨b, off + j * 5 + 4, none⟩ = some (.int .i64 co) := hc 4 _ rfl
    clear hc hx
    have hnm := HXS.out
    simp only at hnm
    have hstop : ∀ e : Int, dvErr i U ⟨nm, kd, xa, xb, co⟩ = e → e ≠ 0 → checkN ns ds = e := fun e he hne => by
     rw [hch.out, chkD_stop HX.out (by rw [he]; exact hne), he]
    have HST := Lib.hid hstop; clear hstop
    have HEE : Hid (dvErr i U ⟨nm, kd, xa, xb, co⟩ = if nameB (toL nm) = false then 3 else if toL nm ∈ U then 4 else if kd < 1 ∨ 6 < kd then 6 else if endsB kd xa xb i = false then 7 else if compB co = false then 5 else 0) := rfl
    have HL1 := Lib.hid ((HL.out.below HB0.out (Nat.le_refl _)).below hbl.out (Nat.le_refl _))
    go_wp2_with fail
    clear c0 c1 c2 c3 c4
    generalize hWX : wr.alloc (.cells #[.string nm, .int .i64 kd, .int .i64 xa, .int .i64 xb, .int .i64 co] 38) = WX
    have hbX : Below wr.heap.size wr WX := hWX ▸ (Below.refl _ _).alloc (Nat.le_refl _) _
    have hkX : Blk WX wr.heap.size 38 #[.string nm, .int .i64 kd, .int .i64 xa, .int .i64 xb, .int .i64 co] := hWX ▸ Blk.new _ _ _
    clear hWX
    refine (name_any nm WX (HL1.out.below hbX (Nat.le_refl _)) hnm).mono ?_
    rintro e w1 ⟨rfl, hb1⟩
    have hb01 : Below wr.heap.size wr w1 := hbX.trans (hb1.mono hbX.size)
    have HK1 := Lib.hid (hkX.below hb1 hkX.lt)
    have HU1 := Lib.hid (hU.out.below hb01)
    have HB1 := Lib.hid (hbl.out.trans (hb01.mono hsz))
    have HBB := Lib.hid (HB0.out.trans (HB1.out.mono (Nat.le_of_lt hWs)))
    have x0 : w1.cell? ⟨wr.heap.size, 0, none⟩ = some (.string nm) := HK1.out.cell 0
    have x1 : w1.cell? ⟨wr.heap.size, 1, none⟩ = some (.int .i64 kd) := HK1.out.cell 1
    have x2 : w1.cell? ⟨wr.heap.size, 2, none⟩ = some (.int .i64 xa) := HK1.out.cell 2
    have x3 : w1.cell? ⟨wr.heap.size, 3, none⟩ = some (.int .i64 xb) := HK1.out.cell 3
    have x4 : w1.cell? ⟨wr.heap.size, 4, none⟩ = some (.int .i64 co) := HK1.out.cell 4
    have y0 : w1.cell? ⟨w.heap.size, 0, none⟩ = some (.slice An i cn) := (HK.out.below HB1.out hWs).cell 0
    clear hb1 hbX hkX hb01 k0
    rcases hnb : nameB (toL nm) with _ | _
    ·have HR := Lib.hid (HST.out 3 (by rw [HEE.out, if_pos hnb]) (by decide))
     clear hnb
     go_wp2_with fail
     go_ret
     exact ⟨ret_int (by rw [HR.out]), HBB.out⟩
    have HNB := Lib.hid hnb; clear hnb
    have hlk := HU1.out.look nm hnm
    by_cases hmem : toL nm ∈ U
    ·have HR := Lib.hid (HST.out 4 (by rw [HEE.out, if_neg (by rw [HNB.out]; simp), if_pos hmem]) (by decide))
     rw [decide_eq_true hmem] at hlk
     clear hmem
     go_wp2_with fail
     go_ret
     exact ⟨ret_int (by rw [HR.out]), HBB.out⟩
    rw [decide_eq_false hmem] at hlk
    have HMM := Lib.hid hmem; clear hmem
    have h6 : kd < 1 ∨ 6 < kd → checkN ns ds = 6 := fun h => HST.out 6 (by rw [HEE.out, if_neg (by rw [HNB.out]; simp), if_neg HMM.out, if_pos h]) (by decide)
    have H6 := Lib.hid h6; clear h6
    by_cases g1 : kd < 1
    ·have HR := Lib.hid (H6.out (.inl g1))
     go_wp2_with fail
     go_ret
     exact ⟨ret_int (by rw [HR.out]), HBB.out⟩
    have g1' : decide (kd < 1) = false := by simpa using g1
    by_cases g2 : 6 < kd
    ·have HR := Lib.hid (H6.out (.inr g2))
     go_wp2_with fail
     go_ret
     exact ⟨ret_int (by rw [HR.out]), HBB.out⟩
    have g2' : decide (6 < kd) = false := by simpa using g2
    have HEN := Lib.hid (ends_any nm kd xa xb co i)
    rcases hen : endsB kd xa xb i with _ | _
    ·have HR := Lib.hid (HST.out 7 (by rw [HEE.out, if_neg (by rw [HNB.out]; simp), if_neg HMM.out, if_neg (by omega), if_pos hen]) (by decide))
     rw [hen] at HEN
     clear hen
     go_wp2_with fail
     refine (HEN.out _).mono ?_
     rintro e w2 ⟨rfl, hb2⟩
     go_wp2_with fail
     go_ret
     exact ⟨ret_int (by rw [HR.out]), HBB.out.trans (hb2.mono HBB.out.size)⟩
    rw [hen] at HEN
    have HNE := Lib.hid hen; clear hen
    go_wp2_with fail
    clear x0 x1 x2 x3 x4 y0 hlk
    refine (HEN.out _).mono ?_
    rintro e w2 ⟨rfl, hb2⟩
    have HK2 := Lib.hid (HK1.out.below hb2 HK1.out.lt)
    have HU2 := Lib.hid (HU1.out.below hb2)
    have HB2 := Lib.hid (HB1.out.trans (hb2.mono HB1.out.size))
    have HBB2 := Lib.hid (HBB.out.trans (hb2.mono HBB.out.size))
    have x0 : w2.cell? ⟨wr.heap.size, 0, none⟩ = some (.string nm) := HK2.out.cell 0
    have x4 : w2.cell? ⟨wr.heap.size, 4, none⟩ = some (.int .i64 co) := HK2.out.cell 4
    clear hb2
    have HCO := Lib.hid (company_any co)
    rcases hco : compB co with _ | _
    ·have HR := Lib.hid (HST.out 5 (by rw [HEE.out, if_neg (by rw [HNB.out]; simp), if_neg HMM.out, if_neg (by omega), if_neg (by rw [HNE.out]; simp), if_pos hco]) (by decide))
     rw [hco] at HCO
     clear hco
     go_wp2_with fail
     refine (HCO.out _).mono ?_
     rintro e w3 ⟨rfl, rfl⟩
     go_wp2_with fail
     go_ret
     exact ⟨ret_int (by rw [HR.out]), HBB2.out⟩
    have HOK : Hid (dvErr i U ⟨nm, kd, xa, xb, co⟩ = 0) := by unfold Hid; rw [HEE.out, if_neg (by rw [HNB.out]; simp), if_neg HMM.out, if_neg (by omega), if_neg (by rw [HNE.out]; simp), if_neg (by rw [hco]; simp)]
    rw [hco] at HCO
    clear hco
    obtain ⟨w4, hput, hU4, hg4⟩ := HU2.out.put (by omega) nm hnm
    have HU4 := Lib.hid hU4; have HG4 := Lib.hid hg4
    clear hU4 hg4
    go_wp2_with fail
    refine (HCO.out _).mono ?_
    rintro e w3 ⟨rfl, rfl⟩
    go_wp2_with fail
    go_roundw
    case rel =>
     refine ⟨j + 1, toL nm :: U, by go_num, by omega, by simp; omega, HU4, hch.out.trans (chkD_step HX.out HOK.out), HB2.out.trans (below_of_grown HG4.out (by rw [HMB.out]; exact Nat.le_refl _) HB2.out.size)⟩
    case measure => simp [intOf]; omega
  obtain ⟨b, off, x, rfl, hb, hx, hc⟩ := ((HN.out.below HB0.out hBn).below hbl.out (Nat.le_trans hBn (Nat.le_of_lt hWs))).at (fun _ => rfl) (by decide) hlt
  have HXS := Lib.hid (HSN.out x (List.mem_of_getElem? hx))
  have HX := Lib.hid hx
  obtain ⟨nm, cu, co⟩ := x
  have c0 : wr.cell? ⟨b, off + i * 3, none⟩ = some (.string nm) := hc 0 _ rfl
  have c1 : wr.cell? ⟨b, off + i * 3 + 1, none⟩ = some (.int .i64 cu) := hc 1 _ rfl
  have c2 : wr.cell? ⟨b, off + i * 3 + 2, none⟩ = some (.int .i64 co) := hc 2 _ rfl
  clear hc hx
  have hnm := HXS.out
  simp only at hnm
  have hstop : ∀ e : Int, ndErr U ⟨nm, cu, co⟩ = e → e ≠ 0 → checkN ns ds = e := fun e he hne => by
   have hs := chkN_stop HX.out (by rw [he]; exact hne)
   have hcc := hch.out.1
   rw [hs, he] at hcc
   rw [HC.out, if_neg h1, if_neg h2, if_neg (by rw [hcc]; exact hne), hcc]
  have HST := Lib.hid hstop; clear hstop
  have HEE : Hid (ndErr U ⟨nm, cu, co⟩ = if nameB (toL nm) = false then 3 else if toL nm ∈ U then 4 else if cu < 0 ∨ 1048576 < cu then 5 else if compB co = false then 5 else 0) := rfl
  have HL1 := Lib.hid ((HL.out.below HB0.out (Nat.le_refl _)).below hbl.out (Nat.le_refl _))
  go_wp2_with fail
  clear c0 c1 c2
  generalize hWX : wr.alloc (.cells #[.string nm, .int .i64 cu, .int .i64 co] 74) = WX
  have hbX : Below wr.heap.size wr WX := hWX ▸ (Below.refl _ _).alloc (Nat.le_refl _) _
  have hkX : Blk WX wr.heap.size 74 #[.string nm, .int .i64 cu, .int .i64 co] := hWX ▸ Blk.new _ _ _
  clear hWX
  refine (name_any nm WX (HL1.out.below hbX (Nat.le_refl _)) hnm).mono ?_
  rintro e w1 ⟨rfl, hb1⟩
  have hb01 : Below wr.heap.size wr w1 := hbX.trans (hb1.mono hbX.size)
  have HK1 := Lib.hid (hkX.below hb1 hkX.lt)
  have HU1 := Lib.hid (hU.out.below hb01)
  have HB1 := Lib.hid (hbl.out.trans (hb01.mono hsz))
  have HBB := Lib.hid (HB0.out.trans (HB1.out.mono (Nat.le_of_lt hWs)))
  have x0 : w1.cell? ⟨wr.heap.size, 0, none⟩ = some (.string nm) := HK1.out.cell 0
  have x1 : w1.cell? ⟨wr.heap.size, 1, none⟩ = some (.int .i64 cu) := HK1.out.cell 1
  have x2 : w1.cell? ⟨wr.heap.size, 2, none⟩ = some (.int .i64 co) := HK1.out.cell 2
  clear hb1 hbX hkX hb01
  rcases hnb : nameB (toL nm) with _ | _
  ·have HR := Lib.hid (HST.out 3 (by rw [HEE.out, if_pos hnb]) (by decide))
   clear hnb
   go_wp2_with fail
   go_ret
   exact ⟨ret_int (by rw [HR.out]), HBB.out⟩
  have HNB := Lib.hid hnb; clear hnb
  have hlk := HU1.out.look nm hnm
  by_cases hmem : toL nm ∈ U
  ·have HR := Lib.hid (HST.out 4 (by rw [HEE.out, if_neg (by rw [HNB.out]; simp), if_pos hmem]) (by decide))
   rw [decide_eq_true hmem] at hlk
   clear hmem
   go_wp2_with fail
   go_ret
   exact ⟨ret_int (by rw [HR.out]), HBB.out⟩
  rw [decide_eq_false hmem] at hlk
  have HMM := Lib.hid hmem; clear hmem
  have h5 : cu < 0 ∨ 1048576 < cu ∨ compB co = false → checkN ns ds = 5 := fun h => HST.out 5 (by
   rw [HEE.out, if_neg (by rw [HNB.out]; simp), if_neg HMM.out]
   by_cases hh : cu < 0 ∨ 1048576 < cu
   ·rw [if_pos hh]
   ·rw [if_neg hh, if_pos (h.elim (fun h => absurd (.inl h) hh) (fun h => h.elim (fun h => absurd (.inr h) hh) id))]) (by decide)
  have H5 := Lib.hid h5; clear h5
  by_cases g1 : cu < 0
  ·have HR := Lib.hid (H5.out (.inl g1))
   go_wp2_with fail
   go_ret
   exact ⟨ret_int (by rw [HR.out]), HBB.out⟩
  have g1' : decide (cu < 0) = false := by simpa using g1
  by_cases g2 : 1048576 < cu
  ·have HR := Lib.hid (H5.out (.inr (.inl g2)))
   go_wp2_with fail
   go_ret
   exact ⟨ret_int (by rw [HR.out]), HBB.out⟩
  have g2' : decide (1048576 < cu) = false := by simpa using g2
  have HCO := Lib.hid (company_any co)
  rcases hco : compB co with _ | _
  ·have HR := Lib.hid (H5.out (.inr (.inr hco)))
   rw [hco] at HCO
   clear hco
   go_wp2_with fail
   refine (HCO.out _).mono ?_
   rintro e w2 ⟨rfl, rfl⟩
   go_wp2_with fail
   go_ret
   exact ⟨ret_int (by rw [HR.out]), HBB.out⟩
  have HOK : Hid (ndErr U ⟨nm, cu, co⟩ = 0) := by unfold Hid; rw [HEE.out, if_neg (by rw [HNB.out]; simp), if_neg HMM.out, if_neg (by omega), if_neg (by rw [hco]; simp)]
  rw [hco] at HCO
  clear hco
  obtain ⟨w2, hput, hU2, hg2⟩ := HU1.out.put (by omega) nm hnm
  have HU2 := Lib.hid hU2; have HG2 := Lib.hid hg2
  clear hU2 hg2
  go_wp2_with fail
  refine (HCO.out _).mono ?_
  rintro e w3 ⟨rfl, rfl⟩
  go_wp2_with fail
  go_roundw
  case rel =>
   have hst := chkN_step HX.out HOK.out
   refine ⟨i + 1, toL nm :: U, by go_num, by omega, by simp; omega, HU2, ⟨hch.out.1.trans hst.1, hch.out.2.trans hst.2⟩, HB1.out.trans (below_of_grown HG2.out (by rw [HMB.out]; exact Nat.le_refl _) HB1.out.size)⟩
  case measure => simp [intOf]; omega
end Go.Proofs.YtepicjpdhpojnaaGreatDoor
