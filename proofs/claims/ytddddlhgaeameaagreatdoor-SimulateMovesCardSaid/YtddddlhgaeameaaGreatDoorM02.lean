import Derived.Test.YtddddlhgaeameaaGreatDoorM01
import Derived.Maps.OwnOps
import Derived.Maps.Views
import Derived.Maps.Keyed
set_option maxHeartbeats 1000000
namespace Go.Proofs.YtddddlhgaeameaaGreatDoor
section
open Go.RowKit
def vM (b : Int) (first : Bool) : Bool := if 65 ≤ b ∧ b ≤ 90 then true else if 97 ≤ b ∧ b ≤ 122 then true else if 48 ≤ b ∧ b ≤ 57 then !first else if b = 95 then !first else false
theorem kI (b : Int) (first : Bool) (w : World) (hl : Laid w) (hb0 : 0 ≤ b) (hb1 : b < 256) : Calls Tryz.prog 105 #[.int .u8 b, .bool first] w fun e w' => e = .returned (.bool (vM b first)) ∧ Below w.heap.size w w' := by
 have c0 := hl.1 0 _ rfl
 have c1 := hl.1 1 _ rfl
 have c2 := hl.1 2 _ rfl
 have c3 := hl.1 3 _ rfl
 have c4 := hl.1 4 _ rfl
 have c5 := hl.1 5 _ rfl
 have c6 := hl.1 6 _ rfl
 have c7 := hl.1 7 _ rfl
 have c8 := hl.1 8 _ rfl
 have c9 := hl.1 9 _ rfl
 have c10 := hl.1 10 _ rfl
 have c11 := hl.1 11 _ rfl
 clear hl
 go_enter Tryz.func105, Tryz.ntmps105
 go_wp2_with fail
 clear c0 c1 c2 c3 c4 c5 c6 c7 c8 c9 c10 c11
 have i0 : ∀ w, (Instr.index 170 (.agg wJ.toArray) (.int .i64 0)).run Tryz.prog w = .ok (.agg #[.int .u8 65, .int .u8 90, .bool true]) w := fun _ => by kernel_rfl
 have i1 : ∀ w, (Instr.index 170 (.agg wJ.toArray) (.int .i64 1)).run Tryz.prog w = .ok (.agg #[.int .u8 97, .int .u8 122, .bool true]) w := fun _ => by kernel_rfl
 have i2 : ∀ w, (Instr.index 170 (.agg wJ.toArray) (.int .i64 2)).run Tryz.prog w = .ok (.agg #[.int .u8 48, .int .u8 57, .bool false]) w := fun _ => by kernel_rfl
 have i3 : ∀ w, (Instr.index 170 (.agg wJ.toArray) (.int .i64 3)).run Tryz.prog w = .ok (.agg #[.int .u8 95, .int .u8 95, .bool false]) w := fun _ => by kernel_rfl
 simp only [wJ] at i0 i1 i2 i3
 have HF : Hid (vM b first = if 65 ≤ b ∧ b ≤ 90 then true else if 97 ≤ b ∧ b ≤ 122 then true else if 48 ≤ b ∧ b ≤ 57 then !first else if b = 95 then !first else false) := rfl
 go_loopw [8] (fun i wr => ∃ (i' : Nat), i = .int .i64 i' ∧ i' ≤ 4 ∧ Hid (Below w.heap.size w wr) ∧ Hid ((0 < i' → ¬ (65 ≤ b ∧ b ≤ 90)) ∧ (1 < i' → ¬ (97 ≤ b ∧ b ≤ 122)) ∧ (2 < i' → ¬ (48 ≤ b ∧ b ≤ 57)) ∧ (3 < i' → ¬ b = 95))) (fun i _ => 4 - (intOf i).toNat)
 case atStart => exact ⟨0, rfl, Nat.zero_le _, Below.refl _ _, by unfold Hid; refine ⟨?_, ?_, ?_, ?_⟩ <;> intro h <;> omega⟩
 case round =>
  obtain ⟨i, rfl, hi, hbl, hno⟩ := hrel
  have hsz := hbl.out.size
  rcases (show i = 0 ∨ i = 1 ∨ i = 2 ∨ i = 3 ∨ i = 4 by omega) with rfl | rfl | rfl | rfl | rfl
  ·by_cases h1 : 65 ≤ b
   ·by_cases h2 : b ≤ 90
    ·go_wp2_with fail
     go_ret
     exact ⟨zI (by rw [HF.out, if_pos ⟨h1, h2⟩]), hbl.out.alloc hsz _⟩
    ·have h2' : decide (b ≤ 90) = false := by simpa using h2
     go_wp2_with fail
     go_roundw
     case rel => exact ⟨1, rfl, by decide, hbl.out.alloc hsz _, by have hn := hno.out; unfold Hid; refine ⟨?_, ?_, ?_, ?_⟩ <;> intro h <;> omega⟩
     case measure => decide
   ·have h1' : decide (65 ≤ b) = false := by simpa using h1
    go_wp2_with fail
    go_roundw
    case rel => exact ⟨1, rfl, by decide, hbl.out.alloc hsz _, by have hn := hno.out; unfold Hid; refine ⟨?_, ?_, ?_, ?_⟩ <;> intro h <;> omega⟩
    case measure => decide
  ·by_cases h1 : 97 ≤ b
   ·by_cases h2 : b ≤ 122
    ·go_wp2_with fail
     go_ret
     exact ⟨zI (by rw [HF.out, if_neg (hno.out.1 (by decide)), if_pos ⟨h1, h2⟩]), hbl.out.alloc hsz _⟩
    ·have h2' : decide (b ≤ 122) = false := by simpa using h2
     go_wp2_with fail
     go_roundw
     case rel => exact ⟨2, rfl, by decide, hbl.out.alloc hsz _, by have hn := hno.out; unfold Hid; refine ⟨?_, ?_, ?_, ?_⟩ <;> intro h <;> omega⟩
     case measure => decide
   ·have h1' : decide (97 ≤ b) = false := by simpa using h1
    go_wp2_with fail
    go_roundw
    case rel => exact ⟨2, rfl, by decide, hbl.out.alloc hsz _, by have hn := hno.out; unfold Hid; refine ⟨?_, ?_, ?_, ?_⟩ <;> intro h <;> omega⟩
    case measure => decide
  ·by_cases h1 : 48 ≤ b
   ·by_cases h2 : b ≤ 57
    ·go_wp2_with fail
     go_ret
     exact ⟨zI (by rw [HF.out, if_neg (hno.out.1 (by decide)), if_neg (hno.out.2.1 (by decide)), if_pos ⟨h1, h2⟩]), hbl.out.alloc hsz _⟩
    ·have h2' : decide (b ≤ 57) = false := by simpa using h2
     go_wp2_with fail
     go_roundw
     case rel => exact ⟨3, rfl, by decide, hbl.out.alloc hsz _, by have hn := hno.out; unfold Hid; refine ⟨?_, ?_, ?_, ?_⟩ <;> intro h <;> omega⟩
     case measure => decide
   ·have h1' : decide (48 ≤ b) = false := by simpa using h1
    go_wp2_with fail
    go_roundw
    case rel => exact ⟨3, rfl, by decide, hbl.out.alloc hsz _, by have hn := hno.out; unfold Hid; refine ⟨?_, ?_, ?_, ?_⟩ <;> intro h <;> omega⟩
    case measure => decide
  ·by_cases h1 : 95 ≤ b
   ·by_cases h2 : b ≤ 95
    ·go_wp2_with fail
     go_ret
     exact ⟨zI (by rw [HF.out, if_neg (hno.out.1 (by decide)), if_neg (hno.out.2.1 (by decide)), if_neg (hno.out.2.2.1 (by decide)), if_pos (by omega)]), hbl.out.alloc hsz _⟩
    ·have h2' : decide (b ≤ 95) = false := by simpa using h2
     go_wp2_with fail
     go_roundw
     case rel => exact ⟨4, rfl, by decide, hbl.out.alloc hsz _, by have hn := hno.out; unfold Hid; refine ⟨?_, ?_, ?_, ?_⟩ <;> intro h <;> omega⟩
     case measure => decide
   ·have h1' : decide (95 ≤ b) = false := by simpa using h1
    go_wp2_with fail
    go_roundw
    case rel => exact ⟨4, rfl, by decide, hbl.out.alloc hsz _, by have hn := hno.out; unfold Hid; refine ⟨?_, ?_, ?_, ?_⟩ <;> intro h <;> omega⟩
    case measure => decide
  ·go_wp2_with fail
   go_ret
   exact ⟨zI (by rw [HF.out, if_neg (hno.out.1 (by decide)), if_neg (hno.out.2.1 (by decide)), if_neg (hno.out.2.2.1 (by decide)), if_neg (hno.out.2.2.2 (by decide))]), hbl.out⟩
def yO (s : List UInt8) : Bool := decide (∀ i, i < s.length → vM (s.getD i 0).toNat (i == 0) = true) && decide (1 ≤ s.length) && decide (s.length ≤ 12)
theorem sj (s : ByteArray) (w : World) (hl : Laid w) (hs : s.size ≤ 9223372036854775807) : Calls Tryz.prog 84 #[.string s] w fun e w' => e = .returned (.bool (yO (toL s))) ∧ Below w.heap.size w w' := by
 have HL := iD hl; clear hl
 have HN : Hid (yO (toL s) = (decide (∀ i, i < s.size → vM ((toL s).getD i 0).toNat (i == 0) = true) && decide (1 ≤ s.size) && decide (s.size ≤ 12))) := by unfold Hid; rw [yO, sH]
 go_enter Tryz.func84, Tryz.ntmps84
 go_wp2_with fail
 go_loopw [6] (fun i wr => ∃ (i' : Nat), i = .int .i64 i' ∧ i' ≤ s.size ∧ Hid (Below w.heap.size w wr) ∧ Hid (∀ j, j < i' → vM ((toL s).getD j 0).toNat (j == 0) = true)) (fun i _ => s.size - (intOf i).toNat)
 case atStart => exact ⟨0, rfl, Nat.zero_le _, Below.refl _ _, fun j hj => absurd hj (by omega)⟩
 case round =>
  obtain ⟨i, rfl, hi, hbl, hok⟩ := hrel
  have hsz := hbl.out.size
  by_cases hlt : i < s.size
  ·have HF := iD (fun W h => kI ((s[i]).toNat : Int) (i == 0) W h (by omega) (by have := (s[i]).toNat_lt; omega))
   have hg : (toL s).getD i 0 = s[i] := by rw [List.getD_eq_getElem?_getD, List.getElem?_eq_getElem (by rw [sH]; exact hlt)]; rfl
   have HG := iD hg; clear hg
   have hi0 : ((i : Int) == 0) = (i == 0) := by rw [Bool.eq_iff_iff]; simp
   go_wp2_with fail
   refine (HF.out _ (HL.out.below hbl.out lR)).mono ?_
   rintro e w1 ⟨rfl, hb1⟩
   have HB1 := iD (hbl.out.trans (hb1.mono hsz))
   clear hb1 hi0
   rcases hf : vM ((s[i]).toNat : Int) (i == 0) with _ | _
   ·go_wp2_with fail
    go_ret
    refine ⟨zI ?_, HB1.out⟩
    rw [HN.out, decide_eq_false (fun h => by have := h i hlt; rw [HG.out, hf] at this; cases this)]
    rfl
   ·have HFF := iD hf; clear hf
    go_wp2_with fail
    go_roundw
    case rel =>
     refine ⟨i + 1, by go_num, by omega, HB1, fun j hj => ?_⟩
     rcases Nat.lt_succ_iff_lt_or_eq.1 hj with h | h
     ·exact hok.out j h
     ·rw [h, HG.out]; exact HFF.out
    case measure => simp [intOf]; omega
  ·obtain rfl : i = s.size := by omega
   have q0 : decide (s.size < s.size) = false := by simp
   have HT : Hid (decide (∀ i, i < s.size → vM ((toL s).getD i 0).toNat (i == 0) = true) = true) := by unfold Hid; exact decide_eq_true hok.out
   by_cases h1 : 1 ≤ s.size
   ·have q1 : decide ((1 : Int) ≤ (s.size : Int)) = true := by simp; omega
    go_wp2_with fail
    go_ret
    exact ⟨zI (by rw [HN.out, HT.out, decide_eq_true h1]; simp; omega), hbl.out⟩
   ·have q1 : decide ((1 : Int) ≤ (s.size : Int)) = false := by simp; omega
    go_wp2_with fail
    go_ret
    exact ⟨zI (by rw [HN.out, HT.out, decide_eq_false h1]; rfl), hbl.out⟩
def posB (p : Int) : Bool := decide (p = 1) || decide (p = 2)
end
section
open Go.RowKit
open Go.Maps (Keyed)
theorem nu : Keyed Tryz.prog 9 := Go.Maps.string_keyed Tryz.underlying9
theorem uW {H : Type} {P : Program} {e : TypeId} (he : P.underlying e = some .bool) {v : Value} {z : DataW H × List MemPlace} (h : plainElem P e v = some z) : ∃ x, v = .bool x ∧ z = (.lit (.bool x), []) := by
 unfold plainElem at h
 rw [he] at h
 cases v <;> simp at h
 exact ⟨_, rfl, h.symm⟩
def yl (w : World) (b : Nat) (names : List (List UInt8)) : Prop :=
 ∃ (D : DataW Unit), w.ownsMap Tryz.prog 9 (plainElem Tryz.prog 4) b names.length D ∧ Go.Maps.IsMap D ∧ ∀ k, D.atKey (.string k) (.lit (.bool false)) = .lit (.bool (decide (k ∈ names)))
theorem nz (s : ByteArray) (hs : s.size ≤ 9223372036854775807) : keyOf Tryz.prog 9 (.string s) = some (.string (toL s)) := by
 have hu : Tryz.prog.underlying 9 = some .string := Tryz.underlying9
 simp [keyOf, mapKey, hu, maxLen, hs, toL]
theorem mQ (w : World) : yl (w.alloc (.map #[] 0)) w.heap.size [] := ⟨.map [], World.ownsMap_made _ _ _ _, ⟨[], rfl⟩, fun k => by simp [DataW.atKey]⟩
theorem yl.lt {w : World} {b : Nat} {names : List (List UInt8)} (h : yl w b names) : b < w.heap.size := by
 obtain ⟨D, h1, _⟩ := h
 exact h1.lt
theorem yl.kept {w w' : World} {b : Nat} {names : List (List UInt8)} {row : Option Nat} (h : yl w b names) (hg : w.grownBy w' row) (hne : some b ≠ row) : yl w' b names := by
 obtain ⟨D, h1, h2, h3⟩ := h
 exact ⟨D, h1.kept hg hne, h2, h3⟩
theorem yl.below {w w' : World} {b : Nat} {names : List (List UInt8)} (h : yl w b names) (hb : Below w.heap.size w w') : yl w' b names := h.kept (zN hb none) (by simp)
theorem yl.alloc {w : World} {b : Nat} {names : List (List UInt8)} (h : yl w b names) (o : Obj) : yl (w.alloc o) b names := h.below ((Below.refl _ _).alloc lR _)
theorem yl.look {w : World} {b : Nat} {names : List (List UInt8)} (h : yl w b names) (s : ByteArray) (hs : s.size ≤ 9223372036854775807) :
 (Instr.lookup 144 (.map (some b)) (.string s) false).run Tryz.prog w = .ok (.bool (decide (toL s ∈ names))) w := by
 obtain ⟨D, h1, h2, h3⟩ := h
 obtain ⟨v, ps, hr, hv⟩ := h1.lookup nu Tryz.underlying144 (z := .bool false) (by kernel_rfl) (plainElem_bool Tryz.underlying4 false) (nz s hs)
 obtain ⟨x, rfl, hx⟩ := uW Tryz.underlying4 hv
 rw [h3] at hx
 simp only [Prod.mk.injEq, DataW.lit.injEq, Lit.bool.injEq] at hx
 rw [hr, hx.1]
theorem yl.put {w : World} {b : Nat} {names : List (List UInt8)} (h : yl w b names) (hn : names.length ≤ 1000000) (s : ByteArray) (hs : s.size ≤ 9223372036854775807) :
 ∃ w', (Instr.mapUpdate 144 (.map (some b)) (.string s) (.bool true)).run Tryz.prog w = .ok () w' ∧ yl w' b (toL s :: names) ∧ w.grownBy w' (some b) := by
 obtain ⟨D, h1, h2, h3⟩ := h
 obtain ⟨w', hr, ho, hg⟩ := h1.update nu Tryz.underlying144 (by unfold maxLen; omega) (nz s hs) (plainElem_bool Tryz.underlying4 true)
 refine ⟨w', hr, ⟨_, ho, ?_, fun k => ?_⟩, hg⟩
 ·obtain ⟨es, rfl⟩ := h2
  exact ⟨_, rfl⟩
 ·by_cases e : k = toL s
  ·rw [e, Go.Maps.atKey_put_same h2 (by simp [WideAt.IsKeyLit])]; simp
  ·rw [Go.Maps.atKey_put_other (fun e' => e (by injection e')), h3]; simp [e]
end
section
open Go.RowKit
structure Nd where
 name : ByteArray
 cust : Int
 comp : Int
structure Dv where
 name : ByteArray
 kind : Int
 a : Int
 b : Int
 comp : Int
def Nd.cells (x : Nd) : List Value := [.string x.name, .int .i64 x.cust, .int .i64 x.comp]
def Dv.cells (x : Dv) : List Value := [.string x.name, .int .i64 x.kind, .int .i64 x.a, .int .i64 x.b, .int .i64 x.comp]
def yb (n : Int) : Bool := decide (0 ≤ n) && decide (n ≤ 7)
def zX (k : Int) : Bool := decide (1 ≤ k) && decide (k ≤ 3)
def xU (kind a b k : Int) : Bool := if a < 0 then false else if k ≤ a then false else if zX kind = false then decide (b = -1) else decide (0 ≤ b) && decide (b < k) && !decide (b = a)
theorem tq (n : Int) (w : World) : Calls Tryz.prog 103 #[.int .i64 n] w fun e w' => e = .returned (.bool (yb n)) ∧ w = w' := by
 by_cases h0 : 0 ≤ n
 ·go_enter Tryz.func103, Tryz.ntmps103
  go_wp2
  go_ret
  exact ⟨by simp [yb, h0], rfl⟩
 ·have h0' : decide (0 ≤ n) = false := by simpa using h0
  go_enter Tryz.func103, Tryz.ntmps103
  go_wp2
  go_ret
  exact ⟨by simp [yb, h0'], rfl⟩
theorem xu (n : Int) (w : World) : Calls Tryz.prog 130 #[.int .i64 n] w fun e w' => e = .returned (.bool (zX n)) ∧ w = w' := by
 by_cases h0 : 1 ≤ n
 ·go_enter Tryz.func130, Tryz.ntmps130
  go_wp2
  go_ret
  exact ⟨by simp [zX, h0], rfl⟩
 ·have h0' : decide (1 ≤ n) = false := by simpa using h0
  go_enter Tryz.func130, Tryz.ntmps130
  go_wp2
  go_ret
  exact ⟨by simp [zX, h0'], rfl⟩
theorem kK (nm : ByteArray) (kind a b comp k : Int) (w : World) : Calls Tryz.prog 104 #[.agg #[.string nm, .int .i64 kind, .int .i64 a, .int .i64 b, .int .i64 comp], .int .i64 k] w fun e w' => e = .returned (.bool (xU kind a b k)) ∧ Below w.heap.size w w' := by
 have hE : xU kind a b k = if a < 0 then false else if k ≤ a then false else if zX kind = false then decide (b = -1) else decide (0 ≤ b) && decide (b < k) && !decide (b = a) := rfl
 have HE := iD hE; clear hE
 by_cases h1 : a < 0
 ·go_enter Tryz.func104, Tryz.ntmps104
  go_wp2_with fail
  go_ret
  exact ⟨zI (by rw [HE.out, if_pos h1]), (Below.refl _ _).alloc lR _⟩
 have h1' : decide (a < 0) = false := by simpa using h1
 by_cases h2 : k ≤ a
 ·go_enter Tryz.func104, Tryz.ntmps104
  go_wp2_with fail
  go_ret
  exact ⟨zI (by rw [HE.out, if_neg (by omega), if_pos h2]), (Below.refl _ _).alloc lR _⟩
 have h2' : decide (k ≤ a) = false := by simpa using h2
 rcases hj : zX kind with _ | _
 ·have HJ := iD hj
  have HJ2 := iD (xu kind)
  rw [hj] at HJ2
  clear hj
  go_enter Tryz.func104, Tryz.ntmps104
  go_wp2_with fail
  refine (HJ2.out _).mono ?_
  rintro e w1 ⟨rfl, rfl⟩
  go_wp2_with fail
  go_ret
  exact ⟨zI (by rw [HE.out, if_neg (by omega), if_neg (by omega), if_pos HJ.out]; rfl), (Below.refl _ _).alloc lR _⟩
 ·have HJ := iD hj
  have HJ2 := iD (xu kind)
  rw [hj] at HJ2
  clear hj
  by_cases h3 : 0 ≤ b
  ·by_cases h4 : b < k
   ·go_enter Tryz.func104, Tryz.ntmps104
    go_wp2_with fail
    refine (HJ2.out _).mono ?_
    rintro e w1 ⟨rfl, rfl⟩
    go_wp2_with fail
    go_ret
    exact ⟨zI (by rw [HE.out, if_neg (by omega), if_neg (by omega), if_neg (by rw [HJ.out]; simp), decide_eq_true h3, decide_eq_true h4, Bool.eq_iff_iff]; simp), (Below.refl _ _).alloc lR _⟩
   ·have h4' : decide (b < k) = false := by simpa using h4
    go_enter Tryz.func104, Tryz.ntmps104
    go_wp2_with fail
    refine (HJ2.out _).mono ?_
    rintro e w1 ⟨rfl, rfl⟩
    go_wp2_with fail
    go_ret
    exact ⟨zI (by rw [HE.out, if_neg (by omega), if_neg (by omega), if_neg (by rw [HJ.out]; simp), h4']; simp), (Below.refl _ _).alloc lR _⟩
  ·have h3' : decide (0 ≤ b) = false := by simpa using h3
   go_enter Tryz.func104, Tryz.ntmps104
   go_wp2_with fail
   refine (HJ2.out _).mono ?_
   rintro e w1 ⟨rfl, rfl⟩
   go_wp2_with fail
   go_ret
   exact ⟨zI (by rw [HE.out, if_neg (by omega), if_neg (by omega), if_neg (by rw [HJ.out]; simp), h3']; simp), (Below.refl _ _).alloc lR _⟩
def vI (used : List (List UInt8)) (x : Nd) : Int := if yO (toL x.name) = false then 3 else if toL x.name ∈ used then 4 else if x.cust < 0 ∨ 1048576 < x.cust then 5 else if yb x.comp = false then 5 else 0
def xi (k : Int) (used : List (List UInt8)) (x : Dv) : Int := if yO (toL x.name) = false then 3 else if toL x.name ∈ used then 4 else if x.kind < 1 ∨ 6 < x.kind then 6 else if xU x.kind x.a x.b k = false then 7 else if yb x.comp = false then 5 else 0
def wX : List (List UInt8) → List Nd → Int
 | _, [] => 0
 | used, x :: r => if vI used x = 0 then wX (toL x.name :: used) r else vI used x
def vY : List (List UInt8) → List Nd → List (List UInt8)
 | used, [] => used
 | used, x :: r => vY (toL x.name :: used) r
def vV (k : Int) : List (List UInt8) → List Dv → Int
 | _, [] => 0
 | used, x :: r => if xi k used x = 0 then vV k (toL x.name :: used) r else xi k used x
def zR (ns : List Nd) (ds : List Dv) : Int := if 32 < ns.length then 1 else if 64 < ds.length then 1 else if wX [] ns = 0 then vV ns.length (vY [] ns) ds else wX [] ns
theorem tX {used : List (List UInt8)} {ns : List Nd} {i : Nat} {x : Nd} (hx : ns[i]? = some x) (h0 : vI used x = 0) : wX used (ns.drop i) = wX (toL x.name :: used) (ns.drop (i + 1)) ∧ vY used (ns.drop i) = vY (toL x.name :: used) (ns.drop (i + 1)) := by
 obtain ⟨hi, rfl⟩ := List.getElem?_eq_some_iff.1 hx
 rw [List.drop_eq_getElem_cons hi, wX, if_pos h0, vY]
 exact ⟨rfl, rfl⟩
theorem qG {used : List (List UInt8)} {ns : List Nd} {i : Nat} {x : Nd} (hx : ns[i]? = some x) (h0 : vI used x ≠ 0) : wX used (ns.drop i) = vI used x := by
 obtain ⟨hi, rfl⟩ := List.getElem?_eq_some_iff.1 hx
 rw [List.drop_eq_getElem_cons hi, wX, if_neg h0]
theorem uF {k : Int} {used : List (List UInt8)} {ds : List Dv} {i : Nat} {x : Dv} (hx : ds[i]? = some x) (h0 : xi k used x = 0) : vV k used (ds.drop i) = vV k (toL x.name :: used) (ds.drop (i + 1)) := by
 obtain ⟨hi, rfl⟩ := List.getElem?_eq_some_iff.1 hx
 rw [List.drop_eq_getElem_cons hi, vV, if_pos h0]
theorem qH {k : Int} {used : List (List UInt8)} {ds : List Dv} {i : Nat} {x : Dv} (hx : ds[i]? = some x) (h0 : xi k used x ≠ 0) : vV k used (ds.drop i) = xi k used x := by
 obtain ⟨hi, rfl⟩ := List.getElem?_eq_some_iff.1 hx
 rw [List.drop_eq_getElem_cons hi, vV, if_neg h0]
end
section
structure Lk where
 dev : Int
 pos : Int
 key : Int
def zo (a b : Lk) : Bool := decide (a.dev < b.dev) || (decide (a.dev = b.dev) && decide (a.key < b.key))
theorem uG (a b : Lk) : zo a b = true ↔ a.dev < b.dev ∨ (a.dev = b.dev ∧ a.key < b.key) := by simp [zo]
theorem tZ {a b c : Lk} (h1 : zo a b = true) (h2 : zo b c = true) : zo a c = true := by rw [uG] at *; omega
theorem ta {a b : Lk} (h1 : zo a b = true) (h2 : zo b a = true) : False := by rw [uG] at *; omega
theorem qK {a b : Lk} (h : a.key ≠ b.key) (h1 : zo a b = false) : zo b a = true := by
 have h2 : ¬ zo a b = true := by rw [h1]; simp
 rw [uG] at *; omega
def su (ds : List Dv) (d : Int) : Int := match ds[d.toNat]? with | some x => x.kind | none => 0
def zv (ds : List Dv) (k : Lk) : Int := if k.dev < 0 then 8 else if (ds.length : Int) ≤ k.dev then 8 else if su ds k.dev = 5 then 6 else if k.pos ≠ 1 ∧ k.pos ≠ 2 then 10 else if k.key < 0 then 5 else if 65536 < k.key then 5 else 0
def tA (k x : Lk) : Bool := decide (x.dev = k.dev) && !decide (x.pos = k.pos)
def yY (l : List Lk) (k : Lk) : Bool := l.any (tA k)
def yh (l : List Lk) (q : Int) : Bool := l.any fun x => decide (x.key = q)
theorem vy {l : List Lk} {k : Lk} : yY l k = false ↔ ∀ x ∈ l, x.dev = k.dev → x.pos = k.pos := by
 unfold yY tA
 rw [List.any_eq_false]
 constructor
 ·intro h x hx hd
  have := h x hx
  simp [hd] at this
  exact this
 ·intro h x hx
  simp
  exact h x hx
theorem qS {l : List Lk} {q : Int} : yh l q = false ↔ ∀ x ∈ l, x.key ≠ q := by
 unfold yh
 rw [List.any_eq_false]
 constructor
 ·intro h x hx; have := h x hx; simpa using this
 ·intro h x hx; simpa using h x hx
def yz (ls : List Lk) (i : Nat) (k : Lk) : Bool := decide (0 < i) && !(match ls[i - 1]? with | some p => zo p k | none => true)
def xF (ds : List Dv) (ls : List Lk) (i : Nat) : Int := match ls[i]? with
 | none => 0
 | some k => if zv ds k ≠ 0 then zv ds k else if yz ls i k = true then 14 else if yY (ls.take i) k = true then 18 else if yh (ls.take i) k.key = true then 4 else 0
def yH (ds : List Dv) (ls : List Lk) : Nat → Int
 | 0 => 0
 | i + 1 => if yH ds ls i ≠ 0 then yH ds ls i else xF ds ls i
theorem yj {ds : List Dv} {ls : List Lk} {i : Nat} {e : Int} (h : yH ds ls i = 0) (he : xF ds ls i = e) (h0 : e ≠ 0) : ∀ n, i < n → yH ds ls n = e
 | 0, hn => by omega
 | n + 1, hn => by
  rw [yH]
  rcases Nat.lt_succ_iff_lt_or_eq.1 hn with hlt | rfl
  ·rw [yj h he h0 n hlt, if_pos h0]
  ·rw [h, if_neg (by simp), he]
theorem vp {ds : List Dv} {ls : List Lk} : ∀ n, yH ds ls n = 0 ↔ ∀ i, i < n → xF ds ls i = 0
 | 0 => ⟨fun _ i hi => by omega, fun _ => rfl⟩
 | n + 1 => by
  rw [yH]
  have ih := vp (ds := ds) (ls := ls) n
  by_cases h : yH ds ls n = 0
  ·rw [if_neg (by simp [h])]
   constructor
   ·intro he i hi
    rcases Nat.lt_succ_iff_lt_or_eq.1 hi with hlt | rfl
    ·exact ih.1 h i hlt
    ·exact he
   ·intro hall; exact hall n (by omega)
  ·rw [if_pos h]
   exact ⟨fun e => absurd e h, fun hall => ih.2 fun i hi => hall i (by omega)⟩
theorem vq {ds : List Dv} {ls : List Lk} {i : Nat} (h : yH ds ls i = 0) (he : xF ds ls i = 0) : yH ds ls (i + 1) = 0 := by rw [yH, h, if_neg (by simp), he]
def iX (a b : Lk) : Prop := zo a b = true ∧ (a.dev = b.dev → a.pos = b.pos) ∧ a.key ≠ b.key
def xq (ds : List Dv) (ls : List Lk) : Prop := ls.length ≤ 128 ∧ (∀ k ∈ ls, zv ds k = 0) ∧ ls.Pairwise iX
theorem rD {ds : List Dv} {ls : List Lk} {i : Nat} {k : Lk} (hk : ls[i]? = some k) : xF ds ls i = 0 ↔ zv ds k = 0 ∧ yz ls i k = false ∧ yY (ls.take i) k = false ∧ yh (ls.take i) k.key = false := by
 unfold xF
 rw [hk]
 simp only
 by_cases h1 : zv ds k = 0
 ·rw [if_neg (by simp [h1])]
  rcases h2 : yz ls i k with _ | _
  ·rw [if_neg (by simp)]
   rcases h3 : yY (ls.take i) k with _ | _
   ·rw [if_neg (by simp)]
    rcases h4 : yh (ls.take i) k.key with _ | _
    ·simp [h1]
    ·simp
   ·simp
  ·simp
 ·rw [if_pos h1]; simp [h1]
theorem jI {ds : List Dv} {ls : List Lk} (hl : ls.length ≤ 128) (h : yH ds ls ls.length = 0) : xq ds ls := by
 have hall := (vp ls.length).1 h
 have at' : ∀ i (hi : i < ls.length), zv ds ls[i] = 0 ∧ yz ls i ls[i] = false ∧ yY (ls.take i) ls[i] = false ∧ yh (ls.take i) ls[i].key = false := fun i hi => (rD (List.getElem?_eq_getElem hi)).1 (hall i hi)
 refine ⟨hl, fun k hk => ?_, ?_⟩
 ·obtain ⟨i, hi, rfl⟩ := List.mem_iff_getElem.1 hk
  exact (at' i hi).1
 ·have step : ∀ i (hi : i + 1 < ls.length), zo ls[i] ls[i + 1] = true := by
   intro i hi
   have := (at' (i + 1) hi).2.1
   unfold yz at this
   rw [Nat.add_sub_cancel, List.getElem?_eq_getElem (show i < ls.length by omega)] at this
   simpa using this
  have bef : ∀ (j i : Nat) (hj : j < ls.length) (hij : i < j), zo (ls[i]'(by omega)) ls[j] = true := by
   intro j
   induction j with
   | zero => intro i hj hij; omega
   | succ j ih =>
    intro i hj hij
    rcases Nat.lt_succ_iff_lt_or_eq.1 hij with hlt | rfl
    ·exact tZ (ih i (by omega) hlt) (step j hj)
    ·exact step i hj
  rw [List.pairwise_iff_getElem]
  intro i j hi hj hij
  obtain ⟨_, _, h3, h4⟩ := at' j hj
  have hm : ls[i] ∈ ls.take j := by
   rw [List.mem_iff_getElem]
   exact ⟨i, by simp; omega, by simp⟩
  exact ⟨bef j i hj hij, fun hd => vy.1 h3 _ hm hd, qS.1 h4 _ hm⟩
theorem kF {ds : List Dv} {ls : List Lk} (h : xq ds ls) : yH ds ls ls.length = 0 := by
 obtain ⟨_, h2, h3⟩ := h
 rw [vp]
 intro i hi
 rw [rD (List.getElem?_eq_getElem hi)]
 rw [List.pairwise_iff_getElem] at h3
 have mem : ∀ x ∈ ls.take i, ∃ j, ∃ hj : j < ls.length, j < i ∧ x = ls[j] := by
  intro x hx
  obtain ⟨j, hj, rfl⟩ := List.mem_iff_getElem.1 hx
  simp at hj
  exact ⟨j, by omega, by omega, by simp⟩
 refine ⟨h2 _ (List.getElem_mem hi), ?_, ?_, ?_⟩
 ·unfold yz
  rcases Nat.eq_zero_or_pos i with rfl | h0
  ·rfl
  ·rw [List.getElem?_eq_getElem (show i - 1 < ls.length by omega)]
   simp only
   rw [(h3 (i - 1) i (by omega) hi (by omega)).1]
   simp
 ·rw [vy]
  intro x hx hd
  obtain ⟨j, hj, hji, rfl⟩ := mem x hx
  exact (h3 j i hj hi hji).2.1 hd
 ·rw [qS]
  intro x hx
  obtain ⟨j, hj, hji, rfl⟩ := mem x hx
  exact (h3 j i hj hi hji).2.2
def wH : List Lk → Int → Option Int
 | [], _ => none
 | x :: l, d => if x.dev = d then some x.pos else wH l d
theorem nk {l : List Lk} {d p : Int} (h : wH l d = some p) : ∃ x ∈ l, x.dev = d ∧ x.pos = p := by
 induction l with
 | nil => cases h
 | cons x l ih =>
  rw [wH] at h
  split at h
  ·next hd => exact ⟨x, List.mem_cons_self, hd, by injection h⟩
  ·obtain ⟨y, hy, h1⟩ := ih h; exact ⟨y, List.mem_cons_of_mem _ hy, h1⟩
theorem vo {l : List Lk} {d : Int} : wH l d = none ↔ ∀ x ∈ l, x.dev ≠ d := by
 induction l with
 | nil => simp [wH]
 | cons x l ih =>
  rw [wH]
  split
  ·next hd => simp [hd]
  ·next hd => rw [ih]; simp [hd]
theorem pS {ds : List Dv} {ls : List Lk} (h : xq ds ls) {x y : Lk} (hx : x ∈ ls) (hy : y ∈ ls) (hd : x.dev = y.dev) : x.pos = y.pos := by
 obtain ⟨i, hi, rfl⟩ := List.mem_iff_getElem.1 hx
 obtain ⟨j, hj, rfl⟩ := List.mem_iff_getElem.1 hy
 have h3 := List.pairwise_iff_getElem.1 h.2.2
 rcases Nat.lt_trichotomy i j with hij | rfl | hij
 ·exact (h3 i j hi hj hij).2.1 hd
 ·rfl
 ·exact ((h3 j i hj hi hij).2.1 hd.symm).symm
theorem jk {ds : List Dv} {ls : List Lk} (h : xq ds ls) {x : Lk} (hx : x ∈ ls) : wH ls x.dev = some x.pos := by
 rcases hl : wH ls x.dev with _ | p
 ·exact absurd rfl (vo.1 hl x hx)
 ·obtain ⟨y, hy, h1, h2⟩ := nk hl
  rw [← h2, pS h hy hx h1]
theorem kx {ds : List Dv} {ls : List Lk} (h : xq ds ls) (k : Lk) : yY ls k = (match wH ls k.dev with | some p => !decide (p = k.pos) | none => false) := by
 rcases hl : wH ls k.dev with _ | p
 ·simp only
  rw [vy]
  intro x hx hd
  exact absurd hd (vo.1 hl x hx)
 ·obtain ⟨y, hy, h1, h2⟩ := nk hl
  simp only
  by_cases hp : p = k.pos
  ·rw [decide_eq_true hp, Bool.not_true, vy]
   intro x hx hd
   rw [pS h hx hy (by omega), h2, hp]
  ·rw [decide_eq_false hp, Bool.not_false]
   rcases ho : yY ls k with _ | _
   ·exact absurd (by rw [← h2]; exact vy.1 ho y hy h1) hp
   ·rfl
def xw (k : Lk) (ls : List Lk) : List Lk := ls.takeWhile (fun x => zo x k) ++ k :: ls.dropWhile (fun x => zo x k)
theorem xe (k : Lk) (ls : List Lk) : (xw k ls).length = ls.length + 1 := by
 have := congrArg List.length (List.takeWhile_append_dropWhile (p := fun x => zo x k) (l := ls))
 rw [List.length_append] at this
 unfold xw
 rw [List.length_append, List.length_cons]; omega
theorem mA (k x : Lk) (ls : List Lk) : x ∈ xw k ls ↔ x = k ∨ x ∈ ls := by
 have h : ls.takeWhile (fun x => zo x k) ++ ls.dropWhile (fun x => zo x k) = ls := List.takeWhile_append_dropWhile
 have hm : x ∈ ls ↔ x ∈ ls.takeWhile (fun x => zo x k) ∨ x ∈ ls.dropWhile (fun x => zo x k) := by rw [← List.mem_append, h]
 unfold xw
 rw [List.mem_append, List.mem_cons, hm]
 constructor
 ·rintro (h | h | h)
  ·exact .inr (.inl h)
  ·exact .inl h
  ·exact .inr (.inr h)
 ·rintro (h | h | h)
  ·exact .inr (.inl h)
  ·exact .inl h
  ·exact .inr (.inr h)
theorem lz (k : Lk) (ls : List Lk) : (xw k ls).Perm (ls ++ [k]) := by
 unfold xw
 have h : ls.takeWhile (fun x => zo x k) ++ ls.dropWhile (fun x => zo x k) = ls := List.takeWhile_append_dropWhile
 refine List.perm_middle.trans ?_
 rw [h]
 exact (List.perm_append_comm (l₁ := [k]) (l₂ := ls))
theorem qF {p : Lk → Bool} : ∀ {l : List Lk} {y : Lk} {t : List Lk}, l.dropWhile p = y :: t → p y = false
 | [], _, _, h => by simp at h
 | x :: l, y, t, h => by
  rw [List.dropWhile_cons] at h
  split at h
  ·exact qF h
  ·next hp => injection h with h1; subst h1; simpa using hp
theorem sy {ds : List Dv} {ls : List Lk} {k : Lk} (h : xq ds ls) (hk : zv ds k = 0) (hu : yh ls k.key = false) (ho : yY ls k = false) (hl : ls.length < 128) : xq ds (xw k ls) := by
 have hs : ls.takeWhile (fun x => zo x k) ++ ls.dropWhile (fun x => zo x k) = ls := List.takeWhile_append_dropWhile
 have hu' := qS.1 hu
 have ho' := vy.1 ho
 refine ⟨by rw [xe]; omega, fun x hx => ?_, ?_⟩
 ·rcases (mA k x ls).1 hx with rfl | hx
  ·exact hk
  ·exact h.2.1 x hx
 ·have hp := h.2.2
  rw [← hs, List.pairwise_append] at hp
  obtain ⟨p1, p2, p3⟩ := hp
  have mem1 : ∀ x ∈ ls.takeWhile (fun x => zo x k), x ∈ ls := fun x hx => by rw [← hs]; exact List.mem_append_left _ hx
  have mem2 : ∀ x ∈ ls.dropWhile (fun x => zo x k), x ∈ ls := fun x hx => by rw [← hs]; exact List.mem_append_right _ hx
  have bef1 : ∀ x ∈ ls.takeWhile (fun x => zo x k), zo x k = true := fun x hx => by
   have := List.all_takeWhile (p := fun x => zo x k) (l := ls)
   exact List.all_eq_true.1 this x hx
  have bef2 : ∀ x ∈ ls.dropWhile (fun x => zo x k), zo k x = true := by
   rcases hd : ls.dropWhile (fun x => zo x k) with _ | ⟨y, t⟩
   ·intro x hx; cases hx
   ·have hy : zo k y = true := qK (hu' y (mem2 y (by rw [hd]; exact List.mem_cons_self))) (qF (p := fun x => zo x k) hd)
    intro x hx
    rcases List.mem_cons.1 hx with rfl | hx
    ·exact hy
    ·rw [hd, List.pairwise_cons] at p2
     exact tZ hy (p2.1 x hx).1
  unfold xw
  rw [List.pairwise_append, List.pairwise_cons]
  refine ⟨p1, ⟨fun x hx => ⟨bef2 x hx, fun e => (ho' x (mem2 x hx) e.symm).symm, fun e => hu' x (mem2 x hx) e.symm⟩, p2⟩, fun a ha b hb => ?_⟩
  rcases List.mem_cons.1 hb with rfl | hb
  ·exact ⟨bef1 a ha, ho' a (mem1 a ha), hu' a (mem1 a ha)⟩
  ·exact p3 a ha b hb
theorem kE {ds : List Dv} {a b : List Lk} (h : xq ds a) (hs : b.Sublist a) : xq ds b := ⟨Nat.le_trans hs.length_le h.1, fun k hk => h.2.1 k (hs.subset hk), h.2.2.sublist hs⟩
theorem lr : ∀ {a b : List Lk}, a.Pairwise (fun x y => zo x y = true) → b.Pairwise (fun x y => zo x y = true) → (∀ x, x ∈ a ↔ x ∈ b) → a = b
 | [], [], _, _, _ => rfl
 | [], y :: b, _, _, h => absurd ((h y).2 List.mem_cons_self) (by simp)
 | x :: a, [], _, _, h => absurd ((h x).1 List.mem_cons_self) (by simp)
 | x :: a, y :: b, ha, hb, h => by
  rw [List.pairwise_cons] at ha hb
  have e : x = y := by
   have h1 := (h x).1 List.mem_cons_self
   have h2 := (h y).2 List.mem_cons_self
   rcases List.mem_cons.1 h1 with h1 | h1
   ·exact h1
   ·rcases List.mem_cons.1 h2 with h2 | h2
    ·exact h2.symm
    ·exact (ta (ha.1 y h2) (hb.1 x h1)).elim
  subst e
  congr 1
  refine lr ha.2 hb.2 fun z => ?_
  have hz := h z
  simp only [List.mem_cons] at hz
  constructor
  ·intro hm
   rcases hz.1 (.inr hm) with rfl | h1
   ·exact (ta (ha.1 z hm) (ha.1 z hm)).elim
   ·exact h1
  ·intro hm
   rcases hz.2 (.inr hm) with rfl | h1
   ·exact (ta (hb.1 z hm) (hb.1 z hm)).elim
   ·exact h1
theorem xq.sorted {ds : List Dv} {ls : List Lk} (h : xq ds ls) : ls.Pairwise (fun x y => zo x y = true) := h.2.2.imp fun h => h.1
def vT (d q : Int) : List Lk → Option Nat
 | [] => none
 | x :: l => if x.dev = d ∧ x.key = q then some 0 else (vT d q l).map (· + 1)
end
end Go.Proofs.YtddddlhgaeameaaGreatDoor
