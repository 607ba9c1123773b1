import Derived.Test.YtddddlhgaeameaaGreatDoorJ01
import Derived.Maps.OwnOps
import Derived.Maps.Views
import Derived.Maps.Keyed
import Derived.Deep.OwnRows
import Derived.Deep.AppendSrc
import Derived.Deep.LoopGhost
set_option maxRecDepth 100000
set_option maxHeartbeats 1000000
namespace Go.Proofs.YtddddlhgaeameaaGreatDoor
variable {e : TypeId} {w w' : World} {b i : Nat} {row : Option Nat} {xs : List Value}
section
open Go.RowKit
def vQ (b : Int) (first : Bool) : Bool := if 65 ≤ b ∧ b ≤ 90 then true else if 97 ≤ b ∧ b ≤ 122 then true else if 48 ≤ b ∧ b ≤ 57 then !first else if b = 95 then !first else false
theorem jW (b : Int) (first : Bool) (w : World) (hl : yr w) (Fs : 0 ≤ b) (AX : b < 256) : Calls Tryz.prog 105 #[.int .u8 b, .bool first] w fun e w' => e = .returned (.bool (vQ b first)) ∧ bW w w' := by
 have c0 := hl.1 0 _ rfl;have c1 := hl.1 1 _ rfl;have c2 := hl.1 2 _ rfl;have c3 := hl.1 3 _ rfl;have c4 := hl.1 4 _ rfl;have c5 := hl.1 5 _ rfl;have c6 := hl.1 6 _ rfl;have c7 := hl.1 7 _ rfl;have c8 := hl.1 8 _ rfl;have c9 := hl.1 9 _ rfl;have AG := hl.1 10 _ rfl;have AE := hl.1 11 _ rfl;clear hl
 go_enter Tryz.func105, Tryz.ntmps105
 go_wp2_with fail
 clear c0 c1 c2 c3 c4 c5 c6 c7 c8 c9 AG AE;have i0 : ∀ w, (Instr.index 170 (.agg wN.toArray) (.int .i64 0)).run Tryz.prog w = .ok (.agg #[.int .u8 65, .int .u8 90, .bool true]) w := fun _ => by kernel_rfl
 have i1 : ∀ w, (Instr.index 170 (.agg wN.toArray) (.int .i64 1)).run Tryz.prog w = .ok (.agg #[.int .u8 97, .int .u8 122, .bool true]) w := fun _ => by kernel_rfl
 have i2 : ∀ w, (Instr.index 170 (.agg wN.toArray) (.int .i64 2)).run Tryz.prog w = .ok (.agg #[.int .u8 48, .int .u8 57, .bool false]) w := fun _ => by kernel_rfl
 have i3 : ∀ w, (Instr.index 170 (.agg wN.toArray) (.int .i64 3)).run Tryz.prog w = .ok (.agg #[.int .u8 95, .int .u8 95, .bool false]) w := fun _ => by kernel_rfl
 simp only [wN] at i0 i1 i2 i3;have HF : Hid (vQ b first = if 65 ≤ b ∧ b ≤ 90 then true else if 97 ≤ b ∧ b ≤ 122 then true else if 48 ≤ b ∧ b ≤ 57 then !first else if b = 95 then !first else false) := rfl
 go_loopw [8] (fun i wr => ∃ (i' : Nat), i = .int .i64 i' ∧ i' ≤ 4 ∧ Hid (Below w.heap.size w wr) ∧ Hid ((0 < i' → ¬ (65 ≤ b ∧ b ≤ 90)) ∧ (1 < i' → ¬ (97 ≤ b ∧ b ≤ 122)) ∧ (2 < i' → ¬ (48 ≤ b ∧ b ≤ 57)) ∧ (3 < i' → ¬ b = 95))) (fun i _ => 4 - (intOf i).toNat)
 case atStart => exact ⟨0, rfl, Nat.zero_le _, Below.refl _ _, by unfold Hid; refine ⟨?_, ?_, ?_, ?_⟩ <;> intro h <;> omega⟩
 case round =>
  obtain ⟨i, rfl, hi, AZ, hno⟩ := hrel;have hsz := AZ.size;rcases (show i = 0 ∨ i = 1 ∨ i = 2 ∨ i = 3 ∨ i = 4 by omega) with rfl | rfl | rfl | rfl | rfl
  ·by_cases h1 : 65 ≤ b
   ·by_cases h2 : b ≤ 90
    ·go_wp2_with fail
     go_ret;exact ⟨zE (by rw [HF.out, if_pos ⟨h1, h2⟩]), AZ.alloc hsz _⟩
    ·have h2' : decide (b ≤ 90) = false := by simpa using h2
     go_wp2_with fail
     go_roundw
     case rel => exact ⟨1, rfl, by decide, AZ.alloc hsz _, by have hn := hno.out; unfold Hid; refine ⟨?_, ?_, ?_, ?_⟩ <;> intro h <;> omega⟩
     case measure => decide
   ·have h1' : decide (65 ≤ b) = false := by simpa using h1
    go_wp2_with fail
    go_roundw
    case rel => exact ⟨1, rfl, by decide, AZ.alloc hsz _, by have hn := hno.out; unfold Hid; refine ⟨?_, ?_, ?_, ?_⟩ <;> intro h <;> omega⟩
    case measure => decide
  ·by_cases h1 : 97 ≤ b
   ·by_cases h2 : b ≤ 122
    ·go_wp2_with fail
     go_ret;exact ⟨zE (by rw [HF.out, if_neg (hno.1 (by decide)), if_pos ⟨h1, h2⟩]), AZ.alloc hsz _⟩
    ·have h2' : decide (b ≤ 122) = false := by simpa using h2
     go_wp2_with fail
     go_roundw
     case rel => exact ⟨2, rfl, by decide, AZ.alloc hsz _, by have hn := hno.out; unfold Hid; refine ⟨?_, ?_, ?_, ?_⟩ <;> intro h <;> omega⟩
     case measure => decide
   ·have h1' : decide (97 ≤ b) = false := by simpa using h1
    go_wp2_with fail
    go_roundw
    case rel => exact ⟨2, rfl, by decide, AZ.alloc hsz _, by have hn := hno.out; unfold Hid; refine ⟨?_, ?_, ?_, ?_⟩ <;> intro h <;> omega⟩
    case measure => decide
  ·by_cases h1 : 48 ≤ b
   ·by_cases h2 : b ≤ 57
    ·go_wp2_with fail
     go_ret;exact ⟨zE (by rw [HF.out, if_neg (hno.1 (by decide)), if_neg (hno.2.1 (by decide)), if_pos ⟨h1, h2⟩]), AZ.alloc hsz _⟩
    ·have h2' : decide (b ≤ 57) = false := by simpa using h2
     go_wp2_with fail
     go_roundw
     case rel => exact ⟨3, rfl, by decide, AZ.alloc hsz _, by have hn := hno.out; unfold Hid; refine ⟨?_, ?_, ?_, ?_⟩ <;> intro h <;> omega⟩
     case measure => decide
   ·have h1' : decide (48 ≤ b) = false := by simpa using h1
    go_wp2_with fail
    go_roundw
    case rel => exact ⟨3, rfl, by decide, AZ.alloc hsz _, by have hn := hno.out; unfold Hid; refine ⟨?_, ?_, ?_, ?_⟩ <;> intro h <;> omega⟩
    case measure => decide
  ·by_cases h1 : 95 ≤ b
   ·by_cases h2 : b ≤ 95
    ·go_wp2_with fail
     go_ret;exact ⟨zE (by rw [HF.out, if_neg (hno.1 (by decide)), if_neg (hno.2.1 (by decide)), if_neg (hno.2.2.1 (by decide)), if_pos (by omega)]), AZ.alloc hsz _⟩
    ·have h2' : decide (b ≤ 95) = false := by simpa using h2
     go_wp2_with fail
     go_roundw
     case rel => exact ⟨4, rfl, by decide, AZ.alloc hsz _, by have hn := hno.out; unfold Hid; refine ⟨?_, ?_, ?_, ?_⟩ <;> intro h <;> omega⟩
     case measure => decide
   ·have h1' : decide (95 ≤ b) = false := by simpa using h1
    go_wp2_with fail
    go_roundw
    case rel => exact ⟨4, rfl, by decide, AZ.alloc hsz _, by have hn := hno.out; unfold Hid; refine ⟨?_, ?_, ?_, ?_⟩ <;> intro h <;> omega⟩
    case measure => decide
  ·go_wp2_with fail
   go_ret;exact ⟨zE (by rw [HF.out, if_neg (hno.1 (by decide)), if_neg (hno.2.1 (by decide)), if_neg (hno.2.2.1 (by decide)), if_neg (hno.2.2.2 (by decide))]), AZ⟩
def yI (s : List UInt8) : Bool := decide (∀ i, i < s.length → vQ (s.getD i 0).toNat (i == 0) = true) && decide (1 ≤ s.length) && decide (s.length ≤ 12)
theorem rM (s : ByteArray) (w : World) (hl : yr w) (hs : s.size ≤ 9223372036854775807) : Calls Tryz.prog 84 #[.string s] w fun e w' => e = .returned (.bool (yI (BA s))) ∧ bW w w' := by
 have HL := iD hl; clear hl;have HN : Hid (yI (BA s) = (decide (∀ i, i < s.size → vQ ((BA s).getD i 0).toNat (i == 0) = true) && decide (1 ≤ s.size) && decide (s.size ≤ 12))) := by unfold Hid; rw [yI, tC]
 go_enter Tryz.func84, Tryz.ntmps84
 go_wp2_with fail
 go_loopw [6] (fun i wr => ∃ (i' : Nat), i = .int .i64 i' ∧ i' ≤ s.size ∧ Hid (Below w.heap.size w wr) ∧ Hid (∀ j, j < i' → vQ ((BA s).getD j 0).toNat (j == 0) = true)) (fun i _ => s.size - (intOf i).toNat)
 case atStart => exact ⟨0, rfl, Nat.zero_le _, Below.refl _ _, fun j hj => absurd hj (by omega)⟩
 case round =>
  obtain ⟨i, rfl, hi, AZ, CB⟩ := hrel;have hsz := AZ.size;by_cases hlt : i < s.size
  ·have HF := iD (fun W h => jW ((s[i]).toNat : Int) (i == 0) W h (by omega) (by have := (s[i]).toNat_lt; omega));have hg : (BA s).getD i 0 = s[i] := by rw [List.getD_eq_getElem?_getD, List.getElem?_eq_getElem (by rw [tC]; exact hlt)]; rfl
   have HG := iD hg; clear hg;have Ll : ((i : Int) == 0) = (i == 0) := by rw [Bool.eq_iff_iff]; simp
   go_wp2_with fail
   refine (HF _ (HL.below AZ lR)).mono ?_;rintro e w1 ⟨rfl, AX⟩;have AL := iD (AZ.trans (AX.mono hsz));clear AX Ll;rcases hf : vQ ((s[i]).toNat : Int) (i == 0) with _ | _
   ·go_wp2_with fail
    go_ret;refine ⟨zE ?_, AL⟩;rw [HN.out, decide_eq_false (fun h => by have := h i hlt; rw [HG.out, hf] at this; cases this)];rfl
   ·have AJ := iD hf; clear hf
    go_wp2_with fail
    go_roundw
    case rel =>
     refine ⟨i + 1, by go_num, by omega, AL, fun j hj => ?_⟩;rcases Nat.lt_succ_iff_lt_or_eq.1 hj with h | h
     ·exact CB j h
     ·rw [h, HG.out]; exact AJ.out
    case measure => simp [intOf]; omega
  ·obtain rfl : i = s.size := by omega
   have q0 : decide (s.size < s.size) = false := by simp
   have HT : Hid (decide (∀ i, i < s.size → vQ ((BA s).getD i 0).toNat (i == 0) = true) = true) := by unfold Hid; exact decide_eq_true CB.out
   by_cases h1 : 1 ≤ s.size
   ·have q1 : decide ((1 : Int) ≤ (s.size : Int)) = true := by simp; omega
    go_wp2_with fail
    go_ret;exact ⟨zE (by rw [HN.out, HT.out, decide_eq_true h1]; simp; omega), AZ⟩
   ·have q1 : decide ((1 : Int) ≤ (s.size : Int)) = false := by simp; omega
    go_wp2_with fail
    go_ret;exact ⟨zE (by rw [HN.out, HT.out, decide_eq_false h1]; rfl), AZ⟩
def posB (p : Int) : Bool := decide (p = 1) || decide (p = 2)
end
section
open Go.RowKit
open Go.Maps (Keyed)
theorem mu : Keyed Tryz.prog 9 := Go.Maps.string_keyed Tryz.underlying9
theorem uk {H : Type} {P : Program} (he : P.underlying e = some .bool) {v : Value} {z : DataW H × List MemPlace} (h : plainElem P e v = some z) : ∃ x, v = .bool x ∧ z = (.lit (.bool x), []) := by
 unfold plainElem at h;rw [he] at h;cases v <;> simp at h
 exact ⟨_, rfl, h.symm⟩
def yu (w : World) (b : Nat) (names : List (List UInt8)) : Prop :=
 ∃ (D : DataW Unit), w.ownsMap Tryz.prog 9 (plainElem Tryz.prog 4) b names.length D ∧ Go.Maps.IsMap D ∧ ∀ k, D.atKey (.string k) (.lit (.bool false)) = .lit (.bool (decide (k ∈ names)))
theorem my (s : ByteArray) (hs : s.size ≤ 9223372036854775807) : keyOf Tryz.prog 9 (.string s) = some (.string (BA s)) := by
 have hu : Tryz.prog.underlying 9 = some .string := Tryz.underlying9;simp [keyOf, mapKey, hu, maxLen, hs, BA]
theorem lU (w : World) : yu (w.alloc (.map #[] 0)) w.heap.size [] := ⟨.map [], World.ownsMap_made _ _ _ _, ⟨[], rfl⟩, fun k => by simp [DataW.atKey]⟩
theorem yu.lt {names : List (List UInt8)} (h : yu w b names) : b < w.heap.size := by
 obtain ⟨D, h1, _⟩ := h;exact h1.lt
theorem yu.kept {names : List (List UInt8)} (h : yu w b names) (hg : w.grownBy w' row) (hne : some b ≠ row) : yu w' b names := by
 obtain ⟨D, h1, h2, h3⟩ := h;exact ⟨D, h1.kept hg hne, h2, h3⟩
theorem yu.below {names : List (List UInt8)} (h : yu w b names) (hb : bW w w') : yu w' b names := h.kept (zI hb none) (by simp)
theorem yu.alloc {names : List (List UInt8)} (h : yu w b names) (o : Obj) : yu (w.alloc o) b names := h.below ((Below.refl _ _).alloc lR _)
theorem yu.look {names : List (List UInt8)} (h : yu w b names) (s : ByteArray) (hs : s.size ≤ 9223372036854775807) :
 (Instr.lookup 144 (.map (some b)) (.string s) false).run Tryz.prog w = .ok (.bool (decide (BA s ∈ names))) w := by
 obtain ⟨D, h1, h2, h3⟩ := h;obtain ⟨v, ps, hr, hv⟩ := h1.lookup mu Tryz.underlying144 (z := .bool false) (by kernel_rfl) (plainElem_bool Tryz.underlying4 false) (my s hs);obtain ⟨x, rfl, hx⟩ := uk Tryz.underlying4 hv;rw [h3] at hx;simp only [Prod.mk.injEq, DataW.lit.injEq, Lit.bool.injEq] at hx;rw [hr, hx.1]
theorem yu.put {names : List (List UInt8)} (h : yu w b names) (hn : names.length ≤ 1000000) (s : ByteArray) (hs : s.size ≤ 9223372036854775807) :
 ∃ w', (Instr.mapUpdate 144 (.map (some b)) (.string s) (.bool true)).run Tryz.prog w = .ok () w' ∧ yu w' b (BA s :: names) ∧ w.grownBy w' (some b) := by
 obtain ⟨D, h1, h2, h3⟩ := h;obtain ⟨w', hr, ho, hg⟩ := h1.update mu Tryz.underlying144 (by unfold maxLen; omega) (my s hs) (plainElem_bool Tryz.underlying4 true);refine ⟨w', hr, ⟨_, ho, ?_, fun k => ?_⟩, hg⟩
 ·obtain ⟨es, rfl⟩ := h2;exact ⟨_, rfl⟩
 ·by_cases e : k = BA s
  ·rw [e, Go.Maps.atKey_put_same h2 (by simp [WideAt.IsKeyLit])]; simp
  ·rw [Go.Maps.atKey_put_other (fun e' => e (by injection e')), h3]; simp [e]
end
section
open Go.RowKit
structure Nd where
 name : ByteArray
 cust : Int
 comp : Int
abbrev FO (l : List Nd) : Prop := ∀ x ∈ l, x.name.size ≤ 9223372036854775807
structure Dv where
 name : ByteArray
 kind : Int
 a : Int
 b : Int
 comp : Int
abbrev GH (l : List Dv) : Prop := ∀ x ∈ l, x.name.size ≤ 9223372036854775807
def Nd.cells (x : Nd) : List Value := [.string x.name, .int .i64 x.cust, .int .i64 x.comp]
def Dv.cells (x : Dv) : List Value := [.string x.name, .int .i64 x.kind, .int .i64 x.a, .int .i64 x.b, .int .i64 x.comp]
def ym (n : Int) : Bool := decide (0 ≤ n) && decide (n ≤ 7)
def zV (k : Int) : Bool := decide (1 ≤ k) && decide (k ≤ 3)
def xW (kind a b k : Int) : Bool := if a < 0 then false else if k ≤ a then false else if zV kind = false then decide (b = -1) else decide (0 ≤ b) && decide (b < k) && !decide (b = a)
theorem sR (n : Int) (w : World) : Calls Tryz.prog 103 #[.int .i64 n] w fun e w' => e = .returned (.bool (ym n)) ∧ w = w' := by
 by_cases h0 : 0 ≤ n
 ·go_enter Tryz.func103, Tryz.ntmps103
  go_wp2
  go_ret;exact ⟨by simp [ym, h0], rfl⟩
 ·have h0' : decide (0 ≤ n) = false := by simpa using h0
  go_enter Tryz.func103, Tryz.ntmps103
  go_wp2
  go_ret;exact ⟨by simp [ym, h0'], rfl⟩
theorem xx (n : Int) (w : World) : Calls Tryz.prog 130 #[.int .i64 n] w fun e w' => e = .returned (.bool (zV n)) ∧ w = w' := by
 by_cases h0 : 1 ≤ n
 ·go_enter Tryz.func130, Tryz.ntmps130
  go_wp2
  go_ret;exact ⟨by simp [zV, h0], rfl⟩
 ·have h0' : decide (1 ≤ n) = false := by simpa using h0
  go_enter Tryz.func130, Tryz.ntmps130
  go_wp2
  go_ret;exact ⟨by simp [zV, h0'], rfl⟩
theorem jY (nm : ByteArray) (kind a b comp k : Int) (w : World) : Calls Tryz.prog 104 #[.agg #[.string nm, .int .i64 kind, .int .i64 a, .int .i64 b, .int .i64 comp], .int .i64 k] w fun e w' => e = .returned (.bool (xW kind a b k)) ∧ bW w w' := by
 have hE : xW kind a b k = if a < 0 then false else if k ≤ a then false else if zV kind = false then decide (b = -1) else decide (0 ≤ b) && decide (b < k) && !decide (b = a) := rfl
 have HE := iD hE; clear hE;by_cases h1 : a < 0
 ·go_enter Tryz.func104, Tryz.ntmps104
  go_wp2_with fail
  go_ret;exact ⟨zE (by rw [HE.out, if_pos h1]), (Below.refl _ _).alloc lR _⟩
 have h1' : decide (a < 0) = false := by simpa using h1
 by_cases h2 : k ≤ a
 ·go_enter Tryz.func104, Tryz.ntmps104
  go_wp2_with fail
  go_ret;exact ⟨zE (by rw [HE.out, if_neg (by omega), if_pos h2]), (Below.refl _ _).alloc lR _⟩
 have h2' : decide (k ≤ a) = false := by simpa using h2
 rcases hj : zV kind with _ | _
 ·have HJ := iD hj;have Cw := iD (xx kind);rw [hj] at Cw;clear hj
  go_enter Tryz.func104, Tryz.ntmps104
  go_wp2_with fail
  refine (Cw _).mono ?_;rintro e w1 ⟨rfl, rfl⟩
  go_wp2_with fail
  go_ret;exact ⟨zE (by rw [HE.out, if_neg (by omega), if_neg (by omega), if_pos HJ.out]; rfl), (Below.refl _ _).alloc lR _⟩
 ·have HJ := iD hj;have Cw := iD (xx kind);rw [hj] at Cw;clear hj;by_cases h3 : 0 ≤ b
  ·by_cases h4 : b < k
   ·go_enter Tryz.func104, Tryz.ntmps104
    go_wp2_with fail
    refine (Cw _).mono ?_;rintro e w1 ⟨rfl, rfl⟩
    go_wp2_with fail
    go_ret;exact ⟨zE (by rw [HE.out, if_neg (by omega), if_neg (by omega), if_neg (by rw [HJ.out]; simp), decide_eq_true h3, decide_eq_true h4, Bool.eq_iff_iff]; simp), (Below.refl _ _).alloc lR _⟩
   ·have h4' : decide (b < k) = false := by simpa using h4
    go_enter Tryz.func104, Tryz.ntmps104
    go_wp2_with fail
    refine (Cw _).mono ?_;rintro e w1 ⟨rfl, rfl⟩
    go_wp2_with fail
    go_ret;exact ⟨zE (by rw [HE.out, if_neg (by omega), if_neg (by omega), if_neg (by rw [HJ.out]; simp), h4']; simp), (Below.refl _ _).alloc lR _⟩
  ·have h3' : decide (0 ≤ b) = false := by simpa using h3
   go_enter Tryz.func104, Tryz.ntmps104
   go_wp2_with fail
   refine (Cw _).mono ?_;rintro e w1 ⟨rfl, rfl⟩
   go_wp2_with fail
   go_ret;exact ⟨zE (by rw [HE.out, if_neg (by omega), if_neg (by omega), if_neg (by rw [HJ.out]; simp), h3']; simp), (Below.refl _ _).alloc lR _⟩
def vM (used : List (List UInt8)) (x : Nd) : Int := if yI (BA x.name) = false then 3 else if BA x.name ∈ used then 4 else if x.cust < 0 ∨ 1048576 < x.cust then 5 else if ym x.comp = false then 5 else 0
def xk (k : Int) (used : List (List UInt8)) (x : Dv) : Int := if yI (BA x.name) = false then 3 else if BA x.name ∈ used then 4 else if x.kind < 1 ∨ 6 < x.kind then 6 else if xW x.kind x.a x.b k = false then 7 else if ym x.comp = false then 5 else 0
def wo : List (List UInt8) → List Nd → Int
 | _, [] => 0
 | used, x :: r => if vM used x = 0 then wo (BA x.name :: used) r else vM used x
def vj : List (List UInt8) → List Nd → List (List UInt8)
 | used, [] => used
 | used, x :: r => vj (BA x.name :: used) r
def vg (k : Int) : List (List UInt8) → List Dv → Int
 | _, [] => 0
 | used, x :: r => if xk k used x = 0 then vg k (BA x.name :: used) r else xk k used x
def zR (ns : List Nd) (ds : List Dv) : Int := if 32 < ns.length then 1 else if 64 < ds.length then 1 else if wo [] ns = 0 then vg ns.length (vj [] ns) ds else wo [] ns
theorem tw {used : List (List UInt8)} {ns : List Nd} {x : Nd} (hx : ns[i]? = some x) (h0 : vM used x = 0) : wo used (ns.drop i) = wo (BA x.name :: used) (ns.drop (i + 1)) ∧ vj used (ns.drop i) = vj (BA x.name :: used) (ns.drop (i + 1)) := by
 obtain ⟨hi, rfl⟩ := List.getElem?_eq_some_iff.1 hx;rw [List.drop_eq_getElem_cons hi, wo, if_pos h0, vj];exact ⟨rfl, rfl⟩
theorem qo {used : List (List UInt8)} {ns : List Nd} {x : Nd} (hx : ns[i]? = some x) (h0 : vM used x ≠ 0) : wo used (ns.drop i) = vM used x := by
 obtain ⟨hi, rfl⟩ := List.getElem?_eq_some_iff.1 hx;rw [List.drop_eq_getElem_cons hi, wo, if_neg h0]
theorem uT {k : Int} {used : List (List UInt8)} {ds : List Dv} {x : Dv} (hx : ds[i]? = some x) (h0 : xk k used x = 0) : vg k used (ds.drop i) = vg k (BA x.name :: used) (ds.drop (i + 1)) := by
 obtain ⟨hi, rfl⟩ := List.getElem?_eq_some_iff.1 hx;rw [List.drop_eq_getElem_cons hi, vg, if_pos h0]
theorem qt {k : Int} {used : List (List UInt8)} {ds : List Dv} {x : Dv} (hx : ds[i]? = some x) (h0 : xk k used x ≠ 0) : vg k used (ds.drop i) = xk k used x := by
 obtain ⟨hi, rfl⟩ := List.getElem?_eq_some_iff.1 hx;rw [List.drop_eq_getElem_cons hi, vg, if_neg h0]
end
section
structure Lk where
 dev : Int
 pos : Int
 key : Int
def zu (a b : Lk) : Bool := decide (a.dev < b.dev) || (decide (a.dev = b.dev) && decide (a.key < b.key))
theorem uU (a b : Lk) : zu a b = true ↔ a.dev < b.dev ∨ (a.dev = b.dev ∧ a.key < b.key) := by simp [zu]
theorem sD {a b c : Lk} (h1 : zu a b = true) (h2 : zu b c = true) : zu a c = true := by rw [uU] at *; omega
theorem sE {a b : Lk} (h1 : zu a b = true) (h2 : zu b a = true) : False := by rw [uU] at *; omega
theorem qy {a b : Lk} (h : a.key ≠ b.key) (h1 : zu a b = false) : zu b a = true := by
 have h2 : ¬ zu a b = true := by rw [h1]; simp
 rw [uU] at *; omega
def rR (ds : List Dv) (d : Int) : Int := match ds[d.toNat]? with | some x => x.kind | none => 0
def zy (ds : List Dv) (k : Lk) : Int := if k.dev < 0 then 8 else if (ds.length : Int) ≤ k.dev then 8 else if rR ds k.dev = 5 then 6 else if k.pos ≠ 1 ∧ k.pos ≠ 2 then 10 else if k.key < 0 then 5 else if 65536 < k.key then 5 else 0
def tQ (k x : Lk) : Bool := decide (x.dev = k.dev) && !decide (x.pos = k.pos)
def yj (l : List Lk) (k : Lk) : Bool := l.any (tQ k)
def yq (l : List Lk) (q : Int) : Bool := l.any fun x => decide (x.key = q)
theorem uL {l : List Lk} {k : Lk} : yj l k = false ↔ ∀ x ∈ l, x.dev = k.dev → x.pos = k.pos := by
 unfold yj tQ;rw [List.any_eq_false]
 constructor
 ·intro h x hx hd;have := h x hx;simp [hd] at this;exact this
 ·intro h x hx;simp;exact h x hx
theorem pG {l : List Lk} {q : Int} : yq l q = false ↔ ∀ x ∈ l, x.key ≠ q := by
 unfold yq;rw [List.any_eq_false]
 constructor
 ·intro h x hx; have := h x hx; simpa using this
 ·intro h x hx; simpa using h x hx
def xD (ls : List Lk) (i : Nat) (k : Lk) : Bool := decide (0 < i) && !(match ls[i - 1]? with | some p => zu p k | none => true)
def xH (ds : List Dv) (ls : List Lk) (i : Nat) : Int := match ls[i]? with
 | none => 0
 | some k => if zy ds k ≠ 0 then zy ds k else if xD ls i k = true then 14 else if yj (ls.take i) k = true then 18 else if yq (ls.take i) k.key = true then 4 else 0
def yN (ds : List Dv) (ls : List Lk) : Nat → Int
 | 0 => 0
 | i + 1 => if yN ds ls i ≠ 0 then yN ds ls i else xH ds ls i
theorem yt {ds : List Dv} {ls : List Lk} {e : Int} (h : yN ds ls i = 0) (he : xH ds ls i = e) (h0 : e ≠ 0) : ∀ n, i < n → yN ds ls n = e
 | 0, hn => by omega
 | n + 1, hn => by
  rw [yN];rcases Nat.lt_succ_iff_lt_or_eq.1 hn with hlt | rfl
  ·rw [yt h he h0 n hlt, if_pos h0]
  ·rw [h, if_neg (by simp), he]
theorem uE {ds : List Dv} {ls : List Lk} : ∀ n, yN ds ls n = 0 ↔ ∀ i, i < n → xH ds ls i = 0
 | 0 => ⟨fun _ i hi => by omega, fun _ => rfl⟩
 | n + 1 => by
  rw [yN];have ih := uE (ds := ds) (ls := ls) n;by_cases h : yN ds ls n = 0
  ·rw [if_neg (by simp [h])]
   constructor
   ·intro he i hi;rcases Nat.lt_succ_iff_lt_or_eq.1 hi with hlt | rfl
    ·exact ih.1 h i hlt
    ·exact he
   ·intro Du; exact Du n (by omega)
  ·rw [if_pos h];exact ⟨fun e => absurd e h, fun Du => ih.2 fun i hi => Du i (by omega)⟩
theorem uF {ds : List Dv} {ls : List Lk} (h : yN ds ls i = 0) (he : xH ds ls i = 0) : yN ds ls (i + 1) = 0 := by rw [yN, h, if_neg (by simp), he]
def gi (a b : Lk) : Prop := zu a b = true ∧ (a.dev = b.dev → a.pos = b.pos) ∧ a.key ≠ b.key
def wQ (ds : List Dv) (ls : List Lk) : Prop := ls.length ≤ 128 ∧ (∀ k ∈ ls, zy ds k = 0) ∧ ls.Pairwise gi
theorem rY {ds : List Dv} {ls : List Lk} {k : Lk} (hk : ls[i]? = some k) : xH ds ls i = 0 ↔ zy ds k = 0 ∧ xD ls i k = false ∧ yj (ls.take i) k = false ∧ yq (ls.take i) k.key = false := by
 unfold xH;rw [hk];simp only;by_cases h1 : zy ds k = 0
 ·rw [if_neg (by simp [h1])];rcases h2 : xD ls i k with _ | _
  ·rw [if_neg (by simp)];rcases h3 : yj (ls.take i) k with _ | _
   ·rw [if_neg (by simp)];rcases h4 : yq (ls.take i) k.key with _ | _
    ·simp [h1]
    ·simp
   ·simp
  ·simp
 ·rw [if_pos h1]; simp [h1]
theorem iO {ds : List Dv} {ls : List Lk} (hl : ls.length ≤ 128) (h : yN ds ls ls.length = 0) : wQ ds ls := by
 have Du := (uE ls.length).1 h;have at' : ∀ i (hi : i < ls.length), zy ds ls[i] = 0 ∧ xD ls i ls[i] = false ∧ yj (ls.take i) ls[i] = false ∧ yq (ls.take i) ls[i].key = false := fun i hi => (rY (List.getElem?_eq_getElem hi)).1 (Du i hi)
 refine ⟨hl, fun k hk => ?_, ?_⟩
 ·obtain ⟨i, hi, rfl⟩ := List.mem_iff_getElem.1 hk;exact (at' i hi).1
 ·have step : ∀ i (hi : i + 1 < ls.length), zu ls[i] ls[i + 1] = true := by
   intro i hi;have := (at' (i + 1) hi).2.1;unfold xD at this;rw [Nat.add_sub_cancel, List.getElem?_eq_getElem (show i < ls.length by omega)] at this;simpa using this
  have AH : ∀ (j i : Nat) (hj : j < ls.length) (Ji : i < j), zu (ls[i]'(by omega)) ls[j] = true := by
   intro j
   induction j with
   | zero => intro i hj Ji; omega
   | succ j ih =>
    intro i hj Ji;rcases Nat.lt_succ_iff_lt_or_eq.1 Ji with hlt | rfl
    ·exact sD (ih i (by omega) hlt) (step j hj)
    ·exact step i hj
  rw [List.pairwise_iff_getElem];intro i j hi hj Ji;obtain ⟨_, _, h3, h4⟩ := at' j hj
  have hm : ls[i] ∈ ls.take j := by
   rw [List.mem_iff_getElem];exact ⟨i, by simp; omega, by simp⟩
  exact ⟨AH j i hj Ji, fun hd => uL.1 h3 _ hm hd, pG.1 h4 _ hm⟩
theorem jS {ds : List Dv} {ls : List Lk} (h : wQ ds ls) : yN ds ls ls.length = 0 := by
 obtain ⟨_, h2, h3⟩ := h;rw [uE];intro i hi;rw [rY (List.getElem?_eq_getElem hi)];rw [List.pairwise_iff_getElem] at h3
 have mem : ∀ x ∈ ls.take i, ∃ j, ∃ hj : j < ls.length, j < i ∧ x = ls[j] := by
  intro x hx;obtain ⟨j, hj, rfl⟩ := List.mem_iff_getElem.1 hx;simp at hj;exact ⟨j, by omega, by omega, by simp⟩
 refine ⟨h2 _ (List.getElem_mem hi), ?_, ?_, ?_⟩
 ·unfold xD;rcases Nat.eq_zero_or_pos i with rfl | h0
  ·rfl
  ·rw [List.getElem?_eq_getElem (show i - 1 < ls.length by omega)];simp only;rw [(h3 (i - 1) i (by omega) hi (by omega)).1];simp
 ·rw [uL];intro x hx hd;obtain ⟨j, hj, Mo, rfl⟩ := mem x hx;exact (h3 j i hj hi Mo).2.1 hd
 ·rw [pG];intro x hx;obtain ⟨j, hj, Mo, rfl⟩ := mem x hx;exact (h3 j i hj hi Mo).2.2
def wL : List Lk → Int → Option Int
 | [], _ => none
 | x :: l, d => if x.dev = d then some x.pos else wL l d
theorem mr {l : List Lk} {d p : Int} (h : wL l d = some p) : ∃ x ∈ l, x.dev = d ∧ x.pos = p := by
 induction l with
 | nil => cases h
 | cons x l ih =>
  rw [wL] at h;split at h
  ·next hd => exact ⟨x, List.mem_cons_self, hd, by injection h⟩
  ·obtain ⟨y, hy, h1⟩ := ih h; exact ⟨y, List.mem_cons_of_mem _ hy, h1⟩
theorem uD {l : List Lk} {d : Int} : wL l d = none ↔ ∀ x ∈ l, x.dev ≠ d := by
 induction l with
 | nil => simp [wL]
 | cons x l ih =>
  rw [wL];split
  ·next hd => simp [hd]
  ·next hd => rw [ih]; simp [hd]
theorem oF {ds : List Dv} {ls : List Lk} (h : wQ ds ls) {x y : Lk} (hx : x ∈ ls) (hy : y ∈ ls) (hd : x.dev = y.dev) : x.pos = y.pos := by
 obtain ⟨i, hi, rfl⟩ := List.mem_iff_getElem.1 hx;obtain ⟨j, hj, rfl⟩ := List.mem_iff_getElem.1 hy;have h3 := List.pairwise_iff_getElem.1 h.2.2;rcases Nat.lt_trichotomy i j with Ji | rfl | Ji
 ·exact (h3 i j hi hj Ji).2.1 hd
 ·rfl
 ·exact ((h3 j i hj hi Ji).2.1 hd.symm).symm
theorem ix {ds : List Dv} {ls : List Lk} (h : wQ ds ls) {x : Lk} (hx : x ∈ ls) : wL ls x.dev = some x.pos := by
 rcases hl : wL ls x.dev with _ | p
 ·exact absurd rfl (uD.1 hl x hx)
 ·obtain ⟨y, hy, h1, h2⟩ := mr hl;rw [← h2, oF h hy hx h1]
theorem iB {ds : List Dv} {ls : List Lk} (h : wQ ds ls) (k : Lk) : yj ls k = (match wL ls k.dev with | some p => !decide (p = k.pos) | none => false) := by
 rcases hl : wL ls k.dev with _ | p
 ·simp only;rw [uL];intro x hx hd;exact absurd hd (uD.1 hl x hx)
 ·obtain ⟨y, hy, h1, h2⟩ := mr hl;simp only;by_cases hp : p = k.pos
  ·rw [decide_eq_true hp, Bool.not_true, uL];intro x hx hd;rw [oF h hx hy (by omega), h2, hp]
  ·rw [decide_eq_false hp, Bool.not_false];rcases ho : yj ls k with _ | _
   ·exact absurd (by rw [← h2]; exact uL.1 ho y hy h1) hp
   ·rfl
def xy (k : Lk) (ls : List Lk) : List Lk := ls.takeWhile (fun x => zu x k) ++ k :: ls.dropWhile (fun x => zu x k)
theorem wH (k : Lk) (ls : List Lk) : (xy k ls).length = ls.length + 1 := by
 have := congrArg List.length (List.takeWhile_append_dropWhile (p := fun x => zu x k) (l := ls));rw [List.length_append] at this;unfold xy;rw [List.length_append, List.length_cons]; omega
theorem mz (k x : Lk) (ls : List Lk) : x ∈ xy k ls ↔ x = k ∨ x ∈ ls := by
 have h : ls.takeWhile (fun x => zu x k) ++ ls.dropWhile (fun x => zu x k) = ls := List.takeWhile_append_dropWhile;have hm : x ∈ ls ↔ x ∈ ls.takeWhile (fun x => zu x k) ∨ x ∈ ls.dropWhile (fun x => zu x k) := by rw [← List.mem_append, h]
 unfold xy;rw [List.mem_append, List.mem_cons, hm]
 constructor
 ·rintro (h | h | h)
  ·exact .inr (.inl h)
  ·exact .inl h
  ·exact .inr (.inr h)
 ·rintro (h | h | h)
  ·exact .inr (.inl h)
  ·exact .inl h
  ·exact .inr (.inr h)
theorem jM (k : Lk) (ls : List Lk) : (xy k ls).Perm (ls ++ [k]) := by
 unfold xy;have h : ls.takeWhile (fun x => zu x k) ++ ls.dropWhile (fun x => zu x k) = ls := List.takeWhile_append_dropWhile;refine List.perm_middle.trans ?_;rw [h];exact (List.perm_append_comm (l₁ := [k]) (l₂ := ls))
theorem qn {p : Lk → Bool} : ∀ {l : List Lk} {y : Lk} {t : List Lk}, l.dropWhile p = y :: t → p y = false
 | [], _, _, h => by simp at h
 | x :: l, y, t, h => by
  rw [List.dropWhile_cons] at h;split at h
  ·exact qn h
  ·next hp => injection h with h1; subst h1; simpa using hp
theorem rT {ds : List Dv} {ls : List Lk} {k : Lk} (h : wQ ds ls) (hk : zy ds k = 0) (hu : yq ls k.key = false) (ho : yj ls k = false) (hl : ls.length < 128) : wQ ds (xy k ls) := by
 have hs : ls.takeWhile (fun x => zu x k) ++ ls.dropWhile (fun x => zu x k) = ls := List.takeWhile_append_dropWhile;have hu' := pG.1 hu;have ho' := uL.1 ho;refine ⟨by rw [wH]; omega, fun x hx => ?_, ?_⟩
 ·rcases (mz k x ls).1 hx with rfl | hx
  ·exact hk
  ·exact h.2.1 x hx
 ·have hp := h.2.2;rw [← hs, List.pairwise_append] at hp;obtain ⟨p1, p2, p3⟩ := hp;have mem1 : ∀ x ∈ ls.takeWhile (fun x => zu x k), x ∈ ls := fun x hx => by rw [← hs]; exact List.mem_append_left _ hx
  have mem2 : ∀ x ∈ ls.dropWhile (fun x => zu x k), x ∈ ls := fun x hx => by rw [← hs]; exact List.mem_append_right _ hx
  have AB : ∀ x ∈ ls.takeWhile (fun x => zu x k), zu x k = true := fun x hx => by
   have := List.all_takeWhile (p := fun x => zu x k) (l := ls);exact List.all_eq_true.1 this x hx
  have AA : ∀ x ∈ ls.dropWhile (fun x => zu x k), zu k x = true := by
   rcases hd : ls.dropWhile (fun x => zu x k) with _ | ⟨y, t⟩
   ·intro x hx; cases hx
   ·have hy : zu k y = true := qy (hu' y (mem2 y (by rw [hd]; exact List.mem_cons_self))) (qn (p := fun x => zu x k) hd);intro x hx;rcases List.mem_cons.1 hx with rfl | hx
    ·exact hy
    ·rw [hd, List.pairwise_cons] at p2;exact sD hy (p2.1 x hx).1
  unfold xy;rw [List.pairwise_append, List.pairwise_cons];refine ⟨p1, ⟨fun x hx => ⟨AA x hx, fun e => (ho' x (mem2 x hx) e.symm).symm, fun e => hu' x (mem2 x hx) e.symm⟩, p2⟩, fun a ha b hb => ?_⟩;rcases List.mem_cons.1 hb with rfl | hb
  ·exact ⟨AB a ha, ho' a (mem1 a ha), hu' a (mem1 a ha)⟩
  ·exact p3 a ha b hb
theorem jR {ds : List Dv} {a b : List Lk} (h : wQ ds a) (hs : b.Sublist a) : wQ ds b := ⟨Nat.le_trans hs.length_le h.1, fun k hk => h.2.1 k (hs.subset hk), h.2.2.sublist hs⟩
theorem jH : ∀ {a b : List Lk}, a.Pairwise (fun x y => zu x y = true) → b.Pairwise (fun x y => zu x y = true) → (∀ x, x ∈ a ↔ x ∈ b) → a = b
 | [], [], _, _, _ => rfl
 | [], y :: b, _, _, h => absurd ((h y).2 List.mem_cons_self) (by simp)
 | x :: a, [], _, _, h => absurd ((h x).1 List.mem_cons_self) (by simp)
 | x :: a, y :: b, ha, hb, h => by
  rw [List.pairwise_cons] at ha hb
  have e : x = y := by
   have h1 := (h x).1 List.mem_cons_self;have h2 := (h y).2 List.mem_cons_self;rcases List.mem_cons.1 h1 with h1 | h1
   ·exact h1
   ·rcases List.mem_cons.1 h2 with h2 | h2
    ·exact h2.symm
    ·exact (sE (ha.1 y h2) (hb.1 x h1)).elim
  subst e
  congr 1
  refine jH ha.2 hb.2 fun z => ?_
  have hz := h z;simp only [List.mem_cons] at hz
  constructor
  ·intro hm;rcases hz.1 (.inr hm) with rfl | h1
   ·exact (sE (ha.1 z hm) (ha.1 z hm)).elim
   ·exact h1
  ·intro hm;rcases hz.2 (.inr hm) with rfl | h1
   ·exact (sE (hb.1 z hm) (hb.1 z hm)).elim
   ·exact h1
theorem wQ.sorted {ds : List Dv} {ls : List Lk} (h : wQ ds ls) : ls.Pairwise (fun x y => zu x y = true) := h.2.2.imp fun h => h.1
def wR (d q : Int) : List Lk → Option Nat
 | [] => none
 | x :: l => if x.dev = d ∧ x.key = q then some 0 else (wR d q l).map (· + 1)
end
section
open Go.RowKit
theorem yl : xJ Tryz.prog 22 3 1 8 := xJ.mk' (z := .int .i64 0) Tryz.underlying22 (by kernel_rfl) rfl (by decide)
theorem qf {α : Type} (f : α → Value) (l : List α) : (l.flatMap fun x => [f x]) = l.map f := by
 induction l with
 | nil => rfl
 | cons x l ih => rw [List.flatMap_cons, ih]; rfl
theorem yS (l : List Int) : zF l = l.map (Value.int .i64) := qf _ _
theorem yL (a b : List Int) : zF (a ++ b) = zF a ++ zF b := List.flatMap_append
theorem lr (l : List Int) (i : Nat) (x : Int) : (zF l).set i (.int .i64 x) = zF (l.set i x) := by rw [yS, yS, List.map_set]
theorem sV (n : Nat) (x : Int) : List.replicate n (Value.int .i64 x) = zF (List.replicate n x) := by rw [yS, List.map_replicate]
theorem vP (l : List Int) : (zF l).length = l.length := by rw [yS, List.length_map]
def zN (w : World) (base : Nat) (A : Option Addr) (n c : Nat) (l : List Int) : Prop := w.ownsRow base 3 1 (.slice A n c) n (zF l)
section
variable {w w' : World} {base n c i : Nat} {A : Option Addr} {l : List Int}
theorem zN.len (h : zN w base A n c l) : l.length = n := by have := h.1; rw [vP] at this; omega
theorem zN.sl (h : zN w base A n c l) : Sl w w.heap.size 1 A n c (zF l) := Sl.of_own h
theorem wJ (h : w.ownsRow base e 1 (.slice A n c) n xs) (hi : 0 < n) : ∃ g, A = some ⟨g, 0, none⟩ ∧ base ≤ g ∧ g < w.heap.size := by
 have hl := h.lt;rcases h.2 with ⟨hv, hn⟩ | ⟨g, cap, cur, hv, hb, _⟩
 ·omega
 ·injection hv with h1;subst h1;exact ⟨g, rfl, hb, (hl g rfl).2⟩
theorem zN.at (h : zN w base A n c l) (hi : i < n) : ∃ g x, A = some ⟨g, 0, none⟩ ∧ base ≤ g ∧ g < w.heap.size ∧ l[i]? = some x ∧ w.cell? ⟨g, i, none⟩ = some (.int .i64 x) ∧ w.frozen? ⟨g, i, none⟩ = false ∧ ∀ y, zN (w.setCell ⟨g, i, none⟩ (.int .i64 y)) base A n c (l.set i y) := by
 obtain ⟨g, rfl, h1, h2⟩ := wJ h (by omega);have hl := h.len;refine ⟨g, l[i]'(by omega), rfl, h1, h2, List.getElem?_eq_getElem _, ?_, h.frozenAt i, fun y => ?_⟩
 ·rw [h.cellAt i (by omega), yS, List.getElem?_map, List.getElem?_eq_getElem (by omega)]; rfl
 ·have := (h.stored i (.int .i64 y)).1
  rwa [lr] at this
theorem zM {size : Nat} {v : Value} (h : w.ownsRow base e size v n xs) (hb : bW w w') : w'.ownsRow base e size v n xs := h.kept (zI hb none) (Classical.em _)
theorem zN.later (h : zN w base A n c l) (hb : bW w w') : zN w' base A n c l := zM h hb
theorem zo (w : World) (p : Addr) (u : Value) : w.grownBy (w.setCell p u) (some p.block) := ⟨rfl, rfl, rfl, by simp [World.setCell], fun i _ hi => Below.heap_setCell w _ _ i (fun e => hi (by rw [e]))⟩
end
theorem vU (n : Nat) (hn : n ≤ 1000000) (w : World) : (Instr.makeSlice 22 (.int .i64 (n : Int)) (.int .i64 (n : Int))).run Tryz.prog w = .ok (.slice (some ⟨w.heap.size, 0, none⟩) n n) (w.alloc (.cells (zF (List.replicate n 0)).toArray 3)) := by
 rw [run_make_row' 22 3 (.int .i64 0) 8 Tryz.underlying22 (by kernel_rfl) rfl .i64 .i64 n (by omega) (by omega) w]
 congr 3
 apply Array.ext'
 rw [toList_madeCells_one, sV]
theorem pT {base n : Nat} (hb : base ≤ w.heap.size) (hn : n ≤ 9223372036854775807) (hl : xs.length = n) : (w.alloc (.cells xs.toArray e)).ownsRow base e 1 (.slice (some ⟨w.heap.size, 0, none⟩) n n) n xs :=
 ⟨by omega, .inr ⟨w.heap.size, n, xs.toArray, rfl, hb, heap_alloc_new w _, Nat.le_refl _, by simpa [maxLen] using hn, by simp [hl], by simp [← hl]⟩⟩
theorem tU {base n : Nat} (hb : base ≤ w.heap.size) (hn : n ≤ 1000000) : zN (w.alloc (.cells (zF (List.replicate n 0)).toArray 3)) base (some ⟨w.heap.size, 0, none⟩) n n (List.replicate n 0) := pT hb (by omega) (by rw [vP, List.length_replicate])
theorem yn (l : List Int) : ∀ u ∈ zF l, u.oneCell' = true := by
 intro u hu;rw [yS, List.mem_map] at hu;obtain ⟨x, _, rfl⟩ := hu;rfl
theorem xi (h : w.drew.grownBy w' row) : w.grownBy w' row := ⟨h.os, h.tape, h.output, h.size, h.block⟩
def sY (A : Option Addr) (c k : Nat) : Option Addr := if c = k then A else A.map (·.add k)
theorem vV (w : World) (A : Option Addr) (n c k : Nat) (hk : k ≤ n) : (Instr.sliceAt 22 (.slice A n c) (some (.int .i64 (k : Int))) none none).run Tryz.prog w = .ok (.slice (sY A c k) (n - k) (c - k)) w := by
 rw [run_sliceAt_slice _ _ _ _ _ _ (by kernel_rfl), run_slice_l _ _ _ _ _ (by kernel_rfl) _ _ (by omega) (by omega)];have : (sizeOf (Tryz.prog.elem 22)).run Tryz.prog w = .ok 1 w := by kernel_rfl
 rw [this];simp [sliced, sY, Result.andThen]
def Fe (w : World) (base : Nat) (e : TypeId) (A : Option Addr) (n c : Nat) (xs : List Value) : Prop :=
 xs.length = n ∧ n ≤ c ∧ c ≤ 9223372036854775807 ∧ (∀ a, A = some a → base ≤ a.block ∧ a.block < w.heap.size) ∧
 (0 < c → ∃ g off cur, A = some ⟨g, off, none⟩ ∧ w.heap[g]? = some (.cells cur e (0, 0)) ∧ off + c ≤ cur.size ∧ ∀ j u, xs[j]? = some u → cur[off + j]? = some u)
section
variable {w w' : World} {base n c k : Nat} {A : Option Addr} {xs : List Value} {e : TypeId}
theorem Fe.le (h : Fe w base e A n c xs) : n ≤ c ∧ c ≤ 9223372036854775807 := ⟨h.2.1, h.2.2.1⟩
theorem Fe.lt (h : Fe w base e A n c xs) : ∀ g, (Value.slice A n c).ownBlock = some g → base ≤ g ∧ g < w.heap.size := by
 intro g hg;cases A with
 | none => cases hg
 | some a => have := h.2.2.2.1 a rfl; simp [Value.ownBlock] at hg; subst hg; exact this
theorem Fe.of_own (h : w.ownsRow base e 1 (.slice A n c) n xs) : Fe w base e A n c xs := by
 have hl := h.lt;have hx := h.1;rcases h.2 with ⟨hv, hn⟩ | ⟨g, cap, cur, hv, hb, hh, Ir, hm, hs, ht⟩
 ·injection hv with h1 h2 h3;subst h1 h3 hn;exact ⟨by omega, Nat.le_refl _, by omega, (fun a e => by cases e), fun h => absurd h (by omega)⟩
 ·injection hv with h1 h2 h3;subst h1 h3;refine ⟨by omega, Ir, by simpa [maxLen] using hm, fun a e => ?_, fun _ => ⟨g, 0, cur, rfl, hh, by omega, fun j u hu => ?_⟩⟩
  ·injection e with e; subst e; exact hl g rfl
  ·rw [Nat.zero_add];have hj : j < n := by have := (List.getElem?_eq_some_iff.1 hu).1; omega
   rw [← ht, List.getElem?_take, if_pos (by omega)] at hu;simpa using hu
theorem Fe.kept (h : Fe w base e A n c xs) (hg : w.grownBy w' row) (hne : (Value.slice A n c).ownBlock = none ∨ (Value.slice A n c).ownBlock ≠ row) : Fe w' base e A n c xs := by
 obtain ⟨h1, h2, h3, h4, h5⟩ := h;refine ⟨h1, h2, h3, fun a ha => ⟨(h4 a ha).1, Nat.lt_of_lt_of_le (h4 a ha).2 hg.size⟩, fun hc => ?_⟩;obtain ⟨g, off, cur, rfl, hh, ho, hx⟩ := h5 hc;refine ⟨g, off, cur, rfl, (hg.block g (h4 _ rfl).2 (fun e => ?_)).trans hh, ho, hx⟩;rcases hne with h | h
 ·simp [Value.ownBlock] at h
 ·exact h e
theorem Fe.later (h : Fe w base e A n c xs) (hb : bW w w') : Fe w' base e A n c xs := h.kept (zI hb none) (Classical.em _)
theorem Fe.alloc (h : Fe w base e A n c xs) (o : Obj) : Fe (w.alloc o) base e A n c xs := h.later ((Below.refl _ _).alloc lR _)
theorem Fe.at (h : Fe w base e A n c xs) (hk : k < n) : ∃ g off u, A = some ⟨g, off, none⟩ ∧ xs[k]? = some u ∧ w.cell? ⟨g, off + k, none⟩ = some u := by
 obtain ⟨h1, h2, h3, h4, h5⟩ := h;obtain ⟨g, off, cur, rfl, hh, ho, hx⟩ := h5 (by omega);have e1 : xs[k]? = some (xs[k]'(by omega)) := List.getElem?_eq_getElem (by omega);exact ⟨g, off, _, rfl, e1, (cell_of_row w g _ cur e (0, 0) hh).trans (hx k _ e1)⟩
theorem nG (A : Option Addr) (n c n' c' k : Nat) : (Value.slice (sY A c k) n' c').ownBlock = (Value.slice A n c).ownBlock := by
 unfold sY;cases A with
 | none => split <;> rfl
 | some a =>
  split
  ·rfl
  ·simp [Value.ownBlock, Addr.add]; split <;> rfl
theorem Fe.cut (h : Fe w base e A n c xs) (hk : k ≤ n) : Fe w base e (sY A c k) (n - k) (c - k) (xs.drop k) := by
 obtain ⟨h1, h2, h3, h4, h5⟩ := h;refine ⟨by simp; omega, by omega, by omega, fun a ha => ?_, fun hc => ?_⟩
 ·cases A with
  | none => unfold sY at ha; split at ha <;> cases ha
  | some b =>
   have := h4 b rfl
   have hb : a.block = b.block := by
    have := nG (some b) n c n c k;rw [ha] at this;simpa [Value.ownBlock] using this
   rw [hb]; exact this
 ·obtain ⟨g, off, cur, rfl, hh, ho, hx⟩ := h5 (by omega);refine ⟨g, off + k, cur, by unfold sY; rw [if_neg (by omega), Option.map_some, xP], hh, by omega, fun j u hu => ?_⟩;rw [List.getElem?_drop] at hu;have := hx (k + j) u hu
  rwa [show off + k + j = off + (k + j) by omega]
end
end
section
open Go.RowKit
def Lk.cells (k : Lk) : List Value := [.int .i64 k.dev, .int .i64 k.pos, .int .i64 k.key]
theorem yO : xJ Tryz.prog 27 87 3 24 := xJ.mk' (z := .agg #[.int .i64 0, .int .i64 0, .int .i64 0]) Tryz.underlying27 (by kernel_rfl) rfl (by decide)
def ze (w : World) (base : Nat) (A : Option Addr) (n c : Nat) (ls : List Lk) : Prop := w.ownsRow base 87 3 (.slice A n c) n (ls.flatMap Lk.cells)
section
variable {w w' : World} {base n c B : Nat} {A : Option Addr} {ls : List Lk}
theorem ze.sl (h : ze w base A n c ls) : Sl w w.heap.size 3 A n c (ls.flatMap Lk.cells) := Sl.of_own h
theorem ze.len (h : ze w base A n c ls) : ls.length = n := (Sl.of_own h).len (fun _ => rfl) (by decide)
theorem ze.later (h : ze w base A n c ls) (hb : bW w w') : ze w' base A n c ls := zM h hb
theorem yR (l : List Lk) : ∀ u ∈ l.flatMap Lk.cells, u.oneCell' = true := by
 intro u hu;rw [List.mem_flatMap] at hu;obtain ⟨x, _, hx⟩ := hu;simp only [Lk.cells, List.mem_cons, List.not_mem_nil, or_false] at hx;rcases hx with rfl | rfl | rfl <;> rfl
theorem Sl.lock (h : Sl w B 3 A n c (ls.flatMap Lk.cells)) (hi : i < n) : ∃ b off d p q, A = some ⟨b, off, none⟩ ∧ b < B ∧ ls[i]? = some ⟨d, p, q⟩ ∧ w.cell? ⟨b, off + i * 3, none⟩ = some (.int .i64 d) ∧ w.cell? ⟨b, off + i * 3 + 1, none⟩ = some (.int .i64 p) ∧ w.cell? ⟨b, off + i * 3 + 2, none⟩ = some (.int .i64 q) := by
 obtain ⟨b, off, ⟨d, p, q⟩, e, hb, hx, hc⟩ := h.at (fun _ => rfl) (by decide) hi;exact ⟨b, off, d, p, q, e, hb, hx, hc 0 _ rfl, hc 1 _ rfl, hc 2 _ rfl⟩
end
end
section
open Go.RowKit
structure Sp where
 kind : Int
 dev : Int
 node : Int
 pos : Int
 key : Int
deriving DecidableEq
def Sp.cells (s : Sp) : List Value := [.int .i64 s.kind, .int .i64 s.dev, .int .i64 s.node, .int .i64 s.pos, .int .i64 s.key]
theorem Sp.len (s : Sp) : s.cells.length = 5 := rfl
def Sp.posB (s : Sp) : Bool := s.kind == 3 || s.kind == 6
def Sp.keyB (s : Sp) : Bool := s.kind == 3 || s.kind == 4
def zc (nn nd : Nat) (s : Sp) : Int :=
 if s.kind < 1 ∨ 6 < s.kind then 6
 else if s.kind ≠ 5 ∧ (s.dev < 0 ∨ (nd : Int) ≤ s.dev) then 8
 else if s.kind = 5 ∧ (s.node < 0 ∨ (nn : Int) ≤ s.node) then 7
 else if s.posB = true ∧ s.pos ≠ 1 ∧ s.pos ≠ 2 then 10
 else if s.keyB = true ∧ (s.key < 0 ∨ 65536 < s.key) then 5
 else if s.kind = 5 ∧ s.dev ≠ 0 ∨ s.kind ≠ 5 ∧ s.node ≠ 0 ∨ s.posB = false ∧ s.pos ≠ 0 ∨ s.keyB = false ∧ s.key ≠ 0 then 14
 else 0
def zn (nn nd : Nat) : List Sp → Int
 | [] => 0
 | s :: r => if zc nn nd s ≠ 0 then zc nn nd s else zn nn nd r
def yc (ns : List Nd) (ds : List Dv) (nm : ByteArray) (xs : List Sp) : Int :=
 if zR ns ds ≠ 0 then zR ns ds else if yI (BA nm) = false then 3 else if 64 < xs.length then 1 else zn ns.length ds.length xs
end
section
open Go.RowKit
def xn (x : Dv) (v : Int) : Int := if zV x.kind = false then -1 else if x.a = v then x.b else if x.b = v then x.a else -1
theorem mU (nm : ByteArray) (kind a b comp v : Int) (w : World) : Calls Tryz.prog 141 #[.agg #[.string nm, .int .i64 kind, .int .i64 a, .int .i64 b, .int .i64 comp], .int .i64 v] w fun e w' => e = .returned (.int .i64 (xn ⟨nm, kind, a, b, comp⟩ v)) ∧ bW w w' := by
 have HE : Hid (xn ⟨nm, kind, a, b, comp⟩ v = if zV kind = false then -1 else if a = v then b else if b = v then a else -1) := rfl;have Cw := iD (xx kind);rcases hj : zV kind with _ | _
 ·rw [hj] at Cw;have HJ := iD hj; clear hj
  go_enter Tryz.func141, Tryz.ntmps141
  go_wp2_with fail
  refine (Cw _).mono ?_;rintro e w1 ⟨rfl, rfl⟩
  go_wp2_with fail
  go_ret;exact ⟨zC (by rw [HE.out, if_pos HJ.out]), (Below.refl _ _).alloc lR _⟩
 ·rw [hj] at Cw;have HJ := iD hj; clear hj;by_cases h1 : a = v
  ·subst h1;have q : (a == a) = true := by simp
   go_enter Tryz.func141, Tryz.ntmps141
   go_wp2_with fail
   refine (Cw _).mono ?_;rintro e w1 ⟨rfl, rfl⟩
   go_wp2_with fail
   go_ret;exact ⟨zC (by rw [HE.out, if_neg (by rw [HJ.out]; simp)]; simp), (Below.refl _ _).alloc lR _⟩
  ·have q : (a == v) = false := by simpa using h1
   by_cases h2 : b = v
   ·subst h2;have q2 : (b == b) = true := by simp
    go_enter Tryz.func141, Tryz.ntmps141
    go_wp2_with fail
    refine (Cw _).mono ?_;rintro e w1 ⟨rfl, rfl⟩
    go_wp2_with fail
    go_ret;exact ⟨zC (by rw [HE.out, if_neg (by rw [HJ.out]; simp), if_neg h1]; simp), (Below.refl _ _).alloc lR _⟩
   ·have q2 : (b == v) = false := by simpa using h2
    go_enter Tryz.func141, Tryz.ntmps141
    go_wp2_with fail
    refine (Cw _).mono ?_;rintro e w1 ⟨rfl, rfl⟩
    go_wp2_with fail
    go_ret;exact ⟨zC (by rw [HE.out, if_neg (by rw [HJ.out]; simp), if_neg h1, if_neg h2]), (Below.refl _ _).alloc lR _⟩
def wP (w : World) (l : List Int) (e : Ending) (w' : World) : Prop := ∃ (A : Option Addr) (c : Nat), e = .returned (.slice A l.length c) ∧ Hid (zN w' w.heap.size A l.length c l) ∧ Hid (bW w w')
theorem qL (A : Option Addr) (n c : Nat) (w : World) : (binOp BinOp.eql 22 (.slice A n c) (.slice none 0 0)).run Tryz.prog w = .ok (.bool A.isNone) w := by
 cases A <;> kernel_rfl
theorem xO (A : Option Addr) (n c B : Nat) (l : List Int) (w : World) (hs : Sl w B 1 A n c (zF l)) (hB : B ≤ w.heap.size) (hn : n ≤ 1000000) : Calls Tryz.prog 40 #[.slice A n c] w (wP w l) := by
 have hl := hs.len (fun _ => rfl) (by decide);have HL := iD hl; clear hl;cases A with
 | none =>
  have h0 : n = 0 := by have := hs.2.2.2.1 rfl; have := hs.le; omega
  subst h0;have PN : l = [] := List.eq_nil_of_length_eq_zero HL.out;subst PN;clear hs HL;have Gm := qL none 0 c w;simp only [Option.isNone_none] at Gm
  go_enter Tryz.func40, Tryz.ntmps40
  go_wp2_with fail
  go_ret;exact ⟨none, 0, rfl, World.ownsRow_nil _ _ _ _, Below.refl _ _⟩
 | some a =>
  have HS := iD hs;have hH := hs.le;clear hs;have Gm := qL (some a) n c w;simp only [Option.isNone_some] at Gm
  go_enter Tryz.func40, Tryz.ntmps40
  have h1 : ∀ u ∈ zF l, u.oneCell' = true := yn l
  have BD := iD (HS.alloc hB (.cells #[] 3))
  go_wp2_with (at_builtin; go_must (refine zL rfl (.tmp 5) (.tmp 6) rfl yl (base := w.heap.size) (n := 0) (xs := []) (by rfl) (pT (xs := []) lR (by decide) rfl) (by rfl) BD h1 (by omega) (by omega) (by simp) ?_; intro A' cap' w2 EP Gs MR; simp only [Nat.zero_add, List.nil_append] at EP Gs; have HO := iD EP; have HG := iD Gs; clear EP Gs MR))
  go_ret;obtain rfl : l.length = n := HL.out;exact ⟨A', cap', rfl, HO, ((Below.refl _ _).alloc lR _).trans (yX HG lR (by simp))⟩
end
end Go.Proofs.YtddddlhgaeameaaGreatDoor
