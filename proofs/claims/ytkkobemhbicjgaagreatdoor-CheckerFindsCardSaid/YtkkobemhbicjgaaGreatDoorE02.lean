import Derived.Test.YtkkobemhbicjgaaGreatDoorE01
import Derived.Maps.OwnOps
import Derived.Maps.Views
import Derived.Maps.Keyed
import Derived.Deep.OwnRows
import Derived.Deep.AppendSrc
import Derived.Deep.LoopGhost
set_option maxRecDepth 100000
set_option maxHeartbeats 1000000
namespace Go.Proofs.YtkkobemhbicjgaaGreatDoor
section
open Go.RowKit
def tA (b : Int) (first : Bool) : Bool := if 65 ≤ b ∧ b ≤ 90 then true else if 97 ≤ b ∧ b ≤ 122 then true else if 48 ≤ b ∧ b ≤ 57 then !first else if b = 95 then !first else false
theorem jb (b : Int) (first : Bool) (w : World) (hl : Laid w) (hb0 : 0 ≤ b) (hb1 : b < 256) : Calls Tryz.prog 139 #[.int .u8 b, .bool first] w fun e w' => e = .returned (.bool (tA b first)) ∧ Below w.heap.size w w' := by
 have c0 := hl.1 0 _ rfl
 have c1 := hl.1 1 _ rfl
 have c2 := hl.1 2 _ rfl
 have c3 := hl.1 3 _ rfl
 have c4 := hl.1 4 _ rfl
 have c5 := hl.1 5 _ rfl
 have c6 := hl.1 6 _ rfl
 have c7 := hl.1 7 _ rfl
 have c8 := hl.1 8 _ rfl
 have c9 := hl.1 9 _ rfl
 have c10 := hl.1 10 _ rfl
 have c11 := hl.1 11 _ rfl
 clear hl
 go_enter Tryz.func139, Tryz.ntmps139
 go_wp2_with fail
 clear c0 c1 c2 c3 c4 c5 c6 c7 c8 c9 c10 c11
 have i0 : ∀ w, (Instr.index 199 (.agg xc.toArray) (.int .i64 0)).run Tryz.prog w = .ok (.agg #[.int .u8 65, .int .u8 90, .bool true]) w := fun _ => by kernel_rfl
 have i1 : ∀ w, (Instr.index 199 (.agg xc.toArray) (.int .i64 1)).run Tryz.prog w = .ok (.agg #[.int .u8 97, .int .u8 122, .bool true]) w := fun _ => by kernel_rfl
 have i2 : ∀ w, (Instr.index 199 (.agg xc.toArray) (.int .i64 2)).run Tryz.prog w = .ok (.agg #[.int .u8 48, .int .u8 57, .bool false]) w := fun _ => by kernel_rfl
 have i3 : ∀ w, (Instr.index 199 (.agg xc.toArray) (.int .i64 3)).run Tryz.prog w = .ok (.agg #[.int .u8 95, .int .u8 95, .bool false]) w := fun _ => by kernel_rfl
 simp only [xc] at i0 i1 i2 i3
 have HF : Hid (tA b first = if 65 ≤ b ∧ b ≤ 90 then true else if 97 ≤ b ∧ b ≤ 122 then true else if 48 ≤ b ∧ b ≤ 57 then !first else if b = 95 then !first else false) := rfl
 go_loopw [8] (fun i wr => ∃ (i' : Nat), i = .int .i64 i' ∧ i' ≤ 4 ∧ Hid (Below w.heap.size w wr) ∧ Hid ((0 < i' → ¬ (65 ≤ b ∧ b ≤ 90)) ∧ (1 < i' → ¬ (97 ≤ b ∧ b ≤ 122)) ∧ (2 < i' → ¬ (48 ≤ b ∧ b ≤ 57)) ∧ (3 < i' → ¬ b = 95))) (fun i _ => 4 - (intOf i).toNat)
 case atStart => exact ⟨0, rfl, Nat.zero_le _, Below.refl _ _, by unfold Hid; refine ⟨?_, ?_, ?_, ?_⟩ <;> intro h <;> omega⟩
 case round =>
  obtain ⟨i, rfl, hi, hbl, hno⟩ := hrel
  have hsz := hbl.out.size
  rcases (show i = 0 ∨ i = 1 ∨ i = 2 ∨ i = 3 ∨ i = 4 by omega) with rfl | rfl | rfl | rfl | rfl
  ·by_cases h1 : 65 ≤ b
   ·by_cases h2 : b ≤ 90
    ·go_wp2_with fail
     go_ret
     exact ⟨zG (by rw [HF.out, if_pos ⟨h1, h2⟩]), hbl.out.alloc hsz _⟩
    ·have h2' : decide (b ≤ 90) = false := by simpa using h2
     go_wp2_with fail
     go_roundw
     case rel => exact ⟨1, rfl, by decide, hbl.out.alloc hsz _, by have hn := hno.out; unfold Hid; refine ⟨?_, ?_, ?_, ?_⟩ <;> intro h <;> omega⟩
     case measure => decide
   ·have h1' : decide (65 ≤ b) = false := by simpa using h1
    go_wp2_with fail
    go_roundw
    case rel => exact ⟨1, rfl, by decide, hbl.out.alloc hsz _, by have hn := hno.out; unfold Hid; refine ⟨?_, ?_, ?_, ?_⟩ <;> intro h <;> omega⟩
    case measure => decide
  ·by_cases h1 : 97 ≤ b
   ·by_cases h2 : b ≤ 122
    ·go_wp2_with fail
     go_ret
     exact ⟨zG (by rw [HF.out, if_neg (hno.out.1 (by decide)), if_pos ⟨h1, h2⟩]), hbl.out.alloc hsz _⟩
    ·have h2' : decide (b ≤ 122) = false := by simpa using h2
     go_wp2_with fail
     go_roundw
     case rel => exact ⟨2, rfl, by decide, hbl.out.alloc hsz _, by have hn := hno.out; unfold Hid; refine ⟨?_, ?_, ?_, ?_⟩ <;> intro h <;> omega⟩
     case measure => decide
   ·have h1' : decide (97 ≤ b) = false := by simpa using h1
    go_wp2_with fail
    go_roundw
    case rel => exact ⟨2, rfl, by decide, hbl.out.alloc hsz _, by have hn := hno.out; unfold Hid; refine ⟨?_, ?_, ?_, ?_⟩ <;> intro h <;> omega⟩
    case measure => decide
  ·by_cases h1 : 48 ≤ b
   ·by_cases h2 : b ≤ 57
    ·go_wp2_with fail
     go_ret
     exact ⟨zG (by rw [HF.out, if_neg (hno.out.1 (by decide)), if_neg (hno.out.2.1 (by decide)), if_pos ⟨h1, h2⟩]), hbl.out.alloc hsz _⟩
    ·have h2' : decide (b ≤ 57) = false := by simpa using h2
     go_wp2_with fail
     go_roundw
     case rel => exact ⟨3, rfl, by decide, hbl.out.alloc hsz _, by have hn := hno.out; unfold Hid; refine ⟨?_, ?_, ?_, ?_⟩ <;> intro h <;> omega⟩
     case measure => decide
   ·have h1' : decide (48 ≤ b) = false := by simpa using h1
    go_wp2_with fail
    go_roundw
    case rel => exact ⟨3, rfl, by decide, hbl.out.alloc hsz _, by have hn := hno.out; unfold Hid; refine ⟨?_, ?_, ?_, ?_⟩ <;> intro h <;> omega⟩
    case measure => decide
  ·by_cases h1 : 95 ≤ b
   ·by_cases h2 : b ≤ 95
    ·go_wp2_with fail
     go_ret
     exact ⟨zG (by rw [HF.out, if_neg (hno.out.1 (by decide)), if_neg (hno.out.2.1 (by decide)), if_neg (hno.out.2.2.1 (by decide)), if_pos (by omega)]), hbl.out.alloc hsz _⟩
    ·have h2' : decide (b ≤ 95) = false := by simpa using h2
     go_wp2_with fail
     go_roundw
     case rel => exact ⟨4, rfl, by decide, hbl.out.alloc hsz _, by have hn := hno.out; unfold Hid; refine ⟨?_, ?_, ?_, ?_⟩ <;> intro h <;> omega⟩
     case measure => decide
   ·have h1' : decide (95 ≤ b) = false := by simpa using h1
    go_wp2_with fail
    go_roundw
    case rel => exact ⟨4, rfl, by decide, hbl.out.alloc hsz _, by have hn := hno.out; unfold Hid; refine ⟨?_, ?_, ?_, ?_⟩ <;> intro h <;> omega⟩
    case measure => decide
  ·go_wp2_with fail
   go_ret
   exact ⟨zG (by rw [HF.out, if_neg (hno.out.1 (by decide)), if_neg (hno.out.2.1 (by decide)), if_neg (hno.out.2.2.1 (by decide)), if_neg (hno.out.2.2.2 (by decide))]), hbl.out⟩
def yl (s : List UInt8) : Bool := decide (∀ i, i < s.length → tA (s.getD i 0).toNat (i == 0) = true) && decide (1 ≤ s.length) && decide (s.length ≤ 12)
theorem sM (s : ByteArray) (w : World) (hl : Laid w) (hs : s.size ≤ 9223372036854775807) : Calls Tryz.prog 110 #[.string s] w fun e w' => e = .returned (.bool (yl (toL s))) ∧ Below w.heap.size w w' := by
 have HL := iD hl; clear hl
 have HN : Hid (yl (toL s) = (decide (∀ i, i < s.size → tA ((toL s).getD i 0).toNat (i == 0) = true) && decide (1 ≤ s.size) && decide (s.size ≤ 12))) := by unfold Hid; rw [yl, rv]
 go_enter Tryz.func110, Tryz.ntmps110
 go_wp2_with fail
 go_loopw [6] (fun i wr => ∃ (i' : Nat), i = .int .i64 i' ∧ i' ≤ s.size ∧ Hid (Below w.heap.size w wr) ∧ Hid (∀ j, j < i' → tA ((toL s).getD j 0).toNat (j == 0) = true)) (fun i _ => s.size - (intOf i).toNat)
 case atStart => exact ⟨0, rfl, Nat.zero_le _, Below.refl _ _, fun j hj => absurd hj (by omega)⟩
 case round =>
  obtain ⟨i, rfl, hi, hbl, hok⟩ := hrel
  have hsz := hbl.out.size
  by_cases hlt : i < s.size
  ·have HF := iD (fun W h => jb ((s[i]).toNat : Int) (i == 0) W h (by omega) (by have := (s[i]).toNat_lt; omega))
   have hg : (toL s).getD i 0 = s[i] := by rw [List.getD_eq_getElem?_getD, List.getElem?_eq_getElem (by rw [rv]; exact hlt)]; rfl
   have HG := iD hg; clear hg
   have hi0 : ((i : Int) == 0) = (i == 0) := by rw [Bool.eq_iff_iff]; simp
   go_wp2_with fail
   refine (HF.out _ (HL.out.below hbl.out lR)).mono ?_
   rintro e w1 ⟨rfl, hb1⟩
   have HB1 := iD (hbl.out.trans (hb1.mono hsz))
   clear hb1 hi0
   rcases hf : tA ((s[i]).toNat : Int) (i == 0) with _ | _
   ·go_wp2_with fail
    go_ret
    refine ⟨zG ?_, HB1.out⟩
    rw [HN.out, decide_eq_false (fun h => by have := h i hlt; rw [HG.out, hf] at this; cases this)]
    rfl
   ·have HFF := iD hf; clear hf
    go_wp2_with fail
    go_roundw
    case rel =>
     refine ⟨i + 1, by go_num, by omega, HB1, fun j hj => ?_⟩
     rcases Nat.lt_succ_iff_lt_or_eq.1 hj with h | h
     ·exact hok.out j h
     ·rw [h, HG.out]; exact HFF.out
    case measure => simp [intOf]; omega
  ·obtain rfl : i = s.size := by omega
   have q0 : decide (s.size < s.size) = false := by simp
   have HT : Hid (decide (∀ i, i < s.size → tA ((toL s).getD i 0).toNat (i == 0) = true) = true) := by unfold Hid; exact decide_eq_true hok.out
   by_cases h1 : 1 ≤ s.size
   ·have q1 : decide ((1 : Int) ≤ (s.size : Int)) = true := by simp; omega
    go_wp2_with fail
    go_ret
    exact ⟨zG (by rw [HN.out, HT.out, decide_eq_true h1]; simp; omega), hbl.out⟩
   ·have q1 : decide ((1 : Int) ≤ (s.size : Int)) = false := by simp; omega
    go_wp2_with fail
    go_ret
    exact ⟨zG (by rw [HN.out, HT.out, decide_eq_false h1]; rfl), hbl.out⟩
def posB (p : Int) : Bool := decide (p = 1) || decide (p = 2)
end
section
open Go.RowKit
open Go.Maps (Keyed)
theorem mF : Keyed Tryz.prog 9 := Go.Maps.string_keyed Tryz.underlying9
theorem uH {H : Type} {P : Program} {e : TypeId} (he : P.underlying e = some .bool) {v : Value} {z : DataW H × List MemPlace} (h : plainElem P e v = some z) : ∃ x, v = .bool x ∧ z = (.lit (.bool x), []) := by
 unfold plainElem at h
 rw [he] at h
 cases v <;> simp at h
 exact ⟨_, rfl, h.symm⟩
def yd (w : World) (b : Nat) (names : List (List UInt8)) : Prop :=
 ∃ (D : DataW Unit), w.ownsMap Tryz.prog 9 (plainElem Tryz.prog 4) b names.length D ∧ Go.Maps.IsMap D ∧ ∀ k, D.atKey (.string k) (.lit (.bool false)) = .lit (.bool (decide (k ∈ names)))
theorem mH (s : ByteArray) (hs : s.size ≤ 9223372036854775807) : keyOf Tryz.prog 9 (.string s) = some (.string (toL s)) := by
 have hu : Tryz.prog.underlying 9 = some .string := Tryz.underlying9
 simp [keyOf, mapKey, hu, maxLen, hs, toL]
theorem ml (w : World) : yd (w.alloc (.map #[] 0)) w.heap.size [] := ⟨.map [], World.ownsMap_made _ _ _ _, ⟨[], rfl⟩, fun k => by simp [DataW.atKey]⟩
theorem yd.lt {w : World} {b : Nat} {names : List (List UInt8)} (h : yd w b names) : b < w.heap.size := by
 obtain ⟨D, h1, _⟩ := h
 exact h1.lt
theorem yd.kept {w w' : World} {b : Nat} {names : List (List UInt8)} {row : Option Nat} (h : yd w b names) (hg : w.grownBy w' row) (hne : some b ≠ row) : yd w' b names := by
 obtain ⟨D, h1, h2, h3⟩ := h
 exact ⟨D, h1.kept hg hne, h2, h3⟩
theorem yd.below {w w' : World} {b : Nat} {names : List (List UInt8)} (h : yd w b names) (hb : Below w.heap.size w w') : yd w' b names := h.kept (zL hb none) (by simp)
theorem yd.alloc {w : World} {b : Nat} {names : List (List UInt8)} (h : yd w b names) (o : Obj) : yd (w.alloc o) b names := h.below ((Below.refl _ _).alloc lR _)
theorem yd.look {w : World} {b : Nat} {names : List (List UInt8)} (h : yd w b names) (s : ByteArray) (hs : s.size ≤ 9223372036854775807) :
 (Instr.lookup 173 (.map (some b)) (.string s) false).run Tryz.prog w = .ok (.bool (decide (toL s ∈ names))) w := by
 obtain ⟨D, h1, h2, h3⟩ := h
 obtain ⟨v, ps, hr, hv⟩ := h1.lookup mF Tryz.underlying173 (z := .bool false) (by kernel_rfl) (plainElem_bool Tryz.underlying4 false) (mH s hs)
 obtain ⟨x, rfl, hx⟩ := uH Tryz.underlying4 hv
 rw [h3] at hx
 simp only [Prod.mk.injEq, DataW.lit.injEq, Lit.bool.injEq] at hx
 rw [hr, hx.1]
theorem yd.put {w : World} {b : Nat} {names : List (List UInt8)} (h : yd w b names) (hn : names.length ≤ 1000000) (s : ByteArray) (hs : s.size ≤ 9223372036854775807) :
 ∃ w', (Instr.mapUpdate 173 (.map (some b)) (.string s) (.bool true)).run Tryz.prog w = .ok () w' ∧ yd w' b (toL s :: names) ∧ w.grownBy w' (some b) := by
 obtain ⟨D, h1, h2, h3⟩ := h
 obtain ⟨w', hr, ho, hg⟩ := h1.update mF Tryz.underlying173 (by unfold maxLen; omega) (mH s hs) (plainElem_bool Tryz.underlying4 true)
 refine ⟨w', hr, ⟨_, ho, ?_, fun k => ?_⟩, hg⟩
 ·obtain ⟨es, rfl⟩ := h2
  exact ⟨_, rfl⟩
 ·by_cases e : k = toL s
  ·rw [e, Go.Maps.atKey_put_same h2 (by simp [WideAt.IsKeyLit])]; simp
  ·rw [Go.Maps.atKey_put_other (fun e' => e (by injection e')), h3]; simp [e]
end
section
open Go.RowKit
structure Nd where
 name : ByteArray
 cust : Int
 comp : Int
structure Dv where
 name : ByteArray
 kind : Int
 a : Int
 b : Int
 comp : Int
def Nd.cells (x : Nd) : List Value := [.string x.name, .int .i64 x.cust, .int .i64 x.comp]
def Dv.cells (x : Dv) : List Value := [.string x.name, .int .i64 x.kind, .int .i64 x.a, .int .i64 x.b, .int .i64 x.comp]
def vC (n : Int) : Bool := decide (0 ≤ n) && decide (n ≤ 7)
def zc (k : Int) : Bool := decide (1 ≤ k) && decide (k ≤ 3)
def wI (kind a b k : Int) : Bool := if a < 0 then false else if k ≤ a then false else if zc kind = false then decide (b = -1) else decide (0 ≤ b) && decide (b < k) && !decide (b = a)
theorem tV (n : Int) (w : World) : Calls Tryz.prog 137 #[.int .i64 n] w fun e w' => e = .returned (.bool (vC n)) ∧ w = w' := by
 by_cases h0 : 0 ≤ n
 ·go_enter Tryz.func137, Tryz.ntmps137
  go_wp2
  go_ret
  exact ⟨by simp [vC, h0], rfl⟩
 ·have h0' : decide (0 ≤ n) = false := by simpa using h0
  go_enter Tryz.func137, Tryz.ntmps137
  go_wp2
  go_ret
  exact ⟨by simp [vC, h0'], rfl⟩
theorem xQ (n : Int) (w : World) : Calls Tryz.prog 167 #[.int .i64 n] w fun e w' => e = .returned (.bool (zc n)) ∧ w = w' := by
 by_cases h0 : 1 ≤ n
 ·go_enter Tryz.func167, Tryz.ntmps167
  go_wp2
  go_ret
  exact ⟨by simp [zc, h0], rfl⟩
 ·have h0' : decide (1 ≤ n) = false := by simpa using h0
  go_enter Tryz.func167, Tryz.ntmps167
  go_wp2
  go_ret
  exact ⟨by simp [zc, h0'], rfl⟩
theorem jc (nm : ByteArray) (kind a b comp k : Int) (w : World) : Calls Tryz.prog 138 #[.agg #[.string nm, .int .i64 kind, .int .i64 a, .int .i64 b, .int .i64 comp], .int .i64 k] w fun e w' => e = .returned (.bool (wI kind a b k)) ∧ Below w.heap.size w w' := by
 have hE : wI kind a b k = if a < 0 then false else if k ≤ a then false else if zc kind = false then decide (b = -1) else decide (0 ≤ b) && decide (b < k) && !decide (b = a) := rfl
 have HE := iD hE; clear hE
 by_cases h1 : a < 0
 ·go_enter Tryz.func138, Tryz.ntmps138
  go_wp2_with fail
  go_ret
  exact ⟨zG (by rw [HE.out, if_pos h1]), (Below.refl _ _).alloc lR _⟩
 have h1' : decide (a < 0) = false := by simpa using h1
 by_cases h2 : k ≤ a
 ·go_enter Tryz.func138, Tryz.ntmps138
  go_wp2_with fail
  go_ret
  exact ⟨zG (by rw [HE.out, if_neg (by omega), if_pos h2]), (Below.refl _ _).alloc lR _⟩
 have h2' : decide (k ≤ a) = false := by simpa using h2
 rcases hj : zc kind with _ | _
 ·have HJ := iD hj
  have HJ2 := iD (xQ kind)
  rw [hj] at HJ2
  clear hj
  go_enter Tryz.func138, Tryz.ntmps138
  go_wp2_with fail
  refine (HJ2.out _).mono ?_
  rintro e w1 ⟨rfl, rfl⟩
  go_wp2_with fail
  go_ret
  exact ⟨zG (by rw [HE.out, if_neg (by omega), if_neg (by omega), if_pos HJ.out]; rfl), (Below.refl _ _).alloc lR _⟩
 ·have HJ := iD hj
  have HJ2 := iD (xQ kind)
  rw [hj] at HJ2
  clear hj
  by_cases h3 : 0 ≤ b
  ·by_cases h4 : b < k
   ·go_enter Tryz.func138, Tryz.ntmps138
    go_wp2_with fail
    refine (HJ2.out _).mono ?_
    rintro e w1 ⟨rfl, rfl⟩
    go_wp2_with fail
    go_ret
    exact ⟨zG (by rw [HE.out, if_neg (by omega), if_neg (by omega), if_neg (by rw [HJ.out]; simp), decide_eq_true h3, decide_eq_true h4, Bool.eq_iff_iff]; simp), (Below.refl _ _).alloc lR _⟩
   ·have h4' : decide (b < k) = false := by simpa using h4
    go_enter Tryz.func138, Tryz.ntmps138
    go_wp2_with fail
    refine (HJ2.out _).mono ?_
    rintro e w1 ⟨rfl, rfl⟩
    go_wp2_with fail
    go_ret
    exact ⟨zG (by rw [HE.out, if_neg (by omega), if_neg (by omega), if_neg (by rw [HJ.out]; simp), h4']; simp), (Below.refl _ _).alloc lR _⟩
  ·have h3' : decide (0 ≤ b) = false := by simpa using h3
   go_enter Tryz.func138, Tryz.ntmps138
   go_wp2_with fail
   refine (HJ2.out _).mono ?_
   rintro e w1 ⟨rfl, rfl⟩
   go_wp2_with fail
   go_ret
   exact ⟨zG (by rw [HE.out, if_neg (by omega), if_neg (by omega), if_neg (by rw [HJ.out]; simp), h3']; simp), (Below.refl _ _).alloc lR _⟩
def vy (used : List (List UInt8)) (x : Nd) : Int := if yl (toL x.name) = false then 3 else if toL x.name ∈ used then 4 else if x.cust < 0 ∨ 1048576 < x.cust then 5 else if vC x.comp = false then 5 else 0
def vB (k : Int) (used : List (List UInt8)) (x : Dv) : Int := if yl (toL x.name) = false then 3 else if toL x.name ∈ used then 4 else if x.kind < 1 ∨ 6 < x.kind then 6 else if wI x.kind x.a x.b k = false then 7 else if vC x.comp = false then 5 else 0
def uL : List (List UInt8) → List Nd → Int
 | _, [] => 0
 | used, x :: r => if vy used x = 0 then uL (toL x.name :: used) r else vy used x
def vK : List (List UInt8) → List Nd → List (List UInt8)
 | used, [] => used
 | used, x :: r => vK (toL x.name :: used) r
def ul (k : Int) : List (List UInt8) → List Dv → Int
 | _, [] => 0
 | used, x :: r => if vB k used x = 0 then ul k (toL x.name :: used) r else vB k used x
def za (ns : List Nd) (ds : List Dv) : Int := if 32 < ns.length then 1 else if 64 < ds.length then 1 else if uL [] ns = 0 then ul ns.length (vK [] ns) ds else uL [] ns
theorem rc {used : List (List UInt8)} {ns : List Nd} {i : Nat} {x : Nd} (hx : ns[i]? = some x) (h0 : vy used x = 0) : uL used (ns.drop i) = uL (toL x.name :: used) (ns.drop (i + 1)) ∧ vK used (ns.drop i) = vK (toL x.name :: used) (ns.drop (i + 1)) := by
 obtain ⟨hi, rfl⟩ := List.getElem?_eq_some_iff.1 hx
 rw [List.drop_eq_getElem_cons hi, uL, if_pos h0, vK]
 exact ⟨rfl, rfl⟩
theorem li {used : List (List UInt8)} {ns : List Nd} {i : Nat} {x : Nd} (hx : ns[i]? = some x) (h0 : vy used x ≠ 0) : uL used (ns.drop i) = vy used x := by
 obtain ⟨hi, rfl⟩ := List.getElem?_eq_some_iff.1 hx
 rw [List.drop_eq_getElem_cons hi, uL, if_neg h0]
theorem re {k : Int} {used : List (List UInt8)} {ds : List Dv} {i : Nat} {x : Dv} (hx : ds[i]? = some x) (h0 : vB k used x = 0) : ul k used (ds.drop i) = ul k (toL x.name :: used) (ds.drop (i + 1)) := by
 obtain ⟨hi, rfl⟩ := List.getElem?_eq_some_iff.1 hx
 rw [List.drop_eq_getElem_cons hi, ul, if_pos h0]
theorem lj {k : Int} {used : List (List UInt8)} {ds : List Dv} {i : Nat} {x : Dv} (hx : ds[i]? = some x) (h0 : vB k used x ≠ 0) : ul k used (ds.drop i) = vB k used x := by
 obtain ⟨hi, rfl⟩ := List.getElem?_eq_some_iff.1 hx
 rw [List.drop_eq_getElem_cons hi, ul, if_neg h0]
end
section
structure Lk where
 dev : Int
 pos : Int
 key : Int
def yC (a b : Lk) : Bool := decide (a.dev < b.dev) || (decide (a.dev = b.dev) && decide (a.key < b.key))
theorem um (a b : Lk) : yC a b = true ↔ a.dev < b.dev ∨ (a.dev = b.dev ∧ a.key < b.key) := by simp [yC]
theorem tG {a b c : Lk} (h1 : yC a b = true) (h2 : yC b c = true) : yC a c = true := by rw [um] at *; omega
theorem tH {a b : Lk} (h1 : yC a b = true) (h2 : yC b a = true) : False := by rw [um] at *; omega
theorem rh {a b : Lk} (h : a.key ≠ b.key) (h1 : yC a b = false) : yC b a = true := by
 have h2 : ¬ yC a b = true := by rw [h1]; simp
 rw [um] at *; omega
def qO (ds : List Dv) (d : Int) : Int := match ds[d.toNat]? with | some x => x.kind | none => 0
def ya (ds : List Dv) (k : Lk) : Int := if k.dev < 0 then 8 else if (ds.length : Int) ≤ k.dev then 8 else if qO ds k.dev = 5 then 6 else if k.pos ≠ 1 ∧ k.pos ≠ 2 then 10 else if k.key < 0 then 5 else if 65536 < k.key then 5 else 0
def ou (k x : Lk) : Bool := decide (x.dev = k.dev) && !decide (x.pos = k.pos)
def wU (l : List Lk) (k : Lk) : Bool := l.any (ou k)
def wM (l : List Lk) (q : Int) : Bool := l.any fun x => decide (x.key = q)
theorem qI {l : List Lk} {k : Lk} : wU l k = false ↔ ∀ x ∈ l, x.dev = k.dev → x.pos = k.pos := by
 unfold wU ou
 rw [List.any_eq_false]
 constructor
 ·intro h x hx hd
  have := h x hx
  simp [hd] at this
  exact this
 ·intro h x hx
  simp
  exact h x hx
theorem ru {l : List Lk} {q : Int} : wM l q = false ↔ ∀ x ∈ l, x.key ≠ q := by
 unfold wM
 rw [List.any_eq_false]
 constructor
 ·intro h x hx; have := h x hx; simpa using this
 ·intro h x hx; simpa using h x hx
def xP (ls : List Lk) (i : Nat) (k : Lk) : Bool := decide (0 < i) && !(match ls[i - 1]? with | some p => yC p k | none => true)
def xx (ds : List Dv) (ls : List Lk) (i : Nat) : Int := match ls[i]? with
 | none => 0
 | some k => if ya ds k ≠ 0 then ya ds k else if xP ls i k = true then 14 else if wU (ls.take i) k = true then 18 else if wM (ls.take i) k.key = true then 4 else 0
def yV (ds : List Dv) (ls : List Lk) : Nat → Int
 | 0 => 0
 | i + 1 => if yV ds ls i ≠ 0 then yV ds ls i else xx ds ls i
theorem tU {ds : List Dv} {ls : List Lk} {i : Nat} {e : Int} (h : yV ds ls i = 0) (he : xx ds ls i = e) (h0 : e ≠ 0) : ∀ n, i < n → yV ds ls n = e
 | 0, hn => by omega
 | n + 1, hn => by
  rw [yV]
  rcases Nat.lt_succ_iff_lt_or_eq.1 hn with hlt | rfl
  ·rw [tU h he h0 n hlt, if_pos h0]
  ·rw [h, if_neg (by simp), he]
theorem vU {ds : List Dv} {ls : List Lk} : ∀ n, yV ds ls n = 0 ↔ ∀ i, i < n → xx ds ls i = 0
 | 0 => ⟨fun _ i hi => by omega, fun _ => rfl⟩
 | n + 1 => by
  rw [yV]
  have ih := vU (ds := ds) (ls := ls) n
  by_cases h : yV ds ls n = 0
  ·rw [if_neg (by simp [h])]
   constructor
   ·intro he i hi
    rcases Nat.lt_succ_iff_lt_or_eq.1 hi with hlt | rfl
    ·exact ih.1 h i hlt
    ·exact he
   ·intro hall; exact hall n (by omega)
  ·rw [if_pos h]
   exact ⟨fun e => absurd e h, fun hall => ih.2 fun i hi => hall i (by omega)⟩
theorem pl {ds : List Dv} {ls : List Lk} {i : Nat} (h : yV ds ls i = 0) (he : xx ds ls i = 0) : yV ds ls (i + 1) = 0 := by rw [yV, h, if_neg (by simp), he]
def fd (a b : Lk) : Prop := yC a b = true ∧ (a.dev = b.dev → a.pos = b.pos) ∧ a.key ≠ b.key
def xK (ds : List Dv) (ls : List Lk) : Prop := ls.length ≤ 128 ∧ (∀ k ∈ ls, ya ds k = 0) ∧ ls.Pairwise fd
theorem sY {ds : List Dv} {ls : List Lk} {i : Nat} {k : Lk} (hk : ls[i]? = some k) : xx ds ls i = 0 ↔ ya ds k = 0 ∧ xP ls i k = false ∧ wU (ls.take i) k = false ∧ wM (ls.take i) k.key = false := by
 unfold xx
 rw [hk]
 simp only
 by_cases h1 : ya ds k = 0
 ·rw [if_neg (by simp [h1])]
  rcases h2 : xP ls i k with _ | _
  ·rw [if_neg (by simp)]
   rcases h3 : wU (ls.take i) k with _ | _
   ·rw [if_neg (by simp)]
    rcases h4 : wM (ls.take i) k.key with _ | _
    ·simp [h1]
    ·simp
   ·simp
  ·simp
 ·rw [if_pos h1]; simp [h1]
theorem iW {ds : List Dv} {ls : List Lk} (hl : ls.length ≤ 128) (h : yV ds ls ls.length = 0) : xK ds ls := by
 have hall := (vU ls.length).1 h
 have at' : ∀ i (hi : i < ls.length), ya ds ls[i] = 0 ∧ xP ls i ls[i] = false ∧ wU (ls.take i) ls[i] = false ∧ wM (ls.take i) ls[i].key = false := fun i hi => (sY (List.getElem?_eq_getElem hi)).1 (hall i hi)
 refine ⟨hl, fun k hk => ?_, ?_⟩
 ·obtain ⟨i, hi, rfl⟩ := List.mem_iff_getElem.1 hk
  exact (at' i hi).1
 ·have step : ∀ i (hi : i + 1 < ls.length), yC ls[i] ls[i + 1] = true := by
   intro i hi
   have := (at' (i + 1) hi).2.1
   unfold xP at this
   rw [Nat.add_sub_cancel, List.getElem?_eq_getElem (show i < ls.length by omega)] at this
   simpa using this
  have bef : ∀ (j i : Nat) (hj : j < ls.length) (hij : i < j), yC (ls[i]'(by omega)) ls[j] = true := by
   intro j
   induction j with
   | zero => intro i hj hij; omega
   | succ j ih =>
    intro i hj hij
    rcases Nat.lt_succ_iff_lt_or_eq.1 hij with hlt | rfl
    ·exact tG (ih i (by omega) hlt) (step j hj)
    ·exact step i hj
  rw [List.pairwise_iff_getElem]
  intro i j hi hj hij
  obtain ⟨_, _, h3, h4⟩ := at' j hj
  have hm : ls[i] ∈ ls.take j := by
   rw [List.mem_iff_getElem]
   exact ⟨i, by simp; omega, by simp⟩
  exact ⟨bef j i hj hij, fun hd => qI.1 h3 _ hm hd, ru.1 h4 _ hm⟩
theorem jX {ds : List Dv} {ls : List Lk} (h : xK ds ls) : yV ds ls ls.length = 0 := by
 obtain ⟨_, h2, h3⟩ := h
 rw [vU]
 intro i hi
 rw [sY (List.getElem?_eq_getElem hi)]
 rw [List.pairwise_iff_getElem] at h3
 have mem : ∀ x ∈ ls.take i, ∃ j, ∃ hj : j < ls.length, j < i ∧ x = ls[j] := by
  intro x hx
  obtain ⟨j, hj, rfl⟩ := List.mem_iff_getElem.1 hx
  simp at hj
  exact ⟨j, by omega, by omega, by simp⟩
 refine ⟨h2 _ (List.getElem_mem hi), ?_, ?_, ?_⟩
 ·unfold xP
  rcases Nat.eq_zero_or_pos i with rfl | h0
  ·rfl
  ·rw [List.getElem?_eq_getElem (show i - 1 < ls.length by omega)]
   simp only
   rw [(h3 (i - 1) i (by omega) hi (by omega)).1]
   simp
 ·rw [qI]
  intro x hx hd
  obtain ⟨j, hj, hji, rfl⟩ := mem x hx
  exact (h3 j i hj hi hji).2.1 hd
 ·rw [ru]
  intro x hx
  obtain ⟨j, hj, hji, rfl⟩ := mem x hx
  exact (h3 j i hj hi hji).2.2
def vE : List Lk → Int → Option Int
 | [], _ => none
 | x :: l, d => if x.dev = d then some x.pos else vE l d
theorem iO {l : List Lk} {d p : Int} (h : vE l d = some p) : ∃ x ∈ l, x.dev = d ∧ x.pos = p := by
 induction l with
 | nil => cases h
 | cons x l ih =>
  rw [vE] at h
  split at h
  ·next hd => exact ⟨x, List.mem_cons_self, hd, by injection h⟩
  ·obtain ⟨y, hy, h1⟩ := ih h; exact ⟨y, List.mem_cons_of_mem _ hy, h1⟩
theorem sP {l : List Lk} {d : Int} : vE l d = none ↔ ∀ x ∈ l, x.dev ≠ d := by
 induction l with
 | nil => simp [vE]
 | cons x l ih =>
  rw [vE]
  split
  ·next hd => simp [hd]
  ·next hd => rw [ih]; simp [hd]
theorem kQ {ds : List Dv} {ls : List Lk} (h : xK ds ls) {x y : Lk} (hx : x ∈ ls) (hy : y ∈ ls) (hd : x.dev = y.dev) : x.pos = y.pos := by
 obtain ⟨i, hi, rfl⟩ := List.mem_iff_getElem.1 hx
 obtain ⟨j, hj, rfl⟩ := List.mem_iff_getElem.1 hy
 have h3 := List.pairwise_iff_getElem.1 h.2.2
 rcases Nat.lt_trichotomy i j with hij | rfl | hij
 ·exact (h3 i j hi hj hij).2.1 hd
 ·rfl
 ·exact ((h3 j i hj hi hij).2.1 hd.symm).symm
theorem gZ {ds : List Dv} {ls : List Lk} (h : xK ds ls) {x : Lk} (hx : x ∈ ls) : vE ls x.dev = some x.pos := by
 rcases hl : vE ls x.dev with _ | p
 ·exact absurd rfl (sP.1 hl x hx)
 ·obtain ⟨y, hy, h1, h2⟩ := iO hl
  rw [← h2, kQ h hy hx h1]
def wP (k : Lk) (ls : List Lk) : List Lk := ls.takeWhile (fun x => yC x k) ++ k :: ls.dropWhile (fun x => yC x k)
theorem mJ (k : Lk) (ls : List Lk) : (wP k ls).length = ls.length + 1 := by
 have := congrArg List.length (List.takeWhile_append_dropWhile (p := fun x => yC x k) (l := ls))
 rw [List.length_append] at this
 unfold wP
 rw [List.length_append, List.length_cons]; omega
theorem mI (k x : Lk) (ls : List Lk) : x ∈ wP k ls ↔ x = k ∨ x ∈ ls := by
 have h : ls.takeWhile (fun x => yC x k) ++ ls.dropWhile (fun x => yC x k) = ls := List.takeWhile_append_dropWhile
 have hm : x ∈ ls ↔ x ∈ ls.takeWhile (fun x => yC x k) ∨ x ∈ ls.dropWhile (fun x => yC x k) := by rw [← List.mem_append, h]
 unfold wP
 rw [List.mem_append, List.mem_cons, hm]
 constructor
 ·rintro (h | h | h)
  ·exact .inr (.inl h)
  ·exact .inl h
  ·exact .inr (.inr h)
 ·rintro (h | h | h)
  ·exact .inr (.inl h)
  ·exact .inl h
  ·exact .inr (.inr h)
theorem jO (k : Lk) (ls : List Lk) : (wP k ls).Perm (ls ++ [k]) := by
 unfold wP
 have h : ls.takeWhile (fun x => yC x k) ++ ls.dropWhile (fun x => yC x k) = ls := List.takeWhile_append_dropWhile
 refine List.perm_middle.trans ?_
 rw [h]
 exact (List.perm_append_comm (l₁ := [k]) (l₂ := ls))
theorem rZ {p : Lk → Bool} : ∀ {l : List Lk} {y : Lk} {t : List Lk}, l.dropWhile p = y :: t → p y = false
 | [], _, _, h => by simp at h
 | x :: l, y, t, h => by
  rw [List.dropWhile_cons] at h
  split at h
  ·exact rZ h
  ·next hp => injection h with h1; subst h1; simpa using hp
theorem sS {ds : List Dv} {ls : List Lk} {k : Lk} (h : xK ds ls) (hk : ya ds k = 0) (hu : wM ls k.key = false) (ho : wU ls k = false) (hl : ls.length < 128) : xK ds (wP k ls) := by
 have hs : ls.takeWhile (fun x => yC x k) ++ ls.dropWhile (fun x => yC x k) = ls := List.takeWhile_append_dropWhile
 have hu' := ru.1 hu
 have ho' := qI.1 ho
 refine ⟨by rw [mJ]; omega, fun x hx => ?_, ?_⟩
 ·rcases (mI k x ls).1 hx with rfl | hx
  ·exact hk
  ·exact h.2.1 x hx
 ·have hp := h.2.2
  rw [← hs, List.pairwise_append] at hp
  obtain ⟨p1, p2, p3⟩ := hp
  have mem1 : ∀ x ∈ ls.takeWhile (fun x => yC x k), x ∈ ls := fun x hx => by rw [← hs]; exact List.mem_append_left _ hx
  have mem2 : ∀ x ∈ ls.dropWhile (fun x => yC x k), x ∈ ls := fun x hx => by rw [← hs]; exact List.mem_append_right _ hx
  have bef1 : ∀ x ∈ ls.takeWhile (fun x => yC x k), yC x k = true := fun x hx => by
   have := List.all_takeWhile (p := fun x => yC x k) (l := ls)
   exact List.all_eq_true.1 this x hx
  have bef2 : ∀ x ∈ ls.dropWhile (fun x => yC x k), yC k x = true := by
   rcases hd : ls.dropWhile (fun x => yC x k) with _ | ⟨y, t⟩
   ·intro x hx; cases hx
   ·have hy : yC k y = true := rh (hu' y (mem2 y (by rw [hd]; exact List.mem_cons_self))) (rZ (p := fun x => yC x k) hd)
    intro x hx
    rcases List.mem_cons.1 hx with rfl | hx
    ·exact hy
    ·rw [hd, List.pairwise_cons] at p2
     exact tG hy (p2.1 x hx).1
  unfold wP
  rw [List.pairwise_append, List.pairwise_cons]
  refine ⟨p1, ⟨fun x hx => ⟨bef2 x hx, fun e => (ho' x (mem2 x hx) e.symm).symm, fun e => hu' x (mem2 x hx) e.symm⟩, p2⟩, fun a ha b hb => ?_⟩
  rcases List.mem_cons.1 hb with rfl | hb
  ·exact ⟨bef1 a ha, ho' a (mem1 a ha), hu' a (mem1 a ha)⟩
  ·exact p3 a ha b hb
theorem pj {ds : List Dv} {a b : List Lk} (h : xK ds a) (hs : b.Sublist a) : xK ds b := ⟨Nat.le_trans hs.length_le h.1, fun k hk => h.2.1 k (hs.subset hk), h.2.2.sublist hs⟩
theorem jG : ∀ {a b : List Lk}, a.Pairwise (fun x y => yC x y = true) → b.Pairwise (fun x y => yC x y = true) → (∀ x, x ∈ a ↔ x ∈ b) → a = b
 | [], [], _, _, _ => rfl
 | [], y :: b, _, _, h => absurd ((h y).2 List.mem_cons_self) (by simp)
 | x :: a, [], _, _, h => absurd ((h x).1 List.mem_cons_self) (by simp)
 | x :: a, y :: b, ha, hb, h => by
  rw [List.pairwise_cons] at ha hb
  have e : x = y := by
   have h1 := (h x).1 List.mem_cons_self
   have h2 := (h y).2 List.mem_cons_self
   rcases List.mem_cons.1 h1 with h1 | h1
   ·exact h1
   ·rcases List.mem_cons.1 h2 with h2 | h2
    ·exact h2.symm
    ·exact (tH (ha.1 y h2) (hb.1 x h1)).elim
  subst e
  congr 1
  refine jG ha.2 hb.2 fun z => ?_
  have hz := h z
  simp only [List.mem_cons] at hz
  constructor
  ·intro hm
   rcases hz.1 (.inr hm) with rfl | h1
   ·exact (tH (ha.1 z hm) (ha.1 z hm)).elim
   ·exact h1
  ·intro hm
   rcases hz.2 (.inr hm) with rfl | h1
   ·exact (tH (hb.1 z hm) (hb.1 z hm)).elim
   ·exact h1
theorem xK.sorted {ds : List Dv} {ls : List Lk} (h : xK ds ls) : ls.Pairwise (fun x y => yC x y = true) := h.2.2.imp fun h => h.1
def wQ (d q : Int) : List Lk → Option Nat
 | [] => none
 | x :: l => if x.dev = d ∧ x.key = q then some 0 else (wQ d q l).map (· + 1)
end
section
open Go.RowKit
theorem xF : yg Tryz.prog 22 3 1 8 := yg.mk' (z := .int .i64 0) Tryz.underlying22 (by kernel_rfl) rfl (by decide)
theorem rY {α : Type} (f : α → Value) (l : List α) : (l.flatMap fun x => [f x]) = l.map f := by
 induction l with
 | nil => rfl
 | cons x l ih => rw [List.flatMap_cons, ih]; rfl
theorem yI (l : List Int) : zD l = l.map (Value.int .i64) := rY _ _
theorem zq (a b : List Int) : zD (a ++ b) = zD a ++ zD b := List.flatMap_append
theorem lP (l : List Int) (i : Nat) (x : Int) : (zD l).set i (.int .i64 x) = zD (l.set i x) := by rw [yI, yI, List.map_set]
theorem tZ (n : Nat) (x : Int) : List.replicate n (Value.int .i64 x) = zD (List.replicate n x) := by rw [yI, List.map_replicate]
theorem wV (l : List Int) : (zD l).length = l.length := by rw [yI, List.length_map]
def zO (w : World) (base : Nat) (A : Option Addr) (n c : Nat) (l : List Int) : Prop := w.ownsRow base 3 1 (.slice A n c) n (zD l)
section
variable {w w' : World} {base n c i : Nat} {A : Option Addr} {l : List Int}
theorem zO.len (h : zO w base A n c l) : l.length = n := by have := h.1; rw [wV] at this; omega
theorem zO.sl (h : zO w base A n c l) : Sl w w.heap.size 1 A n c (zD l) := Sl.of_own h
theorem pM {e : TypeId} {xs : List Value} (h : w.ownsRow base e 1 (.slice A n c) n xs) (hi : 0 < n) : ∃ g, A = some ⟨g, 0, none⟩ ∧ base ≤ g ∧ g < w.heap.size := by
 have hl := h.lt
 rcases h.2 with ⟨hv, hn⟩ | ⟨g, cap, cur, hv, hb, _⟩
 ·omega
 ·injection hv with h1
  subst h1
  exact ⟨g, rfl, hb, (hl g rfl).2⟩
theorem zO.at (h : zO w base A n c l) (hi : i < n) : ∃ g x, A = some ⟨g, 0, none⟩ ∧ base ≤ g ∧ g < w.heap.size ∧ l[i]? = some x ∧ w.cell? ⟨g, i, none⟩ = some (.int .i64 x) ∧ w.frozen? ⟨g, i, none⟩ = false ∧ ∀ y, zO (w.setCell ⟨g, i, none⟩ (.int .i64 y)) base A n c (l.set i y) := by
 obtain ⟨g, rfl, h1, h2⟩ := pM h (by omega)
 have hl := h.len
 refine ⟨g, l[i]'(by omega), rfl, h1, h2, List.getElem?_eq_getElem _, ?_, h.frozenAt i, fun y => ?_⟩
 ·rw [h.cellAt i (by omega), yI, List.getElem?_map, List.getElem?_eq_getElem (by omega)]; rfl
 ·have := (h.stored i (.int .i64 y)).1
  rwa [lP] at this
theorem zt {e : TypeId} {size : Nat} {v : Value} {xs : List Value} (h : w.ownsRow base e size v n xs) (hb : Below w.heap.size w w') : w'.ownsRow base e size v n xs := h.kept (zL hb none) (Classical.em _)
theorem zO.later (h : zO w base A n c l) (hb : Below w.heap.size w w') : zO w' base A n c l := zt h hb
theorem ze (w : World) (p : Addr) (u : Value) : w.grownBy (w.setCell p u) (some p.block) := ⟨rfl, rfl, rfl, by simp [World.setCell], fun i _ hi => Below.heap_setCell w _ _ i (fun e => hi (by rw [e]))⟩
end
theorem sG (n : Nat) (hn : n ≤ 1000000) (w : World) : (Instr.makeSlice 22 (.int .i64 (n : Int)) (.int .i64 (n : Int))).run Tryz.prog w = .ok (.slice (some ⟨w.heap.size, 0, none⟩) n n) (w.alloc (.cells (zD (List.replicate n 0)).toArray 3)) := by
 rw [run_make_row' 22 3 (.int .i64 0) 8 Tryz.underlying22 (by kernel_rfl) rfl .i64 .i64 n (by omega) (by omega) w]
 congr 3
 apply Array.ext'
 rw [toList_madeCells_one, tZ]
theorem ue {w : World} {base n : Nat} {e : TypeId} {xs : List Value} (hb : base ≤ w.heap.size) (hn : n ≤ 9223372036854775807) (hl : xs.length = n) : (w.alloc (.cells xs.toArray e)).ownsRow base e 1 (.slice (some ⟨w.heap.size, 0, none⟩) n n) n xs :=
 ⟨by omega, .inr ⟨w.heap.size, n, xs.toArray, rfl, hb, heap_alloc_new w _, Nat.le_refl _, by simpa [maxLen] using hn, by simp [hl], by simp [← hl]⟩⟩
theorem pa {w : World} {base n : Nat} (hb : base ≤ w.heap.size) (hn : n ≤ 1000000) : zO (w.alloc (.cells (zD (List.replicate n 0)).toArray 3)) base (some ⟨w.heap.size, 0, none⟩) n n (List.replicate n 0) := ue hb (by omega) (by rw [wV, List.length_replicate])
theorem vS (l : List Int) : ∀ u ∈ zD l, u.oneCell' = true := by
 intro u hu
 rw [yI, List.mem_map] at hu
 obtain ⟨x, _, rfl⟩ := hu
 rfl
theorem qR {w w' : World} {row : Option Nat} (h : w.drew.grownBy w' row) : w.grownBy w' row := ⟨h.os, h.tape, h.output, h.size, h.block⟩
def rH (A : Option Addr) (c k : Nat) : Option Addr := if c = k then A else A.map (·.add k)
theorem ua (w : World) (A : Option Addr) (n c k : Nat) (hk : k ≤ n) : (Instr.sliceAt 22 (.slice A n c) (some (.int .i64 (k : Int))) none none).run Tryz.prog w = .ok (.slice (rH A c k) (n - k) (c - k)) w := by
 rw [run_sliceAt_slice _ _ _ _ _ _ (by kernel_rfl), run_slice_l _ _ _ _ _ (by kernel_rfl) _ _ (by omega) (by omega)]
 have : (sizeOf (Tryz.prog.elem 22)).run Tryz.prog w = .ok 1 w := by kernel_rfl
 rw [this]
 simp [sliced, rH, Result.andThen]
def Que (w : World) (base : Nat) (e : TypeId) (A : Option Addr) (n c : Nat) (xs : List Value) : Prop :=
 xs.length = n ∧ n ≤ c ∧ c ≤ 9223372036854775807 ∧ (∀ a, A = some a → base ≤ a.block ∧ a.block < w.heap.size) ∧
 (0 < c → ∃ g off cur, A = some ⟨g, off, none⟩ ∧ w.heap[g]? = some (.cells cur e (0, 0)) ∧ off + c ≤ cur.size ∧ ∀ j u, xs[j]? = some u → cur[off + j]? = some u)
section
variable {w w' : World} {base n c k : Nat} {A : Option Addr} {xs : List Value} {e : TypeId}
theorem Que.le (h : Que w base e A n c xs) : n ≤ c ∧ c ≤ 9223372036854775807 := ⟨h.2.1, h.2.2.1⟩
theorem Que.lt (h : Que w base e A n c xs) : ∀ g, (Value.slice A n c).ownBlock = some g → base ≤ g ∧ g < w.heap.size := by
 intro g hg
 cases A with
 | none => cases hg
 | some a => have := h.2.2.2.1 a rfl; simp [Value.ownBlock] at hg; subst hg; exact this
theorem Que.of_own (h : w.ownsRow base e 1 (.slice A n c) n xs) : Que w base e A n c xs := by
 have hl := h.lt
 have hx := h.1
 rcases h.2 with ⟨hv, hn⟩ | ⟨g, cap, cur, hv, hb, hh, hnc, hm, hs, ht⟩
 ·injection hv with h1 h2 h3
  subst h1 h3 hn
  exact ⟨by omega, Nat.le_refl _, by omega, (fun a e => by cases e), fun h => absurd h (by omega)⟩
 ·injection hv with h1 h2 h3
  subst h1 h3
  refine ⟨by omega, hnc, by simpa [maxLen] using hm, fun a e => ?_, fun _ => ⟨g, 0, cur, rfl, hh, by omega, fun j u hu => ?_⟩⟩
  ·injection e with e; subst e; exact hl g rfl
  ·rw [Nat.zero_add]
   have hj : j < n := by have := (List.getElem?_eq_some_iff.1 hu).1; omega
   rw [← ht, List.getElem?_take, if_pos (by omega)] at hu
   simpa using hu
theorem Que.kept (h : Que w base e A n c xs) {row : Option Nat} (hg : w.grownBy w' row) (hne : (Value.slice A n c).ownBlock = none ∨ (Value.slice A n c).ownBlock ≠ row) : Que w' base e A n c xs := by
 obtain ⟨h1, h2, h3, h4, h5⟩ := h
 refine ⟨h1, h2, h3, fun a ha => ⟨(h4 a ha).1, Nat.lt_of_lt_of_le (h4 a ha).2 hg.size⟩, fun hc => ?_⟩
 obtain ⟨g, off, cur, rfl, hh, ho, hx⟩ := h5 hc
 refine ⟨g, off, cur, rfl, (hg.block g (h4 _ rfl).2 (fun e => ?_)).trans hh, ho, hx⟩
 rcases hne with h | h
 ·simp [Value.ownBlock] at h
 ·exact h e
theorem Que.later (h : Que w base e A n c xs) (hb : Below w.heap.size w w') : Que w' base e A n c xs := h.kept (zL hb none) (Classical.em _)
theorem Que.alloc (h : Que w base e A n c xs) (o : Obj) : Que (w.alloc o) base e A n c xs := h.later ((Below.refl _ _).alloc lR _)
theorem Que.at (h : Que w base e A n c xs) (hk : k < n) : ∃ g off u, A = some ⟨g, off, none⟩ ∧ xs[k]? = some u ∧ w.cell? ⟨g, off + k, none⟩ = some u := by
 obtain ⟨h1, h2, h3, h4, h5⟩ := h
 obtain ⟨g, off, cur, rfl, hh, ho, hx⟩ := h5 (by omega)
 have e1 : xs[k]? = some (xs[k]'(by omega)) := List.getElem?_eq_getElem (by omega)
 exact ⟨g, off, _, rfl, e1, (cell_of_row w g _ cur e (0, 0) hh).trans (hx k _ e1)⟩
theorem pt (A : Option Addr) (n c n' c' k : Nat) : (Value.slice (rH A c k) n' c').ownBlock = (Value.slice A n c).ownBlock := by
 unfold rH
 cases A with
 | none => split <;> rfl
 | some a =>
  split
  ·rfl
  ·simp [Value.ownBlock, Addr.add]; split <;> rfl
theorem Que.cut (h : Que w base e A n c xs) (hk : k ≤ n) : Que w base e (rH A c k) (n - k) (c - k) (xs.drop k) := by
 obtain ⟨h1, h2, h3, h4, h5⟩ := h
 refine ⟨by simp; omega, by omega, by omega, fun a ha => ?_, fun hc => ?_⟩
 ·cases A with
  | none => unfold rH at ha; split at ha <;> cases ha
  | some b =>
   have := h4 b rfl
   have hb : a.block = b.block := by
    have := pt (some b) n c n c k
    rw [ha] at this
    simpa [Value.ownBlock] using this
   rw [hb]; exact this
 ·obtain ⟨g, off, cur, rfl, hh, ho, hx⟩ := h5 (by omega)
  refine ⟨g, off + k, cur, by unfold rH; rw [if_neg (by omega), Option.map_some, xC], hh, by omega, fun j u hu => ?_⟩
  rw [List.getElem?_drop] at hu
  have := hx (k + j) u hu
  rwa [show off + k + j = off + (k + j) by omega]
end
end
section
open Go.RowKit
def Lk.cells (k : Lk) : List Value := [.int .i64 k.dev, .int .i64 k.pos, .int .i64 k.key]
theorem tn : yg Tryz.prog 35 106 3 24 := yg.mk' (z := .agg #[.int .i64 0, .int .i64 0, .int .i64 0]) Tryz.underlying35 (by kernel_rfl) rfl (by decide)
def yD (w : World) (base : Nat) (A : Option Addr) (n c : Nat) (ls : List Lk) : Prop := w.ownsRow base 106 3 (.slice A n c) n (ls.flatMap Lk.cells)
section
variable {w w' : World} {base n c B : Nat} {A : Option Addr} {ls : List Lk}
theorem yD.sl (h : yD w base A n c ls) : Sl w w.heap.size 3 A n c (ls.flatMap Lk.cells) := Sl.of_own h
theorem yD.len (h : yD w base A n c ls) : ls.length = n := (Sl.of_own h).len (fun _ => rfl) (by decide)
theorem yD.later (h : yD w base A n c ls) (hb : Below w.heap.size w w') : yD w' base A n c ls := zt h hb
theorem rU (l : List Lk) : ∀ u ∈ l.flatMap Lk.cells, u.oneCell' = true := by
 intro u hu
 rw [List.mem_flatMap] at hu
 obtain ⟨x, _, hx⟩ := hu
 simp only [Lk.cells, List.mem_cons, List.not_mem_nil, or_false] at hx
 rcases hx with rfl | rfl | rfl <;> rfl
theorem Sl.lock {i : Nat} (h : Sl w B 3 A n c (ls.flatMap Lk.cells)) (hi : i < n) : ∃ b off d p q, A = some ⟨b, off, none⟩ ∧ b < B ∧ ls[i]? = some ⟨d, p, q⟩ ∧ w.cell? ⟨b, off + i * 3, none⟩ = some (.int .i64 d) ∧ w.cell? ⟨b, off + i * 3 + 1, none⟩ = some (.int .i64 p) ∧ w.cell? ⟨b, off + i * 3 + 2, none⟩ = some (.int .i64 q) := by
 obtain ⟨b, off, ⟨d, p, q⟩, e, hb, hx, hc⟩ := h.at (fun _ => rfl) (by decide) hi
 exact ⟨b, off, d, p, q, e, hb, hx, hc 0 _ rfl, hc 1 _ rfl, hc 2 _ rfl⟩
end
end
section
open Go.RowKit
structure Sp where
 kind : Int
 dev : Int
 node : Int
 pos : Int
 key : Int
deriving DecidableEq
def Sp.cells (s : Sp) : List Value := [.int .i64 s.kind, .int .i64 s.dev, .int .i64 s.node, .int .i64 s.pos, .int .i64 s.key]
theorem Sp.len (s : Sp) : s.cells.length = 5 := rfl
def Sp.posB (s : Sp) : Bool := s.kind == 3 || s.kind == 6
def Sp.keyB (s : Sp) : Bool := s.kind == 3 || s.kind == 4
def zT (nn nd : Nat) (s : Sp) : Int :=
 if s.kind < 1 ∨ 6 < s.kind then 6
 else if s.kind ≠ 5 ∧ (s.dev < 0 ∨ (nd : Int) ≤ s.dev) then 8
 else if s.kind = 5 ∧ (s.node < 0 ∨ (nn : Int) ≤ s.node) then 7
 else if s.posB = true ∧ s.pos ≠ 1 ∧ s.pos ≠ 2 then 10
 else if s.keyB = true ∧ (s.key < 0 ∨ 65536 < s.key) then 5
 else if s.kind = 5 ∧ s.dev ≠ 0 ∨ s.kind ≠ 5 ∧ s.node ≠ 0 ∨ s.posB = false ∧ s.pos ≠ 0 ∨ s.keyB = false ∧ s.key ≠ 0 then 14
 else 0
def zo (nn nd : Nat) : List Sp → Int
 | [] => 0
 | s :: r => if zT nn nd s ≠ 0 then zT nn nd s else zo nn nd r
def yf (ns : List Nd) (ds : List Dv) (nm : ByteArray) (xs : List Sp) : Int :=
 if za ns ds ≠ 0 then za ns ds else if yl (toL nm) = false then 3 else if 64 < xs.length then 1 else zo ns.length ds.length xs
end
section
open Go.RowKit
def xJ (x : Dv) (v : Int) : Int := if zc x.kind = false then -1 else if x.a = v then x.b else if x.b = v then x.a else -1
theorem nc (nm : ByteArray) (kind a b comp v : Int) (w : World) : Calls Tryz.prog 181 #[.agg #[.string nm, .int .i64 kind, .int .i64 a, .int .i64 b, .int .i64 comp], .int .i64 v] w fun e w' => e = .returned (.int .i64 (xJ ⟨nm, kind, a, b, comp⟩ v)) ∧ Below w.heap.size w w' := by
 have HE : Hid (xJ ⟨nm, kind, a, b, comp⟩ v = if zc kind = false then -1 else if a = v then b else if b = v then a else -1) := rfl
 have HJ2 := iD (xQ kind)
 rcases hj : zc kind with _ | _
 ·rw [hj] at HJ2
  have HJ := iD hj; clear hj
  go_enter Tryz.func181, Tryz.ntmps181
  go_wp2_with fail
  refine (HJ2.out _).mono ?_
  rintro e w1 ⟨rfl, rfl⟩
  go_wp2_with fail
  go_ret
  exact ⟨zE (by rw [HE.out, if_pos HJ.out]), (Below.refl _ _).alloc lR _⟩
 ·rw [hj] at HJ2
  have HJ := iD hj; clear hj
  by_cases h1 : a = v
  ·subst h1
   have q : (a == a) = true := by simp
   go_enter Tryz.func181, Tryz.ntmps181
   go_wp2_with fail
   refine (HJ2.out _).mono ?_
   rintro e w1 ⟨rfl, rfl⟩
   go_wp2_with fail
   go_ret
   exact ⟨zE (by rw [HE.out, if_neg (by rw [HJ.out]; simp)]; simp), (Below.refl _ _).alloc lR _⟩
  ·have q : (a == v) = false := by simpa using h1
   by_cases h2 : b = v
   ·subst h2
    have q2 : (b == b) = true := by simp
    go_enter Tryz.func181, Tryz.ntmps181
    go_wp2_with fail
    refine (HJ2.out _).mono ?_
    rintro e w1 ⟨rfl, rfl⟩
    go_wp2_with fail
    go_ret
    exact ⟨zE (by rw [HE.out, if_neg (by rw [HJ.out]; simp), if_neg h1]; simp), (Below.refl _ _).alloc lR _⟩
   ·have q2 : (b == v) = false := by simpa using h2
    go_enter Tryz.func181, Tryz.ntmps181
    go_wp2_with fail
    refine (HJ2.out _).mono ?_
    rintro e w1 ⟨rfl, rfl⟩
    go_wp2_with fail
    go_ret
    exact ⟨zE (by rw [HE.out, if_neg (by rw [HJ.out]; simp), if_neg h1, if_neg h2]), (Below.refl _ _).alloc lR _⟩
def yx (w : World) (l : List Int) (e : Ending) (w' : World) : Prop := ∃ (A : Option Addr) (c : Nat), e = .returned (.slice A l.length c) ∧ Hid (zO w' w.heap.size A l.length c l) ∧ Hid (Below w.heap.size w w')
theorem rP (A : Option Addr) (n c : Nat) (w : World) : (binOp BinOp.eql 22 (.slice A n c) (.slice none 0 0)).run Tryz.prog w = .ok (.bool A.isNone) w := by
 cases A <;> kernel_rfl
theorem yQ (A : Option Addr) (n c B : Nat) (l : List Int) (w : World) (hs : Sl w B 1 A n c (zD l)) (hB : B ≤ w.heap.size) (hn : n ≤ 1000000) : Calls Tryz.prog 47 #[.slice A n c] w (yx w l) := by
 have hl := hs.len (fun _ => rfl) (by decide)
 have HL := iD hl; clear hl
 cases A with
 | none =>
  have h0 : n = 0 := by have := hs.2.2.2.1 rfl; have := hs.le; omega
  subst h0
  have hl0 : l = [] := List.eq_nil_of_length_eq_zero HL.out
  subst hl0
  clear hs HL
  have hnil := rP none 0 c w
  simp only [Option.isNone_none] at hnil
  go_enter Tryz.func47, Tryz.ntmps47
  go_wp2_with fail
  go_ret
  exact ⟨none, 0, rfl, World.ownsRow_nil _ _ _ _, Below.refl _ _⟩
 | some a =>
  have HS := iD hs
  have hH := hs.le
  clear hs
  have hnil := rP (some a) n c w
  simp only [Option.isNone_some] at hnil
  go_enter Tryz.func47, Tryz.ntmps47
  have h1 : ∀ u ∈ zD l, u.oneCell' = true := vS l
  have HS1 := iD (HS.out.alloc hB (.cells #[] 3))
  go_wp2_with (at_builtin; go_must (refine zR rfl (.tmp 5) (.tmp 6) rfl xF (base := w.heap.size) (n := 0) (xs := []) (by rfl) (ue (xs := []) lR (by decide) rfl) (by rfl) HS1.out h1 (by omega) (by omega) (by simp) ?_; intro A' cap' w2 hown2 hgr2 hat2; simp only [Nat.zero_add, List.nil_append] at hown2 hgr2; have HO := iD hown2; have HG := iD hgr2; clear hown2 hgr2 hat2))
  go_ret
  obtain rfl : l.length = n := HL.out
  exact ⟨A', cap', rfl, HO.out, ((Below.refl _ _).alloc lR _).trans (zz HG.out lR (by simp))⟩
end
end Go.Proofs.YtkkobemhbicjgaaGreatDoor
