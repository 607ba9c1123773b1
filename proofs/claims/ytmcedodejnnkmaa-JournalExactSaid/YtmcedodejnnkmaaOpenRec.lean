/-
  A record that came in, opened; the walk of JournalExact for it.
-/
import Derived.Test.YtmcedodejnnkmaaJourXw
import Derived.Test.YtmcedodejnnkmaaOpen
import Derived.ChangeMaps5
import Derived.Lib.SmallJoins
namespace Go.Proofs.Ytmcedodejnnkmaa
open Go.ChangeShapes Go.WideShapes Go.ChangeAt Go.RowKit
section
variable {H : Type} {enc : TypeId × Value → H} {W : World} {base b : Nat} {sp : Nat → Bool} {hd : Bool} {r : Reach}
theorem open_rec {v : Value} {d : DataW H} {p : List MemPlace} (hv : Value.okWide Try.prog W r b 43 v) (h : DataW.Trod enc Try.prog W base sp hd 43 v d p) :
    ∃ x : Int × BitVec 64 × ByteArray, v = .agg #[.int .i64 x.1, .int .u64 x.2.1.toNat, .string x.2.2] ∧ x.2.2.size ≤ maxLen := by
  obtain ⟨v0, v1, v2, y0, y1, y2, n, rfl, _, _, h0, h1, h2⟩ := Joins.open_agg3 Try.underlying43 (by kernel_rfl) (by kernel_rfl) hv h
  obtain ⟨a0, e0, _, _⟩ := DataW.trod_int Try.underlying3 h0
  obtain ⟨a1, e1, _, w1⟩ := DataW.trod_int Try.underlying41 h1
  obtain ⟨a2, e2, _, w2⟩ := DataW.trod_string Try.underlying9 h2
  simp at e0 e1 e2
  subst e0 e1 e2
  have hb : 0 ≤ a1 ∧ a1 < 18446744073709551616 := by
    have h0 : IntKind.u64.min = 0 := rfl
    have h1 : IntKind.u64.max = 18446744073709551615 := rfl
    simp [Lit.wf, h0, h1] at w1
    omega
  refine ⟨⟨a0, BitVec.ofNat 64 a1.toNat, a2⟩, ?_, w2⟩
  simp only [BitVec.toNat_ofNat]
  rw [show ((a1.toNat % 2 ^ 64 : Nat) : Int) = a1 by omega]
end
theorem walk_JournalExact' (w : World) (A : Option Addr) (n c : Nat) (z : List Int) (hz : Sl w w.heap.size 1 A n c (intsV z)) (hz2 : ∀ x ∈ z, (Lit.int .i64 x).wf = true) (raw : ByteArray) (hraw : raw.size ≤ maxLen) (x : Int × BitVec 64 × ByteArray) (hx : x.2.2.size ≤ maxLen) (at_ : Int) (h1 : (Lit.int .i64 at_).wf = true) (by_ : Int) (wb : (Lit.int .u8 by_).wf = true) :
    Calls Try.prog 8 #[.slice A n c, .string raw, .agg #[.int .i64 x.1, .int .u64 x.2.1.toNat, .string x.2.2], .int .i64 at_, .int .u8 by_] w fun e w' => e = .returned (.bool true) ∧ Below w.heap.size w w' :=
  walk_JournalExact w A n c z hz hz2 raw hraw x.1 x.2.1 x.2.2 hx at_ h1 by_ wb
end Go.Proofs.Ytmcedodejnnkmaa
