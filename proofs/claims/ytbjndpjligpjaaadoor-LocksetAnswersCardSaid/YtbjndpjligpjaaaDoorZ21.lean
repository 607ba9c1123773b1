import Derived.Test.YtbjndpjligpjaaaDoorZ20
import Derived.Test.YtbjndpjligpjaaaDoorZ00
/-
  Walk of the statements' own makers: name.
-/
namespace Go.Proofs.YtbjndpjligpjaaaDoor
open Go.RowKit
/-- A letter and two digits. -/
def nm2 (l : List UInt8) (k : Nat) : List UInt8 := l ++ [UInt8.ofNat (48 + k / 10), UInt8.ofNat (48 + k % 10)]
set_option maxRecDepth 100000 in
set_option maxHeartbeats 1000000 in
theorem mkname_any (l : ByteArray) (k : Nat) (w : World) (hl : l.size ≤ 1000) (hk : k < 100) : Calls Tryd.prog 29 #[.string l, .int .i64 k] w fun e w' => e = .returned (.string (mkS (nm2 (toL l) k))) ∧ Below w.heap.size w w' := by
  have e1 : (k : Int) / 10 = ((k / 10 : Nat) : Int) := by omega
  have e2 : (k : Int) % 10 = ((k % 10 : Nat) : Int) := by omega
  have h1 : k / 10 < 10 := by omega
  have h2 : k % 10 < 10 := by omega
  have HS : Hid (l ++ mkS [UInt8.ofNat (48 + k / 10), UInt8.ofNat (48 + k % 10)] = mkS (nm2 (toL l) k)) := by
    unfold Hid
    apply toL_inj
    rw [toL_append, toL_mk, toL_mk, nm2]
  generalize k / 10 = p at *
  generalize k % 10 = q at *
  have u1 : ((48 : Int) + (p : Int)) = ((UInt8.ofNat (48 + p)).toNat : Int) := by rw [UInt8.toNat_ofNat']; omega
  have u2 : ((48 : Int) + (q : Int)) = ((UInt8.ofNat (48 + q)).toNat : Int) := by rw [UInt8.toNat_ofNat']; omega
  have HU1 := Lib.hid u1; have HU2 := Lib.hid u2
  clear u1 u2
  have hcv : ∀ W : World, (convert 78 9 (.slice (some ⟨w.heap.size, 0, none⟩) 2 2)).run Tryd.prog (w.alloc (.cells #[.int .u8 (48 + (p : Int)), .int .u8 (48 + (q : Int))] 5)) = .ok (.string (mkS [UInt8.ofNat (48 + p), UInt8.ofNat (48 + q)])) (w.alloc (.cells #[.int .u8 (48 + (p : Int)), .int .u8 (48 + (q : Int))] 5)) := fun _ => by
    refine run_string_of (B := w.heap.size + 1) Tryd.underlying78 Tryd.underlying5 Tryd.underlying9 ?_
    have := Sl.newest (w := w) (cs := #[.int .u8 (48 + (p : Int)), .int .u8 (48 + (q : Int))]) (T := 5) (fr := (0, 0)) (n := 2) (size := 1) rfl rfl (by decide)
    simp only [bytesV, List.flatMap_cons, List.flatMap_nil, List.singleton_append, ← HU1.out, ← HU2.out]
    exact this
  replace hcv := hcv w
  have hz : (mkS [UInt8.ofNat (48 + p), UInt8.ofNat (48 + q)]).size = 2 := by rw [size_mk]; rfl
  generalize mkS [UInt8.ofNat (48 + p), UInt8.ofNat (48 + q)] = S2 at *
  have hcat : ¬ (9223372036854775807 < l.size + S2.size) := by omega
  clear hz
  go_enter Tryd.func29, Tryd.ntmps29
  go_wp2_with fail
  go_ret
  exact ⟨by rw [← HS.out]; rfl, (Below.refl _ _).alloc (Nat.le_refl _) _⟩
end Go.Proofs.YtbjndpjligpjaaaDoor
/-
  Walk of the statements' own makers: One.
-/
namespace Go.Proofs.YtbjndpjligpjaaaDoor
open Go.RowKit
/-- true once in n times: only the deck has changed. -/
def OnePost (w : World) (g : Nat) (e : Ending) (w' : World) : Prop :=
  ∃ r : Bool, e = .returned (.bool r) ∧ Hid (DeckAt w' g) ∧ Hid (w.grownBy w' (some g)) ∧ Hid (w'.heap.size = w.heap.size)
theorem one_any (g : Nat) (n : Int) (w : World) (hd : DeckAt w g) (hn : n ≤ 9223372036854775807) : Calls Tryd.prog 30 #[.pointer (some ⟨g, 0, none⟩), .int .i64 n] w (OnePost w g) := by
  have HD := Lib.hid hd; clear hd
  go_enter Tryd.func30, Tryd.ntmps30
  go_wp2_with fail
  refine (next_any g n w HD.out hn).mono ?_
  rintro e w1 ⟨r, rfl, h0, h1, h2, h3, h4, h5⟩
  clear h1 h2
  go_wp2_with fail
  go_ret
  exact ⟨_, rfl, h3, h4, h5⟩
end Go.Proofs.YtbjndpjligpjaaaDoor
