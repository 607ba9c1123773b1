/-
  Memory: slices of locks.
-/
import Derived.Test.YtfabeihlfgemdaaDoorLockP
import Derived.Test.YtfabeihlfgemdaaDoorOwn
namespace Go.Proofs.YtfabeihlfgemdaaDoor
open Go.RowKit
def Lk.cells (k : Lk) : List Value := [.int .i64 k.dev, .int .i64 k.pos, .int .i64 k.key]
theorem el_lock : ElemI Tryd.prog 33 37 3 24 := ElemI.mk' (z := .agg #[.int .i64 0, .int .i64 0, .int .i64 0]) Tryd.underlying33 (by kernel_rfl) rfl (by decide)
/-- The slice is the call's own row of these locks. -/
def LocksO (w : World) (base : Nat) (A : Option Addr) (n c : Nat) (ls : List Lk) : Prop := w.ownsRow base 37 3 (.slice A n c) n (ls.flatMap Lk.cells)
section
variable {w w' : World} {base n c B : Nat} {A : Option Addr} {ls : List Lk}
theorem LocksO.sl (h : LocksO w base A n c ls) : Sl w w.heap.size 3 A n c (ls.flatMap Lk.cells) := Sl.of_own h
theorem LocksO.len (h : LocksO w base A n c ls) : ls.length = n := (Sl.of_own h).len (fun _ => rfl) (by decide)
theorem LocksO.later (h : LocksO w base A n c ls) (hb : Below w.heap.size w w') : LocksO w' base A n c ls := own_later h hb
theorem locks_one (l : List Lk) : ∀ u ∈ l.flatMap Lk.cells, u.oneCell' = true := by
  intro u hu
  rw [List.mem_flatMap] at hu
  obtain ⟨x, _, hx⟩ := hu
  simp only [Lk.cells, List.mem_cons, List.not_mem_nil, or_false] at hx
  rcases hx with rfl | rfl | rfl <;> rfl
/-- What a lock's three cells hold. -/
theorem Sl.lock {i : Nat} (h : Sl w B 3 A n c (ls.flatMap Lk.cells)) (hi : i < n) : ∃ b off d p q, A = some ⟨b, off, none⟩ ∧ b < B ∧ ls[i]? = some ⟨d, p, q⟩ ∧ w.cell? ⟨b, off + i * 3, none⟩ = some (.int .i64 d) ∧ w.cell? ⟨b, off + i * 3 + 1, none⟩ = some (.int .i64 p) ∧ w.cell? ⟨b, off + i * 3 + 2, none⟩ = some (.int .i64 q) := by
  obtain ⟨b, off, ⟨d, p, q⟩, e, hb, hx, hc⟩ := h.at (fun _ => rfl) (by decide) hi
  exact ⟨b, off, d, p, q, e, hb, hx, hc 0 _ rfl, hc 1 _ rfl, hc 2 _ rfl⟩
end
end Go.Proofs.YtfabeihlfgemdaaDoor
