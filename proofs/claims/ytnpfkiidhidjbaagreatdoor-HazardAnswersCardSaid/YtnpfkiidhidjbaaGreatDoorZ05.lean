import Derived.Test.YtnpfkiidhidjbaaGreatDoorProg
import Derived.Test.YtnpfkiidhidjbaaGreatDoorZ00
import Derived.Outline
import Derived.Deep.QuietTactic
import Derived.BigQuiet
import Derived.Laws.Pointers
/-
 Walks of the statements' own makers: Few, New, Next.
-/
namespace Go.Proofs.YtnpfkiidhidjbaaGreatDoor
open Go.RowKit
theorem few_any (A : Option Addr) (n c : Nat) (w : World) (hn : n ≤ 9223372036854775807) : Calls Tryz.prog 4 #[.slice A n c] w fun e w' => e = .returned (.bool (decide (n ≤ 400))) ∧ w = w' := by
 go_enter Tryz.func4, Tryz.ntmps4
 go_wp2
 go_ret
 exact ⟨ret_bool (by simp; omega), rfl⟩
/-- Block g is a deck: its list lies below it. -/
def DeckAt (w : World) (g : Nat) : Prop :=
 ∃ (A : Option Addr) (n c k : Nat) (l : List Int) (s : Int), w.heap[g]? = some (.cells #[.slice A n c, .int .i64 k, .int .u64 s] 67 (0, 0)) ∧ Sl w g 1 A n c (intsV l) ∧ k ≤ n ∧ 0 ≤ s ∧ s < 18446744073709551616
theorem DeckAt.lt {w : World} {g : Nat} (h : DeckAt w g) : g < w.heap.size := by
 obtain ⟨A, n, c, k, l, s, hh, _⟩ := h
 exact (Array.getElem?_eq_some_iff.1 hh).1
theorem DeckAt.keep {w w' : World} {g : Nat} (h : DeckAt w g) (hk : ∀ i, i ≤ g → w'.heap[i]? = w.heap[i]?) : DeckAt w' g := by
 obtain ⟨A, n, c, k, l, s, hh, hs, h1, h2, h3⟩ := h
 exact ⟨A, n, c, k, l, s, (hk g (Nat.le_refl _)).trans hh, hs.keep fun p hp => World.cell?_of_block (hk p.block (by omega)), h1, h2, h3⟩
theorem DeckAt.below {w w' : World} {g B : Nat} (h : DeckAt w g) (hb : Below B w w') (hg : g < B) : DeckAt w' g := h.keep fun i hi => hb.block i (by omega)
theorem DeckAt.alloc {w : World} {g : Nat} (h : DeckAt w g) (o : Obj) : DeckAt (w.alloc o) g := h.keep fun i hi => Below.heap_alloc w o i (by have := h.lt; omega)
theorem DeckAt.drewN {w : World} {g : Nat} (h : DeckAt w g) (n : Nat) : DeckAt (w.drewN n) g := h
theorem DeckAt.drew {w : World} {g : Nat} (h : DeckAt w g) : DeckAt w.drew g := h
theorem DeckAt.setCell {w : World} {g : Nat} (h : DeckAt w g) {p : Addr} (hp : g < p.block) (u : Value) : DeckAt (w.setCell p u) g := h.keep fun i hi => Below.heap_setCell w p u i (by omega)
theorem DeckAt.grown {w w' : World} {g : Nat} (h : DeckAt w g) {row : Option Nat} (hg : w.grownBy w' row) (hr : ∀ k, row = some k → g < k) : DeckAt w' g :=
 h.keep fun i hi => hg.block i (by have := h.lt; omega) (fun e => by have := hr _ e.symm; omega)
theorem new_any (A : Option Addr) (n c B : Nat) (l : List Int) (w : World) (hr : Sl w B 1 A n c (intsV l)) (hB : B ≤ w.heap.size) :
  Calls Tryz.prog 7 #[.slice A n c] w fun e w' => e = .returned (.pointer (some ⟨w.heap.size, 0, none⟩)) ∧ Hid (DeckAt w' w.heap.size) ∧ Hid (Below w.heap.size w w') ∧ Hid (w'.heap.size = w.heap.size + 1) := by
 go_enter Tryz.func7, Tryz.ntmps7
 go_wp2
 go_ret
 refine ⟨rfl, ⟨A, n, c, 0, l, 88172645463325252, heap_alloc_new w _, (hr.more hB).alloc (Nat.le_refl _) _, Nat.zero_le _, by decide, by decide⟩, (Below.refl _ _).alloc (Nat.le_refl _) _, by unfold Hid; simp⟩
theorem wrap_u64_in (t : Int) : 0 ≤ IntKind.u64.wrap t ∧ IntKind.u64.wrap t < 18446744073709551616 := by
 have : IntKind.u64.wrap t = t % 18446744073709551616 := by simp [IntKind.wrap, IntKind.bits, IntKind.signed]
 omega
theorem next_rem (t n : Int) (hn : 1 ≤ n) : 0 ≤ wrap64 ((IntKind.u64.wrap t / 8589934592).tmod n) ∧ wrap64 ((IntKind.u64.wrap t / 8589934592).tmod n) < n := by
 obtain ⟨h0, h1⟩ := wrap_u64_in t
 generalize IntKind.u64.wrap t = q at *
 have hq : 0 ≤ q / 8589934592 ∧ q / 8589934592 ≤ 2147483647 := by omega
 generalize q / 8589934592 = z at *
 rw [Int.tmod_eq_emod_of_nonneg hq.1]
 have h2 := Int.emod_nonneg z (show n ≠ 0 by omega)
 have h3 := Int.emod_lt_of_pos z (show 0 < n by omega)
 have h4 : z % n ≤ z := by
  rcases Int.lt_or_le z n with h | h
  ·rw [Int.emod_eq_of_lt hq.1 h]; exact Int.le_refl _
  ·omega
 rw [IntWalk.wrap64_in _ ⟨by omega, by omega⟩]
 omega
section
variable {w : World} {g m c k : Nat} {A : Option Addr} {s : Int} {l : List Int}
theorem only_one (w : World) (g d : Nat) (u : Value) :
  w.grownBy ((w.drewN d).setCell ⟨g, 2, none⟩ u) (some g) ∧ ((w.drewN d).setCell ⟨g, 2, none⟩ u).heap.size = w.heap.size :=
 ⟨⟨rfl, rfl, rfl, by simp [World.setCell], fun i _ hi => Below.heap_setCell (w.drewN d) _ u i (fun e => hi (by rw [e]))⟩, by simp [World.setCell]⟩
theorem only_two (w : World) (g d : Nat) (u v : Value) :
  w.grownBy (((w.drewN d).setCell ⟨g, 1, none⟩ u).setCell ⟨g, 2, none⟩ v) (some g) ∧ (((w.drewN d).setCell ⟨g, 1, none⟩ u).setCell ⟨g, 2, none⟩ v).heap.size = w.heap.size :=
 ⟨⟨rfl, rfl, rfl, by simp [World.setCell], fun i _ hi => (Below.heap_setCell _ _ v i (fun e => hi (by rw [e]))).trans (Below.heap_setCell (w.drewN d) _ u i (fun e => hi (by rw [e])))⟩, by simp [World.setCell]⟩
theorem deck_one (hh : w.heap[g]? = some (.cells #[.slice A m c, .int .i64 k, .int .u64 s] 67 (0, 0))) (hs : Sl w g 1 A m c (intsV l)) (hk : k ≤ m) (t : Int) :
  DeckAt (w.setCell ⟨g, 2, none⟩ (.int .u64 (IntKind.u64.wrap t))) g := by
 refine ⟨A, m, c, k, l, IntKind.u64.wrap t, ?_, hs.setCell (Nat.le_refl _) _, hk, wrap_u64_in t⟩
 simp [World.setCell, Array.getElem?_modify, hh]
theorem deck_two (hh : w.heap[g]? = some (.cells #[.slice A m c, .int .i64 k, .int .u64 s] 67 (0, 0))) (hs : Sl w g 1 A m c (intsV l)) (hk : k < m) (t : Int) :
  DeckAt ((w.setCell ⟨g, 1, none⟩ (.int .i64 ((k : Int) + 1))).setCell ⟨g, 2, none⟩ (.int .u64 (IntKind.u64.wrap t))) g := by
 refine ⟨A, m, c, k + 1, l, IntKind.u64.wrap t, ?_, (hs.setCell (Nat.le_refl _) _).setCell (Nat.le_refl _) _, hk, wrap_u64_in t⟩
 simp [World.setCell, Array.getElem?_modify, hh]
end
/-- A number below n is returned (0 if n is less than 1); only the deck has changed. -/
def NextPost (w : World) (g : Nat) (n : Int) (e : Ending) (w' : World) : Prop :=
 ∃ r : Int, e = .returned (.int .i64 r) ∧ 0 ≤ r ∧ Hid (n < 1 → r = 0) ∧ Hid (1 ≤ n → r < n) ∧ Hid (DeckAt w' g) ∧ Hid (w.grownBy w' (some g)) ∧ Hid (w'.heap.size = w.heap.size)
set_option maxHeartbeats 1000000 in
theorem next_any (g : Nat) (n : Int) (w : World) (hd : DeckAt w g) (hn : n ≤ 9223372036854775807) : Calls Tryz.prog 29 #[.pointer (some ⟨g, 0, none⟩), .int .i64 n] w (NextPost w g n) := by
 have hlt := hd.lt
 obtain ⟨A, m, c, k, l, s, hh, hs, h1, h2, h3⟩ := hd
 obtain ⟨hmc, hcm⟩ := hs.le
 have c0 : w.cell? ⟨g, 0, none⟩ = some (.slice A m c) := cell_of_row w g 0 _ _ _ hh
 have c1 : w.cell? ⟨g, 1, none⟩ = some (.int .i64 k) := cell_of_row w g 1 _ _ _ hh
 have c2 : w.cell? ⟨g, 2, none⟩ = some (.int .u64 s) := cell_of_row w g 2 _ _ _ hh
 have f0 : ∀ j, w.frozen? ⟨g, j, none⟩ = false := fun j => by simp [World.frozen?, hh]
 have f1 := f0 1
 have f2 := f0 2
 have HH := Lib.hid hh; have HS := Lib.hid hs
 clear hh hs f0
 have H3 := Lib.hid h3; clear h3
 by_cases hk : k < m
 ·obtain ⟨b, off, x, rfl, hb, hx, hcell⟩ := HS.out.at1 hk
  clear hx
  have hki : (k : Int) < (m : Int) := by omega
  go_enter Tryz.func29, Tryz.ntmps29
  go_wp2_with fail
  go_quiet (fail)
  go_wp2_with fail
  go_quiet (fail)
  go_wp2_with fail
  ·go_ret
   exact ⟨_, rfl, Int.le_refl _, fun _ => rfl, fun h => absurd h (by omega), deck_two HH.out HS.out hk _, only_two w g _ _ _⟩
  ·go_ret
   have hr := next_rem (IntKind.u64.wrap (IntKind.u64.wrap (s * 6364136223846793005) + IntKind.u64.wrap x) + 1442695040888963407) n (by omega)
   exact ⟨_, rfl, hr.1, fun h => absurd h (by omega), fun _ => hr.2, deck_two HH.out HS.out hk _, only_two w g _ _ _⟩
 ·have hki : decide ((k : Int) < (m : Int)) = false := by simp; omega
  go_enter Tryz.func29, Tryz.ntmps29
  go_wp2_with fail
  go_quiet (fail)
  go_wp2_with fail
  ·go_ret
   exact ⟨_, rfl, Int.le_refl _, fun _ => rfl, fun h => absurd h (by omega), deck_one HH.out HS.out h1 _, only_one w g _ _⟩
  ·go_ret
   have hr := next_rem (IntKind.u64.wrap (IntKind.u64.wrap (s * 6364136223846793005)) + 1442695040888963407) n (by omega)
   exact ⟨_, rfl, hr.1, fun h => absurd h (by omega), fun _ => hr.2, deck_one HH.out HS.out h1 _, only_one w g _ _⟩
end Go.Proofs.YtnpfkiidhidjbaaGreatDoor
/-
 Walk of the statements' own makers: name.
-/
namespace Go.Proofs.YtnpfkiidhidjbaaGreatDoor
open Go.RowKit
/-- A letter and two digits. -/
def nm2 (l : List UInt8) (k : Nat) : List UInt8 := l ++ [UInt8.ofNat (48 + k / 10), UInt8.ofNat (48 + k % 10)]
set_option maxRecDepth 100000 in
set_option maxHeartbeats 1000000 in
theorem mkname_any (l : ByteArray) (k : Nat) (w : World) (hl : l.size ≤ 1000) (hk : k < 100) : Calls Tryz.prog 30 #[.string l, .int .i64 k] w fun e w' => e = .returned (.string (mkS (nm2 (toL l) k))) ∧ Below w.heap.size w w' := by
 have e1 : (k : Int) / 10 = ((k / 10 : Nat) : Int) := by omega
 have e2 : (k : Int) % 10 = ((k % 10 : Nat) : Int) := by omega
 have h1 : k / 10 < 10 := by omega
 have h2 : k % 10 < 10 := by omega
 have HS : Hid (l ++ mkS [UInt8.ofNat (48 + k / 10), UInt8.ofNat (48 + k % 10)] = mkS (nm2 (toL l) k)) := by
  unfold Hid
  apply toL_inj
  rw [toL_append, toL_mk, toL_mk, nm2]
 generalize k / 10 = p at *
 generalize k % 10 = q at *
 have u1 : ((48 : Int) + (p : Int)) = ((UInt8.ofNat (48 + p)).toNat : Int) := by rw [UInt8.toNat_ofNat']; omega
 have u2 : ((48 : Int) + (q : Int)) = ((UInt8.ofNat (48 + q)).toNat : Int) := by rw [UInt8.toNat_ofNat']; omega
 have HU1 := Lib.hid u1; have HU2 := Lib.hid u2
 clear u1 u2
 have hcv : ∀ W : World, (convert 93 9 (.slice (some ⟨w.heap.size, 0, none⟩) 2 2)).run Tryz.prog (w.alloc (.cells #[.int .u8 (48 + (p : Int)), .int .u8 (48 + (q : Int))] 5)) = .ok (.string (mkS [UInt8.ofNat (48 + p), UInt8.ofNat (48 + q)])) (w.alloc (.cells #[.int .u8 (48 + (p : Int)), .int .u8 (48 + (q : Int))] 5)) := fun _ => by
  refine run_string_of (B := w.heap.size + 1) Tryz.underlying93 Tryz.underlying5 Tryz.underlying9 ?_
  have := Sl.newest (w := w) (cs := #[.int .u8 (48 + (p : Int)), .int .u8 (48 + (q : Int))]) (T := 5) (fr := (0, 0)) (n := 2) (size := 1) rfl rfl (by decide)
  simp only [bytesV, List.flatMap_cons, List.flatMap_nil, List.singleton_append, ← HU1.out, ← HU2.out]
  exact this
 replace hcv := hcv w
 have hz : (mkS [UInt8.ofNat (48 + p), UInt8.ofNat (48 + q)]).size = 2 := by rw [size_mk]; rfl
 generalize mkS [UInt8.ofNat (48 + p), UInt8.ofNat (48 + q)] = S2 at *
 have hcat : ¬ (9223372036854775807 < l.size + S2.size) := by omega
 clear hz
 go_enter Tryz.func30, Tryz.ntmps30
 go_wp2_with fail
 go_ret
 exact ⟨by rw [← HS.out]; rfl, (Below.refl _ _).alloc (Nat.le_refl _) _⟩
end Go.Proofs.YtnpfkiidhidjbaaGreatDoor
/-
 Walk of the statements' own makers: One.
-/
namespace Go.Proofs.YtnpfkiidhidjbaaGreatDoor
open Go.RowKit
/-- true once in n times: only the deck has changed. -/
def OnePost (w : World) (g : Nat) (e : Ending) (w' : World) : Prop :=
 ∃ r : Bool, e = .returned (.bool r) ∧ Hid (DeckAt w' g) ∧ Hid (w.grownBy w' (some g)) ∧ Hid (w'.heap.size = w.heap.size)
theorem one_any (g : Nat) (n : Int) (w : World) (hd : DeckAt w g) (hn : n ≤ 9223372036854775807) : Calls Tryz.prog 31 #[.pointer (some ⟨g, 0, none⟩), .int .i64 n] w (OnePost w g) := by
 have HD := Lib.hid hd; clear hd
 go_enter Tryz.func31, Tryz.ntmps31
 go_wp2_with fail
 refine (next_any g n w HD.out hn).mono ?_
 rintro e w1 ⟨r, rfl, h0, h1, h2, h3, h4, h5⟩
 clear h1 h2
 go_wp2_with fail
 go_ret
 exact ⟨_, rfl, h3, h4, h5⟩
end Go.Proofs.YtnpfkiidhidjbaaGreatDoor
