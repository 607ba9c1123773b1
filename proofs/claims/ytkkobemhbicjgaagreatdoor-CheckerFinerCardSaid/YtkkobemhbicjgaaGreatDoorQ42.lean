import Derived.Test.YtkkobemhbicjgaaGreatDoorQ41
import Derived.Test.YtkkobemhbicjgaaGreatDoorQ40
import Derived.Test.YtkkobemhbicjgaaGreatDoorQ26
namespace Go.Proofs.YtkkobemhbicjgaaGreatDoor
open Go.RowKit
def FinL (m f : List Int) (i : Nat) : Prop := f.length = m.length ∧ ∀ k, (k < i → f[k]? = m[k]? ∨ m[k]? = some 3 ∧ (f[k]? = some 1 ∨ f[k]? = some 2)) ∧ (i ≤ k → f[k]? = m[k]?)
section
variable {m f s : List Int} {i n : Nat} {x r : Int}
theorem FinL.start : FinL m m 0 := ⟨rfl, fun k => ⟨fun h => by omega, fun _ => rfl⟩⟩
theorem FinL.pass (h : FinL m f i) : FinL m f (i + 1) := ⟨h.1, fun k => ⟨fun hk => by
 rcases Nat.lt_succ_iff_lt_or_eq.1 hk with h1 | rfl
 ·exact (h.2 k).1 h1
 ·exact .inl ((h.2 k).2 (Nat.le_refl _)), fun hk => (h.2 k).2 (by omega)⟩⟩
theorem FinL.put (h : FinL m f i) (hi : f[i]? = some 3) (hr : r = 1 ∨ r = 2) : FinL m (f.set i r) (i + 1) := by
 have hl : i < f.length := by
  rcases Nat.lt_or_ge i f.length with h1 | h1
  ·exact h1
  ·rw [List.getElem?_eq_none h1] at hi; cases hi
 refine ⟨by rw [List.length_set]; exact h.1, fun k => ⟨fun hk => ?_, fun hk => ?_⟩⟩
 ·rcases Nat.lt_succ_iff_lt_or_eq.1 hk with h1 | rfl
  ·rw [List.getElem?_set_ne (by omega)]; exact (h.2 k).1 h1
  ·rw [List.getElem?_set_self hl, ← (h.2 k).2 (Nat.le_refl _)]
   exact .inr ⟨hi, by rcases hr with rfl | rfl <;> simp⟩
 ·rw [List.getElem?_set_ne (by omega)]; exact (h.2 k).2 (by omega)
theorem FinL.at (h : FinL m f n) (k : Nat) : f[k]? = m[k]? ∨ m[k]? = some 3 ∧ (f[k]? = some 1 ∨ f[k]? = some 2) := by
 rcases Nat.lt_or_ge k n with h1 | h1
 ·exact (h.2 k).1 h1
 ·exact .inl ((h.2 k).2 h1)
theorem FinL.mask (h : FinL m f n) (hm : ∀ p ∈ m, maskB p = true) : ∀ p ∈ f, maskB p = true := by
 intro p hp
 obtain ⟨k, hk⟩ := List.getElem?_of_mem hp
 rcases h.at k with h1 | ⟨-, h1 | h1⟩
 ·rw [h1] at hk; exact hm p (List.mem_of_getElem? hk)
 ·rw [h1] at hk; injection hk with hk; rw [← hk]; rfl
 ·rw [h1] at hk; injection hk with hk; rw [← hk]; rfl
end
def FnR (W : World) (g H : Nat) (m : List Int) (Af : Option Addr) (cf n gk : Nat) (iv : Value) (wr : World) : Prop := ∃ (i : Nat) (f : List Int), iv = .int .i64 i ∧ i ≤ n ∧ gk = n - i ∧ Hid (GrB W g wr) ∧ Hid (IntsO wr H Af n cf f) ∧ Hid (FinL m f i)
theorem fin_of {m f pr : List Int} (h : FinL m f m.length) : FinM ⟨f, [], pr⟩ ⟨m, [], pr⟩ :=
 ⟨h.1, fun i _ => (h.at i).imp id And.left, rfl, fun _ h => h⟩
theorem finB_of {ns : List Nd} {ds : List Dv} {t2 t : Sm} (h : FinM t2 t) (h2 : ChOk ns ds t2) (h1 : ChOk ns ds t) : finB t2.s t.s := by
 refine ⟨h.n, List.all_eq_true.2 (maskErr_net h2.s).2.2, List.all_eq_true.2 (maskErr_net h1.s).2.2, fun i x y hx hy => ?_⟩
 have hi := (List.getElem?_eq_some_iff.1 hy).1
 unfold andM
 rcases h.s i hi with e | e
 ·rw [hx, hy] at e; injection e with e; rw [if_pos e]
 ·rw [hy] at e; injection e with e
  subst e
  by_cases hx3 : x = 3
  ·rw [if_pos hx3]
  ·rw [if_neg hx3, if_neg hx3, if_pos rfl]
structure FpM (W : World) (g x : Nat) (A : Option Addr) (n c : Nat) (xs : List Sp) (wr : World) : Prop where
 bx : Blk wr x 41 #[.string ⟨#[80]⟩, .slice A n c]
 dk : DeckAt wr g
 gr : W.grownBy wr (some g)
 o : wr.ownsRow (x + 1) 43 5 (.slice A n c) n (xs.flatMap Sp.cells)
 hx : W.heap.size ≤ x
section
variable {W wr wr' : World} {g x : Nat} {A A' : Option Addr} {n c c' : Nat} {xs : List Sp} {f : Sp}
theorem FpM.grown (h : FpM W g x A n c xs wr) (hg : wr.grownBy wr' (some g)) (hd : DeckAt wr' g) (h0 : g < W.heap.size) : FpM W g x A n c xs wr' :=
 have := h.hx
 ⟨h.bx.grown hg (fun e => by injection e with e; omega), hd, grown_trans h.gr hg, h.o.kept hg (ne_row fun b e => by have := (h.o.lt b e).1; omega), h.hx⟩
theorem FpM.later (h : FpM W g x A n c xs wr) (hb : Below wr.heap.size wr wr') : FpM W g x A n c xs wr' :=
 ⟨h.bx.below hb h.bx.lt, h.dk.below hb h.dk.lt, grown_then h.gr (hb.mono h.gr.size), own_later h.o hb, h.hx⟩
theorem FpM.app (h : FpM W g x A n c xs wr) (hg : wr.grownBy wr' (Value.slice A n c).ownBlock) (hr : wr'.ownsRow (x + 1) 43 5 (.slice A' (n + 1) c') (n + 1) (xs.flatMap Sp.cells ++ f.cells)) (h0 : g < W.heap.size) :
 Blk wr' x 41 #[.string ⟨#[80]⟩, .slice A n c] ∧ FpM W g x A' (n + 1) c' (xs ++ [f]) (wr'.setCell ⟨x, 1, none⟩ (.slice A' (n + 1) c')) := by
 have hx := h.hx
 have nb : ∀ {b : Nat}, b ≤ x → some b ≠ (Value.slice A n c).ownBlock := fun {b} hb e => by have := (h.o.lt b e.symm).1; omega
 refine ⟨h.bx.grown hg (nb (Nat.le_refl _)), (h.bx.grown hg (nb (Nat.le_refl _))).set 1 _, ?_, ?_, ?_, hx⟩
 ·exact (h.dk.grown hg (fun k e => by have := (h.o.lt k e).1; omega)).setCell (p := ⟨x, 1, none⟩) (by show g < x; omega) _
 ·have hb : Below W.heap.size wr wr' := ⟨hg.os, hg.tape, hg.output, hg.size, fun i hi => hg.block i (Nat.lt_of_lt_of_le hi h.gr.size) (nb (by omega))⟩
  exact grown_then h.gr (hb.setCell (by show W.heap.size ≤ x; omega) _)
 ·rw [List.flatMap_append, List.flatMap_cons, List.flatMap_nil, List.append_nil]
  exact hr.kept (grown_cell _ _ _) (ne_row fun b e => by have := (hr.lt b e).1; simp; omega)
end
def FpR (W : World) (g x : Nat) (nn nd most : Nat) (gk : Nat) (kv : Value) (wr : World) : Prop :=
 ∃ (k n c : Nat) (A : Option Addr) (xs : List Sp), kv = .int .i64 (k : Int) ∧ gk = k ∧ n + k ≤ most ∧ Hid (FpM W g x A n c xs wr) ∧ Hid (∀ y ∈ xs, spErr nn nd y = 0 ∧ y.kind ≠ 3 ∧ y.kind ≠ 6)
theorem kinds_snoc {nn nd : Nat} {xs : List Sp} {f : Sp} (h : ∀ y ∈ xs, spErr nn nd y = 0 ∧ y.kind ≠ 3 ∧ y.kind ≠ 6) (h0 : spErr nn nd f = 0) (h3 : f.kind ≠ 3) (h6 : f.kind ≠ 6) : ∀ y ∈ xs ++ [f], spErr nn nd y = 0 ∧ y.kind ≠ 3 ∧ y.kind ≠ 6 := by
 intro y hy
 rcases List.mem_append.mp hy with hy | hy
 ·exact h y hy
 ·rw [List.mem_singleton.1 hy]; exact ⟨h0, h3, h6⟩
theorem pg_made {ns : List Nd} {ds : List Dv} {nm : ByteArray} {xs : List Sp} (hc : checkN ns ds = 0) (hn : nameB (toL nm) = true) (hl : xs.length ≤ 64) (hx : ∀ x ∈ xs, spErr ns.length ds.length x = 0) : pgErr ns ds nm xs = 0 := by
 unfold pgErr; rw [if_neg (by simp [hc]), if_neg (by simp [hn]), if_neg (by omega)]; exact sps_ok hx
end Go.Proofs.YtkkobemhbicjgaaGreatDoor
