/-
  The library's Sort and Contains at integers, over a slice of the call's own.
-/
import Derived.Test.YtddjifkmaogpiaaDoorOwn
import Derived.Test.YtddjifkmaogpiaaDoorShelf
import Derived.Sort.OwnSortedInts
namespace Go.Proofs.YtddjifkmaogpiaaDoor
open Go.RowKit
def sortL (l : List Int) : List Int := l.mergeSort fun x y => decide (x ≤ y)
def hasB (l : List Int) (x : Int) : Bool := l.contains x
theorem hasB_iff (l : List Int) (x : Int) : hasB l x = true ↔ x ∈ l := by unfold hasB; simp
theorem hasB_not (l : List Int) (x : Int) : hasB l x = false ↔ x ∉ l := by rw [← hasB_iff]; simp
theorem sortL_perm (l : List Int) : (sortL l).Perm l := List.mergeSort_perm _ _
theorem sortL_mem (l : List Int) (x : Int) : x ∈ sortL l ↔ x ∈ l := (sortL_perm l).mem_iff
theorem sortL_len (l : List Int) : (sortL l).length = l.length := (sortL_perm l).length_eq
theorem sortL_sorted (l : List Int) : (sortL l).Pairwise (· ≤ ·) := by
  have h := List.pairwise_mergeSort (le := fun x y : Int => decide (x ≤ y)) (fun a b c h1 h2 => by simp at *; omega) (fun a b => by simp; omega) l
  exact h.imp (fun h => by simpa using h)
theorem sortL_nodup {l : List Int} (h : l.Nodup) : (sortL l).Nodup := (sortL_perm l).nodup_iff.2 h
theorem sort_any (A : Option Addr) (n c base : Nat) (l : List Int) (w : World) (h : IntsO w base A n c l) (hn : n ≤ 1000000) :
    Calls Tryd.prog 39 #[.slice A n c] w fun e w' => e = .returned (.tuple #[]) ∧ Hid (IntsO w' base A n c (sortL l)) ∧ Hid (w.grownBy w' (Value.slice A n c).ownBlock) := by
  have hl := h.len
  rcases h.2 with ⟨hv, h0⟩ | ⟨g, cap, cur, hv, hb, hh, hnc, hm, hs, ht⟩
  · injection hv with h1 h2 h3
    subst h1 h3 h0
    have : l = [] := List.eq_nil_of_length_eq_zero hl
    subst this
    refine (Tryd.slices_Sort_int_none none 0 w).mono ?_
    rintro e w1 ⟨rfl, rfl⟩
    exact ⟨rfl, by unfold Hid sortL; simpa using h, grown_refl _ _⟩
  · injection hv with h1 h2 h3
    subst h1 h3
    subst hl
    rw [Nat.mul_one, intsV_map] at ht
    refine (Tryd.slices_Sort_int g 0 c l w (holds_of_blockI hh ht) (h.lt g rfl).2 (by omega)).mono ?_
    rintro e w1 ⟨rfl, k, os, rfl⟩
    refine ⟨rfl, ?_, grownBy_sortedI _⟩
    have := ownsRow_sortedI (n := k) (os := os) (ss := l) (ts := sortL l) (sortL_len l) hb hh hnc hm hs
    unfold Hid IntsO
    rw [intsV_map]
    exact this
theorem contains_any (A : Option Addr) (n c B : Nat) (l : List Int) (x : Int) (w : World) (h : Sl w B 1 A n c (intsV l)) :
    Calls Tryd.prog 38 #[.slice A n c, .int .i64 x] w fun e w' => e = .returned (.bool (hasB l x)) ∧ w = w' := by
  have hl : l.length = n := h.len (fun _ => rfl) (by decide)
  have hle := h.le
  rcases Nat.eq_zero_or_pos n with rfl | h0
  · have : l = [] := List.eq_nil_of_length_eq_zero hl
    subst this
    refine (Tryd.slices_Contains_int_empty A c x w).mono ?_
    rintro e w1 ⟨rfl, rfl⟩
    exact ⟨rfl, rfl⟩
  · obtain ⟨b, off, e, hb, hc⟩ := h.2.2.2.2 h0
    subst e
    refine (Tryd.slices_Contains_int b off n c l x w (by omega) (by omega) (fun j hj => hc j _ ?_)).mono ?_
    · have := flat_at (f := fun z => [Value.int .i64 z]) (size := 1) (fun _ => rfl) l j 0 _ (List.getElem?_eq_getElem hj) (by decide)
      rw [Nat.mul_one] at this
      rw [List.getD_eq_getElem?_getD, List.getElem?_eq_getElem hj]
      exact this
    · rintro e w1 ⟨rfl, rfl⟩
      rw [List.take_of_length_le (by omega)]
      exact ⟨rfl, rfl⟩
end Go.Proofs.YtddjifkmaogpiaaDoor
