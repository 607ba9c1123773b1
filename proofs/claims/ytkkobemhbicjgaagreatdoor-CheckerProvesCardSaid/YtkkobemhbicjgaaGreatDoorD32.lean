import Derived.Test.YtkkobemhbicjgaaGreatDoorD29
import Derived.Test.YtkkobemhbicjgaaGreatDoorD13
import Derived.Test.YtkkobemhbicjgaaGreatDoorD28
import Derived.Deep.LoopGhost
set_option maxRecDepth 100000
set_option maxHeartbeats 4000000
namespace Go.Proofs.YtkkobemhbicjgaaGreatDoor
open Go.RowKit
def MfIn (F : List Int → List Bool) (rows : List (List Int)) (k : Nat) (S : List Bool) (nb : Bool) : Prop := S.length = 9 ∧ (∀ i, i < 9 → (S[i]? = some true ↔ ∃ s ∈ rows.take k, (F s)[i]? = some true)) ∧ (nb = true ↔ ∀ s ∈ rows.take k, (F s)[7]? = some true)
def MfTo (F : List Int → List Bool) (rows : List (List Int)) (k : Nat) (s : List Int) (j : Nat) (S : List Bool) : Prop := S.length = 9 ∧ (∀ i, i < 9 → (S[i]? = some true ↔ (∃ s ∈ rows.take k, (F s)[i]? = some true) ∨ i < j ∧ (F s)[i]? = some true))
section
variable {F : List Int → List Bool} {rows : List (List Int)} {k j : Nat} {s : List Int} {S : List Bool} {nb a b : Bool}
theorem MfIn.start : MfIn F rows 0 (List.replicate 9 false) true := ⟨rfl, fun i hi => by rw [List.getElem?_replicate, if_pos hi]; simp, by simp⟩
theorem MfIn.two (h : MfIn F rows k S nb) : MfTo F rows k s 0 S := ⟨h.1, fun i hi => by rw [h.2.1 i hi]; simp⟩
theorem MfIn.nothing (h : MfIn F rows k S nb) (hs : rows[k]? = some s) (hb : (F s)[7]? = some b) : (nb && b) = true ↔ ∀ s ∈ rows.take (k + 1), (F s)[7]? = some true := by
 rw [Bool.and_eq_true, h.2.2, take_snoc hs]
 constructor
 ·rintro ⟨h1, rfl⟩ t ht
  rcases List.mem_append.1 ht with h2 | h2
  ·exact h1 t h2
  ·rw [List.mem_singleton.1 h2]; exact hb
 ·intro h1
  refine ⟨fun t ht => h1 t (List.mem_append_left _ ht), ?_⟩
  have := h1 s (by simp)
  rw [hb] at this
  exact Option.some.inj this
theorem MfTo.step (h : MfTo F rows k s j S) (hj : j < 9) (ha : S[j]? = some a) (hb : (F s)[j]? = some b) : MfTo F rows k s (j + 1) (S.set j (a || b)) := by
 refine ⟨by rw [List.length_set]; exact h.1, fun i hi => ?_⟩
 by_cases hij : j = i
 ·subst hij
  rw [List.getElem?_set_self (by rw [h.1]; exact hj)]
  have h1 := h.2 j hj
  rw [ha] at h1
  rw [hb]
  constructor
  ·intro h2
   have h2 := Option.some.inj h2
   rw [Bool.or_eq_true] at h2
   rcases h2 with rfl | rfl
   ·rcases h1.1 rfl with h3 | h3
    ·exact .inl h3
    ·omega
   ·exact .inr ⟨by omega, rfl⟩
  ·rintro (h2 | ⟨_, h2⟩)
   ·have := Option.some.inj (h1.2 (.inl h2))
    rw [this]; rfl
   ·have := Option.some.inj h2
    rw [this, Bool.or_true]
 ·rw [List.getElem?_set_ne hij, h.2 i hi]
  constructor
  ·rintro (h1 | ⟨h1, h2⟩)
   ·exact .inl h1
   ·exact .inr ⟨by omega, h2⟩
  ·rintro (h1 | ⟨h1, h2⟩)
   ·exact .inl h1
   ·exact .inr ⟨by omega, h2⟩
theorem MfTo.done (h : MfTo F rows k s 9 S) (hs : rows[k]? = some s) (hn : nb = true ↔ ∀ s ∈ rows.take (k + 1), (F s)[7]? = some true) : MfIn F rows (k + 1) S nb := by
 refine ⟨h.1, fun i hi => ?_, hn⟩
 rw [h.2 i hi, take_snoc hs]
 constructor
 ·rintro (⟨t, ht, h1⟩ | ⟨_, h1⟩)
  ·exact ⟨t, List.mem_append_left _ ht, h1⟩
  ·exact ⟨s, by simp, h1⟩
 ·rintro ⟨t, ht, h1⟩
  rcases List.mem_append.1 ht with h2 | h2
  ·exact .inl ⟨t, h2, h1⟩
  ·rw [List.mem_singleton.1 h2] at h1; exact .inr ⟨hi, h1⟩
end
end Go.Proofs.YtkkobemhbicjgaaGreatDoor
namespace Go.Proofs.YtkkobemhbicjgaaGreatDoor
open Go.RowKit
def RfiR (w : World) (m : List Int) (p : Int) (A : Option Addr) (c gk : Nat) (iv : Value) (wr : World) : Prop := ∃ (i : Nat) (l : List Int), iv = .int .i64 i ∧ i ≤ m.length ∧ gk = m.length - i ∧ Hid (l.length = m.length ∧ ∀ k, k < m.length → l[k]? = if k < i then (fillL m p)[k]? else m[k]?) ∧ Hid (IntsO wr w.heap.size A m.length c l) ∧ Hid (Below w.heap.size w wr)
theorem rfill_any (A : Option Addr) (c B : Nat) (m : List Int) (p : Int) (w : World) (hs : Sl w B 1 A m.length c (intsV m)) (hB : B ≤ w.heap.size) (hn : m.length ≤ 1000) : Calls Tryz.prog 54 #[.slice A m.length c, .int .i64 p] w (IntsPost w (fillL m p)) := by
 have HS := Lib.hid (hs.more hB)
 clear hs
 go_enter Tryz.func54, Tryz.ntmps54
 go_wp2_with (at_builtin; go_must (refine wpList_app rfl _ (.tmp 7) rfl el_int (by rfl) (World.ownsRow_nil _ w.heap.size _ _) (by rfl) HS.out (ints_one m) (by omega) (by omega) (Nat.le_refl _) ?_; intro A1 co1 w4 hown4 hgr4 hat4; simp only [Nat.zero_add, List.nil_append] at hown4 hgr4 ⊢; have HO4 : Hid (IntsO w4 w.heap.size A1 m.length co1 m) := hown4; have HB4 : Hid (Below w.heap.size w w4) := ⟨hgr4.os, hgr4.tape, hgr4.output, hgr4.size, fun i hi => hgr4.block i hi (by simp [Value.ownBlock])⟩; clear hown4 hgr4 hat4))
 go_loopg [6] m.length (RfiR w m p A1 co1)
 case atStart => exact ⟨0, m, rfl, Nat.zero_le _, rfl, ⟨rfl, fun k _ => by rw [if_neg (by omega)]⟩, HO4, HB4⟩
 case round =>
  clear HO4 HB4
  obtain ⟨i, l, rfl, hi, rfl, hl, hO, hb⟩ := hrel
  by_cases hlt : i < m.length
  ·obtain ⟨g, x, rfl, hg1, hg2, hx, hcell, hfz, hst⟩ := hO.out.at (i := i) hlt
   have hmx : m[i]? = some x := by have := hl.out.2 i hlt; rw [if_neg (by omega)] at this; rw [← this]; exact hx
   have hfx : (fillL m p)[i]? = some (if x = 3 then p else x) := by unfold fillL; rw [List.getElem?_map, hmx]; rfl
   have HST := Lib.hid (hst p)
   by_cases h3 : x = 3
   ·have q : (x == 3) = true := by simpa using h3
    have HL : Hid ((l.set i p).length = m.length ∧ ∀ k, k < m.length → (l.set i p)[k]? = if k < i + 1 then (fillL m p)[k]? else m[k]?) := by
     refine ⟨by rw [List.length_set]; exact hl.out.1, fun k hk => ?_⟩
     by_cases hki : i = k
     ·subst hki
      rw [List.getElem?_set_self (by rw [hl.out.1]; exact hk), if_pos (by omega), hfx, if_pos h3]
     ·rw [List.getElem?_set_ne hki, hl.out.2 k hk]
      by_cases hk2 : k < i
      ·rw [if_pos hk2, if_pos (by omega)]
      ·rw [if_neg hk2, if_neg (by omega)]
    have HB := Lib.hid (hb.out.setCell (p := ⟨g, i, none⟩) hg1 (.int .i64 p))
    clear hst hx hmx hfx h3 hl hO hb
    go_wp2_with fail
    go_roundg (m.length - (i + 1))
    case rel => exact ⟨i + 1, _, by go_num, by omega, rfl, HL, HST, HB⟩
    case measure => omega
   ·have q : (x == 3) = false := by simpa using h3
    have HL : Hid (l.length = m.length ∧ ∀ k, k < m.length → l[k]? = if k < i + 1 then (fillL m p)[k]? else m[k]?) := by
     refine ⟨hl.out.1, fun k hk => ?_⟩
     by_cases hki : i = k
     ·subst hki
      rw [hx, if_pos (by omega), hfx, if_neg h3]
     ·rw [hl.out.2 k hk]
      by_cases hk2 : k < i
      ·rw [if_pos hk2, if_pos (by omega)]
      ·rw [if_neg hk2, if_neg (by omega)]
    clear hst hx hmx hfx h3 hl HST
    go_wp2_with fail
    go_roundg (m.length - (i + 1))
    case rel => exact ⟨i + 1, _, by go_num, by omega, rfl, HL, hO, hb⟩
    case measure => omega
  ·obtain rfl : i = m.length := by omega
   have hii : decide (m.length < m.length) = false := by simp
   have HL : Hid (l = fillL m p) := by
    refine List.ext_getElem? fun k => ?_
    by_cases hk : k < m.length
    ·rw [hl.out.2 k hk, if_pos hk]
    ·rw [List.getElem?_eq_none (by rw [hl.out.1]; omega), List.getElem?_eq_none (by rw [fillL_len]; omega)]
   go_wp2_with fail
   go_ret
   rw [HL.out] at hO
   exact intsPost_mk (fillL_len m p) hO.out hb.out
theorem rhighest_any (A : Option Addr) (c B : Nat) (m : List Int) (w : World) (hs : Sl w B 1 A m.length c (intsV m)) (hB : B ≤ w.heap.size) (hn : m.length ≤ 1000) : Calls Tryz.prog 24 #[.slice A m.length c] w (IntsPost w (fillL m 2)) := by
 have HC := Lib.hid (rfill_any A c B m 2 w hs hB hn)
 clear hs
 go_enter Tryz.func24, Tryz.ntmps24
 go_wp2_with fail
 refine HC.out.mono ?_
 rintro e w1 ⟨A1, c1, rfl, hO, hb⟩
 go_wp2_with fail
 go_ret
 exact ⟨A1, c1, rfl, hO, hb⟩
end Go.Proofs.YtkkobemhbicjgaaGreatDoor
