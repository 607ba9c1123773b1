import Derived.Test.YtfaknfmndafllaaGreatDoorW23
import Derived.Test.YtfaknfmndafllaaGreatDoorW24
import Derived.Test.YtfaknfmndafllaaGreatDoorW17
import Derived.Test.YtfaknfmndafllaaGreatDoorW18
import Derived.Test.YtfaknfmndafllaaGreatDoorW11
import Derived.Test.YtfaknfmndafllaaGreatDoorW14
import Derived.Test.YtfaknfmndafllaaGreatDoorW00
import Derived.Test.YtfaknfmndafllaaGreatDoorW04
import Derived.Deep.LoopGhost
import Derived.Deep.DeepCutAuto
set_option maxHeartbeats 2000000
namespace Go.Proofs.YtfaknfmndafllaaGreatDoor
open Go.RowKit
structure LwN (w : World) (nb : Nat) (An : Option Addr) (nn cn : Nat) (ns : List Nd) (Ad : Option Addr) (nd cd : Nat) (ds : List Dv) (wr : World) : Prop where
 dk : DeckAt wr w.heap.size
 bx : Blk wr nb 30 #[.slice An nn cn, .slice Ad nd cd]
 hn : SlX wr w.heap.size 3 An nn cn (ns.flatMap Nd.cells)
 hd : SlX wr w.heap.size 5 Ad nd cd (ds.flatMap Dv.cells)
 bl : Below w.heap.size w wr
 ge : w.heap.size < nb
 la : Laid wr
section
variable {w wr wr' : World} {nb nn cn nd cd : Nat} {An Ad : Option Addr} {ns : List Nd} {ds : List Dv}
theorem LwN.grown (h : LwN w nb An nn cn ns Ad nd cd ds wr) (hl : Laid w) (hg : wr.grownBy wr' (some w.heap.size)) (hd : DeckAt wr' w.heap.size) : LwN w nb An nn cn ns Ad nd cd ds wr' :=
 ⟨hd, h.bx.grown hg (fun e => by have := h.ge; injection e; omega), h.hn.grown hg, h.hd.grown hg, h.bl.trans (below_of_grown hg (Nat.le_refl _) h.bl.size), h.ge, h.la.grown hl hg (Nat.le_refl _)⟩
theorem LwN.later (h : LwN w nb An nn cn ns Ad nd cd ds wr) (hb : Below wr.heap.size wr wr') : LwN w nb An nn cn ns Ad nd cd ds wr' :=
 ⟨h.dk.grown (grown_of_below hb none) (fun k e => by cases e), h.bx.below hb h.bx.lt, h.hn.below hb, h.hd.below hb, h.bl.trans (hb.mono h.bl.size), h.ge, h.la.below hb (Nat.le_refl _)⟩
theorem LwN.mk0 {w1 w2 : World} {nodes dmax : Int} (hl : Laid w) (hb1 : Below w.heap.size w w1) (hs1 : w1.heap.size = w.heap.size + 1) (hd2 : DeckAt w2 w.heap.size) (hg2 : w1.grownBy w2 (some w.heap.size))
 (hrn : w2.ownsRow (w1.heap.size + 4) 80 3 (.slice An nn cn) nn (ns.flatMap Nd.cells)) (hrd : w2.ownsRow (w1.heap.size + 4) 68 5 (.slice Ad nd cd) nd (ds.flatMap Dv.cells)) (_hm : MadeNet nodes dmax ns ds) :
 LwN w w2.heap.size An nn cn ns Ad nd cd ds (w2.alloc (.cells #[.slice An nn cn, .slice Ad nd cd] 30)) ∧ ns.length = nn ∧ ds.length = nd := by
 have hb2 : Below w.heap.size w w2 := hb1.trans (below_of_grown hg2 (Nat.le_refl _) (by omega))
 refine ⟨⟨hd2.alloc _, Blk.new _ _ _, (SlX.of_own hrn (by omega)).alloc _, (SlX.of_own hrd (by omega)).alloc _, hb2.alloc hb2.size _, ?_, (hl.below hb2 (Nat.le_refl _)).alloc _⟩, (Sl.of_own hrn).len (fun _ => rfl) (by decide), (Sl.of_own hrd).len (fun _ => rfl) (by decide)⟩
 have := hg2.size; omega
end
end Go.Proofs.YtfaknfmndafllaaGreatDoor
namespace Go.Proofs.YtfaknfmndafllaaGreatDoor
open Go.RowKit
structure Keep (g : Nat) (P : World → Prop) : Prop where
 later : ∀ {wr wr' : World}, P wr → Below wr.heap.size wr wr' → P wr'
 grown : ∀ {wr wr' : World}, P wr → wr.grownBy wr' (some g) → DeckAt wr' g → P wr'
theorem Keep.and {g : Nat} {P Q : World → Prop} (hp : Keep g P) (hq : Keep g Q) : Keep g fun w => P w ∧ Q w := ⟨fun h hb => ⟨hp.later h.1 hb, hq.later h.2 hb⟩, fun h hg hd => ⟨hp.grown h.1 hg hd, hq.grown h.2 hg hd⟩⟩
theorem Keep.blk {g b : Nat} {t : TypeId} {cs : Array Value} (hne : b ≠ g) : Keep g fun w => Blk w b t cs := ⟨fun h hb => h.below hb h.lt, fun h hg _ => h.grown hg (fun e => hne (by injection e))⟩
theorem SlX.nil (w : World) (g size : Nat) : SlX w g size none 0 0 [] := ⟨Sl.nil _ _ _, fun b off e => by cases e⟩
theorem Keep.drew {g : Nat} {P : World → Prop} (hk : Keep g P) {w : World} (h : P w) : P w.drew := hk.later h (Below.refl _ _).drew
end Go.Proofs.YtfaknfmndafllaaGreatDoor
namespace Go.Proofs.YtfaknfmndafllaaGreatDoor
def nsA : List Nd := [⟨⟨#[65]⟩, 0, 0⟩, ⟨⟨#[66]⟩, 0, 0⟩]
theorem noLoad (kd a b : Int) (parts op : List Int) : loadB kd a b nsA parts op = false := by
 have h : ¬ loadTo kd a b nsA parts op nsA.length := by
  rintro ⟨i, x, _, hx, hc, _⟩
  match i, hx with
  | 0, hx => rw [← Option.some.inj hx] at hc; cases hc
  | 1, hx => rw [← Option.some.inj hx] at hc; cases hc
  | i + 2, hx => simp [nsA] at hx
 unfold loadB
 simp [h]
end Go.Proofs.YtfaknfmndafllaaGreatDoor
namespace Go.Proofs.YtfaknfmndafllaaGreatDoor
open Go.RowKit
def InR (w : World) (n : Nat) (l m : List Int) (gk : Nat) (iv : Value) (wr : World) : Prop := ∃ i : Nat, iv = .int .i64 i ∧ i ≤ n ∧ gk = n - i ∧ Hid (Below w.heap.size w wr) ∧ Hid (∀ j, j < i → l[j]? = m[j]?)
theorem ints_any (A B : Option Addr) (n c n2 c2 Ba Bb : Nat) (l m : List Int) (w : World) (ha : Sl w Ba 1 A n c (intsV l)) (hb : Sl w Bb 1 B n2 c2 (intsV m)) (hBa : Ba ≤ w.heap.size) (hBb : Bb ≤ w.heap.size) : Calls Tryz.prog 25 #[.slice A n c, .slice B n2 c2] w fun e w' => e = .returned (.bool (decide (l = m))) ∧ Below w.heap.size w w' := by
 have HLA := Lib.hid (ha.len (fun _ => rfl) (by decide)); have HLB := Lib.hid (hb.len (fun _ => rfl) (by decide))
 have hm1 := ha.le
 have hm2 := hb.le
 have HA := Lib.hid ha; have HB := Lib.hid hb
 clear ha hb
 by_cases hn : n = n2; rotate_left
 ·have q : decide (n = n2) = false := by simpa using hn
  have q' : ((n : Int) != (n2 : Int)) = true := by simp; omega
  have HR : Hid (decide (l = m) = false) := decide_eq_false (fun e => hn (by rw [← HLA.out, ← HLB.out, e]))
  clear hn
  go_enter Tryz.func25, Tryz.ntmps25
  go_wp2_with fail
  go_ret
  exact ⟨ret_bool (by rw [HR.out]), Below.refl _ _⟩
 subst hn
 go_enter Tryz.func25, Tryz.ntmps25
 go_wp2_with fail
 go_loopg [5] n (InR w n l m)
 case atStart => exact ⟨0, rfl, Nat.zero_le _, rfl, Below.refl _ _, fun j hj => absurd hj (by omega)⟩
 case round =>
  obtain ⟨i, rfl, hi, rfl, hbl, hok⟩ := hrel
  by_cases hlt : i < n
  ·obtain ⟨b1, o1, x, rfl, hb1, hx, hc1⟩ := (HA.out.below hbl.out hBa).at1 hlt
   obtain ⟨b2, o2, y, rfl, hb2, hy, hc2⟩ := (HB.out.below hbl.out hBb).at1 hlt
   have HX := Lib.hid hx; have HY := Lib.hid hy
   clear hx hy
   go_upto_region 6 with (fail)
   refine wp_region_J (S := fun W' => W'.cell? ⟨b1, o1 + i, none⟩ = some (.int .i64 x) ∧ W'.cell? ⟨b2, o2 + i, none⟩ = some (.int .i64 y)) (J := []) (by kernel_rfl) ?_ (fun hHeld => ?_)
   ·exact ⟨hc1, hc2⟩
   try dsimp only at hHeld
   refine tk 0 17 (mf 9 1) hHeld ?_
   refine tk 1 18 (mf 9 2) hHeld ?_
   refine tk 2 19 (mf 9 3) hHeld ?_
   refine tk 3 20 (mf 9 4) hHeld ?_
   refine tk 4 21 (mf 9 5) hHeld ?_
   refine tk 5 22 (mf 9 6) hHeld ?_
   refine tk 6 23 (mf 9 7) hHeld ?_
   refine tk 7 24 (mf 9 8) hHeld ?_
   refine tk 8 25 (mf 9 9) hHeld ?_
   refine wpAnyJ_done (by kernel_rfl) ?_ _
   clear hHeld
   by_cases hxy : x = y
   ·subst hxy
    go_wp2_with fail
    go_roundg (n - (i + 1))
    case rel => exact ⟨i + 1, by go_num, by omega, rfl, hbl.out.drew, fun j hj => by
     rcases Nat.lt_succ_iff_lt_or_eq.1 hj with h | rfl
     ·exact hok.out j h
     ·rw [HX.out, HY.out]⟩
    case measure => omega
   ·have q : (x != y) = true := by simpa using hxy
    have q2 : (x == y) = false := by simpa using hxy
    have HR : Hid (decide (l = m) = false) := decide_eq_false (fun e => hxy (by have := HX.out; rw [e, HY.out] at this; exact (Option.some.inj this).symm))
    clear hxy
    go_wp2_with fail
    go_ret
    exact ⟨ret_bool (by rw [HR.out]), hbl.out.drew⟩
  ·obtain rfl : i = n := by omega
   have hii : decide (i < i) = false := by simp
   have HR : Hid (decide (l = m) = true) := decide_eq_true (by
    apply List.ext_getElem?
    intro j
    by_cases hj : j < i
    ·exact hok.out j hj
    ·rw [List.getElem?_eq_none (by rw [HLA.out]; omega), List.getElem?_eq_none (by rw [HLB.out]; omega)])
   go_wp2_with fail
   go_ret
   exact ⟨ret_bool (by rw [HR.out]), hbl.out⟩
end Go.Proofs.YtfaknfmndafllaaGreatDoor
