import Derived.Test.YtddddlhgaeameaaGreatDoorM20
import Derived.Test.YtddddlhgaeameaaGreatDoorM25
set_option maxRecDepth 100000
set_option maxHeartbeats 4000000
namespace Go.Proofs.YtddddlhgaeameaaGreatDoor
section
open Go.RowKit
structure Fd where
 s : List Int
 ls : List Lk
 st : List Int
def ja (nd : Nat) (st : List Int) (i : Nat) : Bool := match st[i]? with
 | none => false
 | some d => decide (d < 0) || decide ((nd : Int) ≤ d) || (decide (0 < i) && decide (d ≤ st.getD (i - 1) 0))
def mK (nd : Nat) (st : List Int) : Prop := ∀ i, i < st.length → ja nd st i = false
section
variable {ns : List Nd} {ds : List Dv} {F : Fd}
end
theorem mK.mem {nd : Nat} {st : List Int} (h : mK nd st) {x : Int} (hx : x ∈ st) : 0 ≤ x ∧ x < nd := by
 obtain ⟨i, hi, rfl⟩ := List.mem_iff_getElem.1 hx
 have := h i hi
 unfold ja at this
 rw [List.getElem?_eq_getElem hi] at this
 simp only [Bool.or_eq_false_iff, decide_eq_false_iff_not] at this
 omega
theorem mK.of {nd : Nat} {st : List Int} (h : st.Pairwise (· < ·)) (hm : ∀ x ∈ st, 0 ≤ x ∧ x < nd) : mK nd st := by
 intro i hi
 have h1 := hm _ (List.getElem_mem hi)
 unfold ja
 rw [List.getElem?_eq_getElem hi]
 simp only [Bool.or_eq_false_iff, decide_eq_false_iff_not, Bool.and_eq_false_iff]
 refine ⟨⟨by omega, by omega⟩, ?_⟩
 by_cases h0 : i = 0
 ·left; omega
 ·right
  rw [List.getD_eq_getElem?_getD, List.getElem?_eq_getElem (show i - 1 < st.length by omega), Option.getD_some]
  have := (List.pairwise_iff_getElem.1 h) (i - 1) i (by omega) hi (by omega)
  omega
structure FdM (w : World) (An Ad As Al At : Option Addr) (nn cn nd cd n c nl cl nt ct : Nat) (ns : List Nd) (ds : List Dv) (F : Fd) : Prop where
 hn : Sl w w.heap.size 3 An nn cn (ns.flatMap Nd.cells)
 hd : Sl w w.heap.size 5 Ad nd cd (ds.flatMap Dv.cells)
 hs : Sl w w.heap.size 1 As n c (zK F.s)
 hl : Sl w w.heap.size 3 Al nl cl (F.ls.flatMap Lk.cells)
 ht : Sl w w.heap.size 1 At nt ct (zK F.st)
 la : Laid w
 sn : ∀ x ∈ ns, x.name.size ≤ 9223372036854775807
 sd : ∀ x ∈ ds, x.name.size ≤ 9223372036854775807
section
variable {w w' : World} {An Ad As Al At : Option Addr} {nn cn nd cd n c nl cl nt ct : Nat} {ns : List Nd} {ds : List Dv} {F : Fd}
theorem FdM.later (h : FdM w An Ad As Al At nn cn nd cd n c nl cl nt ct ns ds F) (hb : Below w.heap.size w w') : FdM w' An Ad As Al At nn cn nd cd n c nl cl nt ct ns ds F :=
 ⟨(h.hn.below hb lR).more hb.size, (h.hd.below hb lR).more hb.size, (h.hs.below hb lR).more hb.size, (h.hl.below hb lR).more hb.size, (h.ht.below hb lR).more hb.size, h.la.below hb lR, h.sn, h.sd⟩
theorem FdM.ln (h : FdM w An Ad As Al At nn cn nd cd n c nl cl nt ct ns ds F) : ns.length = nn ∧ ds.length = nd ∧ F.s.length = n ∧ F.ls.length = nl ∧ F.st.length = nt :=
 ⟨h.hn.len (fun _ => rfl) (by decide), h.hd.len (fun _ => rfl) (by decide), h.hs.len (fun _ => rfl) (by decide), h.hl.len (fun _ => rfl) (by decide), h.ht.len (fun _ => rfl) (by decide)⟩
end
end
section
open Go.RowKit
def InR (w : World) (n : Nat) (l m : List Int) (gk : Nat) (iv : Value) (wr : World) : Prop := ∃ i : Nat, iv = .int .i64 i ∧ i ≤ n ∧ gk = n - i ∧ Hid (Below w.heap.size w wr) ∧ Hid (∀ j, j < i → l[j]? = m[j]?)
theorem xT (A B : Option Addr) (n c n2 c2 Ba Bb : Nat) (l m : List Int) (w : World) (ha : Sl w Ba 1 A n c (zK l)) (hb : Sl w Bb 1 B n2 c2 (zK m)) (hBa : Ba ≤ w.heap.size) (hBb : Bb ≤ w.heap.size) : Calls Tryz.prog 18 #[.slice A n c, .slice B n2 c2] w fun e w' => e = .returned (.bool (decide (l = m))) ∧ Below w.heap.size w w' := by
 have HLA := iD (ha.len (fun _ => rfl) (by decide)); have HLB := iD (hb.len (fun _ => rfl) (by decide))
 have hm1 := ha.le
 have hm2 := hb.le
 have HA := iD ha; have HB := iD hb
 clear ha hb
 by_cases hn : n = n2; rotate_left
 ·have q : decide (n = n2) = false := by simpa using hn
  have q' : ((n : Int) != (n2 : Int)) = true := by simp; omega
  have HR : Hid (decide (l = m) = false) := decide_eq_false (fun e => hn (by rw [← HLA.out, ← HLB.out, e]))
  clear hn
  go_enter Tryz.func18, Tryz.ntmps18
  go_wp2_with fail
  go_ret
  exact ⟨zI (by rw [HR.out]), Below.refl _ _⟩
 subst hn
 go_enter Tryz.func18, Tryz.ntmps18
 go_wp2_with fail
 go_loopg [5] n (InR w n l m)
 case atStart => exact ⟨0, rfl, Nat.zero_le _, rfl, Below.refl _ _, fun j hj => absurd hj (by omega)⟩
 case round =>
  obtain ⟨i, rfl, hi, rfl, hbl, hok⟩ := hrel
  by_cases hlt : i < n
  ·obtain ⟨b1, o1, x, rfl, hb1, hx, hc1⟩ := (HA.out.below hbl.out hBa).at1 hlt
   obtain ⟨b2, o2, y, rfl, hb2, hy, hc2⟩ := (HB.out.below hbl.out hBb).at1 hlt
   have HX := iD hx; have HY := iD hy
   clear hx hy
   go_upto_region 6 with (fail)
   refine zF (S := fun W' => W'.cell? ⟨b1, o1 + i, none⟩ = some (.int .i64 x) ∧ W'.cell? ⟨b2, o2 + i, none⟩ = some (.int .i64 y)) (J := []) (by kernel_rfl) ?_ (fun AA => ?_)
   ·exact ⟨hc1, hc2⟩
   try dsimp only at AA
   refine tk 0 17 (mf 9 1) AA ?_
   refine tk 1 18 (mf 9 2) AA ?_
   refine tk 2 19 (mf 9 3) AA ?_
   refine tk 3 20 (mf 9 4) AA ?_
   refine tk 4 21 (mf 9 5) AA ?_
   refine tk 5 22 (mf 9 6) AA ?_
   refine tk 6 23 (mf 9 7) AA ?_
   refine tk 7 24 (mf 9 8) AA ?_
   refine tk 8 25 (mf 9 9) AA ?_
   refine zC (by kernel_rfl) ?_ _
   clear AA
   by_cases hxy : x = y
   ·subst hxy
    go_wp2_with fail
    go_roundg (n - (i + 1))
    case rel => exact ⟨i + 1, by go_num, by omega, rfl, hbl.out.drew, fun j hj => by
     rcases Nat.lt_succ_iff_lt_or_eq.1 hj with h | rfl
     ·exact hok.out j h
     ·rw [HX.out, HY.out]⟩
    case measure => omega
   ·have q : (x != y) = true := by simpa using hxy
    have q2 : (x == y) = false := by simpa using hxy
    have HR : Hid (decide (l = m) = false) := decide_eq_false (fun e => hxy (by have := HX.out; rw [e, HY.out] at this; exact (Option.some.inj this).symm))
    clear hxy
    go_wp2_with fail
    go_ret
    exact ⟨zI (by rw [HR.out]), hbl.out.drew⟩
  ·obtain rfl : i = n := by omega
   have hii : decide (i < i) = false := by simp
   have HR : Hid (decide (l = m) = true) := decide_eq_true (by
    apply List.ext_getElem?
    intro j
    by_cases hj : j < i
    ·exact hok.out j hj
    ·rw [List.getElem?_eq_none (by rw [HLA.out]; omega), List.getElem?_eq_none (by rw [HLB.out]; omega)])
   go_wp2_with fail
   go_ret
   exact ⟨zI (by rw [HR.out]), hbl.out⟩
end
section
open Go.RowKit
theorem nI {w w1 w2 : World} {row : Option Nat} (h : w.grownBy w1 row) (hb : Below w.heap.size w1 w2) : w.grownBy w2 row :=
 ⟨hb.os.trans h.os, hb.tape.trans h.tape, hb.output.trans h.output, Nat.le_trans h.size hb.size, fun i hi hne => (hb.block i hi).trans (h.block i hi hne)⟩
end
section
open Go.RowKit
def jZ (w : World) (g below : Nat) (e : Ending) (w' : World) : Prop := ∃ (A : Option Addr) (k c : Nat) (l : List Int), e = .returned (.slice A k c) ∧ Hid (zS w' g) ∧ Hid (w.grownBy w' (some g)) ∧ Hid (zU w' w.heap.size A k c l) ∧ Hid (k ≤ below ∧ yi below (-1) l = true)
def hY (w : World) (g below gk : Nat) (ov iv : Value) (wr : World) : Prop := ∃ (i m co : Nat) (Ao : Option Addr) (out : List Int), iv = .int .i64 i ∧ ov = .slice Ao m co ∧ i ≤ below ∧ gk = below - i ∧ m ≤ i ∧ Hid (zU wr w.heap.size Ao m co out) ∧ Hid (zS wr g) ∧ Hid (w.grownBy wr (some g)) ∧ Hid (yi below (-1) out = true ∧ vZ (-1) out < i)
theorem nC (g below most : Nat) (w : World) (hd : zS w g) (hb : below ≤ 1000) (hm : most ≤ 1000) :
 Calls Tryz.prog 35 #[.pointer (some ⟨g, 0, none⟩), .int .i64 (below : Int), .int .i64 (most : Int)] w (jZ w g below) := by
 have hlt := hd.lt
 have HD0 := iD hd
 clear hd
 go_enter Tryz.func35, Tryz.ntmps35
 go_wp2_with fail
 go_loopg [7, 8] below (hY w g below)
 case atStart => exact ⟨0, 0, 0, none, [], rfl, rfl, Nat.zero_le _, rfl, Nat.le_refl _, World.ownsRow_nil _ _ _ _, HD0, xC _ _, ⟨rfl, by show (-1 : Int) < 0; omega⟩⟩
 case round =>
  obtain ⟨i, m, co, Ao, out, rfl, rfl, hi, rfl, hmi, hO, hD, hG, hR⟩ := hrel
  by_cases hgo : i < below ∧ m < most
  ·obtain ⟨hl1, hl2⟩ := hgo
   go_wp2_with fail
   refine (wQ g 3 wr hD.out (by decide)).mono ?_
   rintro e w3 ⟨r, rfl, hd3, hg3, hs3⟩
   have HO3 := iD (hO.out.kept hg3.out (zm fun b e => by have := (hO.out.lt b e).1; omega))
   have HG3 := iD (zP hG.out hg3.out)
   have hz3 := HG3.out.size
   clear hD hG hg3 hs3 hO
   rcases r with _ | _
   ·go_wp2_with fail
    go_roundg (below - (i + 1))
    case rel => exact ⟨i + 1, m, co, Ao, out, by go_num, rfl, by omega, rfl, by omega, HO3, hd3, HG3, ⟨hR.out.1, by have := hR.out.2; omega⟩⟩
    case measure => omega
   ·have HR1 : Hid (yi below (-1) (out ++ [(i : Int)]) = true ∧ vZ (-1) (out ++ [(i : Int)]) < ((i + 1 : Nat) : Int)) := by
     obtain ⟨h1, h2⟩ := hR.out
     refine ⟨?_, by rw [ub]; omega⟩
     rw [vw, h1]
     have h3 : ((i : Nat) : Int) < (below : Nat) := by omega
     simp [h2, h3]
    go_wp2_with (at_builtin; go_must (refine zT rfl (.tmp 22) (.tmp 24) rfl wA (by rfl) (HO3.out.alloc _) (by rfl) (Sl.newest (n := 1) (by simp) (by rfl) (by decide)) (by simp [Value.oneCell']) (by omega) (by omega) (by simp; omega) ?_; intro A' cap' w4 hown4 hgr4 hat4; have HO4 := iD hown4; have HG4 := iD hgr4; clear hown4 hgr4 hat4))
    have HB4 : Hid (Below w.heap.size w3 w4) := ((Below.refl _ _).alloc (by omega) _).trans ⟨HG4.out.os, HG4.out.tape, HG4.out.output, HG4.out.size, fun q hq => HG4.out.block q (by simp; omega) (fun e => by have := (HO3.out.lt q e.symm).1; omega)⟩
    have HD4 := iD (hd3.out.below HB4.out (by omega))
    have HG5 : Hid (w.grownBy w4 (some g)) := nI HG3.out HB4.out
    go_roundg (below - (i + 1))
    case rel =>
     refine ⟨i + 1, m + 1, cap', A', out ++ [(i : Int)], by go_num, rfl, by omega, rfl, by omega, ?_, HD4, HG5, HR1⟩
     have := HO4.out
     unfold Hid zU
     rw [yF]
     exact this
    case measure => omega
  ·have HEND : Hid (jZ w g below (.returned (.slice Ao m co)) wr) := ⟨Ao, m, co, out, rfl, hD, hG, hO, by omega, hR.out.1⟩
   by_cases hl : i < below
   ·have ql : decide ((m : Int) < (most : Int)) = false := by simp; omega
    have ql2 : decide (m < most) = false := by simp; omega
    go_wp2_with fail
    go_ret
    exact HEND.out
   ·have ql : decide ((i : Int) < (below : Int)) = false := by simp; omega
    have ql2 : decide (i < below) = false := by simp; omega
    go_wp2_with fail
    go_ret
    exact HEND.out
end
end Go.Proofs.YtddddlhgaeameaaGreatDoor
