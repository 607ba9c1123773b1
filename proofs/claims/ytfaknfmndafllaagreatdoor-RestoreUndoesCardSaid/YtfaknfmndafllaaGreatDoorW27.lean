import Derived.Test.YtfaknfmndafllaaGreatDoorW18
import Derived.Test.YtfaknfmndafllaaGreatDoorW21
import Derived.Test.YtfaknfmndafllaaGreatDoorW00
import Derived.Test.YtfaknfmndafllaaGreatDoorShelf
import Derived.Sort.OwnSortedInts
import Derived.Test.YtfaknfmndafllaaGreatDoorW11
import Derived.Test.YtfaknfmndafllaaGreatDoorW04
import Derived.Test.YtfaknfmndafllaaGreatDoorW12
import Derived.Test.YtfaknfmndafllaaGreatDoorW09
import Derived.Shelf.SlicesE.DeleteFunc
import Derived.Lib.SliceRun
set_option maxRecDepth 100000
set_option maxHeartbeats 4000000
namespace Go.Proofs.YtfaknfmndafllaaGreatDoor
open Go.RowKit
theorem grown_then {w w1 w2 : World} {row : Option Nat} (h : w.grownBy w1 row) (hb : Below w.heap.size w1 w2) : w.grownBy w2 row :=
 ⟨hb.os.trans h.os, hb.tape.trans h.tape, hb.output.trans h.output, Nat.le_trans h.size hb.size, fun i hi hne => (hb.block i hi).trans (h.block i hi hne)⟩
end Go.Proofs.YtfaknfmndafllaaGreatDoor
namespace Go.Proofs.YtfaknfmndafllaaGreatDoor
open Go.RowKit
def SetPz (w : World) (g below : Nat) (e : Ending) (w' : World) : Prop := ∃ (A : Option Addr) (k c : Nat) (l : List Int), e = .returned (.slice A k c) ∧ Hid (DeckAt w' g) ∧ Hid (w.grownBy w' (some g)) ∧ Hid (IntsO w' w.heap.size A k c l) ∧ Hid (k ≤ below ∧ risL below (-1) l = true)
def MszR (w : World) (g below gk : Nat) (ov iv : Value) (wr : World) : Prop := ∃ (i m co : Nat) (Ao : Option Addr) (out : List Int), iv = .int .i64 i ∧ ov = .slice Ao m co ∧ i ≤ below ∧ gk = below - i ∧ m ≤ i ∧ Hid (IntsO wr w.heap.size Ao m co out) ∧ Hid (DeckAt wr g) ∧ Hid (w.grownBy wr (some g)) ∧ Hid (risL below (-1) out = true ∧ lastD (-1) out < i)
theorem mksetz_any (g below most : Nat) (w : World) (hd : DeckAt w g) (hb : below ≤ 1000) (hm : most ≤ 1000) :
 Calls Tryz.prog 54 #[.pointer (some ⟨g, 0, none⟩), .int .i64 (below : Int), .int .i64 (most : Int)] w (SetPz w g below) := by
 have hlt := hd.lt
 have HD0 := Lib.hid hd
 clear hd
 go_enter Tryz.func54, Tryz.ntmps54
 go_wp2_with fail
 go_loopg [7, 8] below (MszR w g below)
 case atStart => exact ⟨0, 0, 0, none, [], rfl, rfl, Nat.zero_le _, rfl, Nat.le_refl _, World.ownsRow_nil _ _ _ _, HD0, grown_refl _ _, ⟨rfl, by show (-1 : Int) < 0; omega⟩⟩
 case round =>
  obtain ⟨i, m, co, Ao, out, rfl, rfl, hi, rfl, hmi, hO, hD, hG, hR⟩ := hrel
  by_cases hgo : i < below ∧ m < most
  ·obtain ⟨hl1, hl2⟩ := hgo
   go_wp2_with fail
   refine (one_any g 3 wr hD.out (by decide)).mono ?_
   rintro e w3 ⟨r, rfl, hd3, hg3, hs3⟩
   have HO3 := Lib.hid (hO.out.kept hg3.out (ne_row fun b e => by have := (hO.out.lt b e).1; omega))
   have HG3 := Lib.hid (grown_trans hG.out hg3.out)
   have hz3 := HG3.out.size
   clear hD hG hg3 hs3 hO
   rcases r with _ | _
   ·go_wp2_with fail
    go_roundg (below - (i + 1))
    case rel => exact ⟨i + 1, m, co, Ao, out, by go_num, rfl, by omega, rfl, by omega, HO3, hd3, HG3, ⟨hR.out.1, by have := hR.out.2; omega⟩⟩
    case measure => omega
   ·have HR1 : Hid (risL below (-1) (out ++ [(i : Int)]) = true ∧ lastD (-1) (out ++ [(i : Int)]) < ((i + 1 : Nat) : Int)) := by
     obtain ⟨h1, h2⟩ := hR.out
     refine ⟨?_, by rw [lastD_snoc]; omega⟩
     rw [risL_snoc, h1]
     have h3 : ((i : Nat) : Int) < (below : Nat) := by omega
     simp [h2, h3]
    go_wp2_with (at_builtin; go_must (refine wpList_app rfl (.tmp 22) (.tmp 24) rfl el_int (by rfl) (HO3.out.alloc _) (by rfl) (Sl.newest (n := 1) (by simp) (by rfl) (by decide)) (by simp [Value.oneCell']) (by omega) (by omega) (by simp; omega) ?_; intro A' cap' w4 hown4 hgr4 hat4; have HO4 := Lib.hid hown4; have HG4 := Lib.hid hgr4; clear hown4 hgr4 hat4))
    have HB4 : Hid (Below w.heap.size w3 w4) := ((Below.refl _ _).alloc (by omega) _).trans ⟨HG4.out.os, HG4.out.tape, HG4.out.output, HG4.out.size, fun q hq => HG4.out.block q (by simp; omega) (fun e => by have := (HO3.out.lt q e.symm).1; omega)⟩
    have HD4 := Lib.hid (hd3.out.below HB4.out (by omega))
    have HG5 : Hid (w.grownBy w4 (some g)) := grown_then HG3.out HB4.out
    go_roundg (below - (i + 1))
    case rel =>
     refine ⟨i + 1, m + 1, cap', A', out ++ [(i : Int)], by go_num, rfl, by omega, rfl, by omega, ?_, HD4, HG5, HR1⟩
     have := HO4.out
     unfold Hid IntsO
     rw [intsV_append]
     exact this
    case measure => omega
  ·have HEND : Hid (SetPz w g below (.returned (.slice Ao m co)) wr) := ⟨Ao, m, co, out, rfl, hD, hG, hO, by omega, hR.out.1⟩
   by_cases hl : i < below
   ·have ql : decide ((m : Int) < (most : Int)) = false := by simp; omega
    have ql2 : decide (m < most) = false := by simp; omega
    go_wp2_with fail
    go_ret
    exact HEND.out
   ·have ql : decide ((i : Int) < (below : Int)) = false := by simp; omega
    have ql2 : decide (i < below) = false := by simp; omega
    go_wp2_with fail
    go_ret
    exact HEND.out
def ZonePost (w : World) (g nn : Nat) (e : Ending) (w' : World) : Prop := ∃ (A : Option Addr) (k c : Nat) (l : List Int), e = .returned (.slice A k c) ∧ Hid (DeckAt w' g) ∧ Hid (w.grownBy w' (some g)) ∧ Hid (IntsO w' w.heap.size A k c l) ∧ Hid (0 < k ∧ k ≤ nn ∧ risL nn (-1) l = true)
theorem mkzone_any (g : Nat) (An Ad : Option Addr) (nn cn nd cd : Nat) (w : World) (hd : DeckAt w g) (h0 : 0 < nn) (hn : nn ≤ 1000) :
 Calls Tryz.prog 27 #[.pointer (some ⟨g, 0, none⟩), .agg #[.slice An nn cn, .slice Ad nd cd]] w (ZonePost w g nn) := by
 have hlt := hd.lt
 have HD0 := Lib.hid (hd.alloc (.cells #[.slice An nn cn, .slice Ad nd cd] 30))
 have HB0 : Hid (Below w.heap.size w (w.alloc (.cells #[.slice An nn cn, .slice Ad nd cd] 30))) := (Below.refl _ _).alloc (Nat.le_refl _) _
 have HK0 := Lib.hid (Blk.new w 30 #[.slice An nn cn, .slice Ad nd cd])
 clear hd
 have q0 : ((nn : Int) == 0) = false := by simp; omega
 have q1 : (nn == 0) = false := by simp; omega
 go_enter Tryz.func27, Tryz.ntmps27
 go_upto_region 3 with (fail)
 clear q0 q1
 generalize World.alloc _ _ = W at *
 have hz0 := HB0.out.size
 have k0 := HK0.out.c0
 go_wp2_with fail
 clear k0
 refine (mksetz_any g nn 2 W HD0.out hn (by decide)).mono ?_
 rintro e w1 ⟨A, k, c, l, rfl, hd1, hg1, hO1, hr⟩
 have HG1 := Lib.hid (grown_trans (grown_of_below HB0.out (some g)) hg1.out)
 have HK1 := Lib.hid (HK0.out.grown hg1.out (by simp; omega))
 have hz1 := hg1.out.size
 clear hg1 HB0 HK0 HD0
 by_cases hk : k = 0
 ·subst hk
  have k0 := HK1.out.c0
  go_wp2_with fail
  clear k0
  refine (next_any g nn w1 hd1.out (by omega)).mono ?_
  rintro e w2 ⟨r, rfl, hr0, hrp, hrn, hd2, hg2, hs2⟩
  have HG2 := Lib.hid (grown_trans HG1.out hg2.out)
  go_wp2_with fail
  go_ret
  have hz2 := HG2.out.size
  have HBn : Hid (Below w2.heap.size w2 (w2.alloc (.cells #[.int .i64 r] 3))) := (Below.refl _ _).alloc (Nat.le_refl _) _
  refine ⟨_, 1, 1, [r], rfl, hd2.out.alloc _, grown_then HG2.out (HBn.out.mono hz2), own_new (n := 1) (xs := [.int .i64 r]) hz2 (by decide) rfl, by decide, by omega, ?_⟩
  have h1 := hrn.out (by omega)
  simp [risL]
  omega
 ·have q2 : ((k : Int) == 0) = false := by simp; omega
  have q3 : (k == 0) = false := by simp; omega
  go_wp2_with fail
  go_ret
  exact ⟨A, k, c, l, rfl, hd1, HG1, hO1.out.mono hz0, by omega, hr.out⟩
end Go.Proofs.YtfaknfmndafllaaGreatDoor
namespace Go.Proofs.YtfaknfmndafllaaGreatDoor
open Go.RowKit
def sortL (l : List Int) : List Int := l.mergeSort fun x y => decide (x ≤ y)
def hasB (l : List Int) (x : Int) : Bool := l.contains x
theorem hasB_iff (l : List Int) (x : Int) : hasB l x = true ↔ x ∈ l := by unfold hasB; simp
theorem hasB_not (l : List Int) (x : Int) : hasB l x = false ↔ x ∉ l := by rw [← hasB_iff]; simp
theorem sortL_perm (l : List Int) : (sortL l).Perm l := List.mergeSort_perm _ _
theorem sortL_len (l : List Int) : (sortL l).length = l.length := (sortL_perm l).length_eq
theorem sortL_sorted (l : List Int) : (sortL l).Pairwise (· ≤ ·) := by
 have h := List.pairwise_mergeSort (le := fun x y : Int => decide (x ≤ y)) (fun a b c h1 h2 => by simp at *; omega) (fun a b => by simp; omega) l
 exact h.imp (fun h => by simpa using h)
theorem sort_any (A : Option Addr) (n c base : Nat) (l : List Int) (w : World) (h : IntsO w base A n c l) (hn : n ≤ 1000000) :
 Calls Tryz.prog 184 #[.slice A n c] w fun e w' => e = .returned (.tuple #[]) ∧ Hid (IntsO w' base A n c (sortL l)) ∧ Hid (w.grownBy w' (Value.slice A n c).ownBlock) := by
 have hl := h.len
 rcases h.2 with ⟨hv, h0⟩ | ⟨g, cap, cur, hv, hb, hh, hnc, hm, hs, ht⟩
 ·injection hv with h1 h2 h3
  subst h1 h3 h0
  have : l = [] := List.eq_nil_of_length_eq_zero hl
  subst this
  refine (Tryz.slices_Sort_int_none none 0 w).mono ?_
  rintro e w1 ⟨rfl, rfl⟩
  exact ⟨rfl, by unfold Hid sortL; simpa using h, grown_refl _ _⟩
 ·injection hv with h1 h2 h3
  subst h1 h3
  subst hl
  rw [Nat.mul_one, intsV_map] at ht
  refine (Tryz.slices_Sort_int g 0 c l w (holds_of_blockI hh ht) (h.lt g rfl).2 (by omega)).mono ?_
  rintro e w1 ⟨rfl, k, os, rfl⟩
  refine ⟨rfl, ?_, grownBy_sortedI _⟩
  have := ownsRow_sortedI (n := k) (os := os) (ss := l) (ts := sortL l) (sortL_len l) hb hh hnc hm hs
  unfold Hid IntsO
  rw [intsV_map]
  exact this
theorem contains_any (A : Option Addr) (n c B : Nat) (l : List Int) (x : Int) (w : World) (h : Sl w B 1 A n c (intsV l)) :
 Calls Tryz.prog 76 #[.slice A n c, .int .i64 x] w fun e w' => e = .returned (.bool (hasB l x)) ∧ w = w' := by
 have hl : l.length = n := h.len (fun _ => rfl) (by decide)
 have hle := h.le
 rcases Nat.eq_zero_or_pos n with rfl | h0
 ·have : l = [] := List.eq_nil_of_length_eq_zero hl
  subst this
  refine (Tryz.slices_Contains_int_empty A c x w).mono ?_
  rintro e w1 ⟨rfl, rfl⟩
  exact ⟨rfl, rfl⟩
 ·obtain ⟨b, off, e, hb, hc⟩ := h.2.2.2.2 h0
  subst e
  refine (Tryz.slices_Contains_int b off n c l x w (by omega) (by omega) (fun j hj => hc j _ ?_)).mono ?_
  ·have := flat_at (f := fun z => [Value.int .i64 z]) (size := 1) (fun _ => rfl) l j 0 _ (List.getElem?_eq_getElem hj) (by decide)
   rw [Nat.mul_one] at this
   rw [List.getD_eq_getElem?_getD, List.getElem?_eq_getElem hj]
   exact this
  ·rintro e w1 ⟨rfl, rfl⟩
   rw [List.take_of_length_le (by omega)]
   exact ⟨rfl, rfl⟩
end Go.Proofs.YtfaknfmndafllaaGreatDoor
namespace Go.Proofs.YtfaknfmndafllaaGreatDoor
open Go.RowKit
theorem sortL_is {a l : List Int} (h : l.Perm a) (hs : l.Pairwise (· ≤ ·)) : sortL a = l :=
 List.Perm.eq_of_pairwise (le := fun x y : Int => x ≤ y) (fun _ _ _ _ h1 h2 => Int.le_antisymm h1 h2) (sortL_sorted a) hs ((sortL_perm a).trans h.symm)
def lockB (ls : List Lk) (d : Int) : Bool := ls.any fun k => decide (k.dev = d)
def lvE (c : List Int) (x : Dv) : Bool := liveB (bits .or .i64 (c.getD x.a.toNat 0) (c.getD x.b.toNat 0))
def badB (kd p du : Int) (lv : Bool) : Bool := if kd = 3 then decide (du = 2) || decide (du = 3) || decide (du = 4) else if kd = 1 then lv else if kd = 4 then decide (p = 1) && decide (du = 4) else if kd = 6 then decide (p = 2) && decide (du = 3) else decide (kd = 5)
def LostP (ns : List Nd) (ds : List Dv) (s s2 : List Int) : Prop := ∃ (k : Nat) (y : Nd), ns[k]? = some y ∧ 0 < y.cust ∧ Sup ds s k ∧ ¬ Sup ds s2 k
open Classical in
noncomputable def lostB (ns : List Nd) (ds : List Dv) (s s2 : List Int) : Bool := decide (LostP ns ds s s2)
def pickH (b : Bool) (h : Int) : List Int := if b = true then [h] else []
def hzL (f1 f2 f3 f4 f5 f6 f7 : Bool) : List Int := pickH f1 1 ++ pickH f2 2 ++ pickH f3 3 ++ pickH f4 4 ++ pickH f5 5 ++ pickH f6 6 ++ pickH f7 7
theorem pickH_mem (b : Bool) (h x : Int) : x ∈ pickH b h ↔ x = h ∧ b = true := by cases b <;> simp [pickH]
theorem hzL_mem (f1 f2 f3 f4 f5 f6 f7 : Bool) (x : Int) : x ∈ hzL f1 f2 f3 f4 f5 f6 f7 ↔ x = 1 ∧ f1 = true ∨ x = 2 ∧ f2 = true ∨ x = 3 ∧ f3 = true ∨ x = 4 ∧ f4 = true ∨ x = 5 ∧ f5 = true ∨ x = 6 ∧ f6 = true ∨ x = 7 ∧ f7 = true := by
 simp only [hzL, List.mem_append, pickH_mem, or_assoc]
theorem pickH_len (b : Bool) (h : Int) : (pickH b h).length ≤ 1 := by cases b <;> simp [pickH]
theorem hzL_len (f1 f2 f3 f4 f5 f6 f7 : Bool) : (hzL f1 f2 f3 f4 f5 f6 f7).length ≤ 7 := by
 have h1 := pickH_len f1 1; have h2 := pickH_len f2 2; have h3 := pickH_len f3 3; have h4 := pickH_len f4 4; have h5 := pickH_len f5 5; have h6 := pickH_len f6 6; have h7 := pickH_len f7 7
 simp only [hzL, List.length_append]; omega
def fndL (fs : List (Int × Bool)) : List Int := (fs.filter (·.2)).map (·.1)
theorem fnd3 (a b c : Bool) : sortL (fndL [(4, a), (6, b), (7, c)]) = hzL false false false a false b c := by
 cases a <;> cases b <;> cases c <;> exact sortL_is (by decide) (by decide)
theorem fnd6 (a b c d e f : Bool) : sortL (fndL [(4, a), (6, b), (1, c), (2, d), (3, e), (5, f)]) = hzL c d e a f b false := by
 cases a <;> cases b <;> cases c <;> cases d <;> cases e <;> cases f <;> exact sortL_is (by decide) (by decide)
noncomputable def hzAt (nn : Nat) (ns : List Nd) (ds : List Dv) (s : List Int) (d : Nat) (p co : Int) (ls : List Lk) (pr : List Int) (x : Dv) : List Int :=
 if s.getD d 0 = p then hzL false false false (lockB ls d) false ((x.comp != co)) true
 else hzL (decide (p = 2) && decide (dutyAt nn ns ds s d x = 4)) (badB x.kind p (dutyAt nn ns ds s d x) (lvE (colsOf nn ds s) x)) (lostB ns ds s (withL s d p)) (lockB ls d) (decide (p = 2) && decide (x.kind = 4) && !hasB pr x.a) ((x.comp != co)) false
theorem hzAt_len (nn : Nat) (ns : List Nd) (ds : List Dv) (s : List Int) (d : Nat) (p co : Int) (ls : List Lk) (pr : List Int) (x : Dv) : (hzAt nn ns ds s d p co ls pr x).length ≤ 7 := by
 unfold hzAt; split <;> exact hzL_len _ _ _ _ _ _ _
def SetL (F : Int → Prop) (out : List Int) : Prop := out.Nodup ∧ out.Pairwise (· ≤ ·) ∧ ∀ h : Int, h ∈ out ↔ F h
theorem SetL.unique {F : Int → Prop} {a b : List Int} (h : SetL F a) (k : SetL F b) : a = b := by
 rw [← sortL_is (List.Perm.refl a) h.2.1]
 exact sortL_is ((List.perm_ext_iff_of_nodup k.1 h.1).2 fun x => (k.2.2 x).trans (h.2.2 x).symm) k.2.1
end Go.Proofs.YtfaknfmndafllaaGreatDoor
namespace Go.Proofs.YtfaknfmndafllaaGreatDoor
open Go.RowKit
def fnC (f : Int × Bool) : List Value := [.int .i64 f.1, .bool f.2]
theorem fnd_snoc {fs : List (Int × Bool)} {i : Nat} {h : Int} {b : Bool} (hx : fs[i]? = some (h, b)) : fndL (fs.take (i + 1)) = fndL (fs.take i) ++ pickH b h := by
 unfold fndL
 rw [take_snoc hx, List.filter_append, List.map_append]
 cases b <;> rfl
theorem fnd_len : ∀ fs : List (Int × Bool), (fndL fs).length ≤ fs.length := fun fs => by
 unfold fndL; rw [List.length_map]; exact List.length_filter_le _ _
def LsR (w : World) (fs : List (Int × Bool)) (n gk : Nat) (ov iv : Value) (wr : World) : Prop := ∃ (i m co : Nat) (Ao : Option Addr), iv = .int .i64 i ∧ ov = .slice Ao m co ∧ i ≤ n ∧ gk = n - i ∧ Hid (IntsO wr w.heap.size Ao m co (fndL (fs.take i))) ∧ Hid (Below w.heap.size w wr)
theorem list_any (A : Option Addr) (n c B : Nat) (fs : List (Int × Bool)) (w : World) (hs : Sl w B 2 A n c (fs.flatMap fnC)) (hB : B ≤ w.heap.size) (hn : n ≤ 1000) :
 Calls Tryz.prog 155 #[.slice A n c] w (IntsPost w (sortL (fndL fs))) := by
 have HLN := Lib.hid (hs.len (fun _ => rfl) (by decide)); have HS := Lib.hid hs
 have hle := hs.le
 clear hs
 go_enter Tryz.func155, Tryz.ntmps155
 go_wp2_with fail
 go_loopg [3, 8] n (LsR w fs n)
 case atStart => exact ⟨0, 0, 0, none, rfl, rfl, Nat.zero_le _, rfl, World.ownsRow_nil _ _ _ _, Below.refl _ _⟩
 case round =>
  obtain ⟨i, m, co, Ao, rfl, rfl, hi, rfl, hO, hbl⟩ := hrel
  by_cases hlt : i < n
  ·obtain ⟨b, off, f, rfl, hb, hf, hc⟩ := (HS.out.below hbl.out hB).at (fun _ => rfl) (by decide) hlt
   obtain ⟨h, t⟩ := f
   have c0 : wr.cell? ⟨b, off + i * 2, none⟩ = some (.int .i64 h) := hc 0 _ rfl
   have c1 : wr.cell? ⟨b, off + i * 2 + 1, none⟩ = some (.bool t) := hc 1 _ rfl
   have HF := Lib.hid (fnd_snoc hf)
   have HBA : Hid (Below w.heap.size w (wr.alloc (.cells #[.int .i64 h, .bool t] 193))) := hbl.out.alloc hbl.out.size _
   have HOA : Hid (IntsO (wr.alloc (.cells #[.int .i64 h, .bool t] 193)) w.heap.size Ao m co (fndL (fs.take i))) := hO.out.alloc _
   have hml : m ≤ i := by have h1 := fnd_len (fs.take i); have h2 := hO.out.len; rw [List.length_take] at h1; omega
   clear hc hf
   rcases t with _ | _
   ·have HO1 : Hid (IntsO (wr.alloc (.cells #[.int .i64 h, .bool false] 193)) w.heap.size Ao m co (fndL (fs.take (i + 1)))) := by
     unfold Hid; rw [HF.out, show pickH false h = [] from rfl, List.append_nil]; exact HOA.out
    go_wp2_with fail
    go_roundg (n - (i + 1))
    case rel => exact ⟨i + 1, m, co, Ao, by go_num, rfl, by omega, rfl, HO1, HBA⟩
    case measure => omega
   ·have hzz := HBA.out.size
    have HCX : Hid ((wr.alloc (.cells #[.int .i64 h, .bool true] 193)).cell? ⟨wr.heap.size, 0, none⟩ = some (.int .i64 h)) := (Blk.new wr 193 #[.int .i64 h, .bool true]).cell 0
    go_upto_region 6 with (fail)
    generalize World.alloc wr _ = wq at *
    clear c0 c1
    have k0 := HCX.out
    go_wp2_with (at_builtin; go_must (refine wpList_app rfl (.tmp 14) (.tmp 17) rfl el_int (by rfl) (HOA.out.alloc _) (by rfl) (Sl.newest (n := 1) (by simp) (by rfl) (by decide)) (by simp [Value.oneCell']) (by omega) (by omega) (by simp; omega) ?_; intro A' cap' w3 hown3 hgr3 hat3; have HO3 := Lib.hid hown3; have HG3 := Lib.hid hgr3; clear hown3 hgr3 hat3))
    go_roundg (n - (i + 1))
    case rel =>
     refine ⟨i + 1, m + 1, cap', A', by go_num, rfl, by omega, rfl, ?_, ?_⟩
     ·have := HO3.out
      unfold Hid IntsO
      rw [HF.out, show pickH true h = [h] from rfl, intsV_append]
      exact this
     ·refine (HBA.out.alloc HBA.out.size _).trans ⟨HG3.out.os, HG3.out.tape, HG3.out.output, HG3.out.size, fun i hi => HG3.out.block i (by simp; omega) (fun e => ?_)⟩
      have := (HOA.out.lt i e.symm).1
      omega
    case measure => omega
  ·obtain rfl : i = n := by omega
   have hii : decide (i < i) = false := by simp
   have hml : m ≤ i := by have h1 := fnd_len (fs.take i); have h2 := hO.out.len; rw [List.length_take] at h1; omega
   have HT : Hid (fs.take i = fs) := List.take_of_length_le (by rw [HLN.out]; exact Nat.le_refl _)
   rw [HT.out] at hO
   have HLS : Hid ((sortL (fndL fs)).length = m) := by unfold Hid; rw [sortL_len]; exact hO.out.len
   clear HS
   go_wp2_with fail
   refine (sort_any Ao m co w.heap.size (fndL fs) wr hO.out (by omega)).mono ?_
   rintro e w5 ⟨rfl, hO5, hg5⟩
   go_wp2_with fail
   go_ret
   refine ⟨Ao, co, by rw [HLS.out]; rfl, by unfold Hid; rw [HLS.out]; exact hO5.out, hbl.out.trans ⟨hg5.out.os, hg5.out.tape, hg5.out.output, hg5.out.size, fun q hq => hg5.out.block q (by have := hbl.out.size; omega) (fun e => by have := (hO.out.lt q e.symm).1; omega)⟩⟩
theorem hzlives_any (An Ad As : Option Addr) (nn cn nd cd n c Bd Bs i : Nat) (ds : List Dv) (s : List Int) (x : Dv) (w : World) (hd : Sl w Bd 5 Ad nd cd (ds.flatMap Dv.cells)) (hBd : Bd ≤ w.heap.size) (hs : Sl w Bs 1 As n c (intsV s)) (hBs : Bs ≤ w.heap.size)
 (hnn : nn ≤ 10000) (hnd : nd ≤ 10000) (hl : nd ≤ n) (hends : EndsOk nn ds) (hA : AOk nn ds) (hi : i < nd) (hx : ds[i]? = some x) (hk : joinsB x.kind = true) :
 Calls Tryz.prog 187 #[.agg #[.slice An nn cn, .slice Ad nd cd], .slice As n c, .int .i64 i] w fun e w' => e = .returned (.bool (lvE (colsOf nn ds s) x)) ∧ Below w.heap.size w w' := by
 have HCK := Lib.hid (both_any An Ad As nn cn nd cd n c Bd Bs ds s (w.alloc (.cells #[.slice An nn cn, .slice Ad nd cd] 30)) (hd.alloc hBd _) (by simp; omega) (hs.alloc hBs _) (by simp; omega) hnn hnd hl hends hA)
 have HD := Lib.hid hd; have HX := Lib.hid hx
 have hdl := hd.le
 have HEX := Lib.hid (hends x (List.mem_of_getElem? hx) hk)
 have HB := Lib.hid (Blk.new w 30 #[.slice An nn cn, .slice Ad nd cd])
 have HW : Hid (Below w.heap.size w (w.alloc (.cells #[.slice An nn cn, .slice Ad nd cd] 30))) := (Below.refl _ _).alloc (Nat.le_refl _) _
 clear hd hs hends hA hx hk
 go_enter Tryz.func187, Tryz.ntmps187
 go_wp2_with fail
 generalize World.alloc _ _ = w1 at *
 obtain ⟨nb, hnb⟩ : ∃ nb, nb = w.heap.size := ⟨_, rfl⟩
 rw [← hnb] at HB ⊢
 clear hnb
 refine HCK.out.mono ?_
 rintro e w2 ⟨A1, A2, P, C, rfl, _, hOc, _, hIC, hb2⟩
 have HBX := Lib.hid (HB.out.below hb2.out HB.out.lt)
 have HBW := Lib.hid (HW.out.trans (hb2.out.mono HW.out.size))
 have HCE : Hid (colsOf nn ds s = C) := colsOf_eq hIC.out
 have HSC := Lib.hid hOc.out.sl
 clear HCK HB HW hb2 hOc
 obtain ⟨b0, off, x', rfl, hb, hx', hc⟩ := (HD.out.below HBW.out hBd).at (fun _ => rfl) (by decide) hi
 obtain rfl : x = x' := by have := HX.out; rw [this] at hx'; exact Option.some.inj hx'
 obtain ⟨nm, kd, a, b, co⟩ := x
 obtain ⟨⟨ha0, ha1⟩, hb0, hb1⟩ := HEX.out
 simp only at ha0 ha1 hb0 hb1
 obtain ⟨ka, rfl⟩ := Int.eq_ofNat_of_zero_le ha0
 obtain ⟨kb, rfl⟩ := Int.eq_ofNat_of_zero_le hb0
 obtain ⟨b2, of2, va, e2, hb2, hva, hca⟩ := HSC.out.at1 (k := ka) (by omega)
 subst e2
 obtain ⟨b3, of3, vb, e3, hb3, hvb, hcb⟩ := HSC.out.at1 (k := kb) (by omega)
 injection e3 with e3; injection e3 with e3 e4; subst e3 e4
 have hscl := HSC.out.le
 have HLV : Hid (lvE C ⟨nm, kd, ka, kb, co⟩ = liveB (bits .or .i64 va vb)) := by
  unfold Hid lvE; simp only [Int.toNat_natCast]; rw [getD_of hva, getD_of hvb]
 have c0 : w2.cell? ⟨b0, off + i * 5, none⟩ = some (.string nm) := hc 0 _ rfl
 have c1 : w2.cell? ⟨b0, off + i * 5 + 1, none⟩ = some (.int .i64 kd) := hc 1 _ rfl
 have c2 : w2.cell? ⟨b0, off + i * 5 + 2, none⟩ = some (.int .i64 ka) := hc 2 _ rfl
 have c3 : w2.cell? ⟨b0, off + i * 5 + 3, none⟩ = some (.int .i64 kb) := hc 3 _ rfl
 have c4 : w2.cell? ⟨b0, off + i * 5 + 4, none⟩ = some (.int .i64 co) := hc 4 _ rfl
 have k1 := HBX.out.c1
 have HBV : Hid (Below w.heap.size w (w2.alloc (.cells #[.string nm, .int .i64 kd, .int .i64 ka, .int .i64 kb, .int .i64 co] 68))) := HBW.out.alloc HBW.out.size _
 have HDV := Lib.hid (Blk.new w2 68 #[.string nm, .int .i64 kd, .int .i64 ka, .int .i64 kb, .int .i64 co])
 have HCA : Hid ((w2.alloc (.cells #[.string nm, .int .i64 kd, .int .i64 ka, .int .i64 kb, .int .i64 co] 68)).cell? ⟨b2, of2 + ka, none⟩ = some (.int .i64 va) ∧ (w2.alloc (.cells #[.string nm, .int .i64 kd, .int .i64 ka, .int .i64 kb, .int .i64 co] 68)).cell? ⟨b2, of2 + kb, none⟩ = some (.int .i64 vb)) := ⟨cell_al _ hca, cell_al _ hcb⟩
 clear hc hx' hca hcb hva hvb HSC HBX
 go_upto_region 3 with (fail)
 generalize World.alloc w2 _ = W at *
 obtain ⟨vb0, hvb0⟩ : ∃ x, x = w2.heap.size := ⟨_, rfl⟩
 rw [← hvb0] at HDV ⊢
 clear c0 c1 c2 c3 c4 k1 hvb0
 have HCS : Hid ((W.cell? ⟨vb0, 2, none⟩ = some (.int .i64 ka) ∧ W.cell? ⟨vb0, 3, none⟩ = some (.int .i64 kb)) ∧ W.cell? ⟨b2, of2 + ka, none⟩ = some (.int .i64 va) ∧ W.cell? ⟨b2, of2 + kb, none⟩ = some (.int .i64 vb)) := ⟨⟨HDV.out.cell 2, HDV.out.cell 3⟩, HCA.out⟩
 have hka : ka < nn := by omega
 have hkb : kb < nn := by omega
 refine wp_region_J (S := fun W' => (W'.cell? ⟨vb0, 2, none⟩ = some (.int .i64 ka) ∧ W'.cell? ⟨vb0, 3, none⟩ = some (.int .i64 kb)) ∧ W'.cell? ⟨b2, of2 + ka, none⟩ = some (.int .i64 va) ∧ W'.cell? ⟨b2, of2 + kb, none⟩ = some (.int .i64 vb)) (J := []) (by kernel_rfl) ?_ (fun hHeld => ?_)
 ·exact HCS.out
 try dsimp only at hHeld
 refine tk 0 21 (mf 14 1) hHeld ?_
 refine tk 1 22 (mf 14 2) hHeld ?_
 refine tk 2 23 (mf 14 3) hHeld ?_
 refine tk 3 24 (mf 14 4) hHeld ?_
 refine tk 4 25 (mf 14 5) hHeld ?_
 refine tk 5 26 (mf 14 6) hHeld ?_
 refine tk 6 27 (mf 14 7) hHeld ?_
 refine tk 7 28 (mf 14 8) hHeld ?_
 refine tk 8 29 (mf 14 9) hHeld ?_
 refine tk 9 30 (mf 14 10) hHeld ?_
 refine tk 10 31 (mf 14 11) hHeld ?_
 refine tk 11 32 (mf 14 12) hHeld ?_
 refine tk 12 33 (mf 14 13) hHeld ?_
 refine tk 13 6 (mf 14 14) hHeld ?_
 refine wpAnyJ_done (by kernel_rfl) ?_ _
 go_wp2_with fail
 go_ret
 exact ⟨ret_bool (by rw [HCE.out, HLV.out]; rfl), HBV.out.drew⟩
theorem bad_any (An Ad As : Option Addr) (nn cn nd cd n c Bd Bs i : Nat) (p du kd : Int) (ds : List Dv) (s : List Int) (x : Dv) (w : World) (hd : Sl w Bd 5 Ad nd cd (ds.flatMap Dv.cells)) (hBd : Bd ≤ w.heap.size) (hs : Sl w Bs 1 As n c (intsV s)) (hBs : Bs ≤ w.heap.size)
 (hnn : nn ≤ 10000) (hnd : nd ≤ 10000) (hl : nd ≤ n) (hends : EndsOk nn ds) (hA : AOk nn ds) (hi : i < nd) (hx : ds[i]? = some x) (hk : x.kind = kd) (hk6 : 1 ≤ kd ∧ kd ≤ 6) :
 Calls Tryz.prog 158 #[.agg #[.slice An nn cn, .slice Ad nd cd], .slice As n c, .agg #[.int .i64 i, .int .i64 p], .int .i64 kd, .int .i64 du] w fun e w' => e = .returned (.bool (badB kd p du (lvE (colsOf nn ds s) x))) ∧ Below w.heap.size w w' := by
 have HB : Hid (Below w.heap.size w ((w.alloc (.cells #[.slice An nn cn, .slice Ad nd cd] 30)).alloc (.cells #[.int .i64 i, .int .i64 p] 62))) := ((Below.refl _ _).alloc (Nat.le_refl _) _).alloc (by simp) _
 rcases (show kd = 1 ∨ kd = 2 ∨ kd = 3 ∨ kd = 4 ∨ kd = 5 ∨ kd = 6 by omega) with rfl | rfl | rfl | rfl | rfl | rfl
 ·have HC := Lib.hid (hzlives_any An Ad As nn cn nd cd n c Bd Bs i ds s x _ (hd.below HB.out hBd) (by have := HB.out.size; omega) (hs.below HB.out hBs) (by have := HB.out.size; omega) hnn hnd hl hends hA hi hx (by rw [hk]; decide))
  have HR : Hid (badB 1 p du (lvE (colsOf nn ds s) x) = lvE (colsOf nn ds s) x) := rfl
  clear hd hs hends hA
  go_enter Tryz.func158, Tryz.ntmps158
  go_wp2_with fail
  refine HC.out.mono ?_
  rintro e w1 ⟨rfl, hb⟩
  go_wp2_with fail
  go_ret
  exact ⟨ret_bool HR.out.symm, HB.out.trans (hb.mono HB.out.size)⟩
 ·clear hd hs hends hA
  go_enter Tryz.func158, Tryz.ntmps158
  go_wp2_with fail
  go_ret
  exact ⟨rfl, HB.out⟩
 ·clear hd hs hends hA
  by_cases h2 : du = 2
  ·subst h2
   go_enter Tryz.func158, Tryz.ntmps158
   go_wp2_with fail
   go_ret
   exact ⟨rfl, HB.out⟩
  by_cases h3 : du = 3
  ·subst h3
   go_enter Tryz.func158, Tryz.ntmps158
   go_wp2_with fail
   go_ret
   exact ⟨rfl, HB.out⟩
  have q2 : (du == 2) = false := by simpa using h2
  have q3 : (du == 3) = false := by simpa using h3
  have HR : Hid (badB 3 p du (lvE (colsOf nn ds s) x) = (du == 4)) := by
   unfold Hid badB; rw [if_pos rfl]; simp [h2, h3]; rfl
  go_enter Tryz.func158, Tryz.ntmps158
  go_wp2_with fail
  go_ret
  exact ⟨ret_bool HR.out.symm, HB.out⟩
 ·clear hd hs hends hA
  by_cases h1 : p = 1
  ·subst h1
   have HR : Hid (badB 4 1 du (lvE (colsOf nn ds s) x) = (du == 4)) := by unfold Hid badB; simp; rfl
   go_enter Tryz.func158, Tryz.ntmps158
   go_wp2_with fail
   go_ret
   exact ⟨ret_bool HR.out.symm, HB.out⟩
  ·have q1 : (p == 1) = false := by simpa using h1
   have HR : Hid (badB 4 p du (lvE (colsOf nn ds s) x) = false) := by unfold Hid badB; simp [h1]
   go_enter Tryz.func158, Tryz.ntmps158
   go_wp2_with fail
   go_ret
   exact ⟨ret_bool HR.out.symm, HB.out⟩
 ·clear hd hs hends hA
  go_enter Tryz.func158, Tryz.ntmps158
  go_wp2_with fail
  go_ret
  exact ⟨rfl, HB.out⟩
 ·clear hd hs hends hA
  by_cases h1 : p = 2
  ·subst h1
   have HR : Hid (badB 6 2 du (lvE (colsOf nn ds s) x) = (du == 3)) := by unfold Hid badB; simp; rfl
   go_enter Tryz.func158, Tryz.ntmps158
   go_wp2_with fail
   go_ret
   exact ⟨ret_bool HR.out.symm, HB.out⟩
  ·have q1 : (p == 2) = false := by simpa using h1
   have HR : Hid (badB 6 p du (lvE (colsOf nn ds s) x) = false) := by unfold Hid badB; simp [h1]
   go_enter Tryz.func158, Tryz.ntmps158
   go_wp2_with fail
   go_ret
   exact ⟨ret_bool HR.out.symm, HB.out⟩
end Go.Proofs.YtfaknfmndafllaaGreatDoor
namespace Go.Proofs.YtfaknfmndafllaaGreatDoor
open Go.RowKit
theorem Sl.over {w : World} {B n c blk m size : Nat} {A : Option Addr} {xs : List Value} {os : Array Obj} {dk : Array Int} (h : Sl w B size A n c xs) (hne : ∀ b off, A = some ⟨b, off, none⟩ → b ≠ blk ∧ b < w.heap.size) : Sl (sortWorld (Value.int .i64) w blk 0 m dk os) B size A n c xs := by
 obtain ⟨h1, h2, h3, h4, h5⟩ := h
 refine ⟨h1, h2, h3, h4, fun hn => ?_⟩
 obtain ⟨b, off, e, hb, hc⟩ := h5 hn
 obtain ⟨h6, h7⟩ := hne b off e
 refine ⟨b, off, e, hb, fun j u hu => ?_⟩
 unfold sortWorld
 rw [Go.Sort.cell?_grow _ _ _ (by show b < (Go.Sort.putRow _ _ _ _ _).heap.size; rw [Go.Sort.size_putRow]; exact h7), Go.Sort.cell?_putRow_other _ _ blk 0 _ _ (Or.inl h6)]
 exact hc j u hu
theorem delf_any (g : Nat) (lb : Array Value) (p : Int → Bool) (eg : ∀ args w, (callFunc g args).run Tryz.prog w = .ok (.enter g args) w) (A : Option Addr) (n c base : Nat) (l : List Int) (w : World) (h : IntsO w base A n c l) (hn : n ≤ 1000000)
 (hp : PredAt Tryz.prog g lb (Value.int .i64) p w) (hpo : ∀ blk, A = some ⟨blk, 0, none⟩ → PredOver Tryz.prog g lb (Value.int .i64) p blk 0 n w) :
 Calls Tryz.prog 100 #[.slice A n c, .func (.func g) #[] lb] w fun e w' => ∃ m, e = .returned (.slice A m c) ∧ Hid (IntsO w' base A m c (l.filter fun x => !p x)) ∧ Hid (w.grownBy w' (Value.slice A n c).ownBlock) := by
 have hl := h.len
 rcases h.2 with ⟨hv, h0⟩ | ⟨gb, cap, cur, hv, hb, hh, hnc, hm, hs, ht⟩
 ·injection hv with h1 h2 h3
  subst h1 h3 h0
  have : l = [] := List.eq_nil_of_length_eq_zero hl
  subst this
  have HH := Lib.hid h
  clear h hp hpo hl hn
  go_enter Tryz.func100, Tryz.ntmps100
  go_wp2_with fail
  refine (Tryz.slices_IndexFunc_empty (α := Int) none 0 (.func (.func g) #[] lb) w).mono ?_
  rintro e w1 ⟨rfl, rfl⟩
  go_wp2_with fail
  go_ret
  exact ⟨0, rfl, HH.out, grown_refl _ _⟩
 ·injection hv with h1 h2 h3
  subst h1 h3
  subst hl
  rw [Nat.mul_one, intsV_map] at ht
  have hH := holds_of_blockI hh ht
  refine (Tryz.slices_DeleteFunc (Value.int .i64) (fun _ => rfl) p g lb eg 0 Tryz.zeroValue3 gb 0 c l.toArray w hp (by simpa using hpo gb rfl) hH (by simp; omega) (by simpa using hnc)).mono ?_
  rintro e w1 ⟨rfl, q, rfl⟩
  simp only [List.size_toArray]
  obtain ⟨ts, hts⟩ : ∃ ts, ts = (l.filter fun x => !p x) ++ List.replicate (l.length - (l.filter fun x => !p x).length) 0 := ⟨_, rfl⟩
  have hfl : (l.filter fun x => !p x).length ≤ l.length := List.length_filter_le _ _
  have htl : ts.length = l.length := by rw [hts, List.length_append, List.length_replicate]; omega
  rw [← hts]
  refine ⟨_, rfl, ?_, ?_⟩
  ·have h2 := heap_sortedI (n := q) (os := #[]) ts.toArray hh
   rw [Go.Sort.grow_empty] at h2
   unfold Hid IntsO
   rw [intsV_map]
   refine ⟨by simp, .inr ⟨gb, c, _, rfl, hb, h2, by omega, hm, by simp [Go.Sort.putCells, hs], ?_⟩⟩
   have h3 := take_putCellsI cur ts (by omega)
   rw [Nat.mul_one]
   have h4 := congrArg (List.take (l.filter fun x => !p x).length) h3
   rw [List.take_take, Nat.min_eq_left (by omega)] at h4
   rw [h4, ← List.map_take, hts, List.take_left]
  ·have := grownBy_sortedI (w := w) (g := gb) (n := q) (os := #[]) ts.toArray
   rw [Go.Sort.grow_empty] at this
   exact this
theorem lost1_gives (Ab : Option Addr) (mb cb bb B : Nat) (l : List Int) (x : Int) (W : World) (hc : W.cell? ⟨bb, 0, none⟩ = some (.slice Ab mb cb)) (hs : Sl W B 1 Ab mb cb (intsV l)) :
 FnGives Tryz.prog 101 #[.pointer (some ⟨bb, 0, none⟩)] #[.int .i64 x] (.bool (hasB l x)) W := by
 have HC := Lib.hid (contains_any Ab mb cb B l x W hs)
 show Calls Tryz.prog 101 #[.int .i64 x, .pointer (some ⟨bb, 0, none⟩)] W _
 clear hs
 go_enter Tryz.func101, Tryz.ntmps101
 go_wp2_with fail
 refine HC.out.mono ?_
 rintro e w1 ⟨rfl, rfl⟩
 go_wp2_with fail
 go_ret
 exact ⟨rfl, 0, rfl⟩
theorem Lost_ok (An Ad As At : Option Addr) (nn cn nd cd n c n2 c2 Bn Bd Bs B2 : Nat) (ns : List Nd) (ds : List Dv) (s s2 : List Int) (w : World) (hL : Laid w) (hn : Sl w Bn 3 An nn cn (ns.flatMap Nd.cells)) (hBn : Bn ≤ w.heap.size) (hd : Sl w Bd 5 Ad nd cd (ds.flatMap Dv.cells)) (hBd : Bd ≤ w.heap.size) (hs : Sl w Bs 1 As n c (intsV s)) (hBs : Bs ≤ w.heap.size) (hs2 : Sl w B2 1 At n2 c2 (intsV s2)) (hB2 : B2 ≤ w.heap.size)
 (hsn : ∀ x ∈ ns, x.name.size ≤ 9223372036854775807) (hsd : ∀ x ∈ ds, x.name.size ≤ 9223372036854775807) (h0 : stateErr ns ds s = 0) (h02 : stateErr ns ds s2 = 0) (hnn : nn ≤ 10000) (hnd : nd ≤ 10000) (hl : nd ≤ n) (hl2 : nd ≤ n2) (hends : EndsOk nn ds) (hA : AOk nn ds) :
 Calls Tryz.prog 59 #[.agg #[.slice An nn cn, .slice Ad nd cd], .slice As n c, .slice At n2 c2] w fun e w' => ∃ (Ao : Option Addr) (m co : Nat) (out : List Int) (_ : Int), e = .returned (.tuple #[.slice Ao m co, .int .i64 (lostC ns ds s s2), .int .i64 0]) ∧ Hid (out.length = m) ∧ Hid (LostL ns ds s s2 out) ∧ Hid (IntsO w' w.heap.size Ao m co out) ∧ Hid (Below w.heap.size w w') := by
 have HLN := Lib.hid (hn.len (fun _ => rfl) (by decide))
 have HB : Hid (Below w.heap.size w (w.alloc (.cells #[.slice An nn cn, .slice Ad nd cd] 30))) := (Below.refl _ _).alloc (Nat.le_refl _) _
 have HK := Lib.hid (Blk.new w 30 #[.slice An nn cn, .slice Ad nd cd])
 have HL := Lib.hid hL; have HN := Lib.hid hn; have HD := Lib.hid hd; have HS := Lib.hid hs; have HS2 := Lib.hid hs2; have HSN := Lib.hid hsn; have HSD := Lib.hid hsd; have H0 := Lib.hid h0; have H02 := Lib.hid h02; have HE := Lib.hid hends; have HA := Lib.hid hA
 clear hL hn hd hs hs2 hsn hsd h0 h02 hends hA
 go_enter Tryz.func59, Tryz.ntmps59
 go_wp2_with fail
 generalize World.alloc _ _ = W at *
 have hz := HB.out.size
 obtain ⟨nb, hnb⟩ : ∃ nb, nb = w.heap.size := ⟨_, rfl⟩
 rw [← hnb] at HK ⊢
 clear hnb
 have HNB := Lib.hid HK.out.lt
 refine (Supplied_ok An Ad As nn cn nd cd n c Bn Bd Bs ns ds s W (HL.out.below HB.out (Nat.le_refl _)) (HN.out.below HB.out hBn) (by omega) (HD.out.below HB.out hBd) (by omega) (HS.out.below HB.out hBs) (by omega) HSN.out HSD.out H0.out hnn hnd hl HE.out HA.out).mono ?_
 rintro e w1 ⟨Aa, ma, ca, la, rfl, hOa, hLa, hb1⟩
 have HB1 := Lib.hid (HB.out.trans (hb1.out.mono hz))
 have HK1 := Lib.hid (HK.out.below hb1.out HK.out.lt)
 have hz1 := HB1.out.size
 have HZa : Hid (W.heap.size ≤ w1.heap.size) := hb1.out.size
 clear hb1 HB HK
 have k0 := HK1.out.c0
 have k1 := HK1.out.c1
 go_wp2_with fail
 clear k0 k1
 refine (Supplied_ok An Ad At nn cn nd cd n2 c2 Bn Bd B2 ns ds s2 w1 (HL.out.below HB1.out (Nat.le_refl _)) (HN.out.below HB1.out hBn) (by omega) (HD.out.below HB1.out hBd) (by omega) (HS2.out.below HB1.out hB2) (by omega) HSN.out HSD.out H02.out hnn hnd hl2 HE.out HA.out).mono ?_
 rintro e w2 ⟨Ab, mb, cb, lb, rfl, hOb, hLb, hb2⟩
 have HB2 := Lib.hid ((HB1.out.trans (hb2.out.mono hz1)).alloc (by have := hb2.out.size; omega) (.cells #[.slice Ab mb cb] 22))
 have HK2 := Lib.hid ((HK1.out.below hb2.out HK1.out.lt).alloc (.cells #[.slice Ab mb cb] 22))
 have HXB := Lib.hid (Blk.new w2 22 #[.slice Ab mb cb])
 have HOA : Hid (IntsO (w2.alloc (.cells #[.slice Ab mb cb] 22)) W.heap.size Aa ma ca la) := (hOa.out.later hb2.out).alloc _
 have HOB : Hid (IntsO (w2.alloc (.cells #[.slice Ab mb cb] 22)) w1.heap.size Ab mb cb lb) := hOb.out.alloc _
 have hz2 : w1.heap.size ≤ w2.heap.size := hb2.out.size
 have hma : ma ≤ nn := by have := hLa.out.1.1; rw [hOa.out.len, HLN.out] at this; exact this
 have HAL : Hid (∀ gb, (Value.slice Aa ma ca).ownBlock = some gb → gb < w1.heap.size) := fun gb h => (hOa.out.lt gb h).2
 have HZ2 : Hid (w2.heap.size < (w2.alloc (.cells #[.slice Ab mb cb] 22)).heap.size) := by unfold Hid; simp
 clear hb2 HK1 hOa hOb HB1
 go_upto_region 7 with (fail)
 generalize World.alloc w2 _ = W3 at *
 obtain ⟨bb, hbb⟩ : ∃ x, x = w2.heap.size := ⟨_, rfl⟩
 rw [← hbb] at HXB HZ2 hz2 ⊢
 clear hbb
 have HPA : Hid (PredAt Tryz.prog 101 #[.pointer (some ⟨bb, 0, none⟩)] (Value.int .i64) (hasB lb) W3) := fun W' x hb =>
  lost1_gives Ab mb cb bb W3.heap.size lb x W' ((hb.cell (p := ⟨bb, 0, none⟩) HZ2.out).trans (HXB.out.cell 0)) (HOB.out.sl.below hb (Nat.le_refl _))
 have HPO : Hid (∀ blk, Aa = some ⟨blk, 0, none⟩ → PredOver Tryz.prog 101 #[.pointer (some ⟨bb, 0, none⟩)] (Value.int .i64) (hasB lb) blk 0 ma W3) := fun blk e q os dk x _ =>
  lost1_gives Ab mb cb bb W3.heap.size lb x _ (by
   have h1 := HAL.out blk (by rw [e]; rfl)
   unfold sortWorld
   rw [Go.Sort.cell?_grow _ _ _ (by show bb < (Go.Sort.putRow _ _ _ _ _).heap.size; rw [Go.Sort.size_putRow]; exact HZ2.out), Go.Sort.cell?_putRow_other _ _ blk 0 _ _ (Or.inl (by show bb ≠ blk; omega))]
   exact HXB.out.cell 0) (HOB.out.sl.over fun b off e2 => by
    have h1 := HAL.out blk (by rw [e]; rfl)
    have h2 := HOB.out.lt b
    rcases HOB.out.2 with ⟨hv, _⟩ | ⟨gb, cap, cur, hv, hb, hh, _⟩
    ·rw [e2] at hv; cases hv
    ·rw [e2] at hv
     injection hv with hv
     injection hv with hv
     injection hv with hv
     subst hv
     exact ⟨by omega, (Array.getElem?_eq_some_iff.1 hh).1⟩)
 have HDF := Lib.hid (delf_any 101 #[.pointer (some ⟨bb, 0, none⟩)] (hasB lb) (enters_of Tryz.func101 (by kernel_rfl) rfl) Aa ma ca W.heap.size la W3 HOA.out (by omega) HPA.out HPO.out)
 clear HPA HPO
 go_wp2_with fail
 refine HDF.out.mono ?_
 rintro e w4 ⟨m, rfl, hO4, hg4⟩
 have HBG : Hid (Below W.heap.size W3 w4) := ⟨hg4.out.os, hg4.out.tape, hg4.out.output, hg4.out.size, fun q hq => hg4.out.block q (by have := HZa.out; have := HZ2.out; omega) (fun e => by have := (HOA.out.lt q e.symm).1; omega)⟩
 have HB4 := Lib.hid (HB2.out.trans (HBG.out.mono hz))
 have HK4 : Hid (Blk w4 nb 30 #[.slice An nn cn, .slice Ad nd cd]) := HK2.out.below HBG.out HNB.out
 have HIN : Hid (∀ v ∈ la.filter fun x => !hasB lb x, 0 ≤ v ∧ v < nn) := fun v hv => by
  obtain ⟨k, y, rfl, hy, _⟩ := (hLa.out.2 v).1 (List.mem_filter.1 hv).1
  have := (List.getElem?_eq_some_iff.1 hy).1
  rw [HLN.out] at this
  omega
 clear HDF hg4 HBG HK2 HB2 HOA HOB HXB HAL
 have k0 := HK4.out.c0
 have k1 := HK4.out.c1
 go_wp2_with fail
 clear k0 k1
 refine (custs_any An Ad Aa nn cn nd cd m ca Bn w4.heap.size ns _ w4 (HN.out.below HB4.out hBn) (by have := HB4.out.size; omega) hO4.out.sl (Nat.le_refl _) HIN.out).mono ?_
 rintro e w5 ⟨rfl, hb5⟩
 go_wp2_with fail
 go_ret3
 have HLO : LostL ns ds s s2 (la.filter fun x => !hasB lb x) := fun x => by
  rw [List.mem_filter]
  constructor
  ·rintro ⟨h1, h2⟩
   obtain ⟨k, y, rfl, hy, hc, hs⟩ := (hLa.out.2 x).1 h1
   refine ⟨k, y, rfl, hy, hc, hs, fun h3 => ?_⟩
   have h4 : (k : Int) ∉ lb := (hasB_not _ _).1 (by simpa using h2)
   exact h4 ((hLb.out.2 _).2 ⟨k, y, rfl, hy, hc, h3⟩)
  ·rintro ⟨k, y, rfl, hy, hc, hs, hn2⟩
   refine ⟨(hLa.out.2 _).2 ⟨k, y, rfl, hy, hc, hs⟩, ?_⟩
   have : hasB lb (k : Int) = false := (hasB_not _ _).2 fun h => by
    obtain ⟨k2, y2, e, hy2, _, hs2⟩ := (hLb.out.2 _).1 h
    have : k = k2 := by omega
    subst this
    exact hn2 hs2
   rw [this]; rfl
 exact ⟨Aa, m, ca, _, 0, by rw [lostC, ← lost_list HLO (hLa.out.1.2.filter _)]; rfl, hO4.out.len, HLO, (hO4.out.later hb5.out).mono hz, HB4.out.trans (hb5.out.mono HB4.out.size)⟩
end Go.Proofs.YtfaknfmndafllaaGreatDoor
