import Derived.Test.YtfaknfmndafllaaGreatDoorW20
import Derived.Test.YtfaknfmndafllaaGreatDoorW18
import Derived.Shelf.Abstract
import Derived.Test.YtfaknfmndafllaaGreatDoorW11
import Derived.Shelf.SlSortCmp.InsertionK
import Derived.Laws.StructEq
import Derived.Test.YtfaknfmndafllaaGreatDoorW12
import Derived.Test.YtfaknfmndafllaaGreatDoorW13
import Derived.Deep.DeepCutAuto
import Derived.Deep.QuietTactic
import Derived.BigQuiet
import Derived.Test.YtfaknfmndafllaaGreatDoorW04
import Derived.Test.YtfaknfmndafllaaGreatDoorW03
set_option maxRecDepth 100000
set_option maxHeartbeats 8000000
namespace Go.Proofs.YtfaknfmndafllaaGreatDoor
open Go.RowKit
def addErr (ns : List Nd) (ds : List Dv) (ls : List Lk) (k : Lk) : Int := if locksErr ns ds ls ≠ 0 then locksErr ns ds ls else if lkErr ds k ≠ 0 then lkErr ds k else if usdL ls k.key = true then 4 else if othL ls k = true then 18 else if ls.length = 128 then 1 else 0
theorem locks_good {ns : List Nd} {ds : List Dv} {ls : List Lk} (h : locksErr ns ds ls = 0) : GoodL ds ls := by
 unfold locksErr at h
 split at h
 ·next hc => exact absurd h hc
 ·split at h
  ·omega
  ·exact good_of (by omega) h
theorem below_none {w w' : World} (h : w.grownBy w' (Value.slice none 0 0).ownBlock) : Below w.heap.size w w' := ⟨h.os, h.tape, h.output, h.size, fun i hi => h.block i hi (by simp [Value.ownBlock])⟩
structure RaSt (w : World) (N K : Array Value) (wr : World) : Prop where
 bn : Blk wr w.heap.size 30 N
 bk : Blk wr (w.heap.size + 1) 59 K
 bl : Below w.heap.size w wr
theorem RaSt.later {w wr wr' : World} {N K : Array Value} (h : RaSt w N K wr) (hb : Below wr.heap.size wr wr') : RaSt w N K wr' := ⟨h.bn.below hb h.bn.lt, h.bk.below hb h.bk.lt, h.bl.trans (hb.mono h.bl.size)⟩
theorem RaSt.drew {w wr : World} {N K : Array Value} (h : RaSt w N K wr) : RaSt w N K wr.drew := h.later (Below.refl _ _).drew
end Go.Proofs.YtfaknfmndafllaaGreatDoor
namespace Go.Proofs.YtfaknfmndafllaaGreatDoor
open Go.RowKit
theorem valid_any (An Ad : Option Addr) (nn cn nd cd Bd : Nat) (ds : List Dv) (d p q : Int) (w : World) (hd : Sl w Bd 5 Ad nd cd (ds.flatMap Dv.cells)) (hBd : Bd ≤ w.heap.size) :
 Calls Tryz.prog 128 #[.agg #[.slice An nn cn, .slice Ad nd cd], .agg #[.int .i64 d, .int .i64 p, .int .i64 q]] w fun e w' => e = .returned (.int .i64 (lkErr ds ⟨d, p, q⟩)) ∧ Below w.heap.size w w' := by
 have HLD := Lib.hid (hd.len (fun _ => rfl) (by decide))
 have HE : Hid (lkErr ds ⟨d, p, q⟩ = if d < 0 then 8 else if (nd : Int) ≤ d then 8 else if kindOf ds d = 5 then 6 else if p ≠ 1 ∧ p ≠ 2 then 10 else if q < 0 then 5 else if 65536 < q then 5 else 0) := by unfold Hid lkErr; rw [HLD.out]
 have HB : Hid (Below w.heap.size w ((w.alloc (.cells #[.slice An nn cn, .slice Ad nd cd] 30)).alloc (.cells #[.int .i64 d, .int .i64 p, .int .i64 q] 59))) := ((Below.refl _ _).alloc (Nat.le_refl _) _).alloc (by simp) _
 have HD2 := Lib.hid ((hd.alloc hBd (.cells #[.slice An nn cn, .slice Ad nd cd] 30)).alloc (by simp; omega) (.cells #[.int .i64 d, .int .i64 p, .int .i64 q] 59))
 have hdm := hd.le
 clear hd
 by_cases h1 : d < 0
 ·have q1 : decide (d < 0) = true := by simpa using h1
  go_enter Tryz.func128, Tryz.ntmps128
  go_wp2_with fail
  go_ret
  exact ⟨ret_int (by rw [HE.out, if_pos h1]), HB.out⟩
 have q1 : decide (d < 0) = false := by simpa using h1
 by_cases h2 : (nd : Int) ≤ d
 ·have q2 : decide ((nd : Int) ≤ d) = true := by simpa using h2
  go_enter Tryz.func128, Tryz.ntmps128
  go_wp2_with fail
  go_ret
  exact ⟨ret_int (by rw [HE.out, if_neg (by omega), if_pos h2]), HB.out⟩
 obtain ⟨i, rfl⟩ := Int.eq_ofNat_of_zero_le (show 0 ≤ d by omega)
 have hin : i < nd := by omega
 have q2 : decide (nd ≤ i) = false := by simp; omega
 obtain ⟨b0, off, x, rfl, hb0, hx, hc⟩ := HD2.out.at (fun _ => rfl) (by decide) hin
 have HX := Lib.hid (kindOf_at hx)
 obtain ⟨nm, kd, xa, xb, co⟩ := x
 have c1 := hc 1 _ rfl
 clear hc hx
 by_cases h3 : kd = 5
 ·subst h3
  go_enter Tryz.func128, Tryz.ntmps128
  go_wp2_with fail
  go_ret
  exact ⟨ret_int (by rw [HE.out, if_neg (by omega), if_neg (by omega), HX.out, if_pos rfl]), HB.out⟩
 have q3 : (kd == 5) = false := by simpa using h3
 have HR : Hid (lkErr ds ⟨(i : Int), p, q⟩ = if p ≠ 1 ∧ p ≠ 2 then 10 else if q < 0 then 5 else if 65536 < q then 5 else 0) := by unfold Hid; rw [HE.out, if_neg (by omega), if_neg (by omega), HX.out, if_neg h3]
 clear h1 h2 h3 HE HX
 by_cases h4 : p = 1 ∨ p = 2
 ·have HR2 : Hid (lkErr ds ⟨(i : Int), p, q⟩ = if q < 0 then 5 else if 65536 < q then 5 else 0) := by unfold Hid; rw [HR.out, if_neg (by omega)]
  clear HR
  by_cases h5 : q < 0
  ·have q5 : decide (q < 0) = true := by simpa using h5
   rcases h4 with rfl | rfl
   all_goals
    go_enter Tryz.func128, Tryz.ntmps128
    go_wp2_with fail
    go_ret
    exact ⟨ret_int (by rw [HR2.out, if_pos h5]), HB.out⟩
  have q5 : decide (q < 0) = false := by simpa using h5
  by_cases h6 : 65536 < q
  ·have q6 : decide (65536 < q) = true := by simpa using h6
   rcases h4 with rfl | rfl
   all_goals
    go_enter Tryz.func128, Tryz.ntmps128
    go_wp2_with fail
    go_ret
    exact ⟨ret_int (by rw [HR2.out, if_neg (by omega), if_pos h6]), HB.out⟩
  have q6 : decide (65536 < q) = false := by simpa using h6
  rcases h4 with rfl | rfl
  all_goals
   go_enter Tryz.func128, Tryz.ntmps128
   go_wp2_with fail
   go_ret
   exact ⟨ret_int (by rw [HR2.out, if_neg (by omega), if_neg (by omega)]), HB.out⟩
 ·have p1 : (p != 1) = true := by simp; omega
  have p2 : (p != 2) = true := by simp; omega
  go_enter Tryz.func128, Tryz.ntmps128
  go_wp2_with fail
  go_ret
  exact ⟨ret_int (by rw [HR.out, if_pos (by omega)]), HB.out⟩
def PlR (w : World) (ls : List Lk) (d : Int) (n gk : Nat) (iv : Value) (wr : World) : Prop := ∃ i : Nat, iv = .int .i64 i ∧ i ≤ n ∧ gk = n - i ∧ Hid (∀ x ∈ ls.take i, x.dev ≠ d) ∧ Hid (Below w.heap.size w wr)
theorem locked_any (A : Option Addr) (n c B : Nat) (ls : List Lk) (d : Int) (w : World) (hs : Sl w B 3 A n c (ls.flatMap Lk.cells)) (hB : B ≤ w.heap.size) :
 Calls Tryz.prog 180 #[.slice A n c, .int .i64 d] w fun e w' => e = lckE ls d ∧ Below w.heap.size w w' := by
 have HLN := Lib.hid (hs.len (fun _ => rfl) (by decide)); have HS := Lib.hid hs
 have hle := hs.le
 clear hs
 go_enter Tryz.func180, Tryz.ntmps180
 go_wp2_with fail
 go_loopg [10] n (PlR w ls d n)
 case atStart => exact ⟨0, rfl, Nat.zero_le _, rfl, (fun x hx => by simp at hx), Below.refl _ _⟩
 case round =>
  obtain ⟨i, rfl, hi, rfl, hno, hbl⟩ := hrel
  by_cases hlt : i < n
  ·obtain ⟨b, off, d1, p1, q1, rfl, hb, hx, c0, c1, c2⟩ := (HS.out.below hbl.out hB).lock hlt
   have HX := Lib.hid hx
   have HB2 : Hid (Below w.heap.size w (wr.alloc (.cells #[.int .i64 d1, .int .i64 p1, .int .i64 q1] 59))) := hbl.out.alloc hbl.out.size _
   clear hx
   by_cases hd : d1 = d
   ·subst hd
    have HR : Hid (lckL ls d1 = some p1) := lck_hit hno.out HX.out rfl
    have qq : (d1 == d1) = true := by simp
    go_wp2_with fail
    go_ret2
    exact ⟨by unfold lckE; rw [HR.out]; rfl, HB2.out⟩
   ·have qq : (d1 == d) = false := by simpa using hd
    have HN : Hid (∀ x ∈ ls.take (i + 1), x.dev ≠ d) := fun x hx => by
     rw [take_snoc HX.out] at hx
     rcases List.mem_append.1 hx with h | h
     ·exact hno.out x h
     ·rw [List.mem_singleton.1 h]; exact hd
    clear hd
    go_wp2_with fail
    go_roundg (n - (i + 1))
    case rel => exact ⟨i + 1, by go_num, by omega, rfl, HN, HB2⟩
    case measure => omega
  ·obtain rfl : i = n := by omega
   have hii : decide (i < i) = false := by simp
   have HR : Hid (lckL ls d = none) := by
    have := hno.out
    rw [List.take_of_length_le (by rw [HLN.out]; exact Nat.le_refl _)] at this
    exact lck_none.2 this
   go_wp2_with fail
   go_ret2
   exact ⟨by unfold lckE; rw [HR.out]; rfl, hbl.out⟩
theorem used_any (A : Option Addr) (n c B : Nat) (ls : List Lk) (q : Int) (w : World) (hs : Sl w B 3 A n c (ls.flatMap Lk.cells)) (hB : B ≤ w.heap.size) :
 Calls Tryz.prog 131 #[.slice A n c, .int .i64 q] w fun e w' => e = .returned (.bool (usdL ls q)) ∧ Below w.heap.size w w' := by
 have HP : Hid (PredL 162 #[.pointer (some ⟨w.heap.size, 0, none⟩)] (fun x => decide (x.key = q)) (w.alloc (.cells #[.int .i64 q] 3))) := by
  intro W d p q1 hb
  have hc : W.cell? ⟨w.heap.size, 0, none⟩ = some (.int .i64 q) := (hb.cell (p := ⟨w.heap.size, 0, none⟩) (by simp)).trans (by simp)
  have hBW : w.heap.size < W.heap.size := Nat.lt_of_lt_of_le (by simp) hb.size
  have hne : w.heap.size ≠ W.heap.size := by omega
  show Calls Tryz.prog 162 #[.agg #[.int .i64 d, .int .i64 p, .int .i64 q1], .pointer (some ⟨w.heap.size, 0, none⟩)] W _
  go_enter Tryz.func162, Tryz.ntmps162
  go_wp2_with fail
  go_ret
  exact ⟨ret_bool (by by_cases h : q1 = q <;> simp [h]), hb.alloc hb.size _⟩
 have HI := Lib.hid (contf_any 162 #[.pointer (some ⟨w.heap.size, 0, none⟩)] (fun x => decide (x.key = q)) (enters_of Tryz.func162 (by kernel_rfl) rfl) A n c B ls _ (hs.alloc hB _) (by simp; omega) HP.out)
 have HB : Hid (Below w.heap.size w (w.alloc (.cells #[.int .i64 q] 3))) := (Below.refl _ _).alloc (Nat.le_refl _) _
 clear hs HP
 go_enter Tryz.func131, Tryz.ntmps131
 go_wp2_with fail
 refine HI.out.mono ?_
 rintro e w1 ⟨rfl, hb⟩
 have HB2 := Lib.hid (HB.out.trans (hb.mono (by simp)))
 clear hb
 go_wp2_with fail
 go_ret
 exact ⟨rfl, HB2.out⟩
theorem other_any (A : Option Addr) (n c B : Nat) (ls : List Lk) (d p q : Int) (w : World) (hs : Sl w B 3 A n c (ls.flatMap Lk.cells)) (hB : B ≤ w.heap.size) :
 Calls Tryz.prog 130 #[.slice A n c, .agg #[.int .i64 d, .int .i64 p, .int .i64 q]] w fun e w' => e = .returned (.bool (othL ls ⟨d, p, q⟩)) ∧ Below w.heap.size w w' := by
 have HP : Hid (PredL 161 #[.pointer (some ⟨w.heap.size, 0, none⟩)] (othB ⟨d, p, q⟩) (w.alloc (.cells #[.int .i64 d, .int .i64 p, .int .i64 q] 59))) := by
  intro W d1 p1 q1 hb
  have hc0 : W.cell? ⟨w.heap.size, 0, none⟩ = some (.int .i64 d) := (hb.cell (p := ⟨w.heap.size, 0, none⟩) (by simp)).trans (by simp)
  have hc1 : W.cell? ⟨w.heap.size, 1, none⟩ = some (.int .i64 p) := (hb.cell (p := ⟨w.heap.size, 1, none⟩) (by simp)).trans (by simp)
  have hBW : w.heap.size < W.heap.size := Nat.lt_of_lt_of_le (by simp) hb.size
  have hne : w.heap.size ≠ W.heap.size := by omega
  have HBW : Hid (Below (w.alloc (.cells #[.int .i64 d, .int .i64 p, .int .i64 q] 59)).heap.size (w.alloc (.cells #[.int .i64 d, .int .i64 p, .int .i64 q] 59)) (W.alloc (.cells #[.int .i64 d1, .int .i64 p1, .int .i64 q1] 59))) := hb.alloc hb.size _
  clear hb
  show Calls Tryz.prog 161 #[.agg #[.int .i64 d1, .int .i64 p1, .int .i64 q1], .pointer (some ⟨w.heap.size, 0, none⟩)] W _
  by_cases h : d1 = d
  ·subst h
   have qd : (d1 == d1) = true := by simp
   go_enter Tryz.func161, Tryz.ntmps161
   go_wp2_with fail
   go_ret
   exact ⟨ret_bool (by by_cases h : p1 = p <;> simp [h, othB]), HBW.out⟩
  ·have qd : (d1 == d) = false := by simpa using h
   have HR : Hid (othB ⟨d, p, q⟩ ⟨d1, p1, q1⟩ = false) := by unfold Hid; simp [othB, h]
   go_enter Tryz.func161, Tryz.ntmps161
   go_wp2_with fail
   go_ret
   exact ⟨ret_bool HR.out.symm, HBW.out⟩
 have HI := Lib.hid (contf_any 161 #[.pointer (some ⟨w.heap.size, 0, none⟩)] (othB ⟨d, p, q⟩) (enters_of Tryz.func161 (by kernel_rfl) rfl) A n c B ls _ (hs.alloc hB _) (by simp; omega) HP.out)
 have HB : Hid (Below w.heap.size w (w.alloc (.cells #[.int .i64 d, .int .i64 p, .int .i64 q] 59))) := (Below.refl _ _).alloc (Nat.le_refl _) _
 clear hs HP
 go_enter Tryz.func130, Tryz.ntmps130
 go_wp2_with fail
 refine HI.out.mono ?_
 rintro e w1 ⟨rfl, hb⟩
 have HB2 := Lib.hid (HB.out.trans (hb.mono (by simp)))
 clear hb
 go_wp2_with fail
 go_ret
 exact ⟨rfl, HB2.out⟩
end Go.Proofs.YtfaknfmndafllaaGreatDoor
namespace Go.Proofs.YtfaknfmndafllaaGreatDoor
open Go.RowKit
open Go.Sort (grow alloc_eq_grow)
theorem cell_al3 {W : World} {p : Addr} {v : Value} (o : Obj) (h : W.cell? p = some v) : (W.alloc o).cell? p = some v := (World.cell?_alloc_lt W o p (cell_lt h)).trans h
theorem grow_three (w : World) (a b c : Obj) : ∃ n os, ((w.alloc a).alloc b).drew.alloc c = grow (w.drewN n) os := ⟨1, #[a] ++ #[b] ++ #[c], by
 rw [alloc_eq_grow w a, alloc_eq_grow _ b, Go.Sort.grow_grow]
 show (grow w.drew (#[a] ++ #[b])).alloc c = _
 rw [alloc_eq_grow, Go.Sort.grow_grow]; rfl⟩
def cmpI (a b : Int) : Int := if a < b then -1 else if b < a then 1 else 0
def orI (x y : Int) : Int := if x ≠ 0 then x else y
def ordI (a b : Lk) : Int := orI (cmpI a.dev b.dev) (cmpI a.key b.key)
theorem ord_lt (a b : Lk) : ordI a b < 0 ↔ befB a b = true := by
 rw [bef_iff]; unfold ordI orI cmpI
 split <;> split <;> (try split) <;> omega
theorem nan_any (x : Int) (w : World) : Calls Tryz.prog 188 #[.int .i64 x] w fun e w' => e = .returned (.bool false) ∧ w = w' := by
 have q : (x != x) = false := by simp
 go_enter Tryz.func188, Tryz.ntmps188
 go_wp2_with fail
 go_ret
 exact ⟨rfl, rfl⟩
theorem cmp_any (x y : Int) (w : World) : Calls Tryz.prog 160 #[.int .i64 x, .int .i64 y] w fun e w' => e = .returned (.int .i64 (cmpI x y)) ∧ w = w' := by
 by_cases h1 : x < y
 ·have q1 : decide (x < y) = true := by simpa using h1
  have HR : Hid (cmpI x y = -1) := by unfold Hid cmpI; rw [if_pos h1]
  go_enter Tryz.func160, Tryz.ntmps160
  go_wp2_with fail
  refine (nan_any x w).mono ?_
  rintro e w1 ⟨rfl, rfl⟩
  go_wp2_with fail
  refine (nan_any y _).mono ?_
  rintro e w1 ⟨rfl, rfl⟩
  go_wp2_with fail
  go_ret
  exact ⟨ret_int HR.out.symm, rfl⟩
 have q1 : decide (x < y) = false := by simpa using h1
 by_cases h2 : y < x
 ·have q2 : decide (y < x) = true := by simpa using h2
  have HR : Hid (cmpI x y = 1) := by unfold Hid cmpI; rw [if_neg h1, if_pos h2]
  go_enter Tryz.func160, Tryz.ntmps160
  go_wp2_with fail
  refine (nan_any x w).mono ?_
  rintro e w1 ⟨rfl, rfl⟩
  go_wp2_with fail
  refine (nan_any y _).mono ?_
  rintro e w1 ⟨rfl, rfl⟩
  go_wp2_with fail
  go_ret
  exact ⟨ret_int HR.out.symm, rfl⟩
 have q2 : decide (y < x) = false := by simpa using h2
 have HR : Hid (cmpI x y = 0) := by unfold Hid cmpI; rw [if_neg h1, if_neg h2]
 go_enter Tryz.func160, Tryz.ntmps160
 go_wp2_with fail
 refine (nan_any x w).mono ?_
 rintro e w1 ⟨rfl, rfl⟩
 go_wp2_with fail
 refine (nan_any y _).mono ?_
 rintro e w1 ⟨rfl, rfl⟩
 go_wp2_with fail
 go_ret
 exact ⟨ret_int HR.out.symm, rfl⟩
theorem or_any (b : Nat) (x y : Int) (w : World) (h0 : w.cell? ⟨b, 0, none⟩ = some (.int .i64 x)) (h1 : w.cell? ⟨b, 1, none⟩ = some (.int .i64 y)) :
 Calls Tryz.prog 159 #[.slice (some ⟨b, 0, none⟩) 2 2] w fun e w' => e = .returned (.int .i64 (orI x y)) ∧ w = w' := by
 by_cases hx : x = 0
 ·subst hx
  have e1 : ((0 : Int) != 0) = false := by decide
  by_cases hy : y = 0
  ·subst hy
   go_enter Tryz.func159, Tryz.ntmps159
   go_wp2_with fail
   refine wp_loop_rounds 3 ?_
   rw [rounds_succ]
   go_wp2_with fail
   rw [rounds_succ]
   go_wp2_with fail
   rw [rounds_succ]
   go_wp2_with fail
   go_ret
   exact ⟨ret_int (by unfold orI; rw [if_neg (by simp)]), rfl⟩
  ·have e2 : (y != 0) = true := by simpa using hy
   go_enter Tryz.func159, Tryz.ntmps159
   go_wp2_with fail
   refine wp_loop_rounds 3 ?_
   rw [rounds_succ]
   go_wp2_with fail
   rw [rounds_succ]
   go_wp2_with fail
   go_ret
   exact ⟨ret_int (by unfold orI; rw [if_neg (by simp)]), rfl⟩
 ·have e1 : (x != 0) = true := by simpa using hx
  have HX := Lib.hid hx
  clear hx
  go_enter Tryz.func159, Tryz.ntmps159
  go_wp2_with fail
  refine wp_loop_rounds 3 ?_
  rw [rounds_succ]
  go_wp2_with fail
  go_ret
  exact ⟨ret_int (by unfold orI; rw [if_pos HX.out]), rfl⟩
theorem order_any (a b : Lk) (w : World) : Calls Tryz.prog 129 #[.agg #[.int .i64 a.dev, .int .i64 a.pos, .int .i64 a.key], .agg #[.int .i64 b.dev, .int .i64 b.pos, .int .i64 b.key]] w fun e w' => e = .returned (.int .i64 (ordI a b)) ∧ ∃ q os, w' = grow (w.drewN q) os := by
 obtain ⟨d, p, q⟩ := a
 obtain ⟨d2, p2, q2⟩ := b
 have HC1 := Lib.hid (fun W => cmp_any d d2 W)
 have HC2 := Lib.hid (fun W => cmp_any q q2 W)
 have HR : Hid (ordI ⟨d, p, q⟩ ⟨d2, p2, q2⟩ = orI (cmpI d d2) (cmpI q q2)) := rfl
 generalize cmpI d d2 = r1 at *
 generalize cmpI q q2 = r2 at *
 have HCS : Hid ((((w.alloc (.cells #[.int .i64 d, .int .i64 p, .int .i64 q] 59)).alloc (.cells #[.int .i64 d2, .int .i64 p2, .int .i64 q2] 59)).cell? ⟨w.heap.size, 0, none⟩ = some (.int .i64 d)) ∧ (((w.alloc (.cells #[.int .i64 d, .int .i64 p, .int .i64 q] 59)).alloc (.cells #[.int .i64 d2, .int .i64 p2, .int .i64 q2] 59)).cell? ⟨w.heap.size, 2, none⟩ = some (.int .i64 q)) ∧ (((w.alloc (.cells #[.int .i64 d, .int .i64 p, .int .i64 q] 59)).alloc (.cells #[.int .i64 d2, .int .i64 p2, .int .i64 q2] 59)).cell? ⟨w.heap.size + 1, 0, none⟩ = some (.int .i64 d2)) ∧ (((w.alloc (.cells #[.int .i64 d, .int .i64 p, .int .i64 q] 59)).alloc (.cells #[.int .i64 d2, .int .i64 p2, .int .i64 q2] 59)).cell? ⟨w.heap.size + 1, 2, none⟩ = some (.int .i64 q2))) := by
  have b1 : Blk ((w.alloc (.cells #[.int .i64 d, .int .i64 p, .int .i64 q] 59)).alloc (.cells #[.int .i64 d2, .int .i64 p2, .int .i64 q2] 59)) w.heap.size 59 #[.int .i64 d, .int .i64 p, .int .i64 q] := (Blk.new _ _ _).alloc _
  have b2 : Blk ((w.alloc (.cells #[.int .i64 d, .int .i64 p, .int .i64 q] 59)).alloc (.cells #[.int .i64 d2, .int .i64 p2, .int .i64 q2] 59)) (w.heap.size + 1) 59 #[.int .i64 d2, .int .i64 p2, .int .i64 q2] := by have := Blk.new (w.alloc (.cells #[.int .i64 d, .int .i64 p, .int .i64 q] 59)) 59 #[.int .i64 d2, .int .i64 p2, .int .i64 q2]; simpa using this
  exact ⟨b1.cell 0, b1.cell 2, b2.cell 0, b2.cell 2⟩
 have HEND : Hid (∀ o, ∃ nq os, ((w.alloc (.cells #[.int .i64 d, .int .i64 p, .int .i64 q] 59)).alloc (.cells #[.int .i64 d2, .int .i64 p2, .int .i64 q2] 59)).drew.alloc o = grow (w.drewN nq) os) := fun o => grow_three w _ _ o
 go_enter Tryz.func129, Tryz.ntmps129
 go_upto_region 1 with (fail)
 generalize World.alloc (World.alloc _ _) _ = W at *
 refine wp_region_J (S := fun W' => W'.cell? ⟨w.heap.size, 0, none⟩ = some (.int .i64 d) ∧ W'.cell? ⟨w.heap.size, 2, none⟩ = some (.int .i64 q) ∧ W'.cell? ⟨w.heap.size + 1, 0, none⟩ = some (.int .i64 d2) ∧ W'.cell? ⟨w.heap.size + 1, 2, none⟩ = some (.int .i64 q2)) (J := []) (by kernel_rfl) ?_ (fun hHeld => ?_)
 ·exact HCS.out
 try dsimp only at hHeld
 refine tk 0 5 (mf 13 1) hHeld ?_
 refine tk 1 6 (mf 13 2) hHeld ?_
 refine tk 2 7 (mf 13 3) hHeld ?_
 refine tk 3 8 (mf 13 4) hHeld ?_
 refine tk 5 10 #[tt, tt, tt, tt, ff, tt, ff, ff, ff, ff, ff, ff, ff] hHeld ?_
 refine tk 6 11 #[tt, tt, tt, tt, ff, tt, tt, ff, ff, ff, ff, ff, ff] hHeld ?_
 refine tk 7 12 #[tt, tt, tt, tt, ff, tt, tt, tt, ff, ff, ff, ff, ff] hHeld ?_
 refine tk 8 13 #[tt, tt, tt, tt, ff, tt, tt, tt, tt, ff, ff, ff, ff] hHeld ?_
 refine wpAnyJ_oneL (k := 4) (mf 13 9) (by kernel_rfl) (by kernel_rfl) rfl (fun K hK => ?_)
 (go_simp; refine (HC1.out _).mono ?_; rintro e w1 ⟨rfl, rfl⟩; go_simp)
 refine hK.out _ _ (fun _ => ?_) (fun hHeld' => ?_)
 ·exact HCS.out
 replace hHeld := hHeld' rfl
 clear hHeld' hK K
 try dsimp only at hHeld
 refine wpAnyJ_oneL (k := 9) (mf 13 10) (by kernel_rfl) (by kernel_rfl) rfl (fun K hK => ?_)
 (go_simp; refine (HC2.out _).mono ?_; rintro e w1 ⟨rfl, rfl⟩; go_simp)
 refine hK.out _ _ (fun _ => ?_) (fun hHeld' => ?_)
 ·exact HCS.out
 replace hHeld := hHeld' rfl
 clear hHeld' hK K
 try dsimp only at hHeld
 refine wpAnyJ_oneL (k := 10) (mf 13 11) (by kernel_rfl) (by kernel_rfl) rfl (fun K hK => ?_)
 go_simp
 refine hK.out _ _ (fun _ => ?_) (fun hHeld' => ?_)
 ·exact ⟨cell_al3 _ HCS.out.1, cell_al3 _ HCS.out.2.1, cell_al3 _ HCS.out.2.2.1, cell_al3 _ HCS.out.2.2.2⟩
 replace hHeld := hHeld' rfl
 clear hHeld' hK K
 try dsimp only at hHeld
 refine wpAnyJ_oneL (k := 11) (mf 13 12) (by kernel_rfl) (by kernel_rfl) rfl (fun K hK => ?_)
 (go_simp; refine (or_any W.heap.size r1 r2 _ (by simp) (by simp)).mono ?_; rintro e w1 ⟨rfl, rfl⟩; go_simp)
 refine hK.out _ _ (fun _ => ?_) (fun hHeld' => ?_)
 ·exact ⟨cell_al3 _ HCS.out.1, cell_al3 _ HCS.out.2.1, cell_al3 _ HCS.out.2.2.1, cell_al3 _ HCS.out.2.2.2⟩
 replace hHeld := hHeld' rfl
 clear hHeld' hK K
 try dsimp only at hHeld
 refine tk 12 4 (mf 13 13) hHeld ?_
 refine wpAnyJ_done (by kernel_rfl) ?_ _
 go_wp2_with fail
 go_ret
 exact ⟨ret_int HR.out.symm, HEND.out _⟩
end Go.Proofs.YtfaknfmndafllaaGreatDoor
namespace Go.Proofs.YtfaknfmndafllaaGreatDoor
open Go.RowKit
theorem below_grow {w w' : World} (h : ∃ q os, w' = Go.Sort.grow (w.drewN q) os) : Below w.heap.size w w' := by
 obtain ⟨q, os, rfl⟩ := h
 exact ⟨rfl, rfl, rfl, by simp [Go.Sort.grow, World.drewN], fun i hi => by simp only [Go.Sort.grow, World.drewN]; rw [Array.getElem?_append_left hi]⟩
structure PcSt (w : World) (N : Array Value) (wr : World) : Prop where
 bn : Blk wr w.heap.size 30 N
 bl : Below w.heap.size w wr
theorem PcSt.later {w wr wr' : World} {N : Array Value} (h : PcSt w N wr) (hb : Below wr.heap.size wr wr') : PcSt w N wr' := ⟨h.bn.below hb h.bn.lt, h.bl.trans (hb.mono h.bl.size)⟩
theorem PcSt.drew {w wr : World} {N : Array Value} (h : PcSt w N wr) : PcSt w N wr.drew := h.later (Below.refl _ _).drew
def PcR (w : World) (N : Array Value) (ds : List Dv) (ls : List Lk) (n gk : Nat) (iv : Value) (wr : World) : Prop := ∃ i : Nat, iv = .int .i64 i ∧ i ≤ n ∧ gk = n - i ∧ Hid (firstE ds ls i = 0) ∧ Hid (PcSt w N wr)
theorem lcheck_any (An Ad Al : Option Addr) (nn cn nd cd n c Bn Bd Bl : Nat) (ns : List Nd) (ds : List Dv) (ls : List Lk) (w : World) (hl : Laid w) (hn : Sl w Bn 3 An nn cn (ns.flatMap Nd.cells)) (hd : Sl w Bd 5 Ad nd cd (ds.flatMap Dv.cells)) (hs : Sl w Bl 3 Al n c (ls.flatMap Lk.cells)) (hBn : Bn ≤ w.heap.size) (hBd : Bd ≤ w.heap.size) (hBl : Bl ≤ w.heap.size)
 (hsn : ∀ x ∈ ns, x.name.size ≤ 9223372036854775807) (hsd : ∀ x ∈ ds, x.name.size ≤ 9223372036854775807) :
 Calls Tryz.prog 90 #[.agg #[.slice An nn cn, .slice Ad nd cd], .slice Al n c] w fun e w' => e = .returned (.int .i64 (locksErr ns ds ls)) ∧ Below w.heap.size w w' := by
 have hle := hs.le
 have hll := hs.len (fun _ => rfl) (by decide)
 have HNL := Lib.hid hll
 have HE : Hid (locksErr ns ds ls = if checkN ns ds ≠ 0 then checkN ns ds else if 128 < n then 1 else firstE ds ls n) := by unfold Hid locksErr; rw [hll]
 have HST : Hid (PcSt w #[.slice An nn cn, .slice Ad nd cd] (w.alloc (.cells #[.slice An nn cn, .slice Ad nd cd] 30))) := ⟨Blk.new _ _ _, (Below.refl _ _).alloc (Nat.le_refl _) _⟩
 have HCK := Lib.hid (ncheck_any An Ad nn cn nd cd Bn Bd ns ds (w.alloc (.cells #[.slice An nn cn, .slice Ad nd cd] 30)) (hl.alloc _) (hn.below HST.out.bl hBn) (hd.below HST.out.bl hBd) (by simp; omega) (by simp; omega) hsn hsd)
 have HD := Lib.hid hd; have HS := Lib.hid hs
 clear hn hd hs hsn hsd hl hll
 go_enter Tryz.func90, Tryz.ntmps90
 go_wp2_with fail
 generalize World.alloc _ _ = W at *
 refine HCK.out.mono ?_
 rintro e w1 ⟨rfl, hb1⟩
 have HS1 := Lib.hid (HST.out.later hb1)
 clear hb1 HST HCK
 by_cases h0 : checkN ns ds = 0; rotate_left
 ·have q0 : (checkN ns ds != 0) = true := by simpa using h0
  have HR : Hid (locksErr ns ds ls = checkN ns ds) := by unfold Hid; rw [HE.out, if_pos h0]
  clear h0
  go_wp2_with fail
  go_ret
  exact ⟨ret_int HR.out.symm, HS1.out.bl⟩
 rw [h0]
 replace HE : Hid (locksErr ns ds ls = if 128 < n then 1 else firstE ds ls n) := by unfold Hid; rw [HE.out, if_neg (by simp [h0])]
 clear h0
 by_cases h1 : 128 < n
 ·have q0 : decide ((128 : Int) < (n : Int)) = true := by simp; omega
  have q1 : decide (128 < n) = true := by simpa using h1
  have HR : Hid (locksErr ns ds ls = 1) := by unfold Hid; rw [HE.out, if_pos h1]
  clear h1
  go_wp2_with fail
  go_ret
  exact ⟨ret_int HR.out.symm, HS1.out.bl⟩
 have q0 : decide ((128 : Int) < (n : Int)) = false := by simp; omega
 have q1 : decide (128 < n) = false := by simpa using h1
 replace HE : Hid (locksErr ns ds ls = firstE ds ls n) := by unfold Hid; rw [HE.out, if_neg h1]
 clear h1
 go_wp2_with fail
 clear q0 q1
 go_loopg [19] n (PcR w #[.slice An nn cn, .slice Ad nd cd] ds ls n)
 case atStart => exact ⟨0, rfl, Nat.zero_le _, rfl, rfl, HS1⟩
 case round =>
  clear HS1
  obtain ⟨i, rfl, hi, rfl, hfe, hst⟩ := hrel
  by_cases hlt : i < n
  ·obtain ⟨b, off, d, p, q, rfl, hb, hx, c0, c1, c2⟩ := (HS.out.below hst.out.bl hBl).lock hlt
   have HX := Lib.hid hx
   have HSTOP : Hid (∀ e, errAt ds ls i = e → e ≠ 0 → locksErr ns ds ls = e) := fun e he h => by rw [HE.out]; exact firstE_stop hfe.out he h n hlt
   have HNEXT : Hid (errAt ds ls i = 0 → firstE ds ls (i + 1) = 0) := fun he => firstE_next hfe.out he
   have HEA : Hid (errAt ds ls i = if lkErr ds ⟨d, p, q⟩ ≠ 0 then lkErr ds ⟨d, p, q⟩ else if ordBad ls i ⟨d, p, q⟩ = true then 14 else if othL (ls.take i) ⟨d, p, q⟩ = true then 18 else if usdL (ls.take i) q = true then 4 else 0) := by unfold Hid errAt; rw [hx]
   have HS2 : Hid (PcSt w #[.slice An nn cn, .slice Ad nd cd] (wr.alloc (.cells #[.int .i64 d, .int .i64 p, .int .i64 q] 59))) := hst.out.later ((Below.refl _ _).alloc (Nat.le_refl _) _)
   have HK2 : Hid (Blk (wr.alloc (.cells #[.int .i64 d, .int .i64 p, .int .i64 q] 59)) wr.heap.size 59 #[.int .i64 d, .int .i64 p, .int .i64 q]) := Blk.new _ _ _
   have hzk := hst.out.bl.size
   have HBX : Hid (Below w.heap.size w wr) := hst.out.bl
   clear hx hfe hst
   go_upto_region 9 with (fail)
   clear c0 c1 c2
   generalize hW2 : World.alloc wr _ = W2 at *
   have hz2 : W2.heap.size = wr.heap.size + 1 := by rw [← hW2]; simp
   have HSL2 := Lib.hid (HS.out.below HS2.out.bl hBl)
   have HDL2 := Lib.hid (HD.out.below HS2.out.bl hBd)
   clear hW2
   have k0 := HS2.out.bn.c0
   have k1 := HS2.out.bn.c1
   have m0 := HK2.out.c0
   have m1 := HK2.out.c1
   have m2 := HK2.out.c2
   go_wp2_with fail
   clear k0 k1 m0 m1 m2
   refine (valid_any An Ad nn cn nd cd Bd ds d p q W2 HDL2.out (by omega)).mono ?_
   rintro e w3 ⟨rfl, hb3⟩
   have HS3 := Lib.hid (HS2.out.later hb3)
   have HK3 := Lib.hid (HK2.out.below hb3 HK2.out.lt)
   have hz3 := hb3.size
   clear HS2 HK2 HSL2 HDL2 hb3
   by_cases hv : lkErr ds ⟨d, p, q⟩ = 0; rotate_left
   ·have qv : (lkErr ds ⟨d, p, q⟩ != 0) = true := by simpa using hv
    have HR : Hid (locksErr ns ds ls = lkErr ds ⟨d, p, q⟩) := HSTOP.out _ (by rw [HEA.out, if_pos hv]) hv
    clear hv
    go_wp2_with fail
    go_ret
    exact ⟨ret_int HR.out.symm, HS3.out.bl⟩
   rw [hv]
   replace HEA : Hid (errAt ds ls i = if ordBad ls i ⟨d, p, q⟩ = true then 14 else if othL (ls.take i) ⟨d, p, q⟩ = true then 18 else if usdL (ls.take i) q = true then 4 else 0) := by unfold Hid; rw [HEA.out, if_neg (by simp [hv])]
   clear hv
   by_cases hi0 : 0 < i
   ·obtain ⟨b1, off1, d1, p1, q1, hA1, _, hx1, g0, g1, g2⟩ := (HS.out.below HS3.out.bl hBl).lock (i := i - 1) (by omega)
    injection hA1 with hA1; injection hA1 with h1 h2; subst h1 h2
    have HOB := Lib.hid (ordBad_at (k := ⟨d, p, q⟩) hi0 hx1)
    have HCS : Hid (w3.cell? ⟨b, off + (i - 1) * 3, none⟩ = some (.int .i64 d1) ∧ w3.cell? ⟨b, off + (i - 1) * 3 + 1, none⟩ = some (.int .i64 p1) ∧ w3.cell? ⟨b, off + (i - 1) * 3 + 2, none⟩ = some (.int .i64 q1) ∧ w3.cell? ⟨wr.heap.size, 0, none⟩ = some (.int .i64 d) ∧ w3.cell? ⟨wr.heap.size, 1, none⟩ = some (.int .i64 p) ∧ w3.cell? ⟨wr.heap.size, 2, none⟩ = some (.int .i64 q)) := ⟨g0, g1, g2, HK3.out.cell 0, HK3.out.cell 1, HK3.out.cell 2⟩
    clear g0 g1 g2 hx1
    obtain ⟨i1, hi1⟩ : ∃ i1, i1 = i - 1 := ⟨_, rfl⟩
    rw [← hi1] at HCS
    have e1 : IntKind.i64.wrap ((i : Int) - 1) = (i1 : Int) := by rw [IntWalk.i64_in _ (by omega)]; omega
    have hi1n : i1 < n := by omega
    have qi : decide ((0 : Int) < (i : Int)) = true := by simp; omega
    clear hi1
    have HBE := Lib.hid (order_any ⟨d1, p1, q1⟩ ⟨d, p, q⟩ w3.drew)
    have HLT := Lib.hid (ord_lt ⟨d1, p1, q1⟩ ⟨d, p, q⟩)
    generalize ordI ⟨d1, p1, q1⟩ ⟨d, p, q⟩ = r at *
    rcases hbb : befB ⟨d1, p1, q1⟩ ⟨d, p, q⟩ with _ | _
    ·rw [hbb] at HOB HLT
     have qr : decide (0 ≤ r) = true := by have := HLT.out; simp at this ⊢; omega
     have HR : Hid (locksErr ns ds ls = 14) := HSTOP.out _ (by rw [HEA.out, if_pos (by rw [HOB.out]; rfl)]) (by decide)
     clear hbb
     go_upto_region 12 with (fail)
     refine wp_region_J (S := fun W' => W'.cell? ⟨b, off + i1 * 3, none⟩ = some (.int .i64 d1) ∧ W'.cell? ⟨b, off + i1 * 3 + 1, none⟩ = some (.int .i64 p1) ∧ W'.cell? ⟨b, off + i1 * 3 + 2, none⟩ = some (.int .i64 q1) ∧ W'.cell? ⟨wr.heap.size, 0, none⟩ = some (.int .i64 d) ∧ W'.cell? ⟨wr.heap.size, 1, none⟩ = some (.int .i64 p) ∧ W'.cell? ⟨wr.heap.size, 2, none⟩ = some (.int .i64 q)) (J := []) (by kernel_rfl) ?_ (fun hHeld => ?_)
     ·exact HCS.out
     try dsimp only at hHeld
     refine tk 0 32 (mf 13 1) hHeld ?_
     refine tk 1 33 (mf 13 2) hHeld ?_
     refine tk 2 34 (mf 13 3) hHeld ?_
     refine tk 3 35 (mf 13 4) hHeld ?_
     refine tk 4 36 (mf 13 5) hHeld ?_
     refine tk 5 37 (mf 13 6) hHeld ?_
     refine tk 6 38 (mf 13 7) hHeld ?_
     refine tk 7 39 (mf 13 8) hHeld ?_
     refine tk 8 40 (mf 13 9) hHeld ?_
     refine wpAnyJ_oneL (k := 9) (mf 13 10) (by kernel_rfl) (by kernel_rfl) rfl (fun K hK => ?_)
     (go_simp; refine HBE.out.mono ?_; rintro e w4 ⟨rfl, hb4⟩; go_simp)
     refine hK.out _ _ (fun _ => ?_) (fun hHeld' => ?_)
     ·exact ⟨keep_cell (below_grow hb4) HCS.out.1, keep_cell (below_grow hb4) HCS.out.2.1, keep_cell (below_grow hb4) HCS.out.2.2.1, keep_cell (below_grow hb4) HCS.out.2.2.2.1, keep_cell (below_grow hb4) HCS.out.2.2.2.2.1, keep_cell (below_grow hb4) HCS.out.2.2.2.2.2⟩
     replace hHeld := hHeld' rfl
     clear hHeld' hK K
     try dsimp only at hHeld
     refine tk 10 42 (mf 13 11) hHeld ?_
     refine tk 11 43 (mf 13 12) hHeld ?_
     refine tk 12 31 (mf 13 13) hHeld ?_
     refine wpAnyJ_done (by kernel_rfl) ?_ _
     have HS4 := Lib.hid (HS3.out.drew.later (below_grow hb4))
     clear hHeld hb4
     go_wp2_with fail
     go_ret
     exact ⟨ret_int HR.out.symm, HS4.out.bl⟩
    ·rw [hbb] at HOB HLT
     have qr : decide (0 ≤ r) = false := by have := HLT.out; simp at this ⊢; omega
     replace HOB : Hid (ordBad ls i ⟨d, p, q⟩ = false) := by unfold Hid; rw [HOB.out]; rfl
     clear hbb
     go_upto_region 12 with (fail)
     refine wp_region_J (S := fun W' => W'.cell? ⟨b, off + i1 * 3, none⟩ = some (.int .i64 d1) ∧ W'.cell? ⟨b, off + i1 * 3 + 1, none⟩ = some (.int .i64 p1) ∧ W'.cell? ⟨b, off + i1 * 3 + 2, none⟩ = some (.int .i64 q1) ∧ W'.cell? ⟨wr.heap.size, 0, none⟩ = some (.int .i64 d) ∧ W'.cell? ⟨wr.heap.size, 1, none⟩ = some (.int .i64 p) ∧ W'.cell? ⟨wr.heap.size, 2, none⟩ = some (.int .i64 q)) (J := []) (by kernel_rfl) ?_ (fun hHeld => ?_)
     ·exact HCS.out
     try dsimp only at hHeld
     refine tk 0 32 (mf 13 1) hHeld ?_
     refine tk 1 33 (mf 13 2) hHeld ?_
     refine tk 2 34 (mf 13 3) hHeld ?_
     refine tk 3 35 (mf 13 4) hHeld ?_
     refine tk 4 36 (mf 13 5) hHeld ?_
     refine tk 5 37 (mf 13 6) hHeld ?_
     refine tk 6 38 (mf 13 7) hHeld ?_
     refine tk 7 39 (mf 13 8) hHeld ?_
     refine tk 8 40 (mf 13 9) hHeld ?_
     refine wpAnyJ_oneL (k := 9) (mf 13 10) (by kernel_rfl) (by kernel_rfl) rfl (fun K hK => ?_)
     (go_simp; refine HBE.out.mono ?_; rintro e w4 ⟨rfl, hb4⟩; go_simp)
     refine hK.out _ _ (fun _ => ?_) (fun hHeld' => ?_)
     ·exact ⟨keep_cell (below_grow hb4) HCS.out.1, keep_cell (below_grow hb4) HCS.out.2.1, keep_cell (below_grow hb4) HCS.out.2.2.1, keep_cell (below_grow hb4) HCS.out.2.2.2.1, keep_cell (below_grow hb4) HCS.out.2.2.2.2.1, keep_cell (below_grow hb4) HCS.out.2.2.2.2.2⟩
     replace hHeld := hHeld' rfl
     clear hHeld' hK K
     try dsimp only at hHeld
     refine tk 10 42 (mf 13 11) hHeld ?_
     refine tk 11 43 (mf 13 12) hHeld ?_
     refine tk 12 31 (mf 13 13) hHeld ?_
     refine wpAnyJ_done (by kernel_rfl) ?_ _
     have HS4 := Lib.hid (HS3.out.drew.later (below_grow hb4))
     have HK4 := Lib.hid ((show Blk w3.drew wr.heap.size 59 #[.int .i64 d, .int .i64 p, .int .i64 q] from HK3.out).below (below_grow hb4) HK3.out.lt)
     clear hHeld hb4 HS3 HK3 HCS HBE HLT e1 qr
     have HNB := Lib.hid HOB.out
     have HEB : Hid (errAt ds ls i = if othL (ls.take i) ⟨d, p, q⟩ = true then 18 else if usdL (ls.take i) q = true then 4 else 0) := by unfold Hid; rw [HEA.out, if_neg (by rw [HNB.out]; simp)]
     clear HEA HOB HNB
     have HSL4 := Lib.hid (HS.out.below HS4.out.bl hBl)
     have hic : i ≤ c := by omega
     have HTK := Lib.hid (HSL4.out.takeK (fun _ => rfl) (by decide) hi)
     have HBX4 : Hid (w4.cell? ⟨wr.heap.size, 0, none⟩ = some (.int .i64 d) ∧ w4.cell? ⟨wr.heap.size, 1, none⟩ = some (.int .i64 p) ∧ w4.cell? ⟨wr.heap.size, 2, none⟩ = some (.int .i64 q)) := ⟨HK4.out.cell 0, HK4.out.cell 1, HK4.out.cell 2⟩
     have hz4 := HS4.out.bl.size
     have HOA := Lib.hid (other_any (some ⟨b, off, none⟩) i c Bl (ls.take i) d p q w4.drew HTK.out (by simp only [World.drew]; omega))
     go_wp2_with fail
     rcases ho : othL (ls.take i) ⟨d, p, q⟩ with _ | _
     rotate_left
     ·rw [ho] at HOA HEB
      clear ho
      have HR : Hid (locksErr ns ds ls = 18) := HSTOP.out _ (by rw [HEB.out, if_pos rfl]) (by decide)
      go_upto_region 14 with (fail)
      refine wp_region_J (S := fun W' => W'.cell? ⟨wr.heap.size, 0, none⟩ = some (.int .i64 d) ∧ W'.cell? ⟨wr.heap.size, 1, none⟩ = some (.int .i64 p) ∧ W'.cell? ⟨wr.heap.size, 2, none⟩ = some (.int .i64 q)) (J := []) (by kernel_rfl) ?_ (fun hHeld => ?_)
      ·exact HBX4.out
      try dsimp only at hHeld
      refine tk 0 45 (mf 6 1) hHeld ?_
      refine tk 1 46 (mf 6 2) hHeld ?_
      refine tk 2 47 (mf 6 3) hHeld ?_
      refine tk 3 48 (mf 6 4) hHeld ?_
      refine wpAnyJ_oneL (k := 4) (mf 6 5) (by kernel_rfl) (by kernel_rfl) rfl (fun K hK => ?_)
      (go_simp; refine HOA.out.mono ?_; rintro e w5 ⟨rfl, hb5⟩; go_simp)
      refine hK.out _ _ (fun _ => ?_) (fun hHeld' => ?_)
      ·exact ⟨keep_cell hb5 HBX4.out.1, keep_cell hb5 HBX4.out.2.1, keep_cell hb5 HBX4.out.2.2⟩
      replace hHeld := hHeld' rfl
      clear hHeld' hK K
      try dsimp only at hHeld
      refine tk 5 44 (mf 6 6) hHeld ?_
      refine wpAnyJ_done (by kernel_rfl) ?_ _
      have HS5 := Lib.hid (HS4.out.drew.later hb5)
      clear hHeld hb5
      go_wp2_with fail
      go_ret
      exact ⟨ret_int HR.out.symm, HS5.out.bl⟩
     rw [ho] at HOA HEB
     replace HEB : Hid (errAt ds ls i = if usdL (ls.take i) q = true then 4 else 0) := by unfold Hid; rw [HEB.out, if_neg (by simp)]
     clear ho
     go_upto_region 14 with (fail)
     refine wp_region_J (S := fun W' => W'.cell? ⟨wr.heap.size, 0, none⟩ = some (.int .i64 d) ∧ W'.cell? ⟨wr.heap.size, 1, none⟩ = some (.int .i64 p) ∧ W'.cell? ⟨wr.heap.size, 2, none⟩ = some (.int .i64 q)) (J := []) (by kernel_rfl) ?_ (fun hHeld => ?_)
     ·exact HBX4.out
     try dsimp only at hHeld
     refine tk 0 45 (mf 6 1) hHeld ?_
     refine tk 1 46 (mf 6 2) hHeld ?_
     refine tk 2 47 (mf 6 3) hHeld ?_
     refine tk 3 48 (mf 6 4) hHeld ?_
     refine wpAnyJ_oneL (k := 4) (mf 6 5) (by kernel_rfl) (by kernel_rfl) rfl (fun K hK => ?_)
     (go_simp; refine HOA.out.mono ?_; rintro e w5 ⟨rfl, hb5⟩; go_simp)
     refine hK.out _ _ (fun _ => ?_) (fun hHeld' => ?_)
     ·exact ⟨keep_cell hb5 HBX4.out.1, keep_cell hb5 HBX4.out.2.1, keep_cell hb5 HBX4.out.2.2⟩
     replace hHeld := hHeld' rfl
     clear hHeld' hK K
     try dsimp only at hHeld
     refine tk 5 44 (mf 6 6) hHeld ?_
     refine wpAnyJ_done (by kernel_rfl) ?_ _
     have HS5 := Lib.hid (HS4.out.drew.later hb5)
     have HTK5 := Lib.hid (HTK.out.drew.below hb5 (by simp only [World.drew]; omega))
     have HC5 : Hid (w5.cell? ⟨wr.heap.size, 2, none⟩ = some (.int .i64 q)) := hHeld.2.2
     clear hHeld hb5 HOA HBX4 HSL4 HTK HK4
     have hz5 := HS5.out.bl.size
     have HUA := Lib.hid (used_any (some ⟨b, off, none⟩) i c Bl (ls.take i) q w5.drew HTK5.out (by simp only [World.drew]; omega))
     rcases hu : usdL (ls.take i) q with _ | _
     rotate_left
     ·rw [hu] at HUA HEB
      clear hu
      have HR : Hid (locksErr ns ds ls = 4) := HSTOP.out _ (by rw [HEB.out, if_pos rfl]) (by decide)
      go_upto_region 16 with (fail)
      refine wp_region_J (S := fun W' => W'.cell? ⟨wr.heap.size, 2, none⟩ = some (.int .i64 q)) (J := []) (by kernel_rfl) ?_ (fun hHeld => ?_)
      ·exact HC5.out
      try dsimp only at hHeld
      refine tk 0 51 (mf 7 1) hHeld ?_
      refine tk 1 52 (mf 7 2) hHeld ?_
      refine tk 2 53 (mf 7 3) hHeld ?_
      refine tk 3 54 (mf 7 4) hHeld ?_
      refine tk 4 55 (mf 7 5) hHeld ?_
      refine wpAnyJ_oneL (k := 5) (mf 7 6) (by kernel_rfl) (by kernel_rfl) rfl (fun K hK => ?_)
      (go_simp; refine HUA.out.mono ?_; rintro e w6 ⟨rfl, hb6⟩; go_simp)
      refine hK.out _ _ (fun _ => ?_) (fun hHeld' => ?_)
      ·exact keep_cell hb6 HC5.out
      replace hHeld := hHeld' rfl
      clear hHeld' hK K
      try dsimp only at hHeld
      refine tk 6 50 (mf 7 7) hHeld ?_
      refine wpAnyJ_done (by kernel_rfl) ?_ _
      have HS6 := Lib.hid (HS5.out.drew.later hb6)
      clear hHeld hb6
      go_wp2_with fail
      go_ret
      exact ⟨ret_int HR.out.symm, HS6.out.bl⟩
     rw [hu] at HUA HEB
     clear hu
     have HFN : Hid (firstE ds ls (i + 1) = 0) := HNEXT.out (by rw [HEB.out, if_neg (by simp)])
     go_upto_region 16 with (fail)
     refine wp_region_J (S := fun W' => W'.cell? ⟨wr.heap.size, 2, none⟩ = some (.int .i64 q)) (J := []) (by kernel_rfl) ?_ (fun hHeld => ?_)
     ·exact HC5.out
     try dsimp only at hHeld
     refine tk 0 51 (mf 7 1) hHeld ?_
     refine tk 1 52 (mf 7 2) hHeld ?_
     refine tk 2 53 (mf 7 3) hHeld ?_
     refine tk 3 54 (mf 7 4) hHeld ?_
     refine tk 4 55 (mf 7 5) hHeld ?_
     refine wpAnyJ_oneL (k := 5) (mf 7 6) (by kernel_rfl) (by kernel_rfl) rfl (fun K hK => ?_)
     (go_simp; refine HUA.out.mono ?_; rintro e w6 ⟨rfl, hb6⟩; go_simp)
     refine hK.out _ _ (fun _ => ?_) (fun hHeld' => ?_)
     ·exact keep_cell hb6 HC5.out
     replace hHeld := hHeld' rfl
     clear hHeld' hK K
     try dsimp only at hHeld
     refine tk 6 50 (mf 7 7) hHeld ?_
     refine wpAnyJ_done (by kernel_rfl) ?_ _
     have HS6 := Lib.hid (HS5.out.drew.later hb6)
     clear hHeld hb6
     go_wp2_with fail
     go_roundg (n - (i + 1))
     case rel => exact ⟨i + 1, by go_num, by omega, rfl, HFN, HS6⟩
     case measure => omega
   ·have e0 : i = 0 := by omega
    have HOB : Hid (ordBad ls i ⟨d, p, q⟩ = false) := by unfold Hid ordBad; rw [decide_eq_false hi0]; rfl
    have qi : decide (0 < i) = false := by simp; omega
    have qi2 : decide ((0 : Int) < (i : Int)) = false := by simp; omega
    clear e0
    go_upto_region 12 with (fail)
    refine wp_region_J (S := fun _ => True) (J := []) (by kernel_rfl) ?_ (fun hHeld => ?_)
    ·exact trivial
    try dsimp only at hHeld
    refine tk 0 32 (mf 13 1) hHeld ?_
    refine tk 1 33 (mf 13 2) hHeld ?_
    refine tk 2 34 (mf 13 3) hHeld ?_
    refine ts 3 35 (mf 13 4) hHeld ?_
    refine ts 4 36 (mf 13 5) hHeld ?_
    refine ts 5 37 (mf 13 6) hHeld ?_
    refine ts 6 38 (mf 13 7) hHeld ?_
    refine ts 7 39 (mf 13 8) hHeld ?_
    refine ts 8 40 (mf 13 9) hHeld ?_
    refine ts 9 41 (mf 13 10) hHeld ?_
    refine ts 10 42 (mf 13 11) hHeld ?_
    refine tk 11 43 (mf 13 12) hHeld ?_
    refine tk 12 31 (mf 13 13) hHeld ?_
    refine wpAnyJ_done (by kernel_rfl) ?_ _
    have HS4 := Lib.hid (HS3.out.drew)
    have HK4 := Lib.hid (show Blk w3.drew wr.heap.size 59 #[.int .i64 d, .int .i64 p, .int .i64 q] from HK3.out)
    have hz4d : wr.heap.size + 1 ≤ w3.drew.heap.size := by simp only [World.drew]; omega
    clear hHeld HS3 HK3 qi qi2 hz3
    generalize World.drew w3 = w4 at *
    have HNB := Lib.hid HOB.out
    have HEB : Hid (errAt ds ls i = if othL (ls.take i) ⟨d, p, q⟩ = true then 18 else if usdL (ls.take i) q = true then 4 else 0) := by unfold Hid; rw [HEA.out, if_neg (by rw [HNB.out]; simp)]
    clear HEA HOB HNB
    have HSL4 := Lib.hid (HS.out.below HS4.out.bl hBl)
    have hic : i ≤ c := by omega
    have HTK := Lib.hid (HSL4.out.takeK (fun _ => rfl) (by decide) hi)
    have HBX4 : Hid (w4.cell? ⟨wr.heap.size, 0, none⟩ = some (.int .i64 d) ∧ w4.cell? ⟨wr.heap.size, 1, none⟩ = some (.int .i64 p) ∧ w4.cell? ⟨wr.heap.size, 2, none⟩ = some (.int .i64 q)) := ⟨HK4.out.cell 0, HK4.out.cell 1, HK4.out.cell 2⟩
    have hz4 := HS4.out.bl.size
    have HOA := Lib.hid (other_any (some ⟨b, off, none⟩) i c Bl (ls.take i) d p q w4.drew HTK.out (by simp only [World.drew]; omega))
    go_wp2_with fail
    rcases ho : othL (ls.take i) ⟨d, p, q⟩ with _ | _
    rotate_left
    ·rw [ho] at HOA HEB
     clear ho
     have HR : Hid (locksErr ns ds ls = 18) := HSTOP.out _ (by rw [HEB.out, if_pos rfl]) (by decide)
     go_upto_region 14 with (fail)
     refine wp_region_J (S := fun W' => W'.cell? ⟨wr.heap.size, 0, none⟩ = some (.int .i64 d) ∧ W'.cell? ⟨wr.heap.size, 1, none⟩ = some (.int .i64 p) ∧ W'.cell? ⟨wr.heap.size, 2, none⟩ = some (.int .i64 q)) (J := []) (by kernel_rfl) ?_ (fun hHeld => ?_)
     ·exact HBX4.out
     try dsimp only at hHeld
     refine tk 0 45 (mf 6 1) hHeld ?_
     refine tk 1 46 (mf 6 2) hHeld ?_
     refine tk 2 47 (mf 6 3) hHeld ?_
     refine tk 3 48 (mf 6 4) hHeld ?_
     refine wpAnyJ_oneL (k := 4) (mf 6 5) (by kernel_rfl) (by kernel_rfl) rfl (fun K hK => ?_)
     (go_simp; refine HOA.out.mono ?_; rintro e w5 ⟨rfl, hb5⟩; go_simp)
     refine hK.out _ _ (fun _ => ?_) (fun hHeld' => ?_)
     ·exact ⟨keep_cell hb5 HBX4.out.1, keep_cell hb5 HBX4.out.2.1, keep_cell hb5 HBX4.out.2.2⟩
     replace hHeld := hHeld' rfl
     clear hHeld' hK K
     try dsimp only at hHeld
     refine tk 5 44 (mf 6 6) hHeld ?_
     refine wpAnyJ_done (by kernel_rfl) ?_ _
     have HS5 := Lib.hid (HS4.out.drew.later hb5)
     clear hHeld hb5
     go_wp2_with fail
     go_ret
     exact ⟨ret_int HR.out.symm, HS5.out.bl⟩
    rw [ho] at HOA HEB
    replace HEB : Hid (errAt ds ls i = if usdL (ls.take i) q = true then 4 else 0) := by unfold Hid; rw [HEB.out, if_neg (by simp)]
    clear ho
    go_upto_region 14 with (fail)
    refine wp_region_J (S := fun W' => W'.cell? ⟨wr.heap.size, 0, none⟩ = some (.int .i64 d) ∧ W'.cell? ⟨wr.heap.size, 1, none⟩ = some (.int .i64 p) ∧ W'.cell? ⟨wr.heap.size, 2, none⟩ = some (.int .i64 q)) (J := []) (by kernel_rfl) ?_ (fun hHeld => ?_)
    ·exact HBX4.out
    try dsimp only at hHeld
    refine tk 0 45 (mf 6 1) hHeld ?_
    refine tk 1 46 (mf 6 2) hHeld ?_
    refine tk 2 47 (mf 6 3) hHeld ?_
    refine tk 3 48 (mf 6 4) hHeld ?_
    refine wpAnyJ_oneL (k := 4) (mf 6 5) (by kernel_rfl) (by kernel_rfl) rfl (fun K hK => ?_)
    (go_simp; refine HOA.out.mono ?_; rintro e w5 ⟨rfl, hb5⟩; go_simp)
    refine hK.out _ _ (fun _ => ?_) (fun hHeld' => ?_)
    ·exact ⟨keep_cell hb5 HBX4.out.1, keep_cell hb5 HBX4.out.2.1, keep_cell hb5 HBX4.out.2.2⟩
    replace hHeld := hHeld' rfl
    clear hHeld' hK K
    try dsimp only at hHeld
    refine tk 5 44 (mf 6 6) hHeld ?_
    refine wpAnyJ_done (by kernel_rfl) ?_ _
    have HS5 := Lib.hid (HS4.out.drew.later hb5)
    have HTK5 := Lib.hid (HTK.out.drew.below hb5 (by simp only [World.drew]; omega))
    have HC5 : Hid (w5.cell? ⟨wr.heap.size, 2, none⟩ = some (.int .i64 q)) := hHeld.2.2
    clear hHeld hb5 HOA HBX4 HSL4 HTK HK4
    have hz5 := HS5.out.bl.size
    have HUA := Lib.hid (used_any (some ⟨b, off, none⟩) i c Bl (ls.take i) q w5.drew HTK5.out (by simp only [World.drew]; omega))
    rcases hu : usdL (ls.take i) q with _ | _
    rotate_left
    ·rw [hu] at HUA HEB
     clear hu
     have HR : Hid (locksErr ns ds ls = 4) := HSTOP.out _ (by rw [HEB.out, if_pos rfl]) (by decide)
     go_upto_region 16 with (fail)
     refine wp_region_J (S := fun W' => W'.cell? ⟨wr.heap.size, 2, none⟩ = some (.int .i64 q)) (J := []) (by kernel_rfl) ?_ (fun hHeld => ?_)
     ·exact HC5.out
     try dsimp only at hHeld
     refine tk 0 51 (mf 7 1) hHeld ?_
     refine tk 1 52 (mf 7 2) hHeld ?_
     refine tk 2 53 (mf 7 3) hHeld ?_
     refine tk 3 54 (mf 7 4) hHeld ?_
     refine tk 4 55 (mf 7 5) hHeld ?_
     refine wpAnyJ_oneL (k := 5) (mf 7 6) (by kernel_rfl) (by kernel_rfl) rfl (fun K hK => ?_)
     (go_simp; refine HUA.out.mono ?_; rintro e w6 ⟨rfl, hb6⟩; go_simp)
     refine hK.out _ _ (fun _ => ?_) (fun hHeld' => ?_)
     ·exact keep_cell hb6 HC5.out
     replace hHeld := hHeld' rfl
     clear hHeld' hK K
     try dsimp only at hHeld
     refine tk 6 50 (mf 7 7) hHeld ?_
     refine wpAnyJ_done (by kernel_rfl) ?_ _
     have HS6 := Lib.hid (HS5.out.drew.later hb6)
     clear hHeld hb6
     go_wp2_with fail
     go_ret
     exact ⟨ret_int HR.out.symm, HS6.out.bl⟩
    rw [hu] at HUA HEB
    clear hu
    have HFN : Hid (firstE ds ls (i + 1) = 0) := HNEXT.out (by rw [HEB.out, if_neg (by simp)])
    go_upto_region 16 with (fail)
    refine wp_region_J (S := fun W' => W'.cell? ⟨wr.heap.size, 2, none⟩ = some (.int .i64 q)) (J := []) (by kernel_rfl) ?_ (fun hHeld => ?_)
    ·exact HC5.out
    try dsimp only at hHeld
    refine tk 0 51 (mf 7 1) hHeld ?_
    refine tk 1 52 (mf 7 2) hHeld ?_
    refine tk 2 53 (mf 7 3) hHeld ?_
    refine tk 3 54 (mf 7 4) hHeld ?_
    refine tk 4 55 (mf 7 5) hHeld ?_
    refine wpAnyJ_oneL (k := 5) (mf 7 6) (by kernel_rfl) (by kernel_rfl) rfl (fun K hK => ?_)
    (go_simp; refine HUA.out.mono ?_; rintro e w6 ⟨rfl, hb6⟩; go_simp)
    refine hK.out _ _ (fun _ => ?_) (fun hHeld' => ?_)
    ·exact keep_cell hb6 HC5.out
    replace hHeld := hHeld' rfl
    clear hHeld' hK K
    try dsimp only at hHeld
    refine tk 6 50 (mf 7 7) hHeld ?_
    refine wpAnyJ_done (by kernel_rfl) ?_ _
    have HS6 := Lib.hid (HS5.out.drew.later hb6)
    clear hHeld hb6
    go_wp2_with fail
    go_roundg (n - (i + 1))
    case rel => exact ⟨i + 1, by go_num, by omega, rfl, HFN, HS6⟩
    case measure => omega
  ·obtain rfl : i = n := by omega
   have hii : decide (i < i) = false := by simp
   have HR : Hid (locksErr ns ds ls = 0) := by unfold Hid; rw [HE.out, hfe.out]
   go_wp2_with fail
   go_ret
   exact ⟨ret_int HR.out.symm, hst.out.bl⟩
end Go.Proofs.YtfaknfmndafllaaGreatDoor
namespace Go.Proofs.YtfaknfmndafllaaGreatDoor
open Go.RowKit
end Go.Proofs.YtfaknfmndafllaaGreatDoor
namespace Go.Proofs.YtfaknfmndafllaaGreatDoor
open Go.RowKit
section
variable {P : Program} {ops : Array Oper} {A : Act} {L : List (Nat × Value)} {n : Nat} {oi : Oper}
end
end Go.Proofs.YtfaknfmndafllaaGreatDoor
namespace Go.Proofs.YtfaknfmndafllaaGreatDoor
open Go.RowKit
def risL (u : Int) : Int → List Int → Bool
 | _, [] => true
 | p, x :: t => decide (p < x) && decide (x < u) && risL u x t
def lastD : Int → List Int → Int
 | p, [] => p
 | _, x :: t => lastD x t
theorem risL_snoc (u x : Int) : ∀ (p : Int) (l : List Int), risL u p (l ++ [x]) = (risL u p l && decide (lastD p l < x) && decide (x < u))
 | p, [] => by
  show (decide (p < x) && decide (x < u) && true) = (true && decide (p < x) && decide (x < u))
  rw [Bool.and_true, Bool.true_and]
 | p, y :: t => by rw [List.cons_append, risL, risL_snoc u x y t, risL, lastD]; simp only [Bool.and_assoc]
theorem risL_take {u : Int} : ∀ {p : Int} {l : List Int} (i : Nat), risL u p l = true → risL u p (l.take i) = true
 | _, [], i, _ => by simp [risL]
 | _, x :: t, 0, _ => by simp [risL]
 | p, x :: t, i + 1, h => by
  rw [risL, Bool.and_eq_true] at h
  rw [List.take_succ_cons, risL, h.1, risL_take i h.2]; rfl
theorem lastD_snoc (x : Int) : ∀ (p : Int) (l : List Int), lastD p (l ++ [x]) = x
 | _, [] => rfl
 | _, y :: t => lastD_snoc x y t
theorem lastD_take {l : List Int} {i : Nat} {x p : Int} (h : l[i]? = some x) : lastD p (l.take (i + 1)) = x := by rw [take_snoc h, lastD_snoc]
theorem ris_stop {u x : Int} {l : List Int} {i : Nat} (hx : l[i]? = some x) (h : lastD (-1) (l.take i) < x → x < u → False) : risL u (-1) l = false := by
 rw [Bool.eq_false_iff]
 intro e
 have := risL_take (i + 1) e
 rw [take_snoc hx, risL_snoc, Bool.and_eq_true, Bool.and_eq_true] at this
 exact h (by simpa using this.1.2) (by simpa using this.2)
theorem ris_step {u x : Int} {l : List Int} {i : Nat} (hx : l[i]? = some x) (hp : risL u (-1) (l.take i) = true) (h1 : lastD (-1) (l.take i) < x) (h2 : x < u) : risL u (-1) (l.take (i + 1)) = true := by
 rw [take_snoc hx, risL_snoc, hp, decide_eq_true h1, decide_eq_true h2]; rfl
def RsgR (w : World) (l : List Int) (u : Int) (n gk : Nat) (lv iv : Value) (wr : World) : Prop := ∃ i : Nat, lv = .int .i64 (lastD (-1) (l.take i)) ∧ iv = .int .i64 i ∧ i ≤ n ∧ gk = n - i ∧ wr = w ∧ Hid (risL u (-1) (l.take i) = true)
theorem rising_any (A : Option Addr) (n c B : Nat) (l : List Int) (u : Int) (w : World) (hs : Sl w B 1 A n c (intsV l)) :
 Calls Tryz.prog 96 #[.slice A n c, .int .i64 u] w fun e w' => e = .returned (.bool (risL u (-1) l)) ∧ w = w' := by
 have hle := hs.le
 have HL := Lib.hid (hs.len (fun _ => rfl) (by decide))
 have HS := Lib.hid hs
 clear hs
 go_enter Tryz.func96, Tryz.ntmps96
 go_wp2_with fail
 go_loopg [5, 11] n (RsgR w l u n)
 case atStart => exact ⟨0, rfl, rfl, Nat.zero_le _, rfl, rfl, rfl⟩
 case round =>
  obtain ⟨i, rfl, rfl, hi, rfl, rfl, hR⟩ := hrel
  by_cases hlt : i < n
  ·obtain ⟨b, off, x, rfl, hb, hx, hc⟩ := HS.out.at1 hlt
   have HX := Lib.hid hx
   have HT : Hid (lastD (-1) (l.take (i + 1)) = x) := lastD_take hx
   obtain ⟨la, hla⟩ : ∃ la, la = lastD (-1) (l.take i) := ⟨_, rfl⟩
   rw [← hla]
   have HLA := Lib.hid hla
   clear hx hla
   by_cases h1 : x ≤ la
   ·have q1 : decide (x ≤ la) = true := by simpa using h1
    have HF : Hid (risL u (-1) l = false) := ris_stop HX.out fun h _ => by rw [← HLA.out] at h; omega
    clear h1
    go_wp2_with fail
    go_ret
    exact ⟨ret_bool HF.out.symm, rfl⟩
   have q1 : decide (x ≤ la) = false := by simpa using h1
   by_cases h2 : u ≤ x
   ·have q2 : decide (u ≤ x) = true := by simpa using h2
    have HF : Hid (risL u (-1) l = false) := ris_stop HX.out fun _ h => by omega
    clear h1 h2
    go_wp2_with fail
    go_ret
    exact ⟨ret_bool HF.out.symm, rfl⟩
   have q2 : decide (u ≤ x) = false := by simpa using h2
   have HN : Hid (risL u (-1) (l.take (i + 1)) = true) := ris_step HX.out hR.out (by rw [← HLA.out]; omega) (by omega)
   clear h1 h2
   go_wp2_with fail
   go_roundg (n - (i + 1))
   case rel => exact ⟨i + 1, by rw [HT.out], by go_num, by omega, rfl, rfl, HN⟩
   case measure => omega
  ·obtain rfl : i = n := by omega
   have hii : decide (i < i) = false := by simp
   have HF : Hid (risL u (-1) l = true) := by have := hR.out; rw [List.take_of_length_le (by rw [HL.out]; exact Nat.le_refl _)] at this; exact this
   go_wp2_with fail
   go_ret
   exact ⟨ret_bool HF.out.symm, rfl⟩
def zoneErr (ns : List Nd) (ds : List Dv) (z : List Int) : Int := if checkN ns ds ≠ 0 then checkN ns ds else if z.length = 0 then 16 else if risL ns.length (-1) z = false then 7 else 0
theorem zoneErr_zero {ns : List Nd} {ds : List Dv} {z : List Int} (h : zoneErr ns ds z = 0) : checkN ns ds = 0 ∧ 0 < z.length ∧ risL ns.length (-1) z = true := by
 unfold zoneErr at h
 split at h
 ·next h1 => exact absurd h h1
 next h1 =>
 split at h
 ·cases h
 next h2 =>
 split at h
 ·cases h
 next h3 => exact ⟨by simpa using h1, by omega, by simpa using h3⟩
theorem ris_mem {u : Int} : ∀ {p : Int} {l : List Int}, risL u p l = true → ∀ x ∈ l, p < x ∧ x < u
 | _, [], _, x, hx => by cases hx
 | p, y :: t, h, x, hx => by
  rw [risL, Bool.and_eq_true, Bool.and_eq_true] at h
  have h1 : p < y := by simpa using h.1.1
  rcases List.mem_cons.1 hx with rfl | hx
  ·exact ⟨h1, by simpa using h.1.2⟩
  ·have := ris_mem h.2 x hx; exact ⟨by omega, this.2⟩
theorem zcheck_any (An Ad Az : Option Addr) (nn cn nd cd n c : Nat) (ns : List Nd) (ds : List Dv) (z : List Int) (w : World) (hl : Laid w) (hn : Sl w w.heap.size 3 An nn cn (ns.flatMap Nd.cells)) (hd : Sl w w.heap.size 5 Ad nd cd (ds.flatMap Dv.cells)) (hs : Sl w w.heap.size 1 Az n c (intsV z))
 (hsn : ∀ x ∈ ns, x.name.size ≤ 9223372036854775807) (hsd : ∀ x ∈ ds, x.name.size ≤ 9223372036854775807) :
 Calls Tryz.prog 56 #[.agg #[.slice An nn cn, .slice Ad nd cd], .slice Az n c] w fun e w' => e = .returned (.int .i64 (zoneErr ns ds z)) ∧ Below w.heap.size w w' := by
 have HLZ := Lib.hid (hs.len (fun _ => rfl) (by decide))
 have HLN := Lib.hid (hn.len (fun _ => rfl) (by decide))
 have hle := hs.le
 have hln := hn.le
 have HE : Hid (zoneErr ns ds z = if checkN ns ds ≠ 0 then checkN ns ds else if n = 0 then 16 else if risL nn (-1) z = false then 7 else 0) := by unfold Hid zoneErr; rw [HLN.out, HLZ.out]
 have HB : Hid (Below w.heap.size w (w.alloc (.cells #[.slice An nn cn, .slice Ad nd cd] 30))) := (Below.refl _ _).alloc (Nat.le_refl _) _
 have HK := Lib.hid (Blk.new w 30 #[.slice An nn cn, .slice Ad nd cd])
 have HC := Lib.hid (ncheck_any An Ad nn cn nd cd _ _ ns ds (w.alloc (.cells #[.slice An nn cn, .slice Ad nd cd] 30)) (hl.alloc _) (hn.below HB.out (Nat.le_refl _)) (hd.below HB.out (Nat.le_refl _)) HB.out.size HB.out.size hsn hsd)
 have HS := Lib.hid hs
 clear hn hd hs hsn hsd hl
 go_enter Tryz.func56, Tryz.ntmps56
 go_wp2_with fail
 generalize World.alloc w _ = W at *
 refine HC.out.mono ?_
 rintro e w1 ⟨rfl, hb1⟩
 have HB1 := Lib.hid (HB.out.trans (hb1.mono HB.out.size))
 have HK1 := Lib.hid (HK.out.below hb1 HK.out.lt)
 have HS1 := Lib.hid ((HS.out.below HB1.out (Nat.le_refl _)).more HB1.out.size)
 clear hb1 HC HB HK HS
 obtain ⟨er, her⟩ : ∃ x, x = checkN ns ds := ⟨_, rfl⟩
 rw [← her] at HE ⊢
 clear her
 by_cases he : er = 0; rotate_left
 ·have q : (er != 0) = true := by simpa using he
  have HR : Hid (zoneErr ns ds z = er) := by unfold Hid; rw [HE.out, if_pos he]
  clear he HE
  go_wp2_with fail
  go_ret
  exact ⟨ret_int HR.out.symm, HB1.out⟩
 subst he
 rcases Nat.eq_zero_or_pos n with rfl | h0
 ·have HR : Hid (zoneErr ns ds z = 16) := by unfold Hid; rw [HE.out, if_neg (by simp), if_pos rfl]
  clear HE
  go_wp2_with fail
  go_ret
  exact ⟨ret_int HR.out.symm, HB1.out⟩
 have q0 : ((n : Int) == 0) = false := by simp; omega
 have q1 : (n == 0) = false := by simp; omega
 have k0 := HK1.out.c0
 go_wp2_with fail
 clear k0
 refine (rising_any Az n c w1.heap.size z nn w1 HS1.out).mono ?_
 rintro e w2 ⟨rfl, rfl⟩
 rcases hr : risL nn (-1) z with _ | _
 ·have HR : Hid (zoneErr ns ds z = 7) := by unfold Hid; rw [HE.out, if_neg (by simp), if_neg (by omega), if_pos hr]
  clear HE hr
  go_wp2_with fail
  go_ret
  exact ⟨ret_int HR.out.symm, HB1.out⟩
 ·have HR : Hid (zoneErr ns ds z = 0) := by unfold Hid; rw [HE.out, if_neg (by simp), if_neg (by omega), if_neg (by rw [hr]; simp)]
  clear HE hr
  go_wp2_with fail
  go_ret
  exact ⟨ret_int HR.out.symm, HB1.out⟩
end Go.Proofs.YtfaknfmndafllaaGreatDoor
namespace Go.Proofs.YtfaknfmndafllaaGreatDoor
open Go.RowKit
inductive Fi where
 | w (s : ByteArray)
 | d
 | n
 | p
 | k
def Fi.val : Fi → Value
 | .w s => .iface 228 (.string s)
 | .d => .iface 230 (.agg #[])
 | .n => .iface 233 (.agg #[])
 | .p => .iface 231 (.agg #[])
 | .k => .iface 232 (.agg #[])
def Fi.cells (x : Fi) : List Value := [x.val]
structure Hs where
 dv : Int
 no : Int
 po : Int
 ke : Int
 b0 : Bool
 b1 : Bool
 b2 : Bool
 b3 : Bool
def Hs.step (h : Hs) (kd : Int) : Array Value := #[.int .i64 kd, .int .i64 h.dv, .int .i64 h.no, .int .i64 h.po, .int .i64 h.ke]
def Hs.bad (h : Hs) : Array Value := #[.bool h.b0, .bool h.b1, .bool h.b2, .bool h.b3]
structure HsM (w : World) (N : Array Value) (kd : Int) (h : Hs) (wr : World) : Prop where
 b0 : Blk wr w.heap.size 30 N
 b1 : Blk wr (w.heap.size + 1) 56 (h.step kd)
 b2 : Blk wr (w.heap.size + 2) 56 #[.int .i64 0, .int .i64 0, .int .i64 0, .int .i64 0, .int .i64 0]
 b3 : Blk wr (w.heap.size + 3) 202 #[.bool false, .bool false, .bool false, .bool false]
 b4 : Blk wr (w.heap.size + 4) 202 h.bad
 bl : Below w.heap.size w wr
section
variable {w wr wr' : World} {N : Array Value} {kd : Int} {h : Hs}
theorem HsM.new (w : World) (N : Array Value) (kd : Int) (h : Hs) : HsM w N kd ⟨h.dv, h.no, h.po, h.ke, false, false, false, false⟩ (((((w.alloc (.cells N 30)).alloc (.cells (h.step kd) 56)).alloc (.cells #[.int .i64 0, .int .i64 0, .int .i64 0, .int .i64 0, .int .i64 0] 56)).alloc (.cells #[.bool false, .bool false, .bool false, .bool false] 202)).alloc (.cells #[.bool false, .bool false, .bool false, .bool false] 202)) := by
 have h0 := Blk.new w 30 N
 generalize e1 : w.alloc (.cells N 30) = w1 at *
 have z1 : w1.heap.size = w.heap.size + 1 := by rw [← e1, World.size_alloc]
 have l1 : Below w.heap.size w w1 := by rw [← e1]; exact (Below.refl _ _).alloc (Nat.le_refl _) _
 have h1 := Blk.new w1 56 (h.step kd)
 have h0 := h0.alloc (.cells (h.step kd) 56)
 have l2 := l1.alloc (by omega) (.cells (h.step kd) 56)
 generalize e2 : w1.alloc (.cells (h.step kd) 56) = w2 at *
 have z2 : w2.heap.size = w.heap.size + 2 := by rw [← e2, World.size_alloc, z1]
 have h2 := Blk.new w2 56 #[.int .i64 0, .int .i64 0, .int .i64 0, .int .i64 0, .int .i64 0]
 have h0 := h0.alloc (.cells #[.int .i64 0, .int .i64 0, .int .i64 0, .int .i64 0, .int .i64 0] 56)
 have h1 := h1.alloc (.cells #[.int .i64 0, .int .i64 0, .int .i64 0, .int .i64 0, .int .i64 0] 56)
 have l3 := l2.alloc (by omega) (.cells #[.int .i64 0, .int .i64 0, .int .i64 0, .int .i64 0, .int .i64 0] 56)
 generalize e3 : w2.alloc (.cells #[.int .i64 0, .int .i64 0, .int .i64 0, .int .i64 0, .int .i64 0] 56) = w3 at *
 have z3 : w3.heap.size = w.heap.size + 3 := by rw [← e3, World.size_alloc, z2]
 have h3 := Blk.new w3 202 #[.bool false, .bool false, .bool false, .bool false]
 have h0 := h0.alloc (.cells #[.bool false, .bool false, .bool false, .bool false] 202)
 have h1 := h1.alloc (.cells #[.bool false, .bool false, .bool false, .bool false] 202)
 have h2 := h2.alloc (.cells #[.bool false, .bool false, .bool false, .bool false] 202)
 have l4 := l3.alloc (by omega) (.cells #[.bool false, .bool false, .bool false, .bool false] 202)
 generalize e4 : w3.alloc (.cells #[.bool false, .bool false, .bool false, .bool false] 202) = w4 at *
 have z4 : w4.heap.size = w.heap.size + 4 := by rw [← e4, World.size_alloc, z3]
 have h4 := Blk.new w4 202 #[.bool false, .bool false, .bool false, .bool false]
 rw [z1] at h1; rw [z2] at h2; rw [z3] at h3; rw [z4] at h4
 exact ⟨h0.alloc _, h1.alloc _, h2.alloc _, h3.alloc _, h4, l4.alloc (by omega) _⟩
theorem HsM.later (h0 : HsM w N kd h wr) (hb : Below wr.heap.size wr wr') : HsM w N kd h wr' := ⟨h0.b0.below hb h0.b0.lt, h0.b1.below hb h0.b1.lt, h0.b2.below hb h0.b2.lt, h0.b3.below hb h0.b3.lt, h0.b4.below hb h0.b4.lt, h0.bl.trans (hb.mono h0.bl.size)⟩
theorem HsM.put (h0 : HsM w N kd h wr) (i j : Nat) (u v : Value) {h' : Hs} (e1 : (h.step kd).setIfInBounds j v = h'.step kd) (e2 : h.bad.setIfInBounds i u = h'.bad) : HsM w N kd h' ((wr.setCell ⟨w.heap.size + 4, i, none⟩ u).setCell ⟨w.heap.size + 1, j, none⟩ v) :=
 ⟨(h0.b0.far (p := ⟨w.heap.size + 4, i, none⟩) (by simp) u).far (p := ⟨w.heap.size + 1, j, none⟩) (by simp) v, by rw [← e1]; exact (h0.b1.far (p := ⟨w.heap.size + 4, i, none⟩) (by simp) u).set j v,
  (h0.b2.far (p := ⟨w.heap.size + 4, i, none⟩) (by simp) u).far (p := ⟨w.heap.size + 1, j, none⟩) (by simp) v, (h0.b3.far (p := ⟨w.heap.size + 4, i, none⟩) (by simp) u).far (p := ⟨w.heap.size + 1, j, none⟩) (by simp) v,
  by rw [← e2]; exact (h0.b4.set i u).far (p := ⟨w.heap.size + 1, j, none⟩) (by simp) v, (h0.bl.setCell (by simp) u).setCell (by simp) v⟩
end
section
variable {w : World} {x g : Nat} {t : TypeId} {cs : Array Value} {a b c d e a' b' c' d' e' : Value}
end
structure HsM5 (w : World) (kd : Int) (h : Hs) (wr : World) : Prop where
 b1 : Blk wr (w.heap.size + 1) 56 (h.step kd)
 b4 : Blk wr (w.heap.size + 4) 202 h.bad
 b2 : Blk wr (w.heap.size + 2) 56 (h.step kd)
 b3 : Blk wr (w.heap.size + 3) 202 #[.bool false, .bool false, .bool false, .bool false]
 bl : Below w.heap.size w wr
theorem HsM5.cells {w wr : World} {kd dv no po ke : Int} {g0 g1 g2 g3 : Bool} (h : HsM5 w kd ⟨dv, no, po, ke, g0, g1, g2, g3⟩ wr) : (wr.cell? ⟨w.heap.size + 1, 0, none⟩ = some (.int .i64 kd) ∧ wr.cell? ⟨w.heap.size + 1, 1, none⟩ = some (.int .i64 dv) ∧ wr.cell? ⟨w.heap.size + 1, 2, none⟩ = some (.int .i64 no) ∧ wr.cell? ⟨w.heap.size + 1, 3, none⟩ = some (.int .i64 po) ∧ wr.cell? ⟨w.heap.size + 1, 4, none⟩ = some (.int .i64 ke)) ∧ wr.cell? ⟨w.heap.size + 4, 0, none⟩ = some (.bool g0) ∧ wr.cell? ⟨w.heap.size + 4, 1, none⟩ = some (.bool g1) ∧ wr.cell? ⟨w.heap.size + 4, 2, none⟩ = some (.bool g2) ∧ wr.cell? ⟨w.heap.size + 4, 3, none⟩ = some (.bool g3) := ⟨⟨h.b1.cell 0, h.b1.cell 1, h.b1.cell 2, h.b1.cell 3, h.b1.cell 4⟩, h.b4.cell 0, h.b4.cell 1, h.b4.cell 2, h.b4.cell 3⟩
theorem HsM5.drew {w wr : World} {kd : Int} {h : Hs} (h0 : HsM5 w kd h wr) : HsM5 w kd h wr.drew := ⟨h0.b1.below (Below.refl _ _).drew h0.b1.lt, h0.b4.below (Below.refl _ _).drew h0.b4.lt, h0.b2.below (Below.refl _ _).drew h0.b2.lt, h0.b3.below (Below.refl _ _).drew h0.b3.lt, h0.bl.drew⟩
end Go.Proofs.YtfaknfmndafllaaGreatDoor
