import Derived.Test.YtkkobemhbicjgaaGreatDoorE19
import Derived.Shelf.SlSortCmp.InsertionK
import Derived.Laws.StructEq
set_option maxRecDepth 100000
set_option maxHeartbeats 8000000
namespace Go.Proofs.YtkkobemhbicjgaaGreatDoor
section
open Go.RowKit
def zw (ns : List Nd) (ds : List Dv) (ls : List Lk) (k : Lk) : Int := if zK ns ds ls ≠ 0 then zK ns ds ls else if ya ds k ≠ 0 then ya ds k else if wM ls k.key = true then 4 else if wU ls k = true then 18 else if ls.length = 128 then 1 else 0
def kC (w : World) (ns : List Nd) (ds : List Dv) (ls : List Lk) (k : Lk) (e : Ending) (w' : World) : Prop :=
 (zw ns ds ls k ≠ 0 ∧ e = .returned (.tuple #[.slice none 0 0, .int .i64 (zw ns ds ls k)]) ∨ zw ns ds ls k = 0 ∧ ∃ (A : Option Addr) (c : Nat), e = .returned (.tuple #[.slice A (ls.length + 1) c, .int .i64 0]) ∧ Hid (yD w' w.heap.size A (ls.length + 1) c (wP k ls))) ∧ Hid (Below w.heap.size w w')
theorem ym {ns : List Nd} {ds : List Dv} {ls : List Lk} (h : zK ns ds ls = 0) : xK ds ls := by
 unfold zK at h
 split at h
 ·next hc => exact absurd h hc
 ·split at h
  ·omega
  ·exact iW (by omega) h
theorem ws {w w' : World} (h : w.grownBy w' (Value.slice none 0 0).ownBlock) : Below w.heap.size w w' := ⟨h.os, h.tape, h.output, h.size, fun i hi => h.block i hi (by simp [Value.ownBlock])⟩
theorem xH {W : World} {p : Addr} {v : Value} (o : Obj) (h : W.cell? p = some v) : (W.alloc o).cell? p = some v := (World.cell?_alloc_lt W o p (wK h)).trans h
structure ng (w : World) (N K : Array Value) (wr : World) : Prop where
 bn : Blk wr w.heap.size 30 N
 bk : Blk wr (w.heap.size + 1) 106 K
 bl : Below w.heap.size w wr
theorem ng.later {w wr wr' : World} {N K : Array Value} (h : ng w N K wr) (hb : Below wr.heap.size wr wr') : ng w N K wr' := ⟨h.bn.below hb h.bn.lt, h.bk.below hb h.bk.lt, h.bl.trans (hb.mono h.bl.size)⟩
theorem ng.drew {w wr : World} {N K : Array Value} (h : ng w N K wr) : ng w N K wr.drew := h.later (Below.refl _ _).drew
end
section
open Go.RowKit
theorem rL (An Ad : Option Addr) (nn cn nd cd Bd : Nat) (ds : List Dv) (d p q : Int) (w : World) (hd : Sl w Bd 5 Ad nd cd (ds.flatMap Dv.cells)) (hBd : Bd ≤ w.heap.size) :
 Calls Tryz.prog 132 #[.agg #[.slice An nn cn, .slice Ad nd cd], .agg #[.int .i64 d, .int .i64 p, .int .i64 q]] w fun e w' => e = .returned (.int .i64 (ya ds ⟨d, p, q⟩)) ∧ Below w.heap.size w w' := by
 have HLD := iD (hd.len (fun _ => rfl) (by decide))
 have HE : Hid (ya ds ⟨d, p, q⟩ = if d < 0 then 8 else if (nd : Int) ≤ d then 8 else if qO ds d = 5 then 6 else if p ≠ 1 ∧ p ≠ 2 then 10 else if q < 0 then 5 else if 65536 < q then 5 else 0) := by unfold Hid ya; rw [HLD.out]
 have HB : Hid (Below w.heap.size w ((w.alloc (.cells #[.slice An nn cn, .slice Ad nd cd] 30)).alloc (.cells #[.int .i64 d, .int .i64 p, .int .i64 q] 106))) := ((Below.refl _ _).alloc lR _).alloc (by simp) _
 have HD2 := iD ((hd.alloc hBd (.cells #[.slice An nn cn, .slice Ad nd cd] 30)).alloc (by simp; omega) (.cells #[.int .i64 d, .int .i64 p, .int .i64 q] 106))
 have hdm := hd.le
 clear hd
 by_cases h1 : d < 0
 ·have q1 : decide (d < 0) = true := by simpa using h1
  go_enter Tryz.func132, Tryz.ntmps132
  go_wp2_with fail
  go_ret
  exact ⟨zE (by rw [HE.out, if_pos h1]), HB.out⟩
 have q1 : decide (d < 0) = false := by simpa using h1
 by_cases h2 : (nd : Int) ≤ d
 ·have q2 : decide ((nd : Int) ≤ d) = true := by simpa using h2
  go_enter Tryz.func132, Tryz.ntmps132
  go_wp2_with fail
  go_ret
  exact ⟨zE (by rw [HE.out, if_neg (by omega), if_pos h2]), HB.out⟩
 obtain ⟨i, rfl⟩ := Int.eq_ofNat_of_zero_le (show 0 ≤ d by omega)
 have hin : i < nd := by omega
 have q2 : decide (nd ≤ i) = false := by simp; omega
 obtain ⟨b0, off, x, rfl, hb0, hx, hc⟩ := HD2.out.at (fun _ => rfl) (by decide) hin
 have HX := iD (lO hx)
 obtain ⟨nm, kd, xa, xb, co⟩ := x
 have c1 := hc 1 _ rfl
 clear hc hx
 by_cases h3 : kd = 5
 ·subst h3
  go_enter Tryz.func132, Tryz.ntmps132
  go_wp2_with fail
  go_ret
  exact ⟨zE (by rw [HE.out, if_neg (by omega), if_neg (by omega), HX.out, if_pos rfl]), HB.out⟩
 have q3 : (kd == 5) = false := by simpa using h3
 have HR : Hid (ya ds ⟨(i : Int), p, q⟩ = if p ≠ 1 ∧ p ≠ 2 then 10 else if q < 0 then 5 else if 65536 < q then 5 else 0) := by unfold Hid; rw [HE.out, if_neg (by omega), if_neg (by omega), HX.out, if_neg h3]
 clear h1 h2 h3 HE HX
 by_cases h4 : p = 1 ∨ p = 2
 ·have HR2 : Hid (ya ds ⟨(i : Int), p, q⟩ = if q < 0 then 5 else if 65536 < q then 5 else 0) := by unfold Hid; rw [HR.out, if_neg (by omega)]
  clear HR
  by_cases h5 : q < 0
  ·have q5 : decide (q < 0) = true := by simpa using h5
   rcases h4 with rfl | rfl
   all_goals
    go_enter Tryz.func132, Tryz.ntmps132
    go_wp2_with fail
    go_ret
    exact ⟨zE (by rw [HR2.out, if_pos h5]), HB.out⟩
  have q5 : decide (q < 0) = false := by simpa using h5
  by_cases h6 : 65536 < q
  ·have q6 : decide (65536 < q) = true := by simpa using h6
   rcases h4 with rfl | rfl
   all_goals
    go_enter Tryz.func132, Tryz.ntmps132
    go_wp2_with fail
    go_ret
    exact ⟨zE (by rw [HR2.out, if_neg (by omega), if_pos h6]), HB.out⟩
  have q6 : decide (65536 < q) = false := by simpa using h6
  rcases h4 with rfl | rfl
  all_goals
   go_enter Tryz.func132, Tryz.ntmps132
   go_wp2_with fail
   go_ret
   exact ⟨zE (by rw [HR2.out, if_neg (by omega), if_neg (by omega)]), HB.out⟩
 ·have p1 : (p != 1) = true := by simp; omega
  have p2 : (p != 2) = true := by simp; omega
  go_enter Tryz.func132, Tryz.ntmps132
  go_wp2_with fail
  go_ret
  exact ⟨zE (by rw [HR.out, if_pos (by omega)]), HB.out⟩
def PlR (w : World) (ls : List Lk) (d : Int) (n gk : Nat) (iv : Value) (wr : World) : Prop := ∃ i : Nat, iv = .int .i64 i ∧ i ≤ n ∧ gk = n - i ∧ Hid (∀ x ∈ ls.take i, x.dev ≠ d) ∧ Hid (Below w.heap.size w wr)
theorem nF (A : Option Addr) (n c B : Nat) (ls : List Lk) (d : Int) (w : World) (hs : Sl w B 3 A n c (ls.flatMap Lk.cells)) (hB : B ≤ w.heap.size) :
 Calls Tryz.prog 159 #[.slice A n c, .int .i64 d] w fun e w' => e = iQ ls d ∧ Below w.heap.size w w' := by
 have HLN := iD (hs.len (fun _ => rfl) (by decide)); have HS := iD hs
 have hle := hs.le
 clear hs
 go_enter Tryz.func159, Tryz.ntmps159
 go_wp2_with fail
 go_loopg [10] n (PlR w ls d n)
 case atStart => exact ⟨0, rfl, Nat.zero_le _, rfl, (fun x hx => by simp at hx), Below.refl _ _⟩
 case round =>
  obtain ⟨i, rfl, hi, rfl, hno, hbl⟩ := hrel
  by_cases hlt : i < n
  ·obtain ⟨b, off, d1, p1, q1, rfl, hb, hx, c0, c1, c2⟩ := (HS.out.below hbl.out hB).lock hlt
   have HX := iD hx
   have HB2 : Hid (Below w.heap.size w (wr.alloc (.cells #[.int .i64 d1, .int .i64 p1, .int .i64 q1] 106))) := hbl.out.alloc hbl.out.size _
   clear hx
   by_cases hd : d1 = d
   ·subst hd
    have HR : Hid (vE ls d1 = some p1) := iP hno.out HX.out rfl
    have qq : (d1 == d1) = true := by simp
    go_wp2_with fail
    go_ret2
    exact ⟨by unfold iQ; rw [HR.out]; rfl, HB2.out⟩
   ·have qq : (d1 == d) = false := by simpa using hd
    have HN : Hid (∀ x ∈ ls.take (i + 1), x.dev ≠ d) := fun x hx => by
     rw [zQ HX.out] at hx
     rcases List.mem_append.1 hx with h | h
     ·exact hno.out x h
     ·rw [List.mem_singleton.1 h]; exact hd
    clear hd
    go_wp2_with fail
    go_roundg (n - (i + 1))
    case rel => exact ⟨i + 1, by go_num, by omega, rfl, HN, HB2⟩
    case measure => omega
  ·obtain rfl : i = n := by omega
   have hii : decide (i < i) = false := by simp
   have HR : Hid (vE ls d = none) := by
    have := hno.out
    rw [List.take_of_length_le (by rw [HLN.out]; exact Nat.le_refl _)] at this
    exact sP.2 this
   go_wp2_with fail
   go_ret2
   exact ⟨by unfold iQ; rw [HR.out]; rfl, hbl.out⟩
theorem tw (A : Option Addr) (n c B : Nat) (ls : List Lk) (q : Int) (w : World) (hs : Sl w B 3 A n c (ls.flatMap Lk.cells)) (hB : B ≤ w.heap.size) :
 Calls Tryz.prog 135 #[.slice A n c, .int .i64 q] w fun e w' => e = .returned (.bool (wM ls q)) ∧ Below w.heap.size w w' := by
 have HP : Hid (oH 166 #[.pointer (some ⟨w.heap.size, 0, none⟩)] (fun x => decide (x.key = q)) (w.alloc (.cells #[.int .i64 q] 3))) := by
  intro W d p q1 hb
  have hc : W.cell? ⟨w.heap.size, 0, none⟩ = some (.int .i64 q) := (hb.cell (p := ⟨w.heap.size, 0, none⟩) (by simp)).trans (by simp)
  have hBW : w.heap.size < W.heap.size := Nat.lt_of_lt_of_le (by simp) hb.size
  have hne : w.heap.size ≠ W.heap.size := by omega
  show Calls Tryz.prog 166 #[.agg #[.int .i64 d, .int .i64 p, .int .i64 q1], .pointer (some ⟨w.heap.size, 0, none⟩)] W _
  go_enter Tryz.func166, Tryz.ntmps166
  go_wp2_with fail
  go_ret
  exact ⟨zG (by by_cases h : q1 = q <;> simp [h]), hb.alloc hb.size _⟩
 have HI := iD (tD 166 #[.pointer (some ⟨w.heap.size, 0, none⟩)] (fun x => decide (x.key = q)) (enters_of Tryz.func166 (by kernel_rfl) rfl) A n c B ls _ (hs.alloc hB _) (by simp; omega) HP.out)
 have HB : Hid (Below w.heap.size w (w.alloc (.cells #[.int .i64 q] 3))) := (Below.refl _ _).alloc lR _
 clear hs HP
 go_enter Tryz.func135, Tryz.ntmps135
 go_wp2_with fail
 refine HI.out.mono ?_
 rintro e w1 ⟨rfl, hb⟩
 have HB2 := iD (HB.out.trans (hb.mono (by simp)))
 clear hb
 go_wp2_with fail
 go_ret
 exact ⟨rfl, HB2.out⟩
theorem uy (A : Option Addr) (n c B : Nat) (ls : List Lk) (d p q : Int) (w : World) (hs : Sl w B 3 A n c (ls.flatMap Lk.cells)) (hB : B ≤ w.heap.size) :
 Calls Tryz.prog 134 #[.slice A n c, .agg #[.int .i64 d, .int .i64 p, .int .i64 q]] w fun e w' => e = .returned (.bool (wU ls ⟨d, p, q⟩)) ∧ Below w.heap.size w w' := by
 have HP : Hid (oH 165 #[.pointer (some ⟨w.heap.size, 0, none⟩)] (ou ⟨d, p, q⟩) (w.alloc (.cells #[.int .i64 d, .int .i64 p, .int .i64 q] 106))) := by
  intro W d1 p1 q1 hb
  have hc0 : W.cell? ⟨w.heap.size, 0, none⟩ = some (.int .i64 d) := (hb.cell (p := ⟨w.heap.size, 0, none⟩) (by simp)).trans (by simp)
  have hc1 : W.cell? ⟨w.heap.size, 1, none⟩ = some (.int .i64 p) := (hb.cell (p := ⟨w.heap.size, 1, none⟩) (by simp)).trans (by simp)
  have hBW : w.heap.size < W.heap.size := Nat.lt_of_lt_of_le (by simp) hb.size
  have hne : w.heap.size ≠ W.heap.size := by omega
  have HBW : Hid (Below (w.alloc (.cells #[.int .i64 d, .int .i64 p, .int .i64 q] 106)).heap.size (w.alloc (.cells #[.int .i64 d, .int .i64 p, .int .i64 q] 106)) (W.alloc (.cells #[.int .i64 d1, .int .i64 p1, .int .i64 q1] 106))) := hb.alloc hb.size _
  clear hb
  show Calls Tryz.prog 165 #[.agg #[.int .i64 d1, .int .i64 p1, .int .i64 q1], .pointer (some ⟨w.heap.size, 0, none⟩)] W _
  by_cases h : d1 = d
  ·subst h
   have qd : (d1 == d1) = true := by simp
   go_enter Tryz.func165, Tryz.ntmps165
   go_wp2_with fail
   go_ret
   exact ⟨zG (by by_cases h : p1 = p <;> simp [h, ou]), HBW.out⟩
  ·have qd : (d1 == d) = false := by simpa using h
   have HR : Hid (ou ⟨d, p, q⟩ ⟨d1, p1, q1⟩ = false) := by unfold Hid; simp [ou, h]
   go_enter Tryz.func165, Tryz.ntmps165
   go_wp2_with fail
   go_ret
   exact ⟨zG HR.out.symm, HBW.out⟩
 have HI := iD (tD 165 #[.pointer (some ⟨w.heap.size, 0, none⟩)] (ou ⟨d, p, q⟩) (enters_of Tryz.func165 (by kernel_rfl) rfl) A n c B ls _ (hs.alloc hB _) (by simp; omega) HP.out)
 have HB : Hid (Below w.heap.size w (w.alloc (.cells #[.int .i64 d, .int .i64 p, .int .i64 q] 106))) := (Below.refl _ _).alloc lR _
 clear hs HP
 go_enter Tryz.func134, Tryz.ntmps134
 go_wp2_with fail
 refine HI.out.mono ?_
 rintro e w1 ⟨rfl, hb⟩
 have HB2 := iD (HB.out.trans (hb.mono (by simp)))
 clear hb
 go_wp2_with fail
 go_ret
 exact ⟨rfl, HB2.out⟩
end
section
open Go.RowKit
open Go.Sort (grow alloc_eq_grow)
theorem xd {W : World} {p : Addr} {v : Value} (o : Obj) (h : W.cell? p = some v) : (W.alloc o).cell? p = some v := (World.cell?_alloc_lt W o p (wK h)).trans h
theorem nJ (w : World) (a b c : Obj) : ∃ n os, ((w.alloc a).alloc b).drew.alloc c = grow (w.drewN n) os := ⟨1, #[a] ++ #[b] ++ #[c], by
 rw [alloc_eq_grow w a, alloc_eq_grow _ b, Go.Sort.grow_grow]
 show (grow w.drew (#[a] ++ #[b])).alloc c = _
 rw [alloc_eq_grow, Go.Sort.grow_grow]; rfl⟩
def uk (a b : Int) : Int := if a < b then -1 else if b < a then 1 else 0
def orI (x y : Int) : Int := if x ≠ 0 then x else y
def qJ (a b : Lk) : Int := orI (uk a.dev b.dev) (uk a.key b.key)
theorem sJ (a b : Lk) : qJ a b < 0 ↔ yC a b = true := by
 rw [um]; unfold qJ orI uk
 split <;> split <;> (try split) <;> omega
theorem vh (x : Int) (w : World) : Calls Tryz.prog 182 #[.int .i64 x] w fun e w' => e = .returned (.bool false) ∧ w = w' := by
 have q : (x != x) = false := by simp
 go_enter Tryz.func182, Tryz.ntmps182
 go_wp2_with fail
 go_ret
 exact ⟨rfl, rfl⟩
theorem mU (x y : Int) (w : World) : Calls Tryz.prog 164 #[.int .i64 x, .int .i64 y] w fun e w' => e = .returned (.int .i64 (uk x y)) ∧ w = w' := by
 by_cases h1 : x < y
 ·have q1 : decide (x < y) = true := by simpa using h1
  have HR : Hid (uk x y = -1) := by unfold Hid uk; rw [if_pos h1]
  go_enter Tryz.func164, Tryz.ntmps164
  go_wp2_with fail
  refine (vh x w).mono ?_
  rintro e w1 ⟨rfl, rfl⟩
  go_wp2_with fail
  refine (vh y _).mono ?_
  rintro e w1 ⟨rfl, rfl⟩
  go_wp2_with fail
  go_ret
  exact ⟨zE HR.out.symm, rfl⟩
 have q1 : decide (x < y) = false := by simpa using h1
 by_cases h2 : y < x
 ·have q2 : decide (y < x) = true := by simpa using h2
  have HR : Hid (uk x y = 1) := by unfold Hid uk; rw [if_neg h1, if_pos h2]
  go_enter Tryz.func164, Tryz.ntmps164
  go_wp2_with fail
  refine (vh x w).mono ?_
  rintro e w1 ⟨rfl, rfl⟩
  go_wp2_with fail
  refine (vh y _).mono ?_
  rintro e w1 ⟨rfl, rfl⟩
  go_wp2_with fail
  go_ret
  exact ⟨zE HR.out.symm, rfl⟩
 have q2 : decide (y < x) = false := by simpa using h2
 have HR : Hid (uk x y = 0) := by unfold Hid uk; rw [if_neg h1, if_neg h2]
 go_enter Tryz.func164, Tryz.ntmps164
 go_wp2_with fail
 refine (vh x w).mono ?_
 rintro e w1 ⟨rfl, rfl⟩
 go_wp2_with fail
 refine (vh y _).mono ?_
 rintro e w1 ⟨rfl, rfl⟩
 go_wp2_with fail
 go_ret
 exact ⟨zE HR.out.symm, rfl⟩
theorem gU (b : Nat) (x y : Int) (w : World) (h0 : w.cell? ⟨b, 0, none⟩ = some (.int .i64 x)) (h1 : w.cell? ⟨b, 1, none⟩ = some (.int .i64 y)) :
 Calls Tryz.prog 163 #[.slice (some ⟨b, 0, none⟩) 2 2] w fun e w' => e = .returned (.int .i64 (orI x y)) ∧ w = w' := by
 by_cases hx : x = 0
 ·subst hx
  have e1 : ((0 : Int) != 0) = false := by decide
  by_cases hy : y = 0
  ·subst hy
   go_enter Tryz.func163, Tryz.ntmps163
   go_wp2_with fail
   refine wp_loop_rounds 3 ?_
   rw [rounds_succ]
   go_wp2_with fail
   rw [rounds_succ]
   go_wp2_with fail
   rw [rounds_succ]
   go_wp2_with fail
   go_ret
   exact ⟨zE (by unfold orI; rw [if_neg (by simp)]), rfl⟩
  ·have e2 : (y != 0) = true := by simpa using hy
   go_enter Tryz.func163, Tryz.ntmps163
   go_wp2_with fail
   refine wp_loop_rounds 3 ?_
   rw [rounds_succ]
   go_wp2_with fail
   rw [rounds_succ]
   go_wp2_with fail
   go_ret
   exact ⟨zE (by unfold orI; rw [if_neg (by simp)]), rfl⟩
 ·have e1 : (x != 0) = true := by simpa using hx
  have HX := iD hx
  clear hx
  go_enter Tryz.func163, Tryz.ntmps163
  go_wp2_with fail
  refine wp_loop_rounds 3 ?_
  rw [rounds_succ]
  go_wp2_with fail
  go_ret
  exact ⟨zE (by unfold orI; rw [if_pos HX.out]), rfl⟩
theorem rT (a b : Lk) (w : World) : Calls Tryz.prog 133 #[.agg #[.int .i64 a.dev, .int .i64 a.pos, .int .i64 a.key], .agg #[.int .i64 b.dev, .int .i64 b.pos, .int .i64 b.key]] w fun e w' => e = .returned (.int .i64 (qJ a b)) ∧ ∃ q os, w' = grow (w.drewN q) os := by
 obtain ⟨d, p, q⟩ := a
 obtain ⟨d2, p2, q2⟩ := b
 have HC1 := iD (fun W => mU d d2 W)
 have HC2 := iD (fun W => mU q q2 W)
 have HR : Hid (qJ ⟨d, p, q⟩ ⟨d2, p2, q2⟩ = orI (uk d d2) (uk q q2)) := rfl
 generalize uk d d2 = r1 at *
 generalize uk q q2 = r2 at *
 have HCS : Hid ((((w.alloc (.cells #[.int .i64 d, .int .i64 p, .int .i64 q] 106)).alloc (.cells #[.int .i64 d2, .int .i64 p2, .int .i64 q2] 106)).cell? ⟨w.heap.size, 0, none⟩ = some (.int .i64 d)) ∧ (((w.alloc (.cells #[.int .i64 d, .int .i64 p, .int .i64 q] 106)).alloc (.cells #[.int .i64 d2, .int .i64 p2, .int .i64 q2] 106)).cell? ⟨w.heap.size, 2, none⟩ = some (.int .i64 q)) ∧ (((w.alloc (.cells #[.int .i64 d, .int .i64 p, .int .i64 q] 106)).alloc (.cells #[.int .i64 d2, .int .i64 p2, .int .i64 q2] 106)).cell? ⟨w.heap.size + 1, 0, none⟩ = some (.int .i64 d2)) ∧ (((w.alloc (.cells #[.int .i64 d, .int .i64 p, .int .i64 q] 106)).alloc (.cells #[.int .i64 d2, .int .i64 p2, .int .i64 q2] 106)).cell? ⟨w.heap.size + 1, 2, none⟩ = some (.int .i64 q2))) := by
  have b1 : Blk ((w.alloc (.cells #[.int .i64 d, .int .i64 p, .int .i64 q] 106)).alloc (.cells #[.int .i64 d2, .int .i64 p2, .int .i64 q2] 106)) w.heap.size 106 #[.int .i64 d, .int .i64 p, .int .i64 q] := (Blk.new _ _ _).alloc _
  have b2 : Blk ((w.alloc (.cells #[.int .i64 d, .int .i64 p, .int .i64 q] 106)).alloc (.cells #[.int .i64 d2, .int .i64 p2, .int .i64 q2] 106)) (w.heap.size + 1) 106 #[.int .i64 d2, .int .i64 p2, .int .i64 q2] := by have := Blk.new (w.alloc (.cells #[.int .i64 d, .int .i64 p, .int .i64 q] 106)) 106 #[.int .i64 d2, .int .i64 p2, .int .i64 q2]; simpa using this
  exact ⟨b1.cell 0, b1.cell 2, b2.cell 0, b2.cell 2⟩
 have HEND : Hid (∀ o, ∃ nq os, ((w.alloc (.cells #[.int .i64 d, .int .i64 p, .int .i64 q] 106)).alloc (.cells #[.int .i64 d2, .int .i64 p2, .int .i64 q2] 106)).drew.alloc o = grow (w.drewN nq) os) := fun o => nJ w _ _ o
 go_enter Tryz.func133, Tryz.ntmps133
 go_upto_region 1 with (fail)
 generalize World.alloc (World.alloc _ _) _ = W at *
 refine zC (S := fun W' => W'.cell? ⟨w.heap.size, 0, none⟩ = some (.int .i64 d) ∧ W'.cell? ⟨w.heap.size, 2, none⟩ = some (.int .i64 q) ∧ W'.cell? ⟨w.heap.size + 1, 0, none⟩ = some (.int .i64 d2) ∧ W'.cell? ⟨w.heap.size + 1, 2, none⟩ = some (.int .i64 q2)) (J := []) (by kernel_rfl) ?_ (fun AA => ?_)
 ·exact HCS.out
 try dsimp only at AA
 refine tk 0 5 (mf 13 1) AA ?_
 refine tk 1 6 (mf 13 2) AA ?_
 refine tk 2 7 (mf 13 3) AA ?_
 refine tk 3 8 (mf 13 4) AA ?_
 refine tk 5 10 (ma 13 47) AA ?_
 refine tk 6 11 (ma 13 111) AA ?_
 refine tk 7 12 (ma 13 239) AA ?_
 refine tk 8 13 (ma 13 495) AA ?_
 refine tb 4 (mf 13 9) fun K hK => ?_
 (go_simp; refine (HC1.out _).mono ?_; rintro e w1 ⟨rfl, rfl⟩; go_simp)
 refine hK.out _ _ (fun _ => ?_) (fun AA' => ?_)
 ·exact HCS.out
 replace AA := AA' rfl
 clear AA' hK K
 try dsimp only at AA
 refine tb 9 (mf 13 10) fun K hK => ?_
 (go_simp; refine (HC2.out _).mono ?_; rintro e w1 ⟨rfl, rfl⟩; go_simp)
 refine hK.out _ _ (fun _ => ?_) (fun AA' => ?_)
 ·exact HCS.out
 replace AA := AA' rfl
 clear AA' hK K
 try dsimp only at AA
 refine tb 10 (mf 13 11) fun K hK => ?_
 go_simp
 refine hK.out _ _ (fun _ => ?_) (fun AA' => ?_)
 ·exact ⟨xd _ HCS.out.1, xd _ HCS.out.2.1, xd _ HCS.out.2.2.1, xd _ HCS.out.2.2.2⟩
 replace AA := AA' rfl
 clear AA' hK K
 try dsimp only at AA
 refine tb 11 (mf 13 12) fun K hK => ?_
 (go_simp; refine (gU W.heap.size r1 r2 _ (by simp) (by simp)).mono ?_; rintro e w1 ⟨rfl, rfl⟩; go_simp)
 refine hK.out _ _ (fun _ => ?_) (fun AA' => ?_)
 ·exact ⟨xd _ HCS.out.1, xd _ HCS.out.2.1, xd _ HCS.out.2.2.1, xd _ HCS.out.2.2.2⟩
 replace AA := AA' rfl
 clear AA' hK K
 try dsimp only at AA
 refine tk 12 4 (mf 13 13) AA ?_
 refine zA (by kernel_rfl) ?_ _
 go_wp2_with fail
 go_ret
 exact ⟨zE HR.out.symm, HEND.out _⟩
end
section
open Go.RowKit
theorem zm {w w' : World} (h : ∃ q os, w' = Go.Sort.grow (w.drewN q) os) : Below w.heap.size w w' := by
 obtain ⟨q, os, rfl⟩ := h
 exact ⟨rfl, rfl, rfl, by simp [Go.Sort.grow, World.drewN], fun i hi => by simp only [Go.Sort.grow, World.drewN]; rw [Array.getElem?_append_left hi]⟩
structure rJ (w : World) (N : Array Value) (wr : World) : Prop where
 bn : Blk wr w.heap.size 30 N
 bl : Below w.heap.size w wr
theorem rJ.later {w wr wr' : World} {N : Array Value} (h : rJ w N wr) (hb : Below wr.heap.size wr wr') : rJ w N wr' := ⟨h.bn.below hb h.bn.lt, h.bl.trans (hb.mono h.bl.size)⟩
theorem rJ.drew {w wr : World} {N : Array Value} (h : rJ w N wr) : rJ w N wr.drew := h.later (Below.refl _ _).drew
def PcR (w : World) (N : Array Value) (ds : List Dv) (ls : List Lk) (n gk : Nat) (iv : Value) (wr : World) : Prop := ∃ i : Nat, iv = .int .i64 i ∧ i ≤ n ∧ gk = n - i ∧ Hid (yV ds ls i = 0) ∧ Hid (rJ w N wr)
theorem uJ (An Ad Al : Option Addr) (nn cn nd cd n c Bn Bd Bl : Nat) (ns : List Nd) (ds : List Dv) (ls : List Lk) (w : World) (hl : Laid w) (hn : Sl w Bn 3 An nn cn (ns.flatMap Nd.cells)) (hd : Sl w Bd 5 Ad nd cd (ds.flatMap Dv.cells)) (hs : Sl w Bl 3 Al n c (ls.flatMap Lk.cells)) (hBn : Bn ≤ w.heap.size) (hBd : Bd ≤ w.heap.size) (hBl : Bl ≤ w.heap.size)
 (hsn : ∀ x ∈ ns, x.name.size ≤ 9223372036854775807) (hsd : ∀ x ∈ ds, x.name.size ≤ 9223372036854775807) :
 Calls Tryz.prog 107 #[.agg #[.slice An nn cn, .slice Ad nd cd], .slice Al n c] w fun e w' => e = .returned (.int .i64 (zK ns ds ls)) ∧ Below w.heap.size w w' := by
 have hle := hs.le
 have hll := hs.len (fun _ => rfl) (by decide)
 have HNL := iD hll
 have HE : Hid (zK ns ds ls = if za ns ds ≠ 0 then za ns ds else if 128 < n then 1 else yV ds ls n) := by unfold Hid zK; rw [hll]
 have HST : Hid (rJ w #[.slice An nn cn, .slice Ad nd cd] (w.alloc (.cells #[.slice An nn cn, .slice Ad nd cd] 30))) := ⟨Blk.new _ _ _, (Below.refl _ _).alloc lR _⟩
 have HCK := iD (wl An Ad nn cn nd cd Bn Bd ns ds (w.alloc (.cells #[.slice An nn cn, .slice Ad nd cd] 30)) (hl.alloc _) (hn.below HST.out.bl hBn) (hd.below HST.out.bl hBd) (by simp; omega) (by simp; omega) hsn hsd)
 have HD := iD hd; have HS := iD hs
 clear hn hd hs hsn hsd hl hll
 go_enter Tryz.func107, Tryz.ntmps107
 go_wp2_with fail
 generalize World.alloc _ _ = W at *
 refine HCK.out.mono ?_
 rintro e w1 ⟨rfl, hb1⟩
 have HS1 := iD (HST.out.later hb1)
 clear hb1 HST HCK
 by_cases h0 : za ns ds = 0; rotate_left
 ·have q0 : (za ns ds != 0) = true := by simpa using h0
  have HR : Hid (zK ns ds ls = za ns ds) := by unfold Hid; rw [HE.out, if_pos h0]
  clear h0
  go_wp2_with fail
  go_ret
  exact ⟨zE HR.out.symm, HS1.out.bl⟩
 rw [h0]
 replace HE : Hid (zK ns ds ls = if 128 < n then 1 else yV ds ls n) := by unfold Hid; rw [HE.out, if_neg (by simp [h0])]
 clear h0
 by_cases h1 : 128 < n
 ·have q0 : decide ((128 : Int) < (n : Int)) = true := by simp; omega
  have q1 : decide (128 < n) = true := by simpa using h1
  have HR : Hid (zK ns ds ls = 1) := by unfold Hid; rw [HE.out, if_pos h1]
  clear h1
  go_wp2_with fail
  go_ret
  exact ⟨zE HR.out.symm, HS1.out.bl⟩
 have q0 : decide ((128 : Int) < (n : Int)) = false := by simp; omega
 have q1 : decide (128 < n) = false := by simpa using h1
 replace HE : Hid (zK ns ds ls = yV ds ls n) := by unfold Hid; rw [HE.out, if_neg h1]
 clear h1
 go_wp2_with fail
 clear q0 q1
 go_loopg [19] n (PcR w #[.slice An nn cn, .slice Ad nd cd] ds ls n)
 case atStart => exact ⟨0, rfl, Nat.zero_le _, rfl, rfl, HS1⟩
 case round =>
  clear HS1
  obtain ⟨i, rfl, hi, rfl, hfe, hst⟩ := hrel
  by_cases hlt : i < n
  ·obtain ⟨b, off, d, p, q, rfl, hb, hx, c0, c1, c2⟩ := (HS.out.below hst.out.bl hBl).lock hlt
   have HX := iD hx
   have HSTOP : Hid (∀ e, xx ds ls i = e → e ≠ 0 → zK ns ds ls = e) := fun e he h => by rw [HE.out]; exact tU hfe.out he h n hlt
   have HNEXT : Hid (xx ds ls i = 0 → yV ds ls (i + 1) = 0) := fun he => pl hfe.out he
   have HEA : Hid (xx ds ls i = if ya ds ⟨d, p, q⟩ ≠ 0 then ya ds ⟨d, p, q⟩ else if xP ls i ⟨d, p, q⟩ = true then 14 else if wU (ls.take i) ⟨d, p, q⟩ = true then 18 else if wM (ls.take i) q = true then 4 else 0) := by unfold Hid xx; rw [hx]
   have HS2 : Hid (rJ w #[.slice An nn cn, .slice Ad nd cd] (wr.alloc (.cells #[.int .i64 d, .int .i64 p, .int .i64 q] 106))) := hst.out.later ((Below.refl _ _).alloc lR _)
   have HK2 : Hid (Blk (wr.alloc (.cells #[.int .i64 d, .int .i64 p, .int .i64 q] 106)) wr.heap.size 106 #[.int .i64 d, .int .i64 p, .int .i64 q]) := Blk.new _ _ _
   have hzk := hst.out.bl.size
   have HBX : Hid (Below w.heap.size w wr) := hst.out.bl
   clear hx hfe hst
   go_upto_region 9 with (fail)
   clear c0 c1 c2
   generalize hW2 : World.alloc wr _ = W2 at *
   have hz2 : W2.heap.size = wr.heap.size + 1 := by rw [← hW2]; simp
   have HSL2 := iD (HS.out.below HS2.out.bl hBl)
   have HDL2 := iD (HD.out.below HS2.out.bl hBd)
   clear hW2
   have k0 := HS2.out.bn.c0
   have k1 := HS2.out.bn.c1
   have m0 := HK2.out.c0
   have m1 := HK2.out.c1
   have m2 := HK2.out.c2
   go_wp2_with fail
   clear k0 k1 m0 m1 m2
   refine (rL An Ad nn cn nd cd Bd ds d p q W2 HDL2.out (by omega)).mono ?_
   rintro e w3 ⟨rfl, hb3⟩
   have HS3 := iD (HS2.out.later hb3)
   have HK3 := iD (HK2.out.below hb3 HK2.out.lt)
   have hz3 := hb3.size
   clear HS2 HK2 HSL2 HDL2 hb3
   by_cases hv : ya ds ⟨d, p, q⟩ = 0; rotate_left
   ·have qv : (ya ds ⟨d, p, q⟩ != 0) = true := by simpa using hv
    have HR : Hid (zK ns ds ls = ya ds ⟨d, p, q⟩) := HSTOP.out _ (by rw [HEA.out, if_pos hv]) hv
    clear hv
    go_wp2_with fail
    go_ret
    exact ⟨zE HR.out.symm, HS3.out.bl⟩
   rw [hv]
   replace HEA : Hid (xx ds ls i = if xP ls i ⟨d, p, q⟩ = true then 14 else if wU (ls.take i) ⟨d, p, q⟩ = true then 18 else if wM (ls.take i) q = true then 4 else 0) := by unfold Hid; rw [HEA.out, if_neg (by simp [hv])]
   clear hv
   by_cases hi0 : 0 < i
   ·obtain ⟨b1, off1, d1, p1, q1, hA1, _, hx1, g0, g1, g2⟩ := (HS.out.below HS3.out.bl hBl).lock (i := i - 1) (by omega)
    injection hA1 with hA1; injection hA1 with h1 h2; subst h1 h2
    have HOB := iD (lI (k := ⟨d, p, q⟩) hi0 hx1)
    have HCS : Hid (w3.cell? ⟨b, off + (i - 1) * 3, none⟩ = some (.int .i64 d1) ∧ w3.cell? ⟨b, off + (i - 1) * 3 + 1, none⟩ = some (.int .i64 p1) ∧ w3.cell? ⟨b, off + (i - 1) * 3 + 2, none⟩ = some (.int .i64 q1) ∧ w3.cell? ⟨wr.heap.size, 0, none⟩ = some (.int .i64 d) ∧ w3.cell? ⟨wr.heap.size, 1, none⟩ = some (.int .i64 p) ∧ w3.cell? ⟨wr.heap.size, 2, none⟩ = some (.int .i64 q)) := ⟨g0, g1, g2, HK3.out.cell 0, HK3.out.cell 1, HK3.out.cell 2⟩
    clear g0 g1 g2 hx1
    obtain ⟨i1, hi1⟩ : ∃ i1, i1 = i - 1 := ⟨_, rfl⟩
    rw [← hi1] at HCS
    have e1 : IntKind.i64.wrap ((i : Int) - 1) = (i1 : Int) := by rw [IntWalk.i64_in _ (by omega)]; omega
    have hi1n : i1 < n := by omega
    have qi : decide ((0 : Int) < (i : Int)) = true := by simp; omega
    clear hi1
    have HBE := iD (rT ⟨d1, p1, q1⟩ ⟨d, p, q⟩ w3.drew)
    have HLT := iD (sJ ⟨d1, p1, q1⟩ ⟨d, p, q⟩)
    generalize qJ ⟨d1, p1, q1⟩ ⟨d, p, q⟩ = r at *
    rcases hbb : yC ⟨d1, p1, q1⟩ ⟨d, p, q⟩ with _ | _
    ·rw [hbb] at HOB HLT
     have qr : decide (0 ≤ r) = true := by have := HLT.out; simp at this ⊢; omega
     have HR : Hid (zK ns ds ls = 14) := HSTOP.out _ (by rw [HEA.out, if_pos (by rw [HOB.out]; rfl)]) (by decide)
     clear hbb
     go_upto_region 12 with (fail)
     refine zC (S := fun W' => W'.cell? ⟨b, off + i1 * 3, none⟩ = some (.int .i64 d1) ∧ W'.cell? ⟨b, off + i1 * 3 + 1, none⟩ = some (.int .i64 p1) ∧ W'.cell? ⟨b, off + i1 * 3 + 2, none⟩ = some (.int .i64 q1) ∧ W'.cell? ⟨wr.heap.size, 0, none⟩ = some (.int .i64 d) ∧ W'.cell? ⟨wr.heap.size, 1, none⟩ = some (.int .i64 p) ∧ W'.cell? ⟨wr.heap.size, 2, none⟩ = some (.int .i64 q)) (J := []) (by kernel_rfl) ?_ (fun AA => ?_)
     ·exact HCS.out
     try dsimp only at AA
     refine tk 0 32 (mf 13 1) AA ?_
     refine tk 1 33 (mf 13 2) AA ?_
     refine tk 2 34 (mf 13 3) AA ?_
     refine tk 3 35 (mf 13 4) AA ?_
     refine tk 4 36 (mf 13 5) AA ?_
     refine tk 5 37 (mf 13 6) AA ?_
     refine tk 6 38 (mf 13 7) AA ?_
     refine tk 7 39 (mf 13 8) AA ?_
     refine tk 8 40 (mf 13 9) AA ?_
     refine tb 9 (mf 13 10) fun K hK => ?_
     (go_simp; refine HBE.out.mono ?_; rintro e w4 ⟨rfl, hb4⟩; go_simp)
     refine hK.out _ _ (fun _ => ?_) (fun AA' => ?_)
     ·exact ⟨zJ (zm hb4) HCS.out.1, zJ (zm hb4) HCS.out.2.1, zJ (zm hb4) HCS.out.2.2.1, zJ (zm hb4) HCS.out.2.2.2.1, zJ (zm hb4) HCS.out.2.2.2.2.1, zJ (zm hb4) HCS.out.2.2.2.2.2⟩
     replace AA := AA' rfl
     clear AA' hK K
     try dsimp only at AA
     refine tk 10 42 (mf 13 11) AA ?_
     refine tk 11 43 (mf 13 12) AA ?_
     refine tk 12 31 (mf 13 13) AA ?_
     refine zA (by kernel_rfl) ?_ _
     have HS4 := iD (HS3.out.drew.later (zm hb4))
     clear AA hb4
     go_wp2_with fail
     go_ret
     exact ⟨zE HR.out.symm, HS4.out.bl⟩
    ·rw [hbb] at HOB HLT
     have qr : decide (0 ≤ r) = false := by have := HLT.out; simp at this ⊢; omega
     replace HOB : Hid (xP ls i ⟨d, p, q⟩ = false) := by unfold Hid; rw [HOB.out]; rfl
     clear hbb
     go_upto_region 12 with (fail)
     refine zC (S := fun W' => W'.cell? ⟨b, off + i1 * 3, none⟩ = some (.int .i64 d1) ∧ W'.cell? ⟨b, off + i1 * 3 + 1, none⟩ = some (.int .i64 p1) ∧ W'.cell? ⟨b, off + i1 * 3 + 2, none⟩ = some (.int .i64 q1) ∧ W'.cell? ⟨wr.heap.size, 0, none⟩ = some (.int .i64 d) ∧ W'.cell? ⟨wr.heap.size, 1, none⟩ = some (.int .i64 p) ∧ W'.cell? ⟨wr.heap.size, 2, none⟩ = some (.int .i64 q)) (J := []) (by kernel_rfl) ?_ (fun AA => ?_)
     ·exact HCS.out
     try dsimp only at AA
     refine tk 0 32 (mf 13 1) AA ?_
     refine tk 1 33 (mf 13 2) AA ?_
     refine tk 2 34 (mf 13 3) AA ?_
     refine tk 3 35 (mf 13 4) AA ?_
     refine tk 4 36 (mf 13 5) AA ?_
     refine tk 5 37 (mf 13 6) AA ?_
     refine tk 6 38 (mf 13 7) AA ?_
     refine tk 7 39 (mf 13 8) AA ?_
     refine tk 8 40 (mf 13 9) AA ?_
     refine tb 9 (mf 13 10) fun K hK => ?_
     (go_simp; refine HBE.out.mono ?_; rintro e w4 ⟨rfl, hb4⟩; go_simp)
     refine hK.out _ _ (fun _ => ?_) (fun AA' => ?_)
     ·exact ⟨zJ (zm hb4) HCS.out.1, zJ (zm hb4) HCS.out.2.1, zJ (zm hb4) HCS.out.2.2.1, zJ (zm hb4) HCS.out.2.2.2.1, zJ (zm hb4) HCS.out.2.2.2.2.1, zJ (zm hb4) HCS.out.2.2.2.2.2⟩
     replace AA := AA' rfl
     clear AA' hK K
     try dsimp only at AA
     refine tk 10 42 (mf 13 11) AA ?_
     refine tk 11 43 (mf 13 12) AA ?_
     refine tk 12 31 (mf 13 13) AA ?_
     refine zA (by kernel_rfl) ?_ _
     have HS4 := iD (HS3.out.drew.later (zm hb4))
     have HK4 := iD ((show Blk w3.drew wr.heap.size 106 #[.int .i64 d, .int .i64 p, .int .i64 q] from HK3.out).below (zm hb4) HK3.out.lt)
     clear AA hb4 HS3 HK3 HCS HBE HLT e1 qr
     have HNB := iD HOB.out
     have HEB : Hid (xx ds ls i = if wU (ls.take i) ⟨d, p, q⟩ = true then 18 else if wM (ls.take i) q = true then 4 else 0) := by unfold Hid; rw [HEA.out, if_neg (by rw [HNB.out]; simp)]
     clear HEA HOB HNB
     have HSL4 := iD (HS.out.below HS4.out.bl hBl)
     have hic : i ≤ c := by omega
     have HTK := iD (HSL4.out.takeK (fun _ => rfl) (by decide) hi)
     have HBX4 : Hid (w4.cell? ⟨wr.heap.size, 0, none⟩ = some (.int .i64 d) ∧ w4.cell? ⟨wr.heap.size, 1, none⟩ = some (.int .i64 p) ∧ w4.cell? ⟨wr.heap.size, 2, none⟩ = some (.int .i64 q)) := ⟨HK4.out.cell 0, HK4.out.cell 1, HK4.out.cell 2⟩
     have hz4 := HS4.out.bl.size
     have HOA := iD (uy (some ⟨b, off, none⟩) i c Bl (ls.take i) d p q w4.drew HTK.out (by simp only [World.drew]; omega))
     go_wp2_with fail
     rcases ho : wU (ls.take i) ⟨d, p, q⟩ with _ | _
     rotate_left
     ·rw [ho] at HOA HEB
      clear ho
      have HR : Hid (zK ns ds ls = 18) := HSTOP.out _ (by rw [HEB.out, if_pos rfl]) (by decide)
      go_upto_region 14 with (fail)
      refine zC (S := fun W' => W'.cell? ⟨wr.heap.size, 0, none⟩ = some (.int .i64 d) ∧ W'.cell? ⟨wr.heap.size, 1, none⟩ = some (.int .i64 p) ∧ W'.cell? ⟨wr.heap.size, 2, none⟩ = some (.int .i64 q)) (J := []) (by kernel_rfl) ?_ (fun AA => ?_)
      ·exact HBX4.out
      try dsimp only at AA
      refine tk 0 45 (mf 6 1) AA ?_
      refine tk 1 46 (mf 6 2) AA ?_
      refine tk 2 47 (mf 6 3) AA ?_
      refine tk 3 48 (mf 6 4) AA ?_
      refine tb 4 (mf 6 5) fun K hK => ?_
      (go_simp; refine HOA.out.mono ?_; rintro e w5 ⟨rfl, hb5⟩; go_simp)
      refine hK.out _ _ (fun _ => ?_) (fun AA' => ?_)
      ·exact ⟨zJ hb5 HBX4.out.1, zJ hb5 HBX4.out.2.1, zJ hb5 HBX4.out.2.2⟩
      replace AA := AA' rfl
      clear AA' hK K
      try dsimp only at AA
      refine tk 5 44 (mf 6 6) AA ?_
      refine zA (by kernel_rfl) ?_ _
      have HS5 := iD (HS4.out.drew.later hb5)
      clear AA hb5
      go_wp2_with fail
      go_ret
      exact ⟨zE HR.out.symm, HS5.out.bl⟩
     rw [ho] at HOA HEB
     replace HEB : Hid (xx ds ls i = if wM (ls.take i) q = true then 4 else 0) := by unfold Hid; rw [HEB.out, if_neg (by simp)]
     clear ho
     go_upto_region 14 with (fail)
     refine zC (S := fun W' => W'.cell? ⟨wr.heap.size, 0, none⟩ = some (.int .i64 d) ∧ W'.cell? ⟨wr.heap.size, 1, none⟩ = some (.int .i64 p) ∧ W'.cell? ⟨wr.heap.size, 2, none⟩ = some (.int .i64 q)) (J := []) (by kernel_rfl) ?_ (fun AA => ?_)
     ·exact HBX4.out
     try dsimp only at AA
     refine tk 0 45 (mf 6 1) AA ?_
     refine tk 1 46 (mf 6 2) AA ?_
     refine tk 2 47 (mf 6 3) AA ?_
     refine tk 3 48 (mf 6 4) AA ?_
     refine tb 4 (mf 6 5) fun K hK => ?_
     (go_simp; refine HOA.out.mono ?_; rintro e w5 ⟨rfl, hb5⟩; go_simp)
     refine hK.out _ _ (fun _ => ?_) (fun AA' => ?_)
     ·exact ⟨zJ hb5 HBX4.out.1, zJ hb5 HBX4.out.2.1, zJ hb5 HBX4.out.2.2⟩
     replace AA := AA' rfl
     clear AA' hK K
     try dsimp only at AA
     refine tk 5 44 (mf 6 6) AA ?_
     refine zA (by kernel_rfl) ?_ _
     have HS5 := iD (HS4.out.drew.later hb5)
     have HTK5 := iD (HTK.out.drew.below hb5 (by simp only [World.drew]; omega))
     have HC5 : Hid (w5.cell? ⟨wr.heap.size, 2, none⟩ = some (.int .i64 q)) := AA.2.2
     clear AA hb5 HOA HBX4 HSL4 HTK HK4
     have hz5 := HS5.out.bl.size
     have HUA := iD (tw (some ⟨b, off, none⟩) i c Bl (ls.take i) q w5.drew HTK5.out (by simp only [World.drew]; omega))
     rcases hu : wM (ls.take i) q with _ | _
     rotate_left
     ·rw [hu] at HUA HEB
      clear hu
      have HR : Hid (zK ns ds ls = 4) := HSTOP.out _ (by rw [HEB.out, if_pos rfl]) (by decide)
      go_upto_region 16 with (fail)
      refine zC (S := fun W' => W'.cell? ⟨wr.heap.size, 2, none⟩ = some (.int .i64 q)) (J := []) (by kernel_rfl) ?_ (fun AA => ?_)
      ·exact HC5.out
      try dsimp only at AA
      refine tk 0 51 (mf 7 1) AA ?_
      refine tk 1 52 (mf 7 2) AA ?_
      refine tk 2 53 (mf 7 3) AA ?_
      refine tk 3 54 (mf 7 4) AA ?_
      refine tk 4 55 (mf 7 5) AA ?_
      refine tb 5 (mf 7 6) fun K hK => ?_
      (go_simp; refine HUA.out.mono ?_; rintro e w6 ⟨rfl, hb6⟩; go_simp)
      refine hK.out _ _ (fun _ => ?_) (fun AA' => ?_)
      ·exact zJ hb6 HC5.out
      replace AA := AA' rfl
      clear AA' hK K
      try dsimp only at AA
      refine tk 6 50 (mf 7 7) AA ?_
      refine zA (by kernel_rfl) ?_ _
      have HS6 := iD (HS5.out.drew.later hb6)
      clear AA hb6
      go_wp2_with fail
      go_ret
      exact ⟨zE HR.out.symm, HS6.out.bl⟩
     rw [hu] at HUA HEB
     clear hu
     have HFN : Hid (yV ds ls (i + 1) = 0) := HNEXT.out (by rw [HEB.out, if_neg (by simp)])
     go_upto_region 16 with (fail)
     refine zC (S := fun W' => W'.cell? ⟨wr.heap.size, 2, none⟩ = some (.int .i64 q)) (J := []) (by kernel_rfl) ?_ (fun AA => ?_)
     ·exact HC5.out
     try dsimp only at AA
     refine tk 0 51 (mf 7 1) AA ?_
     refine tk 1 52 (mf 7 2) AA ?_
     refine tk 2 53 (mf 7 3) AA ?_
     refine tk 3 54 (mf 7 4) AA ?_
     refine tk 4 55 (mf 7 5) AA ?_
     refine tb 5 (mf 7 6) fun K hK => ?_
     (go_simp; refine HUA.out.mono ?_; rintro e w6 ⟨rfl, hb6⟩; go_simp)
     refine hK.out _ _ (fun _ => ?_) (fun AA' => ?_)
     ·exact zJ hb6 HC5.out
     replace AA := AA' rfl
     clear AA' hK K
     try dsimp only at AA
     refine tk 6 50 (mf 7 7) AA ?_
     refine zA (by kernel_rfl) ?_ _
     have HS6 := iD (HS5.out.drew.later hb6)
     clear AA hb6
     go_wp2_with fail
     go_roundg (n - (i + 1))
     case rel => exact ⟨i + 1, by go_num, by omega, rfl, HFN, HS6⟩
     case measure => omega
   ·have e0 : i = 0 := by omega
    have HOB : Hid (xP ls i ⟨d, p, q⟩ = false) := by unfold Hid xP; rw [decide_eq_false hi0]; rfl
    have qi : decide (0 < i) = false := by simp; omega
    have qi2 : decide ((0 : Int) < (i : Int)) = false := by simp; omega
    clear e0
    go_upto_region 12 with (fail)
    refine zC (S := fun _ => True) (J := []) (by kernel_rfl) ?_ (fun AA => ?_)
    ·exact trivial
    try dsimp only at AA
    refine tk 0 32 (mf 13 1) AA ?_
    refine tk 1 33 (mf 13 2) AA ?_
    refine tk 2 34 (mf 13 3) AA ?_
    refine ts 3 35 (mf 13 4) AA ?_
    refine ts 4 36 (mf 13 5) AA ?_
    refine ts 5 37 (mf 13 6) AA ?_
    refine ts 6 38 (mf 13 7) AA ?_
    refine ts 7 39 (mf 13 8) AA ?_
    refine ts 8 40 (mf 13 9) AA ?_
    refine ts 9 41 (mf 13 10) AA ?_
    refine ts 10 42 (mf 13 11) AA ?_
    refine tk 11 43 (mf 13 12) AA ?_
    refine tk 12 31 (mf 13 13) AA ?_
    refine zA (by kernel_rfl) ?_ _
    have HS4 := iD (HS3.out.drew)
    have HK4 := iD (show Blk w3.drew wr.heap.size 106 #[.int .i64 d, .int .i64 p, .int .i64 q] from HK3.out)
    have hz4d : wr.heap.size + 1 ≤ w3.drew.heap.size := by simp only [World.drew]; omega
    clear AA HS3 HK3 qi qi2 hz3
    generalize World.drew w3 = w4 at *
    have HNB := iD HOB.out
    have HEB : Hid (xx ds ls i = if wU (ls.take i) ⟨d, p, q⟩ = true then 18 else if wM (ls.take i) q = true then 4 else 0) := by unfold Hid; rw [HEA.out, if_neg (by rw [HNB.out]; simp)]
    clear HEA HOB HNB
    have HSL4 := iD (HS.out.below HS4.out.bl hBl)
    have hic : i ≤ c := by omega
    have HTK := iD (HSL4.out.takeK (fun _ => rfl) (by decide) hi)
    have HBX4 : Hid (w4.cell? ⟨wr.heap.size, 0, none⟩ = some (.int .i64 d) ∧ w4.cell? ⟨wr.heap.size, 1, none⟩ = some (.int .i64 p) ∧ w4.cell? ⟨wr.heap.size, 2, none⟩ = some (.int .i64 q)) := ⟨HK4.out.cell 0, HK4.out.cell 1, HK4.out.cell 2⟩
    have hz4 := HS4.out.bl.size
    have HOA := iD (uy (some ⟨b, off, none⟩) i c Bl (ls.take i) d p q w4.drew HTK.out (by simp only [World.drew]; omega))
    go_wp2_with fail
    rcases ho : wU (ls.take i) ⟨d, p, q⟩ with _ | _
    rotate_left
    ·rw [ho] at HOA HEB
     clear ho
     have HR : Hid (zK ns ds ls = 18) := HSTOP.out _ (by rw [HEB.out, if_pos rfl]) (by decide)
     go_upto_region 14 with (fail)
     refine zC (S := fun W' => W'.cell? ⟨wr.heap.size, 0, none⟩ = some (.int .i64 d) ∧ W'.cell? ⟨wr.heap.size, 1, none⟩ = some (.int .i64 p) ∧ W'.cell? ⟨wr.heap.size, 2, none⟩ = some (.int .i64 q)) (J := []) (by kernel_rfl) ?_ (fun AA => ?_)
     ·exact HBX4.out
     try dsimp only at AA
     refine tk 0 45 (mf 6 1) AA ?_
     refine tk 1 46 (mf 6 2) AA ?_
     refine tk 2 47 (mf 6 3) AA ?_
     refine tk 3 48 (mf 6 4) AA ?_
     refine tb 4 (mf 6 5) fun K hK => ?_
     (go_simp; refine HOA.out.mono ?_; rintro e w5 ⟨rfl, hb5⟩; go_simp)
     refine hK.out _ _ (fun _ => ?_) (fun AA' => ?_)
     ·exact ⟨zJ hb5 HBX4.out.1, zJ hb5 HBX4.out.2.1, zJ hb5 HBX4.out.2.2⟩
     replace AA := AA' rfl
     clear AA' hK K
     try dsimp only at AA
     refine tk 5 44 (mf 6 6) AA ?_
     refine zA (by kernel_rfl) ?_ _
     have HS5 := iD (HS4.out.drew.later hb5)
     clear AA hb5
     go_wp2_with fail
     go_ret
     exact ⟨zE HR.out.symm, HS5.out.bl⟩
    rw [ho] at HOA HEB
    replace HEB : Hid (xx ds ls i = if wM (ls.take i) q = true then 4 else 0) := by unfold Hid; rw [HEB.out, if_neg (by simp)]
    clear ho
    go_upto_region 14 with (fail)
    refine zC (S := fun W' => W'.cell? ⟨wr.heap.size, 0, none⟩ = some (.int .i64 d) ∧ W'.cell? ⟨wr.heap.size, 1, none⟩ = some (.int .i64 p) ∧ W'.cell? ⟨wr.heap.size, 2, none⟩ = some (.int .i64 q)) (J := []) (by kernel_rfl) ?_ (fun AA => ?_)
    ·exact HBX4.out
    try dsimp only at AA
    refine tk 0 45 (mf 6 1) AA ?_
    refine tk 1 46 (mf 6 2) AA ?_
    refine tk 2 47 (mf 6 3) AA ?_
    refine tk 3 48 (mf 6 4) AA ?_
    refine tb 4 (mf 6 5) fun K hK => ?_
    (go_simp; refine HOA.out.mono ?_; rintro e w5 ⟨rfl, hb5⟩; go_simp)
    refine hK.out _ _ (fun _ => ?_) (fun AA' => ?_)
    ·exact ⟨zJ hb5 HBX4.out.1, zJ hb5 HBX4.out.2.1, zJ hb5 HBX4.out.2.2⟩
    replace AA := AA' rfl
    clear AA' hK K
    try dsimp only at AA
    refine tk 5 44 (mf 6 6) AA ?_
    refine zA (by kernel_rfl) ?_ _
    have HS5 := iD (HS4.out.drew.later hb5)
    have HTK5 := iD (HTK.out.drew.below hb5 (by simp only [World.drew]; omega))
    have HC5 : Hid (w5.cell? ⟨wr.heap.size, 2, none⟩ = some (.int .i64 q)) := AA.2.2
    clear AA hb5 HOA HBX4 HSL4 HTK HK4
    have hz5 := HS5.out.bl.size
    have HUA := iD (tw (some ⟨b, off, none⟩) i c Bl (ls.take i) q w5.drew HTK5.out (by simp only [World.drew]; omega))
    rcases hu : wM (ls.take i) q with _ | _
    rotate_left
    ·rw [hu] at HUA HEB
     clear hu
     have HR : Hid (zK ns ds ls = 4) := HSTOP.out _ (by rw [HEB.out, if_pos rfl]) (by decide)
     go_upto_region 16 with (fail)
     refine zC (S := fun W' => W'.cell? ⟨wr.heap.size, 2, none⟩ = some (.int .i64 q)) (J := []) (by kernel_rfl) ?_ (fun AA => ?_)
     ·exact HC5.out
     try dsimp only at AA
     refine tk 0 51 (mf 7 1) AA ?_
     refine tk 1 52 (mf 7 2) AA ?_
     refine tk 2 53 (mf 7 3) AA ?_
     refine tk 3 54 (mf 7 4) AA ?_
     refine tk 4 55 (mf 7 5) AA ?_
     refine tb 5 (mf 7 6) fun K hK => ?_
     (go_simp; refine HUA.out.mono ?_; rintro e w6 ⟨rfl, hb6⟩; go_simp)
     refine hK.out _ _ (fun _ => ?_) (fun AA' => ?_)
     ·exact zJ hb6 HC5.out
     replace AA := AA' rfl
     clear AA' hK K
     try dsimp only at AA
     refine tk 6 50 (mf 7 7) AA ?_
     refine zA (by kernel_rfl) ?_ _
     have HS6 := iD (HS5.out.drew.later hb6)
     clear AA hb6
     go_wp2_with fail
     go_ret
     exact ⟨zE HR.out.symm, HS6.out.bl⟩
    rw [hu] at HUA HEB
    clear hu
    have HFN : Hid (yV ds ls (i + 1) = 0) := HNEXT.out (by rw [HEB.out, if_neg (by simp)])
    go_upto_region 16 with (fail)
    refine zC (S := fun W' => W'.cell? ⟨wr.heap.size, 2, none⟩ = some (.int .i64 q)) (J := []) (by kernel_rfl) ?_ (fun AA => ?_)
    ·exact HC5.out
    try dsimp only at AA
    refine tk 0 51 (mf 7 1) AA ?_
    refine tk 1 52 (mf 7 2) AA ?_
    refine tk 2 53 (mf 7 3) AA ?_
    refine tk 3 54 (mf 7 4) AA ?_
    refine tk 4 55 (mf 7 5) AA ?_
    refine tb 5 (mf 7 6) fun K hK => ?_
    (go_simp; refine HUA.out.mono ?_; rintro e w6 ⟨rfl, hb6⟩; go_simp)
    refine hK.out _ _ (fun _ => ?_) (fun AA' => ?_)
    ·exact zJ hb6 HC5.out
    replace AA := AA' rfl
    clear AA' hK K
    try dsimp only at AA
    refine tk 6 50 (mf 7 7) AA ?_
    refine zA (by kernel_rfl) ?_ _
    have HS6 := iD (HS5.out.drew.later hb6)
    clear AA hb6
    go_wp2_with fail
    go_roundg (n - (i + 1))
    case rel => exact ⟨i + 1, by go_num, by omega, rfl, HFN, HS6⟩
    case measure => omega
  ·obtain rfl : i = n := by omega
   have hii : decide (i < i) = false := by simp
   have HR : Hid (zK ns ds ls = 0) := by unfold Hid; rw [HE.out, hfe.out]
   go_wp2_with fail
   go_ret
   exact ⟨zE HR.out.symm, hst.out.bl⟩
end
section
open Go.RowKit
def qT (a b : Lk) : Bool := a.dev == b.dev && a.pos == b.pos && a.key == b.key
theorem xE (a b : Lk) : qT a b = true ↔ a = b := by
 obtain ⟨a1, a2, a3⟩ := a
 obtain ⟨b1, b2, b3⟩ := b
 unfold qT; simp [and_assoc]
theorem od (d p q d2 p2 q2 : Int) (w : World) : (binOp .neq 106 (.agg #[.int .i64 d, .int .i64 p, .int .i64 q]) (.agg #[.int .i64 d2, .int .i64 p2, .int .i64 q2])).run Tryz.prog w = .ok (.bool (!qT ⟨d, p, q⟩ ⟨d2, p2, q2⟩)) w := by
 have u3 := Tryz.underlying3
 have a3 := Tryz.isAgg3
 have z3 := Tryz.sizeOf3
 have hS : Tryz.prog.underlying 106 = some (.struct (Tryz.prog.fieldsOf 106)) := by kernel_rfl
 have hp : Tryz.prog.stoodInHeld 106 = false := by kernel_rfl
 rw [run_neq_struct, show (10000 : Nat) = 9999 + 1 from rfl, run_equalIn_agg w 9999 106 _ _ hS hp]
 simp only [Program.fieldsOf, Tryz.underlying106]
 go_simp
 by_cases h1 : d = d2 <;> by_cases h2 : p = p2 <;> by_cases h3 : q = q2 <;> simp [h1, h2, h3, qT]
def SaR (w : World) (a b : List Lk) (n gk : Nat) (iv : Value) (wr : World) : Prop := ∃ i : Nat, iv = .int .i64 i ∧ i ≤ n ∧ gk = n - i ∧ Hid (a.take i = b.take i) ∧ Hid (Below w.heap.size w wr)
open Classical in
theorem kS (A A2 : Option Addr) (n c n2 c2 B B2 : Nat) (a b : List Lk) (w : World) (ha : Sl w B 3 A n c (a.flatMap Lk.cells)) (hb : Sl w B2 3 A2 n2 c2 (b.flatMap Lk.cells)) (hB : B ≤ w.heap.size) (hB2 : B2 ≤ w.heap.size) :
 Calls Tryz.prog 42 #[.slice A n c, .slice A2 n2 c2] w fun e w' => e = .returned (.bool (decide (a = b))) ∧ Below w.heap.size w w' := by
 have HLA := iD (ha.len (fun _ => rfl) (by decide)); have HLB := iD (hb.len (fun _ => rfl) (by decide))
 have HA := iD ha; have HBB := iD hb
 have hle := ha.le
 have hle2 := hb.le
 clear ha hb
 by_cases hn : n = n2; rotate_left
 ·have q : ((n : Int) != (n2 : Int)) = true := by simp; omega
  have q2 : decide (n = n2) = false := by simpa using hn
  have HR : Hid (decide (a = b) = false) := by
   unfold Hid; rw [decide_eq_false_iff_not]; intro e; subst e; exact hn (HLA.out.symm.trans HLB.out)
  clear hn
  go_enter Tryz.func42, Tryz.ntmps42
  go_wp2_with fail
  go_ret
  exact ⟨zG HR.out.symm, Below.refl _ _⟩
 subst hn
 go_enter Tryz.func42, Tryz.ntmps42
 go_wp2_with fail
 go_loopg [5] n (SaR w a b n)
 case atStart => exact ⟨0, rfl, Nat.zero_le _, rfl, rfl, Below.refl _ _⟩
 case round =>
  obtain ⟨i, rfl, hi, rfl, heq, hbl⟩ := hrel
  by_cases hlt : i < n
  ·obtain ⟨b0, off, d, p, q, rfl, hb0, hx, c0, c1, c2'⟩ := (HA.out.below hbl.out hB).lock hlt
   obtain ⟨b1, off1, d1, p1, q1, rfl, hb1, hx1, e0, e1, e2⟩ := (HBB.out.below hbl.out hB2).lock hlt
   have HX := iD hx; have HX1 := iD hx1
   have HCS : Hid (wr.cell? ⟨b0, off + i * 3, none⟩ = some (.int .i64 d) ∧ wr.cell? ⟨b0, off + i * 3 + 1, none⟩ = some (.int .i64 p) ∧ wr.cell? ⟨b0, off + i * 3 + 2, none⟩ = some (.int .i64 q) ∧ wr.cell? ⟨b1, off1 + i * 3, none⟩ = some (.int .i64 d1) ∧ wr.cell? ⟨b1, off1 + i * 3 + 1, none⟩ = some (.int .i64 p1) ∧ wr.cell? ⟨b1, off1 + i * 3 + 2, none⟩ = some (.int .i64 q1)) := ⟨c0, c1, c2', e0, e1, e2⟩
   have hneq := fun W => od d p q d1 p1 q1 W
   clear hx hx1 c0 c1 c2' e0 e1 e2
   rcases hee : qT ⟨d, p, q⟩ ⟨d1, p1, q1⟩ with _ | _
   ·have HR : Hid (decide (a = b) = false) := by
     unfold Hid; rw [decide_eq_false_iff_not]; intro e; subst e
     have := HX.out.symm.trans HX1.out
     injection this with this
     rw [(xE _ _).2 this] at hee; cases hee
    rw [hee] at hneq
    clear hee
    simp only [Bool.not_false] at hneq
    go_upto_region 6 with (fail)
    refine zC (S := fun W' => W'.cell? ⟨b0, off + i * 3, none⟩ = some (.int .i64 d) ∧ W'.cell? ⟨b0, off + i * 3 + 1, none⟩ = some (.int .i64 p) ∧ W'.cell? ⟨b0, off + i * 3 + 2, none⟩ = some (.int .i64 q) ∧ W'.cell? ⟨b1, off1 + i * 3, none⟩ = some (.int .i64 d1) ∧ W'.cell? ⟨b1, off1 + i * 3 + 1, none⟩ = some (.int .i64 p1) ∧ W'.cell? ⟨b1, off1 + i * 3 + 2, none⟩ = some (.int .i64 q1)) (J := []) (by kernel_rfl) ?_ (fun AA => ?_)
    ·exact HCS.out
    try dsimp only at AA
    refine tk 0 17 (mf 9 1) AA ?_
    refine tk 1 18 (mf 9 2) AA ?_
    refine tk 2 19 (mf 9 3) AA ?_
    refine tk 3 20 (mf 9 4) AA ?_
    refine tk 4 21 (mf 9 5) AA ?_
    refine tk 5 22 (mf 9 6) AA ?_
    refine tk 6 23 (mf 9 7) AA ?_
    refine tk 7 24 (mf 9 8) AA ?_
    refine tk 8 25 (mf 9 9) AA ?_
    refine zA (by kernel_rfl) ?_ _
    clear AA
    go_wp2_with fail
    go_ret
    exact ⟨zG HR.out.symm, hbl.out.drew⟩
   ·have HE2 : Hid (a.take (i + 1) = b.take (i + 1)) := by
     unfold Hid; rw [zQ HX.out, zQ HX1.out, heq.out, (xE _ _).1 hee]
    rw [hee] at hneq
    clear hee
    simp only [Bool.not_true] at hneq
    go_upto_region 6 with (fail)
    refine zC (S := fun W' => W'.cell? ⟨b0, off + i * 3, none⟩ = some (.int .i64 d) ∧ W'.cell? ⟨b0, off + i * 3 + 1, none⟩ = some (.int .i64 p) ∧ W'.cell? ⟨b0, off + i * 3 + 2, none⟩ = some (.int .i64 q) ∧ W'.cell? ⟨b1, off1 + i * 3, none⟩ = some (.int .i64 d1) ∧ W'.cell? ⟨b1, off1 + i * 3 + 1, none⟩ = some (.int .i64 p1) ∧ W'.cell? ⟨b1, off1 + i * 3 + 2, none⟩ = some (.int .i64 q1)) (J := []) (by kernel_rfl) ?_ (fun AA => ?_)
    ·exact HCS.out
    try dsimp only at AA
    refine tk 0 17 (mf 9 1) AA ?_
    refine tk 1 18 (mf 9 2) AA ?_
    refine tk 2 19 (mf 9 3) AA ?_
    refine tk 3 20 (mf 9 4) AA ?_
    refine tk 4 21 (mf 9 5) AA ?_
    refine tk 5 22 (mf 9 6) AA ?_
    refine tk 6 23 (mf 9 7) AA ?_
    refine tk 7 24 (mf 9 8) AA ?_
    refine tk 8 25 (mf 9 9) AA ?_
    refine zA (by kernel_rfl) ?_ _
    clear AA
    go_wp2_with fail
    go_roundg (n - (i + 1))
    case rel => exact ⟨i + 1, by go_num, by omega, rfl, HE2, hbl.out.drew⟩
    case measure => omega
  ·obtain rfl : i = n := by omega
   have hii : decide (i < i) = false := by simp
   have HR : Hid (decide (a = b) = true) := by
    unfold Hid; rw [decide_eq_true_iff]
    have := heq.out
    rwa [List.take_of_length_le (by rw [HLA.out]; exact Nat.le_refl _), List.take_of_length_le (by rw [HLB.out]; exact Nat.le_refl _)] at this
   go_wp2_with fail
   go_ret
   exact ⟨zG HR.out.symm, hbl.out⟩
end
section
open Go.RowKit
section
variable {P : Program} {ops : Array Oper} {A : Act} {L : List (Nat × Value)} {n : Nat} {oi : Oper}
end
end
section
open Go.RowKit
def yi (u : Int) : Int → List Int → Bool
 | _, [] => true
 | p, x :: t => decide (p < x) && decide (x < u) && yi u x t
def uA : Int → List Int → Int
 | p, [] => p
 | _, x :: t => uA x t
theorem uw (u x : Int) : ∀ (p : Int) (l : List Int), yi u p (l ++ [x]) = (yi u p l && decide (uA p l < x) && decide (x < u))
 | p, [] => by
  show (decide (p < x) && decide (x < u) && true) = (true && decide (p < x) && decide (x < u))
  rw [Bool.and_true, Bool.true_and]
 | p, y :: t => by rw [List.cons_append, yi, uw u x y t, yi, uA]; simp only [Bool.and_assoc]
theorem rQ {u : Int} : ∀ {p : Int} {l : List Int} (i : Nat), yi u p l = true → yi u p (l.take i) = true
 | _, [], i, _ => by simp [yi]
 | _, x :: t, 0, _ => by simp [yi]
 | p, x :: t, i + 1, h => by
  rw [yi, Bool.and_eq_true] at h
  rw [List.take_succ_cons, yi, h.1, rQ i h.2]; rfl
theorem sQ (x : Int) : ∀ (p : Int) (l : List Int), uA p (l ++ [x]) = x
 | _, [] => rfl
 | _, y :: t => sQ x y t
theorem nG {l : List Int} {i : Nat} {x p : Int} (h : l[i]? = some x) : uA p (l.take (i + 1)) = x := by rw [zQ h, sQ]
theorem pK {u x : Int} {l : List Int} {i : Nat} (hx : l[i]? = some x) (h : uA (-1) (l.take i) < x → x < u → False) : yi u (-1) l = false := by
 rw [Bool.eq_false_iff]
 intro e
 have := rQ (i + 1) e
 rw [zQ hx, uw, Bool.and_eq_true, Bool.and_eq_true] at this
 exact h (by simpa using this.1.2) (by simpa using this.2)
theorem kV {u x : Int} {l : List Int} {i : Nat} (hx : l[i]? = some x) (hp : yi u (-1) (l.take i) = true) (h1 : uA (-1) (l.take i) < x) (h2 : x < u) : yi u (-1) (l.take (i + 1)) = true := by
 rw [zQ hx, uw, hp, decide_eq_true h1, decide_eq_true h2]; rfl
def fy (w : World) (l : List Int) (u : Int) (n gk : Nat) (lv iv : Value) (wr : World) : Prop := ∃ i : Nat, lv = .int .i64 (uA (-1) (l.take i)) ∧ iv = .int .i64 i ∧ i ≤ n ∧ gk = n - i ∧ wr = w ∧ Hid (yi u (-1) (l.take i) = true)
theorem om (A : Option Addr) (n c B : Nat) (l : List Int) (u : Int) (w : World) (hs : Sl w B 1 A n c (zD l)) :
 Calls Tryz.prog 136 #[.slice A n c, .int .i64 u] w fun e w' => e = .returned (.bool (yi u (-1) l)) ∧ w = w' := by
 have hle := hs.le
 have HL := iD (hs.len (fun _ => rfl) (by decide))
 have HS := iD hs
 clear hs
 go_enter Tryz.func136, Tryz.ntmps136
 go_wp2_with fail
 go_loopg [5, 11] n (fy w l u n)
 case atStart => exact ⟨0, rfl, rfl, Nat.zero_le _, rfl, rfl, rfl⟩
 case round =>
  obtain ⟨i, rfl, rfl, hi, rfl, rfl, hR⟩ := hrel
  by_cases hlt : i < n
  ·obtain ⟨b, off, x, rfl, hb, hx, hc⟩ := HS.out.at1 hlt
   have HX := iD hx
   have HT : Hid (uA (-1) (l.take (i + 1)) = x) := nG hx
   obtain ⟨la, hla⟩ : ∃ la, la = uA (-1) (l.take i) := ⟨_, rfl⟩
   rw [← hla]
   have HLA := iD hla
   clear hx hla
   by_cases h1 : x ≤ la
   ·have q1 : decide (x ≤ la) = true := by simpa using h1
    have HF : Hid (yi u (-1) l = false) := pK HX.out fun h _ => by rw [← HLA.out] at h; omega
    clear h1
    go_wp2_with fail
    go_ret
    exact ⟨zG HF.out.symm, rfl⟩
   have q1 : decide (x ≤ la) = false := by simpa using h1
   by_cases h2 : u ≤ x
   ·have q2 : decide (u ≤ x) = true := by simpa using h2
    have HF : Hid (yi u (-1) l = false) := pK HX.out fun _ h => by omega
    clear h1 h2
    go_wp2_with fail
    go_ret
    exact ⟨zG HF.out.symm, rfl⟩
   have q2 : decide (u ≤ x) = false := by simpa using h2
   have HN : Hid (yi u (-1) (l.take (i + 1)) = true) := kV HX.out hR.out (by rw [← HLA.out]; omega) (by omega)
   clear h1 h2
   go_wp2_with fail
   go_roundg (n - (i + 1))
   case rel => exact ⟨i + 1, by rw [HT.out], by go_num, by omega, rfl, rfl, HN⟩
   case measure => omega
  ·obtain rfl : i = n := by omega
   have hii : decide (i < i) = false := by simp
   have HF : Hid (yi u (-1) l = true) := by have := hR.out; rw [List.take_of_length_le (by rw [HL.out]; exact Nat.le_refl _)] at this; exact this
   go_wp2_with fail
   go_ret
   exact ⟨zG HF.out.symm, rfl⟩
end
section
open Go.RowKit
def zZ (u v : Nat → Value) : List (Nat × Nat) → Nat → List Value → List Value
 | [], _, fr => fr
 | _ :: _, _, [] => []
 | (0, 0) :: rs, i, x :: fr => x :: zZ u v rs (i + 1) fr
 | (n + 1, 0) :: rs, i, x :: fr => x :: zZ u v ((n, 0) :: rs) (i + 1) fr
 | (0, 1) :: rs, i, _ :: fr => u i :: zZ u v rs (i + 1) fr
 | (n + 1, 1) :: rs, i, _ :: fr => u i :: zZ u v ((n, 1) :: rs) (i + 1) fr
 | (_, j + 2) :: rs, i, _ :: fr => v j :: zZ u v rs (i + 1) fr
def gt : List Value → Nat → Value
 | [], _ => undef
 | x :: _, 0 => x
 | _ :: xs, n + 1 => gt xs n
section
variable {P : Program} {Q : Exit → Act → World → Prop} {w : World} {c : Code} {fr fr' : List Value} {k n₀ : Nat}
def v1 (p : Value) : Nat → Value := fun _ => p
def yw (rel : Nat → Value → World → Prop) (rs : List (Nat × Nat)) (fr : List Value) (k : Nat) (a : Act) (w : World) : Prop := ∃ u p, rel k p w ∧ a = ⟨(zZ u (v1 p) rs 0 fr).toArray, []⟩
theorem zv (rs : List (Nat × Nat)) (s1 : Nat) (n₀ : Nat) (rel : Nat → Value → World → Prop) (h₀ : rel n₀ (gt fr s1) w) (hv : zZ (gt fr) (v1 (gt fr s1)) rs 0 fr = fr)
 (round : ∀ u p n w a, rel n p w → a = ⟨(zZ u (v1 p) rs 0 fr).toArray, []⟩ → ∀ (J : Nat → Act → World → Prop) (K : Act → World → Prop), (∀ k a' w', yw rel rs fr k a' w' → J k a' w') → (∀ a' w', Handed J n a' w' → K a' w') → c.wp P (Exit.then K Q) a w) : (Code.loop c).wp P Q ⟨fr.toArray, []⟩ w :=
 wp_loop_ghost_k (yw rel rs fr) n₀ ⟨_, _, h₀, by rw [hv]⟩ fun n a w ⟨u, p, h, ha⟩ J K hJ hK => round u p n w a h ha J K hJ hK
theorem yw.back {rel : Nat → Value → World → Prop} {rs : List (Nat × Nat)} (s1 : Nat) (h : rel k (gt fr' s1) w) (hv : zZ (gt fr') (v1 (gt fr' s1)) rs 0 fr = fr') : yw rel rs fr k ⟨fr'.toArray, []⟩ w := ⟨_, _, h, by rw [hv]⟩
def v2 (p q : Value) : Nat → Value
 | 0 => p
 | _ => q
def qh (rel : Nat → Value → Value → World → Prop) (rs : List (Nat × Nat)) (fr : List Value) (k : Nat) (a : Act) (w : World) : Prop := ∃ u p q, rel k p q w ∧ a = ⟨(zZ u (v2 p q) rs 0 fr).toArray, []⟩
theorem wZ (rs : List (Nat × Nat)) (s1 s2 : Nat) (n₀ : Nat) (rel : Nat → Value → Value → World → Prop) (h₀ : rel n₀ (gt fr s1) (gt fr s2) w) (hv : zZ (gt fr) (v2 (gt fr s1) (gt fr s2)) rs 0 fr = fr)
 (round : ∀ u p q n w a, rel n p q w → a = ⟨(zZ u (v2 p q) rs 0 fr).toArray, []⟩ → ∀ (J : Nat → Act → World → Prop) (K : Act → World → Prop), (∀ k a' w', qh rel rs fr k a' w' → J k a' w') → (∀ a' w', Handed J n a' w' → K a' w') → c.wp P (Exit.then K Q) a w) : (Code.loop c).wp P Q ⟨fr.toArray, []⟩ w :=
 wp_loop_ghost_k (qh rel rs fr) n₀ ⟨_, _, _, h₀, by rw [hv]⟩ fun n a w ⟨u, p, q, h, ha⟩ J K hJ hK => round u p q n w a h ha J K hJ hK
theorem qh.back {rel : Nat → Value → Value → World → Prop} {rs : List (Nat × Nat)} (s1 s2 : Nat) (h : rel k (gt fr' s1) (gt fr' s2) w) (hv : zZ (gt fr') (v2 (gt fr' s1) (gt fr' s2)) rs 0 fr = fr') : qh rel rs fr k ⟨fr'.toArray, []⟩ w := ⟨_, _, _, h, by rw [hv]⟩
def v3 (p q r : Value) : Nat → Value
 | 0 => p
 | 1 => q
 | _ => r
def fa (rel : Nat → Value → Value → Value → World → Prop) (rs : List (Nat × Nat)) (fr : List Value) (k : Nat) (a : Act) (w : World) : Prop := ∃ u p q r, rel k p q r w ∧ a = ⟨(zZ u (v3 p q r) rs 0 fr).toArray, []⟩
theorem fa.back {rel : Nat → Value → Value → Value → World → Prop} {rs : List (Nat × Nat)} (s1 s2 s3 : Nat) (h : rel k (gt fr' s1) (gt fr' s2) (gt fr' s3) w) (hv : zZ (gt fr') (v3 (gt fr' s1) (gt fr' s2) (gt fr' s3)) rs 0 fr = fr') : fa rel rs fr k ⟨fr'.toArray, []⟩ w := ⟨_, _, _, _, h, by rw [hv]⟩
def v4 (p q r t : Value) : Nat → Value
 | 0 => p
 | 1 => q
 | 2 => r
 | _ => t
def fZ (rel : Nat → Value → Value → Value → Value → World → Prop) (rs : List (Nat × Nat)) (fr : List Value) (k : Nat) (a : Act) (w : World) : Prop := ∃ u p q r t, rel k p q r t w ∧ a = ⟨(zZ u (v4 p q r t) rs 0 fr).toArray, []⟩
theorem fZ.back {rel : Nat → Value → Value → Value → Value → World → Prop} {rs : List (Nat × Nat)} (s1 s2 s3 s4 : Nat) (h : rel k (gt fr' s1) (gt fr' s2) (gt fr' s3) (gt fr' s4) w) (hv : zZ (gt fr') (v4 (gt fr' s1) (gt fr' s2) (gt fr' s3) (gt fr' s4)) rs 0 fr = fr') : fZ rel rs fr k ⟨fr'.toArray, []⟩ w := ⟨_, _, _, _, _, h, by rw [hv]⟩
def fk (R : Value → World → Prop) (rs : List (Nat × Nat)) (fr : List Value) (a : Act) (w : World) : Prop := ∃ u p, R p w ∧ a = ⟨(zZ u (v1 p) rs 0 fr).toArray, []⟩
theorem fk.back {R : Value → World → Prop} {rs : List (Nat × Nat)} (s1 : Nat) (h : R (gt fr' s1) w) (hv : zZ (gt fr') (v1 (gt fr' s1)) rs 0 fr = fr') : fk R rs fr ⟨fr'.toArray, []⟩ w := ⟨_, _, h, by rw [hv]⟩
def fj (R : Value → Value → World → Prop) (rs : List (Nat × Nat)) (fr : List Value) (a : Act) (w : World) : Prop := ∃ u p q, R p q w ∧ a = ⟨(zZ u (v2 p q) rs 0 fr).toArray, []⟩
theorem fj.back {R : Value → Value → World → Prop} {rs : List (Nat × Nat)} (s1 s2 : Nat) (h : R (gt fr' s1) (gt fr' s2) w) (hv : zZ (gt fr') (v2 (gt fr' s1) (gt fr' s2)) rs 0 fr = fr') : fj R rs fr ⟨fr'.toArray, []⟩ w := ⟨_, _, _, h, by rw [hv]⟩
def fi (R : Value → Value → Value → World → Prop) (rs : List (Nat × Nat)) (fr : List Value) (a : Act) (w : World) : Prop := ∃ u p q r, R p q r w ∧ a = ⟨(zZ u (v3 p q r) rs 0 fr).toArray, []⟩
theorem fi.back {R : Value → Value → Value → World → Prop} {rs : List (Nat × Nat)} (s1 s2 s3 : Nat) (h : R (gt fr' s1) (gt fr' s2) (gt fr' s3) w) (hv : zZ (gt fr') (v3 (gt fr' s1) (gt fr' s2) (gt fr' s3)) rs 0 fr = fr') : fi R rs fr ⟨fr'.toArray, []⟩ w := ⟨_, _, _, _, h, by rw [hv]⟩
def fh (R : Value → Value → Value → Value → World → Prop) (rs : List (Nat × Nat)) (fr : List Value) (a : Act) (w : World) : Prop := ∃ u p q r t, R p q r t w ∧ a = ⟨(zZ u (v4 p q r t) rs 0 fr).toArray, []⟩
theorem fh.back {R : Value → Value → Value → Value → World → Prop} {rs : List (Nat × Nat)} (s1 s2 s3 s4 : Nat) (h : R (gt fr' s1) (gt fr' s2) (gt fr' s3) (gt fr' s4) w) (hv : zZ (gt fr') (v4 (gt fr' s1) (gt fr' s2) (gt fr' s3) (gt fr' s4)) rs 0 fr = fr') : fh R rs fr ⟨fr'.toArray, []⟩ w := ⟨_, _, _, _, _, h, by rw [hv]⟩
end
end
end Go.Proofs.YtkkobemhbicjgaaGreatDoor
