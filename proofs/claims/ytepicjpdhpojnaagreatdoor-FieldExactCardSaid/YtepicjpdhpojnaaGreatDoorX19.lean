import Derived.Test.YtepicjpdhpojnaaGreatDoorX17
import Derived.Shelf.SlSortCmp.InsertionK
set_option maxRecDepth 100000
set_option maxHeartbeats 8000000
namespace Go.Proofs.YtepicjpdhpojnaaGreatDoor
section
open Go.RowKit
theorem qR (An Ad : Option Addr) (nn cn nd cd Bd : Nat) (ds : List Dv) (d p q : Int) (w : World) (hd : Sl w Bd 5 Ad nd cd (ds.flatMap Dv.cells)) (hBd : Bd ≤ w.heap.size) :
 Calls Tryz.prog 83 #[.agg #[.slice An nn cn, .slice Ad nd cd], .agg #[.int .i64 d, .int .i64 p, .int .i64 q]] w fun e w' => e = .returned (.int .i64 (yJ ds ⟨d, p, q⟩)) ∧ Below w.heap.size w w' := by
 have HLD := iD (hd.len (fun _ => rfl) (by decide))
 have HE : Hid (yJ ds ⟨d, p, q⟩ = if d < 0 then 8 else if (nd : Int) ≤ d then 8 else if xU ds d = 5 then 6 else if p ≠ 1 ∧ p ≠ 2 then 10 else if q < 0 then 5 else if 65536 < q then 5 else 0) := by unfold Hid yJ; rw [HLD.out]
 have HB : Hid (Below w.heap.size w ((w.alloc (.cells #[.slice An nn cn, .slice Ad nd cd] 30)).alloc (.cells #[.int .i64 d, .int .i64 p, .int .i64 q] 46))) := ((Below.refl _ _).alloc lR _).alloc (by simp) _
 have HD2 := iD ((hd.alloc hBd (.cells #[.slice An nn cn, .slice Ad nd cd] 30)).alloc (by simp; omega) (.cells #[.int .i64 d, .int .i64 p, .int .i64 q] 46))
 have hdm := hd.le
 clear hd
 by_cases h1 : d < 0
 ·have q1 : decide (d < 0) = true := by simpa using h1
  go_enter Tryz.func83, Tryz.ntmps83
  go_wp2_with fail
  go_ret
  exact ⟨zI (by rw [HE.out, if_pos h1]), HB.out⟩
 have q1 : decide (d < 0) = false := by simpa using h1
 by_cases h2 : (nd : Int) ≤ d
 ·have q2 : decide ((nd : Int) ≤ d) = true := by simpa using h2
  go_enter Tryz.func83, Tryz.ntmps83
  go_wp2_with fail
  go_ret
  exact ⟨zI (by rw [HE.out, if_neg (by omega), if_pos h2]), HB.out⟩
 obtain ⟨i, rfl⟩ := Int.eq_ofNat_of_zero_le (show 0 ≤ d by omega)
 have hin : i < nd := by omega
 have q2 : decide (nd ≤ i) = false := by simp; omega
 obtain ⟨b0, off, x, rfl, hb0, hx, hc⟩ := HD2.out.at (fun _ => rfl) (by decide) hin
 have HX := iD (xz hx)
 obtain ⟨nm, kd, xa, xb, co⟩ := x
 have c1 := hc 1 _ rfl
 clear hc hx
 by_cases h3 : kd = 5
 ·subst h3
  go_enter Tryz.func83, Tryz.ntmps83
  go_wp2_with fail
  go_ret
  exact ⟨zI (by rw [HE.out, if_neg (by omega), if_neg (by omega), HX.out, if_pos rfl]), HB.out⟩
 have q3 : (kd == 5) = false := by simpa using h3
 have HR : Hid (yJ ds ⟨(i : Int), p, q⟩ = if p ≠ 1 ∧ p ≠ 2 then 10 else if q < 0 then 5 else if 65536 < q then 5 else 0) := by unfold Hid; rw [HE.out, if_neg (by omega), if_neg (by omega), HX.out, if_neg h3]
 clear h1 h2 h3 HE HX
 by_cases h4 : p = 1 ∨ p = 2
 ·have HR2 : Hid (yJ ds ⟨(i : Int), p, q⟩ = if q < 0 then 5 else if 65536 < q then 5 else 0) := by unfold Hid; rw [HR.out, if_neg (by omega)]
  clear HR
  by_cases h5 : q < 0
  ·have q5 : decide (q < 0) = true := by simpa using h5
   rcases h4 with rfl | rfl
   all_goals
    go_enter Tryz.func83, Tryz.ntmps83
    go_wp2_with fail
    go_ret
    exact ⟨zI (by rw [HR2.out, if_pos h5]), HB.out⟩
  have q5 : decide (q < 0) = false := by simpa using h5
  by_cases h6 : 65536 < q
  ·have q6 : decide (65536 < q) = true := by simpa using h6
   rcases h4 with rfl | rfl
   all_goals
    go_enter Tryz.func83, Tryz.ntmps83
    go_wp2_with fail
    go_ret
    exact ⟨zI (by rw [HR2.out, if_neg (by omega), if_pos h6]), HB.out⟩
  have q6 : decide (65536 < q) = false := by simpa using h6
  rcases h4 with rfl | rfl
  all_goals
   go_enter Tryz.func83, Tryz.ntmps83
   go_wp2_with fail
   go_ret
   exact ⟨zI (by rw [HR2.out, if_neg (by omega), if_neg (by omega)]), HB.out⟩
 ·have p1 : (p != 1) = true := by simp; omega
  have p2 : (p != 2) = true := by simp; omega
  go_enter Tryz.func83, Tryz.ntmps83
  go_wp2_with fail
  go_ret
  exact ⟨zI (by rw [HR.out, if_pos (by omega)]), HB.out⟩
def PlR (w : World) (ls : List Lk) (d : Int) (n gk : Nat) (iv : Value) (wr : World) : Prop := ∃ i : Nat, iv = .int .i64 i ∧ i ≤ n ∧ gk = n - i ∧ Hid (∀ x ∈ ls.take i, x.dev ≠ d) ∧ Hid (Below w.heap.size w wr)
theorem tU (A : Option Addr) (n c B : Nat) (ls : List Lk) (d : Int) (w : World) (hs : Sl w B 3 A n c (ls.flatMap Lk.cells)) (hB : B ≤ w.heap.size) :
 Calls Tryz.prog 45 #[.slice A n c, .int .i64 d] w fun e w' => e = uD ls d ∧ Below w.heap.size w w' := by
 have HLN := iD (hs.len (fun _ => rfl) (by decide)); have HS := iD hs
 have hle := hs.le
 clear hs
 go_enter Tryz.func45, Tryz.ntmps45
 go_wp2_with fail
 go_loopg [10] n (PlR w ls d n)
 case atStart => exact ⟨0, rfl, Nat.zero_le _, rfl, (fun x hx => by simp at hx), Below.refl _ _⟩
 case round =>
  obtain ⟨i, rfl, hi, rfl, hno, hbl⟩ := hrel
  by_cases hlt : i < n
  ·obtain ⟨b, off, d1, p1, q1, rfl, hb, hx, c0, c1, c2⟩ := (HS.out.below hbl.out hB).lock hlt
   have HX := iD hx
   have HB2 : Hid (Below w.heap.size w (wr.alloc (.cells #[.int .i64 d1, .int .i64 p1, .int .i64 q1] 46))) := hbl.out.alloc hbl.out.size _
   clear hx
   by_cases hd : d1 = d
   ·subst hd
    have HR : Hid (yw ls d1 = some p1) := mZ hno.out HX.out rfl
    have qq : (d1 == d1) = true := by simp
    go_wp2_with fail
    go_ret2
    exact ⟨by unfold uD; rw [HR.out]; rfl, HB2.out⟩
   ·have qq : (d1 == d) = false := by simpa using hd
    have HN : Hid (∀ x ∈ ls.take (i + 1), x.dev ≠ d) := fun x hx => by
     rw [zt HX.out] at hx
     rcases List.mem_append.1 hx with h | h
     ·exact hno.out x h
     ·rw [List.mem_singleton.1 h]; exact hd
    clear hd
    go_wp2_with fail
    go_roundg (n - (i + 1))
    case rel => exact ⟨i + 1, by go_num, by omega, rfl, HN, HB2⟩
    case measure => omega
  ·obtain rfl : i = n := by omega
   have hii : decide (i < i) = false := by simp
   have HR : Hid (yw ls d = none) := by
    have := hno.out
    rw [List.take_of_length_le (by rw [HLN.out]; exact Nat.le_refl _)] at this
    exact vh.2 this
   go_wp2_with fail
   go_ret2
   exact ⟨by unfold uD; rw [HR.out]; rfl, hbl.out⟩
def mw (g : Nat) (lb : Array Value) (p : Lk → Bool) (w : World) : Prop :=
 ∀ (W : World) (d q r : Int), Below w.heap.size w W → Calls Tryz.prog g (#[.agg #[.int .i64 d, .int .i64 q, .int .i64 r]] ++ lb) W fun e w' => e = .returned (.bool (p ⟨d, q, r⟩)) ∧ Below w.heap.size w w'
def IfR (w : World) (ls : List Lk) (p : Lk → Bool) (n gk : Nat) (_kv iv : Value) (wr : World) : Prop := ∃ i : Nat, iv = .int .i64 i ∧ i ≤ n ∧ gk = n - i ∧ Hid (∀ x ∈ ls.take i, p x = false) ∧ Hid (Below w.heap.size w wr)
theorem kT (g : Nat) (lb : Array Value) (p : Lk → Bool) (eg : ∀ args w, (callFunc g args).run Tryz.prog w = .ok (.enter g args) w) (A : Option Addr) (n c B : Nat) (ls : List Lk) (w : World) (hs : Sl w B 3 A n c (ls.flatMap Lk.cells)) (hB : B ≤ w.heap.size) (hp : mw g lb p w) :
 Calls Tryz.prog 91 #[.slice A n c, .func (.func g) #[] lb] w fun e w' => (∃ i : Int, e = .returned (.int .i64 i) ∧ Hid (decide (0 ≤ i) = ls.any p)) ∧ Below w.heap.size w w' := by
 have HLN := iD (hs.len (fun _ => rfl) (by decide)); have HS := iD hs
 have hle := hs.le
 have HP := iD hp
 clear hs hp
 go_enter Tryz.func91, Tryz.ntmps91
 go_wp2_with fail
 go_loopg [5, 8] n (IfR w ls p n)
 case atStart => exact ⟨0, rfl, Nat.zero_le _, rfl, (fun x hx => by simp at hx), Below.refl _ _⟩
 case round =>
  obtain ⟨i, rfl, hi, rfl, hno, hbl⟩ := hrel
  by_cases hlt : i < n
  ·obtain ⟨b, off, d1, p1, q1, rfl, hb, hx, c0, c1, c2⟩ := (HS.out.below hbl.out hB).lock hlt
   have HX := iD hx
   have hcall := HP.out wr d1 p1 q1 hbl.out
   clear hx
   rcases hq : p ⟨d1, p1, q1⟩ with _ | _
   ·rw [hq] at hcall
    have HN : Hid (∀ x ∈ ls.take (i + 1), p x = false) := fun x hx => by
     rw [zt HX.out] at hx
     rcases List.mem_append.1 hx with h | h
     ·exact hno.out x h
     ·rw [List.mem_singleton.1 h]; exact hq
    clear hq
    go_wp2_with (go_at_fn g; refine hcall.mono ?_; rintro e w' ⟨rfl, hb'⟩)
    go_roundg (n - (i + 1))
    case rel => exact ⟨i + 1, by go_num, by omega, rfl, HN, hb'⟩
    case measure => omega
   ·rw [hq] at hcall
    have HR : Hid (decide (0 ≤ (i : Int)) = ls.any p) := by
     unfold Hid
     rw [decide_eq_true (by omega)]
     symm
     rw [List.any_eq_true]
     exact ⟨_, List.mem_of_getElem? HX.out, hq⟩
    clear hq
    go_wp2_with (go_at_fn g; refine hcall.mono ?_; rintro e w' ⟨rfl, hb'⟩)
    go_ret
    exact ⟨⟨_, rfl, HR⟩, hb'⟩
  ·obtain rfl : i = n := by omega
   have hii : decide (i < i) = false := by simp
   have HR : Hid (decide (0 ≤ (-1 : Int)) = ls.any p) := by
    have := hno.out
    rw [List.take_of_length_le (by rw [HLN.out]; exact Nat.le_refl _)] at this
    unfold Hid
    rw [decide_eq_false (by omega)]
    symm
    rw [List.any_eq_false]
    intro x hx
    rw [this x hx]; simp
   go_wp2_with fail
   go_ret
   exact ⟨⟨_, rfl, HR⟩, hbl.out⟩
theorem sU (g : Nat) (lb : Array Value) (p : Lk → Bool) (eg : ∀ args w, (callFunc g args).run Tryz.prog w = .ok (.enter g args) w) (A : Option Addr) (n c B : Nat) (ls : List Lk) (w : World) (hs : Sl w B 3 A n c (ls.flatMap Lk.cells)) (hB : B ≤ w.heap.size) (hp : mw g lb p w) :
 Calls Tryz.prog 54 #[.slice A n c, .func (.func g) #[] lb] w fun e w' => e = .returned (.bool (ls.any p)) ∧ Below w.heap.size w w' := by
 have HI := iD (kT g lb p eg A n c B ls w hs hB hp)
 clear hs hp
 go_enter Tryz.func54, Tryz.ntmps54
 go_wp2_with fail
 refine HI.out.mono ?_
 rintro e w1 ⟨⟨i, rfl, hi⟩, hb⟩
 go_wp2_with fail
 go_ret
 exact ⟨zP hi.out, hb⟩
theorem rM (A : Option Addr) (n c B : Nat) (ls : List Lk) (q : Int) (w : World) (hs : Sl w B 3 A n c (ls.flatMap Lk.cells)) (hB : B ≤ w.heap.size) :
 Calls Tryz.prog 86 #[.slice A n c, .int .i64 q] w fun e w' => e = .returned (.bool (yr ls q)) ∧ Below w.heap.size w w' := by
 have HP : Hid (mw 115 #[.pointer (some ⟨w.heap.size, 0, none⟩)] (fun x => decide (x.key = q)) (w.alloc (.cells #[.int .i64 q] 3))) := by
  intro W d p q1 hb
  have hc : W.cell? ⟨w.heap.size, 0, none⟩ = some (.int .i64 q) := (hb.cell (p := ⟨w.heap.size, 0, none⟩) (by simp)).trans (by simp)
  have hBW : w.heap.size < W.heap.size := Nat.lt_of_lt_of_le (by simp) hb.size
  have hne : w.heap.size ≠ W.heap.size := by omega
  show Calls Tryz.prog 115 #[.agg #[.int .i64 d, .int .i64 p, .int .i64 q1], .pointer (some ⟨w.heap.size, 0, none⟩)] W _
  go_enter Tryz.func115, Tryz.ntmps115
  go_wp2_with fail
  go_ret
  exact ⟨zP (by by_cases h : q1 = q <;> simp [h]), hb.alloc hb.size _⟩
 have HI := iD (sU 115 #[.pointer (some ⟨w.heap.size, 0, none⟩)] (fun x => decide (x.key = q)) (enters_of Tryz.func115 (by kernel_rfl) rfl) A n c B ls _ (hs.alloc hB _) (by simp; omega) HP.out)
 have HB : Hid (Below w.heap.size w (w.alloc (.cells #[.int .i64 q] 3))) := (Below.refl _ _).alloc lR _
 clear hs HP
 go_enter Tryz.func86, Tryz.ntmps86
 go_wp2_with fail
 refine HI.out.mono ?_
 rintro e w1 ⟨rfl, hb⟩
 have HB2 := iD (HB.out.trans (hb.mono (by simp)))
 clear hb
 go_wp2_with fail
 go_ret
 exact ⟨rfl, HB2.out⟩
theorem sM (A : Option Addr) (n c B : Nat) (ls : List Lk) (d p q : Int) (w : World) (hs : Sl w B 3 A n c (ls.flatMap Lk.cells)) (hB : B ≤ w.heap.size) :
 Calls Tryz.prog 85 #[.slice A n c, .agg #[.int .i64 d, .int .i64 p, .int .i64 q]] w fun e w' => e = .returned (.bool (yj ls ⟨d, p, q⟩)) ∧ Below w.heap.size w w' := by
 have HP : Hid (mw 114 #[.pointer (some ⟨w.heap.size, 0, none⟩)] (tr ⟨d, p, q⟩) (w.alloc (.cells #[.int .i64 d, .int .i64 p, .int .i64 q] 46))) := by
  intro W d1 p1 q1 hb
  have hc0 : W.cell? ⟨w.heap.size, 0, none⟩ = some (.int .i64 d) := (hb.cell (p := ⟨w.heap.size, 0, none⟩) (by simp)).trans (by simp)
  have hc1 : W.cell? ⟨w.heap.size, 1, none⟩ = some (.int .i64 p) := (hb.cell (p := ⟨w.heap.size, 1, none⟩) (by simp)).trans (by simp)
  have hBW : w.heap.size < W.heap.size := Nat.lt_of_lt_of_le (by simp) hb.size
  have hne : w.heap.size ≠ W.heap.size := by omega
  have HBW : Hid (Below (w.alloc (.cells #[.int .i64 d, .int .i64 p, .int .i64 q] 46)).heap.size (w.alloc (.cells #[.int .i64 d, .int .i64 p, .int .i64 q] 46)) (W.alloc (.cells #[.int .i64 d1, .int .i64 p1, .int .i64 q1] 46))) := hb.alloc hb.size _
  clear hb
  show Calls Tryz.prog 114 #[.agg #[.int .i64 d1, .int .i64 p1, .int .i64 q1], .pointer (some ⟨w.heap.size, 0, none⟩)] W _
  by_cases h : d1 = d
  ·subst h
   have qd : (d1 == d1) = true := by simp
   go_enter Tryz.func114, Tryz.ntmps114
   go_wp2_with fail
   go_ret
   exact ⟨zP (by by_cases h : p1 = p <;> simp [h, tr]), HBW.out⟩
  ·have qd : (d1 == d) = false := by simpa using h
   have HR : Hid (tr ⟨d, p, q⟩ ⟨d1, p1, q1⟩ = false) := by unfold Hid; simp [tr, h]
   go_enter Tryz.func114, Tryz.ntmps114
   go_wp2_with fail
   go_ret
   exact ⟨zP HR.out.symm, HBW.out⟩
 have HI := iD (sU 114 #[.pointer (some ⟨w.heap.size, 0, none⟩)] (tr ⟨d, p, q⟩) (enters_of Tryz.func114 (by kernel_rfl) rfl) A n c B ls _ (hs.alloc hB _) (by simp; omega) HP.out)
 have HB : Hid (Below w.heap.size w (w.alloc (.cells #[.int .i64 d, .int .i64 p, .int .i64 q] 46))) := (Below.refl _ _).alloc lR _
 clear hs HP
 go_enter Tryz.func85, Tryz.ntmps85
 go_wp2_with fail
 refine HI.out.mono ?_
 rintro e w1 ⟨rfl, hb⟩
 have HB2 := iD (HB.out.trans (hb.mono (by simp)))
 clear hb
 go_wp2_with fail
 go_ret
 exact ⟨rfl, HB2.out⟩
end
section
open Go.RowKit
open Go.Sort (grow alloc_eq_grow)
theorem wL {W : World} {p : Addr} {v : Value} (o : Obj) (h : W.cell? p = some v) : (W.alloc o).cell? p = some v := (World.cell?_alloc_lt W o p (uG h)).trans h
theorem mG (w : World) (a b c : Obj) : ∃ n os, ((w.alloc a).alloc b).drew.alloc c = grow (w.drewN n) os := ⟨1, #[a] ++ #[b] ++ #[c], by
 rw [alloc_eq_grow w a, alloc_eq_grow _ b, Go.Sort.grow_grow]
 show (grow w.drew (#[a] ++ #[b])).alloc c = _
 rw [alloc_eq_grow, Go.Sort.grow_grow]; rfl⟩
def t6 (a b : Int) : Int := if a < b then -1 else if b < a then 1 else 0
def orI (x y : Int) : Int := if x ≠ 0 then x else y
def pY (a b : Lk) : Int := orI (t6 a.dev b.dev) (t6 a.key b.key)
theorem rj (a b : Lk) : pY a b < 0 ↔ yM a b = true := by
 rw [u7]; unfold pY orI t6
 split <;> split <;> (try split) <;> omega
theorem uw (x : Int) (w : World) : Calls Tryz.prog 103 #[.int .i64 x] w fun e w' => e = .returned (.bool false) ∧ w = w' := by
 have q : (x != x) = false := by simp
 go_enter Tryz.func103, Tryz.ntmps103
 go_wp2_with fail
 go_ret
 exact ⟨rfl, rfl⟩
theorem mn (x y : Int) (w : World) : Calls Tryz.prog 113 #[.int .i64 x, .int .i64 y] w fun e w' => e = .returned (.int .i64 (t6 x y)) ∧ w = w' := by
 by_cases h1 : x < y
 ·have q1 : decide (x < y) = true := by simpa using h1
  have HR : Hid (t6 x y = -1) := by unfold Hid t6; rw [if_pos h1]
  go_enter Tryz.func113, Tryz.ntmps113
  go_wp2_with fail
  refine (uw x w).mono ?_
  rintro e w1 ⟨rfl, rfl⟩
  go_wp2_with fail
  refine (uw y _).mono ?_
  rintro e w1 ⟨rfl, rfl⟩
  go_wp2_with fail
  go_ret
  exact ⟨zI HR.out.symm, rfl⟩
 have q1 : decide (x < y) = false := by simpa using h1
 by_cases h2 : y < x
 ·have q2 : decide (y < x) = true := by simpa using h2
  have HR : Hid (t6 x y = 1) := by unfold Hid t6; rw [if_neg h1, if_pos h2]
  go_enter Tryz.func113, Tryz.ntmps113
  go_wp2_with fail
  refine (uw x w).mono ?_
  rintro e w1 ⟨rfl, rfl⟩
  go_wp2_with fail
  refine (uw y _).mono ?_
  rintro e w1 ⟨rfl, rfl⟩
  go_wp2_with fail
  go_ret
  exact ⟨zI HR.out.symm, rfl⟩
 have q2 : decide (y < x) = false := by simpa using h2
 have HR : Hid (t6 x y = 0) := by unfold Hid t6; rw [if_neg h1, if_neg h2]
 go_enter Tryz.func113, Tryz.ntmps113
 go_wp2_with fail
 refine (uw x w).mono ?_
 rintro e w1 ⟨rfl, rfl⟩
 go_wp2_with fail
 refine (uw y _).mono ?_
 rintro e w1 ⟨rfl, rfl⟩
 go_wp2_with fail
 go_ret
 exact ⟨zI HR.out.symm, rfl⟩
theorem jp (b : Nat) (x y : Int) (w : World) (h0 : w.cell? ⟨b, 0, none⟩ = some (.int .i64 x)) (h1 : w.cell? ⟨b, 1, none⟩ = some (.int .i64 y)) :
 Calls Tryz.prog 112 #[.slice (some ⟨b, 0, none⟩) 2 2] w fun e w' => e = .returned (.int .i64 (orI x y)) ∧ w = w' := by
 by_cases hx : x = 0
 ·subst hx
  have e1 : ((0 : Int) != 0) = false := by decide
  by_cases hy : y = 0
  ·subst hy
   go_enter Tryz.func112, Tryz.ntmps112
   go_wp2_with fail
   refine wp_loop_rounds 3 ?_
   rw [rounds_succ]
   go_wp2_with fail
   rw [rounds_succ]
   go_wp2_with fail
   rw [rounds_succ]
   go_wp2_with fail
   go_ret
   exact ⟨zI (by unfold orI; rw [if_neg (by simp)]), rfl⟩
  ·have e2 : (y != 0) = true := by simpa using hy
   go_enter Tryz.func112, Tryz.ntmps112
   go_wp2_with fail
   refine wp_loop_rounds 3 ?_
   rw [rounds_succ]
   go_wp2_with fail
   rw [rounds_succ]
   go_wp2_with fail
   go_ret
   exact ⟨zI (by unfold orI; rw [if_neg (by simp)]), rfl⟩
 ·have e1 : (x != 0) = true := by simpa using hx
  have HX := iD hx
  clear hx
  go_enter Tryz.func112, Tryz.ntmps112
  go_wp2_with fail
  refine wp_loop_rounds 3 ?_
  rw [rounds_succ]
  go_wp2_with fail
  go_ret
  exact ⟨zI (by unfold orI; rw [if_pos HX.out]), rfl⟩
theorem qf (a b : Lk) (w : World) : Calls Tryz.prog 84 #[.agg #[.int .i64 a.dev, .int .i64 a.pos, .int .i64 a.key], .agg #[.int .i64 b.dev, .int .i64 b.pos, .int .i64 b.key]] w fun e w' => e = .returned (.int .i64 (pY a b)) ∧ ∃ q os, w' = grow (w.drewN q) os := by
 obtain ⟨d, p, q⟩ := a
 obtain ⟨d2, p2, q2⟩ := b
 have HC1 := iD (fun W => mn d d2 W)
 have HC2 := iD (fun W => mn q q2 W)
 have HR : Hid (pY ⟨d, p, q⟩ ⟨d2, p2, q2⟩ = orI (t6 d d2) (t6 q q2)) := rfl
 generalize t6 d d2 = r1 at *
 generalize t6 q q2 = r2 at *
 have HCS : Hid ((((w.alloc (.cells #[.int .i64 d, .int .i64 p, .int .i64 q] 46)).alloc (.cells #[.int .i64 d2, .int .i64 p2, .int .i64 q2] 46)).cell? ⟨w.heap.size, 0, none⟩ = some (.int .i64 d)) ∧ (((w.alloc (.cells #[.int .i64 d, .int .i64 p, .int .i64 q] 46)).alloc (.cells #[.int .i64 d2, .int .i64 p2, .int .i64 q2] 46)).cell? ⟨w.heap.size, 2, none⟩ = some (.int .i64 q)) ∧ (((w.alloc (.cells #[.int .i64 d, .int .i64 p, .int .i64 q] 46)).alloc (.cells #[.int .i64 d2, .int .i64 p2, .int .i64 q2] 46)).cell? ⟨w.heap.size + 1, 0, none⟩ = some (.int .i64 d2)) ∧ (((w.alloc (.cells #[.int .i64 d, .int .i64 p, .int .i64 q] 46)).alloc (.cells #[.int .i64 d2, .int .i64 p2, .int .i64 q2] 46)).cell? ⟨w.heap.size + 1, 2, none⟩ = some (.int .i64 q2))) := by
  have b1 : Blk ((w.alloc (.cells #[.int .i64 d, .int .i64 p, .int .i64 q] 46)).alloc (.cells #[.int .i64 d2, .int .i64 p2, .int .i64 q2] 46)) w.heap.size 46 #[.int .i64 d, .int .i64 p, .int .i64 q] := (Blk.new _ _ _).alloc _
  have b2 : Blk ((w.alloc (.cells #[.int .i64 d, .int .i64 p, .int .i64 q] 46)).alloc (.cells #[.int .i64 d2, .int .i64 p2, .int .i64 q2] 46)) (w.heap.size + 1) 46 #[.int .i64 d2, .int .i64 p2, .int .i64 q2] := by have := Blk.new (w.alloc (.cells #[.int .i64 d, .int .i64 p, .int .i64 q] 46)) 46 #[.int .i64 d2, .int .i64 p2, .int .i64 q2]; simpa using this
  exact ⟨b1.cell 0, b1.cell 2, b2.cell 0, b2.cell 2⟩
 have HEND : Hid (∀ o, ∃ nq os, ((w.alloc (.cells #[.int .i64 d, .int .i64 p, .int .i64 q] 46)).alloc (.cells #[.int .i64 d2, .int .i64 p2, .int .i64 q2] 46)).drew.alloc o = grow (w.drewN nq) os) := fun o => mG w _ _ o
 go_enter Tryz.func84, Tryz.ntmps84
 go_upto_region 1 with (fail)
 generalize World.alloc (World.alloc _ _) _ = W at *
 refine zJ (S := fun W' => W'.cell? ⟨w.heap.size, 0, none⟩ = some (.int .i64 d) ∧ W'.cell? ⟨w.heap.size, 2, none⟩ = some (.int .i64 q) ∧ W'.cell? ⟨w.heap.size + 1, 0, none⟩ = some (.int .i64 d2) ∧ W'.cell? ⟨w.heap.size + 1, 2, none⟩ = some (.int .i64 q2)) (J := []) (by kernel_rfl) ?_ (fun AA => ?_)
 ·exact HCS.out
 try dsimp only at AA
 refine tk 0 5 (mf 13 1) AA ?_
 refine tk 1 6 (mf 13 2) AA ?_
 refine tk 2 7 (mf 13 3) AA ?_
 refine tk 3 8 (mf 13 4) AA ?_
 refine tk 5 10 #[tt, tt, tt, tt, ff, tt, ff, ff, ff, ff, ff, ff, ff] AA ?_
 refine tk 6 11 #[tt, tt, tt, tt, ff, tt, tt, ff, ff, ff, ff, ff, ff] AA ?_
 refine tk 7 12 #[tt, tt, tt, tt, ff, tt, tt, tt, ff, ff, ff, ff, ff] AA ?_
 refine tk 8 13 #[tt, tt, tt, tt, ff, tt, tt, tt, tt, ff, ff, ff, ff] AA ?_
 refine zG (k := 4) (mf 13 9) (by kernel_rfl) (by kernel_rfl) rfl (fun K hK => ?_)
 (go_simp; refine (HC1.out _).mono ?_; rintro e w1 ⟨rfl, rfl⟩; go_simp)
 refine hK.out _ _ (fun _ => ?_) (fun AA' => ?_)
 ·exact HCS.out
 replace AA := AA' rfl
 clear AA' hK K
 try dsimp only at AA
 refine zG (k := 9) (mf 13 10) (by kernel_rfl) (by kernel_rfl) rfl (fun K hK => ?_)
 (go_simp; refine (HC2.out _).mono ?_; rintro e w1 ⟨rfl, rfl⟩; go_simp)
 refine hK.out _ _ (fun _ => ?_) (fun AA' => ?_)
 ·exact HCS.out
 replace AA := AA' rfl
 clear AA' hK K
 try dsimp only at AA
 refine zG (k := 10) (mf 13 11) (by kernel_rfl) (by kernel_rfl) rfl (fun K hK => ?_)
 go_simp
 refine hK.out _ _ (fun _ => ?_) (fun AA' => ?_)
 ·exact ⟨wL _ HCS.out.1, wL _ HCS.out.2.1, wL _ HCS.out.2.2.1, wL _ HCS.out.2.2.2⟩
 replace AA := AA' rfl
 clear AA' hK K
 try dsimp only at AA
 refine zG (k := 11) (mf 13 12) (by kernel_rfl) (by kernel_rfl) rfl (fun K hK => ?_)
 (go_simp; refine (jp W.heap.size r1 r2 _ (by simp) (by simp)).mono ?_; rintro e w1 ⟨rfl, rfl⟩; go_simp)
 refine hK.out _ _ (fun _ => ?_) (fun AA' => ?_)
 ·exact ⟨wL _ HCS.out.1, wL _ HCS.out.2.1, wL _ HCS.out.2.2.1, wL _ HCS.out.2.2.2⟩
 replace AA := AA' rfl
 clear AA' hK K
 try dsimp only at AA
 refine tk 12 4 (mf 13 13) AA ?_
 refine zH (by kernel_rfl) ?_ _
 go_wp2_with fail
 go_ret
 exact ⟨zI HR.out.symm, HEND.out _⟩
end
section
open Go.RowKit
theorem yN {w w' : World} (h : ∃ q os, w' = Go.Sort.grow (w.drewN q) os) : Below w.heap.size w w' := by
 obtain ⟨q, os, rfl⟩ := h
 exact ⟨rfl, rfl, rfl, by simp [Go.Sort.grow, World.drewN], fun i hi => by simp only [Go.Sort.grow, World.drewN]; rw [Array.getElem?_append_left hi]⟩
structure uI (w : World) (N : Array Value) (wr : World) : Prop where
 bn : Blk wr w.heap.size 30 N
 bl : Below w.heap.size w wr
theorem uI.later {w wr wr' : World} {N : Array Value} (h : uI w N wr) (hb : Below wr.heap.size wr wr') : uI w N wr' := ⟨h.bn.below hb h.bn.lt, h.bl.trans (hb.mono h.bl.size)⟩
theorem uI.drew {w wr : World} {N : Array Value} (h : uI w N wr) : uI w N wr.drew := h.later (Below.refl _ _).drew
def PcR (w : World) (N : Array Value) (ds : List Dv) (ls : List Lk) (n gk : Nat) (iv : Value) (wr : World) : Prop := ∃ i : Nat, iv = .int .i64 i ∧ i ≤ n ∧ gk = n - i ∧ Hid (yW ds ls i = 0) ∧ Hid (uI w N wr)
theorem vC (An Ad Al : Option Addr) (nn cn nd cd n c Bn Bd Bl : Nat) (ns : List Nd) (ds : List Dv) (ls : List Lk) (w : World) (hl : Laid w) (hn : Sl w Bn 3 An nn cn (ns.flatMap Nd.cells)) (hd : Sl w Bd 5 Ad nd cd (ds.flatMap Dv.cells)) (hs : Sl w Bl 3 Al n c (ls.flatMap Lk.cells)) (hBn : Bn ≤ w.heap.size) (hBd : Bd ≤ w.heap.size) (hBl : Bl ≤ w.heap.size)
 (hsn : ∀ x ∈ ns, x.name.size ≤ 9223372036854775807) (hsd : ∀ x ∈ ds, x.name.size ≤ 9223372036854775807) :
 Calls Tryz.prog 49 #[.agg #[.slice An nn cn, .slice Ad nd cd], .slice Al n c] w fun e w' => e = .returned (.int .i64 (zL ns ds ls)) ∧ Below w.heap.size w w' := by
 have hle := hs.le
 have hll := hs.len (fun _ => rfl) (by decide)
 have HNL := iD hll
 have HE : Hid (zL ns ds ls = if zX ns ds ≠ 0 then zX ns ds else if 128 < n then 1 else yW ds ls n) := by unfold Hid zL; rw [hll]
 have HST : Hid (uI w #[.slice An nn cn, .slice Ad nd cd] (w.alloc (.cells #[.slice An nn cn, .slice Ad nd cd] 30))) := ⟨Blk.new _ _ _, (Below.refl _ _).alloc lR _⟩
 have HCK := iD (tS An Ad nn cn nd cd Bn Bd ns ds (w.alloc (.cells #[.slice An nn cn, .slice Ad nd cd] 30)) (hl.alloc _) (hn.below HST.out.bl hBn) (hd.below HST.out.bl hBd) (by simp; omega) (by simp; omega) hsn hsd)
 have HD := iD hd; have HS := iD hs
 clear hn hd hs hsn hsd hl hll
 go_enter Tryz.func49, Tryz.ntmps49
 go_wp2_with fail
 generalize World.alloc _ _ = W at *
 refine HCK.out.mono ?_
 rintro e w1 ⟨rfl, hb1⟩
 have HS1 := iD (HST.out.later hb1)
 clear hb1 HST HCK
 by_cases h0 : zX ns ds = 0; rotate_left
 ·have q0 : (zX ns ds != 0) = true := by simpa using h0
  have HR : Hid (zL ns ds ls = zX ns ds) := by unfold Hid; rw [HE.out, if_pos h0]
  clear h0
  go_wp2_with fail
  go_ret
  exact ⟨zI HR.out.symm, HS1.out.bl⟩
 rw [h0]
 replace HE : Hid (zL ns ds ls = if 128 < n then 1 else yW ds ls n) := by unfold Hid; rw [HE.out, if_neg (by simp [h0])]
 clear h0
 by_cases h1 : 128 < n
 ·have q0 : decide ((128 : Int) < (n : Int)) = true := by simp; omega
  have q1 : decide (128 < n) = true := by simpa using h1
  have HR : Hid (zL ns ds ls = 1) := by unfold Hid; rw [HE.out, if_pos h1]
  clear h1
  go_wp2_with fail
  go_ret
  exact ⟨zI HR.out.symm, HS1.out.bl⟩
 have q0 : decide ((128 : Int) < (n : Int)) = false := by simp; omega
 have q1 : decide (128 < n) = false := by simpa using h1
 replace HE : Hid (zL ns ds ls = yW ds ls n) := by unfold Hid; rw [HE.out, if_neg h1]
 clear h1
 go_wp2_with fail
 clear q0 q1
 go_loopg [19] n (PcR w #[.slice An nn cn, .slice Ad nd cd] ds ls n)
 case atStart => exact ⟨0, rfl, Nat.zero_le _, rfl, rfl, HS1⟩
 case round =>
  clear HS1
  obtain ⟨i, rfl, hi, rfl, hfe, hst⟩ := hrel
  by_cases hlt : i < n
  ·obtain ⟨b, off, d, p, q, rfl, hb, hx, c0, c1, c2⟩ := (HS.out.below hst.out.bl hBl).lock hlt
   have HX := iD hx
   have HSTOP : Hid (∀ e, xL ds ls i = e → e ≠ 0 → zL ns ds ls = e) := fun e he h => by rw [HE.out]; exact yz hfe.out he h n hlt
   have HNEXT : Hid (xL ds ls i = 0 → yW ds ls (i + 1) = 0) := fun he => uc hfe.out he
   have HEA : Hid (xL ds ls i = if yJ ds ⟨d, p, q⟩ ≠ 0 then yJ ds ⟨d, p, q⟩ else if xJ ls i ⟨d, p, q⟩ = true then 14 else if yj (ls.take i) ⟨d, p, q⟩ = true then 18 else if yr (ls.take i) q = true then 4 else 0) := by unfold Hid xL; rw [hx]
   have HS2 : Hid (uI w #[.slice An nn cn, .slice Ad nd cd] (wr.alloc (.cells #[.int .i64 d, .int .i64 p, .int .i64 q] 46))) := hst.out.later ((Below.refl _ _).alloc lR _)
   have HK2 : Hid (Blk (wr.alloc (.cells #[.int .i64 d, .int .i64 p, .int .i64 q] 46)) wr.heap.size 46 #[.int .i64 d, .int .i64 p, .int .i64 q]) := Blk.new _ _ _
   have hzk := hst.out.bl.size
   have HBX : Hid (Below w.heap.size w wr) := hst.out.bl
   clear hx hfe hst
   go_upto_region 9 with (fail)
   clear c0 c1 c2
   generalize hW2 : World.alloc wr _ = W2 at *
   have hz2 : W2.heap.size = wr.heap.size + 1 := by rw [← hW2]; simp
   have HSL2 := iD (HS.out.below HS2.out.bl hBl)
   have HDL2 := iD (HD.out.below HS2.out.bl hBd)
   clear hW2
   have k0 : W2.cell? ⟨w.heap.size, 0, none⟩ = some (.slice An nn cn) := HS2.out.bn.cell 0
   have k1 : W2.cell? ⟨w.heap.size, 1, none⟩ = some (.slice Ad nd cd) := HS2.out.bn.cell 1
   have m0 : W2.cell? ⟨wr.heap.size, 0, none⟩ = some (.int .i64 d) := HK2.out.cell 0
   have m1 : W2.cell? ⟨wr.heap.size, 1, none⟩ = some (.int .i64 p) := HK2.out.cell 1
   have m2 : W2.cell? ⟨wr.heap.size, 2, none⟩ = some (.int .i64 q) := HK2.out.cell 2
   go_wp2_with fail
   clear k0 k1 m0 m1 m2
   refine (qR An Ad nn cn nd cd Bd ds d p q W2 HDL2.out (by omega)).mono ?_
   rintro e w3 ⟨rfl, hb3⟩
   have HS3 := iD (HS2.out.later hb3)
   have HK3 := iD (HK2.out.below hb3 HK2.out.lt)
   have hz3 := hb3.size
   clear HS2 HK2 HSL2 HDL2 hb3
   by_cases hv : yJ ds ⟨d, p, q⟩ = 0; rotate_left
   ·have qv : (yJ ds ⟨d, p, q⟩ != 0) = true := by simpa using hv
    have HR : Hid (zL ns ds ls = yJ ds ⟨d, p, q⟩) := HSTOP.out _ (by rw [HEA.out, if_pos hv]) hv
    clear hv
    go_wp2_with fail
    go_ret
    exact ⟨zI HR.out.symm, HS3.out.bl⟩
   rw [hv]
   replace HEA : Hid (xL ds ls i = if xJ ls i ⟨d, p, q⟩ = true then 14 else if yj (ls.take i) ⟨d, p, q⟩ = true then 18 else if yr (ls.take i) q = true then 4 else 0) := by unfold Hid; rw [HEA.out, if_neg (by simp [hv])]
   clear hv
   by_cases hi0 : 0 < i
   ·obtain ⟨b1, off1, d1, p1, q1, hA1, _, hx1, g0, g1, g2⟩ := (HS.out.below HS3.out.bl hBl).lock (i := i - 1) (by omega)
    injection hA1 with hA1; injection hA1 with h1 h2; subst h1 h2
    have HOB := iD (qj (k := ⟨d, p, q⟩) hi0 hx1)
    have HCS : Hid (w3.cell? ⟨b, off + (i - 1) * 3, none⟩ = some (.int .i64 d1) ∧ w3.cell? ⟨b, off + (i - 1) * 3 + 1, none⟩ = some (.int .i64 p1) ∧ w3.cell? ⟨b, off + (i - 1) * 3 + 2, none⟩ = some (.int .i64 q1) ∧ w3.cell? ⟨wr.heap.size, 0, none⟩ = some (.int .i64 d) ∧ w3.cell? ⟨wr.heap.size, 1, none⟩ = some (.int .i64 p) ∧ w3.cell? ⟨wr.heap.size, 2, none⟩ = some (.int .i64 q)) := ⟨g0, g1, g2, HK3.out.cell 0, HK3.out.cell 1, HK3.out.cell 2⟩
    clear g0 g1 g2 hx1
    obtain ⟨i1, hi1⟩ : ∃ i1, i1 = i - 1 := ⟨_, rfl⟩
    rw [← hi1] at HCS
    have e1 : IntKind.i64.wrap ((i : Int) - 1) = (i1 : Int) := by rw [IntWalk.i64_in _ (by omega)]; omega
    have hi1n : i1 < n := by omega
    have qi : decide ((0 : Int) < (i : Int)) = true := by simp; omega
    clear hi1
    have HBE := iD (qf ⟨d1, p1, q1⟩ ⟨d, p, q⟩ w3.drew)
    have HLT := iD (rj ⟨d1, p1, q1⟩ ⟨d, p, q⟩)
    generalize pY ⟨d1, p1, q1⟩ ⟨d, p, q⟩ = r at *
    rcases hbb : yM ⟨d1, p1, q1⟩ ⟨d, p, q⟩ with _ | _
    ·rw [hbb] at HOB HLT
     have qr : decide (0 ≤ r) = true := by have := HLT.out; simp at this ⊢; omega
     have HR : Hid (zL ns ds ls = 14) := HSTOP.out _ (by rw [HEA.out, if_pos (by rw [HOB.out]; rfl)]) (by decide)
     clear hbb
     go_upto_region 12 with (fail)
     refine zJ (S := fun W' => W'.cell? ⟨b, off + i1 * 3, none⟩ = some (.int .i64 d1) ∧ W'.cell? ⟨b, off + i1 * 3 + 1, none⟩ = some (.int .i64 p1) ∧ W'.cell? ⟨b, off + i1 * 3 + 2, none⟩ = some (.int .i64 q1) ∧ W'.cell? ⟨wr.heap.size, 0, none⟩ = some (.int .i64 d) ∧ W'.cell? ⟨wr.heap.size, 1, none⟩ = some (.int .i64 p) ∧ W'.cell? ⟨wr.heap.size, 2, none⟩ = some (.int .i64 q)) (J := []) (by kernel_rfl) ?_ (fun AA => ?_)
     ·exact HCS.out
     try dsimp only at AA
     refine tk 0 32 (mf 13 1) AA ?_
     refine tk 1 33 (mf 13 2) AA ?_
     refine tk 2 34 (mf 13 3) AA ?_
     refine tk 3 35 (mf 13 4) AA ?_
     refine tk 4 36 (mf 13 5) AA ?_
     refine tk 5 37 (mf 13 6) AA ?_
     refine tk 6 38 (mf 13 7) AA ?_
     refine tk 7 39 (mf 13 8) AA ?_
     refine tk 8 40 (mf 13 9) AA ?_
     refine zG (k := 9) (mf 13 10) (by kernel_rfl) (by kernel_rfl) rfl (fun K hK => ?_)
     (go_simp; refine HBE.out.mono ?_; rintro e w4 ⟨rfl, hb4⟩; go_simp)
     refine hK.out _ _ (fun _ => ?_) (fun AA' => ?_)
     ·exact ⟨zE (yN hb4) HCS.out.1, zE (yN hb4) HCS.out.2.1, zE (yN hb4) HCS.out.2.2.1, zE (yN hb4) HCS.out.2.2.2.1, zE (yN hb4) HCS.out.2.2.2.2.1, zE (yN hb4) HCS.out.2.2.2.2.2⟩
     replace AA := AA' rfl
     clear AA' hK K
     try dsimp only at AA
     refine tk 10 42 (mf 13 11) AA ?_
     refine tk 11 43 (mf 13 12) AA ?_
     refine tk 12 31 (mf 13 13) AA ?_
     refine zH (by kernel_rfl) ?_ _
     have HS4 := iD (HS3.out.drew.later (yN hb4))
     clear AA hb4
     go_wp2_with fail
     go_ret
     exact ⟨zI HR.out.symm, HS4.out.bl⟩
    ·rw [hbb] at HOB HLT
     have qr : decide (0 ≤ r) = false := by have := HLT.out; simp at this ⊢; omega
     replace HOB : Hid (xJ ls i ⟨d, p, q⟩ = false) := by unfold Hid; rw [HOB.out]; rfl
     clear hbb
     go_upto_region 12 with (fail)
     refine zJ (S := fun W' => W'.cell? ⟨b, off + i1 * 3, none⟩ = some (.int .i64 d1) ∧ W'.cell? ⟨b, off + i1 * 3 + 1, none⟩ = some (.int .i64 p1) ∧ W'.cell? ⟨b, off + i1 * 3 + 2, none⟩ = some (.int .i64 q1) ∧ W'.cell? ⟨wr.heap.size, 0, none⟩ = some (.int .i64 d) ∧ W'.cell? ⟨wr.heap.size, 1, none⟩ = some (.int .i64 p) ∧ W'.cell? ⟨wr.heap.size, 2, none⟩ = some (.int .i64 q)) (J := []) (by kernel_rfl) ?_ (fun AA => ?_)
     ·exact HCS.out
     try dsimp only at AA
     refine tk 0 32 (mf 13 1) AA ?_
     refine tk 1 33 (mf 13 2) AA ?_
     refine tk 2 34 (mf 13 3) AA ?_
     refine tk 3 35 (mf 13 4) AA ?_
     refine tk 4 36 (mf 13 5) AA ?_
     refine tk 5 37 (mf 13 6) AA ?_
     refine tk 6 38 (mf 13 7) AA ?_
     refine tk 7 39 (mf 13 8) AA ?_
     refine tk 8 40 (mf 13 9) AA ?_
     refine zG (k := 9) (mf 13 10) (by kernel_rfl) (by kernel_rfl) rfl (fun K hK => ?_)
     (go_simp; refine HBE.out.mono ?_; rintro e w4 ⟨rfl, hb4⟩; go_simp)
     refine hK.out _ _ (fun _ => ?_) (fun AA' => ?_)
     ·exact ⟨zE (yN hb4) HCS.out.1, zE (yN hb4) HCS.out.2.1, zE (yN hb4) HCS.out.2.2.1, zE (yN hb4) HCS.out.2.2.2.1, zE (yN hb4) HCS.out.2.2.2.2.1, zE (yN hb4) HCS.out.2.2.2.2.2⟩
     replace AA := AA' rfl
     clear AA' hK K
     try dsimp only at AA
     refine tk 10 42 (mf 13 11) AA ?_
     refine tk 11 43 (mf 13 12) AA ?_
     refine tk 12 31 (mf 13 13) AA ?_
     refine zH (by kernel_rfl) ?_ _
     have HS4 := iD (HS3.out.drew.later (yN hb4))
     have HK4 := iD ((show Blk w3.drew wr.heap.size 46 #[.int .i64 d, .int .i64 p, .int .i64 q] from HK3.out).below (yN hb4) HK3.out.lt)
     clear AA hb4 HS3 HK3 HCS HBE HLT e1 qr
     have HNB := iD HOB.out
     have HEB : Hid (xL ds ls i = if yj (ls.take i) ⟨d, p, q⟩ = true then 18 else if yr (ls.take i) q = true then 4 else 0) := by unfold Hid; rw [HEA.out, if_neg (by rw [HNB.out]; simp)]
     clear HEA HOB HNB
     have HSL4 := iD (HS.out.below HS4.out.bl hBl)
     have hic : i ≤ c := by omega
     have HTK := iD (HSL4.out.takeK (fun _ => rfl) (by decide) hi)
     have HBX4 : Hid (w4.cell? ⟨wr.heap.size, 0, none⟩ = some (.int .i64 d) ∧ w4.cell? ⟨wr.heap.size, 1, none⟩ = some (.int .i64 p) ∧ w4.cell? ⟨wr.heap.size, 2, none⟩ = some (.int .i64 q)) := ⟨HK4.out.cell 0, HK4.out.cell 1, HK4.out.cell 2⟩
     have hz4 := HS4.out.bl.size
     have HOA := iD (sM (some ⟨b, off, none⟩) i c Bl (ls.take i) d p q w4.drew HTK.out (by simp only [World.drew]; omega))
     go_wp2_with fail
     rcases ho : yj (ls.take i) ⟨d, p, q⟩ with _ | _
     rotate_left
     ·rw [ho] at HOA HEB
      clear ho
      have HR : Hid (zL ns ds ls = 18) := HSTOP.out _ (by rw [HEB.out, if_pos rfl]) (by decide)
      go_upto_region 14 with (fail)
      refine zJ (S := fun W' => W'.cell? ⟨wr.heap.size, 0, none⟩ = some (.int .i64 d) ∧ W'.cell? ⟨wr.heap.size, 1, none⟩ = some (.int .i64 p) ∧ W'.cell? ⟨wr.heap.size, 2, none⟩ = some (.int .i64 q)) (J := []) (by kernel_rfl) ?_ (fun AA => ?_)
      ·exact HBX4.out
      try dsimp only at AA
      refine tk 0 45 (mf 6 1) AA ?_
      refine tk 1 46 (mf 6 2) AA ?_
      refine tk 2 47 (mf 6 3) AA ?_
      refine tk 3 48 (mf 6 4) AA ?_
      refine zG (k := 4) (mf 6 5) (by kernel_rfl) (by kernel_rfl) rfl (fun K hK => ?_)
      (go_simp; refine HOA.out.mono ?_; rintro e w5 ⟨rfl, hb5⟩; go_simp)
      refine hK.out _ _ (fun _ => ?_) (fun AA' => ?_)
      ·exact ⟨zE hb5 HBX4.out.1, zE hb5 HBX4.out.2.1, zE hb5 HBX4.out.2.2⟩
      replace AA := AA' rfl
      clear AA' hK K
      try dsimp only at AA
      refine tk 5 44 (mf 6 6) AA ?_
      refine zH (by kernel_rfl) ?_ _
      have HS5 := iD (HS4.out.drew.later hb5)
      clear AA hb5
      go_wp2_with fail
      go_ret
      exact ⟨zI HR.out.symm, HS5.out.bl⟩
     rw [ho] at HOA HEB
     replace HEB : Hid (xL ds ls i = if yr (ls.take i) q = true then 4 else 0) := by unfold Hid; rw [HEB.out, if_neg (by simp)]
     clear ho
     go_upto_region 14 with (fail)
     refine zJ (S := fun W' => W'.cell? ⟨wr.heap.size, 0, none⟩ = some (.int .i64 d) ∧ W'.cell? ⟨wr.heap.size, 1, none⟩ = some (.int .i64 p) ∧ W'.cell? ⟨wr.heap.size, 2, none⟩ = some (.int .i64 q)) (J := []) (by kernel_rfl) ?_ (fun AA => ?_)
     ·exact HBX4.out
     try dsimp only at AA
     refine tk 0 45 (mf 6 1) AA ?_
     refine tk 1 46 (mf 6 2) AA ?_
     refine tk 2 47 (mf 6 3) AA ?_
     refine tk 3 48 (mf 6 4) AA ?_
     refine zG (k := 4) (mf 6 5) (by kernel_rfl) (by kernel_rfl) rfl (fun K hK => ?_)
     (go_simp; refine HOA.out.mono ?_; rintro e w5 ⟨rfl, hb5⟩; go_simp)
     refine hK.out _ _ (fun _ => ?_) (fun AA' => ?_)
     ·exact ⟨zE hb5 HBX4.out.1, zE hb5 HBX4.out.2.1, zE hb5 HBX4.out.2.2⟩
     replace AA := AA' rfl
     clear AA' hK K
     try dsimp only at AA
     refine tk 5 44 (mf 6 6) AA ?_
     refine zH (by kernel_rfl) ?_ _
     have HS5 := iD (HS4.out.drew.later hb5)
     have HTK5 := iD (HTK.out.drew.below hb5 (by simp only [World.drew]; omega))
     have HC5 : Hid (w5.cell? ⟨wr.heap.size, 2, none⟩ = some (.int .i64 q)) := AA.2.2
     clear AA hb5 HOA HBX4 HSL4 HTK HK4
     have hz5 := HS5.out.bl.size
     have HUA := iD (rM (some ⟨b, off, none⟩) i c Bl (ls.take i) q w5.drew HTK5.out (by simp only [World.drew]; omega))
     rcases hu : yr (ls.take i) q with _ | _
     rotate_left
     ·rw [hu] at HUA HEB
      clear hu
      have HR : Hid (zL ns ds ls = 4) := HSTOP.out _ (by rw [HEB.out, if_pos rfl]) (by decide)
      go_upto_region 16 with (fail)
      refine zJ (S := fun W' => W'.cell? ⟨wr.heap.size, 2, none⟩ = some (.int .i64 q)) (J := []) (by kernel_rfl) ?_ (fun AA => ?_)
      ·exact HC5.out
      try dsimp only at AA
      refine tk 0 51 (mf 7 1) AA ?_
      refine tk 1 52 (mf 7 2) AA ?_
      refine tk 2 53 (mf 7 3) AA ?_
      refine tk 3 54 (mf 7 4) AA ?_
      refine tk 4 55 (mf 7 5) AA ?_
      refine zG (k := 5) (mf 7 6) (by kernel_rfl) (by kernel_rfl) rfl (fun K hK => ?_)
      (go_simp; refine HUA.out.mono ?_; rintro e w6 ⟨rfl, hb6⟩; go_simp)
      refine hK.out _ _ (fun _ => ?_) (fun AA' => ?_)
      ·exact zE hb6 HC5.out
      replace AA := AA' rfl
      clear AA' hK K
      try dsimp only at AA
      refine tk 6 50 (mf 7 7) AA ?_
      refine zH (by kernel_rfl) ?_ _
      have HS6 := iD (HS5.out.drew.later hb6)
      clear AA hb6
      go_wp2_with fail
      go_ret
      exact ⟨zI HR.out.symm, HS6.out.bl⟩
     rw [hu] at HUA HEB
     clear hu
     have HFN : Hid (yW ds ls (i + 1) = 0) := HNEXT.out (by rw [HEB.out, if_neg (by simp)])
     go_upto_region 16 with (fail)
     refine zJ (S := fun W' => W'.cell? ⟨wr.heap.size, 2, none⟩ = some (.int .i64 q)) (J := []) (by kernel_rfl) ?_ (fun AA => ?_)
     ·exact HC5.out
     try dsimp only at AA
     refine tk 0 51 (mf 7 1) AA ?_
     refine tk 1 52 (mf 7 2) AA ?_
     refine tk 2 53 (mf 7 3) AA ?_
     refine tk 3 54 (mf 7 4) AA ?_
     refine tk 4 55 (mf 7 5) AA ?_
     refine zG (k := 5) (mf 7 6) (by kernel_rfl) (by kernel_rfl) rfl (fun K hK => ?_)
     (go_simp; refine HUA.out.mono ?_; rintro e w6 ⟨rfl, hb6⟩; go_simp)
     refine hK.out _ _ (fun _ => ?_) (fun AA' => ?_)
     ·exact zE hb6 HC5.out
     replace AA := AA' rfl
     clear AA' hK K
     try dsimp only at AA
     refine tk 6 50 (mf 7 7) AA ?_
     refine zH (by kernel_rfl) ?_ _
     have HS6 := iD (HS5.out.drew.later hb6)
     clear AA hb6
     go_wp2_with fail
     go_roundg (n - (i + 1))
     case rel => exact ⟨i + 1, by go_num, by omega, rfl, HFN, HS6⟩
     case measure => omega
   ·have e0 : i = 0 := by omega
    have HOB : Hid (xJ ls i ⟨d, p, q⟩ = false) := by unfold Hid xJ; rw [decide_eq_false hi0]; rfl
    have qi : decide (0 < i) = false := by simp; omega
    have qi2 : decide ((0 : Int) < (i : Int)) = false := by simp; omega
    clear e0
    go_upto_region 12 with (fail)
    refine zJ (S := fun _ => True) (J := []) (by kernel_rfl) ?_ (fun AA => ?_)
    ·exact trivial
    try dsimp only at AA
    refine tk 0 32 (mf 13 1) AA ?_
    refine tk 1 33 (mf 13 2) AA ?_
    refine tk 2 34 (mf 13 3) AA ?_
    refine ts 3 35 (mf 13 4) AA ?_
    refine ts 4 36 (mf 13 5) AA ?_
    refine ts 5 37 (mf 13 6) AA ?_
    refine ts 6 38 (mf 13 7) AA ?_
    refine ts 7 39 (mf 13 8) AA ?_
    refine ts 8 40 (mf 13 9) AA ?_
    refine ts 9 41 (mf 13 10) AA ?_
    refine ts 10 42 (mf 13 11) AA ?_
    refine tk 11 43 (mf 13 12) AA ?_
    refine tk 12 31 (mf 13 13) AA ?_
    refine zH (by kernel_rfl) ?_ _
    have HS4 := iD (HS3.out.drew)
    have HK4 := iD (show Blk w3.drew wr.heap.size 46 #[.int .i64 d, .int .i64 p, .int .i64 q] from HK3.out)
    have hz4d : wr.heap.size + 1 ≤ w3.drew.heap.size := by simp only [World.drew]; omega
    clear AA HS3 HK3 qi qi2 hz3
    generalize World.drew w3 = w4 at *
    have HNB := iD HOB.out
    have HEB : Hid (xL ds ls i = if yj (ls.take i) ⟨d, p, q⟩ = true then 18 else if yr (ls.take i) q = true then 4 else 0) := by unfold Hid; rw [HEA.out, if_neg (by rw [HNB.out]; simp)]
    clear HEA HOB HNB
    have HSL4 := iD (HS.out.below HS4.out.bl hBl)
    have hic : i ≤ c := by omega
    have HTK := iD (HSL4.out.takeK (fun _ => rfl) (by decide) hi)
    have HBX4 : Hid (w4.cell? ⟨wr.heap.size, 0, none⟩ = some (.int .i64 d) ∧ w4.cell? ⟨wr.heap.size, 1, none⟩ = some (.int .i64 p) ∧ w4.cell? ⟨wr.heap.size, 2, none⟩ = some (.int .i64 q)) := ⟨HK4.out.cell 0, HK4.out.cell 1, HK4.out.cell 2⟩
    have hz4 := HS4.out.bl.size
    have HOA := iD (sM (some ⟨b, off, none⟩) i c Bl (ls.take i) d p q w4.drew HTK.out (by simp only [World.drew]; omega))
    go_wp2_with fail
    rcases ho : yj (ls.take i) ⟨d, p, q⟩ with _ | _
    rotate_left
    ·rw [ho] at HOA HEB
     clear ho
     have HR : Hid (zL ns ds ls = 18) := HSTOP.out _ (by rw [HEB.out, if_pos rfl]) (by decide)
     go_upto_region 14 with (fail)
     refine zJ (S := fun W' => W'.cell? ⟨wr.heap.size, 0, none⟩ = some (.int .i64 d) ∧ W'.cell? ⟨wr.heap.size, 1, none⟩ = some (.int .i64 p) ∧ W'.cell? ⟨wr.heap.size, 2, none⟩ = some (.int .i64 q)) (J := []) (by kernel_rfl) ?_ (fun AA => ?_)
     ·exact HBX4.out
     try dsimp only at AA
     refine tk 0 45 (mf 6 1) AA ?_
     refine tk 1 46 (mf 6 2) AA ?_
     refine tk 2 47 (mf 6 3) AA ?_
     refine tk 3 48 (mf 6 4) AA ?_
     refine zG (k := 4) (mf 6 5) (by kernel_rfl) (by kernel_rfl) rfl (fun K hK => ?_)
     (go_simp; refine HOA.out.mono ?_; rintro e w5 ⟨rfl, hb5⟩; go_simp)
     refine hK.out _ _ (fun _ => ?_) (fun AA' => ?_)
     ·exact ⟨zE hb5 HBX4.out.1, zE hb5 HBX4.out.2.1, zE hb5 HBX4.out.2.2⟩
     replace AA := AA' rfl
     clear AA' hK K
     try dsimp only at AA
     refine tk 5 44 (mf 6 6) AA ?_
     refine zH (by kernel_rfl) ?_ _
     have HS5 := iD (HS4.out.drew.later hb5)
     clear AA hb5
     go_wp2_with fail
     go_ret
     exact ⟨zI HR.out.symm, HS5.out.bl⟩
    rw [ho] at HOA HEB
    replace HEB : Hid (xL ds ls i = if yr (ls.take i) q = true then 4 else 0) := by unfold Hid; rw [HEB.out, if_neg (by simp)]
    clear ho
    go_upto_region 14 with (fail)
    refine zJ (S := fun W' => W'.cell? ⟨wr.heap.size, 0, none⟩ = some (.int .i64 d) ∧ W'.cell? ⟨wr.heap.size, 1, none⟩ = some (.int .i64 p) ∧ W'.cell? ⟨wr.heap.size, 2, none⟩ = some (.int .i64 q)) (J := []) (by kernel_rfl) ?_ (fun AA => ?_)
    ·exact HBX4.out
    try dsimp only at AA
    refine tk 0 45 (mf 6 1) AA ?_
    refine tk 1 46 (mf 6 2) AA ?_
    refine tk 2 47 (mf 6 3) AA ?_
    refine tk 3 48 (mf 6 4) AA ?_
    refine zG (k := 4) (mf 6 5) (by kernel_rfl) (by kernel_rfl) rfl (fun K hK => ?_)
    (go_simp; refine HOA.out.mono ?_; rintro e w5 ⟨rfl, hb5⟩; go_simp)
    refine hK.out _ _ (fun _ => ?_) (fun AA' => ?_)
    ·exact ⟨zE hb5 HBX4.out.1, zE hb5 HBX4.out.2.1, zE hb5 HBX4.out.2.2⟩
    replace AA := AA' rfl
    clear AA' hK K
    try dsimp only at AA
    refine tk 5 44 (mf 6 6) AA ?_
    refine zH (by kernel_rfl) ?_ _
    have HS5 := iD (HS4.out.drew.later hb5)
    have HTK5 := iD (HTK.out.drew.below hb5 (by simp only [World.drew]; omega))
    have HC5 : Hid (w5.cell? ⟨wr.heap.size, 2, none⟩ = some (.int .i64 q)) := AA.2.2
    clear AA hb5 HOA HBX4 HSL4 HTK HK4
    have hz5 := HS5.out.bl.size
    have HUA := iD (rM (some ⟨b, off, none⟩) i c Bl (ls.take i) q w5.drew HTK5.out (by simp only [World.drew]; omega))
    rcases hu : yr (ls.take i) q with _ | _
    rotate_left
    ·rw [hu] at HUA HEB
     clear hu
     have HR : Hid (zL ns ds ls = 4) := HSTOP.out _ (by rw [HEB.out, if_pos rfl]) (by decide)
     go_upto_region 16 with (fail)
     refine zJ (S := fun W' => W'.cell? ⟨wr.heap.size, 2, none⟩ = some (.int .i64 q)) (J := []) (by kernel_rfl) ?_ (fun AA => ?_)
     ·exact HC5.out
     try dsimp only at AA
     refine tk 0 51 (mf 7 1) AA ?_
     refine tk 1 52 (mf 7 2) AA ?_
     refine tk 2 53 (mf 7 3) AA ?_
     refine tk 3 54 (mf 7 4) AA ?_
     refine tk 4 55 (mf 7 5) AA ?_
     refine zG (k := 5) (mf 7 6) (by kernel_rfl) (by kernel_rfl) rfl (fun K hK => ?_)
     (go_simp; refine HUA.out.mono ?_; rintro e w6 ⟨rfl, hb6⟩; go_simp)
     refine hK.out _ _ (fun _ => ?_) (fun AA' => ?_)
     ·exact zE hb6 HC5.out
     replace AA := AA' rfl
     clear AA' hK K
     try dsimp only at AA
     refine tk 6 50 (mf 7 7) AA ?_
     refine zH (by kernel_rfl) ?_ _
     have HS6 := iD (HS5.out.drew.later hb6)
     clear AA hb6
     go_wp2_with fail
     go_ret
     exact ⟨zI HR.out.symm, HS6.out.bl⟩
    rw [hu] at HUA HEB
    clear hu
    have HFN : Hid (yW ds ls (i + 1) = 0) := HNEXT.out (by rw [HEB.out, if_neg (by simp)])
    go_upto_region 16 with (fail)
    refine zJ (S := fun W' => W'.cell? ⟨wr.heap.size, 2, none⟩ = some (.int .i64 q)) (J := []) (by kernel_rfl) ?_ (fun AA => ?_)
    ·exact HC5.out
    try dsimp only at AA
    refine tk 0 51 (mf 7 1) AA ?_
    refine tk 1 52 (mf 7 2) AA ?_
    refine tk 2 53 (mf 7 3) AA ?_
    refine tk 3 54 (mf 7 4) AA ?_
    refine tk 4 55 (mf 7 5) AA ?_
    refine zG (k := 5) (mf 7 6) (by kernel_rfl) (by kernel_rfl) rfl (fun K hK => ?_)
    (go_simp; refine HUA.out.mono ?_; rintro e w6 ⟨rfl, hb6⟩; go_simp)
    refine hK.out _ _ (fun _ => ?_) (fun AA' => ?_)
    ·exact zE hb6 HC5.out
    replace AA := AA' rfl
    clear AA' hK K
    try dsimp only at AA
    refine tk 6 50 (mf 7 7) AA ?_
    refine zH (by kernel_rfl) ?_ _
    have HS6 := iD (HS5.out.drew.later hb6)
    clear AA hb6
    go_wp2_with fail
    go_roundg (n - (i + 1))
    case rel => exact ⟨i + 1, by go_num, by omega, rfl, HFN, HS6⟩
    case measure => omega
  ·obtain rfl : i = n := by omega
   have hii : decide (i < i) = false := by simp
   have HR : Hid (zL ns ds ls = 0) := by unfold Hid; rw [HE.out, hfe.out]
   go_wp2_with fail
   go_ret
   exact ⟨zI HR.out.symm, hst.out.bl⟩
end
section
open Go.RowKit
def wO (k : Int) : Bool := k == 1 || k == 3 || k == 6
def py (ds : List Dv) (ls : List Lk) (pos : Int) (p : Int → Bool) (i : Nat) : Bool := decide (yw ls i = some pos) && p (xU ds i)
def yA (ds : List Dv) (ls : List Lk) (pos : Int) (p : Int → Bool) (n : Nat) : List Int := ((List.range n).filter (py ds ls pos p)).map fun i : Nat => (i : Int)
theorem tL (ds : List Dv) (ls : List Lk) (pos : Int) (p : Int → Bool) (n : Nat) : yA ds ls pos p (n + 1) = if py ds ls pos p n = true then yA ds ls pos p n ++ [(n : Int)] else yA ds ls pos p n := by
 unfold yA
 rw [List.range_succ, List.filter_append, List.map_append]
 rcases h : py ds ls pos p n with _ | _ <;> simp [h]
def wB (w : World) (er : Int) (l : List Int) (e : Ending) (w' : World) : Prop :=
 (er ≠ 0 ∧ e = .returned (.tuple #[.slice none 0 0, .int .i64 er]) ∨ er = 0 ∧ ∃ (A : Option Addr) (c : Nat), e = .returned (.tuple #[.slice A l.length c, .int .i64 0]) ∧ Hid (zQ w' w.heap.size A l.length c l)) ∧ Hid (Below w.heap.size w w')
theorem wB.ok {w w' : World} {er : Int} {l : List Int} {e : Ending} (h : wB w er l e w') (h0 : er = 0) : ∃ (A : Option Addr) (c : Nat), e = .returned (.tuple #[.slice A l.length c, .int .i64 0]) ∧ Hid (zQ w' w.heap.size A l.length c l) ∧ Hid (Below w.heap.size w w') := by
 obtain ⟨⟨h1, _⟩ | ⟨_, A, c, h1, h2⟩, h3⟩ := h
 ·exact absurd h0 h1
 ·exact ⟨A, c, h1, h2, h3⟩
def k8 (g : Nat) (p : Int → Bool) : Prop := ∀ (W : World) (k : Int), Calls Tryz.prog g #[.int .i64 k] W fun e w' => e = .returned (.bool (p k)) ∧ W = w'
theorem jY : k8 147 wO := by
 intro w k
 by_cases h1 : k = 1
 ·subst h1
  go_enter Tryz.func147, Tryz.ntmps147
  go_wp2_with fail
  go_ret
  exact ⟨rfl, rfl⟩
 ·have q1 : (k == 1) = false := by simpa using h1
  by_cases h2 : k = 3
  ·subst h2
   go_enter Tryz.func147, Tryz.ntmps147
   go_wp2_with fail
   go_ret
   exact ⟨rfl, rfl⟩
  ·have q2 : (k == 3) = false := by simpa using h2
   have HR : Hid (wO k = (k == 6)) := by unfold Hid wO; rw [q1, q2]; simp
   go_enter Tryz.func147, Tryz.ntmps147
   go_wp2_with fail
   go_ret
   exact ⟨zP HR.out.symm, rfl⟩
theorem ow : k8 146 (fun k => k == 4) := by
 intro w k
 go_enter Tryz.func146, Tryz.ntmps146
 go_wp2_with fail
 go_ret
 exact ⟨rfl, rfl⟩
def ThR (w : World) (N : Array Value) (ds : List Dv) (ls : List Lk) (pos : Int) (p : Int → Bool) (n gk : Nat) (ov iv : Value) (wr : World) : Prop := ∃ (i m c : Nat) (A : Option Addr), ov = .slice A m c ∧ iv = .int .i64 i ∧ i ≤ n ∧ gk = n - i ∧ m ≤ i ∧ Hid ((yA ds ls pos p i).length = m) ∧ Hid (zQ wr (w.heap.size + 1) A m c (yA ds ls pos p i)) ∧ Hid (uI w N wr)
theorem qS (g : Nat) (p : Int → Bool) (eg : ∀ args w, (callFunc g args).run Tryz.prog w = .ok (.enter g args) w) (hp : k8 g p) (pos : Int) (An Ad Al : Option Addr) (nn cn nd cd n c Bn Bd Bl : Nat) (ns : List Nd) (ds : List Dv) (ls : List Lk) (w : World) (hla : Laid w) (hn : Sl w Bn 3 An nn cn (ns.flatMap Nd.cells)) (hd : Sl w Bd 5 Ad nd cd (ds.flatMap Dv.cells)) (hs : Sl w Bl 3 Al n c (ls.flatMap Lk.cells)) (hBn : Bn ≤ w.heap.size) (hBd : Bd ≤ w.heap.size) (hBl : Bl ≤ w.heap.size) (hnd : nd ≤ 1000)
 (hsn : ∀ x ∈ ns, x.name.size ≤ 9223372036854775807) (hsd : ∀ x ∈ ds, x.name.size ≤ 9223372036854775807) :
 Calls Tryz.prog 145 #[.agg #[.slice An nn cn, .slice Ad nd cd], .slice Al n c, .int .i64 pos, .func (.func g) #[] #[]] w (wB w (zL ns ds ls) (yA ds ls pos p nd)) := by
 have HS := iD hs; have HD := iD hd
 have hdl := hd.le
 have HST : Hid (uI w #[.slice An nn cn, .slice Ad nd cd] (w.alloc (.cells #[.slice An nn cn, .slice Ad nd cd] 30))) := ⟨Blk.new _ _ _, (Below.refl _ _).alloc lR _⟩
 have HCK := iD (vC An Ad Al nn cn nd cd n c Bn Bd Bl ns ds ls (w.alloc (.cells #[.slice An nn cn, .slice Ad nd cd] 30)) (hla.alloc _) (hn.below HST.out.bl hBn) (hd.below HST.out.bl hBd) (hs.below HST.out.bl hBl) (by simp; omega) (by simp; omega) (by simp; omega) hsn hsd)
 have HP := iD hp
 clear hn hd hs hsn hsd hla hp
 go_enter Tryz.func145, Tryz.ntmps145
 go_wp2_with fail
 generalize World.alloc _ _ = W at *
 refine HCK.out.mono ?_
 rintro e w1 ⟨rfl, hb1⟩
 have HS1 := iD (HST.out.later hb1)
 clear hb1 HST HCK
 by_cases h0 : zL ns ds ls = 0; rotate_left
 ·have q0 : (zL ns ds ls != 0) = true := by simpa using h0
  have HNZ := iD h0
  clear h0
  go_wp2_with fail
  go_ret2
  exact ⟨.inl ⟨HNZ.out, rfl⟩, HS1.out.bl⟩
 have HZ := iD h0
 rw [h0]
 clear h0
 have k1 : w1.cell? ⟨w.heap.size, 1, none⟩ = some (.slice Ad nd cd) := HS1.out.bn.cell 1
 go_wp2_with fail
 clear k1
 go_loopg [11, 25] nd (ThR w #[.slice An nn cn, .slice Ad nd cd] ds ls pos p nd)
 case atStart => exact ⟨0, 0, 0, none, rfl, rfl, Nat.zero_le _, rfl, Nat.le_refl _, rfl, World.ownsRow_nil _ _ _ _, HS1⟩
 case round =>
  clear HS1
  obtain ⟨i, m, c3, A, rfl, rfl, hi, rfl, hmi, hlen, hO, hst⟩ := hrel
  by_cases hlt : i < nd
  ·obtain ⟨b, off, x, rfl, hb, hx, hc⟩ := (HD.out.below hst.out.bl hBd).at (fun _ => rfl) (by decide) hlt
   have HKO := iD (xz hx)
   obtain ⟨nm, kd, xa, xb, co⟩ := x
   have c0 : wr.cell? ⟨b, off + i * 5, none⟩ = some (.string nm) := hc 0 _ rfl
   have c1 : wr.cell? ⟨b, off + i * 5 + 1, none⟩ = some (.int .i64 kd) := hc 1 _ rfl
   have c2 : wr.cell? ⟨b, off + i * 5 + 2, none⟩ = some (.int .i64 xa) := hc 2 _ rfl
   have c3' : wr.cell? ⟨b, off + i * 5 + 3, none⟩ = some (.int .i64 xb) := hc 3 _ rfl
   have c4 : wr.cell? ⟨b, off + i * 5 + 4, none⟩ = some (.int .i64 co) := hc 4 _ rfl
   clear hc hx
   have HS2 : Hid (uI w _ (wr.alloc (.cells #[.string nm, .int .i64 kd, .int .i64 xa, .int .i64 xb, .int .i64 co] 38))) := hst.out.later ((Below.refl _ _).alloc lR _)
   have HK2 : Hid (Blk (wr.alloc (.cells #[.string nm, .int .i64 kd, .int .i64 xa, .int .i64 xb, .int .i64 co] 38)) wr.heap.size 38 #[.string nm, .int .i64 kd, .int .i64 xa, .int .i64 xb, .int .i64 co]) := Blk.new _ _ _
   have HO2 : Hid (zQ (wr.alloc (.cells #[.string nm, .int .i64 kd, .int .i64 xa, .int .i64 xb, .int .i64 co] 38)) (w.heap.size + 1) A m c3 (yA ds ls pos p i)) := World.ownsRow.alloc hO.out _
   have hzr := hst.out.bn.lt
   clear hst hO
   go_upto_region 8 with (fail)
   clear c0 c1 c2 c3' c4
   generalize World.alloc wr _ = W2 at *
   have hz2 := HS2.out.bl.size
   go_wp2_with fail
   refine (tU Al n c Bl ls i W2 (HS.out.below HS2.out.bl hBl) (by omega)).mono ?_
   rintro e w3 ⟨rfl, hb3⟩
   have HS3 := iD (HS2.out.later hb3)
   have HK3 := iD (HK2.out.below hb3 HK2.out.lt)
   have HO3 := iD (HO2.out.later hb3)
   clear hb3 HS2 HK2 HO2 hz2
   unfold uD
   have HSU := iD (tL ds ls pos p i)
   have HTB : Hid (py ds ls pos p i = (decide (yw ls i = some pos) && p kd)) := by unfold Hid py; rw [HKO.out]
   have hz3 := HS3.out.bn.lt
   rcases hl : yw ls i with _ | pv
   ·have HF : Hid (yA ds ls pos p (i + 1) = yA ds ls pos p i) := by unfold Hid; rw [HSU.out, HTB.out, hl]; rfl
    clear hl
    simp only [Option.getD_none, Option.isSome_none]
    go_wp2_with fail
    go_roundg (nd - (i + 1))
    case rel => exact ⟨i + 1, m, c3, A, rfl, by go_num, by omega, rfl, by omega, by rw [HF.out]; exact hlen, by rw [HF.out]; exact HO3, HS3⟩
    case measure => omega
   ·simp only [Option.getD_some, Option.isSome_some]
    by_cases hpp : pv = pos
    ·subst hpp
     have qp : (pv == pv) = true := by simp
     have k1 : w3.cell? ⟨wr.heap.size, 1, none⟩ = some (.int .i64 kd) := HK3.out.cell 1
     rcases hpk : p kd with _ | _
     ·have hcall := HP.out w3 kd
      rw [hpk] at hcall
      have HF : Hid (yA ds ls pv p (i + 1) = yA ds ls pv p i) := by unfold Hid; rw [HSU.out, HTB.out, hl, hpk]; simp
      clear hl hpk
      go_wp2_with (go_at_fn g; refine hcall.mono ?_; rintro e w' ⟨rfl, rfl⟩)
      go_roundg (nd - (i + 1))
      case rel => exact ⟨i + 1, m, c3, A, rfl, by go_num, by omega, rfl, by omega, by rw [HF.out]; exact hlen, by rw [HF.out]; exact HO3, HS3⟩
      case measure => omega
     ·have hcall := HP.out w3 kd
      rw [hpk] at hcall
      have HF : Hid (yA ds ls pv p (i + 1) = yA ds ls pv p i ++ [(i : Int)]) := by unfold Hid; rw [HSU.out, HTB.out, hl, hpk]; simp
      clear hl hpk
      go_upto_region 10 with (go_at_fn g; refine hcall.mono ?_; rintro e w' ⟨rfl, rfl⟩)
      clear k1 qp hcall
      go_wp2_with (at_builtin; go_must (refine zW rfl (.tmp 48) (.tmp 50) rfl yX (by rfl) (World.ownsRow.alloc HO3.out _) (by rfl) (Sl.newest (n := 1) (by simp) (by rfl) (by decide)) (by simp [Value.oneCell']) (by omega) (by omega) (by simp; omega) ?_; intro A' cap' w5 hown5 hgr5 hat5; have HO5 := iD hown5; have HG5 := iD hgr5; clear hown5 hgr5 hat5))
      go_roundg (nd - (i + 1))
      case rel =>
       have hr1 : ∀ b, (Value.slice A m c3).ownBlock = some b → w.heap.size + 1 ≤ b := fun b e => (HO3.out.lt b e).1
       have hg5 := HG5.out
       have hb5 : Below (w.heap.size + 1) w3 w5 := ((Below.refl _ _).alloc hz3 _).trans ⟨hg5.os, hg5.tape, hg5.output, hg5.size, fun t ht => hg5.block t (by simp; omega) (fun e => by have := hr1 t e.symm; omega)⟩
       refine ⟨i + 1, m + 1, cap', A', rfl, by go_num, by omega, rfl, by omega, ?_, ?_, ⟨HS3.out.bn.below hb5 (by omega), HS3.out.bl.trans (hb5.mono (by omega))⟩⟩
       ·unfold Hid; rw [HF.out, List.length_append, hlen.out]; rfl
       ·unfold Hid zQ; rw [HF.out, zw]; exact HO5.out
      case measure => omega
    ·have qp : (pv == pos) = false := by simpa using hpp
     have HF : Hid (yA ds ls pos p (i + 1) = yA ds ls pos p i) := by unfold Hid; rw [HSU.out, HTB.out, hl]; simp [hpp]
     clear hl hpp
     go_wp2_with fail
     go_roundg (nd - (i + 1))
     case rel => exact ⟨i + 1, m, c3, A, rfl, by go_num, by omega, rfl, by omega, by rw [HF.out]; exact hlen, by rw [HF.out]; exact HO3, HS3⟩
     case measure => omega
  ·obtain rfl : i = nd := by omega
   have hii : decide (i < i) = false := by simp
   go_wp2_with fail
   go_ret2
   refine ⟨.inr ⟨HZ.out, A, c3, by rw [hlen.out]; rfl, ?_⟩, hst.out.bl⟩
   unfold Hid; rw [hlen.out]; exact hO.out.mono (by omega)
theorem kY (An Ad Al : Option Addr) (nn cn nd cd n c Bn Bd Bl : Nat) (ns : List Nd) (ds : List Dv) (ls : List Lk) (w : World) (hla : Laid w) (hn : Sl w Bn 3 An nn cn (ns.flatMap Nd.cells)) (hd : Sl w Bd 5 Ad nd cd (ds.flatMap Dv.cells)) (hs : Sl w Bl 3 Al n c (ls.flatMap Lk.cells)) (hBn : Bn ≤ w.heap.size) (hBd : Bd ≤ w.heap.size) (hBl : Bl ≤ w.heap.size) (hnd : nd ≤ 1000)
 (hsn : ∀ x ∈ ns, x.name.size ≤ 9223372036854775807) (hsd : ∀ x ∈ ds, x.name.size ≤ 9223372036854775807) :
 Calls Tryz.prog 133 #[.agg #[.slice An nn cn, .slice Ad nd cd], .slice Al n c] w (wB w (zL ns ds ls) (yA ds ls 1 wO nd)) := by
 have HB : Hid (Below w.heap.size w (w.alloc (.cells #[.slice An nn cn, .slice Ad nd cd] 30))) := (Below.refl _ _).alloc lR _
 have HC := iD (qS 147 wO (enters_of Tryz.func147 (by kernel_rfl) rfl) jY 1 An Ad Al nn cn nd cd n c Bn Bd Bl ns ds ls (w.alloc (.cells #[.slice An nn cn, .slice Ad nd cd] 30)) (hla.alloc _) (hn.below HB.out hBn) (hd.below HB.out hBd) (hs.below HB.out hBl) (by simp; omega) (by simp; omega) (by simp; omega) hnd hsn hsd)
 have HW : Hid ((w.alloc (.cells #[.slice An nn cn, .slice Ad nd cd] 30)).heap.size = w.heap.size + 1) := by unfold Hid; simp
 clear hn hd hs hla
 generalize yA ds ls 1 wO nd = l at *
 go_enter Tryz.func133, Tryz.ntmps133
 go_wp2_with fail
 generalize World.alloc _ _ = W at *
 refine HC.out.mono ?_
 rintro e w1 ⟨⟨h1, rfl⟩ | ⟨h1, A, c1, rfl, hO⟩, hb⟩
 ·have HNZ := iD h1
  clear h1
  go_wp2_with fail
  go_ret2
  exact ⟨.inl ⟨HNZ.out, rfl⟩, HB.out.trans (hb.out.mono HB.out.size)⟩
 ·have HZ := iD h1
  clear h1
  go_wp2_with fail
  go_ret2
  exact ⟨.inr ⟨HZ.out, A, c1, rfl, hO.out.mono (by have := HW.out; omega)⟩, HB.out.trans (hb.out.mono HB.out.size)⟩
theorem mI (An Ad Al : Option Addr) (nn cn nd cd n c Bn Bd Bl : Nat) (ns : List Nd) (ds : List Dv) (ls : List Lk) (w : World) (hla : Laid w) (hn : Sl w Bn 3 An nn cn (ns.flatMap Nd.cells)) (hd : Sl w Bd 5 Ad nd cd (ds.flatMap Dv.cells)) (hs : Sl w Bl 3 Al n c (ls.flatMap Lk.cells)) (hBn : Bn ≤ w.heap.size) (hBd : Bd ≤ w.heap.size) (hBl : Bl ≤ w.heap.size) (hnd : nd ≤ 1000)
 (hsn : ∀ x ∈ ns, x.name.size ≤ 9223372036854775807) (hsd : ∀ x ∈ ds, x.name.size ≤ 9223372036854775807) :
 Calls Tryz.prog 132 #[.agg #[.slice An nn cn, .slice Ad nd cd], .slice Al n c] w (wB w (zL ns ds ls) (yA ds ls 2 (fun k => k == 4) nd)) := by
 have HB : Hid (Below w.heap.size w (w.alloc (.cells #[.slice An nn cn, .slice Ad nd cd] 30))) := (Below.refl _ _).alloc lR _
 have HC := iD (qS 146 (fun k => k == 4) (enters_of Tryz.func146 (by kernel_rfl) rfl) ow 2 An Ad Al nn cn nd cd n c Bn Bd Bl ns ds ls (w.alloc (.cells #[.slice An nn cn, .slice Ad nd cd] 30)) (hla.alloc _) (hn.below HB.out hBn) (hd.below HB.out hBd) (hs.below HB.out hBl) (by simp; omega) (by simp; omega) (by simp; omega) hnd hsn hsd)
 have HW : Hid ((w.alloc (.cells #[.slice An nn cn, .slice Ad nd cd] 30)).heap.size = w.heap.size + 1) := by unfold Hid; simp
 clear hn hd hs hla
 generalize yA ds ls 2 (fun k => k == 4) nd = l at *
 go_enter Tryz.func132, Tryz.ntmps132
 go_wp2_with fail
 generalize World.alloc _ _ = W at *
 refine HC.out.mono ?_
 rintro e w1 ⟨⟨h1, rfl⟩ | ⟨h1, A, c1, rfl, hO⟩, hb⟩
 ·have HNZ := iD h1
  clear h1
  go_wp2_with fail
  go_ret2
  exact ⟨.inl ⟨HNZ.out, rfl⟩, HB.out.trans (hb.out.mono HB.out.size)⟩
 ·have HZ := iD h1
  clear h1
  go_wp2_with fail
  go_ret2
  exact ⟨.inr ⟨HZ.out, A, c1, rfl, hO.out.mono (by have := HW.out; omega)⟩, HB.out.trans (hb.out.mono HB.out.size)⟩
end
end Go.Proofs.YtepicjpdhpojnaaGreatDoor
