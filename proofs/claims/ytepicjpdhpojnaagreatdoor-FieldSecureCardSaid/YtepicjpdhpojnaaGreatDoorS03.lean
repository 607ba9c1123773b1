import Derived.Test.YtepicjpdhpojnaaGreatDoorS02
import Derived.Test.YtepicjpdhpojnaaGreatDoorProg
import Derived.Test.YtepicjpdhpojnaaGreatDoorS00
import Derived.Deep.OwnRows
import Derived.Deep.AppendSrc
import Derived.Deep.LoopGhost
set_option maxHeartbeats 2000000
namespace Go.Proofs.YtepicjpdhpojnaaGreatDoor
open Go.RowKit
theorem position_any (p : Int) (w : World) (hl : Laid w) : Calls Tryz.prog 99 #[.int .i64 p] w fun e w' => e = .returned (.bool (posB p)) ∧ w = w' := by
 have c1 := hl.2 1 _ rfl
 have c3 := hl.2 3 _ rfl
 have c5 := hl.2 5 _ rfl
 have c7 := hl.2 7 _ rfl
 clear hl
 by_cases h0 : 0 ≤ p; rotate_left
 ·have h0' : decide (0 ≤ p) = false := by simpa using h0
  have HP : Hid (posB p = false) := by unfold Hid; simp [posB]; omega
  go_enter Tryz.func99, Tryz.ntmps99
  go_wp2_with fail
  go_ret
  exact ⟨ret_bool (by rw [HP.out]), rfl⟩
 by_cases h4 : p < 4; rotate_left
 ·have h4' : decide (p < 4) = false := by simpa using h4
  have HP : Hid (posB p = false) := by unfold Hid; simp [posB]; omega
  go_enter Tryz.func99, Tryz.ntmps99
  go_wp2_with fail
  go_ret
  exact ⟨ret_bool (by rw [HP.out]), rfl⟩
 rcases (show p = 0 ∨ p = 1 ∨ p = 2 ∨ p = 3 by omega) with rfl | rfl | rfl | rfl
 all_goals
  go_enter Tryz.func99, Tryz.ntmps99
  go_wp2_with fail
  go_ret
  exact ⟨ret_bool (by decide), rfl⟩
end Go.Proofs.YtepicjpdhpojnaaGreatDoor
namespace Go.Proofs.YtepicjpdhpojnaaGreatDoor
open Go.RowKit
def stateErr (ns : List Nd) (ds : List Dv) (s : List Int) : Int := if checkN ns ds ≠ 0 then checkN ns ds else if s.length ≠ ds.length then 9 else if ∀ p ∈ s, posB p = true then 0 else 10
theorem mcheck_pos (An Ad As : Option Addr) (nn cn nd cd n c Bn Bd Bs : Nat) (ns : List Nd) (ds : List Dv) (s : List Int) (w : World) (hl : Laid w) (hn : Sl w Bn 3 An nn cn (ns.flatMap Nd.cells)) (hd : Sl w Bd 5 Ad nd cd (ds.flatMap Dv.cells)) (hs : Sl w Bs 1 As n c (intsV s)) (hBn : Bn ≤ w.heap.size) (hBd : Bd ≤ w.heap.size) (hBs : Bs ≤ w.heap.size)
 (hsn : ∀ x ∈ ns, x.name.size ≤ 9223372036854775807) (hsd : ∀ x ∈ ds, x.name.size ≤ 9223372036854775807) :
 Calls Tryz.prog 98 #[.agg #[.slice An nn cn, .slice Ad nd cd], .slice As n c, .func (.func 99) #[] #[]] w fun e w' => e = .returned (.int .i64 (stateErr ns ds s)) ∧ Below w.heap.size w w' := by
 have HLS := Lib.hid (hs.len (fun _ => rfl) (by decide)); have HLD := Lib.hid (hd.len (fun _ => rfl) (by decide))
 obtain ⟨hnc, hcm⟩ := hs.le
 obtain ⟨hdc, hdm⟩ := hd.le
 have HE : Hid (stateErr ns ds s = if checkN ns ds ≠ 0 then checkN ns ds else if n ≠ nd then 9 else if ∀ p ∈ s, posB p = true then 0 else 10) := by unfold Hid; rw [stateErr, HLS.out, HLD.out]
 have HL := Lib.hid hl; have HN := Lib.hid hn; have HD := Lib.hid hd; have HS := Lib.hid hs
 have HCK := Lib.hid (ncheck_any An Ad nn cn nd cd Bn Bd ns ds (w.alloc (.cells #[.slice An nn cn, .slice Ad nd cd] 30)) (hl.alloc _) (hn.alloc hBn _) (hd.alloc hBd _) (by simp; omega) (by simp; omega) hsn hsd)
 clear hl hn hd hs hsn hsd
 generalize checkN ns ds = er at *
 have HBW : Hid (Below w.heap.size w (w.alloc (.cells #[.slice An nn cn, .slice Ad nd cd] 30))) := (Below.refl _ _).alloc (Nat.le_refl _) _
 by_cases h0 : er = 0; rotate_left
 ·have h0' : (er != 0) = true := by simpa using h0
  have HR : Hid (stateErr ns ds s = er) := by unfold Hid; rw [HE.out, if_pos h0]
  clear h0
  go_enter Tryz.func98, Tryz.ntmps98
  go_wp2_with fail
  refine HCK.out.mono ?_
  rintro e w1 ⟨rfl, hb1⟩
  go_wp2_with fail
  go_ret
  exact ⟨ret_int (by rw [HR.out]), HBW.out.trans (hb1.mono (by simp))⟩
 subst h0
 go_enter Tryz.func98, Tryz.ntmps98
 go_wp2_with fail
 refine HCK.out.mono ?_
 rintro e w1 ⟨rfl, hb1⟩
 have HK1 := Lib.hid ((Blk.new w 30 #[.slice An nn cn, .slice Ad nd cd]).below hb1 (by simp))
 have HB1 := Lib.hid (HBW.out.trans (hb1.mono (by simp)))
 have k1 : w1.cell? ⟨w.heap.size, 1, none⟩ = some (.slice Ad nd cd) := HK1.out.cell 1
 have hz1 := HB1.out.size
 clear hb1 HCK
 by_cases hnd : n = nd; rotate_left
 ·have q : decide (n = nd) = false := by simpa using hnd
  have q' : ((n : Int) != (nd : Int)) = true := by simp; omega
  have HR : Hid (stateErr ns ds s = 9) := by unfold Hid; rw [HE.out, if_neg (by simp), if_pos hnd]
  clear hnd
  go_wp2_with fail
  go_ret
  exact ⟨ret_int (by rw [HR.out]), HB1.out⟩
 subst hnd
 have HL1 := Lib.hid (HL.out.below HB1.out (Nat.le_refl _))
 have HS1 := Lib.hid (HS.out.below HB1.out hBs)
 go_wp2_with fail
 clear k1
 go_loop [9, 23] (fun _ iv => ∃ i : Nat, iv = .int .i64 i ∧ i ≤ n ∧ Hid (∀ p ∈ s.take i, posB p = true)) (fun _ iv => n - (intOf iv).toNat)
 case atStart => exact ⟨0, rfl, Nat.zero_le _, by simp [Hid]⟩
 case round =>
  obtain ⟨i, rfl, hi, hok⟩ := hrel
  by_cases hlt : i < n
  ·obtain ⟨b, off, x, rfl, hb, hx, hc⟩ := HS1.out.at1 hlt
   have HX := Lib.hid hx; clear hx
   have HPA := Lib.hid (position_any x w1 HL1.out)
   rcases hp : posB x with _ | _
   ·have HR : Hid (stateErr ns ds s = 10) := by
     unfold Hid
     rw [HE.out, if_neg (by simp), if_neg (by simp), if_neg (fun h => by have := h x (List.mem_of_getElem? HX.out); rw [hp] at this; cases this)]
    rw [hp] at HPA
    clear hp
    go_wp2_with fail
    refine HPA.out.mono ?_
    rintro e w2 ⟨rfl, rfl⟩
    go_wp2_with fail
    go_ret
    exact ⟨ret_int (by rw [HR.out]), HB1.out⟩
   ·rw [hp] at HPA
    have HP := Lib.hid hp; clear hp
    go_wp2_with fail
    refine HPA.out.mono ?_
    rintro e w2 ⟨rfl, rfl⟩
    go_wp2_with fail
    go_round
    case rel =>
     refine ⟨i + 1, by go_num, by omega, fun p hp => ?_⟩
     rw [take_snoc HX.out] at hp
     rcases List.mem_append.1 hp with h | h
     ·exact hok.out p h
     ·rw [List.mem_singleton.1 h]; exact HP.out
    case measure => simp [intOf]; omega
  ·obtain rfl : i = n := by omega
   have hjj : decide (i < i) = false := by simp
   have HR : Hid (stateErr ns ds s = 0) := by
    unfold Hid
    have := hok.out
    rw [List.take_of_length_le (by rw [HLS.out]; exact Nat.le_refl _)] at this
    rw [HE.out, if_neg (by simp), if_neg (by simp), if_pos this]
   go_wp2_with fail
   go_ret
   exact ⟨ret_int (by rw [HR.out]), HB1.out⟩
theorem mstate_any (An Ad As : Option Addr) (nn cn nd cd n c Bn Bd Bs : Nat) (ns : List Nd) (ds : List Dv) (s : List Int) (w : World) (hl : Laid w) (hn : Sl w Bn 3 An nn cn (ns.flatMap Nd.cells)) (hd : Sl w Bd 5 Ad nd cd (ds.flatMap Dv.cells)) (hs : Sl w Bs 1 As n c (intsV s)) (hBn : Bn ≤ w.heap.size) (hBd : Bd ≤ w.heap.size) (hBs : Bs ≤ w.heap.size)
 (hsn : ∀ x ∈ ns, x.name.size ≤ 9223372036854775807) (hsd : ∀ x ∈ ds, x.name.size ≤ 9223372036854775807) :
 Calls Tryz.prog 62 #[.agg #[.slice An nn cn, .slice Ad nd cd], .slice As n c] w fun e w' => e = .returned (.int .i64 (stateErr ns ds s)) ∧ Below w.heap.size w w' := by
 have HC := Lib.hid (mcheck_pos An Ad As nn cn nd cd n c Bn Bd Bs ns ds s (w.alloc (.cells #[.slice An nn cn, .slice Ad nd cd] 30)) (hl.alloc _) (hn.alloc hBn _) (hd.alloc hBd _) (hs.alloc hBs _) (by simp; omega) (by simp; omega) (by simp; omega) hsn hsd)
 clear hl hn hd hs hsn hsd
 go_enter Tryz.func62, Tryz.ntmps62
 go_wp2_with fail
 refine HC.out.mono ?_
 rintro e w1 ⟨rfl, hb1⟩
 go_wp2_with fail
 go_ret
 exact ⟨rfl, ((Below.refl _ _).alloc (Nat.le_refl _) _).trans (hb1.mono (by simp))⟩
end Go.Proofs.YtepicjpdhpojnaaGreatDoor
namespace Go.Proofs.YtepicjpdhpojnaaGreatDoor
structure Lk where
 dev : Int
 pos : Int
 key : Int
def befB (a b : Lk) : Bool := decide (a.dev < b.dev) || (decide (a.dev = b.dev) && decide (a.key < b.key))
theorem bef_iff (a b : Lk) : befB a b = true ↔ a.dev < b.dev ∨ (a.dev = b.dev ∧ a.key < b.key) := by simp [befB]
theorem bef_trans {a b c : Lk} (h1 : befB a b = true) (h2 : befB b c = true) : befB a c = true := by rw [bef_iff] at *; omega
theorem bef_asymm {a b : Lk} (h1 : befB a b = true) (h2 : befB b a = true) : False := by rw [bef_iff] at *; omega
theorem bef_total {a b : Lk} (h : a.key ≠ b.key) (h1 : befB a b = false) : befB b a = true := by
 have h2 : ¬ befB a b = true := by rw [h1]; simp
 rw [bef_iff] at *; omega
def kindOf (ds : List Dv) (d : Int) : Int := match ds[d.toNat]? with | some x => x.kind | none => 0
def lkErr (ds : List Dv) (k : Lk) : Int := if k.dev < 0 then 8 else if (ds.length : Int) ≤ k.dev then 8 else if kindOf ds k.dev = 5 then 6 else if k.pos ≠ 1 ∧ k.pos ≠ 2 then 10 else if k.key < 0 then 5 else if 65536 < k.key then 5 else 0
def othB (k x : Lk) : Bool := decide (x.dev = k.dev) && !decide (x.pos = k.pos)
def othL (l : List Lk) (k : Lk) : Bool := l.any (othB k)
def usdL (l : List Lk) (q : Int) : Bool := l.any fun x => decide (x.key = q)
theorem oth_not {l : List Lk} {k : Lk} : othL l k = false ↔ ∀ x ∈ l, x.dev = k.dev → x.pos = k.pos := by
 unfold othL othB
 rw [List.any_eq_false]
 constructor
 ·intro h x hx hd
  have := h x hx
  simp [hd] at this
  exact this
 ·intro h x hx
  simp
  exact h x hx
theorem usd_not {l : List Lk} {q : Int} : usdL l q = false ↔ ∀ x ∈ l, x.key ≠ q := by
 unfold usdL
 rw [List.any_eq_false]
 constructor
 ·intro h x hx; have := h x hx; simpa using this
 ·intro h x hx; simpa using h x hx
def ordBad (ls : List Lk) (i : Nat) (k : Lk) : Bool := decide (0 < i) && !(match ls[i - 1]? with | some p => befB p k | none => true)
def errAt (ds : List Dv) (ls : List Lk) (i : Nat) : Int := match ls[i]? with
 | none => 0
 | some k => if lkErr ds k ≠ 0 then lkErr ds k else if ordBad ls i k = true then 14 else if othL (ls.take i) k = true then 18 else if usdL (ls.take i) k.key = true then 4 else 0
def firstE (ds : List Dv) (ls : List Lk) : Nat → Int
 | 0 => 0
 | i + 1 => if firstE ds ls i ≠ 0 then firstE ds ls i else errAt ds ls i
theorem firstE_stop {ds : List Dv} {ls : List Lk} {i : Nat} {e : Int} (h : firstE ds ls i = 0) (he : errAt ds ls i = e) (h0 : e ≠ 0) : ∀ n, i < n → firstE ds ls n = e
 | 0, hn => by omega
 | n + 1, hn => by
  rw [firstE]
  rcases Nat.lt_succ_iff_lt_or_eq.1 hn with hlt | rfl
  ·rw [firstE_stop h he h0 n hlt, if_pos h0]
  ·rw [h, if_neg (by simp), he]
theorem firstE_zero {ds : List Dv} {ls : List Lk} : ∀ n, firstE ds ls n = 0 ↔ ∀ i, i < n → errAt ds ls i = 0
 | 0 => ⟨fun _ i hi => by omega, fun _ => rfl⟩
 | n + 1 => by
  rw [firstE]
  have ih := firstE_zero (ds := ds) (ls := ls) n
  by_cases h : firstE ds ls n = 0
  ·rw [if_neg (by simp [h])]
   constructor
   ·intro he i hi
    rcases Nat.lt_succ_iff_lt_or_eq.1 hi with hlt | rfl
    ·exact ih.1 h i hlt
    ·exact he
   ·intro hall; exact hall n (by omega)
  ·rw [if_pos h]
   exact ⟨fun e => absurd e h, fun hall => ih.2 fun i hi => hall i (by omega)⟩
theorem firstE_next {ds : List Dv} {ls : List Lk} {i : Nat} (h : firstE ds ls i = 0) (he : errAt ds ls i = 0) : firstE ds ls (i + 1) = 0 := by rw [firstE, h, if_neg (by simp), he]
def LkRel (a b : Lk) : Prop := befB a b = true ∧ (a.dev = b.dev → a.pos = b.pos) ∧ a.key ≠ b.key
def GoodL (ds : List Dv) (ls : List Lk) : Prop := ls.length ≤ 128 ∧ (∀ k ∈ ls, lkErr ds k = 0) ∧ ls.Pairwise LkRel
theorem errAt_zero {ds : List Dv} {ls : List Lk} {i : Nat} {k : Lk} (hk : ls[i]? = some k) : errAt ds ls i = 0 ↔ lkErr ds k = 0 ∧ ordBad ls i k = false ∧ othL (ls.take i) k = false ∧ usdL (ls.take i) k.key = false := by
 unfold errAt
 rw [hk]
 simp only
 by_cases h1 : lkErr ds k = 0
 ·rw [if_neg (by simp [h1])]
  rcases h2 : ordBad ls i k with _ | _
  ·rw [if_neg (by simp)]
   rcases h3 : othL (ls.take i) k with _ | _
   ·rw [if_neg (by simp)]
    rcases h4 : usdL (ls.take i) k.key with _ | _
    ·simp [h1]
    ·simp
   ·simp
  ·simp
 ·rw [if_pos h1]; simp [h1]
theorem good_of {ds : List Dv} {ls : List Lk} (hl : ls.length ≤ 128) (h : firstE ds ls ls.length = 0) : GoodL ds ls := by
 have hall := (firstE_zero ls.length).1 h
 have at' : ∀ i (hi : i < ls.length), lkErr ds ls[i] = 0 ∧ ordBad ls i ls[i] = false ∧ othL (ls.take i) ls[i] = false ∧ usdL (ls.take i) ls[i].key = false := fun i hi => (errAt_zero (List.getElem?_eq_getElem hi)).1 (hall i hi)
 refine ⟨hl, fun k hk => ?_, ?_⟩
 ·obtain ⟨i, hi, rfl⟩ := List.mem_iff_getElem.1 hk
  exact (at' i hi).1
 ·have step : ∀ i (hi : i + 1 < ls.length), befB ls[i] ls[i + 1] = true := by
   intro i hi
   have := (at' (i + 1) hi).2.1
   unfold ordBad at this
   rw [Nat.add_sub_cancel, List.getElem?_eq_getElem (show i < ls.length by omega)] at this
   simpa using this
  have bef : ∀ (j i : Nat) (hj : j < ls.length) (hij : i < j), befB (ls[i]'(by omega)) ls[j] = true := by
   intro j
   induction j with
   | zero => intro i hj hij; omega
   | succ j ih =>
    intro i hj hij
    rcases Nat.lt_succ_iff_lt_or_eq.1 hij with hlt | rfl
    ·exact bef_trans (ih i (by omega) hlt) (step j hj)
    ·exact step i hj
  rw [List.pairwise_iff_getElem]
  intro i j hi hj hij
  obtain ⟨_, _, h3, h4⟩ := at' j hj
  have hm : ls[i] ∈ ls.take j := by
   rw [List.mem_iff_getElem]
   exact ⟨i, by simp; omega, by simp⟩
  exact ⟨bef j i hj hij, fun hd => oth_not.1 h3 _ hm hd, usd_not.1 h4 _ hm⟩
theorem good_err {ds : List Dv} {ls : List Lk} (h : GoodL ds ls) : firstE ds ls ls.length = 0 := by
 obtain ⟨_, h2, h3⟩ := h
 rw [firstE_zero]
 intro i hi
 rw [errAt_zero (List.getElem?_eq_getElem hi)]
 rw [List.pairwise_iff_getElem] at h3
 have mem : ∀ x ∈ ls.take i, ∃ j, ∃ hj : j < ls.length, j < i ∧ x = ls[j] := by
  intro x hx
  obtain ⟨j, hj, rfl⟩ := List.mem_iff_getElem.1 hx
  simp at hj
  exact ⟨j, by omega, by omega, by simp⟩
 refine ⟨h2 _ (List.getElem_mem hi), ?_, ?_, ?_⟩
 ·unfold ordBad
  rcases Nat.eq_zero_or_pos i with rfl | h0
  ·rfl
  ·rw [List.getElem?_eq_getElem (show i - 1 < ls.length by omega)]
   simp only
   rw [(h3 (i - 1) i (by omega) hi (by omega)).1]
   simp
 ·rw [oth_not]
  intro x hx hd
  obtain ⟨j, hj, hji, rfl⟩ := mem x hx
  exact (h3 j i hj hi hji).2.1 hd
 ·rw [usd_not]
  intro x hx
  obtain ⟨j, hj, hji, rfl⟩ := mem x hx
  exact (h3 j i hj hi hji).2.2
def lckL : List Lk → Int → Option Int
 | [], _ => none
 | x :: l, d => if x.dev = d then some x.pos else lckL l d
theorem lck_mem {l : List Lk} {d p : Int} (h : lckL l d = some p) : ∃ x ∈ l, x.dev = d ∧ x.pos = p := by
 induction l with
 | nil => cases h
 | cons x l ih =>
  rw [lckL] at h
  split at h
  ·next hd => exact ⟨x, List.mem_cons_self, hd, by injection h⟩
  ·obtain ⟨y, hy, h1⟩ := ih h; exact ⟨y, List.mem_cons_of_mem _ hy, h1⟩
theorem lck_none {l : List Lk} {d : Int} : lckL l d = none ↔ ∀ x ∈ l, x.dev ≠ d := by
 induction l with
 | nil => simp [lckL]
 | cons x l ih =>
  rw [lckL]
  split
  ·next hd => simp [hd]
  ·next hd => rw [ih]; simp [hd]
theorem same_pos {ds : List Dv} {ls : List Lk} (h : GoodL ds ls) {x y : Lk} (hx : x ∈ ls) (hy : y ∈ ls) (hd : x.dev = y.dev) : x.pos = y.pos := by
 obtain ⟨i, hi, rfl⟩ := List.mem_iff_getElem.1 hx
 obtain ⟨j, hj, rfl⟩ := List.mem_iff_getElem.1 hy
 have h3 := List.pairwise_iff_getElem.1 h.2.2
 rcases Nat.lt_trichotomy i j with hij | rfl | hij
 ·exact (h3 i j hi hj hij).2.1 hd
 ·rfl
 ·exact ((h3 j i hj hi hij).2.1 hd.symm).symm
theorem lck_of {ds : List Dv} {ls : List Lk} (h : GoodL ds ls) {x : Lk} (hx : x ∈ ls) : lckL ls x.dev = some x.pos := by
 rcases hl : lckL ls x.dev with _ | p
 ·exact absurd rfl (lck_none.1 hl x hx)
 ·obtain ⟨y, hy, h1, h2⟩ := lck_mem hl
  rw [← h2, same_pos h hy hx h1]
theorem oth_lck {ds : List Dv} {ls : List Lk} (h : GoodL ds ls) (k : Lk) : othL ls k = (match lckL ls k.dev with | some p => !decide (p = k.pos) | none => false) := by
 rcases hl : lckL ls k.dev with _ | p
 ·simp only
  rw [oth_not]
  intro x hx hd
  exact absurd hd (lck_none.1 hl x hx)
 ·obtain ⟨y, hy, h1, h2⟩ := lck_mem hl
  simp only
  by_cases hp : p = k.pos
  ·rw [decide_eq_true hp, Bool.not_true, oth_not]
   intro x hx hd
   rw [same_pos h hx hy (by omega), h2, hp]
  ·rw [decide_eq_false hp, Bool.not_false]
   rcases ho : othL ls k with _ | _
   ·exact absurd (by rw [← h2]; exact oth_not.1 ho y hy h1) hp
   ·rfl
def insL (k : Lk) (ls : List Lk) : List Lk := ls.takeWhile (fun x => befB x k) ++ k :: ls.dropWhile (fun x => befB x k)
theorem ins_len (k : Lk) (ls : List Lk) : (insL k ls).length = ls.length + 1 := by
 have := congrArg List.length (List.takeWhile_append_dropWhile (p := fun x => befB x k) (l := ls))
 rw [List.length_append] at this
 unfold insL
 rw [List.length_append, List.length_cons]; omega
theorem ins_mem (k x : Lk) (ls : List Lk) : x ∈ insL k ls ↔ x = k ∨ x ∈ ls := by
 have h : ls.takeWhile (fun x => befB x k) ++ ls.dropWhile (fun x => befB x k) = ls := List.takeWhile_append_dropWhile
 have hm : x ∈ ls ↔ x ∈ ls.takeWhile (fun x => befB x k) ∨ x ∈ ls.dropWhile (fun x => befB x k) := by rw [← List.mem_append, h]
 unfold insL
 rw [List.mem_append, List.mem_cons, hm]
 constructor
 ·rintro (h | h | h)
  ·exact .inr (.inl h)
  ·exact .inl h
  ·exact .inr (.inr h)
 ·rintro (h | h | h)
  ·exact .inr (.inl h)
  ·exact .inl h
  ·exact .inr (.inr h)
theorem ins_perm (k : Lk) (ls : List Lk) : (insL k ls).Perm (ls ++ [k]) := by
 unfold insL
 have h : ls.takeWhile (fun x => befB x k) ++ ls.dropWhile (fun x => befB x k) = ls := List.takeWhile_append_dropWhile
 refine List.perm_middle.trans ?_
 rw [h]
 exact (List.perm_append_comm (l₁ := [k]) (l₂ := ls))
theorem drop_head {p : Lk → Bool} : ∀ {l : List Lk} {y : Lk} {t : List Lk}, l.dropWhile p = y :: t → p y = false
 | [], _, _, h => by simp at h
 | x :: l, y, t, h => by
  rw [List.dropWhile_cons] at h
  split at h
  ·exact drop_head h
  ·next hp => injection h with h1; subst h1; simpa using hp
theorem ins_good {ds : List Dv} {ls : List Lk} {k : Lk} (h : GoodL ds ls) (hk : lkErr ds k = 0) (hu : usdL ls k.key = false) (ho : othL ls k = false) (hl : ls.length < 128) : GoodL ds (insL k ls) := by
 have hs : ls.takeWhile (fun x => befB x k) ++ ls.dropWhile (fun x => befB x k) = ls := List.takeWhile_append_dropWhile
 have hu' := usd_not.1 hu
 have ho' := oth_not.1 ho
 refine ⟨by rw [ins_len]; omega, fun x hx => ?_, ?_⟩
 ·rcases (ins_mem k x ls).1 hx with rfl | hx
  ·exact hk
  ·exact h.2.1 x hx
 ·have hp := h.2.2
  rw [← hs, List.pairwise_append] at hp
  obtain ⟨p1, p2, p3⟩ := hp
  have mem1 : ∀ x ∈ ls.takeWhile (fun x => befB x k), x ∈ ls := fun x hx => by rw [← hs]; exact List.mem_append_left _ hx
  have mem2 : ∀ x ∈ ls.dropWhile (fun x => befB x k), x ∈ ls := fun x hx => by rw [← hs]; exact List.mem_append_right _ hx
  have bef1 : ∀ x ∈ ls.takeWhile (fun x => befB x k), befB x k = true := fun x hx => by
   have := List.all_takeWhile (p := fun x => befB x k) (l := ls)
   exact List.all_eq_true.1 this x hx
  have bef2 : ∀ x ∈ ls.dropWhile (fun x => befB x k), befB k x = true := by
   rcases hd : ls.dropWhile (fun x => befB x k) with _ | ⟨y, t⟩
   ·intro x hx; cases hx
   ·have hy : befB k y = true := bef_total (hu' y (mem2 y (by rw [hd]; exact List.mem_cons_self))) (drop_head (p := fun x => befB x k) hd)
    intro x hx
    rcases List.mem_cons.1 hx with rfl | hx
    ·exact hy
    ·rw [hd, List.pairwise_cons] at p2
     exact bef_trans hy (p2.1 x hx).1
  unfold insL
  rw [List.pairwise_append, List.pairwise_cons]
  refine ⟨p1, ⟨fun x hx => ⟨bef2 x hx, fun e => (ho' x (mem2 x hx) e.symm).symm, fun e => hu' x (mem2 x hx) e.symm⟩, p2⟩, fun a ha b hb => ?_⟩
  rcases List.mem_cons.1 hb with rfl | hb
  ·exact ⟨bef1 a ha, ho' a (mem1 a ha), hu' a (mem1 a ha)⟩
  ·exact p3 a ha b hb
theorem lk_ext : ∀ {a b : List Lk}, a.Pairwise (fun x y => befB x y = true) → b.Pairwise (fun x y => befB x y = true) → (∀ x, x ∈ a ↔ x ∈ b) → a = b
 | [], [], _, _, _ => rfl
 | [], y :: b, _, _, h => absurd ((h y).2 List.mem_cons_self) (by simp)
 | x :: a, [], _, _, h => absurd ((h x).1 List.mem_cons_self) (by simp)
 | x :: a, y :: b, ha, hb, h => by
  rw [List.pairwise_cons] at ha hb
  have e : x = y := by
   have h1 := (h x).1 List.mem_cons_self
   have h2 := (h y).2 List.mem_cons_self
   rcases List.mem_cons.1 h1 with h1 | h1
   ·exact h1
   ·rcases List.mem_cons.1 h2 with h2 | h2
    ·exact h2.symm
    ·exact (bef_asymm (ha.1 y h2) (hb.1 x h1)).elim
  subst e
  congr 1
  refine lk_ext ha.2 hb.2 fun z => ?_
  have hz := h z
  simp only [List.mem_cons] at hz
  constructor
  ·intro hm
   rcases hz.1 (.inr hm) with rfl | h1
   ·exact (bef_asymm (ha.1 z hm) (ha.1 z hm)).elim
   ·exact h1
  ·intro hm
   rcases hz.2 (.inr hm) with rfl | h1
   ·exact (bef_asymm (hb.1 z hm) (hb.1 z hm)).elim
   ·exact h1
theorem GoodL.sorted {ds : List Dv} {ls : List Lk} (h : GoodL ds ls) : ls.Pairwise (fun x y => befB x y = true) := h.2.2.imp fun h => h.1
def idxL (d q : Int) : List Lk → Option Nat
 | [] => none
 | x :: l => if x.dev = d ∧ x.key = q then some 0 else (idxL d q l).map (· + 1)
end Go.Proofs.YtepicjpdhpojnaaGreatDoor
namespace Go.Proofs.YtepicjpdhpojnaaGreatDoor
open Go.RowKit
theorem el_int : ElemI Tryz.prog 22 3 1 8 := ElemI.mk' (z := .int .i64 0) Tryz.underlying22 (by kernel_rfl) rfl (by decide)
theorem flat1_map {α : Type} (f : α → Value) (l : List α) : (l.flatMap fun x => [f x]) = l.map f := by
 induction l with
 | nil => rfl
 | cons x l ih => rw [List.flatMap_cons, ih]; rfl
theorem intsV_map (l : List Int) : intsV l = l.map (Value.int .i64) := flat1_map _ _
theorem intsV_append (a b : List Int) : intsV (a ++ b) = intsV a ++ intsV b := List.flatMap_append
theorem intsV_set (l : List Int) (i : Nat) (x : Int) : (intsV l).set i (.int .i64 x) = intsV (l.set i x) := by rw [intsV_map, intsV_map, List.map_set]
theorem intsV_replicate (n : Nat) (x : Int) : List.replicate n (Value.int .i64 x) = intsV (List.replicate n x) := by rw [intsV_map, List.map_replicate]
theorem intsV_len (l : List Int) : (intsV l).length = l.length := by rw [intsV_map, List.length_map]
def IntsO (w : World) (base : Nat) (A : Option Addr) (n c : Nat) (l : List Int) : Prop := w.ownsRow base 3 1 (.slice A n c) n (intsV l)
section
variable {w w' : World} {base n c i : Nat} {A : Option Addr} {l : List Int}
theorem IntsO.len (h : IntsO w base A n c l) : l.length = n := by have := h.1; rw [intsV_len] at this; omega
theorem IntsO.sl (h : IntsO w base A n c l) : Sl w w.heap.size 1 A n c (intsV l) := Sl.of_own h
theorem own_some {e : TypeId} {xs : List Value} (h : w.ownsRow base e 1 (.slice A n c) n xs) (hi : 0 < n) : ∃ g, A = some ⟨g, 0, none⟩ ∧ base ≤ g ∧ g < w.heap.size := by
 have hl := h.lt
 rcases h.2 with ⟨hv, hn⟩ | ⟨g, cap, cur, hv, hb, _⟩
 ·omega
 ·injection hv with h1
  subst h1
  exact ⟨g, rfl, hb, (hl g rfl).2⟩
theorem IntsO.at (h : IntsO w base A n c l) (hi : i < n) : ∃ g x, A = some ⟨g, 0, none⟩ ∧ base ≤ g ∧ g < w.heap.size ∧ l[i]? = some x ∧ w.cell? ⟨g, i, none⟩ = some (.int .i64 x) ∧ w.frozen? ⟨g, i, none⟩ = false ∧ ∀ y, IntsO (w.setCell ⟨g, i, none⟩ (.int .i64 y)) base A n c (l.set i y) := by
 obtain ⟨g, rfl, h1, h2⟩ := own_some h (by omega)
 have hl := h.len
 refine ⟨g, l[i]'(by omega), rfl, h1, h2, List.getElem?_eq_getElem _, ?_, h.frozenAt i, fun y => ?_⟩
 ·rw [h.cellAt i (by omega), intsV_map, List.getElem?_map, List.getElem?_eq_getElem (by omega)]; rfl
 ·have := (h.stored i (.int .i64 y)).1
  rwa [intsV_set] at this
theorem own_later {e : TypeId} {size : Nat} {v : Value} {xs : List Value} (h : w.ownsRow base e size v n xs) (hb : Below w.heap.size w w') : w'.ownsRow base e size v n xs := h.kept (grown_of_below hb none) (Classical.em _)
theorem IntsO.later (h : IntsO w base A n c l) (hb : Below w.heap.size w w') : IntsO w' base A n c l := own_later h hb
theorem grown_cell (w : World) (p : Addr) (u : Value) : w.grownBy (w.setCell p u) (some p.block) := ⟨rfl, rfl, rfl, by simp [World.setCell], fun i _ hi => Below.heap_setCell w _ _ i (fun e => hi (by rw [e]))⟩
end
theorem run_mk_int (n : Nat) (hn : n ≤ 1000000) (w : World) : (Instr.makeSlice 22 (.int .i64 (n : Int)) (.int .i64 (n : Int))).run Tryz.prog w = .ok (.slice (some ⟨w.heap.size, 0, none⟩) n n) (w.alloc (.cells (intsV (List.replicate n 0)).toArray 3)) := by
 rw [run_make_row' 22 3 (.int .i64 0) 8 Tryz.underlying22 (by kernel_rfl) rfl .i64 .i64 n (by omega) (by omega) w]
 congr 3
 apply Array.ext'
 rw [toList_madeCells_one, intsV_replicate]
theorem own_new {w : World} {base n : Nat} {e : TypeId} {xs : List Value} (hb : base ≤ w.heap.size) (hn : n ≤ 9223372036854775807) (hl : xs.length = n) : (w.alloc (.cells xs.toArray e)).ownsRow base e 1 (.slice (some ⟨w.heap.size, 0, none⟩) n n) n xs :=
 ⟨by omega, .inr ⟨w.heap.size, n, xs.toArray, rfl, hb, heap_alloc_new w _, Nat.le_refl _, by simpa [maxLen] using hn, by simp [hl], by simp [← hl]⟩⟩
theorem ints_new {w : World} {base n : Nat} (hb : base ≤ w.heap.size) (hn : n ≤ 1000000) : IntsO (w.alloc (.cells (intsV (List.replicate n 0)).toArray 3)) base (some ⟨w.heap.size, 0, none⟩) n n (List.replicate n 0) := own_new hb (by omega) (by rw [intsV_len, List.length_replicate])
theorem ints_one (l : List Int) : ∀ u ∈ intsV l, u.oneCell' = true := by
 intro u hu
 rw [intsV_map, List.mem_map] at hu
 obtain ⟨x, _, rfl⟩ := hu
 rfl
def cutA (A : Option Addr) (c k : Nat) : Option Addr := if c = k then A else A.map (·.add k)
theorem run_from_int (w : World) (A : Option Addr) (n c k : Nat) (hk : k ≤ n) : (Instr.sliceAt 22 (.slice A n c) (some (.int .i64 (k : Int))) none none).run Tryz.prog w = .ok (.slice (cutA A c k) (n - k) (c - k)) w := by
 rw [run_sliceAt_slice _ _ _ _ _ _ (by kernel_rfl), run_slice_l _ _ _ _ _ (by kernel_rfl) _ _ (by omega) (by omega)]
 have : (sizeOf (Tryz.prog.elem 22)).run Tryz.prog w = .ok 1 w := by kernel_rfl
 rw [this]
 simp [sliced, cutA, Result.andThen]
def Que (w : World) (base : Nat) (e : TypeId) (A : Option Addr) (n c : Nat) (xs : List Value) : Prop :=
 xs.length = n ∧ n ≤ c ∧ c ≤ 9223372036854775807 ∧ (∀ a, A = some a → base ≤ a.block ∧ a.block < w.heap.size) ∧
 (0 < c → ∃ g off cur, A = some ⟨g, off, none⟩ ∧ w.heap[g]? = some (.cells cur e (0, 0)) ∧ off + c ≤ cur.size ∧ ∀ j u, xs[j]? = some u → cur[off + j]? = some u)
section
variable {w w' : World} {base n c k : Nat} {A : Option Addr} {xs : List Value} {e : TypeId}
theorem Que.le (h : Que w base e A n c xs) : n ≤ c ∧ c ≤ 9223372036854775807 := ⟨h.2.1, h.2.2.1⟩
theorem Que.lt (h : Que w base e A n c xs) : ∀ g, (Value.slice A n c).ownBlock = some g → base ≤ g ∧ g < w.heap.size := by
 intro g hg
 cases A with
 | none => cases hg
 | some a => have := h.2.2.2.1 a rfl; simp [Value.ownBlock] at hg; subst hg; exact this
theorem Que.of_own (h : w.ownsRow base e 1 (.slice A n c) n xs) : Que w base e A n c xs := by
 have hl := h.lt
 have hx := h.1
 rcases h.2 with ⟨hv, hn⟩ | ⟨g, cap, cur, hv, hb, hh, hnc, hm, hs, ht⟩
 ·injection hv with h1 h2 h3
  subst h1 h3 hn
  exact ⟨by omega, Nat.le_refl _, by omega, (fun a e => by cases e), fun h => absurd h (by omega)⟩
 ·injection hv with h1 h2 h3
  subst h1 h3
  refine ⟨by omega, hnc, by simpa [maxLen] using hm, fun a e => ?_, fun _ => ⟨g, 0, cur, rfl, hh, by omega, fun j u hu => ?_⟩⟩
  ·injection e with e; subst e; exact hl g rfl
  ·rw [Nat.zero_add]
   have hj : j < n := by have := (List.getElem?_eq_some_iff.1 hu).1; omega
   rw [← ht, List.getElem?_take, if_pos (by omega)] at hu
   simpa using hu
theorem Que.kept (h : Que w base e A n c xs) {row : Option Nat} (hg : w.grownBy w' row) (hne : (Value.slice A n c).ownBlock = none ∨ (Value.slice A n c).ownBlock ≠ row) : Que w' base e A n c xs := by
 obtain ⟨h1, h2, h3, h4, h5⟩ := h
 refine ⟨h1, h2, h3, fun a ha => ⟨(h4 a ha).1, Nat.lt_of_lt_of_le (h4 a ha).2 hg.size⟩, fun hc => ?_⟩
 obtain ⟨g, off, cur, rfl, hh, ho, hx⟩ := h5 hc
 refine ⟨g, off, cur, rfl, (hg.block g (h4 _ rfl).2 (fun e => ?_)).trans hh, ho, hx⟩
 rcases hne with h | h
 ·simp [Value.ownBlock] at h
 ·exact h e
theorem Que.later (h : Que w base e A n c xs) (hb : Below w.heap.size w w') : Que w' base e A n c xs := h.kept (grown_of_below hb none) (Classical.em _)
theorem Que.alloc (h : Que w base e A n c xs) (o : Obj) : Que (w.alloc o) base e A n c xs := h.later ((Below.refl _ _).alloc (Nat.le_refl _) _)
theorem Que.at (h : Que w base e A n c xs) (hk : k < n) : ∃ g off u, A = some ⟨g, off, none⟩ ∧ xs[k]? = some u ∧ w.cell? ⟨g, off + k, none⟩ = some u := by
 obtain ⟨h1, h2, h3, h4, h5⟩ := h
 obtain ⟨g, off, cur, rfl, hh, ho, hx⟩ := h5 (by omega)
 have e1 : xs[k]? = some (xs[k]'(by omega)) := List.getElem?_eq_getElem (by omega)
 exact ⟨g, off, _, rfl, e1, (cell_of_row w g _ cur e (0, 0) hh).trans (hx k _ e1)⟩
theorem cutA_own (A : Option Addr) (n c n' c' k : Nat) : (Value.slice (cutA A c k) n' c').ownBlock = (Value.slice A n c).ownBlock := by
 unfold cutA
 cases A with
 | none => split <;> rfl
 | some a =>
  split
  ·rfl
  ·simp [Value.ownBlock, Addr.add]; split <;> rfl
theorem Que.cut (h : Que w base e A n c xs) (hk : k ≤ n) : Que w base e (cutA A c k) (n - k) (c - k) (xs.drop k) := by
 obtain ⟨h1, h2, h3, h4, h5⟩ := h
 refine ⟨by simp; omega, by omega, by omega, fun a ha => ?_, fun hc => ?_⟩
 ·cases A with
  | none => unfold cutA at ha; split at ha <;> cases ha
  | some b =>
   have := h4 b rfl
   have hb : a.block = b.block := by
    have := cutA_own (some b) n c n c k
    rw [ha] at this
    simpa [Value.ownBlock] using this
   rw [hb]; exact this
 ·obtain ⟨g, off, cur, rfl, hh, ho, hx⟩ := h5 (by omega)
  refine ⟨g, off + k, cur, by unfold cutA; rw [if_neg (by omega), Option.map_some, add_plain], hh, by omega, fun j u hu => ?_⟩
  rw [List.getElem?_drop] at hu
  have := hx (k + j) u hu
  rwa [show off + k + j = off + (k + j) by omega]
end
end Go.Proofs.YtepicjpdhpojnaaGreatDoor
