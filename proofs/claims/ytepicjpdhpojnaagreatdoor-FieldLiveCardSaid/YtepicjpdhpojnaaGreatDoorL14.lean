import Derived.Test.YtepicjpdhpojnaaGreatDoorL13
import Derived.Test.YtepicjpdhpojnaaGreatDoorL08
import Derived.Test.YtepicjpdhpojnaaGreatDoorL11
import Derived.Test.YtepicjpdhpojnaaGreatDoorL07
import Derived.Test.YtepicjpdhpojnaaGreatDoorL02
namespace Go.Proofs.YtepicjpdhpojnaaGreatDoor
open Go.RowKit
def RColsPost (w : World) (nn : Nat) (er : Int) (ds : List Dv) (s : List Int) (e : Ending) (w' : World) : Prop :=
 Hid (Below w.heap.size w w') ∧ ((er ≠ 0 ∧ e = .returned (.tuple #[.slice none 0 0, .int .i64 er])) ∨ (er = 0 ∧ ∃ (A : Option Addr) (out : List Int), e = .returned (.tuple #[.slice A nn nn, .int .i64 0]) ∧ Hid (IntsO w' w.heap.size A nn nn out) ∧ Hid (IsCols nn ds s out)))
end Go.Proofs.YtepicjpdhpojnaaGreatDoor
namespace Go.Proofs.YtepicjpdhpojnaaGreatDoor
open Go.RowKit
structure NetOk (ns : List Nd) (ds : List Dv) : Prop where
 e : EndsOk ns.length ds
 a : AOk ns.length ds
 k : ∀ x ∈ ds, 1 ≤ x.kind ∧ x.kind ≤ 6
 ne : ∀ x ∈ ds, joinsB x.kind = true → x.b ≠ x.a
 nl : ns.length ≤ 32
 dl : ds.length ≤ 64
theorem chkD_ok {k : Int} : ∀ (ds : List Dv) (used : List (List UInt8)), chkD k used ds = 0 → ∀ x ∈ ds, (1 ≤ x.kind ∧ x.kind ≤ 6) ∧ endsB x.kind x.a x.b k = true
 | [], _, _, x, hx => by cases hx
 | y :: r, used, h, x, hx => by
  rw [chkD] at h
  by_cases h0 : dvErr k used y = 0
  ·rw [if_pos h0] at h
   rcases List.mem_cons.1 hx with rfl | hx
   ·unfold dvErr at h0
    by_cases h1 : nameB (toL x.name) = false
    ·rw [if_pos h1] at h0; cases h0
    by_cases h2 : toL x.name ∈ used
    ·rw [if_neg h1, if_pos h2] at h0; cases h0
    by_cases h3 : x.kind < 1 ∨ 6 < x.kind
    ·rw [if_neg h1, if_neg h2, if_pos h3] at h0; cases h0
    by_cases h4 : endsB x.kind x.a x.b k = false
    ·rw [if_neg h1, if_neg h2, if_neg h3, if_pos h4] at h0; cases h0
    exact ⟨by omega, by simpa using h4⟩
   ·exact chkD_ok r _ h x hx
  ·rw [if_neg h0] at h; exact absurd h h0
theorem NetOk.of {ns : List Nd} {ds : List Dv} (h : checkN ns ds = 0) : NetOk ns ds := by
 unfold checkN at h
 by_cases h1 : 32 < ns.length
 ·rw [if_pos h1] at h; cases h
 by_cases h2 : 64 < ds.length
 ·rw [if_neg h1, if_pos h2] at h; cases h
 by_cases h3 : chkN [] ns = 0
 ·rw [if_neg h1, if_neg h2, if_pos h3] at h
  have H := chkD_ok ds _ h
  have E : ∀ x ∈ ds, 0 ≤ x.a ∧ x.a < ns.length ∧ (joinsB x.kind = true → 0 ≤ x.b ∧ x.b < ns.length ∧ x.b ≠ x.a) := fun x hx => by
   have := (H x hx).2
   unfold endsB at this
   split at this
   ·cases this
   ·next e1 =>
    split at this
    ·cases this
    ·next e2 =>
     refine ⟨by omega, by omega, fun hj => ?_⟩
     rw [if_neg (by rw [hj]; simp)] at this
     simp at this
     omega
  exact ⟨fun x hx hj => ⟨⟨(E x hx).1, (E x hx).2.1⟩, ((E x hx).2.2 hj).1, ((E x hx).2.2 hj).2.1⟩, fun x hx => ⟨(E x hx).1, (E x hx).2.1⟩, fun x hx => (H x hx).1, fun x hx hj => ((E x hx).2.2 hj).2.2, by omega, by omega⟩
 ·rw [if_neg h1, if_neg h2, if_neg h3] at h; exact absurd h h3
end Go.Proofs.YtepicjpdhpojnaaGreatDoor
namespace Go.Proofs.YtepicjpdhpojnaaGreatDoor
structure Lk where
 dev : Int
 pos : Int
 key : Int
def befB (a b : Lk) : Bool := decide (a.dev < b.dev) || (decide (a.dev = b.dev) && decide (a.key < b.key))
theorem bef_iff (a b : Lk) : befB a b = true ↔ a.dev < b.dev ∨ (a.dev = b.dev ∧ a.key < b.key) := by simp [befB]
theorem bef_trans {a b c : Lk} (h1 : befB a b = true) (h2 : befB b c = true) : befB a c = true := by rw [bef_iff] at *; omega
theorem bef_asymm {a b : Lk} (h1 : befB a b = true) (h2 : befB b a = true) : False := by rw [bef_iff] at *; omega
theorem bef_total {a b : Lk} (h : a.key ≠ b.key) (h1 : befB a b = false) : befB b a = true := by
 have h2 : ¬ befB a b = true := by rw [h1]; simp
 rw [bef_iff] at *; omega
def kindOf (ds : List Dv) (d : Int) : Int := match ds[d.toNat]? with | some x => x.kind | none => 0
def lkErr (ds : List Dv) (k : Lk) : Int := if k.dev < 0 then 8 else if (ds.length : Int) ≤ k.dev then 8 else if kindOf ds k.dev = 5 then 6 else if k.pos ≠ 1 ∧ k.pos ≠ 2 then 10 else if k.key < 0 then 5 else if 65536 < k.key then 5 else 0
def othB (k x : Lk) : Bool := decide (x.dev = k.dev) && !decide (x.pos = k.pos)
def othL (l : List Lk) (k : Lk) : Bool := l.any (othB k)
def usdL (l : List Lk) (q : Int) : Bool := l.any fun x => decide (x.key = q)
theorem oth_not {l : List Lk} {k : Lk} : othL l k = false ↔ ∀ x ∈ l, x.dev = k.dev → x.pos = k.pos := by
 unfold othL othB
 rw [List.any_eq_false]
 constructor
 ·intro h x hx hd
  have := h x hx
  simp [hd] at this
  exact this
 ·intro h x hx
  simp
  exact h x hx
theorem usd_not {l : List Lk} {q : Int} : usdL l q = false ↔ ∀ x ∈ l, x.key ≠ q := by
 unfold usdL
 rw [List.any_eq_false]
 constructor
 ·intro h x hx; have := h x hx; simpa using this
 ·intro h x hx; simpa using h x hx
def ordBad (ls : List Lk) (i : Nat) (k : Lk) : Bool := decide (0 < i) && !(match ls[i - 1]? with | some p => befB p k | none => true)
def errAt (ds : List Dv) (ls : List Lk) (i : Nat) : Int := match ls[i]? with
 | none => 0
 | some k => if lkErr ds k ≠ 0 then lkErr ds k else if ordBad ls i k = true then 14 else if othL (ls.take i) k = true then 18 else if usdL (ls.take i) k.key = true then 4 else 0
def firstE (ds : List Dv) (ls : List Lk) : Nat → Int
 | 0 => 0
 | i + 1 => if firstE ds ls i ≠ 0 then firstE ds ls i else errAt ds ls i
theorem firstE_stop {ds : List Dv} {ls : List Lk} {i : Nat} {e : Int} (h : firstE ds ls i = 0) (he : errAt ds ls i = e) (h0 : e ≠ 0) : ∀ n, i < n → firstE ds ls n = e
 | 0, hn => by omega
 | n + 1, hn => by
  rw [firstE]
  rcases Nat.lt_succ_iff_lt_or_eq.1 hn with hlt | rfl
  ·rw [firstE_stop h he h0 n hlt, if_pos h0]
  ·rw [h, if_neg (by simp), he]
theorem firstE_zero {ds : List Dv} {ls : List Lk} : ∀ n, firstE ds ls n = 0 ↔ ∀ i, i < n → errAt ds ls i = 0
 | 0 => ⟨fun _ i hi => by omega, fun _ => rfl⟩
 | n + 1 => by
  rw [firstE]
  have ih := firstE_zero (ds := ds) (ls := ls) n
  by_cases h : firstE ds ls n = 0
  ·rw [if_neg (by simp [h])]
   constructor
   ·intro he i hi
    rcases Nat.lt_succ_iff_lt_or_eq.1 hi with hlt | rfl
    ·exact ih.1 h i hlt
    ·exact he
   ·intro hall; exact hall n (by omega)
  ·rw [if_pos h]
   exact ⟨fun e => absurd e h, fun hall => ih.2 fun i hi => hall i (by omega)⟩
theorem firstE_next {ds : List Dv} {ls : List Lk} {i : Nat} (h : firstE ds ls i = 0) (he : errAt ds ls i = 0) : firstE ds ls (i + 1) = 0 := by rw [firstE, h, if_neg (by simp), he]
def LkRel (a b : Lk) : Prop := befB a b = true ∧ (a.dev = b.dev → a.pos = b.pos) ∧ a.key ≠ b.key
def GoodL (ds : List Dv) (ls : List Lk) : Prop := ls.length ≤ 128 ∧ (∀ k ∈ ls, lkErr ds k = 0) ∧ ls.Pairwise LkRel
theorem errAt_zero {ds : List Dv} {ls : List Lk} {i : Nat} {k : Lk} (hk : ls[i]? = some k) : errAt ds ls i = 0 ↔ lkErr ds k = 0 ∧ ordBad ls i k = false ∧ othL (ls.take i) k = false ∧ usdL (ls.take i) k.key = false := by
 unfold errAt
 rw [hk]
 simp only
 by_cases h1 : lkErr ds k = 0
 ·rw [if_neg (by simp [h1])]
  rcases h2 : ordBad ls i k with _ | _
  ·rw [if_neg (by simp)]
   rcases h3 : othL (ls.take i) k with _ | _
   ·rw [if_neg (by simp)]
    rcases h4 : usdL (ls.take i) k.key with _ | _
    ·simp [h1]
    ·simp
   ·simp
  ·simp
 ·rw [if_pos h1]; simp [h1]
theorem good_of {ds : List Dv} {ls : List Lk} (hl : ls.length ≤ 128) (h : firstE ds ls ls.length = 0) : GoodL ds ls := by
 have hall := (firstE_zero ls.length).1 h
 have at' : ∀ i (hi : i < ls.length), lkErr ds ls[i] = 0 ∧ ordBad ls i ls[i] = false ∧ othL (ls.take i) ls[i] = false ∧ usdL (ls.take i) ls[i].key = false := fun i hi => (errAt_zero (List.getElem?_eq_getElem hi)).1 (hall i hi)
 refine ⟨hl, fun k hk => ?_, ?_⟩
 ·obtain ⟨i, hi, rfl⟩ := List.mem_iff_getElem.1 hk
  exact (at' i hi).1
 ·have step : ∀ i (hi : i + 1 < ls.length), befB ls[i] ls[i + 1] = true := by
   intro i hi
   have := (at' (i + 1) hi).2.1
   unfold ordBad at this
   rw [Nat.add_sub_cancel, List.getElem?_eq_getElem (show i < ls.length by omega)] at this
   simpa using this
  have bef : ∀ (j i : Nat) (hj : j < ls.length) (hij : i < j), befB (ls[i]'(by omega)) ls[j] = true := by
   intro j
   induction j with
   | zero => intro i hj hij; omega
   | succ j ih =>
    intro i hj hij
    rcases Nat.lt_succ_iff_lt_or_eq.1 hij with hlt | rfl
    ·exact bef_trans (ih i (by omega) hlt) (step j hj)
    ·exact step i hj
  rw [List.pairwise_iff_getElem]
  intro i j hi hj hij
  obtain ⟨_, _, h3, h4⟩ := at' j hj
  have hm : ls[i] ∈ ls.take j := by
   rw [List.mem_iff_getElem]
   exact ⟨i, by simp; omega, by simp⟩
  exact ⟨bef j i hj hij, fun hd => oth_not.1 h3 _ hm hd, usd_not.1 h4 _ hm⟩
theorem good_err {ds : List Dv} {ls : List Lk} (h : GoodL ds ls) : firstE ds ls ls.length = 0 := by
 obtain ⟨_, h2, h3⟩ := h
 rw [firstE_zero]
 intro i hi
 rw [errAt_zero (List.getElem?_eq_getElem hi)]
 rw [List.pairwise_iff_getElem] at h3
 have mem : ∀ x ∈ ls.take i, ∃ j, ∃ hj : j < ls.length, j < i ∧ x = ls[j] := by
  intro x hx
  obtain ⟨j, hj, rfl⟩ := List.mem_iff_getElem.1 hx
  simp at hj
  exact ⟨j, by omega, by omega, by simp⟩
 refine ⟨h2 _ (List.getElem_mem hi), ?_, ?_, ?_⟩
 ·unfold ordBad
  rcases Nat.eq_zero_or_pos i with rfl | h0
  ·rfl
  ·rw [List.getElem?_eq_getElem (show i - 1 < ls.length by omega)]
   simp only
   rw [(h3 (i - 1) i (by omega) hi (by omega)).1]
   simp
 ·rw [oth_not]
  intro x hx hd
  obtain ⟨j, hj, hji, rfl⟩ := mem x hx
  exact (h3 j i hj hi hji).2.1 hd
 ·rw [usd_not]
  intro x hx
  obtain ⟨j, hj, hji, rfl⟩ := mem x hx
  exact (h3 j i hj hi hji).2.2
def lckL : List Lk → Int → Option Int
 | [], _ => none
 | x :: l, d => if x.dev = d then some x.pos else lckL l d
theorem lck_mem {l : List Lk} {d p : Int} (h : lckL l d = some p) : ∃ x ∈ l, x.dev = d ∧ x.pos = p := by
 induction l with
 | nil => cases h
 | cons x l ih =>
  rw [lckL] at h
  split at h
  ·next hd => exact ⟨x, List.mem_cons_self, hd, by injection h⟩
  ·obtain ⟨y, hy, h1⟩ := ih h; exact ⟨y, List.mem_cons_of_mem _ hy, h1⟩
theorem lck_none {l : List Lk} {d : Int} : lckL l d = none ↔ ∀ x ∈ l, x.dev ≠ d := by
 induction l with
 | nil => simp [lckL]
 | cons x l ih =>
  rw [lckL]
  split
  ·next hd => simp [hd]
  ·next hd => rw [ih]; simp [hd]
theorem same_pos {ds : List Dv} {ls : List Lk} (h : GoodL ds ls) {x y : Lk} (hx : x ∈ ls) (hy : y ∈ ls) (hd : x.dev = y.dev) : x.pos = y.pos := by
 obtain ⟨i, hi, rfl⟩ := List.mem_iff_getElem.1 hx
 obtain ⟨j, hj, rfl⟩ := List.mem_iff_getElem.1 hy
 have h3 := List.pairwise_iff_getElem.1 h.2.2
 rcases Nat.lt_trichotomy i j with hij | rfl | hij
 ·exact (h3 i j hi hj hij).2.1 hd
 ·rfl
 ·exact ((h3 j i hj hi hij).2.1 hd.symm).symm
theorem lck_of {ds : List Dv} {ls : List Lk} (h : GoodL ds ls) {x : Lk} (hx : x ∈ ls) : lckL ls x.dev = some x.pos := by
 rcases hl : lckL ls x.dev with _ | p
 ·exact absurd rfl (lck_none.1 hl x hx)
 ·obtain ⟨y, hy, h1, h2⟩ := lck_mem hl
  rw [← h2, same_pos h hy hx h1]
theorem oth_lck {ds : List Dv} {ls : List Lk} (h : GoodL ds ls) (k : Lk) : othL ls k = (match lckL ls k.dev with | some p => !decide (p = k.pos) | none => false) := by
 rcases hl : lckL ls k.dev with _ | p
 ·simp only
  rw [oth_not]
  intro x hx hd
  exact absurd hd (lck_none.1 hl x hx)
 ·obtain ⟨y, hy, h1, h2⟩ := lck_mem hl
  simp only
  by_cases hp : p = k.pos
  ·rw [decide_eq_true hp, Bool.not_true, oth_not]
   intro x hx hd
   rw [same_pos h hx hy (by omega), h2, hp]
  ·rw [decide_eq_false hp, Bool.not_false]
   rcases ho : othL ls k with _ | _
   ·exact absurd (by rw [← h2]; exact oth_not.1 ho y hy h1) hp
   ·rfl
def insL (k : Lk) (ls : List Lk) : List Lk := ls.takeWhile (fun x => befB x k) ++ k :: ls.dropWhile (fun x => befB x k)
theorem ins_len (k : Lk) (ls : List Lk) : (insL k ls).length = ls.length + 1 := by
 have := congrArg List.length (List.takeWhile_append_dropWhile (p := fun x => befB x k) (l := ls))
 rw [List.length_append] at this
 unfold insL
 rw [List.length_append, List.length_cons]; omega
theorem ins_mem (k x : Lk) (ls : List Lk) : x ∈ insL k ls ↔ x = k ∨ x ∈ ls := by
 have h : ls.takeWhile (fun x => befB x k) ++ ls.dropWhile (fun x => befB x k) = ls := List.takeWhile_append_dropWhile
 have hm : x ∈ ls ↔ x ∈ ls.takeWhile (fun x => befB x k) ∨ x ∈ ls.dropWhile (fun x => befB x k) := by rw [← List.mem_append, h]
 unfold insL
 rw [List.mem_append, List.mem_cons, hm]
 constructor
 ·rintro (h | h | h)
  ·exact .inr (.inl h)
  ·exact .inl h
  ·exact .inr (.inr h)
 ·rintro (h | h | h)
  ·exact .inr (.inl h)
  ·exact .inl h
  ·exact .inr (.inr h)
theorem ins_perm (k : Lk) (ls : List Lk) : (insL k ls).Perm (ls ++ [k]) := by
 unfold insL
 have h : ls.takeWhile (fun x => befB x k) ++ ls.dropWhile (fun x => befB x k) = ls := List.takeWhile_append_dropWhile
 refine List.perm_middle.trans ?_
 rw [h]
 exact (List.perm_append_comm (l₁ := [k]) (l₂ := ls))
theorem drop_head {p : Lk → Bool} : ∀ {l : List Lk} {y : Lk} {t : List Lk}, l.dropWhile p = y :: t → p y = false
 | [], _, _, h => by simp at h
 | x :: l, y, t, h => by
  rw [List.dropWhile_cons] at h
  split at h
  ·exact drop_head h
  ·next hp => injection h with h1; subst h1; simpa using hp
theorem ins_good {ds : List Dv} {ls : List Lk} {k : Lk} (h : GoodL ds ls) (hk : lkErr ds k = 0) (hu : usdL ls k.key = false) (ho : othL ls k = false) (hl : ls.length < 128) : GoodL ds (insL k ls) := by
 have hs : ls.takeWhile (fun x => befB x k) ++ ls.dropWhile (fun x => befB x k) = ls := List.takeWhile_append_dropWhile
 have hu' := usd_not.1 hu
 have ho' := oth_not.1 ho
 refine ⟨by rw [ins_len]; omega, fun x hx => ?_, ?_⟩
 ·rcases (ins_mem k x ls).1 hx with rfl | hx
  ·exact hk
  ·exact h.2.1 x hx
 ·have hp := h.2.2
  rw [← hs, List.pairwise_append] at hp
  obtain ⟨p1, p2, p3⟩ := hp
  have mem1 : ∀ x ∈ ls.takeWhile (fun x => befB x k), x ∈ ls := fun x hx => by rw [← hs]; exact List.mem_append_left _ hx
  have mem2 : ∀ x ∈ ls.dropWhile (fun x => befB x k), x ∈ ls := fun x hx => by rw [← hs]; exact List.mem_append_right _ hx
  have bef1 : ∀ x ∈ ls.takeWhile (fun x => befB x k), befB x k = true := fun x hx => by
   have := List.all_takeWhile (p := fun x => befB x k) (l := ls)
   exact List.all_eq_true.1 this x hx
  have bef2 : ∀ x ∈ ls.dropWhile (fun x => befB x k), befB k x = true := by
   rcases hd : ls.dropWhile (fun x => befB x k) with _ | ⟨y, t⟩
   ·intro x hx; cases hx
   ·have hy : befB k y = true := bef_total (hu' y (mem2 y (by rw [hd]; exact List.mem_cons_self))) (drop_head (p := fun x => befB x k) hd)
    intro x hx
    rcases List.mem_cons.1 hx with rfl | hx
    ·exact hy
    ·rw [hd, List.pairwise_cons] at p2
     exact bef_trans hy (p2.1 x hx).1
  unfold insL
  rw [List.pairwise_append, List.pairwise_cons]
  refine ⟨p1, ⟨fun x hx => ⟨bef2 x hx, fun e => (ho' x (mem2 x hx) e.symm).symm, fun e => hu' x (mem2 x hx) e.symm⟩, p2⟩, fun a ha b hb => ?_⟩
  rcases List.mem_cons.1 hb with rfl | hb
  ·exact ⟨bef1 a ha, ho' a (mem1 a ha), hu' a (mem1 a ha)⟩
  ·exact p3 a ha b hb
theorem lk_ext : ∀ {a b : List Lk}, a.Pairwise (fun x y => befB x y = true) → b.Pairwise (fun x y => befB x y = true) → (∀ x, x ∈ a ↔ x ∈ b) → a = b
 | [], [], _, _, _ => rfl
 | [], y :: b, _, _, h => absurd ((h y).2 List.mem_cons_self) (by simp)
 | x :: a, [], _, _, h => absurd ((h x).1 List.mem_cons_self) (by simp)
 | x :: a, y :: b, ha, hb, h => by
  rw [List.pairwise_cons] at ha hb
  have e : x = y := by
   have h1 := (h x).1 List.mem_cons_self
   have h2 := (h y).2 List.mem_cons_self
   rcases List.mem_cons.1 h1 with h1 | h1
   ·exact h1
   ·rcases List.mem_cons.1 h2 with h2 | h2
    ·exact h2.symm
    ·exact (bef_asymm (ha.1 y h2) (hb.1 x h1)).elim
  subst e
  congr 1
  refine lk_ext ha.2 hb.2 fun z => ?_
  have hz := h z
  simp only [List.mem_cons] at hz
  constructor
  ·intro hm
   rcases hz.1 (.inr hm) with rfl | h1
   ·exact (bef_asymm (ha.1 z hm) (ha.1 z hm)).elim
   ·exact h1
  ·intro hm
   rcases hz.2 (.inr hm) with rfl | h1
   ·exact (bef_asymm (hb.1 z hm) (hb.1 z hm)).elim
   ·exact h1
theorem GoodL.sorted {ds : List Dv} {ls : List Lk} (h : GoodL ds ls) : ls.Pairwise (fun x y => befB x y = true) := h.2.2.imp fun h => h.1
def idxL (d q : Int) : List Lk → Option Nat
 | [] => none
 | x :: l => if x.dev = d ∧ x.key = q then some 0 else (idxL d q l).map (· + 1)
end Go.Proofs.YtepicjpdhpojnaaGreatDoor
namespace Go.Proofs.YtepicjpdhpojnaaGreatDoor
open Go.RowKit
def Lk.cells (k : Lk) : List Value := [.int .i64 k.dev, .int .i64 k.pos, .int .i64 k.key]
theorem el_lock : ElemI Tryz.prog 33 46 3 24 := ElemI.mk' (z := .agg #[.int .i64 0, .int .i64 0, .int .i64 0]) Tryz.underlying33 (by kernel_rfl) rfl (by decide)
def LocksO (w : World) (base : Nat) (A : Option Addr) (n c : Nat) (ls : List Lk) : Prop := w.ownsRow base 46 3 (.slice A n c) n (ls.flatMap Lk.cells)
section
variable {w w' : World} {base n c B : Nat} {A : Option Addr} {ls : List Lk}
theorem LocksO.sl (h : LocksO w base A n c ls) : Sl w w.heap.size 3 A n c (ls.flatMap Lk.cells) := Sl.of_own h
theorem LocksO.len (h : LocksO w base A n c ls) : ls.length = n := (Sl.of_own h).len (fun _ => rfl) (by decide)
theorem LocksO.later (h : LocksO w base A n c ls) (hb : Below w.heap.size w w') : LocksO w' base A n c ls := own_later h hb
theorem locks_one (l : List Lk) : ∀ u ∈ l.flatMap Lk.cells, u.oneCell' = true := by
 intro u hu
 rw [List.mem_flatMap] at hu
 obtain ⟨x, _, hx⟩ := hu
 simp only [Lk.cells, List.mem_cons, List.not_mem_nil, or_false] at hx
 rcases hx with rfl | rfl | rfl <;> rfl
theorem Sl.lock {i : Nat} (h : Sl w B 3 A n c (ls.flatMap Lk.cells)) (hi : i < n) : ∃ b off d p q, A = some ⟨b, off, none⟩ ∧ b < B ∧ ls[i]? = some ⟨d, p, q⟩ ∧ w.cell? ⟨b, off + i * 3, none⟩ = some (.int .i64 d) ∧ w.cell? ⟨b, off + i * 3 + 1, none⟩ = some (.int .i64 p) ∧ w.cell? ⟨b, off + i * 3 + 2, none⟩ = some (.int .i64 q) := by
 obtain ⟨b, off, ⟨d, p, q⟩, e, hb, hx, hc⟩ := h.at (fun _ => rfl) (by decide) hi
 exact ⟨b, off, d, p, q, e, hb, hx, hc 0 _ rfl, hc 1 _ rfl, hc 2 _ rfl⟩
end
end Go.Proofs.YtepicjpdhpojnaaGreatDoor
