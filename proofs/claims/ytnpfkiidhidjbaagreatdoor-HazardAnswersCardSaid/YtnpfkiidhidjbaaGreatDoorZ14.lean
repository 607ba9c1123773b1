import Derived.Test.YtnpfkiidhidjbaaGreatDoorZ13
import Derived.Test.YtnpfkiidhidjbaaGreatDoorZ02
/-
 Layer 12, plain: duties where no source is closed.
-/
namespace Go.Proofs.YtnpfkiidhidjbaaGreatDoor
section
variable {nn : Nat} {ns : List Nd} {ds : List Dv} {s : List Int} {i : Nat} {x : Dv}
end
end Go.Proofs.YtnpfkiidhidjbaaGreatDoor
/-
 Layer 12, plain: what duties mean for the supply.
-/
namespace Go.Proofs.YtnpfkiidhidjbaaGreatDoor
theorem least {Q : Nat → Prop} : ∀ n, Q n → ∃ m, Q m ∧ ∀ k, Q k → m ≤ k := by
 intro n
 induction n using Nat.strongRecOn with
 | ind n ih =>
  intro h
  by_cases hx : ∃ k, k < n ∧ Q k
  ·obtain ⟨k, hk, hq⟩ := hx; exact ih k hk hq
  ·exact ⟨n, h, fun k hk => Nat.le_of_not_lt (fun hl => hx ⟨k, hl, hk⟩)⟩
/-- A node is supplied as far as its colour says. -/
def Sup (ds : List Dv) (s : List Int) (v : Int) : Prop := HasK liveK ds s v ∧ ¬ HasK (· = 4) ds s v
theorem sup_col {ds : List Dv} {s : List Int} {v : Int} : colV ds s v = 1 ↔ Sup ds s v := by
 unfold colV Sup
 rcases ind_cases (HasK liveK ds s v) 1 with ⟨h, e⟩ | ⟨h, e⟩ <;> rcases ind_cases (HasK (· = 4) ds s v) 2 with ⟨h2, e2⟩ | ⟨h2, e2⟩ <;> rw [e, e2] <;> simp [h, h2]
section
variable {nn : Nat} {ns : List Nd} {ds : List Dv} {s : List Int} {i : Nat} {x : Dv}
theorem parts_iff {P : List Int} (hP : IsParts nn ds s P) {u v : Int} (hu : 0 ≤ u ∧ u < nn) (hv : 0 ≤ v ∧ v < nn) : P.getD u.toNat 0 = P.getD v.toNat 0 ↔ Conn ds s u v := by
 obtain ⟨a, rfl⟩ := Int.eq_ofNat_of_zero_le hu.1
 obtain ⟨b, rfl⟩ := Int.eq_ofNat_of_zero_le hv.1
 rw [Int.toNat_natCast, Int.toNat_natCast, ← hP.iff (by omega) (by omega)]
 obtain ⟨p, hp, _⟩ := hP.2 a (by omega)
 obtain ⟨q, hq, _⟩ := hP.2 b (by omega)
 rw [getD_of hp, getD_of hq, hp, hq]
 simp
def Means (ns : List Nd) (ds : List Dv) (o c : List Int) (d : Int) : Prop :=
 (d = 0 ∨ d = 1 → ∀ (v : Nat) (y : Nd), ns[v]? = some y → 0 < y.cust → (Sup ds c v ↔ Sup ds o v)) ∧
 (d = 2 → (∃ (v : Nat) (y : Nd), ns[v]? = some y ∧ 0 < y.cust ∧ Sup ds c v ∧ ¬ Sup ds o v) ∧ ∀ v : Int, Sup ds o v → Sup ds c v) ∧
 (d = 3 → ∀ v : Int, Sup ds c v ↔ Sup ds o v)
theorem Means.fault {o c : List Int} : Means ns ds o c 4 := ⟨fun h => by omega, fun h => by omega, fun h => by omega⟩
theorem Means.same {o c : List Int} {d : Int} (h : ∀ v : Int, Sup ds c v ↔ Sup ds o v) (hd : d ≠ 2) : Means ns ds o c d := ⟨fun _ v _ _ _ => h v, fun e => absurd e hd, fun _ => h⟩
open Classical in
theorem Means.one {o c P : List Int} {q : Int} (hP : IsParts nn ds o P) (hl : ns.length = nn) (hq : 0 ≤ q ∧ q < nn)
  (h1 : ∀ v, Conn ds o q v → Sup ds c v ∧ ¬ Sup ds o v) (h2 : ∀ v, ¬ Conn ds o q v → (Sup ds c v ↔ Sup ds o v)) :
  Means ns ds o c (if ∃ (v : Nat) (y : Nd), v < ns.length ∧ ns[v]? = some y ∧ 0 < y.cust ∧ P.getD v 0 = P.getD q.toNat 0 then 2 else 1) := by
 have pc : ∀ v : Nat, v < nn → (P.getD v 0 = P.getD q.toNat 0 ↔ Conn ds o q v) := by
  intro v hv
  have h := parts_iff hP (u := q) (v := v) hq ⟨by omega, by omega⟩
  rw [Int.toNat_natCast] at h
  exact ⟨fun e => h.1 e.symm, fun e => (h.2 e).symm⟩
 split
 ·rename_i hx
  obtain ⟨v, y, hv, hy, hc, hp⟩ := hx
  have k := h1 v ((pc v (by omega)).1 hp)
  refine ⟨fun h => by omega, fun _ => ⟨⟨v, y, hy, hc, k.1, k.2⟩, fun u hu => ?_⟩, fun h => by omega⟩
  by_cases hcn : Conn ds o q u
  ·exact (h1 u hcn).1
  ·exact (h2 u hcn).2 hu
 ·rename_i hx
  refine ⟨fun _ v y hy hc => h2 v (fun hcn => hx ?_), fun h => by omega, fun h => by omega⟩
  have hv := (List.getElem?_eq_some_iff.1 hy).1
  exact ⟨v, y, hv, hy, hc, (pc v (by omega)).2 hcn⟩
end
end Go.Proofs.YtnpfkiidhidjbaaGreatDoor
/-
 Plain facts on locks: their order, their errors, one more, one less.
-/
namespace Go.Proofs.YtnpfkiidhidjbaaGreatDoor
structure Lk where
 dev : Int
 pos : Int
 key : Int
def befB (a b : Lk) : Bool := decide (a.dev < b.dev) || (decide (a.dev = b.dev) && decide (a.key < b.key))
theorem bef_iff (a b : Lk) : befB a b = true ↔ a.dev < b.dev ∨ (a.dev = b.dev ∧ a.key < b.key) := by simp [befB]
theorem bef_trans {a b c : Lk} (h1 : befB a b = true) (h2 : befB b c = true) : befB a c = true := by rw [bef_iff] at *; omega
theorem bef_total {a b : Lk} (h : a.key ≠ b.key) (h1 : befB a b = false) : befB b a = true := by
 have h2 : ¬ befB a b = true := by rw [h1]; simp
 rw [bef_iff] at *; omega
def kindOf (ds : List Dv) (d : Int) : Int := match ds[d.toNat]? with | some x => x.kind | none => 0
/-- The first error of a lock. -/
def lkErr (ds : List Dv) (k : Lk) : Int := if k.dev < 0 then 8 else if (ds.length : Int) ≤ k.dev then 8 else if kindOf ds k.dev = 5 then 6 else if k.pos ≠ 1 ∧ k.pos ≠ 2 then 10 else if k.key < 0 then 5 else if 65536 < k.key then 5 else 0
def othB (k x : Lk) : Bool := decide (x.dev = k.dev) && !decide (x.pos = k.pos)
def othL (l : List Lk) (k : Lk) : Bool := l.any (othB k)
def usdL (l : List Lk) (q : Int) : Bool := l.any fun x => decide (x.key = q)
theorem oth_not {l : List Lk} {k : Lk} : othL l k = false ↔ ∀ x ∈ l, x.dev = k.dev → x.pos = k.pos := by
 unfold othL othB
 rw [List.any_eq_false]
 constructor
 ·intro h x hx hd
  have := h x hx
  simp [hd] at this
  exact this
 ·intro h x hx
  simp
  exact h x hx
theorem usd_not {l : List Lk} {q : Int} : usdL l q = false ↔ ∀ x ∈ l, x.key ≠ q := by
 unfold usdL
 rw [List.any_eq_false]
 constructor
 ·intro h x hx; have := h x hx; simpa using this
 ·intro h x hx; simpa using h x hx
def ordBad (ls : List Lk) (i : Nat) (k : Lk) : Bool := decide (0 < i) && !(match ls[i - 1]? with | some p => befB p k | none => true)
def errAt (ds : List Dv) (ls : List Lk) (i : Nat) : Int := match ls[i]? with
 | none => 0
 | some k => if lkErr ds k ≠ 0 then lkErr ds k else if ordBad ls i k = true then 14 else if othL (ls.take i) k = true then 18 else if usdL (ls.take i) k.key = true then 4 else 0
def firstE (ds : List Dv) (ls : List Lk) : Nat → Int
 | 0 => 0
 | i + 1 => if firstE ds ls i ≠ 0 then firstE ds ls i else errAt ds ls i
theorem firstE_stop {ds : List Dv} {ls : List Lk} {i : Nat} {e : Int} (h : firstE ds ls i = 0) (he : errAt ds ls i = e) (h0 : e ≠ 0) : ∀ n, i < n → firstE ds ls n = e
 | 0, hn => by omega
 | n + 1, hn => by
  rw [firstE]
  rcases Nat.lt_succ_iff_lt_or_eq.1 hn with hlt | rfl
  ·rw [firstE_stop h he h0 n hlt, if_pos h0]
  ·rw [h, if_neg (by simp), he]
theorem firstE_zero {ds : List Dv} {ls : List Lk} : ∀ n, firstE ds ls n = 0 ↔ ∀ i, i < n → errAt ds ls i = 0
 | 0 => ⟨fun _ i hi => by omega, fun _ => rfl⟩
 | n + 1 => by
  rw [firstE]
  have ih := firstE_zero (ds := ds) (ls := ls) n
  by_cases h : firstE ds ls n = 0
  ·rw [if_neg (by simp [h])]
   constructor
   ·intro he i hi
    rcases Nat.lt_succ_iff_lt_or_eq.1 hi with hlt | rfl
    ·exact ih.1 h i hlt
    ·exact he
   ·intro hall; exact hall n (by omega)
  ·rw [if_pos h]
   exact ⟨fun e => absurd e h, fun hall => ih.2 fun i hi => hall i (by omega)⟩
theorem firstE_next {ds : List Dv} {ls : List Lk} {i : Nat} (h : firstE ds ls i = 0) (he : errAt ds ls i = 0) : firstE ds ls (i + 1) = 0 := by rw [firstE, h, if_neg (by simp), he]
/-- Two locks, the first one ahead, may stand together. -/
def LkRel (a b : Lk) : Prop := befB a b = true ∧ (a.dev = b.dev → a.pos = b.pos) ∧ a.key ≠ b.key
def GoodL (ds : List Dv) (ls : List Lk) : Prop := ls.length ≤ 128 ∧ (∀ k ∈ ls, lkErr ds k = 0) ∧ ls.Pairwise LkRel
theorem errAt_zero {ds : List Dv} {ls : List Lk} {i : Nat} {k : Lk} (hk : ls[i]? = some k) : errAt ds ls i = 0 ↔ lkErr ds k = 0 ∧ ordBad ls i k = false ∧ othL (ls.take i) k = false ∧ usdL (ls.take i) k.key = false := by
 unfold errAt
 rw [hk]
 simp only
 by_cases h1 : lkErr ds k = 0
 ·rw [if_neg (by simp [h1])]
  rcases h2 : ordBad ls i k with _ | _
  ·rw [if_neg (by simp)]
   rcases h3 : othL (ls.take i) k with _ | _
   ·rw [if_neg (by simp)]
    rcases h4 : usdL (ls.take i) k.key with _ | _
    ·simp [h1]
    ·simp
   ·simp
  ·simp
 ·rw [if_pos h1]; simp [h1]
theorem good_of {ds : List Dv} {ls : List Lk} (hl : ls.length ≤ 128) (h : firstE ds ls ls.length = 0) : GoodL ds ls := by
 have hall := (firstE_zero ls.length).1 h
 have at' : ∀ i (hi : i < ls.length), lkErr ds ls[i] = 0 ∧ ordBad ls i ls[i] = false ∧ othL (ls.take i) ls[i] = false ∧ usdL (ls.take i) ls[i].key = false := fun i hi => (errAt_zero (List.getElem?_eq_getElem hi)).1 (hall i hi)
 refine ⟨hl, fun k hk => ?_, ?_⟩
 ·obtain ⟨i, hi, rfl⟩ := List.mem_iff_getElem.1 hk
  exact (at' i hi).1
 ·have step : ∀ i (hi : i + 1 < ls.length), befB ls[i] ls[i + 1] = true := by
   intro i hi
   have := (at' (i + 1) hi).2.1
   unfold ordBad at this
   rw [Nat.add_sub_cancel, List.getElem?_eq_getElem (show i < ls.length by omega)] at this
   simpa using this
  have bef : ∀ (j i : Nat) (hj : j < ls.length) (hij : i < j), befB (ls[i]'(by omega)) ls[j] = true := by
   intro j
   induction j with
   | zero => intro i hj hij; omega
   | succ j ih =>
    intro i hj hij
    rcases Nat.lt_succ_iff_lt_or_eq.1 hij with hlt | rfl
    ·exact bef_trans (ih i (by omega) hlt) (step j hj)
    ·exact step i hj
  rw [List.pairwise_iff_getElem]
  intro i j hi hj hij
  obtain ⟨_, _, h3, h4⟩ := at' j hj
  have hm : ls[i] ∈ ls.take j := by
   rw [List.mem_iff_getElem]
   exact ⟨i, by simp; omega, by simp⟩
  exact ⟨bef j i hj hij, fun hd => oth_not.1 h3 _ hm hd, usd_not.1 h4 _ hm⟩
/-- The position in which a device is locked. -/
def lckL : List Lk → Int → Option Int
 | [], _ => none
 | x :: l, d => if x.dev = d then some x.pos else lckL l d
theorem lck_mem {l : List Lk} {d p : Int} (h : lckL l d = some p) : ∃ x ∈ l, x.dev = d ∧ x.pos = p := by
 induction l with
 | nil => cases h
 | cons x l ih =>
  rw [lckL] at h
  split at h
  ·next hd => exact ⟨x, List.mem_cons_self, hd, by injection h⟩
  ·obtain ⟨y, hy, h1⟩ := ih h; exact ⟨y, List.mem_cons_of_mem _ hy, h1⟩
theorem lck_none {l : List Lk} {d : Int} : lckL l d = none ↔ ∀ x ∈ l, x.dev ≠ d := by
 induction l with
 | nil => simp [lckL]
 | cons x l ih =>
  rw [lckL]
  split
  ·next hd => simp [hd]
  ·next hd => rw [ih]; simp [hd]
theorem same_pos {ds : List Dv} {ls : List Lk} (h : GoodL ds ls) {x y : Lk} (hx : x ∈ ls) (hy : y ∈ ls) (hd : x.dev = y.dev) : x.pos = y.pos := by
 obtain ⟨i, hi, rfl⟩ := List.mem_iff_getElem.1 hx
 obtain ⟨j, hj, rfl⟩ := List.mem_iff_getElem.1 hy
 have h3 := List.pairwise_iff_getElem.1 h.2.2
 rcases Nat.lt_trichotomy i j with hij | rfl | hij
 ·exact (h3 i j hi hj hij).2.1 hd
 ·rfl
 ·exact ((h3 j i hj hi hij).2.1 hd.symm).symm
/-- In valid locks: another position is locked exactly if the first lock of the device has another one. -/
theorem oth_lck {ds : List Dv} {ls : List Lk} (h : GoodL ds ls) (k : Lk) : othL ls k = (match lckL ls k.dev with | some p => !decide (p = k.pos) | none => false) := by
 rcases hl : lckL ls k.dev with _ | p
 ·simp only
  rw [oth_not]
  intro x hx hd
  exact absurd hd (lck_none.1 hl x hx)
 ·obtain ⟨y, hy, h1, h2⟩ := lck_mem hl
  simp only
  by_cases hp : p = k.pos
  ·rw [decide_eq_true hp, Bool.not_true, oth_not]
   intro x hx hd
   rw [same_pos h hx hy (by omega), h2, hp]
  ·rw [decide_eq_false hp, Bool.not_false]
   rcases ho : othL ls k with _ | _
   ·exact absurd (by rw [← h2]; exact oth_not.1 ho y hy h1) hp
   ·rfl
/-- One lock more. -/
def insL (k : Lk) (ls : List Lk) : List Lk := ls.takeWhile (fun x => befB x k) ++ k :: ls.dropWhile (fun x => befB x k)
theorem ins_len (k : Lk) (ls : List Lk) : (insL k ls).length = ls.length + 1 := by
 have := congrArg List.length (List.takeWhile_append_dropWhile (p := fun x => befB x k) (l := ls))
 rw [List.length_append] at this
 unfold insL
 rw [List.length_append, List.length_cons]; omega
theorem ins_mem (k x : Lk) (ls : List Lk) : x ∈ insL k ls ↔ x = k ∨ x ∈ ls := by
 have h : ls.takeWhile (fun x => befB x k) ++ ls.dropWhile (fun x => befB x k) = ls := List.takeWhile_append_dropWhile
 have hm : x ∈ ls ↔ x ∈ ls.takeWhile (fun x => befB x k) ∨ x ∈ ls.dropWhile (fun x => befB x k) := by rw [← List.mem_append, h]
 unfold insL
 rw [List.mem_append, List.mem_cons, hm]
 constructor
 ·rintro (h | h | h)
  ·exact .inr (.inl h)
  ·exact .inl h
  ·exact .inr (.inr h)
 ·rintro (h | h | h)
  ·exact .inr (.inl h)
  ·exact .inl h
  ·exact .inr (.inr h)
theorem drop_head {p : Lk → Bool} : ∀ {l : List Lk} {y : Lk} {t : List Lk}, l.dropWhile p = y :: t → p y = false
 | [], _, _, h => by simp at h
 | x :: l, y, t, h => by
  rw [List.dropWhile_cons] at h
  split at h
  ·exact drop_head h
  ·next hp => injection h with h1; subst h1; simpa using hp
theorem ins_good {ds : List Dv} {ls : List Lk} {k : Lk} (h : GoodL ds ls) (hk : lkErr ds k = 0) (hu : usdL ls k.key = false) (ho : othL ls k = false) (hl : ls.length < 128) : GoodL ds (insL k ls) := by
 have hs : ls.takeWhile (fun x => befB x k) ++ ls.dropWhile (fun x => befB x k) = ls := List.takeWhile_append_dropWhile
 have hu' := usd_not.1 hu
 have ho' := oth_not.1 ho
 refine ⟨by rw [ins_len]; omega, fun x hx => ?_, ?_⟩
 ·rcases (ins_mem k x ls).1 hx with rfl | hx
  ·exact hk
  ·exact h.2.1 x hx
 ·have hp := h.2.2
  rw [← hs, List.pairwise_append] at hp
  obtain ⟨p1, p2, p3⟩ := hp
  have mem1 : ∀ x ∈ ls.takeWhile (fun x => befB x k), x ∈ ls := fun x hx => by rw [← hs]; exact List.mem_append_left _ hx
  have mem2 : ∀ x ∈ ls.dropWhile (fun x => befB x k), x ∈ ls := fun x hx => by rw [← hs]; exact List.mem_append_right _ hx
  have bef1 : ∀ x ∈ ls.takeWhile (fun x => befB x k), befB x k = true := fun x hx => by
   have := List.all_takeWhile (p := fun x => befB x k) (l := ls)
   exact List.all_eq_true.1 this x hx
  have bef2 : ∀ x ∈ ls.dropWhile (fun x => befB x k), befB k x = true := by
   rcases hd : ls.dropWhile (fun x => befB x k) with _ | ⟨y, t⟩
   ·intro x hx; cases hx
   ·have hy : befB k y = true := bef_total (hu' y (mem2 y (by rw [hd]; exact List.mem_cons_self))) (drop_head (p := fun x => befB x k) hd)
    intro x hx
    rcases List.mem_cons.1 hx with rfl | hx
    ·exact hy
    ·rw [hd, List.pairwise_cons] at p2
     exact bef_trans hy (p2.1 x hx).1
  unfold insL
  rw [List.pairwise_append, List.pairwise_cons]
  refine ⟨p1, ⟨fun x hx => ⟨bef2 x hx, fun e => (ho' x (mem2 x hx) e.symm).symm, fun e => hu' x (mem2 x hx) e.symm⟩, p2⟩, fun a ha b hb => ?_⟩
  rcases List.mem_cons.1 hb with rfl | hb
  ·exact ⟨bef1 a ha, ho' a (mem1 a ha), hu' a (mem1 a ha)⟩
  ·exact p3 a ha b hb
end Go.Proofs.YtnpfkiidhidjbaaGreatDoor
