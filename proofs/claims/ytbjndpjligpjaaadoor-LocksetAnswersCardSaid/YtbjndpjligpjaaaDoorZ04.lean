import Derived.Test.YtbjndpjligpjaaaDoorZ03
/-
  Layer 3: networks; walks of Joins, company, ends, Check.
-/
namespace Go.Proofs.YtbjndpjligpjaaaDoor
open Go.RowKit

structure Nd where
  name : ByteArray
  cust : Int
  comp : Int
structure Dv where
  name : ByteArray
  kind : Int
  a : Int
  b : Int
  comp : Int
def Nd.cells (x : Nd) : List Value := [.string x.name, .int .i64 x.cust, .int .i64 x.comp]
def Dv.cells (x : Dv) : List Value := [.string x.name, .int .i64 x.kind, .int .i64 x.a, .int .i64 x.b, .int .i64 x.comp]
def compB (n : Int) : Bool := decide (0 ≤ n) && decide (n ≤ 7)
def joinsB (k : Int) : Bool := decide (1 ≤ k) && decide (k ≤ 3)
def endsB (kind a b k : Int) : Bool := if a < 0 then false else if k ≤ a then false else if joinsB kind = false then decide (b = -1) else decide (0 ≤ b) && decide (b < k) && !decide (b = a)

theorem company_any (n : Int) (w : World) : Calls Tryd.prog 51 #[.int .i64 n] w fun e w' => e = .returned (.bool (compB n)) ∧ w = w' := by
  by_cases h0 : 0 ≤ n
  · go_enter Tryd.func51, Tryd.ntmps51
    go_wp2
    go_ret
    exact ⟨by simp [compB, h0], rfl⟩
  · have h0' : decide (0 ≤ n) = false := by simpa using h0
    go_enter Tryd.func51, Tryd.ntmps51
    go_wp2
    go_ret
    exact ⟨by simp [compB, h0'], rfl⟩
theorem joins_any (n : Int) (w : World) : Calls Tryd.prog 63 #[.int .i64 n] w fun e w' => e = .returned (.bool (joinsB n)) ∧ w = w' := by
  by_cases h0 : 1 ≤ n
  · go_enter Tryd.func63, Tryd.ntmps63
    go_wp2
    go_ret
    exact ⟨by simp [joinsB, h0], rfl⟩
  · have h0' : decide (1 ≤ n) = false := by simpa using h0
    go_enter Tryd.func63, Tryd.ntmps63
    go_wp2
    go_ret
    exact ⟨by simp [joinsB, h0'], rfl⟩
set_option maxHeartbeats 1000000 in
theorem ends_any (nm : ByteArray) (kind a b comp k : Int) (w : World) : Calls Tryd.prog 52 #[.agg #[.string nm, .int .i64 kind, .int .i64 a, .int .i64 b, .int .i64 comp], .int .i64 k] w fun e w' => e = .returned (.bool (endsB kind a b k)) ∧ Below w.heap.size w w' := by
  have hE : endsB kind a b k = if a < 0 then false else if k ≤ a then false else if joinsB kind = false then decide (b = -1) else decide (0 ≤ b) && decide (b < k) && !decide (b = a) := rfl
  have HE := Lib.hid hE; clear hE
  by_cases h1 : a < 0
  · go_enter Tryd.func52, Tryd.ntmps52
    go_wp2_with fail
    go_ret
    exact ⟨ret_bool (by rw [HE.out, if_pos h1]), (Below.refl _ _).alloc (Nat.le_refl _) _⟩
  have h1' : decide (a < 0) = false := by simpa using h1
  by_cases h2 : k ≤ a
  · go_enter Tryd.func52, Tryd.ntmps52
    go_wp2_with fail
    go_ret
    exact ⟨ret_bool (by rw [HE.out, if_neg (by omega), if_pos h2]), (Below.refl _ _).alloc (Nat.le_refl _) _⟩
  have h2' : decide (k ≤ a) = false := by simpa using h2
  rcases hj : joinsB kind with _ | _
  · have HJ := Lib.hid hj
    have HJ2 := Lib.hid (joins_any kind)
    rw [hj] at HJ2
    clear hj
    go_enter Tryd.func52, Tryd.ntmps52
    go_wp2_with fail
    refine (HJ2.out _).mono ?_
    rintro e w1 ⟨rfl, rfl⟩
    go_wp2_with fail
    go_ret
    exact ⟨ret_bool (by rw [HE.out, if_neg (by omega), if_neg (by omega), if_pos HJ.out]; rfl), (Below.refl _ _).alloc (Nat.le_refl _) _⟩
  · have HJ := Lib.hid hj
    have HJ2 := Lib.hid (joins_any kind)
    rw [hj] at HJ2
    clear hj
    by_cases h3 : 0 ≤ b
    · by_cases h4 : b < k
      · go_enter Tryd.func52, Tryd.ntmps52
        go_wp2_with fail
        refine (HJ2.out _).mono ?_
        rintro e w1 ⟨rfl, rfl⟩
        go_wp2_with fail
        go_ret
        exact ⟨ret_bool (by rw [HE.out, if_neg (by omega), if_neg (by omega), if_neg (by rw [HJ.out]; simp), decide_eq_true h3, decide_eq_true h4, Bool.eq_iff_iff]; simp), (Below.refl _ _).alloc (Nat.le_refl _) _⟩
      · have h4' : decide (b < k) = false := by simpa using h4
        go_enter Tryd.func52, Tryd.ntmps52
        go_wp2_with fail
        refine (HJ2.out _).mono ?_
        rintro e w1 ⟨rfl, rfl⟩
        go_wp2_with fail
        go_ret
        exact ⟨ret_bool (by rw [HE.out, if_neg (by omega), if_neg (by omega), if_neg (by rw [HJ.out]; simp), h4']; simp), (Below.refl _ _).alloc (Nat.le_refl _) _⟩
    · have h3' : decide (0 ≤ b) = false := by simpa using h3
      go_enter Tryd.func52, Tryd.ntmps52
      go_wp2_with fail
      refine (HJ2.out _).mono ?_
      rintro e w1 ⟨rfl, rfl⟩
      go_wp2_with fail
      go_ret
      exact ⟨ret_bool (by rw [HE.out, if_neg (by omega), if_neg (by omega), if_neg (by rw [HJ.out]; simp), h3']; simp), (Below.refl _ _).alloc (Nat.le_refl _) _⟩

def ndErr (used : List (List UInt8)) (x : Nd) : Int := if nameB (toL x.name) = false then 3 else if toL x.name ∈ used then 4 else if x.cust < 0 ∨ 1048576 < x.cust then 5 else if compB x.comp = false then 5 else 0
def dvErr (k : Int) (used : List (List UInt8)) (x : Dv) : Int := if nameB (toL x.name) = false then 3 else if toL x.name ∈ used then 4 else if x.kind < 1 ∨ 6 < x.kind then 6 else if endsB x.kind x.a x.b k = false then 7 else if compB x.comp = false then 5 else 0
def chkN : List (List UInt8) → List Nd → Int
  | _, [] => 0
  | used, x :: r => if ndErr used x = 0 then chkN (toL x.name :: used) r else ndErr used x
def usedN : List (List UInt8) → List Nd → List (List UInt8)
  | used, [] => used
  | used, x :: r => usedN (toL x.name :: used) r
def chkD (k : Int) : List (List UInt8) → List Dv → Int
  | _, [] => 0
  | used, x :: r => if dvErr k used x = 0 then chkD k (toL x.name :: used) r else dvErr k used x
/-- The first error of a network. -/
def checkN (ns : List Nd) (ds : List Dv) : Int := if 32 < ns.length then 1 else if 64 < ds.length then 1 else if chkN [] ns = 0 then chkD ns.length (usedN [] ns) ds else chkN [] ns
theorem chkN_step {used : List (List UInt8)} {ns : List Nd} {i : Nat} {x : Nd} (hx : ns[i]? = some x) (h0 : ndErr used x = 0) : chkN used (ns.drop i) = chkN (toL x.name :: used) (ns.drop (i + 1)) ∧ usedN used (ns.drop i) = usedN (toL x.name :: used) (ns.drop (i + 1)) := by
  obtain ⟨hi, rfl⟩ := List.getElem?_eq_some_iff.1 hx
  rw [List.drop_eq_getElem_cons hi, chkN, if_pos h0, usedN]
  exact ⟨rfl, rfl⟩
theorem chkN_stop {used : List (List UInt8)} {ns : List Nd} {i : Nat} {x : Nd} (hx : ns[i]? = some x) (h0 : ndErr used x ≠ 0) : chkN used (ns.drop i) = ndErr used x := by
  obtain ⟨hi, rfl⟩ := List.getElem?_eq_some_iff.1 hx
  rw [List.drop_eq_getElem_cons hi, chkN, if_neg h0]
theorem chkD_step {k : Int} {used : List (List UInt8)} {ds : List Dv} {i : Nat} {x : Dv} (hx : ds[i]? = some x) (h0 : dvErr k used x = 0) : chkD k used (ds.drop i) = chkD k (toL x.name :: used) (ds.drop (i + 1)) := by
  obtain ⟨hi, rfl⟩ := List.getElem?_eq_some_iff.1 hx
  rw [List.drop_eq_getElem_cons hi, chkD, if_pos h0]
theorem chkD_stop {k : Int} {used : List (List UInt8)} {ds : List Dv} {i : Nat} {x : Dv} (hx : ds[i]? = some x) (h0 : dvErr k used x ≠ 0) : chkD k used (ds.drop i) = dvErr k used x := by
  obtain ⟨hi, rfl⟩ := List.getElem?_eq_some_iff.1 hx
  rw [List.drop_eq_getElem_cons hi, chkD, if_neg h0]
end Go.Proofs.YtbjndpjligpjaaaDoor
/-
  Plain facts on locks: their order, their errors, one more, one less.
-/
namespace Go.Proofs.YtbjndpjligpjaaaDoor
structure Lk where
  dev : Int
  pos : Int
  key : Int
def befB (a b : Lk) : Bool := decide (a.dev < b.dev) || (decide (a.dev = b.dev) && decide (a.key < b.key))
theorem bef_iff (a b : Lk) : befB a b = true ↔ a.dev < b.dev ∨ (a.dev = b.dev ∧ a.key < b.key) := by simp [befB]
theorem bef_trans {a b c : Lk} (h1 : befB a b = true) (h2 : befB b c = true) : befB a c = true := by rw [bef_iff] at *; omega
theorem bef_asymm {a b : Lk} (h1 : befB a b = true) (h2 : befB b a = true) : False := by rw [bef_iff] at *; omega
theorem bef_total {a b : Lk} (h : a.key ≠ b.key) (h1 : befB a b = false) : befB b a = true := by
  have h2 : ¬ befB a b = true := by rw [h1]; simp
  rw [bef_iff] at *; omega
def kindOf (ds : List Dv) (d : Int) : Int := match ds[d.toNat]? with | some x => x.kind | none => 0
/-- The first error of a lock. -/
def lkErr (ds : List Dv) (k : Lk) : Int := if k.dev < 0 then 8 else if (ds.length : Int) ≤ k.dev then 8 else if kindOf ds k.dev = 5 then 6 else if k.pos ≠ 1 ∧ k.pos ≠ 2 then 10 else if k.key < 0 then 5 else if 65536 < k.key then 5 else 0
def othB (k x : Lk) : Bool := decide (x.dev = k.dev) && !decide (x.pos = k.pos)
def othL (l : List Lk) (k : Lk) : Bool := l.any (othB k)
def usdL (l : List Lk) (q : Int) : Bool := l.any fun x => decide (x.key = q)
theorem oth_not {l : List Lk} {k : Lk} : othL l k = false ↔ ∀ x ∈ l, x.dev = k.dev → x.pos = k.pos := by
  unfold othL othB
  rw [List.any_eq_false]
  constructor
  · intro h x hx hd
    have := h x hx
    simp [hd] at this
    exact this
  · intro h x hx
    simp
    exact h x hx
theorem usd_not {l : List Lk} {q : Int} : usdL l q = false ↔ ∀ x ∈ l, x.key ≠ q := by
  unfold usdL
  rw [List.any_eq_false]
  constructor
  · intro h x hx; have := h x hx; simpa using this
  · intro h x hx; simpa using h x hx
def ordBad (ls : List Lk) (i : Nat) (k : Lk) : Bool := decide (0 < i) && !(match ls[i - 1]? with | some p => befB p k | none => true)
def errAt (ds : List Dv) (ls : List Lk) (i : Nat) : Int := match ls[i]? with
  | none => 0
  | some k => if lkErr ds k ≠ 0 then lkErr ds k else if ordBad ls i k = true then 14 else if othL (ls.take i) k = true then 18 else if usdL (ls.take i) k.key = true then 4 else 0
def firstE (ds : List Dv) (ls : List Lk) : Nat → Int
  | 0 => 0
  | i + 1 => if firstE ds ls i ≠ 0 then firstE ds ls i else errAt ds ls i
theorem firstE_stop {ds : List Dv} {ls : List Lk} {i : Nat} {e : Int} (h : firstE ds ls i = 0) (he : errAt ds ls i = e) (h0 : e ≠ 0) : ∀ n, i < n → firstE ds ls n = e
  | 0, hn => by omega
  | n + 1, hn => by
    rw [firstE]
    rcases Nat.lt_succ_iff_lt_or_eq.1 hn with hlt | rfl
    · rw [firstE_stop h he h0 n hlt, if_pos h0]
    · rw [h, if_neg (by simp), he]
theorem firstE_zero {ds : List Dv} {ls : List Lk} : ∀ n, firstE ds ls n = 0 ↔ ∀ i, i < n → errAt ds ls i = 0
  | 0 => ⟨fun _ i hi => by omega, fun _ => rfl⟩
  | n + 1 => by
    rw [firstE]
    have ih := firstE_zero (ds := ds) (ls := ls) n
    by_cases h : firstE ds ls n = 0
    · rw [if_neg (by simp [h])]
      constructor
      · intro he i hi
        rcases Nat.lt_succ_iff_lt_or_eq.1 hi with hlt | rfl
        · exact ih.1 h i hlt
        · exact he
      · intro hall; exact hall n (by omega)
    · rw [if_pos h]
      exact ⟨fun e => absurd e h, fun hall => ih.2 fun i hi => hall i (by omega)⟩
theorem firstE_next {ds : List Dv} {ls : List Lk} {i : Nat} (h : firstE ds ls i = 0) (he : errAt ds ls i = 0) : firstE ds ls (i + 1) = 0 := by rw [firstE, h, if_neg (by simp), he]
/-- Two locks, the first one ahead, may stand together. -/
def LkRel (a b : Lk) : Prop := befB a b = true ∧ (a.dev = b.dev → a.pos = b.pos) ∧ a.key ≠ b.key
def GoodL (ds : List Dv) (ls : List Lk) : Prop := ls.length ≤ 128 ∧ (∀ k ∈ ls, lkErr ds k = 0) ∧ ls.Pairwise LkRel
theorem errAt_zero {ds : List Dv} {ls : List Lk} {i : Nat} {k : Lk} (hk : ls[i]? = some k) : errAt ds ls i = 0 ↔ lkErr ds k = 0 ∧ ordBad ls i k = false ∧ othL (ls.take i) k = false ∧ usdL (ls.take i) k.key = false := by
  unfold errAt
  rw [hk]
  simp only
  by_cases h1 : lkErr ds k = 0
  · rw [if_neg (by simp [h1])]
    rcases h2 : ordBad ls i k with _ | _
    · rw [if_neg (by simp)]
      rcases h3 : othL (ls.take i) k with _ | _
      · rw [if_neg (by simp)]
        rcases h4 : usdL (ls.take i) k.key with _ | _
        · simp [h1]
        · simp
      · simp
    · simp
  · rw [if_pos h1]; simp [h1]
theorem good_of {ds : List Dv} {ls : List Lk} (hl : ls.length ≤ 128) (h : firstE ds ls ls.length = 0) : GoodL ds ls := by
  have hall := (firstE_zero ls.length).1 h
  have at' : ∀ i (hi : i < ls.length), lkErr ds ls[i] = 0 ∧ ordBad ls i ls[i] = false ∧ othL (ls.take i) ls[i] = false ∧ usdL (ls.take i) ls[i].key = false := fun i hi => (errAt_zero (List.getElem?_eq_getElem hi)).1 (hall i hi)
  refine ⟨hl, fun k hk => ?_, ?_⟩
  · obtain ⟨i, hi, rfl⟩ := List.mem_iff_getElem.1 hk
    exact (at' i hi).1
  · have step : ∀ i (hi : i + 1 < ls.length), befB ls[i] ls[i + 1] = true := by
      intro i hi
      have := (at' (i + 1) hi).2.1
      unfold ordBad at this
      rw [Nat.add_sub_cancel, List.getElem?_eq_getElem (show i < ls.length by omega)] at this
      simpa using this
    have bef : ∀ (j i : Nat) (hj : j < ls.length) (hij : i < j), befB (ls[i]'(by omega)) ls[j] = true := by
      intro j
      induction j with
      | zero => intro i hj hij; omega
      | succ j ih =>
        intro i hj hij
        rcases Nat.lt_succ_iff_lt_or_eq.1 hij with hlt | rfl
        · exact bef_trans (ih i (by omega) hlt) (step j hj)
        · exact step i hj
    rw [List.pairwise_iff_getElem]
    intro i j hi hj hij
    obtain ⟨_, _, h3, h4⟩ := at' j hj
    have hm : ls[i] ∈ ls.take j := by
      rw [List.mem_iff_getElem]
      exact ⟨i, by simp; omega, by simp⟩
    exact ⟨bef j i hj hij, fun hd => oth_not.1 h3 _ hm hd, usd_not.1 h4 _ hm⟩
theorem good_err {ds : List Dv} {ls : List Lk} (h : GoodL ds ls) : firstE ds ls ls.length = 0 := by
  obtain ⟨_, h2, h3⟩ := h
  rw [firstE_zero]
  intro i hi
  rw [errAt_zero (List.getElem?_eq_getElem hi)]
  rw [List.pairwise_iff_getElem] at h3
  have mem : ∀ x ∈ ls.take i, ∃ j, ∃ hj : j < ls.length, j < i ∧ x = ls[j] := by
    intro x hx
    obtain ⟨j, hj, rfl⟩ := List.mem_iff_getElem.1 hx
    simp at hj
    exact ⟨j, by omega, by omega, by simp⟩
  refine ⟨h2 _ (List.getElem_mem hi), ?_, ?_, ?_⟩
  · unfold ordBad
    rcases Nat.eq_zero_or_pos i with rfl | h0
    · rfl
    · rw [List.getElem?_eq_getElem (show i - 1 < ls.length by omega)]
      simp only
      rw [(h3 (i - 1) i (by omega) hi (by omega)).1]
      simp
  · rw [oth_not]
    intro x hx hd
    obtain ⟨j, hj, hji, rfl⟩ := mem x hx
    exact (h3 j i hj hi hji).2.1 hd
  · rw [usd_not]
    intro x hx
    obtain ⟨j, hj, hji, rfl⟩ := mem x hx
    exact (h3 j i hj hi hji).2.2
/-- The position in which a device is locked. -/
def lckL : List Lk → Int → Option Int
  | [], _ => none
  | x :: l, d => if x.dev = d then some x.pos else lckL l d
theorem lck_mem {l : List Lk} {d p : Int} (h : lckL l d = some p) : ∃ x ∈ l, x.dev = d ∧ x.pos = p := by
  induction l with
  | nil => cases h
  | cons x l ih =>
    rw [lckL] at h
    split at h
    · next hd => exact ⟨x, List.mem_cons_self, hd, by injection h⟩
    · obtain ⟨y, hy, h1⟩ := ih h; exact ⟨y, List.mem_cons_of_mem _ hy, h1⟩
theorem lck_none {l : List Lk} {d : Int} : lckL l d = none ↔ ∀ x ∈ l, x.dev ≠ d := by
  induction l with
  | nil => simp [lckL]
  | cons x l ih =>
    rw [lckL]
    split
    · next hd => simp [hd]
    · next hd => rw [ih]; simp [hd]
theorem same_pos {ds : List Dv} {ls : List Lk} (h : GoodL ds ls) {x y : Lk} (hx : x ∈ ls) (hy : y ∈ ls) (hd : x.dev = y.dev) : x.pos = y.pos := by
  obtain ⟨i, hi, rfl⟩ := List.mem_iff_getElem.1 hx
  obtain ⟨j, hj, rfl⟩ := List.mem_iff_getElem.1 hy
  have h3 := List.pairwise_iff_getElem.1 h.2.2
  rcases Nat.lt_trichotomy i j with hij | rfl | hij
  · exact (h3 i j hi hj hij).2.1 hd
  · rfl
  · exact ((h3 j i hj hi hij).2.1 hd.symm).symm
theorem same_key {ds : List Dv} {ls : List Lk} (h : GoodL ds ls) {x y : Lk} (hx : x ∈ ls) (hy : y ∈ ls) (hd : x.key = y.key) : x = y := by
  obtain ⟨i, hi, rfl⟩ := List.mem_iff_getElem.1 hx
  obtain ⟨j, hj, rfl⟩ := List.mem_iff_getElem.1 hy
  have h3 := List.pairwise_iff_getElem.1 h.2.2
  rcases Nat.lt_trichotomy i j with hij | rfl | hij
  · exact absurd hd (h3 i j hi hj hij).2.2
  · rfl
  · exact absurd hd.symm (h3 j i hj hi hij).2.2
theorem lck_of {ds : List Dv} {ls : List Lk} (h : GoodL ds ls) {x : Lk} (hx : x ∈ ls) : lckL ls x.dev = some x.pos := by
  rcases hl : lckL ls x.dev with _ | p
  · exact absurd rfl (lck_none.1 hl x hx)
  · obtain ⟨y, hy, h1, h2⟩ := lck_mem hl
    rw [← h2, same_pos h hy hx h1]
/-- In valid locks: another position is locked exactly if the first lock of the device has another one. -/
theorem oth_lck {ds : List Dv} {ls : List Lk} (h : GoodL ds ls) (k : Lk) : othL ls k = (match lckL ls k.dev with | some p => !decide (p = k.pos) | none => false) := by
  rcases hl : lckL ls k.dev with _ | p
  · simp only
    rw [oth_not]
    intro x hx hd
    exact absurd hd (lck_none.1 hl x hx)
  · obtain ⟨y, hy, h1, h2⟩ := lck_mem hl
    simp only
    by_cases hp : p = k.pos
    · rw [decide_eq_true hp, Bool.not_true, oth_not]
      intro x hx hd
      rw [same_pos h hx hy (by omega), h2, hp]
    · rw [decide_eq_false hp, Bool.not_false]
      rcases ho : othL ls k with _ | _
      · exact absurd (by rw [← h2]; exact oth_not.1 ho y hy h1) hp
      · rfl
/-- One lock more. -/
def insL (k : Lk) (ls : List Lk) : List Lk := ls.takeWhile (fun x => befB x k) ++ k :: ls.dropWhile (fun x => befB x k)
theorem ins_len (k : Lk) (ls : List Lk) : (insL k ls).length = ls.length + 1 := by
  have := congrArg List.length (List.takeWhile_append_dropWhile (p := fun x => befB x k) (l := ls))
  rw [List.length_append] at this
  unfold insL
  rw [List.length_append, List.length_cons]; omega
theorem ins_mem (k x : Lk) (ls : List Lk) : x ∈ insL k ls ↔ x = k ∨ x ∈ ls := by
  have h : ls.takeWhile (fun x => befB x k) ++ ls.dropWhile (fun x => befB x k) = ls := List.takeWhile_append_dropWhile
  have hm : x ∈ ls ↔ x ∈ ls.takeWhile (fun x => befB x k) ∨ x ∈ ls.dropWhile (fun x => befB x k) := by rw [← List.mem_append, h]
  unfold insL
  rw [List.mem_append, List.mem_cons, hm]
  constructor
  · rintro (h | h | h)
    · exact .inr (.inl h)
    · exact .inl h
    · exact .inr (.inr h)
  · rintro (h | h | h)
    · exact .inr (.inl h)
    · exact .inl h
    · exact .inr (.inr h)
theorem ins_perm (k : Lk) (ls : List Lk) : (insL k ls).Perm (ls ++ [k]) := by
  unfold insL
  have h : ls.takeWhile (fun x => befB x k) ++ ls.dropWhile (fun x => befB x k) = ls := List.takeWhile_append_dropWhile
  refine List.perm_middle.trans ?_
  rw [h]
  exact (List.perm_append_comm (l₁ := [k]) (l₂ := ls))
theorem drop_head {p : Lk → Bool} : ∀ {l : List Lk} {y : Lk} {t : List Lk}, l.dropWhile p = y :: t → p y = false
  | [], _, _, h => by simp at h
  | x :: l, y, t, h => by
    rw [List.dropWhile_cons] at h
    split at h
    · exact drop_head h
    · next hp => injection h with h1; subst h1; simpa using hp
theorem ins_good {ds : List Dv} {ls : List Lk} {k : Lk} (h : GoodL ds ls) (hk : lkErr ds k = 0) (hu : usdL ls k.key = false) (ho : othL ls k = false) (hl : ls.length < 128) : GoodL ds (insL k ls) := by
  have hs : ls.takeWhile (fun x => befB x k) ++ ls.dropWhile (fun x => befB x k) = ls := List.takeWhile_append_dropWhile
  have hu' := usd_not.1 hu
  have ho' := oth_not.1 ho
  refine ⟨by rw [ins_len]; omega, fun x hx => ?_, ?_⟩
  · rcases (ins_mem k x ls).1 hx with rfl | hx
    · exact hk
    · exact h.2.1 x hx
  · have hp := h.2.2
    rw [← hs, List.pairwise_append] at hp
    obtain ⟨p1, p2, p3⟩ := hp
    have mem1 : ∀ x ∈ ls.takeWhile (fun x => befB x k), x ∈ ls := fun x hx => by rw [← hs]; exact List.mem_append_left _ hx
    have mem2 : ∀ x ∈ ls.dropWhile (fun x => befB x k), x ∈ ls := fun x hx => by rw [← hs]; exact List.mem_append_right _ hx
    have bef1 : ∀ x ∈ ls.takeWhile (fun x => befB x k), befB x k = true := fun x hx => by
      have := List.all_takeWhile (p := fun x => befB x k) (l := ls)
      exact List.all_eq_true.1 this x hx
    have bef2 : ∀ x ∈ ls.dropWhile (fun x => befB x k), befB k x = true := by
      rcases hd : ls.dropWhile (fun x => befB x k) with _ | ⟨y, t⟩
      · intro x hx; cases hx
      · have hy : befB k y = true := bef_total (hu' y (mem2 y (by rw [hd]; exact List.mem_cons_self))) (drop_head (p := fun x => befB x k) hd)
        intro x hx
        rcases List.mem_cons.1 hx with rfl | hx
        · exact hy
        · rw [hd, List.pairwise_cons] at p2
          exact bef_trans hy (p2.1 x hx).1
    unfold insL
    rw [List.pairwise_append, List.pairwise_cons]
    refine ⟨p1, ⟨fun x hx => ⟨bef2 x hx, fun e => (ho' x (mem2 x hx) e.symm).symm, fun e => hu' x (mem2 x hx) e.symm⟩, p2⟩, fun a ha b hb => ?_⟩
    rcases List.mem_cons.1 hb with rfl | hb
    · exact ⟨bef1 a ha, ho' a (mem1 a ha), hu' a (mem1 a ha)⟩
    · exact p3 a ha b hb
theorem good_sub {ds : List Dv} {a b : List Lk} (h : GoodL ds a) (hs : b.Sublist a) : GoodL ds b := ⟨Nat.le_trans hs.length_le h.1, fun k hk => h.2.1 k (hs.subset hk), h.2.2.sublist hs⟩
/-- Sorted lists with the same locks are equal. -/
theorem lk_ext : ∀ {a b : List Lk}, a.Pairwise (fun x y => befB x y = true) → b.Pairwise (fun x y => befB x y = true) → (∀ x, x ∈ a ↔ x ∈ b) → a = b
  | [], [], _, _, _ => rfl
  | [], y :: b, _, _, h => absurd ((h y).2 List.mem_cons_self) (by simp)
  | x :: a, [], _, _, h => absurd ((h x).1 List.mem_cons_self) (by simp)
  | x :: a, y :: b, ha, hb, h => by
    rw [List.pairwise_cons] at ha hb
    have e : x = y := by
      have h1 := (h x).1 List.mem_cons_self
      have h2 := (h y).2 List.mem_cons_self
      rcases List.mem_cons.1 h1 with h1 | h1
      · exact h1
      · rcases List.mem_cons.1 h2 with h2 | h2
        · exact h2.symm
        · exact (bef_asymm (ha.1 y h2) (hb.1 x h1)).elim
    subst e
    congr 1
    refine lk_ext ha.2 hb.2 fun z => ?_
    have hz := h z
    simp only [List.mem_cons] at hz
    constructor
    · intro hm
      rcases hz.1 (.inr hm) with rfl | h1
      · exact (bef_asymm (ha.1 z hm) (ha.1 z hm)).elim
      · exact h1
    · intro hm
      rcases hz.2 (.inr hm) with rfl | h1
      · exact (bef_asymm (hb.1 z hm) (hb.1 z hm)).elim
      · exact h1
theorem GoodL.sorted {ds : List Dv} {ls : List Lk} (h : GoodL ds ls) : ls.Pairwise (fun x y => befB x y = true) := h.2.2.imp fun h => h.1
/-- The number of the lock that has this device and key. -/
def idxL (d q : Int) : List Lk → Option Nat
  | [] => none
  | x :: l => if x.dev = d ∧ x.key = q then some 0 else (idxL d q l).map (· + 1)
theorem idx_split (d q : Int) : ∀ (a : List Lk) (x : Lk) (b : List Lk), (∀ y ∈ a, ¬ (y.dev = d ∧ y.key = q)) → x.dev = d → x.key = q → idxL d q (a ++ x :: b) = some a.length
  | [], x, b, _, h1, h2 => by rw [List.nil_append, idxL, if_pos ⟨h1, h2⟩]; rfl
  | y :: a, x, b, hn, h1, h2 => by
    rw [List.cons_append, idxL, if_neg (hn y List.mem_cons_self), idx_split d q a x b (fun z hz => hn z (List.mem_cons_of_mem _ hz)) h1 h2]; rfl
theorem idx_ins {ls : List Lk} {k : Lk} (hu : usdL ls k.key = false) : idxL k.dev k.key (insL k ls) = some (ls.takeWhile (fun x => befB x k)).length := by
  have hu' := usd_not.1 hu
  refine idx_split _ _ _ _ _ (fun y hy h => ?_) rfl rfl
  exact hu' y (by rw [← List.takeWhile_append_dropWhile (p := fun x => befB x k) (l := ls)]; exact List.mem_append_left _ hy) h.2
theorem ins_erase (k : Lk) (ls : List Lk) : (insL k ls).eraseIdx (ls.takeWhile (fun x => befB x k)).length = ls := by
  unfold insL
  rw [List.eraseIdx_append_of_length_le (Nat.le_refl _), Nat.sub_self, List.eraseIdx_cons_zero, List.takeWhile_append_dropWhile]
/-- A lock that comes before all others is put in front. -/
theorem ins_front {k : Lk} {ls : List Lk} (h : ∀ x ∈ ls, befB k x = true) : insL k ls = k :: ls := by
  unfold insL
  cases ls with
  | nil => rfl
  | cons y t =>
    have hy : befB y k = false := by
      rcases hb : befB y k with _ | _
      · rfl
      · exact (bef_asymm hb (h y List.mem_cons_self)).elim
    rw [List.takeWhile_cons, List.dropWhile_cons, hy]; rfl
end Go.Proofs.YtbjndpjligpjaaaDoor
