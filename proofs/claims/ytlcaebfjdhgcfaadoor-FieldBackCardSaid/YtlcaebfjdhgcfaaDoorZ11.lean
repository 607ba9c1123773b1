import Derived.Test.YtlcaebfjdhgcfaaDoorZ03
import Derived.Test.YtlcaebfjdhgcfaaDoorZ10
import Derived.Test.YtlcaebfjdhgcfaaDoorZ07
import Derived.Test.YtlcaebfjdhgcfaaDoorZ09
import Derived.Shelf.Abstract
import Derived.Test.YtlcaebfjdhgcfaaDoorZ08
import Derived.Shelf.SlSortCmp.InsertionK
/-
  A field, plain: its errors, and what an event does.
-/
namespace Go.Proofs.YtlcaebfjdhgcfaaDoor
open Go.RowKit
structure Fd where
  s : List Int
  ls : List Lk
  st : List Int
theorem getDf {l : List Int} {k : Nat} {x : Int} (h : l[k]? = some x) : l.getD k 0 = x := by rw [List.getD_eq_getElem?_getD, h]; rfl
/-- An entry of the stuck devices that is no device, or not above the one ahead. -/
def stkE (nd : Nat) (st : List Int) (i : Nat) : Bool := match st[i]? with
  | none => false
  | some d => decide (d < 0) || decide ((nd : Int) ≤ d) || (decide (0 < i) && decide (d ≤ st.getD (i - 1) 0))
def StkOk (nd : Nat) (st : List Int) : Prop := ∀ i, i < st.length → stkE nd st i = false
def LsOk (s : List Int) (ls : List Lk) : Prop := ∀ k ∈ ls, s.getD k.dev.toNat 0 = k.pos
open Classical in
noncomputable def fdErr (ns : List Nd) (ds : List Dv) (F : Fd) : Int := if stateErr ns ds F.s ≠ 0 then stateErr ns ds F.s else if locksErr ns ds F.ls ≠ 0 then locksErr ns ds F.ls else if LsOk F.s F.ls then (if StkOk ds.length F.st then 0 else 8) else 10
section
variable {ns : List Nd} {ds : List Dv} {F : Fd}
theorem fdErr_state (h : stateErr ns ds F.s ≠ 0) : fdErr ns ds F = stateErr ns ds F.s := by unfold fdErr; rw [if_pos h]
theorem fdErr_locks (h : stateErr ns ds F.s = 0) (h1 : locksErr ns ds F.ls ≠ 0) : fdErr ns ds F = locksErr ns ds F.ls := by unfold fdErr; rw [if_neg (by simp [h]), if_pos h1]
theorem fdErr_ls (h : stateErr ns ds F.s = 0) (h1 : locksErr ns ds F.ls = 0) (h2 : ¬ LsOk F.s F.ls) : fdErr ns ds F = 10 := by unfold fdErr; rw [if_neg (by simp [h]), if_neg (by simp [h1]), if_neg h2]
theorem fdErr_st (h : stateErr ns ds F.s = 0) (h1 : locksErr ns ds F.ls = 0) (h2 : LsOk F.s F.ls) (h3 : ¬ StkOk ds.length F.st) : fdErr ns ds F = 8 := by unfold fdErr; rw [if_neg (by simp [h]), if_neg (by simp [h1]), if_pos h2, if_neg h3]
theorem fdErr_ok (h : stateErr ns ds F.s = 0) (h1 : locksErr ns ds F.ls = 0) (h2 : LsOk F.s F.ls) (h3 : StkOk ds.length F.st) : fdErr ns ds F = 0 := by unfold fdErr; rw [if_neg (by simp [h]), if_neg (by simp [h1]), if_pos h2, if_pos h3]
theorem fdErr_zero (h : fdErr ns ds F = 0) : stateErr ns ds F.s = 0 ∧ locksErr ns ds F.ls = 0 ∧ LsOk F.s F.ls ∧ StkOk ds.length F.st := by
  by_cases h1 : stateErr ns ds F.s = 0
  · by_cases h2 : locksErr ns ds F.ls = 0
    · by_cases h3 : LsOk F.s F.ls
      · by_cases h4 : StkOk ds.length F.st
        · exact ⟨h1, h2, h3, h4⟩
        · rw [fdErr_st h1 h2 h3 h4] at h; cases h
      · rw [fdErr_ls h1 h2 h3] at h; cases h
    · rw [fdErr_locks h1 h2] at h; exact absurd h h2
  · rw [fdErr_state h1] at h; exact absurd h h1
theorem stateErr_len {s : List Int} (h : stateErr ns ds s = 0) : checkN ns ds = 0 ∧ s.length = ds.length ∧ ∀ p ∈ s, posB p = true := by
  unfold stateErr at h
  split at h
  · next h1 => exact absurd h h1
  · next h1 =>
    split at h
    · cases h
    · next h2 =>
      split at h
      · next h3 => exact ⟨by simpa using h1, by omega, h3⟩
      · cases h
theorem lkErr_dev {k : Lk} (h : lkErr ds k = 0) : 0 ≤ k.dev ∧ k.dev < ds.length ∧ kindOf ds k.dev ≠ 5 ∧ (k.pos = 1 ∨ k.pos = 2) ∧ 0 ≤ k.key ∧ k.key ≤ 65536 := by
  unfold lkErr at h
  repeat' split at h
  all_goals first | (exfalso; omega) | (refine ⟨?_, ?_, ?_, ?_, ?_, ?_⟩ <;> first | omega | assumption)
end
/-- Two ascending lists with the same members are one. -/
theorem srt_ext : ∀ {a b : List Int}, a.Pairwise (· < ·) → b.Pairwise (· < ·) → (∀ x, x ∈ a ↔ x ∈ b) → a = b
  | [], [], _, _, _ => rfl
  | [], y :: b, _, _, h => by have := (h y).2 (List.mem_cons_self ..); cases this
  | x :: a, [], _, _, h => by have := (h x).1 (List.mem_cons_self ..); cases this
  | x :: a, y :: b, ha, hb, h => by
    rw [List.pairwise_cons] at ha hb
    have e : x = y := by
      rcases List.mem_cons.1 ((h x).1 (List.mem_cons_self ..)) with h1 | h1
      · exact h1
      · rcases List.mem_cons.1 ((h y).2 (List.mem_cons_self ..)) with h2 | h2
        · exact h2.symm
        · have := hb.1 x h1; have := ha.1 y h2; omega
    subst e
    congr 1
    refine srt_ext ha.2 hb.2 fun z => ⟨fun hz => ?_, fun hz => ?_⟩
    · rcases List.mem_cons.1 ((h z).1 (List.mem_cons_of_mem _ hz)) with h1 | h1
      · subst h1; exact absurd (ha.1 z hz) (by omega)
      · exact h1
    · rcases List.mem_cons.1 ((h z).2 (List.mem_cons_of_mem _ hz)) with h1 | h1
      · subst h1; exact absurd (hb.1 z hz) (by omega)
      · exact h1
/-- The devices there are, as numbers. -/
def rngI (n : Nat) : List Int := (List.range n).map fun v : Nat => (v : Int)
theorem rngI_succ (n : Nat) : rngI (n + 1) = rngI n ++ [(n : Int)] := by unfold rngI; rw [List.range_succ, List.map_append]; rfl
theorem rngI_mem {n : Nat} {x : Int} : x ∈ rngI n ↔ 0 ≤ x ∧ x < n := by
  unfold rngI
  rw [List.mem_map]
  constructor
  · rintro ⟨v, hv, rfl⟩; have := List.mem_range.1 hv; omega
  · intro h; exact ⟨x.toNat, List.mem_range.2 (by omega), by omega⟩
theorem rngI_srt : ∀ n, (rngI n).Pairwise (· < ·)
  | 0 => by unfold rngI; exact List.Pairwise.nil
  | n + 1 => by
    rw [rngI_succ, List.pairwise_append]
    exact ⟨rngI_srt n, List.pairwise_singleton _ _, fun a ha b hb => by rw [List.mem_singleton.1 hb]; exact (rngI_mem.1 ha).2⟩
/-- The stuck devices, with d among them or not. -/
def stkTo (nd : Nat) (st : List Int) (d : Int) (b : Bool) : List Int := (rngI nd).filter fun v => if v = d then b else decide (v ∈ st)
theorem stkTo_mem {nd : Nat} {st : List Int} {d x : Int} {b : Bool} : x ∈ stkTo nd st d b ↔ (0 ≤ x ∧ x < nd) ∧ (if x = d then b = true else x ∈ st) := by
  unfold stkTo
  rw [List.mem_filter, rngI_mem]
  split <;> simp
theorem stkTo_srt (nd : Nat) (st : List Int) (d : Int) (b : Bool) : (stkTo nd st d b).Pairwise (· < ·) := (rngI_srt nd).sublist List.filter_sublist
theorem StkOk.mem {nd : Nat} {st : List Int} (h : StkOk nd st) {x : Int} (hx : x ∈ st) : 0 ≤ x ∧ x < nd := by
  obtain ⟨i, hi, rfl⟩ := List.mem_iff_getElem.1 hx
  have := h i hi
  unfold stkE at this
  rw [List.getElem?_eq_getElem hi] at this
  simp only [Bool.or_eq_false_iff, decide_eq_false_iff_not] at this
  omega
theorem StkOk.srt {nd : Nat} {st : List Int} (h : StkOk nd st) : st.Pairwise (· < ·) := by
  have step : ∀ i (hi : i + 1 < st.length), st[i] < st[i + 1] := by
    intro i hi
    have := h (i + 1) hi
    unfold stkE at this
    rw [List.getElem?_eq_getElem hi] at this
    simp only [Bool.or_eq_false_iff, Nat.add_sub_cancel, List.getD_eq_getElem?_getD, List.getElem?_eq_getElem (show i < st.length by omega), Option.getD_some] at this
    simpa using this.2
  have all : ∀ (j i : Nat) (hj : j < st.length) (hij : i < j), st[i]'(by omega) < st[j] := by
    intro j
    induction j with
    | zero => intro i hj hij; omega
    | succ j ih =>
      intro i hj hij
      rcases Nat.lt_succ_iff_lt_or_eq.1 hij with hlt | rfl
      · exact Int.lt_trans (ih i (by omega) hlt) (step j hj)
      · exact step i hj
  rw [List.pairwise_iff_getElem]
  intro i j hi hj hij
  exact all j i hj hij
theorem StkOk.of {nd : Nat} {st : List Int} (h : st.Pairwise (· < ·)) (hm : ∀ x ∈ st, 0 ≤ x ∧ x < nd) : StkOk nd st := by
  intro i hi
  have h1 := hm _ (List.getElem_mem hi)
  unfold stkE
  rw [List.getElem?_eq_getElem hi]
  simp only [Bool.or_eq_false_iff, decide_eq_false_iff_not, Bool.and_eq_false_iff]
  refine ⟨⟨by omega, by omega⟩, ?_⟩
  by_cases h0 : i = 0
  · left; omega
  · right
    rw [List.getD_eq_getElem?_getD, List.getElem?_eq_getElem (show i - 1 < st.length by omega), Option.getD_some]
    have := (List.pairwise_iff_getElem.1 h) (i - 1) i (by omega) hi (by omega)
    omega
theorem stkTo_ok (nd : Nat) (st : List Int) (d : Int) (b : Bool) : StkOk nd (stkTo nd st d b) := StkOk.of (stkTo_srt ..) fun _ h => (stkTo_mem.1 h).1
/-- A field of an event that its kind does not use is not zero. -/
def unuB (k p q : Int) : Bool := if k = 6 then false else if k = 7 then decide (p ≠ 0) else if k = 2 ∨ k = 4 ∨ k = 5 then decide (p ≠ 0) || decide (q ≠ 0) else decide (q ≠ 0)
/-- What is wrong with an event in a valid field. -/
def evErr (ns : List Nd) (ds : List Dv) (F : Fd) (k d p q : Int) : Int :=
  if k = 1 then (if kindOf ds d = 5 then 6 else if posB p = false then 10 else if (lckL F.ls d).isSome = true then 18 else 0)
  else if k = 2 then (if kindOf ds d = 2 then 0 else 6)
  else if k = 3 then (if kindOf ds d = 6 then (if posB p = true then 0 else 10) else 6)
  else if k = 4 ∨ k = 5 then 0
  else if k = 6 then (if posB p = true ∧ F.s.getD d.toNat 0 = p then addErr ns ds F.ls ⟨d, p, q⟩ else 10)
  else if k = 7 then (if idxL d q F.ls = none then 15 else 0)
  else 6
/-- The field behind an event. -/
def evTo (ds : List Dv) (F : Fd) (k d p q : Int) : Fd :=
  if k = 1 ∨ k = 2 ∨ k = 3 then (if ((lckL F.ls d).isSome || decide (d ∈ F.st)) = true then F else ⟨F.s.set d.toNat (if k = 2 then 1 else p), F.ls, F.st⟩)
  else if k = 4 ∨ k = 5 then ⟨F.s, F.ls, stkTo ds.length F.st d (decide (k = 4))⟩
  else if k = 6 then ⟨F.s, insL ⟨d, p, q⟩ F.ls, F.st⟩
  else if k = 7 then ⟨F.s, (match idxL d q F.ls with | some i => F.ls.eraseIdx i | none => F.ls), F.st⟩
  else F
noncomputable def stpErr (ns : List Nd) (ds : List Dv) (F : Fd) (k d p q : Int) : Int :=
  if fdErr ns ds F ≠ 0 then fdErr ns ds F else if d < 0 ∨ (ds.length : Int) ≤ d then 8 else if unuB k p q = true then 14 else evErr ns ds F k d p q
/-- The memory of a network and a field. -/
structure FdM (w : World) (An Ad As Al At : Option Addr) (nn cn nd cd n c nl cl nt ct : Nat) (ns : List Nd) (ds : List Dv) (F : Fd) : Prop where
  hn : Sl w w.heap.size 3 An nn cn (ns.flatMap Nd.cells)
  hd : Sl w w.heap.size 5 Ad nd cd (ds.flatMap Dv.cells)
  hs : Sl w w.heap.size 1 As n c (intsV F.s)
  hl : Sl w w.heap.size 3 Al nl cl (F.ls.flatMap Lk.cells)
  ht : Sl w w.heap.size 1 At nt ct (intsV F.st)
  la : Laid w
  sn : ∀ x ∈ ns, x.name.size ≤ 9223372036854775807
  sd : ∀ x ∈ ds, x.name.size ≤ 9223372036854775807
section
variable {w w' : World} {An Ad As Al At : Option Addr} {nn cn nd cd n c nl cl nt ct : Nat} {ns : List Nd} {ds : List Dv} {F : Fd}
theorem FdM.later (h : FdM w An Ad As Al At nn cn nd cd n c nl cl nt ct ns ds F) (hb : Below w.heap.size w w') : FdM w' An Ad As Al At nn cn nd cd n c nl cl nt ct ns ds F :=
  ⟨(h.hn.below hb (Nat.le_refl _)).more hb.size, (h.hd.below hb (Nat.le_refl _)).more hb.size, (h.hs.below hb (Nat.le_refl _)).more hb.size, (h.hl.below hb (Nat.le_refl _)).more hb.size, (h.ht.below hb (Nat.le_refl _)).more hb.size, h.la.below hb (Nat.le_refl _), h.sn, h.sd⟩
theorem FdM.ln (h : FdM w An Ad As Al At nn cn nd cd n c nl cl nt ct ns ds F) : ns.length = nn ∧ ds.length = nd ∧ F.s.length = n ∧ F.ls.length = nl ∧ F.st.length = nt :=
  ⟨h.hn.len (fun _ => rfl) (by decide), h.hd.len (fun _ => rfl) (by decide), h.hs.len (fun _ => rfl) (by decide), h.hl.len (fun _ => rfl) (by decide), h.ht.len (fun _ => rfl) (by decide)⟩
end
/-- Two boxes: the network's, the field's. -/
structure Bx2f (w : World) (cn cf : Array Value) (wr : World) : Prop where
  b0 : Blk wr w.heap.size 30 cn
  b1 : Blk wr (w.heap.size + 1) 33 cf
  bl : Below w.heap.size w wr
theorem Bx2f.new (w : World) (cn cf : Array Value) : Bx2f w cn cf ((w.alloc (.cells cn 30)).alloc (.cells cf 33)) := by
  have e : (w.alloc (.cells cn 30)).heap.size = w.heap.size + 1 := by simp
  refine ⟨(Blk.new w _ _).alloc _, ?_, ((Below.refl _ _).alloc (Nat.le_refl _) _).alloc (by simp) _⟩
  have := Blk.new (w.alloc (.cells cn 30)) 33 cf
  rwa [e] at this
theorem Bx2f.later {w wr wr' : World} {cn cf : Array Value} (h : Bx2f w cn cf wr) (hb : Below wr.heap.size wr wr') : Bx2f w cn cf wr' := ⟨h.b0.below hb h.b0.lt, h.b1.below hb h.b1.lt, h.bl.trans (hb.mono h.bl.size)⟩
theorem Bx2f.drewN {w wr : World} {cn cf : Array Value} (h : Bx2f w cn cf wr) (m : Nat) : Bx2f w cn cf (wr.drewN m) := h.later (below_drewN (Below.refl _ _) m)
end Go.Proofs.YtlcaebfjdhgcfaaDoor
/-
  The program's layer 14: walks of valid, Locked, used, other, order.
-/
namespace Go.Proofs.YtlcaebfjdhgcfaaDoor
open Go.RowKit
set_option maxHeartbeats 2000000 in
theorem valid_any (An Ad : Option Addr) (nn cn nd cd Bd : Nat) (ds : List Dv) (d p q : Int) (w : World) (hd : Sl w Bd 5 Ad nd cd (ds.flatMap Dv.cells)) (hBd : Bd ≤ w.heap.size) :
    Calls Tryd.prog 49 #[.agg #[.slice An nn cn, .slice Ad nd cd], .agg #[.int .i64 d, .int .i64 p, .int .i64 q]] w fun e w' => e = .returned (.int .i64 (lkErr ds ⟨d, p, q⟩)) ∧ Below w.heap.size w w' := by
  have HLD := Lib.hid (hd.len (fun _ => rfl) (by decide))
  have HE : Hid (lkErr ds ⟨d, p, q⟩ = if d < 0 then 8 else if (nd : Int) ≤ d then 8 else if kindOf ds d = 5 then 6 else if p ≠ 1 ∧ p ≠ 2 then 10 else if q < 0 then 5 else if 65536 < q then 5 else 0) := by unfold Hid lkErr; rw [HLD.out]
  have HB : Hid (Below w.heap.size w ((w.alloc (.cells #[.slice An nn cn, .slice Ad nd cd] 30)).alloc (.cells #[.int .i64 d, .int .i64 p, .int .i64 q] 43))) := ((Below.refl _ _).alloc (Nat.le_refl _) _).alloc (by simp) _
  have HD2 := Lib.hid ((hd.alloc hBd (.cells #[.slice An nn cn, .slice Ad nd cd] 30)).alloc (by simp; omega) (.cells #[.int .i64 d, .int .i64 p, .int .i64 q] 43))
  have hdm := hd.le
  clear hd
  by_cases h1 : d < 0
  · have q1 : decide (d < 0) = true := by simpa using h1
    go_enter Tryd.func49, Tryd.ntmps49
    go_wp2_with fail
    go_ret
    exact ⟨ret_int (by rw [HE.out, if_pos h1]), HB.out⟩
  have q1 : decide (d < 0) = false := by simpa using h1
  by_cases h2 : (nd : Int) ≤ d
  · have q2 : decide ((nd : Int) ≤ d) = true := by simpa using h2
    go_enter Tryd.func49, Tryd.ntmps49
    go_wp2_with fail
    go_ret
    exact ⟨ret_int (by rw [HE.out, if_neg (by omega), if_pos h2]), HB.out⟩
  obtain ⟨i, rfl⟩ := Int.eq_ofNat_of_zero_le (show 0 ≤ d by omega)
  have hin : i < nd := by omega
  have q2 : decide (nd ≤ i) = false := by simp; omega
  obtain ⟨b0, off, x, rfl, hb0, hx, hc⟩ := HD2.out.at (fun _ => rfl) (by decide) hin
  have HX := Lib.hid (kindOf_at hx)
  obtain ⟨nm, kd, xa, xb, co⟩ := x
  have c1 := hc 1 _ rfl
  clear hc hx
  by_cases h3 : kd = 5
  · subst h3
    go_enter Tryd.func49, Tryd.ntmps49
    go_wp2_with fail
    go_ret
    exact ⟨ret_int (by rw [HE.out, if_neg (by omega), if_neg (by omega), HX.out, if_pos rfl]), HB.out⟩
  have q3 : (kd == 5) = false := by simpa using h3
  have HR : Hid (lkErr ds ⟨(i : Int), p, q⟩ = if p ≠ 1 ∧ p ≠ 2 then 10 else if q < 0 then 5 else if 65536 < q then 5 else 0) := by unfold Hid; rw [HE.out, if_neg (by omega), if_neg (by omega), HX.out, if_neg h3]
  clear h1 h2 h3 HE HX
  by_cases h4 : p = 1 ∨ p = 2
  · have HR2 : Hid (lkErr ds ⟨(i : Int), p, q⟩ = if q < 0 then 5 else if 65536 < q then 5 else 0) := by unfold Hid; rw [HR.out, if_neg (by omega)]
    clear HR
    by_cases h5 : q < 0
    · have q5 : decide (q < 0) = true := by simpa using h5
      rcases h4 with rfl | rfl
      all_goals
        go_enter Tryd.func49, Tryd.ntmps49
        go_wp2_with fail
        go_ret
        exact ⟨ret_int (by rw [HR2.out, if_pos h5]), HB.out⟩
    have q5 : decide (q < 0) = false := by simpa using h5
    by_cases h6 : 65536 < q
    · have q6 : decide (65536 < q) = true := by simpa using h6
      rcases h4 with rfl | rfl
      all_goals
        go_enter Tryd.func49, Tryd.ntmps49
        go_wp2_with fail
        go_ret
        exact ⟨ret_int (by rw [HR2.out, if_neg (by omega), if_pos h6]), HB.out⟩
    have q6 : decide (65536 < q) = false := by simpa using h6
    rcases h4 with rfl | rfl
    all_goals
      go_enter Tryd.func49, Tryd.ntmps49
      go_wp2_with fail
      go_ret
      exact ⟨ret_int (by rw [HR2.out, if_neg (by omega), if_neg (by omega)]), HB.out⟩
  · have p1 : (p != 1) = true := by simp; omega
    have p2 : (p != 2) = true := by simp; omega
    go_enter Tryd.func49, Tryd.ntmps49
    go_wp2_with fail
    go_ret
    exact ⟨ret_int (by rw [HR.out, if_pos (by omega)]), HB.out⟩

def PlR (w : World) (ls : List Lk) (d : Int) (n gk : Nat) (iv : Value) (wr : World) : Prop := ∃ i : Nat, iv = .int .i64 i ∧ i ≤ n ∧ gk = n - i ∧ Hid (∀ x ∈ ls.take i, x.dev ≠ d) ∧ Hid (Below w.heap.size w wr)
set_option maxHeartbeats 2000000 in
theorem locked_any (A : Option Addr) (n c B : Nat) (ls : List Lk) (d : Int) (w : World) (hs : Sl w B 3 A n c (ls.flatMap Lk.cells)) (hB : B ≤ w.heap.size) :
    Calls Tryd.prog 22 #[.slice A n c, .int .i64 d] w fun e w' => e = lckE ls d ∧ Below w.heap.size w w' := by
  have HLN := Lib.hid (hs.len (fun _ => rfl) (by decide)); have HS := Lib.hid hs
  have hle := hs.le
  clear hs
  go_enter Tryd.func22, Tryd.ntmps22
  go_wp2_with fail
  go_loopg [10] n (PlR w ls d n)
  case atStart => exact ⟨0, rfl, Nat.zero_le _, rfl, (fun x hx => by simp at hx), Below.refl _ _⟩
  case round =>
    obtain ⟨i, rfl, hi, rfl, hno, hbl⟩ := hrel
    by_cases hlt : i < n
    · obtain ⟨b, off, d1, p1, q1, rfl, hb, hx, c0, c1, c2⟩ := (HS.out.below hbl.out hB).lock hlt
      have HX := Lib.hid hx
      have HB2 : Hid (Below w.heap.size w (wr.alloc (.cells #[.int .i64 d1, .int .i64 p1, .int .i64 q1] 43))) := hbl.out.alloc hbl.out.size _
      clear hx
      by_cases hd : d1 = d
      · subst hd
        have HR : Hid (lckL ls d1 = some p1) := lck_hit hno.out HX.out rfl
        have qq : (d1 == d1) = true := by simp
        go_wp2_with fail
        go_ret2
        exact ⟨by unfold lckE; rw [HR.out]; rfl, HB2.out⟩
      · have qq : (d1 == d) = false := by simpa using hd
        have HN : Hid (∀ x ∈ ls.take (i + 1), x.dev ≠ d) := fun x hx => by
          rw [take_snoc HX.out] at hx
          rcases List.mem_append.1 hx with h | h
          · exact hno.out x h
          · rw [List.mem_singleton.1 h]; exact hd
        clear hd
        go_wp2_with fail
        go_roundg (n - (i + 1))
        case rel => exact ⟨i + 1, by go_num, by omega, rfl, HN, HB2⟩
        case measure => omega
    · obtain rfl : i = n := by omega
      have hii : decide (i < i) = false := by simp
      have HR : Hid (lckL ls d = none) := by
        have := hno.out
        rw [List.take_of_length_le (by rw [HLN.out]; exact Nat.le_refl _)] at this
        exact lck_none.2 this
      go_wp2_with fail
      go_ret2
      exact ⟨by unfold lckE; rw [HR.out]; rfl, hbl.out⟩
/-- A predicate on locks that a function value tells. -/
def PredL (g : Nat) (lb : Array Value) (p : Lk → Bool) (w : World) : Prop :=
  ∀ (W : World) (d q r : Int), Below w.heap.size w W → Calls Tryd.prog g (#[.agg #[.int .i64 d, .int .i64 q, .int .i64 r]] ++ lb) W fun e w' => e = .returned (.bool (p ⟨d, q, r⟩)) ∧ Below w.heap.size w w'
def IfR (w : World) (ls : List Lk) (p : Lk → Bool) (n gk : Nat) (_kv iv : Value) (wr : World) : Prop := ∃ i : Nat, iv = .int .i64 i ∧ i ≤ n ∧ gk = n - i ∧ Hid (∀ x ∈ ls.take i, p x = false) ∧ Hid (Below w.heap.size w wr)
set_option maxHeartbeats 2000000 in
theorem idxf_any (g : Nat) (lb : Array Value) (p : Lk → Bool) (eg : ∀ args w, (callFunc g args).run Tryd.prog w = .ok (.enter g args) w) (A : Option Addr) (n c B : Nat) (ls : List Lk) (w : World) (hs : Sl w B 3 A n c (ls.flatMap Lk.cells)) (hB : B ≤ w.heap.size) (hp : PredL g lb p w) :
    Calls Tryd.prog 79 #[.slice A n c, .func (.func g) #[] lb] w fun e w' => (∃ i : Int, e = .returned (.int .i64 i) ∧ Hid (decide (0 ≤ i) = ls.any p)) ∧ Below w.heap.size w w' := by
  have HLN := Lib.hid (hs.len (fun _ => rfl) (by decide)); have HS := Lib.hid hs
  have hle := hs.le
  have HP := Lib.hid hp
  clear hs hp
  go_enter Tryd.func79, Tryd.ntmps79
  go_wp2_with fail
  go_loopg [5, 8] n (IfR w ls p n)
  case atStart => exact ⟨0, rfl, Nat.zero_le _, rfl, (fun x hx => by simp at hx), Below.refl _ _⟩
  case round =>
    obtain ⟨i, rfl, hi, rfl, hno, hbl⟩ := hrel
    by_cases hlt : i < n
    · obtain ⟨b, off, d1, p1, q1, rfl, hb, hx, c0, c1, c2⟩ := (HS.out.below hbl.out hB).lock hlt
      have HX := Lib.hid hx
      have hcall := HP.out wr d1 p1 q1 hbl.out
      clear hx
      rcases hq : p ⟨d1, p1, q1⟩ with _ | _
      · rw [hq] at hcall
        have HN : Hid (∀ x ∈ ls.take (i + 1), p x = false) := fun x hx => by
          rw [take_snoc HX.out] at hx
          rcases List.mem_append.1 hx with h | h
          · exact hno.out x h
          · rw [List.mem_singleton.1 h]; exact hq
        clear hq
        go_wp2_with (go_at_fn g; refine hcall.mono ?_; rintro e w' ⟨rfl, hb'⟩)
        go_roundg (n - (i + 1))
        case rel => exact ⟨i + 1, by go_num, by omega, rfl, HN, hb'⟩
        case measure => omega
      · rw [hq] at hcall
        have HR : Hid (decide (0 ≤ (i : Int)) = ls.any p) := by
          unfold Hid
          rw [decide_eq_true (by omega)]
          symm
          rw [List.any_eq_true]
          exact ⟨_, List.mem_of_getElem? HX.out, hq⟩
        clear hq
        go_wp2_with (go_at_fn g; refine hcall.mono ?_; rintro e w' ⟨rfl, hb'⟩)
        go_ret
        exact ⟨⟨_, rfl, HR⟩, hb'⟩
    · obtain rfl : i = n := by omega
      have hii : decide (i < i) = false := by simp
      have HR : Hid (decide (0 ≤ (-1 : Int)) = ls.any p) := by
        have := hno.out
        rw [List.take_of_length_le (by rw [HLN.out]; exact Nat.le_refl _)] at this
        unfold Hid
        rw [decide_eq_false (by omega)]
        symm
        rw [List.any_eq_false]
        intro x hx
        rw [this x hx]; simp
      go_wp2_with fail
      go_ret
      exact ⟨⟨_, rfl, HR⟩, hbl.out⟩
set_option maxHeartbeats 2000000 in
theorem contf_any (g : Nat) (lb : Array Value) (p : Lk → Bool) (eg : ∀ args w, (callFunc g args).run Tryd.prog w = .ok (.enter g args) w) (A : Option Addr) (n c B : Nat) (ls : List Lk) (w : World) (hs : Sl w B 3 A n c (ls.flatMap Lk.cells)) (hB : B ≤ w.heap.size) (hp : PredL g lb p w) :
    Calls Tryd.prog 69 #[.slice A n c, .func (.func g) #[] lb] w fun e w' => e = .returned (.bool (ls.any p)) ∧ Below w.heap.size w w' := by
  have HI := Lib.hid (idxf_any g lb p eg A n c B ls w hs hB hp)
  clear hs hp
  go_enter Tryd.func69, Tryd.ntmps69
  go_wp2_with fail
  refine HI.out.mono ?_
  rintro e w1 ⟨⟨i, rfl, hi⟩, hb⟩
  go_wp2_with fail
  go_ret
  exact ⟨ret_bool hi.out, hb⟩
set_option maxHeartbeats 2000000 in
theorem used_any (A : Option Addr) (n c B : Nat) (ls : List Lk) (q : Int) (w : World) (hs : Sl w B 3 A n c (ls.flatMap Lk.cells)) (hB : B ≤ w.heap.size) :
    Calls Tryd.prog 52 #[.slice A n c, .int .i64 q] w fun e w' => e = .returned (.bool (usdL ls q)) ∧ Below w.heap.size w w' := by
  have HP : Hid (PredL 71 #[.pointer (some ⟨w.heap.size, 0, none⟩)] (fun x => decide (x.key = q)) (w.alloc (.cells #[.int .i64 q] 3))) := by
    intro W d p q1 hb
    have hc : W.cell? ⟨w.heap.size, 0, none⟩ = some (.int .i64 q) := (hb.cell (p := ⟨w.heap.size, 0, none⟩) (by simp)).trans (by simp)
    have hBW : w.heap.size < W.heap.size := Nat.lt_of_lt_of_le (by simp) hb.size
    have hne : w.heap.size ≠ W.heap.size := by omega
    show Calls Tryd.prog 71 #[.agg #[.int .i64 d, .int .i64 p, .int .i64 q1], .pointer (some ⟨w.heap.size, 0, none⟩)] W _
    go_enter Tryd.func71, Tryd.ntmps71
    go_wp2_with fail
    go_ret
    exact ⟨ret_bool (by by_cases h : q1 = q <;> simp [h]), hb.alloc hb.size _⟩
  have HI := Lib.hid (contf_any 71 #[.pointer (some ⟨w.heap.size, 0, none⟩)] (fun x => decide (x.key = q)) (enters_of Tryd.func71 (by kernel_rfl) rfl) A n c B ls _ (hs.alloc hB _) (by simp; omega) HP.out)
  have HB : Hid (Below w.heap.size w (w.alloc (.cells #[.int .i64 q] 3))) := (Below.refl _ _).alloc (Nat.le_refl _) _
  clear hs HP
  go_enter Tryd.func52, Tryd.ntmps52
  go_wp2_with fail
  refine HI.out.mono ?_
  rintro e w1 ⟨rfl, hb⟩
  have HB2 := Lib.hid (HB.out.trans (hb.mono (by simp)))
  clear hb
  go_wp2_with fail
  go_ret
  exact ⟨rfl, HB2.out⟩
set_option maxHeartbeats 2000000 in
theorem other_any (A : Option Addr) (n c B : Nat) (ls : List Lk) (d p q : Int) (w : World) (hs : Sl w B 3 A n c (ls.flatMap Lk.cells)) (hB : B ≤ w.heap.size) :
    Calls Tryd.prog 51 #[.slice A n c, .agg #[.int .i64 d, .int .i64 p, .int .i64 q]] w fun e w' => e = .returned (.bool (othL ls ⟨d, p, q⟩)) ∧ Below w.heap.size w w' := by
  have HP : Hid (PredL 70 #[.pointer (some ⟨w.heap.size, 0, none⟩)] (othB ⟨d, p, q⟩) (w.alloc (.cells #[.int .i64 d, .int .i64 p, .int .i64 q] 43))) := by
    intro W d1 p1 q1 hb
    have hc0 : W.cell? ⟨w.heap.size, 0, none⟩ = some (.int .i64 d) := (hb.cell (p := ⟨w.heap.size, 0, none⟩) (by simp)).trans (by simp)
    have hc1 : W.cell? ⟨w.heap.size, 1, none⟩ = some (.int .i64 p) := (hb.cell (p := ⟨w.heap.size, 1, none⟩) (by simp)).trans (by simp)
    have hBW : w.heap.size < W.heap.size := Nat.lt_of_lt_of_le (by simp) hb.size
    have hne : w.heap.size ≠ W.heap.size := by omega
    have HBW : Hid (Below (w.alloc (.cells #[.int .i64 d, .int .i64 p, .int .i64 q] 43)).heap.size (w.alloc (.cells #[.int .i64 d, .int .i64 p, .int .i64 q] 43)) (W.alloc (.cells #[.int .i64 d1, .int .i64 p1, .int .i64 q1] 43))) := hb.alloc hb.size _
    clear hb
    show Calls Tryd.prog 70 #[.agg #[.int .i64 d1, .int .i64 p1, .int .i64 q1], .pointer (some ⟨w.heap.size, 0, none⟩)] W _
    by_cases h : d1 = d
    · subst h
      have qd : (d1 == d1) = true := by simp
      go_enter Tryd.func70, Tryd.ntmps70
      go_wp2_with fail
      go_ret
      exact ⟨ret_bool (by by_cases h : p1 = p <;> simp [h, othB]), HBW.out⟩
    · have qd : (d1 == d) = false := by simpa using h
      have HR : Hid (othB ⟨d, p, q⟩ ⟨d1, p1, q1⟩ = false) := by unfold Hid; simp [othB, h]
      go_enter Tryd.func70, Tryd.ntmps70
      go_wp2_with fail
      go_ret
      exact ⟨ret_bool HR.out.symm, HBW.out⟩
  have HI := Lib.hid (contf_any 70 #[.pointer (some ⟨w.heap.size, 0, none⟩)] (othB ⟨d, p, q⟩) (enters_of Tryd.func70 (by kernel_rfl) rfl) A n c B ls _ (hs.alloc hB _) (by simp; omega) HP.out)
  have HB : Hid (Below w.heap.size w (w.alloc (.cells #[.int .i64 d, .int .i64 p, .int .i64 q] 43))) := (Below.refl _ _).alloc (Nat.le_refl _) _
  clear hs HP
  go_enter Tryd.func51, Tryd.ntmps51
  go_wp2_with fail
  refine HI.out.mono ?_
  rintro e w1 ⟨rfl, hb⟩
  have HB2 := Lib.hid (HB.out.trans (hb.mono (by simp)))
  clear hb
  go_wp2_with fail
  go_ret
  exact ⟨rfl, HB2.out⟩
end Go.Proofs.YtlcaebfjdhgcfaaDoor
/-
  The program's layer 14: walks of order and Check.
-/
namespace Go.Proofs.YtlcaebfjdhgcfaaDoor
open Go.RowKit
open Go.Sort (grow alloc_eq_grow)
theorem cell_al3 {W : World} {p : Addr} {v : Value} (o : Obj) (h : W.cell? p = some v) : (W.alloc o).cell? p = some v := (World.cell?_alloc_lt W o p (cell_lt h)).trans h
theorem grow_three (w : World) (a b c : Obj) : ∃ n os, ((w.alloc a).alloc b).drew.alloc c = grow (w.drewN n) os := ⟨1, #[a] ++ #[b] ++ #[c], by
  rw [alloc_eq_grow w a, alloc_eq_grow _ b, Go.Sort.grow_grow]
  show (grow w.drew (#[a] ++ #[b])).alloc c = _
  rw [alloc_eq_grow, Go.Sort.grow_grow]; rfl⟩
def cmpI (a b : Int) : Int := if a < b then -1 else if b < a then 1 else 0
def orI (x y : Int) : Int := if x ≠ 0 then x else y
def ordI (a b : Lk) : Int := orI (cmpI a.dev b.dev) (cmpI a.key b.key)
theorem cmpI_zero {a b : Int} : cmpI a b = 0 ↔ a = b := by unfold cmpI; split <;> (try split) <;> omega
theorem ord_lt (a b : Lk) : ordI a b < 0 ↔ befB a b = true := by
  rw [bef_iff]; unfold ordI orI cmpI
  split <;> split <;> (try split) <;> omega
theorem nan_any (x : Int) (w : World) : Calls Tryd.prog 57 #[.int .i64 x] w fun e w' => e = .returned (.bool false) ∧ w = w' := by
  have q : (x != x) = false := by simp
  go_enter Tryd.func57, Tryd.ntmps57
  go_wp2_with fail
  go_ret
  exact ⟨rfl, rfl⟩
theorem cmp_any (x y : Int) (w : World) : Calls Tryd.prog 68 #[.int .i64 x, .int .i64 y] w fun e w' => e = .returned (.int .i64 (cmpI x y)) ∧ w = w' := by
  by_cases h1 : x < y
  · have q1 : decide (x < y) = true := by simpa using h1
    have HR : Hid (cmpI x y = -1) := by unfold Hid cmpI; rw [if_pos h1]
    go_enter Tryd.func68, Tryd.ntmps68
    go_wp2_with fail
    refine (nan_any x w).mono ?_
    rintro e w1 ⟨rfl, rfl⟩
    go_wp2_with fail
    refine (nan_any y _).mono ?_
    rintro e w1 ⟨rfl, rfl⟩
    go_wp2_with fail
    go_ret
    exact ⟨ret_int HR.out.symm, rfl⟩
  have q1 : decide (x < y) = false := by simpa using h1
  by_cases h2 : y < x
  · have q2 : decide (y < x) = true := by simpa using h2
    have HR : Hid (cmpI x y = 1) := by unfold Hid cmpI; rw [if_neg h1, if_pos h2]
    go_enter Tryd.func68, Tryd.ntmps68
    go_wp2_with fail
    refine (nan_any x w).mono ?_
    rintro e w1 ⟨rfl, rfl⟩
    go_wp2_with fail
    refine (nan_any y _).mono ?_
    rintro e w1 ⟨rfl, rfl⟩
    go_wp2_with fail
    go_ret
    exact ⟨ret_int HR.out.symm, rfl⟩
  have q2 : decide (y < x) = false := by simpa using h2
  have HR : Hid (cmpI x y = 0) := by unfold Hid cmpI; rw [if_neg h1, if_neg h2]
  go_enter Tryd.func68, Tryd.ntmps68
  go_wp2_with fail
  refine (nan_any x w).mono ?_
  rintro e w1 ⟨rfl, rfl⟩
  go_wp2_with fail
  refine (nan_any y _).mono ?_
  rintro e w1 ⟨rfl, rfl⟩
  go_wp2_with fail
  go_ret
  exact ⟨ret_int HR.out.symm, rfl⟩
def OrR (w : World) (x : Int) (gk : Nat) (iv : Value) (wr : World) : Prop := ∃ i : Nat, iv = .int .i64 i ∧ i ≤ 2 ∧ gk = 2 - i ∧ Hid (i = 1 → x = 0) ∧ Hid (i = 2 → False) ∧ wr = w
set_option maxHeartbeats 2000000 in
/-- cmp.Or of two numbers in a block. -/
theorem or_any (b : Nat) (x y : Int) (w : World) (h0 : w.cell? ⟨b, 0, none⟩ = some (.int .i64 x)) (h1 : w.cell? ⟨b, 1, none⟩ = some (.int .i64 y)) :
    Calls Tryd.prog 67 #[.slice (some ⟨b, 0, none⟩) 2 2] w fun e w' => e = .returned (.int .i64 (orI x y)) ∧ w = w' := by
  by_cases hx : x = 0
  · subst hx
    have e1 : ((0 : Int) != 0) = false := by decide
    by_cases hy : y = 0
    · subst hy
      go_enter Tryd.func67, Tryd.ntmps67
      go_wp2_with fail
      refine wp_loop_rounds 3 ?_
      rw [rounds_succ]
      go_wp2_with fail
      rw [rounds_succ]
      go_wp2_with fail
      rw [rounds_succ]
      go_wp2_with fail
      go_ret
      exact ⟨ret_int (by unfold orI; rw [if_neg (by simp)]), rfl⟩
    · have e2 : (y != 0) = true := by simpa using hy
      go_enter Tryd.func67, Tryd.ntmps67
      go_wp2_with fail
      refine wp_loop_rounds 3 ?_
      rw [rounds_succ]
      go_wp2_with fail
      rw [rounds_succ]
      go_wp2_with fail
      go_ret
      exact ⟨ret_int (by unfold orI; rw [if_neg (by simp)]), rfl⟩
  · have e1 : (x != 0) = true := by simpa using hx
    have HX := Lib.hid hx
    clear hx
    go_enter Tryd.func67, Tryd.ntmps67
    go_wp2_with fail
    refine wp_loop_rounds 3 ?_
    rw [rounds_succ]
    go_wp2_with fail
    go_ret
    exact ⟨ret_int (by unfold orI; rw [if_pos HX.out]), rfl⟩
set_option maxHeartbeats 4000000 in
theorem order_any (a b : Lk) (w : World) : Calls Tryd.prog 50 #[.agg #[.int .i64 a.dev, .int .i64 a.pos, .int .i64 a.key], .agg #[.int .i64 b.dev, .int .i64 b.pos, .int .i64 b.key]] w fun e w' => e = .returned (.int .i64 (ordI a b)) ∧ ∃ q os, w' = grow (w.drewN q) os := by
  obtain ⟨d, p, q⟩ := a
  obtain ⟨d2, p2, q2⟩ := b
  have HC1 := Lib.hid (fun W => cmp_any d d2 W)
  have HC2 := Lib.hid (fun W => cmp_any q q2 W)
  have HR : Hid (ordI ⟨d, p, q⟩ ⟨d2, p2, q2⟩ = orI (cmpI d d2) (cmpI q q2)) := rfl
  generalize cmpI d d2 = r1 at *
  generalize cmpI q q2 = r2 at *
  have HCS : Hid ((((w.alloc (.cells #[.int .i64 d, .int .i64 p, .int .i64 q] 43)).alloc (.cells #[.int .i64 d2, .int .i64 p2, .int .i64 q2] 43)).cell? ⟨w.heap.size, 0, none⟩ = some (.int .i64 d)) ∧ (((w.alloc (.cells #[.int .i64 d, .int .i64 p, .int .i64 q] 43)).alloc (.cells #[.int .i64 d2, .int .i64 p2, .int .i64 q2] 43)).cell? ⟨w.heap.size, 2, none⟩ = some (.int .i64 q)) ∧ (((w.alloc (.cells #[.int .i64 d, .int .i64 p, .int .i64 q] 43)).alloc (.cells #[.int .i64 d2, .int .i64 p2, .int .i64 q2] 43)).cell? ⟨w.heap.size + 1, 0, none⟩ = some (.int .i64 d2)) ∧ (((w.alloc (.cells #[.int .i64 d, .int .i64 p, .int .i64 q] 43)).alloc (.cells #[.int .i64 d2, .int .i64 p2, .int .i64 q2] 43)).cell? ⟨w.heap.size + 1, 2, none⟩ = some (.int .i64 q2))) := by
    have b1 : Blk ((w.alloc (.cells #[.int .i64 d, .int .i64 p, .int .i64 q] 43)).alloc (.cells #[.int .i64 d2, .int .i64 p2, .int .i64 q2] 43)) w.heap.size 43 #[.int .i64 d, .int .i64 p, .int .i64 q] := (Blk.new _ _ _).alloc _
    have b2 : Blk ((w.alloc (.cells #[.int .i64 d, .int .i64 p, .int .i64 q] 43)).alloc (.cells #[.int .i64 d2, .int .i64 p2, .int .i64 q2] 43)) (w.heap.size + 1) 43 #[.int .i64 d2, .int .i64 p2, .int .i64 q2] := by have := Blk.new (w.alloc (.cells #[.int .i64 d, .int .i64 p, .int .i64 q] 43)) 43 #[.int .i64 d2, .int .i64 p2, .int .i64 q2]; simpa using this
    exact ⟨b1.cell 0, b1.cell 2, b2.cell 0, b2.cell 2⟩
  have HEND : Hid (∀ o, ∃ nq os, ((w.alloc (.cells #[.int .i64 d, .int .i64 p, .int .i64 q] 43)).alloc (.cells #[.int .i64 d2, .int .i64 p2, .int .i64 q2] 43)).drew.alloc o = grow (w.drewN nq) os) := fun o => grow_three w _ _ o
  go_enter Tryd.func50, Tryd.ntmps50
  go_upto_region 1 with (fail)
  generalize World.alloc (World.alloc _ _) _ = W at *
  refine wp_region_J (S := fun W' => W'.cell? ⟨w.heap.size, 0, none⟩ = some (.int .i64 d) ∧ W'.cell? ⟨w.heap.size, 2, none⟩ = some (.int .i64 q) ∧ W'.cell? ⟨w.heap.size + 1, 0, none⟩ = some (.int .i64 d2) ∧ W'.cell? ⟨w.heap.size + 1, 2, none⟩ = some (.int .i64 q2)) (J := []) (by kernel_rfl) ?_ (fun hHeld => ?_)
  · exact HCS.out
  try dsimp only at hHeld
  refine wpAnyJ_takeL (i := 0) (d := some 5) (v := ?_) #[true, false, false, false, false, false, false, false, false, false, false, false, false] (by kernel_rfl) rfl rfl (by kernel_rfl) (by kernel_rfl) (by kernel_rfl) (by kernel_rfl) (by kernel_rfl) (fun _ _ _ h => h) (Or.inl ⟨by rfl, ?_⟩) hHeld ?_
  rotate_left
  · (intro w hSw; (try dsimp only at hSw);  go_simp; try with_reducible rfl)
  try simp only [Act.put, List.setIfInBounds_toArray, List.set_cons_zero, List.set_cons_succ]
  refine wpAnyJ_takeL (i := 1) (d := some 6) (v := ?_) #[true, true, false, false, false, false, false, false, false, false, false, false, false] (by kernel_rfl) rfl rfl (by kernel_rfl) (by kernel_rfl) (by kernel_rfl) (by kernel_rfl) (by kernel_rfl) (fun _ _ _ h => h) (Or.inl ⟨by rfl, ?_⟩) hHeld ?_
  rotate_left
  · (intro w hSw; (try dsimp only at hSw);  go_simp; try with_reducible rfl)
  try simp only [Act.put, List.setIfInBounds_toArray, List.set_cons_zero, List.set_cons_succ]
  refine wpAnyJ_takeL (i := 2) (d := some 7) (v := ?_) #[true, true, true, false, false, false, false, false, false, false, false, false, false] (by kernel_rfl) rfl rfl (by kernel_rfl) (by kernel_rfl) (by kernel_rfl) (by kernel_rfl) (by kernel_rfl) (fun _ _ _ h => h) (Or.inl ⟨by rfl, ?_⟩) hHeld ?_
  rotate_left
  · (intro w hSw; (try dsimp only at hSw);  go_simp; try with_reducible rfl)
  try simp only [Act.put, List.setIfInBounds_toArray, List.set_cons_zero, List.set_cons_succ]
  refine wpAnyJ_takeL (i := 3) (d := some 8) (v := ?_) #[true, true, true, true, false, false, false, false, false, false, false, false, false] (by kernel_rfl) rfl rfl (by kernel_rfl) (by kernel_rfl) (by kernel_rfl) (by kernel_rfl) (by kernel_rfl) (fun _ _ _ h => h) (Or.inl ⟨by rfl, ?_⟩) hHeld ?_
  rotate_left
  · (intro w hSw; (try dsimp only at hSw);  go_simp; try with_reducible rfl)
  try simp only [Act.put, List.setIfInBounds_toArray, List.set_cons_zero, List.set_cons_succ]
  refine wpAnyJ_takeL (i := 5) (d := some 10) (v := ?_) #[true, true, true, true, false, true, false, false, false, false, false, false, false] (by kernel_rfl) rfl rfl (by kernel_rfl) (by kernel_rfl) (by kernel_rfl) (by kernel_rfl) (by kernel_rfl) (fun _ _ _ h => h) (Or.inl ⟨by rfl, ?_⟩) hHeld ?_
  rotate_left
  · (intro w hSw; (try dsimp only at hSw);  go_simp; try with_reducible rfl)
  try simp only [Act.put, List.setIfInBounds_toArray, List.set_cons_zero, List.set_cons_succ]
  refine wpAnyJ_takeL (i := 6) (d := some 11) (v := ?_) #[true, true, true, true, false, true, true, false, false, false, false, false, false] (by kernel_rfl) rfl rfl (by kernel_rfl) (by kernel_rfl) (by kernel_rfl) (by kernel_rfl) (by kernel_rfl) (fun _ _ _ h => h) (Or.inl ⟨by rfl, ?_⟩) hHeld ?_
  rotate_left
  · (intro w hSw; (try dsimp only at hSw);  go_simp; try with_reducible rfl)
  try simp only [Act.put, List.setIfInBounds_toArray, List.set_cons_zero, List.set_cons_succ]
  refine wpAnyJ_takeL (i := 7) (d := some 12) (v := ?_) #[true, true, true, true, false, true, true, true, false, false, false, false, false] (by kernel_rfl) rfl rfl (by kernel_rfl) (by kernel_rfl) (by kernel_rfl) (by kernel_rfl) (by kernel_rfl) (fun _ _ _ h => h) (Or.inl ⟨by rfl, ?_⟩) hHeld ?_
  rotate_left
  · (intro w hSw; (try dsimp only at hSw);  go_simp; try with_reducible rfl)
  try simp only [Act.put, List.setIfInBounds_toArray, List.set_cons_zero, List.set_cons_succ]
  refine wpAnyJ_takeL (i := 8) (d := some 13) (v := ?_) #[true, true, true, true, false, true, true, true, true, false, false, false, false] (by kernel_rfl) rfl rfl (by kernel_rfl) (by kernel_rfl) (by kernel_rfl) (by kernel_rfl) (by kernel_rfl) (fun _ _ _ h => h) (Or.inl ⟨by rfl, ?_⟩) hHeld ?_
  rotate_left
  · (intro w hSw; (try dsimp only at hSw);  go_simp; try with_reducible rfl)
  try simp only [Act.put, List.setIfInBounds_toArray, List.set_cons_zero, List.set_cons_succ]
  refine wpAnyJ_oneL (k := 4) #[true, true, true, true, true, true, true, true, true, false, false, false, false] (by kernel_rfl) (by kernel_rfl) rfl (fun K hK => ?_)
  (go_simp; refine (HC1.out _).mono ?_; rintro e w1 ⟨rfl, rfl⟩; go_simp)
  refine hK.out _ _ (fun _ => ?_) (fun hHeld' => ?_)
  · exact HCS.out
  replace hHeld := hHeld' rfl
  clear hHeld' hK K
  try dsimp only at hHeld
  refine wpAnyJ_oneL (k := 9) #[true, true, true, true, true, true, true, true, true, true, false, false, false] (by kernel_rfl) (by kernel_rfl) rfl (fun K hK => ?_)
  (go_simp; refine (HC2.out _).mono ?_; rintro e w1 ⟨rfl, rfl⟩; go_simp)
  refine hK.out _ _ (fun _ => ?_) (fun hHeld' => ?_)
  · exact HCS.out
  replace hHeld := hHeld' rfl
  clear hHeld' hK K
  try dsimp only at hHeld
  refine wpAnyJ_oneL (k := 10) #[true, true, true, true, true, true, true, true, true, true, true, false, false] (by kernel_rfl) (by kernel_rfl) rfl (fun K hK => ?_)
  go_simp
  refine hK.out _ _ (fun _ => ?_) (fun hHeld' => ?_)
  · exact ⟨cell_al3 _ HCS.out.1, cell_al3 _ HCS.out.2.1, cell_al3 _ HCS.out.2.2.1, cell_al3 _ HCS.out.2.2.2⟩
  replace hHeld := hHeld' rfl
  clear hHeld' hK K
  try dsimp only at hHeld
  refine wpAnyJ_oneL (k := 11) #[true, true, true, true, true, true, true, true, true, true, true, true, false] (by kernel_rfl) (by kernel_rfl) rfl (fun K hK => ?_)
  (go_simp; refine (or_any W.heap.size r1 r2 _ (by simp) (by simp)).mono ?_; rintro e w1 ⟨rfl, rfl⟩; go_simp)
  refine hK.out _ _ (fun _ => ?_) (fun hHeld' => ?_)
  · exact ⟨cell_al3 _ HCS.out.1, cell_al3 _ HCS.out.2.1, cell_al3 _ HCS.out.2.2.1, cell_al3 _ HCS.out.2.2.2⟩
  replace hHeld := hHeld' rfl
  clear hHeld' hK K
  try dsimp only at hHeld
  refine wpAnyJ_takeL (i := 12) (d := some 4) (v := ?_) #[true, true, true, true, true, true, true, true, true, true, true, true, true] (by kernel_rfl) rfl rfl (by kernel_rfl) (by kernel_rfl) (by kernel_rfl) (by kernel_rfl) (by kernel_rfl) (fun _ _ _ h => h) (Or.inl ⟨by rfl, ?_⟩) hHeld ?_
  rotate_left
  · (intro w hSw; (try dsimp only at hSw);  go_simp; try with_reducible rfl)
  try simp only [Act.put, List.setIfInBounds_toArray, List.set_cons_zero, List.set_cons_succ]
  refine wpAnyJ_done (by kernel_rfl) ?_ _
  go_wp2_with fail
  go_ret
  exact ⟨ret_int HR.out.symm, HEND.out _⟩
end Go.Proofs.YtlcaebfjdhgcfaaDoor
