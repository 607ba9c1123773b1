import Derived.Test.YtbjndpjligpjaaaDoorZ28
import Derived.Test.YtbjndpjligpjaaaDoorZ27
import Derived.Test.YtbjndpjligpjaaaDoorZ26
import Derived.Test.YtbjndpjligpjaaaDoorZ05
import Derived.Test.YtbjndpjligpjaaaDoorZ07
import Derived.Deep.LoopGhost
import Derived.Deep.DeepCutAuto
/-
  LocksetBack: what is added is there, and gone when it is removed.
-/
namespace Go.Proofs.YtbjndpjligpjaaaDoor
open Go.RowKit
section
variable {ns : List Nd} {ds : List Dv} {ls L : List Lk} {k x : Lk}
theorem locks_ok (hc : checkN ns ds = 0) (h : GoodL ds ls) : locksErr ns ds ls = 0 := by
  unfold locksErr
  rw [if_neg (by rw [hc]; simp), if_neg (by have := h.1; omega)]
  exact good_err h
/-- What Add says of a lock of another key at a device that is there. -/
theorem back_err (hc : checkN ns ds = 0) (h : GoodL ds ls) (hl : ls.length < 128) (hu : usdL ls k.key = false) (hd : 0 ≤ k.dev ∧ k.dev < ds.length) (hp : k.pos = 1 ∨ k.pos = 2) (hq : 0 ≤ k.key ∧ k.key ≤ 65536) :
    (addErr ns ds ls k = 6 ∧ kindOf ds k.dev = 5) ∨ (addErr ns ds ls k = 18 ∧ ∃ pv, lckL ls k.dev = some pv ∧ pv ≠ k.pos) ∨ (addErr ns ds ls k = 0 ∧ GoodL ds (insL k ls)) := by
  unfold addErr
  rw [if_neg (by rw [locks_ok hc h]; simp)]
  by_cases hk : kindOf ds k.dev = 5
  · have e : lkErr ds k = 6 := by unfold lkErr; rw [if_neg (by omega), if_neg (by omega), if_pos hk]
    rw [e, if_pos (by decide)]
    exact .inl ⟨rfl, hk⟩
  · have e : lkErr ds k = 0 := by unfold lkErr; rw [if_neg (by omega), if_neg (by omega), if_neg hk, if_neg (by omega), if_neg (by omega), if_neg (by omega)]
    rw [e, if_neg (by simp), hu, if_neg (by simp)]
    rcases ho : othL ls k with _ | _
    · rw [if_neg (by simp), if_neg (by omega)]
      exact .inr (.inr ⟨rfl, ins_good h e hu ho hl⟩)
    · rw [if_pos rfl]
      refine .inr (.inl ⟨rfl, ?_⟩)
      have h1 := oth_lck h k
      rw [ho] at h1
      rcases hl : lckL ls k.dev with _ | pv
      · rw [hl] at h1; cases h1
      · rw [hl] at h1
        refine ⟨pv, rfl, ?_⟩
        simpa using h1.symm
theorem again_err (hc : checkN ns ds = 0) (h : GoodL ds L) (hx : x ∈ L) : addErr ns ds L x = 4 := by
  unfold addErr
  rw [if_neg (by rw [locks_ok hc h]; simp), if_neg (by rw [h.2.1 x hx]; simp)]
  have : usdL L x.key = true := by
    rcases hu : usdL L x.key with _ | _
    · exact absurd rfl (usd_not.1 hu x hx)
    · rfl
  rw [this, if_pos rfl]
theorem drop_err (hc : checkN ns ds = 0) (h : GoodL ds L) {i : Nat} (hx : L[i]? = some x) : addErr ns ds (L.drop (i + 1)) x = 0 ∧ insL x (L.drop (i + 1)) = L.drop i := by
  obtain ⟨hi, rfl⟩ := List.getElem?_eq_some_iff.1 hx
  have hg : GoodL ds (L.drop (i + 1)) := good_sub h (List.drop_sublist _ _)
  have hp : (L.drop i).Pairwise LkRel := h.2.2.sublist (List.drop_sublist _ _)
  rw [List.drop_eq_getElem_cons hi, List.pairwise_cons] at hp
  have hu : usdL (L.drop (i + 1)) L[i].key = false := usd_not.2 fun y hy e => (hp.1 y hy).2.2 e.symm
  have ho : othL (L.drop (i + 1)) L[i] = false := oth_not.2 fun y hy e => ((hp.1 y hy).2.1 e.symm).symm
  constructor
  · unfold addErr
    rw [if_neg (by rw [locks_ok hc hg]; simp), if_neg (by rw [h.2.1 _ (List.getElem_mem hi)]; simp), hu, if_neg (by simp), ho, if_neg (by simp), if_neg (by rw [List.length_drop]; have := h.1; omega)]
  · rw [ins_front fun y hy => (hp.1 y hy).1, List.drop_eq_getElem_cons hi]
end
theorem ladd_at (An Ad Al : Option Addr) (nn cn nd cd m c Bn Bd Bl : Nat) (ns : List Nd) (ds : List Dv) (ls : List Lk) (d p q : Int) (w : World) (hm : ls.length = m) (hla : Laid w) (hn : Sl w Bn 3 An nn cn (ns.flatMap Nd.cells)) (hd : Sl w Bd 5 Ad nd cd (ds.flatMap Dv.cells)) (hs : Sl w Bl 3 Al m c (ls.flatMap Lk.cells)) (hBn : Bn ≤ w.heap.size) (hBd : Bd ≤ w.heap.size) (hBl : Bl ≤ w.heap.size)
    (hsn : ∀ x ∈ ns, x.name.size ≤ 9223372036854775807) (hsd : ∀ x ∈ ds, x.name.size ≤ 9223372036854775807) :
    Calls Tryd.prog 21 #[.agg #[.slice An nn cn, .slice Ad nd cd], .slice Al m c, .agg #[.int .i64 d, .int .i64 p, .int .i64 q]] w (LkAddPost w ns ds ls ⟨d, p, q⟩) := by
  subst hm
  exact ladd_any An Ad Al nn cn nd cd c Bn Bd Bl ns ds ls d p q w hla hn hd hs hBn hBd hBl hsn hsd
theorem lremove_at (An Ad Al : Option Addr) (nn cn nd cd m c Bn Bd Bl : Nat) (ns : List Nd) (ds : List Dv) (ls : List Lk) (d q : Int) (w : World) (hm : ls.length = m) (hla : Laid w) (hn : Sl w Bn 3 An nn cn (ns.flatMap Nd.cells)) (hd : Sl w Bd 5 Ad nd cd (ds.flatMap Dv.cells)) (hs : Sl w Bl 3 Al m c (ls.flatMap Lk.cells)) (hBn : Bn ≤ w.heap.size) (hBd : Bd ≤ w.heap.size) (hBl : Bl ≤ w.heap.size)
    (hsn : ∀ x ∈ ns, x.name.size ≤ 9223372036854775807) (hsd : ∀ x ∈ ds, x.name.size ≤ 9223372036854775807) :
    Calls Tryd.prog 26 #[.agg #[.slice An nn cn, .slice Ad nd cd], .slice Al m c, .int .i64 d, .int .i64 q] w (LkRmPost w ns ds ls d q) := by
  subst hm
  exact lremove_any An Ad Al nn cn nd cd c Bn Bd Bl ns ds ls d q w hla hn hd hs hBn hBd hBl hsn hsd
theorem LkAddPost.okn {w w' : World} {ns : List Nd} {ds : List Dv} {ls : List Lk} {k : Lk} {e : Ending} {m : Nat} (h : LkAddPost w ns ds ls k e w') (hm : ls.length = m) (h0 : addErr ns ds ls k = 0) : ∃ (A : Option Addr) (c : Nat), e = .returned (.tuple #[.slice A (m + 1) c, .int .i64 0]) ∧ Hid (LocksO w' w.heap.size A (m + 1) c (insL k ls)) ∧ Hid (Below w.heap.size w w') := by
  subst hm; exact h.ok h0
theorem LkRmPost.okn {w w' : World} {ns : List Nd} {ds : List Dv} {ls : List Lk} {d q : Int} {e : Ending} {i m : Nat} (h : LkRmPost w ns ds ls d q e w') (hm : ls.length = m + 1) (h0 : locksErr ns ds ls = 0) (h1 : idxL d q ls = some i) : ∃ (A : Option Addr) (c : Nat), e = .returned (.tuple #[.slice A m c, .int .i64 0]) ∧ Hid (LocksO w' w.heap.size A m c (ls.eraseIdx i)) ∧ Hid (Below w.heap.size w w') := by
  have h2 := h.ok h0 h1
  rw [hm, Nat.add_sub_cancel] at h2
  exact h2
/-- The law's memory: the network, the lock's box, the locks. -/
structure BkM (w : World) (nb kb : Nat) (An : Option Addr) (nn cn : Nat) (ns : List Nd) (Ad : Option Addr) (nd cd : Nat) (ds : List Dv) (k : Lk) (Ag : Option Addr) (mg cg : Nat) (ls : List Lk) (wr : World) : Prop where
  n : LwN w nb An nn cn ns Ad nd cd ds wr
  k : Blk wr kb 29 #[.int .i64 k.dev, .int .i64 k.pos, .int .i64 k.key]
  g : SlX wr w.heap.size 3 Ag mg cg (ls.flatMap Lk.cells)
theorem BkM.later {w wr wr' : World} {nb kb nn cn nd cd mg cg : Nat} {An Ad Ag : Option Addr} {ns : List Nd} {ds : List Dv} {k : Lk} {ls : List Lk} (h : BkM w nb kb An nn cn ns Ad nd cd ds k Ag mg cg ls wr) (hb : Below wr.heap.size wr wr') : BkM w nb kb An nn cn ns Ad nd cd ds k Ag mg cg ls wr' :=
  ⟨h.n.later hb, h.k.below hb h.k.lt, h.g.below hb⟩
theorem BkM.drew {w wr : World} {nb kb nn cn nd cd mg cg : Nat} {An Ad Ag : Option Addr} {ns : List Nd} {ds : List Dv} {k : Lk} {ls : List Lk} (h : BkM w nb kb An nn cn ns Ad nd cd ds k Ag mg cg ls wr) : BkM w nb kb An nn cn ns Ad nd cd ds k Ag mg cg ls wr.drew := h.later (Below.refl _ _).drew
theorem same_true (A A2 : Option Addr) (n c c2 B B2 : Nat) (a : List Lk) (w : World) (ha : Sl w B 3 A n c (a.flatMap Lk.cells)) (hb : Sl w B2 3 A2 n c2 (a.flatMap Lk.cells)) (hB : B ≤ w.heap.size) (hB2 : B2 ≤ w.heap.size) :
    Calls Tryd.prog 25 #[.slice A n c, .slice A2 n c2] w fun e w' => e = .returned (.bool true) ∧ Below w.heap.size w w' :=
  (same_any A A2 n c n c2 B B2 a a w ha hb hB hB2).mono fun _ _ ⟨h1, h2⟩ => ⟨by rw [h1]; simp, h2⟩
def BkR (w : World) (nb kb : Nat) (An : Option Addr) (nn cn : Nat) (ns : List Nd) (Ad : Option Addr) (nd cd : Nat) (ds : List Dv) (k : Lk) (Ag : Option Addr) (mg cg : Nat) (ls : List Lk) (Aa : Option Addr) (ma ca : Nat) (L : List Lk) (Ab : Option Addr) (cb gk : Nat) (bv iv : Value) (wr : World) : Prop :=
  ∃ (j m c : Nat) (B : Option Addr), bv = .slice B m c ∧ iv = .int .i64 ((j : Int) - 1) ∧ j ≤ ma ∧ gk = j ∧ Hid ((L.drop j).length = m) ∧ Hid (SlX wr w.heap.size 3 B m c ((L.drop j).flatMap Lk.cells)) ∧ Hid (BkM w nb kb An nn cn ns Ad nd cd ds k Ag mg cg ls wr) ∧ Hid (SlX wr w.heap.size 3 Aa ma ca (L.flatMap Lk.cells)) ∧ Hid (SlX wr w.heap.size 3 Ab mg cb (ls.flatMap Lk.cells))
end Go.Proofs.YtbjndpjligpjaaaDoor
/-
  The reference of layer 3: walk of Ints.
-/
namespace Go.Proofs.YtbjndpjligpjaaaDoor
open Go.RowKit
def InR (w : World) (n : Nat) (l m : List Int) (gk : Nat) (iv : Value) (wr : World) : Prop := ∃ i : Nat, iv = .int .i64 i ∧ i ≤ n ∧ gk = n - i ∧ Hid (Below w.heap.size w wr) ∧ Hid (∀ j, j < i → l[j]? = m[j]?)
set_option maxHeartbeats 2000000 in
theorem ints_any (A B : Option Addr) (n c n2 c2 Ba Bb : Nat) (l m : List Int) (w : World) (ha : Sl w Ba 1 A n c (intsV l)) (hb : Sl w Bb 1 B n2 c2 (intsV m)) (hBa : Ba ≤ w.heap.size) (hBb : Bb ≤ w.heap.size) : Calls Tryd.prog 20 #[.slice A n c, .slice B n2 c2] w fun e w' => e = .returned (.bool (decide (l = m))) ∧ Below w.heap.size w w' := by
  have HLA := Lib.hid (ha.len (fun _ => rfl) (by decide)); have HLB := Lib.hid (hb.len (fun _ => rfl) (by decide))
  have hm1 := ha.le
  have hm2 := hb.le
  have HA := Lib.hid ha; have HB := Lib.hid hb
  clear ha hb
  by_cases hn : n = n2; rotate_left
  · have q : decide (n = n2) = false := by simpa using hn
    have q' : ((n : Int) != (n2 : Int)) = true := by simp; omega
    have HR : Hid (decide (l = m) = false) := decide_eq_false (fun e => hn (by rw [← HLA.out, ← HLB.out, e]))
    clear hn
    go_enter Tryd.func20, Tryd.ntmps20
    go_wp2_with fail
    go_ret
    exact ⟨ret_bool (by rw [HR.out]), Below.refl _ _⟩
  subst hn
  go_enter Tryd.func20, Tryd.ntmps20
  go_wp2_with fail
  go_loopg [5] n (InR w n l m)
  case atStart => exact ⟨0, rfl, Nat.zero_le _, rfl, Below.refl _ _, fun j hj => absurd hj (by omega)⟩
  case round =>
    obtain ⟨i, rfl, hi, rfl, hbl, hok⟩ := hrel
    by_cases hlt : i < n
    · obtain ⟨b1, o1, x, rfl, hb1, hx, hc1⟩ := (HA.out.below hbl.out hBa).at1 hlt
      obtain ⟨b2, o2, y, rfl, hb2, hy, hc2⟩ := (HB.out.below hbl.out hBb).at1 hlt
      have HX := Lib.hid hx; have HY := Lib.hid hy
      clear hx hy
      go_upto_region 6 with (fail)
      refine wp_region_J (S := fun W' => W'.cell? ⟨b1, o1 + i, none⟩ = some (.int .i64 x) ∧ W'.cell? ⟨b2, o2 + i, none⟩ = some (.int .i64 y)) (J := []) (by kernel_rfl) ?_ (fun hHeld => ?_)
      · exact ⟨hc1, hc2⟩
      try dsimp only at hHeld
      refine wpAnyJ_takeL (i := 0) (d := some 17) (v := ?_) #[true, false, false, false, false, false, false, false, false] (by kernel_rfl) rfl rfl (by kernel_rfl) (by kernel_rfl) (by kernel_rfl) (by kernel_rfl) (by kernel_rfl) (fun _ _ _ h => h) (Or.inl ⟨by rfl, ?_⟩) hHeld ?_
      rotate_left
      · (intro w hSw; (try dsimp only at hSw);  go_simp; try with_reducible rfl)
      try simp only [Act.put, List.setIfInBounds_toArray, List.set_cons_zero, List.set_cons_succ]
      refine wpAnyJ_takeL (i := 1) (d := some 18) (v := ?_) #[true, true, false, false, false, false, false, false, false] (by kernel_rfl) rfl rfl (by kernel_rfl) (by kernel_rfl) (by kernel_rfl) (by kernel_rfl) (by kernel_rfl) (fun _ _ _ h => h) (Or.inl ⟨by rfl, ?_⟩) hHeld ?_
      rotate_left
      · (intro w hSw; (try dsimp only at hSw);  go_simp; try with_reducible rfl)
      try simp only [Act.put, List.setIfInBounds_toArray, List.set_cons_zero, List.set_cons_succ]
      refine wpAnyJ_takeL (i := 2) (d := some 19) (v := ?_) #[true, true, true, false, false, false, false, false, false] (by kernel_rfl) rfl rfl (by kernel_rfl) (by kernel_rfl) (by kernel_rfl) (by kernel_rfl) (by kernel_rfl) (fun _ _ _ h => h) (Or.inl ⟨by rfl, ?_⟩) hHeld ?_
      rotate_left
      · (intro w hSw; (try dsimp only at hSw);  go_simp; try with_reducible rfl)
      try simp only [Act.put, List.setIfInBounds_toArray, List.set_cons_zero, List.set_cons_succ]
      refine wpAnyJ_takeL (i := 3) (d := some 20) (v := ?_) #[true, true, true, true, false, false, false, false, false] (by kernel_rfl) rfl rfl (by kernel_rfl) (by kernel_rfl) (by kernel_rfl) (by kernel_rfl) (by kernel_rfl) (fun _ _ _ h => h) (Or.inl ⟨by rfl, ?_⟩) hHeld ?_
      rotate_left
      · (intro w hSw; (try dsimp only at hSw);  go_simp; try with_reducible rfl)
      try simp only [Act.put, List.setIfInBounds_toArray, List.set_cons_zero, List.set_cons_succ]
      refine wpAnyJ_takeL (i := 4) (d := some 21) (v := ?_) #[true, true, true, true, true, false, false, false, false] (by kernel_rfl) rfl rfl (by kernel_rfl) (by kernel_rfl) (by kernel_rfl) (by kernel_rfl) (by kernel_rfl) (fun _ _ _ h => h) (Or.inl ⟨by rfl, ?_⟩) hHeld ?_
      rotate_left
      · (intro w hSw; (try dsimp only at hSw);  go_simp; try with_reducible rfl)
      try simp only [Act.put, List.setIfInBounds_toArray, List.set_cons_zero, List.set_cons_succ]
      refine wpAnyJ_takeL (i := 5) (d := some 22) (v := ?_) #[true, true, true, true, true, true, false, false, false] (by kernel_rfl) rfl rfl (by kernel_rfl) (by kernel_rfl) (by kernel_rfl) (by kernel_rfl) (by kernel_rfl) (fun _ _ _ h => h) (Or.inl ⟨by rfl, ?_⟩) hHeld ?_
      rotate_left
      · (intro w hSw; (try dsimp only at hSw);  go_simp; try with_reducible rfl)
      try simp only [Act.put, List.setIfInBounds_toArray, List.set_cons_zero, List.set_cons_succ]
      refine wpAnyJ_takeL (i := 6) (d := some 23) (v := ?_) #[true, true, true, true, true, true, true, false, false] (by kernel_rfl) rfl rfl (by kernel_rfl) (by kernel_rfl) (by kernel_rfl) (by kernel_rfl) (by kernel_rfl) (fun _ _ _ h => h) (Or.inl ⟨by rfl, ?_⟩) hHeld ?_
      rotate_left
      · (intro w hSw; (try dsimp only at hSw);  go_simp; try with_reducible rfl)
      try simp only [Act.put, List.setIfInBounds_toArray, List.set_cons_zero, List.set_cons_succ]
      refine wpAnyJ_takeL (i := 7) (d := some 24) (v := ?_) #[true, true, true, true, true, true, true, true, false] (by kernel_rfl) rfl rfl (by kernel_rfl) (by kernel_rfl) (by kernel_rfl) (by kernel_rfl) (by kernel_rfl) (fun _ _ _ h => h) (Or.inl ⟨by rfl, ?_⟩) hHeld ?_
      rotate_left
      · (intro w hSw; (try dsimp only at hSw);  go_simp; try with_reducible rfl)
      try simp only [Act.put, List.setIfInBounds_toArray, List.set_cons_zero, List.set_cons_succ]
      refine wpAnyJ_takeL (i := 8) (d := some 25) (v := ?_) #[true, true, true, true, true, true, true, true, true] (by kernel_rfl) rfl rfl (by kernel_rfl) (by kernel_rfl) (by kernel_rfl) (by kernel_rfl) (by kernel_rfl) (fun _ _ _ h => h) (Or.inl ⟨by rfl, ?_⟩) hHeld ?_
      rotate_left
      · (intro w hSw; (try dsimp only at hSw);  go_simp; try with_reducible rfl)
      try simp only [Act.put, List.setIfInBounds_toArray, List.set_cons_zero, List.set_cons_succ]
      refine wpAnyJ_done (by kernel_rfl) ?_ _
      clear hHeld
      by_cases hxy : x = y
      · subst hxy
        go_wp2_with fail
        go_roundg (n - (i + 1))
        case rel => exact ⟨i + 1, by go_num, by omega, rfl, hbl.out.drew, fun j hj => by
          rcases Nat.lt_succ_iff_lt_or_eq.1 hj with h | rfl
          · exact hok.out j h
          · rw [HX.out, HY.out]⟩
        case measure => omega
      · have q : (x != y) = true := by simpa using hxy
        have q2 : (x == y) = false := by simpa using hxy
        have HR : Hid (decide (l = m) = false) := decide_eq_false (fun e => hxy (by have := HX.out; rw [e, HY.out] at this; exact (Option.some.inj this).symm))
        clear hxy
        go_wp2_with fail
        go_ret
        exact ⟨ret_bool (by rw [HR.out]), hbl.out.drew⟩
    · obtain rfl : i = n := by omega
      have hii : decide (i < i) = false := by simp
      have HR : Hid (decide (l = m) = true) := decide_eq_true (by
        apply List.ext_getElem?
        intro j
        by_cases hj : j < i
        · exact hok.out j hj
        · rw [List.getElem?_eq_none (by rw [HLA.out]; omega), List.getElem?_eq_none (by rw [HLB.out]; omega)])
      go_wp2_with fail
      go_ret
      exact ⟨ret_bool (by rw [HR.out]), hbl.out⟩
end Go.Proofs.YtbjndpjligpjaaaDoor
