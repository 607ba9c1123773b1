/-
  LocksetBack: what is added is there, and gone when it is removed.
-/
import Derived.Test.YtfabeihlfgemdaaDoorAwk14
import Derived.Test.YtfabeihlfgemdaaDoorMkLocks
import Derived.Test.YtfabeihlfgemdaaDoorLawN
namespace Go.Proofs.YtfabeihlfgemdaaDoor
open Go.RowKit
section
variable {ns : List Nd} {ds : List Dv} {ls L : List Lk} {k x : Lk}
theorem locks_ok (hc : checkN ns ds = 0) (h : GoodL ds ls) : locksErr ns ds ls = 0 := by
  unfold locksErr
  rw [if_neg (by rw [hc]; simp), if_neg (by have := h.1; omega)]
  exact good_err h
/-- What Add says of a lock of another key at a device that is there. -/
theorem back_err (hc : checkN ns ds = 0) (h : GoodL ds ls) (hl : ls.length < 128) (hu : usdL ls k.key = false) (hd : 0 ≤ k.dev ∧ k.dev < ds.length) (hp : k.pos = 1 ∨ k.pos = 2) (hq : 0 ≤ k.key ∧ k.key ≤ 65536) :
    (addErr ns ds ls k = 6 ∧ kindOf ds k.dev = 5) ∨ (addErr ns ds ls k = 18 ∧ ∃ pv, lckL ls k.dev = some pv ∧ pv ≠ k.pos) ∨ (addErr ns ds ls k = 0 ∧ GoodL ds (insL k ls)) := by
  unfold addErr
  rw [if_neg (by rw [locks_ok hc h]; simp)]
  by_cases hk : kindOf ds k.dev = 5
  · have e : lkErr ds k = 6 := by unfold lkErr; rw [if_neg (by omega), if_neg (by omega), if_pos hk]
    rw [e, if_pos (by decide)]
    exact .inl ⟨rfl, hk⟩
  · have e : lkErr ds k = 0 := by unfold lkErr; rw [if_neg (by omega), if_neg (by omega), if_neg hk, if_neg (by omega), if_neg (by omega), if_neg (by omega)]
    rw [e, if_neg (by simp), hu, if_neg (by simp)]
    rcases ho : othL ls k with _ | _
    · rw [if_neg (by simp), if_neg (by omega)]
      exact .inr (.inr ⟨rfl, ins_good h e hu ho hl⟩)
    · rw [if_pos rfl]
      refine .inr (.inl ⟨rfl, ?_⟩)
      have h1 := oth_lck h k
      rw [ho] at h1
      rcases hl : lckL ls k.dev with _ | pv
      · rw [hl] at h1; cases h1
      · rw [hl] at h1
        refine ⟨pv, rfl, ?_⟩
        simpa using h1.symm
theorem again_err (hc : checkN ns ds = 0) (h : GoodL ds L) (hx : x ∈ L) : addErr ns ds L x = 4 := by
  unfold addErr
  rw [if_neg (by rw [locks_ok hc h]; simp), if_neg (by rw [h.2.1 x hx]; simp)]
  have : usdL L x.key = true := by
    rcases hu : usdL L x.key with _ | _
    · exact absurd rfl (usd_not.1 hu x hx)
    · rfl
  rw [this, if_pos rfl]
theorem drop_err (hc : checkN ns ds = 0) (h : GoodL ds L) {i : Nat} (hx : L[i]? = some x) : addErr ns ds (L.drop (i + 1)) x = 0 ∧ insL x (L.drop (i + 1)) = L.drop i := by
  obtain ⟨hi, rfl⟩ := List.getElem?_eq_some_iff.1 hx
  have hg : GoodL ds (L.drop (i + 1)) := good_sub h (List.drop_sublist _ _)
  have hp : (L.drop i).Pairwise LkRel := h.2.2.sublist (List.drop_sublist _ _)
  rw [List.drop_eq_getElem_cons hi, List.pairwise_cons] at hp
  have hu : usdL (L.drop (i + 1)) L[i].key = false := usd_not.2 fun y hy e => (hp.1 y hy).2.2 e.symm
  have ho : othL (L.drop (i + 1)) L[i] = false := oth_not.2 fun y hy e => ((hp.1 y hy).2.1 e.symm).symm
  constructor
  · unfold addErr
    rw [if_neg (by rw [locks_ok hc hg]; simp), if_neg (by rw [h.2.1 _ (List.getElem_mem hi)]; simp), hu, if_neg (by simp), ho, if_neg (by simp), if_neg (by rw [List.length_drop]; have := h.1; omega)]
  · rw [ins_front fun y hy => (hp.1 y hy).1, List.drop_eq_getElem_cons hi]
end
theorem ladd_at (An Ad Al : Option Addr) (nn cn nd cd m c Bn Bd Bl : Nat) (ns : List Nd) (ds : List Dv) (ls : List Lk) (d p q : Int) (w : World) (hm : ls.length = m) (hla : Laid w) (hn : Sl w Bn 3 An nn cn (ns.flatMap Nd.cells)) (hd : Sl w Bd 5 Ad nd cd (ds.flatMap Dv.cells)) (hs : Sl w Bl 3 Al m c (ls.flatMap Lk.cells)) (hBn : Bn ≤ w.heap.size) (hBd : Bd ≤ w.heap.size) (hBl : Bl ≤ w.heap.size)
    (hsn : ∀ x ∈ ns, x.name.size ≤ 9223372036854775807) (hsd : ∀ x ∈ ds, x.name.size ≤ 9223372036854775807) :
    Calls Tryd.prog 14 #[.agg #[.slice An nn cn, .slice Ad nd cd], .slice Al m c, .agg #[.int .i64 d, .int .i64 p, .int .i64 q]] w (LkAddPost w ns ds ls ⟨d, p, q⟩) := by
  subst hm
  exact ladd_any An Ad Al nn cn nd cd c Bn Bd Bl ns ds ls d p q w hla hn hd hs hBn hBd hBl hsn hsd
theorem lremove_at (An Ad Al : Option Addr) (nn cn nd cd m c Bn Bd Bl : Nat) (ns : List Nd) (ds : List Dv) (ls : List Lk) (d q : Int) (w : World) (hm : ls.length = m) (hla : Laid w) (hn : Sl w Bn 3 An nn cn (ns.flatMap Nd.cells)) (hd : Sl w Bd 5 Ad nd cd (ds.flatMap Dv.cells)) (hs : Sl w Bl 3 Al m c (ls.flatMap Lk.cells)) (hBn : Bn ≤ w.heap.size) (hBd : Bd ≤ w.heap.size) (hBl : Bl ≤ w.heap.size)
    (hsn : ∀ x ∈ ns, x.name.size ≤ 9223372036854775807) (hsd : ∀ x ∈ ds, x.name.size ≤ 9223372036854775807) :
    Calls Tryd.prog 16 #[.agg #[.slice An nn cn, .slice Ad nd cd], .slice Al m c, .int .i64 d, .int .i64 q] w (LkRmPost w ns ds ls d q) := by
  subst hm
  exact lremove_any An Ad Al nn cn nd cd c Bn Bd Bl ns ds ls d q w hla hn hd hs hBn hBd hBl hsn hsd
theorem LkAddPost.okn {w w' : World} {ns : List Nd} {ds : List Dv} {ls : List Lk} {k : Lk} {e : Ending} {m : Nat} (h : LkAddPost w ns ds ls k e w') (hm : ls.length = m) (h0 : addErr ns ds ls k = 0) : ∃ (A : Option Addr) (c : Nat), e = .returned (.tuple #[.slice A (m + 1) c, .int .i64 0]) ∧ Hid (LocksO w' w.heap.size A (m + 1) c (insL k ls)) ∧ Hid (Below w.heap.size w w') := by
  subst hm; exact h.ok h0
theorem LkRmPost.okn {w w' : World} {ns : List Nd} {ds : List Dv} {ls : List Lk} {d q : Int} {e : Ending} {i m : Nat} (h : LkRmPost w ns ds ls d q e w') (hm : ls.length = m + 1) (h0 : locksErr ns ds ls = 0) (h1 : idxL d q ls = some i) : ∃ (A : Option Addr) (c : Nat), e = .returned (.tuple #[.slice A m c, .int .i64 0]) ∧ Hid (LocksO w' w.heap.size A m c (ls.eraseIdx i)) ∧ Hid (Below w.heap.size w w') := by
  have h2 := h.ok h0 h1
  rw [hm, Nat.add_sub_cancel] at h2
  exact h2
/-- The law's memory: the network, the lock's box, the locks. -/
structure BkM (w : World) (nb kb : Nat) (An : Option Addr) (nn cn : Nat) (ns : List Nd) (Ad : Option Addr) (nd cd : Nat) (ds : List Dv) (k : Lk) (Ag : Option Addr) (mg cg : Nat) (ls : List Lk) (wr : World) : Prop where
  n : LwN w nb An nn cn ns Ad nd cd ds wr
  k : Blk wr kb 37 #[.int .i64 k.dev, .int .i64 k.pos, .int .i64 k.key]
  g : SlX wr w.heap.size 3 Ag mg cg (ls.flatMap Lk.cells)
theorem BkM.later {w wr wr' : World} {nb kb nn cn nd cd mg cg : Nat} {An Ad Ag : Option Addr} {ns : List Nd} {ds : List Dv} {k : Lk} {ls : List Lk} (h : BkM w nb kb An nn cn ns Ad nd cd ds k Ag mg cg ls wr) (hb : Below wr.heap.size wr wr') : BkM w nb kb An nn cn ns Ad nd cd ds k Ag mg cg ls wr' :=
  ⟨h.n.later hb, h.k.below hb h.k.lt, h.g.below hb⟩
theorem BkM.drew {w wr : World} {nb kb nn cn nd cd mg cg : Nat} {An Ad Ag : Option Addr} {ns : List Nd} {ds : List Dv} {k : Lk} {ls : List Lk} (h : BkM w nb kb An nn cn ns Ad nd cd ds k Ag mg cg ls wr) : BkM w nb kb An nn cn ns Ad nd cd ds k Ag mg cg ls wr.drew := h.later (Below.refl _ _).drew
theorem same_true (A A2 : Option Addr) (n c c2 B B2 : Nat) (a : List Lk) (w : World) (ha : Sl w B 3 A n c (a.flatMap Lk.cells)) (hb : Sl w B2 3 A2 n c2 (a.flatMap Lk.cells)) (hB : B ≤ w.heap.size) (hB2 : B2 ≤ w.heap.size) :
    Calls Tryd.prog 17 #[.slice A n c, .slice A2 n c2] w fun e w' => e = .returned (.bool true) ∧ Below w.heap.size w w' :=
  (same_any A A2 n c n c2 B B2 a a w ha hb hB hB2).mono fun _ _ ⟨h1, h2⟩ => ⟨by rw [h1]; simp, h2⟩
def BkR (w : World) (nb kb : Nat) (An : Option Addr) (nn cn : Nat) (ns : List Nd) (Ad : Option Addr) (nd cd : Nat) (ds : List Dv) (k : Lk) (Ag : Option Addr) (mg cg : Nat) (ls : List Lk) (Aa : Option Addr) (ma ca : Nat) (L : List Lk) (Ab : Option Addr) (cb gk : Nat) (bv iv : Value) (wr : World) : Prop :=
  ∃ (j m c : Nat) (B : Option Addr), bv = .slice B m c ∧ iv = .int .i64 ((j : Int) - 1) ∧ j ≤ ma ∧ gk = j ∧ Hid ((L.drop j).length = m) ∧ Hid (SlX wr w.heap.size 3 B m c ((L.drop j).flatMap Lk.cells)) ∧ Hid (BkM w nb kb An nn cn ns Ad nd cd ds k Ag mg cg ls wr) ∧ Hid (SlX wr w.heap.size 3 Aa ma ca (L.flatMap Lk.cells)) ∧ Hid (SlX wr w.heap.size 3 Ab mg cb (ls.flatMap Lk.cells))
set_option maxRecDepth 100000 in
set_option maxHeartbeats 8000000 in
theorem walk_LocksetBack (w : World) (hl : Laid w) (A : Option Addr) (n c : Nat) (zs : List Int) (hs : Sl w w.heap.size 1 A n c (intsV zs)) (_hz : ∀ z ∈ zs, (Lit.int .i64 z).wf = true) :
    Calls Tryd.prog 3 #[.slice A n c] w fun e w' => e = .returned (.bool true) ∧ Below w.heap.size w w' := by
  have hnm := hs.le
  have HL := Lib.hid hl; have HS := Lib.hid hs
  clear hl hs _hz
  have HF := Lib.hid (few_any A n c w (by omega))
  rcases hf : decide (n ≤ 400) with _ | _
  · rw [hf] at HF
    clear hf
    go_enter Tryd.func3, Tryd.ntmps3
    go_wp2_with fail
    refine HF.out.mono ?_
    rintro e w1 ⟨rfl, rfl⟩
    go_wp2_with fail
    refine (awake_any w HL.out).mono ?_
    rintro e w1 ⟨rfl, hb⟩
    go_wp2_with fail
    go_ret
    exact ⟨rfl, hb⟩
  rw [hf] at HF
  clear hf
  go_enter Tryd.func3, Tryd.ntmps3
  go_wp2_with fail
  refine HF.out.mono ?_
  rintro e w1 ⟨rfl, rfl⟩
  go_wp2_with fail
  refine (new_any A n c w.heap.size zs w HS.out (Nat.le_refl _)).mono ?_
  rintro e w1 ⟨rfl, hd1, hb1, hs1⟩
  go_wp2_with fail
  refine (mknet_any w.heap.size 6 9 w1 hd1.out (by decide) (by decide)).mono ?_
  rintro e w2 ⟨An, nn, cn, ns, Ad, nd, cd, ds, rfl, hd2, hg2, hrn, hrd, hmade⟩
  have HMK := LwN.mk0 HL.out hb1.out hs1.out hd2.out hg2.out hrn.out hrd.out hmade.out
  have HNN := Lib.hid HMK.2.1; have HND := Lib.hid HMK.2.2
  have HN3 := Lib.hid HMK.1
  have HMA := Lib.hid hmade.out
  have hnd : nd ≤ 9 := by have := hmade.out.dm; rw [HND.out] at this; omega
  have hnd1 : 1 ≤ nd := by have := hmade.out.d1; rw [HND.out] at this; omega
  have hnn : nn ≤ 6 := by have := hmade.out.nm; rw [HNN.out] at this; omega
  have HNM := Lib.hid HMA.out.names
  have HCK := Lib.hid (HMA.out.check (by decide) (by decide))
  clear HMK hd1 hb1 hs1 hd2 hg2 hrn hrd hmade HS HF
  go_wp2_with fail
  generalize World.alloc _ _ = w3 at *
  obtain ⟨nb, hnb⟩ : ∃ nb, nb = w2.heap.size := ⟨_, rfl⟩
  rw [← hnb] at HN3 ⊢
  clear hnb
  refine (mkstate_any w.heap.size An Ad nn cn nd cd ds w3 HN3.out.dk HN3.out.hd (by omega)).mono ?_
  rintro e w5 ⟨As, cs, s, rfl, hd5, hg5, hO5, hpos⟩
  have HN5 := Lib.hid (HN3.out.grown HL.out hg5.out hd5.out)
  have HX5 : Hid (SlX w5 w.heap.size 1 As nd cs (intsV s)) := SlX.of_own hO5.out (by have := HN3.out.bl.size; have := HN3.out.bx.lt; have := HN3.out.ge; omega)
  clear hd5 hg5 hO5 hpos HN3
  have k0 : w5.cell? ⟨nb, 0, none⟩ = some (.slice An nn cn) := HN5.out.bx.cell 0
  have k1 : w5.cell? ⟨nb, 1, none⟩ = some (.slice Ad nd cd) := HN5.out.bx.cell 1
  go_wp2_with fail
  clear k0 k1
  refine (mklocks_any w.heap.size An Ad As nn cn nd cd nd cs 5 ns ds s w5 HN5.out.dk HN5.out.hn HN5.out.hd HX5.out (by omega) (by decide) HNM.out.1 HNM.out.2).mono ?_
  rintro e w6 ⟨Ag, mg, cg, ls, rfl, hd6, hg6, hO6, hmk⟩
  have HN6 := Lib.hid (HN5.out.grown HL.out hg6.out hd6.out)
  have HG6 : Hid (SlX w6 w.heap.size 3 Ag mg cg (ls.flatMap Lk.cells)) := SlX.of_own hO6.out (by have := HN5.out.bl.size; have := HN5.out.bx.lt; have := HN5.out.ge; omega)
  have HLG := Lib.hid (LocksO.len hO6.out)
  have HMK := Lib.hid hmk.out
  clear hd6 hg6 hO6 hmk HN5 HX5
  go_wp2_with fail
  refine (next_any w.heap.size (nd : Int) w6 HN6.out.dk (by omega)).mono ?_
  rintro e w7 ⟨v1, rfl, hv0, _, hv1, hd7, hg7, hs7⟩
  have hv1n := hv1.out (by omega)
  have HN7 := Lib.hid (HN6.out.grown HL.out hg7.out hd7.out)
  have HG7 := Lib.hid (HG6.out.grown hg7.out)
  clear hv1 hd7 hg7 hs7 HN6 HG6
  go_wp2_with fail
  refine (next_any w.heap.size 2 w7 HN7.out.dk (by decide)).mono ?_
  rintro e w8 ⟨v2, rfl, hv2, _, hv3, hd8, hg8, hs8⟩
  have hv2n := hv3.out (by decide)
  have HN8 := Lib.hid (HN7.out.grown HL.out hg8.out hd8.out)
  have HG8 := Lib.hid (HG7.out.grown hg8.out)
  clear hv3 hd8 hg8 hs8 HN7 HG7
  go_wp2_with fail
  refine (next_any w.heap.size 9 w8 HN8.out.dk (by decide)).mono ?_
  rintro e w9 ⟨v3, rfl, hv4, _, hv5, hd9, hg9, hs9⟩
  have hv3n := hv5.out (by decide)
  have HN9 := Lib.hid (HN8.out.grown HL.out hg9.out hd9.out)
  have HG9 := Lib.hid (HG8.out.grown hg9.out)
  clear hv5 hd9 hg9 hs9 HN8 HG8
  go_upto_region 8 with (fail)
  obtain ⟨p, hp⟩ : ∃ p : Int, p = 1 + v2 := ⟨_, rfl⟩
  obtain ⟨q, hq⟩ : ∃ q : Int, q = 500 + v3 := ⟨_, rfl⟩
  rw [← hp, ← hq]
  have HM : Hid (BkM w nb w9.heap.size An nn cn ns Ad nd cd ds ⟨v1, p, q⟩ Ag mg cg ls (w9.alloc (.cells #[.int .i64 v1, .int .i64 p, .int .i64 q] 37))) := ⟨HN9.out.later ((Below.refl _ _).alloc (Nat.le_refl _) _), Blk.new _ _ _, HG9.out.alloc _⟩
  generalize World.alloc _ _ = wA at *
  obtain ⟨kb, hkb⟩ : ∃ kb, kb = w9.heap.size := ⟨_, rfl⟩
  rw [← hkb] at HM ⊢
  clear hkb HN9 HG9
  have HGD := Lib.hid HMK.out.1
  have hlen5 : ls.length ≤ 5 := HMK.out.2.1
  have hmg : mg ≤ 5 := by have := HLG.out; omega
  have hus : usdL ls q = false := usd_not.2 fun x hx => by have := (HMK.out.2.2 x hx).2.1; omega
  have HUS := Lib.hid hus
  have HERR := back_err (k := ⟨v1, p, q⟩) HCK.out HGD.out (by omega) hus ⟨hv0, by rw [HND.out]; exact hv1n⟩ (by simp only; omega) (by simp only; omega)
  obtain ⟨t, rfl⟩ := Int.eq_ofNat_of_zero_le hv0
  have htn : t < nd := by omega
  clear hus hp hq hv0 hv1n hv2 hv2n hv4 hv3n hlen5
  have k0 : wA.cell? ⟨nb, 0, none⟩ = some (.slice An nn cn) := HM.out.n.bx.cell 0
  have k1 : wA.cell? ⟨nb, 1, none⟩ = some (.slice Ad nd cd) := HM.out.n.bx.cell 1
  have m0 : wA.cell? ⟨kb, 0, none⟩ = some (.int .i64 t) := HM.out.k.cell 0
  have m1 : wA.cell? ⟨kb, 1, none⟩ = some (.int .i64 p) := HM.out.k.cell 1
  have m2 : wA.cell? ⟨kb, 2, none⟩ = some (.int .i64 q) := HM.out.k.cell 2
  go_wp2_with fail
  clear k0 k1 m0 m1 m2
  refine (ladd_at An Ad Ag nn cn nd cd mg cg wA.heap.size wA.heap.size wA.heap.size ns ds ls t p q wA HLG.out HM.out.n.la HM.out.n.hn.1 HM.out.n.hd.1 HM.out.g.1 (Nat.le_refl _) (Nat.le_refl _) (Nat.le_refl _) HNM.out.1 HNM.out.2).mono ?_
  intro e w10 hpost
  rcases HERR with ⟨he, hk5⟩ | ⟨he, pv, hlk, hpv⟩ | ⟨he, hgi⟩
  · obtain ⟨rfl, hb10⟩ := hpost.err (by rw [he]; decide)
    rw [he]
    have HM10 := Lib.hid (HM.out.later hb10.out)
    clear hpost hb10 HM he
    obtain ⟨b, off, x, rfl, hb, hx, hc⟩ := HM10.out.n.hd.1.at (fun _ => rfl) (by decide) htn
    obtain ⟨nm, kd, xa, xb, co⟩ := x
    obtain rfl : kd = 5 := by have h1 := kindOf_at hx; have h2 : kindOf ds (t : Int) = 5 := hk5; rw [h1] at h2; exact h2
    have HCD : Hid (w10.cell? ⟨b, off + t * 5 + 1, none⟩ = some (.int .i64 5)) := hc 1 _ rfl
    clear hc hx hk5
    have m0 : w10.cell? ⟨kb, 0, none⟩ = some (.int .i64 t) := HM10.out.k.cell 0
    go_wp2_with fail
    clear m0
    refine (locked_any Ag mg cg w10.heap.size ls t w10 HM10.out.g.1 (Nat.le_refl _)).mono ?_
    rintro e w11 ⟨rfl, hb11⟩
    have HM11 := Lib.hid (HM10.out.later hb11)
    have c1 : w11.cell? ⟨b, off + t * 5 + 1, none⟩ = some (.int .i64 5) := keep_cell hb11 HCD.out
    have k1 : w11.cell? ⟨nb, 1, none⟩ = some (.slice (some ⟨b, off, none⟩) nd cd) := HM11.out.n.bx.cell 1
    have m0 : w11.cell? ⟨kb, 0, none⟩ = some (.int .i64 t) := HM11.out.k.cell 0
    clear hb11 HM10 HCD
    unfold lckE
    generalize (lckL ls t).getD 0 = r1
    generalize (lckL ls t).isSome = r2
    go_wp2_with fail
    clear c1 k1 m0
    refine (awake_any w11 HM11.out.n.la).mono ?_
    rintro e w12 ⟨rfl, hb12⟩
    have HM12 := Lib.hid (HM11.out.later hb12)
    clear hb12 HM11
    go_wp2_with fail
    go_ret
    exact ⟨rfl, HM12.out.n.bl⟩
  · obtain ⟨rfl, hb10⟩ := hpost.err (by rw [he]; decide)
    rw [he]
    have HM10 := Lib.hid (HM.out.later hb10.out)
    clear hpost hb10 HM he
    have m0 : w10.cell? ⟨kb, 0, none⟩ = some (.int .i64 t) := HM10.out.k.cell 0
    go_wp2_with fail
    clear m0
    refine (locked_any Ag mg cg w10.heap.size ls t w10 HM10.out.g.1 (Nat.le_refl _)).mono ?_
    rintro e w11 ⟨rfl, hb11⟩
    have HM11 := Lib.hid (HM10.out.later hb11)
    have m1 : w11.cell? ⟨kb, 1, none⟩ = some (.int .i64 p) := HM11.out.k.cell 1
    clear hb11 HM10
    unfold lckE
    have hlk2 : lckL ls (t : Int) = some pv := hlk
    have hpv2 : pv ≠ p := hpv
    rw [hlk2]
    have qv : (pv != p) = true := by simpa using hpv2
    clear hlk hpv hlk2 hpv2
    simp only [Option.getD_some, Option.isSome_some]
    go_wp2_with fail
    clear m1
    refine (awake_any w11 HM11.out.n.la).mono ?_
    rintro e w12 ⟨rfl, hb12⟩
    have HM12 := Lib.hid (HM11.out.later hb12)
    clear hb12 HM11
    go_wp2_with fail
    go_ret
    exact ⟨rfl, HM12.out.n.bl⟩
  obtain ⟨Aa, ca, rfl, hOa, hb10⟩ := hpost.okn HLG.out he
  have HM10 := Lib.hid (HM.out.later hb10.out)
  have hge := HM.out.n.bl.size
  have hge2 := HM.out.n.bx.lt
  have hge3 := HM.out.n.ge
  have HLE : Hid (locksErr ns ds (insL ⟨t, p, q⟩ ls) = 0) := locks_ok HCK.out hgi
  have HIX : Hid (idxL t q (insL ⟨t, p, q⟩ ls) = some (ls.takeWhile (fun x => befB x ⟨t, p, q⟩)).length) := idx_ins (k := ⟨t, p, q⟩) HUS.out
  have HER := Lib.hid (ins_erase ⟨t, p, q⟩ ls)
  have HLK : Hid (lckL (insL ⟨t, p, q⟩ ls) t = some p) := lck_of hgi ((ins_mem _ _ _).2 (.inl rfl))
  have HAG := Lib.hid (again_err HCK.out hgi ((ins_mem _ _ _).2 (.inl rfl)))
  have HLL : Hid ((insL ⟨t, p, q⟩ ls).length = mg + 1) := by unfold Hid; rw [ins_len, HLG.out]
  have HGI := Lib.hid hgi
  generalize (ls.takeWhile fun x => befB x ⟨t, p, q⟩).length = jx at *
  generalize insL ⟨t, p, q⟩ ls = L at *
  have HA10 : Hid (SlX w10 w.heap.size 3 Aa (mg + 1) ca (L.flatMap Lk.cells)) := SlX.of_own hOa.out (by omega)
  clear hpost hb10 HM he hgi hOa HUS HMK HGD hge hge2 hge3 htn
  have k0 : w10.cell? ⟨nb, 0, none⟩ = some (.slice An nn cn) := HM10.out.n.bx.cell 0
  have k1 : w10.cell? ⟨nb, 1, none⟩ = some (.slice Ad nd cd) := HM10.out.n.bx.cell 1
  have m0 : w10.cell? ⟨kb, 0, none⟩ = some (.int .i64 t) := HM10.out.k.cell 0
  have m2 : w10.cell? ⟨kb, 2, none⟩ = some (.int .i64 q) := HM10.out.k.cell 2
  go_wp2_with fail
  clear k0 k1 m0 m2
  refine (lremove_at An Ad Aa nn cn nd cd (mg + 1) ca w10.heap.size w10.heap.size w10.heap.size ns ds L t q w10 HLL.out HM10.out.n.la HM10.out.n.hn.1 HM10.out.n.hd.1 HA10.out.1 (Nat.le_refl _) (Nat.le_refl _) (Nat.le_refl _) HNM.out.1 HNM.out.2).mono ?_
  intro e w11 hpost
  obtain ⟨Ab, cb, rfl, hOb, hb11⟩ := hpost.okn HLL.out HLE.out HIX.out
  rw [HER.out] at hOb
  have HM11 := Lib.hid (HM10.out.later hb11.out)
  have HA11 := Lib.hid (HA10.out.below hb11.out)
  have HB11 : Hid (SlX w11 w.heap.size 3 Ab mg cb (ls.flatMap Lk.cells)) := SlX.of_own hOb.out (by have := HM10.out.n.bl.size; have := HM10.out.n.bx.lt; have := HM10.out.n.ge; omega)
  clear hpost hOb hb11 HM10 HA10 HIX HER
  have m0 : w11.cell? ⟨kb, 0, none⟩ = some (.int .i64 t) := HM11.out.k.cell 0
  go_wp2_with fail
  clear m0
  refine (locked_any Aa (mg + 1) ca w11.heap.size L t w11 HA11.out.1 (Nat.le_refl _)).mono ?_
  rintro e w12 ⟨rfl, hb12⟩
  have HM12 := Lib.hid (HM11.out.later hb12)
  have HA12 := Lib.hid (HA11.out.below hb12)
  have HB12 := Lib.hid (HB11.out.below hb12)
  clear hb12 HM11 HA11 HB11
  unfold lckE
  rw [HLK.out]
  simp only [Option.getD_some, Option.isSome_some]
  have k0 : w12.cell? ⟨nb, 0, none⟩ = some (.slice An nn cn) := HM12.out.n.bx.cell 0
  have k1 : w12.cell? ⟨nb, 1, none⟩ = some (.slice Ad nd cd) := HM12.out.n.bx.cell 1
  have m0 : w12.cell? ⟨kb, 0, none⟩ = some (.int .i64 t) := HM12.out.k.cell 0
  have m1 : w12.cell? ⟨kb, 1, none⟩ = some (.int .i64 p) := HM12.out.k.cell 1
  have m2 : w12.cell? ⟨kb, 2, none⟩ = some (.int .i64 q) := HM12.out.k.cell 2
  go_wp2_with fail
  clear k0 k1 m0 m1 m2
  refine (ladd_at An Ad Aa nn cn nd cd (mg + 1) ca w12.heap.size w12.heap.size w12.heap.size ns ds L t p q w12 HLL.out HM12.out.n.la HM12.out.n.hn.1 HM12.out.n.hd.1 HA12.out.1 (Nat.le_refl _) (Nat.le_refl _) (Nat.le_refl _) HNM.out.1 HNM.out.2).mono ?_
  intro e w13 hpost
  obtain ⟨rfl, hb13⟩ := hpost.err (by rw [HAG.out]; decide)
  rw [HAG.out]
  have HM13 := Lib.hid (HM12.out.later hb13.out)
  have HA13 := Lib.hid (HA12.out.below hb13.out)
  have HB13 := Lib.hid (HB12.out.below hb13.out)
  clear hpost hb13 HM12 HA12 HB12 HAG HLK
  go_wp2_with fail
  go_loopg [18, 19] (mg + 1) (BkR w nb kb An nn cn ns Ad nd cd ds ⟨t, p, q⟩ Ag mg cg ls Aa (mg + 1) ca L Ab cb)
  case atStart => exact ⟨mg + 1, 0, 0, none, rfl, by go_num, Nat.le_refl _, rfl, by (unfold Hid; rw [List.drop_of_length_le (by rw [HLL.out]; exact Nat.le_refl _)]; rfl), by (unfold Hid; rw [List.drop_of_length_le (by rw [HLL.out]; exact Nat.le_refl _)]; exact ⟨Sl.nil _ _ _, fun b off e => by cases e⟩), HM13, HA13, HB13⟩
  case round =>
    clear HM13 HA13 HB13
    obtain ⟨j, m, c9, B, rfl, rfl, hj, hgk, hlen, hB, hM, hA, hBb⟩ := hrel
    rcases j with _ | i
    · subst hgk
      have hm : m = mg + 1 := by have h1 := hlen.out; rw [List.drop_zero, HLL.out] at h1; exact h1.symm
      subst hm
      have HBL : Hid (SlX wr w.heap.size 3 B (mg + 1) c9 (L.flatMap Lk.cells)) := by have := hB.out; rw [List.drop_zero] at this; exact this
      clear hB hlen
      rw [show ((0 : Nat) : Int) - 1 = -1 by omega]
      go_wp2_with fail
      refine (same_true Ab Ag mg cb cg wr.heap.size wr.heap.size ls wr hBb.out.1 hM.out.g.1 (Nat.le_refl _) (Nat.le_refl _)).mono ?_
      rintro e w14 ⟨rfl, hb14⟩
      have HM14 := Lib.hid (hM.out.later hb14)
      have HA14 := Lib.hid (hA.out.below hb14)
      have HB14 := Lib.hid (HBL.out.below hb14)
      clear hb14 hM hA hBb HBL
      have m1 : w14.cell? ⟨kb, 1, none⟩ = some (.int .i64 p) := HM14.out.k.cell 1
      have qp : (p == p) = true := by simp
      go_wp2_with fail
      clear m1 qp
      refine (same_true B Aa (mg + 1) c9 ca w14.heap.size w14.heap.size L w14 HB14.out.1 HA14.out.1 (Nat.le_refl _) (Nat.le_refl _)).mono ?_
      rintro e w15 ⟨rfl, hb15⟩
      have HM15 := Lib.hid (HM14.out.later hb15)
      have HA15 := Lib.hid (HA14.out.below hb15)
      clear hb15 HM14 HA14 HB14
      have k0 : w15.cell? ⟨nb, 0, none⟩ = some (.slice An nn cn) := HM15.out.n.bx.cell 0
      have k1 : w15.cell? ⟨nb, 1, none⟩ = some (.slice Ad nd cd) := HM15.out.n.bx.cell 1
      have HCE := Lib.hid (lcheck_any An Ad Aa nn cn nd cd (mg + 1) ca w15.heap.size w15.heap.size w15.heap.size ns ds L w15 HM15.out.n.la HM15.out.n.hn.1 HM15.out.n.hd.1 HA15.out.1 (Nat.le_refl _) (Nat.le_refl _) (Nat.le_refl _) HNM.out.1 HNM.out.2)
      rw [HLE.out] at HCE
      go_wp2_with fail
      clear k0 k1
      refine HCE.out.mono ?_
      rintro e w16 ⟨rfl, hb16⟩
      have HM16 := Lib.hid (HM15.out.later hb16)
      clear hb16 HM15 HA15 HCE
      go_wp2_with fail
      refine (awake_any w16 HM16.out.n.la).mono ?_
      rintro e w17 ⟨rfl, hb17⟩
      have HM17 := Lib.hid (HM16.out.later hb17)
      clear hb17 HM16
      go_wp2_with fail
      go_ret
      exact ⟨rfl, HM17.out.n.bl⟩
    · subst hgk
      rw [show ((i + 1 : Nat) : Int) - 1 = (i : Int) by omega]
      have him : i < mg + 1 := by omega
      have himI : (i : Int) < (mg : Int) + 1 := by omega
      obtain ⟨b, off, d1, p1, q1, rfl, hb, hx, c0, c1, c2⟩ := hA.out.1.lock him
      have HDE := Lib.hid (drop_err HCK.out HGI.out hx)
      have HCS : Hid (wr.cell? ⟨nb, 0, none⟩ = some (.slice An nn cn) ∧ wr.cell? ⟨nb, 1, none⟩ = some (.slice Ad nd cd) ∧ wr.cell? ⟨b, off + i * 3, none⟩ = some (.int .i64 d1) ∧ wr.cell? ⟨b, off + i * 3 + 1, none⟩ = some (.int .i64 p1) ∧ wr.cell? ⟨b, off + i * 3 + 2, none⟩ = some (.int .i64 q1)) := ⟨hM.out.n.bx.cell 0, hM.out.n.bx.cell 1, c0, c1, c2⟩
      have HAD := Lib.hid (ladd_at An Ad B nn cn nd cd m c9 wr.heap.size wr.heap.size wr.heap.size ns ds (L.drop (i + 1)) d1 p1 q1 wr.drew hlen.out hM.out.drew.n.la hM.out.n.hn.1.drew hM.out.n.hd.1.drew hB.out.1.drew (Nat.le_refl _) (Nat.le_refl _) (Nat.le_refl _) HNM.out.1 HNM.out.2)
      clear c0 c1 c2 hx hb hB
      go_upto_region 19 with (fail)
      refine wp_region_J (S := fun W' => W'.cell? ⟨nb, 0, none⟩ = some (.slice An nn cn) ∧ W'.cell? ⟨nb, 1, none⟩ = some (.slice Ad nd cd) ∧ W'.cell? ⟨b, off + i * 3, none⟩ = some (.int .i64 d1) ∧ W'.cell? ⟨b, off + i * 3 + 1, none⟩ = some (.int .i64 p1) ∧ W'.cell? ⟨b, off + i * 3 + 2, none⟩ = some (.int .i64 q1)) (J := []) (by kernel_rfl) ?_ (fun hHeld => ?_)
      · exact HCS.out
      try dsimp only at hHeld
      refine wpAnyJ_takeL (i := 0) (d := some 124) (v := ?_) #[true, false, false, false, false, false, false, false, false, false, false, false] (by kernel_rfl) rfl rfl (by kernel_rfl) (by kernel_rfl) (by kernel_rfl) (by kernel_rfl) (by kernel_rfl) (fun _ _ _ h => h) (Or.inl ⟨by rfl, ?_⟩) hHeld ?_
      rotate_left
      · (intro w hSw; (try dsimp only at hSw);  go_simp; try with_reducible rfl)
      try simp only [Act.put, List.setIfInBounds_toArray, List.set_cons_zero, List.set_cons_succ]
      refine wpAnyJ_takeL (i := 1) (d := some 125) (v := ?_) #[true, true, false, false, false, false, false, false, false, false, false, false] (by kernel_rfl) rfl rfl (by kernel_rfl) (by kernel_rfl) (by kernel_rfl) (by kernel_rfl) (by kernel_rfl) (fun _ _ _ h => h) (Or.inl ⟨by rfl, ?_⟩) hHeld ?_
      rotate_left
      · (intro w hSw; (try dsimp only at hSw);  go_simp; try with_reducible rfl)
      try simp only [Act.put, List.setIfInBounds_toArray, List.set_cons_zero, List.set_cons_succ]
      refine wpAnyJ_takeL (i := 2) (d := some 126) (v := ?_) #[true, true, true, false, false, false, false, false, false, false, false, false] (by kernel_rfl) rfl rfl (by kernel_rfl) (by kernel_rfl) (by kernel_rfl) (by kernel_rfl) (by kernel_rfl) (fun _ _ _ h => h) (Or.inl ⟨by rfl, ?_⟩) hHeld ?_
      rotate_left
      · (intro w hSw; (try dsimp only at hSw);  go_simp; try with_reducible rfl)
      try simp only [Act.put, List.setIfInBounds_toArray, List.set_cons_zero, List.set_cons_succ]
      refine wpAnyJ_takeL (i := 3) (d := some 127) (v := ?_) #[true, true, true, true, false, false, false, false, false, false, false, false] (by kernel_rfl) rfl rfl (by kernel_rfl) (by kernel_rfl) (by kernel_rfl) (by kernel_rfl) (by kernel_rfl) (fun _ _ _ h => h) (Or.inl ⟨by rfl, ?_⟩) hHeld ?_
      rotate_left
      · (intro w hSw; (try dsimp only at hSw);  go_simp; try with_reducible rfl)
      try simp only [Act.put, List.setIfInBounds_toArray, List.set_cons_zero, List.set_cons_succ]
      refine wpAnyJ_takeL (i := 4) (d := some 128) (v := ?_) #[true, true, true, true, true, false, false, false, false, false, false, false] (by kernel_rfl) rfl rfl (by kernel_rfl) (by kernel_rfl) (by kernel_rfl) (by kernel_rfl) (by kernel_rfl) (fun _ _ _ h => h) (Or.inl ⟨by rfl, ?_⟩) hHeld ?_
      rotate_left
      · (intro w hSw; (try dsimp only at hSw);  go_simp; try with_reducible rfl)
      try simp only [Act.put, List.setIfInBounds_toArray, List.set_cons_zero, List.set_cons_succ]
      refine wpAnyJ_takeL (i := 5) (d := some 129) (v := ?_) #[true, true, true, true, true, true, false, false, false, false, false, false] (by kernel_rfl) rfl rfl (by kernel_rfl) (by kernel_rfl) (by kernel_rfl) (by kernel_rfl) (by kernel_rfl) (fun _ _ _ h => h) (Or.inl ⟨by rfl, ?_⟩) hHeld ?_
      rotate_left
      · (intro w hSw; (try dsimp only at hSw);  go_simp; try with_reducible rfl)
      try simp only [Act.put, List.setIfInBounds_toArray, List.set_cons_zero, List.set_cons_succ]
      refine wpAnyJ_oneL (k := 6) #[true, true, true, true, true, true, true, false, false, false, false, false] (by kernel_rfl) (by kernel_rfl) rfl (fun K hK => ?_)
      (go_simp; refine HAD.out.mono ?_; intro e w14 hpost; obtain ⟨B2, c10, rfl, hO14, hb14⟩ := hpost.okn hlen.out HDE.out.1; clear hpost; go_simp)
      refine hK.out _ _ (fun _ => ?_) (fun hHeld' => ?_)
      · exact ⟨keep_cell hb14.out HCS.out.1, keep_cell hb14.out HCS.out.2.1, keep_cell hb14.out HCS.out.2.2.1, keep_cell hb14.out HCS.out.2.2.2.1, keep_cell hb14.out HCS.out.2.2.2.2⟩
      replace hHeld := hHeld' rfl
      clear hHeld' hK K
      try dsimp only at hHeld
      refine wpAnyJ_takeL (i := 7) (d := some 123) (v := ?_) #[true, true, true, true, true, true, true, true, false, false, false, false] (by kernel_rfl) rfl rfl (by kernel_rfl) (by kernel_rfl) (by kernel_rfl) (by kernel_rfl) (by kernel_rfl) (fun _ _ _ h => h) (Or.inl ⟨by rfl, ?_⟩) hHeld ?_
      rotate_left
      · (intro w hSw; (try dsimp only at hSw);  go_simp; try with_reducible rfl)
      try simp only [Act.put, List.setIfInBounds_toArray, List.set_cons_zero, List.set_cons_succ]
      refine wpAnyJ_takeL (i := 8) (d := some 131) (v := ?_) #[true, true, true, true, true, true, true, true, true, false, false, false] (by kernel_rfl) rfl rfl (by kernel_rfl) (by kernel_rfl) (by kernel_rfl) (by kernel_rfl) (by kernel_rfl) (fun _ _ _ h => h) (Or.inl ⟨by rfl, ?_⟩) hHeld ?_
      rotate_left
      · (intro w hSw; (try dsimp only at hSw);  go_simp; try with_reducible rfl)
      try simp only [Act.put, List.setIfInBounds_toArray, List.set_cons_zero, List.set_cons_succ]
      refine wpAnyJ_takeL (i := 9) (d := some 132) (v := ?_) #[true, true, true, true, true, true, true, true, true, true, false, false] (by kernel_rfl) rfl rfl (by kernel_rfl) (by kernel_rfl) (by kernel_rfl) (by kernel_rfl) (by kernel_rfl) (fun _ _ _ h => h) (Or.inl ⟨by rfl, ?_⟩) hHeld ?_
      rotate_left
      · (intro w hSw; (try dsimp only at hSw);  go_simp; try with_reducible rfl)
      try simp only [Act.put, List.setIfInBounds_toArray, List.set_cons_zero, List.set_cons_succ]
      refine wpAnyJ_takeL (i := 10) (d := some 20) (v := ?_) #[true, true, true, true, true, true, true, true, true, true, true, false] (by kernel_rfl) rfl rfl (by kernel_rfl) (by kernel_rfl) (by kernel_rfl) (by kernel_rfl) (by kernel_rfl) (fun _ _ _ h => h) (Or.inl ⟨by rfl, ?_⟩) hHeld ?_
      rotate_left
      · (intro w hSw; (try dsimp only at hSw);  go_simp; try with_reducible rfl)
      try simp only [Act.put, List.setIfInBounds_toArray, List.set_cons_zero, List.set_cons_succ]
      refine wpAnyJ_takeL (i := 11) (d := some 21) (v := ?_) #[true, true, true, true, true, true, true, true, true, true, true, true] (by kernel_rfl) rfl rfl (by kernel_rfl) (by kernel_rfl) (by kernel_rfl) (by kernel_rfl) (by kernel_rfl) (fun _ _ _ h => h) (Or.inl ⟨by rfl, ?_⟩) hHeld ?_
      rotate_left
      · (intro w hSw; (try dsimp only at hSw);  go_simp; try with_reducible rfl)
      try simp only [Act.put, List.setIfInBounds_toArray, List.set_cons_zero, List.set_cons_succ]
      refine wpAnyJ_done (by kernel_rfl) ?_ _
      have HM14 := Lib.hid (hM.out.drew.later hb14.out)
      have HA14 : Hid (SlX w14 w.heap.size 3 (some ⟨b, off, none⟩) (mg + 1) ca (L.flatMap Lk.cells)) := (hA.out.below (Below.refl _ _).drew).below hb14.out
      have HB14 : Hid (SlX w14 w.heap.size 3 Ab mg cb (ls.flatMap Lk.cells)) := (hBb.out.below (Below.refl _ _).drew).below hb14.out
      have HX14 : Hid (SlX w14 w.heap.size 3 B2 (m + 1) c10 ((L.drop i).flatMap Lk.cells)) := by
        have h1 := hO14.out
        rw [HDE.out.2] at h1
        exact SlX.of_own h1 (by have := hM.out.n.bl.size; have := hM.out.n.bx.lt; have := hM.out.n.ge; simp only [World.drew]; omega)
      have HL14 : Hid ((L.drop i).length = m + 1) := by
        have h1 := congrArg List.length HDE.out.2
        rw [ins_len, hlen.out] at h1
        exact h1.symm
      clear hHeld hb14 hO14 hM hA hBb HAD HCS HDE hlen
      go_wp2_with fail
      go_roundg i
      case rel => exact ⟨i, m + 1, c10, B2, rfl, by go_num, by omega, rfl, HL14, HX14, HM14, HA14, HB14⟩
      case measure => omega
end Go.Proofs.YtfabeihlfgemdaaDoor
