import Derived.Test.YtiljpejjjgoeaaaDoorZ41
import Derived.Test.YtiljpejjjgoeaaaDoorZ42
import Derived.Test.YtiljpejjjgoeaaaDoorZ45
import Derived.Test.YtiljpejjjgoeaaaDoorZ46
/-
  HazardFiner: finer masks have fewer hazards, but HazNothing.
-/
namespace Go.Proofs.YtiljpejjjgoeaaaDoor
open Go.RowKit
/-- f is m, made finer at some of its first i places. -/
def FinL (m f : List Int) (i : Nat) : Prop := f.length = m.length ∧ ∀ k, (k < i → f[k]? = m[k]? ∨ m[k]? = some 3 ∧ (f[k]? = some 1 ∨ f[k]? = some 2)) ∧ (i ≤ k → f[k]? = m[k]?)
section
variable {m f s : List Int} {i n : Nat} {x r : Int}
theorem FinL.start : FinL m m 0 := ⟨rfl, fun k => ⟨fun h => by omega, fun _ => rfl⟩⟩
theorem FinL.pass (h : FinL m f i) : FinL m f (i + 1) := ⟨h.1, fun k => ⟨fun hk => by
  rcases Nat.lt_succ_iff_lt_or_eq.1 hk with h1 | rfl
  · exact (h.2 k).1 h1
  · exact .inl ((h.2 k).2 (Nat.le_refl _)), fun hk => (h.2 k).2 (by omega)⟩⟩
theorem FinL.put (h : FinL m f i) (hi : f[i]? = some 3) (hr : r = 1 ∨ r = 2) : FinL m (f.set i r) (i + 1) := by
  have hl : i < f.length := by
    rcases Nat.lt_or_ge i f.length with h1 | h1
    · exact h1
    · rw [List.getElem?_eq_none h1] at hi; cases hi
  refine ⟨by rw [List.length_set]; exact h.1, fun k => ⟨fun hk => ?_, fun hk => ?_⟩⟩
  · rcases Nat.lt_succ_iff_lt_or_eq.1 hk with h1 | rfl
    · rw [List.getElem?_set_ne (by omega)]; exact (h.2 k).1 h1
    · rw [List.getElem?_set_self hl, ← (h.2 k).2 (Nat.le_refl _)]
      exact .inr ⟨hi, by rcases hr with rfl | rfl <;> simp⟩
  · rw [List.getElem?_set_ne (by omega)]; exact (h.2 k).2 (by omega)
theorem FinL.at (h : FinL m f n) (k : Nat) : f[k]? = m[k]? ∨ m[k]? = some 3 ∧ (f[k]? = some 1 ∨ f[k]? = some 2) := by
  rcases Nat.lt_or_ge k n with h1 | h1
  · exact (h.2 k).1 h1
  · exact .inl ((h.2 k).2 h1)
theorem FinL.mask (h : FinL m f n) (hm : ∀ p ∈ m, maskB p = true) : ∀ p ∈ f, maskB p = true := by
  intro p hp
  obtain ⟨k, hk⟩ := List.getElem?_of_mem hp
  rcases h.at k with h1 | ⟨-, h1 | h1⟩
  · rw [h1] at hk; exact hm p (List.mem_of_getElem? hk)
  · rw [h1] at hk; injection hk with hk; rw [← hk]; rfl
  · rw [h1] at hk; injection hk with hk; rw [← hk]; rfl
theorem FinL.cnt (h : FinL m f n) : ∀ k, cntN f k ≤ cntN m k
  | 0 => by simp [cntN, unkN]
  | k + 1 => by
    have := FinL.cnt h k
    rw [cntN_succ, cntN_succ]
    rcases h.at k with h1 | ⟨h1, h2⟩
    · rw [h1]; split <;> omega
    · rw [if_pos h1]; split <;> omega
theorem FinL.sub (h : FinL m f n) (hs : s ∈ allOf f) : s ∈ allOf m := by
  unfold allOf at hs ⊢
  rw [mem_allN] at hs ⊢
  rw [h.1] at hs
  refine ⟨hs.1, fun d hd => ?_⟩
  obtain ⟨h2, h3⟩ := hs.2 d hd
  have hg : ∀ y : Int, f[d]? = some y → f.getD d 0 = y := fun y e => by rw [List.getD_eq_getElem?_getD, e]; rfl
  rcases h.at d with h1 | ⟨h1, h4 | h4⟩
  · rw [h1] at h2 h3
    refine ⟨h2, fun e => ?_⟩
    have := h3 e
    rw [List.getD_eq_getElem?_getD, h1, ← List.getD_eq_getElem?_getD] at this
    exact this
  · have := h3 (by rw [h4]; decide)
    rw [hg 1 h4] at this
    exact ⟨fun _ => .inl this, fun e => absurd h1 e⟩
  · have := h3 (by rw [h4]; decide)
    rw [hg 2 h4] at this
    exact ⟨fun _ => .inr this, fun e => absurd h1 e⟩
end
theorem fin_has {ns : List Nd} {ds : List Dv} {m f a b : List Int} {d p co : Int} {ls : List Lk} {pr : List Int} {x : Dv} (hF : FinL m f m.length) (ha : MayL ns ds m d p co ls pr x a) (hb : MayL ns ds f d p co ls pr x b) {h : Int} (hh : h ∈ b) (h7 : h ≠ 7) : hasB a h = true := by
  rw [hasB_iff]
  obtain ⟨s, hs, h1, -⟩ := (hb.2.2 h).1 hh
  exact (ha.2.2 h).2 ⟨s, hF.sub hs, h1, .inl h7⟩
theorem hzErr_zero {nd : Nat} {d p co : Int} (h0 : 0 ≤ d) (h1 : d < nd) (hp : p = 1 ∨ p = 2) (h2 : 0 ≤ co) (h3 : co ≤ 7) : hzErr nd d p co = 0 := by
  unfold hzErr
  rw [if_neg (by omega), if_neg (by omega), if_neg (by omega), if_neg (by omega), if_neg (by omega)]
theorem run_store_gr (ρ : Operand → Value) (o : Oper) (x y : Operand) (w0 : World) (x7 : Nat) (co : Int) (Ag Ap : Option Addr) (mg cg np cp : Nat) (ho : o.op = .store 40 x y) (e7 : ρ x = .pointer (some ⟨x7, 0, none⟩)) (e39 : ρ y = .agg #[.int .i64 co, .slice Ag mg cg, .slice Ap np cp])
    (h : Blk w0 x7 40 #[.int .i64 0, .slice none 0 0, .slice none 0 0]) :
    (execOp ρ o).run Tryd.prog w0 = .ok .skip (((w0.setCell ⟨x7, 0, none⟩ (.int .i64 co)).setCell ⟨x7, 1, none⟩ (.slice Ag mg cg)).setCell ⟨x7, 2, none⟩ (.slice Ap np cp)) := by
  have a0 : w0.cell? ⟨x7, 0, none⟩ = some (.int .i64 0) := h.cell 0
  have a1 : w0.cell? ⟨x7, 1, none⟩ = some (.slice none 0 0) := h.cell 1
  have a2 : w0.cell? ⟨x7, 2, none⟩ = some (.slice none 0 0) := h.cell 2
  have a3 := h.frozen 0; have a4 := h.frozen 1; have a5 := h.frozen 2
  clear h
  unfold execOp
  rw [ho]
  simp only [e7, e39]
  go_simp
theorem run_store_op (ρ : Operand → Value) (o : Oper) (x y : Operand) (w0 : World) (x7 : Nat) (d p : Int) (ho : o.op = .store 36 x y) (e7 : ρ x = .pointer (some ⟨x7, 0, none⟩)) (e39 : ρ y = .agg #[.int .i64 d, .int .i64 p])
    (h : Blk w0 x7 36 #[.int .i64 0, .int .i64 0]) :
    (execOp ρ o).run Tryd.prog w0 = .ok .skip ((w0.setCell ⟨x7, 0, none⟩ (.int .i64 d)).setCell ⟨x7, 1, none⟩ (.int .i64 p)) := by
  have a0 : w0.cell? ⟨x7, 0, none⟩ = some (.int .i64 0) := h.cell 0
  have a1 : w0.cell? ⟨x7, 1, none⟩ = some (.int .i64 0) := h.cell 1
  have a3 := h.frozen 0; have a4 := h.frozen 1
  clear h
  unfold execOp
  rw [ho]
  simp only [e7, e39]
  go_simp
theorem own_ne_blk {w : World} {base size n c x : Nat} {e T : TypeId} {A : Option Addr} {xs : List Value} {cs : Array Value} (h : w.ownsRow base e size (.slice A n c) n xs) (hb : Blk w x T cs) (hne : e ≠ T) : ∀ b, (Value.slice A n c).ownBlock = some b → b ≠ x := by
  intro b hv hbx
  subst hbx
  rcases h.2 with ⟨h0, _⟩ | ⟨g, cap, cur, h0, _, hh, _⟩
  · injection h0 with h1; subst h1; cases hv
  · injection h0 with h1; subst h1
    have : g = b := by injection hv
    subst this
    unfold Blk at hb
    rw [hh] at hb
    injection hb with hb
    injection hb with _ hb
    exact hne hb
def GrB (W : World) (g : Nat) (W' : World) : Prop := DeckAt W' g ∧ W.grownBy W' (some g)
/-- What the calls gave: the operation, the ground. -/
def GrF (W : World) (g nd : Nat) : List Value → World → Prop
  | [], W' => GrB W g W'
  | [v1], W' => GrB W g W' ∧ ∃ (d : Nat) (p : Int), v1 = .agg #[.int .i64 d, .int .i64 p] ∧ d < nd ∧ (p = 1 ∨ p = 2)
  | [v1, v2], W' => GrB W g W' ∧ ∃ (d : Nat) (p co : Int) (Ap : Option Addr) (np cp : Nat) (pr : List Int), v1 = .agg #[.int .i64 d, .int .i64 p] ∧ v2 = .agg #[.int .i64 co, .slice none 0 0, .slice Ap np cp] ∧ (d < nd ∧ (p = 1 ∨ p = 2)) ∧ (0 ≤ co ∧ co ≤ 7) ∧ IntsO W' W.heap.size Ap np cp pr
  | _, _ => False
theorem GrB.alloc {W W' : World} {g : Nat} (h : GrB W g W') (o : Obj) : GrB W g (W'.alloc o) := ⟨h.1.alloc o, grown_trans h.2 (grown_of_below ((Below.refl _ _).alloc (Nat.le_refl _) o) _)⟩
theorem GrF.base {W W' : World} {g nd : Nat} : ∀ {vs : List Value}, GrF W g nd vs W' → GrB W g W'
  | [], h => h
  | [_], h => h.1
  | [_, _], h => h.1
  | _ :: _ :: _ :: _, h => h.elim
theorem GrF.alloc {W W' : World} {g nd : Nat} : ∀ {vs : List Value} (o : Obj), GrF W g nd vs W' → GrF W g nd vs (W'.alloc o)
  | [], o, h => GrB.alloc h o
  | [_], o, ⟨h, d, p, e, h1⟩ => ⟨h.alloc o, d, p, e, h1⟩
  | [_, _], o, ⟨h, d, p, co, Ap, np, cp, pr, e1, e2, hd, hc, h2⟩ => ⟨h.alloc o, d, p, co, Ap, np, cp, pr, e1, e2, hd, hc, World.ownsRow.alloc h2 o⟩
  | _ :: _ :: _ :: _, _, h => h.elim
theorem GrB.set {W W' : World} {g x : Nat} (h : GrB W g W') (hg : g < W.heap.size) (hx : W.heap.size ≤ x) (i : Nat) (u : Value) : GrB W g (W'.setCell ⟨x, i, none⟩ u) :=
  ⟨h.1.setCell (by simp only; omega) u, grown_set h.2 (by simp only; omega) u⟩
theorem own_set {w : World} {base size n c x : Nat} {e : TypeId} {A : Option Addr} {xs : List Value} (h : w.ownsRow base e size (.slice A n c) n xs) (hne : ∀ b, (Value.slice A n c).ownBlock = some b → b ≠ x) (i : Nat) (u : Value) : (w.setCell ⟨x, i, none⟩ u).ownsRow base e size (.slice A n c) n xs :=
  h.kept (grown_cell _ _ _) (ne_row hne)
def set2 (w : World) (x : Nat) (u0 u1 : Value) : World := (w.setCell ⟨x, 0, none⟩ u0).setCell ⟨x, 1, none⟩ u1
def set3 (w : World) (x : Nat) (u0 u1 u2 : Value) : World := ((w.setCell ⟨x, 0, none⟩ u0).setCell ⟨x, 1, none⟩ u1).setCell ⟨x, 2, none⟩ u2
/-- The operation and the ground are laid into their boxes. -/
structure GrX (W : World) (g x7 x8 : Nat) (d p co : Int) (Ap : Option Addr) (np cp : Nat) (pr : List Int) (W' : World) : Prop where
  b : GrB W g W'
  b7 : Blk W' x7 36 #[.int .i64 d, .int .i64 p]
  b8 : Blk W' x8 40 #[.int .i64 co, .slice none 0 0, .slice Ap np cp]
  hp : IntsO W' W.heap.size Ap np cp pr
theorem GrX.of {W W' : World} {g x7 x8 np cp : Nat} {Ap : Option Addr} {pr : List Int} (hB : GrB W g W') (h7 : Blk W' x7 36 #[.int .i64 0, .int .i64 0]) (h8 : Blk W' x8 40 #[.int .i64 0, .slice none 0 0, .slice none 0 0]) (hne : x7 ≠ x8) (hx7 : W.heap.size ≤ x7) (hx8 : W.heap.size ≤ x8) (hg : g < W.heap.size)
    (hO : IntsO W' W.heap.size Ap np cp pr) (d p co : Int) : GrX W g x7 x8 d p co Ap np cp pr (set3 (set2 W' x7 (.int .i64 d) (.int .i64 p)) x8 (.int .i64 co) (.slice none 0 0) (.slice Ap np cp)) := by
  have n7 := own_ne_blk hO h7 (by decide); have n8 := own_ne_blk hO h8 (by decide)
  unfold set3 set2
  refine ⟨(((((hB.set hg hx7 _ _).set hg hx7 _ _).set hg hx8 _ _).set hg hx8 _ _).set hg hx8 _ _), ?_, ?_, ?_⟩
  · exact (((((h7.set 0 _).set 1 _).far (p := ⟨x8, 0, none⟩) hne _).far (p := ⟨x8, 1, none⟩) hne _).far (p := ⟨x8, 2, none⟩) hne _)
  · exact (((((h8.far (p := ⟨x7, 0, none⟩) (Ne.symm hne) _).far (p := ⟨x7, 1, none⟩) (Ne.symm hne) _).set 0 _).set 1 _).set 2 _)
  · exact own_set (own_set (own_set (own_set (own_set hO n7 _ _) n7 _ _) n8 _ _) n8 _ _) n8 _ _
def FnR (W : World) (g H : Nat) (m : List Int) (Af : Option Addr) (cf n gk : Nat) (iv : Value) (wr : World) : Prop := ∃ (i : Nat) (f : List Int), iv = .int .i64 i ∧ i ≤ n ∧ gk = n - i ∧ Hid (GrB W g wr) ∧ Hid (IntsO wr H Af n cf f) ∧ Hid (FinL m f i)
def FnE (w1 : World) (n gk : Nat) (iv : Value) (wr : World) : Prop := ∃ i : Nat, iv = .int .i64 i ∧ i ≤ n ∧ gk = n - i ∧ wr = w1
set_option maxRecDepth 100000 in
set_option maxHeartbeats 8000000 in
theorem walk_HazardFiner (w : World) (hl : Laid w) (A : Option Addr) (n c : Nat) (zs : List Int) (hs : Sl w w.heap.size 1 A n c (intsV zs)) (_hz : ∀ z ∈ zs, (Lit.int .i64 z).wf = true) :
    Calls Tryd.prog 3 #[.slice A n c] w fun e w' => e = .returned (.bool true) ∧ Below w.heap.size w w' := by
  have hnm := hs.le
  have HL := Lib.hid hl; have HS := Lib.hid hs
  clear hl hs _hz
  have HF := Lib.hid (few_any A n c w (by omega))
  rcases hf : decide (n ≤ 400) with _ | _
  · rw [hf] at HF
    clear hf
    go_enter Tryd.func3, Tryd.ntmps3
    go_wp2_with fail
    refine HF.out.mono ?_
    rintro e w1 ⟨rfl, rfl⟩
    go_wp2_with fail
    refine (awake_any w HL.out).mono ?_
    rintro e w1 ⟨rfl, hb⟩
    go_wp2_with fail
    go_ret
    exact ⟨rfl, hb⟩
  rw [hf] at HF
  clear hf
  go_enter Tryd.func3, Tryd.ntmps3
  go_wp2_with fail
  refine HF.out.mono ?_
  rintro e w1 ⟨rfl, rfl⟩
  go_wp2_with fail
  refine (new_any A n c w.heap.size zs w HS.out (Nat.le_refl _)).mono ?_
  rintro e w1 ⟨rfl, hd1, hb1, hs1⟩
  go_wp2_with fail
  refine (mknet_any w.heap.size 6 9 w1 hd1.out (by decide) (by decide)).mono ?_
  rintro e w2 ⟨An, nn, cn, ns, Ad, nd, cd, ds, rfl, hd2, hg2, hrn, hrd, hmade⟩
  have HMK := LwN.mk0 HL.out hb1.out hs1.out hd2.out hg2.out hrn.out hrd.out hmade.out
  have HNN := Lib.hid HMK.2.1; have HND := Lib.hid HMK.2.2
  have HN3 := Lib.hid HMK.1
  have HMA := Lib.hid hmade.out
  have hnd : nd ≤ 9 := by have := hmade.out.dm; rw [HND.out] at this; omega
  have hnd1 : 1 ≤ nd := by have := hmade.out.d1; rw [HND.out] at this; omega
  have hnn : nn ≤ 6 := by have := hmade.out.nm; rw [HNN.out] at this; omega
  have HNM := Lib.hid HMA.out.names
  have HCK := Lib.hid (HMA.out.check (by decide) (by decide))
  clear HMK hd1 hb1 hs1 hd2 hg2 hrn hrd hmade HS HF
  go_wp2_with fail
  generalize World.alloc _ _ = w3 at *
  obtain ⟨nb, hnb⟩ : ∃ nb, nb = w2.heap.size := ⟨_, rfl⟩
  rw [← hnb] at HN3 ⊢
  clear hnb
  refine (mkmasks_any w.heap.size An Ad nn cn nd cd 5 ds w3 HN3.out.dk HN3.out.hd (by omega) (by decide)).mono ?_
  rintro e w5 ⟨As, cs, m, rfl, hd5, hg5, hO5, hmb, hcn⟩
  have HM5 : Hid (LwN w nb An nn cn ns Ad nd cd ds w5 ∧ SlX w5 w.heap.size 1 As nd cs (intsV m)) := ⟨HN3.out.grown HL.out hg5.out hd5.out, SlX.of_own hO5.out (by have := HN3.out.bl.size; have := HN3.out.bx.lt; have := HN3.out.ge; omega)⟩
  have HLS : Hid (m.length = nd) := hO5.out.len
  have hw5 : w.heap.size < w5.heap.size := hd5.out.lt
  clear hd5 hg5 hO5 HN3
  have HSR : Hid (Sl w5 w5.heap.size 1 As nd cs (intsV m)) := HM5.out.2.1
  have hcsl := HSR.out.le
  go_upto_region 7 with (at_builtin; go_must (refine wpList_app rfl _ (.tmp 29) rfl el_int (by rfl) (World.ownsRow_nil _ w5.heap.size _ _) (by rfl) HSR.out (ints_one _) (by omega) (by omega) (by omega) ?_; intro Af cf w6 hown7 hgr7 hat7; simp only [Nat.zero_add, List.nil_append] at hown7 hgr7 ⊢; have HO7 := Lib.hid hown7; have HG7 := Lib.hid hgr7; clear hown7 hgr7 hat7))
  have HB6 : Hid (Below w5.heap.size w5 w6) := ⟨HG7.out.os, HG7.out.tape, HG7.out.output, HG7.out.size, fun q hq => HG7.out.block q hq (fun e => by cases e)⟩
  have HO6 : Hid (IntsO w6 w5.heap.size Af nd cf m) := HO7.out
  have HGB : Hid (GrB w5 w.heap.size w6) := ⟨(HM5.out.1.later HB6.out).dk, grown_of_below HB6.out _⟩
  clear HO7 HG7 HSR HB6
  obtain ⟨M, hM⟩ : ∃ M : World → Prop, M = fun W' => LwN w nb An nn cn ns Ad nd cd ds W' ∧ SlX W' w.heap.size 1 As nd cs (intsV m) := ⟨_, rfl⟩
  have HKM : Hid (Keep w.heap.size M) := by unfold Hid; rw [hM]; exact (Keep.lwn HL.out).and Keep.slx
  have HAM : Hid (∀ W', M W' → LwN w nb An nn cn ns Ad nd cd ds W' ∧ SlX W' w.heap.size 1 As nd cs (intsV m)) := fun W' h => by rw [hM] at h; exact h
  have HMW : Hid (M w5) := by unfold Hid; rw [hM]; exact HM5.out
  have HMD : Hid (∀ W', GrB w5 w.heap.size W' → M W') := fun W' h => HKM.out.grown HMW.out h.2 h.1
  clear hM HM5
  go_wp2_with fail
  refine wp_loop_u1 [(6, 0), (0, 1), (24, 0), (0, 2), (17, 1), (69, 0)] 33 (nd) (FnR w5 w.heap.size w5.heap.size m Af cf nd) (by dsimp only [gt]; exact ⟨0, m, rfl, Nat.zero_le _, rfl, HGB, HO6, FinL.start⟩) (by kernel_rfl) ?_
  intro u1 p33 gk wr a hrel ha J1 K1 hJ1 hK1
  dsimp only [relaxR, v1, Nat.reduceAdd] at ha
  subst ha
  · clear HGB HO6
    obtain ⟨i, f, rfl, hi, rfl, hB, hO, hF⟩ := hrel
    by_cases hlt : i < nd
    · obtain ⟨fb, x, hfb, hge, hltb, hx, hcx, hfx, hst⟩ := hO.out.at hlt
      subst hfb
      clear hst
      by_cases h3 : x = 3
      · subst h3
        have HX := Lib.hid hx
        clear hx
        go_wp2_with fail
        refine (one_any w.heap.size 2 wr hB.out.1 (by decide)).mono ?_
        rintro e w8 ⟨r, rfl, h1, h2, h4⟩
        have HB8 : Hid (GrB w5 w.heap.size w8) := ⟨h1.out, grown_trans hB.out.2 h2.out⟩
        have HO8 := Lib.hid (hO.out.kept h2.out (ne_row fun b e => by have := (hO.out.lt b e).1; omega))
        clear h1 h2 h4 hO hB hcx hfx
        rcases r with _ | _
        · have HF2 := Lib.hid hF.out.pass
          go_wp2_with fail
          refine Handed.intro (nd - (i + 1)) (by omega) (hJ1 _ _ _ (LpI1.back 33 ?_ (by kernel_rfl)))
          dsimp only [gt]
          exact ⟨i + 1, f, by go_num, by omega, rfl, HB8, HO8, HF2⟩
        · go_wp2_with fail
          refine (next_any w.heap.size 2 w8 HB8.out.1 (by decide)).mono ?_
          rintro e w9 ⟨r, rfl, h0, h1, h2, h5, h6, h7⟩
          have hr2 : r < 2 := h2.out (by decide)
          have HB9 : Hid (GrB w5 w.heap.size w9) := ⟨h5.out, grown_trans HB8.out.2 h6.out⟩
          have HO9 : Hid (IntsO w9 w5.heap.size (some ⟨fb, 0, none⟩) nd cf f) := HO8.out.kept h6.out (ne_row fun b e => by have := (HO8.out.lt b e).1; omega)
          clear h1 h2 h5 h6 h7 HB8 HO8
          have e4 : IntKind.i64.wrap (1 + r) = 1 + r := IntWalk.i64_in _ (by omega)
          obtain ⟨fb', x', e1, -, hltb, hx, hcx, hfx, hst⟩ := HO9.out.at hlt
          injection e1 with e1
          injection e1 with e1
          subst e1
          have HSW := Lib.hid (hst (1 + r))
          have HB10 := Lib.hid (HB9.out.set hw5 hge i (.int .i64 (1 + r)))
          have HF2 := Lib.hid (hF.out.put HX.out (r := 1 + r) (by omega))
          clear hx hst HB9 HO9
          go_wp2_with fail
          refine Handed.intro (nd - (i + 1)) (by omega) (hJ1 _ _ _ (LpI1.back 33 ?_ (by kernel_rfl)))
          dsimp only [gt]
          exact ⟨i + 1, _, by go_num, by omega, rfl, HB10, HSW, HF2⟩
      · have qd : (x == 3) = false := by simpa using h3
        have HF2 := Lib.hid hF.out.pass
        clear hx h3
        go_wp2_with fail
        refine Handed.intro (nd - (i + 1)) (by omega) (hJ1 _ _ _ (LpI1.back 33 ?_ (by kernel_rfl)))
        dsimp only [gt]
        exact ⟨i + 1, f, by go_num, by omega, rfl, hB, hO, HF2⟩
    · obtain rfl : i = nd := by omega
      have hii : decide (i < i) = false := by simp
      go_upto_region 13 with (fail)
      have HMR := Lib.hid (HMD.out _ hB.out)
      have HSF : Hid (SlX wr w.heap.size 1 Af i cf (intsV f)) := SlX.of_own hO.out hw5
      have HLF : Hid (f.length = i) := hO.out.len
      have HFM := Lib.hid (hF.out.mask hmb.out)
      have HFC : Hid (cntN f f.length ≤ 5) := by have := hF.out.cnt f.length; have h2 := hcn.out; rw [HLF.out] at this ⊢; rw [HLS.out] at h2; unfold Hid; omega
      have HFL : Hid (FinL m f m.length) := by have := hF.out; rw [← HLS.out] at this; exact this
      obtain ⟨N, hN⟩ : ∃ N : World → Prop, N = fun W' => M W' ∧ SlX W' w.heap.size 1 Af i cf (intsV f) := ⟨_, rfl⟩
      have HKN : Hid (Keep w.heap.size N) := by unfold Hid; rw [hN]; exact HKM.out.and Keep.slx
      have HAN : Hid (∀ W', N W' → (LwN w nb An nn cn ns Ad i cd ds W' ∧ SlX W' w.heap.size 1 As i cs (intsV m)) ∧ SlX W' w.heap.size 1 Af i cf (intsV f)) := fun W' h => by rw [hN] at h; exact ⟨HAM.out _ h.1, h.2⟩
      have HNW : Hid (N wr) := by unfold Hid; rw [hN]; exact ⟨HMR.out, HSF.out⟩
      have hgW : w.heap.size < wr.heap.size := hB.out.1.lt
      have HDW := Lib.hid hB.out.1
      have HND2 : Hid (∀ W', GrB wr w.heap.size W' → N W') := fun W' h => HKN.out.grown HNW.out h.2 h.1
      clear hN hB hO hF HMR HSF HKM HAM HMW HMD M
      refine wp_region_lat (S := fun W' => W'.cell? ⟨nb, 0, none⟩ = some (.slice An nn cn) ∧ W'.cell? ⟨nb, 1, none⟩ = some (.slice Ad i cd)) (J := []) (n := _) ((0, true) :: (1, true) :: (3, true) :: (4, true) :: []) ((8, false) :: (9, false) :: []) [2, 5] [6, 7] #[true, true, false, true, true, false, false, false, false, false] #[true, true, true, true, true, true, true, true, false, false] (by as_aux_lemma => kernel_rfl) (by rfl) (base_cons (k := 3) (by go_simp; rfl) (base_cons (k := 4) (by go_simp; rfl) base_nil)) ?_ (fun _ _ _ _ _ h => h) (fun Q2 A hsz hbase hn2 hHeld => ?_)
      · exact ⟨(HAN.out _ HNW.out).1.1.bx.cell 0, (HAN.out _ HNW.out).1.1.bx.cell 1⟩
      try dsimp only at hHeld
      obtain ⟨b3, b4, -⟩ := hbase
      refine ⟨LatP A [(56, .agg #[.slice An nn cn, .slice Ad i cd]), (55, .pointer (some ⟨w.heap.size, 0, none⟩)), (53, .agg #[.slice An nn cn, .slice Ad i cd]), (52, .pointer (some ⟨w.heap.size, 0, none⟩))] 6 7 8 9 wr.heap.size 36 40 #[.int .i64 0, .int .i64 0] #[.int .i64 0, .slice none 0 0, .slice none 0 0] [(2, 54), (5, 57)] (GrF wr w.heap.size i), ?_, ?_, ?_, ?_⟩
      · refine ord_move (i := 0) (d := 52) (v := ?_) rfl rfl rfl (wanted_none rfl) hHeld (fun ρ hρ => ?_) ?_
        rotate_left
        · (have e3 := Eq.trans (hρ.tmp hsz 3 rfl) (lkp_base b3); exact e3)
        show wpOrd _ _ _ _ _ _ _ _
        refine ord_take (i := 1) (d := 53) (v := ?_) rfl rfl (wanted_none rfl) hHeld (fun ρ hρ w hSw => ?_) ?_
        rotate_left
        · (have e4 := Eq.trans (hρ.tmp hsz 4 rfl) (miss1 rfl (lkp_base b4)); clear hρ; (try dsimp only at hSw); go_simp; try with_reducible rfl)
        show wpOrd _ _ _ _ _ _ _ _
        refine ord_move (i := 3) (d := 55) (v := ?_) rfl rfl rfl (wanted_none rfl) hHeld (fun ρ hρ => ?_) ?_
        rotate_left
        · (have e3 := Eq.trans (hρ.tmp hsz 3 rfl) (miss1 rfl (miss1 rfl (lkp_base b3))); exact e3)
        show wpOrd _ _ _ _ _ _ _ _
        refine ord_take (i := 4) (d := 56) (v := ?_) rfl rfl (wanted_none rfl) hHeld (fun ρ hρ w hSw => ?_) ?_
        rotate_left
        · (have e4 := Eq.trans (hρ.tmp hsz 4 rfl) (miss1 rfl (miss1 rfl (miss1 rfl (lkp_base b4)))); clear hρ; (try dsimp only at hSw); go_simp; try with_reducible rfl)
        show wpOrd _ _ _ _ _ _ _ _
        exact lat_pre ⟨[], 0, 0, rfl, by decide, by decide, rfl, ⟨HDW.out.drew, grown_drew (grown_refl _ _)⟩, (show LatMem wr.heap.size _ _ _ _ _ _ _ _ _ from LatMem.start wr.drew 0 0)⟩
      · intro c cs D a w0 h
        obtain ⟨vs, x7, x8, hC, hnd, hDD, rfl, hf, hm⟩ := h
        rcases vs with _ | ⟨v1, _ | ⟨v2, _⟩⟩
        · obtain ⟨rfl, rfl⟩ : c = 2 ∧ cs = [5] := by simpa using hC
          have hle := hm.le
          refine lat_call (d := 54) (vs := #[.pointer (some ⟨w.heap.size, 0, none⟩), .agg #[.slice An nn cn, .slice Ad i cd]]) rfl rfl rfl rfl (fun ρ hρ => ?_) ?_ ?_
          · (have e52 := Eq.trans (hρ.tmp hsz 52 rfl) (miss_opt rfl (miss_opt rfl (miss1 rfl (miss1 rfl (miss1 rfl lkp_hit))))); have e53 := Eq.trans (hρ.tmp hsz 53 rfl) (miss_opt rfl (miss_opt rfl (miss1 rfl (miss1 rfl lkp_hit)))); simp only [List.map_toArray, List.map_cons, List.map_nil, e52, e53])
          · (intro w; go_simp)
          refine (mkop_any w.heap.size An Ad nn cn i cd w0 hf.1 (by omega) (by omega)).mono ?_
          rintro e w6 ⟨d, p, rfl, hdn, hp, hd6, hg6⟩
          have HB6 : GrB wr w.heap.size w6 := ⟨hd6.out, grown_trans hf.2 hg6.out⟩
          refine ⟨_, rfl, fun _ => ?_, [.agg #[.int .i64 d, .int .i64 p]], x7, x8, rfl, hnd, hDD, lat_push A (by decide) (by decide), ?_, hm.grown hg6.out hgW⟩
          · exact ⟨(HAN.out _ (HND2.out _ HB6)).1.1.bx.cell 0, (HAN.out _ (HND2.out _ HB6)).1.1.bx.cell 1⟩
          · exact ⟨HB6, d, p, rfl, hdn, hp⟩
        · obtain ⟨rfl, rfl⟩ : c = 5 ∧ cs = [] := by simpa using hC
          obtain ⟨hB, d, p, rfl, hdn, hp⟩ := hf
          have hle := hm.le
          refine lat_call (d := 57) (vs := #[.pointer (some ⟨w.heap.size, 0, none⟩), .agg #[.slice An nn cn, .slice Ad i cd], .slice none 0 0]) rfl rfl rfl rfl (fun ρ hρ => ?_) ?_ ?_
          · (have hc := hρ.const; have e55 := Eq.trans (hρ.tmp hsz 55 rfl) (miss_opt rfl (miss_opt rfl (miss1 rfl (miss1 rfl lkp_hit)))); have e56 := Eq.trans (hρ.tmp hsz 56 rfl) (miss_opt rfl (miss_opt rfl (miss1 rfl lkp_hit))); simp only [List.map_toArray, List.map_cons, List.map_nil, e55, e56, hc])
          · (intro w; go_simp)
          refine (mkground_any w.heap.size An Ad none nn cn i cd 0 0 w0 hB.1 (by omega)).mono ?_
          rintro e w6 ⟨co, Ap, np, cp, pr, rfl, hco, hd6, hg6, hO6, -⟩
          have HB6 : GrB wr w.heap.size w6 := ⟨hd6.out, grown_trans hB.2 hg6.out⟩
          refine ⟨_, rfl, fun _ => ?_, [.agg #[.int .i64 d, .int .i64 p], .agg #[.int .i64 co, .slice none 0 0, .slice Ap np cp]], x7, x8, rfl, hnd, hDD, lat_push A (by decide) (by decide), ?_, hm.grown hg6.out hgW⟩
          · exact ⟨(HAN.out _ (HND2.out _ HB6)).1.1.bx.cell 0, (HAN.out _ (HND2.out _ HB6)).1.1.bx.cell 1⟩
          · exact ⟨HB6, d, p, co, Ap, np, cp, pr, rfl, rfl, ⟨hdn, hp⟩, hco, hO6.out.mono hle⟩
        · simp at hC
      · exact fun C D i a w0 hi h => wpOp_mono (fun a1 w1 h1 => ⟨fun _ => (by obtain ⟨vs1, _, _, _, _, _, _, hf1, _⟩ := h1; exact ⟨(HAN.out _ (HND2.out _ (GrF.base hf1))).1.1.bx.cell 0, (HAN.out _ (HND2.out _ (GrF.base hf1))).1.1.bx.cell 1⟩), h1⟩) (LatP.alloc (fun vs w2 o h => GrF.alloc o h) (by decide) (by decide) rfl rfl rfl rfl rfl rfl (fun ρ w2 => by go_simp; rfl) (fun ρ w2 => by go_simp; rfl) i hi h)
      · intro a w0 h
        obtain ⟨vs, x7, x8, hC, -, -, rfl, hf, hm⟩ := h
        rcases vs with _ | ⟨v1, _ | ⟨v2, _ | ⟨v3, _⟩⟩⟩
        · simp at hC
        · simp at hC
        rotate_left
        · exact hf.elim
        clear hC
        obtain ⟨hB, d, p, co, Ap, np, cp, pr, rfl, rfl, ⟨hdn, hp⟩, hco, hO⟩ := hf
        have h7 := (hm.m7 rfl).1; have h8 := (hm.m8 rfl).1; have hne := hm.ne rfl rfl
        have hx7 := (hm.m7 rfl).2; have hx8 := (hm.m8 rfl).2
        have HX := Lib.hid (GrX.of hB h7 h8 hne hx7 hx8 hgW hO d p co)
        have HH7 := Lib.hid h7
        have HB7 := Lib.hid ((hB.set hgW hx7 0 (.int .i64 d)).set hgW hx7 1 (.int .i64 p))
        have HH8 := Lib.hid ((h8.far (p := ⟨x7, 0, none⟩) (Ne.symm hne) (.int .i64 d)).far (p := ⟨x7, 1, none⟩) (Ne.symm hne) (.int .i64 p))
        have HX7 := Lib.hid hx7; have HX8 := Lib.hid hx8
        clear hm hO h7 h8 hne hx7 hx8
        show wpOrd _ _ _ _ _ _ (puts A [(9, ptr x8), (8, ptr x7), (57, .agg #[.int .i64 co, .slice none 0 0, .slice Ap np cp]), (54, .agg #[.int .i64 d, .int .i64 p]), (56, .agg #[.slice An nn cn, .slice Ad i cd]), (55, .pointer (some ⟨w.heap.size, 0, none⟩)), (53, .agg #[.slice An nn cn, .slice Ad i cd]), (52, .pointer (some ⟨w.heap.size, 0, none⟩))]) _
        refine ord_store (i := 8) (w' := ?_) rfl rfl (wanted_none rfl) (fun ρ hρ => ?_) (fun _ => ?_) ?_
        rotate_left
        · (have e8 := Eq.trans (hρ.tmp hsz 8 rfl) (miss1 rfl lkp_hit); have e54 := Eq.trans (hρ.tmp hsz 54 rfl) (miss1 rfl (miss1 rfl (miss1 rfl lkp_hit))); refine (run_store_op ρ _ _ _ _ x7 d p ?_ e8 e54 HH7.out); rfl)
        · exact ⟨(HAN.out _ (HND2.out _ (HB7.out))).1.1.bx.cell 0, (HAN.out _ (HND2.out _ HB7.out)).1.1.bx.cell 1⟩
        show wpOrd _ _ _ _ _ _ _ _
        refine ord_store (i := 9) (w' := ?_) rfl rfl (wanted_none rfl) (fun ρ hρ => ?_) (fun _ => ?_) ?_
        rotate_left
        · (have e9 := Eq.trans (hρ.tmp hsz 9 rfl) lkp_hit; have e57 := Eq.trans (hρ.tmp hsz 57 rfl) (miss1 rfl (miss1 rfl lkp_hit)); refine (run_store_gr ρ _ _ _ _ x8 co none Ap 0 0 np cp ?_ e9 e57 HH8.out); rfl)
        · exact ⟨(HAN.out _ (HND2.out _ HX.out.b)).1.1.bx.cell 0, (HAN.out _ (HND2.out _ HX.out.b)).1.1.bx.cell 1⟩
        show wpOrd _ _ _ _ _ _ _ _
        refine ord_done hn2 ?_
        clear hn2 b3 b4 hsz A Q2
        simp only [puts_nil, puts_cons, put_lit, set_1, set_0, ptr]
        have hX := HX.out
        unfold set3 set2 at hX
        clear HX HH7 HH8 HB7 hB
        generalize World.setCell _ _ _ = w10 at *
        have hge7 : wr.heap.size ≤ x7 := HX7.out
        have hge8 : wr.heap.size ≤ x8 := HX8.out
        obtain ⟨M3, hM3⟩ : ∃ M3 : World → Prop, M3 = fun W' => ((LwN w nb An nn cn ns Ad i cd ds W' ∧ SlX W' w.heap.size 1 As i cs (intsV m)) ∧ SlX W' w.heap.size 1 Af i cf (intsV f)) ∧ Blk W' x7 36 #[.int .i64 d, .int .i64 p] ∧ Blk W' x8 40 #[.int .i64 co, .slice none 0 0, .slice Ap np cp] ∧ SlX W' w.heap.size 1 Ap np cp (intsV pr) := ⟨_, rfl⟩
        have HK3 : Hid (Keep w.heap.size M3) := by unfold Hid; rw [hM3]; exact (((Keep.lwn HL.out).and Keep.slx).and Keep.slx).and ((Keep.blk (by omega)).and ((Keep.blk (by omega)).and Keep.slx))
        have HA3 : Hid (∀ W', M3 W' → ((LwN w nb An nn cn ns Ad i cd ds W' ∧ SlX W' w.heap.size 1 As i cs (intsV m)) ∧ SlX W' w.heap.size 1 Af i cf (intsV f)) ∧ Blk W' x7 36 #[.int .i64 d, .int .i64 p] ∧ Blk W' x8 40 #[.int .i64 co, .slice none 0 0, .slice Ap np cp] ∧ SlX W' w.heap.size 1 Ap np cp (intsV pr)) := fun W' h => by rw [hM3] at h; exact h
        have HM10 : Hid (M3 w10) := by unfold Hid; rw [hM3]; exact ⟨HAN.out _ (HND2.out _ hX.b), hX.b7, hX.b8, SlX.of_own hX.hp hgW⟩
        have HZ : Hid (∀ W', M3 W' → HzMem W' An Ad As none Ap nn cn i cd i cs 0 0 np cp ns ds m [] pr) := fun W' h => ⟨(HA3.out _ h).1.1.1.hn.1, (HA3.out _ h).1.1.1.hd.1, (HA3.out _ h).1.1.2.1, Sl.nil _ _ _, (HA3.out _ h).2.2.2.1, (HA3.out _ h).1.1.1.la, HNM.out.1, HNM.out.2⟩
        have HZF : Hid (∀ W', M3 W' → HzMem W' An Ad Af none Ap nn cn i cd i cf 0 0 np cp ns ds f [] pr) := fun W' h => ⟨(HA3.out _ h).1.1.1.hn.1, (HA3.out _ h).1.1.1.hd.1, (HA3.out _ h).1.2.1, Sl.nil _ _ _, (HA3.out _ h).2.2.2.1, (HA3.out _ h).1.1.1.la, HNM.out.1, HNM.out.2⟩
        have HST : Hid (∀ l : List Int, l.length = i → (∀ q ∈ l, maskB q = true) → cntN l l.length ≤ 5 → stsErr ns ds l d p co = 0) := fun l h1 h2 h3 => by
          unfold stsErr
          have e1 : maskErr ns ds l = 0 := by unfold maskErr; rw [if_neg (by rw [HCK.out]; simp), if_neg (by rw [h1, HND.out]; simp), if_pos h2]
          have e2 : hzErr ds.length d p co = 0 := hzErr_zero (by omega) (by rw [HND.out]; omega) hp hco.1 hco.2
          rw [if_pos e1, if_pos e2]
          unfold cErr
          rw [if_pos (by rw [List.all_eq_true]; exact h2), if_neg (by omega)]
        have HSM := Lib.hid (HST.out m HLS.out hmb.out hcn.out)
        have HSF := Lib.hid (HST.out f HLF.out HFM.out HFC.out)
        clear hM3 HND2 HAN HKN HNW HDW hX N HST HFM HFC hmb hcn
        have hcs := HA3.out _ HM10.out
        have k0 : w10.cell? ⟨nb, 0, none⟩ = some (.slice An nn cn) := hcs.1.1.1.bx.cell 0
        have k1 : w10.cell? ⟨nb, 1, none⟩ = some (.slice Ad i cd) := hcs.1.1.1.bx.cell 1
        have o0 : w10.cell? ⟨x7, 0, none⟩ = some (.int .i64 d) := hcs.2.1.cell 0
        have o1 : w10.cell? ⟨x7, 1, none⟩ = some (.int .i64 p) := hcs.2.1.cell 1
        have g0 : w10.cell? ⟨x8, 0, none⟩ = some (.int .i64 co) := hcs.2.2.1.cell 0
        have g1 : w10.cell? ⟨x8, 1, none⟩ = some (.slice none 0 0) := hcs.2.2.1.cell 1
        have g2 : w10.cell? ⟨x8, 2, none⟩ = some (.slice Ap np cp) := hcs.2.2.1.cell 2
        clear hcs
        go_wp2_with fail
        clear k0 k1 o0 o1 g0 g1 g2
        refine (May_any An Ad As none Ap nn cn i cd i cs 0 0 np cp ns ds m [] pr d p co w10 (HZ.out _ HM10.out)).mono ?_
        rintro e w11 ⟨⟨h1, _⟩ | ⟨_, Aa, ka, ca, x, a, hx, rfl, hOA, hMA⟩, hb11⟩
        · exact absurd HSM.out h1
        have HXX := Lib.hid hx
        have HM11 := Lib.hid (HK3.out.later HM10.out hb11.out)
        have HSA := Lib.hid hOA.out.sl
        have HLA : Hid (a.length = ka) := hOA.out.len
        clear hx hb11 hOA HM10
        have hcs := HA3.out _ HM11.out
        have k0 : w11.cell? ⟨nb, 0, none⟩ = some (.slice An nn cn) := hcs.1.1.1.bx.cell 0
        have k1 : w11.cell? ⟨nb, 1, none⟩ = some (.slice Ad i cd) := hcs.1.1.1.bx.cell 1
        have o0 : w11.cell? ⟨x7, 0, none⟩ = some (.int .i64 d) := hcs.2.1.cell 0
        have o1 : w11.cell? ⟨x7, 1, none⟩ = some (.int .i64 p) := hcs.2.1.cell 1
        have g0 : w11.cell? ⟨x8, 0, none⟩ = some (.int .i64 co) := hcs.2.2.1.cell 0
        have g1 : w11.cell? ⟨x8, 1, none⟩ = some (.slice none 0 0) := hcs.2.2.1.cell 1
        have g2 : w11.cell? ⟨x8, 2, none⟩ = some (.slice Ap np cp) := hcs.2.2.1.cell 2
        clear hcs
        go_wp2_with fail
        clear k0 k1 o0 o1 g0 g1 g2
        refine (May_any An Ad Af none Ap nn cn i cd i cf 0 0 np cp ns ds f [] pr d p co w11 (HZF.out _ HM11.out)).mono ?_
        rintro e w12 ⟨⟨h1, _⟩ | ⟨_, Ab, kb, cb, x', b, hx', rfl, hOB, hMB⟩, hb12⟩
        · exact absurd HSF.out h1
        obtain rfl : x = x' := by have := HXX.out; rw [this] at hx'; exact Option.some.inj hx'
        have HM12 := Lib.hid (HK3.out.later HM11.out hb12.out)
        have HSA12 := Lib.hid ((HSA.out.below hb12.out (Nat.le_refl _)).more hb12.out.size)
        have HSB := Lib.hid hOB.out.sl
        have HLB : Hid (b.length = kb) := hOB.out.len
        have HHAS : Hid (∀ h ∈ b, h ≠ 7 → hasB a h = true) := fun h hh h7 => fin_has HFL.out hMA.out hMB.out hh h7
        have hkb := hOB.out.sl.le
        clear hx' hb12 hOB HM11 HSA
        go_wp2_with fail
        refine wp_loop_u1 [(1, 0), (0, 1), (11, 0), (0, 1), (59, 0), (0, 2), (11, 1), (32, 0)] 76 (kb) (FnE w12 kb) (by dsimp only [gt]; exact ⟨0, rfl, Nat.zero_le _, rfl, rfl⟩) (by kernel_rfl) ?_
        intro u2 p76 gk wr a hrel ha J2 K2 hJ2 hK2
        dsimp only [relaxR, v1, Nat.reduceAdd] at ha
        subst ha
        · obtain ⟨j, rfl, hj, rfl, rfl⟩ := hrel
          by_cases hjl : j < kb
          · obtain ⟨bb, off, hv, rfl, hbx, hxv, hcv⟩ := HSB.out.at1 hjl
            have HMEM := Lib.hid (List.mem_of_getElem? hxv)
            clear hxv
            by_cases h7 : hv = 7
            · subst h7
              go_wp2_with fail
              refine Handed.intro (kb - (j + 1)) (by omega) (hJ2 _ _ _ (LpI1.back 76 ?_ (by kernel_rfl)))
              dsimp only [gt]
              exact ⟨j + 1, by go_num, by omega, rfl, rfl⟩
            · have q7 : (hv != 7) = true := by simpa using h7
              have HT := Lib.hid (HHAS.out hv HMEM.out h7)
              clear h7
              go_wp2_with fail
              clear hcv
              refine (rhasb_any Aa ka ca a hv _ HSA12.out).mono ?_
              rintro e w16 ⟨rfl, rfl⟩
              rw [HT.out]
              go_wp2_with fail
              refine Handed.intro (kb - (j + 1)) (by omega) (hJ2 _ _ _ (LpI1.back 76 ?_ (by kernel_rfl)))
              dsimp only [gt]
              exact ⟨j + 1, by go_num, by omega, rfl, rfl⟩
          · obtain rfl : j = kb := by omega
            have hjj : decide (j < j) = false := by simp
            have hcs := HA3.out _ HM12.out
            have k0 : wr.cell? ⟨nb, 0, none⟩ = some (.slice An nn cn) := hcs.1.1.1.bx.cell 0
            have k1 : wr.cell? ⟨nb, 1, none⟩ = some (.slice Ad i cd) := hcs.1.1.1.bx.cell 1
            have o0 : wr.cell? ⟨x7, 0, none⟩ = some (.int .i64 d) := hcs.2.1.cell 0
            have o1 : wr.cell? ⟨x7, 1, none⟩ = some (.int .i64 p) := hcs.2.1.cell 1
            have g0 : wr.cell? ⟨x8, 0, none⟩ = some (.int .i64 co) := hcs.2.2.1.cell 0
            have g1 : wr.cell? ⟨x8, 1, none⟩ = some (.slice none 0 0) := hcs.2.2.1.cell 1
            have g2 : wr.cell? ⟨x8, 2, none⟩ = some (.slice Ap np cp) := hcs.2.2.1.cell 2
            clear hcs
            go_wp2_with fail
            clear k0 k1 o0 o1 g0 g1 g2
            refine (Safe_any An Ad As none Ap Ab nn cn i cd i cs 0 0 np cp j cb ns ds m [] pr b d p co wr (HZ.out _ HM12.out) HSB.out).mono ?_
            rintro e w17 ⟨⟨h1, _⟩ | ⟨_, x', a', hx', hMA', rfl⟩, hb17⟩
            · exact absurd HSM.out h1
            obtain rfl : x = x' := by have := HXX.out; rw [this] at hx'; exact Option.some.inj hx'
            have hae : a' = a := SetL.unique hMA'.out hMA.out
            have HM17 := Lib.hid (HK3.out.later HM12.out hb17.out)
            obtain ⟨sf, hsf⟩ : ∃ y, y = safeB a' b := ⟨_, rfl⟩
            rw [← hsf]
            have HSF2 := Lib.hid hsf
            have HAE := Lib.hid hae
            have HND4 : Hid (a.Nodup) := hMA.out.1
            clear hx' hb17 hMA' hsf hae HM12 hMA hMB
            rcases sf with _ | _
            · go_wp2_with fail
              refine (awake_any w17 (HA3.out _ HM17.out).1.1.1.la).mono ?_
              rintro e w18 ⟨rfl, hb18⟩
              have HM18 := Lib.hid (HK3.out.later HM17.out hb18)
              clear hb18
              go_wp2_with fail
              go_ret
              exact ⟨rfl, (HA3.out _ HM18.out).1.1.1.bl⟩
            · have hle : ka ≤ j := by
                have h1 := (safeB_iff a' b).1 HSF2.out.symm
                rw [HAE.out] at h1
                have := sub_len HND4.out h1
                rw [HLA.out, HLB.out] at this
                exact this
              have hleI : decide ((ka : Int) ≤ (j : Int)) = true := decide_eq_true (by omega)
              have hleN : decide (ka ≤ j) = true := decide_eq_true hle
              go_wp2_with fail
              refine (awake_any w17 (HA3.out _ HM17.out).1.1.1.la).mono ?_
              rintro e w18 ⟨rfl, hb18⟩
              have HM18 := Lib.hid (HK3.out.later HM17.out hb18)
              clear hb18
              go_wp2_with fail
              go_ret
              exact ⟨rfl, (HA3.out _ HM18.out).1.1.1.bl⟩
end Go.Proofs.YtiljpejjjgoeaaaDoor
