import Derived.Test.YtdpmfdcackoegaaGreatDoorW01
import Derived.Test.YtdpmfdcackoegaaGreatDoorZ41
import Derived.Test.YtdpmfdcackoegaaGreatDoorZ42
import Derived.Test.YtdpmfdcackoegaaGreatDoorZ45
import Derived.Test.YtdpmfdcackoegaaGreatDoorZ48
/-
  HazardHarmless: an operation without hazards.
-/
namespace Go.Proofs.YtdpmfdcackoegaaGreatDoor
open Go.RowKit
theorem stateErr_zero {ns : List Nd} {ds : List Dv} {s : List Int} (hc : checkN ns ds = 0) (hl : s.length = ds.length) (hp : ∀ p ∈ s, posB p = true) : stateErr ns ds s = 0 := by
  unfold stateErr; rw [if_neg (by simp [hc]), if_neg (by omega), if_pos hp]
theorem hzErr_zero {nd : Nat} {d p co : Int} (h0 : 0 ≤ d) (h1 : d < nd) (hp : p = 1 ∨ p = 2) (h2 : 0 ≤ co) (h3 : co ≤ 7) : hzErr nd d p co = 0 := by
  unfold hzErr
  rw [if_neg (by omega), if_neg (by omega), if_neg (by omega), if_neg (by omega), if_neg (by omega)]
theorem run_store_gr (ρ : Operand → Value) (o : Oper) (x y : Operand) (w0 : World) (x7 : Nat) (co : Int) (Ag Ap : Option Addr) (mg cg np cp : Nat) (ho : o.op = .store 51 x y) (e7 : ρ x = .pointer (some ⟨x7, 0, none⟩)) (e39 : ρ y = .agg #[.int .i64 co, .slice Ag mg cg, .slice Ap np cp])
    (h : Blk w0 x7 51 #[.int .i64 0, .slice none 0 0, .slice none 0 0]) :
    (execOp ρ o).run Tryz.prog w0 = .ok .skip (((w0.setCell ⟨x7, 0, none⟩ (.int .i64 co)).setCell ⟨x7, 1, none⟩ (.slice Ag mg cg)).setCell ⟨x7, 2, none⟩ (.slice Ap np cp)) := by
  have a0 : w0.cell? ⟨x7, 0, none⟩ = some (.int .i64 0) := h.cell 0
  have a1 : w0.cell? ⟨x7, 1, none⟩ = some (.slice none 0 0) := h.cell 1
  have a2 : w0.cell? ⟨x7, 2, none⟩ = some (.slice none 0 0) := h.cell 2
  have a3 := h.frozen 0; have a4 := h.frozen 1; have a5 := h.frozen 2
  clear h
  unfold execOp
  rw [ho]
  simp only [e7, e39]
  go_simp
theorem own_ne_blk {w : World} {base size n c x : Nat} {e T : TypeId} {A : Option Addr} {xs : List Value} {cs : Array Value} (h : w.ownsRow base e size (.slice A n c) n xs) (hb : Blk w x T cs) (hne : e ≠ T) : ∀ b, (Value.slice A n c).ownBlock = some b → b ≠ x := by
  intro b hv hbx
  subst hbx
  rcases h.2 with ⟨h0, _⟩ | ⟨g, cap, cur, h0, _, hh, _⟩
  · injection h0 with h1; subst h1; cases hv
  · injection h0 with h1; subst h1
    have : g = b := by injection hv
    subst this
    unfold Blk at hb
    rw [hh] at hb
    injection hb with hb
    injection hb with _ hb
    exact hne hb
def GrB (W : World) (g : Nat) (W' : World) : Prop := DeckAt W' g ∧ W.grownBy W' (some g)
/-- What the calls gave: the locks, the ground with locks. -/
def GrF (W : World) (g : Nat) : List Value → World → Prop
  | [], W' => GrB W g W'
  | [v1], W' => GrB W g W' ∧ ∃ (Ag : Option Addr) (mg cg : Nat) (ls : List Lk), v1 = .slice Ag mg cg ∧ LocksO W' W.heap.size Ag mg cg ls
  | [v1, v2], W' => GrB W g W' ∧ ∃ (Ag : Option Addr) (mg cg : Nat) (ls : List Lk) (co : Int) (Ap : Option Addr) (np cp : Nat) (pr : List Int), v1 = .slice Ag mg cg ∧ v2 = .agg #[.int .i64 co, .slice Ag mg cg, .slice Ap np cp] ∧ (0 ≤ co ∧ co ≤ 7) ∧ LocksO W' W.heap.size Ag mg cg ls ∧ IntsO W' W.heap.size Ap np cp pr
  | _, _ => False
theorem GrB.alloc {W W' : World} {g : Nat} (h : GrB W g W') (o : Obj) : GrB W g (W'.alloc o) := ⟨h.1.alloc o, grown_trans h.2 (grown_of_below ((Below.refl _ _).alloc (Nat.le_refl _) o) _)⟩
theorem GrF.base {W W' : World} {g : Nat} : ∀ {vs : List Value}, GrF W g vs W' → GrB W g W'
  | [], h => h
  | [_], h => h.1
  | [_, _], h => h.1
  | _ :: _ :: _ :: _, h => h.elim
theorem GrF.alloc {W W' : World} {g : Nat} : ∀ {vs : List Value} (o : Obj), GrF W g vs W' → GrF W g vs (W'.alloc o)
  | [], o, h => GrB.alloc h o
  | [_], o, ⟨h, Ag, mg, cg, ls, e, h1⟩ => ⟨h.alloc o, Ag, mg, cg, ls, e, World.ownsRow.alloc h1 o⟩
  | [_, _], o, ⟨h, Ag, mg, cg, ls, co, Ap, np, cp, pr, e1, e2, hc, h1, h2⟩ => ⟨h.alloc o, Ag, mg, cg, ls, co, Ap, np, cp, pr, e1, e2, hc, World.ownsRow.alloc h1 o, World.ownsRow.alloc h2 o⟩
  | _ :: _ :: _ :: _, _, h => h.elim
theorem GrB.set {W W' : World} {g x : Nat} (h : GrB W g W') (hg : g < W.heap.size) (hx : W.heap.size ≤ x) (i : Nat) (u : Value) : GrB W g (W'.setCell ⟨x, i, none⟩ u) :=
  ⟨h.1.setCell (by simp only; omega) u, grown_set h.2 (by simp only; omega) u⟩
theorem own_set {w : World} {base size n c x : Nat} {e : TypeId} {A : Option Addr} {xs : List Value} (h : w.ownsRow base e size (.slice A n c) n xs) (hne : ∀ b, (Value.slice A n c).ownBlock = some b → b ≠ x) (i : Nat) (u : Value) : (w.setCell ⟨x, i, none⟩ u).ownsRow base e size (.slice A n c) n xs :=
  h.kept (grown_cell _ _ _) (ne_row hne)
def set3 (w : World) (x : Nat) (u0 u1 u2 : Value) : World := ((w.setCell ⟨x, 0, none⟩ u0).setCell ⟨x, 1, none⟩ u1).setCell ⟨x, 2, none⟩ u2
/-- The ground is laid into its box. -/
structure GrX1 (W : World) (g x7 : Nat) (Ag : Option Addr) (mg cg : Nat) (ls : List Lk) (co : Int) (Ap : Option Addr) (np cp : Nat) (pr : List Int) (W' : World) : Prop where
  b : GrB W g W'
  b7 : Blk W' x7 51 #[.int .i64 co, .slice Ag mg cg, .slice Ap np cp]
  hl : LocksO W' W.heap.size Ag mg cg ls
  hp : IntsO W' W.heap.size Ap np cp pr
theorem GrX1.of {W W' : World} {g x7 mg cg np cp : Nat} {Ag Ap : Option Addr} {ls : List Lk} {pr : List Int} (hB : GrB W g W') (h7 : Blk W' x7 51 #[.int .i64 0, .slice none 0 0, .slice none 0 0]) (hx7 : W.heap.size ≤ x7) (hg : g < W.heap.size)
    (hO : LocksO W' W.heap.size Ag mg cg ls) (hO2 : IntsO W' W.heap.size Ap np cp pr) (co : Int) : GrX1 W g x7 Ag mg cg ls co Ap np cp pr (set3 W' x7 (.int .i64 co) (.slice Ag mg cg) (.slice Ap np cp)) := by
  have n7 := own_ne_blk hO h7 (by decide)
  have p7 := own_ne_blk hO2 h7 (by decide)
  unfold set3
  exact ⟨(((hB.set hg hx7 _ _).set hg hx7 _ _).set hg hx7 _ _), ((h7.set 0 _).set 1 _).set 2 _, own_set (own_set (own_set hO n7 _ _) n7 _ _) n7 _ _, own_set (own_set (own_set hO2 p7 _ _) p7 _ _) p7 _ _⟩
/-- What stays in the memory of the law's loop. -/
def HrM (w : World) (nb : Nat) (An : Option Addr) (nn cn : Nat) (ns : List Nd) (Ad : Option Addr) (nd cd : Nat) (ds : List Dv) (As : Option Addr) (cs : Nat) (s : List Int) (x7 : Nat) (co : Int) (Ag : Option Addr) (mg cg : Nat) (ls : List Lk) (Ap : Option Addr) (np cp : Nat) (pr : List Int) (W' : World) : Prop :=
  (LwN w nb An nn cn ns Ad nd cd ds W' ∧ SlX W' w.heap.size 1 As nd cs (intsV s)) ∧ Blk W' x7 51 #[.int .i64 co, .slice Ag mg cg, .slice Ap np cp] ∧ SlX W' w.heap.size 3 Ag mg cg (ls.flatMap Lk.cells) ∧ SlX W' w.heap.size 1 Ap np cp (intsV pr)
def HrR (M : World → Prop) (n gk : Nat) (iv : Value) (wr : World) : Prop := ∃ i : Nat, iv = .int .i64 i ∧ i ≤ n ∧ gk = n - i ∧ Hid (M wr)
def HrE (w1 : World) (n gk : Nat) (iv : Value) (wr : World) : Prop := ∃ i : Nat, iv = .int .i64 i ∧ i ≤ n ∧ gk = n - i ∧ wr = w1
set_option maxRecDepth 100000 in
set_option maxHeartbeats 8000000 in
theorem walk_HazardHarmless (w : World) (hl : Laid w) (A : Option Addr) (n c : Nat) (zs : List Int) (hs : Sl w w.heap.size 1 A n c (intsV zs)) (_hz : ∀ z ∈ zs, (Lit.int .i64 z).wf = true) :
    Calls Tryz.prog 4 #[.slice A n c] w fun e w' => e = .returned (.bool true) ∧ Below w.heap.size w w' := by
  have hnm := hs.le
  have HL := Lib.hid hl; have HS := Lib.hid hs
  clear hl hs _hz
  have HF := Lib.hid (few_any A n c w (by omega))
  rcases hf : decide (n ≤ 400) with _ | _
  · rw [hf] at HF
    clear hf
    go_enter Tryz.func4, Tryz.ntmps4
    go_wp2_with fail
    refine HF.out.mono ?_
    rintro e w1 ⟨rfl, rfl⟩
    go_wp2_with fail
    refine (awake_any w HL.out).mono ?_
    rintro e w1 ⟨rfl, hb⟩
    go_wp2_with fail
    go_ret
    exact ⟨rfl, hb⟩
  rw [hf] at HF
  clear hf
  go_enter Tryz.func4, Tryz.ntmps4
  go_wp2_with fail
  refine HF.out.mono ?_
  rintro e w1 ⟨rfl, rfl⟩
  go_wp2_with fail
  refine (new_any A n c w.heap.size zs w HS.out (Nat.le_refl _)).mono ?_
  rintro e w1 ⟨rfl, hd1, hb1, hs1⟩
  go_wp2_with fail
  refine (mknet_any w.heap.size 7 12 w1 hd1.out (by decide) (by decide)).mono ?_
  rintro e w2 ⟨An, nn, cn, ns, Ad, nd, cd, ds, rfl, hd2, hg2, hrn, hrd, hmade⟩
  have HMK := LwN.mk0 HL.out hb1.out hs1.out hd2.out hg2.out hrn.out hrd.out hmade.out
  have HNN := Lib.hid HMK.2.1; have HND := Lib.hid HMK.2.2
  have HN3 := Lib.hid HMK.1
  have HMA := Lib.hid hmade.out
  have hnd : nd ≤ 12 := by have := hmade.out.dm; rw [HND.out] at this; omega
  have hnd1 : 1 ≤ nd := by have := hmade.out.d1; rw [HND.out] at this; omega
  have hnn : nn ≤ 7 := by have := hmade.out.nm; rw [HNN.out] at this; omega
  have HNM := Lib.hid HMA.out.names
  have HCK := Lib.hid (HMA.out.check (by decide) (by decide))
  clear HMK hd1 hb1 hs1 hd2 hg2 hrn hrd hmade HS HF
  go_wp2_with fail
  generalize World.alloc _ _ = w3 at *
  obtain ⟨nb, hnb⟩ : ∃ nb, nb = w2.heap.size := ⟨_, rfl⟩
  rw [← hnb] at HN3 ⊢
  clear hnb
  refine (mkstate_any w.heap.size An Ad nn cn nd cd ds w3 HN3.out.dk HN3.out.hd (by omega)).mono ?_
  rintro e w5 ⟨As, cs, s, rfl, hd5, hg5, hO5, hpos⟩
  have HM6 : Hid (LwN w nb An nn cn ns Ad nd cd ds w5 ∧ SlX w5 w.heap.size 1 As nd cs (intsV s)) := ⟨HN3.out.grown HL.out hg5.out hd5.out, SlX.of_own hO5.out (by have := HN3.out.bl.size; have := HN3.out.bx.lt; have := HN3.out.ge; omega)⟩
  have HLS : Hid (s.length = nd) := hO5.out.len
  have hw6 : w.heap.size < w5.heap.size := hd5.out.lt
  clear hd5 hg5 hO5 HN3
  go_upto_region 6 with (fail)
  obtain ⟨M, hM⟩ : ∃ M : World → Prop, M = fun W' => LwN w nb An nn cn ns Ad nd cd ds W' ∧ SlX W' w.heap.size 1 As nd cs (intsV s) := ⟨_, rfl⟩
  have HKM : Hid (Keep w.heap.size M) := by unfold Hid; rw [hM]; exact (Keep.lwn HL.out).and Keep.slx
  have HAM : Hid (∀ W', M W' → LwN w nb An nn cn ns Ad nd cd ds W' ∧ SlX W' w.heap.size 1 As nd cs (intsV s)) := fun W' h => by rw [hM] at h; exact h
  have HMW : Hid (M w5) := by unfold Hid; rw [hM]; exact HM6.out
  have hgW : w.heap.size < w5.heap.size := hw6
  have HDW := Lib.hid HM6.out.1.dk
  have HMD : Hid (∀ W', GrB w5 w.heap.size W' → M W') := fun W' h => HKM.out.grown HMW.out h.2 h.1
  clear hM HM6
  refine wp_region_lat (S := fun W' => W'.cell? ⟨nb, 0, none⟩ = some (.slice An nn cn) ∧ W'.cell? ⟨nb, 1, none⟩ = some (.slice Ad nd cd)) (J := []) (n := _) ((0, true) :: (1, true) :: (2, true) :: (3, true) :: (4, true) :: []) ((8, false) :: []) [5, 6] [7] #[true, true, true, true, true, false, false, false, false] #[true, true, true, true, true, true, true, true, false] (by as_aux_lemma => kernel_rfl) (by rfl) (base_cons (k := 3) (by go_simp; rfl) (base_cons (k := 4) (by go_simp; rfl) (base_cons (k := 5) (by go_simp; rfl) base_nil))) ?_ (fun _ _ _ _ _ h => h) (fun Q2 A hsz hbase hn2 hHeld => ?_)
  · exact ⟨(HAM.out _ HMW.out).1.bx.cell 0, (HAM.out _ HMW.out).1.bx.cell 1⟩
  try dsimp only at hHeld
  obtain ⟨b3, b4, b5, -⟩ := hbase
  refine ⟨LatP1 A [(39, .slice As nd cs), (38, .agg #[.slice An nn cn, .slice Ad nd cd]), (37, .pointer (some ⟨w.heap.size, 0, none⟩)), (36, .agg #[.slice An nn cn, .slice Ad nd cd]), (35, .pointer (some ⟨w.heap.size, 0, none⟩))] 7 6 w5.heap.size 51 #[.int .i64 0, .slice none 0 0, .slice none 0 0] [(5, 40), (6, 41)] (GrF w5 w.heap.size), ?_, ?_, ?_, ?_⟩
  · refine ord_move (i := 0) (d := 35) (v := ?_) rfl rfl rfl (wanted_none rfl) hHeld (fun ρ hρ => ?_) ?_
    rotate_left
    · (have e3 := Eq.trans (hρ.tmp hsz 3 rfl) (lkp_base b3); exact e3)
    show wpOrd _ _ _ _ _ _ _ _
    refine ord_take (i := 1) (d := 36) (v := ?_) rfl rfl (wanted_none rfl) hHeld (fun ρ hρ w hSw => ?_) ?_
    rotate_left
    · (have e4 := Eq.trans (hρ.tmp hsz 4 rfl) (miss1 rfl (lkp_base b4)); clear hρ; (try dsimp only at hSw); go_simp; try with_reducible rfl)
    show wpOrd _ _ _ _ _ _ _ _
    refine ord_move (i := 2) (d := 37) (v := ?_) rfl rfl rfl (wanted_none rfl) hHeld (fun ρ hρ => ?_) ?_
    rotate_left
    · (have e3 := Eq.trans (hρ.tmp hsz 3 rfl) (miss1 rfl (miss1 rfl (lkp_base b3))); exact e3)
    show wpOrd _ _ _ _ _ _ _ _
    refine ord_take (i := 3) (d := 38) (v := ?_) rfl rfl (wanted_none rfl) hHeld (fun ρ hρ w hSw => ?_) ?_
    rotate_left
    · (have e4 := Eq.trans (hρ.tmp hsz 4 rfl) (miss1 rfl (miss1 rfl (miss1 rfl (lkp_base b4)))); clear hρ; (try dsimp only at hSw); go_simp; try with_reducible rfl)
    show wpOrd _ _ _ _ _ _ _ _
    refine ord_move (i := 4) (d := 39) (v := ?_) rfl rfl rfl (wanted_none rfl) hHeld (fun ρ hρ => ?_) ?_
    rotate_left
    · (have e5 := Eq.trans (hρ.tmp hsz 5 rfl) (miss4 rfl rfl rfl rfl (lkp_base b5)); exact e5)
    show wpOrd _ _ _ _ _ _ _ _
    exact lat_pre ⟨[], 0, rfl, by decide, by decide, rfl, ⟨HDW.out.drew, grown_drew (grown_refl _ _)⟩, (show LatMem1 w5.heap.size _ _ _ _ _ from LatMem1.start w5.drew 0)⟩
  · intro c cs D a w0 h
    obtain ⟨vs, x7, hC, hnd, hDD, rfl, hf, hm⟩ := h
    rcases vs with _ | ⟨v1, _ | ⟨v2, _⟩⟩
    · obtain ⟨rfl, rfl⟩ : c = 5 ∧ cs = [6] := by simpa using hC
      have hm0 := HMD.out _ hf
      have hle := hm.le
      refine lat_call (d := 40) (vs := #[.pointer (some ⟨w.heap.size, 0, none⟩), .agg #[.slice An nn cn, .slice Ad nd cd], .slice As nd cs, .int .i64 3]) rfl rfl rfl rfl (fun ρ hρ => ?_) ?_ ?_
      · (have hc := hρ.const; have e37 := Eq.trans (hρ.tmp hsz 37 rfl) (miss_opt rfl (miss1 rfl (miss1 rfl lkp_hit))); have e38 := Eq.trans (hρ.tmp hsz 38 rfl) (miss_opt rfl (miss1 rfl lkp_hit)); have e39 := Eq.trans (hρ.tmp hsz 39 rfl) (miss_opt rfl lkp_hit); simp only [List.map_toArray, List.map_cons, List.map_nil, e37, e38, e39, hc])
      · (intro w; go_simp)
      refine (mklocks_any w.heap.size An Ad As nn cn nd cd nd cs 3 ns ds s w0 hf.1 (HAM.out _ hm0).1.hn (HAM.out _ hm0).1.hd (HAM.out _ hm0).2 (by omega) (by decide) HNM.out.1 HNM.out.2).mono ?_
      rintro e w6 ⟨Ag, mg, cg, ls, rfl, hd6, hg6, hO6, -⟩
      have HB6 : GrB w5 w.heap.size w6 := ⟨hd6.out, grown_trans hf.2 hg6.out⟩
      refine ⟨_, rfl, fun _ => ?_, [.slice Ag mg cg], x7, rfl, hnd, hDD, lat_push1 A (by decide), ?_, hm.grown hg6.out hgW⟩
      · exact ⟨(HAM.out _ (HMD.out _ HB6)).1.bx.cell 0, (HAM.out _ (HMD.out _ HB6)).1.bx.cell 1⟩
      · exact ⟨HB6, Ag, mg, cg, ls, rfl, World.ownsRow.mono hO6.out (by omega)⟩
    · obtain ⟨rfl, rfl⟩ : c = 6 ∧ cs = [] := by simpa using hC
      obtain ⟨hB, Ag, mg, cg, ls, rfl, hO⟩ := hf
      have hle := hm.le
      refine lat_call (d := 41) (vs := #[.pointer (some ⟨w.heap.size, 0, none⟩), .agg #[.slice An nn cn, .slice Ad nd cd], .slice Ag mg cg]) rfl rfl rfl rfl (fun ρ hρ => ?_) ?_ ?_
      · (have e35 := Eq.trans (hρ.tmp hsz 35 rfl) (miss_opt rfl (miss1 rfl (miss1 rfl (miss1 rfl (miss1 rfl (miss1 rfl lkp_hit)))))); have e36 := Eq.trans (hρ.tmp hsz 36 rfl) (miss_opt rfl (miss1 rfl (miss1 rfl (miss1 rfl (miss1 rfl lkp_hit))))); have e40 := Eq.trans (hρ.tmp hsz 40 rfl) (miss_opt rfl lkp_hit); simp only [List.map_toArray, List.map_cons, List.map_nil, e35, e36, e40])
      · (intro w; go_simp)
      refine (mkground_any w.heap.size An Ad Ag nn cn nd cd mg cg w0 hB.1 (by omega)).mono ?_
      rintro e w6 ⟨co, Ap, np, cp, pr, rfl, hco, hd6, hg6, hO6, -⟩
      have HB6 : GrB w5 w.heap.size w6 := ⟨hd6.out, grown_trans hB.2 hg6.out⟩
      refine ⟨_, rfl, fun _ => ?_, [.slice Ag mg cg, .agg #[.int .i64 co, .slice Ag mg cg, .slice Ap np cp]], x7, rfl, hnd, hDD, lat_push1 A (by decide), ?_, hm.grown hg6.out hgW⟩
      · exact ⟨(HAM.out _ (HMD.out _ HB6)).1.bx.cell 0, (HAM.out _ (HMD.out _ HB6)).1.bx.cell 1⟩
      · exact ⟨HB6, Ag, mg, cg, ls, co, Ap, np, cp, pr, rfl, rfl, hco, World.ownsRow.kept hO hg6.out (ne_row fun b e => by have := (World.ownsRow.lt hO b e).1; omega), hO6.out.mono hle⟩
    · simp at hC
  · exact fun C D i a w0 hi h => wpOp_mono (fun a1 w1 h1 => ⟨fun _ => (by obtain ⟨vs1, _, _, _, _, _, hf1, _⟩ := h1; exact ⟨(HAM.out _ (HMD.out _ (GrF.base hf1))).1.bx.cell 0, (HAM.out _ (HMD.out _ (GrF.base hf1))).1.bx.cell 1⟩), h1⟩) (LatP1.alloc (fun vs w2 o h => GrF.alloc o h) rfl rfl rfl (fun ρ w2 => by go_simp; rfl) i hi h)
  · intro a w0 h
    obtain ⟨vs, x7, hC, -, -, rfl, hf, hm⟩ := h
    rcases vs with _ | ⟨v1, _ | ⟨v2, _ | ⟨v3, _⟩⟩⟩
    · simp at hC
    · simp at hC
    rotate_left
    · exact hf.elim
    clear hC
    obtain ⟨hB, Ag, mg, cg, ls, co, Ap, np, cp, pr, rfl, rfl, hco, hO, hO2⟩ := hf
    have h7 := (hm.m7 rfl).1
    have hx7 := (hm.m7 rfl).2
    have HX := Lib.hid (GrX1.of hB h7 hx7 hgW hO hO2 co)
    have HH7 := Lib.hid h7
    have HX7 := Lib.hid hx7
    clear hm hO hO2 h7 hx7
    show wpOrd _ _ _ _ _ _ (puts A [(6, ptr x7), (41, .agg #[.int .i64 co, .slice Ag mg cg, .slice Ap np cp]), (40, .slice Ag mg cg), (39, .slice As nd cs), (38, .agg #[.slice An nn cn, .slice Ad nd cd]), (37, .pointer (some ⟨w.heap.size, 0, none⟩)), (36, .agg #[.slice An nn cn, .slice Ad nd cd]), (35, .pointer (some ⟨w.heap.size, 0, none⟩))]) _
    refine ord_store (i := 8) (w' := ?_) rfl rfl (wanted_none rfl) (fun ρ hρ => ?_) (fun _ => ?_) ?_
    rotate_left
    · (have e6 := Eq.trans (hρ.tmp hsz 6 rfl) lkp_hit; have e41 := Eq.trans (hρ.tmp hsz 41 rfl) (miss1 rfl lkp_hit); refine (run_store_gr ρ _ _ _ _ x7 co Ag Ap mg cg np cp ?_ e6 e41 HH7.out); rfl)
    · exact ⟨(HAM.out _ (HMD.out _ HX.out.b)).1.bx.cell 0, (HAM.out _ (HMD.out _ HX.out.b)).1.bx.cell 1⟩
    show wpOrd _ _ _ _ _ _ _ _
    refine ord_done hn2 ?_
    clear hn2 b3 b4 b5 hsz A Q2
    simp only [puts_nil, puts_cons, put_lit, set_1, set_0, ptr]
    have hX := HX.out
    unfold set3 at hX
    clear HX HH7 hB
    generalize World.setCell _ _ _ = WS at *
    have hge7 : w5.heap.size ≤ x7 := HX7.out
    obtain ⟨M3, hM3⟩ : ∃ M3 : World → Prop, M3 = HrM w nb An nn cn ns Ad nd cd ds As cs s x7 co Ag mg cg ls Ap np cp pr := ⟨_, rfl⟩
    have HK3 : Hid (Keep w.heap.size M3) := by unfold Hid; rw [hM3]; unfold HrM; exact ((Keep.lwn HL.out).and Keep.slx).and ((Keep.blk (by omega)).and (Keep.slx.and Keep.slx))
    have HA3 : Hid (∀ W', M3 W' → HrM w nb An nn cn ns Ad nd cd ds As cs s x7 co Ag mg cg ls Ap np cp pr W') := fun W' h => by rw [hM3] at h; exact h
    have HMS : Hid (M3 WS) := by unfold Hid; rw [hM3]; exact ⟨HAM.out _ (HMD.out _ hX.b), hX.b7, SlX.of_own hX.hl hgW, SlX.of_own hX.hp hgW⟩
    have HZ : Hid (∀ W', M3 W' → HzMem W' An Ad As Ag Ap nn cn nd cd nd cs mg cg np cp ns ds s ls pr) := fun W' h => ⟨(HA3.out _ h).1.1.hn.1, (HA3.out _ h).1.1.hd.1, (HA3.out _ h).1.2.1, (HA3.out _ h).2.2.1.1, (HA3.out _ h).2.2.2.1, (HA3.out _ h).1.1.la, HNM.out.1, HNM.out.2⟩
    have HSE : Hid (stateErr ns ds s = 0) := stateErr_zero HCK.out (by rw [HLS.out, HND.out]) hpos.out
    have HOK := Lib.hid (NetOk.of HCK.out)
    have HEN : Hid (EndsOk nn ds) := by have := HOK.out.e; rw [HNN.out] at this; exact this
    have HAN : Hid (AOk nn ds) := by have := HOK.out.a; rw [HNN.out] at this; exact this
    have HE1 : Hid (∀ (i : Nat) (p : Int), i < nd → (p = 1 ∨ p = 2) → inErr ns ds s i p co = 0) := fun i p hi hp => by unfold inErr; rw [if_pos HSE.out]; exact hzErr_zero (by omega) (by rw [HND.out]; omega) hp hco.1 hco.2
    clear hM3 HMD HAM HKM HMW HDW hX M
    go_wp2_with fail
    go_loopg [44] nd (HrR M3 nd)
    case atStart => exact ⟨0, rfl, Nat.zero_le _, rfl, HMS.out⟩
    case round =>
      clear HMS
      obtain ⟨i, rfl, hi, rfl, hMr⟩ := hrel
      by_cases hlt : i < nd
      · have hcs := HA3.out _ hMr.out
        obtain ⟨bs, of2, sd, rfl, hbs, hsd, hcsd⟩ := hcs.1.2.1.at1 (k := i) hlt
        have hsd12 : sd = 1 ∨ sd = 2 := by have := hpos.out sd (List.mem_of_getElem? hsd); simp [posB] at this; exact this
        have HSD := Lib.hid hsd
        obtain ⟨p, hp⟩ : ∃ p : Int, p = 3 - sd := ⟨_, rfl⟩
        have HP := Lib.hid hp
        have hp12 : p = 1 ∨ p = 2 := by omega
        clear hcs hsd hp
        go_upto_region 11 with (fail)
        rw [← HP.out]
        have HBE : Hid (Below wr.heap.size wr (wr.alloc (.cells #[.int .i64 i, .int .i64 p] 48))) := (Below.refl _ _).alloc (Nat.le_refl _) _
        have HME := Lib.hid (HK3.out.later hMr.out HBE.out)
        have HVE := Lib.hid (Blk.new wr 48 #[.int .i64 i, .int .i64 p])
        clear hMr HBE
        generalize World.alloc wr _ = WE at *
        obtain ⟨ob, hob⟩ : ∃ x, x = wr.heap.size := ⟨_, rfl⟩
        rw [← hob] at HVE ⊢
        clear hob
        have hcs := HA3.out _ HME.out
        have k0 : WE.cell? ⟨nb, 0, none⟩ = some (.slice An nn cn) := hcs.1.1.bx.cell 0
        have k1 : WE.cell? ⟨nb, 1, none⟩ = some (.slice Ad nd cd) := hcs.1.1.bx.cell 1
        have o0 : WE.cell? ⟨ob, 0, none⟩ = some (.int .i64 i) := HVE.out.cell 0
        have o1 : WE.cell? ⟨ob, 1, none⟩ = some (.int .i64 p) := HVE.out.cell 1
        have g0 : WE.cell? ⟨x7, 0, none⟩ = some (.int .i64 co) := hcs.2.1.cell 0
        have g1 : WE.cell? ⟨x7, 1, none⟩ = some (.slice Ag mg cg) := hcs.2.1.cell 1
        have g2 : WE.cell? ⟨x7, 2, none⟩ = some (.slice Ap np cp) := hcs.2.1.cell 2
        clear hcs
        go_wp2_with fail
        clear k0 k1 o0 o1 g0 g1 g2
        refine (In_any An Ad (some ⟨bs, of2, none⟩) Ag Ap nn cn nd cd nd cs mg cg np cp ns ds s ls pr i p co WE (HZ.out _ HME.out)).mono ?_
        rintro e w10 ⟨⟨h1, _⟩ | ⟨_, AX, kX, cX, x, hx, rfl, hOX⟩, hbX⟩
        · exact absurd (HE1.out i p hlt hp12) h1
        simp only [Int.toNat_natCast, HNN.out] at hx hOX
        have HXL : Hid ((hzAt nn ns ds s i p co ls pr x).length = kX) := hOX.out.len
        have HXX := Lib.hid hx
        have HM10 := Lib.hid (HK3.out.later HME.out hbX.out)
        have HV10 := Lib.hid (HVE.out.below hbX.out HVE.out.lt)
        clear hx hbX hOX HME HVE
        by_cases hk : kX = 0
        rotate_left
        · have hk0 : 0 < (kX : Int) := by omega
          go_wp2_with fail
          go_roundg (nd - (i + 1))
          case rel => exact ⟨i + 1, by go_num, by omega, rfl, HM10.out⟩
          case measure => omega
        subst hk
        have HCF := Lib.hid (calm_flags (List.eq_nil_of_length_eq_zero HXL.out) (by rw [List.getD_eq_getElem?_getD, HSD.out]; have h1 := HP.out; simp only [Option.getD_some]; omega))
        have HSL : Hid (i < s.length) := by unfold Hid; rw [HLS.out]; exact hlt
        have HSE2 : Hid (stateErr ns ds (s.set i p) = 0) := by unfold Hid; rw [← withL_is HSL.out]; exact stateErr_with HSE.out i hp12
        clear HXL
        have HSR : Hid (Sl w10 w10.heap.size 1 (some ⟨bs, of2, none⟩) nd cs (intsV s)) := (HA3.out _ HM10.out).1.2.1
        have hcsl := HSR.out.le
        go_upto_region 16 with (at_builtin; go_must (refine wpList_app rfl _ (.tmp 67) rfl el_int (by rfl) (World.ownsRow_nil _ w10.heap.size _ _) (by rfl) HSR.out (ints_one _) (by omega) (by omega) (by omega) ?_; intro At ct w11 hown7 hgr7 hat7; simp only [Nat.zero_add, List.nil_append] at hown7 hgr7 ⊢; have HO7 := Lib.hid hown7; have HG7 := Lib.hid hgr7; clear hown7 hgr7 hat7))
        have HB11 : Hid (Below w10.heap.size w10 w11) := ⟨HG7.out.os, HG7.out.tape, HG7.out.output, HG7.out.size, fun q hq => HG7.out.block q hq (fun e => by cases e)⟩
        have HO11 : Hid (IntsO w11 w10.heap.size At nd ct s) := HO7.out
        clear HO7 HG7 HSR
        obtain ⟨tg, y, rfl, htg, htl, hy, hcy, hfy, hst⟩ := HO11.out.at hlt
        have HO12 := Lib.hid (hst p)
        have HB12 := Lib.hid (HB11.out.setCell (p := ⟨tg, i, none⟩) (by simp; omega) (.int .i64 p))
        have o1 : w11.cell? ⟨ob, 1, none⟩ = some (.int .i64 p) := (HV10.out.below HB11.out HV10.out.lt).cell 1
        clear hst hy HO11 HB11
        go_upto_region 17 with (fail)
        clear hcy hfy o1
        generalize World.setCell w11 _ _ = w12 at *
        have HM12 := Lib.hid (HK3.out.later HM10.out HB12.out)
        have HV12 := Lib.hid (HV10.out.below HB12.out HV10.out.lt)
        clear HM10 HV10 HB12 htg htl
        obtain ⟨Br, hBr⟩ : ∃ y, y = w10.heap.size := ⟨_, rfl⟩
        rw [← hBr] at HO12
        clear hBr
        have k0 : w12.cell? ⟨nb, 0, none⟩ = some (.slice An nn cn) := (HA3.out _ HM12.out).1.1.bx.cell 0
        have k1 : w12.cell? ⟨nb, 1, none⟩ = some (.slice Ad nd cd) := (HA3.out _ HM12.out).1.1.bx.cell 1
        go_wp2_with fail
        clear k0 k1
        refine (rfaults_any An Ad (some ⟨bs, of2, none⟩) nn cn nd cd nd cs ns ds s w12 (HA3.out _ HM12.out).1.1.hn.1 (HA3.out _ HM12.out).1.1.hd.1 (HA3.out _ HM12.out).1.2.1 HNM.out.1 HNM.out.2 (by omega) HSE.out ⟨Nat.le_refl _, HEN.out, HOK.out.ne⟩ ⟨HAN.out, HOK.out.k⟩).mono ?_
        rintro e w13 ⟨AF, mF, cF, fl, rfl, hOF, hFL, hb13⟩
        have HM13 := Lib.hid (HK3.out.later HM12.out hb13.out)
        have HV13 := Lib.hid (HV12.out.below hb13.out HV12.out.lt)
        have HO13 := Lib.hid (HO12.out.later hb13.out)
        have HSF := Lib.hid hOF.out.sl
        clear hOF hb13 HM12 HV12 HO12
        have k0 : w13.cell? ⟨nb, 0, none⟩ = some (.slice An nn cn) := (HA3.out _ HM13.out).1.1.bx.cell 0
        have k1 : w13.cell? ⟨nb, 1, none⟩ = some (.slice Ad nd cd) := (HA3.out _ HM13.out).1.1.bx.cell 1
        go_wp2_with fail
        clear k0 k1
        refine (rfaults_any An Ad (some ⟨tg, 0, none⟩) nn cn nd cd nd ct ns ds (s.set i p) w13 (HA3.out _ HM13.out).1.1.hn.1 (HA3.out _ HM13.out).1.1.hd.1 HO13.out.sl HNM.out.1 HNM.out.2 (by omega) HSE2.out ⟨Nat.le_refl _, HEN.out, HOK.out.ne⟩ ⟨HAN.out, HOK.out.k⟩).mono ?_
        rintro e w14 ⟨AG, mG, cG, fl2, rfl, hOG, hFG, hb14⟩
        have HM14 := Lib.hid (HK3.out.later HM13.out hb14.out)
        have HV14 := Lib.hid (HV13.out.below hb14.out HV13.out.lt)
        have HO14 := Lib.hid (HO13.out.later hb14.out)
        have HSF14 := Lib.hid ((HSF.out.below hb14.out (Nat.le_refl _)).more hb14.out.size)
        have HSG := Lib.hid hOG.out.sl
        have hGl : Hid (fl2.length = mG) := hOG.out.len
        have HSUB := Lib.hid (calm_sub ⟨HEN.out, HAN.out⟩ HXX.out HSD.out hsd12 HP.out HCF.out.1 hFL.out hFG.out)
        clear hOG hb14 HM13 HV13 HO13 HSF hFL hFG
        have k0 : w14.cell? ⟨nb, 0, none⟩ = some (.slice An nn cn) := (HA3.out _ HM14.out).1.1.bx.cell 0
        have k1 : w14.cell? ⟨nb, 1, none⟩ = some (.slice Ad nd cd) := (HA3.out _ HM14.out).1.1.bx.cell 1
        go_wp2_with fail
        clear k0 k1
        refine (rlost_any An Ad (some ⟨bs, of2, none⟩) (some ⟨tg, 0, none⟩) nn cn nd cd nd cs nd ct ns ds s (s.set i p) w14 (HA3.out _ HM14.out).1.1.hn.1 (HA3.out _ HM14.out).1.1.hd.1 (HA3.out _ HM14.out).1.2.1 HO14.out.sl HNM.out.1 HNM.out.2 (by omega) HSE.out HSE2.out (Nat.le_refl _) (Nat.le_refl _) ⟨HEN.out, HOK.out.ne⟩ ⟨HAN.out, HOK.out.k⟩).mono ?_
        rintro e w15 ⟨AL, mL, cL, lo, kL, rfl, hlol, hmL, hLO, hb15⟩
        obtain rfl : mL = 0 := by
          have h1 := calm_lost hLO.out (by rw [← withL_is HSL.out]; exact HCF.out.2.2.1)
          rw [← hlol.out, h1]; rfl
        have HM15 := Lib.hid (HK3.out.later HM14.out hb15.out)
        have HV15 := Lib.hid (HV14.out.below hb15.out HV14.out.lt)
        have HSF15 := Lib.hid ((HSF14.out.below hb15.out (Nat.le_refl _)).more hb15.out.size)
        have HSG15 := Lib.hid ((HSG.out.below hb15.out (Nat.le_refl _)).more hb15.out.size)
        clear hlol hmL hLO hb15 HM14 HV14 HO14 HSF14 HSG HSE2
        have hgl := HSG15.out.le
        go_wp2_with fail
        go_loopg [96] mG (HrE w15 mG)
        case atStart => exact ⟨0, rfl, Nat.zero_le _, rfl, rfl⟩
        case round =>
          obtain ⟨j, rfl, hj, rfl, rfl⟩ := hrel
          by_cases hjl : j < mG
          · obtain ⟨b, off, cv, rfl, hb, hcv, hc⟩ := HSG15.out.at1 hjl
            have HT : Hid (hasB fl cv = true) := HSUB.out cv (List.mem_of_getElem? hcv)
            clear hcv
            go_wp2_with fail
            clear hc
            refine (rhasb_any AF mF cF fl cv _ HSF15.out).mono ?_
            rintro e w16 ⟨rfl, rfl⟩
            rw [HT.out]
            go_wp2_with fail
            go_roundg (mG - (j + 1))
            case rel => exact ⟨j + 1, by go_num, by omega, rfl, rfl⟩
            case measure => omega
          · obtain rfl : j = mG := by omega
            have g1 : wr.cell? ⟨x7, 1, none⟩ = some (.slice Ag mg cg) := (HA3.out _ HM15.out).2.1.cell 1
            go_wp2_with fail
            clear g1
            have HLG : Hid (ls.length = mg) := (HA3.out _ HM15.out).2.2.1.1.len (fun _ => rfl) (by decide)
            have hml := (HA3.out _ HM15.out).2.2.1.1.le
            go_loopg [108] mg (HrR (fun W' => M3 W' ∧ Blk W' ob 48 #[.int .i64 i, .int .i64 p]) mg)
            case atStart => exact ⟨0, rfl, Nat.zero_le _, rfl, HM15.out, HV15.out⟩
            case round =>
              clear HM15 HV15 HSG15 HSF15 HSUB
              obtain ⟨j2, rfl, hj2, rfl, hMr⟩ := hrel
              by_cases hjl2 : j2 < mg
              · obtain ⟨b, off, d1, p1, q1, rfl, hb, hxl, c0, c1, c2⟩ := (HA3.out _ hMr.out.1).2.2.1.1.lock hjl2
                have hd1 : d1 ≠ (i : Int) := calm_lock HCF.out.2.2.2.1 hxl
                have qd : (d1 == (i : Int)) = false := by simpa using hd1
                have HBE : Hid (Below wr.heap.size wr (wr.alloc (.cells #[.int .i64 d1, .int .i64 p1, .int .i64 q1] 58))) := (Below.refl _ _).alloc (Nat.le_refl _) _
                have HNX : Hid (M3 (wr.alloc (.cells #[.int .i64 d1, .int .i64 p1, .int .i64 q1] 58)) ∧ Blk (wr.alloc (.cells #[.int .i64 d1, .int .i64 p1, .int .i64 q1] 58)) ob 48 #[.int .i64 i, .int .i64 p]) := ⟨HK3.out.later hMr.out.1 HBE.out, hMr.out.2.below HBE.out hMr.out.2.lt⟩
                clear hxl hMr HBE hd1
                go_wp2_with fail
                go_roundg (mg - (j2 + 1))
                case rel => exact ⟨j2 + 1, by go_num, by omega, rfl, HNX.out⟩
                case measure => omega
              · obtain rfl : j2 = mg := by omega
                have hcs := HA3.out _ hMr.out.1
                obtain ⟨b0, off, x', rfl, hb, hx', hc⟩ := hcs.1.1.hd.1.at (k := i) (fun _ => rfl) (by decide) hlt
                obtain rfl : x = x' := by have := HXX.out; rw [this] at hx'; exact Option.some.inj hx'
                obtain ⟨nm, kd, xa, xb, xc⟩ := x
                have c0 : wr.cell? ⟨b0, off + i * 5, none⟩ = some (.string nm) := hc 0 _ rfl
                have c1 : wr.cell? ⟨b0, off + i * 5 + 1, none⟩ = some (.int .i64 kd) := hc 1 _ rfl
                have c2 : wr.cell? ⟨b0, off + i * 5 + 2, none⟩ = some (.int .i64 xa) := hc 2 _ rfl
                have c3 : wr.cell? ⟨b0, off + i * 5 + 3, none⟩ = some (.int .i64 xb) := hc 3 _ rfl
                have c4 : wr.cell? ⟨b0, off + i * 5 + 4, none⟩ = some (.int .i64 xc) := hc 4 _ rfl
                have k1 : wr.cell? ⟨nb, 1, none⟩ = some (.slice (some ⟨b0, off, none⟩) nd cd) := hcs.1.1.bx.cell 1
                have HBE : Hid (Below wr.heap.size wr (wr.alloc (.cells #[.string nm, .int .i64 kd, .int .i64 xa, .int .i64 xb, .int .i64 xc] 43))) := (Below.refl _ _).alloc (Nat.le_refl _) _
                have HMD := Lib.hid (HK3.out.later hMr.out.1 HBE.out)
                have HVO := Lib.hid (hMr.out.2.below HBE.out hMr.out.2.lt)
                have HVD := Lib.hid (Blk.new wr 43 #[.string nm, .int .i64 kd, .int .i64 xa, .int .i64 xb, .int .i64 xc])
                clear hcs hc hx' hMr HBE
                go_upto_region 33 with (fail)
                clear c0 c1 c2 c3 c4 k1
                generalize World.alloc wr _ = WD at *
                obtain ⟨vb, hvb⟩ : ∃ x, x = wr.heap.size := ⟨_, rfl⟩
                rw [← hvb] at HVD ⊢
                clear hvb
                have hF := HCF.out
                obtain rfl : xc = co := hF.2.2.2.2.2
                have qc : (xc != xc) = false := by simp
                have q5 : (kd == 5) = false := by simpa using hF.2.1
                have HPV := Lib.hid hF.2.2.2.2.1
                have hcs := HA3.out _ HMD.out
                have v1 : WD.cell? ⟨vb, 1, none⟩ = some (.int .i64 kd) := HVD.out.cell 1
                have v2 : WD.cell? ⟨vb, 2, none⟩ = some (.int .i64 xa) := HVD.out.cell 2
                have v4 : WD.cell? ⟨vb, 4, none⟩ = some (.int .i64 xc) := HVD.out.cell 4
                have o1 : WD.cell? ⟨ob, 1, none⟩ = some (.int .i64 p) := HVO.out.cell 1
                have g0 : WD.cell? ⟨x7, 0, none⟩ = some (.int .i64 xc) := hcs.2.1.cell 0
                have g2 : WD.cell? ⟨x7, 2, none⟩ = some (.slice Ap np cp) := hcs.2.1.cell 2
                have HPR : Hid (Sl WD WD.heap.size 1 Ap np cp (intsV pr)) := hcs.2.2.2.1
                clear hcs hF
                by_cases hk4 : kd = 4
                · subst hk4
                  rcases hp12 with rfl | rfl
                  · go_wp2_with fail
                    go_roundg (nd - (i + 1))
                    case rel => exact ⟨i + 1, by go_num, by omega, rfl, HMD.out⟩
                    case measure => omega
                  · have HT : Hid (hasB pr xa = true) := HPV.out rfl rfl
                    go_wp2_with fail
                    refine (rhasb_any Ap np cp pr xa WD HPR.out).mono ?_
                    rintro e w30 ⟨rfl, rfl⟩
                    rw [HT.out]
                    go_wp2_with fail
                    go_roundg (nd - (i + 1))
                    case rel => exact ⟨i + 1, by go_num, by omega, rfl, HMD.out⟩
                    case measure => omega
                · have q4 : (kd == 4) = false := by simpa using hk4
                  go_wp2_with fail
                  go_roundg (nd - (i + 1))
                  case rel => exact ⟨i + 1, by go_num, by omega, rfl, HMD.out⟩
                  case measure => omega
      · obtain rfl : i = nd := by omega
        go_wp2_with fail
        refine (awake_any _ (HA3.out _ hMr.out).1.1.la).mono ?_
        rintro e w40 ⟨rfl, hbE⟩
        have HBE := Lib.hid ((HA3.out _ hMr.out).1.1.bl.trans (hbE.mono (HA3.out _ hMr.out).1.1.bl.size))
        go_wp2_with fail
        go_ret
        exact ⟨rfl, HBE.out⟩
end Go.Proofs.YtdpmfdcackoegaaGreatDoor
