import Derived.Test.YtbjndpjligpjaaaDoorZ25
import Derived.Test.YtbjndpjligpjaaaDoorZ05
import Derived.Test.YtbjndpjligpjaaaDoorZ07
import Derived.Deep.LoopGhost
import Derived.Test.YtbjndpjligpjaaaDoorZ23
import Derived.Test.YtbjndpjligpjaaaDoorZ24
/-
  The statements' maker of states.
-/
namespace Go.Proofs.YtbjndpjligpjaaaDoor
open Go.RowKit
/-- A slice that lies in no cell of block g. -/
def SlX (w : World) (g size : Nat) (A : Option Addr) (n c : Nat) (xs : List Value) : Prop := Sl w w.heap.size size A n c xs ∧ ∀ b off, A = some ⟨b, off, none⟩ → b ≠ g
section
variable {w w' : World} {g size n c base : Nat} {A : Option Addr} {xs : List Value}
theorem SlX.grown (h : SlX w g size A n c xs) (hg : w.grownBy w' (some g)) : SlX w' g size A n c xs := by
  obtain ⟨⟨h1, h2, h3, h4, h5⟩, h6⟩ := h
  refine ⟨⟨h1, h2, h3, h4, fun hn => ?_⟩, h6⟩
  obtain ⟨b, off, e, hb, hc⟩ := h5 hn
  refine ⟨b, off, e, Nat.lt_of_lt_of_le hb hg.size, fun j u hu => ?_⟩
  exact (World.cell?_of_block (hg.block b hb (fun e' => h6 b off e (by injection e')))).trans (hc j u hu)
theorem SlX.below (h : SlX w g size A n c xs) (hb : Below w.heap.size w w') : SlX w' g size A n c xs := ⟨(h.1.below hb (Nat.le_refl _)).more hb.size, h.2⟩
theorem SlX.alloc (h : SlX w g size A n c xs) (o : Obj) : SlX (w.alloc o) g size A n c xs := h.below ((Below.refl _ _).alloc (Nat.le_refl _) _)
theorem SlX.of_own {e : TypeId} (h : w.ownsRow base e size (.slice A n c) n xs) (hb : g < base) : SlX w g size A n c xs :=
  ⟨Sl.of_own h, fun b off e => by have := (h.lt b (by rw [e]; rfl)).1; omega⟩
end
def StatePost (w : World) (g nd : Nat) (e : Ending) (w' : World) : Prop :=
  ∃ (A : Option Addr) (c : Nat) (s : List Int), e = .returned (.slice A nd c) ∧ Hid (DeckAt w' g) ∧ Hid (w.grownBy w' (some g)) ∧ Hid (IntsO w' (w.heap.size + 1) A nd c s) ∧ Hid (∀ p ∈ s, posB p = true)
def MsRel (w W : World) (g nd gk : Nat) (ov iv : Value) (wr : World) : Prop :=
  ∃ (i c : Nat) (A : Option Addr) (s : List Int), ov = .slice A i c ∧ iv = .int .i64 i ∧ i ≤ nd ∧ gk = nd - i ∧ Hid (IntsO wr (w.heap.size + 1) A i c s) ∧ Hid (DeckAt wr g) ∧ Hid (W.grownBy wr (some g)) ∧ Hid (∀ p ∈ s, posB p = true)
set_option maxRecDepth 100000 in
set_option maxHeartbeats 4000000 in
theorem mkstate_any (g : Nat) (An Ad : Option Addr) (nn cn nd cd : Nat) (ds : List Dv) (w : World) (hd : DeckAt w g) (hx : SlX w g 5 Ad nd cd (ds.flatMap Dv.cells)) (hnd : nd ≤ 1000) :
    Calls Tryd.prog 9 #[.pointer (some ⟨g, 0, none⟩), .agg #[.slice An nn cn, .slice Ad nd cd]] w (StatePost w g nd) := by
  have hlt := hd.lt
  have HD0 := Lib.hid (hd.alloc (.cells #[.slice An nn cn, .slice Ad nd cd] 27))
  have HX0 := Lib.hid (hx.alloc (.cells #[.slice An nn cn, .slice Ad nd cd] 27))
  have HK0 := Lib.hid (Blk.new w 27 #[.slice An nn cn, .slice Ad nd cd])
  have HB0 : Hid (w.grownBy (w.alloc (.cells #[.slice An nn cn, .slice Ad nd cd] 27)) (some g)) := grown_of_below ((Below.refl _ _).alloc (Nat.le_refl _) _) _
  have HW : Hid ((w.alloc (.cells #[.slice An nn cn, .slice Ad nd cd] 27)).heap.size = w.heap.size + 1) := by unfold Hid; simp
  clear hd hx
  go_enter Tryd.func9, Tryd.ntmps9
  go_wp2_with fail
  generalize World.alloc _ _ = W at *
  go_loopg [5, 6] nd (MsRel w W g nd)
  case atStart => exact ⟨0, 0, none, [], rfl, rfl, Nat.zero_le _, rfl, World.ownsRow_nil _ _ _ _, HD0, grown_refl _ _, fun p hp => by simp at hp⟩
  case round =>
    obtain ⟨i, c, A, s, rfl, rfl, hi, rfl, hO, hD, hG, hP⟩ := hrel
    have HKr := Lib.hid (HK0.out.grown hG.out (fun e => by injection e with e; omega))
    have HXr := Lib.hid (HX0.out.grown hG.out)
    have k1 : wr.cell? ⟨w.heap.size, 1, none⟩ = some (.slice Ad nd cd) := HKr.out.cell 1
    by_cases hlt2 : i < nd
    · obtain ⟨b, off, x, rfl, hb, hx, hc⟩ := HXr.out.1.at (fun _ => rfl) (by decide) hlt2
      have hbg := HXr.out.2 b off rfl
      obtain ⟨nm, kd, xa, xb, co⟩ := x
      have c1 : wr.cell? ⟨b, off + i * 5 + 1, none⟩ = some (.int .i64 kd) := hc 1 _ rfl
      have HC1 := Lib.hid c1
      clear hc hx
      go_upto_region 6 with (fail)
      clear k1 c1
      have HCE : Hid (wr.cell? ⟨w.heap.size, 1, none⟩ = some (.slice (some ⟨b, off, none⟩) nd cd) ∧ wr.cell? ⟨b, off + i * 5 + 1, none⟩ = some (.int .i64 kd)) := ⟨HKr.out.cell 1, HC1.out⟩
      have hbl : w.heap.size < wr.heap.size := HKr.out.lt
      refine wp_region_J (S := fun W' => W'.cell? ⟨w.heap.size, 1, none⟩ = some (.slice (some ⟨b, off, none⟩) nd cd) ∧ W'.cell? ⟨b, off + i * 5 + 1, none⟩ = some (.int .i64 kd)) (J := []) (by kernel_rfl) ?_ (fun hHeld => ?_)
      · exact HCE.out
      try dsimp only at hHeld
      refine wpAnyJ_take (i := 0) (d := some 15) (v := ?_) rfl rfl (by kernel_rfl) (by kernel_rfl) (by kernel_rfl) (by kernel_rfl) (by kernel_rfl) (fun _ _ _ h => h) (Or.inl ⟨by rfl, ?_⟩) hHeld ?_
      rotate_left
      · (intro w hSw; (try dsimp only at hSw);  go_simp; try with_reducible rfl)
      try simp only [Act.put, List.setIfInBounds_toArray, List.set_cons_zero, List.set_cons_succ]
      refine wpAnyJ_take (i := 1) (d := some 16) (v := ?_) rfl rfl (by kernel_rfl) (by kernel_rfl) (by kernel_rfl) (by kernel_rfl) (by kernel_rfl) (fun _ _ _ h => h) (Or.inl ⟨by rfl, ?_⟩) hHeld ?_
      rotate_left
      · (intro w hSw; (try dsimp only at hSw);  go_simp; try with_reducible rfl)
      try simp only [Act.put, List.setIfInBounds_toArray, List.set_cons_zero, List.set_cons_succ]
      refine wpAnyJ_take (i := 2) (d := some 17) (v := ?_) rfl rfl (by kernel_rfl) (by kernel_rfl) (by kernel_rfl) (by kernel_rfl) (by kernel_rfl) (fun _ _ _ h => h) (Or.inl ⟨by rfl, ?_⟩) hHeld ?_
      rotate_left
      · (intro w hSw; (try dsimp only at hSw);  go_simp; try with_reducible rfl)
      try simp only [Act.put, List.setIfInBounds_toArray, List.set_cons_zero, List.set_cons_succ]
      refine wpAnyJ_take (i := 3) (d := some 18) (v := ?_) rfl rfl (by kernel_rfl) (by kernel_rfl) (by kernel_rfl) (by kernel_rfl) (by kernel_rfl) (fun _ _ _ h => h) (Or.inl ⟨by rfl, ?_⟩) hHeld ?_
      rotate_left
      · (intro w hSw; (try dsimp only at hSw);  go_simp; try with_reducible rfl)
      try simp only [Act.put, List.setIfInBounds_toArray, List.set_cons_zero, List.set_cons_succ]
      refine wpAnyJ_take (i := 4) (d := some 19) (v := ?_) rfl rfl (by kernel_rfl) (by kernel_rfl) (by kernel_rfl) (by kernel_rfl) (by kernel_rfl) (fun _ _ _ h => h) (Or.inl ⟨by rfl, ?_⟩) hHeld ?_
      rotate_left
      · (intro w hSw; (try dsimp only at hSw);  go_simp; try with_reducible rfl)
      try simp only [Act.put, List.setIfInBounds_toArray, List.set_cons_zero, List.set_cons_succ]
      refine wpAnyJ_take (i := 5) (d := some 20) (v := ?_) rfl rfl (by kernel_rfl) (by kernel_rfl) (by kernel_rfl) (by kernel_rfl) (by kernel_rfl) (fun _ _ _ h => h) (Or.inl ⟨by rfl, ?_⟩) hHeld ?_
      rotate_left
      · (intro w hSw; (try dsimp only at hSw);  go_simp; try with_reducible rfl)
      try simp only [Act.put, List.setIfInBounds_toArray, List.set_cons_zero, List.set_cons_succ]
      refine wpAnyJ_take (i := 6) (d := some 21) (v := ?_) rfl rfl (by kernel_rfl) (by kernel_rfl) (by kernel_rfl) (by kernel_rfl) (by kernel_rfl) (fun _ _ _ h => h) (Or.inl ⟨by rfl, ?_⟩) hHeld ?_
      rotate_left
      · (intro w hSw; (try dsimp only at hSw);  go_simp; try with_reducible rfl)
      try simp only [Act.put, List.setIfInBounds_toArray, List.set_cons_zero, List.set_cons_succ]
      refine wpAnyJ_take (i := 7) (d := some 22) (v := ?_) rfl rfl (by kernel_rfl) (by kernel_rfl) (by kernel_rfl) (by kernel_rfl) (by kernel_rfl) (fun _ _ _ h => h) (Or.inl ⟨by rfl, ?_⟩) hHeld ?_
      rotate_left
      · (intro w hSw; (try dsimp only at hSw);  go_simp; try with_reducible rfl)
      try simp only [Act.put, List.setIfInBounds_toArray, List.set_cons_zero, List.set_cons_succ]
      refine wpAnyJ_one (k := 8) (by kernel_rfl) rfl (fun K hK => ?_)
      (go_simp; refine (one_any g 4 wr.drew hD.out.drew (by decide)).mono ?_; rintro e w1 ⟨r, rfl, hd1, hg1, hs1⟩; have HG1 := Lib.hid (grown_undrew hg1.out); go_simp)
      refine hK.out _ _ (fun _ => ?_) (fun hHeld' => ?_)
      · exact ⟨(World.cell?_of_block (HG1.out.block w.heap.size hbl (fun e => by injection e with e; omega))).trans HCE.out.1, (World.cell?_of_block (HG1.out.block b hb (fun e => hbg (by injection e)))).trans HCE.out.2⟩
      replace hHeld := hHeld' rfl
      clear hHeld' hK K
      try dsimp only at hHeld
      try simp only [Act.put, List.setIfInBounds_toArray, List.set_cons_zero, List.set_cons_succ]
      refine wpAnyJ_take (i := 9) (d := some 24) (v := ?_) rfl rfl (by kernel_rfl) (by kernel_rfl) (by kernel_rfl) (by kernel_rfl) (by kernel_rfl) (fun _ _ _ h => h) (Or.inl ⟨by rfl, ?_⟩) hHeld ?_
      rotate_left
      · (intro w hSw; (try dsimp only at hSw);  go_simp; try with_reducible rfl)
      try simp only [Act.put, List.setIfInBounds_toArray, List.set_cons_zero, List.set_cons_succ]
      refine wpAnyJ_done (by kernel_rfl) ?_ _
      clear hHeld
      have HO1 := Lib.hid (hO.out.kept HG1.out (ne_row fun q e => by have := (hO.out.lt q e).1; omega))
      have hz1 := hs1.out
      have HGW := Lib.hid (grown_trans hG.out HG1.out)
      have hz2 := HGW.out.size
      rw [HW.out] at hz2
      clear hg1 hs1 hz1 HCE HC1 HKr HXr HG1 hO hD hG
      obtain ⟨bb, hbb⟩ : ∃ bb, bb = (!((kd == 4) == r)) := ⟨_, rfl⟩
      rw [← hbb]
      clear hbb
      rcases bb with _ | _
      · go_wp2_with (at_builtin; go_must (refine wpList_app rfl (.tmp 25) (.tmp 27) rfl el_int (by rfl) (HO1.out.alloc _) (by rfl) (Sl.newest (n := 1) (by simp) (by rfl) (by decide)) (by simp [Value.oneCell']) (by omega) (by omega) (by simp; omega) ?_; intro A' cap' w3 hown3 hgr3 hat3; have HO3 := Lib.hid hown3; have HG3 := Lib.hid hgr3; clear hown3 hgr3 hat3))
        go_roundg (nd - (i + 1))
        case rel =>
          have hg3 := HG3.out
          have hr1 : ∀ k, (Value.slice A i c).ownBlock = some k → w.heap.size + 1 ≤ k := fun k e => (HO1.out.lt k e).1
          refine ⟨i + 1, cap', A', s ++ [2], rfl, by go_num, by omega, rfl, ?_, ?_, ?_, ?_⟩
          · have := HO3.out
            unfold Hid IntsO
            rw [intsV_append]
            exact this
          · exact (hd1.out.alloc _).grown hg3 (fun k e => by have := hr1 k e; omega)
          · exact grown_new (grown_trans HGW.out (grown_of_below ((Below.refl _ _).alloc (Nat.le_refl _) _) _)) hg3 (fun k e => by have := hr1 k e; have := HW.out; omega)
          · intro p hp
            rcases List.mem_append.1 hp with h | h
            · exact hP.out p h
            · rw [List.mem_singleton.1 h]; decide
        case measure => omega
      · go_wp2_with (at_builtin; go_must (refine wpList_app rfl (.tmp 25) (.tmp 27) rfl el_int (by rfl) (HO1.out.alloc _) (by rfl) (Sl.newest (n := 1) (by simp) (by rfl) (by decide)) (by simp [Value.oneCell']) (by omega) (by omega) (by simp; omega) ?_; intro A' cap' w3 hown3 hgr3 hat3; have HO3 := Lib.hid hown3; have HG3 := Lib.hid hgr3; clear hown3 hgr3 hat3))
        go_roundg (nd - (i + 1))
        case rel =>
          have hg3 := HG3.out
          have hr1 : ∀ k, (Value.slice A i c).ownBlock = some k → w.heap.size + 1 ≤ k := fun k e => (HO1.out.lt k e).1
          refine ⟨i + 1, cap', A', s ++ [1], rfl, by go_num, by omega, rfl, ?_, ?_, ?_, ?_⟩
          · have := HO3.out
            unfold Hid IntsO
            rw [intsV_append]
            exact this
          · exact (hd1.out.alloc _).grown hg3 (fun k e => by have := hr1 k e; omega)
          · exact grown_new (grown_trans HGW.out (grown_of_below ((Below.refl _ _).alloc (Nat.le_refl _) _) _)) hg3 (fun k e => by have := hr1 k e; have := HW.out; omega)
          · intro p hp
            rcases List.mem_append.1 hp with h | h
            · exact hP.out p h
            · rw [List.mem_singleton.1 h]; decide
        case measure => omega
    · obtain rfl : i = nd := by omega
      have hii : decide (i < i) = false := by simp
      go_wp2_with fail
      go_ret
      exact ⟨A, c, s, rfl, hD, grown_trans HB0.out hG.out, hO, hP⟩
end Go.Proofs.YtbjndpjligpjaaaDoor
/-
  The memory of a law that has made a network: the deck, the network's box and rows.
-/
namespace Go.Proofs.YtbjndpjligpjaaaDoor
open Go.RowKit
/-- w: the world at the law's start, in which the deck is the next block; nb: the network's box. -/
structure LwN (w : World) (nb : Nat) (An : Option Addr) (nn cn : Nat) (ns : List Nd) (Ad : Option Addr) (nd cd : Nat) (ds : List Dv) (wr : World) : Prop where
  dk : DeckAt wr w.heap.size
  bx : Blk wr nb 27 #[.slice An nn cn, .slice Ad nd cd]
  hn : SlX wr w.heap.size 3 An nn cn (ns.flatMap Nd.cells)
  hd : SlX wr w.heap.size 5 Ad nd cd (ds.flatMap Dv.cells)
  bl : Below w.heap.size w wr
  ge : w.heap.size < nb
  la : Laid wr
section
variable {w wr wr' : World} {nb nn cn nd cd : Nat} {An Ad : Option Addr} {ns : List Nd} {ds : List Dv}
theorem LwN.grown (h : LwN w nb An nn cn ns Ad nd cd ds wr) (hl : Laid w) (hg : wr.grownBy wr' (some w.heap.size)) (hd : DeckAt wr' w.heap.size) : LwN w nb An nn cn ns Ad nd cd ds wr' :=
  ⟨hd, h.bx.grown hg (fun e => by have := h.ge; injection e; omega), h.hn.grown hg, h.hd.grown hg, h.bl.trans (below_of_grown hg (Nat.le_refl _) h.bl.size), h.ge, h.la.grown hl hg (Nat.le_refl _)⟩
theorem LwN.later (h : LwN w nb An nn cn ns Ad nd cd ds wr) (hb : Below wr.heap.size wr wr') : LwN w nb An nn cn ns Ad nd cd ds wr' :=
  ⟨h.dk.grown (grown_of_below hb none) (fun k e => by cases e), h.bx.below hb h.bx.lt, h.hn.below hb, h.hd.below hb, h.bl.trans (hb.mono h.bl.size), h.ge, h.la.below hb (Nat.le_refl _)⟩
theorem LwN.mk0 {w1 w2 : World} {nodes dmax : Int} (hl : Laid w) (hb1 : Below w.heap.size w w1) (hs1 : w1.heap.size = w.heap.size + 1) (hd2 : DeckAt w2 w.heap.size) (hg2 : w1.grownBy w2 (some w.heap.size))
    (hrn : w2.ownsRow (w1.heap.size + 4) 55 3 (.slice An nn cn) nn (ns.flatMap Nd.cells)) (hrd : w2.ownsRow (w1.heap.size + 4) 57 5 (.slice Ad nd cd) nd (ds.flatMap Dv.cells)) (_hm : MadeNet nodes dmax ns ds) :
    LwN w w2.heap.size An nn cn ns Ad nd cd ds (w2.alloc (.cells #[.slice An nn cn, .slice Ad nd cd] 27)) ∧ ns.length = nn ∧ ds.length = nd := by
  have hb2 : Below w.heap.size w w2 := hb1.trans (below_of_grown hg2 (Nat.le_refl _) (by omega))
  refine ⟨⟨hd2.alloc _, Blk.new _ _ _, (SlX.of_own hrn (by omega)).alloc _, (SlX.of_own hrd (by omega)).alloc _, hb2.alloc hb2.size _, ?_, (hl.below hb2 (Nat.le_refl _)).alloc _⟩, (Sl.of_own hrn).len (fun _ => rfl) (by decide), (Sl.of_own hrd).len (fun _ => rfl) (by decide)⟩
  have := hg2.size; omega
end
end Go.Proofs.YtbjndpjligpjaaaDoor
