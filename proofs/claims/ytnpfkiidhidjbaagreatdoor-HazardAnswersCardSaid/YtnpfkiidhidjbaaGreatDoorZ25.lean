import Derived.Test.YtnpfkiidhidjbaaGreatDoorZ24
import Derived.Test.YtnpfkiidhidjbaaGreatDoorZ03
import Derived.Test.YtnpfkiidhidjbaaGreatDoorZ04
import Derived.Deep.LoopGhost
import Derived.Test.YtnpfkiidhidjbaaGreatDoorZ22
import Derived.Test.YtnpfkiidhidjbaaGreatDoorZ13
import Derived.Test.YtnpfkiidhidjbaaGreatDoorZ10
import Derived.Test.YtnpfkiidhidjbaaGreatDoorZ14
/-
 The statements' maker of states.
-/
namespace Go.Proofs.YtnpfkiidhidjbaaGreatDoor
open Go.RowKit
/-- A slice that lies in no cell of block g. -/
def SlX (w : World) (g size : Nat) (A : Option Addr) (n c : Nat) (xs : List Value) : Prop := Sl w w.heap.size size A n c xs ∧ ∀ b off, A = some ⟨b, off, none⟩ → b ≠ g
section
variable {w w' : World} {g size n c base : Nat} {A : Option Addr} {xs : List Value}
theorem SlX.grown (h : SlX w g size A n c xs) (hg : w.grownBy w' (some g)) : SlX w' g size A n c xs := by
 obtain ⟨⟨h1, h2, h3, h4, h5⟩, h6⟩ := h
 refine ⟨⟨h1, h2, h3, h4, fun hn => ?_⟩, h6⟩
 obtain ⟨b, off, e, hb, hc⟩ := h5 hn
 refine ⟨b, off, e, Nat.lt_of_lt_of_le hb hg.size, fun j u hu => ?_⟩
 exact (World.cell?_of_block (hg.block b hb (fun e' => h6 b off e (by injection e')))).trans (hc j u hu)
theorem SlX.below (h : SlX w g size A n c xs) (hb : Below w.heap.size w w') : SlX w' g size A n c xs := ⟨(h.1.below hb (Nat.le_refl _)).more hb.size, h.2⟩
theorem SlX.alloc (h : SlX w g size A n c xs) (o : Obj) : SlX (w.alloc o) g size A n c xs := h.below ((Below.refl _ _).alloc (Nat.le_refl _) _)
theorem SlX.of_own {e : TypeId} (h : w.ownsRow base e size (.slice A n c) n xs) (hb : g < base) : SlX w g size A n c xs :=
 ⟨Sl.of_own h, fun b off e => by have := (h.lt b (by rw [e]; rfl)).1; omega⟩
end
def StatePost (w : World) (g nd : Nat) (e : Ending) (w' : World) : Prop :=
 ∃ (A : Option Addr) (c : Nat) (s : List Int), e = .returned (.slice A nd c) ∧ Hid (DeckAt w' g) ∧ Hid (w.grownBy w' (some g)) ∧ Hid (IntsO w' (w.heap.size + 1) A nd c s) ∧ Hid (∀ p ∈ s, posB p = true)
def MsRel (w W : World) (g nd gk : Nat) (ov iv : Value) (wr : World) : Prop :=
 ∃ (i c : Nat) (A : Option Addr) (s : List Int), ov = .slice A i c ∧ iv = .int .i64 i ∧ i ≤ nd ∧ gk = nd - i ∧ Hid (IntsO wr (w.heap.size + 1) A i c s) ∧ Hid (DeckAt wr g) ∧ Hid (W.grownBy wr (some g)) ∧ Hid (∀ p ∈ s, posB p = true)
set_option maxRecDepth 100000 in
set_option maxHeartbeats 4000000 in
theorem mkstate_any (g : Nat) (An Ad : Option Addr) (nn cn nd cd : Nat) (ds : List Dv) (w : World) (hd : DeckAt w g) (hx : SlX w g 5 Ad nd cd (ds.flatMap Dv.cells)) (hnd : nd ≤ 1000) :
  Calls Tryz.prog 13 #[.pointer (some ⟨g, 0, none⟩), .agg #[.slice An nn cn, .slice Ad nd cd]] w (StatePost w g nd) := by
 have hlt := hd.lt
 have HD0 := Lib.hid (hd.alloc (.cells #[.slice An nn cn, .slice Ad nd cd] 26))
 have HX0 := Lib.hid (hx.alloc (.cells #[.slice An nn cn, .slice Ad nd cd] 26))
 have HK0 := Lib.hid (Blk.new w 26 #[.slice An nn cn, .slice Ad nd cd])
 have HB0 : Hid (w.grownBy (w.alloc (.cells #[.slice An nn cn, .slice Ad nd cd] 26)) (some g)) := grown_of_below ((Below.refl _ _).alloc (Nat.le_refl _) _) _
 have HW : Hid ((w.alloc (.cells #[.slice An nn cn, .slice Ad nd cd] 26)).heap.size = w.heap.size + 1) := by unfold Hid; simp
 clear hd hx
 go_enter Tryz.func13, Tryz.ntmps13
 go_wp2_with fail
 generalize World.alloc _ _ = W at *
 go_loopg [5, 6] nd (MsRel w W g nd)
 case atStart => exact ⟨0, 0, none, [], rfl, rfl, Nat.zero_le _, rfl, World.ownsRow_nil _ _ _ _, HD0, grown_refl _ _, fun p hp => by simp at hp⟩
 case round =>
  obtain ⟨i, c, A, s, rfl, rfl, hi, rfl, hO, hD, hG, hP⟩ := hrel
  have HKr := Lib.hid (HK0.out.grown hG.out (fun e => by injection e with e; omega))
  have HXr := Lib.hid (HX0.out.grown hG.out)
  have k1 : wr.cell? ⟨w.heap.size, 1, none⟩ = some (.slice Ad nd cd) := HKr.out.cell 1
  by_cases hlt2 : i < nd
  ·obtain ⟨b, off, x, rfl, hb, hx, hc⟩ := HXr.out.1.at (fun _ => rfl) (by decide) hlt2
   have hbg := HXr.out.2 b off rfl
   obtain ⟨nm, kd, xa, xb, co⟩ := x
   have c1 : wr.cell? ⟨b, off + i * 5 + 1, none⟩ = some (.int .i64 kd) := hc 1 _ rfl
   have HC1 := Lib.hid c1
   clear hc hx
   go_upto_region 6 with (fail)
   clear k1 c1
   have HCE : Hid (wr.cell? ⟨w.heap.size, 1, none⟩ = some (.slice (some ⟨b, off, none⟩) nd cd) ∧ wr.cell? ⟨b, off + i * 5 + 1, none⟩ = some (.int .i64 kd)) := ⟨HKr.out.cell 1, HC1.out⟩
   have hbl : w.heap.size < wr.heap.size := HKr.out.lt
   refine wp_region_J (S := fun W' => W'.cell? ⟨w.heap.size, 1, none⟩ = some (.slice (some ⟨b, off, none⟩) nd cd) ∧ W'.cell? ⟨b, off + i * 5 + 1, none⟩ = some (.int .i64 kd)) (J := []) (by kernel_rfl) ?_ (fun hHeld => ?_)
   ·exact HCE.out
   try dsimp only at hHeld
   refine wpAnyJ_take (i := 0) (d := some 15) (v := ?_) rfl rfl (by kernel_rfl) (by kernel_rfl) (by kernel_rfl) (by kernel_rfl) (by kernel_rfl) (fun _ _ _ h => h) (Or.inl ⟨by rfl, ?_⟩) hHeld ?_
   rotate_left
   ·(intro w hSw; (try dsimp only at hSw);  go_simp; try with_reducible rfl)
   try simp only [Act.put, sA, s0, s1]
   refine wpAnyJ_take (i := 1) (d := some 16) (v := ?_) rfl rfl (by kernel_rfl) (by kernel_rfl) (by kernel_rfl) (by kernel_rfl) (by kernel_rfl) (fun _ _ _ h => h) (Or.inl ⟨by rfl, ?_⟩) hHeld ?_
   rotate_left
   ·(intro w hSw; (try dsimp only at hSw);  go_simp; try with_reducible rfl)
   try simp only [Act.put, sA, s0, s1]
   refine wpAnyJ_take (i := 2) (d := some 17) (v := ?_) rfl rfl (by kernel_rfl) (by kernel_rfl) (by kernel_rfl) (by kernel_rfl) (by kernel_rfl) (fun _ _ _ h => h) (Or.inl ⟨by rfl, ?_⟩) hHeld ?_
   rotate_left
   ·(intro w hSw; (try dsimp only at hSw);  go_simp; try with_reducible rfl)
   try simp only [Act.put, sA, s0, s1]
   refine wpAnyJ_take (i := 3) (d := some 18) (v := ?_) rfl rfl (by kernel_rfl) (by kernel_rfl) (by kernel_rfl) (by kernel_rfl) (by kernel_rfl) (fun _ _ _ h => h) (Or.inl ⟨by rfl, ?_⟩) hHeld ?_
   rotate_left
   ·(intro w hSw; (try dsimp only at hSw);  go_simp; try with_reducible rfl)
   try simp only [Act.put, sA, s0, s1]
   refine wpAnyJ_take (i := 4) (d := some 19) (v := ?_) rfl rfl (by kernel_rfl) (by kernel_rfl) (by kernel_rfl) (by kernel_rfl) (by kernel_rfl) (fun _ _ _ h => h) (Or.inl ⟨by rfl, ?_⟩) hHeld ?_
   rotate_left
   ·(intro w hSw; (try dsimp only at hSw);  go_simp; try with_reducible rfl)
   try simp only [Act.put, sA, s0, s1]
   refine wpAnyJ_take (i := 5) (d := some 20) (v := ?_) rfl rfl (by kernel_rfl) (by kernel_rfl) (by kernel_rfl) (by kernel_rfl) (by kernel_rfl) (fun _ _ _ h => h) (Or.inl ⟨by rfl, ?_⟩) hHeld ?_
   rotate_left
   ·(intro w hSw; (try dsimp only at hSw);  go_simp; try with_reducible rfl)
   try simp only [Act.put, sA, s0, s1]
   refine wpAnyJ_take (i := 6) (d := some 21) (v := ?_) rfl rfl (by kernel_rfl) (by kernel_rfl) (by kernel_rfl) (by kernel_rfl) (by kernel_rfl) (fun _ _ _ h => h) (Or.inl ⟨by rfl, ?_⟩) hHeld ?_
   rotate_left
   ·(intro w hSw; (try dsimp only at hSw);  go_simp; try with_reducible rfl)
   try simp only [Act.put, sA, s0, s1]
   refine wpAnyJ_take (i := 7) (d := some 22) (v := ?_) rfl rfl (by kernel_rfl) (by kernel_rfl) (by kernel_rfl) (by kernel_rfl) (by kernel_rfl) (fun _ _ _ h => h) (Or.inl ⟨by rfl, ?_⟩) hHeld ?_
   rotate_left
   ·(intro w hSw; (try dsimp only at hSw);  go_simp; try with_reducible rfl)
   try simp only [Act.put, sA, s0, s1]
   refine wpAnyJ_one (k := 8) (by kernel_rfl) rfl (fun K hK => ?_)
   (go_simp; refine (one_any g 4 wr.drew hD.out.drew (by decide)).mono ?_; rintro e w1 ⟨r, rfl, hd1, hg1, hs1⟩; have HG1 := Lib.hid (grown_undrew hg1.out); go_simp)
   refine hK.out _ _ (fun _ => ?_) (fun hHeld' => ?_)
   ·exact ⟨(World.cell?_of_block (HG1.out.block w.heap.size hbl (fun e => by injection e with e; omega))).trans HCE.out.1, (World.cell?_of_block (HG1.out.block b hb (fun e => hbg (by injection e)))).trans HCE.out.2⟩
   replace hHeld := hHeld' rfl
   clear hHeld' hK K
   try dsimp only at hHeld
   try simp only [Act.put, sA, s0, s1]
   refine wpAnyJ_take (i := 9) (d := some 24) (v := ?_) rfl rfl (by kernel_rfl) (by kernel_rfl) (by kernel_rfl) (by kernel_rfl) (by kernel_rfl) (fun _ _ _ h => h) (Or.inl ⟨by rfl, ?_⟩) hHeld ?_
   rotate_left
   ·(intro w hSw; (try dsimp only at hSw);  go_simp; try with_reducible rfl)
   try simp only [Act.put, sA, s0, s1]
   refine wpAnyJ_done (by kernel_rfl) ?_ _
   clear hHeld
   have HO1 := Lib.hid (hO.out.kept HG1.out (ne_row fun q e => by have := (hO.out.lt q e).1; omega))
   have hz1 := hs1.out
   have HGW := Lib.hid (grown_trans hG.out HG1.out)
   have hz2 := HGW.out.size
   rw [HW.out] at hz2
   clear hg1 hs1 hz1 HCE HC1 HKr HXr HG1 hO hD hG
   obtain ⟨bb, hbb⟩ : ∃ bb, bb = (!((kd == 4) == r)) := ⟨_, rfl⟩
   rw [← hbb]
   clear hbb
   rcases bb with _ | _
   ·go_wp2_with (at_builtin; go_must (refine wpList_app rfl (.tmp 25) (.tmp 27) rfl el_int (by rfl) (HO1.out.alloc _) (by rfl) (Sl.newest (n := 1) (by simp) (by rfl) (by decide)) (by simp [Value.oneCell']) (by omega) (by omega) (by simp; omega) ?_; intro A' cap' w3 hown3 hgr3 hat3; have HO3 := Lib.hid hown3; have HG3 := Lib.hid hgr3; clear hown3 hgr3 hat3))
    go_roundg (nd - (i + 1))
    case rel =>
     have hg3 := HG3.out
     have hr1 : ∀ k, (Value.slice A i c).ownBlock = some k → w.heap.size + 1 ≤ k := fun k e => (HO1.out.lt k e).1
     refine ⟨i + 1, cap', A', s ++ [2], rfl, by go_num, by omega, rfl, ?_, ?_, ?_, ?_⟩
     ·have := HO3.out
      unfold Hid IntsO
      rw [intsV_append]
      exact this
     ·exact (hd1.out.alloc _).grown hg3 (fun k e => by have := hr1 k e; omega)
     ·exact grown_new (grown_trans HGW.out (grown_of_below ((Below.refl _ _).alloc (Nat.le_refl _) _) _)) hg3 (fun k e => by have := hr1 k e; have := HW.out; omega)
     ·intro p hp
      rcases List.mem_append.1 hp with h | h
      ·exact hP.out p h
      ·rw [List.mem_singleton.1 h]; decide
    case measure => omega
   ·go_wp2_with (at_builtin; go_must (refine wpList_app rfl (.tmp 25) (.tmp 27) rfl el_int (by rfl) (HO1.out.alloc _) (by rfl) (Sl.newest (n := 1) (by simp) (by rfl) (by decide)) (by simp [Value.oneCell']) (by omega) (by omega) (by simp; omega) ?_; intro A' cap' w3 hown3 hgr3 hat3; have HO3 := Lib.hid hown3; have HG3 := Lib.hid hgr3; clear hown3 hgr3 hat3))
    go_roundg (nd - (i + 1))
    case rel =>
     have hg3 := HG3.out
     have hr1 : ∀ k, (Value.slice A i c).ownBlock = some k → w.heap.size + 1 ≤ k := fun k e => (HO1.out.lt k e).1
     refine ⟨i + 1, cap', A', s ++ [1], rfl, by go_num, by omega, rfl, ?_, ?_, ?_, ?_⟩
     ·have := HO3.out
      unfold Hid IntsO
      rw [intsV_append]
      exact this
     ·exact (hd1.out.alloc _).grown hg3 (fun k e => by have := hr1 k e; omega)
     ·exact grown_new (grown_trans HGW.out (grown_of_below ((Below.refl _ _).alloc (Nat.le_refl _) _) _)) hg3 (fun k e => by have := hr1 k e; have := HW.out; omega)
     ·intro p hp
      rcases List.mem_append.1 hp with h | h
      ·exact hP.out p h
      ·rw [List.mem_singleton.1 h]; decide
    case measure => omega
  ·obtain rfl : i = nd := by omega
   have hii : decide (i < i) = false := by simp
   go_wp2_with fail
   go_ret
   exact ⟨A, c, s, rfl, hD, grown_trans HB0.out hG.out, hO, hP⟩
end Go.Proofs.YtnpfkiidhidjbaaGreatDoor
/-
 The reference of layer 11: walk of Supplied.
-/
namespace Go.Proofs.YtnpfkiidhidjbaaGreatDoor
open Go.RowKit
def SpIn (ns : List Nd) (C : List Int) (v : Nat) (out : List Int) : Prop := out.length ≤ v ∧ ∀ x : Int, x ∈ out ↔ ∃ (k : Nat) (y : Nd), k < v ∧ x = k ∧ C.getD k 0 = 1 ∧ ns[k]? = some y ∧ 0 < y.cust
theorem SpIn.start (ns : List Nd) (C : List Int) : SpIn ns C 0 [] := ⟨Nat.le_refl _, fun x => ⟨(fun h => by cases h), (fun ⟨k, _, hk, _⟩ => by omega)⟩⟩
theorem SpIn.pass {ns : List Nd} {C out : List Int} {v : Nat} {y : Nd} (h : SpIn ns C v out) (hy : ns[v]? = some y) (hn : ¬ (C.getD v 0 = 1 ∧ 0 < y.cust)) : SpIn ns C (v + 1) out := by
 refine ⟨by have := h.1; omega, fun x => (h.2 x).trans ⟨?_, ?_⟩⟩
 ·rintro ⟨k, z, hk, r⟩; exact ⟨k, z, by omega, r⟩
 ·rintro ⟨k, z, hk, e, hc, hz, hu⟩
  rcases Nat.lt_succ_iff_lt_or_eq.1 hk with hk | rfl
  ·exact ⟨k, z, hk, e, hc, hz, hu⟩
  ·rw [hy] at hz; injection hz with hz; subst hz; exact absurd ⟨hc, hu⟩ hn
theorem SpIn.put {ns : List Nd} {C out : List Int} {v : Nat} {y : Nd} (h : SpIn ns C v out) (hy : ns[v]? = some y) (hc : C.getD v 0 = 1) (hu : 0 < y.cust) : SpIn ns C (v + 1) (out ++ [(v : Int)]) := by
 refine ⟨by have := h.1; simp; omega, fun x => ?_⟩
 rw [List.mem_append, h.2 x, List.mem_singleton]
 constructor
 ·rintro (⟨k, z, hk, r⟩ | rfl)
  ·exact ⟨k, z, by omega, r⟩
  ·exact ⟨v, y, by omega, rfl, hc, hy, hu⟩
 ·rintro ⟨k, z, hk, e, r⟩
  rcases Nat.lt_succ_iff_lt_or_eq.1 hk with hk | rfl
  ·exact .inl ⟨k, z, hk, e, r⟩
  ·exact .inr e
def SpR (w2 : World) (ns : List Nd) (C : List Int) (nn gk : Nat) (ov iv : Value) (wr : World) : Prop := ∃ (v m co : Nat) (Ao : Option Addr) (out : List Int), iv = .int .i64 v ∧ ov = .slice Ao m co ∧ v ≤ nn ∧ gk = nn - v ∧ Hid (IntsO wr w2.heap.size Ao m co out) ∧ Hid (Below w2.heap.size w2 wr) ∧ Hid (SpIn ns C v out)
/-- The nodes that are supplied, as a list. -/
def SupL (ns : List Nd) (ds : List Dv) (s out : List Int) : Prop := out.length ≤ ns.length ∧ ∀ x : Int, x ∈ out ↔ ∃ (k : Nat) (y : Nd), x = k ∧ ns[k]? = some y ∧ 0 < y.cust ∧ Sup ds s k
set_option maxRecDepth 100000 in
set_option maxHeartbeats 4000000 in
theorem rsupp_any (An Ad As : Option Addr) (nn cn nd cd n c : Nat) (ns : List Nd) (ds : List Dv) (s : List Int) (w : World) (hn : Sl w w.heap.size 3 An nn cn (ns.flatMap Nd.cells)) (hd : Sl w w.heap.size 5 Ad nd cd (ds.flatMap Dv.cells)) (hs : Sl w w.heap.size 1 As n c (intsV s))
  (hsn : ∀ x ∈ ns, x.name.size ≤ 9223372036854775807) (hsd : ∀ x ∈ ds, x.name.size ≤ 9223372036854775807) (hnn : nn ≤ 10000) (hse : stateErr ns ds s = 0) (hends : nd ≤ n ∧ EndsOk nn ds ∧ ∀ x ∈ ds, joinsB x.kind = true → x.b ≠ x.a) (hA : AOk nn ds ∧ ∀ x ∈ ds, 1 ≤ x.kind ∧ x.kind ≤ 6) :
  Calls Tryz.prog 96 #[.agg #[.slice An nn cn, .slice Ad nd cd], .slice As n c] w fun e w' => ∃ Ao m co out, e = .returned (.tuple #[.slice Ao m co, .int .i64 0]) ∧ Hid (IntsO w' w.heap.size Ao m co out) ∧ Hid (SupL ns ds s out) ∧ Hid (Below w.heap.size w w') := by
 have HLN := Lib.hid (hn.len (fun _ => rfl) (by decide))
 have HCK := Lib.hid (rcols_any An Ad As nn cn nd cd n c w.heap.size w.heap.size w.heap.size ns ds s (w.alloc (.cells #[.slice An nn cn, .slice Ad nd cd] 26)) (hn.alloc (Nat.le_refl _) _) (hd.alloc (Nat.le_refl _) _) (hs.alloc (Nat.le_refl _) _) (by simp) (by simp) (by simp) hsn hsd hnn (fun _ => hends) (fun _ => hA))
 rw [hse] at HCK
 have HN := Lib.hid hn
 have hnle := hn.le
 clear hn hd hs hsn hsd hse hends hA
 go_enter Tryz.func96, Tryz.ntmps96
 go_upto_region 1 with (fail)
 have HB := Lib.hid (Blk.new w 26 #[.slice An nn cn, .slice Ad nd cd])
 have HW : Hid (Below w.heap.size w (w.alloc (.cells #[.slice An nn cn, .slice Ad nd cd] 26))) := (Below.refl _ _).alloc (Nat.le_refl _) _
 generalize World.alloc _ _ = w1 at *
 obtain ⟨nb, hnb⟩ : ∃ nb, nb = w.heap.size := ⟨_, rfl⟩
 rw [← hnb] at HB ⊢
 clear hnb
 have k0 : w1.cell? ⟨nb, 0, none⟩ = some (.slice An nn cn) := HB.out.cell 0
 have k1 : w1.cell? ⟨nb, 1, none⟩ = some (.slice Ad nd cd) := HB.out.cell 1
 go_wp2_with fail
 clear k0 k1
 refine HCK.out.mono ?_
 rintro e w2 ⟨hb2, h | ⟨_, Ac, C, rfl, hOc, hIC⟩⟩
 ·exact absurd rfl h.1
 have HBX := Lib.hid (HB.out.below hb2.out HB.out.lt)
 have HBW := Lib.hid (HW.out.trans (hb2.out.mono HW.out.size))
 have HSC := Lib.hid hOc.out.sl
 have HSN := Lib.hid (HN.out.below HBW.out (Nat.le_refl _))
 clear hOc HCK HB HW hb2 HN
 go_wp2_with fail
 go_loopg [8, 9] nn (SpR w2 ns C nn)
 case atStart => exact ⟨0, 0, 0, none, [], rfl, rfl, Nat.zero_le _, rfl, World.ownsRow_nil _ _ _ _, Below.refl _ _, SpIn.start _ _⟩
 case round =>
  obtain ⟨v, m, co, Ao, out, rfl, rfl, hv, rfl, hO, hbl, hsp⟩ := hrel
  by_cases hlt : v < nn
  ·obtain ⟨b, off, cv, rfl, hb, hcv, hc⟩ := (HSC.out.below hbl.out (Nat.le_refl _)).at1 hlt
   obtain ⟨b1, of1, z, rfl, hb1, hz, hcz⟩ := (HSN.out.below hbl.out HBW.out.size).at (fun _ => rfl) (by decide) hlt
   have HZ := Lib.hid hz
   have HCV := Lib.hid (getD_of hcv)
   obtain ⟨nm2, cu, co2⟩ := z
   have c1 : wr.cell? ⟨b1, of1 + v * 3 + 1, none⟩ = some (.int .i64 cu) := hcz 1 _ rfl
   have k0 : wr.cell? ⟨nb, 0, none⟩ = some (.slice (some ⟨b1, of1, none⟩) nn cn) := (HBX.out.below hbl.out HBX.out.lt).cell 0
   clear hcz hz hcv
   by_cases h1 : cv = 1; rotate_left
   ·have q : (cv == 1) = false := by simpa using h1
    have HS1 := Lib.hid (hsp.out.pass HZ.out (fun h => h1 (by have := h.1; rw [HCV.out] at this; exact this)))
    clear h1
    go_wp2_with fail
    go_roundg (nn - (v + 1))
    case rel => exact ⟨v + 1, m, co, Ao, out, by go_num, rfl, by omega, rfl, hO, hbl, HS1⟩
    case measure => omega
   ·have q : (cv == 1) = true := by simpa using h1
    by_cases hcu : 0 < cu; rotate_left
    ·have qc : decide (0 < cu) = false := by simpa using hcu
     have HS1 := Lib.hid (hsp.out.pass HZ.out (fun h => hcu h.2))
     clear h1 hcu
     go_wp2_with fail
     go_roundg (nn - (v + 1))
     case rel => exact ⟨v + 1, m, co, Ao, out, by go_num, rfl, by omega, rfl, hO, hbl, HS1⟩
     case measure => omega
    ·have qc : decide (0 < cu) = true := by simpa using hcu
     have HS1 := Lib.hid (hsp.out.put HZ.out (by rw [HCV.out]; exact h1) hcu)
     have hml : m ≤ nn := by have := hsp.out.1; rw [hO.out.len] at this; omega
     have hzz := hbl.out.size
     clear h1 hcu
     go_wp2_with (at_builtin; go_must (refine wpList_app rfl (.tmp 36) (.tmp 38) rfl el_int (by rfl) (hO.out.alloc _) (by rfl) (Sl.newest (n := 1) (by simp) (by rfl) (by decide)) (by simp [Value.oneCell']) (by omega) (by omega) (by simp; omega) ?_; intro A' cap' w3 hown3 hgr3 hat3; have HO3 := Lib.hid hown3; have HG3 := Lib.hid hgr3; clear hown3 hgr3 hat3))
     go_roundg (nn - (v + 1))
     case rel =>
      refine ⟨v + 1, m + 1, cap', A', out ++ [(v : Int)], by go_num, rfl, by omega, rfl, ?_, ?_, HS1⟩
      ·have := HO3.out
       unfold Hid IntsO
       rw [intsV_append]
       exact this
      ·refine (hbl.out.alloc hbl.out.size _).trans ⟨HG3.out.os, HG3.out.tape, HG3.out.output, HG3.out.size, fun i hi => HG3.out.block i (by simp; omega) (fun e => ?_)⟩
       have := (hO.out.lt i e.symm).1
       omega
     case measure => omega
  ·obtain rfl : v = nn := by omega
   have hii : decide (v < v) = false := by simp
   go_wp2_with fail
   go_ret2
   refine ⟨Ao, m, co, out, rfl, hO.out.mono HBW.out.size, ⟨by rw [HLN.out]; exact hsp.out.1, fun x => (hsp.out.2 x).trans ?_⟩, HBW.out.trans (hbl.out.mono HBW.out.size)⟩
   have col : ∀ k : Nat, k < v → (C.getD k 0 = 1 ↔ Sup ds s k) := fun k hk => by rw [getD_of (hIC.out.2 k hk)]; exact sup_col
   constructor
   ·rintro ⟨k, y, hk, e, hc, hy, hu⟩; exact ⟨k, y, e, hy, hu, (col k hk).1 hc⟩
   ·rintro ⟨k, y, e, hy, hu, hc⟩
    have hk : k < v := by have := (List.getElem?_eq_some_iff.1 hy).1; rw [HLN.out] at this; exact this
    exact ⟨k, y, hk, e, (col k hk).2 hc, hy, hu⟩
end Go.Proofs.YtnpfkiidhidjbaaGreatDoor
/-
 The program's layer 11: walks of supplied, Supplied, customers.
-/
namespace Go.Proofs.YtnpfkiidhidjbaaGreatDoor
open Go.RowKit
set_option maxRecDepth 100000 in
set_option maxHeartbeats 4000000 in
theorem psupp_any (An Ad As : Option Addr) (nn cn nd cd n c Bn Bd Bs : Nat) (ns : List Nd) (ds : List Dv) (s : List Int) (w : World) (hn : Sl w Bn 3 An nn cn (ns.flatMap Nd.cells)) (hBn : Bn ≤ w.heap.size) (hd : Sl w Bd 5 Ad nd cd (ds.flatMap Dv.cells)) (hBd : Bd ≤ w.heap.size) (hs : Sl w Bs 1 As n c (intsV s)) (hBs : Bs ≤ w.heap.size)
  (hnn : nn ≤ 10000) (hnd : nd ≤ 10000) (hl : nd ≤ n) (hends : EndsOk nn ds) (hA : AOk nn ds) :
  Calls Tryz.prog 120 #[.agg #[.slice An nn cn, .slice Ad nd cd], .slice As n c] w fun e w' => ∃ Ao m co out, e = .returned (.slice Ao m co) ∧ Hid (IntsO w' w.heap.size Ao m co out) ∧ Hid (SupL ns ds s out) ∧ Hid (Below w.heap.size w w') := by
 have HLN := Lib.hid (hn.len (fun _ => rfl) (by decide))
 have HCK := Lib.hid (both_any An Ad As nn cn nd cd n c Bd Bs ds s (w.alloc (.cells #[.slice An nn cn, .slice Ad nd cd] 26)) (hd.alloc hBd _) (by simp; omega) (hs.alloc hBs _) (by simp; omega) hnn hnd hl hends hA)
 have HN := Lib.hid hn
 have hnle := hn.le
 clear hn hd hs hends hA
 go_enter Tryz.func120, Tryz.ntmps120
 go_upto_region 1 with (fail)
 have HB := Lib.hid (Blk.new w 26 #[.slice An nn cn, .slice Ad nd cd])
 have HW : Hid (Below w.heap.size w (w.alloc (.cells #[.slice An nn cn, .slice Ad nd cd] 26))) := (Below.refl _ _).alloc (Nat.le_refl _) _
 generalize World.alloc _ _ = w1 at *
 obtain ⟨nb, hnb⟩ : ∃ nb, nb = w.heap.size := ⟨_, rfl⟩
 rw [← hnb] at HB ⊢
 have HNB := Lib.hid hnb
 clear hnb
 have k0 : w1.cell? ⟨nb, 0, none⟩ = some (.slice An nn cn) := HB.out.cell 0
 have k1 : w1.cell? ⟨nb, 1, none⟩ = some (.slice Ad nd cd) := HB.out.cell 1
 go_wp2_with fail
 clear k0 k1
 refine HCK.out.mono ?_
 rintro e w2 ⟨A1, A2, P, C, rfl, _, hOc, _, hIC, hb2⟩
 have HBX := Lib.hid (HB.out.below hb2.out HB.out.lt)
 have HBW := Lib.hid (HW.out.trans (hb2.out.mono HW.out.size))
 have HSC := Lib.hid hOc.out.sl
 have HSN := Lib.hid (HN.out.below HBW.out hBn)
 clear hOc HCK HB HW hb2 HN
 have k0 : w2.cell? ⟨nb, 0, none⟩ = some (.slice An nn cn) := HBX.out.cell 0
 go_wp2_with fail
 clear k0
 go_loopg [7, 19] nn (SpR w2 ns C nn)
 case atStart => exact ⟨0, 0, 0, none, [], rfl, rfl, Nat.zero_le _, rfl, World.ownsRow_nil _ _ _ _, Below.refl _ _, SpIn.start _ _⟩
 case round =>
  obtain ⟨v, m, co, Ao, out, rfl, rfl, hv, rfl, hO, hbl, hsp⟩ := hrel
  by_cases hlt : v < nn
  ·obtain ⟨b, off, cv, rfl, hb, hcv, hc⟩ := (HSC.out.below hbl.out (Nat.le_refl _)).at1 hlt
   obtain ⟨b1, of1, z, rfl, hb1, hz, hcz⟩ := (HSN.out.below hbl.out (Nat.le_trans hBn HBW.out.size)).at (fun _ => rfl) (by decide) hlt
   have HZ := Lib.hid hz
   have HCV := Lib.hid (getD_of hcv)
   obtain ⟨nm2, cu, co2⟩ := z
   have c0 : wr.cell? ⟨b1, of1 + v * 3, none⟩ = some (.string nm2) := hcz 0 _ rfl
   have c1 : wr.cell? ⟨b1, of1 + v * 3 + 1, none⟩ = some (.int .i64 cu) := hcz 1 _ rfl
   have c2 : wr.cell? ⟨b1, of1 + v * 3 + 2, none⟩ = some (.int .i64 co2) := hcz 2 _ rfl
   have hbz : b < wr.heap.size := by have := hbl.out.size; omega
   have hne : b ≠ wr.heap.size := by omega
   have HBA : Hid (Below w2.heap.size w2 (wr.alloc (.cells #[.string nm2, .int .i64 cu, .int .i64 co2] 61))) := hbl.out.alloc hbl.out.size _
   have HOA : Hid (IntsO (wr.alloc (.cells #[.string nm2, .int .i64 cu, .int .i64 co2] 61)) w2.heap.size Ao m co out) := hO.out.alloc _
   clear hcz hz hcv
   by_cases hcu : 0 < cu; rotate_left
   ·have qc : decide (0 < cu) = false := by simpa using hcu
    have HS1 := Lib.hid (hsp.out.pass HZ.out (fun h => hcu h.2))
    clear hcu
    go_wp2_with fail
    go_roundg (nn - (v + 1))
    case rel => exact ⟨v + 1, m, co, Ao, out, by go_num, rfl, by omega, rfl, HOA, HBA, HS1⟩
    case measure => omega
   ·have qc : decide (0 < cu) = true := by simpa using hcu
    by_cases h1 : cv = 1; rotate_left
    ·have q : (cv == 1) = false := by simpa using h1
     have HS1 := Lib.hid (hsp.out.pass HZ.out (fun h => h1 (by have := h.1; rw [HCV.out] at this; exact this)))
     clear h1 hcu
     go_wp2_with fail
     go_roundg (nn - (v + 1))
     case rel => exact ⟨v + 1, m, co, Ao, out, by go_num, rfl, by omega, rfl, HOA, HBA, HS1⟩
     case measure => omega
    ·have q : (cv == 1) = true := by simpa using h1
     have HS1 := Lib.hid (hsp.out.put HZ.out (by rw [HCV.out]; exact h1) hcu)
     have hml : m ≤ nn := by have := hsp.out.1; rw [hO.out.len] at this; omega
     have hzz := HBA.out.size
     clear h1 hcu
     go_upto_region 7 with (fail)
     generalize World.alloc wr _ = wq at *
     clear c0 c1 c2 hc
     go_wp2_with (at_builtin; go_must (refine wpList_app rfl (.tmp 34) (.tmp 36) rfl el_int (by rfl) (HOA.out.alloc _) (by rfl) (Sl.newest (n := 1) (by simp) (by rfl) (by decide)) (by simp [Value.oneCell']) (by omega) (by omega) (by simp; omega) ?_; intro A' cap' w3 hown3 hgr3 hat3; have HO3 := Lib.hid hown3; have HG3 := Lib.hid hgr3; clear hown3 hgr3 hat3))
     go_roundg (nn - (v + 1))
     case rel =>
      refine ⟨v + 1, m + 1, cap', A', out ++ [(v : Int)], by go_num, rfl, by omega, rfl, ?_, ?_, HS1⟩
      ·have := HO3.out
       unfold Hid IntsO
       rw [intsV_append]
       exact this
      ·refine (HBA.out.alloc HBA.out.size _).trans ⟨HG3.out.os, HG3.out.tape, HG3.out.output, HG3.out.size, fun i hi => HG3.out.block i (by simp; omega) (fun e => ?_)⟩
       have := (HOA.out.lt i e.symm).1
       omega
     case measure => omega
  ·obtain rfl : v = nn := by omega
   have hii : decide (v < v) = false := by simp
   go_wp2_with fail
   go_ret
   refine ⟨Ao, m, co, out, rfl, hO.out.mono HBW.out.size, ⟨by rw [HLN.out]; exact hsp.out.1, fun x => (hsp.out.2 x).trans ?_⟩, HBW.out.trans (hbl.out.mono HBW.out.size)⟩
   have col : ∀ k : Nat, k < v → (C.getD k 0 = 1 ↔ Sup ds s k) := fun k hk => by rw [getD_of (hIC.out.2 k hk)]; exact sup_col
   constructor
   ·rintro ⟨k, y, hk, e, hc, hy, hu⟩; exact ⟨k, y, e, hy, hu, (col k hk).1 hc⟩
   ·rintro ⟨k, y, e, hy, hu, hc⟩
    have hk : k < v := by have := (List.getElem?_eq_some_iff.1 hy).1; rw [HLN.out] at this; exact this
    exact ⟨k, y, hk, e, (col k hk).2 hc, hy, hu⟩
set_option maxHeartbeats 2000000 in
/-- Supplied, at a valid state. -/
theorem Supplied_ok (An Ad As : Option Addr) (nn cn nd cd n c Bn Bd Bs : Nat) (ns : List Nd) (ds : List Dv) (s : List Int) (w : World) (hL : Laid w) (hn : Sl w Bn 3 An nn cn (ns.flatMap Nd.cells)) (hBn : Bn ≤ w.heap.size) (hd : Sl w Bd 5 Ad nd cd (ds.flatMap Dv.cells)) (hBd : Bd ≤ w.heap.size) (hs : Sl w Bs 1 As n c (intsV s)) (hBs : Bs ≤ w.heap.size)
  (hsn : ∀ x ∈ ns, x.name.size ≤ 9223372036854775807) (hsd : ∀ x ∈ ds, x.name.size ≤ 9223372036854775807) (h0 : stateErr ns ds s = 0) (hnn : nn ≤ 10000) (hnd : nd ≤ 10000) (hl : nd ≤ n) (hends : EndsOk nn ds) (hA : AOk nn ds) :
  Calls Tryz.prog 90 #[.agg #[.slice An nn cn, .slice Ad nd cd], .slice As n c] w fun e w' => ∃ Ao m co out, e = .returned (.tuple #[.slice Ao m co, .int .i64 0]) ∧ Hid (IntsO w' w.heap.size Ao m co out) ∧ Hid (SupL ns ds s out) ∧ Hid (Below w.heap.size w w') := by
 have HB : Hid (Below w.heap.size w (w.alloc (.cells #[.slice An nn cn, .slice Ad nd cd] 26))) := (Below.refl _ _).alloc (Nat.le_refl _) _
 have HK := Lib.hid (Blk.new w 26 #[.slice An nn cn, .slice Ad nd cd])
 have HL := Lib.hid hL; have HN := Lib.hid hn; have HD := Lib.hid hd; have HS := Lib.hid hs; have HSN := Lib.hid hsn; have HSD := Lib.hid hsd; have H0 := Lib.hid h0; have HE := Lib.hid hends; have HA := Lib.hid hA
 clear hL hn hd hs hsn hsd h0 hends hA
 go_enter Tryz.func90, Tryz.ntmps90
 go_wp2_with fail
 generalize World.alloc _ _ = W at *
 have hz := HB.out.size
 have HC := Lib.hid (mstate_any An Ad As nn cn nd cd n c Bn Bd Bs ns ds s W (HL.out.below HB.out (Nat.le_refl _)) (HN.out.below HB.out hBn) (HD.out.below HB.out hBd) (HS.out.below HB.out hBs) (by omega) (by omega) (by omega) HSN.out HSD.out)
 rw [H0.out] at HC
 refine HC.out.mono ?_
 rintro e w1 ⟨rfl, hb1⟩
 have HB1 := Lib.hid (HB.out.trans (hb1.mono hz))
 have HK1 := Lib.hid (HK.out.below hb1 HK.out.lt)
 have hz1 := HB1.out.size
 clear hb1 HC HB HK hz
 have k0 : w1.cell? ⟨w.heap.size, 0, none⟩ = some (.slice An nn cn) := HK1.out.cell 0
 have k1 : w1.cell? ⟨w.heap.size, 1, none⟩ = some (.slice Ad nd cd) := HK1.out.cell 1
 go_wp2_with fail
 clear k0 k1
 refine (psupp_any An Ad As nn cn nd cd n c Bn Bd Bs ns ds s w1 (HN.out.below HB1.out hBn) (by omega) (HD.out.below HB1.out hBd) (by omega) (HS.out.below HB1.out hBs) (by omega) hnn hnd hl HE.out HA.out).mono ?_
 rintro e w2 ⟨Ao, m, co, out, rfl, hO, hSL, hb2⟩
 go_wp2_with fail
 go_ret2
 exact ⟨Ao, m, co, out, rfl, hO.out.mono hz1, hSL, HB1.out.trans (hb2.out.mono hz1)⟩
def CuR (W : World) (m gk : Nat) (sv iv : Value) (wr : World) : Prop := ∃ (i : Nat) (k : Int), iv = .int .i64 i ∧ sv = .int .i64 k ∧ i ≤ m ∧ gk = m - i ∧ Hid (Below W.heap.size W wr)
set_option maxHeartbeats 2000000 in
/-- customers: some number, at nodes of the network. -/
theorem custs_any (An Ad A : Option Addr) (nn cn nd cd m c Bn B : Nat) (ns : List Nd) (l : List Int) (w : World) (hn : Sl w Bn 3 An nn cn (ns.flatMap Nd.cells)) (hBn : Bn ≤ w.heap.size) (hs : Sl w B 1 A m c (intsV l)) (hB : B ≤ w.heap.size) (hl : ∀ v ∈ l, 0 ≤ v ∧ v < nn) :
  Calls Tryz.prog 93 #[.agg #[.slice An nn cn, .slice Ad nd cd], .slice A m c] w fun e w' => ∃ k : Int, e = .returned (.int .i64 k) ∧ Hid (Below w.heap.size w w') := by
 have HB0 : Hid (Below w.heap.size w (w.alloc (.cells #[.slice An nn cn, .slice Ad nd cd] 26))) := (Below.refl _ _).alloc (Nat.le_refl _) _
 have HK := Lib.hid (Blk.new w 26 #[.slice An nn cn, .slice Ad nd cd])
 have HN := Lib.hid hn; have HS := Lib.hid hs; have HI := Lib.hid hl
 have hnle := hn.le; have hsle := hs.le
 clear hn hs hl
 go_enter Tryz.func93, Tryz.ntmps93
 go_wp2_with fail
 generalize World.alloc _ _ = W at *
 go_loopg [5, 10] m (CuR W m)
 case atStart => exact ⟨0, 0, rfl, rfl, Nat.zero_le _, rfl, Below.refl _ _⟩
 case round =>
  obtain ⟨i, k, rfl, rfl, hi, rfl, hbl⟩ := hrel
  have HB1 := Lib.hid (HB0.out.trans (hbl.out.mono HB0.out.size))
  by_cases hlt : i < m
  ·obtain ⟨b, off, v, rfl, hb, hv, hc⟩ := (HS.out.below HB1.out hB).at1 hlt
   obtain ⟨hv0, hv1⟩ := HI.out v (List.mem_of_getElem? hv)
   obtain ⟨t, rfl⟩ := Int.eq_ofNat_of_zero_le hv0
   have htn : t < nn := by omega
   obtain ⟨b1, of1, z, rfl, hb1, hz, hcz⟩ := (HN.out.below HB1.out hBn).at (fun _ => rfl) (by decide) htn
   obtain ⟨nm2, cu, co2⟩ := z
   have c1 : wr.cell? ⟨b1, of1 + t * 3 + 1, none⟩ = some (.int .i64 cu) := hcz 1 _ rfl
   have k0 : wr.cell? ⟨w.heap.size, 0, none⟩ = some (.slice (some ⟨b1, of1, none⟩) nn cn) := (HK.out.below hbl.out HK.out.lt).cell 0
   clear hcz hz hv
   go_wp2_with fail
   go_roundg (m - (i + 1))
   case rel => exact ⟨i + 1, _, by go_num, rfl, by omega, rfl, hbl⟩
   case measure => omega
  ·obtain rfl : i = m := by omega
   have hii : decide (i < i) = false := by simp
   go_wp2_with fail
   go_ret
   exact ⟨k, rfl, HB1⟩
end Go.Proofs.YtnpfkiidhidjbaaGreatDoor
