import Derived.Test.YtfaknfmndafllaaGreatDoorW03
import Derived.Test.YtfaknfmndafllaaGreatDoorW00
import Derived.Test.YtfaknfmndafllaaGreatDoorProg
import Derived.Outline
import Derived.Deep.QuietTactic
import Derived.BigQuiet
import Derived.Laws.Pointers
set_option maxRecDepth 100000
set_option maxHeartbeats 8000000
namespace Go.Proofs.YtfaknfmndafllaaGreatDoor
section
variable {P : Program} {ops : Array Oper} {Q : Exit → Act → World → Prop} {md : Region.Mode} {S S' : World → Prop} {J : List Nat}
theorem wpOp_of_one {k : Nat} {o : Oper} {fuel : Nat} {listed : Array Bool} {a : Act} {w : World} (ho : ops[k]? = some o)
 (h : ∀ K' : Act → World → Prop, Shut (∀ a w, (J.contains k = false → S w) → ((J.contains k = false → S w) → wpAnyJ P md ops Q S J fuel (listed.setIfInBounds k true) a w) → K' a w) → if Region.wanted o (yielded ops a.tmps) = true then Oper.wp P o a w K' Q else K' (a.put o.dst undef) w) :
 wpOp P ops Q k (fun a' w' => (J.contains k = false → S w') ∧ wpAnyJ P md ops Q S J fuel (listed.setIfInBounds k true) a' w') a w :=
 wpOp_step ho (fun K' hK => h K' (fun a w hS hW => hK a w ⟨hS, hW hS⟩))
theorem wpAnyJ_two {i k : Nat} {oi ok : Oper} {fuel : Nat} {listed : Array Bool} {a : Act} {w : World} (hr : Region.ready md ops listed = [i, k]) (hoi : ops[i]? = some oi) (hok : ops[k]? = some ok)
 (h1 : ∀ K' : Act → World → Prop, Shut (∀ a w, (J.contains i = false → S w) → ((J.contains i = false → S w) → wpAnyJ P md ops Q S J fuel (listed.setIfInBounds i true) a w) → K' a w) → if Region.wanted oi (yielded ops a.tmps) = true then Oper.wp P oi a w K' Q else K' (a.put oi.dst undef) w)
 (h2 : ∀ K' : Act → World → Prop, Shut (∀ a w, (J.contains k = false → S w) → ((J.contains k = false → S w) → wpAnyJ P md ops Q S J fuel (listed.setIfInBounds k true) a w) → K' a w) → if Region.wanted ok (yielded ops a.tmps) = true then Oper.wp P ok a w K' Q else K' (a.put ok.dst undef) w) :
 wpAnyJ P md ops Q S J (fuel + 1) listed a w := by
 refine ⟨fun h0 => (by rw [hr] at h0; cases h0), fun j hj => ?_⟩
 rw [hr] at hj
 rcases List.mem_cons.1 hj with rfl | hj
 ·exact wpOp_of_one hoi h1
 ·obtain rfl := List.mem_singleton.1 hj
  exact wpOp_of_one hok h2
theorem wpAnyJ_takeL {i : Nat} {oi : Oper} {d : Option Tmp} {v : Value} {fuel : Nat} {listed : Array Bool} (L : Array Bool) {a : Act} {w : World} (hl : listed.setIfInBounds i true = L) (hi : ops[i]? = some oi) (hd : oi.dst = d)
 (hs : Region.noSelect ops = true) (hf : Region.free md ops listed i = true) (hr : (Region.ready md ops listed).contains i = true) (hc : closedB md ops listed = true) (hJ : J.all (ancB md ops i ops.size) = true)
 (hQ : ∀ c a w, Q (.panic c) (a.put oi.dst v) w → Q (.panic c) a w) (hy : YieldsIf P ops S oi v a) (hS : S w)
 (h : wpAnyJ P md ops Q S J fuel L (a.put d v) w) : wpAnyJ P md ops Q S J (fuel + 1) listed a w := by
 subst hl
 exact wpAnyJ_take hi hd hs hf hr hc hJ hQ hy hS h
abbrev tt : Bool := true
abbrev ff : Bool := false
def mf (n k : Nat) : Array Bool := ((List.range n).map fun i => Nat.blt i k).toArray
theorem sA {α : Type} (l : List α) (i : Nat) (a : α) : l.toArray.setIfInBounds i a = (l.set i a).toArray := List.setIfInBounds_toArray ..
theorem sB {α : Type} (x : α) (l : List α) (y : α) : (x :: l).set 0 y = y :: l := List.set_cons_zero
theorem sC {α : Type} (x : α) (l : List α) (n : Nat) (y : α) : (x :: l).set (n + 1) y = x :: l.set n y := List.set_cons_succ
theorem tk (i d : Nat) {oi : Oper} {v : Value} {fuel : Nat} {listed : Array Bool} (L : Array Bool) {a a' : Act} {w : World} (hS : S w) (h : wpAnyJ P md ops Q S J fuel L a' w)
 (hi : ops[i]? = some oi := by rfl) (hd : oi.dst = some d := by rfl) (hy : ∀ w, S w → (execOp a.eval oi).run P w = .ok (.value v) w := by intro w hSw; (try dsimp only at hSw); go_simp; try with_reducible rfl) (hp : a.put (some d) v = a' := by (try simp only [Act.put, sA, sB, sC]); rfl) (hw : Region.wanted oi (yielded ops a.tmps) = true := by rfl) (hl : listed.setIfInBounds i true = L := by kernel_rfl) (hs : Region.noSelect ops = true := by kernel_rfl) (hf : Region.free md ops listed i = true := by kernel_rfl) (hr : (Region.ready md ops listed).contains i = true := by kernel_rfl) (hc : closedB md ops listed = true := by kernel_rfl) (hJ : J.all (ancB md ops i ops.size) = true := by kernel_rfl) (hQ : ∀ c a w, Q (.panic c) (a.put oi.dst v) w → Q (.panic c) a w := by exact fun _ _ _ h => h) : wpAnyJ P md ops Q S J (fuel + 1) listed a w :=
 wpAnyJ_takeL L hl hi hd hs hf hr hc hJ hQ (Or.inl ⟨hw, hy⟩) hS (hp ▸ h)
theorem tv (i d : Nat) {oi : Oper} {v : Value} {fuel : Nat} {listed : Array Bool} (L : Array Bool) {a a' : Act} {w : World} (hS : S w) (hy : ∀ w, S w → (execOp a.eval oi).run P w = .ok (.value v) w) (h : wpAnyJ P md ops Q S J fuel L a' w)
 (hi : ops[i]? = some oi := by rfl) (hd : oi.dst = some d := by rfl) (hp : a.put (some d) v = a' := by (try simp only [Act.put, sA, sB, sC]); rfl) (hw : Region.wanted oi (yielded ops a.tmps) = true := by rfl) (hl : listed.setIfInBounds i true = L := by kernel_rfl) (hs : Region.noSelect ops = true := by kernel_rfl) (hf : Region.free md ops listed i = true := by kernel_rfl) (hr : (Region.ready md ops listed).contains i = true := by kernel_rfl) (hc : closedB md ops listed = true := by kernel_rfl) (hJ : J.all (ancB md ops i ops.size) = true := by kernel_rfl) (hQ : ∀ c a w, Q (.panic c) (a.put oi.dst v) w → Q (.panic c) a w := by exact fun _ _ _ h => h) : wpAnyJ P md ops Q S J (fuel + 1) listed a w :=
 wpAnyJ_takeL L hl hi hd hs hf hr hc hJ hQ (Or.inl ⟨hw, hy⟩) hS (hp ▸ h)
theorem ts (i d : Nat) {oi : Oper} {fuel : Nat} {listed : Array Bool} (L : Array Bool) {a a' : Act} {w : World} (hS : S w) (h : wpAnyJ P md ops Q S J fuel L a' w)
 (hi : ops[i]? = some oi := by rfl) (hd : oi.dst = some d := by rfl) (hp : a.put (some d) undef = a' := by (try simp only [Act.put, sA, sB, sC]); rfl) (hw : Region.wanted oi (yielded ops a.tmps) = false := by rfl) (hl : listed.setIfInBounds i true = L := by kernel_rfl) (hs : Region.noSelect ops = true := by kernel_rfl) (hf : Region.free md ops listed i = true := by kernel_rfl) (hr : (Region.ready md ops listed).contains i = true := by kernel_rfl) (hc : closedB md ops listed = true := by kernel_rfl) (hJ : J.all (ancB md ops i ops.size) = true := by kernel_rfl) (hQ : ∀ c a w, Q (.panic c) (a.put oi.dst undef) w → Q (.panic c) a w := by exact fun _ _ _ h => h) : wpAnyJ P md ops Q S J (fuel + 1) listed a w :=
 wpAnyJ_takeL L hl hi hd hs hf hr hc hJ hQ (Or.inr ⟨hw, rfl⟩) hS (hp ▸ h)
theorem wpAnyJ_oneL {k : Nat} {o : Oper} {fuel : Nat} {listed : Array Bool} (L : Array Bool) {a : Act} {w : World} (hl : listed.setIfInBounds k true = L) (hr : Region.ready md ops listed = [k]) (ho : ops[k]? = some o)
 (h : ∀ K' : Act → World → Prop, Shut (∀ a w, (J.contains k = false → S w) → ((J.contains k = false → S w) → wpAnyJ P md ops Q S J fuel L a w) → K' a w) → if Region.wanted o (yielded ops a.tmps) = true then Oper.wp P o a w K' Q else K' (a.put o.dst undef) w) :
 wpAnyJ P md ops Q S J (fuel + 1) listed a w := by
 subst hl
 exact wpAnyJ_one hr ho h
theorem wpAnyJ_twoL {i k : Nat} {oi ok : Oper} {fuel : Nat} {listed : Array Bool} (L1 L2 : Array Bool) {a : Act} {w : World} (hl1 : listed.setIfInBounds i true = L1) (hl2 : listed.setIfInBounds k true = L2) (hr : Region.ready md ops listed = [i, k]) (hoi : ops[i]? = some oi) (hok : ops[k]? = some ok)
 (h1 : ∀ K' : Act → World → Prop, Shut (∀ a w, (J.contains i = false → S w) → ((J.contains i = false → S w) → wpAnyJ P md ops Q S J fuel L1 a w) → K' a w) → if Region.wanted oi (yielded ops a.tmps) = true then Oper.wp P oi a w K' Q else K' (a.put oi.dst undef) w)
 (h2 : ∀ K' : Act → World → Prop, Shut (∀ a w, (J.contains k = false → S w) → ((J.contains k = false → S w) → wpAnyJ P md ops Q S J fuel L2 a w) → K' a w) → if Region.wanted ok (yielded ops a.tmps) = true then Oper.wp P ok a w K' Q else K' (a.put ok.dst undef) w) :
 wpAnyJ P md ops Q S J (fuel + 1) listed a w := by
 subst hl1 hl2
 exact wpAnyJ_two hr hoi hok h1 h2
end
end Go.Proofs.YtfaknfmndafllaaGreatDoor
namespace Go.Proofs.YtfaknfmndafllaaGreatDoor
open Go.RowKit
theorem el_opn : ElemI Tryz.prog 34 62 2 16 := ElemI.mk' (z := .agg #[.int .i64 0, .int .i64 0]) Tryz.underlying34 (by kernel_rfl) rfl (by decide)
def ednL (perm : List Int → Nat → Bool) (t : List Int) (M : Nat → Nat) (k : Nat) : List Nat := (List.range k).filter fun i => perm t (M i)
theorem ednL_len (perm : List Int → Nat → Bool) (t : List Int) (M : Nat → Nat) (k : Nat) : (ednL perm t M k).length ≤ k := by
 have := List.length_filter_le (fun i => perm t (M i)) (List.range k)
 rwa [List.length_range] at this
theorem ednL_yes {perm : List Int → Nat → Bool} {t : List Int} {M : Nat → Nat} {k : Nat} (h : perm t (M k) = true) : ednL perm t M (k + 1) = ednL perm t M k ++ [k] := by
 unfold ednL; rw [List.range_succ, List.filter_append]; simp [h]
theorem ednL_no {perm : List Int → Nat → Bool} {t : List Int} {M : Nat → Nat} {k : Nat} (h : perm t (M k) = false) : ednL perm t M (k + 1) = ednL perm t M k := by
 unfold ednL; rw [List.range_succ, List.filter_append]; simp [h]
def natsV (l : List Nat) : List Value := l.flatMap fun i : Nat => [Value.int .i64 (i : Int)]
theorem natsV_len (l : List Nat) : (natsV l).length = l.length := by unfold natsV; rw [flat1_map, List.length_map]
theorem natsV_int (l : List Nat) : natsV l = intsV (l.map fun i : Nat => (i : Int)) := by unfold natsV intsV; rw [List.flatMap_map]
def opC (M : Nat → Nat) (t : List Int) (i : Nat) : List Value := [.int .i64 (M i : Int), .int .i64 (3 - t.getD (M i) 0)]
def NxPost (w : World) (perm : List Int → Nat → Bool) (t : List Int) (M : Nat → Nat) (m : Nat) (e : Ending) (w' : World) : Prop :=
 ∃ (A1 A2 : Option Addr) (c1 c2 : Nat), e = .returned (.tuple #[.slice A1 (ednL perm t M m).length c1, .slice A2 (ednL perm t M m).length c2]) ∧ Hid (TwoR w w' A1 (ednL perm t M m).length c1 (natsV (ednL perm t M m)) A2 (ednL perm t M m).length c2 ((ednL perm t M m).flatMap (opC M t)))
def NxR (W : World) (_nt : Array Value) (perm : List Int → Nat → Bool) (t : List Int) (M : Nat → Nat) (m : Nat) (gk : Nat) (v6 v7 iv : Value) (wr : World) : Prop :=
 ∃ (k : Nat) (A1 A2 : Option Addr) (c1 c2 : Nat), v6 = .slice A1 (ednL perm t M k).length c1 ∧ v7 = .slice A2 (ednL perm t M k).length c2 ∧ iv = .int .i64 k ∧ k ≤ m ∧ gk = m - k ∧ Hid (TwoR W wr A1 (ednL perm t M k).length c1 (natsV (ednL perm t M k)) A2 (ednL perm t M k).length c2 ((ednL perm t M k).flatMap (opC M t)))
theorem NxR.start {nt : Array Value} {perm : List Int → Nat → Bool} {t : List Int} {M : Nat → Nat} {m : Nat} (W : World) : NxR W nt perm t M m m (.slice none 0 0) (.slice none 0 0) (.int .i64 0) W :=
 ⟨0, none, none, 0, 0, rfl, rfl, rfl, Nat.zero_le _, rfl, show TwoR W W none 0 0 [] none 0 0 [] from ⟨World.ownsRow_nil W _ _ _, World.ownsRow_nil W _ _ _, Below.refl _ _⟩⟩
theorem NxR.more {W wr : World} {nt : Array Value} {perm : List Int → Nat → Bool} {t : List Int} {M : Nat → Nat} {m k : Nat} {y : Int} {A1 A2 : Option Addr} {c1 c2 : Nat} (h : perm t (M k) = true ∧ t[M k]? = some y) (hk : k < m) (hr : TwoR W wr A1 ((ednL perm t M k).length + 1) c1 (natsV (ednL perm t M k) ++ [.int .i64 (k : Int)]) A2 ((ednL perm t M k).length + 1) c2 ((ednL perm t M k).flatMap (opC M t) ++ [.int .i64 (M k : Int), .int .i64 (3 - y)])) :
 NxR W nt perm t M m (m - (k + 1)) (.slice A1 ((ednL perm t M k).length + 1) c1) (.slice A2 ((ednL perm t M k).length + 1) c2) (.int .i64 ((k : Int) + 1)) wr := by
 have e := ednL_yes h.1
 have hl : (ednL perm t M (k + 1)).length = (ednL perm t M k).length + 1 := by rw [e]; simp
 refine ⟨k + 1, A1, A2, c1, c2, by rw [hl], by rw [hl], rfl, hk, rfl, ?_⟩
 rw [hl, e, List.flatMap_append, show natsV (ednL perm t M k ++ [k]) = natsV (ednL perm t M k) ++ [.int .i64 (k : Int)] from List.flatMap_append]
 have : opC M t k = [.int .i64 (M k : Int), .int .i64 (3 - y)] := by unfold opC; rw [List.getD_eq_getElem?_getD, h.2]; rfl
 unfold Hid
 simpa [this] using hr
theorem NxR.same {W wr : World} {nt : Array Value} {perm : List Int → Nat → Bool} {t : List Int} {M : Nat → Nat} {m k : Nat} {A1 A2 : Option Addr} {c1 c2 : Nat} (e : ednL perm t M (k + 1) = ednL perm t M k) (hk : k < m) (hr : TwoR W wr A1 (ednL perm t M k).length c1 (natsV (ednL perm t M k)) A2 (ednL perm t M k).length c2 ((ednL perm t M k).flatMap (opC M t))) :
 NxR W nt perm t M m (m - (k + 1)) (.slice A1 (ednL perm t M k).length c1) (.slice A2 (ednL perm t M k).length c2) (.int .i64 ((k : Int) + 1)) wr := by
 refine ⟨k + 1, A1, A2, c1, c2, by rw [e], by rw [e], rfl, hk, rfl, ?_⟩
 rw [e]; exact hr
theorem ptnext_any (fp : Nat) (lp : Array Value) (As Am A : Option Addr) (ns cs m cm n c : Nat) (t : List Int) (M : Nat → Nat) (perm : List Int → Nat → Bool) (w : World) (hm : Sl w w.heap.size 1 Am m cm (intsV (mvL m M))) (ht : Sl w w.heap.size 1 A n c (intsV t)) (hn : n ≤ 64) (hm10 : m ≤ 10) (hM : ∀ i, i < m → M i < n) (hp : PosL t)
 (heP : ∀ (args : Array Value) (W : World), (callFunc fp args).run Tryz.prog W = .ok (.enter fp args) W)
 (hP : ∀ (W : World) (i : Nat), Below w.heap.size w W → i < m → Calls Tryz.prog fp (#[.slice A n c, .agg #[.int .i64 (M i : Int), .int .i64 (3 - t.getD (M i) 0)]] ++ lp) W fun e W' => e = .returned (.bool (perm t (M i))) ∧ Below W.heap.size W W') :
 Calls Tryz.prog 122 #[.agg #[.slice As ns cs, .slice Am m cm, .func (.func fp) #[] lp], .slice A n c] w (NxPost w perm t M m) := by
 have HTL := Lib.hid (ht.len (fun _ => rfl) (by decide))
 have HP := Lib.hid hP
 have HQ := Lib.hid hp
 have HBL : Hid (Below w.heap.size w (w.alloc (.cells #[.slice As ns cs, .slice Am m cm, .func (.func fp) #[] lp] 90))) := (Below.refl _ _).alloc (Nat.le_refl _) _
 have HB := Lib.hid (Blk.new w 90 #[.slice As ns cs, .slice Am m cm, .func (.func fp) #[] lp])
 have HM := Lib.hid hm
 have HS := Lib.hid ht
 have HMM := Lib.hid hM
 clear ht hm hM hp hP
 go_enter Tryz.func122, Tryz.ntmps122
 go_upto_region 3 with (fail)
 generalize World.alloc w _ = W at *
 have k1 := HB.out.c1
 go_wp2_with fail
 clear k1
 refine wp_loop_u3 [(5, 0), (0, 2), (0, 3), (2, 1), (2, 0), (0, 4), (24, 1), (1, 0)] 6 7 14 (m) (NxR W #[] perm t M m) (by (try dsimp only [gt]); exact NxR.start W) (by kernel_rfl) ?_
 intro u1 p6 p7 p14 gk wr a hrel ha J1 K1 hJ1 hK1
 dsimp only [relaxR, Go.Proofs.YtfaknfmndafllaaGreatDoor.v3, Nat.reduceAdd] at ha
 subst ha
 obtain ⟨k, A1, A2, c1, c2, rfl, rfl, rfl, hk, rfl, hr⟩ := hrel
 have HR := Lib.hid hr.out
 clear hr
 have hle := ednL_len perm t M k
 have HL : Hid (Below w.heap.size w wr) := HBL.out.trans (HR.out.2.2.mono HBL.out.size)
 have HB2 := Lib.hid (HB.out.below HR.out.2.2 HB.out.lt)
 have HM2 := Lib.hid (HM.out.below HL.out (Nat.le_refl _))
 have HS2 := Lib.hid (HS.out.below HL.out (Nat.le_refl _))
 by_cases hlt : k < m; rotate_left
 ·have q1 : decide (k < m) = false := by simpa using hlt
  obtain rfl : k = m := by omega
  clear HB2 HM2 HS2
  go_wp2_with fail
  go_ret2
  exact ⟨A1, A2, c1, c2, rfl, HR.out.1.mono HBL.out.size, HR.out.2.1.mono HBL.out.size, HL.out⟩
 have q1 : decide (k < m) = true := by simpa using hlt
 obtain ⟨b2, o2, x2, rfl, hb2, hx2, hc2⟩ := HM2.out.at1 hlt
 obtain rfl : x2 = (M k : Int) := by unfold mvL at hx2; rw [lstF_at hlt] at hx2; injection hx2 with hx2; exact hx2.symm
 have hMk := HMM.out k hlt
 obtain ⟨b3, o3, y, rfl, hb3, hy, hc3⟩ := HS2.out.at1 hMk
 have hxr := HQ.out.get hy
 have HY := Lib.hid hy
 have hw3 : IntKind.i64.wrap (3 - y) = 3 - y := IntWalk.i64_in _ (by omega)
 have hkk : IntKind.i64.wrap ((k : Int) + 1) = (k : Int) + 1 := IntWalk.i64_in _ (by omega)
 have hnm : n ≤ 9223372036854775807 := by omega
 clear hx2 hy HM2 HS2
 go_upto_region 7 with (fail)
 obtain ⟨av, hT⟩ := TwoX.of HR.out
 have HX := Lib.hid (hT.src #[.int .i64 (M k : Int), .int .i64 (3 - y)] 62 (size := 2) rfl)
 have HT := Lib.hid (hT.al (.cells #[.int .i64 (M k : Int), .int .i64 (3 - y)] 62))
 have HLV := Lib.hid (HL.out.alloc HL.out.size (.cells #[.int .i64 (M k : Int), .int .i64 (3 - y)] 62))
 have HBV := Lib.hid (HB2.out.alloc (.cells #[.int .i64 (M k : Int), .int .i64 (3 - y)] 62))
 obtain ⟨x, hx⟩ : ∃ x, x = wr.heap.size := ⟨_, rfl⟩
 rw [← hx] at HX ⊢
 clear hx hT HB2 HL HR
 generalize World.alloc wr _ = V at *
 have HC := Lib.hid (HP.out V k HLV.out hlt)
 rw [show t.getD (M k) 0 = y by rw [List.getD_eq_getElem?_getD, HY.out]; rfl] at HC
 have k2 := HBV.out.c2
 have u0 := HX.out.c2.1
 have u1 := HX.out.c2.2
 go_wp2_with fail
 refine HC.out.mono ?_
 rintro e w2 ⟨rfl, hb2'⟩
 have HT2 := Lib.hid (HT.out.later hb2')
 have HX2 := Lib.hid (HX.out.later hb2')
 clear hb2' HC k2 u0 u1 HT HX HLV HBV
 have HT := HT2; have HX := HX2
 clear HT2 HX2 hc2 hc3
 cases hpm : perm t (M k) with
 | true =>
  have HE := Lib.hid (And.intro hpm HY.out)
  clear hpm HY HQ hxr
  go_upto_region 8 with (fail)
  refine wp_region_J (S := fun W' => W'.cell? ⟨x, 0, none⟩ = some (.int .i64 (M k : Int)) ∧ W'.cell? ⟨x, 1, none⟩ = some (.int .i64 (3 - y))) (J := []) (by kernel_rfl) ?_ (fun hHeld => ?_)
  ·exact HX.out.c2
  try dsimp only at hHeld
  refine tk 0 31 (mf 10 1) hHeld ?_
  refine tk 1 32 (mf 10 2) hHeld ?_
  refine tk 4 35 #[tt, tt, ff, ff, tt, ff, ff, ff, ff, ff] hHeld ?_
  refine wpAnyJ_takeL (i := 5) (d := some 36) (v := ?_) #[tt, tt, ff, ff, tt, tt, ff, ff, ff, ff] (by kernel_rfl) rfl rfl (by kernel_rfl) (by kernel_rfl) (by kernel_rfl) (by kernel_rfl) (by kernel_rfl) (fun _ _ _ h => h) (Or.inl ⟨by rfl, ?_⟩) hHeld ?_
  rotate_left
  ·(intro w hSw; (try dsimp only at hSw); have u0 := hSw.1; have u1 := hSw.2; go_simp; try with_reducible rfl)
  try simp only [Act.put, sA, sB, sC]
  refine wpAnyJ_twoL (i := 2) (k := 6) #[tt, tt, tt, ff, tt, tt, ff, ff, ff, ff] #[tt, tt, ff, ff, tt, tt, tt, ff, ff, ff] (by kernel_rfl) (by kernel_rfl) (by kernel_rfl) rfl rfl (fun K hK => ?_) (fun K hK => ?_)
  ·(go_simp; have HSa := Lib.hid (HT.out.src #[.int .i64 (k : Int)] 3 (size := 1) rfl); replace HX := Lib.hid (HX.out.alloc (.cells #[.int .i64 (k : Int)] 3)); replace HT := Lib.hid (HT.out.al (.cells #[.int .i64 (k : Int)] 3)); replace HX := Lib.hid (HX.out.later (Below.refl _ _).drew); replace HSa := Lib.hid (HSa.out.later (Below.refl _ _).drew); replace HT := Lib.hid (HT.out.later (Below.refl _ _).drew); generalize World.drew (World.alloc _ _) = Wx at *)
   refine hK.out _ _ (fun _ => ?_) (fun hHeld' => ?_)
   ·exact HX.out.c2
   replace hHeld := hHeld' rfl
   clear hHeld' hK K
   try dsimp only at hHeld
   refine wpAnyJ_twoL (i := 3) (k := 6) (mf 10 6) #[tt, tt, tt, ff, tt, tt, tt, ff, ff, ff] (by kernel_rfl) (by kernel_rfl) (by kernel_rfl) rfl rfl (fun K hK => ?_) (fun K hK => ?_)
   ·(refine step_app_d (d := some 34) (by rfl) (by rfl) (.tmp 31) (.tmp 33) (by rfl) el_int (by rfl) HT.out.r.1 (by rfl) HSa.out.1 (by simp [Value.oneCell']) (by omega) (by omega) HT.out.r.2.2.size ?_; intro B1 d1 Wa hown hgr hat; obtain ⟨av1, HT1, hk1⟩ := HT.out.app1 hown hgr hat; replace HX := Lib.hid (hk1 HX.out); replace HT := Lib.hid HT1; clear HSa HT1 hk1 hown hgr hat)
    refine hK.out _ _ (fun _ => ?_) (fun hHeld' => ?_)
    ·exact HX.out.c2
    replace hHeld := hHeld' rfl
    clear hHeld' hK K
    try dsimp only at hHeld
    try simp only [Act.put, sA, sB, sC]
    refine wpAnyJ_oneL (k := 6) (mf 10 7) (by kernel_rfl) (by kernel_rfl) rfl (fun K hK => ?_)
    (go_simp; have HSb := Lib.hid (HT.out.src #[.int .i64 (M k : Int), .int .i64 (3 - y)] 62 (size := 2) rfl); replace HX := Lib.hid (HX.out.alloc (.cells #[.int .i64 (M k : Int), .int .i64 (3 - y)] 62)); replace HT := Lib.hid (HT.out.al (.cells #[.int .i64 (M k : Int), .int .i64 (3 - y)] 62)); generalize World.alloc _ _ = Wx at *)
    refine hK.out _ _ (fun _ => ?_) (fun hHeld' => ?_)
    ·exact HX.out.c2
    replace hHeld := hHeld' rfl
    clear hHeld' hK K
    try dsimp only at hHeld
    refine wpAnyJ_oneL (k := 7) (mf 10 8) (by kernel_rfl) (by kernel_rfl) rfl (fun K hK => ?_)
    (refine step_app_d (d := some 38) (by rfl) (by rfl) (.tmp 35) (.tmp 37) (by rfl) el_opn (by rfl) HT.out.r.2.1 (by rfl) HSb.out.1 (by simp [Value.oneCell']) (by omega) (by omega) HT.out.r.2.2.size ?_; intro B2 d2 Wb hown hgr hat; obtain ⟨av2, HT1, hk1⟩ := HT.out.app2 hown hgr hat; replace HX := Lib.hid (hk1 HX.out); replace HT := Lib.hid HT1; clear HSb HT1 hk1 hown hgr hat)
    refine hK.out _ _ (fun _ => ?_) (fun hHeld' => ?_)
    ·exact HX.out.c2
    replace hHeld := hHeld' rfl
    clear hHeld' hK K
    try dsimp only at hHeld
    try simp only [Act.put, sA, sB, sC]
    refine tk 8 6 (mf 10 9) hHeld ?_
    refine tk 9 7 (mf 10 10) hHeld ?_
    refine wpAnyJ_done (by kernel_rfl) ?_ _
    go_wp2_with fail
    refine Handed.intro (m - (k + 1)) (by omega) (hJ1 _ _ _ (LpI3.back 6 7 14 ?_ (by kernel_rfl)))
    dsimp only [gt]
    exact NxR.more HE.out hlt HT.out.r
   ·(go_simp; have HSb := Lib.hid (HT.out.src #[.int .i64 (M k : Int), .int .i64 (3 - y)] 62 (size := 2) rfl); replace HX := Lib.hid (HX.out.alloc (.cells #[.int .i64 (M k : Int), .int .i64 (3 - y)] 62)); replace HSa := Lib.hid (HSa.out.alloc (.cells #[.int .i64 (M k : Int), .int .i64 (3 - y)] 62)); replace HT := Lib.hid (HT.out.al (.cells #[.int .i64 (M k : Int), .int .i64 (3 - y)] 62)); generalize World.alloc _ _ = Wx at *)
    refine hK.out _ _ (fun _ => ?_) (fun hHeld' => ?_)
    ·exact HX.out.c2
    replace hHeld := hHeld' rfl
    clear hHeld' hK K
    try dsimp only at hHeld
    refine wpAnyJ_oneL (k := 3) (mf 10 7) (by kernel_rfl) (by kernel_rfl) rfl (fun K hK => ?_)
    (refine step_app_d (d := some 34) (by rfl) (by rfl) (.tmp 31) (.tmp 33) (by rfl) el_int (by rfl) HT.out.r.1 (by rfl) HSa.out.1 (by simp [Value.oneCell']) (by omega) (by omega) HT.out.r.2.2.size ?_; intro B1 d1 Wa hown hgr hat; obtain ⟨av1, HT1, hk1⟩ := HT.out.app1 hown hgr hat; replace HX := Lib.hid (hk1 HX.out); replace HSb := Lib.hid (hk1 HSb.out); replace HT := Lib.hid HT1; clear HSa HT1 hk1 hown hgr hat)
    refine hK.out _ _ (fun _ => ?_) (fun hHeld' => ?_)
    ·exact HX.out.c2
    replace hHeld := hHeld' rfl
    clear hHeld' hK K
    try dsimp only at hHeld
    try simp only [Act.put, sA, sB, sC]
    refine wpAnyJ_oneL (k := 7) (mf 10 8) (by kernel_rfl) (by kernel_rfl) rfl (fun K hK => ?_)
    (refine step_app_d (d := some 38) (by rfl) (by rfl) (.tmp 35) (.tmp 37) (by rfl) el_opn (by rfl) HT.out.r.2.1 (by rfl) HSb.out.1 (by simp [Value.oneCell']) (by omega) (by omega) HT.out.r.2.2.size ?_; intro B2 d2 Wb hown hgr hat; obtain ⟨av2, HT1, hk1⟩ := HT.out.app2 hown hgr hat; replace HX := Lib.hid (hk1 HX.out); replace HT := Lib.hid HT1; clear HSb HT1 hk1 hown hgr hat)
    refine hK.out _ _ (fun _ => ?_) (fun hHeld' => ?_)
    ·exact HX.out.c2
    replace hHeld := hHeld' rfl
    clear hHeld' hK K
    try dsimp only at hHeld
    try simp only [Act.put, sA, sB, sC]
    refine tk 8 6 (mf 10 9) hHeld ?_
    refine tk 9 7 (mf 10 10) hHeld ?_
    refine wpAnyJ_done (by kernel_rfl) ?_ _
    go_wp2_with fail
    refine Handed.intro (m - (k + 1)) (by omega) (hJ1 _ _ _ (LpI3.back 6 7 14 ?_ (by kernel_rfl)))
    dsimp only [gt]
    exact NxR.more HE.out hlt HT.out.r
  ·(go_simp; have HSb := Lib.hid (HT.out.src #[.int .i64 (M k : Int), .int .i64 (3 - y)] 62 (size := 2) rfl); replace HX := Lib.hid (HX.out.alloc (.cells #[.int .i64 (M k : Int), .int .i64 (3 - y)] 62)); replace HT := Lib.hid (HT.out.al (.cells #[.int .i64 (M k : Int), .int .i64 (3 - y)] 62)); replace HX := Lib.hid (HX.out.later (Below.refl _ _).drew); replace HSb := Lib.hid (HSb.out.later (Below.refl _ _).drew); replace HT := Lib.hid (HT.out.later (Below.refl _ _).drew); generalize World.drew (World.alloc _ _) = Wx at *)
   refine hK.out _ _ (fun _ => ?_) (fun hHeld' => ?_)
   ·exact HX.out.c2
   replace hHeld := hHeld' rfl
   clear hHeld' hK K
   try dsimp only at hHeld
   refine wpAnyJ_oneL (k := 2) #[tt, tt, tt, ff, tt, tt, tt, ff, ff, ff] (by kernel_rfl) (by kernel_rfl) rfl (fun K hK => ?_)
   (go_simp; have HSa := Lib.hid (HT.out.src #[.int .i64 (k : Int)] 3 (size := 1) rfl); replace HX := Lib.hid (HX.out.alloc (.cells #[.int .i64 (k : Int)] 3)); replace HSb := Lib.hid (HSb.out.alloc (.cells #[.int .i64 (k : Int)] 3)); replace HT := Lib.hid (HT.out.al (.cells #[.int .i64 (k : Int)] 3)); generalize World.alloc _ _ = Wx at *)
   refine hK.out _ _ (fun _ => ?_) (fun hHeld' => ?_)
   ·exact HX.out.c2
   replace hHeld := hHeld' rfl
   clear hHeld' hK K
   try dsimp only at hHeld
   refine wpAnyJ_oneL (k := 3) (mf 10 7) (by kernel_rfl) (by kernel_rfl) rfl (fun K hK => ?_)
   (refine step_app_d (d := some 34) (by rfl) (by rfl) (.tmp 31) (.tmp 33) (by rfl) el_int (by rfl) HT.out.r.1 (by rfl) HSa.out.1 (by simp [Value.oneCell']) (by omega) (by omega) HT.out.r.2.2.size ?_; intro B1 d1 Wa hown hgr hat; obtain ⟨av1, HT1, hk1⟩ := HT.out.app1 hown hgr hat; replace HX := Lib.hid (hk1 HX.out); replace HSb := Lib.hid (hk1 HSb.out); replace HT := Lib.hid HT1; clear HSa HT1 hk1 hown hgr hat)
   refine hK.out _ _ (fun _ => ?_) (fun hHeld' => ?_)
   ·exact HX.out.c2
   replace hHeld := hHeld' rfl
   clear hHeld' hK K
   try dsimp only at hHeld
   try simp only [Act.put, sA, sB, sC]
   refine wpAnyJ_oneL (k := 7) (mf 10 8) (by kernel_rfl) (by kernel_rfl) rfl (fun K hK => ?_)
   (refine step_app_d (d := some 38) (by rfl) (by rfl) (.tmp 35) (.tmp 37) (by rfl) el_opn (by rfl) HT.out.r.2.1 (by rfl) HSb.out.1 (by simp [Value.oneCell']) (by omega) (by omega) HT.out.r.2.2.size ?_; intro B2 d2 Wb hown hgr hat; obtain ⟨av2, HT1, hk1⟩ := HT.out.app2 hown hgr hat; replace HX := Lib.hid (hk1 HX.out); replace HT := Lib.hid HT1; clear HSb HT1 hk1 hown hgr hat)
   refine hK.out _ _ (fun _ => ?_) (fun hHeld' => ?_)
   ·exact HX.out.c2
   replace hHeld := hHeld' rfl
   clear hHeld' hK K
   try dsimp only at hHeld
   try simp only [Act.put, sA, sB, sC]
   refine tk 8 6 (mf 10 9) hHeld ?_
   refine tk 9 7 (mf 10 10) hHeld ?_
   refine wpAnyJ_done (by kernel_rfl) ?_ _
   go_wp2_with fail
   refine Handed.intro (m - (k + 1)) (by omega) (hJ1 _ _ _ (LpI3.back 6 7 14 ?_ (by kernel_rfl)))
   dsimp only [gt]
   exact NxR.more HE.out hlt HT.out.r
 | false =>
  have hen := ednL_no hpm
  clear HX
  go_wp2_with fail
  refine Handed.intro (m - (k + 1)) (by omega) (hJ1 _ _ _ (LpI3.back 6 7 14 ?_ (by kernel_rfl)))
  dsimp only [gt]
  exact NxR.same hen hlt HT.out.r
end Go.Proofs.YtfaknfmndafllaaGreatDoor
namespace Go.Proofs.YtfaknfmndafllaaGreatDoor
structure Lk where
 dev : Int
 pos : Int
 key : Int
def befB (a b : Lk) : Bool := decide (a.dev < b.dev) || (decide (a.dev = b.dev) && decide (a.key < b.key))
theorem bef_iff (a b : Lk) : befB a b = true ↔ a.dev < b.dev ∨ (a.dev = b.dev ∧ a.key < b.key) := by simp [befB]
theorem bef_trans {a b c : Lk} (h1 : befB a b = true) (h2 : befB b c = true) : befB a c = true := by rw [bef_iff] at *; omega
theorem bef_total {a b : Lk} (h : a.key ≠ b.key) (h1 : befB a b = false) : befB b a = true := by
 have h2 : ¬ befB a b = true := by rw [h1]; simp
 rw [bef_iff] at *; omega
def kindOf (ds : List Dv) (d : Int) : Int := match ds[d.toNat]? with | some x => x.kind | none => 0
def lkErr (ds : List Dv) (k : Lk) : Int := if k.dev < 0 then 8 else if (ds.length : Int) ≤ k.dev then 8 else if kindOf ds k.dev = 5 then 6 else if k.pos ≠ 1 ∧ k.pos ≠ 2 then 10 else if k.key < 0 then 5 else if 65536 < k.key then 5 else 0
def othB (k x : Lk) : Bool := decide (x.dev = k.dev) && !decide (x.pos = k.pos)
def othL (l : List Lk) (k : Lk) : Bool := l.any (othB k)
def usdL (l : List Lk) (q : Int) : Bool := l.any fun x => decide (x.key = q)
theorem oth_not {l : List Lk} {k : Lk} : othL l k = false ↔ ∀ x ∈ l, x.dev = k.dev → x.pos = k.pos := by
 unfold othL othB
 rw [List.any_eq_false]
 constructor
 ·intro h x hx hd
  have := h x hx
  simp [hd] at this
  exact this
 ·intro h x hx
  simp
  exact h x hx
theorem usd_not {l : List Lk} {q : Int} : usdL l q = false ↔ ∀ x ∈ l, x.key ≠ q := by
 unfold usdL
 rw [List.any_eq_false]
 constructor
 ·intro h x hx; have := h x hx; simpa using this
 ·intro h x hx; simpa using h x hx
def ordBad (ls : List Lk) (i : Nat) (k : Lk) : Bool := decide (0 < i) && !(match ls[i - 1]? with | some p => befB p k | none => true)
def errAt (ds : List Dv) (ls : List Lk) (i : Nat) : Int := match ls[i]? with
 | none => 0
 | some k => if lkErr ds k ≠ 0 then lkErr ds k else if ordBad ls i k = true then 14 else if othL (ls.take i) k = true then 18 else if usdL (ls.take i) k.key = true then 4 else 0
def firstE (ds : List Dv) (ls : List Lk) : Nat → Int
 | 0 => 0
 | i + 1 => if firstE ds ls i ≠ 0 then firstE ds ls i else errAt ds ls i
theorem firstE_stop {ds : List Dv} {ls : List Lk} {i : Nat} {e : Int} (h : firstE ds ls i = 0) (he : errAt ds ls i = e) (h0 : e ≠ 0) : ∀ n, i < n → firstE ds ls n = e
 | 0, hn => by omega
 | n + 1, hn => by
  rw [firstE]
  rcases Nat.lt_succ_iff_lt_or_eq.1 hn with hlt | rfl
  ·rw [firstE_stop h he h0 n hlt, if_pos h0]
  ·rw [h, if_neg (by simp), he]
theorem firstE_zero {ds : List Dv} {ls : List Lk} : ∀ n, firstE ds ls n = 0 ↔ ∀ i, i < n → errAt ds ls i = 0
 | 0 => ⟨fun _ i hi => by omega, fun _ => rfl⟩
 | n + 1 => by
  rw [firstE]
  have ih := firstE_zero (ds := ds) (ls := ls) n
  by_cases h : firstE ds ls n = 0
  ·rw [if_neg (by simp [h])]
   constructor
   ·intro he i hi
    rcases Nat.lt_succ_iff_lt_or_eq.1 hi with hlt | rfl
    ·exact ih.1 h i hlt
    ·exact he
   ·intro hall; exact hall n (by omega)
  ·rw [if_pos h]
   exact ⟨fun e => absurd e h, fun hall => ih.2 fun i hi => hall i (by omega)⟩
theorem firstE_next {ds : List Dv} {ls : List Lk} {i : Nat} (h : firstE ds ls i = 0) (he : errAt ds ls i = 0) : firstE ds ls (i + 1) = 0 := by rw [firstE, h, if_neg (by simp), he]
def LkRel (a b : Lk) : Prop := befB a b = true ∧ (a.dev = b.dev → a.pos = b.pos) ∧ a.key ≠ b.key
def GoodL (ds : List Dv) (ls : List Lk) : Prop := ls.length ≤ 128 ∧ (∀ k ∈ ls, lkErr ds k = 0) ∧ ls.Pairwise LkRel
theorem errAt_zero {ds : List Dv} {ls : List Lk} {i : Nat} {k : Lk} (hk : ls[i]? = some k) : errAt ds ls i = 0 ↔ lkErr ds k = 0 ∧ ordBad ls i k = false ∧ othL (ls.take i) k = false ∧ usdL (ls.take i) k.key = false := by
 unfold errAt
 rw [hk]
 simp only
 by_cases h1 : lkErr ds k = 0
 ·rw [if_neg (by simp [h1])]
  rcases h2 : ordBad ls i k with _ | _
  ·rw [if_neg (by simp)]
   rcases h3 : othL (ls.take i) k with _ | _
   ·rw [if_neg (by simp)]
    rcases h4 : usdL (ls.take i) k.key with _ | _
    ·simp [h1]
    ·simp
   ·simp
  ·simp
 ·rw [if_pos h1]; simp [h1]
theorem good_of {ds : List Dv} {ls : List Lk} (hl : ls.length ≤ 128) (h : firstE ds ls ls.length = 0) : GoodL ds ls := by
 have hall := (firstE_zero ls.length).1 h
 have at' : ∀ i (hi : i < ls.length), lkErr ds ls[i] = 0 ∧ ordBad ls i ls[i] = false ∧ othL (ls.take i) ls[i] = false ∧ usdL (ls.take i) ls[i].key = false := fun i hi => (errAt_zero (List.getElem?_eq_getElem hi)).1 (hall i hi)
 refine ⟨hl, fun k hk => ?_, ?_⟩
 ·obtain ⟨i, hi, rfl⟩ := List.mem_iff_getElem.1 hk
  exact (at' i hi).1
 ·have step : ∀ i (hi : i + 1 < ls.length), befB ls[i] ls[i + 1] = true := by
   intro i hi
   have := (at' (i + 1) hi).2.1
   unfold ordBad at this
   rw [Nat.add_sub_cancel, List.getElem?_eq_getElem (show i < ls.length by omega)] at this
   simpa using this
  have bef : ∀ (j i : Nat) (hj : j < ls.length) (hij : i < j), befB (ls[i]'(by omega)) ls[j] = true := by
   intro j
   induction j with
   | zero => intro i hj hij; omega
   | succ j ih =>
    intro i hj hij
    rcases Nat.lt_succ_iff_lt_or_eq.1 hij with hlt | rfl
    ·exact bef_trans (ih i (by omega) hlt) (step j hj)
    ·exact step i hj
  rw [List.pairwise_iff_getElem]
  intro i j hi hj hij
  obtain ⟨_, _, h3, h4⟩ := at' j hj
  have hm : ls[i] ∈ ls.take j := by
   rw [List.mem_iff_getElem]
   exact ⟨i, by simp; omega, by simp⟩
  exact ⟨bef j i hj hij, fun hd => oth_not.1 h3 _ hm hd, usd_not.1 h4 _ hm⟩
theorem good_err {ds : List Dv} {ls : List Lk} (h : GoodL ds ls) : firstE ds ls ls.length = 0 := by
 obtain ⟨_, h2, h3⟩ := h
 rw [firstE_zero]
 intro i hi
 rw [errAt_zero (List.getElem?_eq_getElem hi)]
 rw [List.pairwise_iff_getElem] at h3
 have mem : ∀ x ∈ ls.take i, ∃ j, ∃ hj : j < ls.length, j < i ∧ x = ls[j] := by
  intro x hx
  obtain ⟨j, hj, rfl⟩ := List.mem_iff_getElem.1 hx
  simp at hj
  exact ⟨j, by omega, by omega, by simp⟩
 refine ⟨h2 _ (List.getElem_mem hi), ?_, ?_, ?_⟩
 ·unfold ordBad
  rcases Nat.eq_zero_or_pos i with rfl | h0
  ·rfl
  ·rw [List.getElem?_eq_getElem (show i - 1 < ls.length by omega)]
   simp only
   rw [(h3 (i - 1) i (by omega) hi (by omega)).1]
   simp
 ·rw [oth_not]
  intro x hx hd
  obtain ⟨j, hj, hji, rfl⟩ := mem x hx
  exact (h3 j i hj hi hji).2.1 hd
 ·rw [usd_not]
  intro x hx
  obtain ⟨j, hj, hji, rfl⟩ := mem x hx
  exact (h3 j i hj hi hji).2.2
def lckL : List Lk → Int → Option Int
 | [], _ => none
 | x :: l, d => if x.dev = d then some x.pos else lckL l d
theorem lck_none {l : List Lk} {d : Int} : lckL l d = none ↔ ∀ x ∈ l, x.dev ≠ d := by
 induction l with
 | nil => simp [lckL]
 | cons x l ih =>
  rw [lckL]
  split
  ·next hd => simp [hd]
  ·next hd => rw [ih]; simp [hd]
def insL (k : Lk) (ls : List Lk) : List Lk := ls.takeWhile (fun x => befB x k) ++ k :: ls.dropWhile (fun x => befB x k)
theorem ins_len (k : Lk) (ls : List Lk) : (insL k ls).length = ls.length + 1 := by
 have := congrArg List.length (List.takeWhile_append_dropWhile (p := fun x => befB x k) (l := ls))
 rw [List.length_append] at this
 unfold insL
 rw [List.length_append, List.length_cons]; omega
theorem ins_mem (k x : Lk) (ls : List Lk) : x ∈ insL k ls ↔ x = k ∨ x ∈ ls := by
 have h : ls.takeWhile (fun x => befB x k) ++ ls.dropWhile (fun x => befB x k) = ls := List.takeWhile_append_dropWhile
 have hm : x ∈ ls ↔ x ∈ ls.takeWhile (fun x => befB x k) ∨ x ∈ ls.dropWhile (fun x => befB x k) := by rw [← List.mem_append, h]
 unfold insL
 rw [List.mem_append, List.mem_cons, hm]
 constructor
 ·rintro (h | h | h)
  ·exact .inr (.inl h)
  ·exact .inl h
  ·exact .inr (.inr h)
 ·rintro (h | h | h)
  ·exact .inr (.inl h)
  ·exact .inl h
  ·exact .inr (.inr h)
theorem drop_head {p : Lk → Bool} : ∀ {l : List Lk} {y : Lk} {t : List Lk}, l.dropWhile p = y :: t → p y = false
 | [], _, _, h => by simp at h
 | x :: l, y, t, h => by
  rw [List.dropWhile_cons] at h
  split at h
  ·exact drop_head h
  ·next hp => injection h with h1; subst h1; simpa using hp
theorem ins_good {ds : List Dv} {ls : List Lk} {k : Lk} (h : GoodL ds ls) (hk : lkErr ds k = 0) (hu : usdL ls k.key = false) (ho : othL ls k = false) (hl : ls.length < 128) : GoodL ds (insL k ls) := by
 have hs : ls.takeWhile (fun x => befB x k) ++ ls.dropWhile (fun x => befB x k) = ls := List.takeWhile_append_dropWhile
 have hu' := usd_not.1 hu
 have ho' := oth_not.1 ho
 refine ⟨by rw [ins_len]; omega, fun x hx => ?_, ?_⟩
 ·rcases (ins_mem k x ls).1 hx with rfl | hx
  ·exact hk
  ·exact h.2.1 x hx
 ·have hp := h.2.2
  rw [← hs, List.pairwise_append] at hp
  obtain ⟨p1, p2, p3⟩ := hp
  have mem1 : ∀ x ∈ ls.takeWhile (fun x => befB x k), x ∈ ls := fun x hx => by rw [← hs]; exact List.mem_append_left _ hx
  have mem2 : ∀ x ∈ ls.dropWhile (fun x => befB x k), x ∈ ls := fun x hx => by rw [← hs]; exact List.mem_append_right _ hx
  have bef1 : ∀ x ∈ ls.takeWhile (fun x => befB x k), befB x k = true := fun x hx => by
   have := List.all_takeWhile (p := fun x => befB x k) (l := ls)
   exact List.all_eq_true.1 this x hx
  have bef2 : ∀ x ∈ ls.dropWhile (fun x => befB x k), befB k x = true := by
   rcases hd : ls.dropWhile (fun x => befB x k) with _ | ⟨y, t⟩
   ·intro x hx; cases hx
   ·have hy : befB k y = true := bef_total (hu' y (mem2 y (by rw [hd]; exact List.mem_cons_self))) (drop_head (p := fun x => befB x k) hd)
    intro x hx
    rcases List.mem_cons.1 hx with rfl | hx
    ·exact hy
    ·rw [hd, List.pairwise_cons] at p2
     exact bef_trans hy (p2.1 x hx).1
  unfold insL
  rw [List.pairwise_append, List.pairwise_cons]
  refine ⟨p1, ⟨fun x hx => ⟨bef2 x hx, fun e => (ho' x (mem2 x hx) e.symm).symm, fun e => hu' x (mem2 x hx) e.symm⟩, p2⟩, fun a ha b hb => ?_⟩
  rcases List.mem_cons.1 hb with rfl | hb
  ·exact ⟨bef1 a ha, ho' a (mem1 a ha), hu' a (mem1 a ha)⟩
  ·exact p3 a ha b hb
theorem GoodL.sorted {ds : List Dv} {ls : List Lk} (h : GoodL ds ls) : ls.Pairwise (fun x y => befB x y = true) := h.2.2.imp fun h => h.1
end Go.Proofs.YtfaknfmndafllaaGreatDoor
namespace Go.Proofs.YtfaknfmndafllaaGreatDoor
open Go.RowKit
def Lk.cells (k : Lk) : List Value := [.int .i64 k.dev, .int .i64 k.pos, .int .i64 k.key]
theorem el_lock : ElemI Tryz.prog 38 59 3 24 := ElemI.mk' (z := .agg #[.int .i64 0, .int .i64 0, .int .i64 0]) Tryz.underlying38 (by kernel_rfl) rfl (by decide)
def LocksO (w : World) (base : Nat) (A : Option Addr) (n c : Nat) (ls : List Lk) : Prop := w.ownsRow base 59 3 (.slice A n c) n (ls.flatMap Lk.cells)
section
variable {w w' : World} {base n c B : Nat} {A : Option Addr} {ls : List Lk}
theorem LocksO.sl (h : LocksO w base A n c ls) : Sl w w.heap.size 3 A n c (ls.flatMap Lk.cells) := Sl.of_own h
theorem LocksO.len (h : LocksO w base A n c ls) : ls.length = n := (Sl.of_own h).len (fun _ => rfl) (by decide)
theorem LocksO.later (h : LocksO w base A n c ls) (hb : Below w.heap.size w w') : LocksO w' base A n c ls := own_later h hb
theorem Sl.lock {i : Nat} (h : Sl w B 3 A n c (ls.flatMap Lk.cells)) (hi : i < n) : ∃ b off d p q, A = some ⟨b, off, none⟩ ∧ b < B ∧ ls[i]? = some ⟨d, p, q⟩ ∧ w.cell? ⟨b, off + i * 3, none⟩ = some (.int .i64 d) ∧ w.cell? ⟨b, off + i * 3 + 1, none⟩ = some (.int .i64 p) ∧ w.cell? ⟨b, off + i * 3 + 2, none⟩ = some (.int .i64 q) := by
 obtain ⟨b, off, ⟨d, p, q⟩, e, hb, hx, hc⟩ := h.at (fun _ => rfl) (by decide) hi
 exact ⟨b, off, d, p, q, e, hb, hx, hc 0 _ rfl, hc 1 _ rfl, hc 2 _ rfl⟩
end
end Go.Proofs.YtfaknfmndafllaaGreatDoor
namespace Go.Proofs.YtfaknfmndafllaaGreatDoor
open Go.RowKit
structure Sp where
 kind : Int
 dev : Int
 node : Int
 pos : Int
 key : Int
deriving DecidableEq
def Sp.cells (s : Sp) : List Value := [.int .i64 s.kind, .int .i64 s.dev, .int .i64 s.node, .int .i64 s.pos, .int .i64 s.key]
theorem Sp.len (s : Sp) : s.cells.length = 5 := rfl
def Sp.posB (s : Sp) : Bool := s.kind == 3 || s.kind == 6
end Go.Proofs.YtfaknfmndafllaaGreatDoor
namespace Go.Proofs.YtfaknfmndafllaaGreatDoor
inductive Rch (ds : List Dv) (U : Nat → Bool) (S : Int → Bool) (src : List Int) : Int → Prop
 | base {v : Int} : v ∈ src → Rch ds U S src v
 | step {u : Int} {i : Nat} {x : Dv} : Rch ds U S src u → S u = false → ds[i]? = some x → U i = true → 0 ≤ acrB x u → Rch ds U S src (acrB x u)
def marked (out : List Bool) (v : Int) : Prop := 0 ≤ v ∧ out[v.toNat]? = some true
def EndsOk (nn : Nat) (ds : List Dv) : Prop := ∀ x ∈ ds, joinsB x.kind = true → (0 ≤ x.a ∧ x.a < nn) ∧ (0 ≤ x.b ∧ x.b < nn)
def countF (out : List Bool) : Nat := (out.filter (fun b => !b)).length
theorem acr_lt {nn : Nat} {ds : List Dv} (h : EndsOk nn ds) {i : Nat} {x : Dv} (hx : ds[i]? = some x) (v : Int) (h0 : 0 ≤ acrB x v) : acrB x v < nn := by
 have hm := h x (List.mem_of_getElem? hx)
 unfold acrB at h0 ⊢
 split at h0
 ·omega
 ·rename_i hj
  have := hm (by simpa using hj)
  rw [if_neg hj]
  split
  ·omega
  ·split
   ·omega
   ·rename_i h1 h2; rw [if_neg h1, if_neg h2] at h0; omega
theorem marked_set {out : List Bool} {k : Nat} (hk : k < out.length) (v : Int) : marked (out.set k true) v ↔ v = k ∨ marked out v := by
 unfold marked
 rw [List.getElem?_set]
 constructor
 ·rintro ⟨h0, h1⟩
  split at h1
  ·left; omega
  ·exact .inr ⟨h0, h1⟩
 ·rintro (rfl | ⟨h0, h1⟩)
  ·exact ⟨by omega, by simp [hk]⟩
  ·refine ⟨h0, ?_⟩
   split
   ·simp
   ·exact h1
theorem countF_set : ∀ {out : List Bool} {k : Nat}, out[k]? = some false → countF (out.set k true) + 1 = countF out
 | [], k, h => by simp at h
 | b :: out, 0, h => by simp at h; subst h; simp [countF]
 | b :: out, k + 1, h => by
  simp at h
  have := countF_set h
  unfold countF at *
  rw [List.set_cons_succ, List.filter_cons, List.filter_cons]
  split <;> simp_all
theorem marked_rep (n : Nat) (v : Int) : ¬ marked (List.replicate n false) v := by
 rintro ⟨_, h⟩
 rw [List.getElem?_replicate] at h
 split at h <;> simp at h
structure BInv (ds : List Dv) (U : Nat → Bool) (S : Int → Bool) (src : List Int) (out : List Bool) (wait : List Int) : Prop where
 sound : ∀ v, marked out v → Rch ds U S src v
 waits : ∀ v ∈ wait, marked out v
 srcs : ∀ v ∈ src, marked out v
 done : ∀ u, marked out u → u ∉ wait → S u = false → ∀ i x, ds[i]? = some x → U i = true → 0 ≤ acrB x u → marked out (acrB x u)
structure IInv (ds : List Dv) (U : Nat → Bool) (S : Int → Bool) (src : List Int) (v : Int) (j : Nat) (out : List Bool) (wait : List Int) : Prop where
 sound : ∀ v, marked out v → Rch ds U S src v
 waits : ∀ v ∈ wait, marked out v
 srcs : ∀ v ∈ src, marked out v
 done : ∀ u, marked out u → u ∉ wait → S u = false → ∀ i x, ds[i]? = some x → U i = true → 0 ≤ acrB x u → marked out (acrB x u)
 head : wait.head? = some v
 here : ∀ i x, i < j → ds[i]? = some x → U i = true → 0 ≤ acrB x v → marked out (acrB x v)
section
variable {ds : List Dv} {U : Nat → Bool} {S : Int → Bool} {src wait : List Int} {out : List Bool} {v : Int} {j : Nat}
theorem BInv.start (h : ∀ v, marked out v ↔ v ∈ src) : BInv ds U S src out src :=
 ⟨fun v hv => .base ((h v).1 hv), fun v hv => (h v).2 hv, fun v hv => (h v).2 hv, fun u hu hn => absurd ((h u).1 hu) hn⟩
theorem BInv.enter (h : BInv ds U S src out wait) (hv : wait.head? = some v) : IInv ds U S src v 0 out wait :=
 ⟨h.sound, h.waits, h.srcs, h.done, hv, fun i x hi => absurd hi (by omega)⟩
theorem BInv.stop (h : BInv ds U S src out (v :: wait)) (hs : S v = true) : BInv ds U S src out wait :=
 ⟨h.sound, fun u hu => h.waits u (List.mem_cons_of_mem _ hu), h.srcs, fun u hu hn hsu i x hx hU h0 => by
  refine h.done u hu (fun hm => ?_) hsu i x hx hU h0
  rcases List.mem_cons.1 hm with rfl | hm
  ·rw [hs] at hsu; cases hsu
  ·exact hn hm⟩
theorem IInv.leave (h : IInv ds U S src v j out (v :: wait)) (hj : ds.length ≤ j) : BInv ds U S src out wait :=
 ⟨h.sound, fun u hu => h.waits u (List.mem_cons_of_mem _ hu), h.srcs, fun u hu hn hsu i x hx hU h0 => by
  by_cases huv : u = v
  ·subst huv
   exact h.here i x (Nat.lt_of_lt_of_le (List.getElem?_eq_some_iff.1 hx).1 hj) hx hU h0
  ·refine h.done u hu (fun hm => ?_) hsu i x hx hU h0
   rcases List.mem_cons.1 hm with e | hm
   ·exact huv e
   ·exact hn hm⟩
theorem IInv.pass (h : IInv ds U S src v j out wait) {x : Dv} (hx : ds[j]? = some x) (hp : U j = true → 0 ≤ acrB x v → marked out (acrB x v)) : IInv ds U S src v (j + 1) out wait :=
 ⟨h.sound, h.waits, h.srcs, h.done, h.head, fun i y hi hy hU h0 => by
  rcases Nat.lt_succ_iff_lt_or_eq.1 hi with hi | rfl
  ·exact h.here i y hi hy hU h0
  ·obtain rfl : y = x := Option.some.inj (hy.symm.trans hx)
   exact hp hU h0⟩
theorem IInv.push (h : IInv ds U S src v j out wait) {x : Dv} (hx : ds[j]? = some x) {k : Nat} (hk : acrB x v = k) (hkl : k < out.length) (hU : U j = true) (hS : S v = false) : IInv ds U S src v (j + 1) (out.set k true) (wait ++ [(k : Int)]) := by
 have hv : marked out v := h.waits v (List.mem_of_mem_head? h.head)
 have hm := fun u => marked_set (out := out) hkl u
 refine ⟨fun u hu => ?_, fun u hu => ?_, fun u hu => (hm u).2 (.inr (h.srcs u hu)), fun u hu hn hsu i y hy hUi h0 => ?_, ?_, fun i y hi hy hUi h0 => ?_⟩
 ·rcases (hm u).1 hu with rfl | hu
  ·rw [← hk]; exact .step (h.sound v hv) hS hx hU (by omega)
  ·exact h.sound u hu
 ·rcases List.mem_append.1 hu with hu | hu
  ·exact (hm u).2 (.inr (h.waits u hu))
  ·exact (hm u).2 (.inl (List.mem_singleton.1 hu))
 ·rcases (hm u).1 hu with rfl | hu
  ·exact absurd (List.mem_append_right _ (List.mem_singleton.2 rfl)) hn
  ·exact (hm _).2 (.inr (h.done u hu (fun hw => hn (List.mem_append_left _ hw)) hsu i y hy hUi h0))
 ·have := h.head
  cases wait with
  | nil => simp at this
  | cons a l => simpa using this
 ·rcases Nat.lt_succ_iff_lt_or_eq.1 hi with hi | rfl
  ·exact (hm _).2 (.inr (h.here i y hi hy hUi h0))
  ·obtain rfl : y = x := Option.some.inj (hy.symm.trans hx)
   exact (hm _).2 (.inl hk)
theorem BInv.final (h : BInv ds U S src out []) : ∀ v, marked out v ↔ Rch ds U S src v := by
 intro v
 refine ⟨h.sound v, fun hr => ?_⟩
 induction hr with
 | base hv => exact h.srcs _ hv
 | step _ hs hx hU h0 ih => exact h.done _ ih (by simp) hs _ _ hx hU h0
end
end Go.Proofs.YtfaknfmndafllaaGreatDoor
namespace Go.Proofs.YtfaknfmndafllaaGreatDoor
open Go.RowKit
section
variable {P : Program} {w : World} {t e : TypeId} {bytes base n c : Nat} {A : Option Addr} {xs : List Value}
theorem run_appQ (E : ElemI P t e 1 bytes) (ty : TypeId) (h : Que w base e A n c xs) (hbase : base ≤ w.heap.size) {u : Value} {ad : Addr} {cx : Nat} (hu : w.cell? ad = some u) (h1 : u.oneCell' = true) (hby : (n + 1) * bytes ≤ 140737488355328) (h63 : n + 1 ≤ 9223372036854775807) :
 ∃ A' c' w', (Builtin.append_ #[t, t] ty #[.slice A n c, .slice (some ad) 1 cx]).run P w = .ok (.slice A' (n + 1) c') w' ∧ Que w' base e A' (n + 1) c' (xs ++ [u]) ∧ w.grownBy w' (Value.slice A n c).ownBlock ∧
  ((Value.slice A' (n + 1) c').ownBlock = (Value.slice A n c).ownBlock ∨ (Value.slice A' (n + 1) c').ownBlock = some w.heap.size) := by
 obtain ⟨ht, ⟨i, z, hi, hz, hs, hb, hzc⟩, hp⟩ := E
 obtain ⟨q1, q2, q3, q4, q5⟩ := h
 have hz0 : ad.add 0 = ad := by cases ad with | mk b o s => cases s <;> simp [Addr.add]
 have hsrc : Src P i.size t (.slice (some ad) 1 cx) 1 [u] w := by
  rw [hs]
  refine Src.ofSlice w ht ad 1 cx [u] rfl (fun j v hv => ?_) (by simpa using h1)
  cases j with
  | zero => simp at hv; subst hv; rw [hz0]; exact hu
  | succ j => simp at hv
 by_cases hr : n + 1 ≤ c
 ·obtain ⟨g, off, cur, rfl, hh, ho, hx⟩ := q5 (by omega)
  have hcell : ∀ k, w.cell? ⟨g, k, none⟩ = cur[k]? := fun k => cell_of_row w g k cur e (0, 0) hh
  have hrun := run_append_room_src w t t ty e i ht hi g off n c _ 1 [u] hsrc hr (fun j hj => by
   simp at hj; subst hj
   rw [hcell, hs]; simp; omega) (fun j hj => frozen_of_row w g _ cur e hh)
  rw [hs] at hrun
  simp only [Nat.mul_one, World.setCells] at hrun
  refine ⟨_, c, _, hrun, ⟨by simp [q1], hr, q3, fun a ha => ?_, fun _ => ⟨g, off, cur.setIfInBounds (off + n) u, rfl, heap_setCell_same w g _ cur e u hh, by simpa using ho, fun j v hv => ?_⟩⟩, grown_cell w _ _, .inl rfl⟩
  ·have := q4 a ha
   simpa [World.setCell] using this
  ·rcases Nat.lt_or_ge j n with hj | hj
   ·rw [List.getElem?_append_left (by omega)] at hv
    rw [Array.getElem?_setIfInBounds, if_neg (by omega)]
    exact hx j v hv
   ·have hj' : j = n := by
     have := (List.getElem?_eq_some_iff.1 hv).1
     simp at this; omega
    subst hj'
    rw [← q1] at hv
    simp at hv
    subst hv
    rw [Array.getElem?_setIfInBounds, if_pos rfl, if_pos (by omega)]
 ·have hold : (Builtin.firstCells i.size n (.slice A n c)).run P w.drew = .ok xs.toArray w.drew := by
   rw [hs]
   rcases Nat.eq_zero_or_pos c with h0 | h0
   ·have hn0 : n = 0 := by omega
    subst hn0
    have hx0 : xs = [] := List.eq_nil_of_length_eq_zero q1
    subst hx0
    cases A with
    | none => exact run_firstCells_none _ _ _ _ _
    | some a => exact run_firstCells_some _ _ _ a _ _ [] rfl (fun j v hv => by simp at hv)
   ·obtain ⟨g, off, cur, rfl, hh, ho, hx⟩ := q5 h0
    refine run_firstCells_some _ _ _ _ _ _ xs (by omega) (fun j v hv => ?_)
    rw [add_plain]
    exact (cell_of_row w g _ cur e (0, 0) hh).trans (hx j v hv)
  have hcap := nextslicecap_le (need := n + 1) (old := c) (by omega)
  have hfit : Builtin.nextslicecap (n + 1) c * i.bytes ≤ 281474976710656 := by
   rw [hb]
   calc Builtin.nextslicecap (n + 1) c * bytes ≤ (2 * (n + 1)) * bytes := Nat.mul_le_mul_right _ hcap
    _ ≤ 281474976710656 := by rw [Nat.mul_assoc]; omega
  have hrun := run_append_grow_src w t t ty e i z ht hi hz A n c xs hold _ 1 [u] hsrc (by omega) (by omega) hfit
  have hge := grownCap_ge w (n + 1) c e
  have hle := grownCap_le_maxLen w (n + 1) c e (by simpa [maxLen] using h63)
  refine ⟨_, _, _, hrun, ⟨by simp [q1], hge, by simpa [maxLen] using hle, fun a ha => ?_, fun _ => ⟨w.heap.size, 0, _, rfl, heap_alloc_new w.drew _, ?_, fun j v hv => ?_⟩⟩, ?_, .inr rfl⟩
  ·injection ha with ha
   subst ha
   exact ⟨hbase, by simp⟩
  ·have hzs : (Builtin.zeroCells z.cells (grownCap w (n + 1) c e - (n + 1))).size = grownCap w (n + 1) c e - (n + 1) := by
    rw [size_zeroCells, hzc]; omega
   simp [q1, hzs]; omega
  ·rw [Nat.zero_add, Array.getElem?_append_left (by have := (List.getElem?_eq_some_iff.1 hv).1; simpa using this)]
   simpa using hv
  ·exact ⟨rfl, rfl, rfl, by simp, fun k hk _ => Below.heap_alloc w.drew _ k hk⟩
variable {o : Oper} {a : Act}
theorem wpList_appQ {ops : Array Oper} {rest : List Oper} {Q : Exit → Act → World → Prop} (hgd : o.guard = none) (s x : Operand) (ho : o.op = .call { callee := .builtin .append, args := #[s, x], argTypes := #[t, t] })
 (E : ElemI P t e 1 bytes) (hs : a.eval s = .slice A n c) (h : Que w base e A n c xs) (hbase : base ≤ w.heap.size) {u : Value} {ad : Addr} {cx : Nat} (hx : a.eval x = .slice (some ad) 1 cx) (hu : w.cell? ad = some u) (h1 : u.oneCell' = true) (hby : (n + 1) * bytes ≤ 140737488355328) (h63 : n + 1 ≤ 9223372036854775807)
 (hK : ∀ A' c' w', Que w' base e A' (n + 1) c' (xs ++ [u]) → w.grownBy w' (Value.slice A n c).ownBlock → ((Value.slice A' (n + 1) c').ownBlock = (Value.slice A n c).ownBlock ∨ (Value.slice A' (n + 1) c').ownBlock = some w.heap.size) → wpList P ops Q rest (a.put o.dst (.slice A' (n + 1) c')) w') : wpList P ops Q (o :: rest) a w := by
 refine wpList_plain hgd fun K hK' => ?_
 obtain ⟨A', c', w', hr, h2, h3, h4⟩ := run_appQ E o.type h hbase (cx := cx) hu h1 hby h63
 unfold Oper.wp execOp
 simp only [ho, resolve, invoke, builtin, Sem.run_bind, Sem.run_pure, Result.andThen_ok, List.map_toArray, List.map_cons, List.map_nil, hs, hx, hr]
 exact hK' _ _ (hK A' c' w' h2 h3 h4)
end
end Go.Proofs.YtfaknfmndafllaaGreatDoor
namespace Go.Proofs.YtfaknfmndafllaaGreatDoor
open Go.RowKit
theorem few_any (A : Option Addr) (n c : Nat) (w : World) (hn : n ≤ 9223372036854775807) : Calls Tryz.prog 8 #[.slice A n c] w fun e w' => e = .returned (.bool (decide (n ≤ 400))) ∧ w = w' := by
 go_enter Tryz.func8, Tryz.ntmps8
 go_wp2
 go_ret
 exact ⟨ret_bool (by simp; omega), rfl⟩
def DeckAt (w : World) (g : Nat) : Prop :=
 ∃ (A : Option Addr) (n c k : Nat) (l : List Int) (s : Int), w.heap[g]? = some (.cells #[.slice A n c, .int .i64 k, .int .u64 s] 83 (0, 0)) ∧ Sl w g 1 A n c (intsV l) ∧ k ≤ n ∧ 0 ≤ s ∧ s < 18446744073709551616
theorem DeckAt.lt {w : World} {g : Nat} (h : DeckAt w g) : g < w.heap.size := by
 obtain ⟨A, n, c, k, l, s, hh, _⟩ := h
 exact (Array.getElem?_eq_some_iff.1 hh).1
theorem DeckAt.keep {w w' : World} {g : Nat} (h : DeckAt w g) (hk : ∀ i, i ≤ g → w'.heap[i]? = w.heap[i]?) : DeckAt w' g := by
 obtain ⟨A, n, c, k, l, s, hh, hs, h1, h2, h3⟩ := h
 exact ⟨A, n, c, k, l, s, (hk g (Nat.le_refl _)).trans hh, hs.keep fun p hp => World.cell?_of_block (hk p.block (by omega)), h1, h2, h3⟩
theorem DeckAt.below {w w' : World} {g B : Nat} (h : DeckAt w g) (hb : Below B w w') (hg : g < B) : DeckAt w' g := h.keep fun i hi => hb.block i (by omega)
theorem DeckAt.alloc {w : World} {g : Nat} (h : DeckAt w g) (o : Obj) : DeckAt (w.alloc o) g := h.keep fun i hi => Below.heap_alloc w o i (by have := h.lt; omega)
theorem DeckAt.drewN {w : World} {g : Nat} (h : DeckAt w g) (n : Nat) : DeckAt (w.drewN n) g := h
theorem DeckAt.drew {w : World} {g : Nat} (h : DeckAt w g) : DeckAt w.drew g := h
theorem DeckAt.setCell {w : World} {g : Nat} (h : DeckAt w g) {p : Addr} (hp : g < p.block) (u : Value) : DeckAt (w.setCell p u) g := h.keep fun i hi => Below.heap_setCell w p u i (by omega)
theorem DeckAt.grown {w w' : World} {g : Nat} (h : DeckAt w g) {row : Option Nat} (hg : w.grownBy w' row) (hr : ∀ k, row = some k → g < k) : DeckAt w' g :=
 h.keep fun i hi => hg.block i (by have := h.lt; omega) (fun e => by have := hr _ e.symm; omega)
theorem new_any (A : Option Addr) (n c B : Nat) (l : List Int) (w : World) (hr : Sl w B 1 A n c (intsV l)) (hB : B ≤ w.heap.size) :
 Calls Tryz.prog 10 #[.slice A n c] w fun e w' => e = .returned (.pointer (some ⟨w.heap.size, 0, none⟩)) ∧ Hid (DeckAt w' w.heap.size) ∧ Hid (Below w.heap.size w w') ∧ Hid (w'.heap.size = w.heap.size + 1) := by
 go_enter Tryz.func10, Tryz.ntmps10
 go_wp2
 go_ret
 refine ⟨rfl, ⟨A, n, c, 0, l, 88172645463325252, heap_alloc_new w _, (hr.more hB).alloc (Nat.le_refl _) _, Nat.zero_le _, by decide, by decide⟩, (Below.refl _ _).alloc (Nat.le_refl _) _, by unfold Hid; simp⟩
theorem wrap_u64_in (t : Int) : 0 ≤ IntKind.u64.wrap t ∧ IntKind.u64.wrap t < 18446744073709551616 := by
 have : IntKind.u64.wrap t = t % 18446744073709551616 := by simp [IntKind.wrap, IntKind.bits, IntKind.signed]
 omega
theorem next_rem (t n : Int) (hn : 1 ≤ n) : 0 ≤ wrap64 ((IntKind.u64.wrap t / 8589934592).tmod n) ∧ wrap64 ((IntKind.u64.wrap t / 8589934592).tmod n) < n := by
 obtain ⟨h0, h1⟩ := wrap_u64_in t
 generalize IntKind.u64.wrap t = q at *
 have hq : 0 ≤ q / 8589934592 ∧ q / 8589934592 ≤ 2147483647 := by omega
 generalize q / 8589934592 = z at *
 rw [Int.tmod_eq_emod_of_nonneg hq.1]
 have h2 := Int.emod_nonneg z (show n ≠ 0 by omega)
 have h3 := Int.emod_lt_of_pos z (show 0 < n by omega)
 have h4 : z % n ≤ z := by
  rcases Int.lt_or_le z n with h | h
  ·rw [Int.emod_eq_of_lt hq.1 h]; exact Int.le_refl _
  ·omega
 rw [IntWalk.wrap64_in _ ⟨by omega, by omega⟩]
 omega
section
variable {w : World} {g m c k : Nat} {A : Option Addr} {s : Int} {l : List Int}
theorem only_one (w : World) (g d : Nat) (u : Value) :
 w.grownBy ((w.drewN d).setCell ⟨g, 2, none⟩ u) (some g) ∧ ((w.drewN d).setCell ⟨g, 2, none⟩ u).heap.size = w.heap.size :=
 ⟨⟨rfl, rfl, rfl, by simp [World.setCell], fun i _ hi => Below.heap_setCell (w.drewN d) _ u i (fun e => hi (by rw [e]))⟩, by simp [World.setCell]⟩
theorem only_two (w : World) (g d : Nat) (u v : Value) :
 w.grownBy (((w.drewN d).setCell ⟨g, 1, none⟩ u).setCell ⟨g, 2, none⟩ v) (some g) ∧ (((w.drewN d).setCell ⟨g, 1, none⟩ u).setCell ⟨g, 2, none⟩ v).heap.size = w.heap.size :=
 ⟨⟨rfl, rfl, rfl, by simp [World.setCell], fun i _ hi => (Below.heap_setCell _ _ v i (fun e => hi (by rw [e]))).trans (Below.heap_setCell (w.drewN d) _ u i (fun e => hi (by rw [e])))⟩, by simp [World.setCell]⟩
theorem deck_one (hh : w.heap[g]? = some (.cells #[.slice A m c, .int .i64 k, .int .u64 s] 83 (0, 0))) (hs : Sl w g 1 A m c (intsV l)) (hk : k ≤ m) (t : Int) :
 DeckAt (w.setCell ⟨g, 2, none⟩ (.int .u64 (IntKind.u64.wrap t))) g := by
 refine ⟨A, m, c, k, l, IntKind.u64.wrap t, ?_, hs.setCell (Nat.le_refl _) _, hk, wrap_u64_in t⟩
 simp [World.setCell, Array.getElem?_modify, hh]
theorem deck_two (hh : w.heap[g]? = some (.cells #[.slice A m c, .int .i64 k, .int .u64 s] 83 (0, 0))) (hs : Sl w g 1 A m c (intsV l)) (hk : k < m) (t : Int) :
 DeckAt ((w.setCell ⟨g, 1, none⟩ (.int .i64 ((k : Int) + 1))).setCell ⟨g, 2, none⟩ (.int .u64 (IntKind.u64.wrap t))) g := by
 refine ⟨A, m, c, k + 1, l, IntKind.u64.wrap t, ?_, (hs.setCell (Nat.le_refl _) _).setCell (Nat.le_refl _) _, hk, wrap_u64_in t⟩
 simp [World.setCell, Array.getElem?_modify, hh]
end
def NextPost (w : World) (g : Nat) (n : Int) (e : Ending) (w' : World) : Prop :=
 ∃ r : Int, e = .returned (.int .i64 r) ∧ 0 ≤ r ∧ Hid (n < 1 → r = 0) ∧ Hid (1 ≤ n → r < n) ∧ Hid (DeckAt w' g) ∧ Hid (w.grownBy w' (some g)) ∧ Hid (w'.heap.size = w.heap.size)
theorem next_any (g : Nat) (n : Int) (w : World) (hd : DeckAt w g) (hn : n ≤ 9223372036854775807) : Calls Tryz.prog 12 #[.pointer (some ⟨g, 0, none⟩), .int .i64 n] w (NextPost w g n) := by
 have hlt := hd.lt
 obtain ⟨A, m, c, k, l, s, hh, hs, h1, h2, h3⟩ := hd
 obtain ⟨hmc, hcm⟩ := hs.le
 have c0 : w.cell? ⟨g, 0, none⟩ = some (.slice A m c) := cell_of_row w g 0 _ _ _ hh
 have c1 : w.cell? ⟨g, 1, none⟩ = some (.int .i64 k) := cell_of_row w g 1 _ _ _ hh
 have c2 : w.cell? ⟨g, 2, none⟩ = some (.int .u64 s) := cell_of_row w g 2 _ _ _ hh
 have f0 : ∀ j, w.frozen? ⟨g, j, none⟩ = false := fun j => by simp [World.frozen?, hh]
 have f1 := f0 1
 have f2 := f0 2
 have HH := Lib.hid hh; have HS := Lib.hid hs
 clear hh hs f0
 have H3 := Lib.hid h3; clear h3
 by_cases hk : k < m
 ·obtain ⟨b, off, x, rfl, hb, hx, hcell⟩ := HS.out.at1 hk
  clear hx
  have hki : (k : Int) < (m : Int) := by omega
  go_enter Tryz.func12, Tryz.ntmps12
  go_wp2_with fail
  go_quiet (fail)
  go_wp2_with fail
  go_quiet (fail)
  go_wp2_with fail
  ·go_ret
   exact ⟨_, rfl, Int.le_refl _, fun _ => rfl, fun h => absurd h (by omega), deck_two HH.out HS.out hk _, only_two w g _ _ _⟩
  ·go_ret
   have hr := next_rem (IntKind.u64.wrap (IntKind.u64.wrap (s * 6364136223846793005) + IntKind.u64.wrap x) + 1442695040888963407) n (by omega)
   exact ⟨_, rfl, hr.1, fun h => absurd h (by omega), fun _ => hr.2, deck_two HH.out HS.out hk _, only_two w g _ _ _⟩
 ·have hki : decide ((k : Int) < (m : Int)) = false := by simp; omega
  go_enter Tryz.func12, Tryz.ntmps12
  go_wp2_with fail
  go_quiet (fail)
  go_wp2_with fail
  ·go_ret
   exact ⟨_, rfl, Int.le_refl _, fun _ => rfl, fun h => absurd h (by omega), deck_one HH.out HS.out h1 _, only_one w g _ _⟩
  ·go_ret
   have hr := next_rem (IntKind.u64.wrap (IntKind.u64.wrap (s * 6364136223846793005)) + 1442695040888963407) n (by omega)
   exact ⟨_, rfl, hr.1, fun h => absurd h (by omega), fun _ => hr.2, deck_one HH.out HS.out h1 _, only_one w g _ _⟩
end Go.Proofs.YtfaknfmndafllaaGreatDoor
