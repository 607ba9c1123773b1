import Derived.Test.YtepicjpdhpojnaaGreatDoorX23
set_option maxRecDepth 100000
set_option maxHeartbeats 8000000
namespace Go.Proofs.YtepicjpdhpojnaaGreatDoor
section
open Go.RowKit
def nP (w : World) (ns : List Nd) (ds : List Dv) (ls : List Lk) (d q : Int) (e : Ending) (w' : World) : Prop :=
 (zL ns ds ls ≠ 0 ∧ e = .returned (.tuple #[.slice none 0 0, .int .i64 (zL ns ds ls)]) ∨ zL ns ds ls = 0 ∧ xk d q ls = none ∧ e = .returned (.tuple #[.slice none 0 0, .int .i64 15]) ∨
  zL ns ds ls = 0 ∧ ∃ (i : Nat) (A : Option Addr) (c : Nat), xk d q ls = some i ∧ e = .returned (.tuple #[.slice A (ls.length - 1) c, .int .i64 0]) ∧ Hid (yI w' w.heap.size A (ls.length - 1) c (ls.eraseIdx i))) ∧ Hid (Below w.heap.size w w')
theorem ou (An Ad Al : Option Addr) (nn cn nd cd c Bn Bd Bl : Nat) (ns : List Nd) (ds : List Dv) (ls : List Lk) (d q : Int) (w : World) (hla : Laid w) (hn : Sl w Bn 3 An nn cn (ns.flatMap Nd.cells)) (hd : Sl w Bd 5 Ad nd cd (ds.flatMap Dv.cells)) (hs : Sl w Bl 3 Al ls.length c (ls.flatMap Lk.cells)) (hBn : Bn ≤ w.heap.size) (hBd : Bd ≤ w.heap.size) (hBl : Bl ≤ w.heap.size)
 (hsn : ∀ x ∈ ns, x.name.size ≤ 9223372036854775807) (hsd : ∀ x ∈ ds, x.name.size ≤ 9223372036854775807) :
 Calls Tryz.prog 79 #[.agg #[.slice An nn cn, .slice Ad nd cd], .slice Al ls.length c, .int .i64 d, .int .i64 q] w (nP w ns ds ls d q) := by
 have HS := iD hs
 have HST : Hid (uI w #[.slice An nn cn, .slice Ad nd cd] (w.alloc (.cells #[.slice An nn cn, .slice Ad nd cd] 30))) := ⟨Blk.new _ _ _, (Below.refl _ _).alloc lR _⟩
 have HCK := iD (vC An Ad Al nn cn nd cd ls.length c Bn Bd Bl ns ds ls (w.alloc (.cells #[.slice An nn cn, .slice Ad nd cd] 30)) (hla.alloc _) (hn.below HST.out.bl hBn) (hd.below HST.out.bl hBd) (hs.below HST.out.bl hBl) (by simp; omega) (by simp; omega) (by simp; omega) hsn hsd)
 clear hn hd hs hsn hsd hla
 go_enter Tryz.func79, Tryz.ntmps79
 go_wp2_with fail
 generalize World.alloc _ _ = W at *
 refine HCK.out.mono ?_
 rintro e w1 ⟨rfl, hb1⟩
 have HS1 := iD (HST.out.later hb1)
 clear hb1 HST HCK
 by_cases h0 : zL ns ds ls = 0; rotate_left
 ·have q0 : (zL ns ds ls != 0) = true := by simpa using h0
  have HNZ := iD h0
  clear h0
  go_wp2_with fail
  go_ret2
  exact ⟨.inl ⟨HNZ.out, rfl⟩, HS1.out.bl⟩
 have HG := iD (y8 h0)
 have HZ := iD h0
 rw [h0]
 clear h0
 have hz1 := HS1.out.bl.size
 go_wp2_with fail
 refine (tU Al ls.length c Bl ls d w1 (HS.out.below HS1.out.bl hBl) (by omega)).mono ?_
 rintro e w2 ⟨rfl, hb2⟩
 have HS2 := iD (HS1.out.later hb2)
 clear hb2 HS1 hz1
 have hz2 := HS2.out.bl.size
 unfold uD
 rcases hl : yw ls d with _ | p
 ·have HN : Hid (xk d q ls = none) := lS (vh.1 hl)
  clear hl
  simp only [Option.getD_none, Option.isSome_none]
  go_wp2_with fail
  refine (pk Al ls.length c Bl ls d 0 q w2 (HS.out.below HS2.out.bl hBl) (by omega)).mono ?_
  rintro e w3 ⟨rfl, hb3⟩
  have HS3 := iD (HS2.out.later hb3)
  clear hb3 HS2
  generalize lO _ = r
  go_wp2_with fail
  go_ret2
  exact ⟨.inr (.inl ⟨HZ.out, HN.out, rfl⟩), HS3.out.bl⟩
 ·have HI : Hid (tC ⟨d, p, q⟩ ls = xk d q ls) := qz (ds := ds) fun x hx hxd => by
   have := jr HG.out hx
   rw [hxd, hl] at this
   injection this with this
   exact this.symm
  clear hl
  simp only [Option.getD_some, Option.isSome_some]
  go_wp2_with fail
  refine (pk Al ls.length c Bl ls d p q w2 (HS.out.below HS2.out.bl hBl) (by omega)).mono ?_
  rintro e w3 ⟨rfl, hb3⟩
  have HS3 := iD (HS2.out.later hb3)
  clear hb3 HS2 hz2
  rw [HI.out]
  rcases hi : xk d q ls with _ | i
  ·have HN := iD hi
   clear hi
   simp only [lO]
   go_wp2_with fail
   go_ret2
   exact ⟨.inr (.inl ⟨HZ.out, HN.out, rfl⟩), HS3.out.bl⟩
  ·have hil := mi hi
   have HN := iD hi
   have hz3 := HS3.out.bl.size
   have h128 := HG.out.1
   clear hi
   simp only [lO]
   have qi : decide ((i : Int) < 0) = false := by simp
   go_wp2_with fail
   refine (vR Al ls.length c Bl ls w3 (HS.out.below HS3.out.bl hBl) (by omega) (by omega)).mono ?_
   rintro e w4 ⟨A4, c4, rfl, hO4, hb4⟩
   have HO4 : Hid (yI w4 w.heap.size A4 ls.length c4 ls) := World.ownsRow.mono hO4.out (by omega)
   have HS4 := iD (HS3.out.later hb4.out)
   clear hO4 hb4 HS3
   go_wp2_with fail
   refine (lW A4 ls.length c4 w.heap.size i ls w4 HO4.out hil (by omega)).mono ?_
   rintro e w5 ⟨rfl, hO5, hg5⟩
   go_wp2_with fail
   go_ret2
   refine ⟨.inr (.inr ⟨HZ.out, i, A4, c4, HN.out, rfl, hO5⟩), ?_⟩
   have h1 := HS4.out.bl
   exact h1.trans ⟨hg5.out.os, hg5.out.tape, hg5.out.output, hg5.out.size, fun t ht => hg5.out.block t (by have := h1.size; omega) (fun e => by have := (HO4.out.lt t e.symm).1; omega)⟩
end
section
theorem vf {P : Program} {f : FuncId} {args : Array Value} {w : World} {n : Nat} {v : Value}
 (h : Calls P f args (w.drewN n) fun e w' => e = .returned v ∧ w.drewN n = w') : Calls P f args (w.drewN n) fun e w'' => e = .returned v ∧ ∃ m, w'' = w.drewN m :=
 h.mono fun _ _ ⟨he, hm⟩ => ⟨he, n, hm.symm⟩
end
section
section
variable {P : Program} {ops : Array Oper} {Q : Exit → Act → World → Prop} {md : Region.Mode} {S : World → Prop} {J : List Nat}
def noJ (J : List Nat) (listed : Array Bool) : Bool := J.all fun j => !listed.getD j false
theorem oZ {listed : Array Bool} {i : Nat} (h : noJ J (listed.setIfInBounds i true) = true) : noJ J listed = true := by
 unfold noJ at *
 rw [List.all_eq_true] at *
 intro j hj
 have := h j hj
 rcases hb : listed.getD j false with _ | _
 ·rfl
 ·rw [getD_set_true hb] at this; cases this
theorem jT {listed : Array Bool} {i : Nat} (hi : J.contains i = false) (h : noJ J listed = true) : noJ J (listed.setIfInBounds i true) = true := by
 unfold noJ at *
 rw [List.all_eq_true] at *
 intro j hj
 have hij : i ≠ j := fun e => by subst e; simp at hi; exact hi hj
 rw [getD_set_ne false hij]
 exact h j hj
def yq (P : Program) (md : Region.Mode) (ops : Array Oper) (Q : Exit → Act → World → Prop) (S : World → Prop) (J : List Nat) : Nat → Array Bool → Act → World → Prop
 | 0, listed, a, w => Region.ready md ops listed = [] ∧ Q .normal a w
 | fuel + 1, listed, a, w =>
  (Region.ready md ops listed = [] → Q .normal a w) ∧
  ∀ i ∈ Region.ready md ops listed, wpOp P ops Q i (fun a' w' => (noJ J (listed.setIfInBounds i true) = true → S w') ∧ yq P md ops Q S J fuel (listed.setIfInBounds i true) a' w') a w
theorem rH : ∀ (fuel : Nat) (listed : Array Bool) (a : Act) (w : World), yq P md ops Q S J fuel listed a w → wpAny P md ops Q fuel listed a w
 | 0, _, _, _, h => h
 | fuel + 1, _, _, _, h => ⟨h.1, fun i hi => wpOp_mono (fun a' w' h' => rH fuel _ a' w' h'.2) (h.2 i hi)⟩
theorem tc {T : World → Prop} {i : Nat} {oi : Oper} {v : Value} (hi : ops[i]? = some oi) (hsel : ∀ (j : Nat) (o : Oper) cs b, ops[j]? = some o → o.op ≠ .select cs b)
 (hQ : ∀ c a w, Q (.panic c) (a.put oi.dst v) w → Q (.panic c) a w) (hJi : J.contains i = false)
 (hT : ∀ listed w, vT md ops listed → listed.getD i false = false → (noJ J listed = true → S w) → T w) :
 ∀ (fuel : Nat) (listed : Array Bool) (a : Act) (w : World), vT md ops listed →
  (∀ j oj, ops[j]? = some oj → j ≠ i → listed.getD j true = false → (∀ e ∈ oj.after, Region.binds md e = true → e.on ≠ i) → oi.apart ops oj = true) →
  i ∈ Region.ready md ops listed → YieldsIf P ops T oi v a → (noJ J listed = true → S w) →
  yq P md ops Q S J fuel (listed.setIfInBounds i true) (a.put oi.dst v) w → yq P md ops Q S J (fuel + 1) listed a w := by
 intro fuel
 induction fuel with
 | zero =>
  intro listed a w hc _ hr hy hS H
  have hun : listed.getD i false = false := getD_both (mem_ready.1 hr).1
  refine ⟨fun h => (by rw [h] at hr; cases hr), fun j hj => ?_⟩
  by_cases hji : j = i
  ·subst hji; exact hy.wpOp hi (hT _ _ hc hun hS) ⟨fun h => hS (oZ h), H⟩
  ·have := ready_mono hj hji
   rw [H.1] at this
   cases this
 | succ fuel ih =>
  intro listed a w hc hfree hr hy hS H
  have hun : listed.getD i false = false := getD_both (mem_ready.1 hr).1
  refine ⟨fun h => (by rw [h] at hr; cases hr), fun j hj => ?_⟩
  by_cases hji : j = i
  ·subst hji; exact hy.wpOp hi (hT _ _ hc hun hS) ⟨fun h => hS (oZ h), H⟩
  ·have h1 := H.2 j (ready_mono hj hji)
   obtain ⟨hjun, oj, hoj, hall⟩ := mem_ready.1 hj
   have hnot : ∀ e ∈ oj.after, Region.binds md e = true → e.on ≠ i := fun e he hb heq => by
    have h1 := hall e he hb
    rw [heq, hun] at h1
    cases h1
   have h2 := wpOp_putIf hoj (hfree j oj hoj hji hjun hnot) (fun cs b => hsel i oi cs b hi) (fun cs b => hsel j oj cs b hoj) hQ hy h1
   have hfree' : ∀ k ok, ops[k]? = some ok → k ≠ i → (listed.setIfInBounds j true).getD k true = false →
    (∀ e ∈ ok.after, Region.binds md e = true → e.on ≠ i) → oi.apart ops ok = true := fun k ok hk hki hun hno => by
    refine hfree k ok hk hki ?_ hno
    by_cases hjk : j = k
    ·subst hjk; exact hjun
    ·rw [getD_set_ne true hjk] at hun; exact hun
   have hset : ∀ h : noJ J (listed.setIfInBounds j true) = true, noJ J ((listed.setIfInBounds i true).setIfInBounds j true) = true := fun h => by
    rw [Array.setIfInBounds_comm _ _ (Ne.symm hji)]
    exact jT hJi h
   refine wpOp_mono (fun a' w' h3 => ⟨fun h => h3.2.1 (hset h), ih (listed.setIfInBounds j true) a' w' (qD hc hj) hfree' (ready_mono hr (Ne.symm hji)) h3.1 (fun h => h3.2.1 (hset h)) ?_⟩) h2
   rw [Array.setIfInBounds_comm _ _ hji]
   exact h3.2.2
theorem px {i : Nat} {oi : Oper} {d : Option Tmp} {v : Value} {fuel : Nat} {listed : Array Bool} {a : Act} {w : World} (hi : ops[i]? = some oi) (hd : oi.dst = d)
 (hs : Region.noSelect ops = true) (hf : Region.free md ops listed i = true) (hr : (Region.ready md ops listed).contains i = true) (hc : xI md ops listed = true) (hJ : J.all (uO md ops i ops.size) = true) (hJi : J.contains i = false)
 (hQ : ∀ c a w, Q (.panic c) (a.put oi.dst v) w → Q (.panic c) a w) (hy : YieldsIf P ops S oi v a) (hS : S w)
 (h : yq P md ops Q S J fuel (listed.setIfInBounds i true) (a.put d v) w) : yq P md ops Q S J (fuel + 1) listed a w := by
 subst hd
 refine tc (T := S) hi (Region.noSelect_spec hs) hQ hJi (fun l w hc hun hS => hS ?_) fuel listed a w (uf hc) (Region.free_spec hi hf) (by simpa using hr) hy (fun _ => hS) h
 unfold noJ
 rw [List.all_eq_true] at *
 intro j hj
 rcases hb : l.getD j false with _ | _
 ·rfl
 ·exact (tb hc hun _ j hb (hJ j hj)).elim
theorem pM {i : Nat} {oi : Oper} {d : Option Tmp} {v : Value} {fuel : Nat} {listed : Array Bool} {a : Act} {w : World} (hi : ops[i]? = some oi) (hd : oi.dst = d)
 (hs : Region.noSelect ops = true) (hf : Region.free md ops listed i = true) (hr : (Region.ready md ops listed).contains i = true) (hc : xI md ops listed = true) (hJi : J.contains i = false)
 (hQ : ∀ c a w, Q (.panic c) (a.put oi.dst v) w → Q (.panic c) a w) (hy : YieldsIf P ops (fun _ => True) oi v a) (hS : S w)
 (h : yq P md ops Q S J fuel (listed.setIfInBounds i true) (a.put d v) w) : yq P md ops Q S J (fuel + 1) listed a w := by
 subst hd
 exact tc (T := fun _ => True) hi (Region.noSelect_spec hs) hQ hJi (fun _ _ _ _ _ => trivial) fuel listed a w (uf hc) (Region.free_spec hi hf) (by simpa using hr) hy (fun _ => hS) h
theorem nU {k : Nat} {o : Oper} {fuel : Nat} {listed : Array Bool} {a : Act} {w : World} (b : Bool) (hr : Region.ready md ops listed = [k]) (hb : noJ J (listed.setIfInBounds k true) = b) (ho : ops[k]? = some o)
 (h : ∀ K' : Act → World → Prop, Shut (∀ a w, (b = true → S w) → ((b = true → S w) → yq P md ops Q S J fuel (listed.setIfInBounds k true) a w) → K' a w) → if Region.wanted o (yielded ops a.tmps) = true then Oper.wp P o a w K' Q else K' (a.put o.dst undef) w) :
 yq P md ops Q S J (fuel + 1) listed a w := by
 subst hb
 refine ⟨fun h0 => (by rw [hr] at h0; cases h0), fun i hi => ?_⟩
 rw [hr] at hi
 obtain rfl := List.mem_singleton.1 hi
 exact wpOp_step ho (fun K' hK => h K' (fun a w hS hW => hK a w ⟨hS, hW hS⟩))
theorem sm {listed : Array Bool} {a : Act} {w : World} (hr : Region.ready md ops listed = []) (h : Q .normal a w) : ∀ fuel, yq P md ops Q S J fuel listed a w
 | 0 => ⟨hr, h⟩
 | _ + 1 => ⟨fun _ => h, by rw [hr]; simp⟩
theorem si {id : Nat} {a : Act} {w : World} (hm : P.follows .mixedOrders = true) (hS : S w.drew)
 (h : S w.drew → yq P .any ops Q S J ops.size (Array.replicate ops.size false) a w.drew) : (Code.region id ops true).wp P Q a w :=
 wp_region_any hm (rH _ _ _ _ (h hS))
end
end
section
section
variable {P : Program} {ops : Array Oper} {Q : Exit → Act → World → Prop} {md : Region.Mode} {S : World → Prop} {J : List Nat}
theorem yV {i : Nat} {oi : Oper} {d : Option Tmp} {v : Value} {fuel : Nat} {listed : Array Bool} (L : Array Bool) {a : Act} {w : World} (hl : listed.setIfInBounds i true = L) (hi : ops[i]? = some oi) (hd : oi.dst = d)
 (hs : Region.noSelect ops = true) (hf : Region.free md ops listed i = true) (hr : (Region.ready md ops listed).contains i = true) (hc : xI md ops listed = true) (hJ : J.all (uO md ops i ops.size) = true) (hJi : J.contains i = false)
 (hQ : ∀ c a w, Q (.panic c) (a.put oi.dst v) w → Q (.panic c) a w) (hy : YieldsIf P ops S oi v a) (hS : S w)
 (h : yq P md ops Q S J fuel L (a.put d v) w) : yq P md ops Q S J (fuel + 1) listed a w := by
 subst hl
 exact px hi hd hs hf hr hc hJ hJi hQ hy hS h
theorem qI {i : Nat} {oi : Oper} {d : Option Tmp} {v : Value} {fuel : Nat} {listed : Array Bool} (L : Array Bool) {a : Act} {w : World} (hl : listed.setIfInBounds i true = L) (hi : ops[i]? = some oi) (hd : oi.dst = d)
 (hs : Region.noSelect ops = true) (hf : Region.free md ops listed i = true) (hr : (Region.ready md ops listed).contains i = true) (hc : xI md ops listed = true) (hJi : J.contains i = false)
 (hQ : ∀ c a w, Q (.panic c) (a.put oi.dst v) w → Q (.panic c) a w) (hy : YieldsIf P ops (fun _ => True) oi v a) (hS : S w)
 (h : yq P md ops Q S J fuel L (a.put d v) w) : yq P md ops Q S J (fuel + 1) listed a w := by
 subst hl
 exact pM hi hd hs hf hr hc hJi hQ hy hS h
theorem tK (i d : Nat) {oi : Oper} {v : Value} {fuel : Nat} {listed : Array Bool} (L : Array Bool) {a a' : Act} {w : World} (hS : S w) (h : yq P md ops Q S J fuel L a' w)
 (hi : ops[i]? = some oi := by rfl) (hd : oi.dst = some d := by rfl) (hy : ∀ w, True → (execOp a.eval oi).run P w = .ok (.value v) w := by intro w hSw; (try dsimp only at hSw); go_simp; try with_reducible rfl) (hp : a.put (some d) v = a' := by (try simp only [Act.put, sA, s0, s1]); rfl) (hw : Region.wanted oi (yielded ops a.tmps) = true := by rfl) (hl : listed.setIfInBounds i true = L := by kernel_rfl) (hs : Region.noSelect ops = true := by kernel_rfl) (hf : Region.free md ops listed i = true := by kernel_rfl) (hr : (Region.ready md ops listed).contains i = true := by kernel_rfl) (hc : xI md ops listed = true := by kernel_rfl) (hJ : J.contains i = false := by kernel_rfl) (hQ : ∀ c a w, Q (.panic c) (a.put oi.dst v) w → Q (.panic c) a w := by exact fun _ _ _ h => h) : yq P md ops Q S J (fuel + 1) listed a w :=
 qI L hl hi hd hs hf hr hc hJ hQ (Or.inl ⟨hw, hy⟩) hS (hp ▸ h)
theorem xX {k : Nat} {o : Oper} {fuel : Nat} {listed : Array Bool} (L : Array Bool) {a : Act} {w : World} (b : Bool) (hl : listed.setIfInBounds k true = L) (hr : Region.ready md ops listed = [k]) (hb : noJ J L = b) (ho : ops[k]? = some o)
 (h : ∀ K' : Act → World → Prop, Shut (∀ a w, (b = true → S w) → ((b = true → S w) → yq P md ops Q S J fuel L a w) → K' a w) → if Region.wanted o (yielded ops a.tmps) = true then Oper.wp P o a w K' Q else K' (a.put o.dst undef) w) :
 yq P md ops Q S J (fuel + 1) listed a w := by
 subst hl
 exact nU b hr hb ho h
end
end
end Go.Proofs.YtepicjpdhpojnaaGreatDoor
