import Derived.Test.YtepicjpdhpojnaaGreatDoorX27
namespace Go.Proofs.YtepicjpdhpojnaaGreatDoor
section
theorem pf {a b : List UInt8} {i j : Nat} (hi : i < 100) (hj : j < 100) (hl : a.length = b.length) (h : nm2 a i = nm2 b j) : a = b ∧ i = j := by
 unfold nm2 at h
 have h1 := List.append_inj h hl
 refine ⟨h1.1, ?_⟩
 have h2 := h1.2
 simp only [List.cons.injEq, and_true] at h2
 have e1 := congrArg UInt8.toNat h2.1
 have e2 := congrArg UInt8.toNat h2.2
 rw [UInt8.toNat_ofNat', UInt8.toNat_ofNat'] at e1 e2
 omega
theorem oa (c : UInt8) (i : Nat) (hc : vn c.toNat true = true) (hi : i < 100) : xK (nm2 [c] i) = true := by
 unfold xK nm2
 have e1 : (UInt8.ofNat (48 + i / 10)).toNat = 48 + i / 10 := by rw [UInt8.toNat_ofNat']; omega
 have e2 : (UInt8.ofNat (48 + i % 10)).toNat = 48 + i % 10 := by rw [UInt8.toNat_ofNat']; omega
 have hd : ∀ k : Nat, k < 10 → vn ((48 + k : Nat) : Int) false = true := by
  intro k hk
  rw [pA]
  have : nB ((48 + k : Nat) : Int) = true := by simp [nB]; omega
  rw [this]
  simp
 have hall : ∀ k, k < ([c] ++ [UInt8.ofNat (48 + i / 10), UInt8.ofNat (48 + i % 10)]).length → vn (([c] ++ [UInt8.ofNat (48 + i / 10), UInt8.ofNat (48 + i % 10)]).getD k 0).toNat (k == 0) = true := by
  intro k hk
  match k, hk with
  | 0, _ => exact hc
  | 1, _ =>
   have := hd (i / 10) (by omega)
   simp only [List.singleton_append, List.getD_cons_succ, List.getD_cons_zero]
   rw [e1]; exact this
  | 2, _ =>
   have := hd (i % 10) (by omega)
   simp only [List.singleton_append, List.getD_cons_succ, List.getD_cons_zero]
   rw [e2]; exact this
  | k + 3, hk => simp at hk; omega
 rw [decide_eq_true hall]
 simp
theorem uX {k : Nat} (h : 1 ≤ k ∧ k ≤ 6) : ∃ c : UInt8, mX k = [c] ∧ c ≠ 78 ∧ vn c.toNat true = true := by
 rcases (show k = 1 ∨ k = 2 ∨ k = 3 ∨ k = 4 ∨ k = 5 ∨ k = 6 by omega) with rfl | rfl | rfl | rfl | rfl | rfl
 ·exact ⟨76, rfl, by decide, by decide⟩
 ·exact ⟨81, rfl, by decide, by decide⟩
 ·exact ⟨68, rfl, by decide, by decide⟩
 ·exact ⟨69, rfl, by decide, by decide⟩
 ·exact ⟨83, rfl, by decide, by decide⟩
 ·exact ⟨71, rfl, by decide, by decide⟩
theorem nJ {ns : List Nd} (h : ∀ i x, ns[i]? = some x → vA (Un ns i) x = 0) : ∀ (k i : Nat), ns.length - i = k → xm (Un ns i) (ns.drop i) = 0
 | 0, i, hk => by rw [List.drop_eq_nil_of_le (by omega)]; rfl
 | k + 1, i, hk => by
  have hx : ns[i]? = some (ns[i]'(by omega)) := List.getElem?_eq_getElem (by omega)
  rw [(sY hx (h i _ hx)).1, ← mt hx]
  exact nJ h k (i + 1) (by omega)
theorem nK {ns : List Nd} {ds : List Dv} (h : ∀ j x, ds[j]? = some x → xl ns.length (Ud ns ds j) x = 0) : ∀ (k j : Nat), ds.length - j = k → vo ns.length (Ud ns ds j) (ds.drop j) = 0
 | 0, j, hk => by rw [List.drop_eq_nil_of_le (by omega)]; rfl
 | k + 1, j, hk => by
  have hx : ds[j]? = some (ds[j]'(by omega)) := List.getElem?_eq_getElem (by omega)
  rw [u6 hx (h j _ hx), ← pp hx]
  exact nK h k (j + 1) (by omega)
section
variable {nodes dmax : Int} {ns : List Nd} {ds : List Dv}
theorem sD.check (h : sD nodes dmax ns ds) (hn : nodes ≤ 32) (hd : dmax ≤ 64) : zX ns ds = 0 := by
 have hnl := h.nm
 have hdl := h.dm
 have hN := nJ (ns := ns) (fun i x hx => by
  obtain ⟨h1, h2, h3, h4, h5⟩ := h.nok i x hx
  have hi : i < ns.length := (List.getElem?_eq_some_iff.1 hx).1
  unfold vA
  rw [h1, tI, if_neg (by rw [oa 78 i (by decide) (by omega)]; simp), if_neg ?_, if_neg (by omega), if_neg (by simp [ym]; omega)]
  intro hm
  obtain ⟨k, y, hk, hy, he⟩ := pg.1 hm
  rw [(h.nok k y hy).1, tI] at he
  have := (pf (by omega) (by omega) rfl he).2
  omega) _ 0 rfl
 have hD := nK (ns := ns) (ds := ds) (fun j x hx => by
  obtain ⟨h1, h2, h3, h4, h5, h6⟩ := h.dok j x hx
  have hj : j < ds.length := (List.getElem?_eq_some_iff.1 hx).1
  obtain ⟨c, hc1, hc2, hc3⟩ := uX (k := x.kind.toNat) (by omega)
  unfold xl
  rw [h1, tI, hc1, if_neg (by rw [oa c j hc3 (by omega)]; simp), if_neg ?_, if_neg (by omega), if_neg (by rw [h4]; simp), if_neg (by simp [ym]; omega)]
  intro hm
  rcases ph.1 hm with ⟨k, y, hk, hy, he⟩ | ⟨k, y, hk, hy, he⟩
  ·obtain ⟨g1, g2, g3, _⟩ := h.dok k y hy
   obtain ⟨d, hd1, _, _⟩ := uX (k := y.kind.toNat) (by omega)
   rw [g1, tI, hd1] at he
   have := (pf (a := [d]) (b := [c]) (i := k) (j := j) (by omega) (by omega) rfl he).2
   omega
  ·rw [(h.nok k y hy).1, tI] at he
   have := (pf (a := [78]) (b := [c]) (i := k) (j := j) (by omega) (by omega) rfl he).1
   injection this with this
   exact hc2 this.symm) _ 0 rfl
 unfold zX
 rw [if_neg (by omega), if_neg (by omega), if_pos (by simpa [Un] using hN), rN]
 simpa [Ud, Un] using hD
theorem sD.names (h : sD nodes dmax ns ds) : (∀ x ∈ ns, x.name.size ≤ 9223372036854775807) ∧ (∀ x ∈ ds, x.name.size ≤ 9223372036854775807) := by
 constructor
 ·intro x hx
  obtain ⟨j, hj⟩ := List.mem_iff_getElem?.1 hx
  rw [(h.nok j x hj).1, s7]
  simp [nm2]
 ·intro x hx
  obtain ⟨j, hj⟩ := List.mem_iff_getElem?.1 hx
  obtain ⟨h1, h2, h3, _⟩ := h.dok j x hj
  obtain ⟨c, hc, _⟩ := uX (k := x.kind.toNat) (by omega)
  rw [h1, s7, hc]
  simp [nm2]
end
end
section
open Go.RowKit
structure yU (w0 : World) (g : Nat) (An : Option Addr) (nn cn : Nat) (ns : List Nd) (Ad : Option Addr) (nd cd : Nat) (ds : List Dv) (w : World) : Prop where
 lt : g < w0.heap.size
 deck : zU w g
 gr : w0.grownBy w (some g)
 rb : Blk w w0.heap.size 30 #[.slice none 0 0, .slice none 0 0]
 nb : Blk w (w0.heap.size + 1) 30 #[.slice An nn cn, .slice Ad nd cd]
 rn : w.ownsRow (w0.heap.size + 2) 74 3 (.slice An nn cn) nn (ns.flatMap Nd.cells)
 rd : w.ownsRow (w0.heap.size + 2) 38 5 (.slice Ad nd cd) nd (ds.flatMap Dv.cells)
 ne : (Value.slice An nn cn).ownBlock = none ∨ (Value.slice An nn cn).ownBlock ≠ (Value.slice Ad nd cd).ownBlock
section
variable {w0 w w' : World} {g : Nat} {An Ad : Option Addr} {nn cn nd cd : Nat} {ns : List Nd} {ds : List Dv}
theorem yU.size (h : yU w0 g An nn cn ns Ad nd cd ds w) : w0.heap.size + 2 ≤ w.heap.size := h.nb.lt
theorem yU.next (h : yU w0 g An nn cn ns Ad nd cd ds w) (hd : zU w' g) (hg : w.grownBy w' (some g)) : yU w0 g An nn cn ns Ad nd cd ds w' := by
 have hl := h.lt
 exact ⟨hl, hd, zO h.gr hg, h.rb.grown hg (by simp; omega), h.nb.grown hg (by simp; omega), h.rn.kept hg (zf fun b e => by have := (h.rn.lt b e).1; omega), h.rd.kept hg (zf fun b e => by have := (h.rd.lt b e).1; omega), h.ne⟩
theorem yU.later (h : yU w0 g An nn cn ns Ad nd cd ds w) (hb : Below w.heap.size w w') : yU w0 g An nn cn ns Ad nd cd ds w' := by
 have hg := zN hb none
 exact ⟨h.lt, h.deck.below hb h.deck.lt, zO h.gr (zN hb _), h.rb.below hb h.rb.lt, h.nb.below hb h.nb.lt, h.rn.kept hg (Classical.em _), h.rd.kept hg (Classical.em _), h.ne⟩
theorem yU.alloc (h : yU w0 g An nn cn ns Ad nd cd ds w) (o : Obj) : yU w0 g An nn cn ns Ad nd cd ds (w.alloc o) := h.later ((Below.refl _ _).alloc lR _)
theorem yU.drew (h : yU w0 g An nn cn ns Ad nd cd ds w) : yU w0 g An nn cn ns Ad nd cd ds w.drew := h.later (Below.refl _ _).drew
theorem yU.store {q j : Nat} {u : Value} (h : yU w0 g An nn cn ns Ad nd cd ds w) (hq : w0.heap.size + 2 ≤ q) (hn : ∀ b, (Value.slice An nn cn).ownBlock = some b → b ≠ q) (hd : ∀ b, (Value.slice Ad nd cd).ownBlock = some b → b ≠ q) : yU w0 g An nn cn ns Ad nd cd ds (w.setCell ⟨q, j, none⟩ u) := by
 have hl := h.lt
 have hg : w.grownBy (w.setCell ⟨q, j, none⟩ u) (some q) := ⟨rfl, rfl, rfl, by simp [World.setCell], fun i _ hi => Below.heap_setCell w _ _ i (fun e => hi (by rw [e]))⟩
 exact ⟨hl, h.deck.setCell (by simp; omega) _, zg h.gr (by simp; omega) _, h.rb.far (by simp; omega) _, h.nb.far (by simp; omega) _, h.rn.kept hg (zf hn), h.rd.kept hg (zf hd), h.ne⟩
theorem yU.dev {A1 : Option Addr} {c1 : Nat} {x : Dv} {w1 : World} (h : yU w0 g An nn cn ns Ad nd cd ds w) (ho : w1.ownsRow (w0.heap.size + 2) 38 5 (.slice A1 (nd + 1) c1) (nd + 1) (ds.flatMap Dv.cells ++ x.cells)) (hg : w.grownBy w1 (Value.slice Ad nd cd).ownBlock)
 (hv : (Value.slice A1 (nd + 1) c1).ownBlock = (Value.slice Ad nd cd).ownBlock ∨ (Value.slice A1 (nd + 1) c1).ownBlock = some w.heap.size) : yU w0 g An nn cn ns A1 (nd + 1) c1 (ds ++ [x]) (w1.setCell ⟨w0.heap.size + 1, 1, none⟩ (.slice A1 (nd + 1) c1)) := by
 have hl := h.lt
 have hz := h.size
 have hr : ∀ b, (Value.slice Ad nd cd).ownBlock = some b → w0.heap.size + 2 ≤ b ∧ b < w.heap.size := fun b e => h.rd.lt b e
 have hr1 : ∀ b, (Value.slice A1 (nd + 1) c1).ownBlock = some b → w0.heap.size + 2 ≤ b := fun b e => (ho.lt b e).1
 have far : ∀ q, q < w0.heap.size + 2 → some q ≠ (Value.slice Ad nd cd).ownBlock := fun q hq e => by have := (hr q e.symm).1; omega
 have hnn : (Value.slice An nn cn).ownBlock = none ∨ (Value.slice An nn cn).ownBlock ≠ (Value.slice Ad nd cd).ownBlock := h.ne
 have hg3 : w1.grownBy (w1.setCell ⟨w0.heap.size + 1, 1, none⟩ (.slice A1 (nd + 1) c1)) (some (w0.heap.size + 1)) := ⟨rfl, rfl, rfl, by simp [World.setCell], fun i _ hi => Below.heap_setCell w1 _ _ i (fun e => hi (by rw [e]))⟩
 refine ⟨hl, (h.deck.grown hg (fun k e => by have := (hr k e).1; omega)).setCell (by simp; omega) _, zg (xf h.gr hg (fun k e => by have := (hr k e).1; omega)) (by simp) _, (h.rb.grown hg (far _ (by omega))).far (by simp) _, (h.nb.grown hg (far _ (by omega))).set 1 _, (h.rn.kept hg hnn).kept hg3 (zf fun b e => by have := (h.rn.lt b e).1; omega), ?_, ?_⟩
 ·rw [List.flatMap_append]
  exact (ho.kept hg3 (zf fun b e => by have := hr1 b e; omega)).mono lR |> fun h => by simpa using h
 ·rcases hv with e | e
  ·rw [e]; exact h.ne
  ·rw [e]
   exact (zf fun b eb => by have := (h.rn.lt b eb).2; omega)
theorem yU.node {A1 : Option Addr} {c1 : Nat} {x : Nd} {w1 : World} (h : yU w0 g An nn cn ns Ad nd cd ds w) (ho : w1.ownsRow (w0.heap.size + 2) 74 3 (.slice A1 (nn + 1) c1) (nn + 1) (ns.flatMap Nd.cells ++ x.cells)) (hg : w.grownBy w1 (Value.slice An nn cn).ownBlock)
 (hv : (Value.slice A1 (nn + 1) c1).ownBlock = (Value.slice An nn cn).ownBlock ∨ (Value.slice A1 (nn + 1) c1).ownBlock = some w.heap.size) : yU w0 g A1 (nn + 1) c1 (ns ++ [x]) Ad nd cd ds (w1.setCell ⟨w0.heap.size + 1, 0, none⟩ (.slice A1 (nn + 1) c1)) := by
 have hl := h.lt
 have hz := h.size
 have hr : ∀ b, (Value.slice An nn cn).ownBlock = some b → w0.heap.size + 2 ≤ b ∧ b < w.heap.size := fun b e => h.rn.lt b e
 have hr1 : ∀ b, (Value.slice A1 (nn + 1) c1).ownBlock = some b → w0.heap.size + 2 ≤ b := fun b e => (ho.lt b e).1
 have far : ∀ q, q < w0.heap.size + 2 → some q ≠ (Value.slice An nn cn).ownBlock := fun q hq e => by have := (hr q e.symm).1; omega
 have hnn : (Value.slice Ad nd cd).ownBlock = none ∨ (Value.slice Ad nd cd).ownBlock ≠ (Value.slice An nn cn).ownBlock := by
  cases hv : (Value.slice Ad nd cd).ownBlock with
  | none => exact .inl rfl
  | some b => exact .inr fun e => h.ne.elim (fun h0 => by rw [h0] at e; cases e) (fun h0 => h0 (by rw [hv, e]))
 have hg3 : w1.grownBy (w1.setCell ⟨w0.heap.size + 1, 0, none⟩ (.slice A1 (nn + 1) c1)) (some (w0.heap.size + 1)) := ⟨rfl, rfl, rfl, by simp [World.setCell], fun i _ hi => Below.heap_setCell w1 _ _ i (fun e => hi (by rw [e]))⟩
 refine ⟨hl, (h.deck.grown hg (fun k e => by have := (hr k e).1; omega)).setCell (by simp; omega) _, zg (xf h.gr hg (fun k e => by have := (hr k e).1; omega)) (by simp) _, (h.rb.grown hg (far _ (by omega))).far (by simp) _, (h.nb.grown hg (far _ (by omega))).set 0 _, ?_, (h.rd.kept hg hnn).kept hg3 (zf fun b e => by have := (h.rd.lt b e).1; omega), ?_⟩
 ·have := ho.kept hg3 (zf fun b e => by have := hr1 b e; omega)
  rw [List.flatMap_append]
  simpa using this
 ·rcases hv with e | e
  ·rw [e]; exact h.ne
  ·rw [e]
   refine .inr fun e2 => ?_
   have := (h.rd.lt _ e2.symm).2
   omega
theorem yU.lit {x : List Dv} {n : Nat} {An : Option Addr} {nn cn : Nat} {ns : List Nd} (h : yU w0 g An nn cn ns none 0 0 [] w) (hx : x.length = n) (hn : n ≤ 1000) : yU w0 g An nn cn ns (some ⟨w.heap.size, 0, none⟩) n n x ((w.alloc (.cells (x.flatMap Dv.cells).toArray 38)).setCell ⟨w0.heap.size + 1, 1, none⟩ (.slice (some ⟨w.heap.size, 0, none⟩) n n)) := by
 have hl := h.lt
 have hz := h.size
 have hb : Below w.heap.size w (w.alloc (.cells (x.flatMap Dv.cells).toArray 38)) := (Below.refl _ _).alloc lR _
 have h1 := h.later hb
 have hg : (w.alloc (.cells (x.flatMap Dv.cells).toArray 38)).grownBy ((w.alloc (.cells (x.flatMap Dv.cells).toArray 38)).setCell ⟨w0.heap.size + 1, 1, none⟩ (.slice (some ⟨w.heap.size, 0, none⟩) n n)) (some (w0.heap.size + 1)) := ⟨rfl, rfl, rfl, by simp [World.setCell], fun i _ hi => Below.heap_setCell _ _ _ i (fun e => hi (by rw [e]))⟩
 have hlen : (x.flatMap Dv.cells).toArray.size = n * 5 := by
  rw [List.size_toArray, ← hx]
  clear hx h h1 hb hg
  induction x with
  | nil => rfl
  | cons y r ih => rw [List.flatMap_cons, List.length_append, ih]; simp [Dv.cells]; omega
 have ho := World.ownsRow_lit (base := w0.heap.size + 2) (e := 38) (size := 5) w (x.flatMap Dv.cells).toArray n (by omega) (by simp only [maxLen]; omega) hlen
 refine ⟨hl, h1.deck.setCell (by simp; omega) _, zg h1.gr (by simp) _, h1.rb.far (by simp) _, h1.nb.set 1 _, h1.rn.kept hg (zf fun b e => by have := (h1.rn.lt b e).1; omega), ?_, ?_⟩
 ·simpa using ho.kept hg (zf fun b e => by have := (ho.lt b e).1; omega)
 ·exact zf (q := w.heap.size) fun b e => by have := (h.rn.lt b e).2; omega
end
def nm1 (i : Nat) : ByteArray := mkS [78, UInt8.ofNat (48 + i)]
def t8 (ns : List Nd) : Prop := ∀ i x, ns[i]? = some x → x.name = nm1 i ∧ 0 ≤ x.cust ∧ x.cust ≤ 30 ∧ x.comp = 1 + ((i / 3 : Nat) : Int)
theorem t8.snoc {ns : List Nd} (h : t8 ns) {x : Nd} (hx : x.name = nm1 ns.length ∧ 0 ≤ x.cust ∧ x.cust ≤ 30 ∧ x.comp = 1 + ((ns.length / 3 : Nat) : Int)) : t8 (ns ++ [x]) := by
 intro i y hy
 rcases Nat.lt_trichotomy i ns.length with h1 | h1 | h1
 ·rw [List.getElem?_append_left h1] at hy; exact h i y hy
 ·subst h1; simp at hy; subst hy; exact hx
 ·rw [List.getElem?_eq_none (by simp; omega)] at hy; cases hy
def tB (k c : Int) : List Dv := [⟨⟨#[83, 48]⟩, 5, 0, -1, 1⟩, ⟨⟨#[88, 48]⟩, 2, 0, 1, 1⟩, ⟨⟨#[88, 49]⟩, 3, 1, 2, 1⟩, ⟨⟨#[69, 50]⟩, 4, 2, -1, 1⟩, ⟨⟨#[88, 50]⟩, k, 2, 3, c⟩, ⟨⟨#[69, 51]⟩, 4, 3, -1, 2⟩, ⟨⟨#[88, 51]⟩, 3, 3, 4, 2⟩, ⟨⟨#[88, 52]⟩, 2, 4, 5, 2⟩, ⟨⟨#[83, 53]⟩, 5, 5, -1, 2⟩]
def tJ : List Int := [2, 2, 2, 1, 2, 1, 2, 2, 2]
def dvG : Dv := ⟨⟨#[71, 51]⟩, 6, 3, -1, 2⟩
def dvD (c : Int) : Dv := ⟨⟨#[68, 49]⟩, 3, 1, 4, c⟩
def t7 (ds : List Dv) (ss : List Int) : Prop :=
 ∃ k c : Int, (k = 1 ∨ k = 3) ∧ (c = 1 ∨ c = 2) ∧ ((ds = tB k c ∧ (ss = tJ ∨ ss = tJ.set 1 1 ∨ ss = tJ.set 2 1)) ∨ (ds = tB k c ++ [dvG] ∧ (ss = tJ ++ [1] ∨ ss = tJ ++ [2])) ∨ (∃ e : Int, (e = 1 ∨ e = 2) ∧ ds = tB k c ++ [dvD e] ∧ ss = tJ ++ [1]))
theorem t7.pos {ds : List Dv} {ss : List Int} (h : t7 ds ss) : ss.length = ds.length ∧ 9 ≤ ds.length ∧ ds.length ≤ 10 ∧ ∀ p ∈ ss, yv p = true := by
 obtain ⟨k, c, -, -, h⟩ := h
 rcases h with ⟨rfl, rfl | rfl | rfl⟩ | ⟨rfl, rfl | rfl⟩ | ⟨e, -, rfl, rfl⟩ <;> exact ⟨rfl, by simp [tB], by simp [tB], by decide⟩
theorem t7.chk {ds : List Dv} {ss : List Int} (h : t7 ds ss) : vo 6 [toL (nm1 5), toL (nm1 4), toL (nm1 3), toL (nm1 2), toL (nm1 1), toL (nm1 0)] ds = 0 := by
 obtain ⟨k, c, hk, hc, h⟩ := h
 rcases hk with rfl | rfl <;> rcases hc with rfl | rfl <;> rcases h with ⟨rfl, -⟩ | ⟨rfl, -⟩ | ⟨e, rfl | rfl, rfl, -⟩ <;> decide
theorem uv {used : List (List UInt8)} {nm : ByteArray} {c p : Int} (hn : xK (toL nm) = true) (hu : toL nm ∉ used) (hc : 0 ≤ c ∧ c ≤ 30) (hp : ym p = true) : vA used ⟨nm, c, p⟩ = 0 := by
 unfold vA
 rw [if_neg (by simp [hn]), if_neg hu, if_neg (by simp only; omega), if_neg (by simp [hp])]
theorem lC {ns : List Nd} {ds : List Dv} {ss : List Int} (h : t8 ns) (hl : ns.length = 6) (hd : t7 ds ss) : zX ns ds = 0 := by
 obtain ⟨-, h9, h10, -⟩ := hd.pos
 have hc := hd.chk
 match ns, hl with
 | [⟨n0, c0, p0⟩, ⟨n1, c1, p1⟩, ⟨n2, c2, p2⟩, ⟨n3, c3, p3⟩, ⟨n4, c4, p4⟩, ⟨n5, c5, p5⟩], _ =>
  have g0 := h 0 _ rfl; have g1 := h 1 _ rfl; have g2 := h 2 _ rfl; have g3 := h 3 _ rfl; have g4 := h 4 _ rfl; have g5 := h 5 _ rfl
  obtain ⟨rfl, a0, b0, rfl⟩ := g0
  obtain ⟨rfl, a1, b1, rfl⟩ := g1
  obtain ⟨rfl, a2, b2, rfl⟩ := g2
  obtain ⟨rfl, a3, b3, rfl⟩ := g3
  obtain ⟨rfl, a4, b4, rfl⟩ := g4
  obtain ⟨rfl, a5, b5, rfl⟩ := g5
  unfold zX
  rw [if_neg (by simp), if_neg (by omega), if_pos]
  ·exact hc
  ·simp only at a0 b0 a1 b1 a2 b2 a3 b3 a4 b4 a5 b5
   unfold xm; rw [if_pos (uv (by decide) (by decide) ⟨a0, b0⟩ (by decide))]
   unfold xm; rw [if_pos (uv (by decide) (by dsimp only; decide) ⟨a1, b1⟩ (by decide))]
   unfold xm; rw [if_pos (uv (by decide) (by dsimp only; decide) ⟨a2, b2⟩ (by decide))]
   unfold xm; rw [if_pos (uv (by decide) (by dsimp only; decide) ⟨a3, b3⟩ (by decide))]
   unfold xm; rw [if_pos (uv (by decide) (by dsimp only; decide) ⟨a4, b4⟩ (by decide))]
   unfold xm; rw [if_pos (uv (by decide) (by dsimp only; decide) ⟨a5, b5⟩ (by decide))]
   rfl
theorem lA {ns : List Nd} {ds : List Dv} {ss : List Int} (h : t8 ns) (hl : ns.length = 6) (hd : t7 ds ss) : zk ns ds ⟨ss, [], []⟩ = 0 := by
 obtain ⟨h1, -, -, h2⟩ := hd.pos
 have hc := lC h hl hd
 have hs : zV ns ds ss = 0 := by unfold zV; rw [if_neg (by simp [hc]), if_neg (by simp [h1]), if_pos h2]
 exact wJ hs (by unfold zL; rw [if_neg (by simp [hc]), if_neg (by simp)]; rfl) (fun k hk => by cases hk) (fun i hi => by cases hi)
end
section
open Go.RowKit
structure wS (w0 : World) (g : Nat) (An : Option Addr) (cn : Nat) (ns : List Nd) (Ad : Option Addr) (nd cd : Nat) (ds : List Dv) (As : Option Addr) (m ca : Nat) (ss : List Int) (w : World) : Prop where
 t : yU w0 g An 6 cn ns Ad nd cd ds w
 o : zQ w (w0.heap.size + 2) As m ca ss
 n1 : ∀ b, (Value.slice As m ca).ownBlock = some b → (Value.slice An 6 cn).ownBlock ≠ some b ∧ (Value.slice Ad nd cd).ownBlock ≠ some b
section
variable {w0 w w' w1 : World} {g cn nd cd m ca : Nat} {An Ad As : Option Addr} {ns : List Nd} {ds : List Dv} {ss : List Int}
theorem wS.next (h : wS w0 g An cn ns Ad nd cd ds As m ca ss w) (hd : zU w' g) (hg : w.grownBy w' (some g)) : wS w0 g An cn ns Ad nd cd ds As m ca ss w' :=
 ⟨h.t.next hd hg, h.o.kept hg (zf fun b e => by have := (h.o.lt b e).1; have := h.t.lt; omega), h.n1⟩
theorem wS.later (h : wS w0 g An cn ns Ad nd cd ds As m ca ss w) (hb : Below w.heap.size w w') : wS w0 g An cn ns Ad nd cd ds As m ca ss w' := ⟨h.t.later hb, h.o.later hb, h.n1⟩
theorem wS.alloc (h : wS w0 g An cn ns Ad nd cd ds As m ca ss w) (o : Obj) : wS w0 g An cn ns Ad nd cd ds As m ca ss (w.alloc o) := h.later ((Below.refl _ _).alloc lR _)
theorem wS.lit {l : List Int} {n : Nat} (h : yU w0 g An 6 cn ns Ad nd cd ds w) (hn : n ≤ 1000) (hl : l.length = n) : wS w0 g An cn ns Ad nd cd ds (some ⟨w.heap.size, 0, none⟩) n n l (w.alloc (.cells (zK l).toArray 3)) := by
 have hz := h.size
 refine ⟨h.alloc _, tq (by omega) (by omega) (by rw [xF, hl]), fun b e => ?_⟩
 obtain rfl : w.heap.size = b := by injection e
 exact ⟨fun e => by have := (h.rn.lt _ e).2; omega, fun e => by have := (h.rd.lt _ e).2; omega⟩
theorem wS.dev {A1 : Option Addr} {c1 : Nat} {x : Dv} (h : wS w0 g An cn ns Ad nd cd ds As m ca ss w) (ho : w1.ownsRow (w0.heap.size + 2) 38 5 (.slice A1 (nd + 1) c1) (nd + 1) (ds.flatMap Dv.cells ++ x.cells)) (hg : w.grownBy w1 (Value.slice Ad nd cd).ownBlock)
 (hv : (Value.slice A1 (nd + 1) c1).ownBlock = (Value.slice Ad nd cd).ownBlock ∨ (Value.slice A1 (nd + 1) c1).ownBlock = some w.heap.size) : wS w0 g An cn ns A1 (nd + 1) c1 (ds ++ [x]) As m ca ss (w1.setCell ⟨w0.heap.size + 1, 1, none⟩ (.slice A1 (nd + 1) c1)) := by
 refine ⟨h.t.dev ho hg hv, ?_, fun b e => ⟨(h.n1 b e).1, fun e2 => ?_⟩⟩
 ·have h1 : zQ w1 (w0.heap.size + 2) As m ca ss := h.o.kept hg (by
   cases hb : (Value.slice As m ca).ownBlock with
   | none => exact .inl rfl
   | some b => exact .inr fun e => (h.n1 b hb).2 e.symm)
  exact h1.kept (zY w1 _ _) (zf fun b e => by have := (h1.lt b e).1; simp; omega)
 ·rcases hv with hv | hv
  ·exact (h.n1 b e).2 (hv.symm.trans e2)
  ·have := (h.o.lt b e).2
   rw [hv] at e2
   injection e2 with e2
   omega
theorem wS.row {A1 : Option Addr} {m1 c1 : Nat} {l : List Int} (h : wS w0 g An cn ns Ad nd cd ds As m ca ss w) (ho : zQ w1 (w0.heap.size + 2) A1 m1 c1 l) (hg : w.grownBy w1 (Value.slice As m ca).ownBlock)
 (hv : (Value.slice A1 m1 c1).ownBlock = (Value.slice As m ca).ownBlock ∨ (Value.slice A1 m1 c1).ownBlock = some w.heap.size) : wS w0 g An cn ns Ad nd cd ds A1 m1 c1 l w1 := by
 have hr : ∀ b, (Value.slice As m ca).ownBlock = some b → w0.heap.size + 2 ≤ b := fun b e => (h.o.lt b e).1
 have far : ∀ q, q < w0.heap.size + 2 → some q ≠ (Value.slice As m ca).ownBlock := fun q hq e => by have := hr q e.symm; omega
 have hl := h.t.lt
 have ne : ∀ v : Value, (∀ b, (Value.slice As m ca).ownBlock = some b → v.ownBlock ≠ some b) → v.ownBlock = none ∨ v.ownBlock ≠ (Value.slice As m ca).ownBlock := fun v hv => by
  cases hb : (Value.slice As m ca).ownBlock with
  | none => cases hv2 : v.ownBlock with
   | none => exact .inl rfl
   | some b => exact .inr fun e => by cases e
  | some b => exact .inr (hv b hb)
 refine ⟨⟨hl, h.t.deck.grown hg (fun k e => by have := hr k e; omega), xf h.t.gr hg (fun k e => by have := hr k e; omega), h.t.rb.grown hg (far _ (by omega)), h.t.nb.grown hg (far _ (by omega)), h.t.rn.kept hg (ne _ fun b e => (h.n1 b e).1), h.t.rd.kept hg (ne _ fun b e => (h.n1 b e).2), h.t.ne⟩, ho, fun b e => ?_⟩
 rcases hv with hv | hv
 ·exact h.n1 b (hv.symm.trans e)
 ·rw [hv] at e
  injection e with e
  subst e
  exact ⟨fun e => by have := (h.t.rn.lt _ e).2; omega, fun e => by have := (h.t.rd.lt _ e).2; omega⟩
theorem wS.at {i : Nat} (h : wS w0 g An cn ns Ad nd cd ds As m ca ss w) (hi : i < m) : ∃ q x, As = some ⟨q, 0, none⟩ ∧ w.cell? ⟨q, i, none⟩ = some (.int .i64 x) ∧ w.frozen? ⟨q, i, none⟩ = false ∧ ∀ y, wS w0 g An cn ns Ad nd cd ds As m ca (ss.set i y) (w.setCell ⟨q, i, none⟩ (.int .i64 y)) := by
 obtain ⟨q, x, rfl, h1, h2, h3, h4, h5, h6⟩ := h.o.at hi
 exact ⟨q, x, rfl, h4, h5, fun y => h.row (h6 y) (zY w _ _) (.inl rfl)⟩
def mu (w : World) (g : Nat) (e : Ending) (w' : World) : Prop :=
 ∃ (An : Option Addr) (cn : Nat) (ns : List Nd) (Ad : Option Addr) (nd cd : Nat) (ds : List Dv) (As : Option Addr) (cs : Nat) (ss : List Int), e = .returned (.tuple #[.agg #[.slice An 6 cn, .slice Ad nd cd], .slice As nd cs]) ∧ Hid (zU w' g) ∧ Hid (w.grownBy w' (some g)) ∧
  Hid (w'.ownsRow (w.heap.size + 2) 74 3 (.slice An 6 cn) 6 (ns.flatMap Nd.cells)) ∧ Hid (w'.ownsRow (w.heap.size + 2) 38 5 (.slice Ad nd cd) nd (ds.flatMap Dv.cells)) ∧ Hid (zQ w' (w.heap.size + 2) As nd cs ss) ∧ Hid (t8 ns ∧ ns.length = 6 ∧ t7 ds ss)
theorem wS.fin (h : wS w0 g An cn ns Ad nd cd ds As m ca ss w) (hm : m = nd) (hn : t8 ns) (hl : ns.length = 6) (hv : t7 ds ss) (u v : Value) : mu w0 g (.returned (.tuple #[.agg #[.slice An 6 cn, .slice Ad nd cd], .slice As nd ca])) ((w.setCell ⟨w0.heap.size, 0, none⟩ u).setCell ⟨w0.heap.size, 1, none⟩ v) := by
 subst hm
 have hlt := h.t.lt
 refine ⟨An, cn, ns, Ad, m, cd, ds, As, ca, ss, rfl, (h.t.deck.setCell (by simp; omega) _).setCell (by simp; omega) _, zg (zg h.t.gr (by simp) _) (by simp) _, ?_, ?_, ?_, hn, hl, hv⟩
 ·have h1 := h.t.rn.kept (zY w ⟨w0.heap.size, 0, none⟩ u) (zf fun b e => by have := (h.t.rn.lt b e).1; simp; omega)
  exact h1.kept (zY _ _ _) (zf fun b e => by have := (h1.lt b e).1; simp; omega)
 ·have h1 := h.t.rd.kept (zY w ⟨w0.heap.size, 0, none⟩ u) (zf fun b e => by have := (h.t.rd.lt b e).1; simp; omega)
  exact h1.kept (zY _ _ _) (zf fun b e => by have := (h1.lt b e).1; simp; omega)
 ·have h1 := h.o.kept (zY w ⟨w0.heap.size, 0, none⟩ u) (zf fun b e => by have := (h.o.lt b e).1; simp; omega)
  exact World.ownsRow.kept h1 (zY _ _ _) (zf fun b e => by have := (h1.lt b e).1; simp; omega)
end
end
end Go.Proofs.YtepicjpdhpojnaaGreatDoor
