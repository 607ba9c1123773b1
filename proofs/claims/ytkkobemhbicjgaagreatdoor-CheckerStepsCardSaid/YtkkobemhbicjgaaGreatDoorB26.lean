import Derived.Test.YtkkobemhbicjgaaGreatDoorB21
import Derived.Test.YtkkobemhbicjgaaGreatDoorB16
import Derived.Test.YtkkobemhbicjgaaGreatDoorShelf
import Derived.Sort.OwnSortedInts
import Derived.Shelf.SlicesE.DeleteFunc
import Derived.Lib.SliceRun
set_option maxRecDepth 100000
set_option maxHeartbeats 8000000
namespace Go.Proofs.YtkkobemhbicjgaaGreatDoor
open Go.RowKit Tryz
variable {g k1 k2 m n : Nat} {w : World} {a : Act} {D : List Nat}
structure Jr (w : World) (nb : Nat) (An : Option Addr) (nn cn : Nat) (ns : List Nd) (Ad : Option Addr) (nd cd : Nat) (ds : List Dv) (wr : World) : Prop where
 dk : zN wr w.heap.size
 bx : AJ wr nb 30 #[.slice An nn cn, .slice Ad nd cd]
 hn : Dx wr w.heap.size 3 An nn cn (ns.flatMap Nd.cells)
 hd : Dx wr w.heap.size 5 Ad nd cd (ds.flatMap Dv.cells)
 bl : bW w wr
 ge : w.heap.size < nb
 la : Laid wr
section
variable {w wr wr' : World} {nb nn cn nd cd : Nat} {An Ad : Option Addr} {ns : List Nd} {ds : List Dv}
theorem Jr.grown (h : Jr w nb An nn cn ns Ad nd cd ds wr) (hl : Laid w) (hg : wr.grownBy wr' (some w.heap.size)) (hd : zN wr' w.heap.size) : Jr w nb An nn cn ns Ad nd cd ds wr' :=
 ⟨hd, h.bx.grown hg (fun e => by have := h.ge; injection e; omega), h.hn.grown hg, h.hd.grown hg, h.bl.trans (yE hg lR h.bl.size), h.ge, h.la.grown hl hg lR⟩
theorem Jr.later (h : Jr w nb An nn cn ns Ad nd cd ds wr) (hb : bW wr wr') : Jr w nb An nn cn ns Ad nd cd ds wr' :=
 ⟨h.dk.grown (zH hb none) (fun k e => by cases e), h.bx.below hb h.bx.lt, h.hn.below hb, h.hd.below hb, h.bl.trans (hb.mono h.bl.size), h.ge, h.la.below hb lR⟩
theorem Jr.mk0 {w1 w2 : World} {nodes AY : Int} (hl : Laid w) (AV : bW w w1) (Bc : w1.heap.size = w.heap.size + 1) (Gy : zN w2 w.heap.size) (DD : w1.grownBy w2 (some w.heap.size))
 (Ul : w2.ownsRow (w1.heap.size + 4) 85 3 (.slice An nn cn) nn (ns.flatMap Nd.cells)) (Um : w2.ownsRow (w1.heap.size + 4) 57 5 (.slice Ad nd cd) nd (ds.flatMap Dv.cells)) (_hm : uZ nodes AY ns ds) :
 Jr w w2.heap.size An nn cn ns Ad nd cd ds (w2.alloc (.cells #[.slice An nn cn, .slice Ad nd cd] 30)) ∧ ns.length = nn ∧ ds.length = nd := by
 have AZ : Below w.heap.size w w2 := AV.trans (yE DD lR (by omega));refine ⟨⟨Gy.alloc _, AJ.new _ _ _, (Dx.of_own Ul (by omega)).alloc _, (Dx.of_own Um (by omega)).alloc _, AZ.alloc AZ.size _, ?_, (hl.below AZ lR).alloc _⟩, (Sl.of_own Ul).len (fun _ => rfl) (by decide), (Sl.of_own Um).len (fun _ => rfl) (by decide)⟩;have := DD.size; omega
end
structure vN (g : Nat) (P : World → Prop) : Prop where
 later : ∀ {wr wr' : World}, P wr → bW wr wr' → P wr'
 grown : ∀ {wr wr' : World}, P wr → wr.grownBy wr' (some g) → zN wr' g → P wr'
theorem vN.and {P Q : World → Prop} (hp : vN g P) (hq : vN g Q) : vN g fun w => P w ∧ Q w := ⟨fun h hb => ⟨hp.later h.1 hb, hq.later h.2 hb⟩, fun h hg hd => ⟨hp.grown h.1 hg hd, hq.grown h.2 hg hd⟩⟩
theorem vN.blk {b : Nat} {t : TypeId} {cs : Array Value} (hne : b ≠ g) : vN g fun w => AJ w b t cs := ⟨fun h hb => h.below hb h.lt, fun h hg _ => h.grown hg (fun e => hne (by injection e))⟩
theorem vN.slx {size c : Nat} {A : Option Addr} {xs : List Value} : vN g fun w => Dx w g size A n c xs := ⟨fun h hb => h.below hb, fun h hg _ => h.grown hg⟩
theorem vN.lwn {nb nn cn nd cd : Nat} {An Ad : Option Addr} {ns : List Nd} {ds : List Dv} (hl : Laid w) : vN w.heap.size (Jr w nb An nn cn ns Ad nd cd ds) :=
 ⟨fun h hb => h.later hb, fun h hg hd => h.grown hl hg hd⟩
theorem Dx.nil (w : World) (g size : Nat) : Dx w g size none 0 0 [] := ⟨Sl.nil _ _ _, fun b off e => by cases e⟩
theorem vN.drew {P : World → Prop} (hk : vN g P) (h : P w) : P w.drew := hk.later h (Below.refl _ _).drew
section
variable {P : Program} {ops : Array Oper} {Q : Exit → Act → World → Prop} {md : Region.Mode} {S : World → Prop} {J : List Nat}
def pF (md : Region.Mode) (ops : Array Oper) (fin : Array Bool) : Nat → List Nat → List Nat → Array Bool → Bool
 | 0, C, D, listed => C.isEmpty && D.isEmpty && listed == fin
 | n + 1, C, D, listed => !(Region.ready md ops listed).isEmpty && (Region.ready md ops listed).all (fun i => C.head? == some i || D.contains i) &&
  (match C with | c :: cs => pF md ops fin n cs D (listed.setIfInBounds c true) | [] => true) && D.all (fun i => pF md ops fin n C (D.erase i) (listed.setIfInBounds i true))
theorem ul {Φ : List Nat → List Nat → Act → World → Prop} {fin : Array Bool}
 (hc : ∀ c cs D a w, Φ (c :: cs) D a w → wpOp P ops Q c (fun a' w' => (J.contains c = false → S w') ∧ Φ cs D a' w') a w)
 (hd : ∀ C D i a w, i ∈ D → Φ C D a w → wpOp P ops Q i (fun a' w' => (J.contains i = false → S w') ∧ Φ C (D.erase i) a' w') a w)
 (he : ∀ a w, Φ [] [] a w → zZ P md ops Q S J m fin a w) :
 ∀ (n : Nat) (C D : List Nat) (listed : Array Bool) (a : Act) (w : World), pF md ops fin n C D listed = true → Φ C D a w → zZ P md ops Q S J (n + m) listed a w
 | 0, C, D, listed, a, w, hk, h => by
  simp only [pF, Bool.and_eq_true, List.isEmpty_iff, beq_iff_eq] at hk;obtain ⟨⟨rfl, rfl⟩, rfl⟩ := hk;rw [Nat.zero_add];exact he a w h
 | n + 1, C, D, listed, a, w, hk, h => by
  simp only [pF, Bool.and_eq_true] at hk;obtain ⟨⟨⟨h1, h2⟩, h3⟩, h4⟩ := hk;rw [Nat.add_right_comm];refine ⟨fun h0 => (by rw [h0] at h1; cases h1), fun j hj => ?_⟩;have h5 := List.all_eq_true.1 h2 j hj;rw [Bool.or_eq_true] at h5;rcases h5 with h5 | h5
  ·rcases C with _ | ⟨c, cs⟩
   ·cases h5
   ·simp only [List.head?_cons, beq_iff_eq, Option.some.injEq] at h5;subst h5;exact wpOp_mono (fun a' w' h' => ⟨h'.1, ul hc hd he n cs D _ a' w' h3 h'.2⟩) (hc _ _ _ _ _ h)
  ·have hj' : j ∈ D := by simpa using h5
   exact wpOp_mono (fun a' w' h' => ⟨h'.1, ul hc hd he n C (D.erase j) _ a' w' (List.all_eq_true.1 h4 j hj') h'.2⟩) (hd _ _ _ _ _ hj' h)
def qE (md : Region.Mode) (ops : Array Oper) (J : List Nat) (fin : Array Bool) : List (Nat × Bool) → Array Bool → Bool
 | [], listed => listed == fin
 | (i, true) :: r, listed => Region.free md ops listed i && (Region.ready md ops listed).contains i && xq md ops listed && J.all (vv md ops i ops.size) && qE md ops J fin r (listed.setIfInBounds i true)
 | (_, false) :: _, _ => false
def QR (Q : Exit → Act → World → Prop) (R : Act → World → Prop) : Exit → Act → World → Prop := fun ex a w => match ex with
 | .normal => R a w
 | ex => Q ex a w
theorem ug {R : Act → World → Prop} {fin : Array Bool} (hs : Region.noSelect ops = true) (hQ : ∀ c a d v w, Q (.panic c) (a.put (some d) v) w → Q (.panic c) a w) (hR : ∀ a w, R a w → zZ P md ops Q S J m fin a w) :
 ∀ (tk : List (Nat × Bool)) (listed : Array Bool) (a : Act) (w : World), qE md ops J fin tk listed = true → tr P ops (QR Q R) S J tk a w → zZ P md ops Q S J (tk.length + m) listed a w
 | [], listed, a, w, hc, h => by
  have : listed = fin := by simpa [qE] using hc
  subst this;rw [List.length_nil, Nat.zero_add];exact hR a w h
 | (i, true) :: r, listed, a, w, hc, h => by
  simp only [qE, Bool.and_eq_true] at hc;obtain ⟨⟨⟨⟨h1, h2⟩, h3⟩, h4⟩, h5⟩ := hc;obtain ⟨hS, oi, v, Oe, hy, hr⟩ := h;rw [List.length_cons, Nat.add_right_comm];exact vx Oe rfl hs h1 h2 h3 h4 (fun c a w q => by cases hd : oi.dst with | none => rw [hd] at q; exact q | some d => rw [hd] at q; exact hQ c a d v w q) hy hS (ug hs hQ hR r _ _ _ h5 hr)
 | (_, false) :: _, _, _, _, hc, _ => by cases hc
def ik (P : Program) (ops : Array Oper) (J : List Nat) (pre : List (Nat × Bool)) (C D : List Nat) (post : List (Nat × Bool)) (f0 f1 : Array Bool) : Bool :=
 P.follows .mixedOrders && Region.noSelect ops && pre.length + ((C.length + D.length) + post.length) == ops.size && qE .any ops J f0 pre (Array.replicate ops.size false) && pF .any ops f1 (C.length + D.length) C D f0 && sN .any ops J post f1
theorem uf {id : Nat} {base : List (Nat × Value)} (pre post : List (Nat × Bool)) (C D : List Nat) (f0 f1 : Array Bool) (hk : ik P ops J pre C D post f0 f1 = true) (hn : a.tmps.size = n) (hb : sU a base) (hS : S w.drew) (hq : ∀ c a d v w, Q (.panic c) (a.put (some d) v) w → Q (.panic c) a w)
 (h : ∀ (Q2 : Exit → Act → World → Prop) (A : Act), A.tmps.size = n → sU A base → Hid (∀ L w', Q .normal (yJ a L) w' → Q2 .normal (yJ A L) w') → S w.drew →
  ∃ Φ : List Nat → List Nat → Act → World → Prop, Ch P ops (QR Q2 (Φ C D)) S J pre (yJ A []) w.drew ∧
   (∀ c cs D a w, Φ (c :: cs) D a w → wpOp P ops Q2 c (fun a' w' => (J.contains c = false → S w') ∧ Φ cs D a' w') a w) ∧
   (∀ C D i a w, i ∈ D → Φ C D a w → wpOp P ops Q2 i (fun a' w' => (J.contains i = false → S w') ∧ Φ C (D.erase i) a' w') a w) ∧
   (∀ a w, Φ [] [] a w → Ch P ops Q2 S J post a w)) : (Code.region id ops true).wp P Q a w := by
 simp only [ik, Bool.and_eq_true, beq_iff_eq] at hk;obtain ⟨⟨⟨⟨⟨h1, h2⟩, h3⟩, h4⟩, h5⟩, h6⟩ := hk;refine zB (J := J) h1 hS (fun hS => ?_);obtain ⟨Φ, k1, k2, k3, k4⟩ := h Q a hn hb (fun L w' h => h) hS
 have e : ∀ a w, Φ [] [] a w → zZ P .any ops Q S J post.length f1 a w := fun a w hΦ => by
  have := vL (P := P) h2 hq post 0 _ _ _ h6 (k4 a w hΦ).out
  rwa [Nat.add_zero] at this
 have l : ∀ a w, Φ C D a w → zZ P .any ops Q S J ((C.length + D.length) + post.length) f0 a w := fun a w hΦ => ul k2 k3 e _ C D f0 a w h5 hΦ
 have := ug (P := P) h2 hq l pre _ _ _ h4 k1.out;rw [h3] at this;exact this
theorem lz {R : Act → World → Prop} (h : R a w) : Ch P ops (QR Q R) S J [] a w := ⟨h⟩
section
variable {A : Act} {L : List (Nat × Value)} {w : World} {n i d : Nat} {oi : Oper} {v : Value} {R : Act → World → Prop}
theorem rk {f : FuncId} {xs : Array Operand} {ats : Array TypeId} {vs : Array Value} (hi : ops[i]? = some oi) (hd : oi.dst = some d) (ho : oi.op = .call { callee := .value (.func f), args := xs, argTypes := ats }) (hg : oi.guard = none)
 (hx : ∀ ρ : Operand → Value, Rd A L ρ → xs.map ρ = vs) (hf : ∀ w, (callFunc f vs).run P w = .ok (.enter f vs) w)
 (h : Calls P f vs w (fun e w' => ∃ v, e = .returned v ∧ R (yJ A ((d, v) :: L)) w')) : wpOp P ops Q i R (yJ A L) w := by
 simp only [wpOp, hi, zd hg, if_true];refine .inl ?_
 have he : (execOp (yJ A L).eval oi).run P w = .ok (.enter f vs) w := by
  have := hf w;rw [← hx _ rfl] at this ⊢;unfold execOp;rw [ho];rw [← this];have e0 : (#[] ++ xs.map (yJ A L).eval ++ #[] : Array Value) = xs.map (yJ A L).eval := by simp
  conv => rhs; rw [← e0]
  rfl
 rw [Oper.wp, he, Oper.upon_enter];refine h.mono ?_;rintro e w' ⟨v, rfl, h1⟩;simp only [hd];exact h1
theorem oD {w' : World} (hi : ops[i]? = some oi) (hd : oi.dst = some d) (hg : oi.guard = none)
 (hv : ∀ ρ : Operand → Value, Rd A L ρ → (execOp ρ oi).run P w = .ok (.value v) w') (h : R (yJ A ((d, v) :: L)) w') : wpOp P ops Q i R (yJ A L) w := by
 simp only [wpOp, hi, zd hg, if_true];refine .inl ?_;rw [Oper.wp, hv _ rfl, Oper.upon_value, hd];exact h
theorem pC {w' : World} {r : List (Nat × Bool)} (hi : ops[i]? = some oi) (hd : oi.dst = none) (hw : Region.wanted oi (yielded ops (yJ A L).tmps) = true)
 (hv : ∀ ρ : Operand → Value, Rd A L ρ → (execOp ρ oi).run P w = .ok .skip w') (hS : J.contains i = false → S w') (h : Ch P ops Q S J r (yJ A L) w') : Ch P ops Q S J ((i, false) :: r) (yJ A L) w := by
 refine ⟨?_⟩;simp only [tr, wpOp, hi, hw, if_true];refine .inl ?_;rw [Oper.wp, hv _ rfl, Oper.upon_skip, hd];exact ⟨hS, h.1⟩
def nK (b : Bool) (k : Nat) (v : Value) : List (Nat × Value) := if b = true then [(k, v)] else []
theorem xU {b : Bool} {k : Nat} {u v d : Value} {L : List (Nat × Value)} (h : Nat.beq n k = false) (r : LB L n d = u) : LB (nK b k v ++ L) n d = u := by
 cases b
 ·exact r
 ·exact zx h r
theorem iI (a : Act) (h : k1 ≠ k2) (v1 v2 : Value) : (a.put (some k1) v1).put (some k2) v2 = (a.put (some k2) v2).put (some k1) v1 := by
 simp only [Act.put];rw [Array.setIfInBounds_comm _ _ h]
theorem kx (A : Act) (L : List (Nat × Value)) (h : k1 ≠ k2) (v1 v2 : Value) : yJ A ((k1, v1) :: (k2, v2) :: L) = yJ A ((k2, v2) :: (k1, v1) :: L) := by
 simp only [yJ];exact iI _ (Ne.symm h) _ _
theorem nD (A : Act) (L : List (Nat × Value)) (h : k1 ≠ k2) (b : Bool) (v1 v2 : Value) : yJ A ((k1, v1) :: (nK b k2 v2 ++ L)) = yJ A (nK b k2 v2 ++ ((k1, v1) :: L)) := by
 cases b
 ·rfl
 ·exact kx A L h v1 v2
end
def ptr (x : Nat) : Value := .pointer (some ⟨x, 0, none⟩)
structure xc (H : Nat) (T7 T8 : TypeId) (z7 z8 : Array Value) (b7 b8 : Bool) (x7 x8 : Nat) (w : World) : Prop where
 le : H ≤ w.heap.size
 m7 : b7 = true → AJ w x7 T7 z7 ∧ H ≤ x7
 m8 : b8 = true → AJ w x8 T8 z8 ∧ H ≤ x8
 ne : b7 = true → b8 = true → x7 ≠ x8
section
variable {H x7 x8 g : Nat} {T7 T8 : TypeId} {z7 z8 : Array Value} {b7 b8 : Bool} {w w' : World}
theorem xc.later (h : xc H T7 T8 z7 z8 b7 b8 x7 x8 w) (hb : bW w w') : xc H T7 T8 z7 z8 b7 b8 x7 x8 w' :=
 ⟨Nat.le_trans h.le hb.size, fun e => ⟨(h.m7 e).1.below hb (h.m7 e).1.lt, (h.m7 e).2⟩, fun e => ⟨(h.m8 e).1.below hb (h.m8 e).1.lt, (h.m8 e).2⟩, h.ne⟩
theorem xc.grown (h : xc H T7 T8 z7 z8 b7 b8 x7 x8 w) (hg : w.grownBy w' (some g)) (hl : g < H) : xc H T7 T8 z7 z8 b7 b8 x7 x8 w' :=
 ⟨Nat.le_trans h.le hg.size, fun e => ⟨(h.m7 e).1.grown hg (fun e2 => by have := (h.m7 e).2; injection e2 with e2; omega), (h.m7 e).2⟩, fun e => ⟨(h.m8 e).1.grown hg (fun e2 => by have := (h.m8 e).2; injection e2 with e2; omega), (h.m8 e).2⟩, h.ne⟩
theorem xc.start (w : World) (x7 x8 : Nat) : xc w.heap.size T7 T8 z7 z8 false false x7 x8 w := ⟨Nat.le_refl _, fun e => (by cases e), fun e => (by cases e), fun e => (by cases e)⟩
theorem xc.one7 (h : xc H T7 T8 z7 z8 b7 b8 x7 x8 w) : xc H T7 T8 z7 z8 true b8 w.heap.size x8 (w.alloc (.cells z7 T7)) :=
 ⟨by have := h.le; simp; omega, fun _ => ⟨AJ.new _ _ _, h.le⟩, fun e => ⟨(h.m8 e).1.alloc _, (h.m8 e).2⟩, fun _ e => by have := (h.m8 e).1.lt; omega⟩
theorem xc.one8 (h : xc H T7 T8 z7 z8 b7 b8 x7 x8 w) : xc H T7 T8 z7 z8 b7 true x7 w.heap.size (w.alloc (.cells z8 T8)) :=
 ⟨by have := h.le; simp; omega, fun e => ⟨(h.m7 e).1.alloc _, (h.m7 e).2⟩, fun _ => ⟨AJ.new _ _ _, h.le⟩, fun e _ => by have := (h.m7 e).1.lt; omega⟩
end
def eB : List (Nat × Nat) → List Value → List (Nat × Value)
 | c :: cs, v :: vs => eB cs vs ++ [(c.2, v)]
 | _, _ => []
def eM (A : Act) (L0 : List (Nat × Value)) (i7 i8 d7 d8 H : Nat) (T7 T8 : TypeId) (z7 z8 : Array Value) (Cs : List (Nat × Nat)) (F : List Value → World → Prop) (C D : List Nat) (a : Act) (w : World) : Prop :=
 ∃ (vs : List Value) (x7 x8 : Nat), C = (Cs.drop vs.length).map (·.1) ∧ D.Nodup ∧ (∀ i ∈ D, i = i7 ∨ i = i8) ∧ a = yJ A (nK (!D.contains i8) d8 (ptr x8) ++ (nK (!D.contains i7) d7 (ptr x7) ++ (eB Cs vs ++ L0))) ∧ F vs w ∧ xc H T7 T8 z7 z8 (!D.contains i7) (!D.contains i8) x7 x8 w
section
variable {A : Act} {L0 : List (Nat × Value)} {i7 i8 d7 d8 H n : Nat} {T7 T8 : TypeId} {z7 z8 : Array Value} {Cs : List (Nat × Nat)} {F : List Value → World → Prop} {C D : List Nat} {a : Act} {w : World} {o7 o8 : Oper}
theorem wG (h : D.Nodup) (i : Nat) : (D.erase i).contains i = false := by
 rw [← Bool.not_eq_true, List.contains_iff_mem]; exact h.not_mem_erase
theorem vH {i j : Nat} (h : j ≠ i) : (D.erase i).contains j = D.contains j := by
 rw [Bool.eq_iff_iff, List.contains_iff_mem, List.contains_iff_mem, List.mem_erase_of_ne h]
theorem eM.alloc (hF : ∀ vs w o, F vs w → F vs (w.alloc o)) (AG : i7 ≠ i8) (hd : d7 ≠ d8) (h7 : ops[i7]? = some o7) (h8 : ops[i8]? = some o8) (KO : o7.dst = some d7) (Af : o8.dst = some d8) (KM : o7.guard = none) (Ac : o8.guard = none)
 (IR : ∀ ρ : Operand → Value, ∀ w, (execOp ρ o7).run P w = .ok (.value (ptr w.heap.size)) (w.alloc (.cells z7 T7))) (AX : ∀ ρ : Operand → Value, ∀ w, (execOp ρ o8).run P w = .ok (.value (ptr w.heap.size)) (w.alloc (.cells z8 T8)))
 (i : Nat) (hi : i ∈ D) (h : eM A L0 i7 i8 d7 d8 H T7 T8 z7 z8 Cs F C D a w) : wpOp P ops Q i (fun a' w' => eM A L0 i7 i8 d7 d8 H T7 T8 z7 z8 Cs F C (D.erase i) a' w') a w := by
 obtain ⟨vs, x7, x8, hC, hn, hD, rfl, hf, hm⟩ := h;have hc : D.contains i = true := by rw [List.contains_iff_mem]; exact hi
 rcases hD i hi with rfl | rfl
 ·refine oD h7 KO KM (fun ρ _ => IR ρ w) ?_;refine ⟨vs, w.heap.size, x8, hC, hn.erase _, fun j hj => hD j (List.mem_of_mem_erase hj), ?_, hF _ _ _ hf, ?_⟩
  ·rw [wG hn, vH (Ne.symm AG), hc];exact nD A _ hd _ _ _
  ·rw [wG hn, vH (Ne.symm AG)];exact hm.one7
 ·refine oD h8 Af Ac (fun ρ _ => AX ρ w) ?_;refine ⟨vs, x7, w.heap.size, hC, hn.erase _, fun j hj => hD j (List.mem_of_mem_erase hj), ?_, hF _ _ _ hf, ?_⟩
  ·rw [wG hn, vH AG, hc];rfl
  ·rw [wG hn, vH AG];exact hm.one8
end
end
structure yi (H : Nat) (T7 : TypeId) (z7 : Array Value) (b7 : Bool) (x7 : Nat) (w : World) : Prop where
 le : H ≤ w.heap.size
 m7 : b7 = true → AJ w x7 T7 z7 ∧ H ≤ x7
section
variable {H x7 g : Nat} {T7 : TypeId} {z7 : Array Value} {b7 : Bool} {w w' : World}
theorem yi.later (h : yi H T7 z7 b7 x7 w) (hb : bW w w') : yi H T7 z7 b7 x7 w' :=
 ⟨Nat.le_trans h.le hb.size, fun e => ⟨(h.m7 e).1.below hb (h.m7 e).1.lt, (h.m7 e).2⟩⟩
theorem yi.grown (h : yi H T7 z7 b7 x7 w) (hg : w.grownBy w' (some g)) (hl : g < H) : yi H T7 z7 b7 x7 w' :=
 ⟨Nat.le_trans h.le hg.size, fun e => ⟨(h.m7 e).1.grown hg (fun e2 => by have := (h.m7 e).2; injection e2 with e2; omega), (h.m7 e).2⟩⟩
theorem yi.start (w : World) (x7 : Nat) : yi w.heap.size T7 z7 false x7 w := ⟨Nat.le_refl _, fun e => (by cases e)⟩
theorem yi.one (h : yi H T7 z7 b7 x7 w) : yi H T7 z7 true w.heap.size (w.alloc (.cells z7 T7)) :=
 ⟨by have := h.le; simp; omega, fun _ => ⟨AJ.new _ _ _, h.le⟩⟩
end
section
variable {P : Program} {ops : Array Oper} {Q : Exit → Act → World → Prop}
def qT (A : Act) (L0 : List (Nat × Value)) (i7 d7 H : Nat) (T7 : TypeId) (z7 : Array Value) (Cs : List (Nat × Nat)) (F : List Value → World → Prop) (C D : List Nat) (a : Act) (w : World) : Prop :=
 ∃ (vs : List Value) (x7 : Nat), C = (Cs.drop vs.length).map (·.1) ∧ D.Nodup ∧ (∀ i ∈ D, i = i7) ∧ a = yJ A (nK (!D.contains i7) d7 (ptr x7) ++ (eB Cs vs ++ L0)) ∧ F vs w ∧ yi H T7 z7 (!D.contains i7) x7 w
theorem sI (A : Act) {d d7 : Nat} {v v7 : Value} {b7 : Bool} {Y : List (Nat × Value)} (h7 : d ≠ d7) : yJ A ((d, v) :: (nK b7 d7 v7 ++ Y)) = yJ A (nK b7 d7 v7 ++ ((d, v) :: Y)) := nD A Y h7 b7 v v7
theorem qT.alloc {A : Act} {L0 : List (Nat × Value)} {i7 d7 H : Nat} {T7 : TypeId} {z7 : Array Value} {Cs : List (Nat × Nat)} {F : List Value → World → Prop} {C : List Nat} {o7 : Oper}
 (hF : ∀ vs w o, F vs w → F vs (w.alloc o)) (h7 : ops[i7]? = some o7) (KO : o7.dst = some d7) (KM : o7.guard = none) (IR : ∀ ρ : Operand → Value, ∀ w, (execOp ρ o7).run P w = .ok (.value (ptr w.heap.size)) (w.alloc (.cells z7 T7)))
 (i : Nat) (hi : i ∈ D) (h : qT A L0 i7 d7 H T7 z7 Cs F C D a w) : wpOp P ops Q i (fun a' w' => qT A L0 i7 d7 H T7 z7 Cs F C (D.erase i) a' w') a w := by
 obtain ⟨vs, x7, hC, hn, hD, rfl, hf, hm⟩ := h;have hc : D.contains i = true := by rw [List.contains_iff_mem]; exact hi
 obtain rfl := hD i hi;refine oD h7 KO KM (fun ρ _ => IR ρ w) ?_;refine ⟨vs, w.heap.size, hC, hn.erase _, fun j hj => hD j (List.mem_of_mem_erase hj), ?_, hF _ _ _ hf, ?_⟩
 ·rw [wG hn, hc]; rfl
 ·rw [wG hn]; exact hm.one
end
def wX (l : List Int) : List Int := l.mergeSort fun x y => decide (x ≤ y)
def vV (l : List Int) (x : Int) : Bool := l.contains x
theorem rv (l : List Int) (x : Int) : vV l x = true ↔ x ∈ l := by unfold vV; simp
theorem ru (l : List Int) (x : Int) : vV l x = false ↔ x ∉ l := by rw [← rv]; simp
theorem vd (l : List Int) : (wX l).Perm l := List.mergeSort_perm _ _
theorem kh (l : List Int) (x : Int) : x ∈ wX l ↔ x ∈ l := (vd l).mem_iff
theorem qm (l : List Int) : (wX l).length = l.length := (vd l).length_eq
theorem tJ (l : List Int) : (wX l).Pairwise (· ≤ ·) := by
 have h := List.pairwise_mergeSort (le := fun x y : Int => decide (x ≤ y)) (fun a b c h1 h2 => by simp at *; omega) (fun a b => by simp; omega) l;exact h.imp (fun h => by simpa using h)
theorem ol {l : List Int} (h : l.Nodup) : (wX l).Nodup := (vd l).nodup_iff.2 h
theorem oh (A : Option Addr) (n c base : Nat) (l : List Int) (w : World) (h : zL w base A n c l) (hn : n ≤ 1000000) :
 Calls prog 170 #[.slice A n c] w fun e w' => e = .returned (.tuple #[]) ∧ Hid (zL w' base A n c (wX l)) ∧ Hid (w.grownBy w' (Value.slice A n c).ownBlock) := by
 have hl := h.len;rcases h.2 with ⟨hv, h0⟩ | ⟨g, cap, cur, hv, hb, hh, Ip, hm, hs, ht⟩
 ·injection hv with h1 h2 h3;subst h1 h3 h0;have : l = [] := List.eq_nil_of_length_eq_zero hl;subst this;refine (slices_Sort_int_none none 0 w).mono ?_;rintro e w1 ⟨rfl, rfl⟩;exact ⟨rfl, by unfold Hid wX; simpa using h, yx _ _⟩
 ·injection hv with h1 h2 h3;subst h1 h3;subst hl;rw [Nat.mul_one, yP] at ht;refine (slices_Sort_int g 0 c l w (holds_of_blockI hh ht) (h.lt g rfl).2 (by omega)).mono ?_;rintro e w1 ⟨rfl, k, os, rfl⟩;refine ⟨rfl, ?_, grownBy_sortedI _⟩;have := ownsRow_sortedI (n := k) (os := os) (ss := l) (ts := wX l) (qm l) hb hh Ip hm hs;unfold Hid zL;rw [yP];exact this
theorem wZ (A : Option Addr) (n c B : Nat) (l : List Int) (x : Int) (w : World) (h : Sl w B 1 A n c (zE l)) :
 Calls prog 63 #[.slice A n c, .int .i64 x] w fun e w' => e = .returned (.bool (vV l x)) ∧ w = w' := by
 have hl : l.length = n := h.len (fun _ => rfl) (by decide);have hle := h.le;rcases Nat.eq_zero_or_pos n with rfl | h0
 ·have : l = [] := List.eq_nil_of_length_eq_zero hl;subst this;refine (slices_Contains_int_empty A c x w).mono ?_;rintro e w1 ⟨rfl, rfl⟩;exact ⟨rfl, rfl⟩
 ·obtain ⟨b, off, e, hb, hc⟩ := h.2.2.2.2 h0;subst e;refine (slices_Contains_int b off n c l x w (by omega) (by omega) (fun j hj => hc j _ ?_)).mono ?_
  ·have := uT (f := fun z => [Value.int .i64 z]) (size := 1) (fun _ => rfl) l j 0 _ (List.getElem?_eq_getElem hj) (by decide);rw [Nat.mul_one] at this;rw [List.getD_eq_getElem?_getD, List.getElem?_eq_getElem hj];exact this
  ·rintro e w1 ⟨rfl, rfl⟩;rw [List.take_of_length_le (by omega)];exact ⟨rfl, rfl⟩
section
theorem tL {a l : List Int} (h : l.Perm a) (hs : l.Pairwise (· ≤ ·)) : wX a = l :=
 List.Perm.eq_of_pairwise (le := fun x y : Int => x ≤ y) (fun _ _ _ _ h1 h2 => Int.le_antisymm h1 h2) (tJ a) hs ((vd a).trans h.symm)
def zi (ls : List Lk) (d : Int) : Bool := ls.any fun k => decide (k.dev = d)
def Cv (c : List Int) (x : Dv) : Bool := xP (bits .or .i64 (c.getD x.a.toNat 0) (c.getD x.b.toNat 0))
def yV (kd p du : Int) (lv : Bool) : Bool := if kd = 3 then decide (du = 2) || decide (du = 3) || decide (du = 4) else if kd = 1 then lv else if kd = 4 then decide (p = 1) && decide (du = 4) else if kd = 6 then decide (p = 2) && decide (du = 3) else decide (kd = 5)
def dG (ns : List Nd) (ds : List Dv) (s s2 : List Int) : Prop := ∃ (k : Nat) (y : Nd), ns[k]? = some y ∧ 0 < y.cust ∧ Gj ds s k ∧ ¬ Gj ds s2 k
open Classical in
noncomputable def yR (ns : List Nd) (ds : List Dv) (s s2 : List Int) : Bool := decide (dG ns ds s s2)
def xT (b : Bool) (h : Int) : List Int := if b = true then [h] else []
def MU (f1 f2 f3 f4 f5 f6 f7 : Bool) : List Int := xT f1 1 ++ xT f2 2 ++ xT f3 3 ++ xT f4 4 ++ xT f5 5 ++ xT f6 6 ++ xT f7 7
theorem sF (b : Bool) (h x : Int) : x ∈ xT b h ↔ x = h ∧ b = true := by cases b <;> simp [xT]
theorem tc (f1 f2 f3 f4 f5 f6 f7 : Bool) (x : Int) : x ∈ MU f1 f2 f3 f4 f5 f6 f7 ↔ x = 1 ∧ f1 = true ∨ x = 2 ∧ f2 = true ∨ x = 3 ∧ f3 = true ∨ x = 4 ∧ f4 = true ∨ x = 5 ∧ f5 = true ∨ x = 6 ∧ f6 = true ∨ x = 7 ∧ f7 = true := by
 simp only [MU, List.mem_append, sF, or_assoc]
theorem jO {f1 f2 f3 f4 f5 f6 f7 : Bool} {x : Int} (h : x ∈ MU f1 f2 f3 f4 f5 f6 f7) : 1 ≤ x ∧ x ≤ 7 := by
 rw [tc] at h; omega
theorem wC (b : Bool) (h : Int) : (xT b h).length ≤ 1 := by cases b <;> simp [xT]
theorem gv (f1 f2 f3 f4 f5 f6 f7 : Bool) : (MU f1 f2 f3 f4 f5 f6 f7).length ≤ 7 := by
 have h1 := wC f1 1; have h2 := wC f2 2; have h3 := wC f3 3; have h4 := wC f4 4; have h5 := wC f5 5; have h6 := wC f6 6; have h7 := wC f7 7;simp only [MU, List.length_append]; omega
def uz (fs : List (Int × Bool)) : List Int := (fs.filter (·.2)).map (·.1)
theorem dS (a b c : Bool) : wX (uz [(4, a), (6, b), (7, c)]) = MU false false false a false b c := by
 cases a <;> cases b <;> cases c <;> exact tL (by decide) (by decide)
theorem dR (a b c d e f : Bool) : wX (uz [(4, a), (6, b), (1, c), (2, d), (3, e), (5, f)]) = MU c d e a f b false := by
 cases a <;> cases b <;> cases c <;> cases d <;> cases e <;> cases f <;> exact tL (by decide) (by decide)
noncomputable def vU (nn : Nat) (ns : List Nd) (ds : List Dv) (s : List Int) (d : Nat) (p co : Int) (ls : List Lk) (pr : List Int) (x : Dv) : List Int :=
 if s.getD d 0 = p then MU false false false (zi ls d) false ((x.comp != co)) true
 else MU (decide (p = 2) && decide (yz nn ns ds s d x = 4)) (yV x.kind p (yz nn ns ds s d x) (Cv (zW nn ds s) x)) (yR ns ds s (zX s d p)) (zi ls d) (decide (p = 2) && decide (x.kind = 4) && !vV pr x.a) ((x.comp != co)) false
theorem uy {nn : Nat} {ns : List Nd} {ds : List Dv} {s : List Int} {d : Nat} {p co : Int} {ls : List Lk} {pr : List Int} {x : Dv} {h : Int} (hh : h ∈ vU nn ns ds s d p co ls pr x) : 1 ≤ h ∧ h ≤ 7 := by
 unfold vU at hh; split at hh <;> exact jO hh
theorem ir (nn : Nat) (ns : List Nd) (ds : List Dv) (s : List Int) (d : Nat) (p co : Int) (ls : List Lk) (pr : List Int) (x : Dv) : (vU nn ns ds s d p co ls pr x).length ≤ 7 := by
 unfold vU; split <;> exact gv _ _ _ _ _ _ _
def gO (nn : Nat) (ns : List Nd) (ds : List Dv) (l : List (List Int)) (md : Int) (d : Nat) (p co : Int) (ls : List Lk) (pr : List Int) (x : Dv) (h : Int) : Prop := ∃ s ∈ l, h ∈ vU nn ns ds s d p co ls pr x ∧ (h ≠ 7 ∨ md = p)
def ld (F : Int → Prop) (out : List Int) : Prop := out.Nodup ∧ out.Pairwise (· ≤ ·) ∧ ∀ h : Int, h ∈ out ↔ F h
theorem ld.unique {F : Int → Prop} {a b : List Int} (h : ld F a) (k : ld F b) : a = b := by
 rw [← tL (List.Perm.refl a) h.2.1];exact tL ((List.perm_ext_iff_of_nodup k.1 h.1).2 fun x => (k.2.2 x).trans (h.2.2 x).symm) k.2.1
end
def fnC (f : Int × Bool) : List Value := [.int .i64 f.1, .bool f.2]
theorem gA {fs : List (Int × Bool)} {i : Nat} {h : Int} {b : Bool} (hx : fs[i]? = some (h, b)) : uz (fs.take (i + 1)) = uz (fs.take i) ++ xT b h := by
 unfold uz;rw [zP hx, List.filter_append, List.map_append];cases b <;> rfl
theorem kG : ∀ fs : List (Int × Bool), (uz fs).length ≤ fs.length := fun fs => by
 unfold uz; rw [List.length_map]; exact List.length_filter_le _ _
def LsR (w : World) (fs : List (Int × Bool)) (n gk : Nat) (ov iv : Value) (wr : World) : Prop := ∃ (i m co : Nat) (Ao : Option Addr), iv = .int .i64 i ∧ ov = .slice Ao m co ∧ i ≤ n ∧ gk = n - i ∧ Hid (zL wr w.heap.size Ao m co (uz (fs.take i))) ∧ Hid (bW w wr)
theorem tY (A : Option Addr) (n c B : Nat) (fs : List (Int × Bool)) (w : World) (hs : Sl w B 2 A n c (fs.flatMap fnC)) (hB : B ≤ w.heap.size) (hn : n ≤ 1000) :
 Calls prog 147 #[.slice A n c] w (xB w (wX (uz fs))) := by
 have Cb := iD (hs.len (fun _ => rfl) (by decide)); have HS := iD hs;have hle := hs.le;clear hs
 go_enter func147, ntmps147
 go_wp2_with fail
 go_loopg [3, 8] n (LsR w fs n)
 case atStart => exact ⟨0, 0, 0, none, rfl, rfl, Nat.zero_le _, rfl, World.ownsRow_nil _ _ _ _, Below.refl _ _⟩
 case round =>
  obtain ⟨i, m, co, Ao, rfl, rfl, hi, rfl, hO, AU⟩ := hrel;by_cases hlt : i < n
  ·obtain ⟨b, off, f, rfl, hb, hf, hc⟩ := (HS.below AU hB).at (fun _ => rfl) (by decide) hlt;obtain ⟨h, t⟩ := f;have c0 : wr.cell? ⟨b, off + i * 2, none⟩ = some (.int .i64 h) := hc 0 _ rfl;have c1 : wr.cell? ⟨b, off + i * 2 + 1, none⟩ = some (.bool t) := hc 1 _ rfl;have HF := iD (gA hf);have BH : Hid (Below w.heap.size w (wr.alloc (.cells #[.int .i64 h, .bool t] 185))) := AU.alloc AU.size _;have GQ : Hid (zL (wr.alloc (.cells #[.int .i64 h, .bool t] 185)) w.heap.size Ao m co (uz (fs.take i))) := hO.alloc _;have TS : m ≤ i := by have h1 := kG (fs.take i); have h2 := hO.len; rw [List.length_take] at h1; omega
   clear hc hf;rcases t with _ | _
   ·have DY : Hid (zL (wr.alloc (.cells #[.int .i64 h, .bool false] 185)) w.heap.size Ao m co (uz (fs.take (i + 1)))) := by
     unfold Hid; rw [HF.out, show xT false h = [] from rfl, List.append_nil]; exact GQ.out
    go_wp2_with fail
    go_roundg (n - (i + 1))
    ·exact ⟨i + 1, m, co, Ao, by go_num, rfl, by omega, rfl, DY, BH⟩
    omega
   ·have Ap := BH.size;have Qk : Hid ((wr.alloc (.cells #[.int .i64 h, .bool true] 185)).cell? ⟨wr.heap.size, 0, none⟩ = some (.int .i64 h)) := (AJ.new wr 185 #[.int .i64 h, .bool true]).cell 0;go_upto_region 6 with (fail);generalize World.alloc wr _ = wq at *;clear c0 c1;have k0 := Qk.out
    go_wp2_with (at_builtin; go_must (refine zM rfl (.tmp 14) (.tmp 17) rfl yU (by rfl) (GQ.alloc _) (by rfl) (Sl.newest (n := 1) (by simp) (by rfl) (by decide)) (by simp [Value.oneCell']) (by omega) (by omega) (by simp; omega) ?_; intro A' cap' w3 BL CG DU; have Az := iD BL; have CU := iD CG; clear BL CG DU))
    go_roundg (n - (i + 1))
    case rel =>
     refine ⟨i + 1, m + 1, cap', A', by go_num, rfl, by omega, rfl, ?_, ?_⟩
     ·have := Az.out;unfold Hid zL;rw [HF.out, show xT true h = [h] from rfl, ze];exact this
     ·refine (BH.alloc BH.size _).trans ⟨CU.os, CU.tape, CU.output, CU.size, fun i hi => CU.block i (by simp; omega) (fun e => ?_)⟩;have := (GQ.lt i e.symm).1;omega
    case measure => omega
  ·obtain rfl : i = n := by omega
   have Cw : decide (i < i) = false := by simp
   have TS : m ≤ i := by have h1 := kG (fs.take i); have h2 := hO.len; rw [List.length_take] at h1; omega
   have HT : Hid (fs.take i = fs) := List.take_of_length_le (by rw [Cb.out]; exact Nat.le_refl _);rw [HT.out] at hO;have FU : Hid ((wX (uz fs)).length = m) := by unfold Hid; rw [qm]; exact hO.len
   clear HS
   go_wp2_with fail
   refine (oh Ao m co w.heap.size (uz fs) wr hO (by omega)).mono ?_;rintro e w5 ⟨rfl, ET, GL⟩
   go_wp2_with fail
   go_ret;refine ⟨Ao, co, by rw [FU.out]; rfl, by unfold Hid; rw [FU.out]; exact ET, AU.trans ⟨GL.os, GL.tape, GL.output, GL.size, fun q hq => GL.block q (by have := AU.size; omega) (fun e => by have := (hO.lt q e.symm).1; omega)⟩⟩
theorem nZ (An Ad As : Option Addr) (nn cn nd cd n c Bd Bs i : Nat) (ds : List Dv) (s : List Int) (x : Dv) (w : World) (hd : Sl w Bd 5 Ad nd cd (ds.flatMap Dv.cells)) (BP : Bd ≤ w.heap.size) (hs : Sl w Bs 1 As n c (zE s)) (CJ : Bs ≤ w.heap.size)
 (Bq : nn ≤ 10000) (AB : nd ≤ 10000) (hl : nd ≤ n) (Ae : yf nn ds) (hA : Im nn ds) (hi : i < nd) (hx : ds[i]? = some x) (hk : zV x.kind = true) :
 Calls prog 180 #[.agg #[.slice An nn cn, .slice Ad nd cd], .slice As n c, .int .i64 i] w fun e w' => e = .returned (.bool (Cv (zW nn ds s) x)) ∧ bW w w' := by
 have Cm := iD (vX An Ad As nn cn nd cd n c Bd Bs ds s (w.alloc (.cells #[.slice An nn cn, .slice Ad nd cd] 30)) (hd.alloc BP _) (by simp; omega) (hs.alloc CJ _) (by simp; omega) Bq AB hl Ae hA);have HD := iD hd; have HX := iD hx;have VD := hd.le;have Ak := iD (Ae x (List.mem_of_getElem? hx) hk);have HB := iD (AJ.new w 30 #[.slice An nn cn, .slice Ad nd cd]);have HW : Hid (Below w.heap.size w (w.alloc (.cells #[.slice An nn cn, .slice Ad nd cd] 30))) := (Below.refl _ _).alloc lR _;clear hd hs Ae hA hx hk
 go_enter func180, ntmps180
 go_wp2_with fail
 generalize World.alloc _ _ = w1 at *;obtain ⟨nb, CF⟩ := eX w.heap.size;rw [← CF] at HB ⊢;clear CF;refine Cm.mono ?_;rintro e w2 ⟨A1, A2, P, C, rfl, _, QN, _, MF, AZ⟩;have Ah := iD (HB.below AZ HB.lt);have Bj := iD (HW.trans (AZ.mono HW.size));have Ee : Hid (zW nn ds s = C) := xO MF.out;have Qa := iD QN.sl;clear Cm HB HW AZ QN;obtain ⟨b0, off, x', rfl, hb, hx', hc⟩ := (HD.below Bj BP).at (fun _ => rfl) (by decide) hi;obtain rfl : x = x' := by have := HX.out; rw [this] at hx'; exact Option.some.inj hx'
 obtain ⟨nm, kd, a, b, co⟩ := x;obtain ⟨⟨Ho, Ag⟩, Fe, AV⟩ := Ak.out;simp only at Ho Ag Fe AV;obtain ⟨ka, rfl⟩ := Int.eq_ofNat_of_zero_le Ho;obtain ⟨kb, rfl⟩ := Int.eq_ofNat_of_zero_le Fe;obtain ⟨b2, GI, va, e2, AZ, UY, Mq⟩ := Qa.at1 (k := ka) (by omega);subst e2;obtain ⟨b3, Am, vb, e3, BX, Dt, TZ⟩ := Qa.at1 (k := kb) (by omega);injection e3 with e3; injection e3 with e3 e4; subst e3 e4;have AW := Qa.le
 have Lc : Hid (Cv C ⟨nm, kd, ka, kb, co⟩ = xP (bits .or .i64 va vb)) := by
  unfold Hid Cv; simp only [Int.toNat_natCast]; rw [yB UY, yB Dt]
 have c0 : w2.cell? ⟨b0, off + i * 5, none⟩ = some (.string nm) := hc 0 _ rfl;have c1 : w2.cell? ⟨b0, off + i * 5 + 1, none⟩ = some (.int .i64 kd) := hc 1 _ rfl;have c2 : w2.cell? ⟨b0, off + i * 5 + 2, none⟩ = some (.int .i64 ka) := hc 2 _ rfl;have c3 : w2.cell? ⟨b0, off + i * 5 + 3, none⟩ = some (.int .i64 kb) := hc 3 _ rfl;have c4 : w2.cell? ⟨b0, off + i * 5 + 4, none⟩ = some (.int .i64 co) := hc 4 _ rfl;have k1 := Ah.c1;have BS : Hid (Below w.heap.size w (w2.alloc (.cells #[.string nm, .int .i64 kd, .int .i64 ka, .int .i64 kb, .int .i64 co] 57))) := Bj.alloc Bj.size _;have Fs := iD (AJ.new w2 57 #[.string nm, .int .i64 kd, .int .i64 ka, .int .i64 kb, .int .i64 co])
 have MP : Hid ((w2.alloc (.cells #[.string nm, .int .i64 kd, .int .i64 ka, .int .i64 kb, .int .i64 co] 57)).cell? ⟨b2, GI + ka, none⟩ = some (.int .i64 va) ∧ (w2.alloc (.cells #[.string nm, .int .i64 kd, .int .i64 ka, .int .i64 kb, .int .i64 co] 57)).cell? ⟨b2, GI + kb, none⟩ = some (.int .i64 vb)) := ⟨we _ Mq, we _ TZ⟩;clear hc hx' Mq TZ UY Dt Qa Ah;go_upto_region 3 with (fail);generalize World.alloc w2 _ = W at *;obtain ⟨AE, UW⟩ := eX w2.heap.size;rw [← UW] at Fs ⊢;clear c0 c1 c2 c3 c4 k1 UW;have BK : Hid ((W.cell? ⟨AE, 2, none⟩ = some (.int .i64 ka) ∧ W.cell? ⟨AE, 3, none⟩ = some (.int .i64 kb)) ∧ W.cell? ⟨b2, GI + ka, none⟩ = some (.int .i64 va) ∧ W.cell? ⟨b2, GI + kb, none⟩ = some (.int .i64 vb)) := ⟨⟨Fs.cell 2, Fs.cell 3⟩, MP⟩;have Aw : ka < nn := by omega
 have Av : kb < nn := by omega
 refine fv (fun W' => (W'.cell? ⟨AE, 2, none⟩ = some (.int .i64 ka) ∧ W'.cell? ⟨AE, 3, none⟩ = some (.int .i64 kb)) ∧ W'.cell? ⟨b2, GI + ka, none⟩ = some (.int .i64 va) ∧ W'.cell? ⟨b2, GI + kb, none⟩ = some (.int .i64 vb)) [] ?_ fun AA => ?_
 ·exact BK.out
 try dsimp only at AA
 refine tk 0 21 (mf 14 1) AA ?_;refine tk 1 22 (mf 14 2) AA ?_;refine tk 2 23 (mf 14 3) AA ?_;refine tk 3 24 (mf 14 4) AA ?_;refine tk 4 25 (mf 14 5) AA ?_;refine tk 5 26 (mf 14 6) AA ?_;refine tk 6 27 (mf 14 7) AA ?_;refine tk 7 28 (mf 14 8) AA ?_;refine tk 8 29 (mf 14 9) AA ?_;refine tk 9 30 (mf 14 10) AA ?_;refine tk 10 31 (mf 14 11) AA ?_;refine tk 11 32 (mf 14 12) AA ?_;refine tk 12 33 (mf 14 13) AA ?_;refine tk 13 6 (mf 14 14) AA ?_;refine tK ?_
 go_wp2_with fail
 go_ret;exact ⟨zF (by rw [Ee.out, Lc.out]; rfl), BS.drew⟩
theorem oO (An Ad As : Option Addr) (nn cn nd cd n c Bd Bs i : Nat) (p du kd : Int) (ds : List Dv) (s : List Int) (x : Dv) (w : World) (hd : Sl w Bd 5 Ad nd cd (ds.flatMap Dv.cells)) (BP : Bd ≤ w.heap.size) (hs : Sl w Bs 1 As n c (zE s)) (CJ : Bs ≤ w.heap.size)
 (Bq : nn ≤ 10000) (AB : nd ≤ 10000) (hl : nd ≤ n) (Ae : yf nn ds) (hA : Im nn ds) (hi : i < nd) (hx : ds[i]? = some x) (hk : x.kind = kd) (TT : 1 ≤ kd ∧ kd ≤ 6) :
 Calls prog 151 #[.agg #[.slice An nn cn, .slice Ad nd cd], .slice As n c, .agg #[.int .i64 i, .int .i64 p], .int .i64 kd, .int .i64 du] w fun e w' => e = .returned (.bool (yV kd p du (Cv (zW nn ds s) x))) ∧ bW w w' := by
 have HB : Hid (Below w.heap.size w ((w.alloc (.cells #[.slice An nn cn, .slice Ad nd cd] 30)).alloc (.cells #[.int .i64 i, .int .i64 p] 77))) := ((Below.refl _ _).alloc lR _).alloc (by simp) _;rcases (show kd = 1 ∨ kd = 2 ∨ kd = 3 ∨ kd = 4 ∨ kd = 5 ∨ kd = 6 by omega) with rfl | rfl | rfl | rfl | rfl | rfl
 ·have HC := iD (nZ An Ad As nn cn nd cd n c Bd Bs i ds s x _ (hd.below HB BP) (by have := HB.size; omega) (hs.below HB CJ) (by have := HB.size; omega) Bq AB hl Ae hA hi hx (by rw [hk]; decide));have HR : Hid (yV 1 p du (Cv (zW nn ds s) x) = Cv (zW nn ds s) x) := rfl;clear hd hs Ae hA
  go_enter func151, ntmps151
  go_wp2_with fail
  refine HC.mono ?_;rintro e w1 ⟨rfl, hb⟩
  go_wp2_with fail
  go_ret;exact ⟨zF HR.symm, HB.trans (hb.mono HB.size)⟩
 ·clear hd hs Ae hA
  go_enter func151, ntmps151
  go_wp2_with fail
  go_ret;exact ⟨rfl, HB⟩
 ·clear hd hs Ae hA;by_cases h2 : du = 2
  ·subst h2
   go_enter func151, ntmps151
   go_wp2_with fail
   go_ret;exact ⟨rfl, HB⟩
  by_cases h3 : du = 3
  ·subst h3
   go_enter func151, ntmps151
   go_wp2_with fail
   go_ret;exact ⟨rfl, HB⟩
  have q2 : (du == 2) = false := by simpa using h2
  have q3 : (du == 3) = false := by simpa using h3
  have HR : Hid (yV 3 p du (Cv (zW nn ds s) x) = (du == 4)) := by
   unfold Hid yV; rw [if_pos rfl]; simp [h2, h3]; rfl
  go_enter func151, ntmps151
  go_wp2_with fail
  go_ret;exact ⟨zF HR.symm, HB⟩
 ·clear hd hs Ae hA;by_cases h1 : p = 1
  ·subst h1;have HR : Hid (yV 4 1 du (Cv (zW nn ds s) x) = (du == 4)) := by unfold Hid yV; simp; rfl
   go_enter func151, ntmps151
   go_wp2_with fail
   go_ret;exact ⟨zF HR.symm, HB⟩
  ·have q1 : (p == 1) = false := by simpa using h1
   have HR : Hid (yV 4 p du (Cv (zW nn ds s) x) = false) := by unfold Hid yV; simp [h1]
   go_enter func151, ntmps151
   go_wp2_with fail
   go_ret;exact ⟨zF HR.symm, HB⟩
 ·clear hd hs Ae hA
  go_enter func151, ntmps151
  go_wp2_with fail
  go_ret;exact ⟨rfl, HB⟩
 ·clear hd hs Ae hA;by_cases h1 : p = 2
  ·subst h1;have HR : Hid (yV 6 2 du (Cv (zW nn ds s) x) = (du == 3)) := by unfold Hid yV; simp; rfl
   go_enter func151, ntmps151
   go_wp2_with fail
   go_ret;exact ⟨zF HR.symm, HB⟩
  ·have q1 : (p == 2) = false := by simpa using h1
   have HR : Hid (yV 6 p du (Cv (zW nn ds s) x) = false) := by unfold Hid yV; simp [h1]
   go_enter func151, ntmps151
   go_wp2_with fail
   go_ret;exact ⟨zF HR.symm, HB⟩
theorem Sl.over {B c blk size : Nat} {A : Option Addr} {xs : List Value} {os : Array Obj} {dk : Array Int} (h : Sl w B size A n c xs) (hne : ∀ b off, A = some ⟨b, off, none⟩ → b ≠ blk ∧ b < w.heap.size) : Sl (sortWorld (Value.int .i64) w blk 0 m dk os) B size A n c xs := by
 obtain ⟨h1, h2, h3, h4, h5⟩ := h;refine ⟨h1, h2, h3, h4, fun hn => ?_⟩;obtain ⟨b, off, e, hb, hc⟩ := h5 hn;obtain ⟨h6, h7⟩ := hne b off e;refine ⟨b, off, e, hb, fun j u hu => ?_⟩;unfold sortWorld;rw [Go.Sort.cell?_grow _ _ _ (by show b < (Go.Sort.putRow _ _ _ _ _).heap.size; rw [Go.Sort.size_putRow]; exact h7), Go.Sort.cell?_putRow_other _ _ blk 0 _ _ (Or.inl h6)];exact hc j u hu
theorem gF (g : Nat) (lb : Array Value) (p : Int → Bool) (eg : ∀ args w, (callFunc g args).run prog w = .ok (.enter g args) w) (A : Option Addr) (n c base : Nat) (l : List Int) (w : World) (h : zL w base A n c l) (hn : n ≤ 1000000)
 (hp : PredAt prog g lb (Value.int .i64) p w) (AK : ∀ blk, A = some ⟨blk, 0, none⟩ → PredOver prog g lb (Value.int .i64) p blk 0 n w) :
 Calls prog 177 #[.slice A n c, .func (.func g) #[] lb] w fun e w' => ∃ m, e = .returned (.slice A m c) ∧ Hid (zL w' base A m c (l.filter fun x => !p x)) ∧ Hid (w.grownBy w' (Value.slice A n c).ownBlock) := by
 have hl := h.len;rcases h.2 with ⟨hv, h0⟩ | ⟨gb, cap, cur, hv, hb, hh, Ip, hm, hs, ht⟩
 ·injection hv with h1 h2 h3;subst h1 h3 h0;have : l = [] := List.eq_nil_of_length_eq_zero hl;subst this;have HH := iD h;clear h hp AK hl hn
  go_enter func177, ntmps177
  go_wp2_with fail
  refine (slices_IndexFunc_empty (α := Int) none 0 (.func (.func g) #[] lb) w).mono ?_;rintro e w1 ⟨rfl, rfl⟩
  go_wp2_with fail
  go_ret;exact ⟨0, rfl, HH, yx _ _⟩
 ·injection hv with h1 h2 h3;subst h1 h3;subst hl;rw [Nat.mul_one, yP] at ht;have hH := holds_of_blockI hh ht;refine (slices_DeleteFunc (Value.int .i64) (fun _ => rfl) p g lb eg 0 zeroValue3 gb 0 c l.toArray w hp (by simpa using AK gb rfl) hH (by simp; omega) (by simpa using Ip)).mono ?_;rintro e w1 ⟨rfl, q, rfl⟩;simp only [List.size_toArray];obtain ⟨ts, OY⟩ : ∃ ts, ts = (l.filter fun x => !p x) ++ List.replicate (l.length - (l.filter fun x => !p x).length) 0 := ⟨_, rfl⟩
  have Lv : (l.filter fun x => !p x).length ≤ l.length := List.length_filter_le _ _;have Ar : ts.length = l.length := by rw [OY, List.length_append, List.length_replicate]; omega
  rw [← OY];refine ⟨_, rfl, ?_, ?_⟩
  ·have h2 := heap_sortedI (n := q) (os := #[]) ts.toArray hh;rw [Go.Sort.grow_empty] at h2;unfold Hid zL;rw [yP];refine ⟨by simp, .inr ⟨gb, c, _, rfl, hb, h2, by omega, hm, by simp [Go.Sort.putCells, hs], ?_⟩⟩;have h3 := take_putCellsI cur ts (by omega);rw [Nat.mul_one];have h4 := congrArg (List.take (l.filter fun x => !p x).length) h3;rw [List.take_take, Nat.min_eq_left (by omega)] at h4;rw [h4, ← List.map_take, OY, List.take_left]
  ·have := grownBy_sortedI (w := w) (g := gb) (n := q) (os := #[]) ts.toArray;rw [Go.Sort.grow_empty] at this;exact this
theorem sa (Ab : Option Addr) (mb cb bb B : Nat) (l : List Int) (x : Int) (W : World) (hc : W.cell? ⟨bb, 0, none⟩ = some (.slice Ab mb cb)) (hs : Sl W B 1 Ab mb cb (zE l)) :
 FnGives prog 178 #[.pointer (some ⟨bb, 0, none⟩)] #[.int .i64 x] (.bool (vV l x)) W := by
 have HC := iD (wZ Ab mb cb B l x W hs)
 show Calls prog 178 #[.int .i64 x, .pointer (some ⟨bb, 0, none⟩)] W _
 clear hs
 go_enter func178, ntmps178
 go_wp2_with fail
 refine HC.mono ?_;rintro e w1 ⟨rfl, rfl⟩
 go_wp2_with fail
 go_ret;exact ⟨rfl, 0, rfl⟩
theorem kY (An Ad As At : Option Addr) (nn cn nd cd n c n2 c2 Bn Bd Bs B2 : Nat) (ns : List Nd) (ds : List Dv) (s s2 : List Int) (w : World) (hL : Laid w) (hn : Sl w Bn 3 An nn cn (ns.flatMap Nd.cells)) (CS : Bn ≤ w.heap.size) (hd : Sl w Bd 5 Ad nd cd (ds.flatMap Dv.cells)) (BP : Bd ≤ w.heap.size) (hs : Sl w Bs 1 As n c (zE s)) (CJ : Bs ≤ w.heap.size) (Jn : Sl w B2 1 At n2 c2 (zE s2)) (EU : B2 ≤ w.heap.size)
 (Bg : FP ns) (BU : Fv ds) (h0 : zQ ns ds s = 0) (Vd : zQ ns ds s2 = 0) (Bq : nn ≤ 10000) (AB : nd ≤ 10000) (hl : nd ≤ n) (Nr : nd ≤ n2) (Ae : yf nn ds) (hA : Im nn ds) :
 Calls prog 149 #[.agg #[.slice An nn cn, .slice Ad nd cd], .slice As n c, .slice At n2 c2] w fun e w' => ∃ Ao m co out k, e = .returned (.tuple #[.slice Ao m co, .int .i64 k, .int .i64 0]) ∧ Hid (out.length = m) ∧ Hid (kZ ns ds s s2 out) ∧ Hid (zL w' w.heap.size Ao m co out) ∧ Hid (bW w w') := by
 have Cb := iD (hn.len (fun _ => rfl) (by decide));have HB : Hid (Below w.heap.size w (w.alloc (.cells #[.slice An nn cn, .slice Ad nd cd] 30))) := (Below.refl _ _).alloc lR _;have HK := iD (AJ.new w 30 #[.slice An nn cn, .slice Ad nd cd]);have HL := iD hL; have HN := iD hn; have HD := iD hd; have HS := iD hs; have DN := iD Jn; have Ej := iD Bg; have Ce := iD BU; have H0 := iD h0; have Al := iD Vd; have HE := iD Ae; have HA := iD hA;clear hL hn hd hs Jn Bg BU h0 Vd Ae hA
 go_enter func149, ntmps149
 go_wp2_with fail
 generalize World.alloc _ _ = W at *;have hz := HB.size;obtain ⟨nb, CF⟩ := eX w.heap.size;rw [← CF] at HK ⊢;clear CF;have Fh := iD HK.lt;refine (sq An Ad As nn cn nd cd n c Bn Bd Bs ns ds s W (HL.below HB lR) (HN.below HB CS) (by omega) (HD.below HB BP) (by omega) (HS.below HB CJ) (by omega) Ej Ce H0 Bq AB hl HE HA).mono ?_;rintro e w1 ⟨Aa, ma, ca, la, rfl, QO, Rc, AV⟩;have AQ := iD (HB.trans (AV.mono hz));have De := iD (HK.below AV HK.lt);have ER := AQ.size;have Aj : Hid (W.heap.size ≤ w1.heap.size) := AV.size;clear AV HB HK;obtain ⟨k0, k1⟩ := De.d2
 go_wp2_with fail
 clear k0 k1;refine (sq An Ad At nn cn nd cd n2 c2 Bn Bd B2 ns ds s2 w1 (HL.below AQ lR) (HN.below AQ CS) (by omega) (HD.below AQ BP) (by omega) (DN.below AQ EU) (by omega) Ej Ce Al Bq AB Nr HE HA).mono ?_;rintro e w2 ⟨Ab, mb, cb, lb, rfl, VN, AL, AZ⟩;have Ai := iD ((AQ.trans (AZ.mono ER)).alloc (by have := AZ.size; omega) (.cells #[.slice Ab mb cb] 22));have EP := iD ((De.below AZ De.lt).alloc (.cells #[.slice Ab mb cb] 22));have AH := iD (AJ.new w2 22 #[.slice Ab mb cb]);have GQ : Hid (zL (w2.alloc (.cells #[.slice Ab mb cb] 22)) W.heap.size Aa ma ca la) := (QO.later AZ).alloc _;have Ez : Hid (zL (w2.alloc (.cells #[.slice Ab mb cb] 22)) w1.heap.size Ab mb cb lb) := VN.alloc _;have GJ : w1.heap.size ≤ w2.heap.size := AZ.size;have Au : ma ≤ nn := by have := Rc.1; rw [QO.len, Cb.out] at this; exact this
 have Dz : Hid (∀ gb, (Value.slice Aa ma ca).ownBlock = some gb → gb < w1.heap.size) := fun gb h => (QO.lt gb h).2
 have NI : Hid (w2.heap.size < (w2.alloc (.cells #[.slice Ab mb cb] 22)).heap.size) := by unfold Hid; simp
 clear AZ De QO VN AQ;go_upto_region 7 with (fail);generalize World.alloc w2 _ = W3 at *;obtain ⟨bb, Fb⟩ := eX w2.heap.size;rw [← Fb] at AH NI GJ ⊢;clear Fb
 have Ig : Hid (PredAt prog 178 #[.pointer (some ⟨bb, 0, none⟩)] (Value.int .i64) (vV lb) W3) := fun W' x hb =>
  sa Ab mb cb bb W3.heap.size lb x W' ((hb.cell (p := ⟨bb, 0, none⟩) NI).trans (AH.cell 0)) (Ez.sl.below hb lR)
 have AO : Hid (∀ blk, Aa = some ⟨blk, 0, none⟩ → PredOver prog 178 #[.pointer (some ⟨bb, 0, none⟩)] (Value.int .i64) (vV lb) blk 0 ma W3) := fun blk e q os dk x _ =>
  sa Ab mb cb bb W3.heap.size lb x _ (by
   have h1 := Dz blk (by rw [e]; rfl);unfold sortWorld;rw [Go.Sort.cell?_grow _ _ _ (by show bb < (Go.Sort.putRow _ _ _ _ _).heap.size; rw [Go.Sort.size_putRow]; exact NI.out), Go.Sort.cell?_putRow_other _ _ blk 0 _ _ (Or.inl (by show bb ≠ blk; omega))]
   exact AH.cell 0) (Ez.sl.over fun b off e2 => by
    have h1 := Dz blk (by rw [e]; rfl);have h2 := Ez.lt b;rcases Ez.2 with ⟨hv, _⟩ | ⟨gb, cap, cur, hv, hb, hh, _⟩
    ·rw [e2] at hv; cases hv
    ·rw [e2] at hv;injection hv with hv;injection hv with hv;injection hv with hv;subst hv;exact ⟨by omega, (Array.getElem?_eq_some_iff.1 hh).1⟩)
 have AP := iD (gF 178 #[.pointer (some ⟨bb, 0, none⟩)] (vV lb) (enters_of func178 (by kernel_rfl) rfl) Aa ma ca W.heap.size la W3 GQ (by omega) Ig AO);clear Ig AO
 go_wp2_with fail
 refine AP.mono ?_;rintro e w4 ⟨m, rfl, EA, Fa⟩;have TB : Hid (Below W.heap.size W3 w4) := ⟨Fa.os, Fa.tape, Fa.output, Fa.size, fun q hq => Fa.block q (by have := Aj.out; have := NI.out; omega) (fun e => by have := (GQ.lt q e.symm).1; omega)⟩;have DF := iD (Ai.trans (TB.mono hz));have El : Hid (AJ w4 nb 30 #[.slice An nn cn, .slice Ad nd cd]) := EP.below TB Fh.out
 have Lf : Hid (∀ v ∈ la.filter fun x => !vV lb x, 0 ≤ v ∧ v < nn) := fun v hv => by
  obtain ⟨k, y, rfl, hy, _⟩ := (Rc.2 v).1 (List.mem_filter.1 hv).1;have := (List.getElem?_eq_some_iff.1 hy).1;rw [Cb.out] at this;omega
 clear AP Fa TB EP Ai GQ Ez AH Dz;obtain ⟨k0, k1⟩ := El.d2
 go_wp2_with fail
 clear k0 k1;refine (jV An Ad Aa nn cn nd cd m ca Bn w4.heap.size ns _ w4 (HN.below DF CS) (by have := DF.size; omega) EA.sl lR Lf).mono ?_;rintro e w5 ⟨k, rfl, BN⟩
 go_wp2_with fail
 go_ret3;refine ⟨Aa, m, ca, _, k, rfl, EA.len, fun x => ?_, (EA.later BN).mono hz, DF.trans (BN.mono DF.size)⟩;rw [List.mem_filter]
 constructor
 ·rintro ⟨h1, h2⟩;obtain ⟨k, y, rfl, hy, hc, hs⟩ := (Rc.2 x).1 h1;refine ⟨k, y, rfl, hy, hc, hs, fun h3 => ?_⟩;have h4 : (k : Int) ∉ lb := (ru _ _).1 (by simpa using h2);exact h4 ((AL.2 _).2 ⟨k, y, rfl, hy, hc, h3⟩)
 ·rintro ⟨k, y, rfl, hy, hc, hs, QB⟩;refine ⟨(Rc.2 _).2 ⟨k, y, rfl, hy, hc, hs⟩, ?_⟩
  have : vV lb (k : Int) = false := (ru _ _).2 fun h => by
   obtain ⟨k2, y2, e, Aq, _, Jn⟩ := (AL.2 _).1 h;have : k = k2 := by omega
   subst this;exact QB Jn
  rw [this]; rfl
structure MH (w : World) (vb b1 b2 : Nat) (nt op gr dv f1 f2 : Array Value) (W : World) : Prop where
 bl : bW w W
 bn : AJ W w.heap.size 30 nt
 bo : AJ W (w.heap.size + 1) 77 op
 bg : AJ W (w.heap.size + 2) 37 gr
 bv : AJ W vb 57 dv
 b1 : AJ W b1 185 f1
 b2 : AJ W b2 185 f2
theorem MH.later {w W W' : World} {vb b1 b2 : Nat} {nt op gr dv f1 f2 : Array Value} (h : MH w vb b1 b2 nt op gr dv f1 f2 W) (hb : bW W W') : MH w vb b1 b2 nt op gr dv f1 f2 W' :=
 ⟨h.bl.trans (hb.mono h.bl.size), h.bn.below hb h.bn.lt, h.bo.below hb h.bo.lt, h.bg.below hb h.bg.lt, h.bv.below hb h.bv.lt, h.b1.below hb h.b1.lt, h.b2.below hb h.b2.lt⟩
theorem MH.cells {w W : World} {vb b1 b2 nn cn nd cd d nl cl np cp : Nat} {An Ad Al Ap : Option Addr} {p co kd a b Bi : Int} {nm : ByteArray} {t1 t2 : Bool} (h : MH w vb b1 b2 #[.slice An nn cn, .slice Ad nd cd] #[.int .i64 d, .int .i64 p] #[.int .i64 co, .slice Al nl cl, .slice Ap np cp] #[.string nm, .int .i64 kd, .int .i64 a, .int .i64 b, .int .i64 Bi] #[.int .i64 4, .bool t1] #[.int .i64 6, .bool t2] W) :
 ((W.cell? ⟨w.heap.size, 0, none⟩ = some (.slice An nn cn) ∧ W.cell? ⟨w.heap.size, 1, none⟩ = some (.slice Ad nd cd)) ∧ W.cell? ⟨w.heap.size + 1, 0, none⟩ = some (.int .i64 d) ∧ W.cell? ⟨w.heap.size + 1, 1, none⟩ = some (.int .i64 p)) ∧ (W.cell? ⟨vb, 1, none⟩ = some (.int .i64 kd) ∧ W.cell? ⟨vb, 2, none⟩ = some (.int .i64 a)) ∧ W.cell? ⟨w.heap.size + 2, 2, none⟩ = some (.slice Ap np cp) ∧ (W.cell? ⟨b1, 0, none⟩ = some (.int .i64 4) ∧ W.cell? ⟨b1, 1, none⟩ = some (.bool t1)) ∧ W.cell? ⟨b2, 0, none⟩ = some (.int .i64 6) ∧ W.cell? ⟨b2, 1, none⟩ = some (.bool t2) :=
 ⟨⟨⟨h.bn.cell 0, h.bn.cell 1⟩, h.bo.cell 0, h.bo.cell 1⟩, ⟨h.bv.cell 1, h.bv.cell 2⟩, h.bg.cell 2, ⟨h.b1.cell 0, h.b1.cell 1⟩, h.b2.cell 0, h.b2.cell 1⟩
theorem yN {ns : List Nd} {ds : List Dv} {s : List Int} (h : zQ ns ds s = 0) (d : Nat) {p : Int} (hp : p = 1 ∨ p = 2) : zQ ns ds (zX s d p) = 0 := by
 unfold zQ at h ⊢;split at h
 ·next h1 => exact absurd h h1
 next h1 =>
 rw [if_neg h1];split at h
 ·cases h
 next h2 =>
 rw [if_neg (by rw [xD]; exact h2)];split at h
 ·next h3 =>
  rw [if_pos];intro y hy;unfold zX at hy;split at hy
  ·rcases List.mem_or_eq_of_mem_set hy with h4 | h4
   ·exact h3 y h4
   ·rw [h4]; rcases hp with rfl | rfl <;> rfl
  ·exact h3 y hy
 ·cases h
open Classical in
theorem tX {ns : List Nd} {ds : List Dv} {s s2 out : List Int} {m : Nat} (h : kZ ns ds s s2 out) (hm : out.length = m) : decide (0 < m) = yR ns ds s s2 := by
 unfold yR;by_cases h0 : 0 < m
 ·rw [decide_eq_true h0]
  symm; rw [decide_eq_true_iff]
  rcases out with _ | ⟨x, r⟩
  ·simp at hm; omega
  ·obtain ⟨k, y, _, h1, h2, h3, h4⟩ := (h x).1 (by simp);exact ⟨k, y, h1, h2, h3, h4⟩
 ·rw [decide_eq_false h0]
  symm; rw [decide_eq_false_iff_not]
  rintro ⟨k, y, h1, h2, h3, h4⟩;have := (h k).2 ⟨k, y, rfl, h1, h2, h3, h4⟩;rw [List.eq_nil_of_length_eq_zero (by omega : out.length = 0)] at this;cases this
theorem fy (An Ad As Al Ap : Option Addr) (nn cn nd cd n c nl cl np cp Bn Bd Bs Bl Bp d : Nat) (p co : Int) (ns : List Nd) (ds : List Dv) (s : List Int) (ls : List Lk) (pr : List Int) (x : Dv) (w : World) (hL : Laid w)
 (hn : Sl w Bn 3 An nn cn (ns.flatMap Nd.cells)) (CS : Bn ≤ w.heap.size) (hd : Sl w Bd 5 Ad nd cd (ds.flatMap Dv.cells)) (BP : Bd ≤ w.heap.size) (hs : Sl w Bs 1 As n c (zE s)) (CJ : Bs ≤ w.heap.size) (ES : Sl w Bl 3 Al nl cl (ls.flatMap Lk.cells)) (Dn : Bl ≤ w.heap.size) (AH : Sl w Bp 1 Ap np cp (zE pr)) (AX : Bp ≤ w.heap.size)
 (Bg : FP ns) (BU : Fv ds) (h0 : zQ ns ds s = 0) (Bq : nn ≤ 10000) (TR : n ≤ 10000) (AB : nd ≤ n) (hi : d < nd) (hx : ds[d]? = some x) (Ae : yf nn ds) (hA : Im nn ds) (hp : p = 1 ∨ p = 2) (TT : 1 ≤ x.kind ∧ x.kind ≤ 6) :
 Calls prog 125 #[.agg #[.slice An nn cn, .slice Ad nd cd], .slice As n c, .agg #[.int .i64 d, .int .i64 p], .agg #[.int .i64 co, .slice Al nl cl, .slice Ap np cp]] w (xB w (vU nn ns ds s d p co ls pr x)) := by
 have HN := iD hn; have HD := iD hd; have HS := iD hs; have Ej := iD Bg; have Ce := iD BU; have H0 := iD h0; have HE := iD Ae; have HA := iD hA; have HX := iD hx;have HL := iD hL; have FU := iD ES; have Aa := iD AH;have Ab := AH.le; have Oj := ES.le; have VD := hd.le; have hsl := hs.le;have Cb : Hid (s.length = n) := hs.len (fun _ => rfl) (by decide);clear hL hn hd hs ES AH Bg BU h0 Ae hA hx;have CB : Hid (Below w.heap.size w (((w.alloc (.cells #[.slice An nn cn, .slice Ad nd cd] 30)).alloc (.cells #[.int .i64 d, .int .i64 p] 77)).alloc (.cells #[.int .i64 co, .slice Al nl cl, .slice Ap np cp] 37))) := (((Below.refl _ _).alloc lR _).alloc (by simp) _).alloc (by simp; omega) _
 have Kh : Hid (AJ (((w.alloc (.cells #[.slice An nn cn, .slice Ad nd cd] 30)).alloc (.cells #[.int .i64 d, .int .i64 p] 77)).alloc (.cells #[.int .i64 co, .slice Al nl cl, .slice Ap np cp] 37)) w.heap.size 30 #[.slice An nn cn, .slice Ad nd cd]) := ((AJ.new _ _ _).alloc _).alloc _
 have AP : Hid (AJ (((w.alloc (.cells #[.slice An nn cn, .slice Ad nd cd] 30)).alloc (.cells #[.int .i64 d, .int .i64 p] 77)).alloc (.cells #[.int .i64 co, .slice Al nl cl, .slice Ap np cp] 37)) (w.heap.size + 1) 77 #[.int .i64 d, .int .i64 p]) := by
  have := (AJ.new (w.alloc (.cells #[.slice An nn cn, .slice Ad nd cd] 30)) 77 #[.int .i64 d, .int .i64 p]).alloc (.cells #[.int .i64 co, .slice Al nl cl, .slice Ap np cp] 37);unfold Hid; simpa using this
 have AW : Hid (AJ (((w.alloc (.cells #[.slice An nn cn, .slice Ad nd cd] 30)).alloc (.cells #[.int .i64 d, .int .i64 p] 77)).alloc (.cells #[.int .i64 co, .slice Al nl cl, .slice Ap np cp] 37)) (w.heap.size + 2) 37 #[.int .i64 co, .slice Al nl cl, .slice Ap np cp]) := by
  have := AJ.new ((w.alloc (.cells #[.slice An nn cn, .slice Ad nd cd] 30)).alloc (.cells #[.int .i64 d, .int .i64 p] 77)) 37 #[.int .i64 co, .slice Al nl cl, .slice Ap np cp];unfold Hid; simpa using this
 go_enter func125, ntmps125
 go_upto_region 1 with (fail);generalize World.alloc (World.alloc (World.alloc w _) _) _ = W at *;obtain ⟨b0, off, x', rfl, hb, hx', hc⟩ := (HD.below CB BP).at (fun _ => rfl) (by decide) hi;obtain rfl : x = x' := by have := HX.out; rw [this] at hx'; exact Option.some.inj hx'
 obtain ⟨nm, kd, a, b, Bi⟩ := x;simp only at TT;have c0 : W.cell? ⟨b0, off + d * 5, none⟩ = some (.string nm) := hc 0 _ rfl;have c1 : W.cell? ⟨b0, off + d * 5 + 1, none⟩ = some (.int .i64 kd) := hc 1 _ rfl;have c2 : W.cell? ⟨b0, off + d * 5 + 2, none⟩ = some (.int .i64 a) := hc 2 _ rfl;have c3 : W.cell? ⟨b0, off + d * 5 + 3, none⟩ = some (.int .i64 b) := hc 3 _ rfl;have c4 : W.cell? ⟨b0, off + d * 5 + 4, none⟩ = some (.int .i64 Bi) := hc 4 _ rfl;have k1 := Kh.c1;have o0 := AP.c0;clear hc hx';have AQ : Hid (Below w.heap.size w (W.alloc (.cells #[.string nm, .int .i64 kd, .int .i64 a, .int .i64 b, .int .i64 Bi] 57))) := CB.alloc CB.size _;have AE := iD (AJ.new W 57 #[.string nm, .int .i64 kd, .int .i64 a, .int .i64 b, .int .i64 Bi]);have SY := iD (Kh.alloc (.cells #[.string nm, .int .i64 kd, .int .i64 a, .int .i64 b, .int .i64 Bi] 57))
 have Le := iD (AP.alloc (.cells #[.string nm, .int .i64 kd, .int .i64 a, .int .i64 b, .int .i64 Bi] 57));have Pf := iD (AW.alloc (.cells #[.string nm, .int .i64 kd, .int .i64 a, .int .i64 b, .int .i64 Bi] 57));go_upto_region 2 with (fail);clear CB Kh AP AW c0 c1 c2 c3 c4 k1 o0;generalize World.alloc W _ = W1 at *;obtain ⟨vb, Dt⟩ := eX W.heap.size;rw [← Dt] at AE ⊢;clear Dt
 have AU : Hid (mO 146 #[.pointer (some ⟨w.heap.size + 1, 0, none⟩)] (fun k => decide (k.dev = d)) W1) := by
  intro W' d1 p1 q1 hb;have hc : W'.cell? ⟨w.heap.size + 1, 0, none⟩ = some (.int .i64 d) := (hb.cell (p := ⟨w.heap.size + 1, 0, none⟩) Le.lt).trans (Le.cell 0);have Ac : w.heap.size + 1 < W'.heap.size := Nat.lt_of_lt_of_le Le.lt hb.size;have hne : w.heap.size + 1 ≠ W'.heap.size := by omega
  have Bj : Hid (Below W1.heap.size W1 (W'.alloc (.cells #[.int .i64 d1, .int .i64 p1, .int .i64 q1] 106))) := hb.alloc hb.size _;clear hb
  show Calls prog 146 #[.agg #[.int .i64 d1, .int .i64 p1, .int .i64 q1], .pointer (some ⟨w.heap.size + 1, 0, none⟩)] W' _
  go_enter func146, ntmps146
  go_wp2_with fail
  go_ret;exact ⟨zF (by by_cases h : d1 = d <;> simp [h]), Bj⟩
 have FO := iD (sM 146 #[.pointer (some ⟨w.heap.size + 1, 0, none⟩)] (fun k => decide (k.dev = d)) (enters_of func146 (by kernel_rfl) rfl) Al nl cl Bl ls W1 (FU.below AQ Dn) (by have := AQ.size; omega) AU);have g1 := Pf.c1;clear AU
 go_wp2_with fail
 clear g1;refine FO.mono ?_;rintro e w2 ⟨rfl, AZ⟩;clear FO;obtain ⟨t1, AG⟩ := eX (zi ls d);have AL := iD AG;rw [show (ls.any fun k => decide (k.dev = (d : Int))) = t1 by rw [AG]; rfl];clear AG;have Ai := iD (AQ.trans (AZ.mono AQ.size));have WT := iD (SY.below AZ SY.lt); have WR := iD (Le.below AZ Le.lt); have Pe := iD (Pf.below AZ Pf.lt); have Pd := iD (AE.below AZ AE.lt);clear AZ AQ SY Le Pf AE;have v4 := Pd.c4;have g0 := Pe.c0;have Ci : vb < w2.heap.size := Pd.lt;have Av : w.heap.size + 2 < w2.heap.size := Pe.lt
 have Jv : Hid (MH w vb w2.heap.size (w2.heap.size + 1) #[.slice An nn cn, .slice (some ⟨b0, off, none⟩) nd cd] #[.int .i64 d, .int .i64 p] #[.int .i64 co, .slice Al nl cl, .slice Ap np cp] #[.string nm, .int .i64 kd, .int .i64 a, .int .i64 b, .int .i64 Bi] #[.int .i64 4, .bool t1] #[.int .i64 6, .bool (Bi != co)] ((w2.alloc (.cells #[.int .i64 4, .bool t1] 185)).alloc (.cells #[.int .i64 6, .bool (Bi != co)] 185))) := by
  refine ⟨(Ai.alloc Ai.size _).alloc (by have := Ai.size; simp; omega) _, (WT.alloc _).alloc _, (WR.alloc _).alloc _, (Pe.alloc _).alloc _, (Pd.alloc _).alloc _, (AJ.new _ _ _).alloc _, ?_⟩;have := AJ.new (w2.alloc (.cells #[.int .i64 4, .bool t1] 185)) 185 #[.int .i64 6, .bool (Bi != co)];simpa using this
 go_upto_region 4 with (fail);clear Ai WT WR Pe Pd v4 g0 Ci Av;generalize World.alloc (World.alloc w2 _) _ = W3 at *;obtain ⟨b1, AV⟩ := eX w2.heap.size;rw [← AV] at Jv ⊢;clear AV;obtain ⟨t2, Ub⟩ := eX ((Bi != co));rw [← Ub] at Jv ⊢;have AK := iD Ub;clear Ub;obtain ⟨bs, GI, sd, rfl, QK, Ui, hcs⟩ := (HS.below Jv.bl CJ).at1 (k := d) (by omega);have SC := iD (yB Ui);have Wl : Hid ((W3.cell? ⟨w.heap.size + 1, 0, none⟩ = some (.int .i64 d) ∧ W3.cell? ⟨w.heap.size + 1, 1, none⟩ = some (.int .i64 p)) ∧ W3.cell? ⟨bs, GI + d, none⟩ = some (.int .i64 sd)) := ⟨⟨Jv.bo.cell 0, Jv.bo.cell 1⟩, hcs⟩;clear hcs Ui;have Iq : d < n := by omega
 refine fv (fun W' => (W'.cell? ⟨w.heap.size + 1, 0, none⟩ = some (.int .i64 d) ∧ W'.cell? ⟨w.heap.size + 1, 1, none⟩ = some (.int .i64 p)) ∧ W'.cell? ⟨bs, GI + d, none⟩ = some (.int .i64 sd)) [] ?_ fun AA => ?_
 ·exact Wl.out
 try dsimp only at AA
 refine tk 0 35 (mf 8 1) AA ?_;refine tk 1 36 (mf 8 2) AA ?_;refine tk 2 37 (mf 8 3) AA ?_;refine tk 3 38 (mf 8 4) AA ?_;refine tk 4 39 (mf 8 5) AA ?_;refine tk 5 40 (mf 8 6) AA ?_;refine tk 6 41 (mf 8 7) AA ?_;refine tk 7 42 (mf 8 8) AA ?_;refine tK ?_;clear Wl;have LZ : Hid (MH w vb b1 (b1 + 1) #[.slice An nn cn, .slice (some ⟨b0, off, none⟩) nd cd] #[.int .i64 d, .int .i64 p] #[.int .i64 co, .slice Al nl cl, .slice Ap np cp] #[.string nm, .int .i64 kd, .int .i64 a, .int .i64 b, .int .i64 Bi] #[.int .i64 4, .bool t1] #[.int .i64 6, .bool t2] W3.drew) := ⟨Jv.bl.drew, Jv.bn, Jv.bo, Jv.bg, Jv.bv, Jv.b1, Jv.b2⟩;clear Jv;generalize World.drew W3 = W4 at *;by_cases hsp : sd = p
 ·have q : (sd == p) = true := by simpa using hsp
  have HR : Hid (vU nn ns ds s d p co ls pr ⟨nm, kd, a, b, Bi⟩ = wX (uz [(4, t1), (6, t2), (7, true)])) := by
   unfold Hid vU;rw [if_pos (by rw [SC.out]; exact hsp), dS, AL.out, AK.out]
  have hz := LZ.bl.size;obtain ⟨f10, f11⟩ := LZ.b1.d2;obtain ⟨f20, f21⟩ := LZ.b2.d2;clear hsp
  go_wp2_with fail
  refine (tY _ 3 3 (W4.heap.size + 1) [(4, t1), (6, t2), (7, true)] _ (Sl.newest rfl rfl (by decide)) (by simp) (by decide)).mono ?_;rintro e w6 ⟨Ao, c6, rfl, Tg, Db⟩;have DZ : Hid (Below w.heap.size w w6) := (LZ.bl.alloc hz _).trans (Db.mono (by simp; omega));have Di := iD (Tg.mono (base' := w.heap.size) (by simp; omega));clear Db Tg
  go_wp2_with fail
  go_ret;rw [HR.out];exact ⟨Ao, c6, rfl, Di, DZ⟩
 have q : (sd == p) = false := by simpa using hsp
 have Gp : Hid (s.getD d 0 ≠ p) := by unfold Hid; rw [SC.out]; exact hsp
 clear hsp;obtain ⟨k0, k1⟩ := LZ.bn.d2;have o0 := LZ.bo.c0
 go_wp2_with fail
 clear q k0 k1 o0;have Qz := LZ.bl.size;refine (ez An (some ⟨b0, off, none⟩) (some ⟨bs, GI, none⟩) nn cn nd cd n c Bn Bd Bs d ns ds s ⟨nm, kd, a, b, Bi⟩ W4 (HL.below LZ.bl lR) (HN.below LZ.bl CS) (by omega) (HD.below LZ.bl BP) (by omega) (HS.below LZ.bl CJ) (by omega) Ej Ce H0 Bq TR AB hi HX HE HA).mono ?_;rintro e w5 ⟨rfl, BN⟩;have Ey := iD (LZ.later BN);clear BN LZ Qz;obtain ⟨du, Lx⟩ := eX (yz nn ns ds s d ⟨nm, kd, a, b, Bi⟩);rw [← Lx];have MN := iD Lx;clear Lx;have Vq : Hid (zQ ns ds (zX s d p) = 0) := yN H0 d hp
 have Jd : Hid (vU nn ns ds s d p co ls pr ⟨nm, kd, a, b, Bi⟩ = wX (uz [(4, t1), (6, t2), (1, decide (p = 2) && decide (du = 4)), (2, yV kd p du (Cv (zW nn ds s) ⟨nm, kd, a, b, Bi⟩)), (3, yR ns ds s (zX s d p)), (5, decide (p = 2) && decide (kd = 4) && !vV pr a)])) := by
  unfold Hid vU;rw [if_neg Gp.out, dR, AL.out, AK.out, MN.out]
 clear Gp AL AK MN SC;have BG := iD H0.out;clear H0;go_upto_region 7 with (fail);have o1 := Ey.bo.c1;rcases hp with rfl | rfl
 ·go_upto_region 8 with (fail);refine fv (fun W' => ((W'.cell? ⟨w.heap.size, 0, none⟩ = some (.slice An nn cn) ∧ W'.cell? ⟨w.heap.size, 1, none⟩ = some (.slice (some ⟨b0, off, none⟩) nd cd)) ∧ W'.cell? ⟨w.heap.size + 1, 0, none⟩ = some (.int .i64 d) ∧ W'.cell? ⟨w.heap.size + 1, 1, none⟩ = some (.int .i64 1)) ∧ (W'.cell? ⟨vb, 1, none⟩ = some (.int .i64 kd) ∧ W'.cell? ⟨vb, 2, none⟩ = some (.int .i64 a)) ∧ W'.cell? ⟨w.heap.size + 2, 2, none⟩ = some (.slice Ap np cp) ∧ (W'.cell? ⟨b1, 0, none⟩ = some (.int .i64 4) ∧ W'.cell? ⟨b1, 1, none⟩ = some (.bool t1)) ∧ W'.cell? ⟨b1 + 1, 0, none⟩ = some (.int .i64 6) ∧ W'.cell? ⟨b1 + 1, 1, none⟩ = some (.bool t2)) [] ?_ fun AA => ?_
  ·exact Ey.cells
  try dsimp only at AA
  refine tk 0 60 (mf 16 1) AA ?_;refine tk 1 61 (mf 16 2) AA ?_;refine tk 2 62 (mf 16 3) AA ?_;refine tk 3 63 (mf 16 4) AA ?_;refine tk 4 64 (mf 16 5) AA ?_;refine tk 5 65 (mf 16 6) AA ?_;refine tk 6 66 (mf 16 7) AA ?_;refine tb 7 (mf 16 8) fun K hK => ?_
  (go_simp; refine (tG (some ⟨bs, GI, none⟩) n c Bs s d 1 w5.drew (HS.below Ey.bl.drew CJ) (Nat.le_trans CJ Ey.bl.size) (by omega)).mono ?_; rintro e u1 ⟨At, ct, rfl, VJ, VH⟩; have Ff := iD ((show MH _ _ _ _ _ _ _ _ _ _ w5.drew from ⟨Ey.bl.drew, Ey.bn, Ey.bo, Ey.bg, Ey.bv, Ey.b1, Ey.b2⟩).later VH); have AO := iD VJ.sl; clear VJ VH; go_simp)
  refine hK _ _ (fun _ => Ff.cells) fun p => (fun AA => ?_) (p rfl)
  clear p hK K;(try dsimp only at AA);refine tb 8 (mf 16 9) fun K hK => ?_
  (go_simp; refine (kY An (some ⟨b0, off, none⟩) (some ⟨bs, GI, none⟩) At nn cn nd cd n c (zX s d 1).length ct Bn Bd Bs u1.heap.size ns ds s (zX s d 1) u1 (HL.below Ff.bl lR) (HN.below Ff.bl CS) (Nat.le_trans CS Ff.bl.size) (HD.below Ff.bl BP) (Nat.le_trans BP Ff.bl.size) (HS.below Ff.bl CJ) (Nat.le_trans CJ Ff.bl.size) AO lR Ej Ce BG Vq Bq (by omega) AB (by rw [xD, Cb.out]; exact AB) HE HA).mono ?_; rintro e u2 ⟨Ao, mo, AY, lo, ko, rfl, Mx, Mw, Mv, hb⟩; have DJ := iD (Ff.later hb); have Fx := iD (tX Mw Mx); have QD := Mv.sl.le; clear hb Mx Mw Mv; go_simp)
  refine hK _ _ (fun _ => DJ.cells) fun p => (fun AA => ?_) (p rfl)
  clear p hK K;(try dsimp only at AA);refine tk 9 59 (mf 16 10) AA ?_;refine tk 10 69 (mf 16 11) AA ?_;refine tk 11 70 (mf 16 12) AA ?_;refine tk 12 71 (mf 16 13) AA ?_;refine tk 13 15 (mf 16 14) AA ?_;refine tk 14 16 (mf 16 15) AA ?_;refine tk 15 17 (mf 16 16) AA ?_;refine tK ?_;go_upto_region 9 with (fail)
  refine fv (fun W' => ((W'.cell? ⟨w.heap.size, 0, none⟩ = some (.slice An nn cn) ∧ W'.cell? ⟨w.heap.size, 1, none⟩ = some (.slice (some ⟨b0, off, none⟩) nd cd)) ∧ W'.cell? ⟨w.heap.size + 1, 0, none⟩ = some (.int .i64 d) ∧ W'.cell? ⟨w.heap.size + 1, 1, none⟩ = some (.int .i64 1)) ∧ (W'.cell? ⟨vb, 1, none⟩ = some (.int .i64 kd) ∧ W'.cell? ⟨vb, 2, none⟩ = some (.int .i64 a)) ∧ W'.cell? ⟨w.heap.size + 2, 2, none⟩ = some (.slice Ap np cp) ∧ (W'.cell? ⟨b1, 0, none⟩ = some (.int .i64 4) ∧ W'.cell? ⟨b1, 1, none⟩ = some (.bool t1)) ∧ W'.cell? ⟨b1 + 1, 0, none⟩ = some (.int .i64 6) ∧ W'.cell? ⟨b1 + 1, 1, none⟩ = some (.bool t2)) [] ?_ fun AA => ?_
  ·exact DJ.cells
  try dsimp only at AA
  refine tk 0 72 (mf 38 1) AA ?_;refine tk 1 73 (mf 38 2) AA ?_;refine tk 2 74 (mf 38 3) AA ?_;refine tk 3 75 (mf 38 4) AA ?_;refine ts 4 76 (mf 38 5) AA ?_;refine ts 5 77 (mf 38 6) AA ?_;refine tk 6 78 (mf 38 7) AA ?_;refine tk 7 79 (mf 38 8) AA ?_;refine tk 8 80 (mf 38 9) AA ?_;refine tk 9 81 (mf 38 10) AA ?_;refine tk 10 82 (mf 38 11) AA ?_;refine tk 11 83 (mf 38 12) AA ?_;refine tk 12 84 (mf 38 13) AA ?_;refine tk 13 85 (mf 38 14) AA ?_;refine tk 16 88 (ma 38 81919) AA ?_;refine tk 17 89 (ma 38 212991) AA ?_;refine tk 18 90 (ma 38 475135) AA ?_;refine tk 19 91 (ma 38 999423) AA ?_;refine tk 20 92 (ma 38 2047999) AA ?_;refine tb 14 (ma 38 2064383) fun K hK => ?_
  (go_simp; refine (oO An (some ⟨b0, off, none⟩) (some ⟨bs, GI, none⟩) nn cn nd cd n c Bd Bs d 1 du kd ds s ⟨nm, kd, a, b, Bi⟩ u2.drew (HD.below DJ.bl.drew BP) (Nat.le_trans BP DJ.bl.size) (HS.below DJ.bl.drew CJ) (Nat.le_trans CJ DJ.bl.size) Bq (by omega) AB HE HA hi HX rfl TT).mono ?_; rintro e u3 ⟨rfl, hb⟩; have Ju := iD ((show MH _ _ _ _ _ _ _ _ _ _ u2.drew from ⟨DJ.bl.drew, DJ.bn, DJ.bo, DJ.bg, DJ.bv, DJ.b1, DJ.b2⟩).later hb); clear hb; go_simp)
  refine hK _ _ (fun _ => Ju.cells) fun p => (fun AA => ?_) (p rfl)
  clear p hK K;(try dsimp only at AA);refine tk 15 87 (mf 38 21) AA ?_;refine tk 21 93 (mf 38 22) AA ?_;refine ts 22 94 (mf 38 23) AA ?_;refine ts 23 95 (mf 38 24) AA ?_;refine ts 24 96 (mf 38 25) AA ?_;refine tk 25 97 (mf 38 26) AA ?_;refine tk 26 98 (mf 38 27) AA ?_;refine ts 27 99 (mf 38 28) AA ?_;refine ts 28 100 (mf 38 29) AA ?_;refine ts 29 101 (mf 38 30) AA ?_;refine ts 30 102 (mf 38 31) AA ?_;refine ts 31 103 (mf 38 32) AA ?_;refine ts 32 104 (mf 38 33) AA ?_;refine tk 33 105 (mf 38 34) AA ?_;refine tk 34 106 (mf 38 35) AA ?_;refine tb 35 (mf 38 36) fun K hK => ?_
  go_simp
  refine hK _ _ (fun _ => (Ju.later ((Below.refl _ _).alloc lR _)).cells) fun p => (fun AA => ?_) (p rfl)
  clear p hK K;(try dsimp only at AA);refine tb 36 (mf 38 37) fun K hK => ?_
  (go_simp; refine (tY _ 6 6 (u3.heap.size + 1) [(4, t1), (6, t2), (1, false), (2, yV kd 1 du (Cv (zW nn ds s) ⟨nm, kd, a, b, Bi⟩)), (3, decide (0 < mo)), (5, false)] _ (Sl.newest rfl (by rfl) (by decide)) (by simp) (by decide)).mono ?_; rintro e u5 ⟨A5, c5, rfl, ET, BN⟩; have QY := iD ((Ju.later ((Below.refl _ _).alloc lR _)).later BN); have La := iD (ET.mono (base' := w.heap.size) (by have := Ju.bl.size; simp; omega)); clear ET BN; go_simp)
  refine hK _ _ (fun _ => QY.cells) fun p => (fun AA => ?_) (p rfl)
  clear p hK K;(try dsimp only at AA);refine tk 37 8 (mf 38 38) AA ?_;refine tK ?_
  go_wp2_with fail
  go_ret;rw [Jd.out, ← Fx.out];exact ⟨A5, c5, rfl, La, QY.bl⟩
 ·go_upto_region 8 with (fail);refine fv (fun W' => ((W'.cell? ⟨w.heap.size, 0, none⟩ = some (.slice An nn cn) ∧ W'.cell? ⟨w.heap.size, 1, none⟩ = some (.slice (some ⟨b0, off, none⟩) nd cd)) ∧ W'.cell? ⟨w.heap.size + 1, 0, none⟩ = some (.int .i64 d) ∧ W'.cell? ⟨w.heap.size + 1, 1, none⟩ = some (.int .i64 2)) ∧ (W'.cell? ⟨vb, 1, none⟩ = some (.int .i64 kd) ∧ W'.cell? ⟨vb, 2, none⟩ = some (.int .i64 a)) ∧ W'.cell? ⟨w.heap.size + 2, 2, none⟩ = some (.slice Ap np cp) ∧ (W'.cell? ⟨b1, 0, none⟩ = some (.int .i64 4) ∧ W'.cell? ⟨b1, 1, none⟩ = some (.bool t1)) ∧ W'.cell? ⟨b1 + 1, 0, none⟩ = some (.int .i64 6) ∧ W'.cell? ⟨b1 + 1, 1, none⟩ = some (.bool t2)) [] ?_ fun AA => ?_
  ·exact Ey.cells
  try dsimp only at AA
  refine tk 0 60 (mf 16 1) AA ?_;refine tk 1 61 (mf 16 2) AA ?_;refine tk 2 62 (mf 16 3) AA ?_;refine tk 3 63 (mf 16 4) AA ?_;refine tk 4 64 (mf 16 5) AA ?_;refine tk 5 65 (mf 16 6) AA ?_;refine tk 6 66 (mf 16 7) AA ?_;refine tb 7 (mf 16 8) fun K hK => ?_
  (go_simp; refine (tG (some ⟨bs, GI, none⟩) n c Bs s d 2 w5.drew (HS.below Ey.bl.drew CJ) (Nat.le_trans CJ Ey.bl.size) (by omega)).mono ?_; rintro e u1 ⟨At, ct, rfl, VJ, VH⟩; have Ff := iD ((show MH _ _ _ _ _ _ _ _ _ _ w5.drew from ⟨Ey.bl.drew, Ey.bn, Ey.bo, Ey.bg, Ey.bv, Ey.b1, Ey.b2⟩).later VH); have AO := iD VJ.sl; clear VJ VH; go_simp)
  refine hK _ _ (fun _ => Ff.cells) fun p => (fun AA => ?_) (p rfl)
  clear p hK K;(try dsimp only at AA);refine tb 8 (mf 16 9) fun K hK => ?_
  (go_simp; refine (kY An (some ⟨b0, off, none⟩) (some ⟨bs, GI, none⟩) At nn cn nd cd n c (zX s d 2).length ct Bn Bd Bs u1.heap.size ns ds s (zX s d 2) u1 (HL.below Ff.bl lR) (HN.below Ff.bl CS) (Nat.le_trans CS Ff.bl.size) (HD.below Ff.bl BP) (Nat.le_trans BP Ff.bl.size) (HS.below Ff.bl CJ) (Nat.le_trans CJ Ff.bl.size) AO lR Ej Ce BG Vq Bq (by omega) AB (by rw [xD, Cb.out]; exact AB) HE HA).mono ?_; rintro e u2 ⟨Ao, mo, AY, lo, ko, rfl, Mx, Mw, Mv, hb⟩; have DJ := iD (Ff.later hb); have Fx := iD (tX Mw Mx); have QD := Mv.sl.le; clear hb Mx Mw Mv; go_simp)
  refine hK _ _ (fun _ => DJ.cells) fun p => (fun AA => ?_) (p rfl)
  clear p hK K;(try dsimp only at AA);refine tk 9 59 (mf 16 10) AA ?_;refine tk 10 69 (mf 16 11) AA ?_;refine tk 11 70 (mf 16 12) AA ?_;refine tk 12 71 (mf 16 13) AA ?_;refine tk 13 15 (mf 16 14) AA ?_;refine tk 14 16 (mf 16 15) AA ?_;refine tk 15 17 (mf 16 16) AA ?_;refine tK ?_;go_upto_region 9 with (fail);by_cases hk : kd = 4
  ·subst hk;refine fv (fun W' => ((W'.cell? ⟨w.heap.size, 0, none⟩ = some (.slice An nn cn) ∧ W'.cell? ⟨w.heap.size, 1, none⟩ = some (.slice (some ⟨b0, off, none⟩) nd cd)) ∧ W'.cell? ⟨w.heap.size + 1, 0, none⟩ = some (.int .i64 d) ∧ W'.cell? ⟨w.heap.size + 1, 1, none⟩ = some (.int .i64 2)) ∧ (W'.cell? ⟨vb, 1, none⟩ = some (.int .i64 4) ∧ W'.cell? ⟨vb, 2, none⟩ = some (.int .i64 a)) ∧ W'.cell? ⟨w.heap.size + 2, 2, none⟩ = some (.slice Ap np cp) ∧ (W'.cell? ⟨b1, 0, none⟩ = some (.int .i64 4) ∧ W'.cell? ⟨b1, 1, none⟩ = some (.bool t1)) ∧ W'.cell? ⟨b1 + 1, 0, none⟩ = some (.int .i64 6) ∧ W'.cell? ⟨b1 + 1, 1, none⟩ = some (.bool t2)) [] ?_ fun AA => ?_
   ·exact DJ.cells
   try dsimp only at AA
   refine tk 0 72 (mf 38 1) AA ?_;refine tk 1 73 (mf 38 2) AA ?_;refine tk 2 74 (mf 38 3) AA ?_;refine tk 3 75 (mf 38 4) AA ?_;refine tk 4 76 (mf 38 5) AA ?_;refine tk 5 77 (mf 38 6) AA ?_;refine tk 6 78 (mf 38 7) AA ?_;refine tk 7 79 (mf 38 8) AA ?_;refine tk 8 80 (mf 38 9) AA ?_;refine tk 9 81 (mf 38 10) AA ?_;refine tk 10 82 (mf 38 11) AA ?_;refine tk 11 83 (mf 38 12) AA ?_;refine tk 12 84 (mf 38 13) AA ?_;refine tk 13 85 (mf 38 14) AA ?_;refine tk 16 88 (ma 38 81919) AA ?_;refine tk 17 89 (ma 38 212991) AA ?_;refine tk 18 90 (ma 38 475135) AA ?_;refine tk 19 91 (ma 38 999423) AA ?_;refine tk 20 92 (ma 38 2047999) AA ?_;refine tb 14 (ma 38 2064383) fun K hK => ?_
   (go_simp; refine (oO An (some ⟨b0, off, none⟩) (some ⟨bs, GI, none⟩) nn cn nd cd n c Bd Bs d 2 du 4 ds s ⟨nm, 4, a, b, Bi⟩ u2.drew (HD.below DJ.bl.drew BP) (Nat.le_trans BP DJ.bl.size) (HS.below DJ.bl.drew CJ) (Nat.le_trans CJ DJ.bl.size) Bq (by omega) AB HE HA hi HX rfl TT).mono ?_; rintro e u3 ⟨rfl, hb⟩; have Ju := iD ((show MH _ _ _ _ _ _ _ _ _ _ u2.drew from ⟨DJ.bl.drew, DJ.bn, DJ.bo, DJ.bg, DJ.bv, DJ.b1, DJ.b2⟩).later hb); clear hb; go_simp)
   refine hK _ _ (fun _ => Ju.cells) fun p => (fun AA => ?_) (p rfl)
   clear p hK K;(try dsimp only at AA);refine tk 15 87 (mf 38 21) AA ?_;refine tk 21 93 (mf 38 22) AA ?_;refine tk 22 94 (mf 38 23) AA ?_;refine tk 23 95 (mf 38 24) AA ?_;refine tk 24 96 (mf 38 25) AA ?_;refine tk 25 97 (mf 38 26) AA ?_;refine tk 26 98 (mf 38 27) AA ?_;refine tk 27 99 (mf 38 28) AA ?_;refine tk 28 100 (mf 38 29) AA ?_;refine tk 29 101 (mf 38 30) AA ?_;refine tk 30 102 (mf 38 31) AA ?_;refine tb 31 (mf 38 32) fun K hK => ?_
   (go_simp; refine (wZ Ap np cp Bp pr a u3 (Aa.below Ju.bl AX)).mono ?_; rintro e u4 ⟨rfl, rfl⟩; go_simp)
   refine hK _ _ (fun _ => Ju.cells) fun p => (fun AA => ?_) (p rfl)
   clear p hK K;(try dsimp only at AA);refine tk 32 104 (mf 38 33) AA ?_;refine tk 33 105 (mf 38 34) AA ?_;refine tk 34 106 (mf 38 35) AA ?_;refine tb 35 (mf 38 36) fun K hK => ?_
   go_simp
   refine hK _ _ (fun _ => (Ju.later ((Below.refl _ _).alloc lR _)).cells) fun p => (fun AA => ?_) (p rfl)
   clear p hK K;(try dsimp only at AA);refine tb 36 (mf 38 37) fun K hK => ?_
   (go_simp; refine (tY _ 6 6 (u3.heap.size + 1) [(4, t1), (6, t2), (1, du == 4), (2, yV 4 2 du (Cv (zW nn ds s) ⟨nm, 4, a, b, Bi⟩)), (3, decide (0 < mo)), (5, !vV pr a)] _ (Sl.newest rfl (by rfl) (by decide)) (by simp) (by decide)).mono ?_; rintro e u5 ⟨A5, c5, rfl, ET, BN⟩; have QY := iD ((Ju.later ((Below.refl _ _).alloc lR _)).later BN); have La := iD (ET.mono (base' := w.heap.size) (by have := Ju.bl.size; simp; omega)); clear ET BN; go_simp)
   refine hK _ _ (fun _ => QY.cells) fun p => (fun AA => ?_) (p rfl)
   clear p hK K;(try dsimp only at AA);refine tk 37 8 (mf 38 38) AA ?_;refine tK ?_
   go_wp2_with fail
   go_ret;rw [Jd.out, ← Fx.out];exact ⟨A5, c5, rfl, La, QY.bl⟩
  ·have qk : (kd == 4) = false := by simpa using hk
   have TM := Jd.out;rw [show decide (kd = 4) = false from by simp [hk]] at TM;clear Jd;have Jd := iD TM;clear TM;refine fv (fun W' => ((W'.cell? ⟨w.heap.size, 0, none⟩ = some (.slice An nn cn) ∧ W'.cell? ⟨w.heap.size, 1, none⟩ = some (.slice (some ⟨b0, off, none⟩) nd cd)) ∧ W'.cell? ⟨w.heap.size + 1, 0, none⟩ = some (.int .i64 d) ∧ W'.cell? ⟨w.heap.size + 1, 1, none⟩ = some (.int .i64 2)) ∧ (W'.cell? ⟨vb, 1, none⟩ = some (.int .i64 kd) ∧ W'.cell? ⟨vb, 2, none⟩ = some (.int .i64 a)) ∧ W'.cell? ⟨w.heap.size + 2, 2, none⟩ = some (.slice Ap np cp) ∧ (W'.cell? ⟨b1, 0, none⟩ = some (.int .i64 4) ∧ W'.cell? ⟨b1, 1, none⟩ = some (.bool t1)) ∧ W'.cell? ⟨b1 + 1, 0, none⟩ = some (.int .i64 6) ∧ W'.cell? ⟨b1 + 1, 1, none⟩ = some (.bool t2)) [] ?_ fun AA => ?_
   ·exact DJ.cells
   try dsimp only at AA
   refine tk 0 72 (mf 38 1) AA ?_;refine tk 1 73 (mf 38 2) AA ?_;refine tk 2 74 (mf 38 3) AA ?_;refine tk 3 75 (mf 38 4) AA ?_;refine tk 4 76 (mf 38 5) AA ?_;refine tk 5 77 (mf 38 6) AA ?_;refine tk 6 78 (mf 38 7) AA ?_;refine tk 7 79 (mf 38 8) AA ?_;refine tk 8 80 (mf 38 9) AA ?_;refine tk 9 81 (mf 38 10) AA ?_;refine tk 10 82 (mf 38 11) AA ?_;refine tk 11 83 (mf 38 12) AA ?_;refine tk 12 84 (mf 38 13) AA ?_;refine tk 13 85 (mf 38 14) AA ?_;refine tk 16 88 (ma 38 81919) AA ?_;refine tk 17 89 (ma 38 212991) AA ?_;refine tk 18 90 (ma 38 475135) AA ?_;refine tk 19 91 (ma 38 999423) AA ?_;refine tk 20 92 (ma 38 2047999) AA ?_;refine tb 14 (ma 38 2064383) fun K hK => ?_
   (go_simp; refine (oO An (some ⟨b0, off, none⟩) (some ⟨bs, GI, none⟩) nn cn nd cd n c Bd Bs d 2 du kd ds s ⟨nm, kd, a, b, Bi⟩ u2.drew (HD.below DJ.bl.drew BP) (Nat.le_trans BP DJ.bl.size) (HS.below DJ.bl.drew CJ) (Nat.le_trans CJ DJ.bl.size) Bq (by omega) AB HE HA hi HX rfl TT).mono ?_; rintro e u3 ⟨rfl, hb⟩; have Ju := iD ((show MH _ _ _ _ _ _ _ _ _ _ u2.drew from ⟨DJ.bl.drew, DJ.bn, DJ.bo, DJ.bg, DJ.bv, DJ.b1, DJ.b2⟩).later hb); clear hb; go_simp)
   refine hK _ _ (fun _ => Ju.cells) fun p => (fun AA => ?_) (p rfl)
   clear p hK K;(try dsimp only at AA);refine tk 15 87 (mf 38 21) AA ?_;refine tk 21 93 (mf 38 22) AA ?_;refine tk 22 94 (mf 38 23) AA ?_;refine tk 23 95 (mf 38 24) AA ?_;refine tk 24 96 (mf 38 25) AA ?_;refine tk 25 97 (mf 38 26) AA ?_;refine tk 26 98 (mf 38 27) AA ?_;refine ts 27 99 (mf 38 28) AA ?_;refine ts 28 100 (mf 38 29) AA ?_;refine ts 29 101 (mf 38 30) AA ?_;refine ts 30 102 (mf 38 31) AA ?_;refine ts 31 103 (mf 38 32) AA ?_;refine ts 32 104 (mf 38 33) AA ?_;refine tk 33 105 (mf 38 34) AA ?_;refine tk 34 106 (mf 38 35) AA ?_;refine tb 35 (mf 38 36) fun K hK => ?_
   go_simp
   refine hK _ _ (fun _ => (Ju.later ((Below.refl _ _).alloc lR _)).cells) fun p => (fun AA => ?_) (p rfl)
   clear p hK K;(try dsimp only at AA);refine tb 36 (mf 38 37) fun K hK => ?_
   (go_simp; refine (tY _ 6 6 (u3.heap.size + 1) [(4, t1), (6, t2), (1, du == 4), (2, yV kd 2 du (Cv (zW nn ds s) ⟨nm, kd, a, b, Bi⟩)), (3, decide (0 < mo)), (5, false)] _ (Sl.newest rfl (by rfl) (by decide)) (by simp) (by decide)).mono ?_; rintro e u5 ⟨A5, c5, rfl, ET, BN⟩; have QY := iD ((Ju.later ((Below.refl _ _).alloc lR _)).later BN); have La := iD (ET.mono (base' := w.heap.size) (by have := Ju.bl.size; simp; omega)); clear ET BN; go_simp)
   refine hK _ _ (fun _ => QY.cells) fun p => (fun AA => ?_) (p rfl)
   clear p hK K;(try dsimp only at AA);refine tk 37 8 (mf 38 38) AA ?_;refine tK ?_
   go_wp2_with fail
   go_ret;rw [Jd.out, ← Fx.out];exact ⟨A5, c5, rfl, La, QY.bl⟩
end Go.Proofs.YtkkobemhbicjgaaGreatDoor
