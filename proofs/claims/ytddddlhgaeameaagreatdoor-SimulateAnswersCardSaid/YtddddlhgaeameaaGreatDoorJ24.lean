import Derived.Test.YtddddlhgaeameaaGreatDoorJ21
import Derived.Test.YtddddlhgaeameaaGreatDoorJ23
import Derived.ChangeMaps5
import Derived.Lib.SmallJoins
import Derived.Deep.Slices
import Derived.Deep.Fields
import Derived.Test.YtddddlhgaeameaaGreatDoorShelf
import Derived.Sort.OwnSortedInts
set_option maxRecDepth 100000
namespace Go.Proofs.YtddddlhgaeameaaGreatDoor
open Go.RowKit Tryz
variable {fuel g k1 k2 n : Nat} {cs : List Value} {w : World} {a : Act} {v : Value} {D : List Nat}
structure GI (w : World) (nb : Nat) (An : Option Addr) (nn cn : Nat) (ns : List Nd) (Ad : Option Addr) (nd cd : Nat) (ds : List Dv) (wr : World) : Prop where
 dk : zP wr w.heap.size
 bx : AJ wr nb 26 #[.slice An nn cn, .slice Ad nd cd]
 hn : EI wr w.heap.size 3 An nn cn (ns.flatMap Nd.cells)
 hd : EI wr w.heap.size 5 Ad nd cd (ds.flatMap Dv.cells)
 bl : bW w wr
 ge : w.heap.size < nb
 la : yr wr
section
variable {w wr wr' : World} {nb nn cn nd cd : Nat} {An Ad : Option Addr} {ns : List Nd} {ds : List Dv}
theorem GI.grown (h : GI w nb An nn cn ns Ad nd cd ds wr) (hl : yr w) (hg : wr.grownBy wr' (some w.heap.size)) (hd : zP wr' w.heap.size) : GI w nb An nn cn ns Ad nd cd ds wr' :=
 ⟨hd, h.bx.grown hg (fun e => by have := h.ge; injection e; omega), h.hn.grown hg, h.hd.grown hg, h.bl.trans (yX hg lR h.bl.size), h.ge, h.la.grown hl hg lR⟩
theorem GI.later (h : GI w nb An nn cn ns Ad nd cd ds wr) (hb : bW wr wr') : GI w nb An nn cn ns Ad nd cd ds wr' :=
 ⟨h.dk.grown (zI hb none) (fun k e => by cases e), h.bx.below hb h.bx.lt, h.hn.below hb, h.hd.below hb, h.bl.trans (hb.mono h.bl.size), h.ge, h.la.below hb lR⟩
theorem GI.mk0 {w1 w2 : World} {nodes AV : Int} (hl : yr w) (AX : bW w w1) (BS : w1.heap.size = w.heap.size + 1) (Ih : zP w2 w.heap.size) (Cc : w1.grownBy w2 (some w.heap.size))
 (VY : w2.ownsRow (w1.heap.size + 4) 73 3 (.slice An nn cn) nn (ns.flatMap Nd.cells)) (VZ : w2.ownsRow (w1.heap.size + 4) 75 5 (.slice Ad nd cd) nd (ds.flatMap Dv.cells)) (_hm : uW nodes AV ns ds) :
 GI w w2.heap.size An nn cn ns Ad nd cd ds (w2.alloc (.cells #[.slice An nn cn, .slice Ad nd cd] 26)) ∧ ns.length = nn ∧ ds.length = nd := by
 have AQ : Below w.heap.size w w2 := AX.trans (yX Cc lR (by omega));refine ⟨⟨Ih.alloc _, AJ.new _ _ _, (EI.of_own VY (by omega)).alloc _, (EI.of_own VZ (by omega)).alloc _, AQ.alloc AQ.size _, ?_, (hl.below AQ lR).alloc _⟩, (Sl.of_own VY).len (fun _ => rfl) (by decide), (Sl.of_own VZ).len (fun _ => rfl) (by decide)⟩;have := Cc.size; omega
end
structure yY (g : Nat) (P : World → Prop) : Prop where
 later : ∀ {wr wr' : World}, P wr → bW wr wr' → P wr'
 grown : ∀ {wr wr' : World}, P wr → wr.grownBy wr' (some g) → zP wr' g → P wr'
theorem yY.and {P Q : World → Prop} (hp : yY g P) (hq : yY g Q) : yY g fun w => P w ∧ Q w := ⟨fun h hb => ⟨hp.later h.1 hb, hq.later h.2 hb⟩, fun h hg hd => ⟨hp.grown h.1 hg hd, hq.grown h.2 hg hd⟩⟩
theorem yY.blk {b : Nat} {t : TypeId} {cs : Array Value} (hne : b ≠ g) : yY g fun w => AJ w b t cs := ⟨fun h hb => h.below hb h.lt, fun h hg _ => h.grown hg (fun e => hne (by injection e))⟩
theorem yY.slx {size c : Nat} {A : Option Addr} {xs : List Value} : yY g fun w => EI w g size A n c xs := ⟨fun h hb => h.below hb, fun h hg _ => h.grown hg⟩
theorem yY.lwn {nb nn cn nd cd : Nat} {An Ad : Option Addr} {ns : List Nd} {ds : List Dv} (hl : yr w) : yY w.heap.size (GI w nb An nn cn ns Ad nd cd ds) :=
 ⟨fun h hb => h.later hb, fun h hg hd => h.grown hl hg hd⟩
theorem EI.nil (w : World) (g size : Nat) : EI w g size none 0 0 [] := ⟨Sl.nil _ _ _, fun b off e => by cases e⟩
theorem yY.drew {P : World → Prop} (hk : yY g P) (h : P w) : P w.drew := hk.later h (Below.refl _ _).drew
section
variable {P : Program} {ops : Array Oper} {Q : Exit → Act → World → Prop} {md : Region.Mode} {S : World → Prop} {J : List Nat}
def qW (md : Region.Mode) (ops : Array Oper) (fin : Array Bool) : Nat → List Nat → List Nat → Array Bool → Bool
 | 0, C, D, listed => C.isEmpty && D.isEmpty && listed == fin
 | n + 1, C, D, listed => !(Region.ready md ops listed).isEmpty && (Region.ready md ops listed).all (fun i => C.head? == some i || D.contains i) &&
  (match C with | c :: cs => qW md ops fin n cs D (listed.setIfInBounds c true) | [] => true) && D.all (fun i => qW md ops fin n C (D.erase i) (listed.setIfInBounds i true))
theorem uh {Φ : List Nat → List Nat → Act → World → Prop} {m : Nat} {fin : Array Bool}
 (hc : ∀ c cs D a w, Φ (c :: cs) D a w → wpOp P ops Q c (fun a' w' => (J.contains c = false → S w') ∧ Φ cs D a' w') a w)
 (hd : ∀ C D i a w, i ∈ D → Φ C D a w → wpOp P ops Q i (fun a' w' => (J.contains i = false → S w') ∧ Φ C (D.erase i) a' w') a w)
 (he : ∀ a w, Φ [] [] a w → zZ P md ops Q S J m fin a w) :
 ∀ (n : Nat) (C D : List Nat) (listed : Array Bool) (a : Act) (w : World), qW md ops fin n C D listed = true → Φ C D a w → zZ P md ops Q S J (n + m) listed a w
 | 0, C, D, listed, a, w, hk, h => by
  simp only [qW, Bool.and_eq_true, List.isEmpty_iff, beq_iff_eq] at hk;obtain ⟨⟨rfl, rfl⟩, rfl⟩ := hk;rw [Nat.zero_add];exact he a w h
 | n + 1, C, D, listed, a, w, hk, h => by
  simp only [qW, Bool.and_eq_true] at hk;obtain ⟨⟨⟨h1, h2⟩, h3⟩, h4⟩ := hk;rw [Nat.add_right_comm];refine ⟨fun h0 => (by rw [h0] at h1; cases h1), fun j hj => ?_⟩;have h5 := List.all_eq_true.1 h2 j hj;rw [Bool.or_eq_true] at h5;rcases h5 with h5 | h5
  ·rcases C with _ | ⟨c, cs⟩
   ·cases h5
   ·simp only [List.head?_cons, beq_iff_eq, Option.some.injEq] at h5;subst h5;exact wpOp_mono (fun a' w' h' => ⟨h'.1, uh hc hd he n cs D _ a' w' h3 h'.2⟩) (hc _ _ _ _ _ h)
  ·have hj' : j ∈ D := by simpa using h5
   exact wpOp_mono (fun a' w' h' => ⟨h'.1, uh hc hd he n C (D.erase j) _ a' w' (List.all_eq_true.1 h4 j hj') h'.2⟩) (hd _ _ _ _ _ hj' h)
def ra (md : Region.Mode) (ops : Array Oper) (J : List Nat) (fin : Array Bool) : List (Nat × Bool) → Array Bool → Bool
 | [], listed => listed == fin
 | (i, true) :: r, listed => Region.free md ops listed i && (Region.ready md ops listed).contains i && xl md ops listed && J.all (vr md ops i ops.size) && ra md ops J fin r (listed.setIfInBounds i true)
 | (_, false) :: _, _ => false
def QR (Q : Exit → Act → World → Prop) (R : Act → World → Prop) : Exit → Act → World → Prop := fun ex a w => match ex with
 | .normal => R a w
 | ex => Q ex a w
theorem uc {R : Act → World → Prop} {m : Nat} {fin : Array Bool} (hs : Region.noSelect ops = true) (hQ : ∀ c a d v w, Q (.panic c) (a.put (some d) v) w → Q (.panic c) a w) (hR : ∀ a w, R a w → zZ P md ops Q S J m fin a w) :
 ∀ (tk : List (Nat × Bool)) (listed : Array Bool) (a : Act) (w : World), ra md ops J fin tk listed = true → vu P ops (QR Q R) S J tk a w → zZ P md ops Q S J (tk.length + m) listed a w
 | [], listed, a, w, hc, h => by
  have : listed = fin := by simpa [ra] using hc
  subst this;rw [List.length_nil, Nat.zero_add];exact hR a w h
 | (i, true) :: r, listed, a, w, hc, h => by
  simp only [ra, Bool.and_eq_true] at hc;obtain ⟨⟨⟨⟨h1, h2⟩, h3⟩, h4⟩, h5⟩ := hc;obtain ⟨hS, oi, v, Pv, hy, hr⟩ := h;rw [List.length_cons, Nat.add_right_comm];exact vv Pv rfl hs h1 h2 h3 h4 (fun c a w q => by cases hd : oi.dst with | none => rw [hd] at q; exact q | some d => rw [hd] at q; exact hQ c a d v w q) hy hS (uc hs hQ hR r _ _ _ h5 hr)
 | (_, false) :: _, _, _, _, hc, _ => by cases hc
def jK (P : Program) (ops : Array Oper) (J : List Nat) (pre : List (Nat × Bool)) (C D : List Nat) (post : List (Nat × Bool)) (f0 f1 : Array Bool) : Bool :=
 P.follows .mixedOrders && Region.noSelect ops && pre.length + ((C.length + D.length) + post.length) == ops.size && ra .any ops J f0 pre (Array.replicate ops.size false) && qW .any ops f1 (C.length + D.length) C D f0 && uv .any ops J post f1
theorem rp {id : Nat} {base : List (Nat × Value)} (pre post : List (Nat × Bool)) (C D : List Nat) (f0 f1 : Array Bool) (hk : jK P ops J pre C D post f0 f1 = true) (hn : a.tmps.size = n) (hb : uJ a base) (hS : S w.drew) (hq : ∀ c a d v w, Q (.panic c) (a.put (some d) v) w → Q (.panic c) a w)
 (h : ∀ (Q2 : Exit → Act → World → Prop) (A : Act), A.tmps.size = n → uJ A base → Hid (∀ L w', Q .normal (yB a L) w' → Q2 .normal (yB A L) w') → S w.drew →
  ∃ Φ : List Nat → List Nat → Act → World → Prop, CO P ops (QR Q2 (Φ C D)) S J pre (yB A []) w.drew ∧
   (∀ c cs D a w, Φ (c :: cs) D a w → wpOp P ops Q2 c (fun a' w' => (J.contains c = false → S w') ∧ Φ cs D a' w') a w) ∧
   (∀ C D i a w, i ∈ D → Φ C D a w → wpOp P ops Q2 i (fun a' w' => (J.contains i = false → S w') ∧ Φ C (D.erase i) a' w') a w) ∧
   (∀ a w, Φ [] [] a w → CO P ops Q2 S J post a w)) : (Code.region id ops true).wp P Q a w := by
 simp only [jK, Bool.and_eq_true, beq_iff_eq] at hk;obtain ⟨⟨⟨⟨⟨h1, h2⟩, h3⟩, h4⟩, h5⟩, h6⟩ := hk;refine zB (J := J) h1 hS (fun hS => ?_);obtain ⟨Φ, k1, k2, k3, k4⟩ := h Q a hn hb (fun L w' h => h) hS
 have e : ∀ a w, Φ [] [] a w → zZ P .any ops Q S J post.length f1 a w := fun a w hΦ => by
  have := wG (P := P) h2 hq post 0 _ _ _ h6 (k4 a w hΦ).out
  rwa [Nat.add_zero] at this
 have l : ∀ a w, Φ C D a w → zZ P .any ops Q S J ((C.length + D.length) + post.length) f0 a w := fun a w hΦ => uh k2 k3 e _ C D f0 a w h5 hΦ
 have := uc (P := P) h2 hq l pre _ _ _ h4 k1.out;rw [h3] at this;exact this
theorem iI {R : Act → World → Prop} (h : R a w) : CO P ops (QR Q R) S J [] a w := ⟨h⟩
section
variable {A : Act} {L : List (Nat × Value)} {w : World} {n i d : Nat} {oi : Oper} {v : Value} {R : Act → World → Prop}
theorem ol {f : FuncId} {xs : Array Operand} {ats : Array TypeId} {vs : Array Value} (hi : ops[i]? = some oi) (hd : oi.dst = some d) (ho : oi.op = .call { callee := .value (.func f), args := xs, argTypes := ats }) (hg : oi.guard = none)
 (hx : ∀ ρ : Operand → Value, Rd A L ρ → xs.map ρ = vs) (hf : ∀ w, (callFunc f vs).run P w = .ok (.enter f vs) w)
 (h : Calls P f vs w (fun e w' => ∃ v, e = .returned v ∧ R (yB A ((d, v) :: L)) w')) : wpOp P ops Q i R (yB A L) w := by
 simp only [wpOp, hi, zg hg, if_true];refine .inl ?_
 have he : (execOp (yB A L).eval oi).run P w = .ok (.enter f vs) w := by
  have := hf w;rw [← hx _ rfl] at this ⊢;unfold execOp;rw [ho];rw [← this];have e0 : (#[] ++ xs.map (yB A L).eval ++ #[] : Array Value) = xs.map (yB A L).eval := by simp
  conv => rhs; rw [← e0]
  rfl
 rw [Oper.wp, he, Oper.upon_enter];refine h.mono ?_;rintro e w' ⟨v, rfl, h1⟩;simp only [hd];exact h1
theorem pe {w' : World} (hi : ops[i]? = some oi) (hd : oi.dst = some d) (hg : oi.guard = none)
 (hv : ∀ ρ : Operand → Value, Rd A L ρ → (execOp ρ oi).run P w = .ok (.value v) w') (h : R (yB A ((d, v) :: L)) w') : wpOp P ops Q i R (yB A L) w := by
 simp only [wpOp, hi, zg hg, if_true];refine .inl ?_;rw [Oper.wp, hv _ rfl, Oper.upon_value, hd];exact h
theorem li {w' : World} {r : List (Nat × Bool)} (hi : ops[i]? = some oi) (hd : oi.dst = none) (hw : Region.wanted oi (yielded ops (yB A L).tmps) = true)
 (hv : ∀ ρ : Operand → Value, Rd A L ρ → (execOp ρ oi).run P w = .ok .skip w') (hS : J.contains i = false → S w') (h : CO P ops Q S J r (yB A L) w') : CO P ops Q S J ((i, false) :: r) (yB A L) w := by
 refine ⟨?_⟩;simp only [vu, wpOp, hi, hw, if_true];refine .inl ?_;rw [Oper.wp, hv _ rfl, Oper.upon_skip, hd];exact ⟨hS, h.out⟩
def oV (b : Bool) (k : Nat) (v : Value) : List (Nat × Value) := if b = true then [(k, v)] else []
theorem vN {b : Bool} {k : Nat} {u d : Value} {L : List (Nat × Value)} (h : Nat.beq n k = false) (r : MG L n d = u) : MG (oV b k v ++ L) n d = u := by
 cases b
 ·exact r
 ·exact yd h r
theorem kq (a : Act) (h : k1 ≠ k2) (v1 v2 : Value) : (a.put (some k1) v1).put (some k2) v2 = (a.put (some k2) v2).put (some k1) v1 := by
 simp only [Act.put];rw [Array.setIfInBounds_comm _ _ h]
theorem lc (A : Act) (L : List (Nat × Value)) (h : k1 ≠ k2) (v1 v2 : Value) : yB A ((k1, v1) :: (k2, v2) :: L) = yB A ((k2, v2) :: (k1, v1) :: L) := by
 simp only [yB];exact kq _ (Ne.symm h) _ _
theorem oN (A : Act) (L : List (Nat × Value)) (h : k1 ≠ k2) (b : Bool) (v1 v2 : Value) : yB A ((k1, v1) :: (oV b k2 v2 ++ L)) = yB A (oV b k2 v2 ++ ((k1, v1) :: L)) := by
 cases b
 ·rfl
 ·exact lc A L h v1 v2
end
def ptr (x : Nat) : Value := .pointer (some ⟨x, 0, none⟩)
structure xY (H : Nat) (T7 T8 : TypeId) (z7 z8 : Array Value) (b7 b8 : Bool) (x7 x8 : Nat) (w : World) : Prop where
 le : H ≤ w.heap.size
 m7 : b7 = true → AJ w x7 T7 z7 ∧ H ≤ x7
 m8 : b8 = true → AJ w x8 T8 z8 ∧ H ≤ x8
 ne : b7 = true → b8 = true → x7 ≠ x8
section
variable {H x7 x8 g : Nat} {T7 T8 : TypeId} {z7 z8 : Array Value} {b7 b8 : Bool} {w w' : World}
theorem xY.later (h : xY H T7 T8 z7 z8 b7 b8 x7 x8 w) (hb : bW w w') : xY H T7 T8 z7 z8 b7 b8 x7 x8 w' :=
 ⟨Nat.le_trans h.le hb.size, fun e => ⟨(h.m7 e).1.below hb (h.m7 e).1.lt, (h.m7 e).2⟩, fun e => ⟨(h.m8 e).1.below hb (h.m8 e).1.lt, (h.m8 e).2⟩, h.ne⟩
theorem xY.grown (h : xY H T7 T8 z7 z8 b7 b8 x7 x8 w) (hg : w.grownBy w' (some g)) (hl : g < H) : xY H T7 T8 z7 z8 b7 b8 x7 x8 w' :=
 ⟨Nat.le_trans h.le hg.size, fun e => ⟨(h.m7 e).1.grown hg (fun e2 => by have := (h.m7 e).2; injection e2 with e2; omega), (h.m7 e).2⟩, fun e => ⟨(h.m8 e).1.grown hg (fun e2 => by have := (h.m8 e).2; injection e2 with e2; omega), (h.m8 e).2⟩, h.ne⟩
theorem xY.start (w : World) (x7 x8 : Nat) : xY w.heap.size T7 T8 z7 z8 false false x7 x8 w := ⟨Nat.le_refl _, fun e => (by cases e), fun e => (by cases e), fun e => (by cases e)⟩
theorem xY.one7 (h : xY H T7 T8 z7 z8 b7 b8 x7 x8 w) : xY H T7 T8 z7 z8 true b8 w.heap.size x8 (w.alloc (.cells z7 T7)) :=
 ⟨by have := h.le; simp; omega, fun _ => ⟨AJ.new _ _ _, h.le⟩, fun e => ⟨(h.m8 e).1.alloc _, (h.m8 e).2⟩, fun _ e => by have := (h.m8 e).1.lt; omega⟩
theorem xY.one8 (h : xY H T7 T8 z7 z8 b7 b8 x7 x8 w) : xY H T7 T8 z7 z8 b7 true x7 w.heap.size (w.alloc (.cells z8 T8)) :=
 ⟨by have := h.le; simp; omega, fun e => ⟨(h.m7 e).1.alloc _, (h.m7 e).2⟩, fun _ => ⟨AJ.new _ _ _, h.le⟩, fun e _ => by have := (h.m7 e).1.lt; omega⟩
end
def hI : List (Nat × Nat) → List Value → List (Nat × Value)
 | c :: cs, v :: vs => hI cs vs ++ [(c.2, v)]
 | _, _ => []
def gG (A : Act) (L0 : List (Nat × Value)) (i7 i8 d7 d8 H : Nat) (T7 T8 : TypeId) (z7 z8 : Array Value) (Cs : List (Nat × Nat)) (F : List Value → World → Prop) (C D : List Nat) (a : Act) (w : World) : Prop :=
 ∃ (vs : List Value) (x7 x8 : Nat), C = (Cs.drop vs.length).map (·.1) ∧ D.Nodup ∧ (∀ i ∈ D, i = i7 ∨ i = i8) ∧ a = yB A (oV (!D.contains i8) d8 (ptr x8) ++ (oV (!D.contains i7) d7 (ptr x7) ++ (hI Cs vs ++ L0))) ∧ F vs w ∧ xY H T7 T8 z7 z8 (!D.contains i7) (!D.contains i8) x7 x8 w
section
variable {A : Act} {L0 : List (Nat × Value)} {i7 i8 d7 d8 H n : Nat} {T7 T8 : TypeId} {z7 z8 : Array Value} {Cs : List (Nat × Nat)} {F : List Value → World → Prop} {C D : List Nat} {a : Act} {w : World} {o7 o8 : Oper}
theorem wC (h : D.Nodup) (i : Nat) : (D.erase i).contains i = false := by
 rw [← Bool.not_eq_true, List.contains_iff_mem]; exact h.not_mem_erase
theorem vD {i j : Nat} (h : j ≠ i) : (D.erase i).contains j = D.contains j := by
 rw [Bool.eq_iff_iff, List.contains_iff_mem, List.contains_iff_mem, List.mem_erase_of_ne h]
theorem gG.alloc (hF : ∀ vs w o, F vs w → F vs (w.alloc o)) (AB : i7 ≠ i8) (hd : d7 ≠ d8) (h7 : ops[i7]? = some o7) (h8 : ops[i8]? = some o8) (Kr : o7.dst = some d7) (AL : o8.dst = some d8) (Ko : o7.guard = none) (AK : o8.guard = none)
 (Iq : ∀ ρ : Operand → Value, ∀ w, (execOp ρ o7).run P w = .ok (.value (ptr w.heap.size)) (w.alloc (.cells z7 T7))) (AG : ∀ ρ : Operand → Value, ∀ w, (execOp ρ o8).run P w = .ok (.value (ptr w.heap.size)) (w.alloc (.cells z8 T8)))
 (i : Nat) (hi : i ∈ D) (h : gG A L0 i7 i8 d7 d8 H T7 T8 z7 z8 Cs F C D a w) : wpOp P ops Q i (fun a' w' => gG A L0 i7 i8 d7 d8 H T7 T8 z7 z8 Cs F C (D.erase i) a' w') a w := by
 obtain ⟨vs, x7, x8, hC, hn, hD, rfl, hf, hm⟩ := h;have hc : D.contains i = true := by rw [List.contains_iff_mem]; exact hi
 rcases hD i hi with rfl | rfl
 ·refine pe h7 Kr Ko (fun ρ _ => Iq ρ w) ?_;refine ⟨vs, w.heap.size, x8, hC, hn.erase _, fun j hj => hD j (List.mem_of_mem_erase hj), ?_, hF _ _ _ hf, ?_⟩
  ·rw [wC hn, vD (Ne.symm AB), hc];exact oN A _ hd _ _ _
  ·rw [wC hn, vD (Ne.symm AB)];exact hm.one7
 ·refine pe h8 AL AK (fun ρ _ => AG ρ w) ?_;refine ⟨vs, x7, w.heap.size, hC, hn.erase _, fun j hj => hD j (List.mem_of_mem_erase hj), ?_, hF _ _ _ hf, ?_⟩
  ·rw [wC hn, vD AB, hc];rfl
  ·rw [wC hn, vD AB];exact hm.one8
end
end
structure xB (H : Nat) (T7 : TypeId) (z7 : Array Value) (b7 : Bool) (x7 : Nat) (w : World) : Prop where
 le : H ≤ w.heap.size
 m7 : b7 = true → AJ w x7 T7 z7 ∧ H ≤ x7
section
variable {H x7 g : Nat} {T7 : TypeId} {z7 : Array Value} {b7 : Bool} {w w' : World}
theorem xB.later (h : xB H T7 z7 b7 x7 w) (hb : bW w w') : xB H T7 z7 b7 x7 w' :=
 ⟨Nat.le_trans h.le hb.size, fun e => ⟨(h.m7 e).1.below hb (h.m7 e).1.lt, (h.m7 e).2⟩⟩
theorem xB.grown (h : xB H T7 z7 b7 x7 w) (hg : w.grownBy w' (some g)) (hl : g < H) : xB H T7 z7 b7 x7 w' :=
 ⟨Nat.le_trans h.le hg.size, fun e => ⟨(h.m7 e).1.grown hg (fun e2 => by have := (h.m7 e).2; injection e2 with e2; omega), (h.m7 e).2⟩⟩
theorem xB.start (w : World) (x7 : Nat) : xB w.heap.size T7 z7 false x7 w := ⟨Nat.le_refl _, fun e => (by cases e)⟩
theorem xB.one (h : xB H T7 z7 b7 x7 w) : xB H T7 z7 true w.heap.size (w.alloc (.cells z7 T7)) :=
 ⟨by have := h.le; simp; omega, fun _ => ⟨AJ.new _ _ _, h.le⟩⟩
end
section
variable {P : Program} {ops : Array Oper} {Q : Exit → Act → World → Prop}
def nR (A : Act) (L0 : List (Nat × Value)) (i7 d7 H : Nat) (T7 : TypeId) (z7 : Array Value) (Cs : List (Nat × Nat)) (F : List Value → World → Prop) (C D : List Nat) (a : Act) (w : World) : Prop :=
 ∃ (vs : List Value) (x7 : Nat), C = (Cs.drop vs.length).map (·.1) ∧ D.Nodup ∧ (∀ i ∈ D, i = i7) ∧ a = yB A (oV (!D.contains i7) d7 (ptr x7) ++ (hI Cs vs ++ L0)) ∧ F vs w ∧ xB H T7 z7 (!D.contains i7) x7 w
theorem qV (A : Act) {d d7 : Nat} {v7 : Value} {b7 : Bool} {Y : List (Nat × Value)} (h7 : d ≠ d7) : yB A ((d, v) :: (oV b7 d7 v7 ++ Y)) = yB A (oV b7 d7 v7 ++ ((d, v) :: Y)) := oN A Y h7 b7 v v7
theorem nR.alloc {A : Act} {L0 : List (Nat × Value)} {i7 d7 H : Nat} {T7 : TypeId} {z7 : Array Value} {Cs : List (Nat × Nat)} {F : List Value → World → Prop} {C : List Nat} {o7 : Oper}
 (hF : ∀ vs w o, F vs w → F vs (w.alloc o)) (h7 : ops[i7]? = some o7) (Kr : o7.dst = some d7) (Ko : o7.guard = none) (Iq : ∀ ρ : Operand → Value, ∀ w, (execOp ρ o7).run P w = .ok (.value (ptr w.heap.size)) (w.alloc (.cells z7 T7)))
 (i : Nat) (hi : i ∈ D) (h : nR A L0 i7 d7 H T7 z7 Cs F C D a w) : wpOp P ops Q i (fun a' w' => nR A L0 i7 d7 H T7 z7 Cs F C (D.erase i) a' w') a w := by
 obtain ⟨vs, x7, hC, hn, hD, rfl, hf, hm⟩ := h;have hc : D.contains i = true := by rw [List.contains_iff_mem]; exact hi
 obtain rfl := hD i hi;refine pe h7 Kr Ko (fun ρ _ => Iq ρ w) ?_;refine ⟨vs, w.heap.size, hC, hn.erase _, fun j hj => hD j (List.mem_of_mem_erase hj), ?_, hF _ _ _ hf, ?_⟩
 ·rw [wC hn, hc]; rfl
 ·rw [wC hn]; exact hm.one
end
section
open Go.ChangeShapes Go.WideShapes Go.ChangeAt Go.RowKit Go.Deep
section
variable {H : Type} {enc : TypeId × Value → H} {W : World} {base b : Nat} {sp : Nat → Bool} {hd : Bool} {r : Reach}
theorem xg {α : Type} (y0 : α) (f : α → List Value) {size : Nat} (hsz : ∀ x, (f x).length = size) (Pq : 0 < size) (P : α → Prop) {t e : TypeId} (hu : prog.underlying t = some (.slice e)) (hce : prog.cellsOf e = size) (Nn : ∀ {fuel : Nat} {cs : List Value} {x : DataW H × List MemPlace}, DataW.trod enc prog W base sp hd fuel e cs = some x → ∃ y : α, cs = f y ∧ P y)
 {x : DataW H × List MemPlace} (h : DataW.trod enc prog W base sp hd fuel t cs = some x) :
 ∃ (A : Option Addr) (n c : Nat) (l : List α), cs = [.slice A n c] ∧ Av W size A n c (l.flatMap f) ∧ ∀ y ∈ l, P y := by
 rcases open_slice hu h with ⟨rfl, _⟩ | ⟨a, len, cap, m, n, D, Pl, rfl, hb, AH, Nq, Vk, _, hi⟩
 ·exact ⟨none, 0, 0, [], rfl, Sl.nil _ _ _, fun y hy => by cases hy⟩
 rw [hce] at hi;have AP : len ≤ m := by rw [Vk]; split <;> omega
 have hit : ∀ i, i < len → ∃ y : α, P y ∧ ∀ j u, (f y)[j]? = some u → W.cell? ((a.add (i * size)).add j) = some u := fun i hlt => by
  obtain ⟨cs', hc, ht⟩ := hi i (by omega);obtain ⟨y, rfl, hp⟩ := Nn ht;obtain ⟨_, _, KM⟩ := World.cells?_some hc
  exact ⟨y, hp, fun j u hu => by
   have hj : j < size := by rw [← hsz y]; exact (List.getElem?_eq_some_iff.1 hu).1
   rw [KM j hj]; exact hu⟩
 let g : Nat → α := fun i => if h : i < len then Classical.choose (hit i h) else y0
 have AA : ∀ i, i < len → P (g i) ∧ ∀ j u, (f (g i))[j]? = some u → W.cell? ((a.add (i * size)).add j) = some u := fun i hlt => by
  have : g i = Classical.choose (hit i hlt) := dif_pos hlt;rw [this]; exact Classical.choose_spec (hit i hlt)
 refine ⟨some a, len, cap, (List.range len).map g, rfl, ⟨?_, AH, by simpa [maxLen] using Nq, (fun e => by cases e), fun h0 => ?_⟩, fun y hy => ?_⟩
 ·rw [yF hsz]; simp
 ·obtain ⟨gb, off, spot⟩ := a;have AO : 0 < (f (g 0)).length := by rw [hsz]; exact Pq
  have ND := (AA 0 h0).2 0 _ (List.getElem?_eq_getElem AO);have Nf : spot = none := by simpa [Addr.add] using World.cell?_spot ND
  subst Nf;simp only [xP] at AA ND;refine ⟨gb, off, rfl, wU ND, fun j u hu => ?_⟩
  have hj : j < len * size := by
   have := (List.getElem?_eq_some_iff.1 hu).1
   rwa [yF hsz, List.length_map, List.length_range] at this
  have hk : j / size < len := Nat.div_lt_of_lt_mul (by rw [Nat.mul_comm]; exact hj);have hm : j % size < size := Nat.mod_lt _ Pq;have MO : j / size * size + j % size = j := by rw [Nat.mul_comm]; exact Nat.div_add_mod j size
  have KM := uQ hsz ((List.range len).map g) (j / size) (j % size) (g (j / size)) (by rw [List.getElem?_map, List.getElem?_range hk]; rfl) hm;rw [MO, hu] at KM;have := (AA (j / size) hk).2 (j % size) u KM.symm;rw [Nat.add_assoc, MO] at this;exact this
 ·obtain ⟨i, hi, rfl⟩ := List.mem_map.1 hy;exact (AA i (List.mem_range.1 hi)).1
theorem mB {x : DataW H × List MemPlace} (h : DataW.trod enc prog W base sp hd fuel 87 cs = some x) : ∃ y : Lk, cs = y.cells ∧ True := by
 obtain ⟨ys, n, _, _, hl, KH, hf⟩ := DataW.trod_struct underlying87 h;have h3 : cs.length = 3 := hl.trans (by kernel_rfl)
 match cs, h3 with
 | [c0, c1, c2], _ =>
  match ys, KH with
  | [y0, y1, y2], _ =>
   have e0 := hf 0 _ rfl;have e1 := hf 1 _ rfl;have e2 := hf 2 _ rfl;have Sv : prog.cellsOf 3 = 1 := by kernel_rfl
   obtain ⟨a0, g0, _, _⟩ := DataW.trod_int underlying3 e0;obtain ⟨a1, g1, _, _⟩ := DataW.trod_int underlying3 e1;obtain ⟨a2, g2, _, _⟩ := DataW.trod_int underlying3 e2;simp [Sv] at g0 g1 g2;subst g0 g1 g2;exact ⟨⟨a0, a1, a2⟩, rfl, trivial⟩
theorem mA {x : DataW H × List MemPlace} (h : DataW.trod enc prog W base sp hd fuel 73 cs = some x) : ∃ y : Nd, cs = y.cells ∧ y.name.size ≤ 9223372036854775807 := by
 obtain ⟨ys, n, _, _, hl, KH, hf⟩ := DataW.trod_struct underlying73 h;have h3 : cs.length = 3 := hl.trans (by kernel_rfl)
 match cs, h3 with
 | [c0, c1, c2], _ =>
  match ys, KH with
  | [y0, y1, y2], _ =>
   have e0 := hf 0 _ rfl;have e1 := hf 1 _ rfl;have e2 := hf 2 _ rfl;have Sv : prog.cellsOf 3 = 1 := by kernel_rfl
   have AE : prog.cellsOf 9 = 1 := by kernel_rfl
   obtain ⟨a0, g0, _, w0⟩ := DataW.trod_string underlying9 e0;obtain ⟨a1, g1, _, _⟩ := DataW.trod_int underlying3 e1;obtain ⟨a2, g2, _, _⟩ := DataW.trod_int underlying3 e2;simp [Sv, AE] at g0 g1 g2;subst g0 g1 g2;exact ⟨⟨a0, a1, a2⟩, rfl, by simpa [maxLen] using w0⟩
theorem lk {x : DataW H × List MemPlace} (h : DataW.trod enc prog W base sp hd fuel 75 cs = some x) : ∃ y : Dv, cs = y.cells ∧ y.name.size ≤ 9223372036854775807 := by
 obtain ⟨ys, n, _, _, hl, KH, hf⟩ := DataW.trod_struct underlying75 h;have h5 : cs.length = 5 := hl.trans (by kernel_rfl)
 match cs, h5 with
 | [c0, c1, c2, c3, c4], _ =>
  match ys, KH with
  | [y0, y1, y2, y3, y4], _ =>
   have e0 := hf 0 _ rfl;have e1 := hf 1 _ rfl;have e2 := hf 2 _ rfl;have e3 := hf 3 _ rfl;have e4 := hf 4 _ rfl;have Sv : prog.cellsOf 3 = 1 := by kernel_rfl
   have AE : prog.cellsOf 9 = 1 := by kernel_rfl
   obtain ⟨a0, g0, _, w0⟩ := DataW.trod_string underlying9 e0;obtain ⟨a1, g1, _, _⟩ := DataW.trod_int underlying3 e1;obtain ⟨a2, g2, _, _⟩ := DataW.trod_int underlying3 e2;obtain ⟨a3, g3, _, _⟩ := DataW.trod_int underlying3 e3;obtain ⟨a4, g4, _, _⟩ := DataW.trod_int underlying3 e4;simp [Sv, AE] at g0 g1 g2 g3 g4;subst g0 g1 g2 g3 g4;exact ⟨⟨a0, a1, a2, a3, a4⟩, rfl, by simpa [maxLen] using w0⟩
structure Lt (α : Type) where
 A : Option Addr
 n : Nat
 c : Nat
 l : List α
def Lt.val {α : Type} (x : Lt α) : Value := .slice x.A x.n x.c
def ij (W : World) (x : Lt Nd × Lt Dv) : Prop := Av W 3 x.1.A x.1.n x.1.c (x.1.l.flatMap Nd.cells) ∧ Av W 5 x.2.A x.2.n x.2.c (x.2.l.flatMap Dv.cells) ∧ (∀ y ∈ x.1.l, y.name.size ≤ 9223372036854775807) ∧ ∀ y ∈ x.2.l, y.name.size ≤ 9223372036854775807
theorem open_net {d : DataW H} {p : List MemPlace} (hv : Value.okWide prog W r b 26 v) (h : DataW.Trod enc prog W base sp hd 26 v d p) : ∃ x : Lt Nd × Lt Dv, v = .agg #[.slice x.1.A x.1.n x.1.c, .slice x.2.A x.2.n x.2.c] ∧ ij W x := by
 obtain ⟨v0, v1, y0, y1, n, rfl, _, _, h0, h1⟩ := Joins.open_agg2 underlying26 (by kernel_rfl) (by kernel_rfl) hv h;obtain ⟨A, m, c, l, e, hs, hp⟩ := xg (size := 3) ⟨⟨#[]⟩, 0, 0⟩ Nd.cells (fun _ => rfl) (by decide) (fun y => y.name.size ≤ 9223372036854775807) underlying23 (by kernel_rfl) mA h0;obtain ⟨A2, m2, c2, l2, e2, IK, PI⟩ := xg (size := 5) ⟨⟨#[]⟩, 0, 0, 0, 0⟩ Dv.cells (fun _ => rfl) (by decide) (fun y => y.name.size ≤ 9223372036854775807) underlying24 (by kernel_rfl) lk h1;simp at e e2;subst e e2;exact ⟨(⟨A, m, c, l⟩, ⟨A2, m2, c2, l2⟩), rfl, hs, IK, hp, PI⟩
end
end
section
open Go.ChangeShapes Go.WideShapes Go.ChangeAt Go.RowKit Go.Deep
section
variable {H : Type} {enc : TypeId × Value → H} {W : World} {base b : Nat} {sp : Nat → Bool} {hd : Bool} {r : Reach}
theorem lj {x : DataW H × List MemPlace} (h : DataW.trod enc prog W base sp hd fuel 3 cs = some x) : ∃ y : Int, cs = [Value.int .i64 y] ∧ True := by
 obtain ⟨a, e, _, _⟩ := DataW.trod_int underlying3 h;exact ⟨a, e, trivial⟩
theorem open_ground {d : DataW H} {p : List MemPlace} (hv : Value.okWide prog W r b 29 v) (h : DataW.Trod enc prog W base sp hd 29 v d p) : ∃ x : Int × Lt Lk × Lt Int, v = .agg #[.int .i64 x.1, .slice x.2.1.A x.2.1.n x.2.1.c, .slice x.2.2.A x.2.2.n x.2.2.c] ∧ Av W 3 x.2.1.A x.2.1.n x.2.1.c (x.2.1.l.flatMap Lk.cells) ∧ Av W 1 x.2.2.A x.2.2.n x.2.2.c (zF x.2.2.l) := by
 obtain ⟨v0, v1, v2, y0, y1, y2, n, rfl, _, _, h0, h1, h2⟩ := Joins.open_agg3 underlying29 (by kernel_rfl) (by kernel_rfl) hv h;obtain ⟨a0, e0, _, _⟩ := DataW.trod_int underlying3 h0;obtain ⟨A, m, c, l, e, hs, _⟩ := xg (size := 3) ⟨0, 0, 0⟩ Lk.cells (fun _ => rfl) (by decide) (fun _ => True) underlying27 (by kernel_rfl) mB h1;obtain ⟨A2, m2, c2, l2, e2, IK, _⟩ := xg (size := 1) (0 : Int) (fun z => [Value.int .i64 z]) (fun _ => rfl) (by decide) (fun _ => True) underlying22 (by kernel_rfl) lj h2;simp at e0 e e2;subst e0 e e2;exact ⟨(a0, ⟨A, m, c, l⟩, ⟨A2, m2, c2, l2⟩), rfl, hs, IK⟩
end
end
section
open Go.ChangeShapes Go.WideShapes Go.ChangeAt Go.RowKit Go.Deep
section
variable {H : Type} {enc : TypeId × Value → H} {W : World} {base b : Nat} {sp : Nat → Bool} {hd : Bool} {r : Reach}
theorem rK {x : DataW H × List MemPlace} (h : DataW.trod enc prog W base sp hd fuel 31 cs = some x) : ∃ y : Sp, cs = y.cells ∧ True := by
 obtain ⟨ys, n, _, _, hl, KH, hf⟩ := DataW.trod_struct underlying31 h;have h5 : cs.length = 5 := hl.trans (by kernel_rfl)
 match cs, h5 with
 | [c0, c1, c2, c3, c4], _ =>
  match ys, KH with
  | [y0, y1, y2, y3, y4], _ =>
   have e0 := hf 0 _ rfl;have e1 := hf 1 _ rfl;have e2 := hf 2 _ rfl;have e3 := hf 3 _ rfl;have e4 := hf 4 _ rfl;have Sv : prog.cellsOf 3 = 1 := by kernel_rfl
   obtain ⟨a0, g0, _, _⟩ := DataW.trod_int underlying3 e0;obtain ⟨a1, g1, _, _⟩ := DataW.trod_int underlying3 e1;obtain ⟨a2, g2, _, _⟩ := DataW.trod_int underlying3 e2;obtain ⟨a3, g3, _, _⟩ := DataW.trod_int underlying3 e3;obtain ⟨a4, g4, _, _⟩ := DataW.trod_int underlying3 e4;simp [Sv] at g0 g1 g2 g3 g4;subst g0 g1 g2 g3 g4;exact ⟨⟨a0, a1, a2, a3, a4⟩, rfl, trivial⟩
theorem open_step {d : DataW H} {p : List MemPlace} (hv : Value.okWide prog W r b 31 v) (h : DataW.Trod enc prog W base sp hd 31 v d p) : ∃ x : Sp, v = .agg #[.int .i64 x.kind, .int .i64 x.dev, .int .i64 x.node, .int .i64 x.pos, .int .i64 x.key] ∧ True := by
 obtain ⟨cs, rfl, _⟩ := okWide_struct underlying31 hv;obtain ⟨fuel, hf⟩ := h;obtain ⟨y, hy, _⟩ := rK hf;have e : cs = y.cells.toArray := Array.ext' (by simpa [Value.cells] using hy);subst e;exact ⟨y, rfl, trivial⟩
theorem open_prog {d : DataW H} {p : List MemPlace} (hv : Value.okWide prog W r b 34 v) (h : DataW.Trod enc prog W base sp hd 34 v d p) : ∃ x : ByteArray × Lt Sp, v = .agg #[.string x.1, .slice x.2.A x.2.n x.2.c] ∧ x.1.size ≤ 9223372036854775807 ∧ Av W 5 x.2.A x.2.n x.2.c (x.2.l.flatMap Sp.cells) := by
 obtain ⟨v0, v1, y0, y1, n, rfl, _, _, h0, h1⟩ := Joins.open_agg2 underlying34 (by kernel_rfl) (by kernel_rfl) hv h;obtain ⟨a0, e0, _, w0⟩ := DataW.trod_string underlying9 h0;obtain ⟨A, m, c, l, e, hs, _⟩ := xg (size := 5) ⟨0, 0, 0, 0, 0⟩ Sp.cells (fun _ => rfl) (by decide) (fun _ => True) underlying32 (by kernel_rfl) rK h1;simp at e0 e;subst e0 e;exact ⟨(a0, ⟨A, m, c, l⟩), rfl, by simpa [maxLen] using w0, hs⟩
end
end
def vJ (l : List Int) : List Int := l.mergeSort fun x y => decide (x ≤ y)
def vA (l : List Int) (x : Int) : Bool := l.contains x
theorem oz (l : List Int) (x : Int) : vA l x = true ↔ x ∈ l := by unfold vA; simp
theorem oy (l : List Int) (x : Int) : vA l x = false ↔ x ∉ l := by rw [← oz]; simp
theorem rC (l : List Int) : (vJ l).Perm l := List.mergeSort_perm _ _
theorem qF (l : List Int) : (vJ l).length = l.length := (rC l).length_eq
theorem pJ (l : List Int) : (vJ l).Pairwise (· ≤ ·) := by
 have h := List.pairwise_mergeSort (le := fun x y : Int => decide (x ≤ y)) (fun a b c h1 h2 => by simp at *; omega) (fun a b => by simp; omega) l;exact h.imp (fun h => by simpa using h)
theorem kW (A : Option Addr) (n c base : Nat) (l : List Int) (w : World) (h : zN w base A n c l) (hn : n ≤ 1000000) :
 Calls prog 133 #[.slice A n c] w fun e w' => e = .returned (.tuple #[]) ∧ Hid (zN w' base A n c (vJ l)) ∧ Hid (w.grownBy w' (Value.slice A n c).ownBlock) := by
 have hl := h.len;rcases h.2 with ⟨hv, h0⟩ | ⟨g, cap, cur, hv, hb, hh, Ir, hm, hs, ht⟩
 ·injection hv with h1 h2 h3;subst h1 h3 h0;have : l = [] := List.eq_nil_of_length_eq_zero hl;subst this;refine (slices_Sort_int_none none 0 w).mono ?_;rintro e w1 ⟨rfl, rfl⟩;exact ⟨rfl, by unfold Hid vJ; simpa using h, xF _ _⟩
 ·injection hv with h1 h2 h3;subst h1 h3;subst hl;rw [Nat.mul_one, yS] at ht;refine (slices_Sort_int g 0 c l w (holds_of_blockI hh ht) (h.lt g rfl).2 (by omega)).mono ?_;rintro e w1 ⟨rfl, k, os, rfl⟩;refine ⟨rfl, ?_, grownBy_sortedI _⟩;have := ownsRow_sortedI (n := k) (os := os) (ss := l) (ts := vJ l) (qF l) hb hh Ir hm hs;unfold Hid zN;rw [yS];exact this
theorem vf (A : Option Addr) (n c B : Nat) (l : List Int) (x : Int) (w : World) (h : Sl w B 1 A n c (zF l)) :
 Calls prog 45 #[.slice A n c, .int .i64 x] w fun e w' => e = .returned (.bool (vA l x)) ∧ w = w' := by
 have hl : l.length = n := h.len (fun _ => rfl) (by decide);have hle := h.le;rcases Nat.eq_zero_or_pos n with rfl | h0
 ·have : l = [] := List.eq_nil_of_length_eq_zero hl;subst this;refine (slices_Contains_int_empty A c x w).mono ?_;rintro e w1 ⟨rfl, rfl⟩;exact ⟨rfl, rfl⟩
 ·obtain ⟨b, off, e, hb, hc⟩ := h.2.2.2.2 h0;subst e;refine (slices_Contains_int b off n c l x w (by omega) (by omega) (fun j hj => hc j _ ?_)).mono ?_
  ·have := uQ (f := fun z => [Value.int .i64 z]) (size := 1) (fun _ => rfl) l j 0 _ (List.getElem?_eq_getElem hj) (by decide);rw [Nat.mul_one] at this;rw [List.getD_eq_getElem?_getD, List.getElem?_eq_getElem hj];exact this
  ·rintro e w1 ⟨rfl, rfl⟩;rw [List.take_of_length_le (by omega)];exact ⟨rfl, rfl⟩
end Go.Proofs.YtddddlhgaeameaaGreatDoor
