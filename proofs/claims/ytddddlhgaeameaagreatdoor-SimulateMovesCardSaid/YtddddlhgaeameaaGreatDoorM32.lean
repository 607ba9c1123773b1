import Derived.Test.YtddddlhgaeameaaGreatDoorM30
import Derived.Test.YtddddlhgaeameaaGreatDoorM31
import Derived.Test.YtddddlhgaeameaaGreatDoorM20
namespace Go.Proofs.YtddddlhgaeameaaGreatDoor
section
open Go.RowKit
structure LwN (w : World) (nb : Nat) (An : Option Addr) (nn cn : Nat) (ns : List Nd) (Ad : Option Addr) (nd cd : Nat) (ds : List Dv) (wr : World) : Prop where
 dk : zS wr w.heap.size
 bx : Blk wr nb 26 #[.slice An nn cn, .slice Ad nd cd]
 hn : SlX wr w.heap.size 3 An nn cn (ns.flatMap Nd.cells)
 hd : SlX wr w.heap.size 5 Ad nd cd (ds.flatMap Dv.cells)
 bl : Below w.heap.size w wr
 ge : w.heap.size < nb
 la : Laid wr
section
variable {w wr wr' : World} {nb nn cn nd cd : Nat} {An Ad : Option Addr} {ns : List Nd} {ds : List Dv}
theorem LwN.grown (h : LwN w nb An nn cn ns Ad nd cd ds wr) (hl : Laid w) (hg : wr.grownBy wr' (some w.heap.size)) (hd : zS wr' w.heap.size) : LwN w nb An nn cn ns Ad nd cd ds wr' :=
 ⟨hd, h.bx.grown hg (fun e => by have := h.ge; injection e; omega), h.hn.grown hg, h.hd.grown hg, h.bl.trans (yQ hg lR h.bl.size), h.ge, h.la.grown hl hg lR⟩
theorem LwN.later (h : LwN w nb An nn cn ns Ad nd cd ds wr) (hb : Below wr.heap.size wr wr') : LwN w nb An nn cn ns Ad nd cd ds wr' :=
 ⟨h.dk.grown (zN hb none) (fun k e => by cases e), h.bx.below hb h.bx.lt, h.hn.below hb, h.hd.below hb, h.bl.trans (hb.mono h.bl.size), h.ge, h.la.below hb lR⟩
theorem LwN.mk0 {w1 w2 : World} {nodes dmax : Int} (hl : Laid w) (hb1 : Below w.heap.size w w1) (hs1 : w1.heap.size = w.heap.size + 1) (hd2 : zS w2 w.heap.size) (hg2 : w1.grownBy w2 (some w.heap.size))
 (hrn : w2.ownsRow (w1.heap.size + 4) 73 3 (.slice An nn cn) nn (ns.flatMap Nd.cells)) (hrd : w2.ownsRow (w1.heap.size + 4) 75 5 (.slice Ad nd cd) nd (ds.flatMap Dv.cells)) (_hm : uI nodes dmax ns ds) :
 LwN w w2.heap.size An nn cn ns Ad nd cd ds (w2.alloc (.cells #[.slice An nn cn, .slice Ad nd cd] 26)) ∧ ns.length = nn ∧ ds.length = nd := by
 have hb2 : Below w.heap.size w w2 := hb1.trans (yQ hg2 lR (by omega))
 refine ⟨⟨hd2.alloc _, Blk.new _ _ _, (SlX.of_own hrn (by omega)).alloc _, (SlX.of_own hrd (by omega)).alloc _, hb2.alloc hb2.size _, ?_, (hl.below hb2 lR).alloc _⟩, (Sl.of_own hrn).len (fun _ => rfl) (by decide), (Sl.of_own hrd).len (fun _ => rfl) (by decide)⟩
 have := hg2.size; omega
end
end
section
open Go.RowKit
structure ww (g : Nat) (P : World → Prop) : Prop where
 later : ∀ {wr wr' : World}, P wr → Below wr.heap.size wr wr' → P wr'
 grown : ∀ {wr wr' : World}, P wr → wr.grownBy wr' (some g) → zS wr' g → P wr'
theorem ww.and {g : Nat} {P Q : World → Prop} (hp : ww g P) (hq : ww g Q) : ww g fun w => P w ∧ Q w := ⟨fun h hb => ⟨hp.later h.1 hb, hq.later h.2 hb⟩, fun h hg hd => ⟨hp.grown h.1 hg hd, hq.grown h.2 hg hd⟩⟩
theorem ww.blk {g b : Nat} {t : TypeId} {cs : Array Value} (hne : b ≠ g) : ww g fun w => Blk w b t cs := ⟨fun h hb => h.below hb h.lt, fun h hg _ => h.grown hg (fun e => hne (by injection e))⟩
theorem ww.slx {g size n c : Nat} {A : Option Addr} {xs : List Value} : ww g fun w => SlX w g size A n c xs := ⟨fun h hb => h.below hb, fun h hg _ => h.grown hg⟩
theorem ww.lwn {w : World} {nb nn cn nd cd : Nat} {An Ad : Option Addr} {ns : List Nd} {ds : List Dv} (hl : Laid w) : ww w.heap.size (LwN w nb An nn cn ns Ad nd cd ds) :=
 ⟨fun h hb => h.later hb, fun h hg hd => h.grown hl hg hd⟩
theorem SlX.nil (w : World) (g size : Nat) : SlX w g size none 0 0 [] := ⟨Sl.nil _ _ _, fun b off e => by cases e⟩
theorem ww.drew {g : Nat} {P : World → Prop} (hk : ww g P) {w : World} (h : P w) : P w.drew := hk.later h (Below.refl _ _).drew
end
section
open Go.RowKit
section
variable {P : Program} {ops : Array Oper} {Q : Exit → Act → World → Prop} {md : Region.Mode} {S : World → Prop} {J : List Nat}
def rx (md : Region.Mode) (ops : Array Oper) (fin : Array Bool) : Nat → List Nat → List Nat → Array Bool → Bool
 | 0, C, D, listed => C.isEmpty && D.isEmpty && listed == fin
 | n + 1, C, D, listed => !(Region.ready md ops listed).isEmpty && (Region.ready md ops listed).all (fun i => C.head? == some i || D.contains i) &&
  (match C with | c :: cs => rx md ops fin n cs D (listed.setIfInBounds c true) | [] => true) && D.all (fun i => rx md ops fin n C (D.erase i) (listed.setIfInBounds i true))
theorem uR {Φ : List Nat → List Nat → Act → World → Prop} {m : Nat} {fin : Array Bool}
 (hc : ∀ c cs D a w, Φ (c :: cs) D a w → wpOp P ops Q c (fun a' w' => (J.contains c = false → S w') ∧ Φ cs D a' w') a w)
 (hd : ∀ C D i a w, i ∈ D → Φ C D a w → wpOp P ops Q i (fun a' w' => (J.contains i = false → S w') ∧ Φ C (D.erase i) a' w') a w)
 (he : ∀ a w, Φ [] [] a w → zb P md ops Q S J m fin a w) :
 ∀ (n : Nat) (C D : List Nat) (listed : Array Bool) (a : Act) (w : World), rx md ops fin n C D listed = true → Φ C D a w → zb P md ops Q S J (n + m) listed a w
 | 0, C, D, listed, a, w, hk, h => by
  simp only [rx, Bool.and_eq_true, List.isEmpty_iff, beq_iff_eq] at hk
  obtain ⟨⟨rfl, rfl⟩, rfl⟩ := hk
  rw [Nat.zero_add]
  exact he a w h
 | n + 1, C, D, listed, a, w, hk, h => by
  simp only [rx, Bool.and_eq_true] at hk
  obtain ⟨⟨⟨h1, h2⟩, h3⟩, h4⟩ := hk
  rw [Nat.add_right_comm]
  refine ⟨fun h0 => (by rw [h0] at h1; cases h1), fun j hj => ?_⟩
  have h5 := List.all_eq_true.1 h2 j hj
  rw [Bool.or_eq_true] at h5
  rcases h5 with h5 | h5
  ·rcases C with _ | ⟨c, cs⟩
   ·cases h5
   ·simp only [List.head?_cons, beq_iff_eq, Option.some.injEq] at h5
    subst h5
    exact wpOp_mono (fun a' w' h' => ⟨h'.1, uR hc hd he n cs D _ a' w' h3 h'.2⟩) (hc _ _ _ _ _ h)
  ·have hj' : j ∈ D := by simpa using h5
   exact wpOp_mono (fun a' w' h' => ⟨h'.1, uR hc hd he n C (D.erase j) _ a' w' (List.all_eq_true.1 h4 j hj') h'.2⟩) (hd _ _ _ _ _ hj' h)
def rG (md : Region.Mode) (ops : Array Oper) (J : List Nat) (fin : Array Bool) : List (Nat × Bool) → Array Bool → Bool
 | [], listed => listed == fin
 | (i, true) :: r, listed => Region.free md ops listed i && (Region.ready md ops listed).contains i && xj md ops listed && J.all (ve md ops i ops.size) && rG md ops J fin r (listed.setIfInBounds i true)
 | (_, false) :: _, _ => false
def QR (Q : Exit → Act → World → Prop) (R : Act → World → Prop) : Exit → Act → World → Prop := fun ex a w => match ex with
 | .normal => R a w
 | ex => Q ex a w
theorem uN {R : Act → World → Prop} {m : Nat} {fin : Array Bool} (hs : Region.noSelect ops = true) (hQ : ∀ c a d v w, Q (.panic c) (a.put (some d) v) w → Q (.panic c) a w) (hR : ∀ a w, R a w → zb P md ops Q S J m fin a w) :
 ∀ (tk : List (Nat × Bool)) (listed : Array Bool) (a : Act) (w : World), rG md ops J fin tk listed = true → vg P ops (QR Q R) S J tk a w → zb P md ops Q S J (tk.length + m) listed a w
 | [], listed, a, w, hc, h => by
  have : listed = fin := by simpa [rG] using hc
  subst this
  rw [List.length_nil, Nat.zero_add]
  exact hR a w h
 | (i, true) :: r, listed, a, w, hc, h => by
  simp only [rG, Bool.and_eq_true] at hc
  obtain ⟨⟨⟨⟨h1, h2⟩, h3⟩, h4⟩, h5⟩ := hc
  obtain ⟨hS, oi, v, hoi, hy, hr⟩ := h
  rw [List.length_cons, Nat.add_right_comm]
  exact vh hoi rfl hs h1 h2 h3 h4 (fun c a w q => by cases hd : oi.dst with | none => rw [hd] at q; exact q | some d => rw [hd] at q; exact hQ c a d v w q) hy hS (uN hs hQ hR r _ _ _ h5 hr)
 | (_, false) :: _, _, _, _, hc, _ => by cases hc
def lx (P : Program) (ops : Array Oper) (J : List Nat) (pre : List (Nat × Bool)) (C D : List Nat) (post : List (Nat × Bool)) (f0 f1 : Array Bool) : Bool :=
 P.follows .mixedOrders && Region.noSelect ops && pre.length + ((C.length + D.length) + post.length) == ops.size && rG .any ops J f0 pre (Array.replicate ops.size false) && rx .any ops f1 (C.length + D.length) C D f0 && uf .any ops J post f1
theorem rS {id : Nat} {a : Act} {w : World} {base : List (Nat × Value)} {n : Nat} (pre post : List (Nat × Bool)) (C D : List Nat) (f0 f1 : Array Bool) (hk : lx P ops J pre C D post f0 f1 = true) (hn : a.tmps.size = n) (hb : vv a base) (hS : S w.drew) (hq : ∀ c a d v w, Q (.panic c) (a.put (some d) v) w → Q (.panic c) a w)
 (h : ∀ (Q2 : Exit → Act → World → Prop) (A : Act), A.tmps.size = n → vv A base → Hid (∀ L w', Q .normal (zi a L) w' → Q2 .normal (zi A L) w') → S w.drew →
  ∃ Φ : List Nat → List Nat → Act → World → Prop, wpOrd P ops (QR Q2 (Φ C D)) S J pre (zi A []) w.drew ∧
   (∀ c cs D a w, Φ (c :: cs) D a w → wpOp P ops Q2 c (fun a' w' => (J.contains c = false → S w') ∧ Φ cs D a' w') a w) ∧
   (∀ C D i a w, i ∈ D → Φ C D a w → wpOp P ops Q2 i (fun a' w' => (J.contains i = false → S w') ∧ Φ C (D.erase i) a' w') a w) ∧
   (∀ a w, Φ [] [] a w → wpOrd P ops Q2 S J post a w)) : (Code.region id ops true).wp P Q a w := by
 simp only [lx, Bool.and_eq_true, beq_iff_eq] at hk
 obtain ⟨⟨⟨⟨⟨h1, h2⟩, h3⟩, h4⟩, h5⟩, h6⟩ := hk
 refine zF (J := J) h1 hS (fun hS => ?_)
 obtain ⟨Φ, k1, k2, k3, k4⟩ := h Q a hn hb (fun L w' h => h) hS
 have e : ∀ a w, Φ [] [] a w → zb P .any ops Q S J post.length f1 a w := fun a w hΦ => by
  have := wE (P := P) h2 hq post 0 _ _ _ h6 (k4 a w hΦ).out
  rwa [Nat.add_zero] at this
 have l : ∀ a w, Φ C D a w → zb P .any ops Q S J ((C.length + D.length) + post.length) f0 a w := fun a w hΦ => uR k2 k3 e _ C D f0 a w h5 hΦ
 have := uN (P := P) h2 hq l pre _ _ _ h4 k1.out
 rw [h3] at this
 exact this
theorem jC {R : Act → World → Prop} {a : Act} {w : World} (h : R a w) : wpOrd P ops (QR Q R) S J [] a w := ⟨h⟩
section
variable {A : Act} {L : List (Nat × Value)} {w : World} {n i d : Nat} {oi : Oper} {v : Value} {R : Act → World → Prop}
theorem pt {f : FuncId} {xs : Array Operand} {ats : Array TypeId} {vs : Array Value} (hi : ops[i]? = some oi) (hd : oi.dst = some d) (ho : oi.op = .call { callee := .value (.func f), args := xs, argTypes := ats }) (hg : oi.guard = none)
 (hx : ∀ ρ : Operand → Value, Rd A L ρ → xs.map ρ = vs) (hf : ∀ w, (callFunc f vs).run P w = .ok (.enter f vs) w)
 (h : Calls P f vs w (fun e w' => ∃ v, e = .returned v ∧ R (zi A ((d, v) :: L)) w')) : wpOp P ops Q i R (zi A L) w := by
 simp only [wpOp, hi, zA hg, if_true]
 refine .inl ?_
 have he : (execOp (zi A L).eval oi).run P w = .ok (.enter f vs) w := by
  have := hf w
  rw [← hx _ rfl] at this ⊢
  unfold execOp
  rw [ho]
  rw [← this]
  have e0 : (#[] ++ xs.map (zi A L).eval ++ #[] : Array Value) = xs.map (zi A L).eval := by simp
  conv => rhs; rw [← e0]
  rfl
 rw [Oper.wp, he, Oper.upon_enter]
 refine h.mono ?_
 rintro e w' ⟨v, rfl, h1⟩
 simp only [hd]
 exact h1
theorem qw {w' : World} (hi : ops[i]? = some oi) (hd : oi.dst = some d) (hg : oi.guard = none)
 (hv : ∀ ρ : Operand → Value, Rd A L ρ → (execOp ρ oi).run P w = .ok (.value v) w') (h : R (zi A ((d, v) :: L)) w') : wpOp P ops Q i R (zi A L) w := by
 simp only [wpOp, hi, zA hg, if_true]
 refine .inl ?_
 rw [Oper.wp, hv _ rfl, Oper.upon_value, hd]
 exact h
theorem me {w' : World} {r : List (Nat × Bool)} (hi : ops[i]? = some oi) (hd : oi.dst = none) (hw : Region.wanted oi (yielded ops (zi A L).tmps) = true)
 (hv : ∀ ρ : Operand → Value, Rd A L ρ → (execOp ρ oi).run P w = .ok .skip w') (hS : J.contains i = false → S w') (h : wpOrd P ops Q S J r (zi A L) w') : wpOrd P ops Q S J ((i, false) :: r) (zi A L) w := by
 refine ⟨?_⟩
 simp only [vg, wpOp, hi, hw, if_true]
 refine .inl ?_
 rw [Oper.wp, hv _ rfl, Oper.upon_skip, hd]
 exact ⟨hS, h.out⟩
def ph (b : Bool) (k : Nat) (v : Value) : List (Nat × Value) := if b = true then [(k, v)] else []
theorem vJ {b : Bool} {n k : Nat} {u v d : Value} {L : List (Nat × Value)} (h : Nat.beq n k = false) (r : lkp L n d = u) : lkp (ph b k v ++ L) n d = u := by
 cases b
 ·exact r
 ·exact zD h r
theorem lY (a : Act) {k1 k2 : Nat} (h : k1 ≠ k2) (v1 v2 : Value) : (a.put (some k1) v1).put (some k2) v2 = (a.put (some k2) v2).put (some k1) v1 := by
 simp only [Act.put]
 rw [Array.setIfInBounds_comm _ _ h]
theorem mW (A : Act) (L : List (Nat × Value)) {k1 k2 : Nat} (h : k1 ≠ k2) (v1 v2 : Value) : zi A ((k1, v1) :: (k2, v2) :: L) = zi A ((k2, v2) :: (k1, v1) :: L) := by
 simp only [zi]
 exact lY _ (Ne.symm h) _ _
theorem pY (A : Act) (L : List (Nat × Value)) {k1 k2 : Nat} (h : k1 ≠ k2) (b : Bool) (v1 v2 : Value) : zi A ((k1, v1) :: (ph b k2 v2 ++ L)) = zi A (ph b k2 v2 ++ ((k1, v1) :: L)) := by
 cases b
 ·rfl
 ·exact mW A L h v1 v2
end
def ptr (x : Nat) : Value := .pointer (some ⟨x, 0, none⟩)
structure xY (H : Nat) (T7 T8 : TypeId) (z7 z8 : Array Value) (b7 b8 : Bool) (x7 x8 : Nat) (w : World) : Prop where
 le : H ≤ w.heap.size
 m7 : b7 = true → Blk w x7 T7 z7 ∧ H ≤ x7
 m8 : b8 = true → Blk w x8 T8 z8 ∧ H ≤ x8
 ne : b7 = true → b8 = true → x7 ≠ x8
section
variable {H x7 x8 g : Nat} {T7 T8 : TypeId} {z7 z8 : Array Value} {b7 b8 : Bool} {w w' : World}
theorem xY.later (h : xY H T7 T8 z7 z8 b7 b8 x7 x8 w) (hb : Below w.heap.size w w') : xY H T7 T8 z7 z8 b7 b8 x7 x8 w' :=
 ⟨Nat.le_trans h.le hb.size, fun e => ⟨(h.m7 e).1.below hb (h.m7 e).1.lt, (h.m7 e).2⟩, fun e => ⟨(h.m8 e).1.below hb (h.m8 e).1.lt, (h.m8 e).2⟩, h.ne⟩
theorem xY.grown (h : xY H T7 T8 z7 z8 b7 b8 x7 x8 w) (hg : w.grownBy w' (some g)) (hl : g < H) : xY H T7 T8 z7 z8 b7 b8 x7 x8 w' :=
 ⟨Nat.le_trans h.le hg.size, fun e => ⟨(h.m7 e).1.grown hg (fun e2 => by have := (h.m7 e).2; injection e2 with e2; omega), (h.m7 e).2⟩, fun e => ⟨(h.m8 e).1.grown hg (fun e2 => by have := (h.m8 e).2; injection e2 with e2; omega), (h.m8 e).2⟩, h.ne⟩
theorem xY.start (w : World) (x7 x8 : Nat) : xY w.heap.size T7 T8 z7 z8 false false x7 x8 w := ⟨Nat.le_refl _, fun e => (by cases e), fun e => (by cases e), fun e => (by cases e)⟩
theorem xY.one7 (h : xY H T7 T8 z7 z8 b7 b8 x7 x8 w) : xY H T7 T8 z7 z8 true b8 w.heap.size x8 (w.alloc (.cells z7 T7)) :=
 ⟨by have := h.le; simp; omega, fun _ => ⟨Blk.new _ _ _, h.le⟩, fun e => ⟨(h.m8 e).1.alloc _, (h.m8 e).2⟩, fun _ e => by have := (h.m8 e).1.lt; omega⟩
theorem xY.one8 (h : xY H T7 T8 z7 z8 b7 b8 x7 x8 w) : xY H T7 T8 z7 z8 b7 true x7 w.heap.size (w.alloc (.cells z8 T8)) :=
 ⟨by have := h.le; simp; omega, fun e => ⟨(h.m7 e).1.alloc _, (h.m7 e).2⟩, fun _ => ⟨Blk.new _ _ _, h.le⟩, fun e _ => by have := (h.m7 e).1.lt; omega⟩
end
def jn : List (Nat × Nat) → List Value → List (Nat × Value)
 | c :: cs, v :: vs => jn cs vs ++ [(c.2, v)]
 | _, _ => []
def jw (A : Act) (L0 : List (Nat × Value)) (i7 i8 d7 d8 H : Nat) (T7 T8 : TypeId) (z7 z8 : Array Value) (Cs : List (Nat × Nat)) (F : List Value → World → Prop) (C D : List Nat) (a : Act) (w : World) : Prop :=
 ∃ (vs : List Value) (x7 x8 : Nat), C = (Cs.drop vs.length).map (·.1) ∧ D.Nodup ∧ (∀ i ∈ D, i = i7 ∨ i = i8) ∧ a = zi A (ph (!D.contains i8) d8 (ptr x8) ++ (ph (!D.contains i7) d7 (ptr x7) ++ (jn Cs vs ++ L0))) ∧ F vs w ∧ xY H T7 T8 z7 z8 (!D.contains i7) (!D.contains i8) x7 x8 w
section
variable {A : Act} {L0 : List (Nat × Value)} {i7 i8 d7 d8 H n : Nat} {T7 T8 : TypeId} {z7 z8 : Array Value} {Cs : List (Nat × Nat)} {F : List Value → World → Prop} {C D : List Nat} {a : Act} {w : World} {o7 o8 : Oper}
theorem xz {D : List Nat} (h : D.Nodup) (i : Nat) : (D.erase i).contains i = false := by
 rw [← Bool.not_eq_true, List.contains_iff_mem]; exact h.not_mem_erase
theorem wn {D : List Nat} {i j : Nat} (h : j ≠ i) : (D.erase i).contains j = D.contains j := by
 rw [Bool.eq_iff_iff, List.contains_iff_mem, List.contains_iff_mem, List.mem_erase_of_ne h]
theorem jw.alloc (hF : ∀ vs w o, F vs w → F vs (w.alloc o)) (h78 : i7 ≠ i8) (hd : d7 ≠ d8) (h7 : ops[i7]? = some o7) (h8 : ops[i8]? = some o8) (hd7 : o7.dst = some d7) (hd8 : o8.dst = some d8) (hg7 : o7.guard = none) (hg8 : o8.guard = none)
 (hr7 : ∀ ρ : Operand → Value, ∀ w, (execOp ρ o7).run P w = .ok (.value (ptr w.heap.size)) (w.alloc (.cells z7 T7))) (hr8 : ∀ ρ : Operand → Value, ∀ w, (execOp ρ o8).run P w = .ok (.value (ptr w.heap.size)) (w.alloc (.cells z8 T8)))
 (i : Nat) (hi : i ∈ D) (h : jw A L0 i7 i8 d7 d8 H T7 T8 z7 z8 Cs F C D a w) : wpOp P ops Q i (fun a' w' => jw A L0 i7 i8 d7 d8 H T7 T8 z7 z8 Cs F C (D.erase i) a' w') a w := by
 obtain ⟨vs, x7, x8, hC, hn, hD, rfl, hf, hm⟩ := h
 have hc : D.contains i = true := by rw [List.contains_iff_mem]; exact hi
 rcases hD i hi with rfl | rfl
 ·refine qw h7 hd7 hg7 (fun ρ _ => hr7 ρ w) ?_
  refine ⟨vs, w.heap.size, x8, hC, hn.erase _, fun j hj => hD j (List.mem_of_mem_erase hj), ?_, hF _ _ _ hf, ?_⟩
  ·rw [xz hn, wn (Ne.symm h78), hc]
   exact pY A _ hd _ _ _
  ·rw [xz hn, wn (Ne.symm h78)]
   exact hm.one7
 ·refine qw h8 hd8 hg8 (fun ρ _ => hr8 ρ w) ?_
  refine ⟨vs, x7, w.heap.size, hC, hn.erase _, fun j hj => hD j (List.mem_of_mem_erase hj), ?_, hF _ _ _ hf, ?_⟩
  ·rw [xz hn, wn h78, hc]
   rfl
  ·rw [xz hn, wn h78]
   exact hm.one8
end
end
end
section
open Go.RowKit
structure yx (H : Nat) (T7 : TypeId) (z7 : Array Value) (b7 : Bool) (x7 : Nat) (w : World) : Prop where
 le : H ≤ w.heap.size
 m7 : b7 = true → Blk w x7 T7 z7 ∧ H ≤ x7
section
variable {H x7 g : Nat} {T7 : TypeId} {z7 : Array Value} {b7 : Bool} {w w' : World}
theorem yx.later (h : yx H T7 z7 b7 x7 w) (hb : Below w.heap.size w w') : yx H T7 z7 b7 x7 w' :=
 ⟨Nat.le_trans h.le hb.size, fun e => ⟨(h.m7 e).1.below hb (h.m7 e).1.lt, (h.m7 e).2⟩⟩
theorem yx.grown (h : yx H T7 z7 b7 x7 w) (hg : w.grownBy w' (some g)) (hl : g < H) : yx H T7 z7 b7 x7 w' :=
 ⟨Nat.le_trans h.le hg.size, fun e => ⟨(h.m7 e).1.grown hg (fun e2 => by have := (h.m7 e).2; injection e2 with e2; omega), (h.m7 e).2⟩⟩
theorem yx.start (w : World) (x7 : Nat) : yx w.heap.size T7 z7 false x7 w := ⟨Nat.le_refl _, fun e => (by cases e)⟩
theorem yx.one (h : yx H T7 z7 b7 x7 w) : yx H T7 z7 true w.heap.size (w.alloc (.cells z7 T7)) :=
 ⟨by have := h.le; simp; omega, fun _ => ⟨Blk.new _ _ _, h.le⟩⟩
end
section
variable {P : Program} {ops : Array Oper} {Q : Exit → Act → World → Prop}
def oX (A : Act) (L0 : List (Nat × Value)) (i7 d7 H : Nat) (T7 : TypeId) (z7 : Array Value) (Cs : List (Nat × Nat)) (F : List Value → World → Prop) (C D : List Nat) (a : Act) (w : World) : Prop :=
 ∃ (vs : List Value) (x7 : Nat), C = (Cs.drop vs.length).map (·.1) ∧ D.Nodup ∧ (∀ i ∈ D, i = i7) ∧ a = zi A (ph (!D.contains i7) d7 (ptr x7) ++ (jn Cs vs ++ L0)) ∧ F vs w ∧ yx H T7 z7 (!D.contains i7) x7 w
theorem rv (A : Act) {d d7 : Nat} {v v7 : Value} {b7 : Bool} {Y : List (Nat × Value)} (h7 : d ≠ d7) : zi A ((d, v) :: (ph b7 d7 v7 ++ Y)) = zi A (ph b7 d7 v7 ++ ((d, v) :: Y)) := pY A Y h7 b7 v v7
theorem oX.alloc {A : Act} {L0 : List (Nat × Value)} {i7 d7 H : Nat} {T7 : TypeId} {z7 : Array Value} {Cs : List (Nat × Nat)} {F : List Value → World → Prop} {C D : List Nat} {a : Act} {w : World} {o7 : Oper}
 (hF : ∀ vs w o, F vs w → F vs (w.alloc o)) (h7 : ops[i7]? = some o7) (hd7 : o7.dst = some d7) (hg7 : o7.guard = none) (hr7 : ∀ ρ : Operand → Value, ∀ w, (execOp ρ o7).run P w = .ok (.value (ptr w.heap.size)) (w.alloc (.cells z7 T7)))
 (i : Nat) (hi : i ∈ D) (h : oX A L0 i7 d7 H T7 z7 Cs F C D a w) : wpOp P ops Q i (fun a' w' => oX A L0 i7 d7 H T7 z7 Cs F C (D.erase i) a' w') a w := by
 obtain ⟨vs, x7, hC, hn, hD, rfl, hf, hm⟩ := h
 have hc : D.contains i = true := by rw [List.contains_iff_mem]; exact hi
 obtain rfl := hD i hi
 refine qw h7 hd7 hg7 (fun ρ _ => hr7 ρ w) ?_
 refine ⟨vs, w.heap.size, hC, hn.erase _, fun j hj => hD j (List.mem_of_mem_erase hj), ?_, hF _ _ _ hf, ?_⟩
 ·rw [xz hn, hc]; rfl
 ·rw [xz hn]; exact hm.one
end
end
end Go.Proofs.YtddddlhgaeameaaGreatDoor
