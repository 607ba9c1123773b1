import Derived.Test.YtepicjpdhpojnaaGreatDoorX35
set_option maxRecDepth 100000
set_option maxHeartbeats 16000000
namespace Go.Proofs.YtepicjpdhpojnaaGreatDoor
section
open Go.RowKit
section
variable {P : Program} {ops : Array Oper} {Q : Exit → Act → World → Prop} {md : Region.Mode} {S : World → Prop} {J : List Nat}
def qE (md : Region.Mode) (ops : Array Oper) (J : List Nat) (fin : Array Bool) : List (Nat × Bool) → Array Bool → Bool
 | [], listed => listed == fin
 | (i, true) :: r, listed => Region.free md ops listed i && (Region.ready md ops listed).contains i && xI md ops listed && J.all (uO md ops i ops.size) && qE md ops J fin r (listed.setIfInBounds i true)
 | (_, false) :: _, _ => false
def QR (Q : Exit → Act → World → Prop) (R : Act → World → Prop) : Exit → Act → World → Prop := fun ex a w => match ex with
 | .normal => R a w
 | ex => Q ex a w
theorem tE {R : Act → World → Prop} {m : Nat} {fin : Array Bool} (hs : Region.noSelect ops = true) (hQ : ∀ c a d v w, Q (.panic c) (a.put (some d) v) w → Q (.panic c) a w) (hR : ∀ a w, R a w → z6 P md ops Q S J m fin a w) :
 ∀ (tk : List (Nat × Bool)) (listed : Array Bool) (a : Act) (w : World), qE md ops J fin tk listed = true → uR P ops (QR Q R) S J tk a w → z6 P md ops Q S J (tk.length + m) listed a w
 | [], listed, a, w, hc, h => by
  have : listed = fin := by simpa [qE] using hc
  subst this
  rw [List.length_nil, Nat.zero_add]
  exact hR a w h
 | (i, true) :: r, listed, a, w, hc, h => by
  simp only [qE, Bool.and_eq_true] at hc
  obtain ⟨⟨⟨⟨h1, h2⟩, h3⟩, h4⟩, h5⟩ := hc
  obtain ⟨hS, oi, v, hoi, hy, hr⟩ := h
  rw [List.length_cons, Nat.add_right_comm]
  exact uS hoi rfl hs h1 h2 h3 h4 (fun c a w q => by cases hd : oi.dst with | none => rw [hd] at q; exact q | some d => rw [hd] at q; exact hQ c a d v w q) hy hS (tE hs hQ hR r _ _ _ h5 hr)
 | (_, false) :: _, _, _, _, hc, _ => by cases hc
theorem s9 {R : Act → World → Prop} {a : Act} {w : World} (h : R a w) : wpOrd P ops (QR Q R) S J [] a w := ⟨h⟩
section
variable {A : Act} {L : List (Nat × Value)} {w : World} {n i d : Nat} {oi : Oper} {v : Value} {R : Act → World → Prop}
theorem vD {f : FuncId} {xs : Array Operand} {ats : Array TypeId} {vs : Array Value} (hi : ops[i]? = some oi) (hd : oi.dst = some d) (ho : oi.op = .call { callee := .value (.func f), args := xs, argTypes := ats }) (hg : oi.guard = none)
 (hx : ∀ ρ : Operand → Value, Rd A L ρ → xs.map ρ = vs) (hf : ∀ w, (callFunc f vs).run P w = .ok (.enter f vs) w)
 (h : Calls P f vs w (fun e w' => ∃ v, e = .returned v ∧ R (ze A ((d, v) :: L)) w')) : wpOp P ops Q i R (ze A L) w := by
 simp only [wpOp, hi, zB hg, if_true]
 refine .inl ?_
 have he : (execOp (ze A L).eval oi).run P w = .ok (.enter f vs) w := by
  have := hf w
  rw [← hx _ rfl] at this ⊢
  unfold execOp
  rw [ho]
  rw [← this]
  have e0 : (#[] ++ xs.map (ze A L).eval ++ #[] : Array Value) = xs.map (ze A L).eval := by simp
  conv => rhs; rw [← e0]
  rfl
 rw [Oper.wp, he, Oper.upon_enter]
 refine h.mono ?_
 rintro e w' ⟨v, rfl, h1⟩
 simp only [hd]
 exact h1
theorem yc {w' : World} (hi : ops[i]? = some oi) (hd : oi.dst = some d) (hg : oi.guard = none)
 (hv : ∀ ρ : Operand → Value, Rd A L ρ → (execOp ρ oi).run P w = .ok (.value v) w') (h : R (ze A ((d, v) :: L)) w') : wpOp P ops Q i R (ze A L) w := by
 simp only [wpOp, hi, zB hg, if_true]
 refine .inl ?_
 rw [Oper.wp, hv _ rfl, Oper.upon_value, hd]
 exact h
theorem qh {w' : World} {r : List (Nat × Bool)} (hi : ops[i]? = some oi) (hd : oi.dst = none) (hw : Region.wanted oi (yielded ops (ze A L).tmps) = true)
 (hv : ∀ ρ : Operand → Value, Rd A L ρ → (execOp ρ oi).run P w = .ok .skip w') (hS : J.contains i = false → S w') (h : wpOrd P ops Q S J r (ze A L) w') : wpOrd P ops Q S J ((i, false) :: r) (ze A L) w := by
 refine ⟨?_⟩
 simp only [uR, wpOp, hi, hw, if_true]
 refine .inl ?_
 rw [Oper.wp, hv _ rfl, Oper.upon_skip, hd]
 exact ⟨hS, h.out⟩
def pZ (b : Bool) (k : Nat) (v : Value) : List (Nat × Value) := if b = true then [(k, v)] else []
theorem om {b : Bool} {n k : Nat} {u v d : Value} {L : List (Nat × Value)} (h : Nat.beq n k = false) (r : lkp L n d = u) : lkp (pZ b k v ++ L) n d = u := by
 cases b
 ·exact r
 ·exact zC h r
theorem jW {k : Nat} {v d : Value} {L : List (Nat × Value)} : lkp (pZ true k v ++ L) k d = v := zA
theorem l7 (a : Act) {k1 k2 : Nat} (h : k1 ≠ k2) (v1 v2 : Value) : (a.put (some k1) v1).put (some k2) v2 = (a.put (some k2) v2).put (some k1) v1 := by
 simp only [Act.put]
 rw [Array.setIfInBounds_comm _ _ h]
theorem lI (A : Act) (L : List (Nat × Value)) {k1 k2 : Nat} (h : k1 ≠ k2) (v1 v2 : Value) : ze A ((k1, v1) :: (k2, v2) :: L) = ze A ((k2, v2) :: (k1, v1) :: L) := by
 simp only [ze]
 exact l7 _ (Ne.symm h) _ _
theorem lK (A : Act) {L L' : List (Nat × Value)} (h : ze A L = ze A L') (k : Nat) (v : Value) : ze A ((k, v) :: L) = ze A ((k, v) :: L') := by
 simp only [ze, h]
theorem oL (A : Act) (L : List (Nat × Value)) {k1 k2 : Nat} (h : k1 ≠ k2) (b : Bool) (v1 v2 : Value) : ze A ((k1, v1) :: (pZ b k2 v2 ++ L)) = ze A (pZ b k2 v2 ++ ((k1, v1) :: L)) := by
 cases b
 ·rfl
 ·exact lI A L h v1 v2
theorem lJ (A : Act) {L L' : List (Nat × Value)} (h : ze A L = ze A L') (b : Bool) (k : Nat) (v : Value) : ze A (pZ b k v ++ L) = ze A (pZ b k v ++ L') := by
 cases b
 ·exact h
 ·exact lK A h k v
end
def ptr (x : Nat) : Value := .pointer (some ⟨x, 0, none⟩)
structure xW (H : Nat) (T7 T8 : TypeId) (z7 z8 : Array Value) (b7 b8 : Bool) (x7 x8 : Nat) (w : World) : Prop where
 le : H ≤ w.heap.size
 m7 : b7 = true → Blk w x7 T7 z7 ∧ H ≤ x7
 m8 : b8 = true → Blk w x8 T8 z8 ∧ H ≤ x8
 ne : b7 = true → b8 = true → x7 ≠ x8
section
variable {H x7 x8 g : Nat} {T7 T8 : TypeId} {z7 z8 : Array Value} {b7 b8 : Bool} {w w' : World}
theorem xW.later (h : xW H T7 T8 z7 z8 b7 b8 x7 x8 w) (hb : Below w.heap.size w w') : xW H T7 T8 z7 z8 b7 b8 x7 x8 w' :=
 ⟨Nat.le_trans h.le hb.size, fun e => ⟨(h.m7 e).1.below hb (h.m7 e).1.lt, (h.m7 e).2⟩, fun e => ⟨(h.m8 e).1.below hb (h.m8 e).1.lt, (h.m8 e).2⟩, h.ne⟩
theorem xW.grown (h : xW H T7 T8 z7 z8 b7 b8 x7 x8 w) (hg : w.grownBy w' (some g)) (hl : g < H) : xW H T7 T8 z7 z8 b7 b8 x7 x8 w' :=
 ⟨Nat.le_trans h.le hg.size, fun e => ⟨(h.m7 e).1.grown hg (fun e2 => by have := (h.m7 e).2; injection e2 with e2; omega), (h.m7 e).2⟩, fun e => ⟨(h.m8 e).1.grown hg (fun e2 => by have := (h.m8 e).2; injection e2 with e2; omega), (h.m8 e).2⟩, h.ne⟩
theorem xW.start (w : World) (x7 x8 : Nat) : xW w.heap.size T7 T8 z7 z8 false false x7 x8 w := ⟨Nat.le_refl _, fun e => (by cases e), fun e => (by cases e), fun e => (by cases e)⟩
theorem xW.one7 (h : xW H T7 T8 z7 z8 b7 b8 x7 x8 w) : xW H T7 T8 z7 z8 true b8 w.heap.size x8 (w.alloc (.cells z7 T7)) :=
 ⟨by have := h.le; simp; omega, fun _ => ⟨Blk.new _ _ _, h.le⟩, fun e => ⟨(h.m8 e).1.alloc _, (h.m8 e).2⟩, fun _ e => by have := (h.m8 e).1.lt; omega⟩
theorem xW.one8 (h : xW H T7 T8 z7 z8 b7 b8 x7 x8 w) : xW H T7 T8 z7 z8 b7 true x7 w.heap.size (w.alloc (.cells z8 T8)) :=
 ⟨by have := h.le; simp; omega, fun e => ⟨(h.m7 e).1.alloc _, (h.m7 e).2⟩, fun _ => ⟨Blk.new _ _ _, h.le⟩, fun e _ => by have := (h.m7 e).1.lt; omega⟩
end
def j2 : List (Nat × Nat) → List Value → List (Nat × Value)
 | c :: cs, v :: vs => j2 cs vs ++ [(c.2, v)]
 | _, _ => []
def jy (A : Act) (L0 : List (Nat × Value)) (i7 i8 d7 d8 H : Nat) (T7 T8 : TypeId) (z7 z8 : Array Value) (Cs : List (Nat × Nat)) (F : List Value → World → Prop) (C D : List Nat) (a : Act) (w : World) : Prop :=
 ∃ (vs : List Value) (x7 x8 : Nat), C = (Cs.drop vs.length).map (·.1) ∧ D.Nodup ∧ (∀ i ∈ D, i = i7 ∨ i = i8) ∧ a = ze A (pZ (!D.contains i8) d8 (ptr x8) ++ (pZ (!D.contains i7) d7 (ptr x7) ++ (j2 Cs vs ++ L0))) ∧ F vs w ∧ xW H T7 T8 z7 z8 (!D.contains i7) (!D.contains i8) x7 x8 w
section
variable {A : Act} {L0 : List (Nat × Value)} {i7 i8 d7 d8 H n : Nat} {T7 T8 : TypeId} {z7 z8 : Array Value} {Cs : List (Nat × Nat)} {F : List Value → World → Prop} {C D : List Nat} {a : Act} {w : World} {o7 o8 : Oper}
theorem uF {D : List Nat} (h : D.Nodup) (i : Nat) : (D.erase i).contains i = false := by
 rw [← Bool.not_eq_true, List.contains_iff_mem]; exact h.not_mem_erase
theorem vQ {D : List Nat} {i j : Nat} (h : j ≠ i) : (D.erase i).contains j = D.contains j := by
 rw [Bool.eq_iff_iff, List.contains_iff_mem, List.contains_iff_mem, List.mem_erase_of_ne h]
theorem jy.alloc (hF : ∀ vs w o, F vs w → F vs (w.alloc o)) (h78 : i7 ≠ i8) (hd : d7 ≠ d8) (h7 : ops[i7]? = some o7) (h8 : ops[i8]? = some o8) (hd7 : o7.dst = some d7) (hd8 : o8.dst = some d8) (hg7 : o7.guard = none) (hg8 : o8.guard = none)
 (hr7 : ∀ ρ : Operand → Value, ∀ w, (execOp ρ o7).run P w = .ok (.value (ptr w.heap.size)) (w.alloc (.cells z7 T7))) (hr8 : ∀ ρ : Operand → Value, ∀ w, (execOp ρ o8).run P w = .ok (.value (ptr w.heap.size)) (w.alloc (.cells z8 T8)))
 (i : Nat) (hi : i ∈ D) (h : jy A L0 i7 i8 d7 d8 H T7 T8 z7 z8 Cs F C D a w) : wpOp P ops Q i (fun a' w' => jy A L0 i7 i8 d7 d8 H T7 T8 z7 z8 Cs F C (D.erase i) a' w') a w := by
 obtain ⟨vs, x7, x8, hC, hn, hD, rfl, hf, hm⟩ := h
 have hc : D.contains i = true := by rw [List.contains_iff_mem]; exact hi
 rcases hD i hi with rfl | rfl
 ·refine yc h7 hd7 hg7 (fun ρ _ => hr7 ρ w) ?_
  refine ⟨vs, w.heap.size, x8, hC, hn.erase _, fun j hj => hD j (List.mem_of_mem_erase hj), ?_, hF _ _ _ hf, ?_⟩
  ·rw [uF hn, vQ (Ne.symm h78), hc]
   exact oL A _ hd _ _ _
  ·rw [uF hn, vQ (Ne.symm h78)]
   exact hm.one7
 ·refine yc h8 hd8 hg8 (fun ρ _ => hr8 ρ w) ?_
  refine ⟨vs, x7, w.heap.size, hC, hn.erase _, fun j hj => hD j (List.mem_of_mem_erase hj), ?_, hF _ _ _ hf, ?_⟩
  ·rw [uF hn, vQ h78, hc]
   rfl
  ·rw [uF hn, vQ h78]
   exact hm.one8
end
end
end
section
open Go.RowKit
section
variable {P : Program} {ops : Array Oper} {Q : Exit → Act → World → Prop} {md : Region.Mode} {S : World → Prop} {J : List Nat}
def oN (md : Region.Mode) (ops : Array Oper) (g : Nat → Array Bool → Bool) (fin : Array Bool) : Nat → Array Bool → Bool
 | 0, listed => listed == fin
 | n + 1, listed => !(Region.ready md ops listed).isEmpty && (Region.ready md ops listed).all (fun i => g i listed && oN md ops g fin n (listed.setIfInBounds i true))
theorem rJ {g : Nat → Array Bool → Bool} {Φ : Array Bool → Act → World → Prop} {m : Nat} {fin : Array Bool}
 (hs : ∀ listed i a w, g i listed = true → Φ listed a w → wpOp P ops Q i (fun a' w' => (J.contains i = false → S w') ∧ Φ (listed.setIfInBounds i true) a' w') a w)
 (he : ∀ a w, Φ fin a w → z6 P md ops Q S J m fin a w) :
 ∀ (n : Nat) (listed : Array Bool) (a : Act) (w : World), oN md ops g fin n listed = true → Φ listed a w → z6 P md ops Q S J (n + m) listed a w
 | 0, listed, a, w, hk, h => by
  have : listed = fin := by simpa [oN] using hk
  subst this
  rw [Nat.zero_add]
  exact he a w h
 | n + 1, listed, a, w, hk, h => by
  simp only [oN, Bool.and_eq_true] at hk
  obtain ⟨h1, h2⟩ := hk
  rw [Nat.add_right_comm]
  refine ⟨fun h0 => (by rw [h0] at h1; cases h1), fun j hj => ?_⟩
  have h5 := List.all_eq_true.1 h2 j hj
  rw [Bool.and_eq_true] at h5
  exact wpOp_mono (fun a' w' h' => ⟨h'.1, rJ hs he n _ a' w' h5.2 h'.2⟩) (hs listed j a w h5.1 h)
def kA (P : Program) (ops : Array Oper) (J : List Nat) (pre : List (Nat × Bool)) (g : Nat → Array Bool → Bool) (k : Nat) (post : List (Nat × Bool)) (f0 f1 : Array Bool) : Bool :=
 P.follows .mixedOrders && Region.noSelect ops && pre.length + (k + post.length) == ops.size && qE .any ops J f0 pre (Array.replicate ops.size false) && oN .any ops g f1 k f0 && tY .any ops J post f1
theorem wC {id : Nat} {a : Act} {w : World} {base : List (Nat × Value)} {n : Nat} (pre post : List (Nat × Bool)) (g : Nat → Array Bool → Bool) (k : Nat) (f0 f1 : Array Bool) (hk : kA P ops J pre g k post f0 f1 = true) (hn : a.tmps.size = n) (hb : um a base) (hS : S w.drew) (hq : ∀ c a d v w, Q (.panic c) (a.put (some d) v) w → Q (.panic c) a w)
 (h : ∀ (Q2 : Exit → Act → World → Prop) (A : Act), A.tmps.size = n → um A base → Hid (∀ L w', Q .normal (ze a L) w' → Q2 .normal (ze A L) w') → S w.drew →
  ∃ Φ : Array Bool → Act → World → Prop, wpOrd P ops (QR Q2 (Φ f0)) S J pre (ze A []) w.drew ∧
   (∀ listed i a w, g i listed = true → Φ listed a w → wpOp P ops Q2 i (fun a' w' => (J.contains i = false → S w') ∧ Φ (listed.setIfInBounds i true) a' w') a w) ∧
   (∀ a w, Φ f1 a w → wpOrd P ops Q2 S J post a w)) : (Code.region id ops true).wp P Q a w := by
 simp only [kA, Bool.and_eq_true, beq_iff_eq] at hk
 obtain ⟨⟨⟨⟨⟨h1, h2⟩, h3⟩, h4⟩, h5⟩, h6⟩ := hk
 refine zJ (J := J) h1 hS (fun hS => ?_)
 obtain ⟨Φ, k1, k2, k4⟩ := h Q a hn hb (fun L w' h => h) hS
 have e : ∀ a w, Φ f1 a w → z6 P .any ops Q S J post.length f1 a w := fun a w hΦ => by
  have := wD (P := P) h2 hq post 0 _ _ _ h6 (k4 a w hΦ).out
  rwa [Nat.add_zero] at this
 have l : ∀ a w, Φ f0 a w → z6 P .any ops Q S J (k + post.length) f0 a w := fun a w hΦ => rJ k2 e k f0 a w h5 hΦ
 have := tE (P := P) h2 hq l pre _ _ _ h4 k1.out
 rw [h3] at this
 exact this
end
def zj (listed : Array Bool) (i : Nat) : Bool := listed.getD i false
theorem x6 {l : Array Bool} {i : Nat} (h : i < l.size) : zj (l.setIfInBounds i true) i = true := by simp [zj, Array.getD, h]
theorem zh {l : Array Bool} {i j : Nat} (h : j ≠ i) : zj (l.setIfInBounds i true) j = zj l j := by
 unfold zj
 rw [Array.getD_eq_getD_getElem?, Array.getD_eq_getD_getElem?, Array.getElem?_setIfInBounds_ne (Ne.symm h)]
def m5 (vs : Nat → Value) (i : Nat) (v : Value) : Nat → Value := fun j => if j = i then v else vs j
theorem sF (vs : Nat → Value) (i : Nat) (v : Value) : m5 vs i v i = v := if_pos rfl
theorem sw {vs : Nat → Value} {i j : Nat} {v : Value} (h : j ≠ i) : m5 vs i v j = vs j := if_neg h
def xS : List (Nat × Nat) → Array Bool → (Nat → Value) → List (Nat × Value)
 | [], _, _ => []
 | (i, d) :: r, l, vs => pZ (zj l i) d (vs i) ++ xS r l vs
theorem oB {i : Nat} {v : Value} {l : Array Bool} {vs : Nat → Value} : ∀ D : List (Nat × Nat), i ∉ D.map (·.1) → xS D (l.setIfInBounds i true) (m5 vs i v) = xS D l vs
 | [], _ => rfl
 | (j, d) :: r, h => by
  have hj : j ≠ i := fun e => h (by simp [e])
  simp only [xS]
  rw [zh hj, sw hj, oB r (fun h2 => h (by simp only [List.map_cons, List.mem_cons]; exact .inr h2))]
theorem sH (A : Act) (Y : List (Nat × Value)) {i d : Nat} {v : Value} {l : Array Bool} {vs : Nat → Value} (hi : i < l.size) (hf : zj l i = false) :
 ∀ D : List (Nat × Nat), (i, d) ∈ D → (D.map (·.1)).Nodup → (D.map (·.2)).Nodup → ze A ((d, v) :: (xS D l vs ++ Y)) = ze A (xS D (l.setIfInBounds i true) (m5 vs i v) ++ Y)
 | [], h, _, _ => by cases h
 | (j, e) :: r, h, n1, n2 => by
  simp only [List.map_cons, List.nodup_cons] at n1 n2
  simp only [xS]
  by_cases hj : j = i
  ·subst hj
   have hd : e = d := by
    rcases List.mem_cons.1 h with h | h
    ·injection h with _ h; exact h.symm
    ·exact absurd (List.mem_map.2 ⟨_, h, rfl⟩) n1.1
   subst hd
   rw [oB r n1.1, x6 hi, hf, sF]
   rfl
  ·have hm : (i, d) ∈ r := by
    rcases List.mem_cons.1 h with h | h
    ·injection h with h _; exact absurd h.symm hj
    ·exact h
   have hd : d ≠ e := fun h2 => n2.1 (by rw [← h2]; exact List.mem_map.2 ⟨_, hm, rfl⟩)
   rw [zh hj, sw hj, List.append_assoc, List.append_assoc]
   exact (oL A _ hd _ v _).trans (lJ A (sH A Y hi hf r hm n1.2 n2.2) _ _ _)
theorem j3 {k e : Nat} (h : k ≠ e) : Nat.beq k e = false := by
 rw [← Bool.not_eq_true]
 exact fun h2 => h (Nat.eq_of_beq_eq_true h2)
theorem yS {k : Nat} {z u : Value} {Y : List (Nat × Value)} {l : Array Bool} {vs : Nat → Value} : ∀ D : List (Nat × Nat), (D.map (·.2)).contains k = false → lkp Y k z = u → lkp (xS D l vs ++ Y) k z = u
 | [], _, h => h
 | (j, e) :: r, hk, h => by
  simp only [List.map_cons, List.contains_cons, Bool.or_eq_false_iff] at hk
  simp only [xS]
  rw [List.append_assoc]
  exact om (j3 (by have := hk.1; simpa using this)) (yS r hk.2 h)
theorem zy {i d : Nat} {z : Value} {Y : List (Nat × Value)} {l : Array Bool} {vs : Nat → Value} (hf : zj l i = true) : ∀ D : List (Nat × Nat), (i, d) ∈ D → (D.map (·.2)).Nodup → lkp (xS D l vs ++ Y) d z = vs i
 | [], h, _ => by cases h
 | (j, e) :: r, h, n2 => by
  simp only [List.map_cons, List.nodup_cons] at n2
  simp only [xS]
  rw [List.append_assoc]
  rcases List.mem_cons.1 h with h | h
  ·injection h with h1 h2
   subst h1 h2
   rw [hf]
   exact jW
  ·have hd : d ≠ e := fun h2 => n2.1 (by rw [← h2]; exact List.mem_map.2 ⟨_, h, rfl⟩)
   exact om (j3 hd) (zy hf r h n2.2)
def Phi {α : Type} (A : Act) (D : List (Nat × Nat)) (L0 : List (Nat × Value)) (N : Nat) (B : World → Prop) (G : Nat → α → Value → World → Prop) (l : Array Bool) (a : Act) (w : World) : Prop :=
 ∃ (vs : Nat → Value) (γ : α), l.size = N ∧ a = ze A (xS D l vs ++ L0) ∧ B w ∧ ∀ j, zj l j = true → j ∈ D.map (·.1) → G j γ (vs j) w
theorem xC {α : Type} {A : Act} {D : List (Nat × Nat)} {L0 : List (Nat × Value)} {N : Nat} {B : World → Prop} {G : Nat → α → Value → World → Prop} {l : Array Bool} {i d : Nat} {v : Value} {vs : Nat → Value} {γ γ' : α} {w w' : World} (hn : (D.map (·.1)).Nodup ∧ (D.map (·.2)).Nodup) (hm : (i, d) ∈ D) (hl : l.size = N) (hi : i < N) (hf : zj l i = false)
 (hB : B w') (ho : ∀ j, zj l j = true → j ∈ D.map (·.1) → G j γ (vs j) w) (hk : ∀ j u, zj l j = true → j ∈ D.map (·.1) → G j γ u w → G j γ' u w') (hv : G i γ' v w') : Phi A D L0 N B G (l.setIfInBounds i true) (ze A ((d, v) :: (xS D l vs ++ L0))) w' := by
 refine ⟨m5 vs i v, γ', by simpa using hl, sH A L0 (by omega) hf D hm hn.1 hn.2, hB, fun j hj hjm => ?_⟩
 by_cases hji : j = i
 ·subst hji
  rw [sF]
  exact hv
 ·rw [zh hji] at hj
  rw [sw hji]
  exact hk j _ hj hjm (ho j hj hjm)
theorem tN {l : Array Bool} {vs : Nat → Value} : ∀ D : List (Nat × Nat), D.all (fun p => !zj l p.1) = true → xS D l vs = []
 | [], _ => rfl
 | (i, d) :: r, h => by
  simp only [List.all_cons, Bool.and_eq_true, Bool.not_eq_true'] at h
  rw [xS, h.1, tN r h.2]
  rfl
theorem qb {α : Type} {A : Act} {D : List (Nat × Nat)} {L0 : List (Nat × Value)} {N : Nat} {B : World → Prop} {G : Nat → α → Value → World → Prop} {l : Array Bool} {w : World} (γ : α) (h0 : D.all (fun p => !zj l p.1) = true) (hl : l.size = N) (hB : B w) : Phi A D L0 N B G l (ze A L0) w :=
 ⟨fun _ => undef, γ, hl, by rw [tN D h0]; rfl, hB, fun j hj hm => by
  obtain ⟨⟨j', d⟩, h1, rfl⟩ := List.mem_map.1 hm
  have := List.all_eq_true.1 h0 _ h1
  simp only [hj] at this
  cases this⟩
def lL (E : List (Nat × List Nat)) (i : Nat) (l : Array Bool) : Bool := !zj l i && E.any fun p => p.1 == i && p.2.all (zj l)
theorem tp {E : List (Nat × List Nat)} {i : Nat} {l : Array Bool} (h : lL E i l = true) : zj l i = false ∧ ∃ ds, (i, ds) ∈ E ∧ ∀ j ∈ ds, zj l j = true := by
 unfold lL at h
 simp only [Bool.and_eq_true, Bool.not_eq_true', List.any_eq_true] at h
 obtain ⟨h1, ⟨i', ds⟩, h2, h3⟩ := h
 simp only [beq_iff_eq] at h3
 obtain ⟨rfl, h3⟩ := h3
 exact ⟨h1, ds, h2, List.all_eq_true.1 h3⟩
end
section
open Go.RowKit
def jD (w : World) (g : Nat) (e : Ending) (w' : World) : Prop := ∃ k d p q : Int, e = .returned (.agg #[.int .i64 k, .int .i64 d, .int .i64 p, .int .i64 q]) ∧ q < 801 ∧ Hid (zU w' g) ∧ Hid (w.grownBy w' (some g))
structure EvB (w0 : World) (g : Nat) (An Ad : Option Addr) (nn cn nd cd : Nat) (w : World) : Prop where
 dk : zU w g
 gr : w0.grownBy w (some g)
 b0 : Blk w w0.heap.size 30 #[.slice An nn cn, .slice Ad nd cd]
 b1 : Blk w (w0.heap.size + 1) 44 #[.int .i64 0, .int .i64 0, .int .i64 0, .int .i64 0]
structure EvX (w0 : World) (g x : Nat) (cs : Array Value) (w : World) : Prop where
 dk : zU w g
 gr : w0.grownBy w (some g)
 b1 : Blk w (w0.heap.size + 1) 44 #[.int .i64 0, .int .i64 0, .int .i64 0, .int .i64 0]
 bx : Blk w x 44 cs
 hx : w0.heap.size + 2 ≤ x
section
variable {w0 w w' : World} {g x nn cn nd cd : Nat} {An Ad : Option Addr} {cs : Array Value}
theorem EvB.next (h : EvB w0 g An Ad nn cn nd cd w) (hl : g < w0.heap.size) (hd : zU w' g) (hg : w.grownBy w' (some g)) : EvB w0 g An Ad nn cn nd cd w' := ⟨hd, zO h.gr hg, h.b0.grown hg (by simp; omega), h.b1.grown hg (by simp; omega)⟩
theorem EvB.later (h : EvB w0 g An Ad nn cn nd cd w) (hb : Below w.heap.size w w') : EvB w0 g An Ad nn cn nd cd w' := ⟨h.dk.below hb h.dk.lt, zO h.gr (zN hb _), h.b0.below hb h.b0.lt, h.b1.below hb h.b1.lt⟩
theorem EvB.alloc (h : EvB w0 g An Ad nn cn nd cd w) (o : Obj) : EvB w0 g An Ad nn cn nd cd (w.alloc o) := h.later ((Below.refl _ _).alloc lR _)
theorem EvX.next (h : EvX w0 g x cs w) (hl : g < w0.heap.size) (hd : zU w' g) (hg : w.grownBy w' (some g)) : EvX w0 g x cs w' := by
 have := h.hx
 exact ⟨hd, zO h.gr hg, h.b1.grown hg (by simp; omega), h.bx.grown hg (by simp; omega), h.hx⟩
theorem EvX.fld (h : EvX w0 g x cs w) (hl : g < w0.heap.size) (j : Nat) (v : Value) : EvX w0 g x (cs.setIfInBounds j v) (w.setCell ⟨x, j, none⟩ v) := by
 have := h.hx
 exact ⟨h.dk.setCell (by simp; omega) _, zg h.gr (by simp; omega) _, h.b1.far (by simp; omega) _, h.bx.set j v, h.hx⟩
theorem EvX.mk4 (h : EvB w0 g An Ad nn cn nd cd w) (hx : Blk w x 44 #[.int .i64 0, .int .i64 0, .int .i64 0, .int .i64 0]) (hH : w0.heap.size + 2 ≤ x) (hl : g < w0.heap.size) (a b : Int) :
 EvX w0 g x #[.int .i64 a, .int .i64 b, .int .i64 0, .int .i64 0] ((((w.setCell ⟨x, 0, none⟩ (.int .i64 a)).setCell ⟨x, 1, none⟩ (.int .i64 b)).setCell ⟨x, 2, none⟩ (.int .i64 0)).setCell ⟨x, 3, none⟩ (.int .i64 0)) :=
 (((EvX.fld ⟨h.dk, h.gr, h.b1, hx, hH⟩ hl 0 (.int .i64 a)).fld hl 1 (.int .i64 b)).fld hl 2 (.int .i64 0)).fld hl 3 (.int .i64 0)
theorem EvX.fin (h : EvX w0 g x cs w) (hl : g < w0.heap.size) (k d p q : Int) (hq : q < 801) (a b c e : Value) : jD w0 g (.returned (.agg #[.int .i64 k, .int .i64 d, .int .i64 p, .int .i64 q])) ((((w.setCell ⟨w0.heap.size + 1, 0, none⟩ a).setCell ⟨w0.heap.size + 1, 1, none⟩ b).setCell ⟨w0.heap.size + 1, 2, none⟩ c).setCell ⟨w0.heap.size + 1, 3, none⟩ e) :=
 ⟨k, d, p, q, rfl, hq, (((h.dk.setCell (by simp; omega) _).setCell (by simp; omega) _).setCell (by simp; omega) _).setCell (by simp; omega) _, zg (zg (zg (zg h.gr (by simp) _) (by simp) _) (by simp) _) (by simp) _⟩
end
def EvG (H : Nat) (j : Nat) (_ : Unit) (v : Value) (w : World) : Prop := match j with
 | 1 => ∃ r : Int, v = .int .i64 r ∧ r < 7 ∧ 0 ≤ r
 | 2 => ∃ r : Int, v = .int .i64 r
 | 7 => ∃ r : Int, v = .int .i64 r
 | 8 => ∃ a b : Int, v = .agg #[.int .i64 a, .int .i64 b, .int .i64 0, .int .i64 0]
 | 9 => ∃ x, v = .pointer (some ⟨x, 0, none⟩) ∧ Blk w x 44 #[.int .i64 0, .int .i64 0, .int .i64 0, .int .i64 0] ∧ H ≤ x
 | _ => True
theorem EvG.later {H j : Nat} {u : Unit} {v : Value} {w w' : World} (h : EvG H j u v w) (hb : Below w.heap.size w w') : EvG H j u v w' := by
 unfold EvG at h ⊢
 split at h
 iterate 4 exact h
 ·obtain ⟨x, h1, h2, h3⟩ := h; exact ⟨x, h1, h2.below hb h2.lt, h3⟩
 ·exact h
theorem EvG.grown {g H j : Nat} {u : Unit} {v : Value} {w w' : World} (h : EvG (H + 2) j u v w) (hg : w.grownBy w' (some g)) (hl : g < H) : EvG (H + 2) j u v w' := by
 unfold EvG at h ⊢
 split at h
 iterate 4 exact h
 ·obtain ⟨x, h1, h2, h3⟩ := h; exact ⟨x, h1, h2.grown hg (fun e => by injection e; omega), h3⟩
 ·exact h
theorem uy (g : Nat) (An Ad : Option Addr) (nn cn nd cd : Nat) (w : World) (hd : zU w g) (hnd : nd ≤ 1000000) : Calls Tryz.prog 16 #[.pointer (some ⟨g, 0, none⟩), .agg #[.slice An nn cn, .slice Ad nd cd]] w (jD w g) := by
 have hgl := hd.lt
 have HD := iD hd; clear hd
 go_enter Tryz.func16, Tryz.ntmps16
 go_upto_region 1 with (fail)
 have HB0 : Hid (EvB w g An Ad nn cn nd cd ((w.alloc (.cells #[.slice An nn cn, .slice Ad nd cd] 30)).alloc (.cells #[.int .i64 0, .int .i64 0, .int .i64 0, .int .i64 0] 44))) := by
  refine ⟨(HD.out.alloc _).alloc _, zN (((Below.refl _ _).alloc lR _).alloc (by simp) _) _, (Blk.new w _ _).alloc _, ?_⟩
  have := Blk.new (w.alloc (.cells #[.slice An nn cn, .slice Ad nd cd] 30)) 44 #[.int .i64 0, .int .i64 0, .int .i64 0, .int .i64 0]
  rw [World.size_alloc] at this
  exact this
 generalize World.alloc (World.alloc _ _) _ = wa at *
 have HB1 := iD (HB0.out.later (Below.refl _ _).drew)
 refine wC (S := fun W' => W'.cell? ⟨w.heap.size, 1, none⟩ = some (.slice Ad nd cd)) (J := []) (n := _) ((0, true) :: (3, true) :: (4, true) :: (5, true) :: (6, true) :: []) ((10, false) :: []) (lL [(1, []), (2, [1]), (7, [1]), (8, [2, 7]), (9, [])]) 5 #[true, false, false, true, true, true, true, false, false, false, false] #[true, true, true, true, true, true, true, true, true, true, false] (by as_aux_lemma => kernel_rfl) (by rfl) (zM (k := 0) (by go_simp; rfl) (zM (k := 3) (by go_simp; rfl) yH)) ?_ (fun _ _ _ _ _ h => h) (fun Q2 A hsz hbase hn2 AA => ?_)
 ·exact HB1.out.b0.cell 1
 try dsimp only at AA
 obtain ⟨b0, b3, -⟩ := hbase
 refine ⟨Phi A [(1, 7), (2, 8), (7, 13), (8, 14), (9, 5)] [(12, .int .i64 (nd : Int)), (11, .slice Ad nd cd), (10, .pointer (some ⟨w.heap.size, 1, none⟩)), (9, .pointer (some ⟨g, 0, none⟩)), (6, .pointer (some ⟨g, 0, none⟩))] 11 (EvB w g An Ad nn cn nd cd) (EvG (w.heap.size + 2)), ?_, ?_, ?_⟩
 ·refine oM 0 6 ?_ rfl rfl rfl (zB rfl) AA (fun ρ AB => ?_) ?_
  rotate_left
  ·(have e0 := tm AB hsz 0 rfl (zF b0); exact e0)
  refine oM 3 9 ?_ rfl rfl rfl (zB rfl) AA (fun ρ AB => ?_) ?_
  rotate_left
  ·(have e0 := tm AB hsz 0 rfl (zC rfl (zF b0)); exact e0)
  refine oT 4 10 ?_ rfl rfl (zB rfl) AA (fun ρ AB w hSw => ?_) ?_
  rotate_left
  ·(have e3 := tm AB hsz 3 rfl (zC rfl (zC rfl (zF b3))); clear AB; (try dsimp only at hSw); go_simp; try with_reducible rfl)
  refine oT 5 11 ?_ rfl rfl (zB rfl) AA (fun ρ AB w hSw => ?_) ?_
  rotate_left
  ·(have e10 := tm AB hsz 10 rfl zA; clear AB; (try dsimp only at hSw); go_simp; try with_reducible rfl)
  refine oT 6 12 ?_ rfl rfl (zB rfl) AA (fun ρ AB w hSw => ?_) ?_
  rotate_left
  ·(have e11 := tm AB hsz 11 rfl zA; clear AB; (try dsimp only at hSw); go_simp; try with_reducible rfl)
  exact s9 (qb (l := #[true, false, false, true, true, true, true, false, false, false, false]) () (by decide) rfl HB1.out)
 ·intro l i a w0 hg h
  obtain ⟨vs, γ, hl, rfl, hB, hG⟩ := h
  obtain ⟨hf, ds, hm, hds⟩ := tp hg
  clear hg
  simp only [List.mem_cons, Prod.mk.injEq, List.not_mem_nil, or_false] at hm
  rcases hm with ⟨rfl, rfl⟩ | ⟨rfl, rfl⟩ | ⟨rfl, rfl⟩ | ⟨rfl, rfl⟩ | ⟨rfl, rfl⟩
  ·clear hds
   refine vD (d := 7) (vs := #[.pointer (some ⟨g, 0, none⟩), .int .i64 7]) rfl rfl rfl rfl (fun ρ AB => ?_) ?_ ?_
   ·(have hc := AB.const; have e6 := tm AB hsz 6 rfl ((yS _ rfl (zC rfl (zC rfl (zC rfl (zC rfl zA)))))); simp only [List.map_toArray, List.map_cons, List.map_nil, e6, hc])
   ·(intro w; go_simp)
   refine (zT g 7 w0 hB.dk (by decide)).mono ?_
   rintro e w6 ⟨r, rfl, r0, r1, r2, hd6, hg6, hs6⟩
   refine ⟨_, rfl, fun _ => ((hB.next hgl hd6.out hg6.out)).b0.cell 1, xC (γ' := γ) (by decide) (by decide) hl (by decide) hf (hB.next hgl hd6.out hg6.out) hG (fun j u _ _ h => h.grown hg6.out hgl) (⟨r, rfl, by first | exact r2.out (by decide) | trivial, r0⟩)⟩
  ·have f1 : zj l 1 = true := hds 1 (by simp)
   have G1 := hG 1 f1 (by decide)
   clear hds
   obtain ⟨r, h1, ra, rb⟩ := G1
   have hwr : IntKind.i64.wrap (1 + r) = 1 + r := IntWalk.i64_in _ (by omega)
   refine yc (d := 8) (v := ?_) (w' := ?_) rfl rfl rfl (fun ρ AB => ?_) ?_
   rotate_left 2
   ·(have hc := AB.const; have e7 := tm AB hsz 7 rfl ((zy (i := 1) f1 _ (by decide) (by decide)).trans h1); clear AB; go_simp; first | with_reducible rfl | (constructor <;> with_reducible rfl))
   exact ⟨fun _ => ((hB)).b0.cell 1, xC (γ' := γ) (by decide) (by decide) hl (by decide) hf (hB) hG (fun j u _ _ h => h) (⟨1 + r, rfl⟩)⟩
  ·have f1 : zj l 1 = true := hds 1 (by simp)
   have G1 := hG 1 f1 (by decide)
   clear hds
   refine vD (d := 13) (vs := #[.pointer (some ⟨g, 0, none⟩), .int .i64 (nd : Int)]) rfl rfl rfl rfl (fun ρ AB => ?_) ?_ ?_
   ·(have e9 := tm AB hsz 9 rfl ((yS _ rfl (zC rfl (zC rfl (zC rfl zA))))); have e12 := tm AB hsz 12 rfl ((yS _ rfl zA)); simp only [List.map_toArray, List.map_cons, List.map_nil, e9, e12])
   ·(intro w; go_simp)
   refine (zT g (nd : Int) w0 hB.dk (by omega)).mono ?_
   rintro e w6 ⟨r, rfl, r0, r1, r2, hd6, hg6, hs6⟩
   refine ⟨_, rfl, fun _ => ((hB.next hgl hd6.out hg6.out)).b0.cell 1, xC (γ' := γ) (by decide) (by decide) hl (by decide) hf (hB.next hgl hd6.out hg6.out) hG (fun j u _ _ h => h.grown hg6.out hgl) (⟨r, rfl⟩)⟩
  ·have f2 : zj l 2 = true := hds 2 (by simp)
   have f7 : zj l 7 = true := hds 7 (by simp)
   have G2 := hG 2 f2 (by decide)
   have G7 := hG 7 f7 (by decide)
   clear hds
   obtain ⟨r, h2⟩ := G2
   obtain ⟨s, h7⟩ := G7
   refine yc (d := 14) (v := ?_) (w' := ?_) rfl rfl rfl (fun ρ AB => ?_) ?_
   rotate_left 2
   ·(have e8 := tm AB hsz 8 rfl ((zy (i := 2) f2 _ (by decide) (by decide)).trans h2); have e13 := tm AB hsz 13 rfl ((zy (i := 7) f7 _ (by decide) (by decide)).trans h7); clear AB; go_simp; first | with_reducible rfl | (constructor <;> with_reducible rfl))
   exact ⟨fun _ => ((hB)).b0.cell 1, xC (γ' := γ) (by decide) (by decide) hl (by decide) hf (hB) hG (fun j u _ _ h => h) (⟨r, s, rfl⟩)⟩
  ·clear hds
   refine yc (d := 5) (v := ?_) (w' := ?_) rfl rfl rfl (fun ρ AB => ?_) ?_
   rotate_left 2
   ·(skip; clear AB; go_simp; first | with_reducible rfl | (constructor <;> with_reducible rfl))
   exact ⟨fun _ => ((hB.alloc _)).b0.cell 1, xC (γ' := γ) (by decide) (by decide) hl (by decide) hf (hB.alloc _) hG (fun j u _ _ h => h.later ((Below.refl _ _).alloc lR _)) (⟨w0.heap.size, rfl, Blk.new _ _ _, hB.b1.lt⟩)⟩
 intro a w0 h
 obtain ⟨vs, γ, -, rfl, hB, hG⟩ := h
 show wpOrd _ _ _ _ _ _ (ze A ((7, vs 1) :: (8, vs 2) :: (13, vs 7) :: (14, vs 8) :: (5, vs 9) :: [(12, .int .i64 (nd : Int)), (11, .slice Ad nd cd), (10, .pointer (some ⟨w.heap.size, 1, none⟩)), (9, .pointer (some ⟨g, 0, none⟩)), (6, .pointer (some ⟨g, 0, none⟩))])) _
 replace AA : (fun W' => W'.cell? ⟨w.heap.size, 1, none⟩ = some (.slice Ad nd cd)) w0 := (hB).b0.cell 1
 obtain ⟨a, b, h8⟩ := hG 8 rfl (by decide)
 obtain ⟨x, h9, hx, hxH⟩ := hG 9 rfl (by decide)
 obtain ⟨v1, hv1⟩ : ∃ v, v = vs 1 := ⟨_, rfl⟩
 obtain ⟨v2, hv2⟩ : ∃ v, v = vs 2 := ⟨_, rfl⟩
 obtain ⟨v7, hv7⟩ : ∃ v, v = vs 7 := ⟨_, rfl⟩
 rw [h8, h9, ← hv1, ← hv2, ← hv7]
 clear h8 h9 hG hv1 hv2 hv7 vs
 have c0 := hx.cell 0
 have c1 := hx.cell 1
 have c2 := hx.cell 2
 have c3 := hx.cell 3
 have y0 := hx.frozen 0
 have y1 := hx.frozen 1
 have y2 := hx.frozen 2
 have y3 := hx.frozen 3
 have HX := iD (EvX.mk4 hB hx hxH hgl a b)
 have HS : Hid (((((w0.setCell ⟨x, 0, none⟩ (.int .i64 a)).setCell ⟨x, 1, none⟩ (.int .i64 b)).setCell ⟨x, 2, none⟩ (.int .i64 0)).setCell ⟨x, 3, none⟩ (.int .i64 0)).cell? ⟨w.heap.size, 1, none⟩ = some (.slice Ad nd cd)) := ((((hB.b0.far (by simp; omega) _).far (by simp; omega) _).far (by simp; omega) _).far (by simp; omega) _).cell 1
 clear hx hB
 refine qh (i := 10) (w' := ?_) rfl rfl (zB rfl) (fun ρ AB => ?_) (fun _ => ?_) ?_
 rotate_left
 ·(have e5 := tm AB hsz 5 rfl (zD rfl rfl rfl rfl zA); have e14 := tm AB hsz 14 rfl (zC rfl (zC rfl (zC rfl zA))); clear AB; go_simp; try with_reducible rfl)
 ·exact ((((HS.out))))
 refine yG hn2 ?_
 clear AA hn2 b0 b3 hsz A Q2
 simp only [yF, zu, yQ, xO, xP]
 clear c0 c1 c2 c3 y0 y1 y2 y3
 generalize World.setCell (World.setCell (World.setCell (World.setCell _ _ _) _ _) _ _) _ _ = w2 at *
 clear HS HB1 HB0 HD
 have ca := HX.out.bx.cell 0
 go_upto_region 3 with (fail)
 clear ca
 by_cases h1 : a = 1
 ·have qa1 : (a == 1) = true := by simpa using h1
  clear h1
  go_wp2_with fail
  refine (zT g 2 w2 HX.out.dk (by decide)).mono ?_
  rintro e wy ⟨y, rfl, r0, r1, r2, hd6, hg6, hs6⟩
  have r3 : y < 2 := r2.out (by decide)
  have HY := iD (HX.out.next hgl hd6.out hg6.out)
  clear hd6 hg6 hs6 r1 r2 HX
  have hwy : IntKind.i64.wrap (1 + y) = 1 + y := IntWalk.i64_in _ (by omega)
  have c2 := HY.out.bx.cell 2
  have y2 := HY.out.bx.frozen 2
  have H3 := iD (HY.out.fld hgl 2 (.int .i64 (1 + y)))
  go_upto_region 10 with (fail)
  clear c2 y2 HY hwy r0 r3
  generalize World.setCell wy _ _ = w3 at *
  go_wp2_with fail
  refine (zT g 20 w3 H3.out.dk (by decide)).mono ?_
  rintro e wu ⟨u, rfl, r0, r1, r2, hd6, hg6, hs6⟩
  have r3 : u < 20 := r2.out (by decide)
  have HU := iD (H3.out.next hgl hd6.out hg6.out)
  clear hd6 hg6 hs6 r1 r2 H3
  by_cases hu0 : u = 0
  ·have qu0 : (u == 0) = true := by simpa using hu0
   clear hu0
   go_wp2_with fail
   refine (zT g 4 wu HU.out.dk (by decide)).mono ?_
   rintro e wv ⟨v, rfl, r0, r1, r2, hd6, hg6, hs6⟩
   have r3 : v < 4 := r2.out (by decide)
   have HV := iD (HU.out.next hgl hd6.out hg6.out)
   clear hd6 hg6 hs6 r1 r2 HU
   have c2 := HV.out.bx.cell 2
   have y2 := HV.out.bx.frozen 2
   have HW := iD (HV.out.fld hgl 2 (.int .i64 (v)))
   go_upto_region 17 with (fail)
   clear c2 y2 HV
   generalize World.setCell wv _ _ = ww at *
   have c0 := HW.out.bx.cell 0
   have c1 := HW.out.bx.cell 1
   have c2 := HW.out.bx.cell 2
   have c3 := HW.out.bx.cell 3
   have d0 := HW.out.b1.cell 0
   have d1 := HW.out.b1.cell 1
   have d2 := HW.out.b1.cell 2
   have d3 := HW.out.b1.cell 3
   have y0 := HW.out.b1.frozen 0
   have y1 := HW.out.b1.frozen 1
   have y2 := HW.out.b1.frozen 2
   have y3 := HW.out.b1.frozen 3
   have HF := iD (HW.out.fin hgl (a) b (v) (0) (by omega) (.int .i64 (a)) (.int .i64 b) (.int .i64 (v)) (.int .i64 (0)))
   have HB := iD ((((HW.out.b1.set 0 (.int .i64 (a))).set 1 (.int .i64 b)).set 2 (.int .i64 (v))).set 3 (.int .i64 (0)))
   go_wp2_with fail
   clear c0 c1 c2 c3 d0 d1 d2 d3 y0 y1 y2 y3
   generalize World.setCell (World.setCell (World.setCell (World.setCell _ _ _) _ _) _ _) _ _ = wz at *
   have t0 : wz.cell? ⟨w.heap.size + 1, 0, none⟩ = some (.int .i64 (a)) := HB.out.cell 0
   have t1 : wz.cell? ⟨w.heap.size + 1, 1, none⟩ = some (.int .i64 (b)) := HB.out.cell 1
   have t2 : wz.cell? ⟨w.heap.size + 1, 2, none⟩ = some (.int .i64 (v)) := HB.out.cell 2
   have t3 : wz.cell? ⟨w.heap.size + 1, 3, none⟩ = some (.int .i64 (0)) := HB.out.cell 3
   exact bodyPost_ret (v := .agg #[.int .i64 (a), .int .i64 b, .int .i64 (v), .int .i64 (0)]) (by simp [results, Tryz.results16, go_sem, t0, t1, t2, t3]) rfl HF.out
  have qu0 : (u == 0) = false := by simpa using hu0
  clear hu0
  by_cases hu1 : u = 1
  ·have qu1 : (u == 1) = true := by simpa using hu1
   clear hu1
   go_wp2_with fail
   refine (zT g 3 wu HU.out.dk (by decide)).mono ?_
   rintro e wv ⟨v, rfl, r0, r1, r2, hd6, hg6, hs6⟩
   have r3 : v < 3 := r2.out (by decide)
   have HV := iD (HU.out.next hgl hd6.out hg6.out)
   clear hd6 hg6 hs6 r1 r2 HU
   have c3 := HV.out.bx.cell 3
   have y3 := HV.out.bx.frozen 3
   have HW := iD (HV.out.fld hgl 3 (.int .i64 (v)))
   go_upto_region 17 with (fail)
   clear c3 y3 HV
   generalize World.setCell wv _ _ = ww at *
   have c0 := HW.out.bx.cell 0
   have c1 := HW.out.bx.cell 1
   have c2 := HW.out.bx.cell 2
   have c3 := HW.out.bx.cell 3
   have d0 := HW.out.b1.cell 0
   have d1 := HW.out.b1.cell 1
   have d2 := HW.out.b1.cell 2
   have d3 := HW.out.b1.cell 3
   have y0 := HW.out.b1.frozen 0
   have y1 := HW.out.b1.frozen 1
   have y2 := HW.out.b1.frozen 2
   have y3 := HW.out.b1.frozen 3
   have HF := iD (HW.out.fin hgl (a) b (1 + y) (v) (by omega) (.int .i64 (a)) (.int .i64 b) (.int .i64 (1 + y)) (.int .i64 (v)))
   have HB := iD ((((HW.out.b1.set 0 (.int .i64 (a))).set 1 (.int .i64 b)).set 2 (.int .i64 (1 + y))).set 3 (.int .i64 (v)))
   go_wp2_with fail
   clear c0 c1 c2 c3 d0 d1 d2 d3 y0 y1 y2 y3
   generalize World.setCell (World.setCell (World.setCell (World.setCell _ _ _) _ _) _ _) _ _ = wz at *
   have t0 : wz.cell? ⟨w.heap.size + 1, 0, none⟩ = some (.int .i64 (a)) := HB.out.cell 0
   have t1 : wz.cell? ⟨w.heap.size + 1, 1, none⟩ = some (.int .i64 (b)) := HB.out.cell 1
   have t2 : wz.cell? ⟨w.heap.size + 1, 2, none⟩ = some (.int .i64 (1 + y)) := HB.out.cell 2
   have t3 : wz.cell? ⟨w.heap.size + 1, 3, none⟩ = some (.int .i64 (v)) := HB.out.cell 3
   exact bodyPost_ret (v := .agg #[.int .i64 (a), .int .i64 b, .int .i64 (1 + y), .int .i64 (v)]) (by simp [results, Tryz.results16, go_sem, t0, t1, t2, t3]) rfl HF.out
  have qu1 : (u == 1) = false := by simpa using hu1
  clear hu1
  by_cases hu2 : u = 2
  ·have qu2 : (u == 2) = true := by simpa using hu2
   clear hu2
   go_wp2_with fail
   refine (zT g 10 wu HU.out.dk (by decide)).mono ?_
   rintro e wv ⟨v, rfl, r0, r1, r2, hd6, hg6, hs6⟩
   have r3 : v < 10 := r2.out (by decide)
   have HV := iD (HU.out.next hgl hd6.out hg6.out)
   clear hd6 hg6 hs6 r1 r2 HU
   have c0 := HV.out.bx.cell 0
   have y0 := HV.out.bx.frozen 0
   have HW := iD (HV.out.fld hgl 0 (.int .i64 (v)))
   go_upto_region 17 with (fail)
   clear c0 y0 HV
   generalize World.setCell wv _ _ = ww at *
   have c0 := HW.out.bx.cell 0
   have c1 := HW.out.bx.cell 1
   have c2 := HW.out.bx.cell 2
   have c3 := HW.out.bx.cell 3
   have d0 := HW.out.b1.cell 0
   have d1 := HW.out.b1.cell 1
   have d2 := HW.out.b1.cell 2
   have d3 := HW.out.b1.cell 3
   have y0 := HW.out.b1.frozen 0
   have y1 := HW.out.b1.frozen 1
   have y2 := HW.out.b1.frozen 2
   have y3 := HW.out.b1.frozen 3
   have HF := iD (HW.out.fin hgl (v) b (1 + y) (0) (by omega) (.int .i64 (v)) (.int .i64 b) (.int .i64 (1 + y)) (.int .i64 (0)))
   have HB := iD ((((HW.out.b1.set 0 (.int .i64 (v))).set 1 (.int .i64 b)).set 2 (.int .i64 (1 + y))).set 3 (.int .i64 (0)))
   go_wp2_with fail
   clear c0 c1 c2 c3 d0 d1 d2 d3 y0 y1 y2 y3
   generalize World.setCell (World.setCell (World.setCell (World.setCell _ _ _) _ _) _ _) _ _ = wz at *
   have t0 : wz.cell? ⟨w.heap.size + 1, 0, none⟩ = some (.int .i64 (v)) := HB.out.cell 0
   have t1 : wz.cell? ⟨w.heap.size + 1, 1, none⟩ = some (.int .i64 (b)) := HB.out.cell 1
   have t2 : wz.cell? ⟨w.heap.size + 1, 2, none⟩ = some (.int .i64 (1 + y)) := HB.out.cell 2
   have t3 : wz.cell? ⟨w.heap.size + 1, 3, none⟩ = some (.int .i64 (0)) := HB.out.cell 3
   exact bodyPost_ret (v := .agg #[.int .i64 (v), .int .i64 b, .int .i64 (1 + y), .int .i64 (0)]) (by simp [results, Tryz.results16, go_sem, t0, t1, t2, t3]) rfl HF.out
  have qu2 : (u == 2) = false := by simpa using hu2
  clear hu2
  go_upto_region 17 with (fail)
  have c0 := HU.out.bx.cell 0
  have c1 := HU.out.bx.cell 1
  have c2 := HU.out.bx.cell 2
  have c3 := HU.out.bx.cell 3
  have d0 := HU.out.b1.cell 0
  have d1 := HU.out.b1.cell 1
  have d2 := HU.out.b1.cell 2
  have d3 := HU.out.b1.cell 3
  have y0 := HU.out.b1.frozen 0
  have y1 := HU.out.b1.frozen 1
  have y2 := HU.out.b1.frozen 2
  have y3 := HU.out.b1.frozen 3
  have HF := iD (HU.out.fin hgl (a) b (1 + y) (0) (by omega) (.int .i64 (a)) (.int .i64 b) (.int .i64 (1 + y)) (.int .i64 (0)))
  have HB := iD ((((HU.out.b1.set 0 (.int .i64 (a))).set 1 (.int .i64 b)).set 2 (.int .i64 (1 + y))).set 3 (.int .i64 (0)))
  go_wp2_with fail
  clear c0 c1 c2 c3 d0 d1 d2 d3 y0 y1 y2 y3
  generalize World.setCell (World.setCell (World.setCell (World.setCell _ _ _) _ _) _ _) _ _ = wz at *
  have t0 : wz.cell? ⟨w.heap.size + 1, 0, none⟩ = some (.int .i64 (a)) := HB.out.cell 0
  have t1 : wz.cell? ⟨w.heap.size + 1, 1, none⟩ = some (.int .i64 (b)) := HB.out.cell 1
  have t2 : wz.cell? ⟨w.heap.size + 1, 2, none⟩ = some (.int .i64 (1 + y)) := HB.out.cell 2
  have t3 : wz.cell? ⟨w.heap.size + 1, 3, none⟩ = some (.int .i64 (0)) := HB.out.cell 3
  exact bodyPost_ret (v := .agg #[.int .i64 (a), .int .i64 b, .int .i64 (1 + y), .int .i64 (0)]) (by simp [results, Tryz.results16, go_sem, t0, t1, t2, t3]) rfl HF.out
 have qa1 : (a == 1) = false := by simpa using h1
 clear h1
 by_cases h3 : a = 3
 ·have qa3 : (a == 3) = true := by simpa using h3
  clear h3
  go_wp2_with fail
  refine (zT g 2 w2 HX.out.dk (by decide)).mono ?_
  rintro e wy ⟨y, rfl, r0, r1, r2, hd6, hg6, hs6⟩
  have r3 : y < 2 := r2.out (by decide)
  have HY := iD (HX.out.next hgl hd6.out hg6.out)
  clear hd6 hg6 hs6 r1 r2 HX
  have hwy : IntKind.i64.wrap (1 + y) = 1 + y := IntWalk.i64_in _ (by omega)
  have c2 := HY.out.bx.cell 2
  have y2 := HY.out.bx.frozen 2
  have H3 := iD (HY.out.fld hgl 2 (.int .i64 (1 + y)))
  go_upto_region 10 with (fail)
  clear c2 y2 HY hwy r0 r3
  generalize World.setCell wy _ _ = w3 at *
  go_wp2_with fail
  refine (zT g 20 w3 H3.out.dk (by decide)).mono ?_
  rintro e wu ⟨u, rfl, r0, r1, r2, hd6, hg6, hs6⟩
  have r3 : u < 20 := r2.out (by decide)
  have HU := iD (H3.out.next hgl hd6.out hg6.out)
  clear hd6 hg6 hs6 r1 r2 H3
  by_cases hu0 : u = 0
  ·have qu0 : (u == 0) = true := by simpa using hu0
   clear hu0
   go_wp2_with fail
   refine (zT g 4 wu HU.out.dk (by decide)).mono ?_
   rintro e wv ⟨v, rfl, r0, r1, r2, hd6, hg6, hs6⟩
   have r3 : v < 4 := r2.out (by decide)
   have HV := iD (HU.out.next hgl hd6.out hg6.out)
   clear hd6 hg6 hs6 r1 r2 HU
   have c2 := HV.out.bx.cell 2
   have y2 := HV.out.bx.frozen 2
   have HW := iD (HV.out.fld hgl 2 (.int .i64 (v)))
   go_upto_region 17 with (fail)
   clear c2 y2 HV
   generalize World.setCell wv _ _ = ww at *
   have c0 := HW.out.bx.cell 0
   have c1 := HW.out.bx.cell 1
   have c2 := HW.out.bx.cell 2
   have c3 := HW.out.bx.cell 3
   have d0 := HW.out.b1.cell 0
   have d1 := HW.out.b1.cell 1
   have d2 := HW.out.b1.cell 2
   have d3 := HW.out.b1.cell 3
   have y0 := HW.out.b1.frozen 0
   have y1 := HW.out.b1.frozen 1
   have y2 := HW.out.b1.frozen 2
   have y3 := HW.out.b1.frozen 3
   have HF := iD (HW.out.fin hgl (a) b (v) (0) (by omega) (.int .i64 (a)) (.int .i64 b) (.int .i64 (v)) (.int .i64 (0)))
   have HB := iD ((((HW.out.b1.set 0 (.int .i64 (a))).set 1 (.int .i64 b)).set 2 (.int .i64 (v))).set 3 (.int .i64 (0)))
   go_wp2_with fail
   clear c0 c1 c2 c3 d0 d1 d2 d3 y0 y1 y2 y3
   generalize World.setCell (World.setCell (World.setCell (World.setCell _ _ _) _ _) _ _) _ _ = wz at *
   have t0 : wz.cell? ⟨w.heap.size + 1, 0, none⟩ = some (.int .i64 (a)) := HB.out.cell 0
   have t1 : wz.cell? ⟨w.heap.size + 1, 1, none⟩ = some (.int .i64 (b)) := HB.out.cell 1
   have t2 : wz.cell? ⟨w.heap.size + 1, 2, none⟩ = some (.int .i64 (v)) := HB.out.cell 2
   have t3 : wz.cell? ⟨w.heap.size + 1, 3, none⟩ = some (.int .i64 (0)) := HB.out.cell 3
   exact bodyPost_ret (v := .agg #[.int .i64 (a), .int .i64 b, .int .i64 (v), .int .i64 (0)]) (by simp [results, Tryz.results16, go_sem, t0, t1, t2, t3]) rfl HF.out
  have qu0 : (u == 0) = false := by simpa using hu0
  clear hu0
  by_cases hu1 : u = 1
  ·have qu1 : (u == 1) = true := by simpa using hu1
   clear hu1
   go_wp2_with fail
   refine (zT g 3 wu HU.out.dk (by decide)).mono ?_
   rintro e wv ⟨v, rfl, r0, r1, r2, hd6, hg6, hs6⟩
   have r3 : v < 3 := r2.out (by decide)
   have HV := iD (HU.out.next hgl hd6.out hg6.out)
   clear hd6 hg6 hs6 r1 r2 HU
   have c3 := HV.out.bx.cell 3
   have y3 := HV.out.bx.frozen 3
   have HW := iD (HV.out.fld hgl 3 (.int .i64 (v)))
   go_upto_region 17 with (fail)
   clear c3 y3 HV
   generalize World.setCell wv _ _ = ww at *
   have c0 := HW.out.bx.cell 0
   have c1 := HW.out.bx.cell 1
   have c2 := HW.out.bx.cell 2
   have c3 := HW.out.bx.cell 3
   have d0 := HW.out.b1.cell 0
   have d1 := HW.out.b1.cell 1
   have d2 := HW.out.b1.cell 2
   have d3 := HW.out.b1.cell 3
   have y0 := HW.out.b1.frozen 0
   have y1 := HW.out.b1.frozen 1
   have y2 := HW.out.b1.frozen 2
   have y3 := HW.out.b1.frozen 3
   have HF := iD (HW.out.fin hgl (a) b (1 + y) (v) (by omega) (.int .i64 (a)) (.int .i64 b) (.int .i64 (1 + y)) (.int .i64 (v)))
   have HB := iD ((((HW.out.b1.set 0 (.int .i64 (a))).set 1 (.int .i64 b)).set 2 (.int .i64 (1 + y))).set 3 (.int .i64 (v)))
   go_wp2_with fail
   clear c0 c1 c2 c3 d0 d1 d2 d3 y0 y1 y2 y3
   generalize World.setCell (World.setCell (World.setCell (World.setCell _ _ _) _ _) _ _) _ _ = wz at *
   have t0 : wz.cell? ⟨w.heap.size + 1, 0, none⟩ = some (.int .i64 (a)) := HB.out.cell 0
   have t1 : wz.cell? ⟨w.heap.size + 1, 1, none⟩ = some (.int .i64 (b)) := HB.out.cell 1
   have t2 : wz.cell? ⟨w.heap.size + 1, 2, none⟩ = some (.int .i64 (1 + y)) := HB.out.cell 2
   have t3 : wz.cell? ⟨w.heap.size + 1, 3, none⟩ = some (.int .i64 (v)) := HB.out.cell 3
   exact bodyPost_ret (v := .agg #[.int .i64 (a), .int .i64 b, .int .i64 (1 + y), .int .i64 (v)]) (by simp [results, Tryz.results16, go_sem, t0, t1, t2, t3]) rfl HF.out
  have qu1 : (u == 1) = false := by simpa using hu1
  clear hu1
  by_cases hu2 : u = 2
  ·have qu2 : (u == 2) = true := by simpa using hu2
   clear hu2
   go_wp2_with fail
   refine (zT g 10 wu HU.out.dk (by decide)).mono ?_
   rintro e wv ⟨v, rfl, r0, r1, r2, hd6, hg6, hs6⟩
   have r3 : v < 10 := r2.out (by decide)
   have HV := iD (HU.out.next hgl hd6.out hg6.out)
   clear hd6 hg6 hs6 r1 r2 HU
   have c0 := HV.out.bx.cell 0
   have y0 := HV.out.bx.frozen 0
   have HW := iD (HV.out.fld hgl 0 (.int .i64 (v)))
   go_upto_region 17 with (fail)
   clear c0 y0 HV
   generalize World.setCell wv _ _ = ww at *
   have c0 := HW.out.bx.cell 0
   have c1 := HW.out.bx.cell 1
   have c2 := HW.out.bx.cell 2
   have c3 := HW.out.bx.cell 3
   have d0 := HW.out.b1.cell 0
   have d1 := HW.out.b1.cell 1
   have d2 := HW.out.b1.cell 2
   have d3 := HW.out.b1.cell 3
   have y0 := HW.out.b1.frozen 0
   have y1 := HW.out.b1.frozen 1
   have y2 := HW.out.b1.frozen 2
   have y3 := HW.out.b1.frozen 3
   have HF := iD (HW.out.fin hgl (v) b (1 + y) (0) (by omega) (.int .i64 (v)) (.int .i64 b) (.int .i64 (1 + y)) (.int .i64 (0)))
   have HB := iD ((((HW.out.b1.set 0 (.int .i64 (v))).set 1 (.int .i64 b)).set 2 (.int .i64 (1 + y))).set 3 (.int .i64 (0)))
   go_wp2_with fail
   clear c0 c1 c2 c3 d0 d1 d2 d3 y0 y1 y2 y3
   generalize World.setCell (World.setCell (World.setCell (World.setCell _ _ _) _ _) _ _) _ _ = wz at *
   have t0 : wz.cell? ⟨w.heap.size + 1, 0, none⟩ = some (.int .i64 (v)) := HB.out.cell 0
   have t1 : wz.cell? ⟨w.heap.size + 1, 1, none⟩ = some (.int .i64 (b)) := HB.out.cell 1
   have t2 : wz.cell? ⟨w.heap.size + 1, 2, none⟩ = some (.int .i64 (1 + y)) := HB.out.cell 2
   have t3 : wz.cell? ⟨w.heap.size + 1, 3, none⟩ = some (.int .i64 (0)) := HB.out.cell 3
   exact bodyPost_ret (v := .agg #[.int .i64 (v), .int .i64 b, .int .i64 (1 + y), .int .i64 (0)]) (by simp [results, Tryz.results16, go_sem, t0, t1, t2, t3]) rfl HF.out
  have qu2 : (u == 2) = false := by simpa using hu2
  clear hu2
  go_upto_region 17 with (fail)
  have c0 := HU.out.bx.cell 0
  have c1 := HU.out.bx.cell 1
  have c2 := HU.out.bx.cell 2
  have c3 := HU.out.bx.cell 3
  have d0 := HU.out.b1.cell 0
  have d1 := HU.out.b1.cell 1
  have d2 := HU.out.b1.cell 2
  have d3 := HU.out.b1.cell 3
  have y0 := HU.out.b1.frozen 0
  have y1 := HU.out.b1.frozen 1
  have y2 := HU.out.b1.frozen 2
  have y3 := HU.out.b1.frozen 3
  have HF := iD (HU.out.fin hgl (a) b (1 + y) (0) (by omega) (.int .i64 (a)) (.int .i64 b) (.int .i64 (1 + y)) (.int .i64 (0)))
  have HB := iD ((((HU.out.b1.set 0 (.int .i64 (a))).set 1 (.int .i64 b)).set 2 (.int .i64 (1 + y))).set 3 (.int .i64 (0)))
  go_wp2_with fail
  clear c0 c1 c2 c3 d0 d1 d2 d3 y0 y1 y2 y3
  generalize World.setCell (World.setCell (World.setCell (World.setCell _ _ _) _ _) _ _) _ _ = wz at *
  have t0 : wz.cell? ⟨w.heap.size + 1, 0, none⟩ = some (.int .i64 (a)) := HB.out.cell 0
  have t1 : wz.cell? ⟨w.heap.size + 1, 1, none⟩ = some (.int .i64 (b)) := HB.out.cell 1
  have t2 : wz.cell? ⟨w.heap.size + 1, 2, none⟩ = some (.int .i64 (1 + y)) := HB.out.cell 2
  have t3 : wz.cell? ⟨w.heap.size + 1, 3, none⟩ = some (.int .i64 (0)) := HB.out.cell 3
  exact bodyPost_ret (v := .agg #[.int .i64 (a), .int .i64 b, .int .i64 (1 + y), .int .i64 (0)]) (by simp [results, Tryz.results16, go_sem, t0, t1, t2, t3]) rfl HF.out
 have qa3 : (a == 3) = false := by simpa using h3
 clear h3
 by_cases h6 : a = 6
 ·have qa6 : (a == 6) = true := by simpa using h6
  clear h6
  go_wp2_with fail
  refine (zT g 2 w2 HX.out.dk (by decide)).mono ?_
  rintro e wy ⟨y, rfl, r0, r1, r2, hd6, hg6, hs6⟩
  have r3 : y < 2 := r2.out (by decide)
  have HY := iD (HX.out.next hgl hd6.out hg6.out)
  clear hd6 hg6 hs6 r1 r2 HX
  have hwy : IntKind.i64.wrap (1 + y) = 1 + y := IntWalk.i64_in _ (by omega)
  clear r0 r3
  go_wp2_with fail
  refine (zT g 6 wy HY.out.dk (by decide)).mono ?_
  rintro e wx ⟨z, rfl, r0, r1, r2, hd6, hg6, hs6⟩
  have r3 : z < 6 := r2.out (by decide)
  have HZ := iD (HY.out.next hgl hd6.out hg6.out)
  clear hd6 hg6 hs6 r1 r2 HY
  have c2 := HZ.out.bx.cell 2
  have y2 := HZ.out.bx.frozen 2
  have c3 := HZ.out.bx.cell 3
  have y3 := HZ.out.bx.frozen 3
  have H3 := iD ((HZ.out.fld hgl 2 (.int .i64 (1 + y))).fld hgl 3 (.int .i64 (z)))
  have hzq : z < 801 := by omega
  go_upto_region 10 with (fail)
  clear c2 y2 c3 y3 HZ hwy r0 r3
  generalize World.setCell (World.setCell wx _ _) _ _ = w3 at *
  go_wp2_with fail
  refine (zT g 20 w3 H3.out.dk (by decide)).mono ?_
  rintro e wu ⟨u, rfl, r0, r1, r2, hd6, hg6, hs6⟩
  have r3 : u < 20 := r2.out (by decide)
  have HU := iD (H3.out.next hgl hd6.out hg6.out)
  clear hd6 hg6 hs6 r1 r2 H3
  by_cases hu0 : u = 0
  ·have qu0 : (u == 0) = true := by simpa using hu0
   clear hu0
   go_wp2_with fail
   refine (zT g 4 wu HU.out.dk (by decide)).mono ?_
   rintro e wv ⟨v, rfl, r0, r1, r2, hd6, hg6, hs6⟩
   have r3 : v < 4 := r2.out (by decide)
   have HV := iD (HU.out.next hgl hd6.out hg6.out)
   clear hd6 hg6 hs6 r1 r2 HU
   have c2 := HV.out.bx.cell 2
   have y2 := HV.out.bx.frozen 2
   have HW := iD (HV.out.fld hgl 2 (.int .i64 (v)))
   go_upto_region 17 with (fail)
   clear c2 y2 HV
   generalize World.setCell wv _ _ = ww at *
   have c0 := HW.out.bx.cell 0
   have c1 := HW.out.bx.cell 1
   have c2 := HW.out.bx.cell 2
   have c3 := HW.out.bx.cell 3
   have d0 := HW.out.b1.cell 0
   have d1 := HW.out.b1.cell 1
   have d2 := HW.out.b1.cell 2
   have d3 := HW.out.b1.cell 3
   have y0 := HW.out.b1.frozen 0
   have y1 := HW.out.b1.frozen 1
   have y2 := HW.out.b1.frozen 2
   have y3 := HW.out.b1.frozen 3
   have HF := iD (HW.out.fin hgl (a) b (v) (z) (by omega) (.int .i64 (a)) (.int .i64 b) (.int .i64 (v)) (.int .i64 (z)))
   have HB := iD ((((HW.out.b1.set 0 (.int .i64 (a))).set 1 (.int .i64 b)).set 2 (.int .i64 (v))).set 3 (.int .i64 (z)))
   go_wp2_with fail
   clear c0 c1 c2 c3 d0 d1 d2 d3 y0 y1 y2 y3
   generalize World.setCell (World.setCell (World.setCell (World.setCell _ _ _) _ _) _ _) _ _ = wz at *
   have t0 : wz.cell? ⟨w.heap.size + 1, 0, none⟩ = some (.int .i64 (a)) := HB.out.cell 0
   have t1 : wz.cell? ⟨w.heap.size + 1, 1, none⟩ = some (.int .i64 (b)) := HB.out.cell 1
   have t2 : wz.cell? ⟨w.heap.size + 1, 2, none⟩ = some (.int .i64 (v)) := HB.out.cell 2
   have t3 : wz.cell? ⟨w.heap.size + 1, 3, none⟩ = some (.int .i64 (z)) := HB.out.cell 3
   exact bodyPost_ret (v := .agg #[.int .i64 (a), .int .i64 b, .int .i64 (v), .int .i64 (z)]) (by simp [results, Tryz.results16, go_sem, t0, t1, t2, t3]) rfl HF.out
  have qu0 : (u == 0) = false := by simpa using hu0
  clear hu0
  by_cases hu1 : u = 1
  ·have qu1 : (u == 1) = true := by simpa using hu1
   clear hu1
   go_wp2_with fail
   refine (zT g 3 wu HU.out.dk (by decide)).mono ?_
   rintro e wv ⟨v, rfl, r0, r1, r2, hd6, hg6, hs6⟩
   have r3 : v < 3 := r2.out (by decide)
   have HV := iD (HU.out.next hgl hd6.out hg6.out)
   clear hd6 hg6 hs6 r1 r2 HU
   have c3 := HV.out.bx.cell 3
   have y3 := HV.out.bx.frozen 3
   have HW := iD (HV.out.fld hgl 3 (.int .i64 (v)))
   go_upto_region 17 with (fail)
   clear c3 y3 HV
   generalize World.setCell wv _ _ = ww at *
   have c0 := HW.out.bx.cell 0
   have c1 := HW.out.bx.cell 1
   have c2 := HW.out.bx.cell 2
   have c3 := HW.out.bx.cell 3
   have d0 := HW.out.b1.cell 0
   have d1 := HW.out.b1.cell 1
   have d2 := HW.out.b1.cell 2
   have d3 := HW.out.b1.cell 3
   have y0 := HW.out.b1.frozen 0
   have y1 := HW.out.b1.frozen 1
   have y2 := HW.out.b1.frozen 2
   have y3 := HW.out.b1.frozen 3
   have HF := iD (HW.out.fin hgl (a) b (1 + y) (v) (by omega) (.int .i64 (a)) (.int .i64 b) (.int .i64 (1 + y)) (.int .i64 (v)))
   have HB := iD ((((HW.out.b1.set 0 (.int .i64 (a))).set 1 (.int .i64 b)).set 2 (.int .i64 (1 + y))).set 3 (.int .i64 (v)))
   go_wp2_with fail
   clear c0 c1 c2 c3 d0 d1 d2 d3 y0 y1 y2 y3
   generalize World.setCell (World.setCell (World.setCell (World.setCell _ _ _) _ _) _ _) _ _ = wz at *
   have t0 : wz.cell? ⟨w.heap.size + 1, 0, none⟩ = some (.int .i64 (a)) := HB.out.cell 0
   have t1 : wz.cell? ⟨w.heap.size + 1, 1, none⟩ = some (.int .i64 (b)) := HB.out.cell 1
   have t2 : wz.cell? ⟨w.heap.size + 1, 2, none⟩ = some (.int .i64 (1 + y)) := HB.out.cell 2
   have t3 : wz.cell? ⟨w.heap.size + 1, 3, none⟩ = some (.int .i64 (v)) := HB.out.cell 3
   exact bodyPost_ret (v := .agg #[.int .i64 (a), .int .i64 b, .int .i64 (1 + y), .int .i64 (v)]) (by simp [results, Tryz.results16, go_sem, t0, t1, t2, t3]) rfl HF.out
  have qu1 : (u == 1) = false := by simpa using hu1
  clear hu1
  by_cases hu2 : u = 2
  ·have qu2 : (u == 2) = true := by simpa using hu2
   clear hu2
   go_wp2_with fail
   refine (zT g 10 wu HU.out.dk (by decide)).mono ?_
   rintro e wv ⟨v, rfl, r0, r1, r2, hd6, hg6, hs6⟩
   have r3 : v < 10 := r2.out (by decide)
   have HV := iD (HU.out.next hgl hd6.out hg6.out)
   clear hd6 hg6 hs6 r1 r2 HU
   have c0 := HV.out.bx.cell 0
   have y0 := HV.out.bx.frozen 0
   have HW := iD (HV.out.fld hgl 0 (.int .i64 (v)))
   go_upto_region 17 with (fail)
   clear c0 y0 HV
   generalize World.setCell wv _ _ = ww at *
   have c0 := HW.out.bx.cell 0
   have c1 := HW.out.bx.cell 1
   have c2 := HW.out.bx.cell 2
   have c3 := HW.out.bx.cell 3
   have d0 := HW.out.b1.cell 0
   have d1 := HW.out.b1.cell 1
   have d2 := HW.out.b1.cell 2
   have d3 := HW.out.b1.cell 3
   have y0 := HW.out.b1.frozen 0
   have y1 := HW.out.b1.frozen 1
   have y2 := HW.out.b1.frozen 2
   have y3 := HW.out.b1.frozen 3
   have HF := iD (HW.out.fin hgl (v) b (1 + y) (z) (by omega) (.int .i64 (v)) (.int .i64 b) (.int .i64 (1 + y)) (.int .i64 (z)))
   have HB := iD ((((HW.out.b1.set 0 (.int .i64 (v))).set 1 (.int .i64 b)).set 2 (.int .i64 (1 + y))).set 3 (.int .i64 (z)))
   go_wp2_with fail
   clear c0 c1 c2 c3 d0 d1 d2 d3 y0 y1 y2 y3
   generalize World.setCell (World.setCell (World.setCell (World.setCell _ _ _) _ _) _ _) _ _ = wz at *
   have t0 : wz.cell? ⟨w.heap.size + 1, 0, none⟩ = some (.int .i64 (v)) := HB.out.cell 0
   have t1 : wz.cell? ⟨w.heap.size + 1, 1, none⟩ = some (.int .i64 (b)) := HB.out.cell 1
   have t2 : wz.cell? ⟨w.heap.size + 1, 2, none⟩ = some (.int .i64 (1 + y)) := HB.out.cell 2
   have t3 : wz.cell? ⟨w.heap.size + 1, 3, none⟩ = some (.int .i64 (z)) := HB.out.cell 3
   exact bodyPost_ret (v := .agg #[.int .i64 (v), .int .i64 b, .int .i64 (1 + y), .int .i64 (z)]) (by simp [results, Tryz.results16, go_sem, t0, t1, t2, t3]) rfl HF.out
  have qu2 : (u == 2) = false := by simpa using hu2
  clear hu2
  go_upto_region 17 with (fail)
  have c0 := HU.out.bx.cell 0
  have c1 := HU.out.bx.cell 1
  have c2 := HU.out.bx.cell 2
  have c3 := HU.out.bx.cell 3
  have d0 := HU.out.b1.cell 0
  have d1 := HU.out.b1.cell 1
  have d2 := HU.out.b1.cell 2
  have d3 := HU.out.b1.cell 3
  have y0 := HU.out.b1.frozen 0
  have y1 := HU.out.b1.frozen 1
  have y2 := HU.out.b1.frozen 2
  have y3 := HU.out.b1.frozen 3
  have HF := iD (HU.out.fin hgl (a) b (1 + y) (z) (by omega) (.int .i64 (a)) (.int .i64 b) (.int .i64 (1 + y)) (.int .i64 (z)))
  have HB := iD ((((HU.out.b1.set 0 (.int .i64 (a))).set 1 (.int .i64 b)).set 2 (.int .i64 (1 + y))).set 3 (.int .i64 (z)))
  go_wp2_with fail
  clear c0 c1 c2 c3 d0 d1 d2 d3 y0 y1 y2 y3
  generalize World.setCell (World.setCell (World.setCell (World.setCell _ _ _) _ _) _ _) _ _ = wz at *
  have t0 : wz.cell? ⟨w.heap.size + 1, 0, none⟩ = some (.int .i64 (a)) := HB.out.cell 0
  have t1 : wz.cell? ⟨w.heap.size + 1, 1, none⟩ = some (.int .i64 (b)) := HB.out.cell 1
  have t2 : wz.cell? ⟨w.heap.size + 1, 2, none⟩ = some (.int .i64 (1 + y)) := HB.out.cell 2
  have t3 : wz.cell? ⟨w.heap.size + 1, 3, none⟩ = some (.int .i64 (z)) := HB.out.cell 3
  exact bodyPost_ret (v := .agg #[.int .i64 (a), .int .i64 b, .int .i64 (1 + y), .int .i64 (z)]) (by simp [results, Tryz.results16, go_sem, t0, t1, t2, t3]) rfl HF.out
 have qa6 : (a == 6) = false := by simpa using h6
 clear h6
 by_cases h7 : a = 7
 ·have qa7 : (a == 7) = true := by simpa using h7
  clear h7
  go_wp2_with fail
  refine (zT g 6 w2 HX.out.dk (by decide)).mono ?_
  rintro e wx ⟨z, rfl, r0, r1, r2, hd6, hg6, hs6⟩
  have r3 : z < 6 := r2.out (by decide)
  have HZ := iD (HX.out.next hgl hd6.out hg6.out)
  clear hd6 hg6 hs6 r1 r2 HX
  have c3 := HZ.out.bx.cell 3
  have y3 := HZ.out.bx.frozen 3
  have H3 := iD (HZ.out.fld hgl 3 (.int .i64 (z)))
  have hzq : z < 801 := by omega
  go_upto_region 10 with (fail)
  clear c3 y3 HZ r0 r3
  generalize World.setCell wx _ _ = w3 at *
  go_wp2_with fail
  refine (zT g 20 w3 H3.out.dk (by decide)).mono ?_
  rintro e wu ⟨u, rfl, r0, r1, r2, hd6, hg6, hs6⟩
  have r3 : u < 20 := r2.out (by decide)
  have HU := iD (H3.out.next hgl hd6.out hg6.out)
  clear hd6 hg6 hs6 r1 r2 H3
  by_cases hu0 : u = 0
  ·have qu0 : (u == 0) = true := by simpa using hu0
   clear hu0
   go_wp2_with fail
   refine (zT g 4 wu HU.out.dk (by decide)).mono ?_
   rintro e wv ⟨v, rfl, r0, r1, r2, hd6, hg6, hs6⟩
   have r3 : v < 4 := r2.out (by decide)
   have HV := iD (HU.out.next hgl hd6.out hg6.out)
   clear hd6 hg6 hs6 r1 r2 HU
   have c2 := HV.out.bx.cell 2
   have y2 := HV.out.bx.frozen 2
   have HW := iD (HV.out.fld hgl 2 (.int .i64 (v)))
   go_upto_region 17 with (fail)
   clear c2 y2 HV
   generalize World.setCell wv _ _ = ww at *
   have c0 := HW.out.bx.cell 0
   have c1 := HW.out.bx.cell 1
   have c2 := HW.out.bx.cell 2
   have c3 := HW.out.bx.cell 3
   have d0 := HW.out.b1.cell 0
   have d1 := HW.out.b1.cell 1
   have d2 := HW.out.b1.cell 2
   have d3 := HW.out.b1.cell 3
   have y0 := HW.out.b1.frozen 0
   have y1 := HW.out.b1.frozen 1
   have y2 := HW.out.b1.frozen 2
   have y3 := HW.out.b1.frozen 3
   have HF := iD (HW.out.fin hgl (a) b (v) (z) (by omega) (.int .i64 (a)) (.int .i64 b) (.int .i64 (v)) (.int .i64 (z)))
   have HB := iD ((((HW.out.b1.set 0 (.int .i64 (a))).set 1 (.int .i64 b)).set 2 (.int .i64 (v))).set 3 (.int .i64 (z)))
   go_wp2_with fail
   clear c0 c1 c2 c3 d0 d1 d2 d3 y0 y1 y2 y3
   generalize World.setCell (World.setCell (World.setCell (World.setCell _ _ _) _ _) _ _) _ _ = wz at *
   have t0 : wz.cell? ⟨w.heap.size + 1, 0, none⟩ = some (.int .i64 (a)) := HB.out.cell 0
   have t1 : wz.cell? ⟨w.heap.size + 1, 1, none⟩ = some (.int .i64 (b)) := HB.out.cell 1
   have t2 : wz.cell? ⟨w.heap.size + 1, 2, none⟩ = some (.int .i64 (v)) := HB.out.cell 2
   have t3 : wz.cell? ⟨w.heap.size + 1, 3, none⟩ = some (.int .i64 (z)) := HB.out.cell 3
   exact bodyPost_ret (v := .agg #[.int .i64 (a), .int .i64 b, .int .i64 (v), .int .i64 (z)]) (by simp [results, Tryz.results16, go_sem, t0, t1, t2, t3]) rfl HF.out
  have qu0 : (u == 0) = false := by simpa using hu0
  clear hu0
  by_cases hu1 : u = 1
  ·have qu1 : (u == 1) = true := by simpa using hu1
   clear hu1
   go_wp2_with fail
   refine (zT g 3 wu HU.out.dk (by decide)).mono ?_
   rintro e wv ⟨v, rfl, r0, r1, r2, hd6, hg6, hs6⟩
   have r3 : v < 3 := r2.out (by decide)
   have HV := iD (HU.out.next hgl hd6.out hg6.out)
   clear hd6 hg6 hs6 r1 r2 HU
   have c3 := HV.out.bx.cell 3
   have y3 := HV.out.bx.frozen 3
   have HW := iD (HV.out.fld hgl 3 (.int .i64 (v)))
   go_upto_region 17 with (fail)
   clear c3 y3 HV
   generalize World.setCell wv _ _ = ww at *
   have c0 := HW.out.bx.cell 0
   have c1 := HW.out.bx.cell 1
   have c2 := HW.out.bx.cell 2
   have c3 := HW.out.bx.cell 3
   have d0 := HW.out.b1.cell 0
   have d1 := HW.out.b1.cell 1
   have d2 := HW.out.b1.cell 2
   have d3 := HW.out.b1.cell 3
   have y0 := HW.out.b1.frozen 0
   have y1 := HW.out.b1.frozen 1
   have y2 := HW.out.b1.frozen 2
   have y3 := HW.out.b1.frozen 3
   have HF := iD (HW.out.fin hgl (a) b (0) (v) (by omega) (.int .i64 (a)) (.int .i64 b) (.int .i64 (0)) (.int .i64 (v)))
   have HB := iD ((((HW.out.b1.set 0 (.int .i64 (a))).set 1 (.int .i64 b)).set 2 (.int .i64 (0))).set 3 (.int .i64 (v)))
   go_wp2_with fail
   clear c0 c1 c2 c3 d0 d1 d2 d3 y0 y1 y2 y3
   generalize World.setCell (World.setCell (World.setCell (World.setCell _ _ _) _ _) _ _) _ _ = wz at *
   have t0 : wz.cell? ⟨w.heap.size + 1, 0, none⟩ = some (.int .i64 (a)) := HB.out.cell 0
   have t1 : wz.cell? ⟨w.heap.size + 1, 1, none⟩ = some (.int .i64 (b)) := HB.out.cell 1
   have t2 : wz.cell? ⟨w.heap.size + 1, 2, none⟩ = some (.int .i64 (0)) := HB.out.cell 2
   have t3 : wz.cell? ⟨w.heap.size + 1, 3, none⟩ = some (.int .i64 (v)) := HB.out.cell 3
   exact bodyPost_ret (v := .agg #[.int .i64 (a), .int .i64 b, .int .i64 (0), .int .i64 (v)]) (by simp [results, Tryz.results16, go_sem, t0, t1, t2, t3]) rfl HF.out
  have qu1 : (u == 1) = false := by simpa using hu1
  clear hu1
  by_cases hu2 : u = 2
  ·have qu2 : (u == 2) = true := by simpa using hu2
   clear hu2
   go_wp2_with fail
   refine (zT g 10 wu HU.out.dk (by decide)).mono ?_
   rintro e wv ⟨v, rfl, r0, r1, r2, hd6, hg6, hs6⟩
   have r3 : v < 10 := r2.out (by decide)
   have HV := iD (HU.out.next hgl hd6.out hg6.out)
   clear hd6 hg6 hs6 r1 r2 HU
   have c0 := HV.out.bx.cell 0
   have y0 := HV.out.bx.frozen 0
   have HW := iD (HV.out.fld hgl 0 (.int .i64 (v)))
   go_upto_region 17 with (fail)
   clear c0 y0 HV
   generalize World.setCell wv _ _ = ww at *
   have c0 := HW.out.bx.cell 0
   have c1 := HW.out.bx.cell 1
   have c2 := HW.out.bx.cell 2
   have c3 := HW.out.bx.cell 3
   have d0 := HW.out.b1.cell 0
   have d1 := HW.out.b1.cell 1
   have d2 := HW.out.b1.cell 2
   have d3 := HW.out.b1.cell 3
   have y0 := HW.out.b1.frozen 0
   have y1 := HW.out.b1.frozen 1
   have y2 := HW.out.b1.frozen 2
   have y3 := HW.out.b1.frozen 3
   have HF := iD (HW.out.fin hgl (v) b (0) (z) (by omega) (.int .i64 (v)) (.int .i64 b) (.int .i64 (0)) (.int .i64 (z)))
   have HB := iD ((((HW.out.b1.set 0 (.int .i64 (v))).set 1 (.int .i64 b)).set 2 (.int .i64 (0))).set 3 (.int .i64 (z)))
   go_wp2_with fail
   clear c0 c1 c2 c3 d0 d1 d2 d3 y0 y1 y2 y3
   generalize World.setCell (World.setCell (World.setCell (World.setCell _ _ _) _ _) _ _) _ _ = wz at *
   have t0 : wz.cell? ⟨w.heap.size + 1, 0, none⟩ = some (.int .i64 (v)) := HB.out.cell 0
   have t1 : wz.cell? ⟨w.heap.size + 1, 1, none⟩ = some (.int .i64 (b)) := HB.out.cell 1
   have t2 : wz.cell? ⟨w.heap.size + 1, 2, none⟩ = some (.int .i64 (0)) := HB.out.cell 2
   have t3 : wz.cell? ⟨w.heap.size + 1, 3, none⟩ = some (.int .i64 (z)) := HB.out.cell 3
   exact bodyPost_ret (v := .agg #[.int .i64 (v), .int .i64 b, .int .i64 (0), .int .i64 (z)]) (by simp [results, Tryz.results16, go_sem, t0, t1, t2, t3]) rfl HF.out
  have qu2 : (u == 2) = false := by simpa using hu2
  clear hu2
  go_upto_region 17 with (fail)
  have c0 := HU.out.bx.cell 0
  have c1 := HU.out.bx.cell 1
  have c2 := HU.out.bx.cell 2
  have c3 := HU.out.bx.cell 3
  have d0 := HU.out.b1.cell 0
  have d1 := HU.out.b1.cell 1
  have d2 := HU.out.b1.cell 2
  have d3 := HU.out.b1.cell 3
  have y0 := HU.out.b1.frozen 0
  have y1 := HU.out.b1.frozen 1
  have y2 := HU.out.b1.frozen 2
  have y3 := HU.out.b1.frozen 3
  have HF := iD (HU.out.fin hgl (a) b (0) (z) (by omega) (.int .i64 (a)) (.int .i64 b) (.int .i64 (0)) (.int .i64 (z)))
  have HB := iD ((((HU.out.b1.set 0 (.int .i64 (a))).set 1 (.int .i64 b)).set 2 (.int .i64 (0))).set 3 (.int .i64 (z)))
  go_wp2_with fail
  clear c0 c1 c2 c3 d0 d1 d2 d3 y0 y1 y2 y3
  generalize World.setCell (World.setCell (World.setCell (World.setCell _ _ _) _ _) _ _) _ _ = wz at *
  have t0 : wz.cell? ⟨w.heap.size + 1, 0, none⟩ = some (.int .i64 (a)) := HB.out.cell 0
  have t1 : wz.cell? ⟨w.heap.size + 1, 1, none⟩ = some (.int .i64 (b)) := HB.out.cell 1
  have t2 : wz.cell? ⟨w.heap.size + 1, 2, none⟩ = some (.int .i64 (0)) := HB.out.cell 2
  have t3 : wz.cell? ⟨w.heap.size + 1, 3, none⟩ = some (.int .i64 (z)) := HB.out.cell 3
  exact bodyPost_ret (v := .agg #[.int .i64 (a), .int .i64 b, .int .i64 (0), .int .i64 (z)]) (by simp [results, Tryz.results16, go_sem, t0, t1, t2, t3]) rfl HF.out
 have qa7 : (a == 7) = false := by simpa using h7
 clear h7
 go_wp2_with fail
 refine (zT g 20 w2 HX.out.dk (by decide)).mono ?_
 rintro e wu ⟨u, rfl, r0, r1, r2, hd6, hg6, hs6⟩
 have r3 : u < 20 := r2.out (by decide)
 have HU := iD (HX.out.next hgl hd6.out hg6.out)
 clear hd6 hg6 hs6 r1 r2 HX
 by_cases hu0 : u = 0
 ·have qu0 : (u == 0) = true := by simpa using hu0
  clear hu0
  go_wp2_with fail
  refine (zT g 4 wu HU.out.dk (by decide)).mono ?_
  rintro e wv ⟨v, rfl, r0, r1, r2, hd6, hg6, hs6⟩
  have r3 : v < 4 := r2.out (by decide)
  have HV := iD (HU.out.next hgl hd6.out hg6.out)
  clear hd6 hg6 hs6 r1 r2 HU
  have c2 := HV.out.bx.cell 2
  have y2 := HV.out.bx.frozen 2
  have HW := iD (HV.out.fld hgl 2 (.int .i64 (v)))
  go_upto_region 17 with (fail)
  clear c2 y2 HV
  generalize World.setCell wv _ _ = ww at *
  have c0 := HW.out.bx.cell 0
  have c1 := HW.out.bx.cell 1
  have c2 := HW.out.bx.cell 2
  have c3 := HW.out.bx.cell 3
  have d0 := HW.out.b1.cell 0
  have d1 := HW.out.b1.cell 1
  have d2 := HW.out.b1.cell 2
  have d3 := HW.out.b1.cell 3
  have y0 := HW.out.b1.frozen 0
  have y1 := HW.out.b1.frozen 1
  have y2 := HW.out.b1.frozen 2
  have y3 := HW.out.b1.frozen 3
  have HF := iD (HW.out.fin hgl (a) b (v) (0) (by omega) (.int .i64 (a)) (.int .i64 b) (.int .i64 (v)) (.int .i64 (0)))
  have HB := iD ((((HW.out.b1.set 0 (.int .i64 (a))).set 1 (.int .i64 b)).set 2 (.int .i64 (v))).set 3 (.int .i64 (0)))
  go_wp2_with fail
  clear c0 c1 c2 c3 d0 d1 d2 d3 y0 y1 y2 y3
  generalize World.setCell (World.setCell (World.setCell (World.setCell _ _ _) _ _) _ _) _ _ = wz at *
  have t0 : wz.cell? ⟨w.heap.size + 1, 0, none⟩ = some (.int .i64 (a)) := HB.out.cell 0
  have t1 : wz.cell? ⟨w.heap.size + 1, 1, none⟩ = some (.int .i64 (b)) := HB.out.cell 1
  have t2 : wz.cell? ⟨w.heap.size + 1, 2, none⟩ = some (.int .i64 (v)) := HB.out.cell 2
  have t3 : wz.cell? ⟨w.heap.size + 1, 3, none⟩ = some (.int .i64 (0)) := HB.out.cell 3
  exact bodyPost_ret (v := .agg #[.int .i64 (a), .int .i64 b, .int .i64 (v), .int .i64 (0)]) (by simp [results, Tryz.results16, go_sem, t0, t1, t2, t3]) rfl HF.out
 have qu0 : (u == 0) = false := by simpa using hu0
 clear hu0
 by_cases hu1 : u = 1
 ·have qu1 : (u == 1) = true := by simpa using hu1
  clear hu1
  go_wp2_with fail
  refine (zT g 3 wu HU.out.dk (by decide)).mono ?_
  rintro e wv ⟨v, rfl, r0, r1, r2, hd6, hg6, hs6⟩
  have r3 : v < 3 := r2.out (by decide)
  have HV := iD (HU.out.next hgl hd6.out hg6.out)
  clear hd6 hg6 hs6 r1 r2 HU
  have c3 := HV.out.bx.cell 3
  have y3 := HV.out.bx.frozen 3
  have HW := iD (HV.out.fld hgl 3 (.int .i64 (v)))
  go_upto_region 17 with (fail)
  clear c3 y3 HV
  generalize World.setCell wv _ _ = ww at *
  have c0 := HW.out.bx.cell 0
  have c1 := HW.out.bx.cell 1
  have c2 := HW.out.bx.cell 2
  have c3 := HW.out.bx.cell 3
  have d0 := HW.out.b1.cell 0
  have d1 := HW.out.b1.cell 1
  have d2 := HW.out.b1.cell 2
  have d3 := HW.out.b1.cell 3
  have y0 := HW.out.b1.frozen 0
  have y1 := HW.out.b1.frozen 1
  have y2 := HW.out.b1.frozen 2
  have y3 := HW.out.b1.frozen 3
  have HF := iD (HW.out.fin hgl (a) b (0) (v) (by omega) (.int .i64 (a)) (.int .i64 b) (.int .i64 (0)) (.int .i64 (v)))
  have HB := iD ((((HW.out.b1.set 0 (.int .i64 (a))).set 1 (.int .i64 b)).set 2 (.int .i64 (0))).set 3 (.int .i64 (v)))
  go_wp2_with fail
  clear c0 c1 c2 c3 d0 d1 d2 d3 y0 y1 y2 y3
  generalize World.setCell (World.setCell (World.setCell (World.setCell _ _ _) _ _) _ _) _ _ = wz at *
  have t0 : wz.cell? ⟨w.heap.size + 1, 0, none⟩ = some (.int .i64 (a)) := HB.out.cell 0
  have t1 : wz.cell? ⟨w.heap.size + 1, 1, none⟩ = some (.int .i64 (b)) := HB.out.cell 1
  have t2 : wz.cell? ⟨w.heap.size + 1, 2, none⟩ = some (.int .i64 (0)) := HB.out.cell 2
  have t3 : wz.cell? ⟨w.heap.size + 1, 3, none⟩ = some (.int .i64 (v)) := HB.out.cell 3
  exact bodyPost_ret (v := .agg #[.int .i64 (a), .int .i64 b, .int .i64 (0), .int .i64 (v)]) (by simp [results, Tryz.results16, go_sem, t0, t1, t2, t3]) rfl HF.out
 have qu1 : (u == 1) = false := by simpa using hu1
 clear hu1
 by_cases hu2 : u = 2
 ·have qu2 : (u == 2) = true := by simpa using hu2
  clear hu2
  go_wp2_with fail
  refine (zT g 10 wu HU.out.dk (by decide)).mono ?_
  rintro e wv ⟨v, rfl, r0, r1, r2, hd6, hg6, hs6⟩
  have r3 : v < 10 := r2.out (by decide)
  have HV := iD (HU.out.next hgl hd6.out hg6.out)
  clear hd6 hg6 hs6 r1 r2 HU
  have c0 := HV.out.bx.cell 0
  have y0 := HV.out.bx.frozen 0
  have HW := iD (HV.out.fld hgl 0 (.int .i64 (v)))
  go_upto_region 17 with (fail)
  clear c0 y0 HV
  generalize World.setCell wv _ _ = ww at *
  have c0 := HW.out.bx.cell 0
  have c1 := HW.out.bx.cell 1
  have c2 := HW.out.bx.cell 2
  have c3 := HW.out.bx.cell 3
  have d0 := HW.out.b1.cell 0
  have d1 := HW.out.b1.cell 1
  have d2 := HW.out.b1.cell 2
  have d3 := HW.out.b1.cell 3
  have y0 := HW.out.b1.frozen 0
  have y1 := HW.out.b1.frozen 1
  have y2 := HW.out.b1.frozen 2
  have y3 := HW.out.b1.frozen 3
  have HF := iD (HW.out.fin hgl (v) b (0) (0) (by omega) (.int .i64 (v)) (.int .i64 b) (.int .i64 (0)) (.int .i64 (0)))
  have HB := iD ((((HW.out.b1.set 0 (.int .i64 (v))).set 1 (.int .i64 b)).set 2 (.int .i64 (0))).set 3 (.int .i64 (0)))
  go_wp2_with fail
  clear c0 c1 c2 c3 d0 d1 d2 d3 y0 y1 y2 y3
  generalize World.setCell (World.setCell (World.setCell (World.setCell _ _ _) _ _) _ _) _ _ = wz at *
  have t0 : wz.cell? ⟨w.heap.size + 1, 0, none⟩ = some (.int .i64 (v)) := HB.out.cell 0
  have t1 : wz.cell? ⟨w.heap.size + 1, 1, none⟩ = some (.int .i64 (b)) := HB.out.cell 1
  have t2 : wz.cell? ⟨w.heap.size + 1, 2, none⟩ = some (.int .i64 (0)) := HB.out.cell 2
  have t3 : wz.cell? ⟨w.heap.size + 1, 3, none⟩ = some (.int .i64 (0)) := HB.out.cell 3
  exact bodyPost_ret (v := .agg #[.int .i64 (v), .int .i64 b, .int .i64 (0), .int .i64 (0)]) (by simp [results, Tryz.results16, go_sem, t0, t1, t2, t3]) rfl HF.out
 have qu2 : (u == 2) = false := by simpa using hu2
 clear hu2
 go_upto_region 17 with (fail)
 have c0 := HU.out.bx.cell 0
 have c1 := HU.out.bx.cell 1
 have c2 := HU.out.bx.cell 2
 have c3 := HU.out.bx.cell 3
 have d0 := HU.out.b1.cell 0
 have d1 := HU.out.b1.cell 1
 have d2 := HU.out.b1.cell 2
 have d3 := HU.out.b1.cell 3
 have y0 := HU.out.b1.frozen 0
 have y1 := HU.out.b1.frozen 1
 have y2 := HU.out.b1.frozen 2
 have y3 := HU.out.b1.frozen 3
 have HF := iD (HU.out.fin hgl (a) b (0) (0) (by omega) (.int .i64 (a)) (.int .i64 b) (.int .i64 (0)) (.int .i64 (0)))
 have HB := iD ((((HU.out.b1.set 0 (.int .i64 (a))).set 1 (.int .i64 b)).set 2 (.int .i64 (0))).set 3 (.int .i64 (0)))
 go_wp2_with fail
 clear c0 c1 c2 c3 d0 d1 d2 d3 y0 y1 y2 y3
 generalize World.setCell (World.setCell (World.setCell (World.setCell _ _ _) _ _) _ _) _ _ = wz at *
 have t0 : wz.cell? ⟨w.heap.size + 1, 0, none⟩ = some (.int .i64 (a)) := HB.out.cell 0
 have t1 : wz.cell? ⟨w.heap.size + 1, 1, none⟩ = some (.int .i64 (b)) := HB.out.cell 1
 have t2 : wz.cell? ⟨w.heap.size + 1, 2, none⟩ = some (.int .i64 (0)) := HB.out.cell 2
 have t3 : wz.cell? ⟨w.heap.size + 1, 3, none⟩ = some (.int .i64 (0)) := HB.out.cell 3
 exact bodyPost_ret (v := .agg #[.int .i64 (a), .int .i64 b, .int .i64 (0), .int .i64 (0)]) (by simp [results, Tryz.results16, go_sem, t0, t1, t2, t3]) rfl HF.out
end
section
open Go.RowKit
def iL (w : World) (g : Nat) (gk : Nat) (iv : Value) (wr : World) : Prop := ∃ (i : Nat) (An : Option Addr) (cn : Nat) (ns : List Nd), iv = .int .i64 i ∧ i ≤ 6 ∧ gk = 6 - i ∧ Hid (yU w g An i cn ns none 0 0 [] wr) ∧ Hid (ns.length = i) ∧ Hid (t8 ns)
theorem yU.nb_rown {w0 W W' : World} {g : Nat} {An Ad : Option Addr} {nn cn nd cd : Nat} {ns : List Nd} {ds : List Dv} (h : yU w0 g An nn cn ns Ad nd cd ds W) (hg : W.grownBy W' (Value.slice An nn cn).ownBlock) : Blk W' (w0.heap.size + 1) 30 #[.slice An nn cn, .slice Ad nd cd] := h.nb.grown hg (fun e => by have := (h.rn.lt _ e.symm).1; omega)
theorem yU.nb_row {w0 W W' : World} {g : Nat} {An Ad : Option Addr} {nn cn nd cd : Nat} {ns : List Nd} {ds : List Dv} (h : yU w0 g An nn cn ns Ad nd cd ds W) (hg : W.grownBy W' (Value.slice Ad nd cd).ownBlock) : Blk W' (w0.heap.size + 1) 30 #[.slice An nn cn, .slice Ad nd cd] := h.nb.grown hg (fun e => by have := (h.rd.lt _ e.symm).1; omega)
def pq (H : Nat) (j : Nat) (_ : Unit) (v : Value) (w : World) : Prop := match j with
 | 4 => ∃ x, v = .slice (some ⟨x, 0, none⟩) 2 2 ∧ Blk w x 3 #[.int .i64 1, .int .i64 3] ∧ H ≤ x
 | 6 => ∃ r : Nat, v = .int .i64 r ∧ r < 2
 | 7 => ∃ x r : Nat, v = .pointer (some ⟨x, r, none⟩) ∧ Blk w x 3 #[.int .i64 1, .int .i64 3] ∧ H ≤ x ∧ r < 2
 | 8 => ∃ k : Int, v = .int .i64 k ∧ (k = 1 ∨ k = 3)
 | 10 => ∃ r : Int, v = .int .i64 r ∧ 0 ≤ r ∧ r < 2
 | 11 => ∃ c : Int, v = .int .i64 c ∧ (c = 1 ∨ c = 2)
 | 12 => ∃ k c : Int, v = .agg #[.string ⟨#[88, 50]⟩, .int .i64 k, .int .i64 2, .int .i64 3, .int .i64 c] ∧ (k = 1 ∨ k = 3) ∧ (c = 1 ∨ c = 2)
 | _ => True
theorem pq.later {H j : Nat} {u : Unit} {v : Value} {w w' : World} (h : pq H j u v w) (hb : Below w.heap.size w w') : pq H j u v w' := by
 unfold pq at h ⊢
 split at h
 ·obtain ⟨x, h1, h2, h3⟩ := h; exact ⟨x, h1, h2.below hb h2.lt, h3⟩
 ·exact h
 ·obtain ⟨x, r, h1, h2, h3⟩ := h; exact ⟨x, r, h1, h2.below hb h2.lt, h3⟩
 all_goals exact h
theorem pq.grown {g H j : Nat} {u : Unit} {v : Value} {w w' : World} (h : pq H j u v w) (hg : w.grownBy w' (some g)) (hl : g < H) : pq H j u v w' := by
 unfold pq at h ⊢
 split at h
 ·obtain ⟨x, h1, h2, h3⟩ := h; exact ⟨x, h1, h2.grown hg (fun e => by injection e; omega), h3⟩
 ·exact h
 ·obtain ⟨x, r, h1, h2, h3, h4⟩ := h; exact ⟨x, r, h1, h2.grown hg (fun e => by injection e; omega), h3, h4⟩
 all_goals exact h
theorem jG (g : Nat) (w : World) (hd : zU w g) : Calls Tryz.prog 10 #[.pointer (some ⟨g, 0, none⟩)] w (mu w g) := by
 have hlt := hd.lt
 have HD := iD hd; clear hd
 go_enter Tryz.func10, Tryz.ntmps10
 go_wp2_with fail
 have HS0 : Hid (yU w g none 0 0 [] none 0 0 [] ((w.alloc (.cells #[.slice none 0 0, .slice none 0 0] 30)).alloc (.cells #[.slice none 0 0, .slice none 0 0] 30))) := by
  refine ⟨hlt, (HD.out.alloc _).alloc _, ?_, (Blk.new w _ _).alloc _, ?_, World.ownsRow_nil _ _ _ _, World.ownsRow_nil _ _ _ _, .inl rfl⟩
  ·exact zN (((Below.refl _ _).alloc lR _).alloc (by simp) _) _
  ·have := Blk.new (w.alloc (.cells #[.slice none 0 0, .slice none 0 0] 30)) 30 #[.slice none 0 0, .slice none 0 0]
   rw [World.size_alloc] at this
   exact this
 generalize World.alloc (World.alloc _ _) _ = wa at *
 refine yO [(4, 0), (0, 2), (0, 1), (0, 0), (25, 1), (58, 0)] 5 (6) (iL w g) (by (try dsimp only [gt]); exact ⟨0, none, 0, [], rfl, Nat.zero_le _, rfl, HS0, rfl, fun i x h => by simp at h⟩) (by kernel_rfl) ?_
 intro u1 p5 gk wr a hrel ha J1 K1 hJ1 hK1
 dsimp only [zi, v1, Nat.reduceAdd] at ha
 subst ha
 clear HS0 wa
 obtain ⟨i, An, cn, ns, rfl, hi, rfl, HST, HLN, HTN⟩ := hrel
 have hsz := HST.out.size
 by_cases hlk : i < 6
 ·have e3 : (i : Int) / 3 = ((i / 3 : Nat) : Int) := by omega
  have hq3 : i / 3 < 2 := by omega
  have HQ : Hid (i / 3 = ns.length / 3) := by unfold Hid; rw [HLN.out]
  have HS : Hid ((⟨#[78]⟩ : ByteArray) ++ mkS [UInt8.ofNat (48 + i)] = nm1 i) := by
   unfold Hid
   apply td
   rw [na, nm1, tI, tI]
   rfl
  have HU : Hid ((48 : Int) + (i : Int) = ((UInt8.ofNat (48 + i)).toNat : Int)) := by unfold Hid; rw [UInt8.toNat_ofNat']; omega
  have hcv : (convert 78 9 (.slice (some ⟨wr.heap.size, 0, none⟩) 1 1)).run Tryz.prog (wr.alloc (.cells #[.int .u8 (48 + (i : Int))] 5)) = .ok (.string (mkS [UInt8.ofNat (48 + i)])) (wr.alloc (.cells #[.int .u8 (48 + (i : Int))] 5)) := by
   refine qJ (B := wr.heap.size + 1) Tryz.underlying78 Tryz.underlying5 Tryz.underlying9 ?_
   have := Sl.newest (w := wr) (cs := #[.int .u8 (48 + (i : Int))]) (T := 5) (fr := (0, 0)) (n := 1) (size := 1) rfl rfl (by decide)
   simp only [ks, List.flatMap_cons, List.flatMap_nil, List.append_nil, ← HU.out]
   exact this
  have hz : (mkS [UInt8.ofNat (48 + i)]).size = 1 := by rw [s7]; rfl
  generalize i / 3 = q3 at *
  generalize mkS [UInt8.ofNat (48 + i)] = S2 at *
  have hcat : ¬ (9223372036854775807 < (⟨#[78]⟩ : ByteArray).size + S2.size) := by rw [hz]; decide
  clear hz
  have HST0 := iD (HST.out.alloc (.cells #[.int .u8 (48 + (i : Int))] 5))
  go_upto_region 6 with (fail)
  obtain ⟨nm, hnm⟩ : ∃ nm, nm = (⟨#[78]⟩ : ByteArray) ++ S2 := ⟨_, rfl⟩
  rw [← hnm]
  have HNM : Hid (nm = nm1 ns.length) := by unfold Hid; rw [HLN.out, ← HS.out, hnm]
  have HB1 : Hid (Blk ((wr.alloc (.cells #[.int .u8 (48 + (i : Int))] 5)).alloc (.cells #[.string nm, .int .i64 0, .int .i64 (1 + (q3 : Int))] 74)) (wr.heap.size + 1) 74 #[.string nm, .int .i64 0, .int .i64 (1 + (q3 : Int))]) := by
   have := Blk.new (wr.alloc (.cells #[.int .u8 (48 + (i : Int))] 5)) 74 #[.string nm, .int .i64 0, .int .i64 (1 + (q3 : Int))]
   rw [World.size_alloc] at this
   exact this
  have HST1 := iD (HST0.out.alloc (.cells #[.string nm, .int .i64 0, .int .i64 (1 + (q3 : Int))] 74))
  have HN9 : Hid (∀ q, (Value.slice An i cn).ownBlock = some q → q ≠ wr.heap.size + 1) := fun q e => by have := (HST.out.rn.lt q e).2; omega
  have HD9 : Hid (∀ q, (Value.slice none 0 0).ownBlock = some q → q ≠ wr.heap.size + 1) := fun q e => by cases e
  have hb4 : w.heap.size + 2 ≤ wr.heap.size + 1 := by omega
  have hbg : g < wr.heap.size + 1 := by omega
  clear hcv hcat e3 HST0 HS HU hnm
  generalize World.alloc (World.alloc _ _) _ = w1 at *
  generalize wr.heap.size + 1 = b9 at *
  clear HST
  go_wp2_with fail
  refine (tu g 2 w1 HST1.out.deck (by decide)).mono ?_
  rintro e w2 ⟨r, rfl, hd1, hg1, hs1⟩
  have HST2 := iD (HST1.out.next hd1.out hg1.out)
  have HB2 := iD (HB1.out.grown hg1.out (fun e => by injection e with e; omega))
  clear hd1 hg1 hs1 HST1 HB1
  rcases r with _ | _
  ·skip
   have kd : w2.cell? ⟨w.heap.size + 1, 0, none⟩ = some (.slice An i cn) := HST2.out.nb.cell 0
   have e0 : w2.cell? ⟨b9, 0, none⟩ = some (.string nm) := HB2.out.cell 0
   have e1 : w2.cell? ⟨b9, 1, none⟩ = some (.int .i64 0) := HB2.out.cell 1
   have e2 : w2.cell? ⟨b9, 2, none⟩ = some (.int .i64 (1 + (q3 : Int))) := HB2.out.cell 2
   have hz4 := HST2.out.size
   go_wp2_with (at_builtin; go_must (refine zW rfl (.tmp 29) (.tmp 31) rfl mm (by rfl) (HST2.out.rn.alloc _) (by rfl) (Sl.newest (n := 1) (by rfl) (by rfl) (by decide)) (by simp [Value.oneCell']) (by omega) (by omega) (by simp; omega) ?_; intro A' cap' w8 hown8 hgr8 hat8; have hnb := (HST2.out.alloc _).nb_rown hgr8; have HN8 := iD ((HST2.out.alloc _).node (x := ⟨nm, 0, 1 + (q3 : Int)⟩) hown8 hgr8 hat8); have kn : w8.cell? ⟨w.heap.size + 1, 0, none⟩ = some (.slice An i cn) := hnb.cell 0; have fn := hnb.frozen 0; clear hown8 hgr8 hat8 hnb))
   refine Handed.intro (6 - (i + 1)) (by omega) (hJ1 _ _ _ (vL.back 5 ?_ (by kernel_rfl)))
   dsimp only [gt]
   exact ⟨i + 1, A', cap', _, by go_num, by omega, rfl, HN8, by unfold Hid; rw [List.length_append, HLN.out]; rfl, HTN.out.snoc ⟨HNM.out, by simp only; omega, by simp only; omega, by simp only; rw [HQ.out]⟩⟩
  ·go_wp2_with fail
   refine (zT g 30 w2 HST2.out.deck (by decide)).mono ?_
   rintro e w3 ⟨y, rfl, hy0, hy1, hy2, hd1, hg1, hs1⟩
   have hy3 : y < 30 := hy2.out (by decide)
   have HST3 := iD (HST2.out.next hd1.out hg1.out)
   have HB3 := iD (HB2.out.grown hg1.out (fun e => by injection e with e; omega))
   clear hy1 hy2 hd1 hg1 hs1
   have c4 : w3.cell? ⟨b9, 1, none⟩ = some (.int .i64 0) := HB3.out.cell 1
   have f4 := HB3.out.frozen 1
   have HST4 := iD (HST3.out.store (u := .int .i64 (1 + y)) (j := 1) hb4 HN9.out HD9.out)
   have HB4 := iD (HB3.out.set 1 (.int .i64 (1 + y)))
   go_upto_region 8 with (fail)
   clear c4 f4
   generalize World.setCell _ _ _ = w4 at *
   have kd : w4.cell? ⟨w.heap.size + 1, 0, none⟩ = some (.slice An i cn) := HST4.out.nb.cell 0
   have e0 : w4.cell? ⟨b9, 0, none⟩ = some (.string nm) := HB4.out.cell 0
   have e1 : w4.cell? ⟨b9, 1, none⟩ = some (.int .i64 (1 + y)) := HB4.out.cell 1
   have e2 : w4.cell? ⟨b9, 2, none⟩ = some (.int .i64 (1 + (q3 : Int))) := HB4.out.cell 2
   have hz4 := HST4.out.size
   go_wp2_with (at_builtin; go_must (refine zW rfl (.tmp 29) (.tmp 31) rfl mm (by rfl) (HST4.out.rn.alloc _) (by rfl) (Sl.newest (n := 1) (by rfl) (by rfl) (by decide)) (by simp [Value.oneCell']) (by omega) (by omega) (by simp; omega) ?_; intro A' cap' w8 hown8 hgr8 hat8; have hnb := (HST4.out.alloc _).nb_rown hgr8; have HN8 := iD ((HST4.out.alloc _).node (x := ⟨nm, (1 + y), 1 + (q3 : Int)⟩) hown8 hgr8 hat8); have kn : w8.cell? ⟨w.heap.size + 1, 0, none⟩ = some (.slice An i cn) := hnb.cell 0; have fn := hnb.frozen 0; clear hown8 hgr8 hat8 hnb))
   refine Handed.intro (6 - (i + 1)) (by omega) (hJ1 _ _ _ (vL.back 5 ?_ (by kernel_rfl)))
   dsimp only [gt]
   exact ⟨i + 1, A', cap', _, by go_num, by omega, rfl, HN8, by unfold Hid; rw [List.length_append, HLN.out]; rfl, HTN.out.snoc ⟨HNM.out, by simp only; omega, by simp only; omega, by simp only; rw [HQ.out]⟩⟩
 have h66 : i = 6 := by omega
 subst h66
 have hii : decide (((6 : Nat) : Int) < 6) = false := by decide
 go_upto_region 9 with (fail)
 clear hii hlk hi
 have hgH : g < w.heap.size + 2 := by omega
 refine wC (S := fun _ => True) (J := []) (n := _) ((0, true) :: (1, true) :: (2, true) :: (3, true) :: (5, true) :: (9, true) :: (13, true) :: (14, true) :: (15, true) :: (16, true) :: []) ((17, false) :: (18, true) :: (19, false) :: []) (lL [(4, []), (6, []), (7, [4, 6]), (8, [7]), (10, [6]), (11, [10]), (12, [8, 11])]) 7 #[true, true, true, true, false, true, false, false, false, true, false, false, false, true, true, true, true, false, false, false] #[true, true, true, true, true, true, true, true, true, true, true, true, true, true, true, true, true, false, false, false] (by as_aux_lemma => kernel_rfl) (by rfl) (zM (k := 0) (by go_simp; rfl) (zM (k := 4) (by go_simp; rfl) yH)) ?_ (fun _ _ _ _ _ h => h) (fun Q2 A hsz hbase hn2 AA => ?_)
 ·trivial
 try dsimp only at AA
 obtain ⟨b0, b4, -⟩ := hbase
 refine ⟨Phi A [(4, 38), (6, 40), (7, 41), (8, 42), (10, 44), (11, 45), (12, 46)] [(50, .agg #[.string ⟨#[83, 53]⟩, .int .i64 5, .int .i64 5, .int .i64 (-1), .int .i64 2]), (49, .agg #[.string ⟨#[88, 52]⟩, .int .i64 2, .int .i64 4, .int .i64 5, .int .i64 2]), (48, .agg #[.string ⟨#[88, 51]⟩, .int .i64 3, .int .i64 3, .int .i64 4, .int .i64 2]), (47, .agg #[.string ⟨#[69, 51]⟩, .int .i64 4, .int .i64 3, .int .i64 (-1), .int .i64 2]), (43, .pointer (some ⟨g, 0, none⟩)), (39, .pointer (some ⟨g, 0, none⟩)), (37, .agg #[.string ⟨#[69, 50]⟩, .int .i64 4, .int .i64 2, .int .i64 (-1), .int .i64 1]), (36, .agg #[.string ⟨#[88, 49]⟩, .int .i64 3, .int .i64 1, .int .i64 2, .int .i64 1]), (35, .agg #[.string ⟨#[88, 48]⟩, .int .i64 2, .int .i64 0, .int .i64 1, .int .i64 1]), (34, .agg #[.string ⟨#[83, 48]⟩, .int .i64 5, .int .i64 0, .int .i64 (-1), .int .i64 1])] 20 (yU w g An 6 cn ns none 0 0 []) (pq (w.heap.size + 2)), ?_, ?_, ?_⟩
 ·refine oT 0 34 ?_ rfl rfl (zB rfl) AA (fun ρ AB w hSw => ?_) ?_
  rotate_left
  ·(have hc := AB.const; clear AB; (try dsimp only at hSw); go_simp; try with_reducible rfl)
  refine oT 1 35 ?_ rfl rfl (zB rfl) AA (fun ρ AB w hSw => ?_) ?_
  rotate_left
  ·(have hc := AB.const; clear AB; (try dsimp only at hSw); go_simp; try with_reducible rfl)
  refine oT 2 36 ?_ rfl rfl (zB rfl) AA (fun ρ AB w hSw => ?_) ?_
  rotate_left
  ·(have hc := AB.const; clear AB; (try dsimp only at hSw); go_simp; try with_reducible rfl)
  refine oT 3 37 ?_ rfl rfl (zB rfl) AA (fun ρ AB w hSw => ?_) ?_
  rotate_left
  ·(have hc := AB.const; clear AB; (try dsimp only at hSw); go_simp; try with_reducible rfl)
  refine oM 5 39 ?_ rfl rfl rfl (zB rfl) AA (fun ρ AB => ?_) ?_
  rotate_left
  ·(have e0 := tm AB hsz 0 rfl (zD rfl rfl rfl rfl (zF b0)); exact e0)
  refine oM 9 43 ?_ rfl rfl rfl (zB rfl) AA (fun ρ AB => ?_) ?_
  rotate_left
  ·(have e0 := tm AB hsz 0 rfl (zD rfl rfl rfl rfl (zC rfl (zF b0))); exact e0)
  refine oT 13 47 ?_ rfl rfl (zB rfl) AA (fun ρ AB w hSw => ?_) ?_
  rotate_left
  ·(have hc := AB.const; clear AB; (try dsimp only at hSw); go_simp; try with_reducible rfl)
  refine oT 14 48 ?_ rfl rfl (zB rfl) AA (fun ρ AB w hSw => ?_) ?_
  rotate_left
  ·(have hc := AB.const; clear AB; (try dsimp only at hSw); go_simp; try with_reducible rfl)
  refine oT 15 49 ?_ rfl rfl (zB rfl) AA (fun ρ AB w hSw => ?_) ?_
  rotate_left
  ·(have hc := AB.const; clear AB; (try dsimp only at hSw); go_simp; try with_reducible rfl)
  refine oT 16 50 ?_ rfl rfl (zB rfl) AA (fun ρ AB w hSw => ?_) ?_
  rotate_left
  ·(have hc := AB.const; clear AB; (try dsimp only at hSw); go_simp; try with_reducible rfl)
  exact s9 (qb (l := #[true, true, true, true, false, true, false, false, false, true, false, false, false, true, true, true, true, false, false, false]) () (by decide) rfl HST.out.drew)
 ·intro l i a w0 hg h
  obtain ⟨vs, γ, hl, rfl, hB, hG⟩ := h
  obtain ⟨hf, ds, hm, hds⟩ := tp hg
  clear hg
  simp only [List.mem_cons, Prod.mk.injEq, List.not_mem_nil, or_false] at hm
  rcases hm with ⟨rfl, rfl⟩ | ⟨rfl, rfl⟩ | ⟨rfl, rfl⟩ | ⟨rfl, rfl⟩ | ⟨rfl, rfl⟩ | ⟨rfl, rfl⟩ | ⟨rfl, rfl⟩
  ·clear hds
   refine yc (d := 38) (v := ?_) (w' := ?_) rfl rfl rfl (fun ρ AB => ?_) ?_
   rotate_left 2
   ·(have hc := AB.const; clear AB; go_simp; first | with_reducible rfl | (constructor <;> with_reducible rfl))
   exact ⟨fun _ => trivial, xC (γ' := γ) (by decide) (by decide) hl (by decide) hf (hB.later ((Below.refl _ _).alloc lR _)) hG (fun j u _ _ h => h.later ((Below.refl _ _).alloc lR _)) (⟨w0.heap.size, rfl, Blk.new _ _ _, hB.size⟩)⟩
  ·clear hds
   refine vD (d := 40) (vs := #[.pointer (some ⟨g, 0, none⟩), .int .i64 2]) rfl rfl rfl rfl (fun ρ AB => ?_) ?_ ?_
   ·(have hc := AB.const; have e39 := tm AB hsz 39 rfl ((yS _ rfl (zC rfl (zC rfl (zC rfl (zC rfl (zC rfl zA))))))); simp only [List.map_toArray, List.map_cons, List.map_nil, e39, hc])
   ·(intro w; go_simp)
   refine (zT g 2 w0 hB.deck (by decide)).mono ?_
   rintro e w6 ⟨r, rfl, r0, r1, r2, hd6, hg6, hs6⟩
   have r3 : r < 2 := r2.out (by decide)
   obtain ⟨r, rfl⟩ := Int.eq_ofNat_of_zero_le r0
   refine ⟨_, rfl, fun _ => trivial, xC (γ' := γ) (by decide) (by decide) hl (by decide) hf (hB.next hd6.out hg6.out) hG (fun j u _ _ h => h.grown hg6.out hgH) (⟨r, rfl, by omega⟩)⟩
  ·have f4 : zj l 4 = true := hds 4 (by simp)
   have f6 : zj l 6 = true := hds 6 (by simp)
   have G4 := hG 4 f4 (by decide)
   have G6 := hG 6 f6 (by decide)
   clear hds
   obtain ⟨x, h4, hx, hxH⟩ := G4
   obtain ⟨r, h6, hr⟩ := G6
   have hri : (r : Int) < 2 := by omega
   refine yc (d := 41) (v := ?_) (w' := ?_) rfl rfl rfl (fun ρ AB => ?_) ?_
   rotate_left 2
   ·(have e38 := tm AB hsz 38 rfl ((zy (i := 4) f4 _ (by decide) (by decide)).trans h4); have e40 := tm AB hsz 40 rfl ((zy (i := 6) f6 _ (by decide) (by decide)).trans h6); clear AB; go_simp; first | with_reducible rfl | (constructor <;> with_reducible rfl))
   exact ⟨fun _ => trivial, xC (γ' := γ) (by decide) (by decide) hl (by decide) hf (hB) hG (fun j u _ _ h => h) (⟨x, r, rfl, hx, hxH, hr⟩)⟩
  ·have f7 : zj l 7 = true := hds 7 (by simp)
   have G7 := hG 7 f7 (by decide)
   clear hds
   obtain ⟨x, r, h7, hx, hxH, hr⟩ := G7
   obtain ⟨k, hk, hc⟩ : ∃ k : Int, (k = 1 ∨ k = 3) ∧ w0.cell? ⟨x, r, none⟩ = some (.int .i64 k) := by
    rcases (show r = 0 ∨ r = 1 by omega) with rfl | rfl
    ·exact ⟨1, .inl rfl, hx.cell 0⟩
    ·exact ⟨3, .inr rfl, hx.cell 1⟩
   refine yc (d := 42) (v := ?_) (w' := ?_) rfl rfl rfl (fun ρ AB => ?_) ?_
   rotate_left 2
   ·(have e41 := tm AB hsz 41 rfl ((zy (i := 7) f7 _ (by decide) (by decide)).trans h7); clear AB; go_simp; first | with_reducible rfl | (constructor <;> with_reducible rfl))
   exact ⟨fun _ => trivial, xC (γ' := γ) (by decide) (by decide) hl (by decide) hf (hB) hG (fun j u _ _ h => h) (⟨k, rfl, hk⟩)⟩
  ·have f6 : zj l 6 = true := hds 6 (by simp)
   have G6 := hG 6 f6 (by decide)
   clear hds
   refine vD (d := 44) (vs := #[.pointer (some ⟨g, 0, none⟩), .int .i64 2]) rfl rfl rfl rfl (fun ρ AB => ?_) ?_ ?_
   ·(have hc := AB.const; have e43 := tm AB hsz 43 rfl ((yS _ rfl (zC rfl (zC rfl (zC rfl (zC rfl zA)))))); simp only [List.map_toArray, List.map_cons, List.map_nil, e43, hc])
   ·(intro w; go_simp)
   refine (zT g 2 w0 hB.deck (by decide)).mono ?_
   rintro e w6 ⟨r, rfl, r0, r1, r2, hd6, hg6, hs6⟩
   have r3 : r < 2 := r2.out (by decide)
   refine ⟨_, rfl, fun _ => trivial, xC (γ' := γ) (by decide) (by decide) hl (by decide) hf (hB.next hd6.out hg6.out) hG (fun j u _ _ h => h.grown hg6.out hgH) (⟨r, rfl, r0, r3⟩)⟩
  ·have f10 : zj l 10 = true := hds 10 (by simp)
   have G10 := hG 10 f10 (by decide)
   clear hds
   obtain ⟨r, h10, r0, r1⟩ := G10
   have hwr : IntKind.i64.wrap (1 + r) = 1 + r := IntWalk.i64_in _ (by omega)
   refine yc (d := 45) (v := ?_) (w' := ?_) rfl rfl rfl (fun ρ AB => ?_) ?_
   rotate_left 2
   ·(have hc := AB.const; have e44 := tm AB hsz 44 rfl ((zy (i := 10) f10 _ (by decide) (by decide)).trans h10); clear AB; go_simp; first | with_reducible rfl | (constructor <;> with_reducible rfl))
   exact ⟨fun _ => trivial, xC (γ' := γ) (by decide) (by decide) hl (by decide) hf (hB) hG (fun j u _ _ h => h) (⟨1 + r, rfl, by omega⟩)⟩
  ·have f8 : zj l 8 = true := hds 8 (by simp)
   have f11 : zj l 11 = true := hds 11 (by simp)
   have G8 := hG 8 f8 (by decide)
   have G11 := hG 11 f11 (by decide)
   clear hds
   obtain ⟨k, h8, hk⟩ := G8
   obtain ⟨c, h11, hc'⟩ := G11
   refine yc (d := 46) (v := ?_) (w' := ?_) rfl rfl rfl (fun ρ AB => ?_) ?_
   rotate_left 2
   ·(have hc := AB.const; have e42 := tm AB hsz 42 rfl ((zy (i := 8) f8 _ (by decide) (by decide)).trans h8); have e45 := tm AB hsz 45 rfl ((zy (i := 11) f11 _ (by decide) (by decide)).trans h11); clear AB; go_simp; first | with_reducible rfl | (constructor <;> with_reducible rfl))
   exact ⟨fun _ => trivial, xC (γ' := γ) (by decide) (by decide) hl (by decide) hf (hB) hG (fun j u _ _ h => h) (⟨k, c, rfl, hk, hc'⟩)⟩
 intro a w0 h
 obtain ⟨vs, γ, -, rfl, hB, hG⟩ := h
 show wpOrd _ _ _ _ _ _ (ze A ((38, vs 4) :: (40, vs 6) :: (41, vs 7) :: (42, vs 8) :: (44, vs 10) :: (45, vs 11) :: (46, vs 12) :: [(50, .agg #[.string ⟨#[83, 53]⟩, .int .i64 5, .int .i64 5, .int .i64 (-1), .int .i64 2]), (49, .agg #[.string ⟨#[88, 52]⟩, .int .i64 2, .int .i64 4, .int .i64 5, .int .i64 2]), (48, .agg #[.string ⟨#[88, 51]⟩, .int .i64 3, .int .i64 3, .int .i64 4, .int .i64 2]), (47, .agg #[.string ⟨#[69, 51]⟩, .int .i64 4, .int .i64 3, .int .i64 (-1), .int .i64 2]), (43, .pointer (some ⟨g, 0, none⟩)), (39, .pointer (some ⟨g, 0, none⟩)), (37, .agg #[.string ⟨#[69, 50]⟩, .int .i64 4, .int .i64 2, .int .i64 (-1), .int .i64 1]), (36, .agg #[.string ⟨#[88, 49]⟩, .int .i64 3, .int .i64 1, .int .i64 2, .int .i64 1]), (35, .agg #[.string ⟨#[88, 48]⟩, .int .i64 2, .int .i64 0, .int .i64 1, .int .i64 1]), (34, .agg #[.string ⟨#[83, 48]⟩, .int .i64 5, .int .i64 0, .int .i64 (-1), .int .i64 1])])) _
 replace AA : (fun _ => True) w0 := trivial
 obtain ⟨k, c, h12, hk, hc⟩ := hG 12 rfl (by decide)
 obtain ⟨v4, hv4⟩ : ∃ v, v = vs 4 := ⟨_, rfl⟩
 obtain ⟨v6, hv6⟩ : ∃ v, v = vs 6 := ⟨_, rfl⟩
 obtain ⟨v7, hv7⟩ : ∃ v, v = vs 7 := ⟨_, rfl⟩
 obtain ⟨v8, hv8⟩ : ∃ v, v = vs 8 := ⟨_, rfl⟩
 obtain ⟨v10, hv10⟩ : ∃ v, v = vs 10 := ⟨_, rfl⟩
 obtain ⟨v11, hv11⟩ : ∃ v, v = vs 11 := ⟨_, rfl⟩
 rw [h12, ← hv4, ← hv6, ← hv7, ← hv8, ← hv10, ← hv11]
 clear h12 hG hv4 hv6 hv7 hv8 hv10 hv11 vs
 have HTL := iD (hB.lit (x := tB k c) (n := 9) rfl (by decide))
 have y1 := (hB.nb.alloc (.cells ((tB k c).flatMap Dv.cells).toArray 38)).frozen 1
 have y2 := (hB.nb.alloc (.cells ((tB k c).flatMap Dv.cells).toArray 38)).cell 1
 obtain ⟨w7, hw7⟩ : ∃ w7, w7 = w0.alloc (.cells ((tB k c).flatMap Dv.cells).toArray 38) := ⟨_, rfl⟩
 rw [← hw7] at HTL y1 y2
 refine mW (i := 17) (d := 51) (v := ?_) (w' := ?_) rfl rfl (zB rfl) (fun ρ AB => ?_) ?_ ?_
 rotate_left 2
 ·(have e34 := tm AB hsz 34 rfl (zD rfl rfl rfl rfl (zD rfl rfl rfl rfl (zD rfl rfl rfl rfl (zD rfl rfl rfl rfl zA)))); have e35 := tm AB hsz 35 rfl (zD rfl rfl rfl rfl (zD rfl rfl rfl rfl (zD rfl rfl rfl rfl (zC rfl (zC rfl (zC rfl zA)))))); have e36 := tm AB hsz 36 rfl (zD rfl rfl rfl rfl (zD rfl rfl rfl rfl (zD rfl rfl rfl rfl (zC rfl (zC rfl zA))))); have e37 := tm AB hsz 37 rfl (zD rfl rfl rfl rfl (zD rfl rfl rfl rfl (zD rfl rfl rfl rfl (zC rfl zA)))); have e46 := tm AB hsz 46 rfl (zD rfl rfl rfl rfl (zC rfl (zC rfl zA))); have e47 := tm AB hsz 47 rfl (zD rfl rfl rfl rfl (zD rfl rfl rfl rfl (zC rfl (zC rfl zA)))); have e48 := tm AB hsz 48 rfl (zD rfl rfl rfl rfl (zD rfl rfl rfl rfl (zC rfl zA))); have e49 := tm AB hsz 49 rfl (zD rfl rfl rfl rfl (zD rfl rfl rfl rfl zA)); have e50 := tm AB hsz 50 rfl (zD rfl rfl rfl rfl (zC rfl (zC rfl (zC rfl zA)))); clear AB; go_simp; first | with_reducible rfl | (constructor <;> with_reducible rfl))
 ·refine fun _ => ?_
  trivial
 intro AA'
 replace AA := AA' rfl
 clear AA'
 try dsimp only at AA
 show wpOrd _ _ _ _ _ _ _ (w0.alloc (.cells ((tB k c).flatMap Dv.cells).toArray 38))
 rw [← hw7]
 clear hw7 hB
 refine oT 18 52 ?_ rfl rfl (zB rfl) AA (fun ρ AB w hSw => ?_) ?_
 rotate_left
 ·(have e4 := tm AB hsz 4 rfl (zD rfl rfl rfl rfl (zD rfl rfl rfl rfl (zD rfl rfl rfl rfl (zD rfl rfl rfl rfl (zC rfl (zC rfl (zF b4))))))); clear AB; (try dsimp only at hSw); go_simp; try with_reducible rfl)
 refine qh (i := 19) (w' := ?_) rfl rfl (zB rfl) (fun ρ AB => ?_) (fun _ => ?_) ?_
 rotate_left
 ·(have e52 := tm AB hsz 52 rfl zA; have e51 := tm AB hsz 51 rfl (zC rfl zA); clear AB; go_simp; try with_reducible rfl)
 ·trivial
 refine yG hn2 ?_
 clear AA hn2 b0 b4 hsz A Q2
 simp only [yF, zu, yQ, xO, xP]
 clear y1 y2
 generalize World.setCell w7 _ _ = wt at *
 generalize (some (⟨w0.heap.size, 0, none⟩ : Addr)) = Ad at *
 go_upto_region 11 with (fail)
 have HX0 : Hid (wS w g An cn ns Ad 9 9 (tB k c) (some ⟨wt.heap.size, 0, none⟩) 9 9 tJ (wt.alloc (.cells #[.int .i64 2, .int .i64 2, .int .i64 2, .int .i64 1, .int .i64 2, .int .i64 1, .int .i64 2, .int .i64 2, .int .i64 2] 3))) := wS.lit HTL.out (by decide) rfl
 generalize (some (⟨wt.heap.size, 0, none⟩ : Addr)) = As at *
 generalize World.alloc wt _ = wu at *
 clear HTL
 go_wp2_with fail
 refine (zT g 4 wu HX0.out.t.deck (by decide)).mono ?_
 rintro e w1 ⟨r, rfl, r0, r1, r2, hd6, hg6, hs6⟩
 have r3 : r < 4 := r2.out (by decide)
 have HX1 := iD (HX0.out.next hd6.out hg6.out)
 clear hd6 hg6 hs6 r1 r2 HX0
 have HKC := iD (And.intro hk hc)
 clear hk hc
 rcases (show r = 0 ∨ r = 1 ∨ r = 2 ∨ r = 3 by omega) with rfl | rfl | rfl | rfl
 ·have hz1 := HX1.out.t.size
  have kd : w1.cell? ⟨w.heap.size + 1, 1, none⟩ = some (.slice Ad 9 9) := HX1.out.t.nb.cell 1
  go_wp2_with (at_builtin; go_must (refine zW rfl (.tmp 59) (.tmp 61) rfl kk (by rfl) (HX1.out.t.rd.alloc _) (by rfl) (Sl.newest (n := 1) (by rfl) (by rfl) (by decide)) (by simp [Value.oneCell']) (by omega) (by omega) (by simp; omega) ?_; intro A' cap' w8 hown8 hgr8 hat8; have hnb := (HX1.out.t.alloc _).nb_row hgr8; have HX8 := iD ((HX1.out.alloc _).dev (x := dvG) hown8 hgr8 hat8); have kn : w8.cell? ⟨w.heap.size + 1, 1, none⟩ = some (.slice Ad 9 9) := hnb.cell 1; have fn := hnb.frozen 1; clear hown8 hgr8 hat8 hnb))
  clear kd kn fn
  generalize World.setCell w8 _ _ = w2 at *
  clear HX1
  refine (zT g 2 w2 HX8.out.t.deck (by decide)).mono ?_
  rintro e w3 ⟨y, rfl, r0, r1, r2, hd6, hg6, hs6⟩
  have r3 : y < 2 := r2.out (by decide)
  have HX2 := iD (HX8.out.next hd6.out hg6.out)
  have hz2 := HX2.out.t.size
  clear hd6 hg6 hs6 r1 r2 HX8
  go_wp2_with (at_builtin; go_must (refine zW rfl (.tmp 64) (.tmp 68) rfl yX (by rfl) (World.ownsRow.alloc HX2.out.o _) (by rfl) (Sl.newest (n := 1) (by rfl) (by rfl) (by decide)) (by simp [Value.oneCell']) (by omega) (by omega) (by simp; omega) ?_; intro A2 cap2 w9 hown9 hgr9 hat9; have HX9 := iD ((HX2.out.alloc _).row (l := tJ ++ [1 + y]) (by unfold zQ; rw [zw]; exact hown9) hgr9 hat9); clear hown9 hgr9 hat9; have HTV : Hid (t7 (tB k c ++ [dvG]) (tJ ++ [1 + y])) := ⟨k, c, HKC.out.1, HKC.out.2, .inr (.inl ⟨rfl, by rcases (show y = 0 ∨ y = 1 by omega) with rfl | rfl <;> simp [tJ]⟩)⟩; have d0 := HX9.out.t.rb.cell 0; have d1 := HX9.out.t.rb.cell 1; have y0 := HX9.out.t.rb.frozen 0; have y1 := HX9.out.t.rb.frozen 1; have k0 := HX9.out.t.nb.cell 0; have k1 := HX9.out.t.nb.cell 1; have HB := iD ((HX9.out.t.rb.set 0 (.slice An 6 cn)).set 1 (.slice A' 10 cap')); have HF := iD (HX9.out.fin rfl HTN.out HLN.out HTV.out (.slice An 6 cn) (.slice A' 10 cap'))))
  clear d0 d1 y0 y1 k0 k1
  generalize World.setCell (World.setCell _ _ _) _ _ = wz at *
  have t0 : wz.cell? ⟨w.heap.size, 0, none⟩ = some (.slice An 6 cn) := HB.out.cell 0
  have t1 : wz.cell? ⟨w.heap.size, 1, none⟩ = some (.slice A' 10 cap') := HB.out.cell 1
  exact bodyPost_ret (v := .tuple #[.agg #[.slice An 6 cn, .slice A' 10 cap'], .slice A2 10 cap2]) (by simp [results, Tryz.results10, go_sem, t0, t1]) rfl HF.out
 ·have kd : w1.cell? ⟨w.heap.size + 1, 1, none⟩ = some (.slice Ad 9 9) := HX1.out.t.nb.cell 1
  have HD1 := iD (HX1.out.later (Below.refl _ _).drew)
  go_upto_region 16 with (fail)
  clear kd
  refine zJ (S := fun W' => W'.cell? ⟨w.heap.size + 1, 1, none⟩ = some (.slice Ad 9 9)) (J := [9]) (by kernel_rfl) ?_ (fun AA => ?_)
  ·exact HD1.out.t.nb.cell 1
  try dsimp only at AA
  refine tk 0 72 (mf 10 1) AA ?_
  refine tk 1 73 (mf 10 2) AA ?_
  refine tk 2 74 (mf 10 3) AA ?_
  refine zG (k := 3) (mf 10 4) (by kernel_rfl) (by kernel_rfl) rfl (fun K hK => ?_)
  (go_simp; refine (zT g 2 w1.drew HD1.out.t.deck (by decide)).mono ?_; rintro e w3 ⟨y, rfl, r0, r1, r2, hd6, hg6, hs6⟩; go_simp)
  refine hK.out _ _ (fun _ => ?_) (fun AA' => ?_)
  ·exact (HD1.out.next hd6.out hg6.out).t.nb.cell 1
  replace AA := AA' rfl
  clear AA' hK K
  try dsimp only at AA
  have r3 : y < 2 := r2.out (by decide)
  have HX2 := iD (HD1.out.next hd6.out hg6.out)
  have hz2 := HX2.out.t.size
  clear hd6 hg6 hs6 r1 r2
  have hwr : IntKind.i64.wrap (1 + y) = 1 + y := IntWalk.i64_in _ (by omega)
  refine tk 4 76 (mf 10 5) AA ?_
  refine tk 5 77 (mf 10 6) AA ?_
  refine zG (k := 6) (mf 10 7) (by kernel_rfl) (by kernel_rfl) rfl (fun K hK => ?_)
  go_simp
  refine hK.out _ _ (fun _ => ?_) (fun AA' => ?_)
  ·exact (HX2.out.alloc _).t.nb.cell 1
  replace AA := AA' rfl
  clear AA' hK K
  try dsimp only at AA
  refine zG (k := 7) (mf 10 8) (by kernel_rfl) (by kernel_rfl) rfl (fun K hK => ?_)
  (refine yZ (d := some 79) (by rfl) (by rfl) (.tmp 73) (.tmp 78) (by rfl) kk (by rfl) (HX2.out.t.rd.alloc _) (by rfl) (Sl.newest (n := 1) (by simp) (by rfl) (by decide)) (by simp [Value.oneCell']) (by omega) (by omega) (by simp; omega) ?_; intro A' cap' w8 hown8 hgr8 hat8)
  refine hK.out _ _ (fun _ => ?_) (fun AA' => ?_)
  ·exact ((HX2.out.t.alloc _).nb_row hgr8).cell 1
  replace AA := AA' rfl
  clear AA' hK K
  try dsimp only at AA
  have hnb := (HX2.out.t.alloc _).nb_row hgr8
  have HX8 := iD ((HX2.out.alloc _).dev (x := dvD (1 + y)) hown8 hgr8 hat8)
  have kn : w8.cell? ⟨w.heap.size + 1, 1, none⟩ = some (.slice Ad 9 9) := hnb.cell 1
  have fn := hnb.frozen 1
  clear hown8 hgr8 hat8 hnb
  refine tk 8 80 (mf 10 9) AA ?_
  refine zG (k := 9) (mf 10 10) (by kernel_rfl) (by kernel_rfl) rfl (fun K hK => ?_)
  go_simp
  refine hK.out _ _ (fun h => by cases h) (fun _ => ?_)
  try clear AA
  clear hK K
  refine zH (by kernel_rfl) ?_ _
  clear kn fn HX2 HD1 HX1
  generalize World.setCell w8 _ _ = w2 at *
  have hz3 := HX8.out.t.size
  go_wp2_with (at_builtin; go_must (refine zW rfl (.tmp 81) (.tmp 82) rfl yX (by rfl) (World.ownsRow.alloc HX8.out.o _) (by rfl) (Sl.newest (n := 1) (by rfl) (by rfl) (by decide)) (by simp [Value.oneCell']) (by omega) (by omega) (by simp; omega) ?_; intro A2 cap2 w9 hown9 hgr9 hat9; have HX9 := iD ((HX8.out.alloc _).row (l := tJ ++ [1]) (by unfold zQ; rw [zw]; exact hown9) hgr9 hat9); clear hown9 hgr9 hat9; have HTV : Hid (t7 (tB k c ++ [dvD (1 + y)]) (tJ ++ [1])) := ⟨k, c, HKC.out.1, HKC.out.2, .inr (.inr ⟨1 + y, by omega, rfl, rfl⟩)⟩; have d0 := HX9.out.t.rb.cell 0; have d1 := HX9.out.t.rb.cell 1; have y0 := HX9.out.t.rb.frozen 0; have y1 := HX9.out.t.rb.frozen 1; have k0 := HX9.out.t.nb.cell 0; have k1 := HX9.out.t.nb.cell 1; have HB := iD ((HX9.out.t.rb.set 0 (.slice An 6 cn)).set 1 (.slice A' 10 cap')); have HF := iD (HX9.out.fin rfl HTN.out HLN.out HTV.out (.slice An 6 cn) (.slice A' 10 cap'))))
  clear d0 d1 y0 y1 k0 k1
  generalize World.setCell (World.setCell _ _ _) _ _ = wz at *
  have t0 : wz.cell? ⟨w.heap.size, 0, none⟩ = some (.slice An 6 cn) := HB.out.cell 0
  have t1 : wz.cell? ⟨w.heap.size, 1, none⟩ = some (.slice A' 10 cap') := HB.out.cell 1
  exact bodyPost_ret (v := .tuple #[.agg #[.slice An 6 cn, .slice A' 10 cap'], .slice A2 10 cap2]) (by simp [results, Tryz.results10, go_sem, t0, t1]) rfl HF.out
 ·go_wp2_with fail
  refine (zT g 2 w1 HX1.out.t.deck (by decide)).mono ?_
  rintro e w3 ⟨y, rfl, r0, r1, r2, hd6, hg6, hs6⟩
  have r3 : y < 2 := r2.out (by decide)
  have HX2 := iD (HX1.out.next hd6.out hg6.out)
  clear hd6 hg6 hs6 r1 r2 HX1
  obtain ⟨i, rfl⟩ := Int.eq_ofNat_of_zero_le r0
  obtain ⟨q, x, rfl, c1, f1, hset⟩ := HX2.out.at (i := 1 + i) (by omega)
  have hei : (1 : Int) + (i : Int) = ((1 + i : Nat) : Int) := by omega
  have HX3 := iD (hset 1)
  have HTV : Hid (t7 (tB k c) (tJ.set (1 + i) 1)) := ⟨k, c, HKC.out.1, HKC.out.2, .inl ⟨rfl, by rcases (show i = 0 ∨ i = 1 by omega) with rfl | rfl <;> simp [tJ]⟩⟩
  clear hset
  have hi3 : 1 + i < 9 := by omega
  generalize 1 + i = j at *
  go_upto_region 20 with (fail)
  clear c1 f1 r0 r3 hei HX2
  generalize World.setCell w3 _ _ = w4 at *
  generalize (some (⟨q, 0, none⟩ : Addr)) = As at *
  have d0 := HX3.out.t.rb.cell 0
  have d1 := HX3.out.t.rb.cell 1
  have y0 := HX3.out.t.rb.frozen 0
  have y1 := HX3.out.t.rb.frozen 1
  have k0 := HX3.out.t.nb.cell 0
  have k1 := HX3.out.t.nb.cell 1
  have HB := iD ((HX3.out.t.rb.set 0 (.slice An 6 cn)).set 1 (.slice Ad 9 9))
  have HF := iD (HX3.out.fin rfl HTN.out HLN.out HTV.out (.slice An 6 cn) (.slice Ad 9 9))
  go_wp2_with fail
  clear d0 d1 y0 y1 k0 k1
  generalize World.setCell (World.setCell _ _ _) _ _ = wz at *
  have t0 : wz.cell? ⟨w.heap.size, 0, none⟩ = some (.slice An 6 cn) := HB.out.cell 0
  have t1 : wz.cell? ⟨w.heap.size, 1, none⟩ = some (.slice Ad 9 9) := HB.out.cell 1
  exact bodyPost_ret (v := .tuple #[.agg #[.slice An 6 cn, .slice Ad 9 9], .slice As 9 9]) (by simp [results, Tryz.results10, go_sem, t0, t1]) rfl HF.out
 ·have HTV : Hid (t7 (tB k c) tJ) := ⟨k, c, HKC.out.1, HKC.out.2, .inl ⟨rfl, .inl rfl⟩⟩
  go_upto_region 20 with (fail)
  have d0 := HX1.out.t.rb.cell 0
  have d1 := HX1.out.t.rb.cell 1
  have y0 := HX1.out.t.rb.frozen 0
  have y1 := HX1.out.t.rb.frozen 1
  have k0 := HX1.out.t.nb.cell 0
  have k1 := HX1.out.t.nb.cell 1
  have HB := iD ((HX1.out.t.rb.set 0 (.slice An 6 cn)).set 1 (.slice Ad 9 9))
  have HF := iD (HX1.out.fin rfl HTN.out HLN.out HTV.out (.slice An 6 cn) (.slice Ad 9 9))
  go_wp2_with fail
  clear d0 d1 y0 y1 k0 k1
  generalize World.setCell (World.setCell _ _ _) _ _ = wz at *
  have t0 : wz.cell? ⟨w.heap.size, 0, none⟩ = some (.slice An 6 cn) := HB.out.cell 0
  have t1 : wz.cell? ⟨w.heap.size, 1, none⟩ = some (.slice Ad 9 9) := HB.out.cell 1
  exact bodyPost_ret (v := .tuple #[.agg #[.slice An 6 cn, .slice Ad 9 9], .slice As 9 9]) (by simp [results, Tryz.results10, go_sem, t0, t1]) rfl HF.out
end
end Go.Proofs.YtepicjpdhpojnaaGreatDoor
