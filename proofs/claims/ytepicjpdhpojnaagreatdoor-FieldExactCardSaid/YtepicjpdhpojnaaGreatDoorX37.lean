import Derived.Test.YtepicjpdhpojnaaGreatDoorX36
set_option maxRecDepth 100000
set_option maxHeartbeats 16000000
namespace Go.Proofs.YtepicjpdhpojnaaGreatDoor
section
open Go.RowKit
def k9 {α : Type} (A : Act) (D : List (Nat × Nat)) (L0 : List (Nat × Value)) (N : Nat) (B : Array Bool → α → World → Prop) (G : Nat → α → Value → World → Prop) (l : Array Bool) (a : Act) (w : World) : Prop :=
 ∃ (vs : Nat → Value) (γ : α), l.size = N ∧ a = ze A (xS D l vs ++ L0) ∧ B l γ w ∧ ∀ j, zj l j = true → j ∈ D.map (·.1) → G j γ (vs j) w
section
variable {α : Type} {A : Act} {D : List (Nat × Nat)} {L0 : List (Nat × Value)} {N : Nat} {B : Array Bool → α → World → Prop} {G : Nat → α → Value → World → Prop} {l : Array Bool} {i d : Nat} {v : Value} {vs : Nat → Value} {γ γ' : α} {w w' : World}
theorem yt (hn : (D.map (·.1)).Nodup ∧ (D.map (·.2)).Nodup) (hm : (i, d) ∈ D) (hl : l.size = N) (hi : i < N) (hf : zj l i = false) (hB : B (l.setIfInBounds i true) γ' w')
 (ho : ∀ j, zj l j = true → j ∈ D.map (·.1) → G j γ (vs j) w) (hk : ∀ j u, zj l j = true → j ∈ D.map (·.1) → G j γ u w → G j γ' u w') (hv : G i γ' v w') : k9 A D L0 N B G (l.setIfInBounds i true) (ze A ((d, v) :: (xS D l vs ++ L0))) w' := by
 refine ⟨m5 vs i v, γ', by simpa using hl, sH A L0 (by omega) hf D hm hn.1 hn.2, hB, fun j hj hjm => ?_⟩
 by_cases hji : j = i
 ·subst hji
  rw [sF]
  exact hv
 ·rw [zh hji] at hj
  rw [sw hji]
  exact hk j _ hj hjm (ho j hj hjm)
theorem rT {i : Nat} {l : Array Bool} {vs : Nat → Value} : ∀ D : List (Nat × Nat), i ∉ D.map (·.1) → xS D (l.setIfInBounds i true) vs = xS D l vs
 | [], _ => rfl
 | (j, d) :: r, h => by
  have hj : j ≠ i := fun e => h (by simp [e])
  simp only [xS]
  rw [zh hj, rT r (fun h2 => h (by simp only [List.map_cons, List.mem_cons]; exact .inr h2))]
theorem rf (hm : i ∉ D.map (·.1)) (hl : l.size = N) (hB : B (l.setIfInBounds i true) γ' w')
 (ho : ∀ j, zj l j = true → j ∈ D.map (·.1) → G j γ (vs j) w) (hk : ∀ j, zj l j = true → j ∈ D.map (·.1) → G j γ (vs j) w → G j γ' (vs j) w') : k9 A D L0 N B G (l.setIfInBounds i true) (ze A (xS D l vs ++ L0)) w' := by
 refine ⟨vs, γ', by simpa using hl, by rw [rT D hm], hB, fun j hj hjm => ?_⟩
 have hji : j ≠ i := fun e => hm (e ▸ hjm)
 rw [zh hji] at hj
 exact hk j hj hjm (ho j hj hjm)
theorem rg (γ : α) (h0 : D.all (fun p => !zj l p.1) = true) (hl : l.size = N) (hB : B l γ w) : k9 A D L0 N B G l (ze A L0) w :=
 ⟨fun _ => undef, γ, hl, by rw [tN D h0]; rfl, hB, fun j hj hm => by
  obtain ⟨⟨j', d⟩, h1, rfl⟩ := List.mem_map.1 hm
  have := List.all_eq_true.1 h0 _ h1
  simp only [hj] at this
  cases this⟩
end
section
variable {P : Program} {ops : Array Oper} {Q : Exit → Act → World → Prop} {A : Act} {L : List (Nat × Value)} {w w' : World} {i : Nat} {oi : Oper} {R : Act → World → Prop}
theorem qs (hi : ops[i]? = some oi) (hd : oi.dst = none) (hg : oi.guard = none) (hv : ∀ ρ : Operand → Value, Rd A L ρ → (execOp ρ oi).run P w = .ok .skip w') (h : R (ze A L) w') : wpOp P ops Q i R (ze A L) w := by
 simp only [wpOp, hi, zB hg, if_true]
 refine .inl ?_
 rw [Oper.wp, hv _ rfl, Oper.upon_skip, hd]
 exact h
end
end
section
open Go.RowKit
def LsF (m : Nat) (F : Fd) : Prop := F.ls.length ≤ m ∧ ∀ x ∈ F.ls, x.key < 801
theorem LsF.le {m m' : Nat} {F : Fd} (h : LsF m F) (hm : m ≤ m') : LsF m' F := ⟨Nat.le_trans h.1 hm, h.2⟩
theorem kh {ds : List Dv} {F : Fd} {k d p q : Int} {m : Nat} (h : LsF m F) (hq : q < 801) : LsF (m + 1) (yu ds F k d p q) := by
 have h1 := h.le (Nat.le_succ m)
 unfold yu
 split
 ·split
  ·exact h1
  ·exact h1
 ·split
  ·exact h1
  ·split
   ·refine ⟨by have := h.1; simp only [xj]; omega, fun x hx => ?_⟩
    rcases (rC ..).1 hx with rfl | hx
    ·exact hq
    ·exact h.2 x hx
   ·split
    ·cases hi : xk d q F.ls with
     | none => exact h1
     | some i => exact ⟨by have := h.1; have := List.length_eraseIdx_le F.ls i; simp only; omega, fun x hx => h.2 x (List.mem_of_mem_eraseIdx hx)⟩
    ·exact h1
def vr (w : World) (g : Nat) (e : Ending) (w' : World) : Prop :=
 ∃ (An Ad As Al At : Option Addr) (cn nd cd n c nl cl nt ct : Nat) (ns : List Nd) (ds : List Dv) (F : Fd), e = .returned (.tuple #[.agg #[.slice An 6 cn, .slice Ad nd cd], .agg #[.slice As n c, .slice Al nl cl, .slice At nt ct]]) ∧ Hid (w.grownBy w' (some g)) ∧ Hid (FdX g An Ad As Al At 6 cn nd cd n c nl cl nt ct ns ds F w') ∧ Hid (zk ns ds F = 0) ∧ Hid (9 ≤ nd ∧ nd ≤ 10) ∧ Hid (LsF 20 F)
structure StM (w0 : World) (g b : Nat) (cn cf : Array Value) (w : World) : Prop where
 gr : w0.grownBy w (some g)
 r0 : Blk w w0.heap.size 30 #[.slice none 0 0, .slice none 0 0]
 r1 : Blk w (w0.heap.size + 1) 35 #[.slice none 0 0, .slice none 0 0, .slice none 0 0]
 b4 : Blk w b 30 cn
 b6 : Blk w (b + 1) 35 cf
 hb : w0.heap.size + 2 ≤ b
theorem StM.later {w0 w w' : World} {g b : Nat} {cn cf : Array Value} (h : StM w0 g b cn cf w) (hb : Below w.heap.size w w') : StM w0 g b cn cf w' := ⟨zO h.gr (zN hb _), h.r0.below hb h.r0.lt, h.r1.below hb h.r1.lt, h.b4.below hb h.b4.lt, h.b6.below hb h.b6.lt, h.hb⟩
theorem StM.next {w0 w w' : World} {g b : Nat} {cn cf : Array Value} (h : StM w0 g b cn cf w) (hl : g < w0.heap.size) (hg : w.grownBy w' (some g)) : StM w0 g b cn cf w' := by
 have := h.hb
 exact ⟨zO h.gr hg, h.r0.grown hg (by simp; omega), h.r1.grown hg (by simp; omega), h.b4.grown hg (by simp; omega), h.b6.grown hg (by simp; omega), h.hb⟩
def StR (w : World) (g b : Nat) (An Ad : Option Addr) (cn nd cd : Nat) (ns : List Nd) (ds : List Dv) (gk : Nat) (kv : Value) (wr : World) : Prop := ∃ (i n c nl cl nt ct : Nat) (As Al At : Option Addr) (F : Fd), kv = .int .i64 i ∧ gk = i ∧ i ≤ 20 ∧ Hid (LsF (20 - i) F) ∧ Hid (FdX g An Ad As Al At 6 cn nd cd n c nl cl nt ct ns ds F wr) ∧ Hid (StM w g b #[.slice An 6 cn, .slice Ad nd cd] #[.slice As n c, .slice Al nl cl, .slice At nt ct] wr) ∧ Hid (zk ns ds F = 0)
def xv (m g : Nat) (An Ad : Option Addr) (cn nd cd : Nat) (ns : List Nd) (ds : List Dv) (v : Value) (E : Int) (w : World) : Prop :=
 ∃ (As Al At : Option Addr) (n c nl cl nt ct : Nat), v = .agg #[.slice As n c, .slice Al nl cl, .slice At nt ct] ∧ (E = 0 → ∃ F : Fd, FdX g An Ad As Al At 6 cn nd cd n c nl cl nt ct ns ds F w ∧ zk ns ds F = 0 ∧ LsF m F)
theorem xv.later {m g : Nat} {An Ad : Option Addr} {cn nd cd : Nat} {ns : List Nd} {ds : List Dv} {v : Value} {E : Int} {w w' : World} (h : xv m g An Ad cn nd cd ns ds v E w) (hb : Below w.heap.size w w') : xv m g An Ad cn nd cd ns ds v E w' := by
 obtain ⟨As, Al, At, n, c, nl, cl, nt, ct, h1, h2⟩ := h
 exact ⟨As, Al, At, n, c, nl, cl, nt, ct, h1, fun e => by obtain ⟨F, h3, h4⟩ := h2 e; exact ⟨F, h3.later hb, h4⟩⟩
theorem xv.grown {m g : Nat} {An Ad : Option Addr} {cn nd cd : Nat} {ns : List Nd} {ds : List Dv} {v : Value} {E : Int} {w0 w w' : World} (h : xv m g An Ad cn nd cd ns ds v E w) (h0 : Laid w0) (hge : w0.heap.size ≤ g) (hd : zU w' g) (hg : w.grownBy w' (some g)) : xv m g An Ad cn nd cd ns ds v E w' := by
 obtain ⟨As, Al, At, n, c, nl, cl, nt, ct, h1, h2⟩ := h
 exact ⟨As, Al, At, n, c, nl, cl, nt, ct, h1, fun e => by obtain ⟨F, h3, h4⟩ := h2 e; exact ⟨F, h3.grown h0 hge hd hg, h4⟩⟩
theorem xv.of {m g : Nat} {An Ad As Al At : Option Addr} {cn nd cd n c nl cl nt ct : Nat} {ns : List Nd} {ds : List Dv} {F : Fd} {k d p q : Int} {e : Ending} {w w' : World} (h : FdX g An Ad As Al At 6 cn nd cd n c nl cl nt ct ns ds F w) (hg : g < w.heap.size) (hm : LsF m F) (hq : q < 801) (hr : sB w ns ds As Al At F k d p q e w') :
 Below w.heap.size w w' ∧ ∃ (v : Value) (E : Int), e = .returned (.tuple #[v, .int .i64 E]) ∧ xv (m + 1) g An Ad cn nd cd ns ds v E w' := by
 obtain ⟨h1 | ⟨h1, A1, A2, A3, n1, c1, n2, c2, n3, c3, h2, h3, h4⟩, hb⟩ := hr
 ·exact ⟨hb.out, _, _, h1.2, none, none, none, 0, 0, 0, 0, 0, 0, rfl, fun e => absurd e h1.1⟩
 ·exact ⟨hb.out, _, _, h2, A1, A2, A3, n1, c1, n2, c2, n3, c3, rfl, fun _ => ⟨_, h.new hb.out h3.out (h4.out g hg h.hs.2 h.hl.2 h.ht.2), pn h1, kh hm hq⟩⟩
abbrev ug := Value × Int × Array Value
def StG (H : Nat) (j : Nat) (γ : ug) (v : Value) (w : World) : Prop := match j with
 | 4 => ∃ k d p q : Int, v = .agg #[.int .i64 k, .int .i64 d, .int .i64 p, .int .i64 q] ∧ q < 801
 | 5 => v = .tuple #[γ.1, .int .i64 γ.2.1]
 | 6 => v = .tuple #[γ.1, .int .i64 γ.2.1]
 | 7 => v = γ.1
 | 8 => v = .int .i64 γ.2.1
 | 9 => ∃ x, v = .pointer (some ⟨x, 0, none⟩) ∧ Blk w x 35 γ.2.2 ∧ H ≤ x
 | _ => True
theorem StG.later {H j : Nat} {γ : ug} {v : Value} {w w' : World} (h : StG H j γ v w) (hb : Below w.heap.size w w') : StG H j γ v w' := by
 unfold StG at h ⊢
 split at h
 iterate 5 exact h
 ·obtain ⟨x, h1, h2, h3⟩ := h; exact ⟨x, h1, h2.below hb h2.lt, h3⟩
 ·exact h
theorem StG.grown {g H j : Nat} {γ : ug} {v : Value} {w w' : World} (h : StG H j γ v w) (hg : w.grownBy w' (some g)) (hl : g < H) : StG H j γ v w' := by
 unfold StG at h ⊢
 split at h
 iterate 5 exact h
 ·obtain ⟨x, h1, h2, h3⟩ := h; exact ⟨x, h1, h2.grown hg (fun e => by injection e; omega), h3⟩
 ·exact h
structure StB (w : World) (g b : Nat) (An Ad As Al At : Option Addr) (cn nd cd n c nl cl nt ct : Nat) (ns : List Nd) (ds : List Dv) (F : Fd) (l : Array Bool) (γ : ug) (W : World) : Prop where
 x : FdX g An Ad As Al At 6 cn nd cd n c nl cl nt ct ns ds F W
 m : StM w g b #[.slice An 6 cn, .slice Ad nd cd] #[.slice As n c, .slice Al nl cl, .slice At nt ct] W
 k : zj l 5 = true → xv (F.ls.length + 1) g An Ad cn nd cd ns ds γ.1 γ.2.1 W
 z : zj l 10 = false → γ.2.2 = #[.slice none 0 0, .slice none 0 0, .slice none 0 0]
 f : zj l 10 = true → γ.1 = .agg γ.2.2
 o : zj l 5 = false → zj l 6 = false ∧ zj l 7 = false ∧ zj l 8 = false ∧ zj l 10 = false
 o9 : zj l 9 = false → zj l 10 = false
theorem StB.keep {w W W' : World} {g b : Nat} {An Ad As Al At : Option Addr} {cn nd cd n c nl cl nt ct : Nat} {ns : List Nd} {ds : List Dv} {F : Fd} {l : Array Bool} {γ : ug} {i : Nat} (h : StB w g b An Ad As Al At cn nd cd n c nl cl nt ct ns ds F l γ W) (h9s : i < l.size) (h5 : i ≠ 5) (h10 : i ≠ 10) (ho : zj l 5 = true ∨ (i ≠ 6 ∧ i ≠ 7 ∧ i ≠ 8))
 (hx : FdX g An Ad As Al At 6 cn nd cd n c nl cl nt ct ns ds F W') (hm : StM w g b #[.slice An 6 cn, .slice Ad nd cd] #[.slice As n c, .slice Al nl cl, .slice At nt ct] W') (hn : ∀ v E, xv (F.ls.length + 1) g An Ad cn nd cd ns ds v E W → xv (F.ls.length + 1) g An Ad cn nd cd ns ds v E W') : StB w g b An Ad As Al At cn nd cd n c nl cl nt ct ns ds F (l.setIfInBounds i true) γ W' := by
 refine ⟨hx, hm, fun e => hn _ _ (h.k ?_), fun e => h.z ?_, fun e => h.f ?_, fun e => ?_, fun e => ?_⟩
 ·rwa [zh (Ne.symm h5)] at e
 ·rwa [zh (Ne.symm h10)] at e
 ·rwa [zh (Ne.symm h10)] at e
 ·rw [zh (Ne.symm h5)] at e
  rcases ho with ho | ⟨h6, h7, h8⟩
  ·rw [e] at ho; cases ho
  ·rw [zh (Ne.symm h6), zh (Ne.symm h7), zh (Ne.symm h8), zh (Ne.symm h10)]
   exact h.o e
 ·rw [zh (Ne.symm h10)]
  by_cases h9 : i = 9
  ·subst h9; rw [x6 h9s] at e; cases e
  ·rw [zh (Ne.symm h9)] at e; exact h.o9 e
theorem StB.five {w W W' : World} {g b : Nat} {An Ad As Al At : Option Addr} {cn nd cd n c nl cl nt ct : Nat} {ns : List Nd} {ds : List Dv} {F : Fd} {l : Array Bool} {γ : ug} {v : Value} {E : Int} (hB : StB w g b An Ad As Al At cn nd cd n c nl cl nt ct ns ds F l γ W) (hs : 5 < l.size) (hf : zj l 5 = false) (hb6 : Below W.heap.size W W') (hN : xv (F.ls.length + 1) g An Ad cn nd cd ns ds v E W') : StB w g b An Ad As Al At cn nd cd n c nl cl nt ct ns ds F (l.setIfInBounds 5 true) (v, E, γ.2.2) W' :=
 ⟨hB.x.later hb6, hB.m.later hb6, fun _ => hN, fun e => hB.z (by rwa [zh (by decide)] at e), fun e => absurd e (by rw [zh (by decide), (hB.o hf).2.2.2]; decide), fun e => absurd e (by rw [x6 hs]; decide), fun e => (zh (by decide)).trans (hB.o9 ((zh (by decide)).symm.trans e))⟩
theorem StB.ten {w W : World} {g b x : Nat} {An Ad As Al At : Option Addr} {cn nd cd n c nl cl nt ct : Nat} {ns : List Nd} {ds : List Dv} {F : Fd} {l : Array Bool} {γ : ug} {u0 u1 u2 : Value} (_hB : StB w g b An Ad As Al At cn nd cd n c nl cl nt ct ns ds F l γ W) (hs : 10 < l.size) (h5 : zj l 5 = true) (h9 : zj l 9 = true) (hv : γ.1 = .agg #[u0, u1, u2])
 (hx : FdX g An Ad As Al At 6 cn nd cd n c nl cl nt ct ns ds F (((W.setCell ⟨x, 0, none⟩ u0).setCell ⟨x, 1, none⟩ u1).setCell ⟨x, 2, none⟩ u2)) (hm : StM w g b #[.slice An 6 cn, .slice Ad nd cd] #[.slice As n c, .slice Al nl cl, .slice At nt ct] (((W.setCell ⟨x, 0, none⟩ u0).setCell ⟨x, 1, none⟩ u1).setCell ⟨x, 2, none⟩ u2))
 (hN : xv (F.ls.length + 1) g An Ad cn nd cd ns ds γ.1 γ.2.1 (((W.setCell ⟨x, 0, none⟩ u0).setCell ⟨x, 1, none⟩ u1).setCell ⟨x, 2, none⟩ u2)) : StB w g b An Ad As Al At cn nd cd n c nl cl nt ct ns ds F (l.setIfInBounds 10 true) (γ.1, γ.2.1, #[u0, u1, u2]) (((W.setCell ⟨x, 0, none⟩ u0).setCell ⟨x, 1, none⟩ u1).setCell ⟨x, 2, none⟩ u2) :=
 ⟨hx, hm, fun _ => hN, fun e => absurd e (by rw [x6 hs]; decide), fun _ => hv, fun e => absurd e (by rw [zh (by decide), h5]; decide), fun e => absurd e (by rw [zh (by decide), h9]; decide)⟩
theorem StG.step5 {H j : Nat} {γ : ug} {l : Array Bool} {u v : Value} {E : Int} {w : World} (hf : zj l 5 = false) (ho : zj l 6 = false ∧ zj l 7 = false ∧ zj l 8 = false ∧ zj l 10 = false) (hj : zj l j = true) (h : StG H j γ u w) : StG H j (v, E, γ.2.2) u w := by
 unfold StG at h ⊢
 split at h
 ·exact h
 ·rw [hf] at hj; cases hj
 ·rw [ho.1] at hj; cases hj
 ·rw [ho.2.1] at hj; cases hj
 ·rw [ho.2.2.1] at hj; cases hj
 ·exact h
 ·exact h
def pL (cs : Array Value) : Prop := ∀ (i : Nat) (u : Value), cs[i]? = some u → ∃ A n c, u = .slice A n c
def qO (xs : List Value) : Prop := ∀ u ∈ xs, ∀ A n c, u ≠ .slice A n c
theorem uu {α : Type} {f : α → List Value} (h : ∀ x, qO (f x)) (l : List α) : qO (l.flatMap f) := fun u hu => by
 obtain ⟨x, -, hx⟩ := List.mem_flatMap.1 hu
 exact h x u hx
theorem pd (l : List Nd) : qO (l.flatMap Nd.cells) := uu (fun x u hu => by simp only [Nd.cells, List.mem_cons, List.not_mem_nil, or_false] at hu; rcases hu with rfl | rfl | rfl <;> (intro A n c e; cases e)) l
theorem pe (l : List Dv) : qO (l.flatMap Dv.cells) := uu (fun x u hu => by simp only [Dv.cells, List.mem_cons, List.not_mem_nil, or_false] at hu; rcases hu with rfl | rfl | rfl | rfl | rfl <;> (intro A n c e; cases e)) l
theorem uB (l : List Lk) : qO (l.flatMap Lk.cells) := uu (fun x u hu => by simp only [Lk.cells, List.mem_cons, List.not_mem_nil, or_false] at hu; rcases hu with rfl | rfl | rfl <;> (intro A n c e; cases e)) l
theorem yk (l : List Int) : qO (zK l) := uu (fun x u hu => by simp only [List.mem_cons, List.not_mem_nil, or_false] at hu; subst hu; intro A n c e; cases e) l
theorem sf (A1 A2 A3 : Option Addr) (n1 c1 n2 c2 n3 c3 : Nat) : pL #[.slice A1 n1 c1, .slice A2 n2 c2, .slice A3 n3 c3] := fun i u h => by
 match i, h with
 | 0, h => exact ⟨_, _, _, (Option.some.inj h).symm⟩
 | 1, h => exact ⟨_, _, _, (Option.some.inj h).symm⟩
 | 2, h => exact ⟨_, _, _, (Option.some.inj h).symm⟩
 | i + 3, h => cases h
theorem Sl.apart {w : World} {B size n c x i : Nat} {A : Option Addr} {xs : List Value} {t : TypeId} {cs : Array Value} (h : Sl w B size A n c xs) (hx : Blk w x t cs) (hs : pL cs) (hn : qO xs) (u : Value) : Sl (w.setCell ⟨x, i, none⟩ u) B size A n c xs := by
 obtain ⟨g1, g2, g3, g4, g5⟩ := h
 refine ⟨g1, g2, g3, g4, fun h => ?_⟩
 obtain ⟨b, off, e, hb, hc⟩ := g5 h
 refine ⟨b, off, e, hb, fun j v hv => ?_⟩
 rw [World.cell?_setCell_other w _ _ u (fun e2 => ?_)]
 ·exact hc j v hv
 ·have h1 := hc j v hv
  rw [← e2, hx.cell i] at h1
  obtain ⟨A', n', c', rfl⟩ := hs i v h1
  exact hn _ (List.mem_of_getElem? hv) _ _ _ rfl
theorem SlX.apart {w : World} {g x i size n c : Nat} {A : Option Addr} {xs : List Value} {t : TypeId} {cs : Array Value} (h : SlX w g size A n c xs) (hx : Blk w x t cs) (hs : pL cs) (hn : qO xs) (u : Value) : SlX (w.setCell ⟨x, i, none⟩ u) g size A n c xs :=
 ⟨(h.1.apart hx hs hn u).more (by simp), h.2⟩
theorem kw (A1 A2 : Option Addr) (n1 c1 n2 c2 : Nat) : pL #[.slice A1 n1 c1, .slice A2 n2 c2] := fun i u h => by
 match i, h with
 | 0, h => exact ⟨_, _, _, (Option.some.inj h).symm⟩
 | 1, h => exact ⟨_, _, _, (Option.some.inj h).symm⟩
 | i + 2, h => cases h
theorem FdX.put {w w0 : World} {g x i nn cn nd cd n c nl cl nt ct : Nat} {An Ad As Al At : Option Addr} {ns : List Nd} {ds : List Dv} {F : Fd} {t : TypeId} {cs : Array Value} (h : FdX g An Ad As Al At nn cn nd cd n c nl cl nt ct ns ds F w) (hx : Blk w x t cs) (hs : pL cs) (hg : g < x) (h0 : Laid w0) (hl : w0.heap.size ≤ x) (u : Value) : FdX g An Ad As Al At nn cn nd cd n c nl cl nt ct ns ds F (w.setCell ⟨x, i, none⟩ u) :=
 ⟨h.dk.setCell (p := ⟨x, i, none⟩) hg _, h.hn.apart hx hs (pd _) u, h.hd.apart hx hs (pe _) u, h.hs.apart hx hs (yk _) u, h.hl.apart hx hs (uB _) u, h.ht.apart hx hs (yk _) u, h.la.grown h0 (zY _ ⟨x, i, none⟩ _) hl, h.sn, h.sd⟩
section
variable {w w0 w1 : World} {g b x : Nat} {An Ad As Al At A1 A2 A3 B1 B2 B3 : Option Addr} {nn cn nd cd n c nl cl nt ct n1 c1 n2 c2 n3 c3 m1 d1 m2 d2 m3 d3 : Nat} {ns : List Nd} {ds : List Dv} {F : Fd} {t : TypeId}
theorem Sl.apart3 {B size : Nat} {A : Option Addr} {xs : List Value} (h : Sl w B size A n c xs) (hx : Blk w x t #[.slice B1 m1 d1, .slice B2 m2 d2, .slice B3 m3 d3]) (hn : qO xs) : Sl (((w.setCell ⟨x, 0, none⟩ (.slice A1 n1 c1)).setCell ⟨x, 1, none⟩ (.slice A2 n2 c2)).setCell ⟨x, 2, none⟩ (.slice A3 n3 c3)) B size A n c xs :=
 ((h.apart hx (sf _ _ _ _ _ _ _ _ _) hn _).apart (hx.set 0 _) (sf _ _ _ _ _ _ _ _ _) hn _).apart ((hx.set 0 _).set 1 _) (sf _ _ _ _ _ _ _ _ _) hn _
theorem SlX.apart3 {size : Nat} {A : Option Addr} {xs : List Value} (h : SlX w g size A n c xs) (hx : Blk w x t #[.slice B1 m1 d1, .slice B2 m2 d2, .slice B3 m3 d3]) (hn : qO xs) : SlX (((w.setCell ⟨x, 0, none⟩ (.slice A1 n1 c1)).setCell ⟨x, 1, none⟩ (.slice A2 n2 c2)).setCell ⟨x, 2, none⟩ (.slice A3 n3 c3)) g size A n c xs :=
 ⟨(h.1.apart3 hx hn).more (by simp), h.2⟩
theorem FdX.out3 (h : FdX g An Ad As Al At nn cn nd cd n c nl cl nt ct ns ds F w) (hx : Blk w x t #[.slice B1 m1 d1, .slice B2 m2 d2, .slice B3 m3 d3]) (hg : g < x) (h0 : Laid w0) (hl : w0.heap.size ≤ x) : FdX g An Ad As Al At nn cn nd cd n c nl cl nt ct ns ds F (((w.setCell ⟨x, 0, none⟩ (.slice A1 n1 c1)).setCell ⟨x, 1, none⟩ (.slice A2 n2 c2)).setCell ⟨x, 2, none⟩ (.slice A3 n3 c3)) :=
 ⟨((h.dk.setCell (p := ⟨x, 0, none⟩) hg _).setCell (p := ⟨x, 1, none⟩) hg _).setCell (p := ⟨x, 2, none⟩) hg _, h.hn.apart3 hx (pd _), h.hd.apart3 hx (pe _), h.hs.apart3 hx (yk _), h.hl.apart3 hx (uB _), h.ht.apart3 hx (yk _), ((h.la.grown h0 (zY _ ⟨x, 0, none⟩ _) hl).grown h0 (zY _ ⟨x, 1, none⟩ _) hl).grown h0 (zY _ ⟨x, 2, none⟩ _) hl, h.sn, h.sd⟩
theorem StM.out3 {w1 : World} {cn' cf : Array Value} (h : StM w1 g b cn' cf w) (hx : b + 2 ≤ x) (u v z : Value) : StM w1 g b cn' cf (((w.setCell ⟨x, 0, none⟩ u).setCell ⟨x, 1, none⟩ v).setCell ⟨x, 2, none⟩ z) := by
 have hb := h.hb
 have f : ∀ {q : Nat} {T : TypeId} {cs : Array Value}, q < x → Blk w q T cs → Blk (((w.setCell ⟨x, 0, none⟩ u).setCell ⟨x, 1, none⟩ v).setCell ⟨x, 2, none⟩ z) q T cs := fun hq hk => ((hk.far (p := ⟨x, 0, none⟩) (by simp; omega) _).far (p := ⟨x, 1, none⟩) (by simp; omega) _).far (p := ⟨x, 2, none⟩) (by simp; omega) _
 exact ⟨zg (zg (zg h.gr (p := ⟨x, 0, none⟩) (by simp; omega) _) (p := ⟨x, 1, none⟩) (by simp; omega) _) (p := ⟨x, 2, none⟩) (by simp; omega) _, f (by omega) h.r0, f (by omega) h.r1, f (by omega) h.b4, f (by omega) h.b6, h.hb⟩
theorem xv.out3 {m : Nat} {v : Value} {E : Int} (h : xv m g An Ad cn nd cd ns ds v E w) (hx : Blk w x t #[.slice B1 m1 d1, .slice B2 m2 d2, .slice B3 m3 d3]) (hg : g < x) (h0 : Laid w0) (hl : w0.heap.size ≤ x) : xv m g An Ad cn nd cd ns ds v E (((w.setCell ⟨x, 0, none⟩ (.slice A1 n1 c1)).setCell ⟨x, 1, none⟩ (.slice A2 n2 c2)).setCell ⟨x, 2, none⟩ (.slice A3 n3 c3)) := by
 obtain ⟨As, Al, At, n, c, nl, cl, nt, ct, h1, h2⟩ := h
 exact ⟨As, Al, At, n, c, nl, cl, nt, ct, h1, fun e => by obtain ⟨F, h3, h4⟩ := h2 e; exact ⟨F, h3.out3 hx hg h0 hl, h4⟩⟩
theorem StG.ten {H j : Nat} {γ : ug} {vs : Nat → Value} {u v z : Value} {cs : Array Value} (h9 : vs 9 = .pointer (some ⟨x, 0, none⟩)) (hb : Blk w x 35 #[.slice B1 m1 d1, .slice B2 m2 d2, .slice B3 m3 d3]) (hx : H ≤ x) (hc : cs = #[u, v, z]) (h : StG H j γ (vs j) w) : StG H j (γ.1, γ.2.1, cs) (vs j) (((w.setCell ⟨x, 0, none⟩ u).setCell ⟨x, 1, none⟩ v).setCell ⟨x, 2, none⟩ z) := by
 subst hc
 unfold StG at h ⊢
 split at h
 iterate 5 exact h
 ·exact ⟨x, h9, ((hb.set 0 u).set 1 v).set 2 z, hx⟩
 ·exact h
theorem StM.fld {cn' cf : Array Value} {u v z a b' c' : Value} (h : StM w0 g b cn' #[a, b', c'] w) (hf : cf = #[u, v, z]) : StM w0 g b cn' cf (((w.setCell ⟨b + 1, 0, none⟩ u).setCell ⟨b + 1, 1, none⟩ v).setCell ⟨b + 1, 2, none⟩ z) := by
 subst hf
 have hb := h.hb
 have f : ∀ {q : Nat} {T : TypeId} {cs : Array Value}, q ≠ b + 1 → Blk w q T cs → Blk (((w.setCell ⟨b + 1, 0, none⟩ u).setCell ⟨b + 1, 1, none⟩ v).setCell ⟨b + 1, 2, none⟩ z) q T cs := fun hq hk => ((hk.far (p := ⟨b + 1, 0, none⟩) hq _).far (p := ⟨b + 1, 1, none⟩) hq _).far (p := ⟨b + 1, 2, none⟩) hq _
 exact ⟨zg (zg (zg h.gr (p := ⟨b + 1, 0, none⟩) (by simp; omega) _) (p := ⟨b + 1, 1, none⟩) (by simp; omega) _) (p := ⟨b + 1, 2, none⟩) (by simp; omega) _, f (by omega) h.r0, f (by omega) h.r1, f (by omega) h.b4, ((h.b6.set 0 u).set 1 v).set 2 z, h.hb⟩
theorem StM.fin {F : Fd} (h : StM w0 g b #[.slice An 6 cn, .slice Ad nd cd] #[.slice As n c, .slice Al nl cl, .slice At nt ct] w) (hX : FdX g An Ad As Al At 6 cn nd cd n c nl cl nt ct ns ds F w) (hl : g < w0.heap.size) (hlw : Laid w1) (hge : w1.heap.size ≤ g) (hF : zk ns ds F = 0) (hn : 9 ≤ nd ∧ nd ≤ 10) (hL : LsF 20 F) :
 vr w0 g (.returned (.tuple #[.agg #[.slice An 6 cn, .slice Ad nd cd], .agg #[.slice As n c, .slice Al nl cl, .slice At nt ct]])) (((((w.setCell ⟨w0.heap.size, 0, none⟩ (.slice An 6 cn)).setCell ⟨w0.heap.size, 1, none⟩ (.slice Ad nd cd)).setCell ⟨w0.heap.size + 1, 0, none⟩ (.slice As n c)).setCell ⟨w0.heap.size + 1, 1, none⟩ (.slice Al nl cl)).setCell ⟨w0.heap.size + 1, 2, none⟩ (.slice At nt ct)) := by
 have e1 := ((h.r1.far (p := ⟨w0.heap.size, 0, none⟩) (by simp) (.slice An 6 cn)).far (p := ⟨w0.heap.size, 1, none⟩) (by simp) (.slice Ad nd cd))
 have x1 := hX.put (i := 0) h.r0 (kw _ _ _ _ _ _) hl hlw (by omega) (.slice An 6 cn)
 have x2 := x1.put (i := 1) (h.r0.set 0 (.slice An 6 cn)) (kw _ _ _ _ _ _) hl hlw (by omega) (.slice Ad nd cd)
 refine ⟨An, Ad, As, Al, At, cn, nd, cd, n, c, nl, cl, nt, ct, ns, ds, F, rfl, ?_, x2.out3 e1 (by omega) hlw (by omega), hF, hn, hL⟩
 exact zg (zg (zg (zg (zg h.gr (p := ⟨w0.heap.size, 0, none⟩) (by simp) _) (p := ⟨w0.heap.size, 1, none⟩) (by simp) _) (p := ⟨w0.heap.size + 1, 0, none⟩) (by simp) _) (p := ⟨w0.heap.size + 1, 1, none⟩) (by simp) _) (p := ⟨w0.heap.size + 1, 2, none⟩) (by simp) _
theorem StM.res (h : StM w0 g b #[.slice An 6 cn, .slice Ad nd cd] #[.slice As n c, .slice Al nl cl, .slice At nt ct] w) :
 Blk (((((w.setCell ⟨w0.heap.size, 0, none⟩ (.slice An 6 cn)).setCell ⟨w0.heap.size, 1, none⟩ (.slice Ad nd cd)).setCell ⟨w0.heap.size + 1, 0, none⟩ (.slice As n c)).setCell ⟨w0.heap.size + 1, 1, none⟩ (.slice Al nl cl)).setCell ⟨w0.heap.size + 1, 2, none⟩ (.slice At nt ct)) w0.heap.size 30 #[.slice An 6 cn, .slice Ad nd cd] ∧
 Blk (((((w.setCell ⟨w0.heap.size, 0, none⟩ (.slice An 6 cn)).setCell ⟨w0.heap.size, 1, none⟩ (.slice Ad nd cd)).setCell ⟨w0.heap.size + 1, 0, none⟩ (.slice As n c)).setCell ⟨w0.heap.size + 1, 1, none⟩ (.slice Al nl cl)).setCell ⟨w0.heap.size + 1, 2, none⟩ (.slice At nt ct)) (w0.heap.size + 1) 35 #[.slice As n c, .slice Al nl cl, .slice At nt ct] :=
 ⟨((((h.r0.set 0 (.slice An 6 cn)).set 1 (.slice Ad nd cd)).far (p := ⟨w0.heap.size + 1, 0, none⟩) (by simp) _).far (p := ⟨w0.heap.size + 1, 1, none⟩) (by simp) _).far (p := ⟨w0.heap.size + 1, 2, none⟩) (by simp) _, ((((h.r1.far (p := ⟨w0.heap.size, 0, none⟩) (by simp) _).far (p := ⟨w0.heap.size, 1, none⟩) (by simp) _).set 0 (.slice As n c)).set 1 (.slice Al nl cl)).set 2 (.slice At nt ct)⟩
theorem vr.drew {e : Ending} {w' : World} (h : vr w g e w') : vr w g e w'.drew := by
 obtain ⟨An, Ad, As, Al, At, cn, nd, cd, n, c, nl, cl, nt, ct, ns, ds, F, h1, h2, h3, h4⟩ := h
 exact ⟨An, Ad, As, Al, At, cn, nd, cd, n, c, nl, cl, nt, ct, ns, ds, F, h1, tX h2.out, h3.out.later (Below.refl _ _).drew, h4⟩
end
end
section
open Go.RowKit
theorem lE (g : Nat) (w w0 : World) (hd : zU w g) (hla : Laid w) (h0 : Laid w0) (hge : w0.heap.size ≤ g) : Calls Tryz.prog 18 #[.pointer (some ⟨g, 0, none⟩)] w (vr w g) := by
 have hgl := hd.lt
 have HD := iD hd; have HLA := iD hla; have HL0 := iD h0
 clear hd hla h0
 go_enter Tryz.func18, Tryz.ntmps18
 go_wp2_with fail
 have HB0 : Hid (vv w #[.slice none 0 0, .slice none 0 0] #[.slice none 0 0, .slice none 0 0, .slice none 0 0] ((w.alloc (.cells #[.slice none 0 0, .slice none 0 0] 30)).alloc (.cells #[.slice none 0 0, .slice none 0 0, .slice none 0 0] 35))) := vv.new _ _ _
 have HD0 : Hid (zU ((w.alloc (.cells #[.slice none 0 0, .slice none 0 0] 30)).alloc (.cells #[.slice none 0 0, .slice none 0 0, .slice none 0 0] 35)) g) := (HD.out.alloc _).alloc _
 generalize World.alloc (World.alloc _ _) _ = wa at *
 have hza := HB0.out.b1.lt
 refine (jG g wa HD0.out).mono ?_
 rintro e w1 ⟨An, cn, ns, Ad, nd, cd, ds, As, cs, ss, rfl, hd1, hg1, hrn, hrd, hrs, htv⟩
 have HLA1 : Hid (Laid w1) := (HLA.out.below HB0.out.bl lR).grown HL0.out hg1.out hge
 have HFX := iD (FdX.tie (w := wa) (by omega) HLA1.out hd1.out hrn.out hrd.out hrs.out htv.out.1 htv.out.2.2)
 have HF0 := iD (lA htv.out.1 htv.out.2.1 htv.out.2.2)
 have HND := iD htv.out.2.2.pos
 have HM1 : Hid (StM w g w1.heap.size #[.slice An 6 cn, .slice Ad nd cd] #[.slice As nd cs, .slice none 0 0, .slice none 0 0] ((w1.alloc (.cells #[.slice An 6 cn, .slice Ad nd cd] 30)).alloc (.cells #[.slice As nd cs, .slice none 0 0, .slice none 0 0] 35))) := by
  have h1 := vv.new w1 #[.slice An 6 cn, .slice Ad nd cd] #[.slice As nd cs, .slice none 0 0, .slice none 0 0]
  have hz1 := hg1.out.size
  exact ⟨zO (zO (zN HB0.out.bl _) hg1.out) (zN h1.bl _), (HB0.out.b0.grown hg1.out (by simp; omega)).below h1.bl (HB0.out.b0.grown hg1.out (by simp; omega)).lt, (HB0.out.b1.grown hg1.out (by simp; omega)).below h1.bl (HB0.out.b1.grown hg1.out (by simp; omega)).lt, h1.b0, h1.b1, by omega⟩
 have HFX1 := iD ((HFX.out.alloc (.cells #[.slice An 6 cn, .slice Ad nd cd] 30)).alloc (.cells #[.slice As nd cs, .slice none 0 0, .slice none 0 0] 35))
 clear hd1 hg1 hrn hrd hrs htv HLA1 HFX
 go_upto_region 3 with (fail)
 clear HB0 HD0 hza HD HLA
 generalize World.alloc (World.alloc _ _) _ = w2 at *
 generalize w1.heap.size = b at *
 go_wp2_with fail
 refine (zT g 20 w2 HFX1.out.dk (by decide)).mono ?_
 rintro e w3 ⟨k, rfl, r0, r1, r2, hd6, hg6, hs6⟩
 have r3 : k < 20 := r2.out (by decide)
 have HM3 := iD (HM1.out.next hgl hg6.out)
 have HFX3 := iD (HFX1.out.grown HL0.out hge hd6.out hg6.out)
 clear hd6 hg6 hs6 r1 r2 HM1 HFX1
 obtain ⟨k, rfl⟩ := Int.eq_ofNat_of_zero_le r0
 go_wp2_with fail
 have HLF0 : Hid (LsF (20 - k) (⟨ss, [], []⟩ : Fd)) := ⟨Nat.zero_le _, fun x hx => by cases hx⟩
 refine yO [(6, 0), (0, 2), (1, 1), (8, 0), (15, 1), (1, 0)] 7 (k) (StR w g b An Ad cn nd cd ns ds) (by (try dsimp only [gt]); exact ⟨k, _, _, _, _, _, _, _, _, _, _, rfl, rfl, by omega, HLF0, HFX3, HM3, HF0⟩) (by kernel_rfl) ?_
 intro u1 p7 gk wr a hrel ha J1 K1 hJ1 hK1
 dsimp only [zi, Go.Proofs.YtepicjpdhpojnaaGreatDoor.v1, Nat.reduceAdd] at ha
 subst ha
 clear HM3 HFX3 HF0 HLF0 w3
 obtain ⟨i, n, c, nl, cl, nt, ct, As, Al, At, F, rfl, rfl, hi, HLF, HFX, HM, HF⟩ := hrel
 by_cases hlk : 0 < gk
 ·have hlki : (0 : Int) < (gk : Int) := by omega
  have HXD := iD (HFX.out.later (Below.refl _ _).drew)
  have HMD := iD (HM.out.later (Below.refl _ _).drew)
  have hgb : g < b + 2 := by have := HM.out.hb; omega
  go_upto_region 6 with (fail)
  refine wC (S := fun W' => Blk W' b 30 #[.slice An 6 cn, .slice Ad nd cd] ∧ Blk W' (b + 1) 35 #[.slice As n c, .slice Al nl cl, .slice At nt ct]) (J := []) (n := _) ((0, true) :: (1, true) :: (2, true) :: (3, true) :: []) ((11, true) :: []) (lL [(4, []), (5, [4]), (6, [5]), (7, [5, 6]), (8, [5, 6]), (9, []), (10, [5, 7, 9])]) 7 #[true, true, true, true, false, false, false, false, false, false, false, false] #[true, true, true, true, true, true, true, true, true, true, true, false] (by as_aux_lemma => kernel_rfl) (by rfl) (zM (k := 4) (by go_simp; rfl) (zM (k := 6) (by go_simp; rfl) (zM (k := 0) (by go_simp; rfl) yH))) ?_ (fun _ _ _ _ _ h => h) (fun Q2 A hsz hbase hn2 AA => ?_)
  ·exact ⟨HMD.out.b4, HMD.out.b6⟩
  try dsimp only at AA
  obtain ⟨b4, b6, b0, -⟩ := hbase
  refine ⟨k9 A [(4, 28), (5, 29), (6, 23), (7, 30), (8, 31), (9, 8)] [(27, .agg #[.slice An 6 cn, .slice Ad nd cd]), (26, .pointer (some ⟨g, 0, none⟩)), (25, .agg #[.slice As n c, .slice Al nl cl, .slice At nt ct]), (24, .agg #[.slice An 6 cn, .slice Ad nd cd])] 12 (StB w g b An Ad As Al At cn nd cd n c nl cl nt ct ns ds F) (StG (b + 2)), ?_, ?_, ?_⟩
  ·refine oT 0 24 ?_ rfl rfl (zB rfl) AA (fun ρ AB w hSw => ?_) ?_
   rotate_left
   ·(have e4 := tm AB hsz 4 rfl (zF b4); clear AB; (try dsimp only at hSw); have k0 := hSw.1.cell 0; have k1 := hSw.1.cell 1; clear hSw; go_simp; try with_reducible rfl)
   refine oT 1 25 ?_ rfl rfl (zB rfl) AA (fun ρ AB w hSw => ?_) ?_
   rotate_left
   ·(have e6 := tm AB hsz 6 rfl (zC rfl (zF b6)); clear AB; (try dsimp only at hSw); have k0 := hSw.2.cell 0; have k1 := hSw.2.cell 1; have k2 := hSw.2.cell 2; clear hSw; go_simp; try with_reducible rfl)
   refine oM 2 26 ?_ rfl rfl rfl (zB rfl) AA (fun ρ AB => ?_) ?_
   rotate_left
   ·(have e0 := tm AB hsz 0 rfl (zC rfl (zC rfl (zF b0))); exact e0)
   refine oT 3 27 ?_ rfl rfl (zB rfl) AA (fun ρ AB w hSw => ?_) ?_
   rotate_left
   ·(have e4 := tm AB hsz 4 rfl (zC rfl (zC rfl (zC rfl (zF b4)))); clear AB; (try dsimp only at hSw); have k0 := hSw.1.cell 0; have k1 := hSw.1.cell 1; clear hSw; go_simp; try with_reducible rfl)
   exact s9 (rg (l := #[true, true, true, true, false, false, false, false, false, false, false, false]) ((undef, 0, #[.slice none 0 0, .slice none 0 0, .slice none 0 0]) : ug) (by decide) rfl ⟨HXD.out, HMD.out, fun e => absurd e (by decide), fun _ => rfl, fun e => absurd e (by decide), fun _ => by decide, fun _ => by decide⟩)
  ·intro l i a w0 hg h
   obtain ⟨vs, γ, hl, rfl, hB, hG⟩ := h
   obtain ⟨hf, ds, hm, hds⟩ := tp hg
   clear hg
   simp only [List.mem_cons, Prod.mk.injEq, List.not_mem_nil, or_false] at hm
   rcases hm with ⟨rfl, rfl⟩ | ⟨rfl, rfl⟩ | ⟨rfl, rfl⟩ | ⟨rfl, rfl⟩ | ⟨rfl, rfl⟩ | ⟨rfl, rfl⟩ | ⟨rfl, rfl⟩
   ·clear hds
    refine vD (d := 28) (vs := #[.pointer (some ⟨g, 0, none⟩), .agg #[.slice An 6 cn, .slice Ad nd cd]]) rfl rfl rfl rfl (fun ρ AB => ?_) ?_ ?_
    ·(have e26 := tm AB hsz 26 rfl ((yS _ rfl (zC rfl zA))); have e27 := tm AB hsz 27 rfl ((yS _ rfl zA)); simp only [List.map_toArray, List.map_cons, List.map_nil, e26, e27])
    ·(intro w; go_simp)
    refine (uy g An Ad 6 cn nd cd w0 hB.x.dk (by have := HND.out; have := hB.x.fdm.ln; omega)).mono ?_
    rintro e w6 ⟨k, d, p, q, rfl, hq, hd6, hg6⟩
    refine ⟨_, rfl, fun _ => ⟨((hB.keep (i := 4) (by omega) (by decide) (by decide) (.inr (by decide)) (hB.x.grown HL0.out hge hd6.out hg6.out) (hB.m.next hgl hg6.out) (fun v E h => h.grown HL0.out hge hd6.out hg6.out))).m.b4, ((hB.keep (i := 4) (by omega) (by decide) (by decide) (.inr (by decide)) (hB.x.grown HL0.out hge hd6.out hg6.out) (hB.m.next hgl hg6.out) (fun v E h => h.grown HL0.out hge hd6.out hg6.out))).m.b6⟩, yt (γ' := γ) (by decide) (by decide) hl (by decide) hf (hB.keep (i := 4) (by omega) (by decide) (by decide) (.inr (by decide)) (hB.x.grown HL0.out hge hd6.out hg6.out) (hB.m.next hgl hg6.out) (fun v E h => h.grown HL0.out hge hd6.out hg6.out)) hG (fun j u _ _ h => h.grown hg6.out hgb) (⟨k, d, p, q, rfl, hq⟩)⟩
   ·have f4 : zj l 4 = true := hds 4 (by simp)
    have G4 := hG 4 f4 (by decide)
    clear hds
    obtain ⟨k, d, p, q, h4, hq⟩ := G4
    refine vD (d := 29) (vs := #[.agg #[.slice An 6 cn, .slice Ad nd cd], .agg #[.slice As n c, .slice Al nl cl, .slice At nt ct], .agg #[.int .i64 k, .int .i64 d, .int .i64 p, .int .i64 q]]) rfl rfl rfl rfl (fun ρ AB => ?_) ?_ ?_
    ·(have e24 := tm AB hsz 24 rfl ((yS _ rfl (zC rfl (zC rfl (zC rfl zA))))); have e25 := tm AB hsz 25 rfl ((yS _ rfl (zC rfl (zC rfl zA)))); have e28 := tm AB hsz 28 rfl ((zy (i := 4) f4 _ (by decide) (by decide)).trans h4); simp only [List.map_toArray, List.map_cons, List.map_nil, e24, e25, e28])
    ·(intro w; go_simp)
    refine (sJ An Ad As Al At 6 cn nd cd n c nl cl nt ct ns ds F k d p q w0 hB.x.fdm).mono ?_
    intro e w6 hr
    obtain ⟨hb6, v, E, rfl, hN⟩ := xv.of hB.x hB.x.dk.lt ⟨Nat.le_refl _, HLF.out.2⟩ hq hr
    refine ⟨_, rfl, fun _ => ⟨((hB.five (by omega) hf hb6 hN)).m.b4, ((hB.five (by omega) hf hb6 hN)).m.b6⟩, yt (γ' := (v, E, γ.2.2)) (by decide) (by decide) hl (by decide) hf (hB.five (by omega) hf hb6 hN) hG (fun j u hj _ h => (StG.step5 hf (hB.o hf) hj h).later hb6) (rfl)⟩
   ·have f5 : zj l 5 = true := hds 5 (by simp)
    have G5 := hG 5 f5 (by decide)
    clear hds
    have h5 : vs 5 = .tuple #[γ.1, .int .i64 γ.2.1] := G5
    refine yc (d := 23) (v := ?_) (w' := ?_) rfl rfl rfl (fun ρ AB => ?_) ?_
    rotate_left 2
    ·(have e29 := tm AB hsz 29 rfl ((zy (i := 5) f5 _ (by decide) (by decide)).trans h5); clear AB; go_simp; first | with_reducible rfl | (constructor <;> with_reducible rfl))
    exact ⟨fun _ => ⟨((hB.keep (i := 6) (by omega) (by decide) (by decide) (.inl f5) hB.x hB.m (fun v E h => h))).m.b4, ((hB.keep (i := 6) (by omega) (by decide) (by decide) (.inl f5) hB.x hB.m (fun v E h => h))).m.b6⟩, yt (γ' := γ) (by decide) (by decide) hl (by decide) hf (hB.keep (i := 6) (by omega) (by decide) (by decide) (.inl f5) hB.x hB.m (fun v E h => h)) hG (fun j u _ _ h => h) (rfl)⟩
   ·have f5 : zj l 5 = true := hds 5 (by simp)
    have f6 : zj l 6 = true := hds 6 (by simp)
    have G5 := hG 5 f5 (by decide)
    have G6 := hG 6 f6 (by decide)
    clear hds
    have h6 : vs 6 = .tuple #[γ.1, .int .i64 γ.2.1] := G6
    refine yc (d := 30) (v := ?_) (w' := ?_) rfl rfl rfl (fun ρ AB => ?_) ?_
    rotate_left 2
    ·(have e23 := tm AB hsz 23 rfl ((zy (i := 6) f6 _ (by decide) (by decide)).trans h6); clear AB; go_simp; first | with_reducible rfl | (constructor <;> with_reducible rfl))
    exact ⟨fun _ => ⟨((hB.keep (i := 7) (by omega) (by decide) (by decide) (.inl f5) hB.x hB.m (fun v E h => h))).m.b4, ((hB.keep (i := 7) (by omega) (by decide) (by decide) (.inl f5) hB.x hB.m (fun v E h => h))).m.b6⟩, yt (γ' := γ) (by decide) (by decide) hl (by decide) hf (hB.keep (i := 7) (by omega) (by decide) (by decide) (.inl f5) hB.x hB.m (fun v E h => h)) hG (fun j u _ _ h => h) (rfl)⟩
   ·have f5 : zj l 5 = true := hds 5 (by simp)
    have f6 : zj l 6 = true := hds 6 (by simp)
    have G5 := hG 5 f5 (by decide)
    have G6 := hG 6 f6 (by decide)
    clear hds
    have h6 : vs 6 = .tuple #[γ.1, .int .i64 γ.2.1] := G6
    refine yc (d := 31) (v := ?_) (w' := ?_) rfl rfl rfl (fun ρ AB => ?_) ?_
    rotate_left 2
    ·(have e23 := tm AB hsz 23 rfl ((zy (i := 6) f6 _ (by decide) (by decide)).trans h6); clear AB; go_simp; first | with_reducible rfl | (constructor <;> with_reducible rfl))
    exact ⟨fun _ => ⟨((hB.keep (i := 8) (by omega) (by decide) (by decide) (.inl f5) hB.x hB.m (fun v E h => h))).m.b4, ((hB.keep (i := 8) (by omega) (by decide) (by decide) (.inl f5) hB.x hB.m (fun v E h => h))).m.b6⟩, yt (γ' := γ) (by decide) (by decide) hl (by decide) hf (hB.keep (i := 8) (by omega) (by decide) (by decide) (.inl f5) hB.x hB.m (fun v E h => h)) hG (fun j u _ _ h => h) (rfl)⟩
   ·clear hds
    refine yc (d := 8) (v := ?_) (w' := ?_) rfl rfl rfl (fun ρ AB => ?_) ?_
    rotate_left 2
    ·(skip; clear AB; go_simp; first | with_reducible rfl | (constructor <;> with_reducible rfl))
    exact ⟨fun _ => ⟨((hB.keep (i := 9) (by omega) (by decide) (by decide) (.inr (by decide)) (hB.x.alloc _) (hB.m.later ((Below.refl _ _).alloc lR _)) (fun v E h => h.later ((Below.refl _ _).alloc lR _)))).m.b4, ((hB.keep (i := 9) (by omega) (by decide) (by decide) (.inr (by decide)) (hB.x.alloc _) (hB.m.later ((Below.refl _ _).alloc lR _)) (fun v E h => h.later ((Below.refl _ _).alloc lR _)))).m.b6⟩, yt (γ' := γ) (by decide) (by decide) hl (by decide) hf (hB.keep (i := 9) (by omega) (by decide) (by decide) (.inr (by decide)) (hB.x.alloc _) (hB.m.later ((Below.refl _ _).alloc lR _)) (fun v E h => h.later ((Below.refl _ _).alloc lR _))) hG (fun j u _ _ h => h.later ((Below.refl _ _).alloc lR _)) (⟨w0.heap.size, rfl, by rw [hB.z (hB.o9 hf)]; exact Blk.new _ _ _, hB.m.b6.lt⟩)⟩
   ·have f5 : zj l 5 = true := hds 5 (by simp)
    have f7 : zj l 7 = true := hds 7 (by simp)
    have f9 : zj l 9 = true := hds 9 (by simp)
    have G5 := hG 5 f5 (by decide)
    have G7 := hG 7 f7 (by decide)
    have G9 := hG 9 f9 (by decide)
    clear hds
    obtain ⟨As2, Al2, At2, n2, c2, nl2, cl2, nt2, ct2, hv, hN2⟩ := hB.k f5
    obtain ⟨x, h9, hx, hxl⟩ := G9
    have h7 : vs 7 = .agg #[.slice As2 n2 c2, .slice Al2 nl2 cl2, .slice At2 nt2 ct2] := Eq.trans G7 hv
    rw [hB.z hf] at hx
    have k0 := hx.cell 0
    have k1 := hx.cell 1
    have k2 := hx.cell 2
    have z0 := hx.frozen 0
    have z1 := hx.frozen 1
    have z2 := hx.frozen 2
    clear hN2
    refine qs rfl rfl rfl (w' := ((w0.setCell ⟨x, 0, none⟩ (.slice As2 n2 c2)).setCell ⟨x, 1, none⟩ (.slice Al2 nl2 cl2)).setCell ⟨x, 2, none⟩ (.slice At2 nt2 ct2)) (fun ρ AB => ?_) ?_
    ·(have e8 := tm AB hsz 8 rfl ((zy (i := 9) f9 _ (by decide) (by decide)).trans h9); have e30 := tm AB hsz 30 rfl ((zy (i := 7) f7 _ (by decide) (by decide)).trans h7); clear AB; clear hv h7 h9 hG G5 G7; go_simp)
    clear k0 k1 k2 z0 z1 z2
    have hgx : g < x := by omega
    have hwx := Nat.le_of_lt (Nat.lt_of_le_of_lt hge hgx)
    have hX3 : FdX g An Ad As Al At 6 cn nd cd n c nl cl nt ct ns ds F (((w0.setCell ⟨x, 0, none⟩ (.slice As2 n2 c2)).setCell ⟨x, 1, none⟩ (.slice Al2 nl2 cl2)).setCell ⟨x, 2, none⟩ (.slice At2 nt2 ct2)) := hB.x.out3 hx hgx HL0.out hwx
    clear hgl
    have hM3 : StM w g b #[.slice An 6 cn, .slice Ad nd cd] #[.slice As n c, .slice Al nl cl, .slice At nt ct] (((w0.setCell ⟨x, 0, none⟩ (.slice As2 n2 c2)).setCell ⟨x, 1, none⟩ (.slice Al2 nl2 cl2)).setCell ⟨x, 2, none⟩ (.slice At2 nt2 ct2)) := hB.m.out3 hxl _ _ _
    clear hlki
    have hN3 : xv (F.ls.length + 1) g An Ad cn nd cd ns ds γ.1 γ.2.1 (((w0.setCell ⟨x, 0, none⟩ (.slice As2 n2 c2)).setCell ⟨x, 1, none⟩ (.slice Al2 nl2 cl2)).setCell ⟨x, 2, none⟩ (.slice At2 nt2 ct2)) := (hB.k f5).out3 hx hgx HL0.out hwx
    clear HXD
    have hB3 := hB.ten (by omega) f5 f9 hv hX3 hM3 hN3
    clear hX3 hM3 hN3
    exact ⟨fun _ => ⟨((hB3)).m.b4, ((hB3)).m.b6⟩, rf (γ' := (γ.1, γ.2.1, #[.slice As2 n2 c2, .slice Al2 nl2 cl2, .slice At2 nt2 ct2])) (by decide) hl (hB3) hG (fun j _ _ h => StG.ten h9 hx hxl rfl h)⟩
  intro a w0 h
  obtain ⟨vs, γ, -, rfl, hB, hG⟩ := h
  show wpOrd _ _ _ _ _ _ (ze A ((28, vs 4) :: (29, vs 5) :: (23, vs 6) :: (30, vs 7) :: (31, vs 8) :: (8, vs 9) :: [(27, .agg #[.slice An 6 cn, .slice Ad nd cd]), (26, .pointer (some ⟨g, 0, none⟩)), (25, .agg #[.slice As n c, .slice Al nl cl, .slice At nt ct]), (24, .agg #[.slice An 6 cn, .slice Ad nd cd])])) _
  replace AA : (fun W' => Blk W' b 30 #[.slice An 6 cn, .slice Ad nd cd] ∧ Blk W' (b + 1) 35 #[.slice As n c, .slice Al nl cl, .slice At nt ct]) w0 := ⟨(hB).m.b4, (hB).m.b6⟩
  have h8 : vs 8 = .int .i64 γ.2.1 := hG 8 rfl (by decide)
  obtain ⟨x, h9, hx, hxl⟩ := hG 9 rfl (by decide)
  obtain ⟨As2, Al2, At2, n2, c2, nl2, cl2, nt2, ct2, hv, hN2⟩ := hB.k rfl
  have hzz : γ.2.2 = #[.slice As2 n2 c2, .slice Al2 nl2 cl2, .slice At2 nt2 ct2] := by have h1 := hB.f rfl; rw [hv] at h1; injection h1 with h1; exact h1.symm
  rw [hzz] at hx
  obtain ⟨v4, hv4⟩ : ∃ v, v = vs 4 := ⟨_, rfl⟩
  obtain ⟨v5, hv5⟩ : ∃ v, v = vs 5 := ⟨_, rfl⟩
  obtain ⟨v6, hv6⟩ : ∃ v, v = vs 6 := ⟨_, rfl⟩
  obtain ⟨v7, hv7⟩ : ∃ v, v = vs 7 := ⟨_, rfl⟩
  obtain ⟨E, hE⟩ : ∃ E, E = γ.2.1 := ⟨_, rfl⟩
  rw [← hE] at h8 hN2
  rw [h8, h9, ← hv4, ← hv5, ← hv6, ← hv7]
  clear h8 h9 hG hv4 hv5 hv6 hv7 hv hzz hE
  have HXE := iD hB.x
  have HME := iD hB.m
  have HNE := iD hN2
  have HBX := iD hx
  clear hB hN2 hx vs
  refine oT 11 9 ?_ rfl rfl (zB rfl) AA (fun ρ AB w hSw => ?_) ?_
  rotate_left
  ·(have e31 := tm AB hsz 31 rfl (zD rfl rfl rfl rfl zA); clear AB; (try dsimp only at hSw); go_simp; try with_reducible rfl)
  refine yG hn2 ?_
  clear AA hn2 b4 b6 b0 hsz A Q2
  simp only [yF, zu, yQ, xO, xP]
  have hgks : (0 : Nat) < gk := hlk
  have hbb := HME.out.hb
  have hwr : IntKind.i64.wrap ((gk : Int) - 1) = ((gk - 1 : Nat) : Int) := by rw [IntWalk.i64_in _ (by omega)]; omega
  clear HFX HM HXD HMD
  by_cases hE0 : E = 0
  ·subst hE0
   obtain ⟨F2, hX2, hF2, hLF2⟩ := HNE.out rfl
   have HX9 := iD (hX2.out3 (A1 := As2) (n1 := n2) (c1 := c2) (A2 := Al2) (n2 := nl2) (c2 := cl2) (A3 := At2) (n3 := nt2) (c3 := ct2) HME.out.b6 (by omega) HL0.out (by omega))
   have HM9 := iD (HME.out.fld (cf := #[.slice As2 n2 c2, .slice Al2 nl2 cl2, .slice At2 nt2 ct2]) rfl)
   have HF9 := iD hF2
   have HL9 := iD hLF2
   have c0 := HBX.out.cell 0
   have c1 := HBX.out.cell 1
   have c2 := HBX.out.cell 2
   have d0 := HME.out.b6.cell 0
   have d1 := HME.out.b6.cell 1
   have d2 := HME.out.b6.cell 2
   have y0 := HME.out.b6.frozen 0
   have y1 := HME.out.b6.frozen 1
   have y2 := HME.out.b6.frozen 2
   clear hX2 hF2 hLF2 HNE HXE HBX HME
   go_wp2_with fail
   clear c0 c1 c2 d0 d1 d2 y0 y1 y2
   generalize World.setCell (World.setCell (World.setCell w0 _ _) _ _) _ _ = w9 at *
   refine Handed.intro (gk - 1) (by omega) (hJ1 _ _ _ (vL.back 7 ?_ (by kernel_rfl)))
   dsimp only [gt]
   exact ⟨gk - 1, _, _, _, _, _, _, _, _, _, F2, rfl, rfl, by omega, ⟨by have h1 := HL9.out.1; have h2 := HLF.out.1; omega, HL9.out.2⟩, HX9, HM9, HF9⟩
  ·have q0 : (E == 0) = false := by simpa using hE0
   clear hE0 HNE HBX
   go_wp2_with fail
   refine Handed.intro (gk - 1) (by omega) (hJ1 _ _ _ (vL.back 7 ?_ (by kernel_rfl)))
   dsimp only [gt]
   exact ⟨gk - 1, _, _, _, _, _, _, _, _, _, F, rfl, rfl, by omega, HLF.out.le (by omega), HXE, HME, HF⟩
 ·obtain rfl : gk = 0 := by omega
  have HFIN := iD (HM.out.fin HFX.out hgl HL0.out hge HF.out (by have h1 := HND.out; have h2 := HFX.out.fdm.ln; omega) (HLF.out.le (by omega)))
  have HRS := iD HM.out.res
  have c0 := HM.out.b4.cell 0
  have c1 := HM.out.b4.cell 1
  have d0 := HM.out.b6.cell 0
  have d1 := HM.out.b6.cell 1
  have d2 := HM.out.b6.cell 2
  have e0 := HM.out.r0.cell 0
  have e1 := HM.out.r0.cell 1
  have f0 := HM.out.r1.cell 0
  have f1 := HM.out.r1.cell 1
  have f2 := HM.out.r1.cell 2
  have y0 := HM.out.r0.frozen 0
  have y1 := HM.out.r0.frozen 1
  have z0 := HM.out.r1.frozen 0
  have z1 := HM.out.r1.frozen 1
  have z2 := HM.out.r1.frozen 2
  have hbb := HM.out.hb
  go_upto_region 9 with (fail)
  go_region
  clear c0 c1 d0 d1 d2 e0 e1 f0 f1 f2 y0 y1 z0 z1 z2
  generalize World.setCell (World.setCell (World.setCell (World.setCell (World.setCell wr _ _) _ _) _ _) _ _) _ _ = wz at *
  have t0 : wz.drew.cell? ⟨w.heap.size, 0, none⟩ = some (.slice An 6 cn) := HRS.out.1.cell 0
  have t1 : wz.drew.cell? ⟨w.heap.size, 1, none⟩ = some (.slice Ad nd cd) := HRS.out.1.cell 1
  have t2 : wz.drew.cell? ⟨w.heap.size + 1, 0, none⟩ = some (.slice As n c) := HRS.out.2.cell 0
  have t3 : wz.drew.cell? ⟨w.heap.size + 1, 1, none⟩ = some (.slice Al nl cl) := HRS.out.2.cell 1
  have t4 : wz.drew.cell? ⟨w.heap.size + 1, 2, none⟩ = some (.slice At nt ct) := HRS.out.2.cell 2
  go_wp2_with fail
  exact bodyPost_ret (v := .tuple #[.agg #[.slice An 6 cn, .slice Ad nd cd], .agg #[.slice As n c, .slice Al nl cl, .slice At nt ct]]) (by simp [results, Tryz.results18, go_sem, t0, t1, t2, t3, t4]) rfl HFIN.out.drew
end
section
open Go.RowKit
def nsW : List Nd := [⟨⟨#[65]⟩, 0, 0⟩]
def dsW : List Dv := [⟨⟨#[69]⟩, 4, 0, -1, 0⟩]
theorem ju : zX nsW dsW = 0 := by decide
theorem kH : (∀ x ∈ nsW, x.name.size ≤ 9223372036854775807) ∧ (∀ x ∈ dsW, x.name.size ≤ 9223372036854775807) := by
 constructor <;> intro x hx <;> simp [nsW, dsW] at hx <;> subst hx <;> decide
theorem fdW {s : Int} {ls : List Lk} (hs : yv s = true) (hl : zL nsW dsW ls = 0) (hk : uk [s] ls) : zk nsW dsW ⟨[s], ls, []⟩ = 0 := wJ (rR ju rfl (fun p hp => by rw [List.mem_singleton.1 hp]; exact hs)) hl hk (fun i hi => absurd hi (Nat.not_lt_zero i))
theorem jn {F : Fd} {k p q : Int} (h : zk nsW dsW F = 0) (hu : xx k p q = false) : zR nsW dsW F k 0 p q = yB nsW dsW F k 0 p q := by
 unfold zR
 rw [if_neg (by simp [h]), if_neg (by decide), if_neg (by simp [hu])]
theorem jl : zR nsW dsW ⟨[1], [], []⟩ 1 0 2 0 = 0 := (jn (fdW rfl (by decide) (fun k hk => by cases hk)) (by decide)).trans (by decide)
theorem jk : zR nsW dsW ⟨[2], [], []⟩ 6 0 2 4 = 0 := (jn (fdW rfl (by decide) (fun k hk => by cases hk)) (by decide)).trans (by decide)
theorem lj : zR nsW dsW ⟨[2], [⟨0, 2, 4⟩], []⟩ 1 0 1 0 = 18 := (jn (fdW rfl (by decide) (fun k hk => by rw [List.mem_singleton.1 hk]; rfl)) (by decide)).trans (by decide)
theorem j0 : yu dsW ⟨[1], [], []⟩ 1 0 2 0 = ⟨[2], [], []⟩ := rfl
theorem jz : yu dsW ⟨[2], [], []⟩ 6 0 2 4 = ⟨[2], [⟨0, 2, 4⟩], []⟩ := rfl
theorem xo.ok {w w' : World} {ns : List Nd} {ds : List Dv} {F : Fd} {k d p q : Int} {e : Ending} (h : xo w ns ds F k d p q e w') (h0 : zR ns ds F k d p q = 0) :
 ∃ (A1 A2 A3 : Option Addr) (n1 c1 n2 c2 n3 c3 : Nat), e = .returned (.tuple #[.agg #[.slice A1 n1 c1, .slice A2 n2 c2, .slice A3 n3 c3], .int .i64 0]) ∧ Hid (zQ w' w.heap.size A1 n1 c1 (yu ds F k d p q).s) ∧ Hid (yI w' w.heap.size A2 n2 c2 (yu ds F k d p q).ls) ∧ Hid (zQ w' w.heap.size A3 n3 c3 (yu ds F k d p q).st) ∧ Hid (Below w.heap.size w w') := by
 obtain ⟨⟨h1, _⟩ | ⟨_, A1, A2, A3, n1, c1, n2, c2, n3, c3, h1, h2, h3, h4⟩, h5⟩ := h
 ·exact absurd h0 h1
 ·exact ⟨A1, A2, A3, n1, c1, n2, c2, n3, c3, h1, h2, h3, h4, h5⟩
theorem xo.err {w w' : World} {ns : List Nd} {ds : List Dv} {F : Fd} {k d p q : Int} {e : Ending} (h : xo w ns ds F k d p q e w') (h0 : zR ns ds F k d p q ≠ 0) :
 e = .returned (.tuple #[.agg #[.slice none 0 0, .slice none 0 0, .slice none 0 0], .int .i64 (zR ns ds F k d p q)]) ∧ Hid (Below w.heap.size w w') := by
 obtain ⟨⟨_, h1⟩ | ⟨h1, _⟩, h5⟩ := h
 ·exact ⟨h1, h5⟩
 ·exact absurd h1 h0
theorem ri {w : World} {base size n c x : Nat} {e : TypeId} {A : Option Addr} {xs : List Value} {u v t : Value} (h : w.ownsRow base e size (.slice A n c) n xs) (hx : x < base) : (((w.setCell ⟨x, 0, none⟩ u).setCell ⟨x, 1, none⟩ v).setCell ⟨x, 2, none⟩ t).ownsRow base e size (.slice A n c) n xs :=
 zm (zm (zm h hx) hx) hx
structure AwW (w wr : World) : Prop where
 bn : Blk wr (w.heap.size + 1 + 1) 30 #[.slice (some ⟨w.heap.size, 0, none⟩) 1 1, .slice (some ⟨w.heap.size + 1, 0, none⟩) 1 1]
 sn : Sl wr (w.heap.size + 1) 3 (some ⟨w.heap.size, 0, none⟩) 1 1 (nsW.flatMap Nd.cells)
 sd : Sl wr (w.heap.size + 1 + 1) 5 (some ⟨w.heap.size + 1, 0, none⟩) 1 1 (dsW.flatMap Dv.cells)
 bl : Below w.heap.size w wr
 la : Laid wr
 sz : w.heap.size + 3 ≤ wr.heap.size
section
variable {w wr wr' : World}
theorem AwW.later (h : AwW w wr) (hb : Below wr.heap.size wr wr') : AwW w wr' :=
 ⟨h.bn.below hb h.bn.lt, h.sn.below hb (by have := h.sz; omega), h.sd.below hb (by have := h.sz; omega), h.bl.trans (hb.mono h.bl.size), h.la.below hb lR, Nat.le_trans h.sz hb.size⟩
theorem AwW.set (h : AwW w wr) (hl : Laid w) {x : Nat} (hx : w.heap.size + 3 ≤ x) (i : Nat) (u : Value) : AwW w (wr.setCell ⟨x, i, none⟩ u) :=
 ⟨h.bn.far (by simp; omega) _, h.sn.setCell (by simp; omega) _, h.sd.setCell (by simp; omega) _, h.bl.setCell (by simp; omega) _, h.la.grown hl (zY _ ⟨x, i, none⟩ _) (by simp; omega), by simpa using h.sz⟩
theorem AwW.mk0 (w : World) (hl : Laid w) : AwW w (((w.alloc (.cells #[.string ⟨#[65]⟩, .int .i64 0, .int .i64 0] 74)).alloc (.cells #[.string ⟨#[69]⟩, .int .i64 4, .int .i64 0, .int .i64 (-1), .int .i64 0] 38)).alloc (.cells #[.slice (some ⟨w.heap.size, 0, none⟩) 1 1, .slice (some ⟨w.heap.size + 1, 0, none⟩) 1 1] 30)) := by
 refine ⟨?_, ?_, ?_, ?_, ((hl.alloc _).alloc _).alloc _, by simp⟩
 ·have := Blk.new ((w.alloc (.cells #[.string ⟨#[65]⟩, .int .i64 0, .int .i64 0] 74)).alloc (.cells #[.string ⟨#[69]⟩, .int .i64 4, .int .i64 0, .int .i64 (-1), .int .i64 0] 38)) 30 #[.slice (some ⟨w.heap.size, 0, none⟩) 1 1, .slice (some ⟨w.heap.size + 1, 0, none⟩) 1 1]
  simpa using this
 ·refine Sl.alloc (Sl.alloc ?_ (by simp) _) (by simp) _
  exact Sl.newest (n := 1) (size := 3) rfl rfl (by decide)
 ·refine Sl.alloc ?_ (by simp) _
  exact Sl.newest (n := 1) (size := 5) (by simp) rfl (by decide)
 ·exact (((Below.refl _ _).alloc lR _).alloc (by simp) _).alloc (by simp; omega) _
theorem AwW.fdm {As Al At : Option Addr} {n c nl cl nt ct : Nat} {F : Fd} (h : AwW w wr) (h1 : Sl wr wr.heap.size 1 As n c (zK F.s)) (h2 : Sl wr wr.heap.size 3 Al nl cl (F.ls.flatMap Lk.cells)) (h3 : Sl wr wr.heap.size 1 At nt ct (zK F.st)) :
 FdM wr (some ⟨w.heap.size, 0, none⟩) (some ⟨w.heap.size + 1, 0, none⟩) As Al At 1 1 1 1 n c nl cl nt ct nsW dsW F :=
 ⟨h.sn.more (by have := h.sz; omega), h.sd.more (by have := h.sz; omega), h1, h2, h3, h.la, kH.1, kH.2⟩
end
theorem wA (w : World) (hl : Laid w) : Calls Tryz.prog 7 #[] w fun e w' => e = .returned (.bool true) ∧ Below w.heap.size w w' := by
 have HA0 := iD (AwW.mk0 w hl)
 have HL := iD hl
 clear hl
 go_enter Tryz.func7, Tryz.ntmps7
 go_upto_region 2 with (fail)
 generalize World.alloc (World.alloc (World.alloc _ _) _) _ = w0 at *
 have hz0 := HA0.out.sz
 have HS0 : Hid (Sl (w0.alloc (.cells #[.int .i64 1] 3)) (w0.alloc (.cells #[.int .i64 1] 3)).heap.size 1 (some ⟨w0.heap.size, 0, none⟩) 1 1 (zK [1])) := (Sl.newest (n := 1) (size := 1) rfl rfl (by decide)).more (by simp)
 have HA1 := iD (HA0.out.later ((Below.refl _ _).alloc lR (.cells #[.int .i64 1] 3)))
 have k0 : w0.cell? ⟨w.heap.size + 1 + 1, 0, none⟩ = some (.slice (some ⟨w.heap.size, 0, none⟩) 1 1) := HA0.out.bn.cell 0
 have k1 : w0.cell? ⟨w.heap.size + 1 + 1, 1, none⟩ = some (.slice (some ⟨w.heap.size + 1, 0, none⟩) 1 1) := HA0.out.bn.cell 1
 go_wp2_with fail
 clear k0 k1
 generalize World.alloc w0 _ = w1 at *
 have hz1 := HA1.out.sz
 refine (vm _ _ _ none none 1 1 1 1 1 1 0 0 0 0 nsW dsW ⟨[1], [], []⟩ 1 0 2 0 w1 (HA1.out.fdm HS0.out (Sl.nil _ _ _) (Sl.nil _ _ _))).mono ?_
 intro e w2 hpost
 obtain ⟨A1, A2, A3, n1, c1, n2, c2, n3, c3, rfl, hi1, hi2, hi3, hb2⟩ := hpost.ok jl
 rw [j0] at hi1 hi2 hi3
 obtain rfl : 1 = n1 := hi1.out.len
 have HA2 := iD (HA1.out.later hb2.out)
 have HB2 := iD (Blk.new w2 35 #[.slice A1 1 c1, .slice A2 n2 c2, .slice A3 n3 c3])
 have HA3 := iD (HA2.out.later ((Below.refl _ _).alloc lR (.cells #[.slice A1 1 c1, .slice A2 n2 c2, .slice A3 n3 c3] 35)))
 have HI1 := iD (hi1.out.sl.alloc lR (.cells #[.slice A1 1 c1, .slice A2 n2 c2, .slice A3 n3 c3] 35))
 have HI2 := iD (hi2.out.sl.alloc lR (.cells #[.slice A1 1 c1, .slice A2 n2 c2, .slice A3 n3 c3] 35))
 have HI3 := iD (hi3.out.sl.alloc lR (.cells #[.slice A1 1 c1, .slice A2 n2 c2, .slice A3 n3 c3] 35))
 have hz2 := HA2.out.sz
 clear hpost hi1 hi2 hi3 hb2 HA1 HS0 HA0 HA2 hz1 hz0
 go_upto_region 3 with (fail)
 obtain ⟨fb, hfb⟩ : ∃ x, x = w2.heap.size := ⟨_, rfl⟩
 rw [← hfb] at HB2 hz2 HI1 HI2 HI3 ⊢
 have hfs : fb < (World.alloc w2 (.cells #[.slice A1 1 c1, .slice A2 n2 c2, .slice A3 n3 c3] 35)).heap.size := by rw [hfb]; simp
 clear hfb
 generalize World.alloc w2 _ = w3 at *
 have k0 : w3.cell? ⟨w.heap.size + 1 + 1, 0, none⟩ = some (.slice (some ⟨w.heap.size, 0, none⟩) 1 1) := HA3.out.bn.cell 0
 have k1 : w3.cell? ⟨w.heap.size + 1 + 1, 1, none⟩ = some (.slice (some ⟨w.heap.size + 1, 0, none⟩) 1 1) := HA3.out.bn.cell 1
 have f0 : w3.cell? ⟨fb, 0, none⟩ = some (.slice A1 1 c1) := HB2.out.cell 0
 have f1 : w3.cell? ⟨fb, 1, none⟩ = some (.slice A2 n2 c2) := HB2.out.cell 1
 have f2 : w3.cell? ⟨fb, 2, none⟩ = some (.slice A3 n3 c3) := HB2.out.cell 2
 go_wp2_with fail
 clear k0 k1 f0 f1 f2
 refine (vm _ _ A1 A2 A3 1 1 1 1 1 c1 n2 c2 n3 c3 nsW dsW ⟨[2], [], []⟩ 6 0 2 4 w3 (HA3.out.fdm (HI1.out.more (by omega)) (HI2.out.more (by omega)) (HI3.out.more (by omega)))).mono ?_
 intro e w4 hpost
 obtain ⟨B1, B2, B3, m1, d1, m2, d2, m3, d3, rfl, hj1, hj2, hj3, hb4⟩ := hpost.ok jk
 rw [jz] at hj1 hj2 hj3
 obtain rfl : 1 = m1 := hj1.out.len
 obtain rfl : 1 = m2 := hj2.out.len
 have HB4 := iD (HB2.out.below hb4.out HB2.out.lt)
 have HA4 := iD ((((HA3.out.later hb4.out).set HL.out (x := fb) hz2 0 (.slice B1 1 d1)).set HL.out (x := fb) hz2 1 (.slice B2 1 d2)).set HL.out (x := fb) hz2 2 (.slice B3 m3 d3))
 have HJ1 : Hid (Sl (((w4.setCell ⟨fb, 0, none⟩ (.slice B1 1 d1)).setCell ⟨fb, 1, none⟩ (.slice B2 1 d2)).setCell ⟨fb, 2, none⟩ (.slice B3 m3 d3)) w4.heap.size 1 B1 1 d1 (zK [2])) := (Sl.of_own (ri hj1.out hfs)).more (by simp)
 have HJ2 : Hid (Sl (((w4.setCell ⟨fb, 0, none⟩ (.slice B1 1 d1)).setCell ⟨fb, 1, none⟩ (.slice B2 1 d2)).setCell ⟨fb, 2, none⟩ (.slice B3 m3 d3)) w4.heap.size 3 B2 1 d2 ([(⟨0, 2, 4⟩ : Lk)].flatMap Lk.cells)) := (Sl.of_own (ri hj2.out hfs)).more (by simp)
 have HJ3 : Hid (Sl (((w4.setCell ⟨fb, 0, none⟩ (.slice B1 1 d1)).setCell ⟨fb, 1, none⟩ (.slice B2 1 d2)).setCell ⟨fb, 2, none⟩ (.slice B3 m3 d3)) w4.heap.size 1 B3 m3 d3 (zK [])) := (Sl.of_own (ri hj3.out hfs)).more (by simp)
 have HF4 := iD (((HB4.out.set 0 (.slice B1 1 d1)).set 1 (.slice B2 1 d2)).set 2 (.slice B3 m3 d3))
 have c0 := HB4.out.cell 0
 have c1 := HB4.out.cell 1
 have c2 := HB4.out.cell 2
 have y0 := HB4.out.frozen 0
 have y1 := HB4.out.frozen 1
 have y2 := HB4.out.frozen 2
 have hz4 : w4.heap.size = (((w4.setCell ⟨fb, 0, none⟩ (.slice B1 1 d1)).setCell ⟨fb, 1, none⟩ (.slice B2 1 d2)).setCell ⟨fb, 2, none⟩ (.slice B3 m3 d3)).heap.size := by simp
 clear hpost hj1 hj2 hj3 hb4 HA3 HB2 HI1 HI2 HI3
 go_upto_region 4 with (fail)
 clear c0 c1 c2 y0 y1 y2 HB4
 generalize World.setCell (World.setCell (World.setCell w4 _ _) _ _) _ _ = w5 at *
 rw [hz4] at HJ1 HJ2 HJ3
 clear hz4
 have k0 : w5.cell? ⟨w.heap.size + 1 + 1, 0, none⟩ = some (.slice (some ⟨w.heap.size, 0, none⟩) 1 1) := HA4.out.bn.cell 0
 have k1 : w5.cell? ⟨w.heap.size + 1 + 1, 1, none⟩ = some (.slice (some ⟨w.heap.size + 1, 0, none⟩) 1 1) := HA4.out.bn.cell 1
 have f0 : w5.cell? ⟨fb, 0, none⟩ = some (.slice B1 1 d1) := HF4.out.cell 0
 have f1 : w5.cell? ⟨fb, 1, none⟩ = some (.slice B2 1 d2) := HF4.out.cell 1
 have f2 : w5.cell? ⟨fb, 2, none⟩ = some (.slice B3 m3 d3) := HF4.out.cell 2
 go_wp2_with fail
 clear k0 k1 f0 f1 f2
 refine (vm _ _ B1 B2 B3 1 1 1 1 1 d1 1 d2 m3 d3 nsW dsW ⟨[2], [⟨0, 2, 4⟩], []⟩ 1 0 1 0 w5 (HA4.out.fdm HJ1.out HJ2.out HJ3.out)).mono ?_
 intro e w6 hpost
 obtain ⟨rfl, hb6⟩ := hpost.err (by rw [lj]; decide)
 rw [lj]
 have HA6 := iD (HA4.out.later hb6.out)
 have hJ6 := HJ1.out.below hb6.out lR
 obtain ⟨bb, oo, sv, hB1, hbs, hsv, hcs⟩ := Sl.at1 (g := fun x : Int => Value.int .i64 x) (l := [2]) (k := 0) hJ6 (by decide)
 subst hB1
 obtain rfl : 2 = sv := by simpa using hsv
 replace hcs : w6.cell? ⟨bb, oo, none⟩ = some (.int .i64 2) := hcs
 have HF6 := iD (HF4.out.below hb6.out HF4.out.lt)
 have HC6 := iD (hb6.out.size)
 have hbs6 : bb < w6.heap.size := Nat.lt_of_lt_of_le hbs hb6.out.size
 have hfb6 : fb < w6.heap.size := HF6.out.lt
 have f0 : w6.cell? ⟨fb, 0, none⟩ = some (.slice (some ⟨bb, oo, none⟩) 1 d1) := HF6.out.cell 0
 have f1 : w6.cell? ⟨fb, 1, none⟩ = some (.slice B2 1 d2) := HF6.out.cell 1
 clear hpost hb6 HA4 HJ1 HJ2 HJ3 HF4 hsv
 go_wp2_with fail
 go_ret
 exact ⟨rfl, (HA6.out.bl.alloc HA6.out.bl.size _)⟩
end
end Go.Proofs.YtepicjpdhpojnaaGreatDoor
