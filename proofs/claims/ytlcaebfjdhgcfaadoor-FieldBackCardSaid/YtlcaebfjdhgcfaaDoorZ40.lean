import Derived.Test.YtlcaebfjdhgcfaaDoorZ35
import Derived.Test.YtlcaebfjdhgcfaaDoorZ37
import Derived.Test.YtlcaebfjdhgcfaaDoorZ38
import Derived.Test.YtlcaebfjdhgcfaaDoorZ39
/-
  law37.start: its memory.
-/
namespace Go.Proofs.YtlcaebfjdhgcfaaDoor
open Go.RowKit
/-- Few locks, with keys that no other lock of the statements has. -/
def LsF (m : Nat) (F : Fd) : Prop := F.ls.length ≤ m ∧ ∀ x ∈ F.ls, x.key < 801
theorem LsF.le {m m' : Nat} {F : Fd} (h : LsF m F) (hm : m ≤ m') : LsF m' F := ⟨Nat.le_trans h.1 hm, h.2⟩
theorem evTo_lsF {ds : List Dv} {F : Fd} {k d p q : Int} {m : Nat} (h : LsF m F) (hq : q < 801) : LsF (m + 1) (evTo ds F k d p q) := by
  have h1 := h.le (Nat.le_succ m)
  unfold evTo
  split
  · split
    · exact h1
    · exact h1
  · split
    · exact h1
    · split
      · refine ⟨by have := h.1; simp only [ins_len]; omega, fun x hx => ?_⟩
        rcases (ins_mem ..).1 hx with rfl | hx
        · exact hq
        · exact h.2 x hx
      · split
        · cases hi : idxL d q F.ls with
          | none => exact h1
          | some i => exact ⟨by have := h.1; have := List.length_eraseIdx_le F.ls i; simp only; omega, fun x hx => h.2 x (List.mem_of_mem_eraseIdx hx)⟩
        · exact h1
/-- What start gives. -/
def StartPost (w : World) (g : Nat) (e : Ending) (w' : World) : Prop :=
  ∃ (An Ad As Al At : Option Addr) (cn nd cd n c nl cl nt ct : Nat) (ns : List Nd) (ds : List Dv) (F : Fd), e = .returned (.tuple #[.agg #[.slice An 6 cn, .slice Ad nd cd], .agg #[.slice As n c, .slice Al nl cl, .slice At nt ct]]) ∧ Hid (w.grownBy w' (some g)) ∧ Hid (FdX g An Ad As Al At 6 cn nd cd n c nl cl nt ct ns ds F w') ∧ Hid (fdErr ns ds F = 0) ∧ Hid (9 ≤ nd ∧ nd ≤ 10) ∧ Hid (LsF 20 F)
/-- The boxes: of the two results, of the network and of the field. -/
structure StM (w0 : World) (g b : Nat) (cn cf : Array Value) (w : World) : Prop where
  gr : w0.grownBy w (some g)
  r0 : Blk w w0.heap.size 30 #[.slice none 0 0, .slice none 0 0]
  r1 : Blk w (w0.heap.size + 1) 33 #[.slice none 0 0, .slice none 0 0, .slice none 0 0]
  b4 : Blk w b 30 cn
  b6 : Blk w (b + 1) 33 cf
  hb : w0.heap.size + 2 ≤ b
theorem StM.later {w0 w w' : World} {g b : Nat} {cn cf : Array Value} (h : StM w0 g b cn cf w) (hb : Below w.heap.size w w') : StM w0 g b cn cf w' := ⟨grown_trans h.gr (grown_of_below hb _), h.r0.below hb h.r0.lt, h.r1.below hb h.r1.lt, h.b4.below hb h.b4.lt, h.b6.below hb h.b6.lt, h.hb⟩
theorem StM.next {w0 w w' : World} {g b : Nat} {cn cf : Array Value} (h : StM w0 g b cn cf w) (hl : g < w0.heap.size) (hg : w.grownBy w' (some g)) : StM w0 g b cn cf w' := by
  have := h.hb
  exact ⟨grown_trans h.gr hg, h.r0.grown hg (by simp; omega), h.r1.grown hg (by simp; omega), h.b4.grown hg (by simp; omega), h.b6.grown hg (by simp; omega), h.hb⟩
def StR (w : World) (g b : Nat) (An Ad : Option Addr) (cn nd cd : Nat) (ns : List Nd) (ds : List Dv) (gk : Nat) (kv : Value) (wr : World) : Prop := ∃ (i n c nl cl nt ct : Nat) (As Al At : Option Addr) (F : Fd), kv = .int .i64 i ∧ gk = i ∧ i ≤ 20 ∧ Hid (LsF (20 - i) F) ∧ Hid (FdX g An Ad As Al At 6 cn nd cd n c nl cl nt ct ns ds F wr) ∧ Hid (StM w g b #[.slice An 6 cn, .slice Ad nd cd] #[.slice As n c, .slice Al nl cl, .slice At nt ct] wr) ∧ Hid (fdErr ns ds F = 0)
/-- The field that Step gave: three slices; without an error a valid field. -/
def NewOk (m g : Nat) (An Ad : Option Addr) (cn nd cd : Nat) (ns : List Nd) (ds : List Dv) (v : Value) (E : Int) (w : World) : Prop :=
  ∃ (As Al At : Option Addr) (n c nl cl nt ct : Nat), v = .agg #[.slice As n c, .slice Al nl cl, .slice At nt ct] ∧ (E = 0 → ∃ F : Fd, FdX g An Ad As Al At 6 cn nd cd n c nl cl nt ct ns ds F w ∧ fdErr ns ds F = 0 ∧ LsF m F)
theorem NewOk.later {m g : Nat} {An Ad : Option Addr} {cn nd cd : Nat} {ns : List Nd} {ds : List Dv} {v : Value} {E : Int} {w w' : World} (h : NewOk m g An Ad cn nd cd ns ds v E w) (hb : Below w.heap.size w w') : NewOk m g An Ad cn nd cd ns ds v E w' := by
  obtain ⟨As, Al, At, n, c, nl, cl, nt, ct, h1, h2⟩ := h
  exact ⟨As, Al, At, n, c, nl, cl, nt, ct, h1, fun e => by obtain ⟨F, h3, h4⟩ := h2 e; exact ⟨F, h3.later hb, h4⟩⟩
theorem NewOk.grown {m g : Nat} {An Ad : Option Addr} {cn nd cd : Nat} {ns : List Nd} {ds : List Dv} {v : Value} {E : Int} {w0 w w' : World} (h : NewOk m g An Ad cn nd cd ns ds v E w) (h0 : Laid w0) (hge : w0.heap.size ≤ g) (hd : DeckAt w' g) (hg : w.grownBy w' (some g)) : NewOk m g An Ad cn nd cd ns ds v E w' := by
  obtain ⟨As, Al, At, n, c, nl, cl, nt, ct, h1, h2⟩ := h
  exact ⟨As, Al, At, n, c, nl, cl, nt, ct, h1, fun e => by obtain ⟨F, h3, h4⟩ := h2 e; exact ⟨F, h3.grown h0 hge hd hg, h4⟩⟩
/-- What the reference's Step returns, in a world where the field was valid. -/
theorem NewOk.of {m g : Nat} {An Ad As Al At : Option Addr} {cn nd cd n c nl cl nt ct : Nat} {ns : List Nd} {ds : List Dv} {F : Fd} {k d p q : Int} {e : Ending} {w w' : World} (h : FdX g An Ad As Al At 6 cn nd cd n c nl cl nt ct ns ds F w) (hg : g < w.heap.size) (hm : LsF m F) (hq : q < 801) (hr : RstPost w ns ds As Al At F k d p q e w') :
    Below w.heap.size w w' ∧ ∃ (v : Value) (E : Int), e = .returned (.tuple #[v, .int .i64 E]) ∧ NewOk (m + 1) g An Ad cn nd cd ns ds v E w' := by
  obtain ⟨h1 | ⟨h1, A1, A2, A3, n1, c1, n2, c2, n3, c3, h2, h3, h4⟩, hb⟩ := hr
  · exact ⟨hb.out, _, _, h1.2, none, none, none, 0, 0, 0, 0, 0, 0, rfl, fun e => absurd e h1.1⟩
  · exact ⟨hb.out, _, _, h2, A1, A2, A3, n1, c1, n2, c2, n3, c3, rfl, fun _ => ⟨_, h.new hb.out h3.out (h4.out g hg h.hs.2 h.hl.2 h.ht.2), evTo_ok h1, evTo_lsF hm hq⟩⟩
abbrev StGh := Value × Int × Array Value
/-- What start's drawn region holds. -/
def StG (H : Nat) (j : Nat) (γ : StGh) (v : Value) (w : World) : Prop := match j with
  | 4 => ∃ k d p q : Int, v = .agg #[.int .i64 k, .int .i64 d, .int .i64 p, .int .i64 q] ∧ q < 801
  | 5 => v = .tuple #[γ.1, .int .i64 γ.2.1]
  | 6 => v = .tuple #[γ.1, .int .i64 γ.2.1]
  | 7 => v = γ.1
  | 8 => v = .int .i64 γ.2.1
  | 9 => ∃ x, v = .pointer (some ⟨x, 0, none⟩) ∧ Blk w x 33 γ.2.2 ∧ H ≤ x
  | _ => True
theorem StG.later {H j : Nat} {γ : StGh} {v : Value} {w w' : World} (h : StG H j γ v w) (hb : Below w.heap.size w w') : StG H j γ v w' := by
  unfold StG at h ⊢
  split at h
  iterate 5 exact h
  · obtain ⟨x, h1, h2, h3⟩ := h; exact ⟨x, h1, h2.below hb h2.lt, h3⟩
  · exact h
theorem StG.grown {g H j : Nat} {γ : StGh} {v : Value} {w w' : World} (h : StG H j γ v w) (hg : w.grownBy w' (some g)) (hl : g < H) : StG H j γ v w' := by
  unfold StG at h ⊢
  split at h
  iterate 5 exact h
  · obtain ⟨x, h1, h2, h3⟩ := h; exact ⟨x, h1, h2.grown hg (fun e => by injection e; omega), h3⟩
  · exact h
/-- What holds at a point of start's drawn region. -/
structure StB (w : World) (g b : Nat) (An Ad As Al At : Option Addr) (cn nd cd n c nl cl nt ct : Nat) (ns : List Nd) (ds : List Dv) (F : Fd) (l : Array Bool) (γ : StGh) (W : World) : Prop where
  x : FdX g An Ad As Al At 6 cn nd cd n c nl cl nt ct ns ds F W
  m : StM w g b #[.slice An 6 cn, .slice Ad nd cd] #[.slice As n c, .slice Al nl cl, .slice At nt ct] W
  k : flag l 5 = true → NewOk (F.ls.length + 1) g An Ad cn nd cd ns ds γ.1 γ.2.1 W
  z : flag l 10 = false → γ.2.2 = #[.slice none 0 0, .slice none 0 0, .slice none 0 0]
  f : flag l 10 = true → γ.1 = .agg γ.2.2
  o : flag l 5 = false → flag l 6 = false ∧ flag l 7 = false ∧ flag l 8 = false ∧ flag l 10 = false
  o9 : flag l 9 = false → flag l 10 = false
theorem StB.keep {w W W' : World} {g b : Nat} {An Ad As Al At : Option Addr} {cn nd cd n c nl cl nt ct : Nat} {ns : List Nd} {ds : List Dv} {F : Fd} {l : Array Bool} {γ : StGh} {i : Nat} (h : StB w g b An Ad As Al At cn nd cd n c nl cl nt ct ns ds F l γ W) (h9s : i < l.size) (h5 : i ≠ 5) (h10 : i ≠ 10) (ho : flag l 5 = true ∨ (i ≠ 6 ∧ i ≠ 7 ∧ i ≠ 8))
    (hx : FdX g An Ad As Al At 6 cn nd cd n c nl cl nt ct ns ds F W') (hm : StM w g b #[.slice An 6 cn, .slice Ad nd cd] #[.slice As n c, .slice Al nl cl, .slice At nt ct] W') (hn : ∀ v E, NewOk (F.ls.length + 1) g An Ad cn nd cd ns ds v E W → NewOk (F.ls.length + 1) g An Ad cn nd cd ns ds v E W') : StB w g b An Ad As Al At cn nd cd n c nl cl nt ct ns ds F (l.setIfInBounds i true) γ W' := by
  refine ⟨hx, hm, fun e => hn _ _ (h.k ?_), fun e => h.z ?_, fun e => h.f ?_, fun e => ?_, fun e => ?_⟩
  · rwa [flag_ne (Ne.symm h5)] at e
  · rwa [flag_ne (Ne.symm h10)] at e
  · rwa [flag_ne (Ne.symm h10)] at e
  · rw [flag_ne (Ne.symm h5)] at e
    rcases ho with ho | ⟨h6, h7, h8⟩
    · rw [e] at ho; cases ho
    · rw [flag_ne (Ne.symm h6), flag_ne (Ne.symm h7), flag_ne (Ne.symm h8), flag_ne (Ne.symm h10)]
      exact h.o e
  · rw [flag_ne (Ne.symm h10)]
    by_cases h9 : i = 9
    · subst h9; rw [flag_same h9s] at e; cases e
    · rw [flag_ne (Ne.symm h9)] at e; exact h.o9 e
theorem StB.five {w W W' : World} {g b : Nat} {An Ad As Al At : Option Addr} {cn nd cd n c nl cl nt ct : Nat} {ns : List Nd} {ds : List Dv} {F : Fd} {l : Array Bool} {γ : StGh} {v : Value} {E : Int} (hB : StB w g b An Ad As Al At cn nd cd n c nl cl nt ct ns ds F l γ W) (hs : 5 < l.size) (hf : flag l 5 = false) (hb6 : Below W.heap.size W W') (hN : NewOk (F.ls.length + 1) g An Ad cn nd cd ns ds v E W') : StB w g b An Ad As Al At cn nd cd n c nl cl nt ct ns ds F (l.setIfInBounds 5 true) (v, E, γ.2.2) W' :=
  ⟨hB.x.later hb6, hB.m.later hb6, fun _ => hN, fun e => hB.z (by rwa [flag_ne (by decide)] at e), fun e => absurd e (by rw [flag_ne (by decide), (hB.o hf).2.2.2]; decide), fun e => absurd e (by rw [flag_same hs]; decide), fun e => (flag_ne (by decide)).trans (hB.o9 ((flag_ne (by decide)).symm.trans e))⟩
theorem StB.ten {w W : World} {g b x : Nat} {An Ad As Al At : Option Addr} {cn nd cd n c nl cl nt ct : Nat} {ns : List Nd} {ds : List Dv} {F : Fd} {l : Array Bool} {γ : StGh} {u0 u1 u2 : Value} (_hB : StB w g b An Ad As Al At cn nd cd n c nl cl nt ct ns ds F l γ W) (hs : 10 < l.size) (h5 : flag l 5 = true) (h9 : flag l 9 = true) (hv : γ.1 = .agg #[u0, u1, u2])
    (hx : FdX g An Ad As Al At 6 cn nd cd n c nl cl nt ct ns ds F (((W.setCell ⟨x, 0, none⟩ u0).setCell ⟨x, 1, none⟩ u1).setCell ⟨x, 2, none⟩ u2)) (hm : StM w g b #[.slice An 6 cn, .slice Ad nd cd] #[.slice As n c, .slice Al nl cl, .slice At nt ct] (((W.setCell ⟨x, 0, none⟩ u0).setCell ⟨x, 1, none⟩ u1).setCell ⟨x, 2, none⟩ u2))
    (hN : NewOk (F.ls.length + 1) g An Ad cn nd cd ns ds γ.1 γ.2.1 (((W.setCell ⟨x, 0, none⟩ u0).setCell ⟨x, 1, none⟩ u1).setCell ⟨x, 2, none⟩ u2)) : StB w g b An Ad As Al At cn nd cd n c nl cl nt ct ns ds F (l.setIfInBounds 10 true) (γ.1, γ.2.1, #[u0, u1, u2]) (((W.setCell ⟨x, 0, none⟩ u0).setCell ⟨x, 1, none⟩ u1).setCell ⟨x, 2, none⟩ u2) :=
  ⟨hx, hm, fun _ => hN, fun e => absurd e (by rw [flag_same hs]; decide), fun _ => hv, fun e => absurd e (by rw [flag_ne (by decide), h5]; decide), fun e => absurd e (by rw [flag_ne (by decide), h9]; decide)⟩
theorem StG.step5 {H j : Nat} {γ : StGh} {l : Array Bool} {u v : Value} {E : Int} {w : World} (hf : flag l 5 = false) (ho : flag l 6 = false ∧ flag l 7 = false ∧ flag l 8 = false ∧ flag l 10 = false) (hj : flag l j = true) (h : StG H j γ u w) : StG H j (v, E, γ.2.2) u w := by
  unfold StG at h ⊢
  split at h
  · exact h
  · rw [hf] at hj; cases hj
  · rw [ho.1] at hj; cases hj
  · rw [ho.2.1] at hj; cases hj
  · rw [ho.2.2.1] at hj; cases hj
  · exact h
  · exact h
/-! A store into a block of slices. -/
def AllSl (cs : Array Value) : Prop := ∀ (i : Nat) (u : Value), cs[i]? = some u → ∃ A n c, u = .slice A n c
def NoSl (xs : List Value) : Prop := ∀ u ∈ xs, ∀ A n c, u ≠ .slice A n c
theorem nosl_flat {α : Type} {f : α → List Value} (h : ∀ x, NoSl (f x)) (l : List α) : NoSl (l.flatMap f) := fun u hu => by
  obtain ⟨x, -, hx⟩ := List.mem_flatMap.1 hu
  exact h x u hx
theorem nosl_nd (l : List Nd) : NoSl (l.flatMap Nd.cells) := nosl_flat (fun x u hu => by simp only [Nd.cells, List.mem_cons, List.not_mem_nil, or_false] at hu; rcases hu with rfl | rfl | rfl <;> (intro A n c e; cases e)) l
theorem nosl_dv (l : List Dv) : NoSl (l.flatMap Dv.cells) := nosl_flat (fun x u hu => by simp only [Dv.cells, List.mem_cons, List.not_mem_nil, or_false] at hu; rcases hu with rfl | rfl | rfl | rfl | rfl <;> (intro A n c e; cases e)) l
theorem nosl_lk (l : List Lk) : NoSl (l.flatMap Lk.cells) := nosl_flat (fun x u hu => by simp only [Lk.cells, List.mem_cons, List.not_mem_nil, or_false] at hu; rcases hu with rfl | rfl | rfl <;> (intro A n c e; cases e)) l
theorem nosl_int (l : List Int) : NoSl (intsV l) := nosl_flat (fun x u hu => by simp only [List.mem_cons, List.not_mem_nil, or_false] at hu; subst hu; intro A n c e; cases e) l
theorem allsl3 (A1 A2 A3 : Option Addr) (n1 c1 n2 c2 n3 c3 : Nat) : AllSl #[.slice A1 n1 c1, .slice A2 n2 c2, .slice A3 n3 c3] := fun i u h => by
  match i, h with
  | 0, h => exact ⟨_, _, _, (Option.some.inj h).symm⟩
  | 1, h => exact ⟨_, _, _, (Option.some.inj h).symm⟩
  | 2, h => exact ⟨_, _, _, (Option.some.inj h).symm⟩
  | i + 3, h => cases h
theorem Sl.apart {w : World} {B size n c x i : Nat} {A : Option Addr} {xs : List Value} {t : TypeId} {cs : Array Value} (h : Sl w B size A n c xs) (hx : Blk w x t cs) (hs : AllSl cs) (hn : NoSl xs) (u : Value) : Sl (w.setCell ⟨x, i, none⟩ u) B size A n c xs := by
  obtain ⟨g1, g2, g3, g4, g5⟩ := h
  refine ⟨g1, g2, g3, g4, fun h => ?_⟩
  obtain ⟨b, off, e, hb, hc⟩ := g5 h
  refine ⟨b, off, e, hb, fun j v hv => ?_⟩
  rw [World.cell?_setCell_other w _ _ u (fun e2 => ?_)]
  · exact hc j v hv
  · have h1 := hc j v hv
    rw [← e2, hx.cell i] at h1
    obtain ⟨A', n', c', rfl⟩ := hs i v h1
    exact hn _ (List.mem_of_getElem? hv) _ _ _ rfl
theorem SlX.apart {w : World} {g x i size n c : Nat} {A : Option Addr} {xs : List Value} {t : TypeId} {cs : Array Value} (h : SlX w g size A n c xs) (hx : Blk w x t cs) (hs : AllSl cs) (hn : NoSl xs) (u : Value) : SlX (w.setCell ⟨x, i, none⟩ u) g size A n c xs :=
  ⟨(h.1.apart hx hs hn u).more (by simp), h.2⟩
theorem allsl2 (A1 A2 : Option Addr) (n1 c1 n2 c2 : Nat) : AllSl #[.slice A1 n1 c1, .slice A2 n2 c2] := fun i u h => by
  match i, h with
  | 0, h => exact ⟨_, _, _, (Option.some.inj h).symm⟩
  | 1, h => exact ⟨_, _, _, (Option.some.inj h).symm⟩
  | i + 2, h => cases h
theorem FdX.put {w w0 : World} {g x i nn cn nd cd n c nl cl nt ct : Nat} {An Ad As Al At : Option Addr} {ns : List Nd} {ds : List Dv} {F : Fd} {t : TypeId} {cs : Array Value} (h : FdX g An Ad As Al At nn cn nd cd n c nl cl nt ct ns ds F w) (hx : Blk w x t cs) (hs : AllSl cs) (hg : g < x) (h0 : Laid w0) (hl : w0.heap.size ≤ x) (u : Value) : FdX g An Ad As Al At nn cn nd cd n c nl cl nt ct ns ds F (w.setCell ⟨x, i, none⟩ u) :=
  ⟨h.dk.setCell (p := ⟨x, i, none⟩) hg _, h.hn.apart hx hs (nosl_nd _) u, h.hd.apart hx hs (nosl_dv _) u, h.hs.apart hx hs (nosl_int _) u, h.hl.apart hx hs (nosl_lk _) u, h.ht.apart hx hs (nosl_int _) u, h.la.grown h0 (grown_cell _ ⟨x, i, none⟩ _) hl, h.sn, h.sd⟩
section
variable {w w0 w1 : World} {g b x : Nat} {An Ad As Al At A1 A2 A3 B1 B2 B3 : Option Addr} {nn cn nd cd n c nl cl nt ct n1 c1 n2 c2 n3 c3 m1 d1 m2 d2 m3 d3 : Nat} {ns : List Nd} {ds : List Dv} {F : Fd} {t : TypeId}
theorem Sl.apart3 {B size : Nat} {A : Option Addr} {xs : List Value} (h : Sl w B size A n c xs) (hx : Blk w x t #[.slice B1 m1 d1, .slice B2 m2 d2, .slice B3 m3 d3]) (hn : NoSl xs) : Sl (((w.setCell ⟨x, 0, none⟩ (.slice A1 n1 c1)).setCell ⟨x, 1, none⟩ (.slice A2 n2 c2)).setCell ⟨x, 2, none⟩ (.slice A3 n3 c3)) B size A n c xs :=
  ((h.apart hx (allsl3 _ _ _ _ _ _ _ _ _) hn _).apart (hx.set 0 _) (allsl3 _ _ _ _ _ _ _ _ _) hn _).apart ((hx.set 0 _).set 1 _) (allsl3 _ _ _ _ _ _ _ _ _) hn _
theorem SlX.apart3 {size : Nat} {A : Option Addr} {xs : List Value} (h : SlX w g size A n c xs) (hx : Blk w x t #[.slice B1 m1 d1, .slice B2 m2 d2, .slice B3 m3 d3]) (hn : NoSl xs) : SlX (((w.setCell ⟨x, 0, none⟩ (.slice A1 n1 c1)).setCell ⟨x, 1, none⟩ (.slice A2 n2 c2)).setCell ⟨x, 2, none⟩ (.slice A3 n3 c3)) g size A n c xs :=
  ⟨(h.1.apart3 hx hn).more (by simp), h.2⟩
theorem FdX.out3 (h : FdX g An Ad As Al At nn cn nd cd n c nl cl nt ct ns ds F w) (hx : Blk w x t #[.slice B1 m1 d1, .slice B2 m2 d2, .slice B3 m3 d3]) (hg : g < x) (h0 : Laid w0) (hl : w0.heap.size ≤ x) : FdX g An Ad As Al At nn cn nd cd n c nl cl nt ct ns ds F (((w.setCell ⟨x, 0, none⟩ (.slice A1 n1 c1)).setCell ⟨x, 1, none⟩ (.slice A2 n2 c2)).setCell ⟨x, 2, none⟩ (.slice A3 n3 c3)) :=
  ⟨((h.dk.setCell (p := ⟨x, 0, none⟩) hg _).setCell (p := ⟨x, 1, none⟩) hg _).setCell (p := ⟨x, 2, none⟩) hg _, h.hn.apart3 hx (nosl_nd _), h.hd.apart3 hx (nosl_dv _), h.hs.apart3 hx (nosl_int _), h.hl.apart3 hx (nosl_lk _), h.ht.apart3 hx (nosl_int _), ((h.la.grown h0 (grown_cell _ ⟨x, 0, none⟩ _) hl).grown h0 (grown_cell _ ⟨x, 1, none⟩ _) hl).grown h0 (grown_cell _ ⟨x, 2, none⟩ _) hl, h.sn, h.sd⟩
theorem StM.out3 {w1 : World} {cn' cf : Array Value} (h : StM w1 g b cn' cf w) (hx : b + 2 ≤ x) (u v z : Value) : StM w1 g b cn' cf (((w.setCell ⟨x, 0, none⟩ u).setCell ⟨x, 1, none⟩ v).setCell ⟨x, 2, none⟩ z) := by
  have hb := h.hb
  have f : ∀ {q : Nat} {T : TypeId} {cs : Array Value}, q < x → Blk w q T cs → Blk (((w.setCell ⟨x, 0, none⟩ u).setCell ⟨x, 1, none⟩ v).setCell ⟨x, 2, none⟩ z) q T cs := fun hq hk => ((hk.far (p := ⟨x, 0, none⟩) (by simp; omega) _).far (p := ⟨x, 1, none⟩) (by simp; omega) _).far (p := ⟨x, 2, none⟩) (by simp; omega) _
  exact ⟨grown_set (grown_set (grown_set h.gr (p := ⟨x, 0, none⟩) (by simp; omega) _) (p := ⟨x, 1, none⟩) (by simp; omega) _) (p := ⟨x, 2, none⟩) (by simp; omega) _, f (by omega) h.r0, f (by omega) h.r1, f (by omega) h.b4, f (by omega) h.b6, h.hb⟩
theorem NewOk.out3 {m : Nat} {v : Value} {E : Int} (h : NewOk m g An Ad cn nd cd ns ds v E w) (hx : Blk w x t #[.slice B1 m1 d1, .slice B2 m2 d2, .slice B3 m3 d3]) (hg : g < x) (h0 : Laid w0) (hl : w0.heap.size ≤ x) : NewOk m g An Ad cn nd cd ns ds v E (((w.setCell ⟨x, 0, none⟩ (.slice A1 n1 c1)).setCell ⟨x, 1, none⟩ (.slice A2 n2 c2)).setCell ⟨x, 2, none⟩ (.slice A3 n3 c3)) := by
  obtain ⟨As, Al, At, n, c, nl, cl, nt, ct, h1, h2⟩ := h
  exact ⟨As, Al, At, n, c, nl, cl, nt, ct, h1, fun e => by obtain ⟨F, h3, h4⟩ := h2 e; exact ⟨F, h3.out3 hx hg h0 hl, h4⟩⟩
theorem StG.ten {H j : Nat} {γ : StGh} {vs : Nat → Value} {u v z : Value} {cs : Array Value} (h9 : vs 9 = .pointer (some ⟨x, 0, none⟩)) (hb : Blk w x 33 #[.slice B1 m1 d1, .slice B2 m2 d2, .slice B3 m3 d3]) (hx : H ≤ x) (hc : cs = #[u, v, z]) (h : StG H j γ (vs j) w) : StG H j (γ.1, γ.2.1, cs) (vs j) (((w.setCell ⟨x, 0, none⟩ u).setCell ⟨x, 1, none⟩ v).setCell ⟨x, 2, none⟩ z) := by
  subst hc
  unfold StG at h ⊢
  split at h
  iterate 5 exact h
  · exact ⟨x, h9, ((hb.set 0 u).set 1 v).set 2 z, hx⟩
  · exact h
theorem StM.fld {cn' cf : Array Value} {u v z a b' c' : Value} (h : StM w0 g b cn' #[a, b', c'] w) (hf : cf = #[u, v, z]) : StM w0 g b cn' cf (((w.setCell ⟨b + 1, 0, none⟩ u).setCell ⟨b + 1, 1, none⟩ v).setCell ⟨b + 1, 2, none⟩ z) := by
  subst hf
  have hb := h.hb
  have f : ∀ {q : Nat} {T : TypeId} {cs : Array Value}, q ≠ b + 1 → Blk w q T cs → Blk (((w.setCell ⟨b + 1, 0, none⟩ u).setCell ⟨b + 1, 1, none⟩ v).setCell ⟨b + 1, 2, none⟩ z) q T cs := fun hq hk => ((hk.far (p := ⟨b + 1, 0, none⟩) hq _).far (p := ⟨b + 1, 1, none⟩) hq _).far (p := ⟨b + 1, 2, none⟩) hq _
  exact ⟨grown_set (grown_set (grown_set h.gr (p := ⟨b + 1, 0, none⟩) (by simp; omega) _) (p := ⟨b + 1, 1, none⟩) (by simp; omega) _) (p := ⟨b + 1, 2, none⟩) (by simp; omega) _, f (by omega) h.r0, f (by omega) h.r1, f (by omega) h.b4, ((h.b6.set 0 u).set 1 v).set 2 z, h.hb⟩
/-- The two results are stored. -/
theorem StM.fin {F : Fd} (h : StM w0 g b #[.slice An 6 cn, .slice Ad nd cd] #[.slice As n c, .slice Al nl cl, .slice At nt ct] w) (hX : FdX g An Ad As Al At 6 cn nd cd n c nl cl nt ct ns ds F w) (hl : g < w0.heap.size) (hlw : Laid w1) (hge : w1.heap.size ≤ g) (hF : fdErr ns ds F = 0) (hn : 9 ≤ nd ∧ nd ≤ 10) (hL : LsF 20 F) :
    StartPost w0 g (.returned (.tuple #[.agg #[.slice An 6 cn, .slice Ad nd cd], .agg #[.slice As n c, .slice Al nl cl, .slice At nt ct]])) (((((w.setCell ⟨w0.heap.size, 0, none⟩ (.slice An 6 cn)).setCell ⟨w0.heap.size, 1, none⟩ (.slice Ad nd cd)).setCell ⟨w0.heap.size + 1, 0, none⟩ (.slice As n c)).setCell ⟨w0.heap.size + 1, 1, none⟩ (.slice Al nl cl)).setCell ⟨w0.heap.size + 1, 2, none⟩ (.slice At nt ct)) := by
  have e1 := ((h.r1.far (p := ⟨w0.heap.size, 0, none⟩) (by simp) (.slice An 6 cn)).far (p := ⟨w0.heap.size, 1, none⟩) (by simp) (.slice Ad nd cd))
  have x1 := hX.put (i := 0) h.r0 (allsl2 _ _ _ _ _ _) hl hlw (by omega) (.slice An 6 cn)
  have x2 := x1.put (i := 1) (h.r0.set 0 (.slice An 6 cn)) (allsl2 _ _ _ _ _ _) hl hlw (by omega) (.slice Ad nd cd)
  refine ⟨An, Ad, As, Al, At, cn, nd, cd, n, c, nl, cl, nt, ct, ns, ds, F, rfl, ?_, x2.out3 e1 (by omega) hlw (by omega), hF, hn, hL⟩
  exact grown_set (grown_set (grown_set (grown_set (grown_set h.gr (p := ⟨w0.heap.size, 0, none⟩) (by simp) _) (p := ⟨w0.heap.size, 1, none⟩) (by simp) _) (p := ⟨w0.heap.size + 1, 0, none⟩) (by simp) _) (p := ⟨w0.heap.size + 1, 1, none⟩) (by simp) _) (p := ⟨w0.heap.size + 1, 2, none⟩) (by simp) _
theorem StM.res (h : StM w0 g b #[.slice An 6 cn, .slice Ad nd cd] #[.slice As n c, .slice Al nl cl, .slice At nt ct] w) :
    Blk (((((w.setCell ⟨w0.heap.size, 0, none⟩ (.slice An 6 cn)).setCell ⟨w0.heap.size, 1, none⟩ (.slice Ad nd cd)).setCell ⟨w0.heap.size + 1, 0, none⟩ (.slice As n c)).setCell ⟨w0.heap.size + 1, 1, none⟩ (.slice Al nl cl)).setCell ⟨w0.heap.size + 1, 2, none⟩ (.slice At nt ct)) w0.heap.size 30 #[.slice An 6 cn, .slice Ad nd cd] ∧
    Blk (((((w.setCell ⟨w0.heap.size, 0, none⟩ (.slice An 6 cn)).setCell ⟨w0.heap.size, 1, none⟩ (.slice Ad nd cd)).setCell ⟨w0.heap.size + 1, 0, none⟩ (.slice As n c)).setCell ⟨w0.heap.size + 1, 1, none⟩ (.slice Al nl cl)).setCell ⟨w0.heap.size + 1, 2, none⟩ (.slice At nt ct)) (w0.heap.size + 1) 33 #[.slice As n c, .slice Al nl cl, .slice At nt ct] :=
  ⟨((((h.r0.set 0 (.slice An 6 cn)).set 1 (.slice Ad nd cd)).far (p := ⟨w0.heap.size + 1, 0, none⟩) (by simp) _).far (p := ⟨w0.heap.size + 1, 1, none⟩) (by simp) _).far (p := ⟨w0.heap.size + 1, 2, none⟩) (by simp) _, ((((h.r1.far (p := ⟨w0.heap.size, 0, none⟩) (by simp) _).far (p := ⟨w0.heap.size, 1, none⟩) (by simp) _).set 0 (.slice As n c)).set 1 (.slice Al nl cl)).set 2 (.slice At nt ct)⟩
theorem StartPost.drew {e : Ending} {w' : World} (h : StartPost w g e w') : StartPost w g e w'.drew := by
  obtain ⟨An, Ad, As, Al, At, cn, nd, cd, n, c, nl, cl, nt, ct, ns, ds, F, h1, h2, h3, h4⟩ := h
  exact ⟨An, Ad, As, Al, At, cn, nd, cd, n, c, nl, cl, nt, ct, ns, ds, F, h1, grown_drew h2.out, h3.out.later (Below.refl _ _).drew, h4⟩
end
end Go.Proofs.YtlcaebfjdhgcfaaDoor
