import Derived.Test.YtepicjpdhpojnaaGreatDoorX40
import Derived.Deep.Cut
namespace Go.Proofs.YtepicjpdhpojnaaGreatDoor
open Go.RowKit
def fd0 : Fd := ⟨[], [], []⟩
theorem pm (w : World) : Fd3 w none 0 0 none 0 0 none 0 0 fd0 := ⟨Sl.nil _ _ _, Sl.nil _ _ _, Sl.nil _ _ _⟩
noncomputable def stF (ns : List Nd) (ds : List Dv) (F : Fd) (k d p q : Int) : Fd := if zR ns ds F k d p q = 0 then yu ds F k d p q else fd0
noncomputable def ruF (ns : List Nd) (ds : List Dv) (F : Fd) (evs : List Ev) : Fd := if zk ns ds F = 0 then (oF ns ds F evs).1 else fd0
noncomputable def ruK (ns : List Nd) (ds : List Dv) (F : Fd) (evs : List Ev) : Int := if zk ns ds F = 0 then (oF ns ds F evs).2 else 0
section
variable {w w' : World} {ns : List Nd} {ds : List Dv} {F : Fd} {k d p q : Int} {e : Ending}
theorem xo.all (h : xo w ns ds F k d p q e w') : ∃ (A1 A2 A3 : Option Addr) (n1 c1 n2 c2 n3 c3 : Nat), e = .returned (.tuple #[.agg #[.slice A1 n1 c1, .slice A2 n2 c2, .slice A3 n3 c3], .int .i64 (zR ns ds F k d p q)]) ∧ Hid (Fd3 w' A1 n1 c1 A2 n2 c2 A3 n3 c3 (stF ns ds F k d p q)) ∧ Hid (Below w.heap.size w w') := by
 obtain ⟨⟨h1, h2⟩ | ⟨h0, A1, A2, A3, n1, c1, n2, c2, n3, c3, h1, h2, h3, h4⟩, h5⟩ := h
 ·exact ⟨none, none, none, 0, 0, 0, 0, 0, 0, h2, by unfold Hid stF; rw [if_neg h1]; exact pm _, h5⟩
 ·exact ⟨A1, A2, A3, n1, c1, n2, c2, n3, c3, by rw [h1, h0], by unfold Hid stF; rw [if_pos h0]; exact ⟨Sl.of_own h2.out, Sl.of_own h3.out, Sl.of_own h4.out⟩, h5⟩
theorem sB.all {As Al At : Option Addr} (h : sB w ns ds As Al At F k d p q e w') : ∃ (A1 A2 A3 : Option Addr) (n1 c1 n2 c2 n3 c3 : Nat), e = .returned (.tuple #[.agg #[.slice A1 n1 c1, .slice A2 n2 c2, .slice A3 n3 c3], .int .i64 (zR ns ds F k d p q)]) ∧ Hid (Fd3 w' A1 n1 c1 A2 n2 c2 A3 n3 c3 (stF ns ds F k d p q)) ∧ Hid (Below w.heap.size w w') := by
 obtain ⟨h1 | ⟨h1, A1, A2, A3, n1, c1, n2, c2, n3, c3, h2, h3, _⟩, hb⟩ := h
 ·exact ⟨none, none, none, 0, 0, 0, 0, 0, 0, h1.2, by unfold Hid stF; rw [if_neg h1.1]; exact pm _, hb⟩
 ·exact ⟨A1, A2, A3, n1, c1, n2, c2, n3, c3, by rw [h2, h1], by unfold Hid stF; rw [if_pos h1]; exact h3.out, hb⟩
theorem rE.all {evs : List Ev} (h : rE w ns ds F evs e w') : ∃ (A1 A2 A3 : Option Addr) (n1 c1 n2 c2 n3 c3 : Nat), e = .returned (.tuple #[.agg #[.slice A1 n1 c1, .slice A2 n2 c2, .slice A3 n3 c3], .int .i64 (ruK ns ds F evs), .int .i64 (zk ns ds F)]) ∧ Hid (Fd3 w' A1 n1 c1 A2 n2 c2 A3 n3 c3 (ruF ns ds F evs)) ∧ Hid (Below w.heap.size w w') := by
 obtain ⟨⟨h1, h2⟩ | ⟨h0, A1, A2, A3, n1, c1, n2, c2, n3, c3, h1, h2⟩, h5⟩ := h
 ·exact ⟨none, none, none, 0, 0, 0, 0, 0, 0, by rw [h2]; unfold ruK; rw [if_neg h1], by unfold Hid ruF; rw [if_neg h1]; exact pm _, h5⟩
 ·exact ⟨A1, A2, A3, n1, c1, n2, c2, n3, c3, by rw [h1, h0]; unfold ruK; rw [if_pos h0], by unfold Hid ruF; rw [if_pos h0]; exact h2.out, h5⟩
def FxQ (nn : Nat) (ns : List Nd) (ds : List Dv) (F : Fd) (l : List Int) : Prop := zk ns ds F ≠ 0 ∧ l = [] ∨ zk ns ds F = 0 ∧ ∃ cl, uJ nn ds F.s cl ∧ l = ua cl nn
theorem FxQ.one {nn : Nat} {l l' : List Int} (h : FxQ nn ns ds F l) (h' : FxQ nn ns ds F l') : l = l' := by
 rcases h with ⟨h1, rfl⟩ | ⟨h1, cl, h2, rfl⟩ <;> rcases h' with ⟨h3, rfl⟩ | ⟨h3, cl', h4, rfl⟩
 ·rfl
 ·exact absurd h3 h1
 ·exact absurd h1 h3
 ·rw [nF h2 h4]
theorem pt.all {nn : Nat} (h : pt w nn ns ds F e w') : ∃ (A : Option Addr) (m c : Nat) (l : List Int), e = .returned (.tuple #[.slice A m c, .int .i64 (zk ns ds F)]) ∧ Hid (Sl w' w'.heap.size 1 A m c (zK l)) ∧ Hid (FxQ nn ns ds F l) ∧ Hid (Below w.heap.size w w') := by
 rcases h with ⟨h1, h2, h3⟩ | ⟨h1, cl, A, m, c, h2, h3, h4, h5⟩
 ·exact ⟨none, 0, 0, [], h2, Sl.nil _ _ _, .inl ⟨h1, rfl⟩, h3⟩
 ·exact ⟨A, m, c, _, by rw [h2, h1], h4.out.sl, .inr ⟨h1, cl, h3.out, rfl⟩, h5⟩
def SeQ (nn : Nat) (ns : List Nd) (ds : List Dv) (F : Fd) (ls : List Lk) (z : List Int) (ea b : Bool) : Prop := yn ns ds F ls z ≠ 0 ∧ b = false ∨ yn ns ds F ls z = 0 ∧ ∃ cl, uJ nn ds F.s cl ∧ b = vV ns ds F ls z cl ea
theorem SeQ.one {nn : Nat} {ls : List Lk} {z : List Int} {ea b b' : Bool} (h : SeQ nn ns ds F ls z ea b) (h' : SeQ nn ns ds F ls z ea b') : b = b' := by
 rcases h with ⟨h1, rfl⟩ | ⟨h1, cl, h2, rfl⟩ <;> rcases h' with ⟨h3, rfl⟩ | ⟨h3, cl', h4, rfl⟩
 ·rfl
 ·exact absurd h3 h1
 ·exact absurd h1 h3
 ·rw [nF h2 h4]
theorem rD.all {nn : Nat} {ls : List Lk} {z : List Int} {ea : Bool} (h : rD w nn ns ds F ls z ea e w') : ∃ b : Bool, e = .returned (.tuple #[.bool b, .int .i64 (yn ns ds F ls z)]) ∧ Hid (SeQ nn ns ds F ls z ea b) ∧ Hid (Below w.heap.size w w') := by
 obtain ⟨⟨h1, h2⟩ | ⟨h1, cl, h2, h3⟩, h4⟩ := h
 ·exact ⟨false, h2, .inl ⟨h1, rfl⟩, h4⟩
 ·exact ⟨_, by rw [h3, h1], .inr ⟨h1, cl, h2.out, rfl⟩, h4⟩
end
theorem jF {P : Program} {s : Code} {b : Nat} {K : Act → World → Prop} {Q' : Exit → Act → World → Prop} {a : Act} {w : World} (R : Act → World → Prop)
 (rest : ∀ a' w', R a' w' → K a' w')
 (first : ∀ (J K' : Act → World → Prop), (∀ a' w', R a' w' → J a' w') → (∀ a' w', Met J a' w' → K' a' w') → s.wp P (Exit.inBlock b (Exit.then K' Q')) a w) : s.wp P (Exit.inBlock b (Exit.then K Q')) a w := by
 refine wp_mono (first R R (fun _ _ q => q) (fun _ _ q => q)) ?_
 intro e a' w' hq
 cases e with
 | normal => exact rest _ _ hq
 | exit id =>
  unfold Exit.inBlock at hq ⊢
  simp only at hq ⊢
  split
  ·rename_i h; rw [if_pos h] at hq; exact rest _ _ hq
  ·rename_i h; rw [if_neg h] at hq; exact hq
 | goto l => exact hq
 | ret => exact hq
 | panic ch => exact hq
 | outgrown => exact hq
theorem nT {P : Program} {s : Code} {b : Nat} {K : Act → World → Prop} {Q' : Exit → Act → World → Prop} {fr : List Value} {w : World} (rs : List (Nat × Nat)) (R : Value → World → Prop)
 (rest : ∀ u p w a, R p w → a = ⟨(zi u (v1 p) rs 0 fr).toArray, []⟩ → K a w)
 (first : ∀ (J K' : Act → World → Prop), (∀ a' w', nR R rs fr a' w' → J a' w') → (∀ a' w', Met J a' w' → K' a' w') → s.wp P (Exit.inBlock b (Exit.then K' Q')) ⟨fr.toArray, []⟩ w) : s.wp P (Exit.inBlock b (Exit.then K Q')) ⟨fr.toArray, []⟩ w :=
 jF (nR R rs fr) (fun a w ⟨u, p, h, ha⟩ => rest u p w a h ha) first
def HnF (M : World → Prop) (n gk : Nat) (iv : Value) (wr : World) : Prop := ∃ i : Nat, iv = .int .i64 i ∧ i ≤ n ∧ gk = n - i ∧ Hid (M wr)
structure jC (w : World) (R1 R2 R3 Az Ak : Option Addr) (r1 e1 r2 e2 r3 e3 nz cz nk ck : Nat) (FR : Fd) (z : List Int) (K : List Lk) : Prop where
 r : Fd3 w R1 r1 e1 R2 r2 e2 R3 r3 e3 FR
 z : Sl w w.heap.size 1 Az nz cz (zK z)
 k : Sl w w.heap.size 3 Ak nk ck (K.flatMap Lk.cells)
theorem jC.below {w W : World} {R1 R2 R3 Az Ak : Option Addr} {r1 e1 r2 e2 r3 e3 nz cz nk ck : Nat} {FR : Fd} {z : List Int} {K : List Lk} (h : jC w R1 R2 R3 Az Ak r1 e1 r2 e2 r3 e3 nz cz nk ck FR z K) (hb : Below w.heap.size w W) : jC W R1 R2 R3 Az Ak r1 e1 r2 e2 r3 e3 nz cz nk ck FR z K :=
 ⟨yE h.r hb, (h.z.below hb lR).more hb.size, (h.k.below hb lR).more hb.size⟩
structure mR (w : World) (cr ce : Array Value) (W : World) : Prop where
 r : Blk W w.heap.size 35 cr
 e : Blk W (w.heap.size + 1) 44 ce
 bl : Below w.heap.size w W
theorem mR.later {w W W' : World} {cr ce : Array Value} (h : mR w cr ce W) (hb : Below W.heap.size W W') : mR w cr ce W' := ⟨h.r.below hb h.r.lt, h.e.below hb h.e.lt, h.bl.trans (hb.mono h.bl.size)⟩
theorem mR.new (w : World) (cr ce : Array Value) : mR w cr ce ((w.alloc (.cells cr 35)).alloc (.cells ce 44)) := by
 have h := Blk.new (w.alloc (.cells cr 35)) 44 ce
 rw [World.size_alloc] at h
 exact ⟨(Blk.new w _ _).alloc _, h, ((Below.refl _ _).alloc lR _).alloc (by simp) _⟩
theorem FlM.put {w wr : World} {nb x i : Nat} {An Ad As Al At : Option Addr} {cn nd cd n c nl cl nt ct : Nat} {ns : List Nd} {ds : List Dv} {F : Fd} {t : TypeId} {cs : Array Value} (h : FlM w nb An Ad As Al At cn nd cd n c nl cl nt ct ns ds F wr) (hl : Laid w) (hx : Blk wr x t cs) (hs : pL cs) (hxb : nb + 1 < x) (u : Value) : FlM w nb An Ad As Al At cn nd cd n c nl cl nt ct ns ds F (wr.setCell ⟨x, i, none⟩ u) := by
 have hge := h.ge
 exact ⟨h.x.put hx hs (by omega) hl (by omega) u, h.bn.far (by simp; omega) _, h.bf.far (by simp; omega) _, h.bl.setCell (by simp; omega) _, hge⟩
def nQ (w : World) (nb bb : Nat) (An Ad As Al At : Option Addr) (cn nd cd n c nl cl nt ct : Nat) (ns : List Nd) (ds : List Dv) (F : Fd) (wc : World) : Prop :=
 ∃ (Y1 Y2 Y3 : Option Addr) (m1 d1 m2 d2 m3 d3 : Nat) (FB : Fd), Hid (FlM w nb An Ad As Al At cn nd cd n c nl cl nt ct ns ds F wc) ∧ Hid (Blk wc bb 35 #[.slice Y1 m1 d1, .slice Y2 m2 d2, .slice Y3 m3 d3]) ∧ Hid (SlX wc w.heap.size 1 Y1 m1 d1 (zK FB.s)) ∧ Hid (SlX wc w.heap.size 3 Y2 m2 d2 (FB.ls.flatMap Lk.cells)) ∧ Hid (SlX wc w.heap.size 1 Y3 m3 d3 (zK FB.st))
theorem xi.flm {w : World} {nb : Nat} {An Ad As Al At : Option Addr} {cn nd cd n c nl cl nt ct : Nat} {ns : List Nd} {ds : List Dv} {F : Fd} (hl : Laid w) : xi w.heap.size (FlM w nb An Ad As Al At cn nd cd n c nl cl nt ct ns ds F) := ⟨fun h hb => h.later hb, fun h hg hd => h.grown hl hg hd⟩
end Go.Proofs.YtepicjpdhpojnaaGreatDoor
