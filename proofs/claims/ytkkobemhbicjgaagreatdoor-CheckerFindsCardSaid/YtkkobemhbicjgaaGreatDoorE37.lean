import Derived.Test.YtkkobemhbicjgaaGreatDoorE36
namespace Go.Proofs.YtkkobemhbicjgaaGreatDoor
open Go.RowKit
def KeB (B ob : Nat) (Ao A : Option Addr) (n : Nat) : Prop := 0 < n → ∀ b off, A = some ⟨b, off, none⟩ → B ≤ b ∧ b ≠ ob ∧ ∀ o', Ao ≠ some ⟨b, o', none⟩
structure CM (w : World) (bb : Nat) (L : List (TypeId × Array Value)) (co : Int) (As Al Ap Ao : Option Addr) (n c nl cl np cp mo cx : Nat) (t : Sm) (out : List Fn) (fl : Bool) (wr : World) : Prop where
 x : Bxs w L wr
 b : Blk wr bb 96 #[.slice As n c, .int .i64 co, .slice Al nl cl, .slice Ap np cp, .bool fl]
 s : Sl wr wr.heap.size 1 As n c (zD t.s)
 l : Sl wr wr.heap.size 3 Al nl cl (t.ls.flatMap Lk.cells)
 p : Sl wr wr.heap.size 1 Ap np cp (zD t.pr)
 o : wr.ownsRow (bb + 1) 53 2 (.slice Ao mo cx) mo (out.flatMap Fn.cells)
 ks : KeB (w.heap.size + 4) bb Ao As n
 kl : KeB (w.heap.size + 4) bb Ao Al nl
 kp : KeB (w.heap.size + 4) bb Ao Ap np
 hb : w.heap.size + 4 ≤ bb
 hL : L.length = 4
structure CK (w : World) (bb x : Nat) (co : Int) (Ao A1 A2 Al Ap : Option Addr) (n1 c1 n2 c2 nl cl np cp : Nat) (h : List Int) (t : Sm) (ov : Bool) (wr : World) : Prop where
 a : yZ wr A1 A2 Al Ap n1 c1 n2 c2 nl cl np cp ⟨h, t, true⟩
 k1 : KeB (w.heap.size + 4) bb Ao A1 n1
 k2 : KeB (w.heap.size + 4) bb Ao A2 n2
 kl : KeB (w.heap.size + 4) bb Ao Al nl
 kp : KeB (w.heap.size + 4) bb Ao Ap np
 bx : Blk wr x 96 #[.slice A2 n2 c2, .int .i64 co, .slice Al nl cl, .slice Ap np cp, .bool ov]
 hx : bb < x ∧ ∀ o', Ao ≠ some ⟨x, o', none⟩
section
variable {w wr wr' : World} {bb x B0 : Nat} {L : List (TypeId × Array Value)} {As Al Ap Ao A1 A2 B3 B4 A A' : Option Addr} {n c nl cl np cp mo cx n1 c1 n2 c2 m3 e3 m4 e4 m d size cx' : Nat} {co : Int} {t t' : Sm} {out : List Fn} {h : List Int} {ov fl : Bool} {f : Fn} {xs : List Value}
theorem CM.later (k : CM w bb L co As Al Ap Ao n c nl cl np cp mo cx t out fl wr) (hb : Below wr.heap.size wr wr') : CM w bb L co As Al Ap Ao n c nl cl np cp mo cx t out fl wr' :=
 ⟨k.x.later hb, k.b.below hb k.b.lt, (k.s.below hb lR).more hb.size, (k.l.below hb lR).more hb.size, (k.p.below hb lR).more hb.size, zt k.o hb, k.ks, k.kl, k.kp, k.hb, k.hL⟩
theorem CK.later (k : CK w bb x co Ao A1 A2 B3 B4 n1 c1 n2 c2 m3 e3 m4 e4 h t ov wr) (hb : Below wr.heap.size wr wr') : CK w bb x co Ao A1 A2 B3 B4 n1 c1 n2 c2 m3 e3 m4 e4 h t ov wr' :=
 ⟨k.a.later hb, k.k1, k.k2, k.kl, k.kp, k.bx.below hb k.bx.lt, k.hx⟩
theorem KeB.fre {B : Nat} (h : KeB B0 bb Ao A n) (hf : Fre B A A' n m) (hB : bb < B) (hw : B0 ≤ B) (ho : ∀ b o', Ao = some ⟨b, o', none⟩ → b < B) : KeB B0 bb Ao A' m := by
 intro hm b off e
 rcases hf with ⟨hf, hn⟩ | hf
 ·subst hf; exact h (by omega) b off e
 ·have := hf b off e
  refine ⟨by omega, by omega, fun o' e2 => ?_⟩
  have := ho b o' e2; omega
theorem KeB.nil (n : Nat) : KeB B0 bb Ao none n := fun _ b off e => by cases e
theorem KeB.own {e : TypeId} {base : Nat} (h : wr.ownsRow base e size (.slice A m d) m xs) (hB : B0 ≤ base) (hn : ∀ b off, A = some ⟨b, off, none⟩ → b ≠ bb) : KeB B0 bb Option.none A n := fun _ b off e => ⟨Nat.le_trans hB (vP h b off e), hn b off e, fun o' e2 => by cases e2⟩
theorem kg (o : wr.ownsRow (bb + 1) 53 2 (.slice Ao mo cx) mo xs) : (∀ b o', Ao = some ⟨b, o', none⟩ → b < wr.heap.size) := fun b o' e => by
 rcases yv o with h | ⟨g, h, h1, h2⟩
 ·rw [h] at e; cases e
 ·rw [h] at e; injection e with e; injection e with e _; omega
theorem KeB.grow (h : KeB B0 bb Ao A m) (hs : Sl wr wr.heap.size size A m d xs) (hat : (Value.slice A' (mo + 1) cx').ownBlock = (Value.slice Ao mo cx).ownBlock ∨ (Value.slice A' (mo + 1) cx').ownBlock = some wr.heap.size) (hA' : A' = none ∨ ∃ g, A' = some ⟨g, 0, none⟩) (hA : Ao = none ∨ ∃ g, Ao = some ⟨g, 0, none⟩) : KeB B0 bb A' A m := by
 intro hm b off e
 obtain ⟨h1, h2, h3⟩ := h hm b off e
 refine ⟨h1, h2, fun o' e2 => ?_⟩
 obtain ⟨b', off', e3, hb, -⟩ := hs.2.2.2.2 hm
 rw [e] at e3; injection e3 with e3; injection e3 with e3 _; subst e3
 rcases hA' with rfl | ⟨g, rfl⟩
 ·cases e2
 injection e2 with e2; injection e2 with e2 _; subst e2
 rcases hat with h4 | h4
 ·obtain ⟨o2, h5⟩ := qH Ao mo cx g (by rw [← h4]; rfl) hA
  exact h3 o2 h5
 ·simp [Value.ownBlock] at h4; omega
theorem uF (hk : KeB B0 bb Ao A m) (hs : Sl wr wr.heap.size size A m d xs) (hg : wr.grownBy wr' (Value.slice Ao mo cx).ownBlock) (fA : Ao = none ∨ ∃ g, Ao = some ⟨g, 0, none⟩) : Sl wr' wr'.heap.size size A m d xs :=
 hs.kept hg fun hm b off e e2 => by
  obtain ⟨o2, h5⟩ := qH Ao mo cx b e2 fA
  exact (hk hm b off e).2.2 o2 h5
theorem CM.app (k : CM w bb L co As Al Ap Ao n c nl cl np cp mo cx t out fl wr) (hg : wr.grownBy wr' (Value.slice Ao mo cx).ownBlock) (hat : (Value.slice A' (mo + 1) cx').ownBlock = (Value.slice Ao mo cx).ownBlock ∨ (Value.slice A' (mo + 1) cx').ownBlock = some wr.heap.size) (hr : wr'.ownsRow (bb + 1) 53 2 (.slice A' (mo + 1) cx') (mo + 1) (out.flatMap Fn.cells ++ f.cells)) :
 CM w bb L co As Al Ap A' n c nl cl np cp (mo + 1) cx' t (out ++ [f]) fl wr' := by
 have fA : Ao = none ∨ ∃ g, Ao = some ⟨g, 0, none⟩ := (yv k.o).imp id fun ⟨g, e, _⟩ => ⟨g, e⟩
 have fA' : A' = none ∨ ∃ g, A' = some ⟨g, 0, none⟩ := (yv hr).imp id fun ⟨g, e, _⟩ => ⟨g, e⟩
 have nb : ∀ {g : Nat}, g ≤ bb → some g ≠ (Value.slice Ao mo cx).ownBlock := fun {g} hg e => by have := (k.o.lt g e.symm).1; omega
 have hw := k.hb
 refine ⟨⟨fun i T cs hi => (k.x.b i T cs hi).grown hg (nb (by have := (List.getElem?_eq_some_iff.1 hi).1; have := k.hL; omega)), ?_⟩, k.b.grown hg (nb lR), uF k.ks k.s hg fA, uF k.kl k.l hg fA, uF k.kp k.p hg fA, ?_, k.ks.grow k.s hat fA' fA, k.kl.grow k.l hat fA' fA, k.kp.grow k.p hat fA' fA, k.hb, k.hL⟩
 ·exact ⟨hg.os.trans k.x.l.os, hg.tape.trans k.x.l.tape, hg.output.trans k.x.l.output, Nat.le_trans k.x.l.size hg.size, fun i hi => (hg.block i (Nat.lt_of_lt_of_le hi k.x.l.size) (nb (by omega))).trans (k.x.l.block i hi)⟩
 ·rw [List.flatMap_append, List.flatMap_cons, List.flatMap_nil, List.append_nil]; exact hr
theorem CK.app (o : wr.ownsRow (bb + 1) 53 2 (.slice Ao mo cx) mo xs) (k : CK w bb x co Ao A1 A2 B3 B4 n1 c1 n2 c2 m3 e3 m4 e4 h t ov wr) (hg : wr.grownBy wr' (Value.slice Ao mo cx).ownBlock) (hat : (Value.slice A' (mo + 1) cx').ownBlock = (Value.slice Ao mo cx).ownBlock ∨ (Value.slice A' (mo + 1) cx').ownBlock = some wr.heap.size) (hA' : A' = none ∨ ∃ g, A' = some ⟨g, 0, none⟩) :
 CK w bb x co A' A1 A2 B3 B4 n1 c1 n2 c2 m3 e3 m4 e4 h t ov wr' := by
 have fA : Ao = none ∨ ∃ g, Ao = some ⟨g, 0, none⟩ := (yv o).imp id fun ⟨g, e, _⟩ => ⟨g, e⟩
 refine ⟨⟨uF k.k1 k.a.h hg fA, uF k.k2 k.a.s hg fA, uF k.kl k.a.l hg fA, uF k.kp k.a.p hg fA⟩, k.k1.grow k.a.h hat hA' fA, k.k2.grow k.a.s hat hA' fA, k.kl.grow k.a.l hat hA' fA, k.kp.grow k.a.p hat hA' fA, k.bx.grown hg (fun e => ?_), k.hx.1, fun o' e => ?_⟩
 ·obtain ⟨o2, h5⟩ := qH Ao mo cx x e fA
  exact k.hx.2 o2 h5
 ·rcases hA' with rfl | ⟨g, rfl⟩
  ·cases e
  injection e with e; injection e with e _; subst e
  rcases hat with h4 | h4
  ·obtain ⟨o2, h5⟩ := qH Ao mo cx g (by rw [← h4]; rfl) fA
   exact k.hx.2 o2 h5
  ·simp [Value.ownBlock] at h4; have := k.bx.lt; omega
theorem CM.put (k : CM w bb L co As Al Ap Ao n c nl cl np cp mo cx t out fl wr) (q : CK w bb x co Ao A1 A2 B3 B4 n1 c1 n2 c2 m3 e3 m4 e4 h t' ov wr) :
 CM w bb L co A2 B3 B4 Ao n2 c2 m3 e3 m4 e4 mo cx t' out ov (st5 wr bb (.slice A2 n2 c2) (.int .i64 co) (.slice B3 m3 e3) (.slice B4 m4 e4) (.bool ov)) := by
 have hw := k.hb
 have of : ∀ {A : Option Addr} {m : Nat}, KeB (w.heap.size + 4) bb Ao A m → 0 < m → ∀ b off, A = some ⟨b, off, none⟩ → b ≠ bb := fun hk hm b off e => (hk hm b off e).2.1
 have hL := k.hL
 refine ⟨((((k.x.put (by omega) 0 _).put (by omega) 1 _).put (by omega) 2 _).put (by omega) 3 _).put (by omega) 4 _, ((((k.b.set 0 _).set 1 _).set 2 _).set 3 _).set 4 _, uV q.a.s (of q.k2), uV q.a.l (of q.kl), uV q.a.p (of q.kp), ?_, q.k2, q.kl, q.kp, k.hb, k.hL⟩
 have f : ∀ {i : Nat} {u : Value} {W : World}, W.ownsRow (bb + 1) 53 2 (.slice Ao mo cx) mo (out.flatMap Fn.cells) → (W.setCell ⟨bb, i, none⟩ u).ownsRow (bb + 1) 53 2 (.slice Ao mo cx) mo (out.flatMap Fn.cells) := fun hh => wi hh (by omega)
 exact f (f (f (f (f k.o))))
theorem CM.mem {An Ad : Option Addr} {nn cn nd cd : Nat} {ns : List Nd} {ds : List Dv} {m0 : List Int} {ls0 : List Lk} {pr0 : List Int} {A0 A5 A6 : Option Addr} {k0 d0 k1 d1 k2 d2 : Nat} (k : CM w bb L co As Al Ap Ao n c nl cl np cp mo cx t out fl wr) (hh : yX w An Ad A0 A5 A6 nn cn nd cd k0 d0 k1 d1 k2 d2 ns ds m0 ls0 pr0) : yX wr An Ad As Al Ap nn cn nd cd n c nl cl np cp ns ds t.s t.ls t.pr :=
 ⟨(hh.below k.x.l).hn, (hh.below k.x.l).hd, k.s, k.l, k.p, (hh.below k.x.l).la, hh.sn, hh.sd⟩
end
theorem jf (ns : List Nd) (ds : List Dv) (co : Int) (t : Sm) (x : Sp) : (zu ns ds co t x).h.length ≤ 8 := by
 have hu : ∀ a b : Int, (uR a b).length ≤ 1 := fun a b => by unfold uR; split <;> simp
 unfold zu
 split
 ·have := jC ns ds t.s x.dev x.kind co t.ls t.pr; dsimp only; omega
 split
 ·split <;> simp
 split
 ·split <;> simp
 split
 ·simp
 split
 ·have := hu (t.s.getD x.dev.toNat 0) x.pos; dsimp only; omega
 split
 ·have := hu (t.s.getD x.dev.toNat 0) x.pos; dsimp only; omega
 ·have := hu (t.s.getD x.dev.toNat 0) x.pos; dsimp only; rw [List.length_cons]; omega
end Go.Proofs.YtkkobemhbicjgaaGreatDoor
