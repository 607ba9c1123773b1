import Derived.Test.YtkkobemhbicjgaaGreatDoorD30
import Derived.Test.YtkkobemhbicjgaaGreatDoorD26
import Derived.Test.YtkkobemhbicjgaaGreatDoorD20
import Derived.Test.YtkkobemhbicjgaaGreatDoorD33
namespace Go.Proofs.YtkkobemhbicjgaaGreatDoor
open Go.RowKit
def Ke (w : World) (ob : Nat) (Ao A : Option Addr) (n : Nat) : Prop := 0 < n → ∀ b off, A = some ⟨b, off, none⟩ → w.heap.size + 6 ≤ b ∧ b ≠ ob ∧ ∀ o', Ao ≠ some ⟨b, o', none⟩
structure RM (w : World) (ob : Nat) (An Ad A5 : Option Addr) (nn cn nd cd n5 c5 : Nat) (co : Int) (pg : Array Value) (As Al Ap Ao : Option Addr) (n c nl cl np cp mo cx : Nat) (t : Sm) (out : List Fn) (wr : World) : Prop where
 b0 : Blk wr w.heap.size 30 #[.slice An nn cn, .slice Ad nd cd]
 b1 : Blk wr (w.heap.size + 1) 22 #[.slice As n c]
 b2 : Blk wr (w.heap.size + 2) 37 #[.int .i64 co, .slice Al nl cl, .slice Ap np cp]
 b3 : Blk wr (w.heap.size + 3) 41 pg
 b4 : Blk wr (w.heap.size + 4) 22 #[.slice A5 n5 c5]
 b5 : Blk wr (w.heap.size + 5) 37 #[.int .i64 0, .slice none 0 0, .slice none 0 0]
 bo : Blk wr ob 45 #[.slice Ao mo cx]
 s : Sl wr wr.heap.size 1 As n c (intsV t.s)
 l : Sl wr wr.heap.size 3 Al nl cl (t.ls.flatMap Lk.cells)
 p : Sl wr wr.heap.size 1 Ap np cp (intsV t.pr)
 o : wr.ownsRow (ob + 1) 53 2 (.slice Ao mo cx) mo (out.flatMap Fn.cells)
 ks : Ke w ob Ao As n
 kl : Ke w ob Ao Al nl
 kp : Ke w ob Ao Ap np
 bl : Below w.heap.size w wr
 hob : w.heap.size + 6 ≤ ob
structure SK (w : World) (ob x : Nat) (co : Int) (Ao A1 A2 Al Ap : Option Addr) (n1 c1 n2 c2 nl cl np cp : Nat) (o : So) (wr : World) : Prop where
 a : SoAt wr A1 A2 Al Ap n1 c1 n2 c2 nl cl np cp o
 k1 : Ke w ob Ao A1 n1
 k2 : Ke w ob Ao A2 n2
 kl : Ke w ob Ao Al nl
 kp : Ke w ob Ao Ap np
 bx : Blk wr x 37 #[.int .i64 co, .slice Al nl cl, .slice Ap np cp]
 hx : ob < x ∧ ∀ o', Ao ≠ some ⟨x, o', none⟩
section
variable {w wr wr' : World} {ob : Nat} {An Ad A5 As Al Ap Ao : Option Addr} {nn cn nd cd n5 c5 n c nl cl np cp mo cx : Nat} {co : Int} {pg : Array Value} {t : Sm} {out : List Fn}
theorem RM.later (h : RM w ob An Ad A5 nn cn nd cd n5 c5 co pg As Al Ap Ao n c nl cl np cp mo cx t out wr) (hb : Below wr.heap.size wr wr') : RM w ob An Ad A5 nn cn nd cd n5 c5 co pg As Al Ap Ao n c nl cl np cp mo cx t out wr' :=
 ⟨h.b0.below hb h.b0.lt, h.b1.below hb h.b1.lt, h.b2.below hb h.b2.lt, h.b3.below hb h.b3.lt, h.b4.below hb h.b4.lt, h.b5.below hb h.b5.lt, h.bo.below hb h.bo.lt, (h.s.below hb (Nat.le_refl _)).more hb.size, (h.l.below hb (Nat.le_refl _)).more hb.size, (h.p.below hb (Nat.le_refl _)).more hb.size, own_later h.o hb, h.ks, h.kl, h.kp, h.bl.trans (hb.mono h.bl.size), h.hob⟩
theorem Ke.fre {B m : Nat} {A A' : Option Addr} (h : Ke w ob Ao A n) (hf : Fre B A A' n m) (hB : ob < B) (hw : w.heap.size + 6 ≤ ob) (ho : ∀ b o', Ao = some ⟨b, o', none⟩ → b < B) : Ke w ob Ao A' m := by
 intro hm b off e
 rcases hf with ⟨hf, hn⟩ | hf
 ·subst hf; exact h (by omega) b off e
 ·have := hf b off e
  refine ⟨by omega, by omega, fun o' e2 => ?_⟩
  have := ho b o' e2; omega
theorem Sl.kept {size m d : Nat} {A : Option Addr} {xs : List Value} {row : Option Nat} (h : Sl wr wr.heap.size size A m d xs) (hg : wr.grownBy wr' row) (ha : 0 < m → ∀ b off, A = some ⟨b, off, none⟩ → some b ≠ row) : Sl wr' wr'.heap.size size A m d xs := by
 obtain ⟨h1, h2, h3, h4, h5⟩ := h
 refine ⟨h1, h2, h3, h4, fun h0 => ?_⟩
 obtain ⟨b, off, e, hb, hc⟩ := h5 h0
 refine ⟨b, off, e, Nat.lt_of_lt_of_le hb hg.size, fun j u hu => ?_⟩
 rw [← hc j u hu]
 exact World.cell?_of_block (hg.block b hb (ha h0 b off e))
theorem ownB (A : Option Addr) (m d b : Nat) (h : some b = (Value.slice A m d).ownBlock) (hA : A = none ∨ ∃ g, A = some ⟨g, 0, none⟩) : ∃ o', A = some ⟨b, o', none⟩ := by
 rcases hA with rfl | ⟨g, rfl⟩
 ·cases h
 ·refine ⟨0, ?_⟩; simp [Value.ownBlock] at h; rw [h]
theorem own_form {base size m d : Nat} {e : TypeId} {A : Option Addr} {xs : List Value} (h : wr.ownsRow base e size (.slice A m d) m xs) : A = none ∨ ∃ g, A = some ⟨g, 0, none⟩ ∧ base ≤ g ∧ g < wr.heap.size := by
 have hl := h.lt
 rcases h.2 with ⟨h0, -⟩ | ⟨g, cap, cur, h0, hg, -⟩
 ·injection h0 with h0; exact .inl h0
 ·injection h0 with h0; subst h0; exact .inr ⟨g, rfl, hl g rfl⟩
structure Gr (w : World) (ob : Nat) (Ao : Option Addr) (mo cx : Nat) (A' : Option Addr) (cx' : Nat) (wr wr' : World) : Prop where
 g : wr.grownBy wr' (Value.slice Ao mo cx).ownBlock
 at' : (Value.slice A' (mo + 1) cx').ownBlock = (Value.slice Ao mo cx).ownBlock ∨ (Value.slice A' (mo + 1) cx').ownBlock = some wr.heap.size
theorem Ke.grow {m d size : Nat} {A A' : Option Addr} {xs : List Value} {cx' : Nat} (h : Ke w ob Ao A m) (hs : Sl wr wr.heap.size size A m d xs) (hG : Gr w ob Ao mo cx A' cx' wr wr') (hA' : A' = none ∨ ∃ g, A' = some ⟨g, 0, none⟩) (hA : Ao = none ∨ ∃ g, Ao = some ⟨g, 0, none⟩) : Ke w ob A' A m := by
 intro hm b off e
 obtain ⟨h1, h2, h3⟩ := h hm b off e
 refine ⟨h1, h2, fun o' e2 => ?_⟩
 obtain ⟨b', off', e3, hb, -⟩ := hs.2.2.2.2 hm
 rw [e] at e3; injection e3 with e3; injection e3 with e3 _; subst e3
 rcases hA' with rfl | ⟨g, rfl⟩
 ·cases e2
 injection e2 with e2; injection e2 with e2 _; subst e2
 rcases hG.at' with h4 | h4
 ·obtain ⟨o2, h5⟩ := ownB Ao mo cx g (by rw [← h4]; rfl) hA
  exact h3 o2 h5
 ·simp [Value.ownBlock] at h4; omega
end
section
variable {w wr wr' : World} {ob x : Nat} {An Ad A5 As Al Ap Ao A1 A2 B3 B4 A' : Option Addr} {nn cn nd cd n5 c5 n c nl cl np cp mo cx n1 c1 n2 c2 m3 e3 m4 e4 cx' : Nat} {co : Int} {pg : Array Value} {t : Sm} {out : List Fn} {so : So} {f : Fn}
theorem own_nb (h : RM w ob An Ad A5 nn cn nd cd n5 c5 co pg As Al Ap Ao n c nl cl np cp mo cx t out wr) {g : Nat} (hg : g ≤ ob) : some g ≠ (Value.slice Ao mo cx).ownBlock := fun e => by
 have := (h.o.lt g e.symm).1; omega
theorem RM.app (h : RM w ob An Ad A5 nn cn nd cd n5 c5 co pg As Al Ap Ao n c nl cl np cp mo cx t out wr) (hG : Gr w ob Ao mo cx A' cx' wr wr') (hr : wr'.ownsRow (ob + 1) 53 2 (.slice A' (mo + 1) cx') (mo + 1) (out.flatMap Fn.cells ++ f.cells)) :
 RM w ob An Ad A5 nn cn nd cd n5 c5 co pg As Al Ap A' n c nl cl np cp (mo + 1) cx' t (out ++ [f]) (wr'.setCell ⟨ob, 0, none⟩ (.slice A' (mo + 1) cx')) := by
 have hw := h.hob
 have fA : Ao = none ∨ ∃ g, Ao = some ⟨g, 0, none⟩ := (own_form h.o).imp id fun ⟨g, e, _⟩ => ⟨g, e⟩
 have fA' : A' = none ∨ ∃ g, A' = some ⟨g, 0, none⟩ := (own_form hr).imp id fun ⟨g, e, _⟩ => ⟨g, e⟩
 have bk : ∀ {g : Nat} {T : TypeId} {cs : Array Value}, g < ob → Blk wr g T cs → Blk (wr'.setCell ⟨ob, 0, none⟩ (.slice A' (mo + 1) cx')) g T cs := fun {g T cs} hg hb => (hb.grown hG.g (own_nb h (by omega))).far (by show g ≠ ob; omega) _
 have hsz : wr'.heap.size = (wr'.setCell ⟨ob, 0, none⟩ (.slice A' (mo + 1) cx')).heap.size := by simp [World.setCell]
 have ap : ∀ {A : Option Addr} {m : Nat}, Ke w ob Ao A m → 0 < m → ∀ b off, A = some ⟨b, off, none⟩ → some b ≠ (Value.slice Ao mo cx).ownBlock := fun {A m} hk hm b off e e2 => by
  obtain ⟨o2, h5⟩ := ownB Ao mo cx b e2 fA
  exact (hk hm b off e).2.2 o2 h5
 have sl : ∀ {A : Option Addr} {m d size : Nat} {xs : List Value}, Ke w ob Ao A m → Sl wr wr.heap.size size A m d xs → Sl (wr'.setCell ⟨ob, 0, none⟩ (.slice A' (mo + 1) cx')) (wr'.setCell ⟨ob, 0, none⟩ (.slice A' (mo + 1) cx')).heap.size size A m d xs := fun {A m d size xs} hk hs => by
  rw [← hsz]
  have h1 := hs.kept hG.g (ap hk)
  refine ⟨h1.1, h1.2.1, h1.2.2.1, h1.2.2.2.1, fun hn => ?_⟩
  obtain ⟨b, off, e, hb, hc⟩ := h1.2.2.2.2 hn
  exact ⟨b, off, e, hb, fun j v hv => (World.cell?_setCell_far wr' ⟨ob, 0, none⟩ ⟨b, off + j, none⟩ _ (fun e2 => (hk hn b off e).2.1 e2.symm)).trans (hc j v hv)⟩
 refine ⟨bk (by omega) h.b0, bk (by omega) h.b1, bk (by omega) h.b2, bk (by omega) h.b3, bk (by omega) h.b4, bk (by omega) h.b5, ?_, sl h.ks h.s, sl h.kl h.l, sl h.kp h.p, ?_, h.ks.grow h.s hG fA' fA, h.kl.grow h.l hG fA' fA, h.kp.grow h.p hG fA' fA, ?_, h.hob⟩
 ·exact (h.bo.grown hG.g (own_nb h (Nat.le_refl _))).set 0 _
 ·rw [List.flatMap_append, List.flatMap_cons, List.flatMap_nil, List.append_nil]
  exact hr.kept (grown_cell _ _ _) (ne_row fun b e => by have := (hr.lt b e).1; simp; omega)
 ·have hb : Below w.heap.size w wr' := ⟨hG.g.os.trans h.bl.os, hG.g.tape.trans h.bl.tape, hG.g.output.trans h.bl.output, Nat.le_trans h.bl.size hG.g.size, fun i hi => (hG.g.block i (Nat.lt_of_lt_of_le hi h.bl.size) (own_nb h (by omega))).trans (h.bl.block i hi)⟩
  exact hb.setCell (by show w.heap.size ≤ ob; omega) _
theorem SK.app (h : RM w ob An Ad A5 nn cn nd cd n5 c5 co pg As Al Ap Ao n c nl cl np cp mo cx t out wr) (hk : SK w ob x co Ao A1 A2 B3 B4 n1 c1 n2 c2 m3 e3 m4 e4 so wr) (hG : Gr w ob Ao mo cx A' cx' wr wr') (hr : wr'.ownsRow (ob + 1) 53 2 (.slice A' (mo + 1) cx') (mo + 1) (out.flatMap Fn.cells ++ f.cells)) :
 SK w ob x co A' A1 A2 B3 B4 n1 c1 n2 c2 m3 e3 m4 e4 so (wr'.setCell ⟨ob, 0, none⟩ (.slice A' (mo + 1) cx')) := by
 have hw := h.hob
 have fA : Ao = none ∨ ∃ g, Ao = some ⟨g, 0, none⟩ := (own_form h.o).imp id fun ⟨g, e, _⟩ => ⟨g, e⟩
 have fA' : A' = none ∨ ∃ g, A' = some ⟨g, 0, none⟩ := (own_form hr).imp id fun ⟨g, e, _⟩ => ⟨g, e⟩
 have hsz : wr'.heap.size = (wr'.setCell ⟨ob, 0, none⟩ (.slice A' (mo + 1) cx')).heap.size := by simp [World.setCell]
 have ap : ∀ {A : Option Addr} {m : Nat}, Ke w ob Ao A m → 0 < m → ∀ b off, A = some ⟨b, off, none⟩ → some b ≠ (Value.slice Ao mo cx).ownBlock := fun {A m} hk hm b off e e2 => by
  obtain ⟨o2, h5⟩ := ownB Ao mo cx b e2 fA
  exact (hk hm b off e).2.2 o2 h5
 have sl : ∀ {A : Option Addr} {m d size : Nat} {xs : List Value}, Ke w ob Ao A m → Sl wr wr.heap.size size A m d xs → Sl (wr'.setCell ⟨ob, 0, none⟩ (.slice A' (mo + 1) cx')) (wr'.setCell ⟨ob, 0, none⟩ (.slice A' (mo + 1) cx')).heap.size size A m d xs := fun {A m d size xs} hk hs => by
  rw [← hsz]
  have h1 := hs.kept hG.g (ap hk)
  refine ⟨h1.1, h1.2.1, h1.2.2.1, h1.2.2.2.1, fun hn => ?_⟩
  obtain ⟨b, off, e, hb, hc⟩ := h1.2.2.2.2 hn
  exact ⟨b, off, e, hb, fun j v hv => (World.cell?_setCell_far wr' ⟨ob, 0, none⟩ ⟨b, off + j, none⟩ _ (fun e2 => (hk hn b off e).2.1 e2.symm)).trans (hc j v hv)⟩
 refine ⟨⟨sl hk.k1 hk.a.h, sl hk.k2 hk.a.s, sl hk.kl hk.a.l, sl hk.kp hk.a.p⟩, hk.k1.grow hk.a.h hG fA' fA, hk.k2.grow hk.a.s hG fA' fA, hk.kl.grow hk.a.l hG fA' fA, hk.kp.grow hk.a.p hG fA' fA, (hk.bx.grown hG.g (fun e => ?_)).far (by show x ≠ ob; have := hk.hx.1; omega) _, hk.hx.1, fun o' e => ?_⟩
 ·obtain ⟨o2, h5⟩ := ownB Ao mo cx x e fA
  exact hk.hx.2 o2 h5
 ·rcases fA' with rfl | ⟨g, rfl⟩
  ·cases e
  injection e with e; injection e with e _; subst e
  rcases hG.at' with h4 | h4
  ·obtain ⟨o2, h5⟩ := ownB Ao mo cx g (by rw [← h4]; rfl) fA
   exact hk.hx.2 o2 h5
  ·simp [Value.ownBlock] at h4; have := hk.bx.lt; omega
theorem SK.later (hk : SK w ob x co Ao A1 A2 B3 B4 n1 c1 n2 c2 m3 e3 m4 e4 so wr) (hb : Below wr.heap.size wr wr') : SK w ob x co Ao A1 A2 B3 B4 n1 c1 n2 c2 m3 e3 m4 e4 so wr' :=
 ⟨hk.a.later hb, hk.k1, hk.k2, hk.kl, hk.kp, hk.bx.below hb hk.bx.lt, hk.hx⟩
theorem RM.put (h : RM w ob An Ad A5 nn cn nd cd n5 c5 co pg As Al Ap Ao n c nl cl np cp mo cx t out wr) (hk : SK w ob x co Ao A1 A2 B3 B4 n1 c1 n2 c2 m3 e3 m4 e4 so wr) :
 RM w ob An Ad A5 nn cn nd cd n5 c5 co pg A2 B3 B4 Ao n2 c2 m3 e3 m4 e4 mo cx so.t out ((((wr.setCell ⟨w.heap.size + 1, 0, none⟩ (.slice A2 n2 c2)).setCell ⟨w.heap.size + 2, 0, none⟩ (.int .i64 co)).setCell ⟨w.heap.size + 2, 1, none⟩ (.slice B3 m3 e3)).setCell ⟨w.heap.size + 2, 2, none⟩ (.slice B4 m4 e4)) := by
 have hw := h.hob
 have bk : ∀ {g : Nat} {T : TypeId} {cs : Array Value}, g ≠ w.heap.size + 1 → g ≠ w.heap.size + 2 → Blk wr g T cs → Blk ((((wr.setCell ⟨w.heap.size + 1, 0, none⟩ (.slice A2 n2 c2)).setCell ⟨w.heap.size + 2, 0, none⟩ (.int .i64 co)).setCell ⟨w.heap.size + 2, 1, none⟩ (.slice B3 m3 e3)).setCell ⟨w.heap.size + 2, 2, none⟩ (.slice B4 m4 e4)) g T cs := fun {g T cs} h1 h2 hb => blk_far3 (hb.far (by show g ≠ w.heap.size + 1; exact h1) _) h2
 have hsz : ((((wr.setCell ⟨w.heap.size + 1, 0, none⟩ (.slice A2 n2 c2)).setCell ⟨w.heap.size + 2, 0, none⟩ (.int .i64 co)).setCell ⟨w.heap.size + 2, 1, none⟩ (.slice B3 m3 e3)).setCell ⟨w.heap.size + 2, 2, none⟩ (.slice B4 m4 e4)).heap.size = wr.heap.size := by simp [World.setCell]
 have sl : ∀ {A : Option Addr} {m d size : Nat} {xs : List Value}, Ke w ob Ao A m → Sl wr wr.heap.size size A m d xs → Sl ((((wr.setCell ⟨w.heap.size + 1, 0, none⟩ (.slice A2 n2 c2)).setCell ⟨w.heap.size + 2, 0, none⟩ (.int .i64 co)).setCell ⟨w.heap.size + 2, 1, none⟩ (.slice B3 m3 e3)).setCell ⟨w.heap.size + 2, 2, none⟩ (.slice B4 m4 e4)) ((((wr.setCell ⟨w.heap.size + 1, 0, none⟩ (.slice A2 n2 c2)).setCell ⟨w.heap.size + 2, 0, none⟩ (.int .i64 co)).setCell ⟨w.heap.size + 2, 1, none⟩ (.slice B3 m3 e3)).setCell ⟨w.heap.size + 2, 2, none⟩ (.slice B4 m4 e4)).heap.size size A m d xs := fun {A m d size xs} hk hs => by
  rw [hsz]
  rcases Nat.eq_zero_or_pos m with hm | hm
  ·exact ⟨hs.1, hs.2.1, hs.2.2.1, hs.2.2.2.1, fun h => absurd h (by omega)⟩
  ·have e1 : ∀ b off, A = some ⟨b, off, none⟩ → b ≠ w.heap.size + 1 := fun b off e => by have := (hk hm b off e).1; omega
   have e2 : ∀ b off, A = some ⟨b, off, none⟩ → b ≠ w.heap.size + 2 := fun b off e => by have := (hk hm b off e).1; omega
   exact ((((hs.ne e1).ne e2).ne e2).ne e2)
 refine ⟨bk (by omega) (by omega) h.b0, (blk_far3 (h.b1.set 0 _) (by omega)), ?_, bk (by omega) (by omega) h.b3, bk (by omega) (by omega) h.b4, bk (by omega) (by omega) h.b5, bk (by omega) (by omega) h.bo, sl hk.k2 hk.a.s, sl hk.kl hk.a.l, sl hk.kp hk.a.p, ?_, hk.k2, hk.kl, hk.kp, ?_, h.hob⟩
 ·exact ((((h.b2.far (by simp) _).set 0 _).set 1 _).set 2 _)
 ·have f : ∀ {y i : Nat} {u : Value} {W : World}, y ≤ ob → W.ownsRow (ob + 1) 53 2 (.slice Ao mo cx) mo (out.flatMap Fn.cells) → (W.setCell ⟨y, i, none⟩ u).ownsRow (ob + 1) 53 2 (.slice Ao mo cx) mo (out.flatMap Fn.cells) := fun {y i u W} hy hh => ownF hh (by omega)
  exact f (by omega) (f (by omega) (f (by omega) (f (by omega) h.o)))
 ·exact (((h.bl.setCell (by simp) _).setCell (by simp) _).setCell (by simp) _).setCell (by simp) _
end
end Go.Proofs.YtkkobemhbicjgaaGreatDoor
namespace Go.Proofs.YtkkobemhbicjgaaGreatDoor
open Go.RowKit
theorem el_fn : ElemI Tryz.prog 45 53 2 16 := ElemI.mk' (z := .agg #[.int .i64 0, .int .i64 0]) Tryz.underlying45 (by kernel_rfl) rfl (by decide)
end Go.Proofs.YtkkobemhbicjgaaGreatDoor
namespace Go.Proofs.YtkkobemhbicjgaaGreatDoor
open Go.RowKit
def KeB (B ob : Nat) (Ao A : Option Addr) (n : Nat) : Prop := 0 < n → ∀ b off, A = some ⟨b, off, none⟩ → B ≤ b ∧ b ≠ ob ∧ ∀ o', Ao ≠ some ⟨b, o', none⟩
structure CM (w : World) (bb : Nat) (L : List (TypeId × Array Value)) (co : Int) (As Al Ap Ao : Option Addr) (n c nl cl np cp mo cx : Nat) (t : Sm) (out : List Fn) (fl : Bool) (wr : World) : Prop where
 x : Bxs w L wr
 b : Blk wr bb 96 #[.slice As n c, .int .i64 co, .slice Al nl cl, .slice Ap np cp, .bool fl]
 s : Sl wr wr.heap.size 1 As n c (intsV t.s)
 l : Sl wr wr.heap.size 3 Al nl cl (t.ls.flatMap Lk.cells)
 p : Sl wr wr.heap.size 1 Ap np cp (intsV t.pr)
 o : wr.ownsRow (bb + 1) 53 2 (.slice Ao mo cx) mo (out.flatMap Fn.cells)
 ks : KeB (w.heap.size + 4) bb Ao As n
 kl : KeB (w.heap.size + 4) bb Ao Al nl
 kp : KeB (w.heap.size + 4) bb Ao Ap np
 hb : w.heap.size + 4 ≤ bb
 hL : L.length = 4
structure CK (w : World) (bb x : Nat) (co : Int) (Ao A1 A2 Al Ap : Option Addr) (n1 c1 n2 c2 nl cl np cp : Nat) (h : List Int) (t : Sm) (ov : Bool) (wr : World) : Prop where
 a : SoAt wr A1 A2 Al Ap n1 c1 n2 c2 nl cl np cp ⟨h, t, true⟩
 k1 : KeB (w.heap.size + 4) bb Ao A1 n1
 k2 : KeB (w.heap.size + 4) bb Ao A2 n2
 kl : KeB (w.heap.size + 4) bb Ao Al nl
 kp : KeB (w.heap.size + 4) bb Ao Ap np
 bx : Blk wr x 96 #[.slice A2 n2 c2, .int .i64 co, .slice Al nl cl, .slice Ap np cp, .bool ov]
 hx : bb < x ∧ ∀ o', Ao ≠ some ⟨x, o', none⟩
section
variable {w wr wr' : World} {bb x B0 : Nat} {L : List (TypeId × Array Value)} {As Al Ap Ao A1 A2 B3 B4 A A' : Option Addr} {n c nl cl np cp mo cx n1 c1 n2 c2 m3 e3 m4 e4 m d size cx' : Nat} {co : Int} {t t' : Sm} {out : List Fn} {h : List Int} {ov fl : Bool} {f : Fn} {xs : List Value}
theorem CM.later (k : CM w bb L co As Al Ap Ao n c nl cl np cp mo cx t out fl wr) (hb : Below wr.heap.size wr wr') : CM w bb L co As Al Ap Ao n c nl cl np cp mo cx t out fl wr' :=
 ⟨k.x.later hb, k.b.below hb k.b.lt, (k.s.below hb (Nat.le_refl _)).more hb.size, (k.l.below hb (Nat.le_refl _)).more hb.size, (k.p.below hb (Nat.le_refl _)).more hb.size, own_later k.o hb, k.ks, k.kl, k.kp, k.hb, k.hL⟩
theorem CK.later (k : CK w bb x co Ao A1 A2 B3 B4 n1 c1 n2 c2 m3 e3 m4 e4 h t ov wr) (hb : Below wr.heap.size wr wr') : CK w bb x co Ao A1 A2 B3 B4 n1 c1 n2 c2 m3 e3 m4 e4 h t ov wr' :=
 ⟨k.a.later hb, k.k1, k.k2, k.kl, k.kp, k.bx.below hb k.bx.lt, k.hx⟩
theorem KeB.fre {B : Nat} (h : KeB B0 bb Ao A n) (hf : Fre B A A' n m) (hB : bb < B) (hw : B0 ≤ B) (ho : ∀ b o', Ao = some ⟨b, o', none⟩ → b < B) : KeB B0 bb Ao A' m := by
 intro hm b off e
 rcases hf with ⟨hf, hn⟩ | hf
 ·subst hf; exact h (by omega) b off e
 ·have := hf b off e
  refine ⟨by omega, by omega, fun o' e2 => ?_⟩
  have := ho b o' e2; omega
theorem KeB.nil (n : Nat) : KeB B0 bb Ao none n := fun _ b off e => by cases e
theorem KeB.own {e : TypeId} {base : Nat} (h : wr.ownsRow base e size (.slice A m d) m xs) (hB : B0 ≤ base) (hn : ∀ b off, A = some ⟨b, off, none⟩ → b ≠ bb) : KeB B0 bb Option.none A n := fun _ b off e => ⟨Nat.le_trans hB (own_ge h b off e), hn b off e, fun o' e2 => by cases e2⟩
theorem own_ln (o : wr.ownsRow (bb + 1) 53 2 (.slice Ao mo cx) mo xs) : (∀ b o', Ao = some ⟨b, o', none⟩ → b < wr.heap.size) := fun b o' e => by
 rcases own_form o with h | ⟨g, h, h1, h2⟩
 ·rw [h] at e; cases e
 ·rw [h] at e; injection e with e; injection e with e _; omega
theorem KeB.grow (h : KeB B0 bb Ao A m) (hs : Sl wr wr.heap.size size A m d xs) (hat : (Value.slice A' (mo + 1) cx').ownBlock = (Value.slice Ao mo cx).ownBlock ∨ (Value.slice A' (mo + 1) cx').ownBlock = some wr.heap.size) (hA' : A' = none ∨ ∃ g, A' = some ⟨g, 0, none⟩) (hA : Ao = none ∨ ∃ g, Ao = some ⟨g, 0, none⟩) : KeB B0 bb A' A m := by
 intro hm b off e
 obtain ⟨h1, h2, h3⟩ := h hm b off e
 refine ⟨h1, h2, fun o' e2 => ?_⟩
 obtain ⟨b', off', e3, hb, -⟩ := hs.2.2.2.2 hm
 rw [e] at e3; injection e3 with e3; injection e3 with e3 _; subst e3
 rcases hA' with rfl | ⟨g, rfl⟩
 ·cases e2
 injection e2 with e2; injection e2 with e2 _; subst e2
 rcases hat with h4 | h4
 ·obtain ⟨o2, h5⟩ := ownB Ao mo cx g (by rw [← h4]; rfl) hA
  exact h3 o2 h5
 ·simp [Value.ownBlock] at h4; omega
theorem sl_app (hk : KeB B0 bb Ao A m) (hs : Sl wr wr.heap.size size A m d xs) (hg : wr.grownBy wr' (Value.slice Ao mo cx).ownBlock) (fA : Ao = none ∨ ∃ g, Ao = some ⟨g, 0, none⟩) : Sl wr' wr'.heap.size size A m d xs :=
 hs.kept hg fun hm b off e e2 => by
  obtain ⟨o2, h5⟩ := ownB Ao mo cx b e2 fA
  exact (hk hm b off e).2.2 o2 h5
theorem CM.app (k : CM w bb L co As Al Ap Ao n c nl cl np cp mo cx t out fl wr) (hg : wr.grownBy wr' (Value.slice Ao mo cx).ownBlock) (hat : (Value.slice A' (mo + 1) cx').ownBlock = (Value.slice Ao mo cx).ownBlock ∨ (Value.slice A' (mo + 1) cx').ownBlock = some wr.heap.size) (hr : wr'.ownsRow (bb + 1) 53 2 (.slice A' (mo + 1) cx') (mo + 1) (out.flatMap Fn.cells ++ f.cells)) :
 CM w bb L co As Al Ap A' n c nl cl np cp (mo + 1) cx' t (out ++ [f]) fl wr' := by
 have fA : Ao = none ∨ ∃ g, Ao = some ⟨g, 0, none⟩ := (own_form k.o).imp id fun ⟨g, e, _⟩ => ⟨g, e⟩
 have fA' : A' = none ∨ ∃ g, A' = some ⟨g, 0, none⟩ := (own_form hr).imp id fun ⟨g, e, _⟩ => ⟨g, e⟩
 have nb : ∀ {g : Nat}, g ≤ bb → some g ≠ (Value.slice Ao mo cx).ownBlock := fun {g} hg e => by have := (k.o.lt g e.symm).1; omega
 have hw := k.hb
 refine ⟨⟨fun i T cs hi => (k.x.b i T cs hi).grown hg (nb (by have := (List.getElem?_eq_some_iff.1 hi).1; have := k.hL; omega)), ?_⟩, k.b.grown hg (nb (Nat.le_refl _)), sl_app k.ks k.s hg fA, sl_app k.kl k.l hg fA, sl_app k.kp k.p hg fA, ?_, k.ks.grow k.s hat fA' fA, k.kl.grow k.l hat fA' fA, k.kp.grow k.p hat fA' fA, k.hb, k.hL⟩
 ·exact ⟨hg.os.trans k.x.l.os, hg.tape.trans k.x.l.tape, hg.output.trans k.x.l.output, Nat.le_trans k.x.l.size hg.size, fun i hi => (hg.block i (Nat.lt_of_lt_of_le hi k.x.l.size) (nb (by omega))).trans (k.x.l.block i hi)⟩
 ·rw [List.flatMap_append, List.flatMap_cons, List.flatMap_nil, List.append_nil]; exact hr
theorem CK.app (o : wr.ownsRow (bb + 1) 53 2 (.slice Ao mo cx) mo xs) (k : CK w bb x co Ao A1 A2 B3 B4 n1 c1 n2 c2 m3 e3 m4 e4 h t ov wr) (hg : wr.grownBy wr' (Value.slice Ao mo cx).ownBlock) (hat : (Value.slice A' (mo + 1) cx').ownBlock = (Value.slice Ao mo cx).ownBlock ∨ (Value.slice A' (mo + 1) cx').ownBlock = some wr.heap.size) (hA' : A' = none ∨ ∃ g, A' = some ⟨g, 0, none⟩) :
 CK w bb x co A' A1 A2 B3 B4 n1 c1 n2 c2 m3 e3 m4 e4 h t ov wr' := by
 have fA : Ao = none ∨ ∃ g, Ao = some ⟨g, 0, none⟩ := (own_form o).imp id fun ⟨g, e, _⟩ => ⟨g, e⟩
 refine ⟨⟨sl_app k.k1 k.a.h hg fA, sl_app k.k2 k.a.s hg fA, sl_app k.kl k.a.l hg fA, sl_app k.kp k.a.p hg fA⟩, k.k1.grow k.a.h hat hA' fA, k.k2.grow k.a.s hat hA' fA, k.kl.grow k.a.l hat hA' fA, k.kp.grow k.a.p hat hA' fA, k.bx.grown hg (fun e => ?_), k.hx.1, fun o' e => ?_⟩
 ·obtain ⟨o2, h5⟩ := ownB Ao mo cx x e fA
  exact k.hx.2 o2 h5
 ·rcases hA' with rfl | ⟨g, rfl⟩
  ·cases e
  injection e with e; injection e with e _; subst e
  rcases hat with h4 | h4
  ·obtain ⟨o2, h5⟩ := ownB Ao mo cx g (by rw [← h4]; rfl) fA
   exact k.hx.2 o2 h5
  ·simp [Value.ownBlock] at h4; have := k.bx.lt; omega
theorem CM.put (k : CM w bb L co As Al Ap Ao n c nl cl np cp mo cx t out fl wr) (q : CK w bb x co Ao A1 A2 B3 B4 n1 c1 n2 c2 m3 e3 m4 e4 h t' ov wr) :
 CM w bb L co A2 B3 B4 Ao n2 c2 m3 e3 m4 e4 mo cx t' out ov (st5 wr bb (.slice A2 n2 c2) (.int .i64 co) (.slice B3 m3 e3) (.slice B4 m4 e4) (.bool ov)) := by
 have hw := k.hb
 have of : ∀ {A : Option Addr} {m : Nat}, KeB (w.heap.size + 4) bb Ao A m → 0 < m → ∀ b off, A = some ⟨b, off, none⟩ → b ≠ bb := fun hk hm b off e => (hk hm b off e).2.1
 have hL := k.hL
 refine ⟨((((k.x.put (by omega) 0 _).put (by omega) 1 _).put (by omega) 2 _).put (by omega) 3 _).put (by omega) 4 _, ((((k.b.set 0 _).set 1 _).set 2 _).set 3 _).set 4 _, sl5n q.a.s (of q.k2), sl5n q.a.l (of q.kl), sl5n q.a.p (of q.kp), ?_, q.k2, q.kl, q.kp, k.hb, k.hL⟩
 have f : ∀ {i : Nat} {u : Value} {W : World}, W.ownsRow (bb + 1) 53 2 (.slice Ao mo cx) mo (out.flatMap Fn.cells) → (W.setCell ⟨bb, i, none⟩ u).ownsRow (bb + 1) 53 2 (.slice Ao mo cx) mo (out.flatMap Fn.cells) := fun hh => ownF hh (by omega)
 exact f (f (f (f (f k.o))))
theorem CM.mem {An Ad : Option Addr} {nn cn nd cd : Nat} {ns : List Nd} {ds : List Dv} {m0 : List Int} {ls0 : List Lk} {pr0 : List Int} {A0 A5 A6 : Option Addr} {k0 d0 k1 d1 k2 d2 : Nat} (k : CM w bb L co As Al Ap Ao n c nl cl np cp mo cx t out fl wr) (hh : HzMem w An Ad A0 A5 A6 nn cn nd cd k0 d0 k1 d1 k2 d2 ns ds m0 ls0 pr0) : HzMem wr An Ad As Al Ap nn cn nd cd n c nl cl np cp ns ds t.s t.ls t.pr :=
 ⟨(hh.below k.x.l).hn, (hh.below k.x.l).hd, k.s, k.l, k.p, (hh.below k.x.l).la, hh.sn, hh.sd⟩
end
theorem chTo_len (ns : List Nd) (ds : List Dv) (co : Int) (t : Sm) (x : Sp) : (chTo ns ds co t x).h.length ≤ 8 := by
 have hu : ∀ a b : Int, (unsL a b).length ≤ 1 := fun a b => by unfold unsL; split <;> simp
 unfold chTo
 split
 ·have := mayF_len ns ds t.s x.dev x.kind co t.ls t.pr; dsimp only; omega
 split
 ·split <;> simp
 split
 ·split <;> simp
 split
 ·simp
 split
 ·have := hu (t.s.getD x.dev.toNat 0) x.pos; dsimp only; omega
 split
 ·have := hu (t.s.getD x.dev.toNat 0) x.pos; dsimp only; omega
 ·have := hu (t.s.getD x.dev.toNat 0) x.pos; dsimp only; rw [List.length_cons]; omega
end Go.Proofs.YtkkobemhbicjgaaGreatDoor
namespace Go.Proofs.YtkkobemhbicjgaaGreatDoor
open Go.RowKit
structure Br (w : World) (nt st gr pg sk : Array Value) (wr : World) : Prop where
 b0 : Blk wr w.heap.size 30 nt
 b1 : Blk wr (w.heap.size + 1) 22 st
 b2 : Blk wr (w.heap.size + 2) 37 gr
 b3 : Blk wr (w.heap.size + 3) 41 pg
 b4 : Blk wr (w.heap.size + 4) 22 sk
 b5 : Blk wr (w.heap.size + 5) 37 #[.int .i64 0, .slice none 0 0, .slice none 0 0]
 bl : Below w.heap.size w wr
theorem Br.new (w : World) (nt st gr pg sk : Array Value) : Br w nt st gr pg sk ((((((w.alloc (.cells nt 30)).alloc (.cells st 22)).alloc (.cells gr 37)).alloc (.cells pg 41)).alloc (.cells sk 22)).alloc (.cells #[.int .i64 0, .slice none 0 0, .slice none 0 0] 37)) := by
 obtain ⟨h0, h1, h2, h3, h4⟩ := blk4 w 30 22 37 41 nt st gr pg
 have hz : ((((w.alloc (.cells nt 30)).alloc (.cells st 22)).alloc (.cells gr 37)).alloc (.cells pg 41)).heap.size = w.heap.size + 4 := by simp
 generalize World.alloc (World.alloc (World.alloc (World.alloc w _) _) _) _ = W at *
 have h5 := Blk.new W 22 sk
 have h6 := Blk.new (W.alloc (.cells sk 22)) 37 #[.int .i64 0, .slice none 0 0, .slice none 0 0]
 rw [hz] at h5
 rw [World.size_alloc, hz] at h6
 exact ⟨(h0.alloc _).alloc _, (h1.alloc _).alloc _, (h2.alloc _).alloc _, (h3.alloc _).alloc _, h5.alloc _, h6, (h4.alloc (by omega) _).alloc (by simp; omega) _⟩
theorem Br.later {w wr wr' : World} {nt st gr pg sk : Array Value} (h : Br w nt st gr pg sk wr) (hb : Below wr.heap.size wr wr') : Br w nt st gr pg sk wr' := ⟨h.b0.below hb h.b0.lt, h.b1.below hb h.b1.lt, h.b2.below hb h.b2.lt, h.b3.below hb h.b3.lt, h.b4.below hb h.b4.lt, h.b5.below hb h.b5.lt, h.bl.trans (hb.mono h.bl.size)⟩
structure RnAt (w : World) (A1 A2 Al Ap : Option Addr) (n1 c1 n2 c2 nl cl np cp : Nat) (out : List Fn) (t : Sm) : Prop where
 o : Sl w w.heap.size 2 A1 n1 c1 (out.flatMap Fn.cells)
 s : Sl w w.heap.size 1 A2 n2 c2 (intsV t.s)
 l : Sl w w.heap.size 3 Al nl cl (t.ls.flatMap Lk.cells)
 p : Sl w w.heap.size 1 Ap np cp (intsV t.pr)
end Go.Proofs.YtkkobemhbicjgaaGreatDoor
