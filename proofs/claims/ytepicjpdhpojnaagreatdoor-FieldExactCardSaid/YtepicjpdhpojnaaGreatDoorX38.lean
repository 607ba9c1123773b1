import Derived.Test.YtepicjpdhpojnaaGreatDoorX37
namespace Go.Proofs.YtepicjpdhpojnaaGreatDoor
section
open Go.RowKit
section
variable {ns : List Nd} {ds : List Dv} {F : Fd} {k d p q : Int}
end
end
section
open Go.RowKit
structure FlM (w : World) (nb : Nat) (An Ad As Al At : Option Addr) (cn nd cd n c nl cl nt ct : Nat) (ns : List Nd) (ds : List Dv) (F : Fd) (wr : World) : Prop where
 x : FdX w.heap.size An Ad As Al At 6 cn nd cd n c nl cl nt ct ns ds F wr
 bn : Blk wr nb 30 #[.slice An 6 cn, .slice Ad nd cd]
 bf : Blk wr (nb + 1) 35 #[.slice As n c, .slice Al nl cl, .slice At nt ct]
 bl : Below w.heap.size w wr
 ge : w.heap.size < nb
structure FlB (w : World) (nb eb xb : Nat) (An Ad As Al At A1 A2 A3 : Option Addr) (cn nd cd n c nl cl nt ct n1 c1 n2 c2 n3 c3 : Nat) (ns : List Nd) (ds : List Dv) (F F' : Fd) (k d p q : Int) (wr : World) : Prop where
 m : FlM w nb An Ad As Al At cn nd cd n c nl cl nt ct ns ds F wr
 e : Blk wr eb 44 #[.int .i64 k, .int .i64 d, .int .i64 p, .int .i64 q]
 f : Blk wr xb 35 #[.slice A1 n1 c1, .slice A2 n2 c2, .slice A3 n3 c3]
 y : FdX w.heap.size An Ad A1 A2 A3 6 cn nd cd n1 c1 n2 c2 n3 c3 ns ds F' wr
section
variable {w w2 w3 wr wr' : World} {nb eb xb : Nat} {An Ad As Al At A1 A2 A3 : Option Addr} {cn nd cd n c nl cl nt ct n1 c1 n2 c2 n3 c3 : Nat} {ns : List Nd} {ds : List Dv} {F F' : Fd} {k d p q : Int}
theorem FlM.later (h : FlM w nb An Ad As Al At cn nd cd n c nl cl nt ct ns ds F wr) (hb : Below wr.heap.size wr wr') : FlM w nb An Ad As Al At cn nd cd n c nl cl nt ct ns ds F wr' :=
 ⟨h.x.later hb, h.bn.below hb h.bn.lt, h.bf.below hb h.bf.lt, h.bl.trans (hb.mono h.bl.size), h.ge⟩
theorem FlM.grown (h : FlM w nb An Ad As Al At cn nd cd n c nl cl nt ct ns ds F wr) (hl : Laid w) (hg : wr.grownBy wr' (some w.heap.size)) (hd : zU wr' w.heap.size) : FlM w nb An Ad As Al At cn nd cd n c nl cl nt ct ns ds F wr' := by
 have := h.ge
 exact ⟨h.x.grown hl lR hd hg, h.bn.grown hg (fun e => by injection e; omega), h.bf.grown hg (fun e => by injection e; omega), h.bl.trans (yL hg lR h.bl.size), h.ge⟩
theorem FlM.mk0 (hb2 : Below w.heap.size w w2) (hs2 : w2.heap.size = w.heap.size + 1) (hg : w2.grownBy w3 (some w.heap.size)) (hX : FdX w.heap.size An Ad As Al At 6 cn nd cd n c nl cl nt ct ns ds F w3) :
 FlM w w3.heap.size An Ad As Al At cn nd cd n c nl cl nt ct ns ds F ((w3.alloc (.cells #[.slice An 6 cn, .slice Ad nd cd] 30)).alloc (.cells #[.slice As n c, .slice Al nl cl, .slice At nt ct] 35)) := by
 have hb3 : Below w.heap.size w w3 := hb2.trans (yL hg lR (by omega))
 have hz := hg.size
 refine ⟨(hX.alloc _).alloc _, (Blk.new _ _ _).alloc _, ?_, (hb3.alloc hb3.size _).alloc (by simp; omega) _, by omega⟩
 have := Blk.new (w3.alloc (.cells #[.slice An 6 cn, .slice Ad nd cd] 30)) 35 #[.slice As n c, .slice Al nl cl, .slice At nt ct]
 rwa [World.size_alloc] at this
theorem FlB.later (h : FlB w nb eb xb An Ad As Al At A1 A2 A3 cn nd cd n c nl cl nt ct n1 c1 n2 c2 n3 c3 ns ds F F' k d p q wr) (hb : Below wr.heap.size wr wr') : FlB w nb eb xb An Ad As Al At A1 A2 A3 cn nd cd n c nl cl nt ct n1 c1 n2 c2 n3 c3 ns ds F F' k d p q wr' :=
 ⟨h.m.later hb, h.e.below hb h.e.lt, h.f.below hb h.f.lt, h.y.later hb⟩
theorem FlM.step (h : FlM w nb An Ad As Al At cn nd cd n c nl cl nt ct ns ds F wr) (hb : Below wr.heap.size wr wr') (hi1 : zQ wr' wr.heap.size A1 n1 c1 F'.s) (hi2 : yI wr' wr.heap.size A2 n2 c2 F'.ls) (hi3 : zQ wr' wr.heap.size A3 n3 c3 F'.st) : FdX w.heap.size An Ad A1 A2 A3 6 cn nd cd n1 c1 n2 c2 n3 c3 ns ds F' wr' := by
 have h1 := h.x.later hb
 have hg := h.x.dk.lt
 exact ⟨h1.dk, h1.hn, h1.hd, SlX.of_own hi1 hg, SlX.of_own hi2 hg, SlX.of_own hi3 hg, h1.la, h1.sn, h1.sd⟩
theorem FlM.take (h : FlM w nb An Ad As Al At cn nd cd n c nl cl nt ct ns ds F wr) (hl : Laid w) (hy : FdX w.heap.size An Ad A1 A2 A3 6 cn nd cd n1 c1 n2 c2 n3 c3 ns ds F' wr) :
 FlM w nb An Ad A1 A2 A3 cn nd cd n1 c1 n2 c2 n3 c3 ns ds F' (((wr.setCell ⟨nb + 1, 0, none⟩ (.slice A1 n1 c1)).setCell ⟨nb + 1, 1, none⟩ (.slice A2 n2 c2)).setCell ⟨nb + 1, 2, none⟩ (.slice A3 n3 c3)) := by
 have := h.ge
 exact ⟨hy.out3 h.bf (by omega) hl (by omega), ((h.bn.far (p := ⟨nb + 1, 0, none⟩) (by simp) _).far (p := ⟨nb + 1, 1, none⟩) (by simp) _).far (p := ⟨nb + 1, 2, none⟩) (by simp) _, ((h.bf.set 0 _).set 1 _).set 2 _, ((h.bl.setCell (by simp; omega) _).setCell (by simp; omega) _).setCell (by simp; omega) _, h.ge⟩
theorem FlM.ln (h : FlM w nb An Ad As Al At cn nd cd n c nl cl nt ct ns ds F wr) : ns.length = 6 ∧ ds.length = nd ∧ F.s.length = n ∧ F.ls.length = nl ∧ F.st.length = nt := h.x.fdm.ln
end
end
section
open Go.RowKit
theorem nF {nn : Nat} {ds : List Dv} {s c c' : List Int} (h : uJ nn ds s c) (h' : uJ nn ds s c') : c = c' := by
 apply List.ext_getElem?
 intro v
 by_cases hv : v < nn
 ·rw [h.2 v hv, h'.2 v hv]
 ·rw [List.getElem?_eq_none (by rw [h.1]; omega), List.getElem?_eq_none (by rw [h'.1]; omega)]
def mH (fs : List Lk) (k : Lk) (j : Nat) : Bool := (fs.take j).any fun y => sT y k
def su (fs ls : List Lk) (i : Nat) : Bool := (ls.take i).all fun k => xu fs k
def tG (cl z : List Int) (i : Nat) : Bool := (z.take i).all fun v => !vB cl v
theorem wZ {α : Type} {l : List α} {i : Nat} {x : α} (h : l[i]? = some x) : l.take (i + 1) = l.take i ++ [x] := by
 rw [List.take_add_one, h]; rfl
theorem lT {fs : List Lk} {k y : Lk} {j : Nat} (h : fs[j]? = some y) : mH fs k (j + 1) = (mH fs k j || sT y k) := by
 unfold mH; rw [wZ h, List.any_append]; simp
theorem lc {fs ls : List Lk} {k : Lk} {i : Nat} (h : ls[i]? = some k) : su fs ls (i + 1) = (su fs ls i && xu fs k) := by
 unfold su; rw [wZ h, List.all_append]; simp
theorem mK {cl z : List Int} {v : Int} {i : Nat} (h : z[i]? = some v) : tG cl z (i + 1) = (tG cl z i && !vB cl v) := by
 unfold tG; rw [wZ h, List.all_append]; simp
theorem lU {fs : List Lk} {k : Lk} {j : Nat} (h : fs.length ≤ j) : mH fs k j = xu fs k := by
 unfold mH
 rw [List.take_of_length_le h, Bool.eq_iff_iff, q8, List.any_eq_true]
 exact ⟨fun ⟨y, hy, e⟩ => by rw [← (yl _ _).1 e]; exact hy, fun hk => ⟨k, hk, (yl _ _).2 rfl⟩⟩
theorem ni (ns : List Nd) (ds : List Dv) (F : Fd) (ls : List Lk) (z cl : List Int) : vV ns ds F ls z cl false = (su F.ls ls ls.length && tG cl z z.length) := by
 unfold vV su tG
 rw [List.take_of_length_le lR, List.take_of_length_le lR]
 have h1 : (ls.any fun k => !xu F.ls k) = !(ls.all fun k => xu F.ls k) := by rw [List.not_all_eq_any_not]
 have h2 : z.any (vB cl) = !(z.all fun v => !vB cl v) := by rw [List.not_all_eq_any_not]; congr 1; funext v; rw [Bool.not_not]
 rw [h1, h2]
 cases ls.all fun k => xu F.ls k <;> cases z.all fun v => !vB cl v <;> rfl
theorem pQ (ns : List Nd) (ds : List Dv) (F : Fd) (ls : List Lk) (z cl : List Int) : vV ns ds F ls z cl true = (vV ns ds F ls z cl false && vU ns ds ls z) := by
 unfold vV; simp
end
section
open Go.RowKit
theorem xo.any {w w' : World} {ns : List Nd} {ds : List Dv} {F : Fd} {k d p q : Int} {e : Ending} (h : xo w ns ds F k d p q e w') :
 ∃ (A1 A2 A3 : Option Addr) (n1 c1 n2 c2 n3 c3 : Nat), e = .returned (.tuple #[.agg #[.slice A1 n1 c1, .slice A2 n2 c2, .slice A3 n3 c3], .int .i64 (zR ns ds F k d p q)]) ∧ Hid (zR ns ds F k d p q = 0 → zQ w' w.heap.size A1 n1 c1 (yu ds F k d p q).s ∧ yI w' w.heap.size A2 n2 c2 (yu ds F k d p q).ls ∧ zQ w' w.heap.size A3 n3 c3 (yu ds F k d p q).st) ∧ Hid (Below w.heap.size w w') := by
 obtain ⟨⟨h1, h2⟩ | ⟨h0, A1, A2, A3, n1, c1, n2, c2, n3, c3, h1, h2, h3, h4⟩, h5⟩ := h
 ·exact ⟨none, none, none, 0, 0, 0, 0, 0, 0, h2, fun e => absurd e h1, h5⟩
 ·exact ⟨A1, A2, A3, n1, c1, n2, c2, n3, c3, by rw [h1, h0], fun _ => ⟨h2.out, h3.out, h4.out⟩, h5⟩
structure ClS (w : World) (nb : Nat) (An Ad As Al At B1 B2 B3 : Option Addr) (cn nd cd n c nl cl nt ct m1 d1 m2 d2 m3 d3 bs o : Nat) (pos : Int) (x y z : Value) (wr : World) : Prop where
 bn : Blk wr nb 30 #[.slice An 6 cn, .slice Ad nd cd]
 bf : Blk wr (nb + 1) 35 #[.slice As n c, .slice Al nl cl, .slice At nt ct]
 bx : Blk wr w.heap.size 35 #[.slice B1 m1 d1, .slice B2 m2 d2, .slice B3 m3 d3]
 by_ : Blk wr (w.heap.size + 1) 35 #[x, y, z]
 pc : wr.cell? ⟨bs, o, none⟩ = some (.int .i64 pos)
 bl : Below w.heap.size w wr
 hb : bs < w.heap.size
 hn : nb + 1 < w.heap.size
section
variable {w wr wr' : World} {nb : Nat} {An Ad As Al At B1 B2 B3 : Option Addr} {cn nd cd n c nl cl nt ct m1 d1 m2 d2 m3 d3 bs o : Nat} {pos : Int} {x y z : Value}
theorem ClS.later (h : ClS w nb An Ad As Al At B1 B2 B3 cn nd cd n c nl cl nt ct m1 d1 m2 d2 m3 d3 bs o pos x y z wr) (hb : Below wr.heap.size wr wr') : ClS w nb An Ad As Al At B1 B2 B3 cn nd cd n c nl cl nt ct m1 d1 m2 d2 m3 d3 bs o pos x y z wr' :=
 ⟨h.bn.below hb h.bn.lt, h.bf.below hb h.bf.lt, h.bx.below hb h.bx.lt, h.by_.below hb h.by_.lt, (hb.cell (p := ⟨bs, o, none⟩) (Nat.lt_of_lt_of_le h.hb h.bl.size)).trans h.pc, h.bl.trans (hb.mono h.bl.size), h.hb, h.hn⟩
theorem ClS.put (h : ClS w nb An Ad As Al At B1 B2 B3 cn nd cd n c nl cl nt ct m1 d1 m2 d2 m3 d3 bs o pos x y z wr) (u v t : Value) : ClS w nb An Ad As Al At B1 B2 B3 cn nd cd n c nl cl nt ct m1 d1 m2 d2 m3 d3 bs o pos u v t (((wr.setCell ⟨w.heap.size + 1, 0, none⟩ u).setCell ⟨w.heap.size + 1, 1, none⟩ v).setCell ⟨w.heap.size + 1, 2, none⟩ t) := by
 have h1 := h.hb
 have h2 := h.hn
 have f : ∀ {q : Nat} {T : TypeId} {cs : Array Value}, q ≠ w.heap.size + 1 → Blk wr q T cs → Blk (((wr.setCell ⟨w.heap.size + 1, 0, none⟩ u).setCell ⟨w.heap.size + 1, 1, none⟩ v).setCell ⟨w.heap.size + 1, 2, none⟩ t) q T cs := fun hq hk => ((hk.far (p := ⟨w.heap.size + 1, 0, none⟩) hq _).far (p := ⟨w.heap.size + 1, 1, none⟩) hq _).far (p := ⟨w.heap.size + 1, 2, none⟩) hq _
 refine ⟨f (by omega) h.bn, f (by omega) h.bf, f (by omega) h.bx, ((h.by_.set 0 u).set 1 v).set 2 t, ?_, ((h.bl.setCell (by simp) _).setCell (by simp) _).setCell (by simp) _, h.hb, h.hn⟩
 rw [World.cell?_setCell_other _ _ _ _ (fun e => by have := congrArg Addr.block e; simp at this; omega), World.cell?_setCell_other _ _ _ _ (fun e => by have := congrArg Addr.block e; simp at this; omega), World.cell?_setCell_other _ _ _ _ (fun e => by have := congrArg Addr.block e; simp at this; omega)]
 exact h.pc
end
end
end Go.Proofs.YtepicjpdhpojnaaGreatDoor
