import Derived.Test.YtepicjpdhpojnaaGreatDoorZ36
import Derived.Test.YtepicjpdhpojnaaGreatDoorZ38
import Derived.Test.YtepicjpdhpojnaaGreatDoorZ24
import Derived.Test.YtepicjpdhpojnaaGreatDoorZ26
import Derived.Test.YtepicjpdhpojnaaGreatDoorZ29
namespace Go.Proofs.YtepicjpdhpojnaaGreatDoor
open Go.RowKit
section
variable {ns : List Nd} {ds : List Dv} {F : Fd} {k d p q : Int}
end
end Go.Proofs.YtepicjpdhpojnaaGreatDoor
namespace Go.Proofs.YtepicjpdhpojnaaGreatDoor
open Go.RowKit
structure FlM (w : World) (nb : Nat) (An Ad As Al At : Option Addr) (cn nd cd n c nl cl nt ct : Nat) (ns : List Nd) (ds : List Dv) (F : Fd) (wr : World) : Prop where
 x : FdX w.heap.size An Ad As Al At 6 cn nd cd n c nl cl nt ct ns ds F wr
 bn : Blk wr nb 30 #[.slice An 6 cn, .slice Ad nd cd]
 bf : Blk wr (nb + 1) 35 #[.slice As n c, .slice Al nl cl, .slice At nt ct]
 bl : Below w.heap.size w wr
 ge : w.heap.size < nb
structure FlB (w : World) (nb eb xb : Nat) (An Ad As Al At A1 A2 A3 : Option Addr) (cn nd cd n c nl cl nt ct n1 c1 n2 c2 n3 c3 : Nat) (ns : List Nd) (ds : List Dv) (F F' : Fd) (k d p q : Int) (wr : World) : Prop where
 m : FlM w nb An Ad As Al At cn nd cd n c nl cl nt ct ns ds F wr
 e : Blk wr eb 44 #[.int .i64 k, .int .i64 d, .int .i64 p, .int .i64 q]
 f : Blk wr xb 35 #[.slice A1 n1 c1, .slice A2 n2 c2, .slice A3 n3 c3]
 y : FdX w.heap.size An Ad A1 A2 A3 6 cn nd cd n1 c1 n2 c2 n3 c3 ns ds F' wr
section
variable {w w2 w3 wr wr' : World} {nb eb xb : Nat} {An Ad As Al At A1 A2 A3 : Option Addr} {cn nd cd n c nl cl nt ct n1 c1 n2 c2 n3 c3 : Nat} {ns : List Nd} {ds : List Dv} {F F' : Fd} {k d p q : Int}
theorem FlM.later (h : FlM w nb An Ad As Al At cn nd cd n c nl cl nt ct ns ds F wr) (hb : Below wr.heap.size wr wr') : FlM w nb An Ad As Al At cn nd cd n c nl cl nt ct ns ds F wr' :=
 ⟨h.x.later hb, h.bn.below hb h.bn.lt, h.bf.below hb h.bf.lt, h.bl.trans (hb.mono h.bl.size), h.ge⟩
theorem FlM.grown (h : FlM w nb An Ad As Al At cn nd cd n c nl cl nt ct ns ds F wr) (hl : Laid w) (hg : wr.grownBy wr' (some w.heap.size)) (hd : DeckAt wr' w.heap.size) : FlM w nb An Ad As Al At cn nd cd n c nl cl nt ct ns ds F wr' := by
 have := h.ge
 exact ⟨h.x.grown hl (Nat.le_refl _) hd hg, h.bn.grown hg (fun e => by injection e; omega), h.bf.grown hg (fun e => by injection e; omega), h.bl.trans (below_of_grown hg (Nat.le_refl _) h.bl.size), h.ge⟩
theorem FlM.mk0 (hb2 : Below w.heap.size w w2) (hs2 : w2.heap.size = w.heap.size + 1) (hg : w2.grownBy w3 (some w.heap.size)) (hX : FdX w.heap.size An Ad As Al At 6 cn nd cd n c nl cl nt ct ns ds F w3) :
 FlM w w3.heap.size An Ad As Al At cn nd cd n c nl cl nt ct ns ds F ((w3.alloc (.cells #[.slice An 6 cn, .slice Ad nd cd] 30)).alloc (.cells #[.slice As n c, .slice Al nl cl, .slice At nt ct] 35)) := by
 have hb3 : Below w.heap.size w w3 := hb2.trans (below_of_grown hg (Nat.le_refl _) (by omega))
 have hz := hg.size
 refine ⟨(hX.alloc _).alloc _, (Blk.new _ _ _).alloc _, ?_, (hb3.alloc hb3.size _).alloc (by simp; omega) _, by omega⟩
 have := Blk.new (w3.alloc (.cells #[.slice An 6 cn, .slice Ad nd cd] 30)) 35 #[.slice As n c, .slice Al nl cl, .slice At nt ct]
 rwa [World.size_alloc] at this
theorem FlB.later (h : FlB w nb eb xb An Ad As Al At A1 A2 A3 cn nd cd n c nl cl nt ct n1 c1 n2 c2 n3 c3 ns ds F F' k d p q wr) (hb : Below wr.heap.size wr wr') : FlB w nb eb xb An Ad As Al At A1 A2 A3 cn nd cd n c nl cl nt ct n1 c1 n2 c2 n3 c3 ns ds F F' k d p q wr' :=
 ⟨h.m.later hb, h.e.below hb h.e.lt, h.f.below hb h.f.lt, h.y.later hb⟩
theorem FlM.step (h : FlM w nb An Ad As Al At cn nd cd n c nl cl nt ct ns ds F wr) (hb : Below wr.heap.size wr wr') (hi1 : IntsO wr' wr.heap.size A1 n1 c1 F'.s) (hi2 : LocksO wr' wr.heap.size A2 n2 c2 F'.ls) (hi3 : IntsO wr' wr.heap.size A3 n3 c3 F'.st) : FdX w.heap.size An Ad A1 A2 A3 6 cn nd cd n1 c1 n2 c2 n3 c3 ns ds F' wr' := by
 have h1 := h.x.later hb
 have hg := h.x.dk.lt
 exact ⟨h1.dk, h1.hn, h1.hd, SlX.of_own hi1 hg, SlX.of_own hi2 hg, SlX.of_own hi3 hg, h1.la, h1.sn, h1.sd⟩
theorem FlM.take (h : FlM w nb An Ad As Al At cn nd cd n c nl cl nt ct ns ds F wr) (hl : Laid w) (hy : FdX w.heap.size An Ad A1 A2 A3 6 cn nd cd n1 c1 n2 c2 n3 c3 ns ds F' wr) :
 FlM w nb An Ad A1 A2 A3 cn nd cd n1 c1 n2 c2 n3 c3 ns ds F' (((wr.setCell ⟨nb + 1, 0, none⟩ (.slice A1 n1 c1)).setCell ⟨nb + 1, 1, none⟩ (.slice A2 n2 c2)).setCell ⟨nb + 1, 2, none⟩ (.slice A3 n3 c3)) := by
 have := h.ge
 exact ⟨hy.out3 h.bf (by omega) hl (by omega), ((h.bn.far (p := ⟨nb + 1, 0, none⟩) (by simp) _).far (p := ⟨nb + 1, 1, none⟩) (by simp) _).far (p := ⟨nb + 1, 2, none⟩) (by simp) _, ((h.bf.set 0 _).set 1 _).set 2 _, ((h.bl.setCell (by simp; omega) _).setCell (by simp; omega) _).setCell (by simp; omega) _, h.ge⟩
theorem FlM.ln (h : FlM w nb An Ad As Al At cn nd cd n c nl cl nt ct ns ds F wr) : ns.length = 6 ∧ ds.length = nd ∧ F.s.length = n ∧ F.ls.length = nl ∧ F.st.length = nt := h.x.fdm.ln
end
end Go.Proofs.YtepicjpdhpojnaaGreatDoor
namespace Go.Proofs.YtepicjpdhpojnaaGreatDoor
open Go.RowKit
theorem cols_one {nn : Nat} {ds : List Dv} {s c c' : List Int} (h : IsCols nn ds s c) (h' : IsCols nn ds s c') : c = c' := by
 apply List.ext_getElem?
 intro v
 by_cases hv : v < nn
 ·rw [h.2 v hv, h'.2 v hv]
 ·rw [List.getElem?_eq_none (by rw [h.1]; omega), List.getElem?_eq_none (by rw [h'.1]; omega)]
def fndB (fs : List Lk) (k : Lk) (j : Nat) : Bool := (fs.take j).any fun y => eqLk y k
def allB (fs ls : List Lk) (i : Nat) : Bool := (ls.take i).all fun k => hasLk fs k
def deadB (cl z : List Int) (i : Nat) : Bool := (z.take i).all fun v => !liveAt cl v
theorem take_snocA {α : Type} {l : List α} {i : Nat} {x : α} (h : l[i]? = some x) : l.take (i + 1) = l.take i ++ [x] := by
 rw [List.take_add_one, h]; rfl
theorem fndB_snoc {fs : List Lk} {k y : Lk} {j : Nat} (h : fs[j]? = some y) : fndB fs k (j + 1) = (fndB fs k j || eqLk y k) := by
 unfold fndB; rw [take_snocA h, List.any_append]; simp
theorem allB_snoc {fs ls : List Lk} {k : Lk} {i : Nat} (h : ls[i]? = some k) : allB fs ls (i + 1) = (allB fs ls i && hasLk fs k) := by
 unfold allB; rw [take_snocA h, List.all_append]; simp
theorem deadB_snoc {cl z : List Int} {v : Int} {i : Nat} (h : z[i]? = some v) : deadB cl z (i + 1) = (deadB cl z i && !liveAt cl v) := by
 unfold deadB; rw [take_snocA h, List.all_append]; simp
theorem fndB_full {fs : List Lk} {k : Lk} {j : Nat} (h : fs.length ≤ j) : fndB fs k j = hasLk fs k := by
 unfold fndB
 rw [List.take_of_length_le h, Bool.eq_iff_iff, hasLk_iff, List.any_eq_true]
 exact ⟨fun ⟨y, hy, e⟩ => by rw [← (eqLk_iff _ _).1 e]; exact hy, fun hk => ⟨k, hk, (eqLk_iff _ _).2 rfl⟩⟩
theorem sec_no (ns : List Nd) (ds : List Dv) (F : Fd) (ls : List Lk) (z cl : List Int) : secB ns ds F ls z cl false = (allB F.ls ls ls.length && deadB cl z z.length) := by
 unfold secB allB deadB
 rw [List.take_of_length_le (Nat.le_refl _), List.take_of_length_le (Nat.le_refl _)]
 have h1 : (ls.any fun k => !hasLk F.ls k) = !(ls.all fun k => hasLk F.ls k) := by rw [List.not_all_eq_any_not]
 have h2 : z.any (liveAt cl) = !(z.all fun v => !liveAt cl v) := by rw [List.not_all_eq_any_not]; congr 1; funext v; rw [Bool.not_not]
 rw [h1, h2]
 cases ls.all fun k => hasLk F.ls k <;> cases z.all fun v => !liveAt cl v <;> rfl
theorem sec_yes (ns : List Nd) (ds : List Dv) (F : Fd) (ls : List Lk) (z cl : List Int) : secB ns ds F ls z cl true = (secB ns ds F ls z cl false && sidesB ns ds ls z) := by
 unfold secB; simp
theorem sec_err {ns : List Nd} {ds : List Dv} {F : Fd} {ls : List Lk} {z : List Int} (h : fdErr ns ds F = 0) (h1 : locksErr ns ds ls = 0) (h2 : zoneErr ns ds z = 0) : secErr ns ds F ls z = 0 ∧ sideErr ns ds ls z = 0 := by
 have h3 : sideErr ns ds ls z = 0 := by unfold sideErr; rw [if_neg (by omega)]; exact h2
 exact ⟨by unfold secErr; rw [if_neg (by omega)]; exact h3, h3⟩
theorem zone_fine {ns : List Nd} {ds : List Dv} {z : List Int} (hc : checkN ns ds = 0) (h0 : 0 < z.length) (hr : risL ns.length (-1) z = true) : zoneErr ns ds z = 0 := by
 unfold zoneErr
 rw [if_neg (by omega), if_neg (by omega), if_neg (by rw [hr]; simp)]
end Go.Proofs.YtepicjpdhpojnaaGreatDoor
