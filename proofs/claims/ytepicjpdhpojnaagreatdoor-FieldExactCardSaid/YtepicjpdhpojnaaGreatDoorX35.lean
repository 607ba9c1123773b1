import Derived.Test.YtepicjpdhpojnaaGreatDoorX33
import Derived.Test.YtepicjpdhpojnaaGreatDoorX34
import Derived.Test.YtepicjpdhpojnaaGreatDoorX32
namespace Go.Proofs.YtepicjpdhpojnaaGreatDoor
section
open Go.RowKit
structure LwN (w : World) (nb : Nat) (An : Option Addr) (nn cn : Nat) (ns : List Nd) (Ad : Option Addr) (nd cd : Nat) (ds : List Dv) (wr : World) : Prop where
 dk : zU wr w.heap.size
 bx : Blk wr nb 30 #[.slice An nn cn, .slice Ad nd cd]
 hn : SlX wr w.heap.size 3 An nn cn (ns.flatMap Nd.cells)
 hd : SlX wr w.heap.size 5 Ad nd cd (ds.flatMap Dv.cells)
 bl : Below w.heap.size w wr
 ge : w.heap.size < nb
 la : Laid wr
section
variable {w wr wr' : World} {nb nn cn nd cd : Nat} {An Ad : Option Addr} {ns : List Nd} {ds : List Dv}
theorem LwN.grown (h : LwN w nb An nn cn ns Ad nd cd ds wr) (hl : Laid w) (hg : wr.grownBy wr' (some w.heap.size)) (hd : zU wr' w.heap.size) : LwN w nb An nn cn ns Ad nd cd ds wr' :=
 ⟨hd, h.bx.grown hg (fun e => by have := h.ge; injection e; omega), h.hn.grown hg, h.hd.grown hg, h.bl.trans (yL hg lR h.bl.size), h.ge, h.la.grown hl hg lR⟩
theorem LwN.later (h : LwN w nb An nn cn ns Ad nd cd ds wr) (hb : Below wr.heap.size wr wr') : LwN w nb An nn cn ns Ad nd cd ds wr' :=
 ⟨h.dk.grown (zN hb none) (fun k e => by cases e), h.bx.below hb h.bx.lt, h.hn.below hb, h.hd.below hb, h.bl.trans (hb.mono h.bl.size), h.ge, h.la.below hb lR⟩
theorem LwN.mk0 {w1 w2 : World} {nodes dmax : Int} (hl : Laid w) (hb1 : Below w.heap.size w w1) (hs1 : w1.heap.size = w.heap.size + 1) (hd2 : zU w2 w.heap.size) (hg2 : w1.grownBy w2 (some w.heap.size))
 (hrn : w2.ownsRow (w1.heap.size + 4) 74 3 (.slice An nn cn) nn (ns.flatMap Nd.cells)) (hrd : w2.ownsRow (w1.heap.size + 4) 38 5 (.slice Ad nd cd) nd (ds.flatMap Dv.cells)) (_hm : sD nodes dmax ns ds) :
 LwN w w2.heap.size An nn cn ns Ad nd cd ds (w2.alloc (.cells #[.slice An nn cn, .slice Ad nd cd] 30)) ∧ ns.length = nn ∧ ds.length = nd := by
 have hb2 : Below w.heap.size w w2 := hb1.trans (yL hg2 lR (by omega))
 refine ⟨⟨hd2.alloc _, Blk.new _ _ _, (SlX.of_own hrn (by omega)).alloc _, (SlX.of_own hrd (by omega)).alloc _, hb2.alloc hb2.size _, ?_, (hl.below hb2 lR).alloc _⟩, (Sl.of_own hrn).len (fun _ => rfl) (by decide), (Sl.of_own hrd).len (fun _ => rfl) (by decide)⟩
 have := hg2.size; omega
end
end
section
open Go.RowKit
structure xi (g : Nat) (P : World → Prop) : Prop where
 later : ∀ {wr wr' : World}, P wr → Below wr.heap.size wr wr' → P wr'
 grown : ∀ {wr wr' : World}, P wr → wr.grownBy wr' (some g) → zU wr' g → P wr'
theorem xi.and {g : Nat} {P Q : World → Prop} (hp : xi g P) (hq : xi g Q) : xi g fun w => P w ∧ Q w := ⟨fun h hb => ⟨hp.later h.1 hb, hq.later h.2 hb⟩, fun h hg hd => ⟨hp.grown h.1 hg hd, hq.grown h.2 hg hd⟩⟩
theorem xi.blk {g b : Nat} {t : TypeId} {cs : Array Value} (hne : b ≠ g) : xi g fun w => Blk w b t cs := ⟨fun h hb => h.below hb h.lt, fun h hg _ => h.grown hg (fun e => hne (by injection e))⟩
theorem xi.slx {g size n c : Nat} {A : Option Addr} {xs : List Value} : xi g fun w => SlX w g size A n c xs := ⟨fun h hb => h.below hb, fun h hg _ => h.grown hg⟩
theorem SlX.nil (w : World) (g size : Nat) : SlX w g size none 0 0 [] := ⟨Sl.nil _ _ _, fun b off e => by cases e⟩
theorem xi.drew {g : Nat} {P : World → Prop} (hk : xi g P) {w : World} (h : P w) : P w.drew := hk.later h (Below.refl _ _).drew
end
section
open Go.RowKit
structure FdX (g : Nat) (An Ad As Al At : Option Addr) (nn cn nd cd n c nl cl nt ct : Nat) (ns : List Nd) (ds : List Dv) (F : Fd) (w : World) : Prop where
 dk : zU w g
 hn : SlX w g 3 An nn cn (ns.flatMap Nd.cells)
 hd : SlX w g 5 Ad nd cd (ds.flatMap Dv.cells)
 hs : SlX w g 1 As n c (zK F.s)
 hl : SlX w g 3 Al nl cl (F.ls.flatMap Lk.cells)
 ht : SlX w g 1 At nt ct (zK F.st)
 la : Laid w
 sn : ∀ x ∈ ns, x.name.size ≤ 9223372036854775807
 sd : ∀ x ∈ ds, x.name.size ≤ 9223372036854775807
section
variable {w0 w w' : World} {g : Nat} {An Ad As Al At : Option Addr} {nn cn nd cd n c nl cl nt ct : Nat} {ns : List Nd} {ds : List Dv} {F : Fd}
theorem FdX.fdm (h : FdX g An Ad As Al At nn cn nd cd n c nl cl nt ct ns ds F w) : FdM w An Ad As Al At nn cn nd cd n c nl cl nt ct ns ds F := ⟨h.hn.1, h.hd.1, h.hs.1, h.hl.1, h.ht.1, h.la, h.sn, h.sd⟩
theorem FdX.later (h : FdX g An Ad As Al At nn cn nd cd n c nl cl nt ct ns ds F w) (hb : Below w.heap.size w w') : FdX g An Ad As Al At nn cn nd cd n c nl cl nt ct ns ds F w' :=
 ⟨h.dk.below hb h.dk.lt, h.hn.below hb, h.hd.below hb, h.hs.below hb, h.hl.below hb, h.ht.below hb, h.la.below hb lR, h.sn, h.sd⟩
theorem FdX.alloc (h : FdX g An Ad As Al At nn cn nd cd n c nl cl nt ct ns ds F w) (o : Obj) : FdX g An Ad As Al At nn cn nd cd n c nl cl nt ct ns ds F (w.alloc o) := h.later ((Below.refl _ _).alloc lR _)
theorem FdX.grown (h : FdX g An Ad As Al At nn cn nd cd n c nl cl nt ct ns ds F w) (h0 : Laid w0) (hge : w0.heap.size ≤ g) (hd : zU w' g) (hg : w.grownBy w' (some g)) : FdX g An Ad As Al At nn cn nd cd n c nl cl nt ct ns ds F w' :=
 ⟨hd, h.hn.grown hg, h.hd.grown hg, h.hs.grown hg, h.hl.grown hg, h.ht.grown hg, h.la.grown h0 hg hge, h.sn, h.sd⟩
theorem FdX.new {A1 A2 A3 : Option Addr} {n1 c1 n2 c2 n3 c3 : Nat} {F' : Fd} (h : FdX g An Ad As Al At nn cn nd cd n c nl cl nt ct ns ds F w) (hb : Below w.heap.size w w') (h3 : Fd3 w' A1 n1 c1 A2 n2 c2 A3 n3 c3 F') (ha : Ap g A1 ∧ Ap g A2 ∧ Ap g A3) : FdX g An Ad A1 A2 A3 nn cn nd cd n1 c1 n2 c2 n3 c3 ns ds F' w' := by
 have h1 := h.later hb
 exact ⟨h1.dk, h1.hn, h1.hd, ⟨h3.1, ha.1⟩, ⟨h3.2.1, ha.2.1⟩, ⟨h3.2.2, ha.2.2⟩, h1.la, h1.sn, h1.sd⟩
end
theorem lB {ds : List Dv} {ss : List Int} (hv : t7 ds ss) : ∀ x ∈ ds, x.name.size ≤ 9223372036854775807 := by
 have h : ∀ nm ∈ ds.map Dv.name, nm.size ≤ 9223372036854775807 := by
  obtain ⟨k, c, -, -, h⟩ := hv
  rcases h with ⟨rfl, -⟩ | ⟨rfl, -⟩ | ⟨e, -, rfl, -⟩ <;> simp only [tB, dvG, dvD, List.cons_append, List.nil_append, List.map_cons, List.map_nil] <;> decide
 exact fun x hx => h _ (List.mem_map_of_mem hx)
theorem FdX.tie {w w' : World} {g : Nat} {An Ad As : Option Addr} {cn nd cd cs : Nat} {ns : List Nd} {ds : List Dv} {ss : List Int} (hl : g < w.heap.size) (hla : Laid w') (hd : zU w' g)
 (hrn : w'.ownsRow (w.heap.size + 2) 74 3 (.slice An 6 cn) 6 (ns.flatMap Nd.cells)) (hrd : w'.ownsRow (w.heap.size + 2) 38 5 (.slice Ad nd cd) nd (ds.flatMap Dv.cells)) (hrs : zQ w' (w.heap.size + 2) As nd cs ss) (hn : t8 ns) (hv : t7 ds ss) : FdX g An Ad As none none 6 cn nd cd nd cs 0 0 0 0 ns ds ⟨ss, [], []⟩ w' := by
 refine ⟨hd, SlX.of_own hrn (by omega), SlX.of_own hrd (by omega), SlX.of_own hrs (by omega), SlX.nil _ _ _, SlX.nil _ _ _, hla, fun x hx => ?_, lB hv⟩
 obtain ⟨i, hi⟩ := List.mem_iff_getElem?.1 hx
 rw [(hn i x hi).1, nm1, s7]
 simp
end
section
open Go.RowKit
section
variable {ns : List Nd} {ds : List Dv} {F : Fd} {k d p q : Int}
theorem rq {ls : List Lk} (hc : zX ns ds = 0) (h : vS ds ls) : zL ns ds ls = 0 := by
 unfold zL
 rw [if_neg (by rw [hc]; simp), if_neg (by have := h.1; omega)]
 exact kW h
theorem rR {s : List Int} (hc : zX ns ds = 0) (hl : s.length = ds.length) (hp : ∀ p ∈ s, yv p = true) : zV ns ds s = 0 := by
 unfold zV
 rw [if_neg (by simp [hc]), if_neg (by simp [hl]), if_pos hp]
theorem ll (h : zR ns ds F k d p q = 0) : zk ns ds F = 0 ∧ (0 ≤ d ∧ d < ds.length) ∧ xx k p q = false ∧ yB ns ds F k d p q = 0 := by
 unfold zR at h
 split at h
 ·next h1 => exact absurd h h1
 ·next h1 =>
  split at h
  ·cases h
  ·next h2 =>
   split at h
   ·cases h
   ·next h3 => exact ⟨by simpa using h1, by omega, by simpa using h3, h⟩
theorem add_zero {ls : List Lk} {x : Lk} (h : zq ns ds ls x = 0) : zL ns ds ls = 0 ∧ yJ ds x = 0 ∧ yr ls x.key = false ∧ yj ls x = false ∧ ls.length ≠ 128 := by
 unfold zq at h
 repeat' split at h
 all_goals first | contradiction | omega | (refine ⟨?_, ?_, ?_, ?_, ?_⟩ <;> first | assumption | simp_all)
theorem pn (h : zR ns ds F k d p q = 0) : zk ns ds (yu ds F k d p q) = 0 := by
 obtain ⟨h0, hd, -, he⟩ := ll h
 obtain ⟨hs, hl, hk, hst⟩ := yo h0
 obtain ⟨hc, hlen, hpos⟩ := yD hs
 have hG := y8 hl
 unfold yu
 split
 ·next hk3 =>
  split
  ·exact h0
  ·next hno =>
   simp only [Bool.or_eq_true, not_or, Bool.not_eq_true, Option.isSome_eq_false_iff, Option.isNone_iff_eq_none] at hno
   have hp : yv (if k = 2 then 1 else p) = true := by
    rcases hk3 with rfl | rfl | rfl
    ·unfold yB at he
     rw [if_pos rfl] at he
     rw [if_neg (by decide)]
     repeat' split at he
     all_goals first | contradiction | simp_all
    ·rw [if_pos rfl]; decide
    ·unfold yB at he
     rw [if_neg (by decide), if_neg (by decide), if_pos rfl] at he
     rw [if_neg (by decide)]
     repeat' split at he
     all_goals first | contradiction | assumption
   refine wJ (rR hc (by simpa using hlen) fun y hy => ?_) hl (fun x hx => ?_) hst
   ·rcases List.mem_or_eq_of_mem_set hy with h1 | h1
    ·exact hpos y h1
    ·rw [h1]; exact hp
   ·have hne := vh.1 hno.1 x hx
    have hxd := sN (hG.2.1 x hx)
    have := hk x hx
    simp only [List.getD_eq_getElem?_getD] at this ⊢
    rw [List.getElem?_set_ne (by omega)]
    exact this
 ·split
  ·exact wJ hs hl hk (rQ _ _ _ _)
  ·split
   ·next h6 =>
    subst h6
    unfold yB at he
    rw [if_neg (by decide), if_neg (by decide), if_neg (by decide), if_neg (by decide), if_pos rfl] at he
    split at he
    ·next hp =>
     obtain ⟨-, h2, h3, h4, h5⟩ := add_zero he
     have hlt : F.ls.length < 128 := by have := hG.1; omega
     refine wJ hs (rq hc (rv hG h2 h3 h4 hlt)) (fun x hx => ?_) hst
     rcases (rC ..).1 hx with rfl | hx
     ·exact hp.2
     ·exact hk x hx
    ·cases he
   ·split
    ·cases hi : xk d q F.ls with
     | none => exact h0
     | some i =>
      refine wJ hs (rq hc ⟨?_, fun x hx => hG.2.1 x (List.mem_of_mem_eraseIdx hx), hG.2.2.sublist (List.eraseIdx_sublist ..)⟩) (fun x hx => hk x (List.mem_of_mem_eraseIdx hx)) hst
      have := List.length_eraseIdx_le F.ls i
      have := hG.1
      simp only
      omega
    ·exact h0
end
end
end Go.Proofs.YtepicjpdhpojnaaGreatDoor
