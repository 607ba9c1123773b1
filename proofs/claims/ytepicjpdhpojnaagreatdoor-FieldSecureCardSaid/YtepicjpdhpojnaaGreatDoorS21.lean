import Derived.Test.YtepicjpdhpojnaaGreatDoorS20
import Derived.Test.YtepicjpdhpojnaaGreatDoorS03
import Derived.Test.YtepicjpdhpojnaaGreatDoorS04
import Derived.Deep.LoopGhost
import Derived.Test.YtepicjpdhpojnaaGreatDoorS18
import Derived.Test.YtepicjpdhpojnaaGreatDoorS19
import Derived.Test.YtepicjpdhpojnaaGreatDoorS16
namespace Go.Proofs.YtepicjpdhpojnaaGreatDoor
open Go.RowKit
def SlX (w : World) (g size : Nat) (A : Option Addr) (n c : Nat) (xs : List Value) : Prop := Sl w w.heap.size size A n c xs ∧ ∀ b off, A = some ⟨b, off, none⟩ → b ≠ g
section
variable {w w' : World} {g size n c base : Nat} {A : Option Addr} {xs : List Value}
theorem SlX.grown (h : SlX w g size A n c xs) (hg : w.grownBy w' (some g)) : SlX w' g size A n c xs := by
 obtain ⟨⟨h1, h2, h3, h4, h5⟩, h6⟩ := h
 refine ⟨⟨h1, h2, h3, h4, fun hn => ?_⟩, h6⟩
 obtain ⟨b, off, e, hb, hc⟩ := h5 hn
 refine ⟨b, off, e, Nat.lt_of_lt_of_le hb hg.size, fun j u hu => ?_⟩
 exact (World.cell?_of_block (hg.block b hb (fun e' => h6 b off e (by injection e')))).trans (hc j u hu)
theorem SlX.below (h : SlX w g size A n c xs) (hb : Below w.heap.size w w') : SlX w' g size A n c xs := ⟨(h.1.below hb (Nat.le_refl _)).more hb.size, h.2⟩
theorem SlX.alloc (h : SlX w g size A n c xs) (o : Obj) : SlX (w.alloc o) g size A n c xs := h.below ((Below.refl _ _).alloc (Nat.le_refl _) _)
theorem SlX.of_own {e : TypeId} (h : w.ownsRow base e size (.slice A n c) n xs) (hb : g < base) : SlX w g size A n c xs :=
 ⟨Sl.of_own h, fun b off e => by have := (h.lt b (by rw [e]; rfl)).1; omega⟩
end
end Go.Proofs.YtepicjpdhpojnaaGreatDoor
namespace Go.Proofs.YtepicjpdhpojnaaGreatDoor
open Go.RowKit
structure LwN (w : World) (nb : Nat) (An : Option Addr) (nn cn : Nat) (ns : List Nd) (Ad : Option Addr) (nd cd : Nat) (ds : List Dv) (wr : World) : Prop where
 dk : DeckAt wr w.heap.size
 bx : Blk wr nb 30 #[.slice An nn cn, .slice Ad nd cd]
 hn : SlX wr w.heap.size 3 An nn cn (ns.flatMap Nd.cells)
 hd : SlX wr w.heap.size 5 Ad nd cd (ds.flatMap Dv.cells)
 bl : Below w.heap.size w wr
 ge : w.heap.size < nb
 la : Laid wr
section
variable {w wr wr' : World} {nb nn cn nd cd : Nat} {An Ad : Option Addr} {ns : List Nd} {ds : List Dv}
theorem LwN.grown (h : LwN w nb An nn cn ns Ad nd cd ds wr) (hl : Laid w) (hg : wr.grownBy wr' (some w.heap.size)) (hd : DeckAt wr' w.heap.size) : LwN w nb An nn cn ns Ad nd cd ds wr' :=
 ⟨hd, h.bx.grown hg (fun e => by have := h.ge; injection e; omega), h.hn.grown hg, h.hd.grown hg, h.bl.trans (below_of_grown hg (Nat.le_refl _) h.bl.size), h.ge, h.la.grown hl hg (Nat.le_refl _)⟩
theorem LwN.later (h : LwN w nb An nn cn ns Ad nd cd ds wr) (hb : Below wr.heap.size wr wr') : LwN w nb An nn cn ns Ad nd cd ds wr' :=
 ⟨h.dk.grown (grown_of_below hb none) (fun k e => by cases e), h.bx.below hb h.bx.lt, h.hn.below hb, h.hd.below hb, h.bl.trans (hb.mono h.bl.size), h.ge, h.la.below hb (Nat.le_refl _)⟩
theorem LwN.mk0 {w1 w2 : World} {nodes dmax : Int} (hl : Laid w) (hb1 : Below w.heap.size w w1) (hs1 : w1.heap.size = w.heap.size + 1) (hd2 : DeckAt w2 w.heap.size) (hg2 : w1.grownBy w2 (some w.heap.size))
 (hrn : w2.ownsRow (w1.heap.size + 4) 74 3 (.slice An nn cn) nn (ns.flatMap Nd.cells)) (hrd : w2.ownsRow (w1.heap.size + 4) 38 5 (.slice Ad nd cd) nd (ds.flatMap Dv.cells)) (_hm : MadeNet nodes dmax ns ds) :
 LwN w w2.heap.size An nn cn ns Ad nd cd ds (w2.alloc (.cells #[.slice An nn cn, .slice Ad nd cd] 30)) ∧ ns.length = nn ∧ ds.length = nd := by
 have hb2 : Below w.heap.size w w2 := hb1.trans (below_of_grown hg2 (Nat.le_refl _) (by omega))
 refine ⟨⟨hd2.alloc _, Blk.new _ _ _, (SlX.of_own hrn (by omega)).alloc _, (SlX.of_own hrd (by omega)).alloc _, hb2.alloc hb2.size _, ?_, (hl.below hb2 (Nat.le_refl _)).alloc _⟩, (Sl.of_own hrn).len (fun _ => rfl) (by decide), (Sl.of_own hrd).len (fun _ => rfl) (by decide)⟩
 have := hg2.size; omega
end
end Go.Proofs.YtepicjpdhpojnaaGreatDoor
namespace Go.Proofs.YtepicjpdhpojnaaGreatDoor
open Go.RowKit
structure Keep (g : Nat) (P : World → Prop) : Prop where
 later : ∀ {wr wr' : World}, P wr → Below wr.heap.size wr wr' → P wr'
 grown : ∀ {wr wr' : World}, P wr → wr.grownBy wr' (some g) → DeckAt wr' g → P wr'
theorem Keep.and {g : Nat} {P Q : World → Prop} (hp : Keep g P) (hq : Keep g Q) : Keep g fun w => P w ∧ Q w := ⟨fun h hb => ⟨hp.later h.1 hb, hq.later h.2 hb⟩, fun h hg hd => ⟨hp.grown h.1 hg hd, hq.grown h.2 hg hd⟩⟩
theorem SlX.nil (w : World) (g size : Nat) : SlX w g size none 0 0 [] := ⟨Sl.nil _ _ _, fun b off e => by cases e⟩
theorem Keep.drew {g : Nat} {P : World → Prop} (hk : Keep g P) {w : World} (h : P w) : P w.drew := hk.later h (Below.refl _ _).drew
end Go.Proofs.YtepicjpdhpojnaaGreatDoor
namespace Go.Proofs.YtepicjpdhpojnaaGreatDoor
open Go.RowKit
structure FdX (g : Nat) (An Ad As Al At : Option Addr) (nn cn nd cd n c nl cl nt ct : Nat) (ns : List Nd) (ds : List Dv) (F : Fd) (w : World) : Prop where
 dk : DeckAt w g
 hn : SlX w g 3 An nn cn (ns.flatMap Nd.cells)
 hd : SlX w g 5 Ad nd cd (ds.flatMap Dv.cells)
 hs : SlX w g 1 As n c (intsV F.s)
 hl : SlX w g 3 Al nl cl (F.ls.flatMap Lk.cells)
 ht : SlX w g 1 At nt ct (intsV F.st)
 la : Laid w
 sn : ∀ x ∈ ns, x.name.size ≤ 9223372036854775807
 sd : ∀ x ∈ ds, x.name.size ≤ 9223372036854775807
section
variable {w0 w w' : World} {g : Nat} {An Ad As Al At : Option Addr} {nn cn nd cd n c nl cl nt ct : Nat} {ns : List Nd} {ds : List Dv} {F : Fd}
theorem FdX.fdm (h : FdX g An Ad As Al At nn cn nd cd n c nl cl nt ct ns ds F w) : FdM w An Ad As Al At nn cn nd cd n c nl cl nt ct ns ds F := ⟨h.hn.1, h.hd.1, h.hs.1, h.hl.1, h.ht.1, h.la, h.sn, h.sd⟩
theorem FdX.later (h : FdX g An Ad As Al At nn cn nd cd n c nl cl nt ct ns ds F w) (hb : Below w.heap.size w w') : FdX g An Ad As Al At nn cn nd cd n c nl cl nt ct ns ds F w' :=
 ⟨h.dk.below hb h.dk.lt, h.hn.below hb, h.hd.below hb, h.hs.below hb, h.hl.below hb, h.ht.below hb, h.la.below hb (Nat.le_refl _), h.sn, h.sd⟩
theorem FdX.alloc (h : FdX g An Ad As Al At nn cn nd cd n c nl cl nt ct ns ds F w) (o : Obj) : FdX g An Ad As Al At nn cn nd cd n c nl cl nt ct ns ds F (w.alloc o) := h.later ((Below.refl _ _).alloc (Nat.le_refl _) _)
theorem FdX.grown (h : FdX g An Ad As Al At nn cn nd cd n c nl cl nt ct ns ds F w) (h0 : Laid w0) (hge : w0.heap.size ≤ g) (hd : DeckAt w' g) (hg : w.grownBy w' (some g)) : FdX g An Ad As Al At nn cn nd cd n c nl cl nt ct ns ds F w' :=
 ⟨hd, h.hn.grown hg, h.hd.grown hg, h.hs.grown hg, h.hl.grown hg, h.ht.grown hg, h.la.grown h0 hg hge, h.sn, h.sd⟩
theorem FdX.new {A1 A2 A3 : Option Addr} {n1 c1 n2 c2 n3 c3 : Nat} {F' : Fd} (h : FdX g An Ad As Al At nn cn nd cd n c nl cl nt ct ns ds F w) (hb : Below w.heap.size w w') (h3 : Fd3 w' A1 n1 c1 A2 n2 c2 A3 n3 c3 F') (ha : Ap g A1 ∧ Ap g A2 ∧ Ap g A3) : FdX g An Ad A1 A2 A3 nn cn nd cd n1 c1 n2 c2 n3 c3 ns ds F' w' := by
 have h1 := h.later hb
 exact ⟨h1.dk, h1.hn, h1.hd, ⟨h3.1, ha.1⟩, ⟨h3.2.1, ha.2.1⟩, ⟨h3.2.2, ha.2.2⟩, h1.la, h1.sn, h1.sd⟩
end
theorem tie_names {ds : List Dv} {ss : List Int} (hv : TieV ds ss) : ∀ x ∈ ds, x.name.size ≤ 9223372036854775807 := by
 have h : ∀ nm ∈ ds.map Dv.name, nm.size ≤ 9223372036854775807 := by
  obtain ⟨k, c, -, -, h⟩ := hv
  rcases h with ⟨rfl, -⟩ | ⟨rfl, -⟩ | ⟨e, -, rfl, -⟩ <;> simp only [tieD, dvG, dvD, List.cons_append, List.nil_append, List.map_cons, List.map_nil] <;> decide
 exact fun x hx => h _ (List.mem_map_of_mem hx)
theorem FdX.tie {w w' : World} {g : Nat} {An Ad As : Option Addr} {cn nd cd cs : Nat} {ns : List Nd} {ds : List Dv} {ss : List Int} (hl : g < w.heap.size) (hla : Laid w') (hd : DeckAt w' g)
 (hrn : w'.ownsRow (w.heap.size + 2) 74 3 (.slice An 6 cn) 6 (ns.flatMap Nd.cells)) (hrd : w'.ownsRow (w.heap.size + 2) 38 5 (.slice Ad nd cd) nd (ds.flatMap Dv.cells)) (hrs : IntsO w' (w.heap.size + 2) As nd cs ss) (hn : TieNs ns) (hv : TieV ds ss) : FdX g An Ad As none none 6 cn nd cd nd cs 0 0 0 0 ns ds ⟨ss, [], []⟩ w' := by
 refine ⟨hd, SlX.of_own hrn (by omega), SlX.of_own hrd (by omega), SlX.of_own hrs (by omega), SlX.nil _ _ _, SlX.nil _ _ _, hla, fun x hx => ?_, tie_names hv⟩
 obtain ⟨i, hi⟩ := List.mem_iff_getElem?.1 hx
 rw [(hn i x hi).1, nm1, size_mk]
 simp
end Go.Proofs.YtepicjpdhpojnaaGreatDoor
