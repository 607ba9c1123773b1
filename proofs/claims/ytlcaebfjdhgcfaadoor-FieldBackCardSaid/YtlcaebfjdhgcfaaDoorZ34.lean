import Derived.Test.YtlcaebfjdhgcfaaDoorZ33
import Derived.Test.YtlcaebfjdhgcfaaDoorZ04
import Derived.Test.YtlcaebfjdhgcfaaDoorZ05
import Derived.Deep.LoopGhost
import Derived.Test.YtlcaebfjdhgcfaaDoorZ30
import Derived.Test.YtlcaebfjdhgcfaaDoorZ32
/-
  The statements' maker of states.
-/
namespace Go.Proofs.YtlcaebfjdhgcfaaDoor
open Go.RowKit
/-- A slice that lies in no cell of block g. -/
def SlX (w : World) (g size : Nat) (A : Option Addr) (n c : Nat) (xs : List Value) : Prop := Sl w w.heap.size size A n c xs ∧ ∀ b off, A = some ⟨b, off, none⟩ → b ≠ g
section
variable {w w' : World} {g size n c base : Nat} {A : Option Addr} {xs : List Value}
theorem SlX.grown (h : SlX w g size A n c xs) (hg : w.grownBy w' (some g)) : SlX w' g size A n c xs := by
  obtain ⟨⟨h1, h2, h3, h4, h5⟩, h6⟩ := h
  refine ⟨⟨h1, h2, h3, h4, fun hn => ?_⟩, h6⟩
  obtain ⟨b, off, e, hb, hc⟩ := h5 hn
  refine ⟨b, off, e, Nat.lt_of_lt_of_le hb hg.size, fun j u hu => ?_⟩
  exact (World.cell?_of_block (hg.block b hb (fun e' => h6 b off e (by injection e')))).trans (hc j u hu)
theorem SlX.below (h : SlX w g size A n c xs) (hb : Below w.heap.size w w') : SlX w' g size A n c xs := ⟨(h.1.below hb (Nat.le_refl _)).more hb.size, h.2⟩
theorem SlX.alloc (h : SlX w g size A n c xs) (o : Obj) : SlX (w.alloc o) g size A n c xs := h.below ((Below.refl _ _).alloc (Nat.le_refl _) _)
theorem SlX.of_own {e : TypeId} (h : w.ownsRow base e size (.slice A n c) n xs) (hb : g < base) : SlX w g size A n c xs :=
  ⟨Sl.of_own h, fun b off e => by have := (h.lt b (by rw [e]; rfl)).1; omega⟩
end
def StatePost (w : World) (g nd : Nat) (e : Ending) (w' : World) : Prop :=
  ∃ (A : Option Addr) (c : Nat) (s : List Int), e = .returned (.slice A nd c) ∧ Hid (DeckAt w' g) ∧ Hid (w.grownBy w' (some g)) ∧ Hid (IntsO w' (w.heap.size + 1) A nd c s) ∧ Hid (∀ p ∈ s, posB p = true)
def MsRel (w W : World) (g nd gk : Nat) (ov iv : Value) (wr : World) : Prop :=
  ∃ (i c : Nat) (A : Option Addr) (s : List Int), ov = .slice A i c ∧ iv = .int .i64 i ∧ i ≤ nd ∧ gk = nd - i ∧ Hid (IntsO wr (w.heap.size + 1) A i c s) ∧ Hid (DeckAt wr g) ∧ Hid (W.grownBy wr (some g)) ∧ Hid (∀ p ∈ s, posB p = true)
end Go.Proofs.YtlcaebfjdhgcfaaDoor
/-
  The memory of a law that has made a network: the deck, the network's box and rows.
-/
namespace Go.Proofs.YtlcaebfjdhgcfaaDoor
open Go.RowKit
/-- w: the world at the law's start, in which the deck is the next block; nb: the network's box. -/
structure LwN (w : World) (nb : Nat) (An : Option Addr) (nn cn : Nat) (ns : List Nd) (Ad : Option Addr) (nd cd : Nat) (ds : List Dv) (wr : World) : Prop where
  dk : DeckAt wr w.heap.size
  bx : Blk wr nb 30 #[.slice An nn cn, .slice Ad nd cd]
  hn : SlX wr w.heap.size 3 An nn cn (ns.flatMap Nd.cells)
  hd : SlX wr w.heap.size 5 Ad nd cd (ds.flatMap Dv.cells)
  bl : Below w.heap.size w wr
  ge : w.heap.size < nb
  la : Laid wr
section
variable {w wr wr' : World} {nb nn cn nd cd : Nat} {An Ad : Option Addr} {ns : List Nd} {ds : List Dv}
theorem LwN.grown (h : LwN w nb An nn cn ns Ad nd cd ds wr) (hl : Laid w) (hg : wr.grownBy wr' (some w.heap.size)) (hd : DeckAt wr' w.heap.size) : LwN w nb An nn cn ns Ad nd cd ds wr' :=
  ⟨hd, h.bx.grown hg (fun e => by have := h.ge; injection e; omega), h.hn.grown hg, h.hd.grown hg, h.bl.trans (below_of_grown hg (Nat.le_refl _) h.bl.size), h.ge, h.la.grown hl hg (Nat.le_refl _)⟩
theorem LwN.later (h : LwN w nb An nn cn ns Ad nd cd ds wr) (hb : Below wr.heap.size wr wr') : LwN w nb An nn cn ns Ad nd cd ds wr' :=
  ⟨h.dk.grown (grown_of_below hb none) (fun k e => by cases e), h.bx.below hb h.bx.lt, h.hn.below hb, h.hd.below hb, h.bl.trans (hb.mono h.bl.size), h.ge, h.la.below hb (Nat.le_refl _)⟩
theorem LwN.mk0 {w1 w2 : World} {nodes dmax : Int} (hl : Laid w) (hb1 : Below w.heap.size w w1) (hs1 : w1.heap.size = w.heap.size + 1) (hd2 : DeckAt w2 w.heap.size) (hg2 : w1.grownBy w2 (some w.heap.size))
    (hrn : w2.ownsRow (w1.heap.size + 4) 55 3 (.slice An nn cn) nn (ns.flatMap Nd.cells)) (hrd : w2.ownsRow (w1.heap.size + 4) 52 5 (.slice Ad nd cd) nd (ds.flatMap Dv.cells)) (_hm : MadeNet nodes dmax ns ds) :
    LwN w w2.heap.size An nn cn ns Ad nd cd ds (w2.alloc (.cells #[.slice An nn cn, .slice Ad nd cd] 30)) ∧ ns.length = nn ∧ ds.length = nd := by
  have hb2 : Below w.heap.size w w2 := hb1.trans (below_of_grown hg2 (Nat.le_refl _) (by omega))
  refine ⟨⟨hd2.alloc _, Blk.new _ _ _, (SlX.of_own hrn (by omega)).alloc _, (SlX.of_own hrd (by omega)).alloc _, hb2.alloc hb2.size _, ?_, (hl.below hb2 (Nat.le_refl _)).alloc _⟩, (Sl.of_own hrn).len (fun _ => rfl) (by decide), (Sl.of_own hrd).len (fun _ => rfl) (by decide)⟩
  have := hg2.size; omega
end
end Go.Proofs.YtlcaebfjdhgcfaaDoor
/-
  What stays true behind calls, and behind the deck's calls.
-/
namespace Go.Proofs.YtlcaebfjdhgcfaaDoor
open Go.RowKit
structure Keep (g : Nat) (P : World → Prop) : Prop where
  later : ∀ {wr wr' : World}, P wr → Below wr.heap.size wr wr' → P wr'
  grown : ∀ {wr wr' : World}, P wr → wr.grownBy wr' (some g) → DeckAt wr' g → P wr'
theorem Keep.and {g : Nat} {P Q : World → Prop} (hp : Keep g P) (hq : Keep g Q) : Keep g fun w => P w ∧ Q w := ⟨fun h hb => ⟨hp.later h.1 hb, hq.later h.2 hb⟩, fun h hg hd => ⟨hp.grown h.1 hg hd, hq.grown h.2 hg hd⟩⟩
theorem Keep.blk {g b : Nat} {t : TypeId} {cs : Array Value} (hne : b ≠ g) : Keep g fun w => Blk w b t cs := ⟨fun h hb => h.below hb h.lt, fun h hg _ => h.grown hg (fun e => hne (by injection e))⟩
theorem Keep.slx {g size n c : Nat} {A : Option Addr} {xs : List Value} : Keep g fun w => SlX w g size A n c xs := ⟨fun h hb => h.below hb, fun h hg _ => h.grown hg⟩
theorem Keep.lwn {w : World} {nb nn cn nd cd : Nat} {An Ad : Option Addr} {ns : List Nd} {ds : List Dv} (hl : Laid w) : Keep w.heap.size (LwN w nb An nn cn ns Ad nd cd ds) :=
  ⟨fun h hb => h.later hb, fun h hg hd => h.grown hl hg hd⟩
theorem SlX.nil (w : World) (g size : Nat) : SlX w g size none 0 0 [] := ⟨Sl.nil _ _ _, fun b off e => by cases e⟩
theorem Keep.drew {g : Nat} {P : World → Prop} (hk : Keep g P) {w : World} (h : P w) : P w.drew := hk.later h (Below.refl _ _).drew
end Go.Proofs.YtlcaebfjdhgcfaaDoor
