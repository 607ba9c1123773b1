import Derived.Test.YtkkobemhbicjgaaGreatDoorQ36
namespace Go.Proofs.YtkkobemhbicjgaaGreatDoor
open Go.RowKit
structure Br (w : World) (nt st gr pg sk : Array Value) (wr : World) : Prop where
 b0 : Blk wr w.heap.size 30 nt
 b1 : Blk wr (w.heap.size + 1) 22 st
 b2 : Blk wr (w.heap.size + 2) 37 gr
 b3 : Blk wr (w.heap.size + 3) 41 pg
 b4 : Blk wr (w.heap.size + 4) 22 sk
 b5 : Blk wr (w.heap.size + 5) 37 #[.int .i64 0, .slice none 0 0, .slice none 0 0]
 bl : Below w.heap.size w wr
theorem Br.new (w : World) (nt st gr pg sk : Array Value) : Br w nt st gr pg sk ((((((w.alloc (.cells nt 30)).alloc (.cells st 22)).alloc (.cells gr 37)).alloc (.cells pg 41)).alloc (.cells sk 22)).alloc (.cells #[.int .i64 0, .slice none 0 0, .slice none 0 0] 37)) := by
 obtain ⟨h0, h1, h2, h3, h4⟩ := blk4 w 30 22 37 41 nt st gr pg
 have hz : ((((w.alloc (.cells nt 30)).alloc (.cells st 22)).alloc (.cells gr 37)).alloc (.cells pg 41)).heap.size = w.heap.size + 4 := by simp
 generalize World.alloc (World.alloc (World.alloc (World.alloc w _) _) _) _ = W at *
 have h5 := Blk.new W 22 sk
 have h6 := Blk.new (W.alloc (.cells sk 22)) 37 #[.int .i64 0, .slice none 0 0, .slice none 0 0]
 rw [hz] at h5
 rw [World.size_alloc, hz] at h6
 exact ⟨(h0.alloc _).alloc _, (h1.alloc _).alloc _, (h2.alloc _).alloc _, (h3.alloc _).alloc _, h5.alloc _, h6, (h4.alloc (by omega) _).alloc (by simp; omega) _⟩
theorem Br.later {w wr wr' : World} {nt st gr pg sk : Array Value} (h : Br w nt st gr pg sk wr) (hb : Below wr.heap.size wr wr') : Br w nt st gr pg sk wr' := ⟨h.b0.below hb h.b0.lt, h.b1.below hb h.b1.lt, h.b2.below hb h.b2.lt, h.b3.below hb h.b3.lt, h.b4.below hb h.b4.lt, h.b5.below hb h.b5.lt, h.bl.trans (hb.mono h.bl.size)⟩
structure RnAt (w : World) (A1 A2 Al Ap : Option Addr) (n1 c1 n2 c2 nl cl np cp : Nat) (out : List Fn) (t : Sm) : Prop where
 o : Sl w w.heap.size 2 A1 n1 c1 (out.flatMap Fn.cells)
 s : Sl w w.heap.size 1 A2 n2 c2 (intsV t.s)
 l : Sl w w.heap.size 3 Al nl cl (t.ls.flatMap Lk.cells)
 p : Sl w w.heap.size 1 Ap np cp (intsV t.pr)
end Go.Proofs.YtkkobemhbicjgaaGreatDoor
