import Derived.Test.YtepicjpdhpojnaaGreatDoorS10
import Derived.Test.YtepicjpdhpojnaaGreatDoorS02
import Derived.Test.YtepicjpdhpojnaaGreatDoorS08
import Derived.Test.YtepicjpdhpojnaaGreatDoorS04
import Derived.Deep.QuietTactic
import Derived.Test.YtepicjpdhpojnaaGreatDoorS09
import Derived.Test.YtepicjpdhpojnaaGreatDoorLkSort
set_option maxRecDepth 100000
set_option maxHeartbeats 4000000
namespace Go.Proofs.YtepicjpdhpojnaaGreatDoor
open Go.RowKit
def OnePost (w : World) (g : Nat) (e : Ending) (w' : World) : Prop :=
 ∃ r : Bool, e = .returned (.bool r) ∧ Hid (DeckAt w' g) ∧ Hid (w.grownBy w' (some g)) ∧ Hid (w'.heap.size = w.heap.size)
theorem one_any (g : Nat) (n : Int) (w : World) (hd : DeckAt w g) (hn : n ≤ 9223372036854775807) : Calls Tryz.prog 12 #[.pointer (some ⟨g, 0, none⟩), .int .i64 n] w (OnePost w g) := by
 have HD := Lib.hid hd; clear hd
 go_enter Tryz.func12, Tryz.ntmps12
 go_wp2_with fail
 refine (next_any g n w HD.out hn).mono ?_
 rintro e w1 ⟨r, rfl, h0, h1, h2, h3, h4, h5⟩
 clear h1 h2
 go_wp2_with fail
 go_ret
 exact ⟨_, rfl, h3, h4, h5⟩
end Go.Proofs.YtepicjpdhpojnaaGreatDoor
namespace Go.Proofs.YtepicjpdhpojnaaGreatDoor
open Go.RowKit
theorem el_node : ElemI Tryz.prog 27 74 3 32 := ElemI.mk' (z := .agg #[.string ⟨#[]⟩, .int .i64 0, .int .i64 0]) Tryz.underlying27 (by kernel_rfl) rfl (by decide)
theorem el_dev : ElemI Tryz.prog 28 38 5 48 := ElemI.mk' (z := .agg #[.string ⟨#[]⟩, .int .i64 0, .int .i64 0, .int .i64 0, .int .i64 0]) Tryz.underlying28 (by kernel_rfl) rfl (by decide)
structure NetSt (w0 : World) (g : Nat) (dmax : Int) (An : Option Addr) (nn cn : Nat) (ns : List Nd) (Ad : Option Addr) (nd cd : Nat) (ds : List Dv) (w : World) : Prop where
 lt : g < w0.heap.size
 deck : DeckAt w g
 gr : w0.grownBy w (some g)
 pb : Blk w w0.heap.size 25 #[.pointer (some ⟨g, 0, none⟩)]
 db : Blk w (w0.heap.size + 1) 3 #[.int .i64 dmax]
 rb : Blk w (w0.heap.size + 2) 30 #[.slice none 0 0, .slice none 0 0]
 nb : Blk w (w0.heap.size + 3) 30 #[.slice An nn cn, .slice Ad nd cd]
 rn : w.ownsRow (w0.heap.size + 4) 74 3 (.slice An nn cn) nn (ns.flatMap Nd.cells)
 rd : w.ownsRow (w0.heap.size + 4) 38 5 (.slice Ad nd cd) nd (ds.flatMap Dv.cells)
 ne : (Value.slice An nn cn).ownBlock = none ∨ (Value.slice An nn cn).ownBlock ≠ (Value.slice Ad nd cd).ownBlock
section
variable {w0 w w' : World} {g : Nat} {dmax : Int} {An Ad : Option Addr} {nn cn nd cd : Nat} {ns : List Nd} {ds : List Dv}
theorem NetSt.size (h : NetSt w0 g dmax An nn cn ns Ad nd cd ds w) : w0.heap.size + 4 ≤ w.heap.size := h.nb.lt
theorem ne_row {v : Value} {q : Nat} (h : ∀ b, v.ownBlock = some b → b ≠ q) : v.ownBlock = none ∨ v.ownBlock ≠ some q := by
 cases hv : v.ownBlock with
 | none => exact .inl rfl
 | some b => exact .inr fun e => by injection e with e; exact h b hv e
theorem NetSt.next (h : NetSt w0 g dmax An nn cn ns Ad nd cd ds w) (hd : DeckAt w' g) (hg : w.grownBy w' (some g)) : NetSt w0 g dmax An nn cn ns Ad nd cd ds w' := by
 have hl := h.lt
 exact ⟨hl, hd, grown_trans h.gr hg, h.pb.grown hg (by simp; omega), h.db.grown hg (by simp; omega), h.rb.grown hg (by simp; omega), h.nb.grown hg (by simp; omega), h.rn.kept hg (ne_row fun b e => by have := (h.rn.lt b e).1; omega), h.rd.kept hg (ne_row fun b e => by have := (h.rd.lt b e).1; omega), h.ne⟩
theorem NetSt.later (h : NetSt w0 g dmax An nn cn ns Ad nd cd ds w) (hb : Below w.heap.size w w') : NetSt w0 g dmax An nn cn ns Ad nd cd ds w' := by
 have hg := grown_of_below hb none
 exact ⟨h.lt, h.deck.below hb h.deck.lt, grown_trans h.gr (grown_of_below hb _), h.pb.below hb h.pb.lt, h.db.below hb h.db.lt, h.rb.below hb h.rb.lt, h.nb.below hb h.nb.lt, h.rn.kept hg (Classical.em _), h.rd.kept hg (Classical.em _), h.ne⟩
theorem NetSt.alloc (h : NetSt w0 g dmax An nn cn ns Ad nd cd ds w) (o : Obj) : NetSt w0 g dmax An nn cn ns Ad nd cd ds (w.alloc o) := h.later ((Below.refl _ _).alloc (Nat.le_refl _) _)
theorem NetSt.drew (h : NetSt w0 g dmax An nn cn ns Ad nd cd ds w) : NetSt w0 g dmax An nn cn ns Ad nd cd ds w.drew := h.later (Below.refl _ _).drew
theorem NetSt.store {q j : Nat} {u : Value} (h : NetSt w0 g dmax An nn cn ns Ad nd cd ds w) (hq : w0.heap.size + 4 ≤ q) (hn : ∀ b, (Value.slice An nn cn).ownBlock = some b → b ≠ q) (hd : ∀ b, (Value.slice Ad nd cd).ownBlock = some b → b ≠ q) : NetSt w0 g dmax An nn cn ns Ad nd cd ds (w.setCell ⟨q, j, none⟩ u) := by
 have hl := h.lt
 have hg : w.grownBy (w.setCell ⟨q, j, none⟩ u) (some q) := ⟨rfl, rfl, rfl, by simp [World.setCell], fun i _ hi => Below.heap_setCell w _ _ i (fun e => hi (by rw [e]))⟩
 exact ⟨hl, h.deck.setCell (by simp; omega) _, grown_set h.gr (by simp; omega) _, h.pb.far (by simp; omega) _, h.db.far (by simp; omega) _, h.rb.far (by simp; omega) _, h.nb.far (by simp; omega) _, h.rn.kept hg (ne_row hn), h.rd.kept hg (ne_row hd), h.ne⟩
theorem NetSt.dev {A1 : Option Addr} {c1 : Nat} {x : Dv} {w1 : World} (h : NetSt w0 g dmax An nn cn ns Ad nd cd ds w) (ho : w1.ownsRow (w0.heap.size + 4) 38 5 (.slice A1 (nd + 1) c1) (nd + 1) (ds.flatMap Dv.cells ++ x.cells)) (hg : w.grownBy w1 (Value.slice Ad nd cd).ownBlock)
 (hv : (Value.slice A1 (nd + 1) c1).ownBlock = (Value.slice Ad nd cd).ownBlock ∨ (Value.slice A1 (nd + 1) c1).ownBlock = some w.heap.size) : NetSt w0 g dmax An nn cn ns A1 (nd + 1) c1 (ds ++ [x]) (w1.setCell ⟨w0.heap.size + 3, 1, none⟩ (.slice A1 (nd + 1) c1)) := by
 have hl := h.lt
 have hz := h.size
 have hr : ∀ b, (Value.slice Ad nd cd).ownBlock = some b → w0.heap.size + 4 ≤ b ∧ b < w.heap.size := fun b e => h.rd.lt b e
 have hr1 : ∀ b, (Value.slice A1 (nd + 1) c1).ownBlock = some b → w0.heap.size + 4 ≤ b := fun b e => (ho.lt b e).1
 have far : ∀ q, q < w0.heap.size + 4 → some q ≠ (Value.slice Ad nd cd).ownBlock := fun q hq e => by have := (hr q e.symm).1; omega
 have hnn : (Value.slice An nn cn).ownBlock = none ∨ (Value.slice An nn cn).ownBlock ≠ (Value.slice Ad nd cd).ownBlock := h.ne
 have hg3 : w1.grownBy (w1.setCell ⟨w0.heap.size + 3, 1, none⟩ (.slice A1 (nd + 1) c1)) (some (w0.heap.size + 3)) := ⟨rfl, rfl, rfl, by simp [World.setCell], fun i _ hi => Below.heap_setCell w1 _ _ i (fun e => hi (by rw [e]))⟩
 refine ⟨hl, (h.deck.grown hg (fun k e => by have := (hr k e).1; omega)).setCell (by simp; omega) _, grown_set (grown_new h.gr hg (fun k e => by have := (hr k e).1; omega)) (by simp) _, (h.pb.grown hg (far _ (by omega))).far (by simp) _, (h.db.grown hg (far _ (by omega))).far (by simp) _, (h.rb.grown hg (far _ (by omega))).far (by simp) _, (h.nb.grown hg (far _ (by omega))).set 1 _, (h.rn.kept hg hnn).kept hg3 (ne_row fun b e => by have := (h.rn.lt b e).1; omega), ?_, ?_⟩
 ·rw [List.flatMap_append]
  exact (ho.kept hg3 (ne_row fun b e => by have := hr1 b e; omega)).mono (Nat.le_refl _) |> fun h => by simpa using h
 ·rcases hv with e | e
  ·rw [e]; exact h.ne
  ·rw [e]
   exact (ne_row fun b eb => by have := (h.rn.lt b eb).2; omega)
theorem NetSt.node {A1 : Option Addr} {c1 : Nat} {x : Nd} {w1 : World} (h : NetSt w0 g dmax An nn cn ns Ad nd cd ds w) (ho : w1.ownsRow (w0.heap.size + 4) 74 3 (.slice A1 (nn + 1) c1) (nn + 1) (ns.flatMap Nd.cells ++ x.cells)) (hg : w.grownBy w1 (Value.slice An nn cn).ownBlock)
 (hv : (Value.slice A1 (nn + 1) c1).ownBlock = (Value.slice An nn cn).ownBlock ∨ (Value.slice A1 (nn + 1) c1).ownBlock = some w.heap.size) : NetSt w0 g dmax A1 (nn + 1) c1 (ns ++ [x]) Ad nd cd ds (w1.setCell ⟨w0.heap.size + 3, 0, none⟩ (.slice A1 (nn + 1) c1)) := by
 have hl := h.lt
 have hz := h.size
 have hr : ∀ b, (Value.slice An nn cn).ownBlock = some b → w0.heap.size + 4 ≤ b ∧ b < w.heap.size := fun b e => h.rn.lt b e
 have hr1 : ∀ b, (Value.slice A1 (nn + 1) c1).ownBlock = some b → w0.heap.size + 4 ≤ b := fun b e => (ho.lt b e).1
 have far : ∀ q, q < w0.heap.size + 4 → some q ≠ (Value.slice An nn cn).ownBlock := fun q hq e => by have := (hr q e.symm).1; omega
 have hnn : (Value.slice Ad nd cd).ownBlock = none ∨ (Value.slice Ad nd cd).ownBlock ≠ (Value.slice An nn cn).ownBlock := by
  cases hv : (Value.slice Ad nd cd).ownBlock with
  | none => exact .inl rfl
  | some b => exact .inr fun e => h.ne.elim (fun h0 => by rw [h0] at e; cases e) (fun h0 => h0 (by rw [hv, e]))
 have hg3 : w1.grownBy (w1.setCell ⟨w0.heap.size + 3, 0, none⟩ (.slice A1 (nn + 1) c1)) (some (w0.heap.size + 3)) := ⟨rfl, rfl, rfl, by simp [World.setCell], fun i _ hi => Below.heap_setCell w1 _ _ i (fun e => hi (by rw [e]))⟩
 refine ⟨hl, (h.deck.grown hg (fun k e => by have := (hr k e).1; omega)).setCell (by simp; omega) _, grown_set (grown_new h.gr hg (fun k e => by have := (hr k e).1; omega)) (by simp) _, (h.pb.grown hg (far _ (by omega))).far (by simp) _, (h.db.grown hg (far _ (by omega))).far (by simp) _, (h.rb.grown hg (far _ (by omega))).far (by simp) _, (h.nb.grown hg (far _ (by omega))).set 0 _, ?_, (h.rd.kept hg hnn).kept hg3 (ne_row fun b e => by have := (h.rd.lt b e).1; omega), ?_⟩
 ·have := ho.kept hg3 (ne_row fun b e => by have := hr1 b e; omega)
  rw [List.flatMap_append]
  simpa using this
 ·rcases hv with e | e
  ·rw [e]; exact h.ne
  ·rw [e]
   refine .inr fun e2 => ?_
   have := (h.rd.lt _ e2.symm).2
   omega
end
end Go.Proofs.YtepicjpdhpojnaaGreatDoor
namespace Go.Proofs.YtepicjpdhpojnaaGreatDoor
open Go.RowKit
theorem fpos_any (p : Int) (w : World) : Calls Tryz.prog 104 #[.int .i64 p] w fun e w' => e = .returned (.bool (posB p)) ∧ w = w' := by
 by_cases h1 : p = 1
 ·subst h1
  go_enter Tryz.func104, Tryz.ntmps104
  go_wp2_with fail
  go_ret
  exact ⟨rfl, rfl⟩
 ·have q1 : (p == 1) = false := by simpa using h1
  have HP : Hid (posB p = (p == 2)) := by unfold Hid; rw [Bool.eq_iff_iff]; simp [posB, h1]
  clear h1
  go_enter Tryz.func104, Tryz.ntmps104
  go_wp2_with fail
  go_ret
  exact ⟨by rw [HP.out]; rfl, rfl⟩
theorem rfpos_any (p : Int) (w : World) : Calls Tryz.prog 38 #[.int .i64 p] w fun e w' => e = .returned (.bool (posB p)) ∧ w = w' := by
 by_cases h1 : p = 1
 ·subst h1
  go_enter Tryz.func38, Tryz.ntmps38
  go_wp2_with fail
  go_ret
  exact ⟨rfl, rfl⟩
 ·have q1 : (p == 1) = false := by simpa using h1
  have HP : Hid (posB p = (p == 2)) := by unfold Hid; rw [Bool.eq_iff_iff]; simp [posB, h1]
  clear h1
  go_enter Tryz.func38, Tryz.ntmps38
  go_wp2_with fail
  go_ret
  exact ⟨by rw [HP.out]; rfl, rfl⟩
def scV (An : Option Addr) (nn cn : Nat) (Ad : Option Addr) (nd cd : Nat) (As : Option Addr) (n c : Nat) (Al : Option Addr) (nl cl : Nat) (At : Option Addr) (nt ct : Nat) (k d p q : Int) (lk sk : Bool) : Array Value :=
 #[.slice An nn cn, .slice Ad nd cd, .slice As n c, .slice Al nl cl, .slice At nt ct, .int .i64 k, .int .i64 d, .int .i64 p, .int .i64 q, .bool lk, .bool sk]
def SlP (w : World) (B sb size : Nat) (A : Option Addr) (n c : Nat) (xs : List Value) : Prop := Sl w w.heap.size size A n c xs ∧ ∀ x i u, B ≤ x → x < sb → Sl (w.setCell ⟨x, i, none⟩ u) w.heap.size size A n c xs
theorem SlP.of_sl {w : World} {B sb size n c : Nat} {A : Option Addr} {xs : List Value} (h : Sl w B size A n c xs) (hB : B ≤ w.heap.size) : SlP w B sb size A n c xs := ⟨h.more hB, fun x i u hx _ => (h.setCell (p := ⟨x, i, none⟩) hx u).more hB⟩
theorem SlP.of_new {w : World} {B sb size n c : Nat} {A : Option Addr} {xs : List Value} (h : Sl w w.heap.size size A n c xs) (hA : ∀ b off, A = some ⟨b, off, none⟩ → sb ≤ b) : SlP w B sb size A n c xs := ⟨h, fun x i u _ hx => by
 obtain ⟨g1, g2, g3, g4, g5⟩ := h
 refine ⟨g1, g2, g3, g4, fun hn => ?_⟩
 obtain ⟨b, off, e, hbb, hc⟩ := g5 hn
 refine ⟨b, off, e, hbb, fun j v hv => ?_⟩
 exact (World.cell?_of_block (Below.heap_setCell w ⟨x, i, none⟩ _ b (by have := hA b off e; simp; omega))).trans (hc j v hv)⟩
theorem SlP.drew {w : World} {B sb size n c : Nat} {A : Option Addr} {xs : List Value} (h : SlP w B sb size A n c xs) : SlP w.drew B sb size A n c xs := ⟨h.1, fun x i u h1 h2 => h.2 x i u h1 h2⟩
theorem SlP.drewN {w : World} {B sb size n c : Nat} {A : Option Addr} {xs : List Value} (h : SlP w B sb size A n c xs) (m : Nat) : SlP (w.drewN m) B sb size A n c xs := ⟨h.1, fun x i u h1 h2 => h.2 x i u h1 h2⟩
def ScTo (w : World) (B sb : Nat) (An : Option Addr) (nn cn : Nat) (Ad : Option Addr) (nd cd : Nat) (k d p q : Int) (lk sk : Bool) (F' : Fd) (w' : World) : Prop :=
 Hid (w.grownBy w' (some sb)) ∧ ∃ (As : Option Addr) (n c : Nat) (Al : Option Addr) (nl cl : Nat) (At : Option Addr) (nt ct : Nat), Hid (Blk w' sb 90 (scV An nn cn Ad nd cd As n c Al nl cl At nt ct k d p q lk sk)) ∧ Hid (SlP w' B sb 1 As n c (intsV F'.s)) ∧ Hid (SlP w' B sb 3 Al nl cl (F'.ls.flatMap Lk.cells)) ∧ Hid (SlP w' B sb 1 At nt ct (intsV F'.st)) ∧ Hid (n ≤ 1000000 ∧ nl ≤ 1000000 ∧ nt ≤ 1000000)
def mvF (F : Fd) (d : Nat) (p : Int) (b : Bool) : Fd := if b = true then F else ⟨F.s.set d p, F.ls, F.st⟩
def opErr (kd p : Int) (lk : Bool) : Int := if kd = 5 then 6 else if posB p = false then 10 else if lk = true then 18 else 0
def rnErr (kd p : Int) : Int := if kd = 6 then (if posB p = true then 0 else 10) else 6
structure ScAt (w : World) (B sb : Nat) (An : Option Addr) (nn cn : Nat) (ns : List Nd) (Ad : Option Addr) (nd cd : Nat) (ds : List Dv) (As : Option Addr) (n c : Nat) (Al : Option Addr) (nl cl : Nat) (At : Option Addr) (nt ct : Nat) (F : Fd) (k d p q : Int) (lk sk : Bool) : Prop where
 b : Blk w sb 90 (scV An nn cn Ad nd cd As n c Al nl cl At nt ct k d p q lk sk)
 hn : Sl w B 3 An nn cn (ns.flatMap Nd.cells)
 hd : Sl w B 5 Ad nd cd (ds.flatMap Dv.cells)
 hs : Sl w B 1 As n c (intsV F.s)
 hl : Sl w B 3 Al nl cl (F.ls.flatMap Lk.cells)
 ht : Sl w B 1 At nt ct (intsV F.st)
 bB : B ≤ sb
 la : Laid w
 sn : ∀ x ∈ ns, x.name.size ≤ 9223372036854775807
 sd : ∀ x ∈ ds, x.name.size ≤ 9223372036854775807
 bn : n ≤ 1000000 ∧ nl ≤ 999999 ∧ nt ≤ 999999
section
variable {w w' : World} {B sb nn cn nd cd n c nl cl nt ct : Nat} {An Ad As Al At : Option Addr} {ns : List Nd} {ds : List Dv} {F : Fd} {k d p q : Int} {lk sk : Bool}
theorem ScAt.later (h : ScAt w B sb An nn cn ns Ad nd cd ds As n c Al nl cl At nt ct F k d p q lk sk) (hb : Below w.heap.size w w') : ScAt w' B sb An nn cn ns Ad nd cd ds As n c Al nl cl At nt ct F k d p q lk sk :=
 have hl := Nat.lt_of_le_of_lt h.bB h.b.lt
 ⟨h.b.below hb h.b.lt, h.hn.below hb (by omega), h.hd.below hb (by omega), h.hs.below hb (by omega), h.hl.below hb (by omega), h.ht.below hb (by omega), h.bB, h.la.below hb (Nat.le_refl _), h.sn, h.sd, h.bn⟩
theorem ScAt.le (h : ScAt w B sb An nn cn ns Ad nd cd ds As n c Al nl cl At nt ct F k d p q lk sk) : B ≤ w.heap.size := Nat.le_of_lt (Nat.lt_of_le_of_lt h.bB h.b.lt)
theorem ScAt.same (h : ScAt w B sb An nn cn ns Ad nd cd ds As n c Al nl cl At nt ct F k d p q lk sk) : ScTo w B sb An nn cn Ad nd cd k d p q lk sk F w :=
 ⟨grown_refl _ _, As, n, c, Al, nl, cl, At, nt, ct, h.b, .of_sl h.hs h.le, .of_sl h.hl h.le, .of_sl h.ht h.le, by have := h.bn; exact ⟨by omega, by omega, by omega⟩⟩
theorem ScTo.drew {F' : Fd} (h : ScTo w B sb An nn cn Ad nd cd k d p q lk sk F' w') : ScTo w B sb An nn cn Ad nd cd k d p q lk sk F' w'.drew := by
 obtain ⟨hg, As, n, c, Al, nl, cl, At, nt, ct, hb, h1, h2, h3, h4⟩ := h
 exact ⟨grown_drew hg.out, As, n, c, Al, nl, cl, At, nt, ct, hb, h1.out.drew, h2.out.drew, h3.out.drew, h4⟩
theorem ScTo.drewN {F' : Fd} (h : ScTo w B sb An nn cn Ad nd cd k d p q lk sk F' w') (m : Nat) : ScTo w B sb An nn cn Ad nd cd k d p q lk sk F' (w'.drewN m) := by
 obtain ⟨hg, As, n, c, Al, nl, cl, At, nt, ct, hb, h1, h2, h3, h4⟩ := h
 exact ⟨grown_drewN hg.out m, As, n, c, Al, nl, cl, At, nt, ct, hb, h1.out.drewN m, h2.out.drewN m, h3.out.drewN m, h4⟩
end
theorem move_any (B sb : Nat) (An Ad As Al At : Option Addr) (nn cn nd cd n c nl cl nt ct : Nat) (ns : List Nd) (ds : List Dv) (F : Fd) (k p q p' : Int) (d : Nat) (lk sk : Bool) (w : World) (h : ScAt w B sb An nn cn ns Ad nd cd ds As n c Al nl cl At nt ct F k d p q lk sk) (hdn : d < n) (hn : n ≤ 1000000) :
 Calls Tryz.prog 75 #[.pointer (some ⟨sb, 0, none⟩), .int .i64 p'] w fun e w' => e = .returned (.tuple #[]) ∧ ScTo w B sb An nn cn Ad nd cd k d p q lk sk (mvF F d p' (lk || sk)) w' := by
 have HH := Lib.hid h
 have hb := h.b
 unfold scV at hb
 have a2 : w.cell? ⟨sb, 2, none⟩ = some (.slice As n c) := hb.cell 2
 have a9 : w.cell? ⟨sb, 9, none⟩ = some (.bool lk) := hb.cell 9
 have a10 : w.cell? ⟨sb, 10, none⟩ = some (.bool sk) := hb.cell 10
 clear hb h
 rcases lk with _ | _; rotate_left
 ·go_enter Tryz.func75, Tryz.ntmps75
  go_wp2_with fail
  refine bodyPost_ret (results_none rfl _ _ _) rfl ?_
  exact ⟨rfl, HH.out.same⟩
 rcases sk with _ | _; rotate_left
 ·go_enter Tryz.func75, Tryz.ntmps75
  go_wp2_with fail
  refine bodyPost_ret (results_none rfl _ _ _) rfl ?_
  exact ⟨rfl, HH.out.same⟩
 go_enter Tryz.func75, Tryz.ntmps75
 go_wp2_with fail
 refine (clone_any As n c B F.s w HH.out.hs HH.out.le hn).mono ?_
 rintro e w1 ⟨A', c', rfl, hO, hb1⟩
 have hln : F.s.length = n := HH.out.hs.len (fun _ => rfl) (by decide)
 rw [hln] at hO ⊢
 have HLN := Lib.hid hln
 have hsl := HH.out.b.lt
 have HS1 := Lib.hid (HH.out.later hb1.out)
 have HO1 : Hid (IntsO (w1.setCell ⟨sb, 2, none⟩ (.slice A' n c')) w.heap.size A' n c' F.s) := (hO.out.kept (grown_cell w1 ⟨sb, 2, none⟩ (.slice A' n c')) (ne_row fun b e => by have := (hO.out.lt b e).1; simp; omega))
 have HB1 := Lib.hid (HS1.out.b.set 2 (.slice A' n c'))
 have HG1 : Hid (w.grownBy (w1.setCell ⟨sb, 2, none⟩ (.slice A' n c')) (some sb)) := grown_trans (grown_of_below hb1.out _) (grown_cell _ _ _)
 have b2 : w1.cell? ⟨sb, 2, none⟩ = some (.slice As n c) := by have := HS1.out.b; unfold scV at this; exact this.cell 2
 have z2 := HS1.out.b.frozen 2
 have HL1 : Hid (Sl (w1.setCell ⟨sb, 2, none⟩ (.slice A' n c')) B 3 Al nl cl (F.ls.flatMap Lk.cells)) := HS1.out.hl.setCell HH.out.bB _
 have HT1 : Hid (Sl (w1.setCell ⟨sb, 2, none⟩ (.slice A' n c')) B 1 At nt ct (intsV F.st)) := HS1.out.ht.setCell HH.out.bB _
 clear hO hln hb1 a2 a9 a10
 go_upto_region 2 with (fail)
 clear b2 z2
 generalize World.setCell w1 _ _ = w2 at *
 obtain ⟨tg, y, rfl, htg, htl, hy, hcy, hfy, hst⟩ := HO1.out.at hdn
 have k2 : w2.cell? ⟨sb, 2, none⟩ = some (.slice (some ⟨tg, 0, none⟩) n c') := by have := HB1.out; unfold scV at this; exact this.cell 2
 have k6 : w2.cell? ⟨sb, 6, none⟩ = some (.int .i64 (d : Int)) := by have := HB1.out; unfold scV at this; exact this.cell 6
 have HO2 := Lib.hid (hst p')
 clear hst hy
 refine wp_region_J (S := fun W' => W'.cell? ⟨sb, 2, none⟩ = some (.slice (some ⟨tg, 0, none⟩) n c') ∧ W'.cell? ⟨sb, 6, none⟩ = some (.int .i64 (d : Int))) (J := [12]) (by kernel_rfl) ?_ (fun hHeld => ?_)
 ·exact ⟨k2, k6⟩
 try dsimp only at hHeld
 refine tk 0 24 (mf 13 1) hHeld ?_
 refine tk 1 25 (mf 13 2) hHeld ?_
 refine tk 2 26 (mf 13 3) hHeld ?_
 refine tk 3 27 (mf 13 4) hHeld ?_
 refine tk 4 28 (mf 13 5) hHeld ?_
 refine tk 5 29 (mf 13 6) hHeld ?_
 refine tk 6 30 (mf 13 7) hHeld ?_
 refine tk 7 31 (mf 13 8) hHeld ?_
 refine tk 8 32 (mf 13 9) hHeld ?_
 refine tk 9 33 (mf 13 10) hHeld ?_
 refine tk 10 34 (mf 13 11) hHeld ?_
 refine tk 11 35 (mf 13 12) hHeld ?_
 refine wpAnyJ_oneL (k := 12) (mf 13 13) (by kernel_rfl) (by kernel_rfl) rfl (fun K hK => ?_)
 go_simp
 refine hK.out _ _ (fun h => by cases h) (fun _ => ?_)
 try clear hHeld
 clear hK K
 refine wpAnyJ_done (by kernel_rfl) ?_ _
 go_wp2_with fail
 have HF : ScTo w B sb An nn cn Ad nd cd k d p q false false ⟨F.s.set d p', F.ls, F.st⟩ (w2.setCell ⟨tg, d, none⟩ (.int .i64 p')) := by
  refine ⟨grown_set HG1.out (by simp; omega) _, some ⟨tg, 0, none⟩, n, c', Al, nl, cl, At, nt, ct, ?_, .of_new HO2.out.sl (fun b off e => by injection e with e; injection e with e; omega), ?_, ?_, by have := HH.out.bn; exact ⟨by omega, by omega, by omega⟩⟩
  ·have := HB1.out.far (p := ⟨tg, d, none⟩) (by simp; omega) (.int .i64 p')
   unfold scV at this ⊢
   exact this
  ·have := HH.out.bB
   exact .of_sl (HL1.out.setCell (p := ⟨tg, d, none⟩) (by simp; omega) _) (by have := HB1.out.lt; simp; omega)
  ·have := HH.out.bB
   exact .of_sl (HT1.out.setCell (p := ⟨tg, d, none⟩) (by simp; omega) _) (by have := HB1.out.lt; simp; omega)
 go_end0
 exact ⟨rfl, HF.drew⟩
theorem operate_any (B sb : Nat) (An Ad As Al At : Option Addr) (nn cn nd cd n c nl cl nt ct : Nat) (ns : List Nd) (ds : List Dv) (F : Fd) (k p q kd : Int) (d : Nat) (lk sk : Bool) (w : World) (h : ScAt w B sb An nn cn ns Ad nd cd ds As n c Al nl cl At nt ct F k d p q lk sk) (hdn : d < n) (hn : n ≤ 1000000) :
 Calls Tryz.prog 74 #[.pointer (some ⟨sb, 0, none⟩), .int .i64 kd] w fun e w' => e = .returned (.int .i64 (opErr kd p lk)) ∧ ScTo w B sb An nn cn Ad nd cd k d p q lk sk (mvF F d p (decide (opErr kd p lk ≠ 0) || (lk || sk))) w' := by
 have HMV := Lib.hid (move_any B sb An Ad As Al At nn cn nd cd n c nl cl nt ct ns ds F k p q p d lk sk w h hdn hn)
 have HH := Lib.hid h
 have hb := h.b
 unfold scV at hb
 have a7 : w.cell? ⟨sb, 7, none⟩ = some (.int .i64 p) := hb.cell 7
 have a9 : w.cell? ⟨sb, 9, none⟩ = some (.bool lk) := hb.cell 9
 have HP := Lib.hid (fpos_any p w)
 clear hb h
 obtain ⟨E, hE⟩ : ∃ E, E = opErr kd p lk := ⟨_, rfl⟩
 rw [← hE]
 unfold opErr at hE
 by_cases h5 : kd = 5
 ·have q5 : (kd == 5) = true := by simpa using h5
  rw [if_pos h5] at hE
  subst hE
  clear h5
  go_enter Tryz.func74, Tryz.ntmps74
  go_wp2_with fail
  go_ret
  exact ⟨rfl, HH.out.same⟩
 have q5 : (kd == 5) = false := by simpa using h5
 rw [if_neg h5] at hE
 clear h5
 rcases hp : posB p with _ | _
 ·rw [hp] at HP
  rw [if_pos hp] at hE
  subst hE
  clear hp
  go_enter Tryz.func74, Tryz.ntmps74
  go_wp2_with fail
  refine HP.out.mono ?_
  rintro e w1 ⟨rfl, rfl⟩
  go_wp2_with fail
  go_ret
  exact ⟨rfl, HH.out.same⟩
 ·rw [hp] at HP
  rw [if_neg (by simp [hp])] at hE
  clear hp
  rcases lk with _ | _; rotate_left
  ·rw [if_pos rfl] at hE
   subst hE
   go_enter Tryz.func74, Tryz.ntmps74
   go_wp2_with fail
   refine HP.out.mono ?_
   rintro e w1 ⟨rfl, rfl⟩
   go_wp2_with fail
   go_ret
   exact ⟨rfl, HH.out.same⟩
  ·rw [if_neg (by simp)] at hE
   subst hE
   go_enter Tryz.func74, Tryz.ntmps74
   go_wp2_with fail
   refine HP.out.mono ?_
   rintro e w1 ⟨rfl, rfl⟩
   go_wp2_with fail
   refine HMV.out.mono ?_
   rintro e w1 ⟨rfl, hT⟩
   have HT := Lib.hid hT
   clear hT HMV
   go_wp2_with fail
   go_ret
   exact ⟨rfl, HT.out⟩
theorem run_any (B sb : Nat) (An Ad As Al At : Option Addr) (nn cn nd cd n c nl cl nt ct : Nat) (ns : List Nd) (ds : List Dv) (F : Fd) (k p q kd : Int) (d : Nat) (lk sk : Bool) (w : World) (h : ScAt w B sb An nn cn ns Ad nd cd ds As n c Al nl cl At nt ct F k d p q lk sk) (hdn : d < n) (hn : n ≤ 1000000) :
 Calls Tryz.prog 76 #[.pointer (some ⟨sb, 0, none⟩), .int .i64 kd] w fun e w' => e = .returned (.int .i64 (rnErr kd p)) ∧ ScTo w B sb An nn cn Ad nd cd k d p q lk sk (mvF F d p (decide (rnErr kd p ≠ 0) || (lk || sk))) w' := by
 have HMV := Lib.hid (move_any B sb An Ad As Al At nn cn nd cd n c nl cl nt ct ns ds F k p q p d lk sk w h hdn hn)
 have HH := Lib.hid h
 have hb := h.b
 unfold scV at hb
 have a7 : w.cell? ⟨sb, 7, none⟩ = some (.int .i64 p) := hb.cell 7
 have HP := Lib.hid (fpos_any p w)
 clear hb h
 obtain ⟨E, hE⟩ : ∃ E, E = rnErr kd p := ⟨_, rfl⟩
 rw [← hE]
 unfold rnErr at hE
 by_cases h6 : kd = 6; rotate_left
 ·have q6 : (kd != 6) = true := by simpa using h6
  rw [if_neg h6] at hE
  subst hE
  clear h6
  go_enter Tryz.func76, Tryz.ntmps76
  go_wp2_with fail
  go_ret
  exact ⟨rfl, HH.out.same⟩
 rw [if_pos h6] at hE
 subst h6
 rcases hp : posB p with _ | _
 ·rw [hp] at HP
  rw [if_neg (by simp [hp])] at hE
  subst hE
  clear hp
  go_enter Tryz.func76, Tryz.ntmps76
  go_wp2_with fail
  refine HP.out.mono ?_
  rintro e w1 ⟨rfl, rfl⟩
  go_wp2_with fail
  go_ret
  exact ⟨rfl, HH.out.same⟩
 ·rw [hp] at HP
  rw [if_pos hp] at hE
  subst hE
  clear hp
  go_enter Tryz.func76, Tryz.ntmps76
  go_wp2_with fail
  refine HP.out.mono ?_
  rintro e w1 ⟨rfl, rfl⟩
  go_wp2_with fail
  refine HMV.out.mono ?_
  rintro e w1 ⟨rfl, hT⟩
  have HT := Lib.hid hT
  clear hT HMV
  go_wp2_with fail
  go_ret
  exact ⟨rfl, HT.out⟩
end Go.Proofs.YtepicjpdhpojnaaGreatDoor
namespace Go.Proofs.YtepicjpdhpojnaaGreatDoor
open Go.RowKit
open Go.Sort (grow)
instance : Inhabited Lk := ⟨⟨0, 0, 0⟩⟩
theorem flatK_lk (ls : List Lk) : Go.Sort.flatK Lk.cells 3 ls.toArray = (ls.flatMap Lk.cells).toArray := by
 apply Array.ext'
 simp only [Go.Sort.flatK, Array.toList_map, Array.toList_range, List.size_toArray]
 apply List.ext_getElem?
 intro t
 rw [List.getElem?_map]
 by_cases ht : t < ls.length * 3
 ·rw [List.getElem?_range ht]
  have h3 : t = t / 3 * 3 + t % 3 := by omega
  have hq : t / 3 < ls.length := by omega
  have := flat_at (f := Lk.cells) (size := 3) (fun _ => rfl) ls (t / 3) (t % 3) _ (List.getElem?_eq_getElem hq) (by omega)
  rw [← h3] at this
  rw [this]
  simp only [Option.map_some]
  have hr : t % 3 < (Lk.cells ls[t / 3]).length := by show t % 3 < 3; omega
  rw [List.getElem?_eq_getElem hr]
  congr 1
  have e1 : ls.toArray[t / 3]! = ls[t / 3] := by simp [hq]
  rw [e1, List.getElem!_eq_getElem?_getD, List.getElem?_eq_getElem hr]; rfl
 ·rw [List.getElem?_eq_none (by simp; omega), List.getElem?_eq_none (by rw [flat_len (size := 3) (fun _ => rfl)]; omega)]; rfl
theorem holds_lk {w : World} {g : Nat} {cur : Array Value} {e : TypeId} {ls : List Lk} (hb : w.heap[g]? = some (.cells cur e (0, 0))) (ht : cur.toList.take (ls.length * 3) = ls.flatMap Lk.cells) : Go.Sort.HoldsK Lk.cells 3 w g 0 ls.toArray := by
 unfold Go.Sort.HoldsK
 rw [flatK_lk]
 intro j hj
 have hj' : j < ls.length * 3 := by rw [List.size_toArray, flat_len (size := 3) (fun _ => rfl)] at hj; exact hj
 refine ⟨?_, by simp [World.frozen?, hb]⟩
 have h1 : (cur.toList.take (ls.length * 3))[j]? = (ls.flatMap Lk.cells)[j]? := by rw [ht]
 rw [List.getElem?_take_of_lt hj', Array.getElem?_toList] at h1
 have h2 := cell_of_row w g (0 + j) _ _ _ hb
 rw [h2, Nat.zero_add, h1]
 have hl : j < (ls.flatMap Lk.cells).length := by rw [flat_len (size := 3) (fun _ => rfl)]; exact hj'
 rw [List.getElem?_eq_getElem hl]
 simp only [id, List.getElem!_toArray, List.getElem!_eq_getElem?_getD]
 rw [List.getElem?_eq_getElem hl]; rfl
theorem own_sortedV {w : World} {base g cap m n size : Nat} {e : TypeId} {os : Array Obj} {cur : Array Value} {xs : List Value} (hx : xs.length = m * size) (hbase : base ≤ g) (hb : w.heap[g]? = some (.cells cur e (0, 0))) (h1 : m ≤ cap) (h2 : cap ≤ maxLen) (h3 : cur.size = cap * size) :
 (grow (Go.Sort.putRow id (Go.Sort.ahead w n) g 0 xs.toArray) os).ownsRow base e size (.slice (some ⟨g, 0, none⟩) m cap) m xs := by
 have hg : g < w.heap.size := (Array.getElem?_eq_some_iff.1 hb).1
 refine ⟨hx, .inr ⟨g, cap, Go.Sort.putCells id 0 xs.toArray cur, rfl, hbase, ?_, h1, h2, by simp [Go.Sort.putCells, h3], ?_⟩⟩
 ·rw [Go.Sort.heap_grow_old _ _ (by simpa using hg)]
  simp [Go.Sort.putRow, Go.Sort.mapBlock, Go.Sort.ahead, Array.getElem?_modify, hb, Go.Sort.onCells]
 ·rw [← hx]
  have hle : xs.length ≤ cur.size := by rw [hx, h3]; exact Nat.mul_le_mul_right _ h1
  apply List.ext_getElem?
  intro j
  by_cases hj : j < xs.length
  ·rw [List.getElem?_take_of_lt hj, Array.getElem?_toList]
   simp [Go.Sort.putCells, hj, show j < cur.size by omega]
  ·rw [List.getElem?_take_eq_none (by omega), List.getElem?_eq_none (by omega)]
theorem grown_sortedV {w : World} {g n : Nat} {os : Array Obj} (d : Array Value) : w.grownBy (grow (Go.Sort.putRow id (Go.Sort.ahead w n) g 0 d) os) (some g) := by
 refine ⟨rfl, rfl, rfl, by simp, fun k hk hne => ?_⟩
 rw [Go.Sort.heap_grow_old _ _ (by simpa using hk)]
 have : g ≠ k := fun e => hne (by rw [e])
 simp [Go.Sort.putRow, Go.Sort.mapBlock, Go.Sort.ahead, Array.getElem?_modify, this]
theorem swo_ord : Go.Sort.SWO (ltOf ordI) := by
 have key : ∀ x y, ltOf ordI x y = befB x y := fun x y => by
  unfold ltOf
  rcases h : befB x y with _ | _
  ·have := ord_lt x y; rw [h] at this; simp at this ⊢; omega
  ·have := ord_lt x y; rw [h] at this; simp at this ⊢; omega
 refine ⟨fun x => ?_, fun x y z => ?_, fun x y z => ?_⟩
 ·rw [key]; unfold befB; simp
 ·rw [key, key, key]; exact bef_trans
 ·rw [key, key, key]
  intro h1 h2
  rcases h : befB x z with _ | _
  ·rfl
  ·have a1 : ¬ befB x y = true := by rw [h1]; simp
   have a2 : ¬ befB y z = true := by rw [h2]; simp
   rw [bef_iff] at a1 a2 h; omega
theorem lt_bef (x y : Lk) : ltOf ordI x y = befB x y := by
 unfold ltOf
 rcases h : befB x y with _ | _
 ·have := ord_lt x y; rw [h] at this; simp at this ⊢; omega
 ·have := ord_lt x y; rw [h] at this; simp at this ⊢; omega
theorem sortlk_any (A : Option Addr) (n c base : Nat) (ls : List Lk) (w : World) (h : LocksO w base A n c ls) (h0 : 0 < n) (hn : n ≤ 1000000) :
 Calls Tryz.prog 126 #[.slice A n c, .func (.func 84) #[] #[]] w fun e w' => e = .returned (.tuple #[]) ∧ ∃ ms : List Lk, Hid (ms.Perm ls) ∧ Hid (ms.Pairwise fun x y => befB y x = false) ∧ Hid (LocksO w' base A n c ms) ∧ Hid (w.grownBy w' (Value.slice A n c).ownBlock) := by
 have hl := h.len
 rcases h.2 with ⟨_, h1⟩ | ⟨g, cap, cur, hv, hb, hh, hnc, hm, hs, ht⟩
 ·omega
 ·injection hv with h1 h2 h3
  subst h1 h3
  subst hl
  have hcon := AnyQ.slices_SortFunc Tryz.sortLkSort 3 Tryz.isAgg46 Tryz.sizeOf46 Lk.cells (fun _ => rfl) (fun x v hv => by simp [Lk.cells] at hv; rcases hv with rfl | rfl | rfl <;> rfl) ordI swo_ord 84 #[] g 0 c ls.toArray w
   (enters_of Tryz.func84 (by kernel_rfl) rfl) (fun _ _ _ _ x y => order_any x y _) (holds_lk hh ht) (h.lt g rfl).2 (by simp; omega)
  refine hcon.mono ?_
  rintro e w1 ⟨rfl, d', k, os, ⟨hz, _, hp⟩, hso, rfl⟩
  have hz' : d'.toList.length = ls.length := by simpa using hz
  refine ⟨rfl, d'.toList, ?_, ?_, ?_, grown_sortedV _⟩
  ·have e2 : (ls.toArray.extract 0 ls.toArray.size).toList = ls := by simp
   have e3 : (d'.extract 0 ls.toArray.size).toList = d'.toList := by rw [← hz]; simp
   rw [e2, e3] at hp
   exact hp
  ·show List.Pairwise _ _
   rw [List.pairwise_iff_getElem]
   intro i j hi hj hij
   have hz2 : d'.size = ls.length := by simpa using hz
   have := hso i j (Nat.zero_le _) hij (by simp at hj ⊢; omega)
   rw [lt_bef] at this
   have hi' : i < d'.size := by simpa using hi
   have hj' : j < d'.size := by simpa using hj
   rw [getElem!_pos d' i hi', getElem!_pos d' j hj'] at this
   simpa using this
  ·have := own_sortedV (n := k) (os := os) (xs := d'.toList.flatMap Lk.cells) (m := ls.length) (size := 3) (by rw [flat_len (size := 3) (fun _ => rfl), hz']) hb hh hnc hm hs
   rw [← flatK_lk] at this
   exact this
end Go.Proofs.YtepicjpdhpojnaaGreatDoor
