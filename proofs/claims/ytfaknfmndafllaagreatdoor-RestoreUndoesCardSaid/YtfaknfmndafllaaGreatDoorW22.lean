import Derived.Test.YtfaknfmndafllaaGreatDoorW04
import Derived.Test.YtfaknfmndafllaaGreatDoorW12
import Derived.Test.YtfaknfmndafllaaGreatDoorW13
import Derived.Test.YtfaknfmndafllaaGreatDoorW21
import Derived.Test.YtfaknfmndafllaaGreatDoorW11
import Derived.Test.YtfaknfmndafllaaGreatDoorW20
import Derived.Test.YtfaknfmndafllaaGreatDoorW18
set_option maxRecDepth 100000
set_option maxHeartbeats 16000000
namespace Go.Proofs.YtfaknfmndafllaaGreatDoor
open Go.RowKit
section
variable (nn nd : Nat) (d no p q : Int)
end
end Go.Proofs.YtfaknfmndafllaaGreatDoor
namespace Go.Proofs.YtfaknfmndafllaaGreatDoor
open Go.RowKit
theorem HV2.new (w : World) (k dv nv po ke : Int) (g0 g1 g2 g3 : Bool) : Blk ((w.alloc (.cells #[.int .i64 k, .int .i64 dv, .int .i64 nv, .int .i64 po, .int .i64 ke] 56)).alloc (.cells #[.bool g0, .bool g1, .bool g2, .bool g3] 202)) w.heap.size 56 #[.int .i64 k, .int .i64 dv, .int .i64 nv, .int .i64 po, .int .i64 ke] ∧ Blk ((w.alloc (.cells #[.int .i64 k, .int .i64 dv, .int .i64 nv, .int .i64 po, .int .i64 ke] 56)).alloc (.cells #[.bool g0, .bool g1, .bool g2, .bool g3] 202)) (w.heap.size + 1) 202 #[.bool g0, .bool g1, .bool g2, .bool g3] :=
 ⟨(Blk.new w _ _).alloc _, by have := Blk.new (w.alloc (.cells #[.int .i64 k, .int .i64 dv, .int .i64 nv, .int .i64 po, .int .i64 ke] 56)) 202 #[.bool g0, .bool g1, .bool g2, .bool g3]; simpa using this⟩
end Go.Proofs.YtfaknfmndafllaaGreatDoor
namespace Go.Proofs.YtfaknfmndafllaaGreatDoor
open Go.RowKit
structure PgMem (w : World) (An Ad Ax : Option Addr) (nn cn nd cd nx cx : Nat) (ns : List Nd) (ds : List Dv) (nm : ByteArray) (xs : List Sp) : Prop where
 hn : Sl w w.heap.size 3 An nn cn (ns.flatMap Nd.cells)
 hd : Sl w w.heap.size 5 Ad nd cd (ds.flatMap Dv.cells)
 hx : Sl w w.heap.size 5 Ax nx cx (xs.flatMap Sp.cells)
 la : Laid w
 sn : ∀ x ∈ ns, x.name.size ≤ 9223372036854775807
 sd : ∀ x ∈ ds, x.name.size ≤ 9223372036854775807
 sm : nm.size ≤ 9223372036854775807
structure PgB (w : World) (N : Array Value) (nm : ByteArray) (Ax : Option Addr) (nx cx : Nat) (wr : World) : Prop where
 b0 : Blk wr w.heap.size 30 N
 b1 : Blk wr (w.heap.size + 1) 50 #[.string nm, .slice Ax nx cx]
 bl : Below w.heap.size w wr
section
variable {w wr wr' : World} {N : Array Value} {An Ad Ax : Option Addr} {nn cn nd cd nx cx : Nat} {ns : List Nd} {ds : List Dv} {nm : ByteArray} {xs : List Sp}
theorem PgB.new (w : World) (N : Array Value) (nm : ByteArray) (Ax : Option Addr) (nx cx : Nat) : PgB w N nm Ax nx cx ((w.alloc (.cells N 30)).alloc (.cells #[.string nm, .slice Ax nx cx] 50)) :=
 ⟨(Blk.new w _ _).alloc _, by have := Blk.new (w.alloc (.cells N 30)) 50 #[.string nm, .slice Ax nx cx]; simpa using this, ((Below.refl _ _).alloc (Nat.le_refl _) _).alloc (by simp) _⟩
theorem PgB.later (h : PgB w N nm Ax nx cx wr) (hb : Below wr.heap.size wr wr') : PgB w N nm Ax nx cx wr' := ⟨h.b0.below hb h.b0.lt, h.b1.below hb h.b1.lt, h.bl.trans (hb.mono h.bl.size)⟩
theorem PgMem.below (h : PgMem w An Ad Ax nn cn nd cd nx cx ns ds nm xs) (hb : Below w.heap.size w wr) : PgMem wr An Ad Ax nn cn nd cd nx cx ns ds nm xs :=
 ⟨(h.hn.below hb (Nat.le_refl _)).more hb.size, (h.hd.below hb (Nat.le_refl _)).more hb.size, (h.hx.below hb (Nat.le_refl _)).more hb.size, h.la.below hb (Nat.le_refl _), h.sn, h.sd, h.sm⟩
end
end Go.Proofs.YtfaknfmndafllaaGreatDoor
namespace Go.Proofs.YtfaknfmndafllaaGreatDoor
open Go.RowKit
def PredM (g : Nat) (lb : Array Value) (p : Lk → Bool) (ls : List Lk) (w : World) : Prop :=
 ∀ (W : World) (d q r : Int), (⟨d, q, r⟩ : Lk) ∈ ls → Below w.heap.size w W → Calls Tryz.prog g (#[.agg #[.int .i64 d, .int .i64 q, .int .i64 r]] ++ lb) W fun e w' => e = .returned (.bool (p ⟨d, q, r⟩)) ∧ Below w.heap.size w w'
theorem PredL.m {g : Nat} {lb : Array Value} {p : Lk → Bool} {w : World} (h : PredL g lb p w) (ls : List Lk) : PredM g lb p ls w := fun W d q r _ hb => h W d q r hb
theorem idxm_any (g : Nat) (lb : Array Value) (p : Lk → Bool) (eg : ∀ args w, (callFunc g args).run Tryz.prog w = .ok (.enter g args) w) (A : Option Addr) (n c B : Nat) (ls : List Lk) (w : World) (hs : Sl w B 3 A n c (ls.flatMap Lk.cells)) (hB : B ≤ w.heap.size) (hp : PredM g lb p ls w) :
 Calls Tryz.prog 153 #[.slice A n c, .func (.func g) #[] lb] w fun e w' => (∃ i : Int, e = .returned (.int .i64 i) ∧ Hid (decide (0 ≤ i) = ls.any p)) ∧ Below w.heap.size w w' := by
 have HLN := Lib.hid (hs.len (fun _ => rfl) (by decide)); have HS := Lib.hid hs
 have hle := hs.le
 have HP := Lib.hid hp
 clear hs hp
 go_enter Tryz.func153, Tryz.ntmps153
 go_wp2_with fail
 go_loopg [5, 8] n (IfR w ls p n)
 case atStart => exact ⟨0, rfl, Nat.zero_le _, rfl, (fun x hx => by simp at hx), Below.refl _ _⟩
 case round =>
  obtain ⟨i, rfl, hi, rfl, hno, hbl⟩ := hrel
  by_cases hlt : i < n
  ·obtain ⟨b, off, d1, p1, q1, rfl, hb, hx, c0, c1, c2⟩ := (HS.out.below hbl.out hB).lock hlt
   have HX := Lib.hid hx
   have hcall := HP.out wr d1 p1 q1 (List.mem_of_getElem? hx) hbl.out
   clear hx
   rcases hq : p ⟨d1, p1, q1⟩ with _ | _
   ·rw [hq] at hcall
    have HN : Hid (∀ x ∈ ls.take (i + 1), p x = false) := fun x hx => by
     rw [take_snoc HX.out] at hx
     rcases List.mem_append.1 hx with h | h
     ·exact hno.out x h
     ·rw [List.mem_singleton.1 h]; exact hq
    clear hq
    go_wp2_with (go_at_fn g; refine hcall.mono ?_; rintro e w' ⟨rfl, hb'⟩)
    go_roundg (n - (i + 1))
    case rel => exact ⟨i + 1, by go_num, by omega, rfl, HN, hb'⟩
    case measure => omega
   ·rw [hq] at hcall
    have HR : Hid (decide (0 ≤ (i : Int)) = ls.any p) := by
     unfold Hid
     rw [decide_eq_true (by omega)]
     symm
     rw [List.any_eq_true]
     exact ⟨_, List.mem_of_getElem? HX.out, hq⟩
    clear hq
    go_wp2_with (go_at_fn g; refine hcall.mono ?_; rintro e w' ⟨rfl, hb'⟩)
    go_ret
    exact ⟨⟨_, rfl, HR⟩, hb'⟩
  ·obtain rfl : i = n := by omega
   have hii : decide (i < i) = false := by simp
   have HR : Hid (decide (0 ≤ (-1 : Int)) = ls.any p) := by
    have := hno.out
    rw [List.take_of_length_le (by rw [HLN.out]; exact Nat.le_refl _)] at this
    unfold Hid
    rw [decide_eq_false (by omega)]
    symm
    rw [List.any_eq_false]
    intro x hx
    rw [this x hx]; simp
   go_wp2_with fail
   go_ret
   exact ⟨⟨_, rfl, HR⟩, hbl.out⟩
theorem contm_any (g : Nat) (lb : Array Value) (p : Lk → Bool) (eg : ∀ args w, (callFunc g args).run Tryz.prog w = .ok (.enter g args) w) (A : Option Addr) (n c B : Nat) (ls : List Lk) (w : World) (hs : Sl w B 3 A n c (ls.flatMap Lk.cells)) (hB : B ≤ w.heap.size) (hp : PredM g lb p ls w) :
 Calls Tryz.prog 114 #[.slice A n c, .func (.func g) #[] lb] w fun e w' => e = .returned (.bool (ls.any p)) ∧ Below w.heap.size w w' := by
 have HI := Lib.hid (idxm_any g lb p eg A n c B ls w hs hB hp)
 clear hs hp
 go_enter Tryz.func114, Tryz.ntmps114
 go_wp2_with fail
 refine HI.out.mono ?_
 rintro e w1 ⟨⟨i, rfl, hi⟩, hb⟩
 go_wp2_with fail
 go_ret
 exact ⟨ret_bool hi.out, hb⟩
end Go.Proofs.YtfaknfmndafllaaGreatDoor
namespace Go.Proofs.YtfaknfmndafllaaGreatDoor
open Go.RowKit Go.Conc
def PermC (w : World) (fp : Nat) (lp : Array Value) (n m : Nat) (s : List Int) (M : Nat → Nat) (perm : List Int → Nat → Bool) : Prop :=
 ∀ (W : World) (A : Option Addr) (c b i : Nat), Below w.heap.size w W → Sl W W.heap.size 1 A n c (intsV (sbN s M b m)) → b < 2 ^ m → i < m → Calls Tryz.prog fp (#[.slice A n c, .agg #[.int .i64 (M i : Int), .int .i64 (3 - (sbN s M b m).getD (M i) 0)]] ++ lp) W fun e W' => e = .returned (.bool (perm (sbN s M b m) (M i))) ∧ Below W.heap.size W W'
def GoalC (w : World) (gp : Nat) (bg lg : Array Value) (n m : Nat) (s : List Int) (M : Nat → Nat) (goal : List Int → Option Int) : Prop :=
 ∀ (W : World) (A : Option Addr) (c b : Nat), Below w.heap.size w W → Sl W W.heap.size 1 A n c (intsV (sbN s M b m)) → b < 2 ^ m → Calls Tryz.prog gp (bg ++ #[.slice A n c] ++ lg) W fun e W' => (∃ (x : Int) (ok : Bool), e = .returned (.tuple #[.int .i64 x, .bool ok]) ∧ goal (sbN s M b m) = if ok then some x else none) ∧ Below W.heap.size W W'
def RcG (N H : Nat) : Nat → Unit → Value → World → Prop
 | 1, _, v, w => ∃ x, v = .slice (some ⟨x, 0, none⟩) N N ∧ H ≤ x ∧ RowF w 3 x N fun _ => .int .i64 0
 | 3, _, v, w => ∃ x, v = .slice (some ⟨x, 0, none⟩) N N ∧ H ≤ x ∧ RowF w 22 x N fun _ => .slice none 0 0
 | 5, _, v, w => ∃ x, v = .slice (some ⟨x, 0, none⟩) N N ∧ H ≤ x ∧ RowF w 34 x N fun _ => .slice none 0 0
 | 6, _, v, w => ∃ x y z, v = .agg #[.slice (some ⟨x, 0, none⟩) N N, .slice (some ⟨y, 0, none⟩) N N, .slice (some ⟨z, 0, none⟩) N N, .slice none 0 0, .int .i64 0] ∧ (H ≤ x ∧ H ≤ y ∧ H ≤ z) ∧ RowF w 3 x N (fun _ => .int .i64 0) ∧ RowF w 22 y N (fun _ => .slice none 0 0) ∧ RowF w 34 z N fun _ => .slice none 0 0
 | 7, _, v, w => ∃ x, v = .pointer (some ⟨x, 0, none⟩) ∧ H ≤ x ∧ Blk w x 129 #[.slice none 0 0, .slice none 0 0, .slice none 0 0, .slice none 0 0, .int .i64 0]
 | _, _, _, _ => True
theorem RcG.later {N H : Nat} {w w' : World} (hb : Below w.heap.size w w') : ∀ {j : Nat} {u : Unit} {v : Value}, RcG N H j u v w → RcG N H j u v w'
 | 0, _, _, _ => trivial
 | 1, _, _, ⟨x, h1, h2, h3⟩ => ⟨x, h1, h2, h3.below hb h3.lt⟩
 | 2, _, _, _ => trivial
 | 3, _, _, ⟨x, h1, h2, h3⟩ => ⟨x, h1, h2, h3.below hb h3.lt⟩
 | 4, _, _, _ => trivial
 | 5, _, _, ⟨x, h1, h2, h3⟩ => ⟨x, h1, h2, h3.below hb h3.lt⟩
 | 6, _, _, ⟨x, y, z, h1, h2, h3, h4, h5⟩ => ⟨x, y, z, h1, h2, h3.below hb h3.lt, h4.below hb h4.lt, h5.below hb h5.lt⟩
 | 7, _, _, ⟨x, h1, h2, h3⟩ => ⟨x, h1, h2, h3.below hb h3.lt⟩
 | _ + 8, _, _, _ => trivial
theorem blk_ne {w : World} {g h : Nat} {t u : TypeId} {c d : Array Value} (h1 : Blk w g t c) (h2 : Blk w h u d) (hne : t ≠ u) : g ≠ h := by
 intro e
 subst e
 unfold Blk at h1 h2
 rw [h1] at h2
 injection h2 with h2
 injection h2 with _ h2
 exact hne h2
structure RkK (H pb rb db eb ob sb ch : Nat) : Prop where
 p : H ≤ pb
 r : pb < rb
 d : rb < db
 e : rb < eb
 o : rb < ob
 s : rb < sb
 dc : db < ch
 ec : eb < ch
 oc : ob < ch
 sc : sb < ch
 de : db ≠ eb
 do' : db ≠ ob
 ds : db ≠ sb
 eo : eb ≠ ob
 es : eb ≠ sb
 os : ob ≠ sb
def edX (Ex : Nat → Bool) (ed : Nat → List Nat) (b : Nat) : List Nat := if Ex b then ed b else []
structure RcI (w wr : World) (pb rb db eb ob sb ch N : Nat) (P3 : Array Value) (ed : Nat → List Nat) (oc : Nat → Nat → List Value) (D : Nat → Int) (Q : List Nat) (Ex : Nat → Bool) (gs : List Nat) (least : Int) (G : Option Addr) (gc : Nat) (av : List Nat) : Prop where
 p : Blk wr pb 90 P3
 r : Blk wr rb 129 #[.slice none 0 0, .slice none 0 0, .slice none 0 0, .slice none 0 0, .int .i64 0]
 s : Blk wr sb 129 #[.slice (some ⟨db, 0, none⟩) N N, .slice (some ⟨eb, 0, none⟩) N N, .slice (some ⟨ob, 0, none⟩) N N, .slice G gs.length gc, .int .i64 least]
 d : RowF wr 3 db N fun b => .int .i64 (D b)
 e : RowsF wr 22 eb N av 1 fun b => natsV (edX Ex ed b)
 o : RowsF wr 34 ob N av 2 fun b => (edX Ex ed b).flatMap (oc b)
 c : ChanI wr ch N (Q.map fun b : Nat => (b : Int))
 g : wr.ownsRow (ch + 1) 3 1 (.slice G gs.length gc) gs.length (natsV gs)
 ga : ∀ x, (Value.slice G gs.length gc).ownBlock = some x → x ∈ av
 inA : db ∈ av ∧ eb ∈ av ∧ ob ∈ av ∧ sb ∈ av ∧ ch ∈ av ∧ rb ∈ av
 avl : ∀ x ∈ av, x < wr.heap.size
 l : Below w.heap.size w wr
section
variable {w wr wr' : World} {pb rb db eb ob sb ch N : Nat} {P3 : Array Value} {ed : Nat → List Nat} {oc : Nat → Nat → List Value} {D : Nat → Int} {Q : List Nat} {Ex : Nat → Bool} {gs : List Nat} {least : Int} {G : Option Addr} {gc : Nat} {av : List Nat}
theorem RcI.later (h : RcI w wr pb rb db eb ob sb ch N P3 ed oc D Q Ex gs least G gc av) (hb : Below wr.heap.size wr wr') : RcI w wr' pb rb db eb ob sb ch N P3 ed oc D Q Ex gs least G gc av :=
 ⟨h.p.below hb h.p.lt, h.r.below hb h.r.lt, h.s.below hb h.s.lt, h.d.below hb h.d.lt, h.e.later hb, h.o.later hb, h.c.below hb h.c.lt, own_later h.g hb, h.ga, h.inA, fun x hx => Nat.lt_of_lt_of_le (h.avl x hx) hb.size, h.l.trans (hb.mono h.l.size)⟩
theorem below_chan {B : Nat} {a W : World} (h : Below B a W) {c : Nat} (hc : B ≤ c) (cap : Nat) (buf : Array Value) (cl : Bool) (s r : Nat) (tm : Bool) : Below B a (W.setChan c cap buf cl s r tm) :=
 h.trans ⟨rfl, rfl, rfl, by simp [World.setChan], fun k hk => chan_far W c cap buf cl s r tm (by omega)⟩
theorem grown_chan (W : World) (c cap : Nat) (buf : Array Value) (cl : Bool) (s r : Nat) (tm : Bool) : W.grownBy (W.setChan c cap buf cl s r tm) (some c) :=
 ⟨rfl, rfl, rfl, by simp [World.setChan], fun i _ hi => chan_far W c cap buf cl s r tm (fun e => hi (by rw [e]))⟩
theorem RcI.chan (hk : RkK w.heap.size pb rb db eb ob sb ch) (h : RcI w wr pb rb db eb ob sb ch N P3 ed oc D Q Ex gs least G gc av) {Q' : List Nat} {s r : Nat} {buf : Array Value} (hbuf : buf = (intsV (Q'.map fun b : Nat => (b : Int))).toArray) : RcI w (wr.setChan ch N buf false s r false) pb rb db eb ob sb ch N P3 ed oc D Q' Ex gs least G gc av := by
 have hg := grown_chan wr ch N buf false s r false
 have hr : ∀ g, some ch = some g → g ∈ av := fun g e => by injection e with e; exact e ▸ h.inA.2.2.2.2.1
 refine ⟨h.p.grown hg (by have := hk.r; have := hk.d; have := hk.dc; intro e; injection e; omega), h.r.grown hg (by have := hk.d; have := hk.dc; intro e; injection e; omega), h.s.grown hg (by have := hk.sc; intro e; injection e; omega), h.d.grown hg (by have := hk.dc; intro e; injection e; omega), h.e.grown hg hr (by have := hk.ec; intro e; injection e; omega), h.o.grown hg hr (by have := hk.oc; intro e; injection e; omega), ⟨s, r, ?_⟩, h.g.kept hg ?_, h.ga, h.inA, fun x hx => Nat.lt_of_lt_of_le (h.avl x hx) hg.size, below_chan h.l (by have := hk.p; have := hk.r; have := hk.d; have := hk.dc; omega) _ _ _ _ _ _⟩
 ·rw [hbuf]
  exact heap_setChan wr ch N _ false s r false h.c.lt
 ·refine .inr fun e => ?_
  have := (h.g.lt ch e).1
  omega
theorem RcI.setD (hk : RkK w.heap.size pb rb db eb ob sb ch) (h : RcI w wr pb rb db eb ob sb ch N P3 ed oc D Q Ex gs least G gc av) (t : Nat) (v : Int) : RcI w (wr.setCell ⟨db, t, none⟩ (.int .i64 v)) pb rb db eb ob sb ch N P3 ed oc (upd D t v) Q Ex gs least G gc av := by
 have hg : wr.grownBy (wr.setCell ⟨db, t, none⟩ (.int .i64 v)) (some db) := grown_cell wr ⟨db, t, none⟩ _
 have hd := hk.d; have hr := hk.r; have hp := hk.p
 refine ⟨h.p.grown hg (by intro e; injection e; omega), h.r.grown hg (by intro e; injection e; omega), h.s.grown hg (by have := hk.ds; intro e; injection e; omega), ?_, h.e.cell (p := ⟨db, t, none⟩) h.inA.1 (Ne.symm hk.de) _, h.o.cell (p := ⟨db, t, none⟩) h.inA.1 (Ne.symm hk.do') _, h.c.grown hg (by have := hk.dc; intro e; injection e; omega), h.g.kept hg ?_, h.ga, h.inA, fun x hx => Nat.lt_of_lt_of_le (h.avl x hx) hg.size, h.l.setCell (p := ⟨db, t, none⟩) (by show w.heap.size ≤ db; omega) _⟩
 ·have := h.d.set t (.int .i64 v)
  rwa [upd_int] at this
 ·refine .inr fun e => ?_
  have := (h.g.lt db e).1
  have := hk.dc
  omega
theorem edX_upd (Ex : Nat → Bool) (ed : Nat → List Nat) (a b : Nat) : edX (upd Ex a true) ed b = upd (edX Ex ed) a (ed a) b := by
 unfold edX upd
 by_cases h : b = a
 ·subst h; simp
 ·simp [h]
theorem RcI.setE (hk : RkK w.heap.size pb rb db eb ob sb ch) (h : RcI w wr pb rb db eb ob sb ch N P3 ed oc D Q Ex gs least G gc av) {a n1 c1 n2 c2 : Nat} {A1 A2 : Option Addr} (h1 : SlA wr av 1 A1 n1 c1 (natsV (ed a))) (h2 : SlA wr av 2 A2 n2 c2 ((ed a).flatMap (oc a))) : RcI w ((wr.setCell ⟨eb, a, none⟩ (.slice A1 n1 c1)).setCell ⟨ob, a, none⟩ (.slice A2 n2 c2)) pb rb db eb ob sb ch N P3 ed oc D Q (upd Ex a true) gs least G gc av := by
 have hg1 : wr.grownBy (wr.setCell ⟨eb, a, none⟩ (.slice A1 n1 c1)) (some eb) := grown_cell wr ⟨eb, a, none⟩ _
 have hg2 : (wr.setCell ⟨eb, a, none⟩ (.slice A1 n1 c1)).grownBy ((wr.setCell ⟨eb, a, none⟩ (.slice A1 n1 c1)).setCell ⟨ob, a, none⟩ (.slice A2 n2 c2)) (some ob) := grown_cell _ ⟨ob, a, none⟩ _
 have he := hk.e; have ho := hk.o; have hr := hk.r; have hp := hk.p; have hec := hk.ec; have hoc := hk.oc
 refine ⟨(h.p.grown hg1 (by intro e; injection e; omega)).grown hg2 (by intro e; injection e; omega), (h.r.grown hg1 (by intro e; injection e; omega)).grown hg2 (by intro e; injection e; omega), (h.s.grown hg1 (by have := hk.es; intro e; injection e; omega)).grown hg2 (by have := hk.os; intro e; injection e; omega), (h.d.grown hg1 (by have := hk.de; intro e; injection e; omega)).grown hg2 (by have := hk.do'; intro e; injection e; omega), ?_, ?_, (h.c.grown hg1 (by intro e; injection e; omega)).grown hg2 (by intro e; injection e; omega), (h.g.kept hg1 ?_).kept hg2 ?_, h.ga, h.inA, fun x hx => Nat.lt_of_lt_of_le (h.avl x hx) (Nat.le_trans hg1.size hg2.size), (h.l.setCell (p := ⟨eb, a, none⟩) (by show w.heap.size ≤ eb; omega) _).setCell (p := ⟨ob, a, none⟩) (by show w.heap.size ≤ ob; omega) _⟩
 ·have := (h.e.put h.inA.2.1 h1 a).cell (p := ⟨ob, a, none⟩) h.inA.2.2.1 hk.eo (.slice A2 n2 c2)
  have e : (fun b => natsV (edX (upd Ex a true) ed b)) = upd (fun b => natsV (edX Ex ed b)) a (natsV (ed a)) := by
   funext b; rw [edX_upd]; unfold upd; split <;> rfl
  rw [e]; exact this
 ·have := (h.o.cell (p := ⟨eb, a, none⟩) h.inA.2.1 (Ne.symm hk.eo) (.slice A1 n1 c1)).put h.inA.2.2.1 (h2.cell (p := ⟨eb, a, none⟩) h.inA.2.1 _) a
  have e : (fun b => (edX (upd Ex a true) ed b).flatMap (oc b)) = upd (fun b => (edX Ex ed b).flatMap (oc b)) a ((ed a).flatMap (oc a)) := by
   funext b; rw [edX_upd]; unfold upd
   by_cases hb : b = a
   ·subst hb; rw [if_pos rfl, if_pos rfl]
   ·rw [if_neg hb, if_neg hb]
  rw [e]; exact this
 ·refine .inr fun e => ?_
  have := (h.g.lt eb e).1
  omega
 ·refine .inr fun e => ?_
  have := (h.g.lt ob e).1
  omega
theorem RcI.reset (hk : RkK w.heap.size pb rb db eb ob sb ch) (h : RcI w wr pb rb db eb ob sb ch N P3 ed oc D Q Ex gs least G gc av) (c : Int) : RcI w ((wr.setCell ⟨sb, 3, none⟩ (.slice none 0 0)).setCell ⟨sb, 4, none⟩ (.int .i64 c)) pb rb db eb ob sb ch N P3 ed oc D Q Ex [] c none 0 av := by
 have hg1 : wr.grownBy (wr.setCell ⟨sb, 3, none⟩ (.slice none 0 0)) (some sb) := grown_cell wr ⟨sb, 3, none⟩ _
 have hg2 : (wr.setCell ⟨sb, 3, none⟩ (.slice none 0 0)).grownBy ((wr.setCell ⟨sb, 3, none⟩ (.slice none 0 0)).setCell ⟨sb, 4, none⟩ (.int .i64 c)) (some sb) := grown_cell _ ⟨sb, 4, none⟩ _
 have hs := hk.s; have hr := hk.r; have hp := hk.p; have hsc := hk.sc
 refine ⟨(h.p.grown hg1 (by intro e; injection e; omega)).grown hg2 (by intro e; injection e; omega), (h.r.grown hg1 (by intro e; injection e; omega)).grown hg2 (by intro e; injection e; omega), (h.s.set 3 _).set 4 _, (h.d.grown hg1 (by have := hk.ds; intro e; injection e; omega)).grown hg2 (by have := hk.ds; intro e; injection e; omega), (h.e.cell (p := ⟨sb, 3, none⟩) h.inA.2.2.2.1 hk.es _).cell (p := ⟨sb, 4, none⟩) h.inA.2.2.2.1 hk.es _, (h.o.cell (p := ⟨sb, 3, none⟩) h.inA.2.2.2.1 hk.os _).cell (p := ⟨sb, 4, none⟩) h.inA.2.2.2.1 hk.os _, (h.c.grown hg1 (by intro e; injection e; omega)).grown hg2 (by intro e; injection e; omega), World.ownsRow_nil _ _ _ _, fun x e => by simp [Value.ownBlock] at e, h.inA, fun x hx => Nat.lt_of_lt_of_le (h.avl x hx) (Nat.le_trans hg1.size hg2.size), (h.l.setCell (p := ⟨sb, 3, none⟩) (by show w.heap.size ≤ sb; omega) _).setCell (p := ⟨sb, 4, none⟩) (by show w.heap.size ≤ sb; omega) _⟩
theorem RcI.sgrow (hk : RkK w.heap.size pb rb db eb ob sb ch) (h : RcI w wr pb rb db eb ob sb ch N P3 ed oc D Q Ex gs least G gc av) (hg : wr.grownBy wr' (Value.slice G gs.length gc).ownBlock) : Blk wr' sb 129 #[.slice (some ⟨db, 0, none⟩) N N, .slice (some ⟨eb, 0, none⟩) N N, .slice (some ⟨ob, 0, none⟩) N N, .slice G gs.length gc, .int .i64 least] :=
 h.s.grown hg fun e => by have := (h.g.lt sb e.symm).1; have := hk.sc; omega
theorem RcI.goal (hk : RkK w.heap.size pb rb db eb ob sb ch) (h : RcI w wr pb rb db eb ob sb ch N P3 ed oc D Q Ex gs least G gc av) {a c1 : Nat} {A1 : Option Addr} (ho : wr'.ownsRow (ch + 1) 3 1 (.slice A1 (gs.length + 1) c1) (gs.length + 1) (natsV gs ++ [.int .i64 (a : Int)])) (hg : wr.grownBy wr' (Value.slice G gs.length gc).ownBlock) (hat : (Value.slice A1 (gs.length + 1) c1).ownBlock = (Value.slice G gs.length gc).ownBlock ∨ (Value.slice A1 (gs.length + 1) c1).ownBlock = some wr.heap.size) :
 ∃ av', RcI w (wr'.setCell ⟨sb, 3, none⟩ (.slice A1 (gs.length + 1) c1)) pb rb db eb ob sb ch N P3 ed oc D Q Ex (gs ++ [a]) least A1 c1 av' := by
 have hlt := h.g.lt
 have hd := hk.d; have hr := hk.r; have hp := hk.p; have hs := hk.s; have hsc := hk.sc; have hdc := hk.dc; have hec := hk.ec; have hoc := hk.oc
 have hne : ∀ x, x ≤ ch → some x ≠ (Value.slice G gs.length gc).ownBlock := fun x hx e => by have := (hlt x e.symm).1; omega
 have hl : (gs ++ [a]).length = gs.length + 1 := by simp
 have hnv : natsV (gs ++ [a]) = natsV gs ++ [.int .i64 (a : Int)] := by unfold natsV; rw [List.flatMap_append]; rfl
 have hg2 : wr'.grownBy (wr'.setCell ⟨sb, 3, none⟩ (.slice A1 (gs.length + 1) c1)) (some sb) := grown_cell wr' ⟨sb, 3, none⟩ _
 have hL : Below w.heap.size w wr' := h.l.grown hg h.l.size fun g e => by have := (hlt g e).1; omega
 have core : ∀ av' : List Nat, (db ∈ av' ∧ eb ∈ av' ∧ ob ∈ av' ∧ sb ∈ av' ∧ ch ∈ av' ∧ rb ∈ av') → (∀ x, (Value.slice A1 (gs.length + 1) c1).ownBlock = some x → x ∈ av') → (∀ x ∈ av', x < wr'.heap.size) → RowsF wr' 22 eb N av' 1 (fun b => natsV (edX Ex ed b)) → RowsF wr' 34 ob N av' 2 (fun b => (edX Ex ed b).flatMap (oc b)) →
  RcI w (wr'.setCell ⟨sb, 3, none⟩ (.slice A1 (gs.length + 1) c1)) pb rb db eb ob sb ch N P3 ed oc D Q Ex (gs ++ [a]) least A1 c1 av' := fun av' hav ha hl' he hoo => by
  refine ⟨(h.p.grown hg (hne _ (by omega))).grown hg2 (by intro e; injection e; omega), (h.r.grown hg (hne _ (by omega))).grown hg2 (by intro e; injection e; omega), ?_, (h.d.grown hg (hne _ (by omega))).grown hg2 (by have := hk.ds; intro e; injection e; omega), he.cell (p := ⟨sb, 3, none⟩) hav.2.2.2.1 hk.es _, hoo.cell (p := ⟨sb, 3, none⟩) hav.2.2.2.1 hk.os _, (h.c.grown hg (hne _ (Nat.le_refl _))).grown hg2 (by intro e; injection e; omega), ?_, ?_, hav, fun x hx => Nat.lt_of_lt_of_le (hl' x hx) hg2.size, hL.setCell (p := ⟨sb, 3, none⟩) (by show w.heap.size ≤ sb; omega) _⟩
  ·rw [hl]; exact (h.s.grown hg (hne _ (by omega))).set 3 _
  ·rw [hl, hnv]
   refine ho.kept hg2 (.inr fun e => ?_)
   have := (ho.lt sb e).1
   omega
  ·rw [hl]; exact ha
 rcases hat with e | e
 ·exact ⟨av, core av h.inA (fun x k => h.ga x (e ▸ k)) (fun x hx => Nat.lt_of_lt_of_le (h.avl x hx) hg.size) (h.e.grown hg h.ga (hne _ (by omega))) (h.o.grown hg h.ga (hne _ (by omega)))⟩
 ·refine ⟨wr.heap.size :: av, core _ ⟨?_, ?_, ?_, ?_, ?_, ?_⟩ (fun x k => by rw [e] at k; injection k with k; simp [k]) (fun x hx => by rcases List.mem_cons.1 hx with rfl | hx; (· exact (ho.lt _ e).2); (· exact Nat.lt_of_lt_of_le (h.avl x hx) hg.size)) ((h.e.more (Nat.le_refl _)).grown hg (fun g k => List.mem_cons_of_mem _ (h.ga g k)) (hne _ (by omega))) ((h.o.more (Nat.le_refl _)).grown hg (fun g k => List.mem_cons_of_mem _ (h.ga g k)) (hne _ (by omega)))⟩
  ·exact List.mem_cons_of_mem _ h.inA.1
  ·exact List.mem_cons_of_mem _ h.inA.2.1
  ·exact List.mem_cons_of_mem _ h.inA.2.2.1
  ·exact List.mem_cons_of_mem _ h.inA.2.2.2.1
  ·exact List.mem_cons_of_mem _ h.inA.2.2.2.2.1
  ·exact List.mem_cons_of_mem _ h.inA.2.2.2.2.2
end
theorem SlA.any {w : World} {av : List Nat} {size n c : Nat} {A : Option Addr} {xs : List Value} (h : SlA w av size A n c xs) : SlA w [] size A n c xs := ⟨h.1, fun _ _ _ _ => by simp⟩
theorem RowsF.any {w : World} {t : TypeId} {g N size : Nat} {av : List Nat} {f : Nat → List Value} (h : RowsF w t g N av size f) : RowsF w t g N [] size f := by
 obtain ⟨vs, h1, h2⟩ := h
 refine ⟨vs, h1, fun b hb => ?_⟩
 obtain ⟨A, n, c, h3, h4⟩ := h2 b hb
 exact ⟨A, n, c, h3, h4.any⟩
structure SrM (w : World) (db eb ob N : Nat) (ed : Nat → List Nat) (oc : Nat → Nat → List Value) (D : Nat → Int) (Ex : Nat → Bool) (gs : List Nat) (G : Option Addr) (gc : Nat) : Prop where
 d : RowF w 3 db N fun b => .int .i64 (D b)
 e : RowsF w 22 eb N [] 1 fun b => natsV (edX Ex ed b)
 o : RowsF w 34 ob N [] 2 fun b => (edX Ex ed b).flatMap (oc b)
 g : Sl w w.heap.size 1 G gs.length gc (natsV gs)
theorem SrM.later {w w' : World} {db eb ob N : Nat} {ed : Nat → List Nat} {oc : Nat → Nat → List Value} {D : Nat → Int} {Ex : Nat → Bool} {gs : List Nat} {G : Option Addr} {gc : Nat} (h : SrM w db eb ob N ed oc D Ex gs G gc) (hb : Below w.heap.size w w') : SrM w' db eb ob N ed oc D Ex gs G gc :=
 ⟨h.d.below hb h.d.lt, h.e.later hb, h.o.later hb, (h.g.below hb (Nat.le_refl _)).more hb.size⟩
def SrPost (w : World) (N : Nat) (ed : Nat → List Nat) (oc : Nat → Nat → List Value) (nb : Nat → Nat → Nat) (goal : Nat → Option Int) (e : Ending) (w' : World) : Prop :=
 ∃ (db eb ob gc : Nat) (D : Nat → Int) (Ex : Nat → Bool) (gs : List Nat) (least : Int) (G : Option Addr), e = .returned (.agg #[.slice (some ⟨db, 0, none⟩) N N, .slice (some ⟨eb, 0, none⟩) N N, .slice (some ⟨ob, 0, none⟩) N N, .slice G gs.length gc, .int .i64 least]) ∧ Hid (SrM w' db eb ob N ed oc D Ex gs G gc) ∧ Hid (SpNo (stE ed nb) goal gs ∨ ∃ (L : Nat) (c : Int), SpOk (stE ed nb) goal N D Ex gs L c) ∧ Hid ((∀ b, -1 ≤ D b ∧ D b ≤ N) ∧ gs.length ≤ N ∧ (∀ b ∈ gs, b < N)) ∧ Hid (Below w.heap.size w w')
theorem RcI.fin {w wr : World} {pb rb db eb ob sb ch N : Nat} {P3 : Array Value} {ed : Nat → List Nat} {oc : Nat → Nat → List Value} {D : Nat → Int} {Q : List Nat} {Ex : Nat → Bool} {gs : List Nat} {least : Int} {G : Option Addr} {gc : Nat} {av : List Nat} (hk : RkK w.heap.size pb rb db eb ob sb ch) (h : RcI w wr pb rb db eb ob sb ch N P3 ed oc D Q Ex gs least G gc av) (a b c d e : Value) :
 SrM (((((wr.setCell ⟨rb, 0, none⟩ a).setCell ⟨rb, 1, none⟩ b).setCell ⟨rb, 2, none⟩ c).setCell ⟨rb, 3, none⟩ d).setCell ⟨rb, 4, none⟩ e) db eb ob N ed oc D Ex gs G gc ∧ Below w.heap.size w (((((wr.setCell ⟨rb, 0, none⟩ a).setCell ⟨rb, 1, none⟩ b).setCell ⟨rb, 2, none⟩ c).setCell ⟨rb, 3, none⟩ d).setCell ⟨rb, 4, none⟩ e) := by
 have h1 := hk.p; have h2 := hk.r; have h3 := hk.d; have h4 := hk.e; have h5 := hk.o; have h6 := hk.s; have h7 := hk.dc
 have hr := h.inA.2.2.2.2.2
 have hd : db ≠ rb := by omega
 have he : eb ≠ rb := by omega
 have ho : ob ≠ rb := by omega
 have hlt : rb < ch + 1 := by omega
 have hle : w.heap.size ≤ rb := by omega
 refine ⟨⟨((((h.d.far (p := ⟨rb, 0, none⟩) hd _).far (p := ⟨rb, 1, none⟩) hd _).far (p := ⟨rb, 2, none⟩) hd _).far (p := ⟨rb, 3, none⟩) hd _).far (p := ⟨rb, 4, none⟩) hd _, (((((h.e.cell (p := ⟨rb, 0, none⟩) hr he _).cell (p := ⟨rb, 1, none⟩) hr he _).cell (p := ⟨rb, 2, none⟩) hr he _).cell (p := ⟨rb, 3, none⟩) hr he _).cell (p := ⟨rb, 4, none⟩) hr he _).any, (((((h.o.cell (p := ⟨rb, 0, none⟩) hr ho _).cell (p := ⟨rb, 1, none⟩) hr ho _).cell (p := ⟨rb, 2, none⟩) hr ho _).cell (p := ⟨rb, 3, none⟩) hr ho _).cell (p := ⟨rb, 4, none⟩) hr ho _).any, Sl.of_own (ownsRow_setCell_below (ownsRow_setCell_below (ownsRow_setCell_below (ownsRow_setCell_below (ownsRow_setCell_below h.g (a := ⟨rb, 0, none⟩) hlt _) (a := ⟨rb, 1, none⟩) hlt _) (a := ⟨rb, 2, none⟩) hlt _) (a := ⟨rb, 3, none⟩) hlt _) (a := ⟨rb, 4, none⟩) hlt _)⟩, ((((h.l.setCell (p := ⟨rb, 0, none⟩) hle _).setCell (p := ⟨rb, 1, none⟩) hle _).setCell (p := ⟨rb, 2, none⟩) hle _).setCell (p := ⟨rb, 3, none⟩) hle _).setCell (p := ⟨rb, 4, none⟩) hle _⟩
theorem Srch.goalsX {st : Nat → Nat → Option Nat} {goal : Nat → Option Int} {N : Nat} {D : Nat → Int} {Q X : List Nat} {Ex : Nat → Bool} {gs : List Nat} {least dep : Int} (h : Srch st goal N D Q X Ex gs least dep) : ∀ b ∈ gs, b < N := by
 rcases h with ⟨_, h1, _, k, h⟩ | ⟨k, _, hg, _, h⟩
 ·rw [h1]; simp
 ·exact fun b hb => h.lt b (by simp [((hg.m b).1 hb).1])
theorem Srch.rng {st : Nat → Nat → Option Nat} {goal : Nat → Option Int} {N : Nat} {D : Nat → Int} {Q X : List Nat} {Ex : Nat → Bool} {gs : List Nat} {least dep : Int} (h : Srch st goal N D Q X Ex gs least dep) : ∀ b, -1 ≤ D b ∧ D b ≤ N := by
 obtain ⟨k, E, hb⟩ := h.bf
 intro b
 have := hb.low b; have := hb.len b; have := hb.le
 omega
end Go.Proofs.YtfaknfmndafllaaGreatDoor
namespace Go.Proofs.YtfaknfmndafllaaGreatDoor
open Go.RowKit
section
variable {P : Program} {ops : Array Oper} {Q : Exit → Act → World → Prop} {md : Region.Mode} {S : World → Prop} {J : List Nat}
def chkPre (md : Region.Mode) (ops : Array Oper) (J : List Nat) (fin : Array Bool) : List (Nat × Bool) → Array Bool → Bool
 | [], listed => listed == fin
 | (i, true) :: r, listed => Region.free md ops listed i && (Region.ready md ops listed).contains i && closedB md ops listed && J.all (ancB md ops i ops.size) && chkPre md ops J fin r (listed.setIfInBounds i true)
 | (_, false) :: _, _ => false
def QR (Q : Exit → Act → World → Prop) (R : Act → World → Prop) : Exit → Act → World → Prop := fun ex a w => match ex with
 | .normal => R a w
 | ex => Q ex a w
theorem wpAnyJ_of_pre {R : Act → World → Prop} {m : Nat} {fin : Array Bool} (hs : Region.noSelect ops = true) (hQ : ∀ c a d v w, Q (.panic c) (a.put (some d) v) w → Q (.panic c) a w) (hR : ∀ a w, R a w → wpAnyJ P md ops Q S J m fin a w) :
 ∀ (tk : List (Nat × Bool)) (listed : Array Bool) (a : Act) (w : World), chkPre md ops J fin tk listed = true → wpOrd' P ops (QR Q R) S J tk a w → wpAnyJ P md ops Q S J (tk.length + m) listed a w
 | [], listed, a, w, hc, h => by
  have : listed = fin := by simpa [chkPre] using hc
  subst this
  rw [List.length_nil, Nat.zero_add]
  exact hR a w h
 | (i, true) :: r, listed, a, w, hc, h => by
  simp only [chkPre, Bool.and_eq_true] at hc
  obtain ⟨⟨⟨⟨h1, h2⟩, h3⟩, h4⟩, h5⟩ := hc
  obtain ⟨hS, oi, v, hoi, hy, hr⟩ := h
  rw [List.length_cons, Nat.add_right_comm]
  exact wpAnyJ_take hoi rfl hs h1 h2 h3 h4 (fun c a w q => by cases hd : oi.dst with | none => rw [hd] at q; exact q | some d => rw [hd] at q; exact hQ c a d v w q) hy hS (wpAnyJ_of_pre hs hQ hR r _ _ _ h5 hr)
 | (_, false) :: _, _, _, _, hc, _ => by cases hc
theorem lat_pre {R : Act → World → Prop} {a : Act} {w : World} (h : R a w) : wpOrd P ops (QR Q R) S J [] a w := ⟨h⟩
section
variable {A : Act} {L : List (Nat × Value)} {w : World} {n i d : Nat} {oi : Oper} {v : Value} {R : Act → World → Prop}
theorem lat_run {w' : World} (hi : ops[i]? = some oi) (hd : oi.dst = some d) (hg : oi.guard = none)
 (hv : ∀ ρ : Operand → Value, Rd A L ρ → (execOp ρ oi).run P w = .ok (.value v) w') (h : R (puts A ((d, v) :: L)) w') : wpOp P ops Q i R (puts A L) w := by
 simp only [wpOp, hi, wanted_none hg, if_true]
 refine .inl ?_
 rw [Oper.wp, hv _ rfl, Oper.upon_value, hd]
 exact h
theorem ord_store {w' : World} {r : List (Nat × Bool)} (hi : ops[i]? = some oi) (hd : oi.dst = none) (hw : Region.wanted oi (yielded ops (puts A L).tmps) = true)
 (hv : ∀ ρ : Operand → Value, Rd A L ρ → (execOp ρ oi).run P w = .ok .skip w') (hS : J.contains i = false → S w') (h : wpOrd P ops Q S J r (puts A L) w') : wpOrd P ops Q S J ((i, false) :: r) (puts A L) w := by
 refine ⟨?_⟩
 simp only [wpOrd', wpOp, hi, hw, if_true]
 refine .inl ?_
 rw [Oper.wp, hv _ rfl, Oper.upon_skip, hd]
 exact ⟨hS, h.1⟩
def optE (b : Bool) (k : Nat) (v : Value) : List (Nat × Value) := if b = true then [(k, v)] else []
theorem miss_opt {b : Bool} {n k : Nat} {u v d : Value} {L : List (Nat × Value)} (h : Nat.beq n k = false) (r : lkp L n d = u) : lkp (optE b k v ++ L) n d = u := by
 cases b
 ·exact r
 ·exact miss1 h r
theorem hit_opt {k : Nat} {v d : Value} {L : List (Nat × Value)} : lkp (optE true k v ++ L) k d = v := lkp_hit
theorem put_comm (a : Act) {k1 k2 : Nat} (h : k1 ≠ k2) (v1 v2 : Value) : (a.put (some k1) v1).put (some k2) v2 = (a.put (some k2) v2).put (some k1) v1 := by
 simp only [Act.put]
 rw [Array.setIfInBounds_comm _ _ h]
theorem puts_swap (A : Act) (L : List (Nat × Value)) {k1 k2 : Nat} (h : k1 ≠ k2) (v1 v2 : Value) : puts A ((k1, v1) :: (k2, v2) :: L) = puts A ((k2, v2) :: (k1, v1) :: L) := by
 simp only [puts]
 exact put_comm _ (Ne.symm h) _ _
theorem puts_cong (A : Act) {L L' : List (Nat × Value)} (h : puts A L = puts A L') (k : Nat) (v : Value) : puts A ((k, v) :: L) = puts A ((k, v) :: L') := by
 simp only [puts, h]
theorem puts_opt (A : Act) (L : List (Nat × Value)) {k1 k2 : Nat} (h : k1 ≠ k2) (b : Bool) (v1 v2 : Value) : puts A ((k1, v1) :: (optE b k2 v2 ++ L)) = puts A (optE b k2 v2 ++ ((k1, v1) :: L)) := by
 cases b
 ·rfl
 ·exact puts_swap A L h v1 v2
theorem puts_optc (A : Act) {L L' : List (Nat × Value)} (h : puts A L = puts A L') (b : Bool) (k : Nat) (v : Value) : puts A (optE b k v ++ L) = puts A (optE b k v ++ L') := by
 cases b
 ·exact h
 ·exact puts_cong A h k v
end
def ptr (x : Nat) : Value := .pointer (some ⟨x, 0, none⟩)
structure LatMem (H : Nat) (T7 T8 : TypeId) (z7 z8 : Array Value) (b7 b8 : Bool) (x7 x8 : Nat) (w : World) : Prop where
 le : H ≤ w.heap.size
 m7 : b7 = true → Blk w x7 T7 z7 ∧ H ≤ x7
 m8 : b8 = true → Blk w x8 T8 z8 ∧ H ≤ x8
 ne : b7 = true → b8 = true → x7 ≠ x8
section
variable {H x7 x8 g : Nat} {T7 T8 : TypeId} {z7 z8 : Array Value} {b7 b8 : Bool} {w w' : World}
theorem LatMem.later (h : LatMem H T7 T8 z7 z8 b7 b8 x7 x8 w) (hb : Below w.heap.size w w') : LatMem H T7 T8 z7 z8 b7 b8 x7 x8 w' :=
 ⟨Nat.le_trans h.le hb.size, fun e => ⟨(h.m7 e).1.below hb (h.m7 e).1.lt, (h.m7 e).2⟩, fun e => ⟨(h.m8 e).1.below hb (h.m8 e).1.lt, (h.m8 e).2⟩, h.ne⟩
theorem LatMem.grown (h : LatMem H T7 T8 z7 z8 b7 b8 x7 x8 w) (hg : w.grownBy w' (some g)) (hl : g < H) : LatMem H T7 T8 z7 z8 b7 b8 x7 x8 w' :=
 ⟨Nat.le_trans h.le hg.size, fun e => ⟨(h.m7 e).1.grown hg (fun e2 => by have := (h.m7 e).2; injection e2 with e2; omega), (h.m7 e).2⟩, fun e => ⟨(h.m8 e).1.grown hg (fun e2 => by have := (h.m8 e).2; injection e2 with e2; omega), (h.m8 e).2⟩, h.ne⟩
theorem LatMem.start (w : World) (x7 x8 : Nat) : LatMem w.heap.size T7 T8 z7 z8 false false x7 x8 w := ⟨Nat.le_refl _, fun e => (by cases e), fun e => (by cases e), fun e => (by cases e)⟩
theorem LatMem.one7 (h : LatMem H T7 T8 z7 z8 b7 b8 x7 x8 w) : LatMem H T7 T8 z7 z8 true b8 w.heap.size x8 (w.alloc (.cells z7 T7)) :=
 ⟨by have := h.le; simp; omega, fun _ => ⟨Blk.new _ _ _, h.le⟩, fun e => ⟨(h.m8 e).1.alloc _, (h.m8 e).2⟩, fun _ e => by have := (h.m8 e).1.lt; omega⟩
theorem LatMem.one8 (h : LatMem H T7 T8 z7 z8 b7 b8 x7 x8 w) : LatMem H T7 T8 z7 z8 b7 true x7 w.heap.size (w.alloc (.cells z8 T8)) :=
 ⟨by have := h.le; simp; omega, fun e => ⟨(h.m7 e).1.alloc _, (h.m7 e).2⟩, fun _ => ⟨Blk.new _ _ _, h.le⟩, fun e _ => by have := (h.m7 e).1.lt; omega⟩
end
def ents : List (Nat × Nat) → List Value → List (Nat × Value)
 | c :: cs, v :: vs => ents cs vs ++ [(c.2, v)]
 | _, _ => []
def LatP (A : Act) (L0 : List (Nat × Value)) (i7 i8 d7 d8 H : Nat) (T7 T8 : TypeId) (z7 z8 : Array Value) (Cs : List (Nat × Nat)) (F : List Value → World → Prop) (C D : List Nat) (a : Act) (w : World) : Prop :=
 ∃ (vs : List Value) (x7 x8 : Nat), C = (Cs.drop vs.length).map (·.1) ∧ D.Nodup ∧ (∀ i ∈ D, i = i7 ∨ i = i8) ∧ a = puts A (optE (!D.contains i8) d8 (ptr x8) ++ (optE (!D.contains i7) d7 (ptr x7) ++ (ents Cs vs ++ L0))) ∧ F vs w ∧ LatMem H T7 T8 z7 z8 (!D.contains i7) (!D.contains i8) x7 x8 w
section
variable {A : Act} {L0 : List (Nat × Value)} {i7 i8 d7 d8 H n : Nat} {T7 T8 : TypeId} {z7 z8 : Array Value} {Cs : List (Nat × Nat)} {F : List Value → World → Prop} {C D : List Nat} {a : Act} {w : World} {o7 o8 : Oper}
theorem erase_self {D : List Nat} (h : D.Nodup) (i : Nat) : (D.erase i).contains i = false := by
 rw [← Bool.not_eq_true, List.contains_iff_mem]; exact h.not_mem_erase
theorem erase_other {D : List Nat} {i j : Nat} (h : j ≠ i) : (D.erase i).contains j = D.contains j := by
 rw [Bool.eq_iff_iff, List.contains_iff_mem, List.contains_iff_mem, List.mem_erase_of_ne h]
theorem LatP.alloc (hF : ∀ vs w o, F vs w → F vs (w.alloc o)) (h78 : i7 ≠ i8) (hd : d7 ≠ d8) (h7 : ops[i7]? = some o7) (h8 : ops[i8]? = some o8) (hd7 : o7.dst = some d7) (hd8 : o8.dst = some d8) (hg7 : o7.guard = none) (hg8 : o8.guard = none)
 (hr7 : ∀ ρ : Operand → Value, ∀ w, (execOp ρ o7).run P w = .ok (.value (ptr w.heap.size)) (w.alloc (.cells z7 T7))) (hr8 : ∀ ρ : Operand → Value, ∀ w, (execOp ρ o8).run P w = .ok (.value (ptr w.heap.size)) (w.alloc (.cells z8 T8)))
 (i : Nat) (hi : i ∈ D) (h : LatP A L0 i7 i8 d7 d8 H T7 T8 z7 z8 Cs F C D a w) : wpOp P ops Q i (fun a' w' => LatP A L0 i7 i8 d7 d8 H T7 T8 z7 z8 Cs F C (D.erase i) a' w') a w := by
 obtain ⟨vs, x7, x8, hC, hn, hD, rfl, hf, hm⟩ := h
 have hc : D.contains i = true := by rw [List.contains_iff_mem]; exact hi
 rcases hD i hi with rfl | rfl
 ·refine lat_run h7 hd7 hg7 (fun ρ _ => hr7 ρ w) ?_
  refine ⟨vs, w.heap.size, x8, hC, hn.erase _, fun j hj => hD j (List.mem_of_mem_erase hj), ?_, hF _ _ _ hf, ?_⟩
  ·rw [erase_self hn, erase_other (Ne.symm h78), hc]
   exact puts_opt A _ hd _ _ _
  ·rw [erase_self hn, erase_other (Ne.symm h78)]
   exact hm.one7
 ·refine lat_run h8 hd8 hg8 (fun ρ _ => hr8 ρ w) ?_
  refine ⟨vs, x7, w.heap.size, hC, hn.erase _, fun j hj => hD j (List.mem_of_mem_erase hj), ?_, hF _ _ _ hf, ?_⟩
  ·rw [erase_self hn, erase_other h78, hc]
   rfl
  ·rw [erase_self hn, erase_other h78]
   exact hm.one8
end
end
end Go.Proofs.YtfaknfmndafllaaGreatDoor
namespace Go.Proofs.YtfaknfmndafllaaGreatDoor
open Go.RowKit
section
variable {P : Program} {ops : Array Oper} {Q : Exit → Act → World → Prop} {md : Region.Mode} {S : World → Prop} {J : List Nat}
def phiOk (md : Region.Mode) (ops : Array Oper) (g : Nat → Array Bool → Bool) (fin : Array Bool) : Nat → Array Bool → Bool
 | 0, listed => listed == fin
 | n + 1, listed => !(Region.ready md ops listed).isEmpty && (Region.ready md ops listed).all (fun i => g i listed && phiOk md ops g fin n (listed.setIfInBounds i true))
theorem wpAnyJ_phi {g : Nat → Array Bool → Bool} {Φ : Array Bool → Act → World → Prop} {m : Nat} {fin : Array Bool}
 (hs : ∀ listed i a w, g i listed = true → Φ listed a w → wpOp P ops Q i (fun a' w' => (J.contains i = false → S w') ∧ Φ (listed.setIfInBounds i true) a' w') a w)
 (he : ∀ a w, Φ fin a w → wpAnyJ P md ops Q S J m fin a w) :
 ∀ (n : Nat) (listed : Array Bool) (a : Act) (w : World), phiOk md ops g fin n listed = true → Φ listed a w → wpAnyJ P md ops Q S J (n + m) listed a w
 | 0, listed, a, w, hk, h => by
  have : listed = fin := by simpa [phiOk] using hk
  subst this
  rw [Nat.zero_add]
  exact he a w h
 | n + 1, listed, a, w, hk, h => by
  simp only [phiOk, Bool.and_eq_true] at hk
  obtain ⟨h1, h2⟩ := hk
  rw [Nat.add_right_comm]
  refine ⟨fun h0 => (by rw [h0] at h1; cases h1), fun j hj => ?_⟩
  have h5 := List.all_eq_true.1 h2 j hj
  rw [Bool.and_eq_true] at h5
  exact wpOp_mono (fun a' w' h' => ⟨h'.1, wpAnyJ_phi hs he n _ a' w' h5.2 h'.2⟩) (hs listed j a w h5.1 h)
def phiReg (P : Program) (ops : Array Oper) (J : List Nat) (pre : List (Nat × Bool)) (g : Nat → Array Bool → Bool) (k : Nat) (post : List (Nat × Bool)) (f0 f1 : Array Bool) : Bool :=
 P.follows .mixedOrders && Region.noSelect ops && pre.length + (k + post.length) == ops.size && chkPre .any ops J f0 pre (Array.replicate ops.size false) && phiOk .any ops g f1 k f0 && chkOrd .any ops J post f1
theorem wp_region_phi {id : Nat} {a : Act} {w : World} {base : List (Nat × Value)} {n : Nat} (pre post : List (Nat × Bool)) (g : Nat → Array Bool → Bool) (k : Nat) (f0 f1 : Array Bool) (hk : phiReg P ops J pre g k post f0 f1 = true) (hn : a.tmps.size = n) (hb : BaseOk a base) (hS : S w.drew) (hq : ∀ c a d v w, Q (.panic c) (a.put (some d) v) w → Q (.panic c) a w)
 (h : ∀ (Q2 : Exit → Act → World → Prop) (A : Act), A.tmps.size = n → BaseOk A base → Hid (∀ L w', Q .normal (puts a L) w' → Q2 .normal (puts A L) w') → S w.drew →
  ∃ Φ : Array Bool → Act → World → Prop, wpOrd P ops (QR Q2 (Φ f0)) S J pre (puts A []) w.drew ∧
   (∀ listed i a w, g i listed = true → Φ listed a w → wpOp P ops Q2 i (fun a' w' => (J.contains i = false → S w') ∧ Φ (listed.setIfInBounds i true) a' w') a w) ∧
   (∀ a w, Φ f1 a w → wpOrd P ops Q2 S J post a w)) : (Code.region id ops true).wp P Q a w := by
 simp only [phiReg, Bool.and_eq_true, beq_iff_eq] at hk
 obtain ⟨⟨⟨⟨⟨h1, h2⟩, h3⟩, h4⟩, h5⟩, h6⟩ := hk
 refine wp_region_J (J := J) h1 hS (fun hS => ?_)
 obtain ⟨Φ, k1, k2, k4⟩ := h Q a hn hb (fun L w' h => h) hS
 have e : ∀ a w, Φ f1 a w → wpAnyJ P .any ops Q S J post.length f1 a w := fun a w hΦ => by
  have := wpAnyJ_of_ord (P := P) h2 hq post 0 _ _ _ h6 (k4 a w hΦ).out
  rwa [Nat.add_zero] at this
 have l : ∀ a w, Φ f0 a w → wpAnyJ P .any ops Q S J (k + post.length) f0 a w := fun a w hΦ => wpAnyJ_phi k2 e k f0 a w h5 hΦ
 have := wpAnyJ_of_pre (P := P) h2 hq l pre _ _ _ h4 k1.out
 rw [h3] at this
 exact this
end
def flag (listed : Array Bool) (i : Nat) : Bool := listed.getD i false
theorem flag_same {l : Array Bool} {i : Nat} (h : i < l.size) : flag (l.setIfInBounds i true) i = true := by simp [flag, Array.getD, h]
theorem flag_ne {l : Array Bool} {i j : Nat} (h : j ≠ i) : flag (l.setIfInBounds i true) j = flag l j := by
 unfold flag
 rw [Array.getD_eq_getD_getElem?, Array.getD_eq_getD_getElem?, Array.getElem?_setIfInBounds_ne (Ne.symm h)]
def updV (vs : Nat → Value) (i : Nat) (v : Value) : Nat → Value := fun j => if j = i then v else vs j
theorem updV_same (vs : Nat → Value) (i : Nat) (v : Value) : updV vs i v i = v := if_pos rfl
theorem updV_ne {vs : Nat → Value} {i j : Nat} {v : Value} (h : j ≠ i) : updV vs i v j = vs j := if_neg h
def slots : List (Nat × Nat) → Array Bool → (Nat → Value) → List (Nat × Value)
 | [], _, _ => []
 | (i, d) :: r, l, vs => optE (flag l i) d (vs i) ++ slots r l vs
theorem slots_eq {i : Nat} {v : Value} {l : Array Bool} {vs : Nat → Value} : ∀ D : List (Nat × Nat), i ∉ D.map (·.1) → slots D (l.setIfInBounds i true) (updV vs i v) = slots D l vs
 | [], _ => rfl
 | (j, d) :: r, h => by
  have hj : j ≠ i := fun e => h (by simp [e])
  simp only [slots]
  rw [flag_ne hj, updV_ne hj, slots_eq r (fun h2 => h (by simp only [List.map_cons, List.mem_cons]; exact .inr h2))]
theorem slots_put (A : Act) (Y : List (Nat × Value)) {i d : Nat} {v : Value} {l : Array Bool} {vs : Nat → Value} (hi : i < l.size) (hf : flag l i = false) :
 ∀ D : List (Nat × Nat), (i, d) ∈ D → (D.map (·.1)).Nodup → (D.map (·.2)).Nodup → puts A ((d, v) :: (slots D l vs ++ Y)) = puts A (slots D (l.setIfInBounds i true) (updV vs i v) ++ Y)
 | [], h, _, _ => by cases h
 | (j, e) :: r, h, n1, n2 => by
  simp only [List.map_cons, List.nodup_cons] at n1 n2
  simp only [slots]
  by_cases hj : j = i
  ·subst hj
   have hd : e = d := by
    rcases List.mem_cons.1 h with h | h
    ·injection h with _ h; exact h.symm
    ·exact absurd (List.mem_map.2 ⟨_, h, rfl⟩) n1.1
   subst hd
   rw [slots_eq r n1.1, flag_same hi, hf, updV_same]
   rfl
  ·have hm : (i, d) ∈ r := by
    rcases List.mem_cons.1 h with h | h
    ·injection h with h _; exact absurd h.symm hj
    ·exact h
   have hd : d ≠ e := fun h2 => n2.1 (by rw [← h2]; exact List.mem_map.2 ⟨_, hm, rfl⟩)
   rw [flag_ne hj, updV_ne hj, List.append_assoc, List.append_assoc]
   exact (puts_opt A _ hd _ v _).trans (puts_optc A (slots_put A Y hi hf r hm n1.2 n2.2) _ _ _)
theorem beqF {k e : Nat} (h : k ≠ e) : Nat.beq k e = false := by
 rw [← Bool.not_eq_true]
 exact fun h2 => h (Nat.eq_of_beq_eq_true h2)
theorem slots_miss {k : Nat} {z u : Value} {Y : List (Nat × Value)} {l : Array Bool} {vs : Nat → Value} : ∀ D : List (Nat × Nat), (D.map (·.2)).contains k = false → lkp Y k z = u → lkp (slots D l vs ++ Y) k z = u
 | [], _, h => h
 | (j, e) :: r, hk, h => by
  simp only [List.map_cons, List.contains_cons, Bool.or_eq_false_iff] at hk
  simp only [slots]
  rw [List.append_assoc]
  exact miss_opt (beqF (by have := hk.1; simpa using this)) (slots_miss r hk.2 h)
theorem slots_get {i d : Nat} {z : Value} {Y : List (Nat × Value)} {l : Array Bool} {vs : Nat → Value} (hf : flag l i = true) : ∀ D : List (Nat × Nat), (i, d) ∈ D → (D.map (·.2)).Nodup → lkp (slots D l vs ++ Y) d z = vs i
 | [], h, _ => by cases h
 | (j, e) :: r, h, n2 => by
  simp only [List.map_cons, List.nodup_cons] at n2
  simp only [slots]
  rw [List.append_assoc]
  rcases List.mem_cons.1 h with h | h
  ·injection h with h1 h2
   subst h1 h2
   rw [hf]
   exact hit_opt
  ·have hd : d ≠ e := fun h2 => n2.1 (by rw [← h2]; exact List.mem_map.2 ⟨_, h, rfl⟩)
   exact miss_opt (beqF hd) (slots_get hf r h n2.2)
def Phi {α : Type} (A : Act) (D : List (Nat × Nat)) (L0 : List (Nat × Value)) (N : Nat) (B : World → Prop) (G : Nat → α → Value → World → Prop) (l : Array Bool) (a : Act) (w : World) : Prop :=
 ∃ (vs : Nat → Value) (γ : α), l.size = N ∧ a = puts A (slots D l vs ++ L0) ∧ B w ∧ ∀ j, flag l j = true → j ∈ D.map (·.1) → G j γ (vs j) w
theorem phi_step {α : Type} {A : Act} {D : List (Nat × Nat)} {L0 : List (Nat × Value)} {N : Nat} {B : World → Prop} {G : Nat → α → Value → World → Prop} {l : Array Bool} {i d : Nat} {v : Value} {vs : Nat → Value} {γ γ' : α} {w w' : World} (hn : (D.map (·.1)).Nodup ∧ (D.map (·.2)).Nodup) (hm : (i, d) ∈ D) (hl : l.size = N) (hi : i < N) (hf : flag l i = false)
 (hB : B w') (ho : ∀ j, flag l j = true → j ∈ D.map (·.1) → G j γ (vs j) w) (hk : ∀ j u, flag l j = true → j ∈ D.map (·.1) → G j γ u w → G j γ' u w') (hv : G i γ' v w') : Phi A D L0 N B G (l.setIfInBounds i true) (puts A ((d, v) :: (slots D l vs ++ L0))) w' := by
 refine ⟨updV vs i v, γ', by simpa using hl, slots_put A L0 (by omega) hf D hm hn.1 hn.2, hB, fun j hj hjm => ?_⟩
 by_cases hji : j = i
 ·subst hji
  rw [updV_same]
  exact hv
 ·rw [flag_ne hji] at hj
  rw [updV_ne hji]
  exact hk j _ hj hjm (ho j hj hjm)
theorem slots_none {l : Array Bool} {vs : Nat → Value} : ∀ D : List (Nat × Nat), D.all (fun p => !flag l p.1) = true → slots D l vs = []
 | [], _ => rfl
 | (i, d) :: r, h => by
  simp only [List.all_cons, Bool.and_eq_true, Bool.not_eq_true'] at h
  rw [slots, h.1, slots_none r h.2]
  rfl
theorem phi_start {α : Type} {A : Act} {D : List (Nat × Nat)} {L0 : List (Nat × Value)} {N : Nat} {B : World → Prop} {G : Nat → α → Value → World → Prop} {l : Array Bool} {w : World} (γ : α) (h0 : D.all (fun p => !flag l p.1) = true) (hl : l.size = N) (hB : B w) : Phi A D L0 N B G l (puts A L0) w :=
 ⟨fun _ => undef, γ, hl, by rw [slots_none D h0]; rfl, hB, fun j hj hm => by
  obtain ⟨⟨j', d⟩, h1, rfl⟩ := List.mem_map.1 hm
  have := List.all_eq_true.1 h0 _ h1
  simp only [hj] at this
  cases this⟩
def phiG (E : List (Nat × List Nat)) (i : Nat) (l : Array Bool) : Bool := !flag l i && E.any fun p => p.1 == i && p.2.all (flag l)
theorem phiG_out {E : List (Nat × List Nat)} {i : Nat} {l : Array Bool} (h : phiG E i l = true) : flag l i = false ∧ ∃ ds, (i, ds) ∈ E ∧ ∀ j ∈ ds, flag l j = true := by
 unfold phiG at h
 simp only [Bool.and_eq_true, Bool.not_eq_true', List.any_eq_true] at h
 obtain ⟨h1, ⟨i', ds⟩, h2, h3⟩ := h
 simp only [beq_iff_eq] at h3
 obtain ⟨rfl, h3⟩ := h3
 exact ⟨h1, ds, h2, List.all_eq_true.1 h3⟩
end Go.Proofs.YtfaknfmndafllaaGreatDoor
namespace Go.Proofs.YtfaknfmndafllaaGreatDoor
open Go.Conc
open Go.RowKit
theorem RowF.congr {w : World} {t : TypeId} {g N : Nat} {f f' : Nat → Value} (h : RowF w t g N f) (e : ∀ b, b < N → f b = f' b) : RowF w t g N f' := by
 have : lstF N f = lstF N f' := by
  unfold lstF
  exact List.map_congr_left fun b hb => e b (List.mem_range.1 hb)
 unfold RowF at h ⊢
 rwa [← this]
def d1 (k : Nat) (b : Nat) : Int := if b < k then -1 else 0
theorem d1_upd (k : Nat) : upd (d1 k) k (-1) = d1 (k + 1) := by
 funext b
 unfold upd d1
 by_cases h : b = k
 ·subst h; simp
 ·rw [if_neg h]
  by_cases h2 : b < k
  ·rw [if_pos h2, if_pos (by omega)]
  ·rw [if_neg h2, if_neg (by omega)]
structure Rc1 (W wr : World) (db eb ob sb N k : Nat) : Prop where
 d : RowF wr 3 db N fun b => .int .i64 (d1 k b)
 e : RowF wr 22 eb N fun _ => .slice none 0 0
 o : RowF wr 34 ob N fun _ => .slice none 0 0
 s : Blk wr sb 129 #[.slice (some ⟨db, 0, none⟩) N N, .slice (some ⟨eb, 0, none⟩) N N, .slice (some ⟨ob, 0, none⟩) N N, .slice none 0 0, .int .i64 0]
 l : Below W.heap.size W wr
theorem Rc1.set {W wr : World} {db eb ob sb N k : Nat} (h : Rc1 W wr db eb ob sb N k) (hd : W.heap.size ≤ db) (hne : db ≠ eb ∧ db ≠ ob ∧ db ≠ sb) : Rc1 W (wr.setCell ⟨db, k, none⟩ (.int .i64 (-1))) db eb ob sb N (k + 1) :=
 ⟨by have := h.d.set k (.int .i64 (-1)); rwa [upd_int, d1_upd] at this, h.e.far (p := ⟨db, k, none⟩) (Ne.symm hne.1) _, h.o.far (p := ⟨db, k, none⟩) (Ne.symm hne.2.1) _, h.s.far (p := ⟨db, k, none⟩) (Ne.symm hne.2.2) _, h.l.setCell (p := ⟨db, k, none⟩) hd _⟩
def Rl1 (W : World) (db eb ob sb N : Nat) (gk : Nat) (iv : Value) (wr : World) : Prop := ∃ k : Nat, iv = .int .i64 k ∧ k ≤ N ∧ gk = N - k ∧ Hid (Rc1 W wr db eb ob sb N k)
theorem Rc1.made {W W0 : World} {db eb ob sb N : Nat} (hb : Below W.heap.size W W0) (az : W.heap.size ≤ sb) (rd : RowF W0 3 db N fun _ => .int .i64 0) (re : RowF W0 22 eb N fun _ => .slice none 0 0) (ro : RowF W0 34 ob N fun _ => .slice none 0 0) (rs : Blk W0 sb 129 #[.slice none 0 0, .slice none 0 0, .slice none 0 0, .slice none 0 0, .int .i64 0]) :
 (db ≠ eb ∧ db ≠ ob ∧ db ≠ sb ∧ eb ≠ ob ∧ eb ≠ sb ∧ ob ≠ sb) ∧ Rc1 W (((((W0.setCell ⟨sb, 0, none⟩ (.slice (some ⟨db, 0, none⟩) N N)).setCell ⟨sb, 1, none⟩ (.slice (some ⟨eb, 0, none⟩) N N)).setCell ⟨sb, 2, none⟩ (.slice (some ⟨ob, 0, none⟩) N N)).setCell ⟨sb, 3, none⟩ (.slice none 0 0)).setCell ⟨sb, 4, none⟩ (.int .i64 0)) db eb ob sb N 0 := by
 have h1 : db ≠ eb := blk_ne rd re (by decide)
 have h2 : db ≠ ob := blk_ne rd ro (by decide)
 have h3 : db ≠ sb := blk_ne rd rs (by decide)
 have h4 : eb ≠ ob := blk_ne re ro (by decide)
 have h5 : eb ≠ sb := blk_ne re rs (by decide)
 have h6 : ob ≠ sb := blk_ne ro rs (by decide)
 refine ⟨⟨h1, h2, h3, h4, h5, h6⟩, ?_, ?_, ?_, ((((rs.set 0 _).set 1 _).set 2 _).set 3 _).set 4 _, ((((hb.setCell (p := ⟨sb, 0, none⟩) az _).setCell (p := ⟨sb, 1, none⟩) az _).setCell (p := ⟨sb, 2, none⟩) az _).setCell (p := ⟨sb, 3, none⟩) az _).setCell (p := ⟨sb, 4, none⟩) az _⟩
 ·exact RowF.congr (((((rd.far (p := ⟨sb, 0, none⟩) h3 _).far (p := ⟨sb, 1, none⟩) h3 _).far (p := ⟨sb, 2, none⟩) h3 _).far (p := ⟨sb, 3, none⟩) h3 _).far (p := ⟨sb, 4, none⟩) h3 _) fun b _ => by simp [d1]
 ·exact ((((re.far (p := ⟨sb, 0, none⟩) h5 _).far (p := ⟨sb, 1, none⟩) h5 _).far (p := ⟨sb, 2, none⟩) h5 _).far (p := ⟨sb, 3, none⟩) h5 _).far (p := ⟨sb, 4, none⟩) h5 _
 ·exact ((((ro.far (p := ⟨sb, 0, none⟩) h6 _).far (p := ⟨sb, 1, none⟩) h6 _).far (p := ⟨sb, 2, none⟩) h6 _).far (p := ⟨sb, 3, none⟩) h6 _).far (p := ⟨sb, 4, none⟩) h6 _
theorem Rc1.start {w W wr : World} {db eb ob sb N : Nat} {P3 : Array Value} (ed : Nat → List Nat) (oc : Nat → Nat → List Value) (hz : W.heap.size = w.heap.size + 2) (hl : Below w.heap.size w W) (hp : Blk W w.heap.size 90 P3) (hr : Blk W (w.heap.size + 1) 129 #[.slice none 0 0, .slice none 0 0, .slice none 0 0, .slice none 0 0, .int .i64 0]) (h : Rc1 W wr db eb ob sb N N) (ad : W.heap.size ≤ db) (ae : W.heap.size ≤ eb) (ao : W.heap.size ≤ ob) (az : W.heap.size ≤ sb) (hne : db ≠ eb ∧ db ≠ ob ∧ db ≠ sb ∧ eb ≠ ob ∧ eb ≠ sb ∧ ob ≠ sb) :
 RkK w.heap.size w.heap.size (w.heap.size + 1) db eb ob sb wr.heap.size ∧ RcI w ((wr.alloc (.chan N #[] false 0 0 false)).setCell ⟨db, 0, none⟩ (.int .i64 0)) w.heap.size (w.heap.size + 1) db eb ob sb wr.heap.size N P3 ed oc (upd (fun _ => -1) 0 0) [] (fun _ => false) [] 0 none 0 [db, eb, ob, sb, wr.heap.size, w.heap.size + 1] := by
 have l1 := h.d.lt; have l2 := h.e.lt; have l3 := h.o.lt; have l4 := h.s.lt
 have hb : Below wr.heap.size wr (wr.alloc (.chan N #[] false 0 0 false)) := (Below.refl _ _).alloc (Nat.le_refl _) _
 have hW : Below W.heap.size W (wr.alloc (.chan N #[] false 0 0 false)) := h.l.trans (hb.mono h.l.size)
 refine ⟨⟨Nat.le_refl _, by omega, by omega, by omega, by omega, by omega, l1, l2, l3, l4, hne.1, hne.2.1, hne.2.2.1, hne.2.2.2.1, hne.2.2.2.2.1, hne.2.2.2.2.2⟩, ?_⟩
 refine ⟨(hp.below hW hp.lt).far (p := ⟨db, 0, none⟩) (by show w.heap.size ≠ db; omega) _, (hr.below hW hr.lt).far (p := ⟨db, 0, none⟩) (by show w.heap.size + 1 ≠ db; omega) _, (h.s.below hb l4).far (p := ⟨db, 0, none⟩) (Ne.symm hne.2.2.1) _, ?_, ⟨_, (h.e.below hb l2).far (p := ⟨db, 0, none⟩) (Ne.symm hne.1) _, fun b _ => ⟨none, 0, 0, rfl, SlA.nil _ _ _⟩⟩, ⟨_, (h.o.below hb l3).far (p := ⟨db, 0, none⟩) (Ne.symm hne.2.1) _, fun b _ => ⟨none, 0, 0, rfl, SlA.nil _ _ _⟩⟩, (ChanI.new wr N).far (p := ⟨db, 0, none⟩) (by show wr.heap.size ≠ db; omega) _, World.ownsRow_nil _ _ _ _, fun x e => by simp [Value.ownBlock] at e, by simp, (fun x hx => by simp at hx; simp [World.setCell] <;> omega), (hl.trans (hW.mono hl.size)).setCell (p := ⟨db, 0, none⟩) (by show w.heap.size ≤ db; omega) _⟩
 have hd : RowF (wr.alloc (.chan N #[] false 0 0 false)) 3 db N fun b => .int .i64 ((fun _ => -1 : Nat → Int) b) := RowF.congr (h.d.below hb l1) fun b hb => by simp [d1, hb]
 have := hd.set 0 (.int .i64 0)
 rwa [upd_int] at this
def Rl2 (w : World) (rb db eb ob sb ch N : Nat) (P3 : Array Value) (s : List Int) (M : Nat → Nat) (m : Nat) (perm : List Int → Nat → Bool) (goal : List Int → Option Int) (gk : Nat) (v9 : Value) (wr : World) : Prop :=
 ∃ (D : Nat → Int) (Q X : List Nat) (Ex : Nat → Bool) (gs : List Nat) (least dep : Int) (G : Option Addr) (gc : Nat) (av : List Nat), v9 = .int .i64 dep ∧ X.length ≤ N ∧ gk = N - X.length ∧ gs.length ≤ X.length ∧ Hid (Srch (stE (edS perm s M m) nbB) (fun b => goal (sbN s M b m)) N D Q X Ex gs least dep) ∧ Hid (RcI w wr w.heap.size rb db eb ob sb ch N P3 (edS perm s M m) (fun b => opC M (sbN s M b m)) D Q Ex gs least G gc av)
theorem edS_eq (perm : List Int → Nat → Bool) (s : List Int) (M : Nat → Nat) (m b : Nat) : ednL perm (sbN s M b m) M m = edS perm s M m b := rfl
theorem cell_far {W : World} {g h i j : Nat} {v : Value} (hne : g ≠ h) (hc : W.cell? ⟨h, j, none⟩ = some v) (u : Value) : (W.setCell ⟨g, i, none⟩ u).cell? ⟨h, j, none⟩ = some v := (World.cell?_setCell_other W ⟨g, i, none⟩ ⟨h, j, none⟩ u (fun e => hne (by cases e; rfl))).trans hc
theorem frozen_far {W : World} {g h i j : Nat} (hne : g ≠ h) (hc : W.frozen? ⟨h, j, none⟩ = false) (u : Value) : (W.setCell ⟨g, i, none⟩ u).frozen? ⟨h, j, none⟩ = false := (World.frozen?_of_block (Below.heap_setCell W ⟨g, i, none⟩ u h (Ne.symm hne))).trans hc
def Rl3 (w : World) (rb db eb ob sb ch N : Nat) (P3 : Array Value) (s : List Int) (M : Nat → Nat) (m : Nat) (perm : List Int → Nat → Bool) (a : Nat) (D : Nat → Int) (Q : List Nat) (Ex : Nat → Bool) (gs : List Nat) (least : Int) (G : Option Addr) (gc : Nat) (av : List Nat) (A3 : Option Addr) (c3 : Nat) (gk : Nat) (iv : Value) (wr : World) : Prop :=
 ∃ j : Nat, iv = .int .i64 j ∧ j ≤ (edS perm s M m a).length ∧ gk = (edS perm s M m a).length - j ∧ Hid (RcI w wr w.heap.size rb db eb ob sb ch N P3 (edS perm s M m) (fun b => opC M (sbN s M b m)) (pushL nbB a ((edS perm s M m a).take j) (D, Q)).1 (pushL nbB a ((edS perm s M m a).take j) (D, Q)).2 Ex gs least G gc av) ∧ Hid (SlA wr av 1 A3 (edS perm s M m a).length c3 (natsV (edS perm s M m a)))
section
variable {w wr : World} {rb db eb ob sb ch N : Nat} {P3 : Array Value} {s : List Int} {M : Nat → Nat} {m : Nat} {perm : List Int → Nat → Bool} {a : Nat} {D Dj : Nat → Int} {Q Qj : List Nat} {Ex : Nat → Bool} {gs : List Nat} {least : Int} {G : Option Addr} {gc : Nat} {av : List Nat} {A3 : Option Addr} {c3 j t : Nat}
theorem Rl3.no (hlt : j < (edS perm s M m a).length) (hp : pushL nbB a ((edS perm s M m a).take (j + 1)) (D, Q) = if Dj t < 0 then (upd Dj t (Dj a + 1), Qj ++ [t]) else (Dj, Qj)) (hn : ¬ Dj t < 0) (hI : RcI w wr w.heap.size rb db eb ob sb ch N P3 (edS perm s M m) (fun b => opC M (sbN s M b m)) Dj Qj Ex gs least G gc av) (hS : SlA wr av 1 A3 (edS perm s M m a).length c3 (natsV (edS perm s M m a))) : Rl3 w rb db eb ob sb ch N P3 s M m perm a D Q Ex gs least G gc av A3 c3 ((edS perm s M m a).length - (j + 1)) (.int .i64 ((j : Int) + 1)) wr :=
 ⟨j + 1, rfl, hlt, rfl, by rw [hp, if_neg hn]; exact hI, hS⟩
theorem Rl3.yes (hlt : j < (edS perm s M m a).length) (hp : pushL nbB a ((edS perm s M m a).take (j + 1)) (D, Q) = if Dj t < 0 then (upd Dj t (Dj a + 1), Qj ++ [t]) else (Dj, Qj)) (hn : Dj t < 0) (hI : RcI w wr w.heap.size rb db eb ob sb ch N P3 (edS perm s M m) (fun b => opC M (sbN s M b m)) (upd Dj t (Dj a + 1)) (Qj ++ [t]) Ex gs least G gc av) (hS : SlA wr av 1 A3 (edS perm s M m a).length c3 (natsV (edS perm s M m a))) : Rl3 w rb db eb ob sb ch N P3 s M m perm a D Q Ex gs least G gc av A3 c3 ((edS perm s M m a).length - (j + 1)) (.int .i64 ((j : Int) + 1)) wr :=
 ⟨j + 1, rfl, hlt, rfl, by rw [hp, if_pos hn]; exact hI, hS⟩
end
theorem ptreach_any (fp gp : Nat) (lp bg lg : Array Value) (As Am : Option Addr) (n cs m cm : Nat) (s : List Int) (M : Nat → Nat) (perm : List Int → Nat → Bool) (goal : List Int → Option Int) (w : World) (hs : Sl w w.heap.size 1 As n cs (intsV s)) (hm : Sl w w.heap.size 1 Am m cm (intsV (mvL m M))) (hn : n ≤ 64) (hm10 : m ≤ 10) (hM : ∀ i, i < m → M i < n) (hp : PosL s)
 (heP : ∀ (args : Array Value) (W : World), (callFunc fp args).run Tryz.prog W = .ok (.enter fp args) W) (heG : ∀ (args : Array Value) (W : World), (callFunc gp args).run Tryz.prog W = .ok (.enter gp args) W) (hP : PermC w fp lp n m s M perm) (hG : GoalC w gp bg lg n m s M goal) :
 Calls Tryz.prog 77 #[.agg #[.slice As n cs, .slice Am m cm, .func (.func fp) #[] lp], .func (.func gp) bg lg] w (SrPost w (2 ^ m) (edS perm s M m) (fun b => opC M (sbN s M b m)) nbB fun b => goal (sbN s M b m)) := by
 obtain ⟨N, hN⟩ : ∃ N, N = 2 ^ m := ⟨_, rfl⟩
 have hN1 : 1 ≤ N := by rw [hN]; exact Nat.two_pow_pos m
 have hN2 : N ≤ 1024 := by rw [hN]; exact Nat.pow_le_pow_right (n := 2) (by decide) hm10
 have hsh : IntKind.i64.wrap ((2 : Int) ^ m) = (N : Int) := by rw [hN]; have := shl64 hm10; simpa using this
 have HN := Lib.hid hN
 rw [← hN]
 clear hN
 have HLE : Hid (Below w.heap.size w ((w.alloc (.cells #[.slice As n cs, .slice Am m cm, .func (.func fp) #[] lp] 90)).alloc (.cells #[.slice none 0 0, .slice none 0 0, .slice none 0 0, .slice none 0 0, .int .i64 0] 129))) := ((Below.refl _ _).alloc (Nat.le_refl _) _).alloc (by simp) _
 have HBP := Lib.hid ((Blk.new w 90 #[.slice As n cs, .slice Am m cm, .func (.func fp) #[] lp]).alloc (.cells #[.slice none 0 0, .slice none 0 0, .slice none 0 0, .slice none 0 0, .int .i64 0] 129))
 have HBR := Lib.hid (Blk.new (w.alloc (.cells #[.slice As n cs, .slice Am m cm, .func (.func fp) #[] lp] 90)) 129 #[.slice none 0 0, .slice none 0 0, .slice none 0 0, .slice none 0 0, .int .i64 0])
 have HZ : Hid (((w.alloc (.cells #[.slice As n cs, .slice Am m cm, .func (.func fp) #[] lp] 90)).alloc (.cells #[.slice none 0 0, .slice none 0 0, .slice none 0 0, .slice none 0 0, .int .i64 0] 129)).heap.size = w.heap.size + 2) := by unfold Hid; simp
 rw [show (w.alloc (.cells #[.slice As n cs, .slice Am m cm, .func (.func fp) #[] lp] 90)).heap.size = w.heap.size + 1 by simp] at HBR
 have HLN : Hid (∀ b, (sbN s M b m).length = n) := fun b => (sbN_len s M b m).trans (hs.len (fun _ => rfl) (by decide))
 have HS := Lib.hid hs; have HM := Lib.hid hm; have HMM := Lib.hid hM; have HPO := Lib.hid hp; have HP := Lib.hid hP; have HG := Lib.hid hG
 clear hs hm hM hp hP hG
 go_enter Tryz.func77, Tryz.ntmps77
 go_upto_region 1 with (fail)
 generalize World.alloc (World.alloc w _) _ = W at *
 have k1 := HBP.out.c1
 go_upto_region 2 with (fail)
 clear k1 hsh
 refine wp_region_phi (S := fun W' => Below W.heap.size W W') (J := []) (n := _) ((0, true) :: (2, true) :: (4, true) :: []) ((8, false) :: []) (phiG [(1, []), (3, []), (5, []), (6, [1, 3, 5]), (7, [])]) 5 #[true, false, true, false, true, false, false, false, false] #[true, true, true, true, true, true, true, true, false] (by as_aux_lemma => kernel_rfl) (by rfl) (base_cons (k := 5) (by go_simp; rfl) base_nil) ?_ (fun _ _ _ _ _ h => h) (fun Q2 A hsz hbase hn2 hHeld => ?_)
 ·exact (Below.refl _ _).drew
 try dsimp only at hHeld
 obtain ⟨b5, -⟩ := hbase
 refine ⟨Phi A [(1, 22), (3, 24), (5, 26), (6, 27), (7, 6)] [(25, .int .i64 (N : Int)), (23, .int .i64 (N : Int)), (21, .int .i64 (N : Int))] 9 (Below W.heap.size W) (RcG N W.heap.size), ?_, ?_, ?_⟩
 ·refine ord_move (i := 0) (d := 21) (v := ?_) rfl rfl rfl (wanted_none rfl) hHeld (fun ρ hρ => ?_) ?_
  rotate_left
  ·(have e5 := Eq.trans (hρ.tmp hsz 5 rfl) (lkp_base b5); exact e5)
  show wpOrd _ _ _ _ _ _ _ _
  refine ord_move (i := 2) (d := 23) (v := ?_) rfl rfl rfl (wanted_none rfl) hHeld (fun ρ hρ => ?_) ?_
  rotate_left
  ·(have e5 := Eq.trans (hρ.tmp hsz 5 rfl) (miss1 rfl (lkp_base b5)); exact e5)
  show wpOrd _ _ _ _ _ _ _ _
  refine ord_move (i := 4) (d := 25) (v := ?_) rfl rfl rfl (wanted_none rfl) hHeld (fun ρ hρ => ?_) ?_
  rotate_left
  ·(have e5 := Eq.trans (hρ.tmp hsz 5 rfl) (miss1 rfl (miss1 rfl (lkp_base b5))); exact e5)
  show wpOrd _ _ _ _ _ _ _ _
  exact lat_pre (phi_start (l := #[true, false, true, false, true, false, false, false, false]) () (by decide) rfl (Below.refl _ _).drew)
 ·intro l i a w0 hg h
  obtain ⟨vs, γ, hl, rfl, hB, hG⟩ := h
  obtain ⟨hf, ds, hm, hds⟩ := phiG_out hg
  clear hg
  simp only [List.mem_cons, Prod.mk.injEq, List.not_mem_nil, or_false] at hm
  rcases hm with ⟨rfl, rfl⟩ | ⟨rfl, rfl⟩ | ⟨rfl, rfl⟩ | ⟨rfl, rfl⟩ | ⟨rfl, rfl⟩
  ·clear hds
   have hmk := run_mk_f (t := 22) (e := 3) (z := .int .i64 0) (bytes := 8) Tryz.underlying22 (by kernel_rfl) rfl N (by omega) (by decide) w0
   refine lat_run (d := 22) (v := ?_) (w' := ?_) rfl rfl rfl (fun ρ hρ => ?_) ?_
   rotate_left 2
   ·(have e21 := Eq.trans (hρ.tmp hsz 21 rfl) ((slots_miss _ rfl (miss1 rfl (miss1 rfl lkp_hit)))); clear hρ; go_simp; first | with_reducible rfl | (constructor <;> with_reducible rfl))
   exact ⟨fun _ => (hB.alloc hB.size _), phi_step (γ' := γ) (by decide) (by decide) hl (by decide) hf (hB.alloc hB.size _) hG (fun j u _ _ h => h.later ((Below.refl _ _).alloc (Nat.le_refl _) _)) (⟨w0.heap.size, rfl, hB.size, RowF.new _ _ _ _⟩)⟩
  ·clear hds
   have hmk := run_mk_f (t := 107) (e := 22) (z := .slice none 0 0) (bytes := 24) Tryz.underlying107 (by kernel_rfl) rfl N (by omega) (by decide) w0
   refine lat_run (d := 24) (v := ?_) (w' := ?_) rfl rfl rfl (fun ρ hρ => ?_) ?_
   rotate_left 2
   ·(have e23 := Eq.trans (hρ.tmp hsz 23 rfl) ((slots_miss _ rfl (miss1 rfl lkp_hit))); clear hρ; go_simp; first | with_reducible rfl | (constructor <;> with_reducible rfl))
   exact ⟨fun _ => (hB.alloc hB.size _), phi_step (γ' := γ) (by decide) (by decide) hl (by decide) hf (hB.alloc hB.size _) hG (fun j u _ _ h => h.later ((Below.refl _ _).alloc (Nat.le_refl _) _)) (⟨w0.heap.size, rfl, hB.size, RowF.new _ _ _ _⟩)⟩
  ·clear hds
   have hmk := run_mk_f (t := 127) (e := 34) (z := .slice none 0 0) (bytes := 24) Tryz.underlying127 (by kernel_rfl) rfl N (by omega) (by decide) w0
   refine lat_run (d := 26) (v := ?_) (w' := ?_) rfl rfl rfl (fun ρ hρ => ?_) ?_
   rotate_left 2
   ·(have e25 := Eq.trans (hρ.tmp hsz 25 rfl) ((slots_miss _ rfl lkp_hit)); clear hρ; go_simp; first | with_reducible rfl | (constructor <;> with_reducible rfl))
   exact ⟨fun _ => (hB.alloc hB.size _), phi_step (γ' := γ) (by decide) (by decide) hl (by decide) hf (hB.alloc hB.size _) hG (fun j u _ _ h => h.later ((Below.refl _ _).alloc (Nat.le_refl _) _)) (⟨w0.heap.size, rfl, hB.size, RowF.new _ _ _ _⟩)⟩
  ·have f1 : flag l 1 = true := hds 1 (by simp)
   have f3 : flag l 3 = true := hds 3 (by simp)
   have f5 : flag l 5 = true := hds 5 (by simp)
   have G1 := hG 1 f1 (by decide)
   have G3 := hG 3 f3 (by decide)
   have G5 := hG 5 f5 (by decide)
   clear hds
   obtain ⟨x1, h1, a1, r1⟩ := G1
   obtain ⟨x3, h3, a3, r3⟩ := G3
   obtain ⟨x5, h5, a5, r5⟩ := G5
   refine lat_run (d := 27) (v := ?_) (w' := ?_) rfl rfl rfl (fun ρ hρ => ?_) ?_
   rotate_left 2
   ·(have e22 := Eq.trans (hρ.tmp hsz 22 rfl) ((slots_get (i := 1) f1 _ (by decide) (by decide)).trans h1); have e24 := Eq.trans (hρ.tmp hsz 24 rfl) ((slots_get (i := 3) f3 _ (by decide) (by decide)).trans h3); have e26 := Eq.trans (hρ.tmp hsz 26 rfl) ((slots_get (i := 5) f5 _ (by decide) (by decide)).trans h5); clear hρ; go_simp; first | with_reducible rfl | (constructor <;> with_reducible rfl))
   exact ⟨fun _ => (hB), phi_step (γ' := γ) (by decide) (by decide) hl (by decide) hf (hB) hG (fun j u _ _ h => h) (⟨x1, x3, x5, rfl, ⟨a1, a3, a5⟩, r1, r3, r5⟩)⟩
  ·clear hds
   refine lat_run (d := 6) (v := ?_) (w' := ?_) rfl rfl rfl (fun ρ hρ => ?_) ?_
   rotate_left 2
   ·(skip; clear hρ; go_simp; first | with_reducible rfl | (constructor <;> with_reducible rfl))
   exact ⟨fun _ => (hB.alloc hB.size _), phi_step (γ' := γ) (by decide) (by decide) hl (by decide) hf (hB.alloc hB.size _) hG (fun j u _ _ h => h.later ((Below.refl _ _).alloc (Nat.le_refl _) _)) (⟨w0.heap.size, rfl, hB.size, Blk.new _ _ _⟩)⟩
 intro a w0 h
 obtain ⟨vs, γ, -, rfl, hB, hG⟩ := h
 show wpOrd _ _ _ _ _ _ (puts A ((22, vs 1) :: (24, vs 3) :: (26, vs 5) :: (27, vs 6) :: (6, vs 7) :: [(25, .int .i64 (N : Int)), (23, .int .i64 (N : Int)), (21, .int .i64 (N : Int))])) _
 replace hHeld : (fun W' => Below W.heap.size W W') w0 := hB
 obtain ⟨db, eb, ob, h6, ⟨ad, ae, ao⟩, rd, re, ro⟩ := hG 6 rfl (by decide)
 obtain ⟨sb, h7, az, rs⟩ := hG 7 rfl (by decide)
 obtain ⟨v1, hv1⟩ : ∃ v, v = vs 1 := ⟨_, rfl⟩
 obtain ⟨v3, hv3⟩ : ∃ v, v = vs 3 := ⟨_, rfl⟩
 obtain ⟨v5, hv5⟩ : ∃ v, v = vs 5 := ⟨_, rfl⟩
 rw [h6, h7, ← hv1, ← hv3, ← hv5]
 clear h6 h7 hG hv1 hv3 hv5 vs
 have c0 := rs.cell 0
 have c1 := rs.cell 1
 have c2 := rs.cell 2
 have c3 := rs.cell 3
 have c4 := rs.cell 4
 have y0 := rs.frozen 0
 have y1 := rs.frozen 1
 have y2 := rs.frozen 2
 have y3 := rs.frozen 3
 have y4 := rs.frozen 4
 obtain ⟨hne, hr1⟩ := Rc1.made hB az rd re ro rs
 have HR1 := Lib.hid hr1
 clear hB rd re ro rs hr1
 show wpOrd _ _ _ _ _ _ _ _
 refine ord_store (i := 8) (w' := ?_) rfl rfl (wanted_none rfl) (fun ρ hρ => ?_) (fun _ => ?_) ?_
 rotate_left
 ·(have e6 := Eq.trans (hρ.tmp hsz 6 rfl) (miss4 rfl rfl rfl rfl lkp_hit); have e27 := Eq.trans (hρ.tmp hsz 27 rfl) (miss1 rfl (miss1 rfl (miss1 rfl lkp_hit))); clear hρ; go_simp; try with_reducible rfl)
 ·exact HR1.out.l
 show wpOrd _ _ _ _ _ _ _ _
 refine ord_done hn2 ?_
 clear hHeld hn2 b5 hsz A Q2
 simp only [puts_nil, puts_cons, put_lit, set_1, set_0]
 clear c0 c1 c2 c3 c4 y0 y1 y2 y3 y4
 generalize World.setCell (World.setCell (World.setCell (World.setCell (World.setCell w0 _ _) _ _) _ _) _ _) _ _ = W2 at *
 have k0 := HR1.out.s.cell 0
 go_wp2_with fail
 clear k0
 refine wp_loop_u1 [(6, 0), (0, 1), (22, 0), (0, 2), (6, 1), (107, 0)] 31 (N) (Rl1 W db eb ob sb N) (by (try dsimp only [gt]); exact ⟨0, rfl, Nat.zero_le _, rfl, HR1⟩) (by kernel_rfl) ?_
 intro u1 p31 gk wr a hrel ha J1 K1 hJ1 hK1
 dsimp only [relaxR, Go.Proofs.YtfaknfmndafllaaGreatDoor.v1, Nat.reduceAdd] at ha
 subst ha
 clear HR1
 obtain ⟨k, rfl, hk, rfl, hr⟩ := hrel
 have HR := Lib.hid hr.out
 clear hr
 have hnN : N ≤ 9223372036854775807 := by omega
 by_cases hlt : k < N
 ·have q1 : decide (k < N) = true := by simpa using hlt
  have k0 := HR.out.s.cell 0
  have hcell := HR.out.d.at hlt
  have hfz := HR.out.d.frozen k
  have hkk : IntKind.i64.wrap ((k : Int) + 1) = (k : Int) + 1 := IntWalk.i64_in _ (by omega)
  go_wp2_with fail
  refine Handed.intro (N - (k + 1)) (by omega) (hJ1 _ _ _ (LpI1.back 31 ?_ (by kernel_rfl)))
  dsimp only [gt]
  exact ⟨k + 1, by go_num, hlt, rfl, HR.out.set ad ⟨hne.1, hne.2.1, hne.2.2.1⟩⟩
 have q1 : decide (k < N) = false := by simpa using hlt
 obtain rfl : k = N := by omega
 have hmk : (Instr.makeChan 168 (.int .i64 (k : Int))).run Tryz.prog wr = .ok (.chan (some wr.heap.size)) (wr.alloc (.chan k #[] false 0 0 false)) := by
  obtain ⟨i, hi, hz, hs, hb⟩ := info_parts (P := Tryz.prog) (e := 3) (z := .int .i64 0) (size := 1) (bytes := 8) (by kernel_rfl)
  exact run_makeChan (P := Tryz.prog) Tryz.underlying168 hi .i64 k (by omega) (by rw [hb]; omega)
 go_upto_region 9 with (fail)
 clear hmk q1 hlt
 obtain ⟨hk0, hI0⟩ := HR.out.start (P3 := #[.slice As n cs, .slice Am m cm, .func (.func fp) #[] lp]) (edS perm s M m) (fun b => opC M (sbN s M b m)) HZ.out HLE.out HBP.out HBR.out ad ae ao az hne
 have HI0 := Lib.hid hI0
 have HK := Lib.hid hk0
 have c0 : (wr.alloc (.chan k #[] false 0 0 false)).cell? ⟨sb, 0, none⟩ = some (.slice (some ⟨db, 0, none⟩) k k) := (HR.out.s.alloc _).cell 0
 have c1 : (wr.alloc (.chan k #[] false 0 0 false)).cell? ⟨db, 0, none⟩ = some (.int .i64 (d1 k 0)) := (HR.out.d.below ((Below.refl _ _).alloc (Nat.le_refl _) _) HR.out.d.lt).at hN1
 have c2 : (wr.alloc (.chan k #[] false 0 0 false)).frozen? ⟨db, 0, none⟩ = false := (HR.out.d.below ((Below.refl _ _).alloc (Nat.le_refl _) (.chan k #[] false 0 0 false)) HR.out.d.lt).frozen 0
 obtain ⟨ch, hch⟩ : ∃ x, x = wr.heap.size := ⟨_, rfl⟩
 rw [← hch] at HI0 HK ⊢
 clear hI0 hk0 HR hch HBP HBR HZ HLE ad ae ao az hne
 go_upto_region 10 with (fail)
 clear c0 c1 c2
 generalize World.setCell (World.alloc wr _) _ _ = V at *
 refine Rw.region ?_
 show Rw _ _ _ [0, 1] _ _
 refine Rw.val rfl rfl (by rfl) ?_
 obtain ⟨s0, r0, hcx⟩ := HI0.out.c
 refine Rw.send (c := ch) (v := .int .i64 0) (z' := .tuple #[]) (w1 := V) rfl rfl (by rfl) hcx hN1 ?_
 refine Rw.done ?_
 have HI := Lib.hid (HI0.out.chan HK.out (Q' := [0]) (s := s0 + 1) (r := r0) (buf := (intsV (([] : List Nat).map fun b : Nat => (b : Int))).toArray.push (.int .i64 0)) (by rfl))
 clear HI0 hcx
 generalize World.setChan V _ _ _ _ _ _ _ = V2 at *
 go_wp2_with fail
 refine wp_loop_u1 [(8, 0), (0, 2), (3, 1), (0, 0), (1, 1), (27, 0), (100, 1), (0, 0)] 9 (k) (Rl2 w (w.heap.size + 1) db eb ob sb ch k #[.slice As n cs, .slice Am m cm, .func (.func fp) #[] lp] s M m perm goal) (by (try dsimp only [gt]); exact ⟨_, [0], [], _, [], 0, -1, none, 0, _, rfl, Nat.zero_le _, rfl, Nat.le_refl _, Srch.start hN1, HI⟩) (by kernel_rfl) ?_
 intro u1 p9 gk wr a hrel ha J1 K1 hJ1 hK1
 dsimp only [relaxR, Go.Proofs.YtfaknfmndafllaaGreatDoor.v1, Nat.reduceAdd] at ha
 subst ha
 clear HI
 obtain ⟨D, Q, X, Ex, gs, least, dep, G, gc, av, rfl, hX, rfl, hgs, hS, hI⟩ := hrel
 have HSR := Lib.hid hS.out; have HI := Lib.hid hI.out
 clear hS hI
 have hlen := fun ty => run_len_ch (P := Tryz.prog) ty Tryz.underlying168 HI.out.c
 simp only [List.length_map] at hlen
 cases Q with
 | nil =>
  simp only [List.length_nil] at hlen
  have c0 := HI.out.s.cell 0; have c1 := HI.out.s.cell 1; have c2 := HI.out.s.cell 2; have c3 := HI.out.s.cell 3; have c4 := HI.out.s.cell 4
  have d0 := HI.out.r.cell 0; have d1 := HI.out.r.cell 1; have d2 := HI.out.r.cell 2; have d3 := HI.out.r.cell 3; have d4 := HI.out.r.cell 4
  have y0 := HI.out.r.frozen 0; have y1 := HI.out.r.frozen 1; have y2 := HI.out.r.frozen 2; have y3 := HI.out.r.frozen 3; have y4 := HI.out.r.frozen 4
  have HB5 := Lib.hid (((((HI.out.r.set 0 (.slice (some ⟨db, 0, none⟩) k k)).set 1 (.slice (some ⟨eb, 0, none⟩) k k)).set 2 (.slice (some ⟨ob, 0, none⟩) k k)).set 3 (.slice G gs.length gc)).set 4 (.int .i64 least))
  have HF := Lib.hid (HI.out.fin HK.out (.slice (some ⟨db, 0, none⟩) k k) (.slice (some ⟨eb, 0, none⟩) k k) (.slice (some ⟨ob, 0, none⟩) k k) (.slice G gs.length gc) (.int .i64 least))
  go_wp2_with fail
  generalize World.setCell (World.setCell (World.setCell (World.setCell (World.setCell _ _ _) _ _) _ _) _ _) _ _ = z at *
  have q0 := HB5.out.cell 0; have q1 := HB5.out.cell 1; have q2 := HB5.out.cell 2; have q3 := HB5.out.cell 3; have q4 := HB5.out.cell 4
  exact bodyPost_ret (v := .agg #[.slice (some ⟨db, 0, none⟩) k k, .slice (some ⟨eb, 0, none⟩) k k, .slice (some ⟨ob, 0, none⟩) k k, .slice G gs.length gc, .int .i64 least]) (by simp [results, Tryz.results77, go_sem, q0, q1, q2, q3, q4]) rfl ⟨db, eb, ob, gc, D, Ex, gs, least, G, rfl, HF.out.1, (by rcases Int.lt_or_le dep 0 with hd | hd; (· exact .inl (HSR.out.no hd)); (· exact .inr ⟨_, _, HSR.out.done hd (fun a Q' e => by cases e)⟩)), ⟨HSR.out.rng, Nat.le_trans hgs hX, HSR.out.goalsX⟩, HF.out.2⟩
 | cons a Q =>
  simp only [List.length_cons] at hlen
  obtain ⟨kx, Ex0, hbf⟩ := HSR.out.bf
  have hak : a < k := hbf.lt a (by simp)
  have hle := hbf.le
  have hXk : X.length + 1 ≤ k := by simp at hle <;> omega
  clear hbf hle
  have q1 : decide (0 < (((Q.length + 1 : Nat) : Int))) = true := by simp <;> omega
  go_upto_region 13 with (fail)
  clear hlen q1
  refine Rw.region ?_
  show Rw _ _ _ [0, 1, 2] _ _
  refine Rw.val rfl rfl (by rfl) ?_
  obtain ⟨s0, r0, hcx⟩ := HI.out.c
  refine Rw.recv (c := ch) (z := .int .i64 0) (v := .int .i64 (a : Int)) (buf' := (intsV (Q.map fun b : Nat => (b : Int))).toArray) (w1 := wr) rfl rfl (by kernel_rfl) hcx (by simp [intsV]) (by simp [intsV]) (by simp [intsV_map]; exact List.take_of_length_le (by simp)) ?_
  refine Rw.val rfl rfl (by rfl) ?_
  refine Rw.done ?_
  have HI1 := Lib.hid (HI.out.chan HK.out (Q' := Q) (s := s0) (r := r0 + 1) rfl)
  clear HI hcx
  generalize World.setChan wr _ _ _ _ _ _ _ = W1 at *
  have hnN : k ≤ 9223372036854775807 := by omega
  have hcase : dep < 0 ∨ (0 ≤ dep ∧ D a ≤ dep) ∨ 0 ≤ dep ∧ dep < D a := by omega
  have c0 := HI1.out.s.cell 0
  have cd := HI1.out.d.at hak
  rcases hcase with hda | ⟨hda, hdb⟩ | ⟨hda, hdb⟩
  rotate_left 2
  ·have q1 : decide (0 ≤ dep) = true := by simpa using hda
   have q2 : decide (dep < D a) = true := by simpa using hdb
   clear c0 cd
   have c0 := HI1.out.s.cell 0
   have cd := HI1.out.d.at hak
   go_upto_region 33 with (fail)
   clear c0 cd q1 q2
   have c0 := HI1.out.s.cell 0; have c1 := HI1.out.s.cell 1; have c2 := HI1.out.s.cell 2; have c3 := HI1.out.s.cell 3; have c4 := HI1.out.s.cell 4
   have d0 := HI1.out.r.cell 0; have d1 := HI1.out.r.cell 1; have d2 := HI1.out.r.cell 2; have d3 := HI1.out.r.cell 3; have d4 := HI1.out.r.cell 4
   have y0 := HI1.out.r.frozen 0; have y1 := HI1.out.r.frozen 1; have y2 := HI1.out.r.frozen 2; have y3 := HI1.out.r.frozen 3; have y4 := HI1.out.r.frozen 4
   have HB5 := Lib.hid (((((HI1.out.r.set 0 (.slice (some ⟨db, 0, none⟩) k k)).set 1 (.slice (some ⟨eb, 0, none⟩) k k)).set 2 (.slice (some ⟨ob, 0, none⟩) k k)).set 3 (.slice G gs.length gc)).set 4 (.int .i64 least))
   have HF := Lib.hid (HI1.out.fin HK.out (.slice (some ⟨db, 0, none⟩) k k) (.slice (some ⟨eb, 0, none⟩) k k) (.slice (some ⟨ob, 0, none⟩) k k) (.slice G gs.length gc) (.int .i64 least))
   go_wp2_with fail
   generalize World.setCell (World.setCell (World.setCell (World.setCell (World.setCell _ _ _) _ _) _ _) _ _) _ _ = z at *
   have q0 := HB5.out.cell 0; have q1 := HB5.out.cell 1; have q2 := HB5.out.cell 2; have q3 := HB5.out.cell 3; have q4 := HB5.out.cell 4
   exact bodyPost_ret (v := .agg #[.slice (some ⟨db, 0, none⟩) k k, .slice (some ⟨eb, 0, none⟩) k k, .slice (some ⟨ob, 0, none⟩) k k, .slice G gs.length gc, .int .i64 least]) (by simp [results, Tryz.results77, go_sem, q0, q1, q2, q3, q4]) rfl ⟨db, eb, ob, gc, D, Ex, gs, least, G, rfl, HF.out.1, (.inr ⟨_, _, HSR.out.done hda (fun a' Q' e => by injection e with e1 e2; rw [← e1]; exact hdb)⟩), ⟨HSR.out.rng, Nat.le_trans hgs hX, HSR.out.goalsX⟩, HF.out.2⟩
  have q1 : decide (0 ≤ dep) = false := by simpa using hda
  have ha : dep < 0 ∨ D a ≤ dep := .inl hda
  go_upto_region 15 with (fail)
  clear q1
  have q3 : decide (dep < 0) = true := by simpa using hda
  rotate_left
  have q1 : decide (0 ≤ dep) = true := by simpa using hda
  have q2 : decide (dep < D a) = false := by simpa using hdb
  have ha : dep < 0 ∨ D a ≤ dep := .inr hdb
  go_upto_region 15 with (fail)
  clear q1 q2 hdb
  have q3 : decide (dep < 0) = false := by simpa using hda
  rotate_left
  all_goals
   clear c0 cd
   have p0 := HI1.out.p.cell 0; have p1 := HI1.out.p.cell 1; have p2 := HI1.out.p.cell 2
   have HC := Lib.hid (ptstate_any As Am n cs m cm s M (.func (.func fp) #[] lp) a W1 ((HS.out.below HI1.out.l (Nat.le_refl _)).more HI1.out.l.size) ((HM.out.below HI1.out.l (Nat.le_refl _)).more HI1.out.l.size) hn hm10 HMM.out (by omega) HPO.out)
   go_wp2_with fail
   refine HC.out.mono ?_
   rintro e w2 ⟨A1, c1, rfl, hO, hb2⟩
   rw [HLN.out a] at hO ⊢
   have HO := Lib.hid hO.out
   have HI2 := Lib.hid (HI1.out.later hb2.out)
   clear HC p0 p1 p2 hO hb2 HI1
   have HC := Lib.hid (HG.out w2 A1 c1 a HI2.out.l (Sl.of_own HO.out) (by rw [← HN.out]; exact hak))
   go_wp2_with fail
   refine HC.out.mono ?_
   rintro e w3 ⟨⟨x, ok, rfl, hgo⟩, hb3⟩
   have HI3 := Lib.hid (HI2.out.later hb3)
   have HO3 := Lib.hid ((Sl.of_own HO.out).below hb3 (Nat.le_refl _) |>.more hb3.size)
   clear HC hb3 HI2 HO
   have HDA := Lib.hid (HSR.out.rng a)
   have HXK : Hid (X.length + 1 ≤ k) := hXk
   have hgk : gs.length ≤ 1024 := by omega
   cases ok with
   | true =>
    have hgs1 : (fun b => goal (sbN s M b m)) a = some x := hgo
    have HIT := Lib.hid (HSR.out.hit ha hgs1)
    have HDP : Hid (0 ≤ D a) := by obtain ⟨k1, E1, h1⟩ := HSR.out.bf; exact (h1.mem a).1 (by simp)
    have qd : decide (0 ≤ D a) = true := by simpa using HDP.out
    have hchl := HI3.out.c.lt
    clear hgs1 hgo ha HSR
    by_cases hl : dep < 0 ∨ x < least
    ·try have q4 : decide (x < least) = true := by simpa using (hl.resolve_left (by omega))
     have c4 := HI3.out.s.cell 4
     go_upto_region 19 with (fail)
     clear c4
     have c3 := HI3.out.s.cell 3; have c4 := HI3.out.s.cell 4; have y3 := HI3.out.s.frozen 3; have y4 := HI3.out.s.frozen 4
     have HI4 := Lib.hid (HI3.out.reset HK.out x)
     go_upto_region 20 with (fail)
     clear c3 c4 y3 y4 HI3
     generalize World.setCell (World.setCell w3 _ _) _ _ = W4 at *
     have c0 := HI4.out.s.cell 0; have cd := HI4.out.d.at hak; have c3 := HI4.out.s.cell 3; have c4 := HI4.out.s.cell 4
     have hchl := HI4.out.c.lt
     go_upto_region 23 with (at_builtin; go_must (refine wpList_app rfl (.tmp 92) (.tmp 94) rfl el_int (by rfl) (HI4.out.g.alloc _) (by rfl) (Sl.newest (n := 1) rfl rfl (by decide)) (by simp [Value.oneCell']) (by simp) (by simp) (by simp; omega) ?_; intro A5 c5 w5 hown5 hgr5 hat5; have HV := Lib.hid (HI4.out.later ((Below.refl _ _).alloc (Nat.le_refl _) (.cells #[.int .i64 (a : Int)] 3))); have s3 := (HV.out.sgrow HK.out hgr5).cell 3; have z3 := (HV.out.sgrow HK.out hgr5).frozen 3; obtain ⟨av5, hI5⟩ := HV.out.goal HK.out hown5 hgr5 hat5; have HI5 := Lib.hid hI5; clear hI5 hown5 hgr5 hat5 HV))
     clear s3 z3 c0 cd c3 c4
     generalize World.setCell w5 _ _ = W6 at *
     go_wp2_with fail
     refine Handed.intro (k - (X.length + 1)) (by omega) (hJ1 _ _ _ (LpI1.back 9 ?_ (by kernel_rfl)))
     dsimp only [gt]
     exact ⟨D, Q, a :: X, Ex, [a], x, D a, _, _, _, rfl, HXK.out, rfl, by simp, HIT.out.1 hl, HI5⟩
    ·by_cases hA : dep < 0
     ·exact absurd (Or.inl hA) hl
     try (exfalso; omega)
     all_goals
      have q4 : decide (x < least) = false := by simpa using (fun h => hl (.inr h))
      have c4 := HI3.out.s.cell 4; have c0 := HI3.out.s.cell 0; have cd := HI3.out.d.at hak
      by_cases he : x = least
      ·have q5 : (x == least) = true := by simpa using he
       have HE := Lib.hid he
       clear he
       have c3 := HI3.out.s.cell 3
       go_upto_region 23 with (at_builtin; go_must (refine wpList_app rfl (.tmp 92) (.tmp 94) rfl el_int (by rfl) (HI3.out.g.alloc _) (by rfl) (Sl.newest (n := 1) rfl rfl (by decide)) (by simp [Value.oneCell']) (by omega) (by omega) (by simp; omega) ?_; intro A5 c5 w5 hown5 hgr5 hat5; have HV := Lib.hid (HI3.out.later ((Below.refl _ _).alloc (Nat.le_refl _) (.cells #[.int .i64 (a : Int)] 3))); have s3 := (HV.out.sgrow HK.out hgr5).cell 3; have z3 := (HV.out.sgrow HK.out hgr5).frozen 3; obtain ⟨av5, hI5⟩ := HV.out.goal HK.out hown5 hgr5 hat5; have HI5 := Lib.hid hI5; clear hI5 hown5 hgr5 hat5 HV))
       clear s3 z3 c0 cd c3 c4
       generalize World.setCell w5 _ _ = W6 at *
       go_wp2_with fail
       refine Handed.intro (k - (X.length + 1)) (by omega) (hJ1 _ _ _ (LpI1.back 9 ?_ (by kernel_rfl)))
       dsimp only [gt]
       exact ⟨D, Q, a :: X, Ex, gs ++ [a], least, D a, _, _, _, rfl, HXK.out, rfl, by simp; omega, HIT.out.2.1 hl HE.out, HI5⟩
      ·have q5 : (x == least) = false := by simpa using he
       go_wp2_with fail
       refine Handed.intro (k - (X.length + 1)) (by omega) (hJ1 _ _ _ (LpI1.back 9 ?_ (by kernel_rfl)))
       dsimp only [gt]
       exact ⟨D, Q, a :: X, Ex, gs, least, D a, _, _, _, rfl, HXK.out, rfl, by simp; omega, HIT.out.2.2 hl he, HI3⟩
   | false =>
    have hgn : (fun b => goal (sbN s M b m)) a = none := hgo
    by_cases hA : dep < 0; rotate_left
    ·try (exfalso; omega)
     all_goals
      have q6 : decide (0 ≤ dep) = true := by simp <;> omega
      have HPS := Lib.hid (HSR.out.pass (by omega) (ha.resolve_left hA) hgn)
      clear hgo hgn
      go_wp2_with fail
      refine Handed.intro (k - (X.length + 1)) (by omega) (hJ1 _ _ _ (LpI1.back 9 ?_ (by kernel_rfl)))
      dsimp only [gt]
      exact ⟨D, Q, a :: X, Ex, gs, least, dep, _, _, _, rfl, HXK.out, rfl, by simp; omega, HPS.out, HI3⟩
    try (exfalso; omega)
    all_goals
     have q6 : decide (0 ≤ dep) = false := by simp <;> omega
     have hnb : ∀ i ∈ edS perm s M m a, nbB a i < k := fun i hi => by rw [HN.out]; exact nbB_lt (by rw [← HN.out]; exact hak) (edS_mem.1 hi).1
     have HNB := Lib.hid hnb
     have HLK := Lib.hid (HSR.out.look hnb hA hgn)
     have HDU : Hid (∀ l : List Nat, (∀ i ∈ l, i ∈ edS perm s M m a) → ∃ E, Bf (stE (edS perm s M m) nbB) (fun b => goal (sbN s M b m)) k (pushL nbB a l (D, Q)).1 (pushL nbB a l (D, Q)).2 (a :: X) (D a).toNat E ∧ (pushL nbB a l (D, Q)).1 a = D a ∧ 0 ≤ D a) := fun l hl => HSR.out.during hnb hl
     have HCN := Lib.hid (ptnext_any fp lp As Am A1 n cs m cm n c1 (sbN s M a m) M perm w3.drew ((HM.out.below HI3.out.l (Nat.le_refl _)).more HI3.out.l.size) HO3.out hn hm10 HMM.out (HPO.out.sbN M a m) heP (fun W i hb hi => HP.out W A1 c1 a i (HI3.out.l.drew.trans (hb.mono HI3.out.l.size)) ((HO3.out.drew.below hb (Nat.le_refl _)).more hb.size) (by rw [← HN.out]; exact hak) hi))
     have HD3 := Lib.hid (HI3.out.later (Below.refl w3.heap.size w3).drew)
     clear hnb hgo hgn HSR HO3 HI3 ha
     go_upto_region 24 with (fail)
     clear q6
     refine wp_region_J (S := fun W' => Blk W' sb 129 #[.slice (some ⟨db, 0, none⟩) k k, .slice (some ⟨eb, 0, none⟩) k k, .slice (some ⟨ob, 0, none⟩) k k, .slice G gs.length gc, .int .i64 least] ∧ Blk W' w.heap.size 90 #[.slice As n cs, .slice Am m cm, .func (.func fp) #[] lp]) (J := [15]) (by kernel_rfl) ?_ (fun hHeld => ?_)
     ·exact ⟨HD3.out.s, HD3.out.p⟩
     try dsimp only at hHeld
     refine tk 0 100 (mf 16 1) hHeld ?_
     refine wpAnyJ_takeL (i := 1) (d := some 101) (v := ?_) (mf 16 2) (by kernel_rfl) rfl rfl (by kernel_rfl) (by kernel_rfl) (by kernel_rfl) (by kernel_rfl) (by kernel_rfl) (fun _ _ _ h => h) (Or.inl ⟨by rfl, ?_⟩) hHeld ?_
     rotate_left
     ·(intro w hSw; (try dsimp only at hSw); have c1 := hSw.1.cell 1; go_simp; try with_reducible rfl)
     try simp only [Act.put, sA, sB, sC]
     refine tk 2 102 (mf 16 3) hHeld ?_
     refine tk 3 103 (mf 16 4) hHeld ?_
     refine wpAnyJ_takeL (i := 4) (d := some 104) (v := ?_) (mf 16 5) (by kernel_rfl) rfl rfl (by kernel_rfl) (by kernel_rfl) (by kernel_rfl) (by kernel_rfl) (by kernel_rfl) (fun _ _ _ h => h) (Or.inl ⟨by rfl, ?_⟩) hHeld ?_
     rotate_left
     ·(intro w hSw; (try dsimp only at hSw); have c2 := hSw.1.cell 2; go_simp; try with_reducible rfl)
     try simp only [Act.put, sA, sB, sC]
     refine tk 5 105 (mf 16 6) hHeld ?_
     refine wpAnyJ_takeL (i := 6) (d := some 106) (v := ?_) (mf 16 7) (by kernel_rfl) rfl rfl (by kernel_rfl) (by kernel_rfl) (by kernel_rfl) (by kernel_rfl) (by kernel_rfl) (fun _ _ _ h => h) (Or.inl ⟨by rfl, ?_⟩) hHeld ?_
     rotate_left
     ·(intro w hSw; (try dsimp only at hSw); have p0 := hSw.2.cell 0; have p1 := hSw.2.cell 1; have p2 := hSw.2.cell 2; go_simp; try with_reducible rfl)
     try simp only [Act.put, sA, sB, sC]
     refine tk 7 107 (mf 16 8) hHeld ?_
     refine wpAnyJ_oneL (k := 8) (mf 16 9) (by kernel_rfl) (by kernel_rfl) rfl (fun K hK => ?_)
     (go_simp; refine HCN.out.mono ?_; rintro e w4 ⟨B1, B2, d1, d2, rfl, hT⟩; rw [edS_eq] at hT ⊢; have HT := Lib.hid hT.out; have HI4 := Lib.hid (HD3.out.later HT.out.2.2); clear hT HCN; go_simp)
     refine hK.out _ _ (fun _ => ?_) (fun hHeld' => ?_)
     ·exact ⟨HI4.out.s, HI4.out.p⟩
     replace hHeld := hHeld' rfl
     clear hHeld' hK K
     try dsimp only at hHeld
     refine tk 9 99 (mf 16 10) hHeld ?_
     refine tk 10 109 (mf 16 11) hHeld ?_
     refine tk 11 110 (mf 16 12) hHeld ?_
     refine tk 12 111 (mf 16 13) hHeld ?_
     refine wpAnyJ_oneL (k := 13) (mf 16 14) (by kernel_rfl) (by kernel_rfl) rfl (fun K hK => ?_)
     (have y0 := HI4.out.e.frozen a; obtain ⟨Ax, nx, cx, x0, -⟩ := HI4.out.e.at hak; go_simp; clear x0 y0)
     refine hK.out _ _ (fun _ => ?_) (fun hHeld' => ?_)
     ·exact ⟨HI4.out.s.far (p := ⟨eb, a, none⟩) (Ne.symm HK.out.es) _, HI4.out.p.far (p := ⟨eb, a, none⟩) (by have h1 := HK.out.r; have h2 := HK.out.e; show w.heap.size ≠ eb; omega) _⟩
     replace hHeld := hHeld' rfl
     clear hHeld' hK K
     try dsimp only at hHeld
     refine tk 14 112 (mf 16 15) hHeld ?_
     refine wpAnyJ_oneL (k := 15) (mf 16 16) (by kernel_rfl) (by kernel_rfl) rfl (fun K hK => ?_)
     (have y0 := (frozen_far HK.out.eo (HI4.out.o.frozen a) (.slice B1 (edS perm s M m a).length d1) : (w4.setCell ⟨eb, a, none⟩ (.slice B1 (edS perm s M m a).length d1)).frozen? ⟨ob, a, none⟩ = false); obtain ⟨Ax, nx, cx, x0, -⟩ := HI4.out.o.at hak; have x1 := (cell_far HK.out.eo x0 (.slice B1 (edS perm s M m a).length d1) : (w4.setCell ⟨eb, a, none⟩ (.slice B1 (edS perm s M m a).length d1)).cell? ⟨ob, a, none⟩ = _); go_simp; clear x0 x1 y0)
     refine hK.out _ _ (fun h => by cases h) (fun _ => ?_)
     try clear hHeld
     clear hK K
     refine wpAnyJ_done (by kernel_rfl) ?_ _
     have HI5 := Lib.hid (HI4.out.setE HK.out (SlA.of_own HT.out.1 (fun g hg => HD3.out.avl g hg)) (SlA.of_own HT.out.2.1 (fun g hg => HD3.out.avl g hg)))
     clear HT HI4 HD3
     try clear hHeld
     generalize World.setCell (World.setCell w4 _ _) _ _ = W5 at *
     obtain ⟨A3, n3, c3', hce, hsl⟩ := HI5.out.e.at hak
     have hed : edX (upd Ex a true) (edS perm s M m) a = edS perm s M m a := by rw [edX_upd, upd_same]
     rw [hed] at hsl
     have HSL := Lib.hid hsl
     have hn3 : (edS perm s M m a).length = n3 := by have := hsl.1.1; rw [natsV_len, Nat.mul_one] at this; exact this
     subst hn3
     have c1' := HI5.out.s.cell 1
     have hedl := edS_len perm s M m a
     clear hsl hed
     have hea : a < k := hak
     go_wp2_with fail
     clear c1' hce
     refine wp_loop_u1 [(14, 0), (1, 1), (101, 0), (0, 2), (25, 1), (0, 0)] 119 ((edS perm s M m a).length) (Rl3 w (w.heap.size + 1) db eb ob sb ch k #[.slice As n cs, .slice Am m cm, .func (.func fp) #[] lp] s M m perm a D Q (upd Ex a true) gs least G gc av A3 c3') (by (try dsimp only [gt]); exact ⟨0, rfl, Nat.zero_le _, rfl, HI5, HSL⟩) (by kernel_rfl) ?_
     intro u2 p119 gk2 wx a hrel ha J2 K2 hJ2 hK2
     dsimp only [relaxR, Go.Proofs.YtfaknfmndafllaaGreatDoor.v1, Nat.reduceAdd] at ha
     subst ha
     clear HI5 HSL
     obtain ⟨j, rfl, hj, rfl, hI, hSl⟩ := hrel
     have HIJ := Lib.hid hI.out; have HSL := Lib.hid hSl.out
     clear hI hSl
     by_cases hlt : j < (edS perm s M m a).length; rotate_left
     ·have q1 : decide (j < (edS perm s M m a).length) = false := by simpa using hlt
      obtain rfl : j = (edS perm s M m a).length := by omega
      have HIK := HIJ.out
      rw [List.take_length] at HIK
      have HIK2 := Lib.hid HIK
      clear HIK HIJ HSL HDU
      go_wp2_with fail
      refine Handed.intro (k - (X.length + 1)) (by omega) (hJ1 _ _ _ (LpI1.back 9 ?_ (by kernel_rfl)))
      dsimp only [gt]
      exact ⟨_, _, a :: X, _, gs, least, dep, _, _, _, rfl, HXK.out, rfl, by simp; omega, HLK.out, HIK2⟩
     have q1 : decide (j < (edS perm s M m a).length) = true := by simpa using hlt
     obtain ⟨b2, o2, i, rfl, hb2, hi2, hc2⟩ := (show Sl wx wx.heap.size 1 A3 (edS perm s M m a).length c3' ((edS perm s M m a).flatMap fun i : Nat => [Value.int .i64 (i : Int)]) from HSL.out.1).at1 hlt
     have hil : i ∈ edS perm s M m a := List.mem_of_getElem? hi2
     have him : i < m := (edS_mem.1 hil).1
     have htk := pushL_take nbB a (edS perm s M m a) (D, Q) hi2
     have hnt := HNB.out i hil
     obtain ⟨x, hx⟩ : ∃ x, x = 2 ^ i := ⟨_, rfl⟩
     have hx10 : x < 1024 := by rw [hx]; exact (Nat.pow_lt_pow_right (by decide) (by omega) : 2 ^ i < 2 ^ 10)
     have hshl : IntKind.i64.wrap ((2 : Int) ^ i) = (x : Int) := by rw [hx]; have := shl64 (i := i) (by omega); simpa using this
     have hxor : bits .xor .i64 (a : Int) (x : Int) = (nbB a i : Int) := by rw [xor64 (by omega) hx10, hx]; rfl
     obtain ⟨Ej, hEj, hDa, hD0⟩ := HDU.out ((edS perm s M m a).take j) (fun i hi => List.mem_of_mem_take hi)
     have hjl := hEj.le
     have hlen := hEj.len a
     obtain ⟨Dj, hDj⟩ : ∃ f, f = (pushL nbB a ((edS perm s M m a).take j) (D, Q)).1 := ⟨_, rfl⟩
     obtain ⟨Qj, hQj⟩ : ∃ f, f = (pushL nbB a ((edS perm s M m a).take j) (D, Q)).2 := ⟨_, rfl⟩
     rw [← hDj] at HIJ hDa hlen
     rw [← hQj] at HIJ
     obtain ⟨t, ht⟩ : ∃ t, t = nbB a i := ⟨_, rfl⟩
     rw [← ht] at hxor hnt
     have htN : t < k := hnt
     have hpu : pushL nbB a ((edS perm s M m a).take (j + 1)) (D, Q) = if Dj t < 0 then (upd Dj t (Dj a + 1), Qj ++ [t]) else (Dj, Qj) := by
      rw [htk, ht, hDj, hQj]; unfold push1; split <;> rfl
     have HPU := Lib.hid hpu
     have hroom : Dj t < 0 → Qj.length < k := fun hneg => by
      obtain ⟨E2, hE2, -, -⟩ := HDU.out ((edS perm s M m a).take (j + 1)) (fun i hi => List.mem_of_mem_take hi)
      have := hE2.le
      rw [hpu, if_pos hneg] at this
      simp at this
      omega
     have hwa : IntKind.i64.wrap (Dj a + 1) = Dj a + 1 := IntWalk.i64_in _ (by simp at hlen; omega)
     have hkk : IntKind.i64.wrap ((j : Int) + 1) = (j : Int) + 1 := IntWalk.i64_in _ (by omega)
     have HSL2 := HSL
     have hnn3 : (edS perm s M m a).length ≤ 9223372036854775807 := by omega
     clear hx hi2 hil htk hnt hEj hjl hlen hDj hQj ht hpu hDa HSL
     have HHI : Hid (x < 1024) := hx10
     clear hx10
     have c0 := HIJ.out.s.cell 0
     have cd := HIJ.out.d.at htN
     by_cases hneg : Dj t < 0; rotate_left
     ·have q2 : decide (Dj t < 0) = false := by simpa using hneg
      go_wp2_with fail
      refine Handed.intro ((edS perm s M m a).length - (j + 1)) (by omega) (hJ2 _ _ _ (LpI1.back 119 ?_ (by kernel_rfl)))
      dsimp only [gt]
      exact Rl3.no hlt HPU.out (by omega) HIJ.out HSL2.out
     have q2 : decide (Dj t < 0) = true := by simpa using hneg
     have HRM := Lib.hid (hroom hneg)
     clear hroom
     go_upto_region 30 with (fail)
     clear c0 cd q2 hc2 hshl hxor q1
     refine wp_region_J (S := fun W' => Blk W' sb 129 #[.slice (some ⟨db, 0, none⟩) k k, .slice (some ⟨eb, 0, none⟩) k k, .slice (some ⟨ob, 0, none⟩) k k, .slice G gs.length gc, .int .i64 least] ∧ RowF W' 3 db k fun b => .int .i64 (Dj b)) (J := [10]) (by kernel_rfl) ?_ (fun hHeld => ?_)
     ·exact ⟨HIJ.out.s, HIJ.out.d⟩
     try dsimp only at hHeld
     refine tk 0 133 (mf 11 1) hHeld ?_
     refine wpAnyJ_takeL (i := 1) (d := some 134) (v := ?_) (mf 11 2) (by kernel_rfl) rfl rfl (by kernel_rfl) (by kernel_rfl) (by kernel_rfl) (by kernel_rfl) (by kernel_rfl) (fun _ _ _ h => h) (Or.inl ⟨by rfl, ?_⟩) hHeld ?_
     rotate_left
     ·(intro w hSw; (try dsimp only at hSw); have c0 := hSw.1.cell 0; go_simp; try with_reducible rfl)
     try simp only [Act.put, sA, sB, sC]
     refine tk 2 135 (mf 11 3) hHeld ?_
     refine tk 3 136 (mf 11 4) hHeld ?_
     refine wpAnyJ_takeL (i := 4) (d := some 137) (v := ?_) (mf 11 5) (by kernel_rfl) rfl rfl (by kernel_rfl) (by kernel_rfl) (by kernel_rfl) (by kernel_rfl) (by kernel_rfl) (fun _ _ _ h => h) (Or.inl ⟨by rfl, ?_⟩) hHeld ?_
     rotate_left
     ·(intro w hSw; (try dsimp only at hSw); have c0 := hSw.1.cell 0; go_simp; try with_reducible rfl)
     try simp only [Act.put, sA, sB, sC]
     refine tk 5 138 (mf 11 6) hHeld ?_
     refine tk 6 139 (mf 11 7) hHeld ?_
     refine wpAnyJ_takeL (i := 7) (d := some 140) (v := ?_) (mf 11 8) (by kernel_rfl) rfl rfl (by kernel_rfl) (by kernel_rfl) (by kernel_rfl) (by kernel_rfl) (by kernel_rfl) (fun _ _ _ h => h) (Or.inl ⟨by rfl, ?_⟩) hHeld ?_
     rotate_left
     ·(intro w hSw; (try dsimp only at hSw); have cd := hSw.2.at hak; go_simp; try with_reducible rfl)
     try simp only [Act.put, sA, sB, sC]
     refine tk 8 141 (mf 11 9) hHeld ?_
     refine tk 9 142 (mf 11 10) hHeld ?_
     refine wpAnyJ_oneL (k := 10) (mf 11 11) (by kernel_rfl) (by kernel_rfl) rfl (fun K hK => ?_)
     (have y0 := HIJ.out.d.frozen t; have x0 := HIJ.out.d.at htN; go_simp; clear x0 y0)
     refine hK.out _ _ (fun h => by cases h) (fun _ => ?_)
     try clear hHeld
     clear hK K
     refine wpAnyJ_done (by kernel_rfl) ?_ _
     have HI6 := Lib.hid ((HIJ.out.setD HK.out t (Dj a + 1)).later (Below.refl _ _).drew)
     have HS6 := Lib.hid ((HSL2.out.cell (p := ⟨db, t, none⟩) HIJ.out.inA.1 (.int .i64 (Dj a + 1))).later (Below.refl _ _).drew)
     have HCV := Lib.hid HIJ.out.inA.2.2.2.2.1
     clear HIJ HSL2
     try clear hHeld
     go_upto_region 31 with (fail)
     generalize World.drew (World.setCell _ ⟨db, t, none⟩ _) = W6 at *
     refine Rw.region ?_
     show Rw _ _ _ [0, 1, 2] _ _
     refine Rw.val rfl rfl (by rfl) ?_
     refine Rw.val rfl rfl (by rfl) ?_
     obtain ⟨s1, r1, hcx⟩ := HI6.out.c
     refine Rw.send (c := ch) (v := .int .i64 (t : Int)) (z' := .tuple #[]) (w1 := W6) rfl rfl (by rfl) hcx (by simp [intsV_map]; exact HRM.out) ?_
     refine Rw.done ?_
     have HI7 := Lib.hid (HI6.out.chan HK.out (Q' := Qj ++ [t]) (s := s1 + 1) (r := r1) (buf := (intsV (Qj.map fun b : Nat => (b : Int))).toArray.push (.int .i64 (t : Int))) (by simp [intsV_map]))
     have HS7 := Lib.hid (HS6.out.chan (cap := k) (buf := (intsV (Qj.map fun b : Nat => (b : Int))).toArray.push (.int .i64 (t : Int))) (cl := false) (s := s1 + 1) (r := r1) (tm := false) HCV.out)
     clear HI6 HS6 HCV hcx
     generalize World.setChan W6 _ _ _ _ _ _ _ = W7 at *
     go_wp2_with fail
     refine Handed.intro ((edS perm s M m a).length - (j + 1)) (by omega) (hJ2 _ _ _ (LpI1.back 119 ?_ (by kernel_rfl)))
     dsimp only [gt]
     exact Rl3.yes hlt HPU.out (by omega) HI7.out HS7.out
end Go.Proofs.YtfaknfmndafllaaGreatDoor
