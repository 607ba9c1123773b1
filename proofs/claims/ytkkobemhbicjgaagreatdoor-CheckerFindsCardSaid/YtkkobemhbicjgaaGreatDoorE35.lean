import Derived.Test.YtkkobemhbicjgaaGreatDoorE34
set_option maxRecDepth 100000
set_option maxHeartbeats 8000000
namespace Go.Proofs.YtkkobemhbicjgaaGreatDoor
section
open Go.RowKit
def nh (F : List Int → List Bool) (rows : List (List Int)) (k : Nat) (S : List Bool) (nb : Bool) : Prop := S.length = 9 ∧ (∀ i, i < 9 → (S[i]? = some true ↔ ∃ s ∈ rows.take k, (F s)[i]? = some true)) ∧ (nb = true ↔ ∀ s ∈ rows.take k, (F s)[7]? = some true)
def kB (F : List Int → List Bool) (rows : List (List Int)) (k : Nat) (s : List Int) (j : Nat) (S : List Bool) : Prop := S.length = 9 ∧ (∀ i, i < 9 → (S[i]? = some true ↔ (∃ s ∈ rows.take k, (F s)[i]? = some true) ∨ i < j ∧ (F s)[i]? = some true))
section
variable {F : List Int → List Bool} {rows : List (List Int)} {k j : Nat} {s : List Int} {S : List Bool} {nb a b : Bool}
theorem nh.start : nh F rows 0 (List.replicate 9 false) true := ⟨rfl, fun i hi => by rw [List.getElem?_replicate, if_pos hi]; simp, by simp⟩
theorem nh.two (h : nh F rows k S nb) : kB F rows k s 0 S := ⟨h.1, fun i hi => by rw [h.2.1 i hi]; simp⟩
theorem nh.nothing (h : nh F rows k S nb) (hs : rows[k]? = some s) (hb : (F s)[7]? = some b) : (nb && b) = true ↔ ∀ s ∈ rows.take (k + 1), (F s)[7]? = some true := by
 rw [Bool.and_eq_true, h.2.2, zQ hs]
 constructor
 ·rintro ⟨h1, rfl⟩ t ht
  rcases List.mem_append.1 ht with h2 | h2
  ·exact h1 t h2
  ·rw [List.mem_singleton.1 h2]; exact hb
 ·intro h1
  refine ⟨fun t ht => h1 t (List.mem_append_left _ ht), ?_⟩
  have := h1 s (by simp)
  rw [hb] at this
  exact Option.some.inj this
theorem kB.step (h : kB F rows k s j S) (hj : j < 9) (ha : S[j]? = some a) (hb : (F s)[j]? = some b) : kB F rows k s (j + 1) (S.set j (a || b)) := by
 refine ⟨by rw [List.length_set]; exact h.1, fun i hi => ?_⟩
 by_cases hij : j = i
 ·subst hij
  rw [List.getElem?_set_self (by rw [h.1]; exact hj)]
  have h1 := h.2 j hj
  rw [ha] at h1
  rw [hb]
  constructor
  ·intro h2
   have h2 := Option.some.inj h2
   rw [Bool.or_eq_true] at h2
   rcases h2 with rfl | rfl
   ·rcases h1.1 rfl with h3 | h3
    ·exact .inl h3
    ·omega
   ·exact .inr ⟨by omega, rfl⟩
  ·rintro (h2 | ⟨_, h2⟩)
   ·have := Option.some.inj (h1.2 (.inl h2))
    rw [this]; rfl
   ·have := Option.some.inj h2
    rw [this, Bool.or_true]
 ·rw [List.getElem?_set_ne hij, h.2 i hi]
  constructor
  ·rintro (h1 | ⟨h1, h2⟩)
   ·exact .inl h1
   ·exact .inr ⟨by omega, h2⟩
  ·rintro (h1 | ⟨h1, h2⟩)
   ·exact .inl h1
   ·exact .inr ⟨by omega, h2⟩
theorem kB.done (h : kB F rows k s 9 S) (hs : rows[k]? = some s) (hn : nb = true ↔ ∀ s ∈ rows.take (k + 1), (F s)[7]? = some true) : nh F rows (k + 1) S nb := by
 refine ⟨h.1, fun i hi => ?_, hn⟩
 rw [h.2 i hi, zQ hs]
 constructor
 ·rintro (⟨t, ht, h1⟩ | ⟨_, h1⟩)
  ·exact ⟨t, List.mem_append_left _ ht, h1⟩
  ·exact ⟨s, by simp, h1⟩
 ·rintro ⟨t, ht, h1⟩
  rcases List.mem_append.1 ht with h2 | h2
  ·exact .inl ⟨t, h2, h1⟩
  ·rw [List.mem_singleton.1 h2] at h1; exact .inr ⟨hi, h1⟩
end
end
section
open Go.RowKit
end
section
open Go.RowKit
theorem oB (An Ad As Al Ap Ax : Option Addr) (nn cn nd cd n c nl cl np cp nx cx : Nat) (ns : List Nd) (ds : List Dv) (s : List Int) (ls : List Lk) (pr : List Int) (co : Int) (nm : ByteArray) (xs : List Sp) (w : World) (h : uB w An Ad As Al Ap Ax nn cn nd cd n c nl cl np cp nx cx ns ds s ls pr nm xs) :
 Calls Tryz.prog 46 #[.agg #[.slice An nn cn, .slice Ad nd cd], .slice As n c, .agg #[.int .i64 co, .slice Al nl cl, .slice Ap np cp], .agg #[.string nm, .slice Ax nx cx]] w fun e w' => e = .returned (.int .i64 (yn ns ds s co ls pr nm xs)) ∧ Below w.heap.size w w' := by
 have HH := iD h
 have HB := iD (Bxp.new w #[.slice An nn cn, .slice Ad nd cd] #[.int .i64 co, .slice Al nl cl, .slice Ap np cp] #[.string nm, .slice Ax nx cx])
 have HE : Hid (yn ns ds s co ls pr nm xs = if zU ns ds s ≠ 0 then zU ns ds s else if zy ns ds co ls pr ≠ 0 then zy ns ds co ls pr else yf ns ds nm xs) := rfl
 clear h
 go_enter Tryz.func46, Tryz.ntmps46
 go_upto_region 1 with (fail)
 generalize World.alloc (World.alloc (World.alloc w _) _) _ = W at *
 have HM := iD (HH.out.below HB.out.bl)
 have HC := iD (vQ An Ad As nn cn nd cd n c W.heap.size W.heap.size W.heap.size ns ds s W HM.out.h.la HM.out.h.hn HM.out.h.hd HM.out.h.hs lR lR lR HM.out.h.sn HM.out.h.sd)
 have k0 := HB.out.bn.c0
 have k1 := HB.out.bn.c1
 go_wp2_with fail
 clear k0 k1
 refine HC.out.mono ?_
 rintro e w1 ⟨rfl, hb1⟩
 have HB1 := iD (HB.out.later hb1)
 have HM1 := iD (HM.out.below hb1)
 clear hb1 HB HM HC
 by_cases hc : zU ns ds s = 0; rotate_left
 ·have q1 : (zU ns ds s != 0) = true := by simpa using hc
  have HR : Hid (yn ns ds s co ls pr nm xs = zU ns ds s) := by unfold Hid; rw [HE.out, if_pos hc]
  clear hc
  go_wp2_with fail
  go_ret
  exact ⟨zE (by rw [HR.out]), HB1.out.bl⟩
 have HE1 : Hid (yn ns ds s co ls pr nm xs = if zy ns ds co ls pr ≠ 0 then zy ns ds co ls pr else yf ns ds nm xs) := by unfold Hid; rw [HE.out, if_neg (by simp [hc])]
 rw [hc]
 clear hc HE
 have HC := iD (sV An Ad As Al Ap nn cn nd cd n c nl cl np cp ns ds s ls pr co w1 HM1.out.h)
 have k0 := HB1.out.bn.c0
 have k1 := HB1.out.bn.c1
 have g0 := HB1.out.bg.c0
 have g1 := HB1.out.bg.c1
 have g2 := HB1.out.bg.c2
 go_wp2_with fail
 clear k0 k1 g0 g1 g2
 refine HC.out.mono ?_
 rintro e w2 ⟨rfl, hb2⟩
 have HB2 := iD (HB1.out.later hb2)
 have HM2 := iD (HM1.out.below hb2)
 clear hb2 HB1 HM1 HC
 by_cases hc : zy ns ds co ls pr = 0; rotate_left
 ·have q1 : (zy ns ds co ls pr != 0) = true := by simpa using hc
  have HR : Hid (yn ns ds s co ls pr nm xs = zy ns ds co ls pr) := by unfold Hid; rw [HE1.out, if_pos hc]
  clear hc
  go_wp2_with fail
  go_ret
  exact ⟨zE (by rw [HR.out]), HB2.out.bl⟩
 have HE2 : Hid (yn ns ds s co ls pr nm xs = yf ns ds nm xs) := by unfold Hid; rw [HE1.out, if_neg (by simp [hc])]
 rw [hc]
 clear hc HE1
 have HC := iD (tQ An Ad Ax nn cn nd cd nx cx ns ds nm xs w2 ⟨HM2.out.h.hn, HM2.out.h.hd, HM2.out.x, HM2.out.h.la, HM2.out.h.sn, HM2.out.h.sd, HM2.out.m⟩)
 have k0 := HB2.out.bn.c0
 have k1 := HB2.out.bn.c1
 have p0 := HB2.out.bp.c0
 have p1 := HB2.out.bp.c1
 go_wp2_with fail
 clear k0 k1 p0 p1
 refine HC.out.mono ?_
 rintro e w3 ⟨rfl, hb3⟩
 go_wp2_with fail
 go_ret
 exact ⟨zE (by rw [HE2.out]), HB2.out.bl.trans (hb3.mono HB2.out.bl.size)⟩
structure So4 (x : Nat) (A1 A2 Al Ap : Option Addr) (n1 n2 nl np : Nat) : Prop where
 h : 0 < n1 → ∀ b off, A1 = some ⟨b, off, none⟩ → b ≠ x
 s : 0 < n2 → ∀ b off, A2 = some ⟨b, off, none⟩ → b ≠ x
 l : 0 < nl → ∀ b off, Al = some ⟨b, off, none⟩ → b ≠ x
 p : 0 < np → ∀ b off, Ap = some ⟨b, off, none⟩ → b ≠ x
theorem ry {w : World} {size n c x : Nat} {A : Option Addr} {xs : List Value} (h : Sl w w.heap.size size A n c xs) (hx : w.heap.size ≤ x) : 0 < n → ∀ b off, A = some ⟨b, off, none⟩ → b ≠ x := by
 intro hn b off e
 obtain ⟨b', off', e', hb, -⟩ := h.2.2.2.2 hn
 rw [e] at e'; injection e' with e'; injection e' with e1 e2
 omega
theorem So4.new {w : World} {A1 A2 Al Ap : Option Addr} {n1 c1 n2 c2 nl cl np cp x : Nat} {o : So} (h : yZ w A1 A2 Al Ap n1 c1 n2 c2 nl cl np cp o) (hx : w.heap.size ≤ x) : So4 x A1 A2 Al Ap n1 n2 nl np := ⟨ry h.h hx, ry h.s hx, ry h.l hx, ry h.p hx⟩
theorem yZ.st5 {w : World} {A1 A2 Al Ap : Option Addr} {n1 c1 n2 c2 nl cl np cp x : Nat} {o : So} {a b d e f : Value} (h : yZ w A1 A2 Al Ap n1 c1 n2 c2 nl cl np cp o) (hx : So4 x A1 A2 Al Ap n1 n2 nl np) : yZ (Go.Proofs.YtkkobemhbicjgaaGreatDoor.st5 w x a b d e f) A1 A2 Al Ap n1 c1 n2 c2 nl cl np cp o :=
 ⟨uV h.h hx.h, uV h.s hx.s, uV h.l hx.l, uV h.p hx.p⟩
end
section
open Go.RowKit
def Ke (w : World) (ob : Nat) (Ao A : Option Addr) (n : Nat) : Prop := 0 < n → ∀ b off, A = some ⟨b, off, none⟩ → w.heap.size + 6 ≤ b ∧ b ≠ ob ∧ ∀ o', Ao ≠ some ⟨b, o', none⟩
structure RM (w : World) (ob : Nat) (An Ad A5 : Option Addr) (nn cn nd cd n5 c5 : Nat) (co : Int) (pg : Array Value) (As Al Ap Ao : Option Addr) (n c nl cl np cp mo cx : Nat) (t : Sm) (out : List Fn) (wr : World) : Prop where
 b0 : Blk wr w.heap.size 30 #[.slice An nn cn, .slice Ad nd cd]
 b1 : Blk wr (w.heap.size + 1) 22 #[.slice As n c]
 b2 : Blk wr (w.heap.size + 2) 37 #[.int .i64 co, .slice Al nl cl, .slice Ap np cp]
 b3 : Blk wr (w.heap.size + 3) 41 pg
 b4 : Blk wr (w.heap.size + 4) 22 #[.slice A5 n5 c5]
 b5 : Blk wr (w.heap.size + 5) 37 #[.int .i64 0, .slice none 0 0, .slice none 0 0]
 bo : Blk wr ob 45 #[.slice Ao mo cx]
 s : Sl wr wr.heap.size 1 As n c (zD t.s)
 l : Sl wr wr.heap.size 3 Al nl cl (t.ls.flatMap Lk.cells)
 p : Sl wr wr.heap.size 1 Ap np cp (zD t.pr)
 o : wr.ownsRow (ob + 1) 53 2 (.slice Ao mo cx) mo (out.flatMap Fn.cells)
 ks : Ke w ob Ao As n
 kl : Ke w ob Ao Al nl
 kp : Ke w ob Ao Ap np
 bl : Below w.heap.size w wr
 hob : w.heap.size + 6 ≤ ob
structure SK (w : World) (ob x : Nat) (co : Int) (Ao A1 A2 Al Ap : Option Addr) (n1 c1 n2 c2 nl cl np cp : Nat) (o : So) (wr : World) : Prop where
 a : yZ wr A1 A2 Al Ap n1 c1 n2 c2 nl cl np cp o
 k1 : Ke w ob Ao A1 n1
 k2 : Ke w ob Ao A2 n2
 kl : Ke w ob Ao Al nl
 kp : Ke w ob Ao Ap np
 bx : Blk wr x 37 #[.int .i64 co, .slice Al nl cl, .slice Ap np cp]
 hx : ob < x ∧ ∀ o', Ao ≠ some ⟨x, o', none⟩
section
variable {w wr wr' : World} {ob : Nat} {An Ad A5 As Al Ap Ao : Option Addr} {nn cn nd cd n5 c5 n c nl cl np cp mo cx : Nat} {co : Int} {pg : Array Value} {t : Sm} {out : List Fn}
theorem RM.later (h : RM w ob An Ad A5 nn cn nd cd n5 c5 co pg As Al Ap Ao n c nl cl np cp mo cx t out wr) (hb : Below wr.heap.size wr wr') : RM w ob An Ad A5 nn cn nd cd n5 c5 co pg As Al Ap Ao n c nl cl np cp mo cx t out wr' :=
 ⟨h.b0.below hb h.b0.lt, h.b1.below hb h.b1.lt, h.b2.below hb h.b2.lt, h.b3.below hb h.b3.lt, h.b4.below hb h.b4.lt, h.b5.below hb h.b5.lt, h.bo.below hb h.bo.lt, (h.s.below hb lR).more hb.size, (h.l.below hb lR).more hb.size, (h.p.below hb lR).more hb.size, zt h.o hb, h.ks, h.kl, h.kp, h.bl.trans (hb.mono h.bl.size), h.hob⟩
theorem Ke.fre {B m : Nat} {A A' : Option Addr} (h : Ke w ob Ao A n) (hf : Fre B A A' n m) (hB : ob < B) (hw : w.heap.size + 6 ≤ ob) (ho : ∀ b o', Ao = some ⟨b, o', none⟩ → b < B) : Ke w ob Ao A' m := by
 intro hm b off e
 rcases hf with ⟨hf, hn⟩ | hf
 ·subst hf; exact h (by omega) b off e
 ·have := hf b off e
  refine ⟨by omega, by omega, fun o' e2 => ?_⟩
  have := ho b o' e2; omega
theorem Sl.kept {size m d : Nat} {A : Option Addr} {xs : List Value} {row : Option Nat} (h : Sl wr wr.heap.size size A m d xs) (hg : wr.grownBy wr' row) (ha : 0 < m → ∀ b off, A = some ⟨b, off, none⟩ → some b ≠ row) : Sl wr' wr'.heap.size size A m d xs := by
 obtain ⟨h1, h2, h3, h4, h5⟩ := h
 refine ⟨h1, h2, h3, h4, fun h0 => ?_⟩
 obtain ⟨b, off, e, hb, hc⟩ := h5 h0
 refine ⟨b, off, e, Nat.lt_of_lt_of_le hb hg.size, fun j u hu => ?_⟩
 rw [← hc j u hu]
 exact World.cell?_of_block (hg.block b hb (ha h0 b off e))
theorem qH (A : Option Addr) (m d b : Nat) (h : some b = (Value.slice A m d).ownBlock) (hA : A = none ∨ ∃ g, A = some ⟨g, 0, none⟩) : ∃ o', A = some ⟨b, o', none⟩ := by
 rcases hA with rfl | ⟨g, rfl⟩
 ·cases h
 ·refine ⟨0, ?_⟩; simp [Value.ownBlock] at h; rw [h]
theorem yv {base size m d : Nat} {e : TypeId} {A : Option Addr} {xs : List Value} (h : wr.ownsRow base e size (.slice A m d) m xs) : A = none ∨ ∃ g, A = some ⟨g, 0, none⟩ ∧ base ≤ g ∧ g < wr.heap.size := by
 have hl := h.lt
 rcases h.2 with ⟨h0, -⟩ | ⟨g, cap, cur, h0, hg, -⟩
 ·injection h0 with h0; exact .inl h0
 ·injection h0 with h0; subst h0; exact .inr ⟨g, rfl, hl g rfl⟩
structure Gr (w : World) (ob : Nat) (Ao : Option Addr) (mo cx : Nat) (A' : Option Addr) (cx' : Nat) (wr wr' : World) : Prop where
 g : wr.grownBy wr' (Value.slice Ao mo cx).ownBlock
 at' : (Value.slice A' (mo + 1) cx').ownBlock = (Value.slice Ao mo cx).ownBlock ∨ (Value.slice A' (mo + 1) cx').ownBlock = some wr.heap.size
theorem Ke.grow {m d size : Nat} {A A' : Option Addr} {xs : List Value} {cx' : Nat} (h : Ke w ob Ao A m) (hs : Sl wr wr.heap.size size A m d xs) (hG : Gr w ob Ao mo cx A' cx' wr wr') (hA' : A' = none ∨ ∃ g, A' = some ⟨g, 0, none⟩) (hA : Ao = none ∨ ∃ g, Ao = some ⟨g, 0, none⟩) : Ke w ob A' A m := by
 intro hm b off e
 obtain ⟨h1, h2, h3⟩ := h hm b off e
 refine ⟨h1, h2, fun o' e2 => ?_⟩
 obtain ⟨b', off', e3, hb, -⟩ := hs.2.2.2.2 hm
 rw [e] at e3; injection e3 with e3; injection e3 with e3 _; subst e3
 rcases hA' with rfl | ⟨g, rfl⟩
 ·cases e2
 injection e2 with e2; injection e2 with e2 _; subst e2
 rcases hG.at' with h4 | h4
 ·obtain ⟨o2, h5⟩ := qH Ao mo cx g (by rw [← h4]; rfl) hA
  exact h3 o2 h5
 ·simp [Value.ownBlock] at h4; omega
end
section
variable {w wr wr' : World} {ob x : Nat} {An Ad A5 As Al Ap Ao A1 A2 B3 B4 A' : Option Addr} {nn cn nd cd n5 c5 n c nl cl np cp mo cx n1 c1 n2 c2 m3 e3 m4 e4 cx' : Nat} {co : Int} {pg : Array Value} {t : Sm} {out : List Fn} {so : So} {f : Fn}
theorem wh (h : RM w ob An Ad A5 nn cn nd cd n5 c5 co pg As Al Ap Ao n c nl cl np cp mo cx t out wr) {g : Nat} (hg : g ≤ ob) : some g ≠ (Value.slice Ao mo cx).ownBlock := fun e => by
 have := (h.o.lt g e.symm).1; omega
theorem RM.app (h : RM w ob An Ad A5 nn cn nd cd n5 c5 co pg As Al Ap Ao n c nl cl np cp mo cx t out wr) (hG : Gr w ob Ao mo cx A' cx' wr wr') (hr : wr'.ownsRow (ob + 1) 53 2 (.slice A' (mo + 1) cx') (mo + 1) (out.flatMap Fn.cells ++ f.cells)) :
 RM w ob An Ad A5 nn cn nd cd n5 c5 co pg As Al Ap A' n c nl cl np cp (mo + 1) cx' t (out ++ [f]) (wr'.setCell ⟨ob, 0, none⟩ (.slice A' (mo + 1) cx')) := by
 have hw := h.hob
 have fA : Ao = none ∨ ∃ g, Ao = some ⟨g, 0, none⟩ := (yv h.o).imp id fun ⟨g, e, _⟩ => ⟨g, e⟩
 have fA' : A' = none ∨ ∃ g, A' = some ⟨g, 0, none⟩ := (yv hr).imp id fun ⟨g, e, _⟩ => ⟨g, e⟩
 have bk : ∀ {g : Nat} {T : TypeId} {cs : Array Value}, g < ob → Blk wr g T cs → Blk (wr'.setCell ⟨ob, 0, none⟩ (.slice A' (mo + 1) cx')) g T cs := fun {g T cs} hg hb => (hb.grown hG.g (wh h (by omega))).far (by show g ≠ ob; omega) _
 have hsz : wr'.heap.size = (wr'.setCell ⟨ob, 0, none⟩ (.slice A' (mo + 1) cx')).heap.size := by simp [World.setCell]
 have ap : ∀ {A : Option Addr} {m : Nat}, Ke w ob Ao A m → 0 < m → ∀ b off, A = some ⟨b, off, none⟩ → some b ≠ (Value.slice Ao mo cx).ownBlock := fun {A m} hk hm b off e e2 => by
  obtain ⟨o2, h5⟩ := qH Ao mo cx b e2 fA
  exact (hk hm b off e).2.2 o2 h5
 have sl : ∀ {A : Option Addr} {m d size : Nat} {xs : List Value}, Ke w ob Ao A m → Sl wr wr.heap.size size A m d xs → Sl (wr'.setCell ⟨ob, 0, none⟩ (.slice A' (mo + 1) cx')) (wr'.setCell ⟨ob, 0, none⟩ (.slice A' (mo + 1) cx')).heap.size size A m d xs := fun {A m d size xs} hk hs => by
  rw [← hsz]
  have h1 := hs.kept hG.g (ap hk)
  refine ⟨h1.1, h1.2.1, h1.2.2.1, h1.2.2.2.1, fun hn => ?_⟩
  obtain ⟨b, off, e, hb, hc⟩ := h1.2.2.2.2 hn
  exact ⟨b, off, e, hb, fun j v hv => (World.cell?_setCell_far wr' ⟨ob, 0, none⟩ ⟨b, off + j, none⟩ _ (fun e2 => (hk hn b off e).2.1 e2.symm)).trans (hc j v hv)⟩
 refine ⟨bk (by omega) h.b0, bk (by omega) h.b1, bk (by omega) h.b2, bk (by omega) h.b3, bk (by omega) h.b4, bk (by omega) h.b5, ?_, sl h.ks h.s, sl h.kl h.l, sl h.kp h.p, ?_, h.ks.grow h.s hG fA' fA, h.kl.grow h.l hG fA' fA, h.kp.grow h.p hG fA' fA, ?_, h.hob⟩
 ·exact (h.bo.grown hG.g (wh h lR)).set 0 _
 ·rw [List.flatMap_append, List.flatMap_cons, List.flatMap_nil, List.append_nil]
  exact hr.kept (ze _ _ _) (zk fun b e => by have := (hr.lt b e).1; simp; omega)
 ·have hb : Below w.heap.size w wr' := ⟨hG.g.os.trans h.bl.os, hG.g.tape.trans h.bl.tape, hG.g.output.trans h.bl.output, Nat.le_trans h.bl.size hG.g.size, fun i hi => (hG.g.block i (Nat.lt_of_lt_of_le hi h.bl.size) (wh h (by omega))).trans (h.bl.block i hi)⟩
  exact hb.setCell (by show w.heap.size ≤ ob; omega) _
theorem SK.app (h : RM w ob An Ad A5 nn cn nd cd n5 c5 co pg As Al Ap Ao n c nl cl np cp mo cx t out wr) (hk : SK w ob x co Ao A1 A2 B3 B4 n1 c1 n2 c2 m3 e3 m4 e4 so wr) (hG : Gr w ob Ao mo cx A' cx' wr wr') (hr : wr'.ownsRow (ob + 1) 53 2 (.slice A' (mo + 1) cx') (mo + 1) (out.flatMap Fn.cells ++ f.cells)) :
 SK w ob x co A' A1 A2 B3 B4 n1 c1 n2 c2 m3 e3 m4 e4 so (wr'.setCell ⟨ob, 0, none⟩ (.slice A' (mo + 1) cx')) := by
 have hw := h.hob
 have fA : Ao = none ∨ ∃ g, Ao = some ⟨g, 0, none⟩ := (yv h.o).imp id fun ⟨g, e, _⟩ => ⟨g, e⟩
 have fA' : A' = none ∨ ∃ g, A' = some ⟨g, 0, none⟩ := (yv hr).imp id fun ⟨g, e, _⟩ => ⟨g, e⟩
 have hsz : wr'.heap.size = (wr'.setCell ⟨ob, 0, none⟩ (.slice A' (mo + 1) cx')).heap.size := by simp [World.setCell]
 have ap : ∀ {A : Option Addr} {m : Nat}, Ke w ob Ao A m → 0 < m → ∀ b off, A = some ⟨b, off, none⟩ → some b ≠ (Value.slice Ao mo cx).ownBlock := fun {A m} hk hm b off e e2 => by
  obtain ⟨o2, h5⟩ := qH Ao mo cx b e2 fA
  exact (hk hm b off e).2.2 o2 h5
 have sl : ∀ {A : Option Addr} {m d size : Nat} {xs : List Value}, Ke w ob Ao A m → Sl wr wr.heap.size size A m d xs → Sl (wr'.setCell ⟨ob, 0, none⟩ (.slice A' (mo + 1) cx')) (wr'.setCell ⟨ob, 0, none⟩ (.slice A' (mo + 1) cx')).heap.size size A m d xs := fun {A m d size xs} hk hs => by
  rw [← hsz]
  have h1 := hs.kept hG.g (ap hk)
  refine ⟨h1.1, h1.2.1, h1.2.2.1, h1.2.2.2.1, fun hn => ?_⟩
  obtain ⟨b, off, e, hb, hc⟩ := h1.2.2.2.2 hn
  exact ⟨b, off, e, hb, fun j v hv => (World.cell?_setCell_far wr' ⟨ob, 0, none⟩ ⟨b, off + j, none⟩ _ (fun e2 => (hk hn b off e).2.1 e2.symm)).trans (hc j v hv)⟩
 refine ⟨⟨sl hk.k1 hk.a.h, sl hk.k2 hk.a.s, sl hk.kl hk.a.l, sl hk.kp hk.a.p⟩, hk.k1.grow hk.a.h hG fA' fA, hk.k2.grow hk.a.s hG fA' fA, hk.kl.grow hk.a.l hG fA' fA, hk.kp.grow hk.a.p hG fA' fA, (hk.bx.grown hG.g (fun e => ?_)).far (by show x ≠ ob; have := hk.hx.1; omega) _, hk.hx.1, fun o' e => ?_⟩
 ·obtain ⟨o2, h5⟩ := qH Ao mo cx x e fA
  exact hk.hx.2 o2 h5
 ·rcases fA' with rfl | ⟨g, rfl⟩
  ·cases e
  injection e with e; injection e with e _; subst e
  rcases hG.at' with h4 | h4
  ·obtain ⟨o2, h5⟩ := qH Ao mo cx g (by rw [← h4]; rfl) fA
   exact hk.hx.2 o2 h5
  ·simp [Value.ownBlock] at h4; have := hk.bx.lt; omega
theorem SK.later (hk : SK w ob x co Ao A1 A2 B3 B4 n1 c1 n2 c2 m3 e3 m4 e4 so wr) (hb : Below wr.heap.size wr wr') : SK w ob x co Ao A1 A2 B3 B4 n1 c1 n2 c2 m3 e3 m4 e4 so wr' :=
 ⟨hk.a.later hb, hk.k1, hk.k2, hk.kl, hk.kp, hk.bx.below hb hk.bx.lt, hk.hx⟩
theorem RM.put (h : RM w ob An Ad A5 nn cn nd cd n5 c5 co pg As Al Ap Ao n c nl cl np cp mo cx t out wr) (hk : SK w ob x co Ao A1 A2 B3 B4 n1 c1 n2 c2 m3 e3 m4 e4 so wr) :
 RM w ob An Ad A5 nn cn nd cd n5 c5 co pg A2 B3 B4 Ao n2 c2 m3 e3 m4 e4 mo cx so.t out ((((wr.setCell ⟨w.heap.size + 1, 0, none⟩ (.slice A2 n2 c2)).setCell ⟨w.heap.size + 2, 0, none⟩ (.int .i64 co)).setCell ⟨w.heap.size + 2, 1, none⟩ (.slice B3 m3 e3)).setCell ⟨w.heap.size + 2, 2, none⟩ (.slice B4 m4 e4)) := by
 have hw := h.hob
 have bk : ∀ {g : Nat} {T : TypeId} {cs : Array Value}, g ≠ w.heap.size + 1 → g ≠ w.heap.size + 2 → Blk wr g T cs → Blk ((((wr.setCell ⟨w.heap.size + 1, 0, none⟩ (.slice A2 n2 c2)).setCell ⟨w.heap.size + 2, 0, none⟩ (.int .i64 co)).setCell ⟨w.heap.size + 2, 1, none⟩ (.slice B3 m3 e3)).setCell ⟨w.heap.size + 2, 2, none⟩ (.slice B4 m4 e4)) g T cs := fun {g T cs} h1 h2 hb => yG (hb.far (by show g ≠ w.heap.size + 1; exact h1) _) h2
 have hsz : ((((wr.setCell ⟨w.heap.size + 1, 0, none⟩ (.slice A2 n2 c2)).setCell ⟨w.heap.size + 2, 0, none⟩ (.int .i64 co)).setCell ⟨w.heap.size + 2, 1, none⟩ (.slice B3 m3 e3)).setCell ⟨w.heap.size + 2, 2, none⟩ (.slice B4 m4 e4)).heap.size = wr.heap.size := by simp [World.setCell]
 have sl : ∀ {A : Option Addr} {m d size : Nat} {xs : List Value}, Ke w ob Ao A m → Sl wr wr.heap.size size A m d xs → Sl ((((wr.setCell ⟨w.heap.size + 1, 0, none⟩ (.slice A2 n2 c2)).setCell ⟨w.heap.size + 2, 0, none⟩ (.int .i64 co)).setCell ⟨w.heap.size + 2, 1, none⟩ (.slice B3 m3 e3)).setCell ⟨w.heap.size + 2, 2, none⟩ (.slice B4 m4 e4)) ((((wr.setCell ⟨w.heap.size + 1, 0, none⟩ (.slice A2 n2 c2)).setCell ⟨w.heap.size + 2, 0, none⟩ (.int .i64 co)).setCell ⟨w.heap.size + 2, 1, none⟩ (.slice B3 m3 e3)).setCell ⟨w.heap.size + 2, 2, none⟩ (.slice B4 m4 e4)).heap.size size A m d xs := fun {A m d size xs} hk hs => by
  rw [hsz]
  rcases Nat.eq_zero_or_pos m with hm | hm
  ·exact ⟨hs.1, hs.2.1, hs.2.2.1, hs.2.2.2.1, fun h => absurd h (by omega)⟩
  ·have e1 : ∀ b off, A = some ⟨b, off, none⟩ → b ≠ w.heap.size + 1 := fun b off e => by have := (hk hm b off e).1; omega
   have e2 : ∀ b off, A = some ⟨b, off, none⟩ → b ≠ w.heap.size + 2 := fun b off e => by have := (hk hm b off e).1; omega
   exact ((((hs.ne e1).ne e2).ne e2).ne e2)
 refine ⟨bk (by omega) (by omega) h.b0, (yG (h.b1.set 0 _) (by omega)), ?_, bk (by omega) (by omega) h.b3, bk (by omega) (by omega) h.b4, bk (by omega) (by omega) h.b5, bk (by omega) (by omega) h.bo, sl hk.k2 hk.a.s, sl hk.kl hk.a.l, sl hk.kp hk.a.p, ?_, hk.k2, hk.kl, hk.kp, ?_, h.hob⟩
 ·exact ((((h.b2.far (by simp) _).set 0 _).set 1 _).set 2 _)
 ·have f : ∀ {y i : Nat} {u : Value} {W : World}, y ≤ ob → W.ownsRow (ob + 1) 53 2 (.slice Ao mo cx) mo (out.flatMap Fn.cells) → (W.setCell ⟨y, i, none⟩ u).ownsRow (ob + 1) 53 2 (.slice Ao mo cx) mo (out.flatMap Fn.cells) := fun {y i u W} hy hh => wi hh (by omega)
  exact f (by omega) (f (by omega) (f (by omega) (f (by omega) h.o)))
 ·exact (((h.bl.setCell (by simp) _).setCell (by simp) _).setCell (by simp) _).setCell (by simp) _
end
end
end Go.Proofs.YtkkobemhbicjgaaGreatDoor
