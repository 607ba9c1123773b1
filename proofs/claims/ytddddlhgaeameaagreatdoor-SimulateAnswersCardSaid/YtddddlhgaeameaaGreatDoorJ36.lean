import Derived.Test.YtddddlhgaeameaaGreatDoorJ33
import Derived.Test.YtddddlhgaeameaaGreatDoorJ35
set_option maxRecDepth 100000
set_option maxHeartbeats 32000000
namespace Go.Proofs.YtddddlhgaeameaaGreatDoor
open Go.RowKit Tryz
structure Kc (w : World) (nt gr pg : Array Value) (wr : World) : Prop where
 b0 : AJ wr w.heap.size 26 nt
 b1 : AJ wr (w.heap.size + 1) 29 gr
 b2 : AJ wr (w.heap.size + 2) 34 pg
 b3 : AJ wr (w.heap.size + 3) 29 #[.int .i64 0, .slice none 0 0, .slice none 0 0]
 bl : bW w wr
theorem Kc.new (w : World) (nt gr pg : Array Value) : Kc w nt gr pg ((((w.alloc (.cells nt 26)).alloc (.cells gr 29)).alloc (.cells pg 34)).alloc (.cells #[.int .i64 0, .slice none 0 0, .slice none 0 0] 29)) := by
 obtain ⟨h0, h1, h2, h3, h4⟩ := kF w 26 29 34 29 nt gr pg #[.int .i64 0, .slice none 0 0, .slice none 0 0];exact ⟨h0, h1, h2, h3, h4⟩
section
variable {w wg wr wr' : World} {nt gr pg old : Array Value} {x Ja : Nat} {co : Int} {Ao A1 A2 Al Ap A' : Option Addr} {mo cx n1 c1 n2 c2 nl cl np cp cx' : Nat} {out : List Fn} {t : Sm} {so : So} {f : Fn}
theorem Kc.later (h : Kc w nt gr pg wr) (hb : bW wr wr') : Kc w nt gr pg wr' := ⟨h.b0.below hb h.b0.lt, h.b1.below hb h.b1.lt, h.b2.below hb h.b2.lt, h.b3.below hb h.b3.lt, h.bl.trans (hb.mono h.bl.size)⟩
theorem Kc.put {g i : Nat} {u : Value} (h : Kc w nt gr pg wr) (hg : w.heap.size + 3 < g) : Kc w nt gr pg (wr.setCell ⟨g, i, none⟩ u) :=
 ⟨h.b0.far (by show w.heap.size ≠ g; omega) _, h.b1.far (by show w.heap.size + 1 ≠ g; omega) _, h.b2.far (by show w.heap.size + 2 ≠ g; omega) _, h.b3.far (by show w.heap.size + 3 ≠ g; omega) _, h.bl.setCell (by show w.heap.size ≤ g; omega) _⟩
theorem Kc.grown {row : Option Nat} (h : Kc w nt gr pg wr) (hg : wr.grownBy wr' row) (hr : ∀ b, row = some b → w.heap.size + 3 < b) : Kc w nt gr pg wr' :=
 have ne : ∀ g, g ≤ w.heap.size + 3 → some g ≠ row := fun g hl e => by have := hr g e.symm; omega
 ⟨h.b0.grown hg (ne _ (by omega)), h.b1.grown hg (ne _ (by omega)), h.b2.grown hg (ne _ (by omega)), h.b3.grown hg (ne _ (by omega)),
  ⟨hg.os.trans h.bl.os, hg.tape.trans h.bl.tape, hg.output.trans h.bl.output, Nat.le_trans h.bl.size hg.size, fun i hi => (hg.block i (Nat.lt_of_lt_of_le hi h.bl.size) (ne i (by omega))).trans (h.bl.block i hi)⟩⟩
def Dj (Ao : Option Addr) (mo cx : Nat) (A : Option Addr) (n : Nat) : Prop := 0 < n → ∀ b off, A = some ⟨b, off, none⟩ → (Value.slice Ao mo cx).ownBlock ≠ some b
theorem Dj.grow {A : Option Addr} {n d size : Nat} {xs : List Value} (h : Dj Ao mo cx A n) (hs : Av wr size A n d xs) (KM : (Value.slice A' (mo + 1) cx').ownBlock = (Value.slice Ao mo cx).ownBlock ∨ (Value.slice A' (mo + 1) cx').ownBlock = some wr.heap.size) : Dj A' (mo + 1) cx' A n := by
 intro hn b off e e2;rcases KM with h1 | h1
 ·exact h hn b off e (h1.symm.trans e2)
 ·obtain ⟨b', off', e3, hb, -⟩ := hs.2.2.2.2 hn;rw [e] at e3; injection e3 with e3; injection e3 with e3 _; subst e3
  rw [e2] at h1; injection h1 with h1; omega
structure PV (w wg : World) (nt gr pg : Array Value) (x : Nat) (co : Int) (Ao A2 Al Ap : Option Addr) (mo cx n2 c2 nl cl np cp : Nat) (out : List Fn) (t : Sm) (wr : World) : Prop where
 b : Kc w nt gr pg wr
 r : OQ wg x co A2 Al Ap n2 c2 nl cl np cp t wr
 o : wr.ownsRow wg.heap.size 95 2 (.slice Ao mo cx) mo (out.flatMap Fn.cells)
 gl : wg.heap.size ≤ wr.heap.size
 hx : wg.heap.size ≤ x
theorem PV.later (h : PV w wg nt gr pg x co Ao A2 Al Ap mo cx n2 c2 nl cl np cp out t wr) (hb : bW wr wr') : PV w wg nt gr pg x co Ao A2 Al Ap mo cx n2 c2 nl cl np cp out t wr' :=
 ⟨h.b.later hb, h.r.later hb, zM h.o hb, Nat.le_trans h.gl hb.size, h.hx⟩
structure OT (w wg : World) (nt gr pg old : Array Value) (x Ja : Nat) (co : Int) (Ao A1 A2 Al Ap : Option Addr) (mo cx n1 c1 n2 c2 nl cl np cp : Nat) (out : List Fn) (so : So) (wr : World) : Prop where
 b : Kc w nt gr pg wr
 bx : AJ wr x 29 old
 bv : AJ wr Ja 29 #[.int .i64 co, .slice Al nl cl, .slice Ap np cp]
 a : yi wr A1 A2 Al Ap n1 c1 n2 c2 nl cl np cp so
 o : wr.ownsRow wg.heap.size 95 2 (.slice Ao mo cx) mo (out.flatMap Fn.cells)
 d1 : Dj Ao mo cx A1 n1
 d2 : Dj Ao mo cx A2 n2
 dl : Dj Ao mo cx Al nl
 dp : Dj Ao mo cx Ap np
 gl : wg.heap.size ≤ wr.heap.size
theorem OT.later (h : OT w wg nt gr pg old x Ja co Ao A1 A2 Al Ap mo cx n1 c1 n2 c2 nl cl np cp out so wr) (hb : bW wr wr') : OT w wg nt gr pg old x Ja co Ao A1 A2 Al Ap mo cx n1 c1 n2 c2 nl cl np cp out so wr' :=
 ⟨h.b.later hb, h.bx.below hb h.bx.lt, h.bv.below hb h.bv.lt, h.a.later hb, zM h.o hb, h.d1, h.d2, h.dl, h.dp, Nat.le_trans h.gl hb.size⟩
theorem OT.app (h : OT w wg nt gr pg old x Ja co Ao A1 A2 Al Ap mo cx n1 c1 n2 c2 nl cl np cp out so wr) (hw : w.heap.size + 3 < wg.heap.size) (hg : wr.grownBy wr' (Value.slice Ao mo cx).ownBlock) (KM : (Value.slice A' (mo + 1) cx').ownBlock = (Value.slice Ao mo cx).ownBlock ∨ (Value.slice A' (mo + 1) cx').ownBlock = some wr.heap.size)
 (hr : wr'.ownsRow wg.heap.size 95 2 (.slice A' (mo + 1) cx') (mo + 1) (out.flatMap Fn.cells ++ f.cells)) : OT w wg nt gr pg old x Ja co A' A1 A2 Al Ap (mo + 1) cx' n1 c1 n2 c2 nl cl np cp (out ++ [f]) so wr' :=
 have ap : ∀ {A : Option Addr} {m : Nat}, Dj Ao mo cx A m → 0 < m → ∀ b off, A = some ⟨b, off, none⟩ → some b ≠ (Value.slice Ao mo cx).ownBlock := fun {A m} hk hm b off e e2 => hk hm b off e e2.symm
 ⟨h.b.grown hg (fun b e => by have := (h.o.lt b e).1; omega), h.bx.grown hg (fun e => tg h.o h.bx (by decide) e.symm), h.bv.grown hg (fun e => tg h.o h.bv (by decide) e.symm),
  ⟨h.a.h.kept hg (ap h.d1), h.a.s.kept hg (ap h.d2), h.a.l.kept hg (ap h.dl), h.a.p.kept hg (ap h.dp)⟩, by rw [List.flatMap_append, List.flatMap_cons, List.flatMap_nil, List.append_nil]; exact hr,
  h.d1.grow h.a.h KM, h.d2.grow h.a.s KM, h.dl.grow h.a.l KM, h.dp.grow h.a.p KM, Nat.le_trans h.gl hg.size⟩
theorem PV.step {B3 B4 B2 : Option Addr} {m2 d2 m3 d3 m4 d4 : Nat} {w4 : World} (h : PV w wg nt gr pg x co Ao B2 B3 B4 mo cx m2 d2 m3 d3 m4 d4 out t wr) (hb : bW wr w4) (ha : yi w4 A1 A2 Al Ap n1 c1 n2 c2 nl cl np cp so) (hl : vm wr.heap.size A1 A2 Al Ap) (hv : AJ w4 Ja 29 #[.int .i64 co, .slice Al nl cl, .slice Ap np cp]) :
 OT w wg nt gr pg #[.int .i64 co, .slice B3 m3 d3, .slice B4 m4 d4] x Ja co Ao A1 A2 Al Ap mo cx n1 c1 n2 c2 nl cl np cp out so w4 :=
 have dj : ∀ {A : Option Addr} {m : Nat}, (∀ b off, A = some ⟨b, off, none⟩ → wr.heap.size ≤ b) → Dj Ao mo cx A m := fun {A m} hq _ b off e e2 => by have := (h.o.lt b e2).2; have := hq b off e; omega
 ⟨h.b.later hb, h.r.bx.below hb h.r.bx.lt, hv, ha, zM h.o hb, dj hl.h, dj hl.s, dj hl.l, dj hl.p, Nat.le_trans h.gl hb.size⟩
theorem OT.put {B : Nat} {a0 a1 a2 : Value} (h : OT w wg nt gr pg #[a0, a1, a2] x Ja co Ao A1 A2 Al Ap mo cx n1 c1 n2 c2 nl cl np cp out so wr) (hw : w.heap.size + 3 < wg.heap.size) (hl : vm B A1 A2 Al Ap) (_hB : wg.heap.size ≤ B) (hx : wg.heap.size ≤ x) (BL : x < B) :
 PV w wg nt gr pg x co Ao A2 Al Ap mo cx n2 c2 nl cl np cp out so.t (((wr.setCell ⟨x, 0, none⟩ (.int .i64 co)).setCell ⟨x, 1, none⟩ (.slice Al nl cl)).setCell ⟨x, 2, none⟩ (.slice Ap np cp)) :=
 have b1 := h.bx.set 0 (.int .i64 co);have b2 := b1.set 1 (.slice Al nl cl);have hs := h.a.set3 (a := .int .i64 co) (b := .slice Al nl cl) (d := .slice Ap np cp) (hl.off BL)
 ⟨((h.b.put (by omega)).put (by omega)).put (by omega), ⟨b2.set 2 _, hs.s, hs.l, hs.p, fun b off e => by have := hl.s b off e; omega, fun b off e => by have := hl.l b off e; omega, fun b off e => by have := hl.p b off e; omega⟩,
  yJ (yJ (yJ h.o h.bx (by decide)) b1 (by decide)) b2 (by decide), by have := h.gl; simpa [World.setCell] using this, hx⟩
theorem PV.fin (h : PV w wg nt gr pg x co Ao A2 Al Ap mo cx n2 c2 nl cl np cp out t wr) (hw : w.heap.size + 3 < wg.heap.size) :
 AJ (((wr.setCell ⟨w.heap.size + 3, 0, none⟩ (.int .i64 co)).setCell ⟨w.heap.size + 3, 1, none⟩ (.slice Al nl cl)).setCell ⟨w.heap.size + 3, 2, none⟩ (.slice Ap np cp)).drew (w.heap.size + 3) 29 #[.int .i64 co, .slice Al nl cl, .slice Ap np cp] ∧ bW w (((wr.setCell ⟨w.heap.size + 3, 0, none⟩ (.int .i64 co)).setCell ⟨w.heap.size + 3, 1, none⟩ (.slice Al nl cl)).setCell ⟨w.heap.size + 3, 2, none⟩ (.slice Ap np cp)).drew ∧
 sZ (((wr.setCell ⟨w.heap.size + 3, 0, none⟩ (.int .i64 co)).setCell ⟨w.heap.size + 3, 1, none⟩ (.slice Al nl cl)).setCell ⟨w.heap.size + 3, 2, none⟩ (.slice Ap np cp)).drew Ao A2 Al Ap mo cx n2 c2 nl cl np cp out t := by
 have e : ∀ {A : Option Addr}, (∀ b off, A = some ⟨b, off, none⟩ → wg.heap.size ≤ b) → ∀ b off, A = some ⟨b, off, none⟩ → b ≠ w.heap.size + 3 := fun {A} hq b off e => by have := hq b off e; omega
 have dr : ∀ {size m d : Nat} {A : Option Addr} {xs : List Value} {W : World}, Sl W W.heap.size size A m d xs → Sl W.drew W.drew.heap.size size A m d xs := fun {size m d A xs W} hs => (hs.below (Below.refl _ _).drew lR).more (Below.refl W.heap.size W).drew.size
 exact ⟨(((h.b.b3.set 0 _).set 1 _).set 2 _).drw, (((h.b.bl.setCell (by simp) _).setCell (by simp) _).setCell (by simp) _).drew,
  ⟨dr (Sl.of_own (xf (xf (xf h.o (by omega)) (by omega)) (by omega))), dr (Ip h.r.s (e h.r.qs)), dr (Ip h.r.l (e h.r.ql)), dr (Ip h.r.p (e h.r.qp))⟩⟩
end
theorem jU {i j : Nat} {h : List Int} {z : Int} (hz : h[j]? = some z) : yD i (h.take (j + 1)) = yD i (h.take j) ++ [⟨i, z⟩] := by
 unfold yD; rw [zO hz, List.map_append]; rfl
def gy (wq : World) (b : Bool) (v : Value) (wc : World) : Prop := v = .bool b ∧ wc = wq
def RrL (w wg : World) (nt gr pg : Array Value) (x : Nat) (ns : List Nd) (ds : List Dv) (co : Int) (Bw : List Int) (xs : List Sp) (R : List Fn × Sm × Nat) (nx gk : Nat) (ov mv iv : Value) (wr : World) : Prop :=
 ∃ (i mo cx n2 c2 nl cl np cp : Nat) (Ao A2 Al Ap : Option Addr) (t : Sm) (out : List Fn), ov = .slice Ao mo cx ∧ mv = .slice A2 n2 c2 ∧ iv = .int .i64 i ∧ i ≤ nx ∧ gk = nx - i ∧ mo ≤ 8 * i ∧ Hid (PV w wg nt gr pg x co Ao A2 Al Ap mo cx n2 c2 nl cl np cp out t wr) ∧ Hid (ua ns ds t) ∧ Hid (yU ns ds co Bw i out t (xs.drop i) = R)
def RrJ (w wg : World) (nt gr pg old : Array Value) (x Ja : Nat) (co : Int) (A1 A2 Al Ap : Option Addr) (mo n1 c1 n2 c2 nl cl np cp : Nat) (out : List Fn) (so : So) (i gk : Nat) (ov jv : Value) (wr : World) : Prop :=
 ∃ (j cx : Nat) (Ao : Option Addr), ov = .slice Ao (mo + j) cx ∧ jv = .int .i64 j ∧ j ≤ n1 ∧ gk = n1 - j ∧ Hid (OT w wg nt gr pg old x Ja co Ao A1 A2 Al Ap (mo + j) cx n1 c1 n2 c2 nl cl np cp (out ++ yD i (so.h.take j)) so wr)
theorem kj (An Ad As Al Ap Ax A5 : Option Addr) (nn cn nd cd n c nl cl np cp nx cx n5 c5 : Nat) (ns : List Nd) (ds : List Dv) (s : List Int) (ls : List Lk) (pr : List Int) (co : Int) (nm : ByteArray) (xs : List Sp) (Bw : List Int) (w : World) (h : uf w An Ad As Al Ap Ax nn cn nd cd n c nl cl np cp nx cx ns ds s ls pr nm xs) (h5 : Av w 1 A5 n5 c5 (zF Bw)) :
 Calls prog 22 #[.agg #[.slice An nn cn, .slice Ad nd cd], .slice As n c, .agg #[.int .i64 co, .slice Al nl cl, .slice Ap np cp], .agg #[.string nm, .slice Ax nx cx], .slice A5 n5 c5] w (rk w ns ds s co ls pr nm xs Bw) := by
 obtain ⟨DJ, Ic, FR⟩ := h.h.ln;have Lj : ls.length = nl := h.h.hl.len (fun _ => rfl) (by decide);have Pz : pr.length = np := h.h.hp.len (fun _ => rfl) (by decide);have Vl : xs.length = nx := h.x.len (fun _ => rfl) (by decide);have Br := h.x.le;have HH := iD h;have H5 := iD h5;have HB := iD (Kc.new w #[.slice An nn cn, .slice Ad nd cd] #[.int .i64 co, .slice Al nl cl, .slice Ap np cp] #[.string nm, .slice Ax nx cx]);have Ir := h.h.hs.le;clear h h5
 go_enter func22, ntmps22
 go_upto_region 1 with (fail);generalize World.alloc (World.alloc (World.alloc (World.alloc w _) _) _) _ = W at *;rw [show w.heap.size + 1 + 1 = w.heap.size + 2 from rfl, show w.heap.size + 2 + 1 = w.heap.size + 3 from rfl];have k0 : W.cell? ⟨w.heap.size, 0, none⟩ = some (.slice An nn cn) := HB.b0.cell 0; have k1 : W.cell? ⟨w.heap.size, 1, none⟩ = some (.slice Ad nd cd) := HB.b0.cell 1; have g0 : W.cell? ⟨w.heap.size + 1, 0, none⟩ = some (.int .i64 co) := HB.b1.cell 0; have g1 : W.cell? ⟨w.heap.size + 1, 1, none⟩ = some (.slice Al nl cl) := HB.b1.cell 1; have g2 : W.cell? ⟨w.heap.size + 1, 2, none⟩ = some (.slice Ap np cp) := HB.b1.cell 2; have e1 : W.cell? ⟨w.heap.size + 2, 1, none⟩ = some (.slice Ax nx cx) := HB.b2.cell 1;have e0 := HB.b2.cell 0
 go_wp2_with fail
 clear k0 k1 g0 g1 g2 e0 e1;refine (tL An Ad As Al Ap Ax nn cn nd cd n c nl cl np cp nx cx ns ds s ls pr co nm xs W (HH.below HB.bl)).mono ?_;rintro e wg ⟨rfl, AQ⟩;have DX := iD (HB.later AQ);clear AQ HB;obtain ⟨E, hE⟩ := eX (yE ns ds s co ls pr nm xs);rw [← hE];have CJ := iD hE;clear hE;by_cases he : E = 0; rotate_left
 ·have q1 : (E != 0) = true := by simpa using he
  have JF := iD he;clear he;obtain ⟨d0, d1, d2⟩ := DX.b3.d3;obtain ⟨y0, y1, y2⟩ := DX.b3.e3;have HF : Hid (AJ (((wg.setCell ⟨w.heap.size + 3, 0, none⟩ (.int .i64 0)).setCell ⟨w.heap.size + 3, 1, none⟩ (.slice none 0 0)).setCell ⟨w.heap.size + 3, 2, none⟩ (.slice none 0 0)) (w.heap.size + 3) 29 #[.int .i64 0, .slice none 0 0, .slice none 0 0] ∧ Below w.heap.size w (((wg.setCell ⟨w.heap.size + 3, 0, none⟩ (.int .i64 0)).setCell ⟨w.heap.size + 3, 1, none⟩ (.slice none 0 0)).setCell ⟨w.heap.size + 3, 2, none⟩ (.slice none 0 0))) := ⟨((DX.b3.set 0 _).set 1 _).set 2 _, ((DX.bl.setCell (by simp) _).setCell (by simp) _).setCell (by simp) _⟩
  go_wp2_with fail
  clear d0 d1 d2 y0 y1 y2;generalize World.setCell (World.setCell (World.setCell wg _ _) _ _) _ _ = z at *;obtain ⟨q0, q1, q2⟩ := HF.1.d3;exact bodyPost_ret (v := .tuple #[.slice none 0 0, .slice none 0 0, .agg #[.int .i64 0, .slice none 0 0, .slice none 0 0], .int .i64 0, .int .i64 E]) (by simp [results, results22, go_sem, q0, q1, q2]) rfl ⟨.inl ⟨by rw [← CJ.out]; exact JF, by rw [← CJ.out]⟩, HF.2⟩
 subst he;have BR := iD (vx CJ.symm);have AV : nd ≤ 64 := by have := (xo.of (zQ BR.1.s).1).dl; omega
 have Gl : nl ≤ 128 := by have := (yW BR.1.l).1; dsimp only at this; omega
 have Bq : nn ≤ 32 := by have := (xo.of (zQ BR.1.s).1).nl; omega
 have SN : np ≤ 32 := by have := uA BR.1.p; dsimp only at this; omega
 have hsl := (zQ BR.1.s).2;dsimp only at hsl;have Bs : nx ≤ 64 := by have := BR.2.2.1; omega
 have FW : Hid (w.heap.size + 3 < wg.heap.size) := DX.b3.lt;go_upto_region 5 with (fail);obtain ⟨MS, QH⟩ : ∃ MS : World → Prop, MS = Kc w #[.slice An nn cn, .slice Ad nd cd] #[.int .i64 co, .slice Al nl cl, .slice Ap np cp] #[.string nm, .slice Ax nx cx] := ⟨_, rfl⟩
 have Hq : Hid (∀ wr wr' : World, MS wr → Below wr.heap.size wr wr' → MS wr') := fun wr wr' h hb => by rw [QH] at h ⊢; exact h.later hb
 have HAS : Hid (∀ W', MS W' → Kc w #[.slice An nn cn, .slice Ad nd cd] #[.int .i64 co, .slice Al nl cl, .slice Ap np cp] #[.string nm, .slice Ax nx cx] W') := fun W' h => by rw [QH] at h; exact h
 have JI : Hid (MS wg) := by unfold Hid; rw [QH]; exact DX.out
 clear QH DX;refine qD [(16, 0), (0, 2), (0, 3), (6, 0), (81, 1)] (RsC wg co s ls pr n nl np) ?rest0 ?first0
 case first0 =>
  intro CN CL Kz BX;have BF : Hid (Below wg.heap.size wg wg.drew) := (Below.refl _ _).drew;refine fX (MS) [6] ?_ fun AA => ?_
  ·exact Hq _ _ JI (Below.refl _ _).drew
  try dsimp only at AA
  refine tk 0 35 (mf 7 1) AA ?_;refine ty 2 37 (ma 7 5) AA (y := by intro w AR; have u0 := (HAS _ AR).b1.cell 0; have u1 := (HAS _ AR).b1.cell 1; have u2 := (HAS _ AR).b1.cell 2; go_simp; try with_reducible rfl) (h := ?_);refine yP (i := 1) (k := 4) (mf 7 3) (ma 7 21) (by kernel_rfl) (by kernel_rfl) (by kernel_rfl) rfl rfl (fun K hK => ?_) (fun K hK => ?_)
  ·(refine zi (d := some 36) (by rfl) (by rfl) _ (.tmp 35) (by rfl) yl (by rfl) (World.ownsRow_nil _ wg.drew.heap.size _ _) (by rfl) (HH.below (HAS _ AA).bl).h.hs (yn _) (by omega) (by omega) lR ?_; intro D1 f1 wh CW Dt FU; simp only [Nat.zero_add, List.nil_append] at CW Dt FU ⊢; have CE : Hid (zN wh wg.heap.size D1 n f1 s) := World.ownsRow.mono CW BF.size; have Bg : Hid (Below wg.drew.heap.size wg.drew wh) := zT Dt; clear CW Dt FU)
   refine hK _ _ (fun _ => Hq _ _ AA Bg.out) fun p => (fun AA => ?_) (p rfl)
   clear p hK K;(try dsimp only at AA);have BF := iD (BF.trans (Bg.mono BF.size));clear Bg;refine yP (i := 3) (k := 4) (mf 7 4) (ma 7 23) (by kernel_rfl) (by kernel_rfl) (by kernel_rfl) rfl rfl (fun K hK => ?_) (fun K hK => ?_)
   ·(go_simp; refine (wW Al Ap nl cl np cp _ co ls pr wh (HH.below (HAS _ AA).bl).h.hl (HH.below (HAS _ AA).bl).h.hp lR (by omega) (by omega)).mono ?_; rintro e wi ⟨D3, D4, f3, f4, rfl, ES, DN, AQ⟩; have DR : Hid (∀ g, (Value.slice D1 n f1).ownBlock = some g → (Value.slice D3 nl f3).ownBlock ≠ some g ∧ (Value.slice D4 np f4).ownBlock ≠ some g) := fun g e1 => ⟨fun e2 => by have h1 := CE.lt g e1; have h2 := ES.lt g e2; omega, fun e2 => by have h1 := CE.lt g e1; have h2 := DN.lt g e2; omega⟩; have BU : Hid (ze wi wg.heap.size D3 nl f3 ls) := World.ownsRow.mono ES BF.size; have BP : Hid (zN wi wg.heap.size D4 np f4 pr) := World.ownsRow.mono DN BF.size; have Bg := iD AQ.out; clear ES DN AQ; go_simp)
    refine hK _ _ (fun _ => Hq _ _ AA Bg.out) fun p => (fun AA => ?_) (p rfl)
    clear p hK K;(try dsimp only at AA);have BF := iD (BF.trans (Bg.mono BF.size));have CE := iD (zM CE Bg);clear Bg;refine tb 4 (mf 7 5) fun K hK => ?_
    go_simp
    refine hK _ _ (fun _ => Hq _ _ AA ((Below.refl wi.heap.size wi).alloc lR (.cells #[.int .i64 0, .slice none 0 0, .slice none 0 0] 29))) fun p => (fun AA => ?_) (p rfl)
    clear p hK K;(try dsimp only at AA);have Bg : Hid (Below wi.heap.size wi (wi.alloc (.cells #[.int .i64 0, .slice none 0 0, .slice none 0 0] 29))) := ((Below.refl wi.heap.size wi).alloc lR (.cells #[.int .i64 0, .slice none 0 0, .slice none 0 0] 29));have GU : Hid (AJ (wi.alloc (.cells #[.int .i64 0, .slice none 0 0, .slice none 0 0] 29)) wi.heap.size 29 #[.int .i64 0, .slice none 0 0, .slice none 0 0]) := AJ.new wi _ _;have Jp : Hid (wg.heap.size ≤ wi.heap.size) := BF.size;have BF := iD (BF.trans (Bg.mono BF.size));have CE := iD (zM CE Bg);have BU := iD (zM BU Bg);have BP := iD (zM BP Bg);generalize World.alloc wi _ = wx at *;obtain ⟨Cx, CV⟩ := eX wi.heap.size;have HX : Hid (AJ wx Cx 29 #[.int .i64 0, .slice none 0 0, .slice none 0 0]) := by rw [CV]; exact GU.out
    have Ii : Hid (wg.heap.size ≤ Cx) := by unfold Hid; rw [CV]; exact Jp.out
    try rw [← CV]
    clear CV GU Jp Bg;refine tk 5 17 (mf 7 6) AA ?_;have Dw := iD AA;obtain ⟨z0, z1, z2⟩ := HX.d3;obtain ⟨y0, y1, y2⟩ := HX.e3;refine tb 6 (mf 7 7) fun K hK => ?_
    go_simp
    refine hK _ _ (fun h => by cases h) (fun _ => ?_)
    try clear AA
    clear hK K;refine tK ?_;have Fa : Hid (FI wg Cx co D1 D3 D4 n f1 nl f3 np f4 s ls pr (((wx.setCell ⟨Cx, 0, none⟩ (.int .i64 co)).setCell ⟨Cx, 1, none⟩ (.slice D3 nl f3)).setCell ⟨Cx, 2, none⟩ (.slice D4 np f4))) := FI.new HX CE BU BP DR BF Ii.out;clear z0 z1 z2 y0 y1 y2;generalize World.setCell (World.setCell (World.setCell wx _ _) _ _) _ _ = wz at *
    go_wp2_with fail
    refine Met.intro (Kz _ _ (qC.back 17 18 ?_ (by kernel_rfl)))
    try dsimp only [gt]
    exact ⟨Cx, f1, f3, f4, D1, D3, D4, rfl, rfl, Fa⟩
   ·go_simp
    refine hK _ _ (fun _ => Hq _ _ AA ((Below.refl wh.heap.size wh).alloc lR (.cells #[.int .i64 0, .slice none 0 0, .slice none 0 0] 29))) fun p => (fun AA => ?_) (p rfl)
    clear p hK K;(try dsimp only at AA);have Bg : Hid (Below wh.heap.size wh (wh.alloc (.cells #[.int .i64 0, .slice none 0 0, .slice none 0 0] 29))) := ((Below.refl wh.heap.size wh).alloc lR (.cells #[.int .i64 0, .slice none 0 0, .slice none 0 0] 29));have GU : Hid (AJ (wh.alloc (.cells #[.int .i64 0, .slice none 0 0, .slice none 0 0] 29)) wh.heap.size 29 #[.int .i64 0, .slice none 0 0, .slice none 0 0]) := AJ.new wh _ _;have Jp : Hid (wg.heap.size ≤ wh.heap.size) := BF.size;have BF := iD (BF.trans (Bg.mono BF.size));have CE := iD (zM CE Bg);generalize World.alloc wh _ = wx at *;obtain ⟨Cx, CV⟩ := eX wh.heap.size;have HX : Hid (AJ wx Cx 29 #[.int .i64 0, .slice none 0 0, .slice none 0 0]) := by rw [CV]; exact GU.out
    have Ii : Hid (wg.heap.size ≤ Cx) := by unfold Hid; rw [CV]; exact Jp.out
    try rw [← CV]
    clear CV GU Jp Bg;refine tb 3 (mf 7 5) fun K hK => ?_
    (go_simp; refine (wW Al Ap nl cl np cp _ co ls pr wx (HH.below (HAS _ AA).bl).h.hl (HH.below (HAS _ AA).bl).h.hp lR (by omega) (by omega)).mono ?_; rintro e wi ⟨D3, D4, f3, f4, rfl, ES, DN, AQ⟩; have DR : Hid (∀ g, (Value.slice D1 n f1).ownBlock = some g → (Value.slice D3 nl f3).ownBlock ≠ some g ∧ (Value.slice D4 np f4).ownBlock ≠ some g) := fun g e1 => ⟨fun e2 => by have h1 := CE.lt g e1; have h2 := ES.lt g e2; omega, fun e2 => by have h1 := CE.lt g e1; have h2 := DN.lt g e2; omega⟩; have BU : Hid (ze wi wg.heap.size D3 nl f3 ls) := World.ownsRow.mono ES BF.size; have BP : Hid (zN wi wg.heap.size D4 np f4 pr) := World.ownsRow.mono DN BF.size; have Bg := iD AQ.out; clear ES DN AQ; go_simp)
    refine hK _ _ (fun _ => Hq _ _ AA Bg.out) fun p => (fun AA => ?_) (p rfl)
    clear p hK K;(try dsimp only at AA);have BF := iD (BF.trans (Bg.mono BF.size));have CE := iD (zM CE Bg);have HX := iD (HX.below Bg HX.lt);clear Bg;refine tk 5 17 (mf 7 6) AA ?_;have Dw := iD AA;obtain ⟨z0, z1, z2⟩ := HX.d3;obtain ⟨y0, y1, y2⟩ := HX.e3;refine tb 6 (mf 7 7) fun K hK => ?_
    go_simp
    refine hK _ _ (fun h => by cases h) (fun _ => ?_)
    try clear AA
    clear hK K;refine tK ?_;have Fa : Hid (FI wg Cx co D1 D3 D4 n f1 nl f3 np f4 s ls pr (((wi.setCell ⟨Cx, 0, none⟩ (.int .i64 co)).setCell ⟨Cx, 1, none⟩ (.slice D3 nl f3)).setCell ⟨Cx, 2, none⟩ (.slice D4 np f4))) := FI.new HX CE BU BP DR BF Ii.out;clear z0 z1 z2 y0 y1 y2;generalize World.setCell (World.setCell (World.setCell wi _ _) _ _) _ _ = wz at *
    go_wp2_with fail
    refine Met.intro (Kz _ _ (qC.back 17 18 ?_ (by kernel_rfl)))
    try dsimp only [gt]
    exact ⟨Cx, f1, f3, f4, D1, D3, D4, rfl, rfl, Fa⟩
  ·go_simp
   refine hK _ _ (fun _ => Hq _ _ JI ((Below.refl wg.heap.size wg).alloc lR (.cells #[.int .i64 0, .slice none 0 0, .slice none 0 0] 29)).drew) fun p => (fun AA => ?_) (p rfl)
   clear p hK K;(try dsimp only at AA);have Bg : Hid (Below wg.heap.size wg (wg.alloc (.cells #[.int .i64 0, .slice none 0 0, .slice none 0 0] 29)).drew) := ((Below.refl wg.heap.size wg).alloc lR (.cells #[.int .i64 0, .slice none 0 0, .slice none 0 0] 29)).drew;have GU : Hid (AJ (wg.alloc (.cells #[.int .i64 0, .slice none 0 0, .slice none 0 0] 29)).drew wg.heap.size 29 #[.int .i64 0, .slice none 0 0, .slice none 0 0]) := AJ.new wg _ _;have Jp : Hid (wg.heap.size ≤ wg.heap.size) := BF.size;have BF := Bg;generalize World.drew (World.alloc wg _) = wx at *;obtain ⟨Cx, CV⟩ := eX wg.heap.size;have HX : Hid (AJ wx Cx 29 #[.int .i64 0, .slice none 0 0, .slice none 0 0]) := by rw [CV]; exact GU.out
   have Ii : Hid (wg.heap.size ≤ Cx) := by unfold Hid; rw [CV]; exact Jp.out
   try rw [← CV]
   clear CV GU Jp Bg;refine tb 1 (ma 7 23) fun K hK => ?_
   (refine zi (d := some 36) (by rfl) (by rfl) _ (.tmp 35) (by rfl) yl (by rfl) (World.ownsRow_nil _ wx.heap.size _ _) (by rfl) (HH.below (HAS _ AA).bl).h.hs (yn _) (by omega) (by omega) lR ?_; intro D1 f1 wh CW Dt FU; simp only [Nat.zero_add, List.nil_append] at CW Dt FU ⊢; have CE : Hid (zN wh wg.heap.size D1 n f1 s) := World.ownsRow.mono CW BF.size; have Bg : Hid (Below wx.heap.size wx wh) := zT Dt; clear CW Dt FU)
   refine hK _ _ (fun _ => Hq _ _ AA Bg.out) fun p => (fun AA => ?_) (p rfl)
   clear p hK K;(try dsimp only at AA);have BF := iD (BF.trans (Bg.mono BF.size));have HX := iD (HX.below Bg HX.lt);clear Bg;refine tb 3 (mf 7 5) fun K hK => ?_
   (go_simp; refine (wW Al Ap nl cl np cp _ co ls pr wh (HH.below (HAS _ AA).bl).h.hl (HH.below (HAS _ AA).bl).h.hp lR (by omega) (by omega)).mono ?_; rintro e wi ⟨D3, D4, f3, f4, rfl, ES, DN, AQ⟩; have DR : Hid (∀ g, (Value.slice D1 n f1).ownBlock = some g → (Value.slice D3 nl f3).ownBlock ≠ some g ∧ (Value.slice D4 np f4).ownBlock ≠ some g) := fun g e1 => ⟨fun e2 => by have h1 := CE.lt g e1; have h2 := ES.lt g e2; omega, fun e2 => by have h1 := CE.lt g e1; have h2 := DN.lt g e2; omega⟩; have BU : Hid (ze wi wg.heap.size D3 nl f3 ls) := World.ownsRow.mono ES BF.size; have BP : Hid (zN wi wg.heap.size D4 np f4 pr) := World.ownsRow.mono DN BF.size; have Bg := iD AQ.out; clear ES DN AQ; go_simp)
   refine hK _ _ (fun _ => Hq _ _ AA Bg.out) fun p => (fun AA => ?_) (p rfl)
   clear p hK K;(try dsimp only at AA);have BF := iD (BF.trans (Bg.mono BF.size));have CE := iD (zM CE Bg);have HX := iD (HX.below Bg HX.lt);clear Bg;refine tk 5 17 (mf 7 6) AA ?_;have Dw := iD AA;obtain ⟨z0, z1, z2⟩ := HX.d3;obtain ⟨y0, y1, y2⟩ := HX.e3;refine tb 6 (mf 7 7) fun K hK => ?_
   go_simp
   refine hK _ _ (fun h => by cases h) (fun _ => ?_)
   try clear AA
   clear hK K;refine tK ?_;have Fa : Hid (FI wg Cx co D1 D3 D4 n f1 nl f3 np f4 s ls pr (((wi.setCell ⟨Cx, 0, none⟩ (.int .i64 co)).setCell ⟨Cx, 1, none⟩ (.slice D3 nl f3)).setCell ⟨Cx, 2, none⟩ (.slice D4 np f4))) := FI.new HX CE BU BP DR BF Ii.out;clear z0 z1 z2 y0 y1 y2;generalize World.setCell (World.setCell (World.setCell wi _ _) _ _) _ _ = wz at *
   go_wp2_with fail
   refine Met.intro (Kz _ _ (qC.back 17 18 ?_ (by kernel_rfl)))
   try dsimp only [gt]
   exact ⟨Cx, f1, f3, f4, D1, D3, D4, rfl, rfl, Fa⟩
 case rest0 =>
  intro Bj BG Bo wc a hcut ha;dsimp only [zY, Go.Proofs.YtddddlhgaeameaaGreatDoor.v2, Nat.reduceAdd] at ha;subst ha;obtain ⟨x, f1, f3, f4, D1, D3, D4, rfl, rfl, Cg⟩ := hcut;have NJ : Hid (PV w wg #[.slice An nn cn, .slice Ad nd cd] #[.int .i64 co, .slice Al nl cl, .slice Ap np cp] #[.string nm, .slice Ax nx cx] x co none D1 D3 D4 0 0 n f1 nl f3 np f4 [] ⟨s, ls, pr⟩ wc) := ⟨HAS _ (Hq _ _ JI Cg.bl), Cg.fin, World.ownsRow_nil _ _ _ _, Cg.bl.size, Cg.hx⟩;clear JI HAS Hq Cg;obtain ⟨R, hR⟩ := eX (yU ns ds co Bw 0 [] ⟨s, ls, pr⟩ xs);have Il := iD hR;clear hR;go_upto_region 7 with (fail)
  refine nT [(9, 0), (1, 1), (0, 0), (1, 1), (0, 0), (0, 2), (0, 3), (0, 0), (0, 4), (5, 1), (12, 0), (62, 1), (5, 0)] 16 17 19 (nx) (RrL w wg (#[.slice An nn cn, .slice Ad nd cd]) (#[.int .i64 co, .slice Al nl cl, .slice Ap np cp]) (#[.string nm, .slice Ax nx cx]) x ns ds co Bw xs R nx) (by (try dsimp only [gt]); exact ⟨0, 0, 0, n, f1, nl, f3, np, f4, none, D1, D3, D4, ⟨s, ls, pr⟩, [], rfl, rfl, rfl, Nat.zero_le _, rfl, by omega, NJ, BR.1, Il.symm⟩) (by kernel_rfl) ?_;intro u1 p16 BG Bn gk wr a hrel ha J1 K1 Dk Ky;dsimp only [zY, Go.Proofs.YtddddlhgaeameaaGreatDoor.v3, Nat.reduceAdd] at ha;subst ha;clear NJ;obtain ⟨i, mo, cy, n2, c2, ml, dl, mp, dp, Ao, A2, Bl, Bp, t, out, rfl, rfl, rfl, Bv, rfl, UQ, HM, HT, QV⟩ := hrel;by_cases hlt : i < nx; rotate_left
  ·obtain rfl : i = nx := by omega
   have Ck : decide (i < i) = false := by simp
   have RX : Hid (yU ns ds co Bw 0 [] ⟨s, ls, pr⟩ xs = (out, t, i)) := (Il.symm.trans QV.symm).trans (qH (by omega));have e1 := HM.b.b2.cell 1;go_upto_region 20 with (fail);clear Ck e1;have BI := iD (HM.fin FW);have DR : Hid (x ≠ w.heap.size + 3) := by have := HM.hx; have := FW.out; unfold Hid; omega
   obtain ⟨d0, d1, d2⟩ := HM.b.b3.d3;obtain ⟨y0, y1, y2⟩ := HM.b.b3.e3;refine fX (fun W' => ((W'.cell? ⟨x, 0, none⟩ = some (.int .i64 co) ∧ W'.cell? ⟨x, 1, none⟩ = some (.slice Bl ml dl)) ∧ W'.cell? ⟨x, 2, none⟩ = some (.slice Bp mp dp)) ∧ W'.cell? ⟨w.heap.size + 2, 1, none⟩ = some (.slice Ax i cx)) [9, 10] ?_ fun AA => ?_
   ·exact ⟨⟨⟨HM.r.bx.cell 0, HM.r.bx.cell 1⟩, HM.r.bx.cell 2⟩, HM.b.b2.cell 1⟩
   try dsimp only at AA
   refine tk 0 102 (mf 11 1) AA ?_;refine tk 1 103 (mf 11 2) AA ?_;refine tk 2 104 (mf 11 3) AA ?_;refine tk 3 105 (mf 11 4) AA ?_;refine tk 4 106 (mf 11 5) AA ?_;refine tk 5 107 (mf 11 6) AA ?_;refine tk 6 10 (mf 11 7) AA ?_;refine tk 7 11 (mf 11 8) AA ?_;refine tb 8 (mf 11 9) fun K hK => ?_
   go_simp
   refine hK _ _ (fun _ => ⟨⟨⟨(zU HM.r.bx DR).cell 0, (zU HM.r.bx DR).cell 1⟩, (zU HM.r.bx DR).cell 2⟩, (zU HM.b.b2 (by simp)).cell 1⟩) fun p => (fun AA => ?_) (p rfl)
   clear p hK K;(try dsimp only at AA);refine tb 9 (mf 11 10) fun K hK => ?_
   go_simp
   refine hK _ _ (fun h => by cases h) (fun _ => ?_)
   try clear AA
   clear hK K;refine tb 10 (mf 11 11) fun K hK => ?_
   go_simp
   refine hK _ _ (fun h => by cases h) (fun _ => ?_)
   try clear AA
   clear hK K;refine tK ?_;clear d0 d1 d2 y0 y1 y2
   go_wp2_with fail
   generalize World.drew (World.setCell (World.setCell (World.setCell wr _ _) _ _) _ _) = z at *;obtain ⟨q0, q1, q2⟩ := BI.1.d3;exact bodyPost_ret (v := .tuple #[.slice Ao mo cy, .slice A2 n2 c2, .agg #[.int .i64 co, .slice Bl ml dl, .slice Bp mp dp], .int .i64 i, .int .i64 0]) (by simp [results, results22, go_sem, q0, q1, q2]) rfl ⟨.inr ⟨CJ.symm, _, _, _, _, _, _, _, _, _, _, _, _, by rw [RX.out], by rw [RX.out]; exact BI.2.2⟩, BI.2.1⟩
  obtain ⟨be, oe, y, NC, DZ, hy, hc⟩ := (HH.below HM.b.bl).x.at (fun _ => rfl) (by decide) hlt;have Wp : Hid (zc ns.length ds.length y = 0) := vS BR.2.2.2 y (List.mem_of_getElem? hy);obtain ⟨k, d, no, p, q⟩ := y;have HY := iD hy;have a0 : wr.cell? ⟨be, oe + i * 5, none⟩ = some (.int .i64 k) := hc 0 _ rfl;have a1 : wr.cell? ⟨be, oe + i * 5 + 1, none⟩ = some (.int .i64 d) := hc 1 _ rfl;have a2 : wr.cell? ⟨be, oe + i * 5 + 2, none⟩ = some (.int .i64 no) := hc 2 _ rfl;have a3 : wr.cell? ⟨be, oe + i * 5 + 3, none⟩ = some (.int .i64 p) := hc 3 _ rfl;have a4 : wr.cell? ⟨be, oe + i * 5 + 4, none⟩ = some (.int .i64 q) := hc 4 _ rfl;have Ba : Hid (Ax = some ⟨be, oe, none⟩) := NC;have e1 := HM.b.b2.c1;rw [Ba.out] at e1
  clear hy DZ hc NC;have Ck : decide (i < nx) = true := by simpa using hlt
  go_upto_region 10 with (fail);clear a0 a1 a2 a3 a4 e1 Ck;have KV := iD (HM.later ((Below.refl _ wr).alloc lR (.cells #[.int .i64 k, .int .i64 d, .int .i64 no, .int .i64 p, .int .i64 q] 31)));have Ar := iD (AJ.new wr 31 #[.int .i64 k, .int .i64 d, .int .i64 no, .int .i64 p, .int .i64 q]);clear HM;generalize World.alloc wr _ = wq at *;generalize wr.heap.size = Cx at *;refine lT [(38, 0), (24, 1), (0, 2), (36, 1), (5, 0)] (gy wq (uY Bw ⟨k, d, no, p, q⟩)) ?rest2 ?first2
  case first2 =>
   intro CM CK WF BW;obtain ⟨t0, t1⟩ := Ar.d2;by_cases hop : k = 1 ∨ k = 2; rotate_left
   ·have q1 : (k == 1) = false := by simp; omega
    have q2 : (k == 2) = false := by simp; omega
    go_wp2_with fail
    refine Met.intro (WF _ _ (kP.back 64 ?_ (by kernel_rfl)))
    try dsimp only [gt]
    exact ⟨by unfold uY; simp [show k ≠ 1 by omega, show k ≠ 2 by omega], rfl⟩
   rcases hop with rfl | rfl
   all_goals
    go_wp2_with fail
    refine (tN A5 n5 c5 Bw d wq (((H5.below KV.b.bl lR).more KV.b.bl.size))).mono ?_;rintro e w2 ⟨rfl, rfl⟩
    go_wp2_with fail
    refine Met.intro (WF _ _ (kP.back 64 ?_ (by kernel_rfl)))
    try dsimp only [gt]
    exact ⟨by unfold uY; simp, rfl⟩
  case rest2 =>
   intro Bf p64 wc a hcut ha;dsimp only [zY, Go.Proofs.YtddddlhgaeameaaGreatDoor.v1, Nat.reduceAdd] at ha;subst ha;obtain ⟨rfl, rfl⟩ := hcut;rcases Oz : uY Bw ⟨k, d, no, p, q⟩ with _ | _; rotate_left
   ·have RX : Hid (yU ns ds co Bw 0 [] ⟨s, ls, pr⟩ xs = (out, t, i)) := (Il.symm.trans QV.symm).trans (sL HY Oz);have HM := KV;clear Oz KV Ar;go_upto_region 11 with (fail);have BI := iD (HM.fin FW);have DR : Hid (x ≠ w.heap.size + 3) := by have := HM.hx; have := FW.out; unfold Hid; omega
    obtain ⟨d0, d1, d2⟩ := HM.b.b3.d3;obtain ⟨y0, y1, y2⟩ := HM.b.b3.e3;refine fX (fun W' => (W'.cell? ⟨x, 0, none⟩ = some (.int .i64 co) ∧ W'.cell? ⟨x, 1, none⟩ = some (.slice Bl ml dl)) ∧ W'.cell? ⟨x, 2, none⟩ = some (.slice Bp mp dp)) [7, 8] ?_ fun AA => ?_
    ·exact ⟨⟨HM.r.bx.cell 0, HM.r.bx.cell 1⟩, HM.r.bx.cell 2⟩
    try dsimp only at AA
    refine tk 0 65 (mf 9 1) AA ?_;refine tk 1 66 (mf 9 2) AA ?_;refine tk 2 67 (mf 9 3) AA ?_;refine tk 3 68 (mf 9 4) AA ?_;refine tk 4 10 (mf 9 5) AA ?_;refine tk 5 11 (mf 9 6) AA ?_;refine tb 6 (mf 9 7) fun K hK => ?_
    go_simp
    refine hK _ _ (fun _ => ⟨⟨(zU HM.r.bx DR).cell 0, (zU HM.r.bx DR).cell 1⟩, (zU HM.r.bx DR).cell 2⟩) fun p => (fun AA => ?_) (p rfl)
    clear p hK K;(try dsimp only at AA);refine tb 7 (mf 9 8) fun K hK => ?_
    go_simp
    refine hK _ _ (fun h => by cases h) (fun _ => ?_)
    try clear AA
    clear hK K;refine tb 8 (mf 9 9) fun K hK => ?_
    go_simp
    refine hK _ _ (fun h => by cases h) (fun _ => ?_)
    try clear AA
    clear hK K;refine tK ?_;clear d0 d1 d2 y0 y1 y2
    go_wp2_with fail
    generalize World.drew (World.setCell (World.setCell (World.setCell wc _ _) _ _) _ _) = z at *;obtain ⟨q0, q1, q2⟩ := BI.1.d3;exact bodyPost_ret (v := .tuple #[.slice Ao mo cy, .slice A2 n2 c2, .agg #[.int .i64 co, .slice Bl ml dl, .slice Bp mp dp], .int .i64 i, .int .i64 0]) (by simp [results, results22, go_sem, q0, q1, q2]) rfl ⟨.inr ⟨CJ.symm, _, _, _, _, _, _, _, _, _, _, _, _, by rw [RX.out], by rw [RX.out]; exact BI.2.2⟩, BI.2.1⟩
   have Ff := iD Oz;clear Oz;have k0 : wc.cell? ⟨w.heap.size, 0, none⟩ = some (.slice An nn cn) := KV.b.b0.cell 0; have k1 : wc.cell? ⟨w.heap.size, 1, none⟩ = some (.slice Ad nd cd) := KV.b.b0.cell 1;obtain ⟨t0, t1, t2, t3, t4⟩ := Ar.d5;obtain ⟨b0, b1, b2⟩ := KV.r.bx.d3
   go_wp2_with fail
   clear k0 k1 t0 t1 t2 t3 t4 b0 b1 b2 Ar;have VA := iD ((HH.below KV.b.bl).h);refine (qO An Ad A2 Bl Bp nn cn nd cd n2 c2 ml dl mp dp ns ds t.s t.ls t.pr co k d no p q wc ⟨VA.hn, VA.hd, KV.r.s, KV.r.l, KV.r.p, VA.la, VA.sn, VA.sd⟩ HT BR.2.1 Wp).mono ?_;rintro e w3 ⟨A1, A2', A3, A4, n1, c1, n2', c2', n3, c3, n4, c4, rfl, RG, Uh, BJ⟩;obtain ⟨T, hT⟩ := eX (za ns ds co t ⟨k, d, no, p, q⟩);have AZ : za ns ds co ⟨t.s, t.ls, t.pr⟩ ⟨k, d, no, p, q⟩ = T := hT.symm;rw [AZ] at RG ⊢;have Dw := iD hT;clear hT AZ;go_upto_region 14 with (fail);have Gi := iD Uh.out;have TC : Hid (x < wc.heap.size ∧ wg.heap.size ≤ wc.heap.size) := ⟨KV.r.bx.lt, KV.gl⟩;have BQ : T.h.length = n1 := RG.h.len (fun _ => rfl) (by decide);have BO : n1 ≤ 8 := by have := tF ns ds co t ⟨k, d, no, p, q⟩; rw [← Dw.out] at this; omega
   have Di := KV.hx;have HK := iD (KV.step (BJ.alloc BJ.size (.cells #[.int .i64 co, .slice A3 n3 c3, .slice A4 n4 c4] 29)) (RG.later ((Below.refl _ w3).alloc lR _)) Uh (AJ.new w3 29 #[.int .i64 co, .slice A3 n3 c3, .slice A4 n4 c4]));clear RG Uh BJ KV VA;generalize World.alloc w3 _ = w4 at *;generalize w3.heap.size = Ja at *;refine si [(15, 0), (0, 2), (7, 0), (0, 3), (52, 0), (14, 1), (13, 0)] 16 25 (n1) (RrJ w wg (#[.slice An nn cn, .slice Ad nd cd]) (#[.int .i64 co, .slice Al nl cl, .slice Ap np cp]) (#[.string nm, .slice Ax nx cx]) (#[.int .i64 co, .slice Bl ml dl, .slice Bp mp dp]) x Ja co A1 A2' A3 A4 mo n1 c1 n2' c2' n3 c3 n4 c4 out T i) (by (try dsimp only [gt]); exact ⟨0, cy, Ao, rfl, rfl, Nat.zero_le _, rfl, by unfold Hid; simpa [yD] using HK.out⟩) (by kernel_rfl) ?_;intro u3 p16 p25 gk wr a hrel ha J3 K3 BZ CB
   dsimp only [zY, Go.Proofs.YtddddlhgaeameaaGreatDoor.v2, Nat.reduceAdd] at ha;subst ha;clear HK;obtain ⟨j, cy, Ao, rfl, rfl, hj, rfl, HK⟩ := hrel;by_cases SY : j < n1
   ·obtain ⟨b1, o1, zh, Ew, AX, hz, Lp⟩ := HK.a.h.at1 SY;have HZ := iD hz;subst Ew;clear hz AX;have q1 : decide (j < n1) = true := by simpa using SY
    have AO := iD (HK.later ((Below.refl _ wr).alloc lR (.cells #[.int .i64 i, .int .i64 zh] 95)));have UY := AO.gl
    go_wp2_with (at_builtin; go_must (refine zL rfl (.tmp 85) (.tmp 92) rfl lE (by rfl) AO.o (by rfl) (Sl.newest (n := 1) rfl rfl (by decide)) (by simp [Value.oneCell']) (by omega) (by omega) UY ?_; intro A' cz w7 BH Be DL; have JX : Hid (OT w wg (#[.slice An nn cn, .slice Ad nd cd]) (#[.int .i64 co, .slice Al nl cl, .slice Ap np cp]) (#[.string nm, .slice Ax nx cx]) (#[.int .i64 co, .slice Bl ml dl, .slice Bp mp dp]) x Ja co A' _ A2' A3 A4 (mo + j + 1) cz n1 c1 n2' c2' n3 c3 n4 c4 ((out ++ yD i (T.h.take j)) ++ [⟨i, zh⟩]) T w7) := AO.app FW Be DL BH; clear BH Be DL))
    rw [List.append_assoc, ← jU HZ.out] at JX;refine Handed.intro (n1 - (j + 1)) (by omega) (BZ _ _ _ (mX.back 16 25 ?_ (by kernel_rfl)));dsimp only [gt];exact ⟨j + 1, cz, A', rfl, by go_num, by omega, rfl, JX⟩
   obtain rfl : j = n1 := by omega
   have q1 : decide (j < j) = false := by simp
   have Aj : Hid (T.h.take j = T.h) := List.take_of_length_le (by omega);rw [Aj.out] at HK;have AH : mo + j ≤ 8 * (i + 1) := by omega
   generalize mo + j = mo at *;obtain ⟨v0, v1, v2⟩ := HK.bx.d3;obtain ⟨y0, y1, y2⟩ := HK.bx.e3;have Dm := iD ((HK.put FW Gi TC.2 Di TC.1).later (Below.refl _ _).drew);go_upto_region 17 with (fail);refine fX (fun W' => (W'.cell? ⟨Ja, 0, none⟩ = some (.int .i64 co) ∧ W'.cell? ⟨Ja, 1, none⟩ = some (.slice A3 n3 c3)) ∧ W'.cell? ⟨Ja, 2, none⟩ = some (.slice A4 n4 c4)) [3] ?_ fun AA => ?_
   ·exact ⟨⟨HK.bv.cell 0, HK.bv.cell 1⟩, HK.bv.cell 2⟩
   try dsimp only at AA
   refine tk 0 94 (mf 4 1) AA ?_;refine tk 1 95 (mf 4 2) AA ?_;refine tk 2 17 (mf 4 3) AA ?_;refine tb 3 (mf 4 4) fun K hK => ?_
   go_simp
   refine hK _ _ (fun h => by cases h) (fun _ => ?_)
   try clear AA
   clear hK K;refine tK ?_;clear v0 v1 v2 y0 y1 y2 q1 Aj;generalize World.drew (World.setCell (World.setCell (World.setCell wr _ _) _ _) _ _) = wz at *;have Bb : Hid (ua ns ds T.t) := by unfold Hid; rw [Dw.out]; exact me HT Wp.out
   rcases hko : T.ok with _ | _
   ·have RX : Hid (yU ns ds co Bw 0 [] ⟨s, ls, pr⟩ xs = (out ++ yD i T.h, T.t, i)) := (Il.symm.trans QV.symm).trans (by rw [rD HY.out Ff.out (by rw [← Dw.out]; exact hko), ← Dw.out]);have HM := Dm;clear hko Dm HK;go_upto_region 19 with (fail);have BI := iD (HM.fin FW);have DR : Hid (x ≠ w.heap.size + 3) := by have := HM.hx; have := FW.out; unfold Hid; omega
    obtain ⟨d0, d1, d2⟩ := HM.b.b3.d3;obtain ⟨y0, y1, y2⟩ := HM.b.b3.e3;refine fX (fun W' => (W'.cell? ⟨x, 0, none⟩ = some (.int .i64 co) ∧ W'.cell? ⟨x, 1, none⟩ = some (.slice A3 n3 c3)) ∧ W'.cell? ⟨x, 2, none⟩ = some (.slice A4 n4 c4)) [7, 8] ?_ fun AA => ?_
    ·exact ⟨⟨HM.r.bx.cell 0, HM.r.bx.cell 1⟩, HM.r.bx.cell 2⟩
    try dsimp only at AA
    refine tk 0 98 (mf 9 1) AA ?_;refine tk 1 99 (mf 9 2) AA ?_;refine tk 2 100 (mf 9 3) AA ?_;refine tk 3 101 (mf 9 4) AA ?_;refine tk 4 10 (mf 9 5) AA ?_;refine tk 5 11 (mf 9 6) AA ?_;refine tb 6 (mf 9 7) fun K hK => ?_
    go_simp
    refine hK _ _ (fun _ => ⟨⟨(zU HM.r.bx DR).cell 0, (zU HM.r.bx DR).cell 1⟩, (zU HM.r.bx DR).cell 2⟩) fun p => (fun AA => ?_) (p rfl)
    clear p hK K;(try dsimp only at AA);refine tb 7 (mf 9 8) fun K hK => ?_
    go_simp
    refine hK _ _ (fun h => by cases h) (fun _ => ?_)
    try clear AA
    clear hK K;refine tb 8 (mf 9 9) fun K hK => ?_
    go_simp
    refine hK _ _ (fun h => by cases h) (fun _ => ?_)
    try clear AA
    clear hK K;refine tK ?_;clear d0 d1 d2 y0 y1 y2
    go_wp2_with fail
    generalize World.drew (World.setCell (World.setCell (World.setCell wz _ _) _ _) _ _) = z at *;obtain ⟨q0, q1, q2⟩ := BI.1.d3;exact bodyPost_ret (v := .tuple #[.slice Ao mo cy, .slice A2' n2' c2', .agg #[.int .i64 co, .slice A3 n3 c3, .slice A4 n4 c4], .int .i64 i, .int .i64 0]) (by simp [results, results22, go_sem, q0, q1, q2]) rfl ⟨.inr ⟨CJ.symm, _, _, _, _, _, _, _, _, _, _, _, _, by rw [RX.out], by rw [RX.out]; exact BI.2.2⟩, BI.2.1⟩
   have KS : Hid (yU ns ds co Bw (i + 1) (out ++ yD i T.h) T.t (xs.drop (i + 1)) = R) := by
    have h := QV.out;rw [sM HY.out Ff.out (by rw [← Dw.out]; exact hko), ← Dw.out] at h;exact h
   clear hko HK
   go_wp2_with fail
   refine Handed.intro (nx - (i + 1)) (by omega) (Dk _ _ _ (jl.back 16 17 19 ?_ (by kernel_rfl)));dsimp only [gt];exact ⟨i + 1, mo, cy, n2', c2', n3, c3, n4, c4, Ao, A2', A3, A4, T.t, out ++ yD i T.h, rfl, rfl, by go_num, by omega, rfl, AH, Dm, Bb, KS⟩
def Kl : List Nd := [⟨⟨#[65]⟩, 0, 0⟩, ⟨⟨#[66]⟩, 0, 0⟩]
def LC : List Dv := [⟨⟨#[81]⟩, 2, 0, 1, 0⟩, ⟨⟨#[69]⟩, 4, 1, -1, 0⟩]
def Ox : List Sp := [⟨1, 0, 0, 0, 0⟩, ⟨5, 0, 1, 0, 0⟩, ⟨2, 1, 0, 0, 0⟩]
theorem pW : FO Kl ∧ (∀ x ∈ LC, x.name.size ≤ 9223372036854775807) := by
 constructor <;> intro x hx <;> simp [Kl, LC] at hx <;> rcases hx with rfl | rfl <;> decide
theorem smE : yE Kl LC [2, 1] 0 [] [] ⟨#[80]⟩ Ox = 0 := by decide
theorem gM : yU Kl LC 0 [0] 0 [] ⟨[2, 1], [], []⟩ Ox = ([], ⟨[2, 1], [], []⟩, 0) := by unfold Ox; rw [yU, if_pos (by decide)]
theorem gL : ∃ out pr, yU Kl LC 0 [] 0 [] ⟨[2, 1], [], []⟩ Ox = (out, ⟨[1, 2], [], pr⟩, 3) := by
 have e1 : za Kl LC 0 ⟨[2, 1], [], []⟩ ⟨1, 0, 0, 0, 0⟩ = ⟨FP Kl LC [2, 1] 0 1 0 [] [], ⟨[1, 1], [], []⟩, true⟩ := by rw [tG _ _ _ _ _ _ _ _ (.inl rfl)]; rfl
 obtain ⟨h2, AG, e2⟩ : ∃ h2 AG, za Kl LC 0 ⟨[1, 1], [], []⟩ ⟨5, 0, 1, 0, 0⟩ = ⟨h2, ⟨[1, 1], [], AG⟩, true⟩ := by
  rw [oD]; split
  ·exact ⟨_, _, rfl⟩
  ·exact ⟨_, _, rfl⟩
 obtain ⟨h3, AE, e3⟩ : ∃ h3 AE, za Kl LC 0 ⟨[1, 1], [], AG⟩ ⟨2, 1, 0, 0, 0⟩ = ⟨h3, ⟨[1, 2], [], AE⟩, true⟩ := by
  rw [tG _ _ _ _ _ _ _ _ (.inr rfl)]; exact ⟨_, _, rfl⟩
 refine ⟨[] ++ yD 0 (FP Kl LC [2, 1] 0 1 0 [] []) ++ yD 1 h2 ++ yD 2 h3, AE, ?_⟩;unfold Ox;rw [yU, if_neg (by decide), e1, if_pos rfl, yU, if_neg (by decide), e2, if_pos rfl, yU, if_neg (by decide), e3, if_pos rfl, yU] <;> rfl
structure UC (w wr : World) : Prop where
 bn : AJ wr (w.heap.size + 2) 26 #[.slice (some ⟨w.heap.size, 0, none⟩) 2 2, .slice (some ⟨w.heap.size + 1, 0, none⟩) 2 2]
 bp : AJ wr (w.heap.size + 4) 34 #[.string ⟨#[80]⟩, .slice (some ⟨w.heap.size + 3, 0, none⟩) 3 3]
 sn : Av wr 3 (some ⟨w.heap.size, 0, none⟩) 2 2 (Kl.flatMap Nd.cells)
 sd : Av wr 5 (some ⟨w.heap.size + 1, 0, none⟩) 2 2 (LC.flatMap Dv.cells)
 sx : Av wr 5 (some ⟨w.heap.size + 3, 0, none⟩) 3 3 (Ox.flatMap Sp.cells)
 bl : bW w wr
 la : yr wr
theorem UC.later {w wr wr' : World} (h : UC w wr) (hb : bW wr wr') : UC w wr' :=
 ⟨h.bn.below hb h.bn.lt, h.bp.below hb h.bp.lt, (h.sn.below hb lR).more hb.size, (h.sd.below hb lR).more hb.size, (h.sx.below hb lR).more hb.size, h.bl.trans (hb.mono h.bl.size), h.la.below hb lR⟩
theorem UC.mk0 (w : World) (hl : yr w) : UC w (((((w.alloc (.cells #[.string ⟨#[65]⟩, .int .i64 0, .int .i64 0, .string ⟨#[66]⟩, .int .i64 0, .int .i64 0] 73)).alloc (.cells #[.string ⟨#[81]⟩, .int .i64 2, .int .i64 0, .int .i64 1, .int .i64 0, .string ⟨#[69]⟩, .int .i64 4, .int .i64 1, .int .i64 (-1), .int .i64 0] 75)).alloc (.cells #[.slice (some ⟨w.heap.size, 0, none⟩) 2 2, .slice (some ⟨w.heap.size + 1, 0, none⟩) 2 2] 26)).alloc (.cells #[.int .i64 1, .int .i64 0, .int .i64 0, .int .i64 0, .int .i64 0, .int .i64 5, .int .i64 0, .int .i64 1, .int .i64 0, .int .i64 0, .int .i64 2, .int .i64 1, .int .i64 0, .int .i64 0, .int .i64 0] 31)).alloc (.cells #[.string ⟨#[80]⟩, .slice (some ⟨w.heap.size + 1 + 1 + 1, 0, none⟩) 3 3] 34)) := by
 obtain ⟨h0, h1, h2, h3, h4⟩ := kF w 73 75 26 31 #[.string ⟨#[65]⟩, .int .i64 0, .int .i64 0, .string ⟨#[66]⟩, .int .i64 0, .int .i64 0] #[.string ⟨#[81]⟩, .int .i64 2, .int .i64 0, .int .i64 1, .int .i64 0, .string ⟨#[69]⟩, .int .i64 4, .int .i64 1, .int .i64 (-1), .int .i64 0] #[.slice (some ⟨w.heap.size, 0, none⟩) 2 2, .slice (some ⟨w.heap.size + 1, 0, none⟩) 2 2] #[.int .i64 1, .int .i64 0, .int .i64 0, .int .i64 0, .int .i64 0, .int .i64 5, .int .i64 0, .int .i64 1, .int .i64 0, .int .i64 0, .int .i64 2, .int .i64 1, .int .i64 0, .int .i64 0, .int .i64 0]
 have BV := (((hl.alloc (.cells #[.string ⟨#[65]⟩, .int .i64 0, .int .i64 0, .string ⟨#[66]⟩, .int .i64 0, .int .i64 0] 73)).alloc (.cells #[.string ⟨#[81]⟩, .int .i64 2, .int .i64 0, .int .i64 1, .int .i64 0, .string ⟨#[69]⟩, .int .i64 4, .int .i64 1, .int .i64 (-1), .int .i64 0] 75)).alloc (.cells #[.slice (some ⟨w.heap.size, 0, none⟩) 2 2, .slice (some ⟨w.heap.size + 1, 0, none⟩) 2 2] 26)).alloc (.cells #[.int .i64 1, .int .i64 0, .int .i64 0, .int .i64 0, .int .i64 0, .int .i64 5, .int .i64 0, .int .i64 1, .int .i64 0, .int .i64 0, .int .i64 2, .int .i64 1, .int .i64 0, .int .i64 0, .int .i64 0] 31)
 have hz : ((((w.alloc (.cells #[.string ⟨#[65]⟩, .int .i64 0, .int .i64 0, .string ⟨#[66]⟩, .int .i64 0, .int .i64 0] 73)).alloc (.cells #[.string ⟨#[81]⟩, .int .i64 2, .int .i64 0, .int .i64 1, .int .i64 0, .string ⟨#[69]⟩, .int .i64 4, .int .i64 1, .int .i64 (-1), .int .i64 0] 75)).alloc (.cells #[.slice (some ⟨w.heap.size, 0, none⟩) 2 2, .slice (some ⟨w.heap.size + 1, 0, none⟩) 2 2] 26)).alloc (.cells #[.int .i64 1, .int .i64 0, .int .i64 0, .int .i64 0, .int .i64 0, .int .i64 5, .int .i64 0, .int .i64 1, .int .i64 0, .int .i64 0, .int .i64 2, .int .i64 1, .int .i64 0, .int .i64 0, .int .i64 0] 31)).heap.size = w.heap.size + 4 := by simp
 generalize World.alloc (World.alloc (World.alloc (World.alloc w _) _) _) _ = W at *;have h5 := AJ.new W 34 #[.string ⟨#[80]⟩, .slice (some ⟨w.heap.size + 1 + 1 + 1, 0, none⟩) 3 3];rw [hz] at h5
 have sb : ∀ {g : Nat} {T : TypeId} {cs : Array Value} {n size : Nat} {xs : List Value}, AJ W g T cs → cs.toList = xs → cs.size = n * size → n ≤ 100 → Sl (W.alloc (.cells #[.string ⟨#[80]⟩, .slice (some ⟨w.heap.size + 1 + 1 + 1, 0, none⟩) 3 3] 34)) (W.alloc (.cells #[.string ⟨#[80]⟩, .slice (some ⟨w.heap.size + 1 + 1 + 1, 0, none⟩) 3 3] 34)).heap.size size (some ⟨g, 0, none⟩) n n xs := fun {g T cs n size xs} hb he hc hn => by
  subst he;have AQ := hb.alloc (.cells #[.string ⟨#[80]⟩, .slice (some ⟨w.heap.size + 1 + 1 + 1, 0, none⟩) 3 3] 34);refine ⟨by simpa using hc, Nat.le_refl _, by omega, (fun e => by cases e), fun _ => ⟨g, 0, rfl, AQ.lt, fun j u hu => ?_⟩⟩;rw [Nat.zero_add, AQ.cell]; simpa using hu
 exact ⟨h2.alloc _, h5, sb h0 rfl rfl (by decide), sb h1 rfl rfl (by decide), sb h3 rfl rfl (by decide), h4.alloc (by omega) _, BV.alloc _⟩
theorem xc (w : World) (hl : yr w) : Calls prog 8 #[] w fun e w' => e = .returned (.bool true) ∧ bW w w' := by
 have Xi := iD (UC.mk0 w hl);clear hl
 go_enter func8, ntmps8
 go_upto_region 3 with (fail);generalize World.alloc (World.alloc (World.alloc (World.alloc (World.alloc w _) _) _) _) _ = W at *;rw [show w.heap.size + 1 + 1 = w.heap.size + 2 from rfl, show w.heap.size + 2 + 1 = w.heap.size + 3 from rfl, show w.heap.size + 3 + 1 = w.heap.size + 4 from rfl];obtain ⟨k0, k1⟩ := Xi.bn.d2;obtain ⟨p0, p1⟩ := Xi.bp.d2;have hlt := Xi.bp.lt
 go_wp2_with fail
 clear k0 k1 p0 p1 hlt;have Ri : Hid (UC w ((W.alloc (.cells #[.int .i64 2, .int .i64 1] 3)).alloc (.cells #[.int .i64 0] 3))) := Xi.later (((Below.refl _ _).alloc lR _).alloc (by simp) _);have BD : Hid (Sl ((W.alloc (.cells #[.int .i64 2, .int .i64 1] 3)).alloc (.cells #[.int .i64 0] 3)) ((W.alloc (.cells #[.int .i64 2, .int .i64 1] 3)).alloc (.cells #[.int .i64 0] 3)).heap.size 1 (some ⟨W.heap.size, 0, none⟩) 2 2 (zF [2, 1])) := (Sl.alloc (B := W.heap.size + 1) (Sl.newest (n := 2) (size := 1) rfl rfl (by decide)) (by simp) _).more (by simp);have DV : Hid (Sl ((W.alloc (.cells #[.int .i64 2, .int .i64 1] 3)).alloc (.cells #[.int .i64 0] 3)) ((W.alloc (.cells #[.int .i64 2, .int .i64 1] 3)).alloc (.cells #[.int .i64 0] 3)).heap.size 1 (some ⟨W.heap.size + 1, 0, none⟩) 1 1 (zF [0])) := (Sl.newest (H := W.heap.size + 1) (n := 1) (size := 1) (by simp) rfl (by decide)).more (by simp)
 generalize World.alloc (World.alloc W _) _ = w1 at *;have ED : Hid (uf w1 (some ⟨w.heap.size, 0, none⟩) (some ⟨w.heap.size + 1, 0, none⟩) (some ⟨W.heap.size, 0, none⟩) none none (some ⟨w.heap.size + 3, 0, none⟩) 2 2 2 2 2 2 0 0 0 0 3 3 Kl LC [2, 1] [] [] ⟨#[80]⟩ Ox) := ⟨⟨Ri.sn, Ri.sd, BD, Sl.nil _ _ _, Sl.nil _ _ _, Ri.la, pW.1, pW.2⟩, Ri.sx, by decide⟩;clear Xi;refine (pn _ _ _ _ _ _ _ 2 2 2 2 2 2 0 0 0 0 3 3 1 1 Kl LC [2, 1] [] [] 0 ⟨#[80]⟩ Ox [0] w1 ED DV).mono ?_;rintro e w2 ⟨⟨h1, -⟩ | ⟨-, A1, A2, A3, A4, n1, c1, n2, c2, n3, c3, n4, c4, rfl, hR⟩, AQ⟩
 ·exact absurd smE h1
 rw [gM] at hR ⊢;have Az := iD (Ri.later AQ);obtain rfl : 0 = n1 := hR.o.len (f := Fn.cells) (fun _ => rfl) (by decide);obtain rfl : 0 = n4 := hR.p.len (l := []) (f := fun z => [Value.int .i64 z]) (fun _ => rfl) (by decide);have Db := iD hR.s;clear hR AQ Ri BD DV ED;dsimp only at Db;go_upto_region 4 with (fail);have LW := iD (AJ.new w2 29 #[.int .i64 0, .slice A3 n3 c3, .slice A4 0 c4]);have CS : Hid (Below w2.heap.size w2 (w2.alloc (.cells #[.int .i64 0, .slice A3 n3 c3, .slice A4 0 c4] 29))) := (Below.refl _ _).alloc lR _;have Xh := iD (Az.later CS);have EG := iD ((Db.below CS lR).more CS.size);clear Az Db CS;generalize World.alloc w2 _ = w3 at *;obtain ⟨gb, GN⟩ := eX w2.heap.size;rw [← GN] at LW ⊢;clear GN;obtain ⟨k0, k1⟩ := Xh.bn.d2;obtain ⟨p0, p1⟩ := Xh.bp.d2;have hlt := Xh.bp.lt
 go_wp2_with fail
 clear k0 k1 p0 p1 hlt;have Bu : Hid (Below w3.heap.size w3 (w3.alloc (.cells #[.int .i64 2, .int .i64 1] 3))) := (Below.refl _ _).alloc lR _;have Pf := iD (Xh.later Bu);have Bh := iD ((EG.below Bu lR).more Bu.size);have GK := iD (LW.below Bu LW.lt);have NI : Hid (Sl (w3.alloc (.cells #[.int .i64 2, .int .i64 1] 3)) (w3.alloc (.cells #[.int .i64 2, .int .i64 1] 3)).heap.size 1 (some ⟨w3.heap.size, 0, none⟩) 2 2 (zF [2, 1])) := (Sl.newest (H := w3.heap.size) (n := 2) (size := 1) rfl rfl (by decide)).more (by simp);clear Xh EG LW Bu;generalize World.alloc w3 _ = w4 at *;have IW : Hid (uf w4 (some ⟨w.heap.size, 0, none⟩) (some ⟨w.heap.size + 1, 0, none⟩) (some ⟨w3.heap.size, 0, none⟩) none none (some ⟨w.heap.size + 3, 0, none⟩) 2 2 2 2 2 2 0 0 0 0 3 3 Kl LC [2, 1] [] [] ⟨#[80]⟩ Ox) := ⟨⟨Pf.sn, Pf.sd, NI, Sl.nil _ _ _, Sl.nil _ _ _, Pf.la, pW.1, pW.2⟩, Pf.sx, by decide⟩
 refine (pn _ _ _ _ _ _ _ 2 2 2 2 2 2 0 0 0 0 3 3 0 0 Kl LC [2, 1] [] [] 0 ⟨#[80]⟩ Ox [] w4 IW (Sl.nil _ _ _)).mono ?_;rintro e w5 ⟨⟨h1, -⟩ | ⟨-, D1, D2, D3, D4, m1, d1, m2, d2, m3, d3, m4, d4, rfl, hR⟩, BM⟩
 ·exact absurd smE h1
 obtain ⟨out, Bm, hrun⟩ := gL;rw [hrun] at hR ⊢;have Ay := iD (Pf.later BM);have Fg := iD ((Bh.below BM lR).more BM.size);have Fz := iD (GK.below BM GK.lt);have AK := iD hR.s;dsimp only at AK;clear hR BM hrun Pf Bh GK IW NI;go_upto_region 5 with (fail);have Dh : Hid (Below w5.heap.size w5 (w5.alloc (.cells #[.int .i64 0, .slice D3 m3 d3, .slice D4 m4 d4] 29))) := (Below.refl _ _).alloc lR _;have Aw := iD (Ay.later Dh);have Ik := iD ((Fg.below Dh lR).more Dh.size);have Ae := iD ((AK.below Dh lR).more Dh.size);have Dy := iD (Fz.below Dh Fz.lt);clear Ay Fg AK Fz Dh;generalize World.alloc w5 _ = w6 at *
 go_wp2_with fail
 have Eg : Hid (Below w6.heap.size w6 (w6.alloc (.cells #[.int .i64 2, .int .i64 1] 3))) := (Below.refl _ _).alloc lR _;have Au := iD (Aw.later Eg);have Ag := iD ((Ik.below Eg lR).more Eg.size);have TH := iD ((Ae.below Eg lR).more Eg.size);have AP := iD (Dy.below Eg Dy.lt);have TV : Hid (Sl (w6.alloc (.cells #[.int .i64 2, .int .i64 1] 3)) (w6.alloc (.cells #[.int .i64 2, .int .i64 1] 3)).heap.size 1 (some ⟨w6.heap.size, 0, none⟩) 2 2 (zF [2, 1])) := (Sl.newest (H := w6.heap.size) (n := 2) (size := 1) rfl rfl (by decide)).more (by simp);clear Aw Ik Ae Dy Eg;generalize World.alloc w6 _ = w7 at *;refine (vO A2 _ n2 c2 2 2 w7.heap.size w7.heap.size [2, 1] [2, 1] w7 Ag TV lR lR).mono ?_;rintro e w8 ⟨rfl, Eu⟩;rw [show decide (([2, 1] : List Int) = [2, 1]) = true from rfl];have Aq := iD (Au.later Eu);have Ac := iD ((TH.below Eu lR).more Eu.size);have Ai := iD (AP.below Eu AP.lt)
 clear Eu Au Ag TH AP TV;have g2 := Ai.cell 2
 go_wp2_with fail
 clear g2;have Dp : Hid (Below w8.heap.size w8 (w8.alloc (.cells #[.int .i64 1, .int .i64 2] 3))) := (Below.refl _ _).alloc lR _;have Ak := iD (Aq.later Dp);have Ab := iD ((Ac.below Dp lR).more Dp.size);have Rc : Hid (Sl (w8.alloc (.cells #[.int .i64 1, .int .i64 2] 3)) (w8.alloc (.cells #[.int .i64 1, .int .i64 2] 3)).heap.size 1 (some ⟨w8.heap.size, 0, none⟩) 2 2 (zF [1, 2])) := (Sl.newest (H := w8.heap.size) (n := 2) (size := 1) rfl rfl (by decide)).more (by simp);clear Aq Ac Ai Dp;generalize World.alloc w8 _ = w9 at *;refine (vO D2 _ m2 d2 2 2 w9.heap.size w9.heap.size [1, 2] [1, 2] w9 Ab Rc lR lR).mono ?_;rintro e Bd ⟨rfl, Jm⟩;rw [show decide (([1, 2] : List Int) = [1, 2]) = true from rfl];have AU := iD (Ak.later Jm);clear Jm Ak Ab Rc
 go_wp2_with fail
 go_ret;exact ⟨rfl, AU.bl⟩
section
open Classical in
theorem qK (Al Ap Bl Bp : Option Addr) (nl cl np cp ml dl mp dp : Nat) (Jn Cn : Int) (l1 l2 : List Lk) (p1 p2 : List Int) (w : World) (h1 : Av w 3 Al nl cl (l1.flatMap Lk.cells)) (h2 : Av w 1 Ap np cp (zF p1)) (h3 : Av w 3 Bl ml dl (l2.flatMap Lk.cells)) (h4 : Av w 1 Bp mp dp (zF p2)) :
 Calls prog 19 #[.agg #[.int .i64 Jn, .slice Al nl cl, .slice Ap np cp], .agg #[.int .i64 Cn, .slice Bl ml dl, .slice Bp mp dp]] w fun e w' => e = .returned (.bool (decide (Jn = Cn) && decide (l1 = l2) && decide (p1 = p2))) ∧ bW w w' := by
 have HB : Hid (Below w.heap.size w ((w.alloc (.cells #[.int .i64 Jn, .slice Al nl cl, .slice Ap np cp] 29)).alloc (.cells #[.int .i64 Cn, .slice Bl ml dl, .slice Bp mp dp] 29))) := ((Below.refl _ _).alloc lR _).alloc (by simp) _;have Bi := iD ((AJ.new w 29 #[.int .i64 Jn, .slice Al nl cl, .slice Ap np cp]).alloc (.cells #[.int .i64 Cn, .slice Bl ml dl, .slice Bp mp dp] 29))
 have AL : Hid (AJ ((w.alloc (.cells #[.int .i64 Jn, .slice Al nl cl, .slice Ap np cp] 29)).alloc (.cells #[.int .i64 Cn, .slice Bl ml dl, .slice Bp mp dp] 29)) (w.heap.size + 1) 29 #[.int .i64 Cn, .slice Bl ml dl, .slice Bp mp dp]) := by
  have := AJ.new (w.alloc (.cells #[.int .i64 Jn, .slice Al nl cl, .slice Ap np cp] 29)) 29 #[.int .i64 Cn, .slice Bl ml dl, .slice Bp mp dp];unfold Hid; simpa using this
 have H1 := iD h1; have H2 := iD h2; have H3 := iD h3; have H4 := iD h4;clear h1 h2 h3 h4
 go_enter func19, ntmps19
 go_upto_region 1 with (fail);generalize World.alloc (World.alloc w _) _ = W at *;obtain ⟨a0, a1⟩ := Bi.d2;obtain ⟨b0, b1⟩ := AL.d2;by_cases hc : Jn = Cn; rotate_left
 ·have q1 : (Jn == Cn) = false := by simpa using hc
  have HV : Hid ((decide (Jn = Cn) && decide (l1 = l2) && decide (p1 = p2)) = false) := by unfold Hid; simp [hc]
  clear hc
  go_wp2_with fail
  go_ret;exact ⟨by rw [HV.out]; rfl, HB⟩
 have q1 : (Jn == Cn) = true := by simpa using hc
 have HV : Hid ((decide (Jn = Cn) && decide (l1 = l2) && decide (p1 = p2)) = (decide (l1 = l2) && decide (p1 = p2))) := by unfold Hid; simp [hc]
 clear hc;have RS := iD (kY Al Bl nl cl ml dl w.heap.size w.heap.size l1 l2 W (H1.below HB lR) (H3.below HB lR) HB.size HB.size)
 go_wp2_with fail
 clear a0 a1 b0 b1 q1;refine RS.mono ?_;rintro e w1 ⟨rfl, AX⟩;have AY := iD (HB.trans (AX.mono HB.size));have a2 := (Bi.below AX Bi.lt).c2;have b2 := (AL.below AX AL.lt).cell 2;clear AX RS;by_cases hl : l1 = l2; rotate_left
 ·have QT : Hid ((decide (l1 = l2) && decide (p1 = p2)) = false) := by unfold Hid; simp [hl]
  rw [decide_eq_false hl];clear hl
  go_wp2_with fail
  go_ret;exact ⟨by rw [HV.out, QT.out]; rfl, AY⟩
 have QT : Hid ((decide (l1 = l2) && decide (p1 = p2)) = decide (p1 = p2)) := by unfold Hid; simp [hl]
 rw [decide_eq_true hl];clear hl;have Af := iD (vO Ap Bp np cp mp dp w.heap.size w.heap.size p1 p2 w1 (H2.below AY lR) (H4.below AY lR) AY.size AY.size)
 go_wp2_with fail
 clear a2 b2;refine Af.mono ?_;rintro e w2 ⟨rfl, AQ⟩;have CS := iD (AY.trans (AQ.mono AY.size));clear AQ Af
 go_wp2_with fail
 go_ret;exact ⟨by rw [HV.out, QT.out]; rfl, CS⟩
def Fn.eqB (a b : Fn) : Bool := a.st == b.st && a.hz == b.hz
theorem ng (a b c d : Int) (w : World) : (binOp .neq 95 (.agg #[.int .i64 a, .int .i64 b]) (.agg #[.int .i64 c, .int .i64 d])).run prog w = .ok (.bool (!Fn.eqB ⟨a, b⟩ ⟨c, d⟩)) w := by
 have u3 := underlying3;have a3 := isAgg3;have z3 := sizeOf3;have hS : prog.underlying 95 = some (.struct (prog.fieldsOf 95)) := by kernel_rfl
 have hp : prog.stoodInHeld 95 = false := by kernel_rfl
 rw [run_neq_struct, show (10000 : Nat) = 9999 + 1 from rfl, run_equalIn_agg w 9999 95 _ _ hS hp];simp only [Program.fieldsOf, underlying95]
 go_simp
 by_cases h0 : a = c <;> by_cases h1 : b = d <;> simp [h0, h1, Fn.eqB]
def SfR (w : World) (a b : List Fn) (n gk : Nat) (iv : Value) (wr : World) : Prop := ∃ i : Nat, iv = .int .i64 i ∧ i ≤ n ∧ gk = n - i ∧ Hid (a.take i = b.take i) ∧ Hid (bW w wr)
theorem lW (A A2 : Option Addr) (n c n2 c2 B B2 : Nat) (a b : List Fn) (w : World) (ha : Sl w B 2 A n c (a.flatMap Fn.cells)) (hb : Sl w B2 2 A2 n2 c2 (b.flatMap Fn.cells)) (hB : B ≤ w.heap.size) (FV : B2 ≤ w.heap.size) :
 Calls prog 23 #[.slice A n c, .slice A2 n2 c2] w fun e w' => e = .returned (.bool (decide (a = b))) ∧ bW w w' := by
 have HA := iD ha; have HB := iD hb;have Gj := iD (ha.len (fun _ => rfl) (by decide)); have Jw := iD (hb.len (fun _ => rfl) (by decide));have UU := ha.le;have Bt := hb.le;clear ha hb;by_cases hl : n = n2; rotate_left
 ·have q1 : ((n : Int) != (n2 : Int)) = true := by simp; omega
  have q2 : (n != n2) = true := by simpa using hl
  have HV : Hid (decide (a = b) = false) := by
   refine decide_eq_false fun e => hl ?_
   have h1 := Gj.out; have h2 := Jw.out; rw [e] at h1; omega
  clear hl
  go_enter func23, ntmps23
  go_wp2_with fail
  go_ret;exact ⟨by rw [HV.out]; rfl, Below.refl _ _⟩
 subst hl
 go_enter func23, ntmps23
 go_upto_region 4 with (fail);refine zm [(3, 0), (0, 1), (0, 2), (4, 0), (14, 1)] 5 (n) (SfR w a b n) (by (try dsimp only [gt]); exact ⟨0, rfl, Nat.zero_le _, rfl, rfl, Below.refl _ _⟩) (by kernel_rfl) ?_;intro u1 p5 gk wr a hrel ha J1 K1 Dk Ky;dsimp only [zY, Go.Proofs.YtddddlhgaeameaaGreatDoor.v1, Nat.reduceAdd] at ha;subst ha;obtain ⟨i, rfl, hi, rfl, HE, MB⟩ := hrel;by_cases hlt : i < n; rotate_left
 ·have Ck : decide ((i : Int) < (n : Int)) = false := by simp; omega
  have GM : decide (i < n) = false := by simp; omega
  have HV : Hid (decide (a = b) = true) := by
   have h := HE.out;rw [List.take_of_length_le (by have := Gj.out; omega), List.take_of_length_le (by have := Jw.out; omega)] at h;exact decide_eq_true h
  go_wp2_with fail
  go_ret;exact ⟨by rw [HV.out]; rfl, MB⟩
 obtain ⟨b1, o1, x, hA, AX, hx, hc⟩ := (HA.below MB hB).at (fun _ => rfl) (by decide) hlt;obtain ⟨b2, o2, y, Cm, AQ, hy, hd⟩ := (HB.below MB FV).at (fun _ => rfl) (by decide) hlt;obtain ⟨x1, x2⟩ := x;obtain ⟨y1, y2⟩ := y;have BK : Hid ((wr.cell? ⟨b1, o1 + i * 2, none⟩ = some (.int .i64 x1) ∧ wr.cell? ⟨b1, o1 + i * 2 + 1, none⟩ = some (.int .i64 x2)) ∧ wr.cell? ⟨b2, o2 + i * 2, none⟩ = some (.int .i64 y1) ∧ wr.cell? ⟨b2, o2 + i * 2 + 1, none⟩ = some (.int .i64 y2)) := ⟨⟨hc 0 _ rfl, hc 1 _ rfl⟩, hd 0 _ rfl, hd 1 _ rfl⟩;have HX := iD hx; have HY := iD hy;subst hA Cm;clear hc hd hx hy AX AQ;have hq := ng x1 x2 y1 y2;go_upto_region 6 with (fail)
 refine fX (fun W' => (W'.cell? ⟨b1, o1 + i * 2, none⟩ = some (.int .i64 x1) ∧ W'.cell? ⟨b1, o1 + i * 2 + 1, none⟩ = some (.int .i64 x2)) ∧ W'.cell? ⟨b2, o2 + i * 2, none⟩ = some (.int .i64 y1) ∧ W'.cell? ⟨b2, o2 + i * 2 + 1, none⟩ = some (.int .i64 y2)) [] ?_ fun AA => ?_
 ·exact BK.out
 try dsimp only at AA
 refine tk 0 17 (mf 9 1) AA ?_;refine tk 1 18 (mf 9 2) AA ?_;refine tk 2 19 (mf 9 3) AA ?_;refine ty 3 20 (mf 9 4) AA (y := by intro w AR; (try dsimp only at AR); obtain ⟨⟨u0, u1⟩, -⟩ := AR; go_simp; try with_reducible rfl) (h := ?_);refine tk 4 21 (mf 9 5) AA ?_;refine tk 5 22 (mf 9 6) AA ?_;refine tk 6 23 (mf 9 7) AA ?_;refine ty 7 24 (mf 9 8) AA (y := by intro w AR; (try dsimp only at AR); obtain ⟨-, u0, u1⟩ := AR; go_simp; try with_reducible rfl) (h := ?_);refine tk 8 25 (mf 9 9) AA ?_;refine tK ?_;clear AA hq;have AB : Hid (Fn.eqB ⟨x1, x2⟩ ⟨y1, y2⟩ = true ↔ (⟨x1, x2⟩ : Fn) = ⟨y1, y2⟩) := by unfold Hid Fn.eqB; simp
 generalize Fn.eqB ⟨x1, x2⟩ ⟨y1, y2⟩ = bb at *;rcases bb with _ | _
 ·have HV : Hid (decide (a = b) = false) := by
   refine decide_eq_false fun e => ?_
   have h1 := HX.out; rw [e, HY.out] at h1;have h2 := AB.mpr (Option.some.inj h1).symm;cases h2
  clear AB
  go_wp2_with fail
  go_ret;exact ⟨by rw [HV.out]; rfl, MB.drew⟩
 ·have HN : Hid (a.take (i + 1) = b.take (i + 1)) := by unfold Hid; rw [zO HX.out, zO HY.out, HE.out, AB.mp rfl]
  clear AB
  go_wp2_with fail
  refine Handed.intro (n - (i + 1)) (by omega) (Dk _ _ _ (xQ.back 5 ?_ (by kernel_rfl)));dsimp only [gt];exact ⟨i + 1, by go_num, by omega, rfl, HN, MB.drew⟩
end
structure Gd (w : World) (g x : Nat) (nt st : Array Value) (wr : World) : Prop where
 b0 : AJ wr w.heap.size 26 nt
 b1 : AJ wr (w.heap.size + 1) 31 #[.int .i64 0, .int .i64 0, .int .i64 0, .int .i64 0, .int .i64 0]
 bx : AJ wr x 31 st
 dk : zP wr g
 gr : w.grownBy wr (some g)
section
variable {w wr wr' : World} {g x : Nat} {nt st : Array Value}
theorem Gd.grown (h : Gd w g x nt st wr) (hg : wr.grownBy wr' (some g)) (hd : zP wr' g) (h0 : g < w.heap.size) (hx : w.heap.size + 1 < x) : Gd w g x nt st wr' :=
 ⟨h.b0.grown hg (fun e => by injection e with e; omega), h.b1.grown hg (fun e => by injection e with e; omega), h.bx.grown hg (fun e => by injection e with e; omega), hd, zJ h.gr hg⟩
theorem Gd.put (h : Gd w g x nt st wr) (h0 : g < w.heap.size) (hx : w.heap.size + 1 < x) (i : Nat) (u : Value) : Gd w g x nt (st.setIfInBounds i u) (wr.setCell ⟨x, i, none⟩ u) :=
 ⟨h.b0.far (by show w.heap.size ≠ x; omega) _, h.b1.far (by show w.heap.size + 1 ≠ x; omega) _, h.bx.set i u, h.dk.setCell (by show g < x; omega) _, zr h.gr (by show w.heap.size ≤ x; omega) _⟩
theorem Gd.fin {a b c d e : Value} (h : Gd w g x nt #[a, b, c, d, e] wr) (h0 : g < w.heap.size) : AJ (tH wr (w.heap.size + 1) a b c d e) (w.heap.size + 1) 31 #[a, b, c, d, e] ∧ zP (tH wr (w.heap.size + 1) a b c d e) g ∧ w.grownBy (tH wr (w.heap.size + 1) a b c d e) (some g) :=
 ⟨h.b1.all5, ((((h.dk.setCell (p := ⟨w.heap.size + 1, 0, none⟩) (by simp; omega) a).setCell (p := ⟨w.heap.size + 1, 1, none⟩) (by simp; omega) b).setCell (p := ⟨w.heap.size + 1, 2, none⟩) (by simp; omega) c).setCell (p := ⟨w.heap.size + 1, 3, none⟩) (by simp; omega) d).setCell (p := ⟨w.heap.size + 1, 4, none⟩) (by simp; omega) e,
  zr (zr (zr (zr (zr h.gr (p := ⟨w.heap.size + 1, 0, none⟩) (by simp) a) (p := ⟨w.heap.size + 1, 1, none⟩) (by simp) b) (p := ⟨w.heap.size + 1, 2, none⟩) (by simp) c) (p := ⟨w.heap.size + 1, 3, none⟩) (by simp) d) (p := ⟨w.heap.size + 1, 4, none⟩) (by simp) e⟩
end
def iV (w : World) (g nn nd : Nat) (e : Ending) (w' : World) : Prop := ∃ (k d no p q : Int), e = .returned (.agg #[.int .i64 k, .int .i64 d, .int .i64 no, .int .i64 p, .int .i64 q]) ∧ Hid (zc nn nd ⟨k, d, no, p, q⟩ = 0) ∧ Hid (zP w' g) ∧ Hid (w.grownBy w' (some g))
theorem rN (g : Nat) (An Ad : Option Addr) (nn cn nd cd : Nat) (w : World) (hd : zP w g) (Bq : 0 < nn) (Ve : nn ≤ 1000) (AV : 0 < nd) (Vh : nd ≤ 1000) :
 Calls prog 15 #[.pointer (some ⟨g, 0, none⟩), .agg #[.slice An nn cn, .slice Ad nd cd]] w (iV w g nn nd) := by
 have hlt := hd.lt;have Bi := iD ((AJ.new w 26 #[.slice An nn cn, .slice Ad nd cd]).alloc (.cells #[.int .i64 0, .int .i64 0, .int .i64 0, .int .i64 0, .int .i64 0] 31))
 have AL : Hid (AJ ((w.alloc (.cells #[.slice An nn cn, .slice Ad nd cd] 26)).alloc (.cells #[.int .i64 0, .int .i64 0, .int .i64 0, .int .i64 0, .int .i64 0] 31)) (w.heap.size + 1) 31 #[.int .i64 0, .int .i64 0, .int .i64 0, .int .i64 0, .int .i64 0]) := by
  have := AJ.new (w.alloc (.cells #[.slice An nn cn, .slice Ad nd cd] 26)) 31 #[.int .i64 0, .int .i64 0, .int .i64 0, .int .i64 0, .int .i64 0];unfold Hid; simpa using this
 have MB : Hid (Below w.heap.size w ((w.alloc (.cells #[.slice An nn cn, .slice Ad nd cd] 26)).alloc (.cells #[.int .i64 0, .int .i64 0, .int .i64 0, .int .i64 0, .int .i64 0] 31))) := ((Below.refl _ _).alloc lR _).alloc (by simp) _;have JZ := iD ((hd.alloc (.cells #[.slice An nn cn, .slice Ad nd cd] 26)).alloc (.cells #[.int .i64 0, .int .i64 0, .int .i64 0, .int .i64 0, .int .i64 0] 31));clear hd
 go_enter func15, ntmps15
 go_upto_region 1 with (fail);generalize World.alloc (World.alloc w _) _ = W at *
 go_wp2_with fail
 refine (zS g 6 W JZ (by decide)).mono ?_;rintro e w1 ⟨r, rfl, KI, _, DC, BC, Am, BS⟩;have MJ := DC (by decide);have hx : w.heap.size + 1 < w1.heap.size := by have := AL.lt; have := Am.size; omega
 have CF := iD (zJ (zI MB (some g)) Am);have KY := iD (Bi.grown Am (fun e => by injection e with e; omega));have IG := iD (AL.grown Am (fun e => by injection e with e; omega));have KX := iD BC.out;clear DC BC Am BS Bi AL MB JZ;rcases (show r = 0 ∨ r = 1 ∨ r = 2 ∨ r = 3 ∨ r = 4 ∨ r = 5 by omega) with rfl | rfl | rfl | rfl | rfl | rfl
 ·clear KI MJ;go_upto_region 2 with (fail);have HM : Hid (Gd w g w1.heap.size #[.slice An nn cn, .slice Ad nd cd] #[.int .i64 1, .int .i64 0, .int .i64 0, .int .i64 0, .int .i64 0] (w1.alloc (.cells #[.int .i64 1, .int .i64 0, .int .i64 0, .int .i64 0, .int .i64 0] 31))) := ⟨KY.alloc _, IG.alloc _, AJ.new _ _ _, KX.alloc _, zJ CF (zI ((Below.refl _ _).alloc lR _) _)⟩;clear KY IG KX CF;generalize World.alloc w1 _ = V at *;obtain ⟨x, Gb⟩ := eX w1.heap.size;rw [← Gb] at HM hx ⊢;clear Gb;obtain ⟨b0, b1⟩ := HM.b0.d2;have s0 := HM.bx.c0
  go_wp2_with fail
  clear b0 b1 s0;refine (zS g (nd : Int) V HM.dk (by omega)).mono ?_;rintro e w2 ⟨v1, rfl, WV, _, DC, BC, Am, BS⟩;have WT := DC (by omega);have HM := iD (HM.grown Am BC hlt hx);clear DC BC Am BS;have c0 := HM.bx.c1;have f0 := HM.bx.frozen 1;have HM := iD (HM.put hlt hx 1 (.int .i64 v1));go_upto_region 6 with (fail);clear c0 f0;generalize World.setCell w2 _ _ = X1 at *;have HM : Hid (Gd w g x #[.slice An nn cn, .slice Ad nd cd] #[.int .i64 1, .int .i64 v1, .int .i64 0, .int .i64 0, .int .i64 0] X1) := HM.out;obtain ⟨s0, s1, s2, s3, s4⟩ := HM.bx.d5;have d0 := HM.b1.cell 0;have VG := HM.b1.frozen 0;have d1 := HM.b1.cell 1;have VF := HM.b1.frozen 1;have d2 := HM.b1.cell 2;have VE := HM.b1.frozen 2;have d3 := HM.b1.cell 3;have VD := HM.b1.frozen 3;have d4 := HM.b1.cell 4;have VC := HM.b1.frozen 4;have HF := iD (HM.fin hlt);unfold tH at HF
  go_wp2_with fail
  generalize World.setCell (World.setCell (World.setCell (World.setCell (World.setCell X1 _ _) _ _) _ _) _ _) _ _ = z at *;obtain ⟨q0, q1, q2, q3, q4⟩ := HF.1.d5;exact bodyPost_ret (v := .agg #[.int .i64 1, .int .i64 v1, .int .i64 0, .int .i64 0, .int .i64 0]) (by simp [results, results15, go_sem, q0, q1, q2, q3, q4]) rfl ⟨_, _, _, _, _, rfl, by unfold Hid; rw [oA, if_neg (by omega), if_neg (by omega)], HF.2.1, HF.2.2⟩
 ·clear KI MJ;go_upto_region 2 with (fail);have HM : Hid (Gd w g w1.heap.size #[.slice An nn cn, .slice Ad nd cd] #[.int .i64 2, .int .i64 0, .int .i64 0, .int .i64 0, .int .i64 0] (w1.alloc (.cells #[.int .i64 2, .int .i64 0, .int .i64 0, .int .i64 0, .int .i64 0] 31))) := ⟨KY.alloc _, IG.alloc _, AJ.new _ _ _, KX.alloc _, zJ CF (zI ((Below.refl _ _).alloc lR _) _)⟩;clear KY IG KX CF;generalize World.alloc w1 _ = V at *;obtain ⟨x, Gb⟩ := eX w1.heap.size;rw [← Gb] at HM hx ⊢;clear Gb;obtain ⟨b0, b1⟩ := HM.b0.d2;have s0 := HM.bx.c0
  go_wp2_with fail
  clear b0 b1 s0;refine (zS g (nd : Int) V HM.dk (by omega)).mono ?_;rintro e w2 ⟨v1, rfl, WV, _, DC, BC, Am, BS⟩;have WT := DC (by omega);have HM := iD (HM.grown Am BC hlt hx);clear DC BC Am BS;have c0 := HM.bx.c1;have f0 := HM.bx.frozen 1;have HM := iD (HM.put hlt hx 1 (.int .i64 v1));go_upto_region 6 with (fail);clear c0 f0;generalize World.setCell w2 _ _ = X1 at *;have HM : Hid (Gd w g x #[.slice An nn cn, .slice Ad nd cd] #[.int .i64 2, .int .i64 v1, .int .i64 0, .int .i64 0, .int .i64 0] X1) := HM.out;obtain ⟨s0, s1, s2, s3, s4⟩ := HM.bx.d5;have d0 := HM.b1.cell 0;have VG := HM.b1.frozen 0;have d1 := HM.b1.cell 1;have VF := HM.b1.frozen 1;have d2 := HM.b1.cell 2;have VE := HM.b1.frozen 2;have d3 := HM.b1.cell 3;have VD := HM.b1.frozen 3;have d4 := HM.b1.cell 4;have VC := HM.b1.frozen 4;have HF := iD (HM.fin hlt);unfold tH at HF
  go_wp2_with fail
  generalize World.setCell (World.setCell (World.setCell (World.setCell (World.setCell X1 _ _) _ _) _ _) _ _) _ _ = z at *;obtain ⟨q0, q1, q2, q3, q4⟩ := HF.1.d5;exact bodyPost_ret (v := .agg #[.int .i64 2, .int .i64 v1, .int .i64 0, .int .i64 0, .int .i64 0]) (by simp [results, results15, go_sem, q0, q1, q2, q3, q4]) rfl ⟨_, _, _, _, _, rfl, by unfold Hid; rw [pz, if_neg (by omega), if_neg (by omega)], HF.2.1, HF.2.2⟩
 ·clear KI MJ;go_upto_region 2 with (fail);have HM : Hid (Gd w g w1.heap.size #[.slice An nn cn, .slice Ad nd cd] #[.int .i64 3, .int .i64 0, .int .i64 0, .int .i64 0, .int .i64 0] (w1.alloc (.cells #[.int .i64 3, .int .i64 0, .int .i64 0, .int .i64 0, .int .i64 0] 31))) := ⟨KY.alloc _, IG.alloc _, AJ.new _ _ _, KX.alloc _, zJ CF (zI ((Below.refl _ _).alloc lR _) _)⟩;clear KY IG KX CF;generalize World.alloc w1 _ = V at *;obtain ⟨x, Gb⟩ := eX w1.heap.size;rw [← Gb] at HM hx ⊢;clear Gb;obtain ⟨b0, b1⟩ := HM.b0.d2;have s0 := HM.bx.c0
  go_wp2_with fail
  clear b0 b1 s0;refine (zS g (nd : Int) V HM.dk (by omega)).mono ?_;rintro e w2 ⟨v1, rfl, WV, _, DC, BC, Am, BS⟩;have WT := DC (by omega);have HM := iD (HM.grown Am BC hlt hx);clear DC BC Am BS;have c0 := HM.bx.c1;have f0 := HM.bx.frozen 1;have HM := iD (HM.put hlt hx 1 (.int .i64 v1));go_upto_region 6 with (fail);clear c0 f0;generalize World.setCell w2 _ _ = X1 at *;have HM : Hid (Gd w g x #[.slice An nn cn, .slice Ad nd cd] #[.int .i64 3, .int .i64 v1, .int .i64 0, .int .i64 0, .int .i64 0] X1) := HM.out;obtain ⟨b0, b1⟩ := HM.b0.d2;have s0 := HM.bx.c0
  go_wp2_with fail
  clear b0 b1 s0;refine (zS g 2 X1 HM.dk (by omega)).mono ?_;rintro e w3 ⟨v2, rfl, WU, _, DC, BC, Am, BS⟩;have Aa := DC (by omega);have HM := iD (HM.grown Am BC hlt hx);clear DC BC Am BS;have c0 := HM.bx.c3;have f0 := HM.bx.frozen 3;have HM := iD (HM.put hlt hx 3 (.int .i64 (1 + v2)));go_upto_region 8 with (fail);clear c0 f0;generalize World.setCell w3 _ _ = X2 at *;have HM : Hid (Gd w g x #[.slice An nn cn, .slice Ad nd cd] #[.int .i64 3, .int .i64 v1, .int .i64 0, .int .i64 (1 + v2), .int .i64 0] X2) := HM.out;obtain ⟨b0, b1⟩ := HM.b0.d2;have s0 := HM.bx.c0
  go_wp2_with fail
  clear b0 b1 s0;refine (zS g 12 X2 HM.dk (by omega)).mono ?_;rintro e w4 ⟨v3, rfl, CH, _, DC, BC, Am, BS⟩;have CG := DC (by omega);have HM := iD (HM.grown Am BC hlt hx);clear DC BC Am BS;have c0 := HM.bx.c4;have f0 := HM.bx.frozen 4;have HM := iD (HM.put hlt hx 4 (.int .i64 (10 + v3)));go_upto_region 10 with (fail);clear c0 f0;generalize World.setCell w4 _ _ = X3 at *;have HM : Hid (Gd w g x #[.slice An nn cn, .slice Ad nd cd] #[.int .i64 3, .int .i64 v1, .int .i64 0, .int .i64 (1 + v2), .int .i64 (10 + v3)] X3) := HM.out;obtain ⟨s0, s1, s2, s3, s4⟩ := HM.bx.d5;have d0 := HM.b1.cell 0;have VG := HM.b1.frozen 0;have d1 := HM.b1.cell 1;have VF := HM.b1.frozen 1;have d2 := HM.b1.cell 2;have VE := HM.b1.frozen 2;have d3 := HM.b1.cell 3;have VD := HM.b1.frozen 3;have d4 := HM.b1.cell 4;have VC := HM.b1.frozen 4;have HF := iD (HM.fin hlt);unfold tH at HF
  go_wp2_with fail
  generalize World.setCell (World.setCell (World.setCell (World.setCell (World.setCell X3 _ _) _ _) _ _) _ _) _ _ = z at *;obtain ⟨q0, q1, q2, q3, q4⟩ := HF.1.d5;exact bodyPost_ret (v := .agg #[.int .i64 3, .int .i64 v1, .int .i64 0, .int .i64 (1 + v2), .int .i64 (10 + v3)]) (by simp [results, results15, go_sem, q0, q1, q2, q3, q4]) rfl ⟨_, _, _, _, _, rfl, by unfold Hid; rw [td, if_neg (by omega), if_neg (by omega), if_neg (by omega), if_neg (by omega)], HF.2.1, HF.2.2⟩
 ·clear KI MJ;go_upto_region 2 with (fail);have HM : Hid (Gd w g w1.heap.size #[.slice An nn cn, .slice Ad nd cd] #[.int .i64 4, .int .i64 0, .int .i64 0, .int .i64 0, .int .i64 0] (w1.alloc (.cells #[.int .i64 4, .int .i64 0, .int .i64 0, .int .i64 0, .int .i64 0] 31))) := ⟨KY.alloc _, IG.alloc _, AJ.new _ _ _, KX.alloc _, zJ CF (zI ((Below.refl _ _).alloc lR _) _)⟩;clear KY IG KX CF;generalize World.alloc w1 _ = V at *;obtain ⟨x, Gb⟩ := eX w1.heap.size;rw [← Gb] at HM hx ⊢;clear Gb;obtain ⟨b0, b1⟩ := HM.b0.d2;have s0 := HM.bx.c0
  go_wp2_with fail
  clear b0 b1 s0;refine (zS g (nd : Int) V HM.dk (by omega)).mono ?_;rintro e w2 ⟨v1, rfl, WV, _, DC, BC, Am, BS⟩;have WT := DC (by omega);have HM := iD (HM.grown Am BC hlt hx);clear DC BC Am BS;have c0 := HM.bx.c1;have f0 := HM.bx.frozen 1;have HM := iD (HM.put hlt hx 1 (.int .i64 v1));go_upto_region 6 with (fail);clear c0 f0;generalize World.setCell w2 _ _ = X1 at *;have HM : Hid (Gd w g x #[.slice An nn cn, .slice Ad nd cd] #[.int .i64 4, .int .i64 v1, .int .i64 0, .int .i64 0, .int .i64 0] X1) := HM.out;obtain ⟨b0, b1⟩ := HM.b0.d2;have s0 := HM.bx.c0
  go_wp2_with fail
  clear b0 b1 s0;refine (zS g 12 X1 HM.dk (by omega)).mono ?_;rintro e w3 ⟨v2, rfl, WU, _, DC, BC, Am, BS⟩;have Aa := DC (by omega);have HM := iD (HM.grown Am BC hlt hx);clear DC BC Am BS;have c0 := HM.bx.c4;have f0 := HM.bx.frozen 4;have HM := iD (HM.put hlt hx 4 (.int .i64 (10 + v2)));go_upto_region 10 with (fail);clear c0 f0;generalize World.setCell w3 _ _ = X2 at *;have HM : Hid (Gd w g x #[.slice An nn cn, .slice Ad nd cd] #[.int .i64 4, .int .i64 v1, .int .i64 0, .int .i64 0, .int .i64 (10 + v2)] X2) := HM.out;obtain ⟨s0, s1, s2, s3, s4⟩ := HM.bx.d5;have d0 := HM.b1.cell 0;have VG := HM.b1.frozen 0;have d1 := HM.b1.cell 1;have VF := HM.b1.frozen 1;have d2 := HM.b1.cell 2;have VE := HM.b1.frozen 2;have d3 := HM.b1.cell 3;have VD := HM.b1.frozen 3;have d4 := HM.b1.cell 4;have VC := HM.b1.frozen 4;have HF := iD (HM.fin hlt);unfold tH at HF
  go_wp2_with fail
  generalize World.setCell (World.setCell (World.setCell (World.setCell (World.setCell X2 _ _) _ _) _ _) _ _) _ _ = z at *;obtain ⟨q0, q1, q2, q3, q4⟩ := HF.1.d5;exact bodyPost_ret (v := .agg #[.int .i64 4, .int .i64 v1, .int .i64 0, .int .i64 0, .int .i64 (10 + v2)]) (by simp [results, results15, go_sem, q0, q1, q2, q3, q4]) rfl ⟨_, _, _, _, _, rfl, by unfold Hid; rw [pI, if_neg (by omega), if_neg (by omega), if_neg (by omega)], HF.2.1, HF.2.2⟩
 ·clear KI MJ;go_upto_region 2 with (fail);have HM : Hid (Gd w g w1.heap.size #[.slice An nn cn, .slice Ad nd cd] #[.int .i64 5, .int .i64 0, .int .i64 0, .int .i64 0, .int .i64 0] (w1.alloc (.cells #[.int .i64 5, .int .i64 0, .int .i64 0, .int .i64 0, .int .i64 0] 31))) := ⟨KY.alloc _, IG.alloc _, AJ.new _ _ _, KX.alloc _, zJ CF (zI ((Below.refl _ _).alloc lR _) _)⟩;clear KY IG KX CF;generalize World.alloc w1 _ = V at *;obtain ⟨x, Gb⟩ := eX w1.heap.size;rw [← Gb] at HM hx ⊢;clear Gb;obtain ⟨b0, b1⟩ := HM.b0.d2;have s0 := HM.bx.c0
  go_wp2_with fail
  clear b0 b1 s0;refine (zS g (nn : Int) V HM.dk (by omega)).mono ?_;rintro e w2 ⟨v1, rfl, WV, _, DC, BC, Am, BS⟩;have WT := DC (by omega);have HM := iD (HM.grown Am BC hlt hx);clear DC BC Am BS;have c0 := HM.bx.c2;have f0 := HM.bx.frozen 2;have HM := iD (HM.put hlt hx 2 (.int .i64 v1));go_upto_region 4 with (fail);clear c0 f0;generalize World.setCell w2 _ _ = X1 at *;have HM : Hid (Gd w g x #[.slice An nn cn, .slice Ad nd cd] #[.int .i64 5, .int .i64 0, .int .i64 v1, .int .i64 0, .int .i64 0] X1) := HM.out;obtain ⟨s0, s1, s2, s3, s4⟩ := HM.bx.d5;have d0 := HM.b1.cell 0;have VG := HM.b1.frozen 0;have d1 := HM.b1.cell 1;have VF := HM.b1.frozen 1;have d2 := HM.b1.cell 2;have VE := HM.b1.frozen 2;have d3 := HM.b1.cell 3;have VD := HM.b1.frozen 3;have d4 := HM.b1.cell 4;have VC := HM.b1.frozen 4;have HF := iD (HM.fin hlt);unfold tH at HF
  go_wp2_with fail
  generalize World.setCell (World.setCell (World.setCell (World.setCell (World.setCell X1 _ _) _ _) _ _) _ _) _ _ = z at *;obtain ⟨q0, q1, q2, q3, q4⟩ := HF.1.d5;exact bodyPost_ret (v := .agg #[.int .i64 5, .int .i64 0, .int .i64 v1, .int .i64 0, .int .i64 0]) (by simp [results, results15, go_sem, q0, q1, q2, q3, q4]) rfl ⟨_, _, _, _, _, rfl, by unfold Hid; rw [py, if_neg (by omega), if_neg (by omega)], HF.2.1, HF.2.2⟩
 ·clear KI MJ;go_upto_region 2 with (fail);have HM : Hid (Gd w g w1.heap.size #[.slice An nn cn, .slice Ad nd cd] #[.int .i64 6, .int .i64 0, .int .i64 0, .int .i64 0, .int .i64 0] (w1.alloc (.cells #[.int .i64 6, .int .i64 0, .int .i64 0, .int .i64 0, .int .i64 0] 31))) := ⟨KY.alloc _, IG.alloc _, AJ.new _ _ _, KX.alloc _, zJ CF (zI ((Below.refl _ _).alloc lR _) _)⟩;clear KY IG KX CF;generalize World.alloc w1 _ = V at *;obtain ⟨x, Gb⟩ := eX w1.heap.size;rw [← Gb] at HM hx ⊢;clear Gb;obtain ⟨b0, b1⟩ := HM.b0.d2;have s0 := HM.bx.c0
  go_wp2_with fail
  clear b0 b1 s0;refine (zS g (nd : Int) V HM.dk (by omega)).mono ?_;rintro e w2 ⟨v1, rfl, WV, _, DC, BC, Am, BS⟩;have WT := DC (by omega);have HM := iD (HM.grown Am BC hlt hx);clear DC BC Am BS;have c0 := HM.bx.c1;have f0 := HM.bx.frozen 1;have HM := iD (HM.put hlt hx 1 (.int .i64 v1));go_upto_region 6 with (fail);clear c0 f0;generalize World.setCell w2 _ _ = X1 at *;have HM : Hid (Gd w g x #[.slice An nn cn, .slice Ad nd cd] #[.int .i64 6, .int .i64 v1, .int .i64 0, .int .i64 0, .int .i64 0] X1) := HM.out;obtain ⟨b0, b1⟩ := HM.b0.d2;have s0 := HM.bx.c0
  go_wp2_with fail
  clear b0 b1 s0;refine (zS g 2 X1 HM.dk (by omega)).mono ?_;rintro e w3 ⟨v2, rfl, WU, _, DC, BC, Am, BS⟩;have Aa := DC (by omega);have HM := iD (HM.grown Am BC hlt hx);clear DC BC Am BS;have c0 := HM.bx.c3;have f0 := HM.bx.frozen 3;have HM := iD (HM.put hlt hx 3 (.int .i64 (1 + v2)));go_upto_region 8 with (fail);clear c0 f0;generalize World.setCell w3 _ _ = X2 at *;have HM : Hid (Gd w g x #[.slice An nn cn, .slice Ad nd cd] #[.int .i64 6, .int .i64 v1, .int .i64 0, .int .i64 (1 + v2), .int .i64 0] X2) := HM.out;obtain ⟨s0, s1, s2, s3, s4⟩ := HM.bx.d5;have d0 := HM.b1.cell 0;have VG := HM.b1.frozen 0;have d1 := HM.b1.cell 1;have VF := HM.b1.frozen 1;have d2 := HM.b1.cell 2;have VE := HM.b1.frozen 2;have d3 := HM.b1.cell 3;have VD := HM.b1.frozen 3;have d4 := HM.b1.cell 4;have VC := HM.b1.frozen 4;have HF := iD (HM.fin hlt);unfold tH at HF
  go_wp2_with fail
  generalize World.setCell (World.setCell (World.setCell (World.setCell (World.setCell X2 _ _) _ _) _ _) _ _) _ _ = z at *;obtain ⟨q0, q1, q2, q3, q4⟩ := HF.1.d5;exact bodyPost_ret (v := .agg #[.int .i64 6, .int .i64 v1, .int .i64 0, .int .i64 (1 + v2), .int .i64 0]) (by simp [results, results15, go_sem, q0, q1, q2, q3, q4]) rfl ⟨_, _, _, _, _, rfl, by unfold Hid; rw [rA, if_neg (by omega), if_neg (by omega), if_neg (by omega)], HF.2.1, HF.2.2⟩
theorem iR : xJ prog 32 31 5 40 := xJ.mk' (z := .agg #[.int .i64 0, .int .i64 0, .int .i64 0, .int .i64 0, .int .i64 0]) underlying32 (by kernel_rfl) rfl (by decide)
def sF (w : World) (base : Nat) (A : Option Addr) (n c : Nat) (xs : List Sp) : Prop := w.ownsRow base 31 5 (.slice A n c) n (xs.flatMap Sp.cells)
theorem sF.len {w : World} {base : Nat} {A : Option Addr} {n c : Nat} {xs : List Sp} (h : sF w base A n c xs) : xs.length = n := (Sl.of_own h).len (fun _ => rfl) (by decide)
structure Jo (w : World) (g x : Nat) (nt : Array Value) (nm : ByteArray) (A : Option Addr) (n c : Nat) (xs : List Sp) (wr : World) : Prop where
 b0 : AJ wr w.heap.size 26 nt
 b1 : AJ wr (w.heap.size + 1) 34 #[.string ⟨#[]⟩, .slice none 0 0]
 bx : AJ wr x 34 #[.string nm, .slice A n c]
 dk : zP wr g
 gr : w.grownBy wr (some g)
 o : wr.ownsRow (x + 1) 31 5 (.slice A n c) n (xs.flatMap Sp.cells)
 hx : w.heap.size + 1 < x
section
variable {w wr wr' : World} {g x : Nat} {nt : Array Value} {nm : ByteArray} {A A' : Option Addr} {n c c' : Nat} {xs : List Sp} {f : Sp}
theorem Jo.grown (h : Jo w g x nt nm A n c xs wr) (hg : wr.grownBy wr' (some g)) (hd : zP wr' g) (h0 : g < w.heap.size) : Jo w g x nt nm A n c xs wr' :=
 have := h.hx
 ⟨h.b0.grown hg (fun e => by injection e with e; omega), h.b1.grown hg (fun e => by injection e with e; omega), h.bx.grown hg (fun e => by injection e with e; omega), hd, zJ h.gr hg, h.o.kept hg (zj fun b e => by have := (h.o.lt b e).1; omega), h.hx⟩
theorem Jo.later (h : Jo w g x nt nm A n c xs wr) (hb : bW wr wr') : Jo w g x nt nm A n c xs wr' :=
 ⟨h.b0.below hb h.b0.lt, h.b1.below hb h.b1.lt, h.bx.below hb h.bx.lt, h.dk.below hb h.dk.lt, ve h.gr (hb.mono h.gr.size), zM h.o hb, h.hx⟩
theorem Jo.drw (h : Jo w g x nt nm A n c xs wr) : Jo w g x nt nm A n c xs wr.drew := h.later (Below.refl _ wr).drew
theorem Jo.app (h : Jo w g x nt nm A n c xs wr) (hg : wr.grownBy wr' (Value.slice A n c).ownBlock) (hr : wr'.ownsRow (x + 1) 31 5 (.slice A' (n + 1) c') (n + 1) (xs.flatMap Sp.cells ++ f.cells)) (h0 : g < w.heap.size) :
 AJ wr' x 34 #[.string nm, .slice A n c] ∧ AJ wr' w.heap.size 26 nt ∧ Jo w g x nt nm A' (n + 1) c' (xs ++ [f]) (wr'.setCell ⟨x, 1, none⟩ (.slice A' (n + 1) c')) := by
 have hx := h.hx;have nb : ∀ {b : Nat}, b ≤ x → some b ≠ (Value.slice A n c).ownBlock := fun {b} hb e => by have := (h.o.lt b e.symm).1; omega
 have hB : Below w.heap.size w w := Below.refl _ _;refine ⟨h.bx.grown hg (nb lR), h.b0.grown hg (nb (by omega)), (h.b0.grown hg (nb (by omega))).far (by show w.heap.size ≠ x; omega) _, (h.b1.grown hg (nb (by omega))).far (by show w.heap.size + 1 ≠ x; omega) _, (h.bx.grown hg (nb lR)).set 1 _, ?_, ?_, ?_, hx⟩
 ·exact (h.dk.grown hg (fun k e => by have := (h.o.lt k e).1; omega)).setCell (p := ⟨x, 1, none⟩) (by show g < x; omega) _
 ·have hb : Below w.heap.size wr wr' := ⟨hg.os, hg.tape, hg.output, hg.size, fun i hi => hg.block i (Nat.lt_of_lt_of_le hi h.gr.size) (nb (by omega))⟩;exact ve h.gr (hb.setCell (by show w.heap.size ≤ x; omega) _)
 ·rw [List.flatMap_append, List.flatMap_cons, List.flatMap_nil, List.append_nil];exact hr.kept (zo _ _ _) (zj fun b e => by have := (hr.lt b e).1; simp; omega)
theorem Jo.fin (h : Jo w g x nt nm A n c xs wr) (h0 : g < w.heap.size) : sF ((wr.setCell ⟨w.heap.size + 1, 0, none⟩ (.string nm)).setCell ⟨w.heap.size + 1, 1, none⟩ (.slice A n c)) w.heap.size A n c xs ∧ zP ((wr.setCell ⟨w.heap.size + 1, 0, none⟩ (.string nm)).setCell ⟨w.heap.size + 1, 1, none⟩ (.slice A n c)) g ∧ w.grownBy ((wr.setCell ⟨w.heap.size + 1, 0, none⟩ (.string nm)).setCell ⟨w.heap.size + 1, 1, none⟩ (.slice A n c)) (some g) := by
 have hx := h.hx;exact ⟨(xf (xf h.o (by omega)) (by omega)).mono (by omega), (h.dk.setCell (p := ⟨w.heap.size + 1, 0, none⟩) (by simp; omega) _).setCell (p := ⟨w.heap.size + 1, 1, none⟩) (by simp; omega) _, zr (zr h.gr (p := ⟨w.heap.size + 1, 0, none⟩) (by simp) _) (p := ⟨w.heap.size + 1, 1, none⟩) (by simp) _⟩
end
def iT (w : World) (g nn nd most : Nat) (e : Ending) (w' : World) : Prop := ∃ (nm : ByteArray) (A : Option Addr) (n c : Nat) (xs : List Sp), e = .returned (.agg #[.string nm, .slice A n c]) ∧ Hid (yI (BA nm) = true) ∧ Hid (zn nn nd xs = 0 ∧ xs.length = n ∧ n ≤ most) ∧ Hid (sF w' w.heap.size A n c xs) ∧ Hid (zP w' g) ∧ Hid (w.grownBy w' (some g))
theorem pw {nn nd : Nat} {f : Sp} : ∀ {xs : List Sp}, zn nn nd xs = 0 → zc nn nd f = 0 → zn nn nd (xs ++ [f]) = 0
 | [], _, h => by rw [List.nil_append, zn, if_neg (by omega)]; rfl
 | x :: xs, h, hf => by
  rw [zn] at h;split at h
  ·next h1 => exact absurd h h1
  ·next h1 => rw [List.cons_append, zn, if_neg h1]; exact pw h hf
def MpR (w : World) (g x : Nat) (An Ad : Option Addr) (nn cn nd cd most : Nat) (nm : ByteArray) (gk : Nat) (kv : Value) (wr : World) : Prop :=
 ∃ (k n c : Nat) (A : Option Addr) (xs : List Sp), kv = .int .i64 (k : Int) ∧ gk = k ∧ n + k ≤ most ∧ Hid (Jo w g x #[.slice An nn cn, .slice Ad nd cd] nm A n c xs wr) ∧ Hid (zn nn nd xs = 0)
theorem mD (g : Nat) (An Ad : Option Addr) (nn cn nd cd most : Nat) (w : World) (hd : zP w g) (Bq : 0 < nn) (Ve : nn ≤ 1000) (AV : 0 < nd) (Vh : nd ≤ 1000) (UQ : most ≤ 1000) :
 Calls prog 14 #[.pointer (some ⟨g, 0, none⟩), .agg #[.slice An nn cn, .slice Ad nd cd], .int .i64 (most : Int)] w (iT w g nn nd most) := by
 have hlt := hd.lt;have Bi := iD ((AJ.new w 26 #[.slice An nn cn, .slice Ad nd cd]).alloc (.cells #[.string ⟨#[]⟩, .slice none 0 0] 34))
 have AL : Hid (AJ ((w.alloc (.cells #[.slice An nn cn, .slice Ad nd cd] 26)).alloc (.cells #[.string ⟨#[]⟩, .slice none 0 0] 34)) (w.heap.size + 1) 34 #[.string ⟨#[]⟩, .slice none 0 0]) := by
  have := AJ.new (w.alloc (.cells #[.slice An nn cn, .slice Ad nd cd] 26)) 34 #[.string ⟨#[]⟩, .slice none 0 0];unfold Hid; simpa using this
 have MB : Hid (Below w.heap.size w ((w.alloc (.cells #[.slice An nn cn, .slice Ad nd cd] 26)).alloc (.cells #[.string ⟨#[]⟩, .slice none 0 0] 34))) := ((Below.refl _ _).alloc lR _).alloc (by simp) _;have JZ := iD ((hd.alloc (.cells #[.slice An nn cn, .slice Ad nd cd] 26)).alloc (.cells #[.string ⟨#[]⟩, .slice none 0 0] 34));clear hd
 go_enter func14, ntmps14
 go_upto_region 1 with (fail);generalize World.alloc (World.alloc w _) _ = W at *
 go_wp2_with fail
 refine (zS g 50 W JZ (by decide)).mono ?_;rintro e w1 ⟨r, rfl, KI, _, DC, BC, Am, BS⟩;have MJ := DC (by decide);obtain ⟨r, rfl⟩ := Int.eq_ofNat_of_zero_le KI;have CF := iD (zJ (zI MB (some g)) Am);have KY := iD (Bi.grown Am (fun e => by injection e with e; omega));have IG := iD (AL.grown Am (fun e => by injection e with e; omega));have KX := iD BC.out;clear DC BC Am BS Bi AL MB JZ
 go_wp2_with fail
 refine (wj ⟨#[80]⟩ r w1 (by decide) (by omega)).mono ?_;rintro e w2 ⟨rfl, AQ⟩;obtain ⟨nm, Ef⟩ := eX (Ei (EC (BA ⟨#[80]⟩) r));rw [← Ef];have Gg : Hid (yI (BA nm) = true) := by unfold Hid; rw [Ef, vR]; exact rL 80 r (by decide) (by omega)
 have HX : Hid (w.heap.size + 1 < w2.heap.size) := by have := IG.lt; have := AQ.size; unfold Hid; omega
 have HM : Hid (Jo w g w2.heap.size #[.slice An nn cn, .slice Ad nd cd] nm none 0 0 [] (w2.alloc (.cells #[.string nm, .slice none 0 0] 34))) :=
  ⟨(KY.below AQ KY.lt).alloc _, (IG.below AQ IG.lt).alloc _, AJ.new _ _ _, (KX.below AQ KX.lt).alloc _, ve CF ((AQ.mono CF.size).alloc (Nat.le_trans CF.size AQ.size) _), World.ownsRow_nil _ _ _ _, HX⟩
 clear Ef AQ KY IG KX CF;go_upto_region 2 with (fail);generalize World.alloc w2 _ = V at *;obtain ⟨x, Gb⟩ := eX w2.heap.size;rw [← Gb] at HM HX ⊢;clear Gb HX;have BN : IntKind.i64.wrap ((most : Int) + 1) = (most : Int) + 1 := IntWalk.i64_in _ (by omega)
 go_wp2_with fail
 refine (zS g ((most : Int) + 1) V HM.dk (by omega)).mono ?_;rintro e w3 ⟨k, rfl, Qy, _, AW, Jk, Et, SL⟩;have IM := AW (by omega);obtain ⟨k, rfl⟩ := Int.eq_ofNat_of_zero_le Qy;have Ah := iD (HM.grown Et Jk hlt);clear AW Jk Et SL BN HM V;go_upto_region 3 with (fail);refine zm [(7, 0), (0, 2), (7, 0), (11, 1), (0, 0)] 8 (k) (MpR w g x An Ad nn cn nd cd most nm) (by (try dsimp only [gt]); exact ⟨k, 0, 0, none, [], rfl, rfl, by omega, Ah, rfl⟩) (by kernel_rfl) ?_;intro u1 p8 gk wr a hrel ha J1 K1 Dk Ky;dsimp only [zY, Go.Proofs.YtddddlhgaeameaaGreatDoor.v1, Nat.reduceAdd] at ha;subst ha;clear Ah IM Qy;obtain ⟨k', n, c, A, xs, rfl, rfl, hk, HM, EU⟩ := hrel;by_cases Gq : 0 < gk; rotate_left
 ·obtain rfl : gk = 0 := by omega
  go_upto_region 6 with (fail);obtain ⟨c0, c1⟩ := HM.bx.d2;obtain ⟨d0, d1⟩ := HM.b1.d2;obtain ⟨y0, y1⟩ := HM.b1.e2;have HF : Hid (AJ ((wr.setCell ⟨w.heap.size + 1, 0, none⟩ (.string nm)).setCell ⟨w.heap.size + 1, 1, none⟩ (.slice A n c)) (w.heap.size + 1) 34 #[.string nm, .slice A n c]) := (HM.b1.set 0 _).set 1 _;have HE : Hid (sF ((wr.setCell ⟨w.heap.size + 1, 0, none⟩ (.string nm)).setCell ⟨w.heap.size + 1, 1, none⟩ (.slice A n c)) w.heap.size A n c xs ∧ zP ((wr.setCell ⟨w.heap.size + 1, 0, none⟩ (.string nm)).setCell ⟨w.heap.size + 1, 1, none⟩ (.slice A n c)) g ∧ w.grownBy ((wr.setCell ⟨w.heap.size + 1, 0, none⟩ (.string nm)).setCell ⟨w.heap.size + 1, 1, none⟩ (.slice A n c)) (some g)) := HM.fin hlt
  go_wp2_with fail
  clear c0 c1 d0 d1 y0 y1;generalize World.setCell (World.setCell wr _ _) _ _ = z at *;obtain ⟨q0, q1⟩ := HF.d2;exact bodyPost_ret (v := .agg #[.string nm, .slice A n c]) (by simp [results, results14, go_sem, q0, q1]) rfl ⟨nm, A, n, c, xs, rfl, Gg, ⟨EU, sF.len HE.1, by omega⟩, HE.1, HE.2.1, HE.2.2⟩
 have q1 : decide ((gk : Int) > 0) = true := by simpa using Gq
 have q2 : decide (0 < (gk : Int)) = true := by simpa using Gq
 go_upto_region 5 with (fail);clear q1 q2;have Bz := HM.bx.frozen 1;refine fX (fun W' => W'.cell? ⟨x, 1, none⟩ = some (.slice A n c) ∧ W'.cell? ⟨w.heap.size, 0, none⟩ = some (.slice An nn cn) ∧ W'.cell? ⟨w.heap.size, 1, none⟩ = some (.slice Ad nd cd)) [8] ?_ fun AA => ?_
 ·exact ⟨HM.bx.cell 1, HM.b0.cell 0, HM.b0.cell 1⟩
 try dsimp only at AA
 refine tk 0 21 (mf 9 1) AA ?_;refine tk 2 23 (ma 9 5) AA ?_;refine ty 1 22 (mf 9 3) AA (y := by intro w AR; have u0 := AR.1; go_simp; try with_reducible rfl) (h := ?_);refine ty 3 24 (mf 9 4) AA (y := by intro w AR; have u0 := AR.2.1; have u1 := AR.2.2; go_simp; try with_reducible rfl) (h := ?_);refine tb 4 (mf 9 5) fun K hK => ?_
 (go_simp; refine (rN g An Ad nn cn nd cd wr.drew HM.drw.dk (by omega) (by omega) (by omega) (by omega)).mono ?_; rintro e w3 ⟨k, d, no, p, q, rfl, hsp, Jk, Et⟩; have FZ := iD (HM.drw.grown Et Jk hlt); have Hg := iD hsp.out; clear Jk Et hsp; go_simp)
 refine hK _ _ (fun _ => ⟨FZ.bx.cell 1, FZ.b0.cell 0, FZ.b0.cell 1⟩) fun p => (fun AA => ?_) (p rfl)
 clear p hK K;(try dsimp only at AA);refine tb 5 (mf 9 6) fun K hK => ?_
 (go_simp)
 refine hK _ _ (fun _ => ⟨(FZ.later ((Below.refl _ w3).alloc lR (.cells #[.int .i64 k, .int .i64 d, .int .i64 no, .int .i64 p, .int .i64 q] 31))).bx.cell 1, (FZ.later ((Below.refl _ w3).alloc lR (.cells #[.int .i64 k, .int .i64 d, .int .i64 no, .int .i64 p, .int .i64 q] 31))).b0.cell 0, (FZ.later ((Below.refl _ w3).alloc lR (.cells #[.int .i64 k, .int .i64 d, .int .i64 no, .int .i64 p, .int .i64 q] 31))).b0.cell 1⟩) fun p => (fun AA => ?_) (p rfl)
 clear p hK K;(try dsimp only at AA);refine tb 6 (mf 9 7) fun K hK => ?_
 (refine zi (d := some 27) (by rfl) (by rfl) (.tmp 22) (.tmp 26) (by rfl) iR (by rfl) (FZ.later ((Below.refl _ w3).alloc lR (.cells #[.int .i64 k, .int .i64 d, .int .i64 no, .int .i64 p, .int .i64 q] 31))).o (by rfl) (Sl.newest (n := 1) rfl rfl (by decide)) (by simp [Value.oneCell']) (by omega) (by omega) (by have := (FZ.bx).lt; simp; omega) ?_; intro A' c' w7 BH Be DL; have Fh := iD (Jo.app (f := ⟨k, d, no, p, q⟩) (FZ.later ((Below.refl _ w3).alloc lR (.cells #[.int .i64 k, .int .i64 d, .int .i64 no, .int .i64 p, .int .i64 q] 31))) Be BH hlt); have q0 := Fh.1.cell 1; have q1 := Fh.1.frozen 1; clear BH Be DL)
 refine hK _ _ (fun _ => ⟨Fh.1.cell 1, Fh.2.1.cell 0, Fh.2.1.cell 1⟩) fun p => (fun AA => ?_) (p rfl)
 clear p hK K;(try dsimp only at AA);refine tk 7 28 (mf 9 8) AA ?_;refine tb 8 (mf 9 9) fun K hK => ?_
 go_simp
 refine hK _ _ (fun h => by cases h) (fun _ => ?_)
 try clear AA
 clear hK K;refine tK ?_;have TY := iD Fh.2.2;have Bc := iD (pw EU Hg);clear Fh q0 q1 FZ HM EU Hg;generalize World.setCell w7 _ _ = w8 at *
 go_wp2_with fail
 refine Handed.intro (gk - 1) (by omega) (Dk _ _ _ (xQ.back 8 ?_ (by kernel_rfl)));dsimp only [gt];exact ⟨gk - 1, n + 1, c', A', xs ++ [⟨k, d, no, p, q⟩], by go_num, rfl, by omega, TY, Bc⟩
end Go.Proofs.YtddddlhgaeameaaGreatDoor
