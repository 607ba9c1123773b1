import Derived.Test.YtddddlhgaeameaaGreatDoorJ31
set_option maxRecDepth 100000
set_option maxHeartbeats 32000000
namespace Go.Proofs.YtddddlhgaeameaaGreatDoor
open Go.RowKit Tryz
variable {c c2 cl cp i n n2 x : Nat} {t : Sm} {A A2 Al Ap : Option Addr} {cs : Array Value}
def gC (w : World) (co : Int) (o : So) (e : Ending) (w' : World) : Prop :=
 ∃ (A1 A2 Al Ap : Option Addr) (n1 c1 n2 c2 nl cl np cp : Nat), e = .returned (.tuple #[.slice A1 n1 c1, .slice A2 n2 c2, .agg #[.int .i64 co, .slice Al nl cl, .slice Ap np cp], .bool o.ok]) ∧ Hid (yi w' A1 A2 Al Ap n1 c1 n2 c2 nl cl np cp o) ∧ Hid (vm w.heap.size A1 A2 Al Ap) ∧ Hid (Below w.heap.size w w')
theorem tg {w : World} {base size : Nat} {e t : TypeId} {xs : List Value} (h : w.ownsRow base e size (.slice A n c) n xs) (hx : AJ w x t cs) (ht : e ≠ t) : (Value.slice A n c).ownBlock ≠ some x := by
 intro e1;rcases h.2 with ⟨h0, hn⟩ | ⟨g, cap, cur, h0, hg, hh, h1, h2, h3, h4⟩
 ·injection h0 with h0; rw [h0] at e1; cases e1
 ·injection h0 with h0; rw [h0] at e1;simp [Value.ownBlock] at e1;subst e1;unfold AJ at hx;rw [hx] at hh;injection hh with hh; injection hh with Ae AK; exact ht AK.symm
theorem yJ {w : World} {base size : Nat} {e t : TypeId} {xs : List Value} {u : Value} (h : w.ownsRow base e size (.slice A n c) n xs) (hx : AJ w x t cs) (ht : e ≠ t) : (w.setCell ⟨x, i, none⟩ u).ownsRow base e size (.slice A n c) n xs := h.kept (zo w ⟨x, i, none⟩ u) (.inr (tg h hx ht))
structure FI (W : World) (x : Nat) (co : Int) (D1 D3 D4 : Option Addr) (n f1 nl f3 np f4 : Nat) (s : List Int) (ls : List Lk) (pr : List Int) (wr : World) : Prop where
 bx : AJ wr x 29 #[.int .i64 co, .slice D3 nl f3, .slice D4 np f4]
 s : zN wr W.heap.size D1 n f1 s
 l : ze wr W.heap.size D3 nl f3 ls
 p : zN wr W.heap.size D4 np f4 pr
 ne : ∀ g, (Value.slice D1 n f1).ownBlock = some g → (Value.slice D3 nl f3).ownBlock ≠ some g ∧ (Value.slice D4 np f4).ownBlock ≠ some g
 bl : bW W wr
 hx : W.heap.size ≤ x
theorem FI.new {W wr : World} {co : Int} {D1 D3 D4 : Option Addr} {f1 nl f3 np f4 : Nat} {s : List Int} {ls : List Lk} {pr : List Int} (bx : AJ wr x 29 #[.int .i64 0, .slice none 0 0, .slice none 0 0]) (hs : zN wr W.heap.size D1 n f1 s) (hl : ze wr W.heap.size D3 nl f3 ls) (hp : zN wr W.heap.size D4 np f4 pr)
 (ne : ∀ g, (Value.slice D1 n f1).ownBlock = some g → (Value.slice D3 nl f3).ownBlock ≠ some g ∧ (Value.slice D4 np f4).ownBlock ≠ some g) (bl : bW W wr) (hx : W.heap.size ≤ x) :
 FI W x co D1 D3 D4 n f1 nl f3 np f4 s ls pr (((wr.setCell ⟨x, 0, none⟩ (.int .i64 co)).setCell ⟨x, 1, none⟩ (.slice D3 nl f3)).setCell ⟨x, 2, none⟩ (.slice D4 np f4)) :=
 have b1 := bx.set 0 (.int .i64 co);have b2 := b1.set 1 (.slice D3 nl f3)
 ⟨b2.set 2 _, yJ (yJ (yJ hs bx (by decide)) b1 (by decide)) b2 (by decide), yJ (yJ (yJ hl bx (by decide)) b1 (by decide)) b2 (by decide), yJ (yJ (yJ hp bx (by decide)) b1 (by decide)) b2 (by decide), ne, ((bl.setCell hx _).setCell hx _).setCell hx _, hx⟩
section
variable {w W wr wr' : World} {x : Nat} {co : Int} {D1 D3 D4 : Option Addr} {n f1 nl f3 np f4 : Nat} {s : List Int} {ls : List Lk} {pr : List Int}
theorem FI.later (h : FI W x co D1 D3 D4 n f1 nl f3 np f4 s ls pr wr) (hb : bW wr wr') : FI W x co D1 D3 D4 n f1 nl f3 np f4 s ls pr wr' :=
 ⟨h.bx.below hb h.bx.lt, zM h.s hb, zM h.l hb, zM h.p hb, h.ne, h.bl.trans (hb.mono h.bl.size), h.hx⟩
theorem FI.putm (h : FI W x co D1 D3 D4 n f1 nl f3 np f4 s ls pr wr) (hi : i < n) : ∃ (g : Nat) (y : Int), D1 = some ⟨g, 0, none⟩ ∧ s[i]? = some y ∧ wr.cell? ⟨g, i, none⟩ = some (.int .i64 y) ∧ wr.frozen? ⟨g, i, none⟩ = false ∧ W.heap.size ≤ g ∧ g < wr.heap.size ∧
 ∀ u : Int, FI W x co D1 D3 D4 n f1 nl f3 np f4 (s.set i u) ls pr (wr.setCell ⟨g, i, none⟩ (.int .i64 u)) := by
 obtain ⟨g, y, rfl, Am, Cc, hy, Gu, QB, IJ⟩ := h.s.at hi;have hne := h.ne g rfl;have hgx : x ≠ g := fun e => tg h.s h.bx (by decide) (by rw [e]; rfl)
 exact ⟨g, y, rfl, hy, Gu, QB, Am, Cc, fun u => ⟨h.bx.far (p := ⟨g, i, none⟩) hgx _, IJ u, h.l.kept (zo wr ⟨g, i, none⟩ _) (.inr hne.1), h.p.kept (zo wr ⟨g, i, none⟩ _) (.inr hne.2), h.ne, h.bl.setCell (p := ⟨g, i, none⟩) Am _, h.hx⟩⟩
structure OQ (W : World) (x : Nat) (co : Int) (A2 Al Ap : Option Addr) (n2 c2 nl cl np cp : Nat) (t : Sm) (wr : World) : Prop where
 bx : AJ wr x 29 #[.int .i64 co, .slice Al nl cl, .slice Ap np cp]
 s : Av wr 1 A2 n2 c2 (zF t.s)
 l : Av wr 3 Al nl cl (t.ls.flatMap Lk.cells)
 p : Av wr 1 Ap np cp (zF t.pr)
 qs : ∀ b off, A2 = some ⟨b, off, none⟩ → W.heap.size ≤ b
 ql : ∀ b off, Al = some ⟨b, off, none⟩ → W.heap.size ≤ b
 qp : ∀ b off, Ap = some ⟨b, off, none⟩ → W.heap.size ≤ b
theorem OQ.later (h : OQ W x co A2 Al Ap n2 c2 nl cl np cp t wr) (hb : bW wr wr') : OQ W x co A2 Al Ap n2 c2 nl cl np cp t wr' :=
 ⟨h.bx.below hb h.bx.lt, (h.s.below hb lR).more hb.size, (h.l.below hb lR).more hb.size, (h.p.below hb lR).more hb.size, h.qs, h.ql, h.qp⟩
theorem FI.fin (h : FI W x co D1 D3 D4 n f1 nl f3 np f4 s ls pr wr) : OQ W x co D1 D3 D4 n f1 nl f3 np f4 ⟨s, ls, pr⟩ wr :=
 ⟨h.bx, Sl.of_own h.s, Sl.of_own h.l, Sl.of_own h.p, yK h.s, yK h.l, yK h.p⟩
theorem FI.far {g : Nat} {T : TypeId} {u : Value} (h : FI W x co D1 D3 D4 n f1 nl f3 np f4 s ls pr wr) (hg : AJ wr g T cs) (h1 : (3 : TypeId) ≠ T) (h2 : (87 : TypeId) ≠ T) (h3 : (29 : TypeId) ≠ T) (UX : W.heap.size ≤ g) : FI W x co D1 D3 D4 n f1 nl f3 np f4 s ls pr (wr.setCell ⟨g, i, none⟩ u) :=
 ⟨h.bx.far (p := ⟨g, i, none⟩) (fun e => by have := h.bx; rw [e] at this; unfold AJ at this hg; rw [hg] at this; injection this with this; injection this with _ this; exact h3 this.symm) _, yJ h.s hg h1, yJ h.l hg h2, yJ h.p hg h1, h.ne, h.bl.setCell (p := ⟨g, i, none⟩) UX _, h.hx⟩
theorem FI.setp {m : Nat} {pr' : List Int} (h : FI W x co D1 D3 D4 n f1 nl f3 np f4 s ls pr wr) (hS : Av wr 1 A m c (zF pr')) (hne : ∀ b off, A = some ⟨b, off, none⟩ → b ≠ x) (hq : ∀ b off, A = some ⟨b, off, none⟩ → W.heap.size ≤ b) :
 OQ W x co D1 D3 A n f1 nl f3 m c ⟨s, ls, pr'⟩ (wr.setCell ⟨x, 2, none⟩ (.slice A m c)) :=
 ⟨h.bx.set 2 _, Sl.of_own (yJ h.s h.bx (by decide)), Sl.of_own (yJ h.l h.bx (by decide)), (hS.ne hne).more (by simp [World.setCell]), yK h.s, yK h.l, hq⟩
theorem FI.setl {m : Nat} {ls' : List Lk} (h : FI W x co D1 D3 D4 n f1 nl f3 np f4 s ls pr wr) (hS : Av wr 3 A m c (ls'.flatMap Lk.cells)) (hne : ∀ b off, A = some ⟨b, off, none⟩ → b ≠ x) (hq : ∀ b off, A = some ⟨b, off, none⟩ → W.heap.size ≤ b) :
 OQ W x co D1 A D4 n f1 m c np f4 ⟨s, ls', pr⟩ (wr.setCell ⟨x, 1, none⟩ (.slice A m c)) :=
 ⟨h.bx.set 1 _, Sl.of_own (yJ h.s h.bx (by decide)), (hS.ne hne).more (by simp [World.setCell]), Sl.of_own (yJ h.p h.bx (by decide)), yK h.s, hq, yK h.p⟩
theorem OQ.fin {nt gr st : Array Value} {A1 : Option Addr} {n1 c1 : Nat} {hz : List Int} {ok : Bool} (h : OQ W x co A2 Al Ap n2 c2 nl cl np cp t wr) (hB : FE w nt gr st wr) (hw : w.heap.size + 3 < W.heap.size) (hh : Av wr 1 A1 n1 c1 (zF hz)) (h1 : ∀ b off, A1 = some ⟨b, off, none⟩ → w.heap.size + 3 < b) :
 yi (((wr.setCell ⟨w.heap.size + 3, 0, none⟩ (.int .i64 co)).setCell ⟨w.heap.size + 3, 1, none⟩ (.slice Al nl cl)).setCell ⟨w.heap.size + 3, 2, none⟩ (.slice Ap np cp)) A1 A2 Al Ap n1 c1 n2 c2 nl cl np cp ⟨hz, t, ok⟩ ∧ vm w.heap.size A1 A2 Al Ap ∧
 AJ (((wr.setCell ⟨w.heap.size + 3, 0, none⟩ (.int .i64 co)).setCell ⟨w.heap.size + 3, 1, none⟩ (.slice Al nl cl)).setCell ⟨w.heap.size + 3, 2, none⟩ (.slice Ap np cp)) (w.heap.size + 3) 29 #[.int .i64 co, .slice Al nl cl, .slice Ap np cp] ∧ bW w (((wr.setCell ⟨w.heap.size + 3, 0, none⟩ (.int .i64 co)).setCell ⟨w.heap.size + 3, 1, none⟩ (.slice Al nl cl)).setCell ⟨w.heap.size + 3, 2, none⟩ (.slice Ap np cp)) := by
 have hf := hB.fin (x := .int .i64 co) (y := .slice Al nl cl) (z := .slice Ap np cp)
 exact ⟨⟨Ip hh (fun b off e => by have := h1 b off e; omega), Ip h.s (fun b off e => by have := h.qs b off e; omega), Ip h.l (fun b off e => by have := h.ql b off e; omega), Ip h.p (fun b off e => by have := h.qp b off e; omega)⟩,
  ⟨fun b off e => by have := h1 b off e; omega, fun b off e => by have := h.qs b off e; omega, fun b off e => by have := h.ql b off e; omega, fun b off e => by have := h.qp b off e; omega⟩, hf.1, hf.2⟩
theorem OQ.finD {nt gr st : Array Value} {A1 : Option Addr} {n1 c1 : Nat} {hz : List Int} {ok : Bool} (h : OQ W x co A2 Al Ap n2 c2 nl cl np cp t wr) (hB : FE w nt gr st wr) (hw : w.heap.size + 3 < W.heap.size) (hh : Av wr 1 A1 n1 c1 (zF hz)) (h1 : ∀ b off, A1 = some ⟨b, off, none⟩ → w.heap.size + 3 < b) :
 yi (((wr.setCell ⟨w.heap.size + 3, 0, none⟩ (.int .i64 co)).setCell ⟨w.heap.size + 3, 1, none⟩ (.slice Al nl cl)).setCell ⟨w.heap.size + 3, 2, none⟩ (.slice Ap np cp)).drew A1 A2 Al Ap n1 c1 n2 c2 nl cl np cp ⟨hz, t, ok⟩ ∧ vm w.heap.size A1 A2 Al Ap ∧
 AJ (((wr.setCell ⟨w.heap.size + 3, 0, none⟩ (.int .i64 co)).setCell ⟨w.heap.size + 3, 1, none⟩ (.slice Al nl cl)).setCell ⟨w.heap.size + 3, 2, none⟩ (.slice Ap np cp)).drew (w.heap.size + 3) 29 #[.int .i64 co, .slice Al nl cl, .slice Ap np cp] ∧ bW w (((wr.setCell ⟨w.heap.size + 3, 0, none⟩ (.int .i64 co)).setCell ⟨w.heap.size + 3, 1, none⟩ (.slice Al nl cl)).setCell ⟨w.heap.size + 3, 2, none⟩ (.slice Ap np cp)).drew :=
 have f := h.fin (ok := ok) hB hw hh h1
 ⟨f.1.later (Below.refl _ _).drew, f.2.1, f.2.2.1.drw, f.2.2.2.drew⟩
end
def RsC (wg : World) (co : Int) (s : List Int) (ls : List Lk) (pr : List Int) (n nl np : Nat) (nv xv : Value) (wc : World) : Prop :=
 ∃ (x f1 f3 f4 : Nat) (D1 D3 D4 : Option Addr), nv = .slice D1 n f1 ∧ xv = .pointer (some ⟨x, 0, none⟩) ∧ Hid (FI wg x co D1 D3 D4 n f1 nl f3 np f4 s ls pr wc)
theorem qO (An Ad As Al Ap : Option Addr) (nn cn nd cd n c nl cl np cp : Nat) (ns : List Nd) (ds : List Dv) (s : List Int) (ls : List Lk) (pr : List Int) (co k d no p q : Int) (w : World) (h : yp w An Ad As Al Ap nn cn nd cd n c nl cl np cp ns ds s ls pr) (CB : ua ns ds ⟨s, ls, pr⟩) (FT : 0 ≤ co ∧ co ≤ 7) (hx : zc ns.length ds.length ⟨k, d, no, p, q⟩ = 0) :
 Calls prog 43 #[.agg #[.slice An nn cn, .slice Ad nd cd], .slice As n c, .agg #[.int .i64 co, .slice Al nl cl, .slice Ap np cp], .agg #[.int .i64 k, .int .i64 d, .int .i64 no, .int .i64 p, .int .i64 q]] w (gC w co (za ns ds co ⟨s, ls, pr⟩ ⟨k, d, no, p, q⟩)) := by
 obtain ⟨DJ, Ic, FR⟩ := h.ln;have Lj : ls.length = nl := h.hl.len (fun _ => rfl) (by decide);have Pz : pr.length = np := h.hp.len (fun _ => rfl) (by decide);have HH := iD h;have JV := iD Lj;have HB := iD (FE.new w #[.slice An nn cn, .slice Ad nd cd] #[.int .i64 co, .slice Al nl cl, .slice Ap np cp] #[.int .i64 k, .int .i64 d, .int .i64 no, .int .i64 p, .int .i64 q]);obtain ⟨Di, Ca, Jf, MI, MH⟩ := xd hx;dsimp only at Di Ca Jf MI MH;obtain ⟨GQ, hsl⟩ := zQ CB.s;have GJ := iD (xo.of GQ);have BR := iD CB;have Bq : nn ≤ 32 := by have := GJ.nl; omega
 have Ac : nd ≤ 64 := by have := GJ.dl; omega
 dsimp only at hsl;have Gl : nl ≤ 128 := by have := (yW CB.l).1; dsimp only at this; omega
 have SN : np ≤ 32 := by have := uA CB.p; dsimp only at this; omega
 have Ir := h.hs.le;clear h CB hx GQ Lj
 go_enter func43, ntmps43
 go_upto_region 1 with (fail);generalize World.alloc (World.alloc (World.alloc (World.alloc w _) _) _) _ = wg at *;rw [show w.heap.size + 1 + 1 = w.heap.size + 2 from rfl, show w.heap.size + 2 + 1 = w.heap.size + 3 from rfl];have FW : Hid (w.heap.size + 3 < wg.heap.size) := HB.b3.lt;obtain ⟨MS, QH⟩ : ∃ MS : World → Prop, MS = FE w #[.slice An nn cn, .slice Ad nd cd] #[.int .i64 co, .slice Al nl cl, .slice Ap np cp] #[.int .i64 k, .int .i64 d, .int .i64 no, .int .i64 p, .int .i64 q] := ⟨_, rfl⟩
 have Hq : Hid (∀ wr wr' : World, MS wr → Below wr.heap.size wr wr' → MS wr') := fun wr wr' h hb => by rw [QH] at h ⊢; exact h.later hb
 have HAS : Hid (∀ W', MS W' → FE w #[.slice An nn cn, .slice Ad nd cd] #[.int .i64 co, .slice Al nl cl, .slice Ap np cp] #[.int .i64 k, .int .i64 d, .int .i64 no, .int .i64 p, .int .i64 q] W') := fun W' h => by rw [QH] at h; exact h
 have JI : Hid (MS wg) := by unfold Hid; rw [QH]; exact HB.out
 clear QH HB;refine qD [(11, 0), (0, 2), (0, 3), (8, 0), (5, 1), (0, 0), (39, 1), (0, 0), (24, 1), (0, 0), (57, 1)] (RsC wg co s ls pr n nl np) ?rest0 ?first0
 case first0 =>
  intro Ag Af Kz AU;have BF : Hid (Below wg.heap.size wg wg.drew) := (Below.refl _ _).drew;refine fX (MS) [6] ?_ fun AA => ?_
  ·exact Hq _ _ JI (Below.refl _ _).drew
  try dsimp only at AA
  refine tk 0 23 (mf 7 1) AA ?_;refine ty 2 25 (ma 7 5) AA (y := by intro w AR; have u0 := (HAS _ AR).b1.cell 0; have u1 := (HAS _ AR).b1.cell 1; have u2 := (HAS _ AR).b1.cell 2; go_simp; try with_reducible rfl) (h := ?_);refine yP (i := 1) (k := 4) (mf 7 3) (ma 7 21) (by kernel_rfl) (by kernel_rfl) (by kernel_rfl) rfl rfl (fun K hK => ?_) (fun K hK => ?_)
  ·(refine zi (d := some 24) (by rfl) (by rfl) _ (.tmp 23) (by rfl) yl (by rfl) (World.ownsRow_nil _ wg.drew.heap.size _ _) (by rfl) (HH.below (HAS _ AA).bl).hs (yn _) (by omega) (by omega) lR ?_; intro D1 f1 wh CW Dt FU; simp only [Nat.zero_add, List.nil_append] at CW Dt FU ⊢; have CE : Hid (zN wh wg.heap.size D1 n f1 s) := World.ownsRow.mono CW BF.size; have Bg : Hid (Below wg.drew.heap.size wg.drew wh) := zT Dt; clear CW Dt FU)
   refine hK _ _ (fun _ => Hq _ _ AA Bg.out) fun p => (fun AA => ?_) (p rfl)
   clear p hK K;(try dsimp only at AA);have BF := iD (BF.trans (Bg.mono BF.size));clear Bg;refine yP (i := 3) (k := 4) (mf 7 4) (ma 7 23) (by kernel_rfl) (by kernel_rfl) (by kernel_rfl) rfl rfl (fun K hK => ?_) (fun K hK => ?_)
   ·(go_simp; refine (wW Al Ap nl cl np cp _ co ls pr wh (HH.below (HAS _ AA).bl).hl (HH.below (HAS _ AA).bl).hp lR (by omega) (by omega)).mono ?_; rintro e wi ⟨D3, D4, f3, f4, rfl, ES, DN, AQ⟩; have DR : Hid (∀ g, (Value.slice D1 n f1).ownBlock = some g → (Value.slice D3 nl f3).ownBlock ≠ some g ∧ (Value.slice D4 np f4).ownBlock ≠ some g) := fun g e1 => ⟨fun e2 => by have h1 := CE.lt g e1; have h2 := ES.lt g e2; omega, fun e2 => by have h1 := CE.lt g e1; have h2 := DN.lt g e2; omega⟩; have BU : Hid (ze wi wg.heap.size D3 nl f3 ls) := World.ownsRow.mono ES BF.size; have BP : Hid (zN wi wg.heap.size D4 np f4 pr) := World.ownsRow.mono DN BF.size; have Bg := iD AQ.out; clear ES DN AQ; go_simp)
    refine hK _ _ (fun _ => Hq _ _ AA Bg.out) fun p => (fun AA => ?_) (p rfl)
    clear p hK K;(try dsimp only at AA);have BF := iD (BF.trans (Bg.mono BF.size));have CE := iD (zM CE Bg);clear Bg;refine tb 4 (mf 7 5) fun K hK => ?_
    go_simp
    refine hK _ _ (fun _ => Hq _ _ AA ((Below.refl wi.heap.size wi).alloc lR (.cells #[.int .i64 0, .slice none 0 0, .slice none 0 0] 29))) fun p => (fun AA => ?_) (p rfl)
    clear p hK K;(try dsimp only at AA);have Bg : Hid (Below wi.heap.size wi (wi.alloc (.cells #[.int .i64 0, .slice none 0 0, .slice none 0 0] 29))) := ((Below.refl wi.heap.size wi).alloc lR (.cells #[.int .i64 0, .slice none 0 0, .slice none 0 0] 29));have GU : Hid (AJ (wi.alloc (.cells #[.int .i64 0, .slice none 0 0, .slice none 0 0] 29)) wi.heap.size 29 #[.int .i64 0, .slice none 0 0, .slice none 0 0]) := AJ.new wi _ _;have Jp : Hid (wg.heap.size ≤ wi.heap.size) := BF.size;have BF := iD (BF.trans (Bg.mono BF.size));have CE := iD (zM CE Bg);have BU := iD (zM BU Bg);have BP := iD (zM BP Bg);generalize World.alloc wi _ = wx at *;obtain ⟨Cx, CV⟩ := eX wi.heap.size;have HX : Hid (AJ wx Cx 29 #[.int .i64 0, .slice none 0 0, .slice none 0 0]) := by rw [CV]; exact GU.out
    have Ii : Hid (wg.heap.size ≤ Cx) := by unfold Hid; rw [CV]; exact Jp.out
    try rw [← CV]
    clear CV GU Jp Bg;refine tk 5 12 (mf 7 6) AA ?_;have Dw := iD AA;obtain ⟨z0, z1, z2⟩ := HX.d3;obtain ⟨y0, y1, y2⟩ := HX.e3;refine tb 6 (mf 7 7) fun K hK => ?_
    go_simp
    refine hK _ _ (fun h => by cases h) (fun _ => ?_)
    try clear AA
    clear hK K;refine tK ?_;have Fa : Hid (FI wg Cx co D1 D3 D4 n f1 nl f3 np f4 s ls pr (((wx.setCell ⟨Cx, 0, none⟩ (.int .i64 co)).setCell ⟨Cx, 1, none⟩ (.slice D3 nl f3)).setCell ⟨Cx, 2, none⟩ (.slice D4 np f4))) := FI.new HX CE BU BP DR BF Ii.out;clear z0 z1 z2 y0 y1 y2;generalize World.setCell (World.setCell (World.setCell wx _ _) _ _) _ _ = wz at *
    go_wp2_with fail
    refine Met.intro (Kz _ _ (qC.back 12 13 ?_ (by kernel_rfl)))
    try dsimp only [gt]
    exact ⟨Cx, f1, f3, f4, D1, D3, D4, rfl, rfl, Fa⟩
   ·go_simp
    refine hK _ _ (fun _ => Hq _ _ AA ((Below.refl wh.heap.size wh).alloc lR (.cells #[.int .i64 0, .slice none 0 0, .slice none 0 0] 29))) fun p => (fun AA => ?_) (p rfl)
    clear p hK K;(try dsimp only at AA);have Bg : Hid (Below wh.heap.size wh (wh.alloc (.cells #[.int .i64 0, .slice none 0 0, .slice none 0 0] 29))) := ((Below.refl wh.heap.size wh).alloc lR (.cells #[.int .i64 0, .slice none 0 0, .slice none 0 0] 29));have GU : Hid (AJ (wh.alloc (.cells #[.int .i64 0, .slice none 0 0, .slice none 0 0] 29)) wh.heap.size 29 #[.int .i64 0, .slice none 0 0, .slice none 0 0]) := AJ.new wh _ _;have Jp : Hid (wg.heap.size ≤ wh.heap.size) := BF.size;have BF := iD (BF.trans (Bg.mono BF.size));have CE := iD (zM CE Bg);generalize World.alloc wh _ = wx at *;obtain ⟨Cx, CV⟩ := eX wh.heap.size;have HX : Hid (AJ wx Cx 29 #[.int .i64 0, .slice none 0 0, .slice none 0 0]) := by rw [CV]; exact GU.out
    have Ii : Hid (wg.heap.size ≤ Cx) := by unfold Hid; rw [CV]; exact Jp.out
    try rw [← CV]
    clear CV GU Jp Bg;refine tb 3 (mf 7 5) fun K hK => ?_
    (go_simp; refine (wW Al Ap nl cl np cp _ co ls pr wx (HH.below (HAS _ AA).bl).hl (HH.below (HAS _ AA).bl).hp lR (by omega) (by omega)).mono ?_; rintro e wi ⟨D3, D4, f3, f4, rfl, ES, DN, AQ⟩; have DR : Hid (∀ g, (Value.slice D1 n f1).ownBlock = some g → (Value.slice D3 nl f3).ownBlock ≠ some g ∧ (Value.slice D4 np f4).ownBlock ≠ some g) := fun g e1 => ⟨fun e2 => by have h1 := CE.lt g e1; have h2 := ES.lt g e2; omega, fun e2 => by have h1 := CE.lt g e1; have h2 := DN.lt g e2; omega⟩; have BU : Hid (ze wi wg.heap.size D3 nl f3 ls) := World.ownsRow.mono ES BF.size; have BP : Hid (zN wi wg.heap.size D4 np f4 pr) := World.ownsRow.mono DN BF.size; have Bg := iD AQ.out; clear ES DN AQ; go_simp)
    refine hK _ _ (fun _ => Hq _ _ AA Bg.out) fun p => (fun AA => ?_) (p rfl)
    clear p hK K;(try dsimp only at AA);have BF := iD (BF.trans (Bg.mono BF.size));have CE := iD (zM CE Bg);have HX := iD (HX.below Bg HX.lt);clear Bg;refine tk 5 12 (mf 7 6) AA ?_;have Dw := iD AA;obtain ⟨z0, z1, z2⟩ := HX.d3;obtain ⟨y0, y1, y2⟩ := HX.e3;refine tb 6 (mf 7 7) fun K hK => ?_
    go_simp
    refine hK _ _ (fun h => by cases h) (fun _ => ?_)
    try clear AA
    clear hK K;refine tK ?_;have Fa : Hid (FI wg Cx co D1 D3 D4 n f1 nl f3 np f4 s ls pr (((wi.setCell ⟨Cx, 0, none⟩ (.int .i64 co)).setCell ⟨Cx, 1, none⟩ (.slice D3 nl f3)).setCell ⟨Cx, 2, none⟩ (.slice D4 np f4))) := FI.new HX CE BU BP DR BF Ii.out;clear z0 z1 z2 y0 y1 y2;generalize World.setCell (World.setCell (World.setCell wi _ _) _ _) _ _ = wz at *
    go_wp2_with fail
    refine Met.intro (Kz _ _ (qC.back 12 13 ?_ (by kernel_rfl)))
    try dsimp only [gt]
    exact ⟨Cx, f1, f3, f4, D1, D3, D4, rfl, rfl, Fa⟩
  ·go_simp
   refine hK _ _ (fun _ => Hq _ _ JI ((Below.refl wg.heap.size wg).alloc lR (.cells #[.int .i64 0, .slice none 0 0, .slice none 0 0] 29)).drew) fun p => (fun AA => ?_) (p rfl)
   clear p hK K;(try dsimp only at AA);have Bg : Hid (Below wg.heap.size wg (wg.alloc (.cells #[.int .i64 0, .slice none 0 0, .slice none 0 0] 29)).drew) := ((Below.refl wg.heap.size wg).alloc lR (.cells #[.int .i64 0, .slice none 0 0, .slice none 0 0] 29)).drew;have GU : Hid (AJ (wg.alloc (.cells #[.int .i64 0, .slice none 0 0, .slice none 0 0] 29)).drew wg.heap.size 29 #[.int .i64 0, .slice none 0 0, .slice none 0 0]) := AJ.new wg _ _;have Jp : Hid (wg.heap.size ≤ wg.heap.size) := BF.size;have BF := Bg;generalize World.drew (World.alloc wg _) = wx at *;obtain ⟨Cx, CV⟩ := eX wg.heap.size;have HX : Hid (AJ wx Cx 29 #[.int .i64 0, .slice none 0 0, .slice none 0 0]) := by rw [CV]; exact GU.out
   have Ii : Hid (wg.heap.size ≤ Cx) := by unfold Hid; rw [CV]; exact Jp.out
   try rw [← CV]
   clear CV GU Jp Bg;refine tb 1 (ma 7 23) fun K hK => ?_
   (refine zi (d := some 24) (by rfl) (by rfl) _ (.tmp 23) (by rfl) yl (by rfl) (World.ownsRow_nil _ wx.heap.size _ _) (by rfl) (HH.below (HAS _ AA).bl).hs (yn _) (by omega) (by omega) lR ?_; intro D1 f1 wh CW Dt FU; simp only [Nat.zero_add, List.nil_append] at CW Dt FU ⊢; have CE : Hid (zN wh wg.heap.size D1 n f1 s) := World.ownsRow.mono CW BF.size; have Bg : Hid (Below wx.heap.size wx wh) := zT Dt; clear CW Dt FU)
   refine hK _ _ (fun _ => Hq _ _ AA Bg.out) fun p => (fun AA => ?_) (p rfl)
   clear p hK K;(try dsimp only at AA);have BF := iD (BF.trans (Bg.mono BF.size));have HX := iD (HX.below Bg HX.lt);clear Bg;refine tb 3 (mf 7 5) fun K hK => ?_
   (go_simp; refine (wW Al Ap nl cl np cp _ co ls pr wh (HH.below (HAS _ AA).bl).hl (HH.below (HAS _ AA).bl).hp lR (by omega) (by omega)).mono ?_; rintro e wi ⟨D3, D4, f3, f4, rfl, ES, DN, AQ⟩; have DR : Hid (∀ g, (Value.slice D1 n f1).ownBlock = some g → (Value.slice D3 nl f3).ownBlock ≠ some g ∧ (Value.slice D4 np f4).ownBlock ≠ some g) := fun g e1 => ⟨fun e2 => by have h1 := CE.lt g e1; have h2 := ES.lt g e2; omega, fun e2 => by have h1 := CE.lt g e1; have h2 := DN.lt g e2; omega⟩; have BU : Hid (ze wi wg.heap.size D3 nl f3 ls) := World.ownsRow.mono ES BF.size; have BP : Hid (zN wi wg.heap.size D4 np f4 pr) := World.ownsRow.mono DN BF.size; have Bg := iD AQ.out; clear ES DN AQ; go_simp)
   refine hK _ _ (fun _ => Hq _ _ AA Bg.out) fun p => (fun AA => ?_) (p rfl)
   clear p hK K;(try dsimp only at AA);have BF := iD (BF.trans (Bg.mono BF.size));have CE := iD (zM CE Bg);have HX := iD (HX.below Bg HX.lt);clear Bg;refine tk 5 12 (mf 7 6) AA ?_;have Dw := iD AA;obtain ⟨z0, z1, z2⟩ := HX.d3;obtain ⟨y0, y1, y2⟩ := HX.e3;refine tb 6 (mf 7 7) fun K hK => ?_
   go_simp
   refine hK _ _ (fun h => by cases h) (fun _ => ?_)
   try clear AA
   clear hK K;refine tK ?_;have Fa : Hid (FI wg Cx co D1 D3 D4 n f1 nl f3 np f4 s ls pr (((wi.setCell ⟨Cx, 0, none⟩ (.int .i64 co)).setCell ⟨Cx, 1, none⟩ (.slice D3 nl f3)).setCell ⟨Cx, 2, none⟩ (.slice D4 np f4))) := FI.new HX CE BU BP DR BF Ii.out;clear z0 z1 z2 y0 y1 y2;generalize World.setCell (World.setCell (World.setCell wi _ _) _ _) _ _ = wz at *
   go_wp2_with fail
   refine Met.intro (Kz _ _ (qC.back 12 13 ?_ (by kernel_rfl)))
   try dsimp only [gt]
   exact ⟨Cx, f1, f3, f4, D1, D3, D4, rfl, rfl, Fa⟩
 case rest0 =>
  intro AZ Ab Aa wc a hcut ha;dsimp only [zY, Go.Proofs.YtddddlhgaeameaaGreatDoor.v2, Nat.reduceAdd] at ha;subst ha;obtain ⟨x, f1, f3, f4, D1, D3, D4, rfl, rfl, Cg⟩ := hcut;have HB := iD (HAS _ (Hq _ _ JI Cg.bl));have HM := iD (HH.below HB.bl);clear JI HAS Hq;obtain ⟨⟨k0, k1⟩, ⟨g0, g1, g2⟩, s0, s1, s2, s3, s4⟩ := HB.cells;rcases (show k = 1 ∨ k = 2 ∨ k = 5 ∨ k = 4 ∨ k = 6 ∨ k = 3 by omega) with rfl | rfl | rfl | rfl | rfl | rfl
  ·have hlt := Ca (by decide);obtain ⟨i, rfl⟩ := Int.eq_ofNat_of_zero_le hlt.1;have hi : i < nd := by omega
   have IZ : Hid (xh ns ds s i 1 co = 0) := by unfold Hid xh yx; rw [if_pos BR.s, if_neg (by omega), if_neg (by omega), if_neg (by omega), if_neg (by omega), if_neg (by omega)]
   go_upto_region 6 with (fail);clear k0 k1 g0 g1 g2 s0 s1 s2 s3 s4;have Co := iD (HB.later ((Below.refl _ wc).alloc lR (.cells #[.int .i64 i, .int .i64 1] 66)));have FJ := iD (Cg.later ((Below.refl _ wc).alloc lR (.cells #[.int .i64 i, .int .i64 1] 66)));have IA := iD (AJ.new wc 66 #[.int .i64 i, .int .i64 1]);have EJ : Hid (w.heap.size + 3 < wc.heap.size) := HB.b3.lt;have HOW : Hid (wg.heap.size ≤ wc.heap.size) := Cg.bl.size;have AG : Hid (x < wc.heap.size) := Cg.bx.lt;clear HB HM Cg;generalize World.alloc wc _ = V at *;obtain ⟨ob, hob⟩ := eX wc.heap.size;rw [← hob] at IA EJ HOW AG ⊢;clear hob;have Dx := IA; have AY := Co; have FK := FJ;clear IA Co FJ;generalize AP : V = U at *;clear AP;obtain ⟨⟨k0, k1⟩, ⟨g0, g1, g2⟩, s0, s1, s2, s3, s4⟩ := AY.cells;obtain ⟨o0, o1⟩ := Dx.d2
   go_wp2_with fail
   clear k0 k1 g0 g1 g2 s0 s1 s2 s3 s4 o0 o1;refine (mj An Ad As Al Ap nn cn nd cd n c nl cl np cp ns ds s ls pr i 1 co U (HH.below AY.bl)).mono ?_;rintro e w2 ⟨⟨h1, rfl⟩ | ⟨h1, A1, m1, c1, z, hz, rfl, hO⟩, AQ⟩
   ·exact absurd IZ h1
   have CS := iD (AY.later AQ);have Eb := iD (Dx.below AQ Dx.lt);have TN := iD (FK.later AQ);have Og : Hid (FP ns ds s i 1 co ls pr = uq ns.length ns ds s (i : Int).toNat 1 co ls pr z) := by unfold Hid FP; rw [hz]
   have CE := iD hO.out;have AE : Hid (w.heap.size + 3 < U.heap.size) := AY.b3.lt;have AX : Hid (wg.heap.size ≤ U.heap.size) := FK.bl.size;have Wl : Hid (D1 = D1 ∧ ∀ g, (Value.slice D1 n f1).ownBlock = some g → g < U.heap.size) := ⟨rfl, fun g e => (FK.s.lt g e).2⟩;clear h1 hz hO AQ AY Dx FK IZ;obtain ⟨g, y, rfl, hy, Gu, QB, UX, Cc, Dr⟩ := TN.putm (show i < n by omega);have XN : Hid (g < U.heap.size) := Wl.2 g rfl;have XA : Hid (ob ≠ g) := fun e => tg TN.s Eb (by decide) (by rw [e]; rfl)
   have RY := iD (Dr 1);have TU := iD (Eb.far (p := ⟨g, i, none⟩) XA (.int .i64 1));have Bu := iD (CS.put (g := g) (i := i) (u := .int .i64 1) (by have := FW.out; omega));have BP : Hid (zN (w2.setCell ⟨g, i, none⟩ (.int .i64 1)) U.heap.size A1 m1 c1 _) := xf CE XN.out;obtain ⟨⟨k0, k1⟩, ⟨g0, g1, g2⟩, s0, s1, s2, s3, s4⟩ := CS.cells;obtain ⟨o0, o1⟩ := Eb.d2;go_upto_region 10 with (fail);clear k0 k1 g0 g1 g2 s0 s1 s2 s3 s4 o0 o1 Gu QB hy CS Eb TN CE Dr Cc UX Wl XN XA;generalize World.setCell w2 _ _ = X at *;have BD := iD (Sl.of_own BP);rw [← Og.out] at BD;have CF : Hid (∀ b off, A1 = some ⟨b, off, none⟩ → w.heap.size + 3 < b) := fun b off e => by have := yK BP b off e; have := AE.out; omega
   clear BP Og;obtain ⟨⟨k0, k1⟩, ⟨g0, g1, g2⟩, s0, s1, s2, s3, s4⟩ := Bu.cells;obtain ⟨o0, o1⟩ := TU.d2;have Qg : Hid (uu ds 1 i = false) := by unfold Hid uu; simp
   go_upto_region 12 with (fail);clear k0 k1 g0 g1 g2 s0 s1 s2 s3 s4 o0 o1;have Cj := Bu; have Fg := BD; have CY := iD RY.fin;have HT : Hid (za ns ds co ⟨s, ls, pr⟩ ⟨1, i, no, p, q⟩ = ⟨FP ns ds s i 1 co ls pr, ⟨s.set i 1, ls, pr⟩, true⟩) := by unfold Hid; rw [tG ns ds co ⟨s, ls, pr⟩ i no p q (by decide), Qg.out]; rfl
   obtain ⟨d0, d1, d2⟩ := Cj.b3.d3;obtain ⟨y0, y1, y2⟩ := Cj.b3.e3;have BI := iD (CY.finD (ok := true) (hz := FP ns ds s i 1 co ls pr) Cj FW (A1 := A1) (n1 := m1) (c1 := c1) (Fg) CF);refine fX (fun W' => (W'.cell? ⟨x, 0, none⟩ = some (.int .i64 co) ∧ W'.cell? ⟨x, 1, none⟩ = some (.slice D3 nl f3)) ∧ W'.cell? ⟨x, 2, none⟩ = some (.slice D4 np f4)) [5, 6] ?_ fun AA => ?_
   ·exact ⟨⟨CY.bx.cell 0, CY.bx.cell 1⟩, CY.bx.cell 2⟩
   try dsimp only at AA
   refine tk 0 67 (mf 7 1) AA ?_;refine tk 1 68 (mf 7 2) AA ?_;refine tk 2 69 (mf 7 3) AA ?_;refine tk 3 8 (mf 7 4) AA ?_;refine tk 4 9 (mf 7 5) AA ?_;refine tb 5 (mf 7 6) fun K hK => ?_
   go_simp
   refine hK _ _ (fun h => by cases h) (fun _ => ?_)
   try clear AA
   clear hK K;refine tb 6 (mf 7 7) fun K hK => ?_
   go_simp
   refine hK _ _ (fun h => by cases h) (fun _ => ?_)
   try clear AA
   clear hK K;refine tK ?_;clear d0 d1 d2 y0 y1 y2
   go_wp2_with fail
   generalize World.drew (World.setCell (World.setCell (World.setCell X _ _) _ _) _ _) = z at *;obtain ⟨q0, q1, q2⟩ := BI.2.2.1.d3;exact bodyPost_ret (v := .tuple #[.slice A1 m1 c1, .slice (some ⟨g, 0, none⟩) n f1, .agg #[.int .i64 co, .slice D3 nl f3, .slice D4 np f4], .bool true]) (by simp [results, results43, go_sem, q0, q1, q2]) rfl ⟨_, _, _, _, _, _, _, _, _, _, _, _, by rw [HT.out], by rw [HT.out]; exact BI.1, BI.2.1, BI.2.2.2⟩
  ·have hlt := Ca (by decide);obtain ⟨i, rfl⟩ := Int.eq_ofNat_of_zero_le hlt.1;have hi : i < nd := by omega
   have IZ : Hid (xh ns ds s i 2 co = 0) := by unfold Hid xh yx; rw [if_pos BR.s, if_neg (by omega), if_neg (by omega), if_neg (by omega), if_neg (by omega), if_neg (by omega)]
   go_upto_region 6 with (fail);clear k0 k1 g0 g1 g2 s0 s1 s2 s3 s4;have Co := iD (HB.later ((Below.refl _ wc).alloc lR (.cells #[.int .i64 i, .int .i64 1] 66)));have FJ := iD (Cg.later ((Below.refl _ wc).alloc lR (.cells #[.int .i64 i, .int .i64 1] 66)));have IA := iD (AJ.new wc 66 #[.int .i64 i, .int .i64 1]);have EJ : Hid (w.heap.size + 3 < wc.heap.size) := HB.b3.lt;have HOW : Hid (wg.heap.size ≤ wc.heap.size) := Cg.bl.size;have AG : Hid (x < wc.heap.size) := Cg.bx.lt;clear HB HM Cg;generalize World.alloc wc _ = V at *;obtain ⟨ob, hob⟩ := eX wc.heap.size;rw [← hob] at IA EJ HOW AG ⊢;clear hob;obtain ⟨⟨k0, k1⟩, ⟨g0, g1, g2⟩, s0, s1, s2, s3, s4⟩ := Co.cells;obtain ⟨o0, o1⟩ := IA.d2;have p1 := IA.frozen 1;have Dx := iD (IA.set 1 (.int .i64 2));have AY := iD (Co.put (g := ob) (i := 1) (u := .int .i64 2) EJ)
   have FK := iD (FJ.far (i := 1) (u := .int .i64 2) IA (by decide) (by decide) (by decide) HOW);go_upto_region 8 with (fail);clear k0 k1 g0 g1 g2 s0 s1 s2 s3 s4 o0 o1 p1 IA Co FJ;generalize World.setCell V _ _ = U at *;obtain ⟨⟨k0, k1⟩, ⟨g0, g1, g2⟩, s0, s1, s2, s3, s4⟩ := AY.cells;obtain ⟨o0, o1⟩ := Dx.d2
   go_wp2_with fail
   clear k0 k1 g0 g1 g2 s0 s1 s2 s3 s4 o0 o1;refine (mj An Ad As Al Ap nn cn nd cd n c nl cl np cp ns ds s ls pr i 2 co U (HH.below AY.bl)).mono ?_;rintro e w2 ⟨⟨h1, rfl⟩ | ⟨h1, A1, m1, c1, z, hz, rfl, hO⟩, AQ⟩
   ·exact absurd IZ h1
   have CS := iD (AY.later AQ);have Eb := iD (Dx.below AQ Dx.lt);have TN := iD (FK.later AQ);have Og : Hid (FP ns ds s i 2 co ls pr = uq ns.length ns ds s (i : Int).toNat 2 co ls pr z) := by unfold Hid FP; rw [hz]
   have CE := iD hO.out;have AE : Hid (w.heap.size + 3 < U.heap.size) := AY.b3.lt;have AX : Hid (wg.heap.size ≤ U.heap.size) := FK.bl.size;have Wl : Hid (D1 = D1 ∧ ∀ g, (Value.slice D1 n f1).ownBlock = some g → g < U.heap.size) := ⟨rfl, fun g e => (FK.s.lt g e).2⟩;clear h1 hz hO AQ AY Dx FK IZ;obtain ⟨g, y, rfl, hy, Gu, QB, UX, Cc, Dr⟩ := TN.putm (show i < n by omega);have XN : Hid (g < U.heap.size) := Wl.2 g rfl;have XA : Hid (ob ≠ g) := fun e => tg TN.s Eb (by decide) (by rw [e]; rfl)
   have RY := iD (Dr 2);have TU := iD (Eb.far (p := ⟨g, i, none⟩) XA (.int .i64 2));have Bu := iD (CS.put (g := g) (i := i) (u := .int .i64 2) (by have := FW.out; omega));have BP : Hid (zN (w2.setCell ⟨g, i, none⟩ (.int .i64 2)) U.heap.size A1 m1 c1 _) := xf CE XN.out;obtain ⟨⟨k0, k1⟩, ⟨g0, g1, g2⟩, s0, s1, s2, s3, s4⟩ := CS.cells;obtain ⟨o0, o1⟩ := Eb.d2;go_upto_region 10 with (fail);clear k0 k1 g0 g1 g2 s0 s1 s2 s3 s4 o0 o1 Gu QB hy CS Eb TN CE Dr Cc UX Wl XN XA;generalize World.setCell w2 _ _ = X at *;have BD := iD (Sl.of_own BP);rw [← Og.out] at BD;have CF : Hid (∀ b off, A1 = some ⟨b, off, none⟩ → w.heap.size + 3 < b) := fun b off e => by have := yK BP b off e; have := AE.out; omega
   have Xf : Hid (∀ b off, A1 = some ⟨b, off, none⟩ → b ≠ x) := zv BP RY.bx (by decide);clear BP Og;obtain ⟨⟨k0, k1⟩, ⟨g0, g1, g2⟩, s0, s1, s2, s3, s4⟩ := Bu.cells;obtain ⟨o0, o1⟩ := TU.d2;obtain ⟨bd, od, zz, AV, AO, UM, AH⟩ := (HH.below Bu.bl).hd.at (fun _ => rfl) (by decide) hi;have kd : X.cell? ⟨bd, od + i * 5 + 1, none⟩ = some (.int .i64 zz.kind) := AH 1 _ rfl;have AB := iD (lJ (ds := ds) (d := (i : Int)) (x := zz) (by rw [Int.toNat_natCast]; exact UM) 2);subst AV;clear AH UM AO;by_cases UW : zz.kind = 4
   ·have q1 : (zz.kind != 4) = false := by simpa using UW
    have Qg : Hid (uu ds 2 i = false) := by unfold Hid; rw [AB.out]; simp [UW]
    clear UW AB;go_upto_region 12 with (fail);clear q1 kd k0 k1 g0 g1 g2 s0 s1 s2 s3 s4 o0 o1;have Cj := Bu; have Fg := BD; have CY := iD RY.fin;have HT : Hid (za ns ds co ⟨s, ls, pr⟩ ⟨2, i, no, p, q⟩ = ⟨FP ns ds s i 2 co ls pr, ⟨s.set i 2, ls, pr⟩, true⟩) := by unfold Hid; rw [tG ns ds co ⟨s, ls, pr⟩ i no p q (by decide), Qg.out]; rfl
    obtain ⟨d0, d1, d2⟩ := Cj.b3.d3;obtain ⟨y0, y1, y2⟩ := Cj.b3.e3;have BI := iD (CY.finD (ok := true) (hz := FP ns ds s i 2 co ls pr) Cj FW (A1 := A1) (n1 := m1) (c1 := c1) (Fg) CF);refine fX (fun W' => (W'.cell? ⟨x, 0, none⟩ = some (.int .i64 co) ∧ W'.cell? ⟨x, 1, none⟩ = some (.slice D3 nl f3)) ∧ W'.cell? ⟨x, 2, none⟩ = some (.slice D4 np f4)) [5, 6] ?_ fun AA => ?_
    ·exact ⟨⟨CY.bx.cell 0, CY.bx.cell 1⟩, CY.bx.cell 2⟩
    try dsimp only at AA
    refine tk 0 67 (mf 7 1) AA ?_;refine tk 1 68 (mf 7 2) AA ?_;refine tk 2 69 (mf 7 3) AA ?_;refine tk 3 8 (mf 7 4) AA ?_;refine tk 4 9 (mf 7 5) AA ?_;refine tb 5 (mf 7 6) fun K hK => ?_
    go_simp
    refine hK _ _ (fun h => by cases h) (fun _ => ?_)
    try clear AA
    clear hK K;refine tb 6 (mf 7 7) fun K hK => ?_
    go_simp
    refine hK _ _ (fun h => by cases h) (fun _ => ?_)
    try clear AA
    clear hK K;refine tK ?_;clear d0 d1 d2 y0 y1 y2
    go_wp2_with fail
    generalize World.drew (World.setCell (World.setCell (World.setCell X _ _) _ _) _ _) = z at *;obtain ⟨q0, q1, q2⟩ := BI.2.2.1.d3;exact bodyPost_ret (v := .tuple #[.slice A1 m1 c1, .slice (some ⟨g, 0, none⟩) n f1, .agg #[.int .i64 co, .slice D3 nl f3, .slice D4 np f4], .bool true]) (by simp [results, results43, go_sem, q0, q1, q2]) rfl ⟨_, _, _, _, _, _, _, _, _, _, _, _, by rw [HT.out], by rw [HT.out]; exact BI.1, BI.2.1, BI.2.2.2⟩
   ·have q1 : (zz.kind != 4) = true := by simpa using UW
    have Qg : Hid (uu ds 2 i = true) := by unfold Hid; rw [AB.out]; simp [UW]
    clear UW AB;have z2 := RY.bx.cell 2;have v2 := RY.bx.frozen 2;have CY := iD (RY.setp (A := none) (m := 0) (c := 0) (pr' := []) (Sl.nil _ _ _) (fun b off e => by cases e) (fun b off e => by cases e));have Cj := iD (Bu.put (g := x) (i := 2) (u := .slice none 0 0) (by have := RY.hx; have := FW.out; omega));have Fg : Hid (Sl (X.setCell ⟨x, 2, none⟩ (.slice none 0 0)) (X.setCell ⟨x, 2, none⟩ (.slice none 0 0)).heap.size 1 A1 m1 c1 (zF (FP ns ds s i 2 co ls pr))) := (BD.ne Xf).more (by simp [World.setCell]);go_upto_region 12 with (fail);clear q1 kd k0 k1 g0 g1 g2 s0 s1 s2 s3 s4 o0 o1 z2 v2;generalize World.setCell X _ _ = Y at *;have HT : Hid (za ns ds co ⟨s, ls, pr⟩ ⟨2, i, no, p, q⟩ = ⟨FP ns ds s i 2 co ls pr, ⟨s.set i 2, ls, []⟩, true⟩) := by unfold Hid; rw [tG ns ds co ⟨s, ls, pr⟩ i no p q (by decide), Qg.out]; rfl
    obtain ⟨d0, d1, d2⟩ := Cj.b3.d3;obtain ⟨y0, y1, y2⟩ := Cj.b3.e3;have BI := iD (CY.finD (ok := true) (hz := FP ns ds s i 2 co ls pr) Cj FW (A1 := A1) (n1 := m1) (c1 := c1) (Fg) CF);refine fX (fun W' => (W'.cell? ⟨x, 0, none⟩ = some (.int .i64 co) ∧ W'.cell? ⟨x, 1, none⟩ = some (.slice D3 nl f3)) ∧ W'.cell? ⟨x, 2, none⟩ = some (.slice none 0 0)) [5, 6] ?_ fun AA => ?_
    ·exact ⟨⟨CY.bx.cell 0, CY.bx.cell 1⟩, CY.bx.cell 2⟩
    try dsimp only at AA
    refine tk 0 67 (mf 7 1) AA ?_;refine tk 1 68 (mf 7 2) AA ?_;refine tk 2 69 (mf 7 3) AA ?_;refine tk 3 8 (mf 7 4) AA ?_;refine tk 4 9 (mf 7 5) AA ?_;refine tb 5 (mf 7 6) fun K hK => ?_
    go_simp
    refine hK _ _ (fun h => by cases h) (fun _ => ?_)
    try clear AA
    clear hK K;refine tb 6 (mf 7 7) fun K hK => ?_
    go_simp
    refine hK _ _ (fun h => by cases h) (fun _ => ?_)
    try clear AA
    clear hK K;refine tK ?_;clear d0 d1 d2 y0 y1 y2
    go_wp2_with fail
    generalize World.drew (World.setCell (World.setCell (World.setCell Y _ _) _ _) _ _) = z at *;obtain ⟨q0, q1, q2⟩ := BI.2.2.1.d3;exact bodyPost_ret (v := .tuple #[.slice A1 m1 c1, .slice (some ⟨g, 0, none⟩) n f1, .agg #[.int .i64 co, .slice D3 nl f3, .slice none 0 0], .bool true]) (by simp [results, results43, go_sem, q0, q1, q2]) rfl ⟨_, _, _, _, _, _, _, _, _, _, _, _, by rw [HT.out], by rw [HT.out]; exact BI.1, BI.2.1, BI.2.2.2⟩
  ·have hlt := Jf rfl;obtain ⟨v, rfl⟩ := Int.eq_ofNat_of_zero_le hlt.1;have hv : v < nn := by omega
   go_wp2_with fail
   clear k0 k1 g0 g1 g2 s0 s1 s2 s3 s4;refine (wX An Ad As nn cn nd cd n c wc.heap.size wc.heap.size wc.heap.size ns ds s wc HM.hn HM.hd HM.hs lR lR lR HM.sn HM.sd (by omega) (fun _ => ⟨by omega, by have := GJ.e; rwa [DJ] at this, GJ.ne⟩) (fun _ => ⟨by have := GJ.a; rwa [DJ] at this, GJ.k⟩)).mono ?_;rintro e w1 ⟨hb, ⟨h1, -⟩ | ⟨-, C, out, rfl, Mx, LA⟩⟩
   ·exact absurd BR.s h1
   have AL := iD (HB.later hb);have CZ := iD (Cg.later hb);obtain ⟨g, y, rfl, -, -, hy, Gu, -, -⟩ := Mx.at hv;have Om : Hid (JN (zW ns.length ds s) v = yw y) := by unfold Hid JN; rw [DJ, xN LA.out, List.getD_eq_getElem?_getD]; simp [hy]
   clear Mx LA hb HB HM Cg hy;obtain ⟨⟨k0, k1⟩, ⟨g0, g1, g2⟩, s0, s1, s2, s3, s4⟩ := AL.cells;rcases IL : yw y with _ | _
   ·have q1 : (bits .and .i64 y 1 != 0) = false := IL;have HT : Hid (za ns ds co ⟨s, ls, pr⟩ ⟨5, d, v, p, q⟩ = ⟨[], ⟨s, ls, xR pr v⟩, true⟩) := by unfold Hid; rw [oD, Om.out, IL]; rfl
    have z2 := CZ.bx.cell 2;go_upto_region 17 with (fail);clear q1 Gu
    go_wp2_with fail
    clear k0 k1 g0 g1 g2 s0 s1 s2 s3 s4 z2;refine (ni D4 np f4 pr v w1 (Sl.of_own CZ.p) (by omega)).mono ?_;rintro e w2 ⟨A4, n4, c4, rfl, hS, hW, hb⟩;have AY := iD (AL.later hb);have FK := iD (CZ.later hb);have Bh := iD hS.out
    have Xf : Hid ((∀ b off, A4 = some ⟨b, off, none⟩ → b ≠ x) ∧ ∀ b off, A4 = some ⟨b, off, none⟩ → wg.heap.size ≤ b) := by
     rcases hW.out with ⟨rfl, rfl, rfl, -⟩ | h
     ·exact ⟨zv FK.p FK.bx (by decide), yK FK.p⟩
     ·exact ⟨fun b off e => by have := h b off e; have := CZ.bx.lt; omega, fun b off e => by have := h b off e; have := CZ.bl.size; omega⟩
    have z2 := FK.bx.cell 2;have v2 := FK.bx.frozen 2;have CY := iD (FK.setp Bh Xf.1 Xf.2);have Cj := iD (AY.put (g := x) (i := 2) (u := .slice A4 n4 c4) (by have := FK.hx; have := FW.out; omega));clear hS hW hb AL CZ;go_upto_region 18 with (fail);clear z2 v2 Bh Xf FK AY;generalize World.setCell w2 _ _ = Y at *;obtain ⟨d0, d1, d2⟩ := Cj.b3.d3;obtain ⟨y0, y1, y2⟩ := Cj.b3.e3;have BI := iD (CY.finD (ok := true) (hz := []) Cj FW (A1 := none) (n1 := 0) (c1 := 0) (Sl.nil _ _ _) (fun b off e => by cases e));refine fX (fun W' => (W'.cell? ⟨x, 0, none⟩ = some (.int .i64 co) ∧ W'.cell? ⟨x, 1, none⟩ = some (.slice D3 nl f3)) ∧ W'.cell? ⟨x, 2, none⟩ = some (.slice A4 n4 c4)) [4, 5] ?_ fun AA => ?_
    ·exact ⟨⟨CY.bx.cell 0, CY.bx.cell 1⟩, CY.bx.cell 2⟩
    try dsimp only at AA
    refine tk 0 94 (mf 6 1) AA ?_;refine tk 1 95 (mf 6 2) AA ?_;refine tk 2 8 (mf 6 3) AA ?_;refine tk 3 9 (mf 6 4) AA ?_;refine tb 4 (mf 6 5) fun K hK => ?_
    go_simp
    refine hK _ _ (fun h => by cases h) (fun _ => ?_)
    try clear AA
    clear hK K;refine tb 5 (mf 6 6) fun K hK => ?_
    go_simp
    refine hK _ _ (fun h => by cases h) (fun _ => ?_)
    try clear AA
    clear hK K;refine tK ?_;clear d0 d1 d2 y0 y1 y2
    go_wp2_with fail
    generalize World.drew (World.setCell (World.setCell (World.setCell Y _ _) _ _) _ _) = z at *;obtain ⟨q0, q1, q2⟩ := BI.2.2.1.d3;exact bodyPost_ret (v := .tuple #[.slice none 0 0, .slice D1 n f1, .agg #[.int .i64 co, .slice D3 nl f3, .slice A4 n4 c4], .bool true]) (by simp [results, results43, go_sem, q0, q1, q2]) rfl ⟨_, _, _, _, _, _, _, _, _, _, _, _, by rw [HT.out], by rw [HT.out]; exact BI.1, BI.2.1, BI.2.2.2⟩
   ·have q1 : (bits .and .i64 y 1 != 0) = true := IL;have HT : Hid (za ns ds co ⟨s, ls, pr⟩ ⟨5, d, v, p, q⟩ = ⟨[8], ⟨s, ls, pr⟩, true⟩) := by unfold Hid; rw [oD, Om.out, IL]; rfl
    go_upto_region 16 with (fail);clear q1 Gu k0 k1 g0 g1 g2 s0 s1 s2 s3 s4;have CY := iD CZ.fin;have CK : Hid (Below w1.heap.size w1 (w1.alloc (.cells #[.int .i64 8] 3)).drew) := ((Below.refl w1.heap.size w1).alloc lR (.cells #[.int .i64 8] 3)).drew;have CQ := iD (AL.later CK);have FJ := iD (CY.later CK);have JA : Hid (AJ (w1.alloc (.cells #[.int .i64 8] 3)).drew w1.heap.size 3 #[.int .i64 8]) := AJ.new w1 3 #[.int .i64 8];have Jv : Hid (w.heap.size + 3 < w1.heap.size) := AL.b3.lt;refine fX (fun W' => (W'.cell? ⟨x, 0, none⟩ = some (.int .i64 co) ∧ W'.cell? ⟨x, 1, none⟩ = some (.slice D3 nl f3)) ∧ W'.cell? ⟨x, 2, none⟩ = some (.slice D4 np f4)) [5, 6] ?_ fun AA => ?_
    ·exact ⟨⟨CY.bx.cell 0, CY.bx.cell 1⟩, CY.bx.cell 2⟩
    try dsimp only at AA
    refine tk 1 86 (ma 7 2) AA ?_;refine tk 2 87 (ma 7 6) AA ?_;refine tb 0 (mf 7 3) fun K hK => ?_
    go_simp
    refine hK _ _ (fun _ => ⟨⟨FJ.bx.cell 0, FJ.bx.cell 1⟩, FJ.bx.cell 2⟩) fun p => (fun AA => ?_) (p rfl)
    clear p hK K;(try dsimp only at AA);generalize World.drew (World.alloc w1 _) = wa at *;obtain ⟨d0, d1, d2⟩ := CQ.b3.d3;obtain ⟨y0, y1, y2⟩ := CQ.b3.e3;refine tk 3 8 (mf 7 4) AA ?_;refine tk 4 9 (mf 7 5) AA ?_;refine tb 5 (mf 7 6) fun K hK => ?_
    go_simp
    refine hK _ _ (fun h => by cases h) (fun _ => ?_)
    try clear AA
    clear hK K;refine tb 6 (mf 7 7) fun K hK => ?_
    go_simp
    refine hK _ _ (fun h => by cases h) (fun _ => ?_)
    try clear AA
    clear hK K;refine tK ?_;have BI := iD (FJ.fin (ok := true) (hz := [8]) CQ FW (xe JA) (fun b off e => by injection e with e; injection e with e1 e2; rw [← e1]; exact Jv));clear d0 d1 d2 y0 y1 y2
    go_wp2_with fail
    generalize World.setCell (World.setCell (World.setCell wa _ _) _ _) _ _ = z at *;obtain ⟨q0, q1, q2⟩ := BI.2.2.1.d3;exact bodyPost_ret (v := .tuple #[.slice (some ⟨w1.heap.size, 0, none⟩) 1 1, .slice D1 n f1, .agg #[.int .i64 co, .slice D3 nl f3, .slice D4 np f4], .bool true]) (by simp [results, results43, go_sem, q0, q1, q2]) rfl ⟨_, _, _, _, _, _, _, _, _, _, _, _, by rw [HT.out], by rw [HT.out]; exact BI.1, BI.2.1, BI.2.2.2⟩
  ·go_wp2_with fail
   clear k0 k1 g0 g1 g2 s0 s1 s2 s3 s4;refine (oH An Ad Al nn cn nd cd nl cl wc.heap.size wc.heap.size wc.heap.size ns ds ls d q wc JV HM.hn HM.hd HM.hl lR lR lR HM.sn HM.sd).mono ?_;rintro e w1 ⟨⟨h1, -⟩ | ⟨-, hi, rfl⟩ | ⟨-, i, A, cA, hi, rfl, hO⟩, hb⟩
   ·exact absurd BR.l h1
   ·have AL := iD (HB.later hb);have CY := iD (Cg.later hb).fin;have HT : Hid (za ns ds co ⟨s, ls, pr⟩ ⟨4, d, no, p, q⟩ = ⟨[4], ⟨s, ls, pr⟩, true⟩) := by unfold Hid; rw [mi, iu, hi]; rfl
    clear hi hb HB HM Cg;go_upto_region 22 with (fail);have CK : Hid (Below w1.heap.size w1 (w1.alloc (.cells #[.int .i64 4] 3)).drew) := ((Below.refl w1.heap.size w1).alloc lR (.cells #[.int .i64 4] 3)).drew;have CQ := iD (AL.later CK);have FJ := iD (CY.later CK);have JA : Hid (AJ (w1.alloc (.cells #[.int .i64 4] 3)).drew w1.heap.size 3 #[.int .i64 4]) := AJ.new w1 3 #[.int .i64 4];have Jv : Hid (w.heap.size + 3 < w1.heap.size) := AL.b3.lt;refine fX (fun W' => (W'.cell? ⟨x, 0, none⟩ = some (.int .i64 co) ∧ W'.cell? ⟨x, 1, none⟩ = some (.slice D3 nl f3)) ∧ W'.cell? ⟨x, 2, none⟩ = some (.slice D4 np f4)) [5, 6] ?_ fun AA => ?_
    ·exact ⟨⟨CY.bx.cell 0, CY.bx.cell 1⟩, CY.bx.cell 2⟩
    try dsimp only at AA
    refine tk 1 112 (ma 7 2) AA ?_;refine tk 2 113 (ma 7 6) AA ?_;refine tb 0 (mf 7 3) fun K hK => ?_
    go_simp
    refine hK _ _ (fun _ => ⟨⟨FJ.bx.cell 0, FJ.bx.cell 1⟩, FJ.bx.cell 2⟩) fun p => (fun AA => ?_) (p rfl)
    clear p hK K;(try dsimp only at AA);generalize World.drew (World.alloc w1 _) = wa at *;obtain ⟨d0, d1, d2⟩ := CQ.b3.d3;obtain ⟨y0, y1, y2⟩ := CQ.b3.e3;refine tk 3 8 (mf 7 4) AA ?_;refine tk 4 9 (mf 7 5) AA ?_;refine tb 5 (mf 7 6) fun K hK => ?_
    go_simp
    refine hK _ _ (fun h => by cases h) (fun _ => ?_)
    try clear AA
    clear hK K;refine tb 6 (mf 7 7) fun K hK => ?_
    go_simp
    refine hK _ _ (fun h => by cases h) (fun _ => ?_)
    try clear AA
    clear hK K;refine tK ?_;have BI := iD (FJ.fin (ok := true) (hz := [4]) CQ FW (xe JA) (fun b off e => by injection e with e; injection e with e1 e2; rw [← e1]; exact Jv));clear d0 d1 d2 y0 y1 y2
    go_wp2_with fail
    generalize World.setCell (World.setCell (World.setCell wa _ _) _ _) _ _ = z at *;obtain ⟨q0, q1, q2⟩ := BI.2.2.1.d3;exact bodyPost_ret (v := .tuple #[.slice (some ⟨w1.heap.size, 0, none⟩) 1 1, .slice D1 n f1, .agg #[.int .i64 co, .slice D3 nl f3, .slice D4 np f4], .bool true]) (by simp [results, results43, go_sem, q0, q1, q2]) rfl ⟨_, _, _, _, _, _, _, _, _, _, _, _, by rw [HT.out], by rw [HT.out]; exact BI.1, BI.2.1, BI.2.2.2⟩
   ·have AL := iD (HB.later hb);have CZ := iD (Cg.later hb);have HT : Hid (za ns ds co ⟨s, ls, pr⟩ ⟨4, d, no, p, q⟩ = ⟨[], ⟨s, ls.eraseIdx i, pr⟩, true⟩) := by unfold Hid; rw [mi, iu, hi]; rfl
    have z1 := CZ.bx.cell 1;have v1 := CZ.bx.frozen 1;have CY := iD (CZ.setl (Sl.of_own hO) (zv hO CZ.bx (by decide)) (fun b off e => by have := yK hO b off e; have := Cg.bl.size; omega));have Cj := iD (AL.put (g := x) (i := 1) (u := .slice A (ls.length - 1) cA) (by have := CZ.hx; have := FW.out; omega));clear hi hO hb HB HM Cg;go_upto_region 24 with (fail);clear z1 v1 AL CZ;generalize World.setCell w1 _ _ = Y at *;obtain ⟨d0, d1, d2⟩ := Cj.b3.d3;obtain ⟨y0, y1, y2⟩ := Cj.b3.e3;have BI := iD (CY.finD (ok := true) (hz := []) Cj FW (A1 := none) (n1 := 0) (c1 := 0) (Sl.nil _ _ _) (fun b off e => by cases e));refine fX (fun W' => (W'.cell? ⟨x, 0, none⟩ = some (.int .i64 co) ∧ W'.cell? ⟨x, 1, none⟩ = some (.slice A (ls.length - 1) cA)) ∧ W'.cell? ⟨x, 2, none⟩ = some (.slice D4 np f4)) [4, 5] ?_ fun AA => ?_
    ·exact ⟨⟨CY.bx.cell 0, CY.bx.cell 1⟩, CY.bx.cell 2⟩
    try dsimp only at AA
    refine tk 0 116 (mf 6 1) AA ?_;refine tk 1 117 (mf 6 2) AA ?_;refine tk 2 8 (mf 6 3) AA ?_;refine tk 3 9 (mf 6 4) AA ?_;refine tb 4 (mf 6 5) fun K hK => ?_
    go_simp
    refine hK _ _ (fun h => by cases h) (fun _ => ?_)
    try clear AA
    clear hK K;refine tb 5 (mf 6 6) fun K hK => ?_
    go_simp
    refine hK _ _ (fun h => by cases h) (fun _ => ?_)
    try clear AA
    clear hK K;refine tK ?_;clear d0 d1 d2 y0 y1 y2
    go_wp2_with fail
    generalize World.drew (World.setCell (World.setCell (World.setCell Y _ _) _ _) _ _) = z at *;obtain ⟨q0, q1, q2⟩ := BI.2.2.1.d3;exact bodyPost_ret (v := .tuple #[.slice none 0 0, .slice D1 n f1, .agg #[.int .i64 co, .slice A (ls.length - 1) cA, .slice D4 np f4], .bool true]) (by simp [results, results43, go_sem, q0, q1, q2]) rfl ⟨_, _, _, _, _, _, _, _, _, _, _, _, by rw [HT.out], by rw [HT.out]; exact BI.1, BI.2.1, BI.2.2.2⟩
  ·have Ih := Ca (by decide);obtain ⟨i, rfl⟩ := Int.eq_ofNat_of_zero_le Ih.1;obtain ⟨bs, os, sv, NB, PR, Lh, hcs⟩ := HM.hs.at1 (show i < n by omega);subst NB;have LH : Hid (s.getD (i : Int).toNat 0 = sv) := by unfold Hid; rw [Int.toNat_natCast, List.getD_eq_getElem?_getD, Lh]; rfl
   clear Lh PR;have Ig : i < n := by omega
   go_upto_region 25 with (fail);refine fX (fun W' => (W'.cell? ⟨w.heap.size + 2, 1, none⟩ = some (.int .i64 i) ∧ W'.cell? ⟨w.heap.size + 2, 3, none⟩ = some (.int .i64 p)) ∧ W'.cell? ⟨bs, os + i, none⟩ = some (.int .i64 sv)) [] ?_ fun AA => ?_
   ·exact ⟨⟨s1, s3⟩, hcs⟩
   try dsimp only at AA
   refine tk 0 118 (mf 8 1) AA ?_;refine tk 1 119 (mf 8 2) AA ?_;refine ty 2 120 (mf 8 3) AA (y := by intro w AR; have u1 := AR.1.1; go_simp; try with_reducible rfl) (h := ?_);refine tk 3 121 (mf 8 4) AA ?_;refine ty 4 122 (mf 8 5) AA (y := by intro w AR; have u2 := AR.2; go_simp; try with_reducible rfl) (h := ?_);refine tk 5 123 (mf 8 6) AA ?_;refine ty 6 124 (mf 8 7) AA (y := by intro w AR; have u3 := AR.1.2; go_simp; try with_reducible rfl) (h := ?_);refine tk 7 125 (mf 8 8) AA ?_;refine tK ?_;have AL := iD (HB.later (Below.refl _ wc).drew);have CZ := iD (Cg.later (Below.refl _ wc).drew);clear HM k0 k1 g0 g1 g2 s0 s1 s2 s3 s4 hcs HB Cg AA;generalize World.drew wc = WD at *;obtain ⟨⟨k0, k1⟩, ⟨g0, g1, g2⟩, s0, s1, s2, s3, s4⟩ := AL.cells;by_cases Er : sv = p; rotate_left
   ·have q1 : (sv != p) = true := by simpa using Er
    have HT : Hid (za ns ds co ⟨s, ls, pr⟩ ⟨6, i, no, p, q⟩ = ⟨[8], ⟨s, ls, pr⟩, false⟩) := by unfold Hid; rw [mh]; dsimp only; rw [LH.out, if_pos Er]
    clear Er;have CY := iD CZ.fin;go_upto_region 26 with (fail);clear q1 k0 k1 g0 g1 g2 s0 s1 s2 s3 s4;have CK : Hid (Below WD.heap.size WD (WD.alloc (.cells #[.int .i64 8] 3)).drew) := ((Below.refl WD.heap.size WD).alloc lR (.cells #[.int .i64 8] 3)).drew;have CQ := iD (AL.later CK);have FJ := iD (CY.later CK);have JA : Hid (AJ (WD.alloc (.cells #[.int .i64 8] 3)).drew WD.heap.size 3 #[.int .i64 8]) := AJ.new WD 3 #[.int .i64 8];have Jv : Hid (w.heap.size + 3 < WD.heap.size) := AL.b3.lt;refine fX (fun W' => (W'.cell? ⟨x, 0, none⟩ = some (.int .i64 co) ∧ W'.cell? ⟨x, 1, none⟩ = some (.slice D3 nl f3)) ∧ W'.cell? ⟨x, 2, none⟩ = some (.slice D4 np f4)) [5, 6] ?_ fun AA => ?_
    ·exact ⟨⟨CY.bx.cell 0, CY.bx.cell 1⟩, CY.bx.cell 2⟩
    try dsimp only at AA
    refine tk 1 127 (ma 7 2) AA ?_;refine tk 2 128 (ma 7 6) AA ?_;refine tb 0 (mf 7 3) fun K hK => ?_
    go_simp
    refine hK _ _ (fun _ => ⟨⟨FJ.bx.cell 0, FJ.bx.cell 1⟩, FJ.bx.cell 2⟩) fun p => (fun AA => ?_) (p rfl)
    clear p hK K;(try dsimp only at AA);generalize World.drew (World.alloc WD _) = wa at *;obtain ⟨d0, d1, d2⟩ := CQ.b3.d3;obtain ⟨y0, y1, y2⟩ := CQ.b3.e3;refine tk 3 8 (mf 7 4) AA ?_;refine tk 4 9 (mf 7 5) AA ?_;refine tb 5 (mf 7 6) fun K hK => ?_
    go_simp
    refine hK _ _ (fun h => by cases h) (fun _ => ?_)
    try clear AA
    clear hK K;refine tb 6 (mf 7 7) fun K hK => ?_
    go_simp
    refine hK _ _ (fun h => by cases h) (fun _ => ?_)
    try clear AA
    clear hK K;refine tK ?_;have BI := iD (FJ.fin (ok := false) (hz := [8]) CQ FW (xe JA) (fun b off e => by injection e with e; injection e with e1 e2; rw [← e1]; exact Jv));clear d0 d1 d2 y0 y1 y2
    go_wp2_with fail
    generalize World.setCell (World.setCell (World.setCell wa _ _) _ _) _ _ = z at *;obtain ⟨q0, q1, q2⟩ := BI.2.2.1.d3;exact bodyPost_ret (v := .tuple #[.slice (some ⟨WD.heap.size, 0, none⟩) 1 1, .slice D1 n f1, .agg #[.int .i64 co, .slice D3 nl f3, .slice D4 np f4], .bool false]) (by simp [results, results43, go_sem, q0, q1, q2]) rfl ⟨_, _, _, _, _, _, _, _, _, _, _, _, by rw [HT.out], by rw [HT.out]; exact BI.1, BI.2.1, BI.2.2.2⟩
   have q1 : (sv != p) = false := by simpa using Er
   have QX : Hid (¬ s.getD (i : Int).toNat 0 ≠ p) := by unfold Hid; rw [LH.out]; simp [Er]
   clear Er;have HT : Hid (za ns ds co ⟨s, ls, pr⟩ ⟨6, i, no, p, q⟩ = ⟨[], ⟨s, ls, pr⟩, true⟩) := by unfold Hid; rw [mh, if_neg QX.out]
   have CY := iD CZ.fin;go_upto_region 32 with (fail);clear q1 k0 k1 g0 g1 g2 s0 s1 s2 s3 s4;obtain ⟨d0, d1, d2⟩ := AL.b3.d3;obtain ⟨y0, y1, y2⟩ := AL.b3.e3;have BI := iD (CY.finD (ok := true) (hz := []) AL FW (A1 := none) (n1 := 0) (c1 := 0) (Sl.nil _ _ _) (fun b off e => by cases e));refine fX (fun W' => (W'.cell? ⟨x, 0, none⟩ = some (.int .i64 co) ∧ W'.cell? ⟨x, 1, none⟩ = some (.slice D3 nl f3)) ∧ W'.cell? ⟨x, 2, none⟩ = some (.slice D4 np f4)) [4, 5] ?_ fun AA => ?_
   ·exact ⟨⟨CY.bx.cell 0, CY.bx.cell 1⟩, CY.bx.cell 2⟩
   try dsimp only at AA
   refine tk 0 153 (mf 6 1) AA ?_;refine tk 1 154 (mf 6 2) AA ?_;refine tk 2 8 (mf 6 3) AA ?_;refine tk 3 9 (mf 6 4) AA ?_;refine tb 4 (mf 6 5) fun K hK => ?_
   go_simp
   refine hK _ _ (fun h => by cases h) (fun _ => ?_)
   try clear AA
   clear hK K;refine tb 5 (mf 6 6) fun K hK => ?_
   go_simp
   refine hK _ _ (fun h => by cases h) (fun _ => ?_)
   try clear AA
   clear hK K;refine tK ?_;clear d0 d1 d2 y0 y1 y2
   go_wp2_with fail
   generalize World.drew (World.setCell (World.setCell (World.setCell WD _ _) _ _) _ _) = z at *;obtain ⟨q0, q1, q2⟩ := BI.2.2.1.d3;exact bodyPost_ret (v := .tuple #[.slice none 0 0, .slice D1 n f1, .agg #[.int .i64 co, .slice D3 nl f3, .slice D4 np f4], .bool true]) (by simp [results, results43, go_sem, q0, q1, q2]) rfl ⟨_, _, _, _, _, _, _, _, _, _, _, _, by rw [HT.out], by rw [HT.out]; exact BI.1, BI.2.1, BI.2.2.2⟩
  ·have Ih := Ca (by decide);obtain ⟨i, rfl⟩ := Int.eq_ofNat_of_zero_le Ih.1;obtain ⟨bs, os, sv, NB, PR, Lh, hcs⟩ := HM.hs.at1 (show i < n by omega);subst NB;have LH : Hid (s.getD (i : Int).toNat 0 = sv) := by unfold Hid; rw [Int.toNat_natCast, List.getD_eq_getElem?_getD, Lh]; rfl
   clear Lh PR;have Ig : i < n := by omega
   go_upto_region 25 with (fail);refine fX (fun W' => (W'.cell? ⟨w.heap.size + 2, 1, none⟩ = some (.int .i64 i) ∧ W'.cell? ⟨w.heap.size + 2, 3, none⟩ = some (.int .i64 p)) ∧ W'.cell? ⟨bs, os + i, none⟩ = some (.int .i64 sv)) [] ?_ fun AA => ?_
   ·exact ⟨⟨s1, s3⟩, hcs⟩
   try dsimp only at AA
   refine tk 0 118 (mf 8 1) AA ?_;refine tk 1 119 (mf 8 2) AA ?_;refine ty 2 120 (mf 8 3) AA (y := by intro w AR; have u1 := AR.1.1; go_simp; try with_reducible rfl) (h := ?_);refine tk 3 121 (mf 8 4) AA ?_;refine ty 4 122 (mf 8 5) AA (y := by intro w AR; have u2 := AR.2; go_simp; try with_reducible rfl) (h := ?_);refine tk 5 123 (mf 8 6) AA ?_;refine ty 6 124 (mf 8 7) AA (y := by intro w AR; have u3 := AR.1.2; go_simp; try with_reducible rfl) (h := ?_);refine tk 7 125 (mf 8 8) AA ?_;refine tK ?_;have AL := iD (HB.later (Below.refl _ wc).drew);have CZ := iD (Cg.later (Below.refl _ wc).drew);clear HM k0 k1 g0 g1 g2 s0 s1 s2 s3 s4 hcs HB Cg AA;generalize World.drew wc = WD at *;obtain ⟨⟨k0, k1⟩, ⟨g0, g1, g2⟩, s0, s1, s2, s3, s4⟩ := AL.cells;by_cases Er : sv = p; rotate_left
   ·have q1 : (sv != p) = true := by simpa using Er
    have HT : Hid (za ns ds co ⟨s, ls, pr⟩ ⟨3, i, no, p, q⟩ = ⟨[8], ⟨s, ls, pr⟩, false⟩) := by unfold Hid; rw [qG]; dsimp only; rw [LH.out, if_pos Er]
    clear Er;have CY := iD CZ.fin;go_upto_region 26 with (fail);clear q1 k0 k1 g0 g1 g2 s0 s1 s2 s3 s4;have CK : Hid (Below WD.heap.size WD (WD.alloc (.cells #[.int .i64 8] 3)).drew) := ((Below.refl WD.heap.size WD).alloc lR (.cells #[.int .i64 8] 3)).drew;have CQ := iD (AL.later CK);have FJ := iD (CY.later CK);have JA : Hid (AJ (WD.alloc (.cells #[.int .i64 8] 3)).drew WD.heap.size 3 #[.int .i64 8]) := AJ.new WD 3 #[.int .i64 8];have Jv : Hid (w.heap.size + 3 < WD.heap.size) := AL.b3.lt;refine fX (fun W' => (W'.cell? ⟨x, 0, none⟩ = some (.int .i64 co) ∧ W'.cell? ⟨x, 1, none⟩ = some (.slice D3 nl f3)) ∧ W'.cell? ⟨x, 2, none⟩ = some (.slice D4 np f4)) [5, 6] ?_ fun AA => ?_
    ·exact ⟨⟨CY.bx.cell 0, CY.bx.cell 1⟩, CY.bx.cell 2⟩
    try dsimp only at AA
    refine tk 1 127 (ma 7 2) AA ?_;refine tk 2 128 (ma 7 6) AA ?_;refine tb 0 (mf 7 3) fun K hK => ?_
    go_simp
    refine hK _ _ (fun _ => ⟨⟨FJ.bx.cell 0, FJ.bx.cell 1⟩, FJ.bx.cell 2⟩) fun p => (fun AA => ?_) (p rfl)
    clear p hK K;(try dsimp only at AA);generalize World.drew (World.alloc WD _) = wa at *;obtain ⟨d0, d1, d2⟩ := CQ.b3.d3;obtain ⟨y0, y1, y2⟩ := CQ.b3.e3;refine tk 3 8 (mf 7 4) AA ?_;refine tk 4 9 (mf 7 5) AA ?_;refine tb 5 (mf 7 6) fun K hK => ?_
    go_simp
    refine hK _ _ (fun h => by cases h) (fun _ => ?_)
    try clear AA
    clear hK K;refine tb 6 (mf 7 7) fun K hK => ?_
    go_simp
    refine hK _ _ (fun h => by cases h) (fun _ => ?_)
    try clear AA
    clear hK K;refine tK ?_;have BI := iD (FJ.fin (ok := false) (hz := [8]) CQ FW (xe JA) (fun b off e => by injection e with e; injection e with e1 e2; rw [← e1]; exact Jv));clear d0 d1 d2 y0 y1 y2
    go_wp2_with fail
    generalize World.setCell (World.setCell (World.setCell wa _ _) _ _) _ _ = z at *;obtain ⟨q0, q1, q2⟩ := BI.2.2.1.d3;exact bodyPost_ret (v := .tuple #[.slice (some ⟨WD.heap.size, 0, none⟩) 1 1, .slice D1 n f1, .agg #[.int .i64 co, .slice D3 nl f3, .slice D4 np f4], .bool false]) (by simp [results, results43, go_sem, q0, q1, q2]) rfl ⟨_, _, _, _, _, _, _, _, _, _, _, _, by rw [HT.out], by rw [HT.out]; exact BI.1, BI.2.1, BI.2.2.2⟩
   have q1 : (sv != p) = false := by simpa using Er
   have QX : Hid (¬ s.getD (i : Int).toNat 0 ≠ p) := by unfold Hid; rw [LH.out]; simp [Er]
   clear Er
   go_wp2_with fail
   clear q1 k0 k1 g0 g1 g2 s0 s1 s2 s3 s4;have HM := iD (HH.below AL.bl);have Tx := iD (oL An Ad Al nn cn nd cd cl WD.heap.size WD.heap.size WD.heap.size ns ds ls i p q WD HM.hn HM.hd (by rw [JV.out]; exact HM.hl) lR lR lR HM.sn HM.sd);rw [JV.out] at Tx;refine Tx.mono ?_;clear Tx HM;rintro e w1 ⟨⟨h1, rfl⟩ | ⟨h1, A, cA, rfl, hO⟩, hb⟩
   ·have AY := iD (AL.later hb);have CY := iD (CZ.later hb).fin
    have HT : Hid (za ns ds co ⟨s, ls, pr⟩ ⟨3, i, no, p, q⟩ = ⟨[4], ⟨s, ls, pr⟩, true⟩) := by
     have hL : yf ns ds ls ⟨3, i, no, p, q⟩ = (ls, false) := by rw [iw, if_pos h1]
     unfold Hid; rw [qG, if_neg QX.out, hL]; rfl
    have q1 : (zf ns ds ls ⟨i, p, q⟩ != 0) = true := by simpa using h1
    clear h1 hb AL CZ;go_upto_region 30 with (fail);clear q1;have CK : Hid (Below w1.heap.size w1 (w1.alloc (.cells #[.int .i64 4] 3)).drew) := ((Below.refl w1.heap.size w1).alloc lR (.cells #[.int .i64 4] 3)).drew;have CQ := iD (AY.later CK);have FJ := iD (CY.later CK);have JA : Hid (AJ (w1.alloc (.cells #[.int .i64 4] 3)).drew w1.heap.size 3 #[.int .i64 4]) := AJ.new w1 3 #[.int .i64 4];have Jv : Hid (w.heap.size + 3 < w1.heap.size) := AY.b3.lt;refine fX (fun W' => (W'.cell? ⟨x, 0, none⟩ = some (.int .i64 co) ∧ W'.cell? ⟨x, 1, none⟩ = some (.slice D3 nl f3)) ∧ W'.cell? ⟨x, 2, none⟩ = some (.slice D4 np f4)) [5, 6] ?_ fun AA => ?_
    ·exact ⟨⟨CY.bx.cell 0, CY.bx.cell 1⟩, CY.bx.cell 2⟩
    try dsimp only at AA
    refine tk 1 149 (ma 7 2) AA ?_;refine tk 2 150 (ma 7 6) AA ?_;refine tb 0 (mf 7 3) fun K hK => ?_
    go_simp
    refine hK _ _ (fun _ => ⟨⟨FJ.bx.cell 0, FJ.bx.cell 1⟩, FJ.bx.cell 2⟩) fun p => (fun AA => ?_) (p rfl)
    clear p hK K;(try dsimp only at AA);generalize World.drew (World.alloc w1 _) = wa at *;obtain ⟨d0, d1, d2⟩ := CQ.b3.d3;obtain ⟨y0, y1, y2⟩ := CQ.b3.e3;refine tk 3 8 (mf 7 4) AA ?_;refine tk 4 9 (mf 7 5) AA ?_;refine tb 5 (mf 7 6) fun K hK => ?_
    go_simp
    refine hK _ _ (fun h => by cases h) (fun _ => ?_)
    try clear AA
    clear hK K;refine tb 6 (mf 7 7) fun K hK => ?_
    go_simp
    refine hK _ _ (fun h => by cases h) (fun _ => ?_)
    try clear AA
    clear hK K;refine tK ?_;have BI := iD (FJ.fin (ok := true) (hz := [4]) CQ FW (xe JA) (fun b off e => by injection e with e; injection e with e1 e2; rw [← e1]; exact Jv));clear d0 d1 d2 y0 y1 y2
    go_wp2_with fail
    generalize World.setCell (World.setCell (World.setCell wa _ _) _ _) _ _ = z at *;obtain ⟨q0, q1, q2⟩ := BI.2.2.1.d3;exact bodyPost_ret (v := .tuple #[.slice (some ⟨w1.heap.size, 0, none⟩) 1 1, .slice D1 n f1, .agg #[.int .i64 co, .slice D3 nl f3, .slice D4 np f4], .bool true]) (by simp [results, results43, go_sem, q0, q1, q2]) rfl ⟨_, _, _, _, _, _, _, _, _, _, _, _, by rw [HT.out], by rw [HT.out]; exact BI.1, BI.2.1, BI.2.2.2⟩
   have HT : Hid (za ns ds co ⟨s, ls, pr⟩ ⟨3, i, no, p, q⟩ = ⟨[], ⟨s, xy ⟨i, p, q⟩ ls, pr⟩, true⟩) := by
    have hL : yf ns ds ls ⟨3, i, no, p, q⟩ = (xy ⟨i, p, q⟩ ls, true) := by rw [iw, if_neg (by rw [h1]; simp)]
    unfold Hid; rw [qG, if_neg QX.out, hL]; rfl
   have AW : Hid (wg.heap.size ≤ WD.heap.size) := CZ.bl.size;replace AL := iD (AL.later hb);replace CZ := iD (CZ.later hb);have z1 := CZ.bx.cell 1;have v1 := CZ.bx.frozen 1;have CY := iD (CZ.setl (Sl.of_own hO) (zv hO CZ.bx (by decide)) (fun b off e => by have := yK hO b off e; have := AW.out; omega));have Cj := iD (AL.put (g := x) (i := 1) (u := .slice A (ls.length + 1) cA) (by have := CZ.hx; have := FW.out; omega));clear h1 hO hb;go_upto_region 32 with (fail);clear z1 v1 AL CZ;generalize World.setCell w1 _ _ = Y at *;obtain ⟨d0, d1, d2⟩ := Cj.b3.d3;obtain ⟨y0, y1, y2⟩ := Cj.b3.e3;have BI := iD (CY.finD (ok := true) (hz := []) Cj FW (A1 := none) (n1 := 0) (c1 := 0) (Sl.nil _ _ _) (fun b off e => by cases e))
   refine fX (fun W' => (W'.cell? ⟨x, 0, none⟩ = some (.int .i64 co) ∧ W'.cell? ⟨x, 1, none⟩ = some (.slice A (ls.length + 1) cA)) ∧ W'.cell? ⟨x, 2, none⟩ = some (.slice D4 np f4)) [4, 5] ?_ fun AA => ?_
   ·exact ⟨⟨CY.bx.cell 0, CY.bx.cell 1⟩, CY.bx.cell 2⟩
   try dsimp only at AA
   refine tk 0 153 (mf 6 1) AA ?_;refine tk 1 154 (mf 6 2) AA ?_;refine tk 2 8 (mf 6 3) AA ?_;refine tk 3 9 (mf 6 4) AA ?_;refine tb 4 (mf 6 5) fun K hK => ?_
   go_simp
   refine hK _ _ (fun h => by cases h) (fun _ => ?_)
   try clear AA
   clear hK K;refine tb 5 (mf 6 6) fun K hK => ?_
   go_simp
   refine hK _ _ (fun h => by cases h) (fun _ => ?_)
   try clear AA
   clear hK K;refine tK ?_;clear d0 d1 d2 y0 y1 y2
   go_wp2_with fail
   generalize World.drew (World.setCell (World.setCell (World.setCell Y _ _) _ _) _ _) = z at *;obtain ⟨q0, q1, q2⟩ := BI.2.2.1.d3;exact bodyPost_ret (v := .tuple #[.slice none 0 0, .slice D1 n f1, .agg #[.int .i64 co, .slice A (ls.length + 1) cA, .slice D4 np f4], .bool true]) (by simp [results, results43, go_sem, q0, q1, q2]) rfl ⟨_, _, _, _, _, _, _, _, _, _, _, _, by rw [HT.out], by rw [HT.out]; exact BI.1, BI.2.1, BI.2.2.2⟩
end Go.Proofs.YtddddlhgaeameaaGreatDoor
