import Derived.Test.YtddddlhgaeameaaGreatDoorJ29
set_option maxRecDepth 100000
set_option maxHeartbeats 16000000
namespace Go.Proofs.YtddddlhgaeameaaGreatDoor
open Go.RowKit Tryz
variable {w : World} {B base c c1 c2 cl cp d m n n1 n2 nl np size x : Nat} {A A1 A2 Al Ap : Option Addr} {xs : List Value} {o : So} {e : TypeId}
theorem Sl.ne2 {i : Nat} {u : Value} (h : Sl w B size A n c xs) (hx : ∀ b off, A = some ⟨b, off, none⟩ → b < B → b ≠ x) : Sl (w.setCell ⟨x, i, none⟩ u) B size A n c xs :=
 ⟨h.1, h.2.1, h.2.2.1, h.2.2.2.1, fun hn => by
  obtain ⟨b, off, rfl, hb, hc⟩ := h.2.2.2.2 hn;exact ⟨b, off, rfl, hb, fun j v hv => (World.cell?_setCell_far w ⟨x, i, none⟩ ⟨b, off + j, none⟩ u (fun e => hx b off rfl hb e.symm)).trans (hc j v hv)⟩⟩
theorem AJ.drw {g : Nat} {t : TypeId} {cs : Array Value} (h : AJ w g t cs) : AJ w.drew g t cs := h.below (Below.refl w.heap.size w).drew h.lt
def Off (w : World) (x : Nat) (A : Option Addr) : Prop := ∀ b off, A = some ⟨b, off, none⟩ → b < w.heap.size → b ≠ x
structure tX (w : World) (x : Nat) (A1 A2 Al Ap : Option Addr) : Prop where
 h : Off w x A1
 s : Off w x A2
 l : Off w x Al
 p : Off w x Ap
theorem yi.set3 {a b d : Value} (h : yi w A1 A2 Al Ap n1 c1 n2 c2 nl cl np cp o) (hx : tX w x A1 A2 Al Ap) : yi (((w.setCell ⟨x, 0, none⟩ a).setCell ⟨x, 1, none⟩ b).setCell ⟨x, 2, none⟩ d) A1 A2 Al Ap n1 c1 n2 c2 nl cl np cp o :=
 ⟨(((h.h.ne2 hx.h).ne2 hx.h).ne2 hx.h).more (by simp [World.setCell]), (((h.s.ne2 hx.s).ne2 hx.s).ne2 hx.s).more (by simp [World.setCell]), (((h.l.ne2 hx.l).ne2 hx.l).ne2 hx.l).more (by simp [World.setCell]), (((h.p.ne2 hx.p).ne2 hx.p).ne2 hx.p).more (by simp [World.setCell])⟩
theorem yi.set3low {w' : World} {a b d : Value} (h : yi w A1 A2 Al Ap n1 c1 n2 c2 nl cl np cp o) (hb : bW w w') (hx : w.heap.size ≤ x) : yi (((w'.setCell ⟨x, 0, none⟩ a).setCell ⟨x, 1, none⟩ b).setCell ⟨x, 2, none⟩ d) A1 A2 Al Ap n1 c1 n2 c2 nl cl np cp o := by
 have hz : w.heap.size ≤ (((w'.setCell ⟨x, 0, none⟩ a).setCell ⟨x, 1, none⟩ b).setCell ⟨x, 2, none⟩ d).heap.size := by have := hb.size; simpa [World.setCell] using this
 exact ⟨((((h.h.below hb lR).setCell (p := ⟨x, 0, none⟩) hx a).setCell (p := ⟨x, 1, none⟩) hx b).setCell (p := ⟨x, 2, none⟩) hx d).more hz, ((((h.s.below hb lR).setCell (p := ⟨x, 0, none⟩) hx a).setCell (p := ⟨x, 1, none⟩) hx b).setCell (p := ⟨x, 2, none⟩) hx d).more hz, ((((h.l.below hb lR).setCell (p := ⟨x, 0, none⟩) hx a).setCell (p := ⟨x, 1, none⟩) hx b).setCell (p := ⟨x, 2, none⟩) hx d).more hz, ((((h.p.below hb lR).setCell (p := ⟨x, 0, none⟩) hx a).setCell (p := ⟨x, 1, none⟩) hx b).setCell (p := ⟨x, 2, none⟩) hx d).more hz⟩
theorem yi.later {w' : World} (h : yi w A1 A2 Al Ap n1 c1 n2 c2 nl cl np cp o) (hb : bW w w') : yi w' A1 A2 Al Ap n1 c1 n2 c2 nl cl np cp o :=
 ⟨(h.h.below hb lR).more hb.size, (h.s.below hb lR).more hb.size, (h.l.below hb lR).more hb.size, (h.p.below hb lR).more hb.size⟩
theorem zv {t : TypeId} {cs : Array Value} (h : w.ownsRow base e size (.slice A n c) n xs) (hx : AJ w x t cs) (ht : e ≠ t) : ∀ b off, A = some ⟨b, off, none⟩ → b ≠ x := by
 intro b off e1 e2;rcases h.2 with ⟨h0, hn⟩ | ⟨g, cap, cur, h0, hg, hh, h1, h2, h3, h4⟩
 ·injection h0 with h0; rw [e1] at h0; cases h0
 ·injection h0 with h0; rw [e1] at h0; injection h0 with h0; injection h0 with h0 _;subst h0; subst e2;unfold AJ at hx;rw [hx] at hh;injection hh with hh; injection hh with Aa AP; exact ht AP.symm
def tW (w : World) (ns : List Nd) (ds : List Dv) (s : List Int) (co : Int) (ls : List Lk) (pr : List Int) (x : Sp) (e : Ending) (w' : World) : Prop :=
 (yE ns ds s co ls pr ⟨#[80]⟩ [x] ≠ 0 ∧ e = .returned (.tuple #[.slice none 0 0, .slice none 0 0, .agg #[.int .i64 0, .slice none 0 0, .slice none 0 0], .bool false, .int .i64 (yE ns ds s co ls pr ⟨#[80]⟩ [x])]) ∨
  yE ns ds s co ls pr ⟨#[80]⟩ [x] = 0 ∧ ∃ (A1 A2 Al Ap : Option Addr) (n1 c1 n2 c2 nl cl np cp : Nat), e = .returned (.tuple #[.slice A1 n1 c1, .slice A2 n2 c2, .agg #[.int .i64 co, .slice Al nl cl, .slice Ap np cp], .bool (za ns ds co ⟨s, ls, pr⟩ x).ok, .int .i64 0]) ∧ Hid (yi w' A1 A2 Al Ap n1 c1 n2 c2 nl cl np cp (za ns ds co ⟨s, ls, pr⟩ x))) ∧ Hid (Below w.heap.size w w')
structure vm (B : Nat) (A1 A2 Al Ap : Option Addr) : Prop where
 h : ∀ b off, A1 = some ⟨b, off, none⟩ → B ≤ b
 s : ∀ b off, A2 = some ⟨b, off, none⟩ → B ≤ b
 l : ∀ b off, Al = some ⟨b, off, none⟩ → B ≤ b
 p : ∀ b off, Ap = some ⟨b, off, none⟩ → B ≤ b
theorem yK (h : w.ownsRow base e size (.slice A n c) n xs) : ∀ b off, A = some ⟨b, off, none⟩ → base ≤ b := by
 intro b off e1;have hl := h.lt;rcases h.2 with ⟨h0, -⟩ | ⟨g, cap, cur, h0, hg, -⟩
 ·injection h0 with h0; rw [e1] at h0; cases h0
 ·injection h0 with h0; rw [e1] at h0; injection h0 with h0; injection h0 with h0 _; subst h0; exact (hl b (by rw [e1]; rfl)).1
def jf (w : World) (ns : List Nd) (ds : List Dv) (s : List Int) (co : Int) (ls : List Lk) (pr : List Int) (x : Sp) (e : Ending) (w' : World) : Prop :=
 (yE ns ds s co ls pr ⟨#[80]⟩ [x] ≠ 0 ∧ e = .returned (.tuple #[.slice none 0 0, .slice none 0 0, .agg #[.int .i64 0, .slice none 0 0, .slice none 0 0], .bool false, .int .i64 (yE ns ds s co ls pr ⟨#[80]⟩ [x])]) ∨
  yE ns ds s co ls pr ⟨#[80]⟩ [x] = 0 ∧ ∃ (A1 A2 Al Ap : Option Addr) (n1 c1 n2 c2 nl cl np cp : Nat), e = .returned (.tuple #[.slice A1 n1 c1, .slice A2 n2 c2, .agg #[.int .i64 co, .slice Al nl cl, .slice Ap np cp], .bool (za ns ds co ⟨s, ls, pr⟩ x).ok, .int .i64 0]) ∧ Hid (yi w' A1 A2 Al Ap n1 c1 n2 c2 nl cl np cp (za ns ds co ⟨s, ls, pr⟩ x)) ∧ Hid (vm w.heap.size A1 A2 Al Ap)) ∧ Hid (Below w.heap.size w w')
theorem jC {ns : List Nd} {ds : List Dv} {s : List Int} {co : Int} {ls : List Lk} {pr : List Int} {nm : ByteArray} {x : Sp} (h : yE ns ds s co ls pr nm [x] = 0) : zc ns.length ds.length x = 0 := vS (vx h).2.2.2 x (by simp)
theorem jg (An Ad As Al Ap : Option Addr) (nn cn nd cd n c nl cl np cp : Nat) (ns : List Nd) (ds : List Dv) (s : List Int) (ls : List Lk) (pr : List Int) (co k d no p q : Int) (w : World) (h : yp w An Ad As Al Ap nn cn nd cd n c nl cl np cp ns ds s ls pr) :
 Calls prog 16 #[.agg #[.slice An nn cn, .slice Ad nd cd], .slice As n c, .agg #[.int .i64 co, .slice Al nl cl, .slice Ap np cp], .agg #[.int .i64 k, .int .i64 d, .int .i64 no, .int .i64 p, .int .i64 q]] w (jf w ns ds s co ls pr ⟨k, d, no, p, q⟩) := by
 obtain ⟨DJ, Ic, FR⟩ := h.ln;have Lj : ls.length = nl := h.hl.len (fun _ => rfl) (by decide);have Pz : pr.length = np := h.hp.len (fun _ => rfl) (by decide);have HH := iD h;have HB := iD (FE.new w #[.slice An nn cn, .slice Ad nd cd] #[.int .i64 co, .slice Al nl cl, .slice Ap np cp] #[.int .i64 k, .int .i64 d, .int .i64 no, .int .i64 p, .int .i64 q]);clear h
 go_enter func16, ntmps16
 go_upto_region 1 with (fail);generalize World.alloc (World.alloc (World.alloc (World.alloc w _) _) _) _ = W at *;rw [show w.heap.size + 1 + 1 = w.heap.size + 2 from rfl, show w.heap.size + 2 + 1 = w.heap.size + 3 from rfl];refine fX (fun W' => FE w #[.slice An nn cn, .slice Ad nd cd] #[.int .i64 co, .slice Al nl cl, .slice Ap np cp] #[.int .i64 k, .int .i64 d, .int .i64 no, .int .i64 p, .int .i64 q] W') [] ?_ fun AA => ?_
 ·exact HB.later (Below.refl _ _).drew
 try dsimp only at AA
 refine ty 0 18 (mf 7 1) AA (y := by intro w AR; (try dsimp only at AR); obtain ⟨⟨k0, k1⟩, ⟨g0, g1, g2⟩, s0, s1, s2, s3, s4⟩ := AR.cells; go_simp; try with_reducible rfl) (h := ?_);refine tk 1 19 (mf 7 2) AA ?_;refine ty 2 20 (mf 7 3) AA (y := by intro w AR; (try dsimp only at AR); obtain ⟨⟨k0, k1⟩, ⟨g0, g1, g2⟩, s0, s1, s2, s3, s4⟩ := AR.cells; go_simp; try with_reducible rfl) (h := ?_);refine ty 3 21 (mf 7 4) AA (y := by intro w AR; (try dsimp only at AR); obtain ⟨⟨k0, k1⟩, ⟨g0, g1, g2⟩, s0, s1, s2, s3, s4⟩ := AR.cells; go_simp; try with_reducible rfl) (h := ?_);refine tb 4 (mf 7 5) fun K hK => ?_
 (go_simp; refine (rE k d no p q _).mono ?_; rintro e w1 ⟨sb, rfl, BS, AX⟩; have BD := iD BS.out; have AL := iD AX.out; clear BS AX; go_simp)
 refine hK _ _ (fun _ => AA.later AL.out) fun p => (fun AA => ?_) (p rfl)
 clear p hK K;(try dsimp only at AA);refine tb 5 (mf 7 6) fun K hK => ?_
 (go_simp; refine (sK An Ad As Al Ap (some ⟨sb, 0, none⟩) nn cn nd cd n c nl cl np cp 1 1 ns ds s ls pr co ⟨#[80]⟩ [⟨k, d, no, p, q⟩] w1 ⟨HH.below AA.bl, by simpa using BD.out, by decide⟩).mono ?_; rintro e w2 ⟨rfl, AQ⟩; have AY := iD AQ; clear AQ; go_simp)
 refine hK _ _ (fun _ => AA.later AY.out) fun p => (fun AA => ?_) (p rfl)
 clear p hK K;(try dsimp only at AA);refine tk 6 13 (mf 7 7) AA ?_;refine tK ?_;obtain ⟨E, hE⟩ := eX (yE ns ds s co ls pr ⟨#[80]⟩ [⟨k, d, no, p, q⟩]);rw [← hE];have DX := iD AA;have CJ := iD hE;clear AA HB AL AY BD hE;by_cases he : E = 0; rotate_left
 ·have q1 : (E != 0) = true := by simpa using he
  have JF := iD he;clear he;obtain ⟨d0, d1, d2⟩ := DX.b3.d3;obtain ⟨y0, y1, y2⟩ := DX.b3.e3;have HF : Hid (AJ (((w2.setCell ⟨w.heap.size + 3, 0, none⟩ (.int .i64 0)).setCell ⟨w.heap.size + 3, 1, none⟩ (.slice none 0 0)).setCell ⟨w.heap.size + 3, 2, none⟩ (.slice none 0 0)) (w.heap.size + 3) 29 #[.int .i64 0, .slice none 0 0, .slice none 0 0] ∧ Below w.heap.size w (((w2.setCell ⟨w.heap.size + 3, 0, none⟩ (.int .i64 0)).setCell ⟨w.heap.size + 3, 1, none⟩ (.slice none 0 0)).setCell ⟨w.heap.size + 3, 2, none⟩ (.slice none 0 0))) := ⟨((DX.b3.set 0 _).set 1 _).set 2 _, ((DX.bl.setCell (by simp) _).setCell (by simp) _).setCell (by simp) _⟩
  go_wp2_with fail
  clear d0 d1 d2 y0 y1 y2;generalize World.setCell (World.setCell (World.setCell w2 _ _) _ _) _ _ = z at *;obtain ⟨q0, q1, q2⟩ := HF.1.d3;exact bodyPost_ret (v := .tuple #[.slice none 0 0, .slice none 0 0, .agg #[.int .i64 0, .slice none 0 0, .slice none 0 0], .bool false, .int .i64 E]) (by simp [results, results16, go_sem, q0, q1, q2]) rfl ⟨.inl ⟨by rw [← CJ.out]; exact JF, by rw [← CJ.out]⟩, HF.2⟩
 subst he;have BR := iD (vx CJ.symm);have Hg := iD (jC CJ.symm);have AV : nd ≤ 64 := by have := (xo.of (zQ BR.1.s).1).dl; omega
 have Bq : nn ≤ 32 := by have := (xo.of (zQ BR.1.s).1).nl; omega
 have Gl : nl ≤ 128 := by have := (yW BR.1.l).1; dsimp only at this; omega
 have SN : np ≤ 32 := by have := uA BR.1.p; dsimp only at this; omega
 have hsl := (zQ BR.1.s).2;dsimp only at hsl;go_upto_region 4 with (fail);have HZ : Hid (w.heap.size + 3 < w2.heap.size) := DX.b3.lt;refine fX (fun W' => FE w #[.slice An nn cn, .slice Ad nd cd] #[.int .i64 co, .slice Al nl cl, .slice Ap np cp] #[.int .i64 k, .int .i64 d, .int .i64 no, .int .i64 p, .int .i64 q] W') [16] ?_ fun AA => ?_
 ·exact DX.later (Below.refl _ _).drew
 try dsimp only at AA
 refine ty 0 29 (mf 17 1) AA (y := by intro w AR; (try dsimp only at AR); obtain ⟨⟨k0, k1⟩, ⟨g0, g1, g2⟩, s0, s1, s2, s3, s4⟩ := AR.cells; go_simp; try with_reducible rfl) (h := ?_);refine tk 1 30 (mf 17 2) AA ?_;refine ty 3 32 (ma 17 11) AA (y := by intro w AR; (try dsimp only at AR); obtain ⟨⟨k0, k1⟩, ⟨g0, g1, g2⟩, s0, s1, s2, s3, s4⟩ := AR.cells; go_simp; try with_reducible rfl) (h := ?_);refine ty 5 34 (ma 17 43) AA (y := by intro w AR; (try dsimp only at AR); obtain ⟨⟨k0, k1⟩, ⟨g0, g1, g2⟩, s0, s1, s2, s3, s4⟩ := AR.cells; go_simp; try with_reducible rfl) (h := ?_);refine yP (i := 2) (k := 12) (ma 17 47) (ma 17 4139) (by kernel_rfl) (by kernel_rfl) (by kernel_rfl) rfl rfl (fun K hK => ?_) (fun K hK => ?_)
 ·(have GZ := iD AA.bl.size; go_simp; refine (xO As n c _ s w2.drew (HH.below AA.bl).hs lR (by omega)).mono ?_; rintro e w3 ⟨A2, c2, rfl, De, AQ⟩; rw [FR] at De ⊢; have BQ := iD De.out; have Bz := iD AQ.out; clear De AQ; go_simp)
  refine hK _ _ (fun _ => AA.later Bz.out) fun p => (fun AA => ?_) (p rfl)
  clear p hK K;(try dsimp only at AA);have HZ := iD (Nat.lt_of_lt_of_le HZ Bz.size);clear Bz;refine yP (i := 4) (k := 12) (mf 17 6) (ma 17 4143) (by kernel_rfl) (by kernel_rfl) (by kernel_rfl) rfl rfl (fun K hK => ?_) (fun K hK => ?_)
  ·(have Oi := iD AA.bl.size; go_simp; refine (uP Al Ap nl cl np cp _ co ls pr w3 (HH.below AA.bl).hl (HH.below AA.bl).hp lR (by omega) (by omega)).mono ?_; rintro e w4 ⟨A3, A4, c3, c4, rfl, ES, DN, AQ⟩; have BU := iD ES.out; have BP := iD DN.out; have Bz := iD AQ.out; clear ES DN AQ; go_simp)
   refine hK _ _ (fun _ => AA.later Bz.out) fun p => (fun AA => ?_) (p rfl)
   clear p hK K;(try dsimp only at AA);have HZ := iD (Nat.lt_of_lt_of_le HZ Bz.size);have BQ := iD (BQ.later Bz);clear Bz;refine yP (i := 6) (k := 12) (mf 17 7) (ma 17 4159) (by kernel_rfl) (by kernel_rfl) (by kernel_rfl) rfl rfl (fun K hK => ?_) (fun K hK => ?_)
   ·(go_simp; refine (xC An Ad A2 A3 A4 nn cn nd cd n c2 nl c3 np c4 ns ds s ls pr co k d no p q w4 ⟨(HH.below AA.bl).hn, (HH.below AA.bl).hd, Sl.of_own BQ, Sl.of_own BU, Sl.of_own BP, (HH.below AA.bl).la, (HH.below AA.bl).sn, (HH.below AA.bl).sd⟩ BR.1 BR.2.1 Hg).mono ?_; rintro e w6 ⟨B1, B2, B3, B4, m1, e1, m2, e2, m3, e3, m4, e4, rfl, hS, hF, AQ⟩; have DF := iD hS.out; have Lx := iD hF.out; have Bz := iD AQ.out; clear hS hF AQ; go_simp)
    refine hK _ _ (fun _ => AA.later Bz.out) fun p => (fun AA => ?_) (p rfl)
    clear p hK K;(try dsimp only at AA);have ET := iD HZ.out;have HZ := iD (Nat.lt_of_lt_of_le HZ Bz.size);have BQ := iD (BQ.later Bz);have BU := iD (zM BU Bz);have BP := iD (BP.later Bz);refine tk 7 28 (mf 17 8) AA ?_;refine tk 8 36 (mf 17 9) AA ?_;refine tk 9 37 (mf 17 10) AA ?_;refine tk 10 38 (mf 17 11) AA ?_;refine tk 11 39 (mf 17 12) AA ?_;refine tb 12 (mf 17 13) fun K hK => ?_
    go_simp
    refine hK _ _ (fun _ => AA.later ((Below.refl _ _).alloc lR _)) fun p => (fun AA => ?_) (p rfl)
    clear p hK K;(try dsimp only at AA);have EB : Hid (Below w6.heap.size w6 (w6.alloc (.cells #[.int .i64 0, .slice none 0 0, .slice none 0 0] 29))) := (Below.refl w6.heap.size w6).alloc lR (.cells #[.int .i64 0, .slice none 0 0, .slice none 0 0] 29);have HX : Hid (AJ (w6.alloc (.cells #[.int .i64 0, .slice none 0 0, .slice none 0 0] 29)) w6.heap.size 29 #[.int .i64 0, .slice none 0 0, .slice none 0 0]) := AJ.new w6 29 #[.int .i64 0, .slice none 0 0, .slice none 0 0];generalize World.alloc w6 _ = wa at *;have Dl := iD HZ.out;have HZ := iD (Nat.lt_of_lt_of_le HZ EB.size);have BQ := iD (BQ.later EB);have BU := iD (zM BU EB);have BP := iD (BP.later EB);have AH := iD EB.out;obtain ⟨x, GL⟩ := eX w6.heap.size;rw [← GL] at HX Dl ⊢;have KQ : Hid (w6.heap.size ≤ x) := by unfold Hid; rw [GL]; exact Nat.le_refl _
    clear GL EB;refine tk 13 14 (mf 17 14) AA ?_;refine tk 14 15 (mf 17 15) AA ?_;have Dw := iD AA;obtain ⟨k0, k1, k2⟩ := HX.d3;obtain ⟨z0, z1, z2⟩ := HX.e3;refine tb 15 (mf 17 16) fun K hK => ?_
    go_simp
    refine hK _ _ (fun _ => ((AA.put Dl).put Dl).put Dl.out) fun p => (fun AA => ?_) (p rfl)
    clear p hK K;(try dsimp only at AA);refine tb 16 (mf 17 17) fun K hK => ?_
    go_simp
    refine hK _ _ (fun h => by cases h) (fun _ => ?_)
    try clear AA
    clear hK K;refine tK ?_;clear k0 k1 k2 z0 z1 z2;have Ng : x ≠ w.heap.size + 3 := by have := Dl.out; omega
    have Iy : Hid (AJ (((wa.setCell ⟨x, 0, none⟩ (.int .i64 co)).setCell ⟨x, 1, none⟩ (.slice B3 m3 e3)).setCell ⟨x, 2, none⟩ (.slice B4 m4 e4)) x 29 #[.int .i64 co, .slice B3 m3 e3, .slice B4 m4 e4]) := ((HX.set 0 _).set 1 _).set 2 _;have FD : Hid (AJ (((wa.setCell ⟨x, 0, none⟩ (.int .i64 co)).setCell ⟨x, 1, none⟩ (.slice B3 m3 e3)).setCell ⟨x, 2, none⟩ (.slice B4 m4 e4)) (w.heap.size + 3) 29 #[.int .i64 0, .slice none 0 0, .slice none 0 0]) := zU Dw.b3 (Ne.symm Ng);have LZ : Hid (Below w.heap.size w (((wa.setCell ⟨x, 0, none⟩ (.int .i64 co)).setCell ⟨x, 1, none⟩ (.slice B3 m3 e3)).setCell ⟨x, 2, none⟩ (.slice B4 m4 e4))) := ((Dw.bl.setCell (by show w.heap.size ≤ x; have := Dl.out; omega) _).setCell (by show w.heap.size ≤ x; have := Dl.out; omega) _).setCell (by show w.heap.size ≤ x; have := Dl.out; omega) _
    have TI : Hid (yi (((wa.setCell ⟨x, 0, none⟩ (.int .i64 co)).setCell ⟨x, 1, none⟩ (.slice B3 m3 e3)).setCell ⟨x, 2, none⟩ (.slice B4 m4 e4)) B1 B2 B3 B4 m1 e1 m2 e2 m3 e3 m4 e4 (za ns ds co ⟨s, ls, pr⟩ ⟨k, d, no, p, q⟩)) := DF.set3low AH KQ.out
    have Ti : Hid (tX (((wa.setCell ⟨x, 0, none⟩ (.int .i64 co)).setCell ⟨x, 1, none⟩ (.slice B3 m3 e3)).setCell ⟨x, 2, none⟩ (.slice B4 m4 e4)) (w.heap.size + 3) B1 B2 B3 B4) := by
     obtain ⟨f1, f2, f3, f4⟩ := Lx.out;refine ⟨fun b off e hb => ?_, fun b off e hb => ?_, fun b off e hb => ?_, fun b off e hb => ?_⟩
     ·rcases f1 with ⟨h, -⟩ | h
      ·rw [h] at e; cases e
      ·have := h b off e; have := ET.out; omega
     ·rcases f2 with ⟨h, -⟩ | h
      ·rw [h] at e; exact zv BQ Dw.b3 (by decide) b off e
      ·have := h b off e; have := ET.out; omega
     ·rcases f3 with ⟨h, -⟩ | h
      ·rw [h] at e; exact zv BU Dw.b3 (by decide) b off e
      ·have := h b off e; have := ET.out; omega
     ·rcases f4 with ⟨h, -⟩ | h
      ·rw [h] at e; exact zv BP Dw.b3 (by decide) b off e
      ·have := h b off e; have := ET.out; omega
    have Jv : Hid (vm w.heap.size B1 B2 B3 B4) := by
     obtain ⟨f1, f2, f3, f4⟩ := Lx.out;refine ⟨fun b off e => ?_, fun b off e => ?_, fun b off e => ?_, fun b off e => ?_⟩
     ·rcases f1 with ⟨h, -⟩ | h
      ·rw [h] at e; cases e
      ·have := h b off e; have := ET.out; omega
     ·rcases f2 with ⟨h, -⟩ | h
      ·rw [h] at e; exact Nat.le_trans GZ (yK BQ b off e)
      ·have := h b off e; have := ET.out; omega
     ·rcases f3 with ⟨h, -⟩ | h
      ·rw [h] at e; exact Nat.le_trans Oi (yK BU b off e)
      ·have := h b off e; have := ET.out; omega
     ·rcases f4 with ⟨h, -⟩ | h
      ·rw [h] at e; exact Nat.le_trans Oi (yK BP b off e)
      ·have := h b off e; have := ET.out; omega
    generalize World.setCell (World.setCell (World.setCell wa _ _) _ _) _ _ = Y at *;go_upto_region 5 with (fail);have LG : Hid (AJ (((Y.setCell ⟨w.heap.size + 3, 0, none⟩ (.int .i64 co)).setCell ⟨w.heap.size + 3, 1, none⟩ (.slice B3 m3 e3)).setCell ⟨w.heap.size + 3, 2, none⟩ (.slice B4 m4 e4)).drew x 29 #[.int .i64 co, .slice B3 m3 e3, .slice B4 m4 e4]) := (zU Iy Ng).drw;obtain ⟨d0, d1, d2⟩ := FD.d3;obtain ⟨y0, y1, y2⟩ := FD.e3;refine fX (fun W' => W'.cell? ⟨x, 0, none⟩ = some (.int .i64 co) ∧ W'.cell? ⟨x, 1, none⟩ = some (.slice B3 m3 e3) ∧ W'.cell? ⟨x, 2, none⟩ = some (.slice B4 m4 e4)) [7, 8] ?_ fun AA => ?_
    ·exact ⟨Iy.cell 0, Iy.cell 1, Iy.cell 2⟩
    try dsimp only at AA
    refine tk 0 40 (mf 9 1) AA ?_;refine tk 1 41 (mf 9 2) AA ?_;refine tk 2 42 (mf 9 3) AA ?_;refine tk 3 43 (mf 9 4) AA ?_;refine tk 4 8 (mf 9 5) AA ?_;refine tk 5 9 (mf 9 6) AA ?_;refine tb 6 (mf 9 7) fun K hK => ?_
    go_simp
    refine hK _ _ (fun _ => ⟨LG.cell 0, LG.cell 1, LG.cell 2⟩) fun p => (fun AA => ?_) (p rfl)
    clear p hK K;(try dsimp only at AA);refine tb 7 (mf 9 8) fun K hK => ?_
    go_simp
    refine hK _ _ (fun h => by cases h) (fun _ => ?_)
    try clear AA
    clear hK K;refine tb 8 (mf 9 9) fun K hK => ?_
    go_simp
    refine hK _ _ (fun h => by cases h) (fun _ => ?_)
    try clear AA
    clear hK K;refine tK ?_;have LF : Hid (AJ (((Y.setCell ⟨w.heap.size + 3, 0, none⟩ (.int .i64 co)).setCell ⟨w.heap.size + 3, 1, none⟩ (.slice B3 m3 e3)).setCell ⟨w.heap.size + 3, 2, none⟩ (.slice B4 m4 e4)).drew (w.heap.size + 3) 29 #[.int .i64 co, .slice B3 m3 e3, .slice B4 m4 e4] ∧ Below w.heap.size w (((Y.setCell ⟨w.heap.size + 3, 0, none⟩ (.int .i64 co)).setCell ⟨w.heap.size + 3, 1, none⟩ (.slice B3 m3 e3)).setCell ⟨w.heap.size + 3, 2, none⟩ (.slice B4 m4 e4)).drew ∧ yi (((Y.setCell ⟨w.heap.size + 3, 0, none⟩ (.int .i64 co)).setCell ⟨w.heap.size + 3, 1, none⟩ (.slice B3 m3 e3)).setCell ⟨w.heap.size + 3, 2, none⟩ (.slice B4 m4 e4)).drew B1 B2 B3 B4 m1 e1 m2 e2 m3 e3 m4 e4 (za ns ds co ⟨s, ls, pr⟩ ⟨k, d, no, p, q⟩)) := ⟨((FD.set 0 _).set 1 _).set 2 _, (((LZ.setCell (by simp) _).setCell (by simp) _).setCell (by simp) _).drew, (TI.set3 Ti).later (Below.refl _ _).drew⟩
    clear d0 d1 d2 y0 y1 y2
    go_wp2_with fail
    generalize World.drew (World.setCell (World.setCell (World.setCell Y _ _) _ _) _ _) = z at *;obtain ⟨q0, q1, q2⟩ := LF.1.d3;exact bodyPost_ret (v := .tuple #[.slice B1 m1 e1, .slice B2 m2 e2, .agg #[.int .i64 co, .slice B3 m3 e3, .slice B4 m4 e4], .bool (za ns ds co ⟨s, ls, pr⟩ ⟨k, d, no, p, q⟩).ok, .int .i64 0]) (by simp [results, results16, go_sem, q0, q1, q2]) rfl ⟨.inr ⟨CJ.symm, _, _, _, _, _, _, _, _, _, _, _, _, rfl, LF.2.2, Jv⟩, LF.2.1⟩
   ·go_simp
    refine hK _ _ (fun _ => AA.later ((Below.refl _ _).alloc lR _)) fun p => (fun AA => ?_) (p rfl)
    clear p hK K;(try dsimp only at AA);have EB : Hid (Below w4.heap.size w4 (w4.alloc (.cells #[.int .i64 0, .slice none 0 0, .slice none 0 0] 29))) := (Below.refl w4.heap.size w4).alloc lR (.cells #[.int .i64 0, .slice none 0 0, .slice none 0 0] 29);have HX : Hid (AJ (w4.alloc (.cells #[.int .i64 0, .slice none 0 0, .slice none 0 0] 29)) w4.heap.size 29 #[.int .i64 0, .slice none 0 0, .slice none 0 0]) := AJ.new w4 29 #[.int .i64 0, .slice none 0 0, .slice none 0 0];generalize World.alloc w4 _ = wa at *;have Dl := iD HZ.out;have HZ := iD (Nat.lt_of_lt_of_le HZ EB.size);have BQ := iD (BQ.later EB);have BU := iD (zM BU EB);have BP := iD (BP.later EB);obtain ⟨x, GL⟩ := eX w4.heap.size;rw [← GL] at HX Dl ⊢;have Ii : Hid (x < wa.heap.size) := HX.lt;clear GL EB;refine tb 6 (ma 17 4223) fun K hK => ?_
    (go_simp; refine (xC An Ad A2 A3 A4 nn cn nd cd n c2 nl c3 np c4 ns ds s ls pr co k d no p q wa ⟨(HH.below AA.bl).hn, (HH.below AA.bl).hd, Sl.of_own BQ, Sl.of_own BU, Sl.of_own BP, (HH.below AA.bl).la, (HH.below AA.bl).sn, (HH.below AA.bl).sd⟩ BR.1 BR.2.1 Hg).mono ?_; rintro e w6 ⟨B1, B2, B3, B4, m1, e1, m2, e2, m3, e3, m4, e4, rfl, hS, hF, AQ⟩; have DF := iD hS.out; have Lx := iD hF.out; have Bz := iD AQ.out; clear hS hF AQ; go_simp)
    refine hK _ _ (fun _ => AA.later Bz.out) fun p => (fun AA => ?_) (p rfl)
    clear p hK K;(try dsimp only at AA);have ET := iD HZ.out;have HZ := iD (Nat.lt_of_lt_of_le HZ Bz.size);have BQ := iD (BQ.later Bz);have BU := iD (zM BU Bz);have BP := iD (BP.later Bz);have HX := iD (HX.below Bz HX.lt);have KQ : Hid (x < wa.heap.size) := Ii.out;refine tk 7 28 (ma 17 4351) AA ?_;refine tk 8 36 (ma 17 4607) AA ?_;refine tk 9 37 (ma 17 5119) AA ?_;refine tk 10 38 (ma 17 6143) AA ?_;refine tk 11 39 (mf 17 13) AA ?_;refine tk 13 14 (mf 17 14) AA ?_;refine tk 14 15 (mf 17 15) AA ?_;have Dw := iD AA;obtain ⟨k0, k1, k2⟩ := HX.d3;obtain ⟨z0, z1, z2⟩ := HX.e3;refine tb 15 (mf 17 16) fun K hK => ?_
    go_simp
    refine hK _ _ (fun _ => ((AA.put Dl).put Dl).put Dl.out) fun p => (fun AA => ?_) (p rfl)
    clear p hK K;(try dsimp only at AA);refine tb 16 (mf 17 17) fun K hK => ?_
    go_simp
    refine hK _ _ (fun h => by cases h) (fun _ => ?_)
    try clear AA
    clear hK K;refine tK ?_;clear k0 k1 k2 z0 z1 z2;have Ng : x ≠ w.heap.size + 3 := by have := Dl.out; omega
    have Md : Hid (tX w6 x B1 B2 B3 B4) := by
     obtain ⟨f1, f2, f3, f4⟩ := Lx.out;refine ⟨fun b off e hb => ?_, fun b off e hb => ?_, fun b off e hb => ?_, fun b off e hb => ?_⟩
     ·rcases f1 with ⟨h, -⟩ | h
      ·rw [h] at e; cases e
      ·have := h b off e; have := KQ.out; omega
     ·rcases f2 with ⟨h, -⟩ | h
      ·rw [h] at e; exact zv BQ HX (by decide) b off e
      ·have := h b off e; have := KQ.out; omega
     ·rcases f3 with ⟨h, -⟩ | h
      ·rw [h] at e; exact zv BU HX (by decide) b off e
      ·have := h b off e; have := KQ.out; omega
     ·rcases f4 with ⟨h, -⟩ | h
      ·rw [h] at e; exact zv BP HX (by decide) b off e
      ·have := h b off e; have := KQ.out; omega
    have Iy : Hid (AJ (((w6.setCell ⟨x, 0, none⟩ (.int .i64 co)).setCell ⟨x, 1, none⟩ (.slice B3 m3 e3)).setCell ⟨x, 2, none⟩ (.slice B4 m4 e4)) x 29 #[.int .i64 co, .slice B3 m3 e3, .slice B4 m4 e4]) := ((HX.set 0 _).set 1 _).set 2 _;have FD : Hid (AJ (((w6.setCell ⟨x, 0, none⟩ (.int .i64 co)).setCell ⟨x, 1, none⟩ (.slice B3 m3 e3)).setCell ⟨x, 2, none⟩ (.slice B4 m4 e4)) (w.heap.size + 3) 29 #[.int .i64 0, .slice none 0 0, .slice none 0 0]) := zU Dw.b3 (Ne.symm Ng);have LZ : Hid (Below w.heap.size w (((w6.setCell ⟨x, 0, none⟩ (.int .i64 co)).setCell ⟨x, 1, none⟩ (.slice B3 m3 e3)).setCell ⟨x, 2, none⟩ (.slice B4 m4 e4))) := ((Dw.bl.setCell (by show w.heap.size ≤ x; have := Dl.out; omega) _).setCell (by show w.heap.size ≤ x; have := Dl.out; omega) _).setCell (by show w.heap.size ≤ x; have := Dl.out; omega) _
    have TI : Hid (yi (((w6.setCell ⟨x, 0, none⟩ (.int .i64 co)).setCell ⟨x, 1, none⟩ (.slice B3 m3 e3)).setCell ⟨x, 2, none⟩ (.slice B4 m4 e4)) B1 B2 B3 B4 m1 e1 m2 e2 m3 e3 m4 e4 (za ns ds co ⟨s, ls, pr⟩ ⟨k, d, no, p, q⟩)) := DF.set3 Md.out
    have Ti : Hid (tX (((w6.setCell ⟨x, 0, none⟩ (.int .i64 co)).setCell ⟨x, 1, none⟩ (.slice B3 m3 e3)).setCell ⟨x, 2, none⟩ (.slice B4 m4 e4)) (w.heap.size + 3) B1 B2 B3 B4) := by
     obtain ⟨f1, f2, f3, f4⟩ := Lx.out;refine ⟨fun b off e hb => ?_, fun b off e hb => ?_, fun b off e hb => ?_, fun b off e hb => ?_⟩
     ·rcases f1 with ⟨h, -⟩ | h
      ·rw [h] at e; cases e
      ·have := h b off e; have := ET.out; omega
     ·rcases f2 with ⟨h, -⟩ | h
      ·rw [h] at e; exact zv BQ Dw.b3 (by decide) b off e
      ·have := h b off e; have := ET.out; omega
     ·rcases f3 with ⟨h, -⟩ | h
      ·rw [h] at e; exact zv BU Dw.b3 (by decide) b off e
      ·have := h b off e; have := ET.out; omega
     ·rcases f4 with ⟨h, -⟩ | h
      ·rw [h] at e; exact zv BP Dw.b3 (by decide) b off e
      ·have := h b off e; have := ET.out; omega
    have Jv : Hid (vm w.heap.size B1 B2 B3 B4) := by
     obtain ⟨f1, f2, f3, f4⟩ := Lx.out;refine ⟨fun b off e => ?_, fun b off e => ?_, fun b off e => ?_, fun b off e => ?_⟩
     ·rcases f1 with ⟨h, -⟩ | h
      ·rw [h] at e; cases e
      ·have := h b off e; have := ET.out; omega
     ·rcases f2 with ⟨h, -⟩ | h
      ·rw [h] at e; exact Nat.le_trans GZ (yK BQ b off e)
      ·have := h b off e; have := ET.out; omega
     ·rcases f3 with ⟨h, -⟩ | h
      ·rw [h] at e; exact Nat.le_trans Oi (yK BU b off e)
      ·have := h b off e; have := ET.out; omega
     ·rcases f4 with ⟨h, -⟩ | h
      ·rw [h] at e; exact Nat.le_trans Oi (yK BP b off e)
      ·have := h b off e; have := ET.out; omega
    generalize World.setCell (World.setCell (World.setCell w6 _ _) _ _) _ _ = Y at *;go_upto_region 5 with (fail);have LG : Hid (AJ (((Y.setCell ⟨w.heap.size + 3, 0, none⟩ (.int .i64 co)).setCell ⟨w.heap.size + 3, 1, none⟩ (.slice B3 m3 e3)).setCell ⟨w.heap.size + 3, 2, none⟩ (.slice B4 m4 e4)).drew x 29 #[.int .i64 co, .slice B3 m3 e3, .slice B4 m4 e4]) := (zU Iy Ng).drw;obtain ⟨d0, d1, d2⟩ := FD.d3;obtain ⟨y0, y1, y2⟩ := FD.e3;refine fX (fun W' => W'.cell? ⟨x, 0, none⟩ = some (.int .i64 co) ∧ W'.cell? ⟨x, 1, none⟩ = some (.slice B3 m3 e3) ∧ W'.cell? ⟨x, 2, none⟩ = some (.slice B4 m4 e4)) [7, 8] ?_ fun AA => ?_
    ·exact ⟨Iy.cell 0, Iy.cell 1, Iy.cell 2⟩
    try dsimp only at AA
    refine tk 0 40 (mf 9 1) AA ?_;refine tk 1 41 (mf 9 2) AA ?_;refine tk 2 42 (mf 9 3) AA ?_;refine tk 3 43 (mf 9 4) AA ?_;refine tk 4 8 (mf 9 5) AA ?_;refine tk 5 9 (mf 9 6) AA ?_;refine tb 6 (mf 9 7) fun K hK => ?_
    go_simp
    refine hK _ _ (fun _ => ⟨LG.cell 0, LG.cell 1, LG.cell 2⟩) fun p => (fun AA => ?_) (p rfl)
    clear p hK K;(try dsimp only at AA);refine tb 7 (mf 9 8) fun K hK => ?_
    go_simp
    refine hK _ _ (fun h => by cases h) (fun _ => ?_)
    try clear AA
    clear hK K;refine tb 8 (mf 9 9) fun K hK => ?_
    go_simp
    refine hK _ _ (fun h => by cases h) (fun _ => ?_)
    try clear AA
    clear hK K;refine tK ?_;have LF : Hid (AJ (((Y.setCell ⟨w.heap.size + 3, 0, none⟩ (.int .i64 co)).setCell ⟨w.heap.size + 3, 1, none⟩ (.slice B3 m3 e3)).setCell ⟨w.heap.size + 3, 2, none⟩ (.slice B4 m4 e4)).drew (w.heap.size + 3) 29 #[.int .i64 co, .slice B3 m3 e3, .slice B4 m4 e4] ∧ Below w.heap.size w (((Y.setCell ⟨w.heap.size + 3, 0, none⟩ (.int .i64 co)).setCell ⟨w.heap.size + 3, 1, none⟩ (.slice B3 m3 e3)).setCell ⟨w.heap.size + 3, 2, none⟩ (.slice B4 m4 e4)).drew ∧ yi (((Y.setCell ⟨w.heap.size + 3, 0, none⟩ (.int .i64 co)).setCell ⟨w.heap.size + 3, 1, none⟩ (.slice B3 m3 e3)).setCell ⟨w.heap.size + 3, 2, none⟩ (.slice B4 m4 e4)).drew B1 B2 B3 B4 m1 e1 m2 e2 m3 e3 m4 e4 (za ns ds co ⟨s, ls, pr⟩ ⟨k, d, no, p, q⟩)) := ⟨((FD.set 0 _).set 1 _).set 2 _, (((LZ.setCell (by simp) _).setCell (by simp) _).setCell (by simp) _).drew, (TI.set3 Ti).later (Below.refl _ _).drew⟩
    clear d0 d1 d2 y0 y1 y2
    go_wp2_with fail
    generalize World.drew (World.setCell (World.setCell (World.setCell Y _ _) _ _) _ _) = z at *;obtain ⟨q0, q1, q2⟩ := LF.1.d3;exact bodyPost_ret (v := .tuple #[.slice B1 m1 e1, .slice B2 m2 e2, .agg #[.int .i64 co, .slice B3 m3 e3, .slice B4 m4 e4], .bool (za ns ds co ⟨s, ls, pr⟩ ⟨k, d, no, p, q⟩).ok, .int .i64 0]) (by simp [results, results16, go_sem, q0, q1, q2]) rfl ⟨.inr ⟨CJ.symm, _, _, _, _, _, _, _, _, _, _, _, _, rfl, LF.2.2, Jv⟩, LF.2.1⟩
  ·go_simp
   refine hK _ _ (fun _ => AA.later ((Below.refl _ _).alloc lR _)) fun p => (fun AA => ?_) (p rfl)
   clear p hK K;(try dsimp only at AA);have EB : Hid (Below w3.heap.size w3 (w3.alloc (.cells #[.int .i64 0, .slice none 0 0, .slice none 0 0] 29))) := (Below.refl w3.heap.size w3).alloc lR (.cells #[.int .i64 0, .slice none 0 0, .slice none 0 0] 29);have HX : Hid (AJ (w3.alloc (.cells #[.int .i64 0, .slice none 0 0, .slice none 0 0] 29)) w3.heap.size 29 #[.int .i64 0, .slice none 0 0, .slice none 0 0]) := AJ.new w3 29 #[.int .i64 0, .slice none 0 0, .slice none 0 0];generalize World.alloc w3 _ = wa at *;have Dl := iD HZ.out;have HZ := iD (Nat.lt_of_lt_of_le HZ EB.size);have BQ := iD (BQ.later EB);obtain ⟨x, GL⟩ := eX w3.heap.size;rw [← GL] at HX Dl ⊢;have Ii : Hid (x < wa.heap.size) := HX.lt;clear GL EB;refine tb 4 (ma 17 4159) fun K hK => ?_
   (have Oi := iD AA.bl.size; go_simp; refine (uP Al Ap nl cl np cp _ co ls pr wa (HH.below AA.bl).hl (HH.below AA.bl).hp lR (by omega) (by omega)).mono ?_; rintro e w4 ⟨A3, A4, c3, c4, rfl, ES, DN, AQ⟩; have BU := iD ES.out; have BP := iD DN.out; have Bz := iD AQ.out; clear ES DN AQ; go_simp)
   refine hK _ _ (fun _ => AA.later Bz.out) fun p => (fun AA => ?_) (p rfl)
   clear p hK K;(try dsimp only at AA);have HZ := iD (Nat.lt_of_lt_of_le HZ Bz.size);have BQ := iD (BQ.later Bz);have HX := iD (HX.below Bz HX.lt);clear Bz;have Ii : Hid (x < w4.heap.size) := HX.lt;refine tb 6 (ma 17 4223) fun K hK => ?_
   (go_simp; refine (xC An Ad A2 A3 A4 nn cn nd cd n c2 nl c3 np c4 ns ds s ls pr co k d no p q w4 ⟨(HH.below AA.bl).hn, (HH.below AA.bl).hd, Sl.of_own BQ, Sl.of_own BU, Sl.of_own BP, (HH.below AA.bl).la, (HH.below AA.bl).sn, (HH.below AA.bl).sd⟩ BR.1 BR.2.1 Hg).mono ?_; rintro e w6 ⟨B1, B2, B3, B4, m1, e1, m2, e2, m3, e3, m4, e4, rfl, hS, hF, AQ⟩; have DF := iD hS.out; have Lx := iD hF.out; have Bz := iD AQ.out; clear hS hF AQ; go_simp)
   refine hK _ _ (fun _ => AA.later Bz.out) fun p => (fun AA => ?_) (p rfl)
   clear p hK K;(try dsimp only at AA);have ET := iD HZ.out;have HZ := iD (Nat.lt_of_lt_of_le HZ Bz.size);have BQ := iD (BQ.later Bz);have BU := iD (zM BU Bz);have BP := iD (BP.later Bz);have HX := iD (HX.below Bz HX.lt);have KQ : Hid (x < w4.heap.size) := Ii.out;refine tk 7 28 (ma 17 4351) AA ?_;refine tk 8 36 (ma 17 4607) AA ?_;refine tk 9 37 (ma 17 5119) AA ?_;refine tk 10 38 (ma 17 6143) AA ?_;refine tk 11 39 (mf 17 13) AA ?_;refine tk 13 14 (mf 17 14) AA ?_;refine tk 14 15 (mf 17 15) AA ?_;have Dw := iD AA;obtain ⟨k0, k1, k2⟩ := HX.d3;obtain ⟨z0, z1, z2⟩ := HX.e3;refine tb 15 (mf 17 16) fun K hK => ?_
   go_simp
   refine hK _ _ (fun _ => ((AA.put Dl).put Dl).put Dl.out) fun p => (fun AA => ?_) (p rfl)
   clear p hK K;(try dsimp only at AA);refine tb 16 (mf 17 17) fun K hK => ?_
   go_simp
   refine hK _ _ (fun h => by cases h) (fun _ => ?_)
   try clear AA
   clear hK K;refine tK ?_;clear k0 k1 k2 z0 z1 z2;have Ng : x ≠ w.heap.size + 3 := by have := Dl.out; omega
   have Md : Hid (tX w6 x B1 B2 B3 B4) := by
    obtain ⟨f1, f2, f3, f4⟩ := Lx.out;refine ⟨fun b off e hb => ?_, fun b off e hb => ?_, fun b off e hb => ?_, fun b off e hb => ?_⟩
    ·rcases f1 with ⟨h, -⟩ | h
     ·rw [h] at e; cases e
     ·have := h b off e; have := KQ.out; omega
    ·rcases f2 with ⟨h, -⟩ | h
     ·rw [h] at e; exact zv BQ HX (by decide) b off e
     ·have := h b off e; have := KQ.out; omega
    ·rcases f3 with ⟨h, -⟩ | h
     ·rw [h] at e; exact zv BU HX (by decide) b off e
     ·have := h b off e; have := KQ.out; omega
    ·rcases f4 with ⟨h, -⟩ | h
     ·rw [h] at e; exact zv BP HX (by decide) b off e
     ·have := h b off e; have := KQ.out; omega
   have Iy : Hid (AJ (((w6.setCell ⟨x, 0, none⟩ (.int .i64 co)).setCell ⟨x, 1, none⟩ (.slice B3 m3 e3)).setCell ⟨x, 2, none⟩ (.slice B4 m4 e4)) x 29 #[.int .i64 co, .slice B3 m3 e3, .slice B4 m4 e4]) := ((HX.set 0 _).set 1 _).set 2 _;have FD : Hid (AJ (((w6.setCell ⟨x, 0, none⟩ (.int .i64 co)).setCell ⟨x, 1, none⟩ (.slice B3 m3 e3)).setCell ⟨x, 2, none⟩ (.slice B4 m4 e4)) (w.heap.size + 3) 29 #[.int .i64 0, .slice none 0 0, .slice none 0 0]) := zU Dw.b3 (Ne.symm Ng);have LZ : Hid (Below w.heap.size w (((w6.setCell ⟨x, 0, none⟩ (.int .i64 co)).setCell ⟨x, 1, none⟩ (.slice B3 m3 e3)).setCell ⟨x, 2, none⟩ (.slice B4 m4 e4))) := ((Dw.bl.setCell (by show w.heap.size ≤ x; have := Dl.out; omega) _).setCell (by show w.heap.size ≤ x; have := Dl.out; omega) _).setCell (by show w.heap.size ≤ x; have := Dl.out; omega) _
   have TI : Hid (yi (((w6.setCell ⟨x, 0, none⟩ (.int .i64 co)).setCell ⟨x, 1, none⟩ (.slice B3 m3 e3)).setCell ⟨x, 2, none⟩ (.slice B4 m4 e4)) B1 B2 B3 B4 m1 e1 m2 e2 m3 e3 m4 e4 (za ns ds co ⟨s, ls, pr⟩ ⟨k, d, no, p, q⟩)) := DF.set3 Md.out
   have Ti : Hid (tX (((w6.setCell ⟨x, 0, none⟩ (.int .i64 co)).setCell ⟨x, 1, none⟩ (.slice B3 m3 e3)).setCell ⟨x, 2, none⟩ (.slice B4 m4 e4)) (w.heap.size + 3) B1 B2 B3 B4) := by
    obtain ⟨f1, f2, f3, f4⟩ := Lx.out;refine ⟨fun b off e hb => ?_, fun b off e hb => ?_, fun b off e hb => ?_, fun b off e hb => ?_⟩
    ·rcases f1 with ⟨h, -⟩ | h
     ·rw [h] at e; cases e
     ·have := h b off e; have := ET.out; omega
    ·rcases f2 with ⟨h, -⟩ | h
     ·rw [h] at e; exact zv BQ Dw.b3 (by decide) b off e
     ·have := h b off e; have := ET.out; omega
    ·rcases f3 with ⟨h, -⟩ | h
     ·rw [h] at e; exact zv BU Dw.b3 (by decide) b off e
     ·have := h b off e; have := ET.out; omega
    ·rcases f4 with ⟨h, -⟩ | h
     ·rw [h] at e; exact zv BP Dw.b3 (by decide) b off e
     ·have := h b off e; have := ET.out; omega
   have Jv : Hid (vm w.heap.size B1 B2 B3 B4) := by
    obtain ⟨f1, f2, f3, f4⟩ := Lx.out;refine ⟨fun b off e => ?_, fun b off e => ?_, fun b off e => ?_, fun b off e => ?_⟩
    ·rcases f1 with ⟨h, -⟩ | h
     ·rw [h] at e; cases e
     ·have := h b off e; have := ET.out; omega
    ·rcases f2 with ⟨h, -⟩ | h
     ·rw [h] at e; exact Nat.le_trans GZ (yK BQ b off e)
     ·have := h b off e; have := ET.out; omega
    ·rcases f3 with ⟨h, -⟩ | h
     ·rw [h] at e; exact Nat.le_trans Oi (yK BU b off e)
     ·have := h b off e; have := ET.out; omega
    ·rcases f4 with ⟨h, -⟩ | h
     ·rw [h] at e; exact Nat.le_trans Oi (yK BP b off e)
     ·have := h b off e; have := ET.out; omega
   generalize World.setCell (World.setCell (World.setCell w6 _ _) _ _) _ _ = Y at *;go_upto_region 5 with (fail);have LG : Hid (AJ (((Y.setCell ⟨w.heap.size + 3, 0, none⟩ (.int .i64 co)).setCell ⟨w.heap.size + 3, 1, none⟩ (.slice B3 m3 e3)).setCell ⟨w.heap.size + 3, 2, none⟩ (.slice B4 m4 e4)).drew x 29 #[.int .i64 co, .slice B3 m3 e3, .slice B4 m4 e4]) := (zU Iy Ng).drw;obtain ⟨d0, d1, d2⟩ := FD.d3;obtain ⟨y0, y1, y2⟩ := FD.e3;refine fX (fun W' => W'.cell? ⟨x, 0, none⟩ = some (.int .i64 co) ∧ W'.cell? ⟨x, 1, none⟩ = some (.slice B3 m3 e3) ∧ W'.cell? ⟨x, 2, none⟩ = some (.slice B4 m4 e4)) [7, 8] ?_ fun AA => ?_
   ·exact ⟨Iy.cell 0, Iy.cell 1, Iy.cell 2⟩
   try dsimp only at AA
   refine tk 0 40 (mf 9 1) AA ?_;refine tk 1 41 (mf 9 2) AA ?_;refine tk 2 42 (mf 9 3) AA ?_;refine tk 3 43 (mf 9 4) AA ?_;refine tk 4 8 (mf 9 5) AA ?_;refine tk 5 9 (mf 9 6) AA ?_;refine tb 6 (mf 9 7) fun K hK => ?_
   go_simp
   refine hK _ _ (fun _ => ⟨LG.cell 0, LG.cell 1, LG.cell 2⟩) fun p => (fun AA => ?_) (p rfl)
   clear p hK K;(try dsimp only at AA);refine tb 7 (mf 9 8) fun K hK => ?_
   go_simp
   refine hK _ _ (fun h => by cases h) (fun _ => ?_)
   try clear AA
   clear hK K;refine tb 8 (mf 9 9) fun K hK => ?_
   go_simp
   refine hK _ _ (fun h => by cases h) (fun _ => ?_)
   try clear AA
   clear hK K;refine tK ?_;have LF : Hid (AJ (((Y.setCell ⟨w.heap.size + 3, 0, none⟩ (.int .i64 co)).setCell ⟨w.heap.size + 3, 1, none⟩ (.slice B3 m3 e3)).setCell ⟨w.heap.size + 3, 2, none⟩ (.slice B4 m4 e4)).drew (w.heap.size + 3) 29 #[.int .i64 co, .slice B3 m3 e3, .slice B4 m4 e4] ∧ Below w.heap.size w (((Y.setCell ⟨w.heap.size + 3, 0, none⟩ (.int .i64 co)).setCell ⟨w.heap.size + 3, 1, none⟩ (.slice B3 m3 e3)).setCell ⟨w.heap.size + 3, 2, none⟩ (.slice B4 m4 e4)).drew ∧ yi (((Y.setCell ⟨w.heap.size + 3, 0, none⟩ (.int .i64 co)).setCell ⟨w.heap.size + 3, 1, none⟩ (.slice B3 m3 e3)).setCell ⟨w.heap.size + 3, 2, none⟩ (.slice B4 m4 e4)).drew B1 B2 B3 B4 m1 e1 m2 e2 m3 e3 m4 e4 (za ns ds co ⟨s, ls, pr⟩ ⟨k, d, no, p, q⟩)) := ⟨((FD.set 0 _).set 1 _).set 2 _, (((LZ.setCell (by simp) _).setCell (by simp) _).setCell (by simp) _).drew, (TI.set3 Ti).later (Below.refl _ _).drew⟩
   clear d0 d1 d2 y0 y1 y2
   go_wp2_with fail
   generalize World.drew (World.setCell (World.setCell (World.setCell Y _ _) _ _) _ _) = z at *;obtain ⟨q0, q1, q2⟩ := LF.1.d3;exact bodyPost_ret (v := .tuple #[.slice B1 m1 e1, .slice B2 m2 e2, .agg #[.int .i64 co, .slice B3 m3 e3, .slice B4 m4 e4], .bool (za ns ds co ⟨s, ls, pr⟩ ⟨k, d, no, p, q⟩).ok, .int .i64 0]) (by simp [results, results16, go_sem, q0, q1, q2]) rfl ⟨.inr ⟨CJ.symm, _, _, _, _, _, _, _, _, _, _, _, _, rfl, LF.2.2, Jv⟩, LF.2.1⟩
 ·go_simp
  refine hK _ _ (fun _ => DX.later ((Below.refl w2.heap.size w2).alloc lR (.cells #[.int .i64 0, .slice none 0 0, .slice none 0 0] 29)).drew) fun p => (fun AA => ?_) (p rfl)
  clear p hK K;(try dsimp only at AA);have EB : Hid (Below w2.heap.size w2 (w2.alloc (.cells #[.int .i64 0, .slice none 0 0, .slice none 0 0] 29)).drew) := ((Below.refl w2.heap.size w2).alloc lR (.cells #[.int .i64 0, .slice none 0 0, .slice none 0 0] 29)).drew;have HX : Hid (AJ (w2.alloc (.cells #[.int .i64 0, .slice none 0 0, .slice none 0 0] 29)).drew w2.heap.size 29 #[.int .i64 0, .slice none 0 0, .slice none 0 0]) := AJ.new w2 29 #[.int .i64 0, .slice none 0 0, .slice none 0 0];generalize World.drew (World.alloc w2 _) = wa at *;have Dl := iD HZ.out;have HZ := iD (Nat.lt_of_lt_of_le HZ EB.size);obtain ⟨x, GL⟩ := eX w2.heap.size;rw [← GL] at HX Dl ⊢;have Ii : Hid (x < wa.heap.size) := HX.lt;clear GL EB;refine tb 2 (ma 17 4143) fun K hK => ?_
  (have GZ := iD AA.bl.size; go_simp; refine (xO As n c _ s wa (HH.below AA.bl).hs lR (by omega)).mono ?_; rintro e w3 ⟨A2, c2, rfl, De, AQ⟩; rw [FR] at De ⊢; have BQ := iD De.out; have Bz := iD AQ.out; clear De AQ; go_simp)
  refine hK _ _ (fun _ => AA.later Bz.out) fun p => (fun AA => ?_) (p rfl)
  clear p hK K;(try dsimp only at AA);have HZ := iD (Nat.lt_of_lt_of_le HZ Bz.size);have HX := iD (HX.below Bz HX.lt);clear Bz;have Ii : Hid (x < w3.heap.size) := HX.lt;refine tb 4 (ma 17 4159) fun K hK => ?_
  (have Oi := iD AA.bl.size; go_simp; refine (uP Al Ap nl cl np cp _ co ls pr w3 (HH.below AA.bl).hl (HH.below AA.bl).hp lR (by omega) (by omega)).mono ?_; rintro e w4 ⟨A3, A4, c3, c4, rfl, ES, DN, AQ⟩; have BU := iD ES.out; have BP := iD DN.out; have Bz := iD AQ.out; clear ES DN AQ; go_simp)
  refine hK _ _ (fun _ => AA.later Bz.out) fun p => (fun AA => ?_) (p rfl)
  clear p hK K;(try dsimp only at AA);have HZ := iD (Nat.lt_of_lt_of_le HZ Bz.size);have BQ := iD (BQ.later Bz);have HX := iD (HX.below Bz HX.lt);clear Bz;have Ii : Hid (x < w4.heap.size) := HX.lt;refine tb 6 (ma 17 4223) fun K hK => ?_
  (go_simp; refine (xC An Ad A2 A3 A4 nn cn nd cd n c2 nl c3 np c4 ns ds s ls pr co k d no p q w4 ⟨(HH.below AA.bl).hn, (HH.below AA.bl).hd, Sl.of_own BQ, Sl.of_own BU, Sl.of_own BP, (HH.below AA.bl).la, (HH.below AA.bl).sn, (HH.below AA.bl).sd⟩ BR.1 BR.2.1 Hg).mono ?_; rintro e w6 ⟨B1, B2, B3, B4, m1, e1, m2, e2, m3, e3, m4, e4, rfl, hS, hF, AQ⟩; have DF := iD hS.out; have Lx := iD hF.out; have Bz := iD AQ.out; clear hS hF AQ; go_simp)
  refine hK _ _ (fun _ => AA.later Bz.out) fun p => (fun AA => ?_) (p rfl)
  clear p hK K;(try dsimp only at AA);have ET := iD HZ.out;have HZ := iD (Nat.lt_of_lt_of_le HZ Bz.size);have BQ := iD (BQ.later Bz);have BU := iD (zM BU Bz);have BP := iD (BP.later Bz);have HX := iD (HX.below Bz HX.lt);have KQ : Hid (x < w4.heap.size) := Ii.out;refine tk 7 28 (ma 17 4351) AA ?_;refine tk 8 36 (ma 17 4607) AA ?_;refine tk 9 37 (ma 17 5119) AA ?_;refine tk 10 38 (ma 17 6143) AA ?_;refine tk 11 39 (mf 17 13) AA ?_;refine tk 13 14 (mf 17 14) AA ?_;refine tk 14 15 (mf 17 15) AA ?_;have Dw := iD AA;obtain ⟨k0, k1, k2⟩ := HX.d3;obtain ⟨z0, z1, z2⟩ := HX.e3;refine tb 15 (mf 17 16) fun K hK => ?_
  go_simp
  refine hK _ _ (fun _ => ((AA.put Dl).put Dl).put Dl.out) fun p => (fun AA => ?_) (p rfl)
  clear p hK K;(try dsimp only at AA);refine tb 16 (mf 17 17) fun K hK => ?_
  go_simp
  refine hK _ _ (fun h => by cases h) (fun _ => ?_)
  try clear AA
  clear hK K;refine tK ?_;clear k0 k1 k2 z0 z1 z2;have Ng : x ≠ w.heap.size + 3 := by have := Dl.out; omega
  have Md : Hid (tX w6 x B1 B2 B3 B4) := by
   obtain ⟨f1, f2, f3, f4⟩ := Lx.out;refine ⟨fun b off e hb => ?_, fun b off e hb => ?_, fun b off e hb => ?_, fun b off e hb => ?_⟩
   ·rcases f1 with ⟨h, -⟩ | h
    ·rw [h] at e; cases e
    ·have := h b off e; have := KQ.out; omega
   ·rcases f2 with ⟨h, -⟩ | h
    ·rw [h] at e; exact zv BQ HX (by decide) b off e
    ·have := h b off e; have := KQ.out; omega
   ·rcases f3 with ⟨h, -⟩ | h
    ·rw [h] at e; exact zv BU HX (by decide) b off e
    ·have := h b off e; have := KQ.out; omega
   ·rcases f4 with ⟨h, -⟩ | h
    ·rw [h] at e; exact zv BP HX (by decide) b off e
    ·have := h b off e; have := KQ.out; omega
  have Iy : Hid (AJ (((w6.setCell ⟨x, 0, none⟩ (.int .i64 co)).setCell ⟨x, 1, none⟩ (.slice B3 m3 e3)).setCell ⟨x, 2, none⟩ (.slice B4 m4 e4)) x 29 #[.int .i64 co, .slice B3 m3 e3, .slice B4 m4 e4]) := ((HX.set 0 _).set 1 _).set 2 _;have FD : Hid (AJ (((w6.setCell ⟨x, 0, none⟩ (.int .i64 co)).setCell ⟨x, 1, none⟩ (.slice B3 m3 e3)).setCell ⟨x, 2, none⟩ (.slice B4 m4 e4)) (w.heap.size + 3) 29 #[.int .i64 0, .slice none 0 0, .slice none 0 0]) := zU Dw.b3 (Ne.symm Ng);have LZ : Hid (Below w.heap.size w (((w6.setCell ⟨x, 0, none⟩ (.int .i64 co)).setCell ⟨x, 1, none⟩ (.slice B3 m3 e3)).setCell ⟨x, 2, none⟩ (.slice B4 m4 e4))) := ((Dw.bl.setCell (by show w.heap.size ≤ x; have := Dl.out; omega) _).setCell (by show w.heap.size ≤ x; have := Dl.out; omega) _).setCell (by show w.heap.size ≤ x; have := Dl.out; omega) _
  have TI : Hid (yi (((w6.setCell ⟨x, 0, none⟩ (.int .i64 co)).setCell ⟨x, 1, none⟩ (.slice B3 m3 e3)).setCell ⟨x, 2, none⟩ (.slice B4 m4 e4)) B1 B2 B3 B4 m1 e1 m2 e2 m3 e3 m4 e4 (za ns ds co ⟨s, ls, pr⟩ ⟨k, d, no, p, q⟩)) := DF.set3 Md.out
  have Ti : Hid (tX (((w6.setCell ⟨x, 0, none⟩ (.int .i64 co)).setCell ⟨x, 1, none⟩ (.slice B3 m3 e3)).setCell ⟨x, 2, none⟩ (.slice B4 m4 e4)) (w.heap.size + 3) B1 B2 B3 B4) := by
   obtain ⟨f1, f2, f3, f4⟩ := Lx.out;refine ⟨fun b off e hb => ?_, fun b off e hb => ?_, fun b off e hb => ?_, fun b off e hb => ?_⟩
   ·rcases f1 with ⟨h, -⟩ | h
    ·rw [h] at e; cases e
    ·have := h b off e; have := ET.out; omega
   ·rcases f2 with ⟨h, -⟩ | h
    ·rw [h] at e; exact zv BQ Dw.b3 (by decide) b off e
    ·have := h b off e; have := ET.out; omega
   ·rcases f3 with ⟨h, -⟩ | h
    ·rw [h] at e; exact zv BU Dw.b3 (by decide) b off e
    ·have := h b off e; have := ET.out; omega
   ·rcases f4 with ⟨h, -⟩ | h
    ·rw [h] at e; exact zv BP Dw.b3 (by decide) b off e
    ·have := h b off e; have := ET.out; omega
  have Jv : Hid (vm w.heap.size B1 B2 B3 B4) := by
   obtain ⟨f1, f2, f3, f4⟩ := Lx.out;refine ⟨fun b off e => ?_, fun b off e => ?_, fun b off e => ?_, fun b off e => ?_⟩
   ·rcases f1 with ⟨h, -⟩ | h
    ·rw [h] at e; cases e
    ·have := h b off e; have := ET.out; omega
   ·rcases f2 with ⟨h, -⟩ | h
    ·rw [h] at e; exact Nat.le_trans GZ (yK BQ b off e)
    ·have := h b off e; have := ET.out; omega
   ·rcases f3 with ⟨h, -⟩ | h
    ·rw [h] at e; exact Nat.le_trans Oi (yK BU b off e)
    ·have := h b off e; have := ET.out; omega
   ·rcases f4 with ⟨h, -⟩ | h
    ·rw [h] at e; exact Nat.le_trans Oi (yK BP b off e)
    ·have := h b off e; have := ET.out; omega
  generalize World.setCell (World.setCell (World.setCell w6 _ _) _ _) _ _ = Y at *;go_upto_region 5 with (fail);have LG : Hid (AJ (((Y.setCell ⟨w.heap.size + 3, 0, none⟩ (.int .i64 co)).setCell ⟨w.heap.size + 3, 1, none⟩ (.slice B3 m3 e3)).setCell ⟨w.heap.size + 3, 2, none⟩ (.slice B4 m4 e4)).drew x 29 #[.int .i64 co, .slice B3 m3 e3, .slice B4 m4 e4]) := (zU Iy Ng).drw;obtain ⟨d0, d1, d2⟩ := FD.d3;obtain ⟨y0, y1, y2⟩ := FD.e3;refine fX (fun W' => W'.cell? ⟨x, 0, none⟩ = some (.int .i64 co) ∧ W'.cell? ⟨x, 1, none⟩ = some (.slice B3 m3 e3) ∧ W'.cell? ⟨x, 2, none⟩ = some (.slice B4 m4 e4)) [7, 8] ?_ fun AA => ?_
  ·exact ⟨Iy.cell 0, Iy.cell 1, Iy.cell 2⟩
  try dsimp only at AA
  refine tk 0 40 (mf 9 1) AA ?_;refine tk 1 41 (mf 9 2) AA ?_;refine tk 2 42 (mf 9 3) AA ?_;refine tk 3 43 (mf 9 4) AA ?_;refine tk 4 8 (mf 9 5) AA ?_;refine tk 5 9 (mf 9 6) AA ?_;refine tb 6 (mf 9 7) fun K hK => ?_
  go_simp
  refine hK _ _ (fun _ => ⟨LG.cell 0, LG.cell 1, LG.cell 2⟩) fun p => (fun AA => ?_) (p rfl)
  clear p hK K;(try dsimp only at AA);refine tb 7 (mf 9 8) fun K hK => ?_
  go_simp
  refine hK _ _ (fun h => by cases h) (fun _ => ?_)
  try clear AA
  clear hK K;refine tb 8 (mf 9 9) fun K hK => ?_
  go_simp
  refine hK _ _ (fun h => by cases h) (fun _ => ?_)
  try clear AA
  clear hK K;refine tK ?_;have LF : Hid (AJ (((Y.setCell ⟨w.heap.size + 3, 0, none⟩ (.int .i64 co)).setCell ⟨w.heap.size + 3, 1, none⟩ (.slice B3 m3 e3)).setCell ⟨w.heap.size + 3, 2, none⟩ (.slice B4 m4 e4)).drew (w.heap.size + 3) 29 #[.int .i64 co, .slice B3 m3 e3, .slice B4 m4 e4] ∧ Below w.heap.size w (((Y.setCell ⟨w.heap.size + 3, 0, none⟩ (.int .i64 co)).setCell ⟨w.heap.size + 3, 1, none⟩ (.slice B3 m3 e3)).setCell ⟨w.heap.size + 3, 2, none⟩ (.slice B4 m4 e4)).drew ∧ yi (((Y.setCell ⟨w.heap.size + 3, 0, none⟩ (.int .i64 co)).setCell ⟨w.heap.size + 3, 1, none⟩ (.slice B3 m3 e3)).setCell ⟨w.heap.size + 3, 2, none⟩ (.slice B4 m4 e4)).drew B1 B2 B3 B4 m1 e1 m2 e2 m3 e3 m4 e4 (za ns ds co ⟨s, ls, pr⟩ ⟨k, d, no, p, q⟩)) := ⟨((FD.set 0 _).set 1 _).set 2 _, (((LZ.setCell (by simp) _).setCell (by simp) _).setCell (by simp) _).drew, (TI.set3 Ti).later (Below.refl _ _).drew⟩
  clear d0 d1 d2 y0 y1 y2
  go_wp2_with fail
  generalize World.drew (World.setCell (World.setCell (World.setCell Y _ _) _ _) _ _) = z at *;obtain ⟨q0, q1, q2⟩ := LF.1.d3;exact bodyPost_ret (v := .tuple #[.slice B1 m1 e1, .slice B2 m2 e2, .agg #[.int .i64 co, .slice B3 m3 e3, .slice B4 m4 e4], .bool (za ns ds co ⟨s, ls, pr⟩ ⟨k, d, no, p, q⟩).ok, .int .i64 0]) (by simp [results, results16, go_sem, q0, q1, q2]) rfl ⟨.inr ⟨CJ.symm, _, _, _, _, _, _, _, _, _, _, _, _, rfl, LF.2.2, Jv⟩, LF.2.1⟩
theorem jh (An Ad As Al Ap : Option Addr) (nn cn nd cd n c nl cl np cp : Nat) (ns : List Nd) (ds : List Dv) (s : List Int) (ls : List Lk) (pr : List Int) (co k d no p q : Int) (w : World) (h : yp w An Ad As Al Ap nn cn nd cd n c nl cl np cp ns ds s ls pr) :
 Calls prog 16 #[.agg #[.slice An nn cn, .slice Ad nd cd], .slice As n c, .agg #[.int .i64 co, .slice Al nl cl, .slice Ap np cp], .agg #[.int .i64 k, .int .i64 d, .int .i64 no, .int .i64 p, .int .i64 q]] w (tW w ns ds s co ls pr ⟨k, d, no, p, q⟩) := by
 refine (jg An Ad As Al Ap nn cn nd cd n c nl cl np cp ns ds s ls pr co k d no p q w h).mono ?_;rintro e w' ⟨⟨h1, h2⟩ | ⟨h1, A1, A2, B3, B4, n1, c1, n2, c2, m3, e3, m4, e4, rfl, hS, -⟩, hb⟩
 ·exact ⟨.inl ⟨h1, h2⟩, hb⟩
 ·exact ⟨.inr ⟨h1, A1, A2, B3, B4, n1, c1, n2, c2, m3, e3, m4, e4, rfl, hS⟩, hb⟩
def Ke (w : World) (ob : Nat) (Ao A : Option Addr) (n : Nat) : Prop := 0 < n → ∀ b off, A = some ⟨b, off, none⟩ → w.heap.size + 6 ≤ b ∧ b ≠ ob ∧ ∀ o', Ao ≠ some ⟨b, o', none⟩
structure RM (w : World) (ob : Nat) (An Ad A5 : Option Addr) (nn cn nd cd n5 c5 : Nat) (co : Int) (pg : Array Value) (As Al Ap Ao : Option Addr) (n c nl cl np cp mo cx : Nat) (t : Sm) (out : List Fn) (wr : World) : Prop where
 b0 : AJ wr w.heap.size 26 #[.slice An nn cn, .slice Ad nd cd]
 b1 : AJ wr (w.heap.size + 1) 22 #[.slice As n c]
 b2 : AJ wr (w.heap.size + 2) 29 #[.int .i64 co, .slice Al nl cl, .slice Ap np cp]
 b3 : AJ wr (w.heap.size + 3) 34 pg
 b4 : AJ wr (w.heap.size + 4) 22 #[.slice A5 n5 c5]
 b5 : AJ wr (w.heap.size + 5) 29 #[.int .i64 0, .slice none 0 0, .slice none 0 0]
 bo : AJ wr ob 56 #[.slice Ao mo cx]
 s : Av wr 1 As n c (zF t.s)
 l : Av wr 3 Al nl cl (t.ls.flatMap Lk.cells)
 p : Av wr 1 Ap np cp (zF t.pr)
 o : wr.ownsRow (ob + 1) 95 2 (.slice Ao mo cx) mo (out.flatMap Fn.cells)
 ks : Ke w ob Ao As n
 kl : Ke w ob Ao Al nl
 kp : Ke w ob Ao Ap np
 bl : bW w wr
 hob : w.heap.size + 6 ≤ ob
structure SK (w : World) (ob x : Nat) (co : Int) (Ao A1 A2 Al Ap : Option Addr) (n1 c1 n2 c2 nl cl np cp : Nat) (o : So) (wr : World) : Prop where
 a : yi wr A1 A2 Al Ap n1 c1 n2 c2 nl cl np cp o
 k1 : Ke w ob Ao A1 n1
 k2 : Ke w ob Ao A2 n2
 kl : Ke w ob Ao Al nl
 kp : Ke w ob Ao Ap np
 bx : AJ wr x 29 #[.int .i64 co, .slice Al nl cl, .slice Ap np cp]
 hx : ob < x ∧ ∀ o', Ao ≠ some ⟨x, o', none⟩
section
variable {w wr wr' : World} {ob : Nat} {An Ad A5 As Al Ap Ao : Option Addr} {nn cn nd cd n5 c5 n c nl cl np cp mo cx : Nat} {co : Int} {pg : Array Value} {t : Sm} {out : List Fn}
theorem RM.later (h : RM w ob An Ad A5 nn cn nd cd n5 c5 co pg As Al Ap Ao n c nl cl np cp mo cx t out wr) (hb : bW wr wr') : RM w ob An Ad A5 nn cn nd cd n5 c5 co pg As Al Ap Ao n c nl cl np cp mo cx t out wr' :=
 ⟨h.b0.below hb h.b0.lt, h.b1.below hb h.b1.lt, h.b2.below hb h.b2.lt, h.b3.below hb h.b3.lt, h.b4.below hb h.b4.lt, h.b5.below hb h.b5.lt, h.bo.below hb h.bo.lt, (h.s.below hb lR).more hb.size, (h.l.below hb lR).more hb.size, (h.p.below hb lR).more hb.size, zM h.o hb, h.ks, h.kl, h.kp, h.bl.trans (hb.mono h.bl.size), h.hob⟩
theorem Ke.fre {A' : Option Addr} (h : Ke w ob Ao A n) (hf : Rj B A A' n m) (hB : ob < B) (hw : w.heap.size + 6 ≤ ob) (ho : ∀ b o', Ao = some ⟨b, o', none⟩ → b < B) : Ke w ob Ao A' m := by
 intro hm b off e;rcases hf with ⟨hf, hn⟩ | hf
 ·subst hf; exact h (by omega) b off e
 ·have := hf b off e;refine ⟨by omega, by omega, fun o' e2 => ?_⟩;have := ho b o' e2; omega
theorem Sl.kept {row : Option Nat} (h : Av wr size A m d xs) (hg : wr.grownBy wr' row) (ha : 0 < m → ∀ b off, A = some ⟨b, off, none⟩ → some b ≠ row) : Av wr' size A m d xs := by
 obtain ⟨h1, h2, h3, h4, h5⟩ := h;refine ⟨h1, h2, h3, h4, fun h0 => ?_⟩;obtain ⟨b, off, e, hb, hc⟩ := h5 h0;refine ⟨b, off, e, Nat.lt_of_lt_of_le hb hg.size, fun j u hu => ?_⟩;rw [← hc j u hu];exact World.cell?_of_block (hg.block b hb (ha h0 b off e))
theorem ku (A : Option Addr) (m d b : Nat) (h : some b = (Value.slice A m d).ownBlock) (hA : A = none ∨ ∃ g, A = some ⟨g, 0, none⟩) : ∃ o', A = some ⟨b, o', none⟩ := by
 rcases hA with rfl | ⟨g, rfl⟩
 ·cases h
 ·refine ⟨0, ?_⟩; simp [Value.ownBlock] at h; rw [h]
theorem uB (h : wr.ownsRow base e size (.slice A m d) m xs) : A = none ∨ ∃ g, A = some ⟨g, 0, none⟩ ∧ base ≤ g ∧ g < wr.heap.size := by
 have hl := h.lt;rcases h.2 with ⟨h0, -⟩ | ⟨g, cap, cur, h0, hg, -⟩
 ·injection h0 with h0; exact .inl h0
 ·injection h0 with h0; subst h0; exact .inr ⟨g, rfl, hl g rfl⟩
structure Gr (w : World) (ob : Nat) (Ao : Option Addr) (mo cx : Nat) (A' : Option Addr) (cx' : Nat) (wr wr' : World) : Prop where
 g : wr.grownBy wr' (Value.slice Ao mo cx).ownBlock
 at' : (Value.slice A' (mo + 1) cx').ownBlock = (Value.slice Ao mo cx).ownBlock ∨ (Value.slice A' (mo + 1) cx').ownBlock = some wr.heap.size
theorem Ke.grow {A' : Option Addr} {cx' : Nat} (h : Ke w ob Ao A m) (hs : Av wr size A m d xs) (hG : Gr w ob Ao mo cx A' cx' wr wr') (hA' : A' = none ∨ ∃ g, A' = some ⟨g, 0, none⟩) (hA : Ao = none ∨ ∃ g, Ao = some ⟨g, 0, none⟩) : Ke w ob A' A m := by
 intro hm b off e;obtain ⟨h1, h2, h3⟩ := h hm b off e;refine ⟨h1, h2, fun o' e2 => ?_⟩;obtain ⟨b', off', e3, hb, -⟩ := hs.2.2.2.2 hm;rw [e] at e3; injection e3 with e3; injection e3 with e3 _; subst e3
 rcases hA' with rfl | ⟨g, rfl⟩
 ·cases e2
 injection e2 with e2; injection e2 with e2 _; subst e2;rcases hG.at' with h4 | h4
 ·obtain ⟨o2, h5⟩ := ku Ao mo cx g (by rw [← h4]; rfl) hA;exact h3 o2 h5
 ·simp [Value.ownBlock] at h4; omega
end
section
variable {w wr wr' : World} {ob x : Nat} {An Ad A5 As Al Ap Ao A1 A2 B3 B4 A' : Option Addr} {nn cn nd cd n5 c5 n c nl cl np cp mo cx n1 c1 n2 c2 m3 e3 m4 e4 cx' : Nat} {co : Int} {pg : Array Value} {t : Sm} {out : List Fn} {so : So} {f : Fn}
theorem vZ (h : RM w ob An Ad A5 nn cn nd cd n5 c5 co pg As Al Ap Ao n c nl cl np cp mo cx t out wr) {g : Nat} (hg : g ≤ ob) : some g ≠ (Value.slice Ao mo cx).ownBlock := fun e => by
 have := (h.o.lt g e.symm).1; omega
theorem RM.app (h : RM w ob An Ad A5 nn cn nd cd n5 c5 co pg As Al Ap Ao n c nl cl np cp mo cx t out wr) (hG : Gr w ob Ao mo cx A' cx' wr wr') (hr : wr'.ownsRow (ob + 1) 95 2 (.slice A' (mo + 1) cx') (mo + 1) (out.flatMap Fn.cells ++ f.cells)) :
 RM w ob An Ad A5 nn cn nd cd n5 c5 co pg As Al Ap A' n c nl cl np cp (mo + 1) cx' t (out ++ [f]) (wr'.setCell ⟨ob, 0, none⟩ (.slice A' (mo + 1) cx')) := by
 have hw := h.hob;have fA : Ao = none ∨ ∃ g, Ao = some ⟨g, 0, none⟩ := (uB h.o).imp id fun ⟨g, e, _⟩ => ⟨g, e⟩
 have fA' : A' = none ∨ ∃ g, A' = some ⟨g, 0, none⟩ := (uB hr).imp id fun ⟨g, e, _⟩ => ⟨g, e⟩
 have bk : ∀ {g : Nat} {T : TypeId} {cs : Array Value}, g < ob → AJ wr g T cs → AJ (wr'.setCell ⟨ob, 0, none⟩ (.slice A' (mo + 1) cx')) g T cs := fun {g T cs} hg hb => (hb.grown hG.g (vZ h (by omega))).far (by show g ≠ ob; omega) _
 have hsz : wr'.heap.size = (wr'.setCell ⟨ob, 0, none⟩ (.slice A' (mo + 1) cx')).heap.size := by simp [World.setCell]
 have ap : ∀ {A : Option Addr} {m : Nat}, Ke w ob Ao A m → 0 < m → ∀ b off, A = some ⟨b, off, none⟩ → some b ≠ (Value.slice Ao mo cx).ownBlock := fun {A m} hk hm b off e e2 => by
  obtain ⟨o2, h5⟩ := ku Ao mo cx b e2 fA;exact (hk hm b off e).2.2 o2 h5
 have sl : ∀ {A : Option Addr} {m d size : Nat} {xs : List Value}, Ke w ob Ao A m → Sl wr wr.heap.size size A m d xs → Sl (wr'.setCell ⟨ob, 0, none⟩ (.slice A' (mo + 1) cx')) (wr'.setCell ⟨ob, 0, none⟩ (.slice A' (mo + 1) cx')).heap.size size A m d xs := fun {A m d size xs} hk hs => by
  rw [← hsz];have h1 := hs.kept hG.g (ap hk);refine ⟨h1.1, h1.2.1, h1.2.2.1, h1.2.2.2.1, fun hn => ?_⟩;obtain ⟨b, off, e, hb, hc⟩ := h1.2.2.2.2 hn;exact ⟨b, off, e, hb, fun j v hv => (World.cell?_setCell_far wr' ⟨ob, 0, none⟩ ⟨b, off + j, none⟩ _ (fun e2 => (hk hn b off e).2.1 e2.symm)).trans (hc j v hv)⟩
 refine ⟨bk (by omega) h.b0, bk (by omega) h.b1, bk (by omega) h.b2, bk (by omega) h.b3, bk (by omega) h.b4, bk (by omega) h.b5, ?_, sl h.ks h.s, sl h.kl h.l, sl h.kp h.p, ?_, h.ks.grow h.s hG fA' fA, h.kl.grow h.l hG fA' fA, h.kp.grow h.p hG fA' fA, ?_, h.hob⟩
 ·exact (h.bo.grown hG.g (vZ h lR)).set 0 _
 ·rw [List.flatMap_append, List.flatMap_cons, List.flatMap_nil, List.append_nil];exact hr.kept (zo _ _ _) (zj fun b e => by have := (hr.lt b e).1; simp; omega)
 ·have hb : Below w.heap.size w wr' := ⟨hG.g.os.trans h.bl.os, hG.g.tape.trans h.bl.tape, hG.g.output.trans h.bl.output, Nat.le_trans h.bl.size hG.g.size, fun i hi => (hG.g.block i (Nat.lt_of_lt_of_le hi h.bl.size) (vZ h (by omega))).trans (h.bl.block i hi)⟩;exact hb.setCell (by show w.heap.size ≤ ob; omega) _
theorem SK.app (h : RM w ob An Ad A5 nn cn nd cd n5 c5 co pg As Al Ap Ao n c nl cl np cp mo cx t out wr) (hk : SK w ob x co Ao A1 A2 B3 B4 n1 c1 n2 c2 m3 e3 m4 e4 so wr) (hG : Gr w ob Ao mo cx A' cx' wr wr') (hr : wr'.ownsRow (ob + 1) 95 2 (.slice A' (mo + 1) cx') (mo + 1) (out.flatMap Fn.cells ++ f.cells)) :
 SK w ob x co A' A1 A2 B3 B4 n1 c1 n2 c2 m3 e3 m4 e4 so (wr'.setCell ⟨ob, 0, none⟩ (.slice A' (mo + 1) cx')) := by
 have hw := h.hob;have fA : Ao = none ∨ ∃ g, Ao = some ⟨g, 0, none⟩ := (uB h.o).imp id fun ⟨g, e, _⟩ => ⟨g, e⟩
 have fA' : A' = none ∨ ∃ g, A' = some ⟨g, 0, none⟩ := (uB hr).imp id fun ⟨g, e, _⟩ => ⟨g, e⟩
 have hsz : wr'.heap.size = (wr'.setCell ⟨ob, 0, none⟩ (.slice A' (mo + 1) cx')).heap.size := by simp [World.setCell]
 have ap : ∀ {A : Option Addr} {m : Nat}, Ke w ob Ao A m → 0 < m → ∀ b off, A = some ⟨b, off, none⟩ → some b ≠ (Value.slice Ao mo cx).ownBlock := fun {A m} hk hm b off e e2 => by
  obtain ⟨o2, h5⟩ := ku Ao mo cx b e2 fA;exact (hk hm b off e).2.2 o2 h5
 have sl : ∀ {A : Option Addr} {m d size : Nat} {xs : List Value}, Ke w ob Ao A m → Sl wr wr.heap.size size A m d xs → Sl (wr'.setCell ⟨ob, 0, none⟩ (.slice A' (mo + 1) cx')) (wr'.setCell ⟨ob, 0, none⟩ (.slice A' (mo + 1) cx')).heap.size size A m d xs := fun {A m d size xs} hk hs => by
  rw [← hsz];have h1 := hs.kept hG.g (ap hk);refine ⟨h1.1, h1.2.1, h1.2.2.1, h1.2.2.2.1, fun hn => ?_⟩;obtain ⟨b, off, e, hb, hc⟩ := h1.2.2.2.2 hn;exact ⟨b, off, e, hb, fun j v hv => (World.cell?_setCell_far wr' ⟨ob, 0, none⟩ ⟨b, off + j, none⟩ _ (fun e2 => (hk hn b off e).2.1 e2.symm)).trans (hc j v hv)⟩
 refine ⟨⟨sl hk.k1 hk.a.h, sl hk.k2 hk.a.s, sl hk.kl hk.a.l, sl hk.kp hk.a.p⟩, hk.k1.grow hk.a.h hG fA' fA, hk.k2.grow hk.a.s hG fA' fA, hk.kl.grow hk.a.l hG fA' fA, hk.kp.grow hk.a.p hG fA' fA, (hk.bx.grown hG.g (fun e => ?_)).far (by show x ≠ ob; have := hk.hx.1; omega) _, hk.hx.1, fun o' e => ?_⟩
 ·obtain ⟨o2, h5⟩ := ku Ao mo cx x e fA;exact hk.hx.2 o2 h5
 ·rcases fA' with rfl | ⟨g, rfl⟩
  ·cases e
  injection e with e; injection e with e _; subst e;rcases hG.at' with h4 | h4
  ·obtain ⟨o2, h5⟩ := ku Ao mo cx g (by rw [← h4]; rfl) fA;exact hk.hx.2 o2 h5
  ·simp [Value.ownBlock] at h4; have := hk.bx.lt; omega
theorem SK.later (hk : SK w ob x co Ao A1 A2 B3 B4 n1 c1 n2 c2 m3 e3 m4 e4 so wr) (hb : bW wr wr') : SK w ob x co Ao A1 A2 B3 B4 n1 c1 n2 c2 m3 e3 m4 e4 so wr' :=
 ⟨hk.a.later hb, hk.k1, hk.k2, hk.kl, hk.kp, hk.bx.below hb hk.bx.lt, hk.hx⟩
theorem RM.put (h : RM w ob An Ad A5 nn cn nd cd n5 c5 co pg As Al Ap Ao n c nl cl np cp mo cx t out wr) (hk : SK w ob x co Ao A1 A2 B3 B4 n1 c1 n2 c2 m3 e3 m4 e4 so wr) :
 RM w ob An Ad A5 nn cn nd cd n5 c5 co pg A2 B3 B4 Ao n2 c2 m3 e3 m4 e4 mo cx so.t out ((((wr.setCell ⟨w.heap.size + 1, 0, none⟩ (.slice A2 n2 c2)).setCell ⟨w.heap.size + 2, 0, none⟩ (.int .i64 co)).setCell ⟨w.heap.size + 2, 1, none⟩ (.slice B3 m3 e3)).setCell ⟨w.heap.size + 2, 2, none⟩ (.slice B4 m4 e4)) := by
 have hw := h.hob;have bk : ∀ {g : Nat} {T : TypeId} {cs : Array Value}, g ≠ w.heap.size + 1 → g ≠ w.heap.size + 2 → AJ wr g T cs → AJ ((((wr.setCell ⟨w.heap.size + 1, 0, none⟩ (.slice A2 n2 c2)).setCell ⟨w.heap.size + 2, 0, none⟩ (.int .i64 co)).setCell ⟨w.heap.size + 2, 1, none⟩ (.slice B3 m3 e3)).setCell ⟨w.heap.size + 2, 2, none⟩ (.slice B4 m4 e4)) g T cs := fun {g T cs} h1 h2 hb => zU (hb.far (by show g ≠ w.heap.size + 1; exact h1) _) h2
 have hsz : ((((wr.setCell ⟨w.heap.size + 1, 0, none⟩ (.slice A2 n2 c2)).setCell ⟨w.heap.size + 2, 0, none⟩ (.int .i64 co)).setCell ⟨w.heap.size + 2, 1, none⟩ (.slice B3 m3 e3)).setCell ⟨w.heap.size + 2, 2, none⟩ (.slice B4 m4 e4)).heap.size = wr.heap.size := by simp [World.setCell]
 have sl : ∀ {A : Option Addr} {m d size : Nat} {xs : List Value}, Ke w ob Ao A m → Sl wr wr.heap.size size A m d xs → Sl ((((wr.setCell ⟨w.heap.size + 1, 0, none⟩ (.slice A2 n2 c2)).setCell ⟨w.heap.size + 2, 0, none⟩ (.int .i64 co)).setCell ⟨w.heap.size + 2, 1, none⟩ (.slice B3 m3 e3)).setCell ⟨w.heap.size + 2, 2, none⟩ (.slice B4 m4 e4)) ((((wr.setCell ⟨w.heap.size + 1, 0, none⟩ (.slice A2 n2 c2)).setCell ⟨w.heap.size + 2, 0, none⟩ (.int .i64 co)).setCell ⟨w.heap.size + 2, 1, none⟩ (.slice B3 m3 e3)).setCell ⟨w.heap.size + 2, 2, none⟩ (.slice B4 m4 e4)).heap.size size A m d xs := fun {A m d size xs} hk hs => by
  rw [hsz];rcases Nat.eq_zero_or_pos m with hm | hm
  ·exact ⟨hs.1, hs.2.1, hs.2.2.1, hs.2.2.2.1, fun h => absurd h (by omega)⟩
  ·have e1 : ∀ b off, A = some ⟨b, off, none⟩ → b ≠ w.heap.size + 1 := fun b off e => by have := (hk hm b off e).1; omega
   have e2 : ∀ b off, A = some ⟨b, off, none⟩ → b ≠ w.heap.size + 2 := fun b off e => by have := (hk hm b off e).1; omega
   exact ((((hs.ne e1).ne e2).ne e2).ne e2)
 refine ⟨bk (by omega) (by omega) h.b0, (zU (h.b1.set 0 _) (by omega)), ?_, bk (by omega) (by omega) h.b3, bk (by omega) (by omega) h.b4, bk (by omega) (by omega) h.b5, bk (by omega) (by omega) h.bo, sl hk.k2 hk.a.s, sl hk.kl hk.a.l, sl hk.kp hk.a.p, ?_, hk.k2, hk.kl, hk.kp, ?_, h.hob⟩
 ·exact ((((h.b2.far (by simp) _).set 0 _).set 1 _).set 2 _)
 ·have f : ∀ {y i : Nat} {u : Value} {W : World}, y ≤ ob → W.ownsRow (ob + 1) 95 2 (.slice Ao mo cx) mo (out.flatMap Fn.cells) → (W.setCell ⟨y, i, none⟩ u).ownsRow (ob + 1) 95 2 (.slice Ao mo cx) mo (out.flatMap Fn.cells) := fun {y i u W} hy hh => xf hh (by omega)
  exact f (by omega) (f (by omega) (f (by omega) (f (by omega) h.o)))
 ·exact (((h.bl.setCell (by simp) _).setCell (by simp) _).setCell (by simp) _).setCell (by simp) _
end
theorem kT {p : Int → Bool} : ∀ {l : List Int} {i : Nat}, (∀ x ∈ l.take i, p x = true) → (∀ x, l[i]? = some x → p x = false) → l.takeWhile p = l.take i ∧ l.dropWhile p = l.drop i
 | [], i, _, _ => by simp
 | x :: l, 0, _, h => by
  have := h x rfl;simp [this]
 | x :: l, i + 1, h1, h2 => by
  have hx := h1 x (by simp);obtain ⟨a, b⟩ := kT (p := p) (l := l) (i := i) (fun y hy => h1 y (by simp [hy])) (fun y hy => h2 y (by simpa using hy));simp [hx, a, b]
theorem Sl.takeI {k : Nat} {l : List Int} (h : Sl w B 1 A n c (zF l)) (hk : k ≤ n) : Sl w B 1 A k c (zF (l.take k)) := h.takeK (f := fun x => [.int .i64 x]) (fun _ => rfl) (by decide) hk
theorem Sl.dropI {k : Nat} {l : List Int} (h : Sl w B 1 A n c (zF l)) (hk : k ≤ n) : Sl w B 1 (sY A c k) (n - k) (c - k) (zF (l.drop k)) := by
 have := h.dropK (f := fun x => [.int .i64 x]) (fun _ => rfl) (by decide) hk;unfold sX at this; rw [Nat.mul_one] at this; exact this
theorem km {w4 w5 w6 : World} {j : Nat} {o : Obj} (h5 : w4.grownBy w5 (Value.slice none 0 0).ownBlock) (ho : w5.ownsRow w4.heap.size e size (.slice A1 j c1) j xs) (h6 : (w5.alloc o).grownBy w6 (Value.slice A1 j c1).ownBlock) : bW w4 w6 := by
 have h1 : Below w4.heap.size w4 w5 := zT h5;have h2 := h1.alloc h1.size o;exact h2.trans ⟨h6.os, h6.tape, h6.output, h6.size, fun t ht => h6.block t (by have := h2.size; omega) (fun e => by have := (ho.lt t e.symm).1; omega)⟩
def PvR (w : World) (pr : List Int) (v : Int) (n gk : Nat) (iv : Value) (wr : World) : Prop := ∃ i : Nat, iv = .int .i64 i ∧ i ≤ n ∧ gk = n - i ∧ Hid (∀ x ∈ pr.take i, decide (x < v) = true) ∧ Hid (bW w wr)
theorem ni (A : Option Addr) (n c : Nat) (pr : List Int) (v : Int) (w : World) (hp : Av w 1 A n c (zF pr)) (hn : n ≤ 1000) :
 Calls prog 69 #[.slice A n c, .int .i64 v] w fun e w' => ∃ (A' : Option Addr) (n' c' : Nat), e = .returned (.slice A' n' c') ∧ Hid (Av w' 1 A' n' c' (zF (xR pr v))) ∧ Hid (A' = A ∧ n' = n ∧ c' = c ∧ xR pr v = pr ∨ ∀ b off, A' = some ⟨b, off, none⟩ → w.heap.size ≤ b) ∧ Hid (bW w w') := by
 have hle := hp.le;have HP := iD hp;have NK : Hid (pr.length = n) := hp.len (fun _ => rfl) (by decide);clear hp
 go_enter func69, ntmps69
 go_wp2_with fail
 refine (tN A n c pr v w HP).mono ?_;rintro e w1 ⟨rfl, rfl⟩;by_cases hm : v ∈ pr
 ·have HV : Hid (xR pr v = pr) := by unfold Hid xR; rw [if_pos hm]
  have q1 : decide (v ∈ pr) = true := by simpa using hm
  clear hm
  go_wp2_with fail
  go_ret;exact ⟨A, n, c, rfl, by unfold Hid; rw [HV.out]; exact HP, .inl ⟨rfl, rfl, rfl, HV⟩, Below.refl _ _⟩
 have HV : Hid (xR pr v = pr.takeWhile (fun x => decide (x < v)) ++ v :: pr.dropWhile (fun x => decide (x < v))) := by unfold Hid xR; rw [if_neg hm]
 have q1 : decide (v ∈ pr) = false := by simpa using hm
 clear hm
 go_wp2_with fail
 clear q1
 go_loopg [5] n (PvR w pr v n)
 case atStart => exact ⟨0, rfl, Nat.zero_le _, rfl, (fun x hx => by simp at hx), Below.refl _ _⟩
 case round =>
  obtain ⟨i, rfl, hi, rfl, Nu, AZ⟩ := hrel;by_cases hgo : ∃ z, pr[i]? = some z ∧ z < v
  ·obtain ⟨z, hz, AB⟩ := hgo;have hlt : i < n := by have := (List.getElem?_eq_some_iff.1 hz).1; have := NK.out; omega
   obtain ⟨b, off, y, rfl, hb, hy, hc⟩ := (HP.below AZ lR).at1 hlt;obtain rfl : z = y := by rw [hz] at hy; exact Option.some.inj hy
   have EB : Hid (∀ x ∈ pr.take (i + 1), decide (x < v) = true) := fun x hx => by
    rw [zO hz] at hx;rcases List.mem_append.1 hx with h | h
    ·exact Nu x h
    ·rw [List.mem_singleton.1 h]; simpa using AB
   have q1 : decide (z < v) = true := by simpa using AB
   clear hy hz hb Nu AB
   go_wp2_with fail
   go_roundg (n - (i + 1))
   ·exact ⟨i + 1, by go_num, by omega, rfl, EB, AZ⟩
   omega
  have DD : Hid (∀ x, pr[i]? = some x → decide (x < v) = false) := fun x hx => by
   by_cases h : x < v
   ·exact absurd ⟨x, hx, h⟩ hgo
   ·simpa using h
  obtain ⟨RF, RJ⟩ := kT (p := fun x => decide (x < v)) Nu DD.out;have AU : Hid (xR pr v = pr.take i ++ v :: pr.drop i) := by unfold Hid; rw [HV.out, RF, RJ]
  have AG := iD (HP.below AZ lR);have Cb := iD (AG.takeI hi);have CU := iD (AG.dropI hi);clear RF RJ hgo Nu;by_cases hlt : i < n;have PO : i ≤ c := by omega
  have hcut : ∀ W, (Instr.sliceAt 22 (.slice A n c) (some (.int .i64 (i : Int))) none none).run prog W = .ok (.slice (sY A c i) (n - i) (c - i)) W := fun W => vV W _ _ _ _ hi
  have Ph := AZ.size
  case' pos =>
   obtain ⟨b, off, z, hA, hb, hx, hc⟩ := AG.at1 hlt;subst hA;have q1 : decide (z < v) = false := DD z hx;clear hx hb
  case' neg =>
   have q1 : decide (i < n) = false := by simpa using hlt
  all_goals
   go_wp2_with (at_builtin; first
    | (refine zL rfl (.const (.slice none 0 0)) (.tmp 27) rfl yl (by rfl) (World.ownsRow_nil _ wr.heap.size _ _) (by rfl) Cb (yn _) (by omega) (by omega) (by omega) ?_; intro A5 c5 w5 Ai Ah EQ; simp only [Nat.zero_add, List.nil_append] at Ai Ah EQ ⊢)
    | (refine zL rfl (.tmp 28) (.tmp 30) rfl yl (by rfl) (World.ownsRow.alloc Ai _) (by rfl) (Sl.newest (n := 1) (by simp) (by rfl) (by decide)) (by simp [Value.oneCell']) (by omega) (by omega) (by have := Ah.size; simp at this ⊢; omega) ?_; intro A6 c6 w6 BZ BG Ej; have Dh : Hid (Below wr.heap.size wr w6) := km Ah Ai BG; have JD := iD (CU.below Dh AZ.size))
    | (refine zL rfl (.tmp 32) (.tmp 35) rfl yl (by rfl) BZ (by rfl) JD (yn _) (by omega) (by omega) (by have := Dh.size; omega) ?_; intro A7 c7 w7 BH Be DL))
   all_goals
    go_ret;have hlen : i + 1 + (n - i) = n + 1 := by omega
    rw [hlen] at BH ⊢;refine ⟨A7, n + 1, c7, rfl, ?_, .inr (fun b off e => ?_), ?_⟩
    ·unfold Hid; rw [AU.out];have h := Sl.of_own BH;unfold zF at h ⊢;rw [List.flatMap_append, List.flatMap_cons, ← List.append_assoc];exact h
    ·have := (BH.lt b (by rw [e]; rfl)).1; have := AZ.size; omega
    ·have h1 := AZ.trans (Dh.mono AZ.size);exact h1.trans ⟨Be.os, Be.tape, Be.output, Be.size, fun t ht => Be.block t (by have := h1.size; omega) (fun e => by have := (BZ.lt t e.symm).1; have := AZ.size; omega)⟩
theorem om {d q : Int} : ∀ {ls : List Lk} {i : Nat} {p : Int}, (∀ x ∈ ls.take i, ¬ (x.dev = d ∧ x.key = q)) → ls[i]? = some ⟨d, p, q⟩ → wR d q ls = some i
 | [], _, _, _, h => by simp at h
 | x :: l, 0, _, _, h => by simp at h; rw [wR, if_pos (by rw [h]; exact ⟨rfl, rfl⟩)]
 | x :: l, i + 1, p, h1, h => by
  rw [wR, if_neg (h1 x (by simp)), om (ls := l) (i := i) (p := p) (fun y hy => h1 y (by simp [hy])) (by simpa using h)]; rfl
theorem qY {d q : Int} : ∀ {ls : List Lk}, (∀ x ∈ ls, ¬ (x.dev = d ∧ x.key = q)) → wR d q ls = none
 | [], _ => rfl
 | x :: l, h => by rw [wR, if_neg (h x (by simp)), qY (fun y hy => h y (by simp [hy]))]; rfl
def RrR (w : World) (N : Array Value) (ls : List Lk) (d q : Int) (n gk : Nat) (iv : Value) (wr : World) : Prop := ∃ i : Nat, iv = .int .i64 i ∧ i ≤ n ∧ gk = n - i ∧ Hid (∀ x ∈ ls.take i, ¬ (x.dev = d ∧ x.key = q)) ∧ Hid (sG w N wr)
theorem oH (An Ad Al : Option Addr) (nn cn nd cd n c Bn Bd Bl : Nat) (ns : List Nd) (ds : List Dv) (ls : List Lk) (d q : Int) (w : World) (DJ : ls.length = n) (hn : Sl w Bn 3 An nn cn (ns.flatMap Nd.cells)) (hd : Sl w Bd 5 Ad nd cd (ds.flatMap Dv.cells)) (hs : Sl w Bl 3 Al n c (ls.flatMap Lk.cells)) (Ce : Bn ≤ w.heap.size) (BN : Bd ≤ w.heap.size) (Df : Bl ≤ w.heap.size)
 (Bj : FO ns) (Bc : GH ds) :
 Calls prog 70 #[.agg #[.slice An nn cn, .slice Ad nd cd], .slice Al n c, .int .i64 d, .int .i64 q] w (ta w ns ds ls d q) := by
 have HS := iD hs;have Ch := iD DJ;have hle := hs.le;have Ar : Hid (sG w #[.slice An nn cn, .slice Ad nd cd] (w.alloc (.cells #[.slice An nn cn, .slice Ad nd cd] 26))) := ⟨AJ.new _ _ _, (Below.refl _ _).alloc lR _⟩;have Cy := iD (vy An Ad Al nn cn nd cd n c Bn Bd Bl ns ds ls (w.alloc (.cells #[.slice An nn cn, .slice Ad nd cd] 26)) (hn.below Ar.bl Ce) (hd.below Ar.bl BN) (hs.below Ar.bl Df) (by simp; omega) (by simp; omega) (by simp; omega) Bj Bc);clear hn hd hs Bj Bc DJ
 go_enter func70, ntmps70
 go_wp2_with fail
 generalize World.alloc _ _ = W at *;refine Cy.mono ?_;rintro e w1 ⟨rfl, AX⟩;have BD := iD (Ar.later AX);clear AX Ar Cy;by_cases h0 : zH ns ds ls = 0; rotate_left
 ·have q0 : (zH ns ds ls != 0) = true := by simpa using h0
  have JF := iD h0;clear h0
  go_wp2_with fail
  go_ret2;exact ⟨.inl ⟨JF, rfl⟩, BD.bl⟩
 have Nj : n ≤ 128 := by have := (yW h0).1; rw [Ch.out] at this; exact this
 have HZ := iD h0;rw [h0];clear h0
 go_wp2_with fail
 go_loopg [11] n (RrR w #[.slice An nn cn, .slice Ad nd cd] ls d q n)
 case atStart => exact ⟨0, rfl, Nat.zero_le _, rfl, (fun x hx => by simp at hx), BD⟩
 case round =>
  clear BD;obtain ⟨i, rfl, hi, rfl, hno, hst⟩ := hrel;by_cases hlt : i < n
  ·have Ue := HS.below hst.bl Df;obtain ⟨b, off, d1, p1, q1, NC, hb, hx, c0, c1, c2⟩ := Ue.lock hlt;have HX := iD hx;clear hx c1;subst NC;by_cases hd : d1 = d; rotate_left
   ·have qd : (d1 == d) = false := by simpa using hd
    have HN : Hid (∀ x ∈ ls.take (i + 1), ¬ (x.dev = d ∧ x.key = q)) := fun x hx e => by
     rw [zO HX.out] at hx;rcases List.mem_append.1 hx with h | h
     ·exact hno x h e
     ·rw [List.mem_singleton.1 h] at e; exact hd e.1
    clear hd
    go_wp2_with fail
    go_roundg (n - (i + 1))
    ·exact ⟨i + 1, by go_num, by omega, rfl, HN, hst⟩
    omega
   subst hd;have qd : (d1 == d1) = true := by simp
   by_cases hq : q1 = q; rotate_left
   ·have qq : (q1 == q) = false := by simpa using hq
    have HN : Hid (∀ x ∈ ls.take (i + 1), ¬ (x.dev = d1 ∧ x.key = q)) := fun x hx e => by
     rw [zO HX.out] at hx;rcases List.mem_append.1 hx with h | h
     ·exact hno x h e
     ·rw [List.mem_singleton.1 h] at e; exact hq e.2
    clear hq
    go_wp2_with fail
    go_roundg (n - (i + 1))
    ·exact ⟨i + 1, by go_num, by omega, rfl, HN, hst⟩
    omega
   subst hq;have qq : (q1 == q1) = true := by simp
   have HI : Hid (wR d1 q1 ls = some i) := om hno HX.out;have PO : i ≤ c := by omega
   have Cb := iD (Ue.takeK (fun _ => rfl) (by decide) hi);have CU := iD (Ue.dropK (k := i + 1) (fun _ => rfl) (by decide) (by omega))
   have hcut : ∀ W, (Instr.sliceAt 27 (.slice (some ⟨b, off, none⟩) n c) (some (.int .i64 ((i : Int) + 1))) none none).run prog W = .ok (.slice (sX (some ⟨b, off, none⟩) c (i + 1) 3) (n - (i + 1)) (c - (i + 1))) W := fun W => by
    have := vC W (some ⟨b, off, none⟩) n c (i + 1) (by omega);rw [← this]; rfl
   obtain ⟨AK, WQ⟩ : ∃ AK, sX (some (⟨b, off, none⟩ : Addr)) c (i + 1) 3 = AK := ⟨_, rfl⟩
   rw [WQ] at hcut CU;clear WQ;have Rx := hst.bl.size;clear Ue;go_upto_region 8 with (fail);clear c0 c2 qd qq;go_upto_region 9 with (at_builtin; go_must (refine zL rfl _ (.tmp 43) rfl yO (by rfl) (World.ownsRow_nil _ wr.heap.size _ _) (by rfl) Cb (yR _) (by omega) (by omega) (by simp) ?_; intro A1 c1 w4 Cf CR Iu; simp only [Nat.zero_add, List.nil_append] at Cf CR ⊢; have BP := iD Cf; have GK := iD CR; clear Cf CR Iu))
   have Tv := iD (zT GK);have AE := iD (CU.below Tv (by omega));have Pi := Tv.size
   go_wp2_with (at_builtin; go_must (refine zL rfl (.tmp 45) (.tmp 49) rfl yO (by rfl) BP (by rfl) AE (yR _) (by omega) (by omega) (by omega) ?_; intro A2 c2 w5 Ai Ah EQ; have NH := iD Ai; have LW := iD Ah; clear Ai Ah EQ))
   go_ret2;have Lj := Ch.out;have hlen : ls.length - 1 = i + (n - (i + 1)) := by omega
   refine ⟨.inr (.inr ⟨HZ, i, A2, c2, HI, by rw [hlen]; rfl, ?_⟩), ?_⟩
   ·unfold Hid ze; rw [hlen, List.eraseIdx_eq_take_drop_succ, List.flatMap_append]; exact World.ownsRow.mono NH Rx
   ·have h1 := hst.bl.trans (Tv.mono Rx);exact h1.trans ⟨LW.os, LW.tape, LW.output, LW.size, fun t ht => LW.block t (by omega) (fun e => by have := (BP.lt t e.symm).1; omega)⟩
  ·obtain rfl : i = n := by omega
   have Ck : decide (i < i) = false := by simp
   have HN : Hid (wR d q ls = none) := by
    have := hno.out;rw [List.take_of_length_le (by rw [Ch.out]; exact Nat.le_refl _)] at this;exact qY this
   go_wp2_with fail
   go_ret2;exact ⟨.inr (.inl ⟨HZ, HN, rfl⟩), hst.bl⟩
def pd (ns : List Nd) (ds : List Dv) (nn nd : Nat) : Bool := (decide ((nn : Int) ≤ 40) && decide ((nd : Int) ≤ 14)) || ((zR ns ds != 0) && decide ((nn : Int) ≤ 100) && decide ((nd : Int) ≤ 200))
theorem lq (An Ad : Option Addr) (nn cn nd cd Bn Bd : Nat) (ns : List Nd) (ds : List Dv) (w : World) (hn : Sl w Bn 3 An nn cn (ns.flatMap Nd.cells)) (hd : Sl w Bd 5 Ad nd cd (ds.flatMap Dv.cells)) (Ce : Bn ≤ w.heap.size) (BN : Bd ≤ w.heap.size)
 (Bj : FO ns) (Bc : GH ds) :
 Calls prog 7 #[.agg #[.slice An nn cn, .slice Ad nd cd]] w fun e w' => e = .returned (.bool (pd ns ds nn nd)) ∧ bW w w' := by
 have Ar : Hid (sG w #[.slice An nn cn, .slice Ad nd cd] (w.alloc (.cells #[.slice An nn cn, .slice Ad nd cd] 26))) := ⟨AJ.new _ _ _, (Below.refl _ _).alloc lR _⟩;have Cy := iD (vY An Ad nn cn nd cd Bn Bd ns ds (w.alloc (.cells #[.slice An nn cn, .slice Ad nd cd] 26)) (hn.below Ar.bl Ce) (hd.below Ar.bl BN) (by simp; omega) (by simp; omega) Bj Bc);have hle := hn.le;have AO := hd.le;clear hn hd Bj Bc;have HR : Hid (pd ns ds nn nd = ((decide ((nn : Int) ≤ 40) && decide ((nd : Int) ≤ 14)) || ((zR ns ds != 0) && decide ((nn : Int) ≤ 100) && decide ((nd : Int) ≤ 200)))) := rfl;generalize pd ns ds nn nd = lb at *;have e1 : decide ((nn : Int) ≤ 40) = decide (nn ≤ 40) := by rw [decide_eq_decide]; omega
 have e2 : decide ((nd : Int) ≤ 14) = decide (nd ≤ 14) := by rw [decide_eq_decide]; omega
 have e3 : decide ((nn : Int) ≤ 100) = decide (nn ≤ 100) := by rw [decide_eq_decide]; omega
 have e4 : decide ((nd : Int) ≤ 200) = decide (nd ≤ 200) := by rw [decide_eq_decide]; omega
 rw [e1, e2, e3, e4] at HR;by_cases hsm : nn ≤ 40 ∧ nd ≤ 14
 ·have q1 : decide (nn ≤ 40) = true := by simpa using hsm.1
  have q2 : decide (nd ≤ 14) = true := by simpa using hsm.2
  rw [q1, q2] at HR;have AY := iD Ar.bl;clear hsm Cy Ar
  go_enter func7, ntmps7
  go_wp2_with fail
  go_ret;exact ⟨zE HR.symm, AY⟩
 have Pw : (decide (nn ≤ 40) && decide (nd ≤ 14)) = false := by
  rw [Bool.and_eq_false_iff];by_cases h1 : nn ≤ 40
  ·right; simp; omega
  ·left; simpa using h1
 rw [Pw] at HR
 have GG : decide (nn ≤ 40) = false ∨ (decide (nn ≤ 40) = true ∧ decide (nd ≤ 14) = false) := by
  by_cases h1 : nn ≤ 40
  ·right; simp; omega
  ·left; simpa using h1
 clear hsm Pw;generalize zR ns ds = er at *;rcases GG with q1 | ⟨q1, q2⟩
 all_goals
  go_enter func7, ntmps7
  go_wp2_with fail
  generalize World.alloc _ _ = W at *;refine Cy.mono ?_;rintro e w1 ⟨rfl, AX⟩;have BD := iD (Ar.later AX);clear AX Ar Cy;obtain ⟨k0, k1⟩ := BD.bn.d2;rcases he : (er != 0) with _ | _
  ·rw [he] at HR
   go_wp2_with fail
   go_ret;exact ⟨zE HR.symm, BD.bl⟩
  ·rw [he] at HR;rcases h3 : decide (nn ≤ 100) with _ | _
   ·rw [h3] at HR
    go_wp2_with fail
    go_ret;exact ⟨zE HR.symm, BD.bl⟩
   ·rw [h3] at HR
    go_wp2_with fail
    go_ret;exact ⟨zE HR.symm, BD.bl⟩
section
variable {P : Program} {ops : Array Oper} {A : Act} {L : List (Nat × Value)} {n : Nat} {oi : Oper}
end
def jk (hz : List Int → List Int) (g : Int → Prop) (rows : List (List Int)) (k : Nat) (out : List Int) : Prop := out.length ≤ 7 * k ∧ out.Nodup ∧ ∀ h : Int, h ∈ out ↔ ∃ s ∈ rows.take k, h ∈ hz s ∧ g h
def tZ (hz : List Int → List Int) (g : Int → Prop) (rows : List (List Int)) (k : Nat) (s : List Int) (j : Nat) (out : List Int) : Prop := out.length ≤ 7 * k + j ∧ out.Nodup ∧ ∀ h : Int, h ∈ out ↔ (∃ s ∈ rows.take k, h ∈ hz s ∧ g h) ∨ h ∈ (hz s).take j ∧ g h
section
variable {hz : List Int → List Int} {g : Int → Prop} {rows : List (List Int)} {k j : Nat} {s out : List Int} {x : Int}
theorem jk.start : jk hz g rows 0 [] := ⟨by simp, List.nodup_nil, fun h => by simp⟩
theorem jk.two (h : jk hz g rows k out) : tZ hz g rows k s 0 out := ⟨by have := h.1; omega, h.2.1, fun y => by rw [h.2.2 y]; simp⟩
theorem tZ.pass (h : tZ hz g rows k s j out) (hx : (hz s)[j]? = some x) (hm : x ∈ out ∨ ¬ g x) : tZ hz g rows k s (j + 1) out := by
 refine ⟨by have := h.1; omega, h.2.1, fun y => ?_⟩;rw [zO hx, List.mem_append, List.mem_singleton]
 constructor
 ·intro hy;rcases (h.2.2 y).1 hy with h1 | h1
  ·exact .inl h1
  ·exact .inr ⟨.inl h1.1, h1.2⟩
 ·rintro (h1 | ⟨h1 | h1, h2⟩)
  ·exact (h.2.2 y).2 (.inl h1)
  ·exact (h.2.2 y).2 (.inr ⟨h1, h2⟩)
  ·subst h1;rcases hm with hm | hm
   ·exact hm
   ·exact absurd h2 hm
theorem tZ.put (h : tZ hz g rows k s j out) (hx : (hz s)[j]? = some x) (hm : x ∉ out) (hg : g x) : tZ hz g rows k s (j + 1) (out ++ [x]) := by
 refine ⟨by have := h.1; rw [List.length_append, List.length_singleton]; omega, ?_, fun y => ?_⟩
 ·rw [List.nodup_append];exact ⟨h.2.1, by simp, fun a ha b hb e => hm (by rw [List.mem_singleton.1 hb] at e; rw [← e]; exact ha)⟩
 ·rw [zO hx, List.mem_append, List.mem_append, List.mem_singleton, h.2.2 y]
  constructor
  ·rintro ((h1 | h1) | rfl)
   ·exact .inl h1
   ·exact .inr ⟨.inl h1.1, h1.2⟩
   ·exact .inr ⟨.inr rfl, hg⟩
  ·rintro (h1 | ⟨h1 | h1, h2⟩)
   ·exact .inl (.inl h1)
   ·exact .inl (.inr ⟨h1, h2⟩)
   ·exact .inr h1
theorem tZ.done (h : tZ hz g rows k s j out) (hj : (hz s).length = j) (h7 : j ≤ 7) (hs : rows[k]? = some s) : jk hz g rows (k + 1) out := by
 refine ⟨by have := h.1; omega, h.2.1, fun y => ?_⟩;rw [h.2.2 y, show (hz s).take j = hz s from List.take_of_length_le (by omega), zO hs]
 constructor
 ·rintro (⟨t, ht, h1⟩ | h1)
  ·exact ⟨t, List.mem_append_left _ ht, h1⟩
  ·exact ⟨s, by simp, h1⟩
 ·rintro ⟨t, ht, h1⟩;rcases List.mem_append.1 ht with h2 | h2
  ·exact .inl ⟨t, h2, h1⟩
  ·rw [List.mem_singleton.1 h2] at h1; exact .inr h1
end
def ig (m : List Int) (p : Int) : List Int := m.map fun x => if x = 3 then p else x
def tA (m : List Int) (p : Int) (j : Nat) (l : List Int) : Prop := l.length = m.length ∧ ∀ d, d < m.length → l[d]? = some (if m[d]? = some 3 ∧ vB m d < j then p else m.getD d 0)
section
variable {m l : List Int} {p : Int} {j d : Nat}
theorem tA.start : tA m p 0 m := ⟨rfl, fun d hd => by rw [if_neg (by omega), List.getD_eq_getElem?_getD, List.getElem?_eq_getElem hd]; rfl⟩
theorem tA.step (h : tA m p j l) (hd : (sy m m.length)[j]? = some d) : tA m p (j + 1) (l.set d p) := by
 obtain ⟨h3, hlt, hc⟩ := sc m _ _ _ hd;refine ⟨by simp [h.1], fun e he => ?_⟩;rw [List.getElem?_set];by_cases Sd : d = e
 ·subst Sd;rw [if_pos rfl, if_pos (by rw [h.1]; exact he), if_pos ⟨h3, by omega⟩]
 ·rw [if_neg Sd, h.2 e he]
  congr 1
  by_cases OG : m[e]? = some 3
  ·have : vB m e ≠ j := fun hh => Sd (nI h3 OG (by omega))
   by_cases Gq : vB m e < j
   ·rw [if_pos ⟨OG, Gq⟩, if_pos ⟨OG, by omega⟩]
   ·rw [if_neg (fun x => Gq x.2), if_neg (fun x => by omega)]
  ·rw [if_neg (fun x => OG x.1), if_neg (fun x => OG x.1)]
theorem tA.done (h : tA m p (vB m m.length) l) : l = ig m p := by
 apply List.ext_getElem?
 intro d;unfold ig;rw [List.getElem?_map];by_cases hd : d < m.length
 ·rw [h.2 d hd, List.getD_eq_getElem?_getD, List.getElem?_eq_getElem hd];simp only [Option.map_some, Option.getD_some, Option.some.injEq];by_cases h3 : m[d] = 3
  ·rw [if_pos h3, if_pos ⟨h3, lH (by rw [List.getElem?_eq_getElem hd, h3]) hd⟩]
  ·rw [if_neg h3, if_neg (fun x => h3 x.1)]
 ·rw [List.getElem?_eq_none (by rw [h.1]; omega), List.getElem?_eq_none (by omega)]; rfl
end
def xT : Int → List Bool → List Int
 | _, [] => []
 | k, b :: t => xr b k ++ xT (k + 1) t
theorem sN (b : Bool) : ∀ (l : List Bool) (k : Int), xT k (l ++ [b]) = xT k l ++ xr b (k + l.length)
 | [], k => by simp [xT]
 | a :: t, k => by
  rw [List.cons_append, xT, sN b t, xT, List.append_assoc, List.length_cons, show k + 1 + (t.length : Int) = k + ((t.length + 1 : Nat) : Int) by omega]
noncomputable def Mj (nn : Nat) (ns : List Nd) (ds : List Dv) (s : List Int) (d : Nat) (p co : Int) (ls : List Lk) (pr : List Int) (x : Dv) : List Bool :=
 if s.getD d 0 = p then [false, false, false, false, zk ls d, false, x.comp != co, true, false]
 else [false, decide (p = 2) && decide (xI nn ns ds s d x = 4), ya x.kind p (xI nn ns ds s d x) (Cz (zW nn ds s) x), ye ns ds s (zX s d p), zk ls d, decide (p = 2) && decide (x.kind = 4) && !vA pr x.a, x.comp != co, false, false]
theorem iL (nn : Nat) (ns : List Nd) (ds : List Dv) (s : List Int) (d : Nat) (p co : Int) (ls : List Lk) (pr : List Int) (x : Dv) : (Mj nn ns ds s d p co ls pr x).length = 9 := by
 unfold Mj; split <;> rfl
theorem iz (nn : Nat) (ns : List Nd) (ds : List Dv) (s : List Int) (d : Nat) (p co : Int) (ls : List Lk) (pr : List Int) (x : Dv) : xT 0 (Mj nn ns ds s d p co ls pr x) = uq nn ns ds s d p co ls pr x := by
 have hp : ∀ h, xr false h = [] := fun _ => rfl
 have e : ∀ a b c d e f g : Bool, xT 0 [false, a, b, c, d, e, f, g, false] = Qr a b c d e f g := fun a b c d e f g => by
  simp only [xT, hp, Qr, List.nil_append, List.append_nil, List.append_assoc]; rfl
 unfold Mj uq;split <;> exact e _ _ _ _ _ _ _
def mW (F : List Int → List Bool) (rows : List (List Int)) (k : Nat) (S : List Bool) (nb : Bool) : Prop := S.length = 9 ∧ (∀ i, i < 9 → (S[i]? = some true ↔ ∃ s ∈ rows.take k, (F s)[i]? = some true)) ∧ (nb = true ↔ ∀ s ∈ rows.take k, (F s)[7]? = some true)
def kM (F : List Int → List Bool) (rows : List (List Int)) (k : Nat) (s : List Int) (j : Nat) (S : List Bool) : Prop := S.length = 9 ∧ (∀ i, i < 9 → (S[i]? = some true ↔ (∃ s ∈ rows.take k, (F s)[i]? = some true) ∨ i < j ∧ (F s)[i]? = some true))
section
variable {F : List Int → List Bool} {rows : List (List Int)} {k j : Nat} {s : List Int} {S : List Bool} {nb a b : Bool}
theorem mW.start : mW F rows 0 (List.replicate 9 false) true := ⟨rfl, fun i hi => by rw [List.getElem?_replicate, if_pos hi]; simp, by simp⟩
theorem mW.two (h : mW F rows k S nb) : kM F rows k s 0 S := ⟨h.1, fun i hi => by rw [h.2.1 i hi]; simp⟩
theorem mW.nothing (h : mW F rows k S nb) (hs : rows[k]? = some s) (hb : (F s)[7]? = some b) : (nb && b) = true ↔ ∀ s ∈ rows.take (k + 1), (F s)[7]? = some true := by
 rw [Bool.and_eq_true, h.2.2, zO hs]
 constructor
 ·rintro ⟨h1, rfl⟩ t ht;rcases List.mem_append.1 ht with h2 | h2
  ·exact h1 t h2
  ·rw [List.mem_singleton.1 h2]; exact hb
 ·intro h1;refine ⟨fun t ht => h1 t (List.mem_append_left _ ht), ?_⟩;have := h1 s (by simp);rw [hb] at this;exact Option.some.inj this
theorem kM.step (h : kM F rows k s j S) (hj : j < 9) (ha : S[j]? = some a) (hb : (F s)[j]? = some b) : kM F rows k s (j + 1) (S.set j (a || b)) := by
 refine ⟨by rw [List.length_set]; exact h.1, fun i hi => ?_⟩;by_cases Ji : j = i
 ·subst Ji;rw [List.getElem?_set_self (by rw [h.1]; exact hj)];have h1 := h.2 j hj;rw [ha] at h1;rw [hb]
  constructor
  ·intro h2;have h2 := Option.some.inj h2;rw [Bool.or_eq_true] at h2;rcases h2 with rfl | rfl
   ·rcases h1.1 rfl with h3 | h3
    ·exact .inl h3
    ·omega
   ·exact .inr ⟨by omega, rfl⟩
  ·rintro (h2 | ⟨_, h2⟩)
   ·have := Option.some.inj (h1.2 (.inl h2));rw [this]; rfl
   ·have := Option.some.inj h2;rw [this, Bool.or_true]
 ·rw [List.getElem?_set_ne Ji, h.2 i hi]
  constructor
  ·rintro (h1 | ⟨h1, h2⟩)
   ·exact .inl h1
   ·exact .inr ⟨by omega, h2⟩
  ·rintro (h1 | ⟨h1, h2⟩)
   ·exact .inl h1
   ·exact .inr ⟨by omega, h2⟩
theorem kM.done (h : kM F rows k s 9 S) (hs : rows[k]? = some s) (hn : nb = true ↔ ∀ s ∈ rows.take (k + 1), (F s)[7]? = some true) : mW F rows (k + 1) S nb := by
 refine ⟨h.1, fun i hi => ?_, hn⟩;rw [h.2 i hi, zO hs]
 constructor
 ·rintro (⟨t, ht, h1⟩ | ⟨_, h1⟩)
  ·exact ⟨t, List.mem_append_left _ ht, h1⟩
  ·exact ⟨s, by simp, h1⟩
 ·rintro ⟨t, ht, h1⟩;rcases List.mem_append.1 ht with h2 | h2
  ·exact .inl ⟨t, h2, h1⟩
  ·rw [List.mem_singleton.1 h2] at h1; exact .inr ⟨hi, h1⟩
end
theorem vK (A : Option Addr) (n c B : Nat) (l : List Int) (d p : Int) (w : World) (hs : Sl w B 1 A n c (zF l)) (hB : B ≤ w.heap.size) (hn : n ≤ 1000000) : Calls prog 76 #[.slice A n c, .int .i64 d, .int .i64 p] w (wP w (zX l d p)) := by
 have HL := iD (hs.len (fun _ => rfl) (by decide));have HS := iD (hs.more hB);clear hs;have Bq : n ≤ 9223372036854775807 := by omega
 by_cases h0 : 0 ≤ d
 ·by_cases h1 : d < n
  ·obtain ⟨k, rfl⟩ := Int.eq_ofNat_of_zero_le h0;have HW : Hid (zX l k p = l.set k p) := by unfold Hid zX; rw [if_pos ⟨h0, by rw [HL.out]; exact h1⟩]; rfl
   have IM : k < n := by omega
   go_enter func76, ntmps76
   go_upto_region 2 with (at_builtin; go_must (refine zL rfl _ (.tmp 8) rfl yl (by rfl) (World.ownsRow_nil _ w.heap.size _ _) (by rfl) HS (yn l) (by omega) (by omega) lR ?_; intro A1 Jn w4 Cf CR Iu; simp only [Nat.zero_add, List.nil_append] at Cf CR ⊢; have BP : Hid (zN w4 w.heap.size A1 n Jn l) := Cf; have Bu : Hid (Below w.heap.size w w4) := ⟨CR.os, CR.tape, CR.output, CR.size, fun i hi => CR.block i hi (by simp [Value.ownBlock])⟩; clear Cf CR Iu))
   obtain ⟨g, x, rfl, Am, Cc, hx, hcell, Ab, hst⟩ := BP.at (i := k) (by omega);have Ar := iD (hst p);clear hst hx
   go_wp2_with fail
   go_ret;exact xE (by rw [HW.out, List.length_set, HL.out]) (by rw [HW.out]; exact Ar) (Bu.setCell Am _)
  ·have q1 : decide (d < (n : Int)) = false := by simpa using h1
   have HW : Hid (zX l d p = l) := by unfold Hid zX; rw [if_neg (by rw [HL.out]; omega)]
   go_enter func76, ntmps76
   go_upto_region 2 with (at_builtin; go_must (refine zL rfl _ (.tmp 8) rfl yl (by rfl) (World.ownsRow_nil _ w.heap.size _ _) (by rfl) HS (yn l) (by omega) (by omega) lR ?_; intro A1 Jn w4 Cf CR Iu; simp only [Nat.zero_add, List.nil_append] at Cf CR ⊢; have BP : Hid (zN w4 w.heap.size A1 n Jn l) := Cf; have Bu : Hid (Below w.heap.size w w4) := ⟨CR.os, CR.tape, CR.output, CR.size, fun i hi => CR.block i hi (by simp [Value.ownBlock])⟩; clear Cf CR Iu))
   go_wp2_with fail
   go_ret;exact xE (by rw [HW.out, HL.out]) (by rw [HW.out]; exact BP) Bu.out
 ·have q0 : decide (0 ≤ d) = false := by simpa using h0
  have HW : Hid (zX l d p = l) := by unfold Hid zX; rw [if_neg (by omega)]
  go_enter func76, ntmps76
  go_upto_region 2 with (at_builtin; go_must (refine zL rfl _ (.tmp 8) rfl yl (by rfl) (World.ownsRow_nil _ w.heap.size _ _) (by rfl) HS (yn l) (by omega) (by omega) lR ?_; intro A1 Jn w4 Cf CR Iu; simp only [Nat.zero_add, List.nil_append] at Cf CR ⊢; have BP : Hid (zN w4 w.heap.size A1 n Jn l) := Cf; have Bu : Hid (Below w.heap.size w w4) := ⟨CR.os, CR.tape, CR.output, CR.size, fun i hi => CR.block i hi (by simp [Value.ownBlock])⟩; clear Cf CR Iu))
  go_wp2_with fail
  go_ret;exact xE (by rw [HW.out, HL.out]) (by rw [HW.out]; exact BP) Bu.out
theorem mH (An Ad Al Ap : Option Addr) (nn cn nd cd nl cl np cp : Nat) (d p co : Int) (w : World) (_hndm : nd ≤ 9223372036854775807) :
 Calls prog 48 #[.agg #[.slice An nn cn, .slice Ad nd cd], .agg #[.int .i64 d, .int .i64 p], .agg #[.int .i64 co, .slice Al nl cl, .slice Ap np cp]] w fun e w' => e = .returned (.int .i64 (yx nd d p co)) ∧ bW w w' := by
 have HE : Hid (yx nd d p co = if d < 0 then 8 else if (nd : Int) ≤ d then 8 else if p ≠ 1 ∧ p ≠ 2 then 10 else if co < 0 then 5 else if 7 < co then 5 else 0) := rfl;have HB := iD (Kb.new w #[.slice An nn cn, .slice Ad nd cd] #[.int .i64 d, .int .i64 p] #[.int .i64 co, .slice Al nl cl, .slice Ap np cp]).bl;by_cases h1 : d < 0
 ·go_enter func48, ntmps48
  go_wp2_with fail
  go_ret;exact ⟨zC (by rw [HE.out, if_pos (by omega)]), HB⟩
 have q1 : decide (d < 0) = false := by simpa using h1
 by_cases h2 : (nd : Int) ≤ d
 ·go_enter func48, ntmps48
  go_wp2_with fail
  go_ret;exact ⟨zC (by rw [HE.out, if_neg (by omega), if_pos (by omega)]), HB⟩
 have q2 : decide ((nd : Int) ≤ d) = false := by simpa using h2
 by_cases h3 : p ≠ 1 ∧ p ≠ 2
 ·have q3 : (p != 1) = true := by simpa using h3.1
  have q4 : (p != 2) = true := by simpa using h3.2
  go_enter func48, ntmps48
  go_wp2_with fail
  go_ret;exact ⟨zC (by rw [HE.out, if_neg (by omega), if_neg (by omega), if_pos (by omega)]), HB⟩
 have Io : Hid (yx nd d p co = if co < 0 then 5 else if 7 < co then 5 else 0) := by unfold Hid; rw [HE.out, if_neg (by omega), if_neg (by omega), if_neg (by omega)]
 clear HE;by_cases h4 : co < 0
 ·rcases (show p = 1 ∨ p = 2 by omega) with rfl | rfl
  ·go_enter func48, ntmps48
   go_wp2_with fail
   go_ret;exact ⟨zC (by rw [Io.out, if_pos (by omega)]), HB⟩
  ·go_enter func48, ntmps48
   go_wp2_with fail
   go_ret;exact ⟨zC (by rw [Io.out, if_pos (by omega)]), HB⟩
 have q5 : decide (co < 0) = false := by simpa using h4
 have NI : Hid (yx nd d p co = if 7 < co then 5 else 0) := by unfold Hid; rw [Io.out, if_neg (by omega)]
 clear Io;by_cases h5 : 7 < co
 ·rcases (show p = 1 ∨ p = 2 by omega) with rfl | rfl
  ·go_enter func48, ntmps48
   go_wp2_with fail
   go_ret;exact ⟨zC (by rw [NI.out, if_pos (by omega)]), HB⟩
  ·go_enter func48, ntmps48
   go_wp2_with fail
   go_ret;exact ⟨zC (by rw [NI.out, if_pos (by omega)]), HB⟩
 have q6 : decide (7 < co) = false := by simpa using h5
 rcases (show p = 1 ∨ p = 2 by omega) with rfl | rfl
 ·go_enter func48, ntmps48
  go_wp2_with fail
  go_ret;exact ⟨zC (by rw [NI.out, if_neg (by omega)]), HB⟩
 ·go_enter func48, ntmps48
  go_wp2_with fail
  go_ret;exact ⟨zC (by rw [NI.out, if_neg (by omega)]), HB⟩
def fF (W : World) (ls : List Lk) (d : Int) (n gk : Nat) (iv : Value) (wr : World) : Prop := ∃ i : Nat, iv = .int .i64 i ∧ i ≤ n ∧ gk = n - i ∧ wr = W ∧ Hid (∀ x ∈ ls.take i, x.dev ≠ d)
theorem ox (Al Ap : Option Addr) (nl cl np cp : Nat) (ls : List Lk) (co d : Int) (w : World) (hl : Av w 3 Al nl cl (ls.flatMap Lk.cells)) :
 Calls prog 72 #[.agg #[.int .i64 co, .slice Al nl cl, .slice Ap np cp], .int .i64 d] w fun e w' => e = .returned (.bool (zk ls d)) ∧ bW w w' := by
 have Ch := iD (hl.len (fun _ => rfl) (by decide));have Ef := hl.le;have HB : Hid (Below w.heap.size w (w.alloc (.cells #[.int .i64 co, .slice Al nl cl, .slice Ap np cp] 29))) := (Below.refl _ _).alloc lR _;have HK := iD (AJ.new w 29 #[.int .i64 co, .slice Al nl cl, .slice Ap np cp]);have HS := iD (hl.below HB lR);clear hl
 go_enter func72, ntmps72
 go_wp2_with fail
 generalize World.alloc w _ = W at *;have k1 := HK.cell 1;obtain ⟨gb, GN⟩ := eX w.heap.size;rw [← GN] at k1 ⊢;clear HK GN
 go_loopg [5] nl (fF W ls d nl)
 case atStart => exact ⟨0, rfl, Nat.zero_le _, rfl, rfl, fun x hx => by simp at hx⟩
 case round =>
  obtain ⟨i, rfl, hi, rfl, rfl, hno⟩ := hrel;by_cases hlt : i < nl
  ·obtain ⟨b, off, x, rfl, hb, hx, hc⟩ := HS.at (fun _ => rfl) (by decide) hlt;have HX := iD hx;have c0 : wr.cell? ⟨b, off + i * 3, none⟩ = some (.int .i64 x.dev) := hc 0 _ rfl;clear hx hc;by_cases GL : x.dev = d
   ·have q : (x.dev == d) = true := by simpa using GL
    have HR : Hid (zk ls d = true) := by
     unfold Hid zk;rw [List.any_eq_true];exact ⟨x, List.mem_of_getElem? HX, by simpa using GL⟩
    clear GL
    go_wp2_with fail
    go_ret;exact ⟨zE HR.symm, HB⟩
   ·have q : (x.dev == d) = false := by simpa using GL
    have HN : Hid (∀ y ∈ ls.take (i + 1), y.dev ≠ d) := fun y hy => by
     rw [zO HX.out] at hy;rcases List.mem_append.1 hy with h | h
     ·exact hno y h
     ·rw [List.mem_singleton.1 h]; exact GL
    clear GL
    go_wp2_with fail
    go_roundg (nl - (i + 1))
    ·exact ⟨i + 1, by go_num, by omega, rfl, rfl, HN⟩
    omega
  ·obtain rfl : i = nl := by omega
   have Ck : decide (i < i) = false := by simp
   have HR : Hid (zk ls d = false) := by
    unfold Hid zk;rw [List.any_eq_false];intro x hx;have := hno x (by rw [List.take_of_length_le (by rw [Ch.out]; exact Nat.le_refl _)]; exact hx);simpa using this
   go_wp2_with fail
   go_ret;exact ⟨zE HR.symm, HB⟩
def fG (W : World) (l : List Bool) (gk : Nat) (ov iv : Value) (wr : World) : Prop := ∃ (i m co : Nat) (Ao : Option Addr), iv = .int .i64 i ∧ ov = .slice Ao m co ∧ i ≤ 9 ∧ gk = 9 - i ∧ m ≤ i ∧ Hid (zN wr W.heap.size Ao m co (xT 0 (l.take i))) ∧ Hid (bW W wr)
theorem lX (b0 b1 b2 b3 b4 b5 b6 b7 b8 : Bool) (w : World) : Calls prog 49 #[.agg #[.bool b0, .bool b1, .bool b2, .bool b3, .bool b4, .bool b5, .bool b6, .bool b7, .bool b8]] w (wP w (xT 0 [b0, b1, b2, b3, b4, b5, b6, b7, b8])) := by
 have HB : Hid (Below w.heap.size w (w.alloc (.cells #[.bool b0, .bool b1, .bool b2, .bool b3, .bool b4, .bool b5, .bool b6, .bool b7, .bool b8] 99))) := (Below.refl _ _).alloc lR _;have HK := iD (AJ.new w 99 #[.bool b0, .bool b1, .bool b2, .bool b3, .bool b4, .bool b5, .bool b6, .bool b7, .bool b8]);obtain ⟨l, hl⟩ := eX ([b0, b1, b2, b3, b4, b5, b6, b7, b8]);have JV := iD hl;have H9 : Hid (l.length = 9) := by unfold Hid; rw [hl]; rfl
 go_enter func49, ntmps49
 go_wp2_with fail
 rw [← hl];clear hl;generalize World.alloc w _ = W at *;have SF := HB.size;have Ua := HK.lt;obtain ⟨gb, GN⟩ := eX w.heap.size;rw [← GN] at HK Ua ⊢;have Oi := iD GN;clear GN
 go_loopg [3, 4] 9 (fG W l)
 case atStart => exact ⟨0, 0, 0, none, rfl, rfl, Nat.zero_le _, rfl, Nat.le_refl _, World.ownsRow_nil _ _ _ _, Below.refl _ _⟩
 case round =>
  obtain ⟨i, m, co, Ao, rfl, rfl, hi, rfl, AW, hO, hb⟩ := hrel;by_cases hlt : i < 9
  ·obtain ⟨x, hx⟩ : ∃ x, l[i]? = some x := ⟨_, List.getElem?_eq_getElem (by rw [H9.out]; exact hlt)⟩
   have HX := iD hx;have EE := iD (HK.below hb Ua)
   have c0 : wr.cell? ⟨gb, i, none⟩ = some (.bool x) := by
    have h1 : (l.map Value.bool)[i]? = some (.bool x) := by rw [List.getElem?_map, hx]; rfl
    rw [JV.out] at h1;rw [EE.cell i, List.getElem?_toArray];exact h1
   have HT : Hid (xT 0 (l.take (i + 1)) = xT 0 (l.take i) ++ xr x i) := by
    unfold Hid;rw [zO hx, sN, List.length_take, H9.out, Nat.min_eq_left (by omega), Int.zero_add]
   clear hx;rcases x with _ | _
   ·have BQ : Hid (zN wr W.heap.size Ao m co (xT 0 (l.take (i + 1)))) := by unfold Hid; rw [HT.out]; simp only [xr, List.append_nil, Bool.false_eq_true, if_false]; exact hO.out
    go_wp2_with fail
    go_roundg (9 - (i + 1))
    ·exact ⟨i + 1, m, co, Ao, by go_num, rfl, by omega, rfl, by omega, BQ, hb⟩
    omega
   ·go_wp2_with (at_builtin; go_must (refine zL rfl (.tmp 12) (.tmp 14) rfl yl (by rfl) (hO.alloc _) (by rfl) (Sl.newest (n := 1) (by simp) (by rfl) (by decide)) (by simp [Value.oneCell']) (by omega) (by omega) (by have := hb.size; simp; omega) ?_; intro A2 Cn w5 Ai Ah EQ; have NH := iD Ai; have Cj : Hid (Below W.heap.size W w5) := (hb.alloc hb.size _).trans ⟨Ah.os, Ah.tape, Ah.output, Ah.size, fun t ht => Ah.block t (by have := hb.size; simp; omega) (fun e => by have := (hO.lt t e.symm).1; omega)⟩; clear Ai Ah EQ))
    have EH : Hid (zN w5 W.heap.size A2 (m + 1) Cn (xT 0 (l.take (i + 1)))) := by
     unfold Hid;rw [HT.out];simp only [xr, if_true];unfold zN;rw [yL];exact NH.out
    go_roundg (9 - (i + 1))
    ·exact ⟨i + 1, m + 1, Cn, A2, by go_num, rfl, by omega, rfl, by omega, EH, Cj⟩
    omega
  ·obtain rfl : i = 9 := by omega
   have Ck : decide ((9 : Int) < 9) = false := by decide
   have BQ : Hid (zN wr W.heap.size Ao m co (xT 0 l)) := by have := hO.out; rw [List.take_of_length_le (by rw [H9.out]; exact Nat.le_refl _)] at this; exact this
   go_wp2_with fail
   go_ret;rw [JV.out] at BQ;exact xE BQ.len (BQ.mono SF) (HB.trans (hb.mono SF))
end Go.Proofs.YtddddlhgaeameaaGreatDoor
