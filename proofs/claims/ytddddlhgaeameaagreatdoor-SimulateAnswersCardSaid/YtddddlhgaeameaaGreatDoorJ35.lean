import Derived.Test.YtddddlhgaeameaaGreatDoorJ34
set_option maxRecDepth 100000
set_option maxHeartbeats 32000000
namespace Go.Proofs.YtddddlhgaeameaaGreatDoor
open Go.RowKit Tryz
variable {w wr : World} {gr nt pg sk st : Array Value}
structure Br (w : World) (nt st gr pg sk : Array Value) (wr : World) : Prop where
 b0 : AJ wr w.heap.size 26 nt
 b1 : AJ wr (w.heap.size + 1) 22 st
 b2 : AJ wr (w.heap.size + 2) 29 gr
 b3 : AJ wr (w.heap.size + 3) 34 pg
 b4 : AJ wr (w.heap.size + 4) 22 sk
 b5 : AJ wr (w.heap.size + 5) 29 #[.int .i64 0, .slice none 0 0, .slice none 0 0]
 bl : bW w wr
theorem Br.new (w : World) (nt st gr pg sk : Array Value) : Br w nt st gr pg sk ((((((w.alloc (.cells nt 26)).alloc (.cells st 22)).alloc (.cells gr 29)).alloc (.cells pg 34)).alloc (.cells sk 22)).alloc (.cells #[.int .i64 0, .slice none 0 0, .slice none 0 0] 29)) := by
 obtain ⟨h0, h1, h2, h3, h4⟩ := kF w 26 22 29 34 nt st gr pg;have hz : ((((w.alloc (.cells nt 26)).alloc (.cells st 22)).alloc (.cells gr 29)).alloc (.cells pg 34)).heap.size = w.heap.size + 4 := by simp
 generalize World.alloc (World.alloc (World.alloc (World.alloc w _) _) _) _ = W at *;have h5 := AJ.new W 22 sk;have h6 := AJ.new (W.alloc (.cells sk 22)) 29 #[.int .i64 0, .slice none 0 0, .slice none 0 0];rw [hz] at h5;rw [World.size_alloc, hz] at h6;exact ⟨(h0.alloc _).alloc _, (h1.alloc _).alloc _, (h2.alloc _).alloc _, (h3.alloc _).alloc _, h5.alloc _, h6, (h4.alloc (by omega) _).alloc (by simp; omega) _⟩
theorem Br.later {wr' : World} (h : Br w nt st gr pg sk wr) (hb : bW wr wr') : Br w nt st gr pg sk wr' := ⟨h.b0.below hb h.b0.lt, h.b1.below hb h.b1.lt, h.b2.below hb h.b2.lt, h.b3.below hb h.b3.lt, h.b4.below hb h.b4.lt, h.b5.below hb h.b5.lt, h.bl.trans (hb.mono h.bl.size)⟩
theorem Br.set1 (h : Br w nt st gr pg sk wr) (i : Nat) (u : Value) : Br w nt (st.setIfInBounds i u) gr pg sk (wr.setCell ⟨w.heap.size + 1, i, none⟩ u) :=
 ⟨h.b0.far (by simp) _, h.b1.set i u, h.b2.far (by simp) _, h.b3.far (by simp) _, h.b4.far (by simp) _, h.b5.far (by simp) _, h.bl.setCell (by simp) _⟩
theorem Br.set2 (h : Br w nt st gr pg sk wr) (i : Nat) (u : Value) : Br w nt st (gr.setIfInBounds i u) pg sk (wr.setCell ⟨w.heap.size + 2, i, none⟩ u) :=
 ⟨h.b0.far (by simp) _, h.b1.far (by simp) _, h.b2.set i u, h.b3.far (by simp) _, h.b4.far (by simp) _, h.b5.far (by simp) _, h.bl.setCell (by simp) _⟩
structure sZ (w : World) (A1 A2 Al Ap : Option Addr) (n1 c1 n2 c2 nl cl np cp : Nat) (out : List Fn) (t : Sm) : Prop where
 o : Av w 2 A1 n1 c1 (out.flatMap Fn.cells)
 s : Av w 1 A2 n2 c2 (zF t.s)
 l : Av w 3 Al nl cl (t.ls.flatMap Lk.cells)
 p : Av w 1 Ap np cp (zF t.pr)
def rk (w : World) (ns : List Nd) (ds : List Dv) (s : List Int) (co : Int) (ls : List Lk) (pr : List Int) (nm : ByteArray) (xs : List Sp) (Bw : List Int) (e : Ending) (w' : World) : Prop :=
 (yE ns ds s co ls pr nm xs ≠ 0 ∧ e = .returned (.tuple #[.slice none 0 0, .slice none 0 0, .agg #[.int .i64 0, .slice none 0 0, .slice none 0 0], .int .i64 0, .int .i64 (yE ns ds s co ls pr nm xs)]) ∨
  yE ns ds s co ls pr nm xs = 0 ∧ ∃ (A1 A2 Al Ap : Option Addr) (n1 c1 n2 c2 nl cl np cp : Nat), e = .returned (.tuple #[.slice A1 n1 c1, .slice A2 n2 c2, .agg #[.int .i64 co, .slice Al nl cl, .slice Ap np cp], .int .i64 (yU ns ds co Bw 0 [] ⟨s, ls, pr⟩ xs).2.2, .int .i64 0]) ∧ Hid (sZ w' A1 A2 Al Ap n1 c1 n2 c2 nl cl np cp (yU ns ds co Bw 0 [] ⟨s, ls, pr⟩ xs).1 (yU ns ds co Bw 0 [] ⟨s, ls, pr⟩ xs).2.1)) ∧ Hid (Below w.heap.size w w')
def W5 (w w3 : World) (co : Int) (A2 A3 A4 : Option Addr) (n c2 nl c3 np c4 : Nat) : World := (((w3.setCell ⟨w.heap.size + 1, 0, none⟩ (.slice A2 n c2)).setCell ⟨w.heap.size + 2, 0, none⟩ (.int .i64 co)).setCell ⟨w.heap.size + 2, 1, none⟩ (.slice A3 nl c3)).setCell ⟨w.heap.size + 2, 2, none⟩ (.slice A4 np c4)
def RuL (w : World) (ob : Nat) (An Ad A5 : Option Addr) (nn cn nd cd n5 c5 : Nat) (co : Int) (pg : Array Value) (ns : List Nd) (ds : List Dv) (Bw : List Int) (xs : List Sp) (R : List Fn × Sm × Nat) (nx gk : Nat) (iv : Value) (wr : World) : Prop :=
 ∃ (i n c nl cl np cp mo cx : Nat) (As Al Ap Ao : Option Addr) (t : Sm) (out : List Fn), iv = .int .i64 i ∧ i ≤ nx ∧ gk = nx - i ∧ mo ≤ 8 * i ∧ Hid (RM w ob An Ad A5 nn cn nd cd n5 c5 co pg As Al Ap Ao n c nl cl np cp mo cx t out wr) ∧ Hid (ua ns ds t) ∧ Hid (yU ns ds co Bw i out t (xs.drop i) = R)
theorem pn (An Ad As Al Ap Ax A5 : Option Addr) (nn cn nd cd n c nl cl np cp nx cx n5 c5 : Nat) (ns : List Nd) (ds : List Dv) (s : List Int) (ls : List Lk) (pr : List Int) (co : Int) (nm : ByteArray) (xs : List Sp) (Bw : List Int) (w : World) (h : uf w An Ad As Al Ap Ax nn cn nd cd n c nl cl np cp nx cx ns ds s ls pr nm xs) (h5 : Av w 1 A5 n5 c5 (zF Bw)) :
 Calls prog 21 #[.agg #[.slice An nn cn, .slice Ad nd cd], .slice As n c, .agg #[.int .i64 co, .slice Al nl cl, .slice Ap np cp], .agg #[.string nm, .slice Ax nx cx], .slice A5 n5 c5] w (rk w ns ds s co ls pr nm xs Bw) := by
 obtain ⟨DJ, Ic, FR⟩ := h.h.ln;have Lj : ls.length = nl := h.h.hl.len (fun _ => rfl) (by decide);have Pz : pr.length = np := h.h.hp.len (fun _ => rfl) (by decide);have Vl : xs.length = nx := h.x.len (fun _ => rfl) (by decide);have HH := iD h;have H5 := iD h5;have HB := iD (Br.new w #[.slice An nn cn, .slice Ad nd cd] #[.slice As n c] #[.int .i64 co, .slice Al nl cl, .slice Ap np cp] #[.string nm, .slice Ax nx cx] #[.slice A5 n5 c5]);clear h h5
 go_enter func21, ntmps21
 go_upto_region 1 with (fail);rw [show w.heap.size + 1 + 1 = w.heap.size + 2 from rfl, show w.heap.size + 2 + 1 = w.heap.size + 3 from rfl, show w.heap.size + 3 + 1 = w.heap.size + 4 from rfl, show w.heap.size + 4 + 1 = w.heap.size + 5 from rfl];generalize World.alloc (World.alloc (World.alloc (World.alloc (World.alloc (World.alloc w _) _) _) _) _) _ = W at *;have Cy := iD (sK An Ad As Al Ap Ax nn cn nd cd n c nl cl np cp nx cx ns ds s ls pr co nm xs W (HH.below HB.bl));obtain ⟨k0, k1⟩ := HB.b0.d2;have t0 := HB.b1.c0;obtain ⟨g0, g1, g2⟩ := HB.b2.d3;obtain ⟨p0, p1⟩ := HB.b3.d2
 go_wp2_with fail
 clear k0 k1 t0 g0 g1 g2 p0 p1;refine Cy.mono ?_;rintro e w1 ⟨rfl, AX⟩;have AL := iD (HB.later AX);clear AX HB Cy;obtain ⟨E, hE⟩ := eX (yE ns ds s co ls pr nm xs);rw [← hE];have CJ := iD hE;clear hE;by_cases he : E = 0; rotate_left
 ·have q1 : (E != 0) = true := by simpa using he
  have JF := iD he;clear he;obtain ⟨d0, d1, d2⟩ := AL.b5.d3;obtain ⟨y0, y1, y2⟩ := AL.b5.e3;have HF : Hid (AJ (((w1.setCell ⟨w.heap.size + 5, 0, none⟩ (.int .i64 0)).setCell ⟨w.heap.size + 5, 1, none⟩ (.slice none 0 0)).setCell ⟨w.heap.size + 5, 2, none⟩ (.slice none 0 0)) (w.heap.size + 5) 29 #[.int .i64 0, .slice none 0 0, .slice none 0 0] ∧ Below w.heap.size w (((w1.setCell ⟨w.heap.size + 5, 0, none⟩ (.int .i64 0)).setCell ⟨w.heap.size + 5, 1, none⟩ (.slice none 0 0)).setCell ⟨w.heap.size + 5, 2, none⟩ (.slice none 0 0))) := ⟨((AL.b5.set 0 _).set 1 _).set 2 _, ((AL.bl.setCell (by simp) _).setCell (by simp) _).setCell (by simp) _⟩
  go_wp2_with fail
  clear d0 d1 d2 y0 y1 y2;generalize World.setCell (World.setCell (World.setCell w1 _ _) _ _) _ _ = z at *;obtain ⟨q0, q1, q2⟩ := HF.1.d3;exact bodyPost_ret (v := .tuple #[.slice none 0 0, .slice none 0 0, .agg #[.int .i64 0, .slice none 0 0, .slice none 0 0], .int .i64 0, .int .i64 E]) (by simp [results, results21, go_sem, q0, q1, q2]) rfl ⟨.inl ⟨by rw [← CJ.out]; exact JF, by rw [← CJ.out]⟩, HF.2⟩
 subst he;have BR := iD (vx CJ.symm);have AV : nd ≤ 64 := by have := (xo.of (zQ BR.1.s).1).dl; omega
 have Bq : nn ≤ 32 := by have := (xo.of (zQ BR.1.s).1).nl; omega
 have Gl : nl ≤ 128 := by have := (yW BR.1.l).1; dsimp only at this; omega
 have SN : np ≤ 32 := by have := uA BR.1.p; dsimp only at this; omega
 have hsl := (zQ BR.1.s).2;dsimp only at hsl;have AU : nx ≤ 64 := by have := BR.2.2.1; omega
 have RQ := iD (vS BR.2.2.2);go_upto_region 4 with (fail);have Dl : Hid (w.heap.size + 6 ≤ w1.heap.size) := AL.b5.lt;have Mh := iD (AL.later (Below.refl _ _).drew);refine fX (fun W' => W'.cell? ⟨w.heap.size + 1, 0, none⟩ = some (.slice As n c) ∧ W'.cell? ⟨w.heap.size + 2, 0, none⟩ = some (.int .i64 co) ∧ W'.cell? ⟨w.heap.size + 2, 1, none⟩ = some (.slice Al nl cl) ∧ W'.cell? ⟨w.heap.size + 2, 2, none⟩ = some (.slice Ap np cp)) [4, 5] ?_ fun AA => ?_
 ·exact ⟨AL.b1.cell 0, AL.b2.cell 0, AL.b2.cell 1, AL.b2.cell 2⟩
 try dsimp only at AA
 refine ty 0 28 (mf 6 1) AA (y := by intro w AR; have u0 := AR.1; go_simp; try with_reducible rfl) (h := ?_);refine ty 2 30 (ma 6 5) AA (y := by intro w AR; (try dsimp only at AR); obtain ⟨-, u0, u1, u2⟩ := AR; go_simp; try with_reducible rfl) (h := ?_);refine tb 1 (mf 6 3) fun K hK => ?_
 (go_simp; refine (xO As n c _ s w1.drew (HH.h.below (AL.bl.drew)).hs lR (by omega)).mono ?_; rintro e w2 ⟨A2, c2, rfl, De, AQ⟩; rw [FR] at De ⊢; have BQ := iD De.out; have Bz := iD AQ.out; clear De AQ; go_simp)
 refine hK _ _ (fun _ => ⟨(Mh.later Bz).b1.cell 0, (Mh.later Bz).b2.cell 0, (Mh.later Bz).b2.cell 1, (Mh.later Bz).b2.cell 2⟩) fun p => (fun AA => ?_) (p rfl)
 clear p hK K;(try dsimp only at AA);have AY := iD (Mh.later Bz); have PW : Hid (w1.heap.size ≤ w2.heap.size) := Bz.size; clear Bz;refine tb 3 (mf 6 4) fun K hK => ?_
 (go_simp; refine (uP Al Ap nl cl np cp _ co ls pr w2 (HH.h.below AY.bl).hl (HH.h.below AY.bl).hp lR (by omega) (by omega)).mono ?_; rintro e w3 ⟨A3, A4, c3, c4, rfl, ES, DN, BJ⟩; have BU := iD ES.out; have BP := iD DN.out; have Bz := iD BJ.out; clear ES DN BJ; go_simp)
 refine hK _ _ (fun _ => ⟨(AY.later Bz).b1.cell 0, (AY.later Bz).b2.cell 0, (AY.later Bz).b2.cell 1, (AY.later Bz).b2.cell 2⟩) fun p => (fun AA => ?_) (p rfl)
 clear p hK K;(try dsimp only at AA);have CS := iD (AY.later Bz); have BQ := iD (BQ.later Bz); clear Bz;have d0 := CS.b1.cell 0;have y0 := CS.b1.frozen 0;refine tb 4 (mf 6 5) fun K hK => ?_
 go_simp
 refine hK _ _ (fun h => by cases h) (fun _ => ?_)
 try clear AA
 clear hK K;have Bu := iD (CS.set1 0 (.slice A2 n c2)); clear d0 y0;obtain ⟨d0, d1, d2⟩ := Bu.b2.d3;obtain ⟨y0, y1, y2⟩ := Bu.b2.e3;refine tb 5 (mf 6 6) fun K hK => ?_
 go_simp
 refine hK _ _ (fun h => by cases h) (fun _ => ?_)
 try clear AA
 clear hK K;refine tK ?_;clear d0 d1 d2 y0 y1 y2;have JO : (((w3.setCell ⟨w.heap.size + 1, 0, none⟩ (.slice A2 n c2)).setCell ⟨w.heap.size + 2, 0, none⟩ (.int .i64 co)).setCell ⟨w.heap.size + 2, 1, none⟩ (.slice A3 nl c3)).setCell ⟨w.heap.size + 2, 2, none⟩ (.slice A4 np c4) = W5 w w3 co A2 A3 A4 n c2 nl c3 np c4 := rfl;rw [JO];clear JO
 have Bt : Hid (RM w (W5 w w3 co A2 A3 A4 n c2 nl c3 np c4).heap.size An Ad A5 nn cn nd cd n5 c5 co #[.string nm, .slice Ax nx cx] A2 A3 A4 none n c2 nl c3 np c4 0 0 ⟨s, ls, pr⟩ [] ((W5 w w3 co A2 A3 A4 n c2 nl c3 np c4).alloc (.cells #[.slice none 0 0] 56))) := by
  have AP : (W5 w w3 co A2 A3 A4 n c2 nl c3 np c4).heap.size = w3.heap.size := by unfold W5; simp [World.setCell]
  have Cv : w.heap.size + 6 ≤ w3.heap.size := CS.b5.lt;have Cj : Br w #[.slice An nn cn, .slice Ad nd cd] #[.slice A2 n c2] #[.int .i64 co, .slice A3 nl c3, .slice A4 np c4] #[.string nm, .slice Ax nx cx] #[.slice A5 n5 c5] (W5 w w3 co A2 A3 A4 n c2 nl c3 np c4) := ((Bu.set2 0 (.int .i64 co)).set2 1 (.slice A3 nl c3)).set2 2 (.slice A4 np c4);have AK : ∀ b off, A2 = some ⟨b, off, none⟩ → w.heap.size + 6 ≤ b ∧ b < w3.heap.size := fun b off e => by have h := BQ.lt b (by rw [e]; rfl); have := Dl.out; simp at h; omega
  have Ph : w1.heap.size ≤ w2.heap.size := PW.out;have AH : ∀ b off, A3 = some ⟨b, off, none⟩ → w.heap.size + 6 ≤ b ∧ b < w3.heap.size := fun b off e => by have h := BU.lt b (by rw [e]; rfl); have := Dl.out; omega
  have AG : ∀ b off, A4 = some ⟨b, off, none⟩ → w.heap.size + 6 ≤ b ∧ b < w3.heap.size := fun b off e => by have h := BP.lt b (by rw [e]; rfl); have := Dl.out; omega
  have sl : ∀ {A : Option Addr} {m d size : Nat} {xs : List Value}, (∀ b off, A = some ⟨b, off, none⟩ → w.heap.size + 6 ≤ b ∧ b < w3.heap.size) → Sl w3 w3.heap.size size A m d xs → Sl ((W5 w w3 co A2 A3 A4 n c2 nl c3 np c4).alloc (.cells #[.slice none 0 0] 56)) ((W5 w w3 co A2 A3 A4 n c2 nl c3 np c4).alloc (.cells #[.slice none 0 0] 56)).heap.size size A m d xs := fun {A m d size xs} hl hs => by
   have e1 : ∀ b off, A = some ⟨b, off, none⟩ → b ≠ w.heap.size + 1 := fun b off e => by have := (hl b off e).1; omega
   have e2 : ∀ b off, A = some ⟨b, off, none⟩ → b ≠ w.heap.size + 2 := fun b off e => by have := (hl b off e).1; omega
   have h5 : Sl (W5 w w3 co A2 A3 A4 n c2 nl c3 np c4) w3.heap.size size A m d xs := (((hs.ne e1).ne e2).ne e2).ne e2;exact (h5.alloc (by omega) _).more (by rw [World.size_alloc]; omega)
  have ke : ∀ {A : Option Addr} {m : Nat}, (∀ b off, A = some ⟨b, off, none⟩ → w.heap.size + 6 ≤ b ∧ b < w3.heap.size) → Ke w (W5 w w3 co A2 A3 A4 n c2 nl c3 np c4).heap.size none A m := fun {A m} hl _ b off e => ⟨(hl b off e).1, by have := (hl b off e).2; omega, fun o' e2 => by cases e2⟩
  exact ⟨Cj.b0.alloc _, Cj.b1.alloc _, Cj.b2.alloc _, Cj.b3.alloc _, Cj.b4.alloc _, Cj.b5.alloc _, AJ.new _ _ _, sl AK (Sl.of_own BQ), sl AH (Sl.of_own BU), sl AG (Sl.of_own BP), World.ownsRow_nil _ _ _ _, ke AK, ke AH, ke AG, Cj.bl.alloc Cj.bl.size _, by omega⟩
 clear CS Bu AL Mh AY BQ BU BP Dl PW;generalize W5 w w3 co A2 A3 A4 n c2 nl c3 np c4 = wk at *;go_upto_region 8 with (fail);generalize World.alloc wk _ = V at *;obtain ⟨ob, hob⟩ := eX wk.heap.size;rw [← hob] at Bt ⊢;clear hob;obtain ⟨R, hR⟩ := eX (yU ns ds co Bw 0 [] ⟨s, ls, pr⟩ xs);have Js : Hid (yU ns ds co Bw 0 [] ⟨s, ls, pr⟩ (xs.drop 0) = R) := hR.symm;have Il := iD hR;clear hR;refine zm [(17, 0), (0, 2), (13, 0), (16, 1), (3, 0)] 18 (nx) (RuL w ob An Ad A5 nn cn nd cd n5 c5 co #[.string nm, .slice Ax nx cx] ns ds Bw xs R nx) (by (try dsimp only [gt]); exact ⟨0, _, _, _, _, _, _, _, _, _, _, _, _, ⟨s, ls, pr⟩, [], rfl, Nat.zero_le _, rfl, by omega, Bt, BR.1, Js⟩) (by kernel_rfl) ?_;intro u1 AO gk wr a hrel ha J1 K1 Dk Ky;dsimp only [zY, Go.Proofs.YtddddlhgaeameaaGreatDoor.v1, Nat.reduceAdd] at ha;subst ha;clear Bt Js V
 obtain ⟨i, n', c', nl', cl', np', cp', mo, cx', As', Al', Ap', Ao, t, out, rfl, hi, rfl, UQ, Bt, Ux, HR⟩ := hrel;have p1 := Bt.b3.c1;by_cases hlt : i < nx; rotate_left
 ·have Ck : decide ((i : Int) < (nx : Int)) = false := by simp; omega
  have GM : decide (i < nx) = false := by simp; omega
  have Im : Hid ((out, t, i) = R) := by unfold Hid; rw [← HR.out, qH (by omega)]
  go_upto_region 10 with (fail);clear p1 Ck GM;have hw := Bt.hob;have Jt : Hid (AJ (((wr.setCell ⟨w.heap.size + 5, 0, none⟩ (.int .i64 co)).setCell ⟨w.heap.size + 5, 1, none⟩ (.slice Al' nl' cl')).setCell ⟨w.heap.size + 5, 2, none⟩ (.slice Ap' np' cp')).drew ob 56 #[.slice Ao mo cx'] ∧ AJ (((wr.setCell ⟨w.heap.size + 5, 0, none⟩ (.int .i64 co)).setCell ⟨w.heap.size + 5, 1, none⟩ (.slice Al' nl' cl')).setCell ⟨w.heap.size + 5, 2, none⟩ (.slice Ap' np' cp')).drew (w.heap.size + 1) 22 #[.slice As' n' c'] ∧ AJ (((wr.setCell ⟨w.heap.size + 5, 0, none⟩ (.int .i64 co)).setCell ⟨w.heap.size + 5, 1, none⟩ (.slice Al' nl' cl')).setCell ⟨w.heap.size + 5, 2, none⟩ (.slice Ap' np' cp')).drew (w.heap.size + 2) 29 #[.int .i64 co, .slice Al' nl' cl', .slice Ap' np' cp']) := ⟨(zU Bt.bo (by omega)).drw, (zU Bt.b1 (by omega)).drw, (zU Bt.b2 (by omega)).drw⟩
  have JY : Hid (AJ (((wr.setCell ⟨w.heap.size + 5, 0, none⟩ (.int .i64 co)).setCell ⟨w.heap.size + 5, 1, none⟩ (.slice Al' nl' cl')).setCell ⟨w.heap.size + 5, 2, none⟩ (.slice Ap' np' cp')).drew (w.heap.size + 5) 29 #[.int .i64 co, .slice Al' nl' cl', .slice Ap' np' cp'] ∧ Below w.heap.size w (((wr.setCell ⟨w.heap.size + 5, 0, none⟩ (.int .i64 co)).setCell ⟨w.heap.size + 5, 1, none⟩ (.slice Al' nl' cl')).setCell ⟨w.heap.size + 5, 2, none⟩ (.slice Ap' np' cp')).drew) := ⟨(((Bt.b5.set 0 _).set 1 _).set 2 _).drw, (((Bt.bl.setCell (by simp) _).setCell (by simp) _).setCell (by simp) _).drew⟩
  have Xg : Hid (sZ (((wr.setCell ⟨w.heap.size + 5, 0, none⟩ (.int .i64 co)).setCell ⟨w.heap.size + 5, 1, none⟩ (.slice Al' nl' cl')).setCell ⟨w.heap.size + 5, 2, none⟩ (.slice Ap' np' cp')).drew Ao As' Al' Ap' mo cx' n' c' nl' cl' np' cp' out t) := by
   have sl : ∀ {A : Option Addr} {m d size : Nat} {xs : List Value}, Ke w ob Ao A m → Sl wr wr.heap.size size A m d xs → Sl (((wr.setCell ⟨w.heap.size + 5, 0, none⟩ (.int .i64 co)).setCell ⟨w.heap.size + 5, 1, none⟩ (.slice Al' nl' cl')).setCell ⟨w.heap.size + 5, 2, none⟩ (.slice Ap' np' cp')) (((wr.setCell ⟨w.heap.size + 5, 0, none⟩ (.int .i64 co)).setCell ⟨w.heap.size + 5, 1, none⟩ (.slice Al' nl' cl')).setCell ⟨w.heap.size + 5, 2, none⟩ (.slice Ap' np' cp')).heap.size size A m d xs := fun {A m d size xs} hk hs => by
    have hz : (((wr.setCell ⟨w.heap.size + 5, 0, none⟩ (.int .i64 co)).setCell ⟨w.heap.size + 5, 1, none⟩ (.slice Al' nl' cl')).setCell ⟨w.heap.size + 5, 2, none⟩ (.slice Ap' np' cp')).heap.size = wr.heap.size := by simp [World.setCell]
    rw [hz];rcases Nat.eq_zero_or_pos m with hm | hm
    ·exact ⟨hs.1, hs.2.1, hs.2.2.1, hs.2.2.2.1, fun h => absurd h (by omega)⟩
    ·have e1 : ∀ b off, A = some ⟨b, off, none⟩ → b ≠ w.heap.size + 5 := fun b off e => by have := (hk hm b off e).1; omega
     exact ((hs.ne e1).ne e1).ne e1
   have ow : Sl (((wr.setCell ⟨w.heap.size + 5, 0, none⟩ (.int .i64 co)).setCell ⟨w.heap.size + 5, 1, none⟩ (.slice Al' nl' cl')).setCell ⟨w.heap.size + 5, 2, none⟩ (.slice Ap' np' cp')) (((wr.setCell ⟨w.heap.size + 5, 0, none⟩ (.int .i64 co)).setCell ⟨w.heap.size + 5, 1, none⟩ (.slice Al' nl' cl')).setCell ⟨w.heap.size + 5, 2, none⟩ (.slice Ap' np' cp')).heap.size 2 Ao mo cx' (out.flatMap Fn.cells) := by
    have h1 := xf (x := w.heap.size + 5) (i := 2) (u := .slice Ap' np' cp') (xf (x := w.heap.size + 5) (i := 1) (u := .slice Al' nl' cl') (xf (x := w.heap.size + 5) (i := 0) (u := .int .i64 co) Bt.o (by omega)) (by omega)) (by omega);exact Sl.of_own h1
   exact ⟨ow, sl Bt.ks Bt.s, sl Bt.kl Bt.l, sl Bt.kp Bt.p⟩
  obtain ⟨d0, d1, d2⟩ := Bt.b5.d3;obtain ⟨y0, y1, y2⟩ := Bt.b5.e3;refine fX (fun W' => W'.cell? ⟨ob, 0, none⟩ = some (.slice Ao mo cx') ∧ W'.cell? ⟨w.heap.size + 1, 0, none⟩ = some (.slice As' n' c') ∧ W'.cell? ⟨w.heap.size + 2, 0, none⟩ = some (.int .i64 co) ∧ W'.cell? ⟨w.heap.size + 2, 1, none⟩ = some (.slice Al' nl' cl') ∧ W'.cell? ⟨w.heap.size + 2, 2, none⟩ = some (.slice Ap' np' cp')) [7, 8] ?_ fun AA => ?_
  ·exact ⟨Bt.bo.cell 0, Bt.b1.cell 0, Bt.b2.cell 0, Bt.b2.cell 1, Bt.b2.cell 2⟩
  try dsimp only at AA
  refine ty 0 50 (mf 9 1) AA (y := by intro w AR; have u0 := AR.1; go_simp; try with_reducible rfl) (h := ?_);refine ty 1 51 (mf 9 2) AA (y := by intro w AR; have u0 := AR.2.1; go_simp; try with_reducible rfl) (h := ?_);refine ty 2 52 (mf 9 3) AA (y := by intro w AR; (try dsimp only at AR); obtain ⟨-, -, u0, u1, u2⟩ := AR; go_simp; try with_reducible rfl) (h := ?_);refine tk 3 53 (mf 9 4) AA ?_;refine tk 4 10 (mf 9 5) AA ?_;refine tk 5 11 (mf 9 6) AA ?_;refine tb 6 (mf 9 7) fun K hK => ?_
  go_simp
  refine hK _ _ (fun _ => ⟨Jt.1.cell 0, Jt.2.1.cell 0, Jt.2.2.cell 0, Jt.2.2.cell 1, Jt.2.2.cell 2⟩) fun p => (fun AA => ?_) (p rfl)
  clear p hK K;(try dsimp only at AA);refine tb 7 (mf 9 8) fun K hK => ?_
  go_simp
  refine hK _ _ (fun h => by cases h) (fun _ => ?_)
  try clear AA
  clear hK K;refine tb 8 (mf 9 9) fun K hK => ?_
  go_simp
  refine hK _ _ (fun h => by cases h) (fun _ => ?_)
  try clear AA
  clear hK K;refine tK ?_;clear d0 d1 d2 y0 y1 y2
  go_wp2_with fail
  generalize World.drew (World.setCell (World.setCell (World.setCell wr _ _) _ _) _ _) = z at *;obtain ⟨q0, q1, q2⟩ := JY.1.d3;exact bodyPost_ret (v := .tuple #[.slice Ao mo cx', .slice As' n' c', .agg #[.int .i64 co, .slice Al' nl' cl', .slice Ap' np' cp'], .int .i64 (i : Nat), .int .i64 0]) (by simp [results, results21, go_sem, q0, q1, q2]) rfl ⟨.inr ⟨CJ.symm, _, _, _, _, _, _, _, _, _, _, _, _, by rw [← Il.out, ← Im.out], by rw [← Il.out, ← Im.out]; exact Xg⟩, JY.2⟩
 obtain ⟨be, oe, x, NC, DZ, hx, hc⟩ := (HH.x.below Bt.bl lR).at (fun _ => rfl) (by decide) hlt;have HX := iD hx;have Hg := iD (RQ x (List.mem_of_getElem? hx));obtain ⟨ek, ed, en, ep, eq⟩ := x;have c0 : wr.cell? ⟨be, oe + i * 5, none⟩ = some (.int .i64 ek) := hc 0 _ rfl;have c1 : wr.cell? ⟨be, oe + i * 5 + 1, none⟩ = some (.int .i64 ed) := hc 1 _ rfl;have c2' : wr.cell? ⟨be, oe + i * 5 + 2, none⟩ = some (.int .i64 en) := hc 2 _ rfl;have c3' : wr.cell? ⟨be, oe + i * 5 + 3, none⟩ = some (.int .i64 ep) := hc 3 _ rfl;have c4' : wr.cell? ⟨be, oe + i * 5 + 4, none⟩ = some (.int .i64 eq) := hc 4 _ rfl;subst NC;clear hc hx DZ;have AE := iD (hY An Ad A5 As' Al' Ap' Ao nn cn nd cd n5 c5 n' c' nl' cl' np' cp' mo cx' ob ns ds Bw t out co #[.string nm, .slice (some ⟨be, oe, none⟩) nx cx] i ek ed en ep eq w wr HH.h.la HH.h.hn HH.h.hd HH.h.sn HH.h.sd H5 Ux BR.2.1 Hg (by omega) (by omega) Bt)
 go_wp2_with fail
 clear c0 c1 c2' c3' c4' p1;refine AE.mono ?_;rintro e w9 (⟨hst, rfl, Uf⟩ | ⟨hst, rfl, B2, B3, B4, B5, m2, z2, m3, z3, m4, z4, mo', dx, Uf, hmo'⟩)
 ·have Im : Hid ((out, t, i) = R) := by unfold Hid; rw [← HR.out, sL HX.out hst]
  have BO := iD Uf.out;clear Uf hst Bt AE;go_upto_region 10 with (fail);have hw := BO.hob;have Jt : Hid (AJ (((w9.setCell ⟨w.heap.size + 5, 0, none⟩ (.int .i64 co)).setCell ⟨w.heap.size + 5, 1, none⟩ (.slice Al' nl' cl')).setCell ⟨w.heap.size + 5, 2, none⟩ (.slice Ap' np' cp')).drew ob 56 #[.slice Ao mo cx'] ∧ AJ (((w9.setCell ⟨w.heap.size + 5, 0, none⟩ (.int .i64 co)).setCell ⟨w.heap.size + 5, 1, none⟩ (.slice Al' nl' cl')).setCell ⟨w.heap.size + 5, 2, none⟩ (.slice Ap' np' cp')).drew (w.heap.size + 1) 22 #[.slice As' n' c'] ∧ AJ (((w9.setCell ⟨w.heap.size + 5, 0, none⟩ (.int .i64 co)).setCell ⟨w.heap.size + 5, 1, none⟩ (.slice Al' nl' cl')).setCell ⟨w.heap.size + 5, 2, none⟩ (.slice Ap' np' cp')).drew (w.heap.size + 2) 29 #[.int .i64 co, .slice Al' nl' cl', .slice Ap' np' cp']) := ⟨(zU BO.bo (by omega)).drw, (zU BO.b1 (by omega)).drw, (zU BO.b2 (by omega)).drw⟩
  have JY : Hid (AJ (((w9.setCell ⟨w.heap.size + 5, 0, none⟩ (.int .i64 co)).setCell ⟨w.heap.size + 5, 1, none⟩ (.slice Al' nl' cl')).setCell ⟨w.heap.size + 5, 2, none⟩ (.slice Ap' np' cp')).drew (w.heap.size + 5) 29 #[.int .i64 co, .slice Al' nl' cl', .slice Ap' np' cp'] ∧ Below w.heap.size w (((w9.setCell ⟨w.heap.size + 5, 0, none⟩ (.int .i64 co)).setCell ⟨w.heap.size + 5, 1, none⟩ (.slice Al' nl' cl')).setCell ⟨w.heap.size + 5, 2, none⟩ (.slice Ap' np' cp')).drew) := ⟨(((BO.b5.set 0 _).set 1 _).set 2 _).drw, (((BO.bl.setCell (by simp) _).setCell (by simp) _).setCell (by simp) _).drew⟩
  have Xg : Hid (sZ (((w9.setCell ⟨w.heap.size + 5, 0, none⟩ (.int .i64 co)).setCell ⟨w.heap.size + 5, 1, none⟩ (.slice Al' nl' cl')).setCell ⟨w.heap.size + 5, 2, none⟩ (.slice Ap' np' cp')).drew Ao As' Al' Ap' mo cx' n' c' nl' cl' np' cp' out t) := by
   have sl : ∀ {A : Option Addr} {m d size : Nat} {xs : List Value}, Ke w ob Ao A m → Sl w9 w9.heap.size size A m d xs → Sl (((w9.setCell ⟨w.heap.size + 5, 0, none⟩ (.int .i64 co)).setCell ⟨w.heap.size + 5, 1, none⟩ (.slice Al' nl' cl')).setCell ⟨w.heap.size + 5, 2, none⟩ (.slice Ap' np' cp')) (((w9.setCell ⟨w.heap.size + 5, 0, none⟩ (.int .i64 co)).setCell ⟨w.heap.size + 5, 1, none⟩ (.slice Al' nl' cl')).setCell ⟨w.heap.size + 5, 2, none⟩ (.slice Ap' np' cp')).heap.size size A m d xs := fun {A m d size xs} hk hs => by
    have hz : (((w9.setCell ⟨w.heap.size + 5, 0, none⟩ (.int .i64 co)).setCell ⟨w.heap.size + 5, 1, none⟩ (.slice Al' nl' cl')).setCell ⟨w.heap.size + 5, 2, none⟩ (.slice Ap' np' cp')).heap.size = w9.heap.size := by simp [World.setCell]
    rw [hz];rcases Nat.eq_zero_or_pos m with hm | hm
    ·exact ⟨hs.1, hs.2.1, hs.2.2.1, hs.2.2.2.1, fun h => absurd h (by omega)⟩
    ·have e1 : ∀ b off, A = some ⟨b, off, none⟩ → b ≠ w.heap.size + 5 := fun b off e => by have := (hk hm b off e).1; omega
     exact ((hs.ne e1).ne e1).ne e1
   have ow : Sl (((w9.setCell ⟨w.heap.size + 5, 0, none⟩ (.int .i64 co)).setCell ⟨w.heap.size + 5, 1, none⟩ (.slice Al' nl' cl')).setCell ⟨w.heap.size + 5, 2, none⟩ (.slice Ap' np' cp')) (((w9.setCell ⟨w.heap.size + 5, 0, none⟩ (.int .i64 co)).setCell ⟨w.heap.size + 5, 1, none⟩ (.slice Al' nl' cl')).setCell ⟨w.heap.size + 5, 2, none⟩ (.slice Ap' np' cp')).heap.size 2 Ao mo cx' (out.flatMap Fn.cells) := by
    have h1 := xf (x := w.heap.size + 5) (i := 2) (u := .slice Ap' np' cp') (xf (x := w.heap.size + 5) (i := 1) (u := .slice Al' nl' cl') (xf (x := w.heap.size + 5) (i := 0) (u := .int .i64 co) BO.o (by omega)) (by omega)) (by omega);exact Sl.of_own h1
   exact ⟨ow, sl BO.ks BO.s, sl BO.kl BO.l, sl BO.kp BO.p⟩
  obtain ⟨d0, d1, d2⟩ := BO.b5.d3;obtain ⟨y0, y1, y2⟩ := BO.b5.e3;refine fX (fun W' => W'.cell? ⟨ob, 0, none⟩ = some (.slice Ao mo cx') ∧ W'.cell? ⟨w.heap.size + 1, 0, none⟩ = some (.slice As' n' c') ∧ W'.cell? ⟨w.heap.size + 2, 0, none⟩ = some (.int .i64 co) ∧ W'.cell? ⟨w.heap.size + 2, 1, none⟩ = some (.slice Al' nl' cl') ∧ W'.cell? ⟨w.heap.size + 2, 2, none⟩ = some (.slice Ap' np' cp')) [7, 8] ?_ fun AA => ?_
  ·exact ⟨BO.bo.cell 0, BO.b1.cell 0, BO.b2.cell 0, BO.b2.cell 1, BO.b2.cell 2⟩
  try dsimp only at AA
  refine ty 0 50 (mf 9 1) AA (y := by intro w AR; have u0 := AR.1; go_simp; try with_reducible rfl) (h := ?_);refine ty 1 51 (mf 9 2) AA (y := by intro w AR; have u0 := AR.2.1; go_simp; try with_reducible rfl) (h := ?_);refine ty 2 52 (mf 9 3) AA (y := by intro w AR; (try dsimp only at AR); obtain ⟨-, -, u0, u1, u2⟩ := AR; go_simp; try with_reducible rfl) (h := ?_);refine tk 3 53 (mf 9 4) AA ?_;refine tk 4 10 (mf 9 5) AA ?_;refine tk 5 11 (mf 9 6) AA ?_;refine tb 6 (mf 9 7) fun K hK => ?_
  go_simp
  refine hK _ _ (fun _ => ⟨Jt.1.cell 0, Jt.2.1.cell 0, Jt.2.2.cell 0, Jt.2.2.cell 1, Jt.2.2.cell 2⟩) fun p => (fun AA => ?_) (p rfl)
  clear p hK K;(try dsimp only at AA);refine tb 7 (mf 9 8) fun K hK => ?_
  go_simp
  refine hK _ _ (fun h => by cases h) (fun _ => ?_)
  try clear AA
  clear hK K;refine tb 8 (mf 9 9) fun K hK => ?_
  go_simp
  refine hK _ _ (fun h => by cases h) (fun _ => ?_)
  try clear AA
  clear hK K;refine tK ?_;clear d0 d1 d2 y0 y1 y2
  go_wp2_with fail
  generalize World.drew (World.setCell (World.setCell (World.setCell w9 _ _) _ _) _ _) = z at *;obtain ⟨q0, q1, q2⟩ := JY.1.d3;exact bodyPost_ret (v := .tuple #[.slice Ao mo cx', .slice As' n' c', .agg #[.int .i64 co, .slice Al' nl' cl', .slice Ap' np' cp'], .int .i64 (i : Nat), .int .i64 0]) (by simp [results, results21, go_sem, q0, q1, q2]) rfl ⟨.inr ⟨CJ.symm, _, _, _, _, _, _, _, _, _, _, _, _, by rw [← Il.out, ← Im.out], by rw [← Il.out, ← Im.out]; exact Xg⟩, JY.2⟩
 obtain ⟨so, Hw⟩ := eX (za ns ds co t ⟨ek, ed, en, ep, eq⟩);have AB : Hid (ua ns ds so.t) := by unfold Hid; rw [Hw]; exact me Ux Hg.out
 rw [← Hw] at Uf ⊢;have BO := iD Uf.out;clear Uf Bt AE;rcases hk : so.ok with _ | _
 ·have Im : Hid ((out ++ yD i so.h, so.t, i) = R) := by unfold Hid; rw [← HR.out, rD HX.out hst (by rw [← Hw]; exact hk), ← Hw]
  clear hst Hw hk;go_upto_region 10 with (fail);have hw := BO.hob;have Jt : Hid (AJ (((w9.setCell ⟨w.heap.size + 5, 0, none⟩ (.int .i64 co)).setCell ⟨w.heap.size + 5, 1, none⟩ (.slice B3 m3 z3)).setCell ⟨w.heap.size + 5, 2, none⟩ (.slice B4 m4 z4)).drew ob 56 #[.slice B5 mo' dx] ∧ AJ (((w9.setCell ⟨w.heap.size + 5, 0, none⟩ (.int .i64 co)).setCell ⟨w.heap.size + 5, 1, none⟩ (.slice B3 m3 z3)).setCell ⟨w.heap.size + 5, 2, none⟩ (.slice B4 m4 z4)).drew (w.heap.size + 1) 22 #[.slice B2 m2 z2] ∧ AJ (((w9.setCell ⟨w.heap.size + 5, 0, none⟩ (.int .i64 co)).setCell ⟨w.heap.size + 5, 1, none⟩ (.slice B3 m3 z3)).setCell ⟨w.heap.size + 5, 2, none⟩ (.slice B4 m4 z4)).drew (w.heap.size + 2) 29 #[.int .i64 co, .slice B3 m3 z3, .slice B4 m4 z4]) := ⟨(zU BO.bo (by omega)).drw, (zU BO.b1 (by omega)).drw, (zU BO.b2 (by omega)).drw⟩
  have JY : Hid (AJ (((w9.setCell ⟨w.heap.size + 5, 0, none⟩ (.int .i64 co)).setCell ⟨w.heap.size + 5, 1, none⟩ (.slice B3 m3 z3)).setCell ⟨w.heap.size + 5, 2, none⟩ (.slice B4 m4 z4)).drew (w.heap.size + 5) 29 #[.int .i64 co, .slice B3 m3 z3, .slice B4 m4 z4] ∧ Below w.heap.size w (((w9.setCell ⟨w.heap.size + 5, 0, none⟩ (.int .i64 co)).setCell ⟨w.heap.size + 5, 1, none⟩ (.slice B3 m3 z3)).setCell ⟨w.heap.size + 5, 2, none⟩ (.slice B4 m4 z4)).drew) := ⟨(((BO.b5.set 0 _).set 1 _).set 2 _).drw, (((BO.bl.setCell (by simp) _).setCell (by simp) _).setCell (by simp) _).drew⟩
  have Xg : Hid (sZ (((w9.setCell ⟨w.heap.size + 5, 0, none⟩ (.int .i64 co)).setCell ⟨w.heap.size + 5, 1, none⟩ (.slice B3 m3 z3)).setCell ⟨w.heap.size + 5, 2, none⟩ (.slice B4 m4 z4)).drew B5 B2 B3 B4 mo' dx m2 z2 m3 z3 m4 z4 (out ++ yD i so.h) so.t) := by
   have sl : ∀ {A : Option Addr} {m d size : Nat} {xs : List Value}, Ke w ob B5 A m → Sl w9 w9.heap.size size A m d xs → Sl (((w9.setCell ⟨w.heap.size + 5, 0, none⟩ (.int .i64 co)).setCell ⟨w.heap.size + 5, 1, none⟩ (.slice B3 m3 z3)).setCell ⟨w.heap.size + 5, 2, none⟩ (.slice B4 m4 z4)) (((w9.setCell ⟨w.heap.size + 5, 0, none⟩ (.int .i64 co)).setCell ⟨w.heap.size + 5, 1, none⟩ (.slice B3 m3 z3)).setCell ⟨w.heap.size + 5, 2, none⟩ (.slice B4 m4 z4)).heap.size size A m d xs := fun {A m d size xs} hk hs => by
    have hz : (((w9.setCell ⟨w.heap.size + 5, 0, none⟩ (.int .i64 co)).setCell ⟨w.heap.size + 5, 1, none⟩ (.slice B3 m3 z3)).setCell ⟨w.heap.size + 5, 2, none⟩ (.slice B4 m4 z4)).heap.size = w9.heap.size := by simp [World.setCell]
    rw [hz];rcases Nat.eq_zero_or_pos m with hm | hm
    ·exact ⟨hs.1, hs.2.1, hs.2.2.1, hs.2.2.2.1, fun h => absurd h (by omega)⟩
    ·have e1 : ∀ b off, A = some ⟨b, off, none⟩ → b ≠ w.heap.size + 5 := fun b off e => by have := (hk hm b off e).1; omega
     exact ((hs.ne e1).ne e1).ne e1
   have ow : Sl (((w9.setCell ⟨w.heap.size + 5, 0, none⟩ (.int .i64 co)).setCell ⟨w.heap.size + 5, 1, none⟩ (.slice B3 m3 z3)).setCell ⟨w.heap.size + 5, 2, none⟩ (.slice B4 m4 z4)) (((w9.setCell ⟨w.heap.size + 5, 0, none⟩ (.int .i64 co)).setCell ⟨w.heap.size + 5, 1, none⟩ (.slice B3 m3 z3)).setCell ⟨w.heap.size + 5, 2, none⟩ (.slice B4 m4 z4)).heap.size 2 B5 mo' dx ((out ++ yD i so.h).flatMap Fn.cells) := by
    have h1 := xf (x := w.heap.size + 5) (i := 2) (u := .slice B4 m4 z4) (xf (x := w.heap.size + 5) (i := 1) (u := .slice B3 m3 z3) (xf (x := w.heap.size + 5) (i := 0) (u := .int .i64 co) BO.o (by omega)) (by omega)) (by omega);exact Sl.of_own h1
   exact ⟨ow, sl BO.ks BO.s, sl BO.kl BO.l, sl BO.kp BO.p⟩
  obtain ⟨d0, d1, d2⟩ := BO.b5.d3;obtain ⟨y0, y1, y2⟩ := BO.b5.e3;refine fX (fun W' => W'.cell? ⟨ob, 0, none⟩ = some (.slice B5 mo' dx) ∧ W'.cell? ⟨w.heap.size + 1, 0, none⟩ = some (.slice B2 m2 z2) ∧ W'.cell? ⟨w.heap.size + 2, 0, none⟩ = some (.int .i64 co) ∧ W'.cell? ⟨w.heap.size + 2, 1, none⟩ = some (.slice B3 m3 z3) ∧ W'.cell? ⟨w.heap.size + 2, 2, none⟩ = some (.slice B4 m4 z4)) [7, 8] ?_ fun AA => ?_
  ·exact ⟨BO.bo.cell 0, BO.b1.cell 0, BO.b2.cell 0, BO.b2.cell 1, BO.b2.cell 2⟩
  try dsimp only at AA
  refine ty 0 50 (mf 9 1) AA (y := by intro w AR; have u0 := AR.1; go_simp; try with_reducible rfl) (h := ?_);refine ty 1 51 (mf 9 2) AA (y := by intro w AR; have u0 := AR.2.1; go_simp; try with_reducible rfl) (h := ?_);refine ty 2 52 (mf 9 3) AA (y := by intro w AR; (try dsimp only at AR); obtain ⟨-, -, u0, u1, u2⟩ := AR; go_simp; try with_reducible rfl) (h := ?_);refine tk 3 53 (mf 9 4) AA ?_;refine tk 4 10 (mf 9 5) AA ?_;refine tk 5 11 (mf 9 6) AA ?_;refine tb 6 (mf 9 7) fun K hK => ?_
  go_simp
  refine hK _ _ (fun _ => ⟨Jt.1.cell 0, Jt.2.1.cell 0, Jt.2.2.cell 0, Jt.2.2.cell 1, Jt.2.2.cell 2⟩) fun p => (fun AA => ?_) (p rfl)
  clear p hK K;(try dsimp only at AA);refine tb 7 (mf 9 8) fun K hK => ?_
  go_simp
  refine hK _ _ (fun h => by cases h) (fun _ => ?_)
  try clear AA
  clear hK K;refine tb 8 (mf 9 9) fun K hK => ?_
  go_simp
  refine hK _ _ (fun h => by cases h) (fun _ => ?_)
  try clear AA
  clear hK K;refine tK ?_;clear d0 d1 d2 y0 y1 y2
  go_wp2_with fail
  generalize World.drew (World.setCell (World.setCell (World.setCell w9 _ _) _ _) _ _) = z at *;obtain ⟨q0, q1, q2⟩ := JY.1.d3;exact bodyPost_ret (v := .tuple #[.slice B5 mo' dx, .slice B2 m2 z2, .agg #[.int .i64 co, .slice B3 m3 z3, .slice B4 m4 z4], .int .i64 (i : Nat), .int .i64 0]) (by simp [results, results21, go_sem, q0, q1, q2]) rfl ⟨.inr ⟨CJ.symm, _, _, _, _, _, _, _, _, _, _, _, _, by rw [← Il.out, ← Im.out], by rw [← Il.out, ← Im.out]; exact Xg⟩, JY.2⟩
 have KS : Hid (yU ns ds co Bw (i + 1) (out ++ yD i so.h) so.t (xs.drop (i + 1)) = R) := by unfold Hid; rw [← HR.out, sM HX.out hst (by rw [← Hw]; exact hk), ← Hw]
 clear hst Hw hk
 go_wp2_with fail
 refine Handed.intro (nx - (i + 1)) (by omega) (Dk _ _ _ (xQ.back 18 ?_ (by kernel_rfl)));dsimp only [gt];exact ⟨i + 1, _, _, _, _, _, _, _, _, _, _, _, _, so.t, out ++ yD i so.h, by go_num, by omega, rfl, by omega, BO, AB, KS⟩
end Go.Proofs.YtddddlhgaeameaaGreatDoor
