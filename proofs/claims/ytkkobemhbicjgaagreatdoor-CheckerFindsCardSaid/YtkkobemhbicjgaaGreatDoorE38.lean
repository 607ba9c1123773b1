import Derived.Test.YtkkobemhbicjgaaGreatDoorE36
set_option maxRecDepth 100000
set_option maxHeartbeats 32000000
namespace Go.Proofs.YtkkobemhbicjgaaGreatDoor
open Go.RowKit
structure Br (w : World) (nt st gr pg sk : Array Value) (wr : World) : Prop where
 b0 : Blk wr w.heap.size 30 nt
 b1 : Blk wr (w.heap.size + 1) 22 st
 b2 : Blk wr (w.heap.size + 2) 37 gr
 b3 : Blk wr (w.heap.size + 3) 41 pg
 b4 : Blk wr (w.heap.size + 4) 22 sk
 b5 : Blk wr (w.heap.size + 5) 37 #[.int .i64 0, .slice none 0 0, .slice none 0 0]
 bl : Below w.heap.size w wr
theorem Br.new (w : World) (nt st gr pg sk : Array Value) : Br w nt st gr pg sk ((((((w.alloc (.cells nt 30)).alloc (.cells st 22)).alloc (.cells gr 37)).alloc (.cells pg 41)).alloc (.cells sk 22)).alloc (.cells #[.int .i64 0, .slice none 0 0, .slice none 0 0] 37)) := by
 obtain ⟨h0, h1, h2, h3, h4⟩ := gg w 30 22 37 41 nt st gr pg
 have hz : ((((w.alloc (.cells nt 30)).alloc (.cells st 22)).alloc (.cells gr 37)).alloc (.cells pg 41)).heap.size = w.heap.size + 4 := by simp
 generalize World.alloc (World.alloc (World.alloc (World.alloc w _) _) _) _ = W at *
 have h5 := Blk.new W 22 sk
 have h6 := Blk.new (W.alloc (.cells sk 22)) 37 #[.int .i64 0, .slice none 0 0, .slice none 0 0]
 rw [hz] at h5
 rw [World.size_alloc, hz] at h6
 exact ⟨(h0.alloc _).alloc _, (h1.alloc _).alloc _, (h2.alloc _).alloc _, (h3.alloc _).alloc _, h5.alloc _, h6, (h4.alloc (by omega) _).alloc (by simp; omega) _⟩
theorem Br.later {w wr wr' : World} {nt st gr pg sk : Array Value} (h : Br w nt st gr pg sk wr) (hb : Below wr.heap.size wr wr') : Br w nt st gr pg sk wr' := ⟨h.b0.below hb h.b0.lt, h.b1.below hb h.b1.lt, h.b2.below hb h.b2.lt, h.b3.below hb h.b3.lt, h.b4.below hb h.b4.lt, h.b5.below hb h.b5.lt, h.bl.trans (hb.mono h.bl.size)⟩
theorem Br.set1 {w wr : World} {nt st gr pg sk : Array Value} (h : Br w nt st gr pg sk wr) (i : Nat) (u : Value) : Br w nt (st.setIfInBounds i u) gr pg sk (wr.setCell ⟨w.heap.size + 1, i, none⟩ u) :=
 ⟨h.b0.far (by simp) _, h.b1.set i u, h.b2.far (by simp) _, h.b3.far (by simp) _, h.b4.far (by simp) _, h.b5.far (by simp) _, h.bl.setCell (by simp) _⟩
theorem Br.set2 {w wr : World} {nt st gr pg sk : Array Value} (h : Br w nt st gr pg sk wr) (i : Nat) (u : Value) : Br w nt st (gr.setIfInBounds i u) pg sk (wr.setCell ⟨w.heap.size + 2, i, none⟩ u) :=
 ⟨h.b0.far (by simp) _, h.b1.far (by simp) _, h.b2.set i u, h.b3.far (by simp) _, h.b4.far (by simp) _, h.b5.far (by simp) _, h.bl.setCell (by simp) _⟩
structure vG (w : World) (A1 A2 Al Ap : Option Addr) (n1 c1 n2 c2 nl cl np cp : Nat) (out : List Fn) (t : Sm) : Prop where
 o : Sl w w.heap.size 2 A1 n1 c1 (out.flatMap Fn.cells)
 s : Sl w w.heap.size 1 A2 n2 c2 (zD t.s)
 l : Sl w w.heap.size 3 Al nl cl (t.ls.flatMap Lk.cells)
 p : Sl w w.heap.size 1 Ap np cp (zD t.pr)
def gm (w : World) (ns : List Nd) (ds : List Dv) (s : List Int) (co : Int) (ls : List Lk) (pr : List Int) (nm : ByteArray) (xs : List Sp) (stk : List Int) (e : Ending) (w' : World) : Prop :=
 (xp ns ds s co ls pr nm xs ≠ 0 ∧ e = .returned (.tuple #[.slice none 0 0, .slice none 0 0, .agg #[.int .i64 0, .slice none 0 0, .slice none 0 0], .int .i64 0, .int .i64 (xp ns ds s co ls pr nm xs)]) ∨
  xp ns ds s co ls pr nm xs = 0 ∧ ∃ (A1 A2 Al Ap : Option Addr) (n1 c1 n2 c2 nl cl np cp : Nat), e = .returned (.tuple #[.slice A1 n1 c1, .slice A2 n2 c2, .agg #[.int .i64 co, .slice Al nl cl, .slice Ap np cp], .int .i64 (yj ns ds co stk 0 [] ⟨s, ls, pr⟩ xs).2.2, .int .i64 0]) ∧ Hid (vG w' A1 A2 Al Ap n1 c1 n2 c2 nl cl np cp (yj ns ds co stk 0 [] ⟨s, ls, pr⟩ xs).1 (yj ns ds co stk 0 [] ⟨s, ls, pr⟩ xs).2.1)) ∧ Hid (Below w.heap.size w w')
def W5 (w w3 : World) (co : Int) (A2 A3 A4 : Option Addr) (n c2 nl c3 np c4 : Nat) : World := (((w3.setCell ⟨w.heap.size + 1, 0, none⟩ (.slice A2 n c2)).setCell ⟨w.heap.size + 2, 0, none⟩ (.int .i64 co)).setCell ⟨w.heap.size + 2, 1, none⟩ (.slice A3 nl c3)).setCell ⟨w.heap.size + 2, 2, none⟩ (.slice A4 np c4)
def RuL (w : World) (ob : Nat) (An Ad A5 : Option Addr) (nn cn nd cd n5 c5 : Nat) (co : Int) (pg : Array Value) (ns : List Nd) (ds : List Dv) (stk : List Int) (xs : List Sp) (R : List Fn × Sm × Nat) (nx gk : Nat) (iv : Value) (wr : World) : Prop :=
 ∃ (i n c nl cl np cp mo cx : Nat) (As Al Ap Ao : Option Addr) (t : Sm) (out : List Fn), iv = .int .i64 i ∧ i ≤ nx ∧ gk = nx - i ∧ mo ≤ 8 * i ∧ Hid (RM w ob An Ad A5 nn cn nd cd n5 c5 co pg As Al Ap Ao n c nl cl np cp mo cx t out wr) ∧ Hid (tJ ns ds t) ∧ Hid (yj ns ds co stk i out t (xs.drop i) = R)
theorem iu (An Ad As Al Ap Ax A5 : Option Addr) (nn cn nd cd n c nl cl np cp nx cx n5 c5 : Nat) (ns : List Nd) (ds : List Dv) (s : List Int) (ls : List Lk) (pr : List Int) (co : Int) (nm : ByteArray) (xs : List Sp) (stk : List Int) (w : World) (h : uB w An Ad As Al Ap Ax nn cn nd cd n c nl cl np cp nx cx ns ds s ls pr nm xs) (h5 : Sl w w.heap.size 1 A5 n5 c5 (zD stk)) :
 Calls Tryz.prog 40 #[.agg #[.slice An nn cn, .slice Ad nd cd], .slice As n c, .agg #[.int .i64 co, .slice Al nl cl, .slice Ap np cp], .agg #[.string nm, .slice Ax nx cx], .slice A5 n5 c5] w (gm w ns ds s co ls pr nm xs stk) := by
 obtain ⟨hln, hld, hls⟩ := h.h.ln
 have hll : ls.length = nl := h.h.hl.len (fun _ => rfl) (by decide)
 have hlp : pr.length = np := h.h.hp.len (fun _ => rfl) (by decide)
 have hlx : xs.length = nx := h.x.len (fun _ => rfl) (by decide)
 have HH := iD h
 have H5 := iD h5
 have HB := iD (Br.new w #[.slice An nn cn, .slice Ad nd cd] #[.slice As n c] #[.int .i64 co, .slice Al nl cl, .slice Ap np cp] #[.string nm, .slice Ax nx cx] #[.slice A5 n5 c5])
 clear h h5
 go_enter Tryz.func40, Tryz.ntmps40
 go_upto_region 1 with (fail)
 rw [show w.heap.size + 1 + 1 = w.heap.size + 2 from rfl, show w.heap.size + 2 + 1 = w.heap.size + 3 from rfl, show w.heap.size + 3 + 1 = w.heap.size + 4 from rfl, show w.heap.size + 4 + 1 = w.heap.size + 5 from rfl]
 generalize World.alloc (World.alloc (World.alloc (World.alloc (World.alloc (World.alloc w _) _) _) _) _) _ = W at *
 have HCK := iD (pB An Ad As Al Ap Ax nn cn nd cd n c nl cl np cp nx cx ns ds s ls pr co nm xs W (HH.out.below HB.out.bl))
 have k0 := HB.out.b0.c0
 have k1 := HB.out.b0.c1
 have t0 := HB.out.b1.c0
 have g0 := HB.out.b2.c0
 have g1 := HB.out.b2.c1
 have g2 := HB.out.b2.c2
 have p0 := HB.out.b3.c0
 have p1 := HB.out.b3.c1
 go_wp2_with fail
 clear k0 k1 t0 g0 g1 g2 p0 p1
 refine HCK.out.mono ?_
 rintro e w1 ⟨rfl, hb1⟩
 have HB1 := iD (HB.out.later hb1)
 clear hb1 HB HCK
 obtain ⟨E, hE⟩ : ∃ E, E = xp ns ds s co ls pr nm xs := ⟨_, rfl⟩
 rw [← hE]
 have HEE := iD hE
 clear hE
 by_cases he : E = 0; rotate_left
 ·have q1 : (E != 0) = true := by simpa using he
  have HNZ := iD he
  clear he
  have d0 := HB1.out.b5.cell 0
  have d1 := HB1.out.b5.cell 1
  have d2 := HB1.out.b5.cell 2
  have y0 := HB1.out.b5.frozen 0
  have y1 := HB1.out.b5.frozen 1
  have y2 := HB1.out.b5.frozen 2
  have HF : Hid (Blk (((w1.setCell ⟨w.heap.size + 5, 0, none⟩ (.int .i64 0)).setCell ⟨w.heap.size + 5, 1, none⟩ (.slice none 0 0)).setCell ⟨w.heap.size + 5, 2, none⟩ (.slice none 0 0)) (w.heap.size + 5) 37 #[.int .i64 0, .slice none 0 0, .slice none 0 0] ∧ Below w.heap.size w (((w1.setCell ⟨w.heap.size + 5, 0, none⟩ (.int .i64 0)).setCell ⟨w.heap.size + 5, 1, none⟩ (.slice none 0 0)).setCell ⟨w.heap.size + 5, 2, none⟩ (.slice none 0 0))) := ⟨((HB1.out.b5.set 0 _).set 1 _).set 2 _, ((HB1.out.bl.setCell (by simp) _).setCell (by simp) _).setCell (by simp) _⟩
  go_wp2_with fail
  clear d0 d1 d2 y0 y1 y2
  generalize World.setCell (World.setCell (World.setCell w1 _ _) _ _) _ _ = z at *
  have q0 := HF.out.1.c0
  have q1 := HF.out.1.c1
  have q2 := HF.out.1.c2
  exact bodyPost_ret (v := .tuple #[.slice none 0 0, .slice none 0 0, .agg #[.int .i64 0, .slice none 0 0, .slice none 0 0], .int .i64 0, .int .i64 E]) (by simp [results, Tryz.results40, go_sem, q0, q1, q2]) rfl ⟨.inl ⟨by rw [← HEE.out]; exact HNZ.out, by rw [← HEE.out]⟩, HF.out.2⟩
 subst he
 have HOK := iD (kO HEE.out.symm)
 have hnd : nd ≤ 64 := by have := (yt.of (zp HOK.out.1.s).1).dl; omega
 have hnn : nn ≤ 32 := by have := (yt.of (zp HOK.out.1.s).1).nl; omega
 have hnl : nl ≤ 128 := by have := (ym HOK.out.1.l).1; dsimp only at this; omega
 have hnp : np ≤ 32 := by have := uc HOK.out.1.p; dsimp only at this; omega
 have hsl := (zp HOK.out.1.s).2
 dsimp only at hsl
 have hnx : nx ≤ 64 := by have := HOK.out.2.2.1; omega
 have HXS := iD (wd HOK.out.2.2.2)
 go_upto_region 4 with (fail)
 have HZ0 : Hid (w.heap.size + 6 ≤ w1.heap.size) := HB1.out.b5.lt
 have HB1D := iD (HB1.out.later (Below.refl _ _).drew)
 refine zC (S := fun W' => W'.cell? ⟨w.heap.size + 1, 0, none⟩ = some (.slice As n c) ∧ W'.cell? ⟨w.heap.size + 2, 0, none⟩ = some (.int .i64 co) ∧ W'.cell? ⟨w.heap.size + 2, 1, none⟩ = some (.slice Al nl cl) ∧ W'.cell? ⟨w.heap.size + 2, 2, none⟩ = some (.slice Ap np cp)) (J := [4, 5]) (by kernel_rfl) ?_ (fun AA => ?_)
 ·exact ⟨HB1.out.b1.cell 0, HB1.out.b2.cell 0, HB1.out.b2.cell 1, HB1.out.b2.cell 2⟩
 try dsimp only at AA
 refine tx 0 28 ?_ (mf 6 1) ?_ AA ?_
 rotate_left
 ·(intro w hSw; (try dsimp only at hSw); have u0 := hSw.1; go_simp; try with_reducible rfl)
 try simp only [Act.put, sA, sB, sC]
 refine tx 2 30 ?_ (ma 6 5) ?_ AA ?_
 rotate_left
 ·(intro w hSw; (try dsimp only at hSw); obtain ⟨-, u0, u1, u2⟩ := hSw; go_simp; try with_reducible rfl)
 try simp only [Act.put, sA, sB, sC]
 refine tb 1 (mf 6 3) fun K hK => ?_
 (go_simp; refine (yQ As n c _ s w1.drew (HH.out.h.below (HB1.out.bl.drew)).hs lR (by omega)).mono ?_; rintro e w2 ⟨A2, c2, rfl, hO2, hb2⟩; rw [hls] at hO2 ⊢; have HO2 := iD hO2.out; have HBb := iD hb2.out; clear hO2 hb2; go_simp)
 refine hK.out _ _ (fun _ => ?_) (fun AA' => ?_)
 ·exact ⟨(HB1D.out.later HBb.out).b1.cell 0, (HB1D.out.later HBb.out).b2.cell 0, (HB1D.out.later HBb.out).b2.cell 1, (HB1D.out.later HBb.out).b2.cell 2⟩
 replace AA := AA' rfl
 clear AA' hK K
 try dsimp only at AA
 have HB2 := iD (HB1D.out.later HBb.out); have HZ2 : Hid (w1.heap.size ≤ w2.heap.size) := HBb.out.size; clear HBb
 refine tb 3 (mf 6 4) fun K hK => ?_
 (go_simp; refine (vk Al Ap nl cl np cp _ co ls pr w2 (HH.out.h.below HB2.out.bl).hl (HH.out.h.below HB2.out.bl).hp lR (by omega) (by omega)).mono ?_; rintro e w3 ⟨A3, A4, c3, c4, rfl, hO3, hO4, hb3⟩; have HO3 := iD hO3.out; have HO4 := iD hO4.out; have HBb := iD hb3.out; clear hO3 hO4 hb3; go_simp)
 refine hK.out _ _ (fun _ => ?_) (fun AA' => ?_)
 ·exact ⟨(HB2.out.later HBb.out).b1.cell 0, (HB2.out.later HBb.out).b2.cell 0, (HB2.out.later HBb.out).b2.cell 1, (HB2.out.later HBb.out).b2.cell 2⟩
 replace AA := AA' rfl
 clear AA' hK K
 try dsimp only at AA
 have HB3 := iD (HB2.out.later HBb.out); have HO2 := iD (HO2.out.later HBb.out); clear HBb
 have d0 := HB3.out.b1.cell 0; have y0 := HB3.out.b1.frozen 0
 refine tb 4 (mf 6 5) fun K hK => ?_
 go_simp
 refine hK.out _ _ (fun h => by cases h) (fun _ => ?_)
 try clear AA
 clear hK K
 have HB4 := iD (HB3.out.set1 0 (.slice A2 n c2)); clear d0 y0
 have d0 := HB4.out.b2.cell 0; have d1 := HB4.out.b2.cell 1; have d2 := HB4.out.b2.cell 2; have y0 := HB4.out.b2.frozen 0; have y1 := HB4.out.b2.frozen 1; have y2 := HB4.out.b2.frozen 2
 refine tb 5 (mf 6 6) fun K hK => ?_
 go_simp
 refine hK.out _ _ (fun h => by cases h) (fun _ => ?_)
 try clear AA
 clear hK K
 refine zA (by kernel_rfl) ?_ _
 clear d0 d1 d2 y0 y1 y2
 have hz3 : (((w3.setCell ⟨w.heap.size + 1, 0, none⟩ (.slice A2 n c2)).setCell ⟨w.heap.size + 2, 0, none⟩ (.int .i64 co)).setCell ⟨w.heap.size + 2, 1, none⟩ (.slice A3 nl c3)).setCell ⟨w.heap.size + 2, 2, none⟩ (.slice A4 np c4) = W5 w w3 co A2 A3 A4 n c2 nl c3 np c4 := rfl
 rw [hz3]
 clear hz3
 have HRM : Hid (RM w (W5 w w3 co A2 A3 A4 n c2 nl c3 np c4).heap.size An Ad A5 nn cn nd cd n5 c5 co #[.string nm, .slice Ax nx cx] A2 A3 A4 none n c2 nl c3 np c4 0 0 ⟨s, ls, pr⟩ [] ((W5 w w3 co A2 A3 A4 n c2 nl c3 np c4).alloc (.cells #[.slice none 0 0] 45))) := by
  have hs5 : (W5 w w3 co A2 A3 A4 n c2 nl c3 np c4).heap.size = w3.heap.size := by unfold W5; simp [World.setCell]
  have hb6 : w.heap.size + 6 ≤ w3.heap.size := HB3.out.b5.lt
  have HB5 : Br w #[.slice An nn cn, .slice Ad nd cd] #[.slice A2 n c2] #[.int .i64 co, .slice A3 nl c3, .slice A4 np c4] #[.string nm, .slice Ax nx cx] #[.slice A5 n5 c5] (W5 w w3 co A2 A3 A4 n c2 nl c3 np c4) := ((HB4.out.set2 0 (.int .i64 co)).set2 1 (.slice A3 nl c3)).set2 2 (.slice A4 np c4)
  have lo2 : ∀ b off, A2 = some ⟨b, off, none⟩ → w.heap.size + 6 ≤ b ∧ b < w3.heap.size := fun b off e => by have h := HO2.out.lt b (by rw [e]; rfl); have := HZ0.out; simp at h; omega
  have hzw : w1.heap.size ≤ w2.heap.size := HZ2.out
  have lo3 : ∀ b off, A3 = some ⟨b, off, none⟩ → w.heap.size + 6 ≤ b ∧ b < w3.heap.size := fun b off e => by have h := HO3.out.lt b (by rw [e]; rfl); have := HZ0.out; omega
  have lo4 : ∀ b off, A4 = some ⟨b, off, none⟩ → w.heap.size + 6 ≤ b ∧ b < w3.heap.size := fun b off e => by have h := HO4.out.lt b (by rw [e]; rfl); have := HZ0.out; omega
  have sl : ∀ {A : Option Addr} {m d size : Nat} {xs : List Value}, (∀ b off, A = some ⟨b, off, none⟩ → w.heap.size + 6 ≤ b ∧ b < w3.heap.size) → Sl w3 w3.heap.size size A m d xs → Sl ((W5 w w3 co A2 A3 A4 n c2 nl c3 np c4).alloc (.cells #[.slice none 0 0] 45)) ((W5 w w3 co A2 A3 A4 n c2 nl c3 np c4).alloc (.cells #[.slice none 0 0] 45)).heap.size size A m d xs := fun {A m d size xs} hl hs => by
   have e1 : ∀ b off, A = some ⟨b, off, none⟩ → b ≠ w.heap.size + 1 := fun b off e => by have := (hl b off e).1; omega
   have e2 : ∀ b off, A = some ⟨b, off, none⟩ → b ≠ w.heap.size + 2 := fun b off e => by have := (hl b off e).1; omega
   have h5 : Sl (W5 w w3 co A2 A3 A4 n c2 nl c3 np c4) w3.heap.size size A m d xs := (((hs.ne e1).ne e2).ne e2).ne e2
   exact (h5.alloc (by omega) _).more (by rw [World.size_alloc]; omega)
  have ke : ∀ {A : Option Addr} {m : Nat}, (∀ b off, A = some ⟨b, off, none⟩ → w.heap.size + 6 ≤ b ∧ b < w3.heap.size) → Ke w (W5 w w3 co A2 A3 A4 n c2 nl c3 np c4).heap.size none A m := fun {A m} hl _ b off e => ⟨(hl b off e).1, by have := (hl b off e).2; omega, fun o' e2 => by cases e2⟩
  exact ⟨HB5.b0.alloc _, HB5.b1.alloc _, HB5.b2.alloc _, HB5.b3.alloc _, HB5.b4.alloc _, HB5.b5.alloc _, Blk.new _ _ _, sl lo2 (Sl.of_own HO2.out), sl lo3 (Sl.of_own HO3.out), sl lo4 (Sl.of_own HO4.out), World.ownsRow_nil _ _ _ _, ke lo2, ke lo3, ke lo4, HB5.bl.alloc HB5.bl.size _, by omega⟩
 clear HB3 HB4 HB1 HB1D HB2 HO2 HO3 HO4 HZ0 HZ2
 generalize W5 w w3 co A2 A3 A4 n c2 nl c3 np c4 = wk at *
 go_upto_region 8 with (fail)
 generalize World.alloc wk _ = V at *
 obtain ⟨ob, hob⟩ : ∃ x, x = wk.heap.size := ⟨_, rfl⟩
 rw [← hob] at HRM ⊢
 clear hob
 obtain ⟨R, hR⟩ : ∃ R, R = yj ns ds co stk 0 [] ⟨s, ls, pr⟩ xs := ⟨_, rfl⟩
 have HR0 : Hid (yj ns ds co stk 0 [] ⟨s, ls, pr⟩ (xs.drop 0) = R) := hR.symm
 have HRR := iD hR
 clear hR
 refine zv [(17, 0), (0, 2), (13, 0), (16, 1), (3, 0)] 18 (nx) (RuL w ob An Ad A5 nn cn nd cd n5 c5 co #[.string nm, .slice Ax nx cx] ns ds stk xs R nx) (by (try dsimp only [gt]); exact ⟨0, _, _, _, _, _, _, _, _, _, _, _, _, ⟨s, ls, pr⟩, [], rfl, Nat.zero_le _, rfl, by omega, HRM, HOK.out.1, HR0⟩) (by kernel_rfl) ?_
 intro u1 p18 gk wr a hrel ha J1 K1 hJ1 hK1
 dsimp only [zZ, Go.Proofs.YtkkobemhbicjgaaGreatDoor.v1, Nat.reduceAdd] at ha
 subst ha
 clear HRM HR0 V
 obtain ⟨i, n', c', nl', cl', np', cp', mo, cx', As', Al', Ap', Ao, t, out, rfl, hi, rfl, hmo, HRM, HOT, HR⟩ := hrel
 have p1 := HRM.out.b3.c1
 by_cases hlt : i < nx; rotate_left
 ·have hii : decide ((i : Int) < (nx : Int)) = false := by simp; omega
  have hii2 : decide (i < nx) = false := by simp; omega
  have HRE : Hid ((out, t, i) = R) := by unfold Hid; rw [← HR.out, mr (by omega)]
  go_upto_region 10 with (fail)
  clear p1 hii hii2
  have hw := HRM.out.hob
  have HPZ : Hid (Blk (((wr.setCell ⟨w.heap.size + 5, 0, none⟩ (.int .i64 co)).setCell ⟨w.heap.size + 5, 1, none⟩ (.slice Al' nl' cl')).setCell ⟨w.heap.size + 5, 2, none⟩ (.slice Ap' np' cp')).drew ob 45 #[.slice Ao mo cx'] ∧ Blk (((wr.setCell ⟨w.heap.size + 5, 0, none⟩ (.int .i64 co)).setCell ⟨w.heap.size + 5, 1, none⟩ (.slice Al' nl' cl')).setCell ⟨w.heap.size + 5, 2, none⟩ (.slice Ap' np' cp')).drew (w.heap.size + 1) 22 #[.slice As' n' c'] ∧ Blk (((wr.setCell ⟨w.heap.size + 5, 0, none⟩ (.int .i64 co)).setCell ⟨w.heap.size + 5, 1, none⟩ (.slice Al' nl' cl')).setCell ⟨w.heap.size + 5, 2, none⟩ (.slice Ap' np' cp')).drew (w.heap.size + 2) 37 #[.int .i64 co, .slice Al' nl' cl', .slice Ap' np' cp']) := ⟨(yG HRM.out.bo (by omega)).drw, (yG HRM.out.b1 (by omega)).drw, (yG HRM.out.b2 (by omega)).drw⟩
  have HFE : Hid (Blk (((wr.setCell ⟨w.heap.size + 5, 0, none⟩ (.int .i64 co)).setCell ⟨w.heap.size + 5, 1, none⟩ (.slice Al' nl' cl')).setCell ⟨w.heap.size + 5, 2, none⟩ (.slice Ap' np' cp')).drew (w.heap.size + 5) 37 #[.int .i64 co, .slice Al' nl' cl', .slice Ap' np' cp'] ∧ Below w.heap.size w (((wr.setCell ⟨w.heap.size + 5, 0, none⟩ (.int .i64 co)).setCell ⟨w.heap.size + 5, 1, none⟩ (.slice Al' nl' cl')).setCell ⟨w.heap.size + 5, 2, none⟩ (.slice Ap' np' cp')).drew) := ⟨(((HRM.out.b5.set 0 _).set 1 _).set 2 _).drw, (((HRM.out.bl.setCell (by simp) _).setCell (by simp) _).setCell (by simp) _).drew⟩
  have HAT : Hid (vG (((wr.setCell ⟨w.heap.size + 5, 0, none⟩ (.int .i64 co)).setCell ⟨w.heap.size + 5, 1, none⟩ (.slice Al' nl' cl')).setCell ⟨w.heap.size + 5, 2, none⟩ (.slice Ap' np' cp')).drew Ao As' Al' Ap' mo cx' n' c' nl' cl' np' cp' out t) := by
   have sl : ∀ {A : Option Addr} {m d size : Nat} {xs : List Value}, Ke w ob Ao A m → Sl wr wr.heap.size size A m d xs → Sl (((wr.setCell ⟨w.heap.size + 5, 0, none⟩ (.int .i64 co)).setCell ⟨w.heap.size + 5, 1, none⟩ (.slice Al' nl' cl')).setCell ⟨w.heap.size + 5, 2, none⟩ (.slice Ap' np' cp')) (((wr.setCell ⟨w.heap.size + 5, 0, none⟩ (.int .i64 co)).setCell ⟨w.heap.size + 5, 1, none⟩ (.slice Al' nl' cl')).setCell ⟨w.heap.size + 5, 2, none⟩ (.slice Ap' np' cp')).heap.size size A m d xs := fun {A m d size xs} hk hs => by
    have hz : (((wr.setCell ⟨w.heap.size + 5, 0, none⟩ (.int .i64 co)).setCell ⟨w.heap.size + 5, 1, none⟩ (.slice Al' nl' cl')).setCell ⟨w.heap.size + 5, 2, none⟩ (.slice Ap' np' cp')).heap.size = wr.heap.size := by simp [World.setCell]
    rw [hz]
    rcases Nat.eq_zero_or_pos m with hm | hm
    ·exact ⟨hs.1, hs.2.1, hs.2.2.1, hs.2.2.2.1, fun h => absurd h (by omega)⟩
    ·have e1 : ∀ b off, A = some ⟨b, off, none⟩ → b ≠ w.heap.size + 5 := fun b off e => by have := (hk hm b off e).1; omega
     exact ((hs.ne e1).ne e1).ne e1
   have ow : Sl (((wr.setCell ⟨w.heap.size + 5, 0, none⟩ (.int .i64 co)).setCell ⟨w.heap.size + 5, 1, none⟩ (.slice Al' nl' cl')).setCell ⟨w.heap.size + 5, 2, none⟩ (.slice Ap' np' cp')) (((wr.setCell ⟨w.heap.size + 5, 0, none⟩ (.int .i64 co)).setCell ⟨w.heap.size + 5, 1, none⟩ (.slice Al' nl' cl')).setCell ⟨w.heap.size + 5, 2, none⟩ (.slice Ap' np' cp')).heap.size 2 Ao mo cx' (out.flatMap Fn.cells) := by
    have h1 := wi (x := w.heap.size + 5) (i := 2) (u := .slice Ap' np' cp') (wi (x := w.heap.size + 5) (i := 1) (u := .slice Al' nl' cl') (wi (x := w.heap.size + 5) (i := 0) (u := .int .i64 co) HRM.out.o (by omega)) (by omega)) (by omega)
    exact Sl.of_own h1
   exact ⟨ow, sl HRM.out.ks HRM.out.s, sl HRM.out.kl HRM.out.l, sl HRM.out.kp HRM.out.p⟩
  have d0 := HRM.out.b5.cell 0
  have d1 := HRM.out.b5.cell 1
  have d2 := HRM.out.b5.cell 2
  have y0 := HRM.out.b5.frozen 0
  have y1 := HRM.out.b5.frozen 1
  have y2 := HRM.out.b5.frozen 2
  refine zC (S := fun W' => W'.cell? ⟨ob, 0, none⟩ = some (.slice Ao mo cx') ∧ W'.cell? ⟨w.heap.size + 1, 0, none⟩ = some (.slice As' n' c') ∧ W'.cell? ⟨w.heap.size + 2, 0, none⟩ = some (.int .i64 co) ∧ W'.cell? ⟨w.heap.size + 2, 1, none⟩ = some (.slice Al' nl' cl') ∧ W'.cell? ⟨w.heap.size + 2, 2, none⟩ = some (.slice Ap' np' cp')) (J := [7, 8]) (by kernel_rfl) ?_ (fun AA => ?_)
  ·exact ⟨HRM.out.bo.cell 0, HRM.out.b1.cell 0, HRM.out.b2.cell 0, HRM.out.b2.cell 1, HRM.out.b2.cell 2⟩
  try dsimp only at AA
  refine tx 0 50 ?_ (mf 9 1) ?_ AA ?_
  rotate_left
  ·(intro w hSw; (try dsimp only at hSw); have u0 := hSw.1; go_simp; try with_reducible rfl)
  try simp only [Act.put, sA, sB, sC]
  refine tx 1 51 ?_ (mf 9 2) ?_ AA ?_
  rotate_left
  ·(intro w hSw; (try dsimp only at hSw); have u0 := hSw.2.1; go_simp; try with_reducible rfl)
  try simp only [Act.put, sA, sB, sC]
  refine tx 2 52 ?_ (mf 9 3) ?_ AA ?_
  rotate_left
  ·(intro w hSw; (try dsimp only at hSw); obtain ⟨-, -, u0, u1, u2⟩ := hSw; go_simp; try with_reducible rfl)
  try simp only [Act.put, sA, sB, sC]
  refine tk 3 53 (mf 9 4) AA ?_
  refine tk 4 10 (mf 9 5) AA ?_
  refine tk 5 11 (mf 9 6) AA ?_
  refine tb 6 (mf 9 7) fun K hK => ?_
  go_simp
  refine hK.out _ _ (fun _ => ?_) (fun AA' => ?_)
  ·exact ⟨HPZ.out.1.cell 0, HPZ.out.2.1.cell 0, HPZ.out.2.2.cell 0, HPZ.out.2.2.cell 1, HPZ.out.2.2.cell 2⟩
  replace AA := AA' rfl
  clear AA' hK K
  try dsimp only at AA
  refine tb 7 (mf 9 8) fun K hK => ?_
  go_simp
  refine hK.out _ _ (fun h => by cases h) (fun _ => ?_)
  try clear AA
  clear hK K
  refine tb 8 (mf 9 9) fun K hK => ?_
  go_simp
  refine hK.out _ _ (fun h => by cases h) (fun _ => ?_)
  try clear AA
  clear hK K
  refine zA (by kernel_rfl) ?_ _
  clear d0 d1 d2 y0 y1 y2
  go_wp2_with fail
  generalize World.drew (World.setCell (World.setCell (World.setCell wr _ _) _ _) _ _) = z at *
  have q0 := HFE.out.1.c0
  have q1 := HFE.out.1.c1
  have q2 := HFE.out.1.c2
  exact bodyPost_ret (v := .tuple #[.slice Ao mo cx', .slice As' n' c', .agg #[.int .i64 co, .slice Al' nl' cl', .slice Ap' np' cp'], .int .i64 (i : Nat), .int .i64 0]) (by simp [results, Tryz.results40, go_sem, q0, q1, q2]) rfl ⟨.inr ⟨HEE.out.symm, _, _, _, _, _, _, _, _, _, _, _, _, by rw [← HRR.out, ← HRE.out], by rw [← HRR.out, ← HRE.out]; exact HAT⟩, HFE.out.2⟩
 obtain ⟨be, oe, x, hAe, hbe, hx, hc⟩ := (HH.out.x.below HRM.out.bl lR).at (fun _ => rfl) (by decide) hlt
 have HX := iD hx
 have HSP := iD (HXS.out x (List.mem_of_getElem? hx))
 obtain ⟨ek, ed, en, ep, eq⟩ := x
 have c0 : wr.cell? ⟨be, oe + i * 5, none⟩ = some (.int .i64 ek) := hc 0 _ rfl
 have c1 : wr.cell? ⟨be, oe + i * 5 + 1, none⟩ = some (.int .i64 ed) := hc 1 _ rfl
 have c2' : wr.cell? ⟨be, oe + i * 5 + 2, none⟩ = some (.int .i64 en) := hc 2 _ rfl
 have c3' : wr.cell? ⟨be, oe + i * 5 + 3, none⟩ = some (.int .i64 ep) := hc 3 _ rfl
 have c4' : wr.cell? ⟨be, oe + i * 5 + 4, none⟩ = some (.int .i64 eq) := hc 4 _ rfl
 subst hAe
 clear hc hx hbe
 have HDO := iD (gd An Ad A5 As' Al' Ap' Ao nn cn nd cd n5 c5 n' c' nl' cl' np' cp' mo cx' ob ns ds stk t out co #[.string nm, .slice (some ⟨be, oe, none⟩) nx cx] i ek ed en ep eq w wr HH.out.h.la HH.out.h.hn HH.out.h.hd HH.out.h.sn HH.out.h.sd H5.out HOT.out HOK.out.2.1 HSP.out (by omega) (by omega) HRM.out)
 go_wp2_with fail
 clear c0 c1 c2' c3' c4' p1
 refine HDO.out.mono ?_
 rintro e w9 (⟨hst, rfl, hR9⟩ | ⟨hst, rfl, B2, B3, B4, B5, m2, z2, m3, z3, m4, z4, mo', dx, hR9, hmo'⟩)
 ·have HRE : Hid ((out, t, i) = R) := by unfold Hid; rw [← HR.out, pC HX.out hst]
  have HRM9 := iD hR9.out
  clear hR9 hst HRM HDO
  go_upto_region 10 with (fail)
  have hw := HRM9.out.hob
  have HPZ : Hid (Blk (((w9.setCell ⟨w.heap.size + 5, 0, none⟩ (.int .i64 co)).setCell ⟨w.heap.size + 5, 1, none⟩ (.slice Al' nl' cl')).setCell ⟨w.heap.size + 5, 2, none⟩ (.slice Ap' np' cp')).drew ob 45 #[.slice Ao mo cx'] ∧ Blk (((w9.setCell ⟨w.heap.size + 5, 0, none⟩ (.int .i64 co)).setCell ⟨w.heap.size + 5, 1, none⟩ (.slice Al' nl' cl')).setCell ⟨w.heap.size + 5, 2, none⟩ (.slice Ap' np' cp')).drew (w.heap.size + 1) 22 #[.slice As' n' c'] ∧ Blk (((w9.setCell ⟨w.heap.size + 5, 0, none⟩ (.int .i64 co)).setCell ⟨w.heap.size + 5, 1, none⟩ (.slice Al' nl' cl')).setCell ⟨w.heap.size + 5, 2, none⟩ (.slice Ap' np' cp')).drew (w.heap.size + 2) 37 #[.int .i64 co, .slice Al' nl' cl', .slice Ap' np' cp']) := ⟨(yG HRM9.out.bo (by omega)).drw, (yG HRM9.out.b1 (by omega)).drw, (yG HRM9.out.b2 (by omega)).drw⟩
  have HFE : Hid (Blk (((w9.setCell ⟨w.heap.size + 5, 0, none⟩ (.int .i64 co)).setCell ⟨w.heap.size + 5, 1, none⟩ (.slice Al' nl' cl')).setCell ⟨w.heap.size + 5, 2, none⟩ (.slice Ap' np' cp')).drew (w.heap.size + 5) 37 #[.int .i64 co, .slice Al' nl' cl', .slice Ap' np' cp'] ∧ Below w.heap.size w (((w9.setCell ⟨w.heap.size + 5, 0, none⟩ (.int .i64 co)).setCell ⟨w.heap.size + 5, 1, none⟩ (.slice Al' nl' cl')).setCell ⟨w.heap.size + 5, 2, none⟩ (.slice Ap' np' cp')).drew) := ⟨(((HRM9.out.b5.set 0 _).set 1 _).set 2 _).drw, (((HRM9.out.bl.setCell (by simp) _).setCell (by simp) _).setCell (by simp) _).drew⟩
  have HAT : Hid (vG (((w9.setCell ⟨w.heap.size + 5, 0, none⟩ (.int .i64 co)).setCell ⟨w.heap.size + 5, 1, none⟩ (.slice Al' nl' cl')).setCell ⟨w.heap.size + 5, 2, none⟩ (.slice Ap' np' cp')).drew Ao As' Al' Ap' mo cx' n' c' nl' cl' np' cp' out t) := by
   have sl : ∀ {A : Option Addr} {m d size : Nat} {xs : List Value}, Ke w ob Ao A m → Sl w9 w9.heap.size size A m d xs → Sl (((w9.setCell ⟨w.heap.size + 5, 0, none⟩ (.int .i64 co)).setCell ⟨w.heap.size + 5, 1, none⟩ (.slice Al' nl' cl')).setCell ⟨w.heap.size + 5, 2, none⟩ (.slice Ap' np' cp')) (((w9.setCell ⟨w.heap.size + 5, 0, none⟩ (.int .i64 co)).setCell ⟨w.heap.size + 5, 1, none⟩ (.slice Al' nl' cl')).setCell ⟨w.heap.size + 5, 2, none⟩ (.slice Ap' np' cp')).heap.size size A m d xs := fun {A m d size xs} hk hs => by
    have hz : (((w9.setCell ⟨w.heap.size + 5, 0, none⟩ (.int .i64 co)).setCell ⟨w.heap.size + 5, 1, none⟩ (.slice Al' nl' cl')).setCell ⟨w.heap.size + 5, 2, none⟩ (.slice Ap' np' cp')).heap.size = w9.heap.size := by simp [World.setCell]
    rw [hz]
    rcases Nat.eq_zero_or_pos m with hm | hm
    ·exact ⟨hs.1, hs.2.1, hs.2.2.1, hs.2.2.2.1, fun h => absurd h (by omega)⟩
    ·have e1 : ∀ b off, A = some ⟨b, off, none⟩ → b ≠ w.heap.size + 5 := fun b off e => by have := (hk hm b off e).1; omega
     exact ((hs.ne e1).ne e1).ne e1
   have ow : Sl (((w9.setCell ⟨w.heap.size + 5, 0, none⟩ (.int .i64 co)).setCell ⟨w.heap.size + 5, 1, none⟩ (.slice Al' nl' cl')).setCell ⟨w.heap.size + 5, 2, none⟩ (.slice Ap' np' cp')) (((w9.setCell ⟨w.heap.size + 5, 0, none⟩ (.int .i64 co)).setCell ⟨w.heap.size + 5, 1, none⟩ (.slice Al' nl' cl')).setCell ⟨w.heap.size + 5, 2, none⟩ (.slice Ap' np' cp')).heap.size 2 Ao mo cx' (out.flatMap Fn.cells) := by
    have h1 := wi (x := w.heap.size + 5) (i := 2) (u := .slice Ap' np' cp') (wi (x := w.heap.size + 5) (i := 1) (u := .slice Al' nl' cl') (wi (x := w.heap.size + 5) (i := 0) (u := .int .i64 co) HRM9.out.o (by omega)) (by omega)) (by omega)
    exact Sl.of_own h1
   exact ⟨ow, sl HRM9.out.ks HRM9.out.s, sl HRM9.out.kl HRM9.out.l, sl HRM9.out.kp HRM9.out.p⟩
  have d0 := HRM9.out.b5.cell 0
  have d1 := HRM9.out.b5.cell 1
  have d2 := HRM9.out.b5.cell 2
  have y0 := HRM9.out.b5.frozen 0
  have y1 := HRM9.out.b5.frozen 1
  have y2 := HRM9.out.b5.frozen 2
  refine zC (S := fun W' => W'.cell? ⟨ob, 0, none⟩ = some (.slice Ao mo cx') ∧ W'.cell? ⟨w.heap.size + 1, 0, none⟩ = some (.slice As' n' c') ∧ W'.cell? ⟨w.heap.size + 2, 0, none⟩ = some (.int .i64 co) ∧ W'.cell? ⟨w.heap.size + 2, 1, none⟩ = some (.slice Al' nl' cl') ∧ W'.cell? ⟨w.heap.size + 2, 2, none⟩ = some (.slice Ap' np' cp')) (J := [7, 8]) (by kernel_rfl) ?_ (fun AA => ?_)
  ·exact ⟨HRM9.out.bo.cell 0, HRM9.out.b1.cell 0, HRM9.out.b2.cell 0, HRM9.out.b2.cell 1, HRM9.out.b2.cell 2⟩
  try dsimp only at AA
  refine tx 0 50 ?_ (mf 9 1) ?_ AA ?_
  rotate_left
  ·(intro w hSw; (try dsimp only at hSw); have u0 := hSw.1; go_simp; try with_reducible rfl)
  try simp only [Act.put, sA, sB, sC]
  refine tx 1 51 ?_ (mf 9 2) ?_ AA ?_
  rotate_left
  ·(intro w hSw; (try dsimp only at hSw); have u0 := hSw.2.1; go_simp; try with_reducible rfl)
  try simp only [Act.put, sA, sB, sC]
  refine tx 2 52 ?_ (mf 9 3) ?_ AA ?_
  rotate_left
  ·(intro w hSw; (try dsimp only at hSw); obtain ⟨-, -, u0, u1, u2⟩ := hSw; go_simp; try with_reducible rfl)
  try simp only [Act.put, sA, sB, sC]
  refine tk 3 53 (mf 9 4) AA ?_
  refine tk 4 10 (mf 9 5) AA ?_
  refine tk 5 11 (mf 9 6) AA ?_
  refine tb 6 (mf 9 7) fun K hK => ?_
  go_simp
  refine hK.out _ _ (fun _ => ?_) (fun AA' => ?_)
  ·exact ⟨HPZ.out.1.cell 0, HPZ.out.2.1.cell 0, HPZ.out.2.2.cell 0, HPZ.out.2.2.cell 1, HPZ.out.2.2.cell 2⟩
  replace AA := AA' rfl
  clear AA' hK K
  try dsimp only at AA
  refine tb 7 (mf 9 8) fun K hK => ?_
  go_simp
  refine hK.out _ _ (fun h => by cases h) (fun _ => ?_)
  try clear AA
  clear hK K
  refine tb 8 (mf 9 9) fun K hK => ?_
  go_simp
  refine hK.out _ _ (fun h => by cases h) (fun _ => ?_)
  try clear AA
  clear hK K
  refine zA (by kernel_rfl) ?_ _
  clear d0 d1 d2 y0 y1 y2
  go_wp2_with fail
  generalize World.drew (World.setCell (World.setCell (World.setCell w9 _ _) _ _) _ _) = z at *
  have q0 := HFE.out.1.c0
  have q1 := HFE.out.1.c1
  have q2 := HFE.out.1.c2
  exact bodyPost_ret (v := .tuple #[.slice Ao mo cx', .slice As' n' c', .agg #[.int .i64 co, .slice Al' nl' cl', .slice Ap' np' cp'], .int .i64 (i : Nat), .int .i64 0]) (by simp [results, Tryz.results40, go_sem, q0, q1, q2]) rfl ⟨.inr ⟨HEE.out.symm, _, _, _, _, _, _, _, _, _, _, _, _, by rw [← HRR.out, ← HRE.out], by rw [← HRR.out, ← HRE.out]; exact HAT⟩, HFE.out.2⟩
 obtain ⟨so, hso⟩ : ∃ so, so = zd ns ds co t ⟨ek, ed, en, ep, eq⟩ := ⟨_, rfl⟩
 have HOT9 : Hid (tJ ns ds so.t) := by unfold Hid; rw [hso]; exact iF HOT.out HSP.out
 rw [← hso] at hR9 ⊢
 have HRM9 := iD hR9.out
 clear hR9 HRM HDO
 rcases hk : so.ok with _ | _
 ·have HRE : Hid ((out ++ zi i so.h, so.t, i) = R) := by unfold Hid; rw [← HR.out, oV HX.out hst (by rw [← hso]; exact hk), ← hso]
  clear hst hso hk
  go_upto_region 10 with (fail)
  have hw := HRM9.out.hob
  have HPZ : Hid (Blk (((w9.setCell ⟨w.heap.size + 5, 0, none⟩ (.int .i64 co)).setCell ⟨w.heap.size + 5, 1, none⟩ (.slice B3 m3 z3)).setCell ⟨w.heap.size + 5, 2, none⟩ (.slice B4 m4 z4)).drew ob 45 #[.slice B5 mo' dx] ∧ Blk (((w9.setCell ⟨w.heap.size + 5, 0, none⟩ (.int .i64 co)).setCell ⟨w.heap.size + 5, 1, none⟩ (.slice B3 m3 z3)).setCell ⟨w.heap.size + 5, 2, none⟩ (.slice B4 m4 z4)).drew (w.heap.size + 1) 22 #[.slice B2 m2 z2] ∧ Blk (((w9.setCell ⟨w.heap.size + 5, 0, none⟩ (.int .i64 co)).setCell ⟨w.heap.size + 5, 1, none⟩ (.slice B3 m3 z3)).setCell ⟨w.heap.size + 5, 2, none⟩ (.slice B4 m4 z4)).drew (w.heap.size + 2) 37 #[.int .i64 co, .slice B3 m3 z3, .slice B4 m4 z4]) := ⟨(yG HRM9.out.bo (by omega)).drw, (yG HRM9.out.b1 (by omega)).drw, (yG HRM9.out.b2 (by omega)).drw⟩
  have HFE : Hid (Blk (((w9.setCell ⟨w.heap.size + 5, 0, none⟩ (.int .i64 co)).setCell ⟨w.heap.size + 5, 1, none⟩ (.slice B3 m3 z3)).setCell ⟨w.heap.size + 5, 2, none⟩ (.slice B4 m4 z4)).drew (w.heap.size + 5) 37 #[.int .i64 co, .slice B3 m3 z3, .slice B4 m4 z4] ∧ Below w.heap.size w (((w9.setCell ⟨w.heap.size + 5, 0, none⟩ (.int .i64 co)).setCell ⟨w.heap.size + 5, 1, none⟩ (.slice B3 m3 z3)).setCell ⟨w.heap.size + 5, 2, none⟩ (.slice B4 m4 z4)).drew) := ⟨(((HRM9.out.b5.set 0 _).set 1 _).set 2 _).drw, (((HRM9.out.bl.setCell (by simp) _).setCell (by simp) _).setCell (by simp) _).drew⟩
  have HAT : Hid (vG (((w9.setCell ⟨w.heap.size + 5, 0, none⟩ (.int .i64 co)).setCell ⟨w.heap.size + 5, 1, none⟩ (.slice B3 m3 z3)).setCell ⟨w.heap.size + 5, 2, none⟩ (.slice B4 m4 z4)).drew B5 B2 B3 B4 mo' dx m2 z2 m3 z3 m4 z4 (out ++ zi i so.h) so.t) := by
   have sl : ∀ {A : Option Addr} {m d size : Nat} {xs : List Value}, Ke w ob B5 A m → Sl w9 w9.heap.size size A m d xs → Sl (((w9.setCell ⟨w.heap.size + 5, 0, none⟩ (.int .i64 co)).setCell ⟨w.heap.size + 5, 1, none⟩ (.slice B3 m3 z3)).setCell ⟨w.heap.size + 5, 2, none⟩ (.slice B4 m4 z4)) (((w9.setCell ⟨w.heap.size + 5, 0, none⟩ (.int .i64 co)).setCell ⟨w.heap.size + 5, 1, none⟩ (.slice B3 m3 z3)).setCell ⟨w.heap.size + 5, 2, none⟩ (.slice B4 m4 z4)).heap.size size A m d xs := fun {A m d size xs} hk hs => by
    have hz : (((w9.setCell ⟨w.heap.size + 5, 0, none⟩ (.int .i64 co)).setCell ⟨w.heap.size + 5, 1, none⟩ (.slice B3 m3 z3)).setCell ⟨w.heap.size + 5, 2, none⟩ (.slice B4 m4 z4)).heap.size = w9.heap.size := by simp [World.setCell]
    rw [hz]
    rcases Nat.eq_zero_or_pos m with hm | hm
    ·exact ⟨hs.1, hs.2.1, hs.2.2.1, hs.2.2.2.1, fun h => absurd h (by omega)⟩
    ·have e1 : ∀ b off, A = some ⟨b, off, none⟩ → b ≠ w.heap.size + 5 := fun b off e => by have := (hk hm b off e).1; omega
     exact ((hs.ne e1).ne e1).ne e1
   have ow : Sl (((w9.setCell ⟨w.heap.size + 5, 0, none⟩ (.int .i64 co)).setCell ⟨w.heap.size + 5, 1, none⟩ (.slice B3 m3 z3)).setCell ⟨w.heap.size + 5, 2, none⟩ (.slice B4 m4 z4)) (((w9.setCell ⟨w.heap.size + 5, 0, none⟩ (.int .i64 co)).setCell ⟨w.heap.size + 5, 1, none⟩ (.slice B3 m3 z3)).setCell ⟨w.heap.size + 5, 2, none⟩ (.slice B4 m4 z4)).heap.size 2 B5 mo' dx ((out ++ zi i so.h).flatMap Fn.cells) := by
    have h1 := wi (x := w.heap.size + 5) (i := 2) (u := .slice B4 m4 z4) (wi (x := w.heap.size + 5) (i := 1) (u := .slice B3 m3 z3) (wi (x := w.heap.size + 5) (i := 0) (u := .int .i64 co) HRM9.out.o (by omega)) (by omega)) (by omega)
    exact Sl.of_own h1
   exact ⟨ow, sl HRM9.out.ks HRM9.out.s, sl HRM9.out.kl HRM9.out.l, sl HRM9.out.kp HRM9.out.p⟩
  have d0 := HRM9.out.b5.cell 0
  have d1 := HRM9.out.b5.cell 1
  have d2 := HRM9.out.b5.cell 2
  have y0 := HRM9.out.b5.frozen 0
  have y1 := HRM9.out.b5.frozen 1
  have y2 := HRM9.out.b5.frozen 2
  refine zC (S := fun W' => W'.cell? ⟨ob, 0, none⟩ = some (.slice B5 mo' dx) ∧ W'.cell? ⟨w.heap.size + 1, 0, none⟩ = some (.slice B2 m2 z2) ∧ W'.cell? ⟨w.heap.size + 2, 0, none⟩ = some (.int .i64 co) ∧ W'.cell? ⟨w.heap.size + 2, 1, none⟩ = some (.slice B3 m3 z3) ∧ W'.cell? ⟨w.heap.size + 2, 2, none⟩ = some (.slice B4 m4 z4)) (J := [7, 8]) (by kernel_rfl) ?_ (fun AA => ?_)
  ·exact ⟨HRM9.out.bo.cell 0, HRM9.out.b1.cell 0, HRM9.out.b2.cell 0, HRM9.out.b2.cell 1, HRM9.out.b2.cell 2⟩
  try dsimp only at AA
  refine tx 0 50 ?_ (mf 9 1) ?_ AA ?_
  rotate_left
  ·(intro w hSw; (try dsimp only at hSw); have u0 := hSw.1; go_simp; try with_reducible rfl)
  try simp only [Act.put, sA, sB, sC]
  refine tx 1 51 ?_ (mf 9 2) ?_ AA ?_
  rotate_left
  ·(intro w hSw; (try dsimp only at hSw); have u0 := hSw.2.1; go_simp; try with_reducible rfl)
  try simp only [Act.put, sA, sB, sC]
  refine tx 2 52 ?_ (mf 9 3) ?_ AA ?_
  rotate_left
  ·(intro w hSw; (try dsimp only at hSw); obtain ⟨-, -, u0, u1, u2⟩ := hSw; go_simp; try with_reducible rfl)
  try simp only [Act.put, sA, sB, sC]
  refine tk 3 53 (mf 9 4) AA ?_
  refine tk 4 10 (mf 9 5) AA ?_
  refine tk 5 11 (mf 9 6) AA ?_
  refine tb 6 (mf 9 7) fun K hK => ?_
  go_simp
  refine hK.out _ _ (fun _ => ?_) (fun AA' => ?_)
  ·exact ⟨HPZ.out.1.cell 0, HPZ.out.2.1.cell 0, HPZ.out.2.2.cell 0, HPZ.out.2.2.cell 1, HPZ.out.2.2.cell 2⟩
  replace AA := AA' rfl
  clear AA' hK K
  try dsimp only at AA
  refine tb 7 (mf 9 8) fun K hK => ?_
  go_simp
  refine hK.out _ _ (fun h => by cases h) (fun _ => ?_)
  try clear AA
  clear hK K
  refine tb 8 (mf 9 9) fun K hK => ?_
  go_simp
  refine hK.out _ _ (fun h => by cases h) (fun _ => ?_)
  try clear AA
  clear hK K
  refine zA (by kernel_rfl) ?_ _
  clear d0 d1 d2 y0 y1 y2
  go_wp2_with fail
  generalize World.drew (World.setCell (World.setCell (World.setCell w9 _ _) _ _) _ _) = z at *
  have q0 := HFE.out.1.c0
  have q1 := HFE.out.1.c1
  have q2 := HFE.out.1.c2
  exact bodyPost_ret (v := .tuple #[.slice B5 mo' dx, .slice B2 m2 z2, .agg #[.int .i64 co, .slice B3 m3 z3, .slice B4 m4 z4], .int .i64 (i : Nat), .int .i64 0]) (by simp [results, Tryz.results40, go_sem, q0, q1, q2]) rfl ⟨.inr ⟨HEE.out.symm, _, _, _, _, _, _, _, _, _, _, _, _, by rw [← HRR.out, ← HRE.out], by rw [← HRR.out, ← HRE.out]; exact HAT⟩, HFE.out.2⟩
 have HRN : Hid (yj ns ds co stk (i + 1) (out ++ zi i so.h) so.t (xs.drop (i + 1)) = R) := by unfold Hid; rw [← HR.out, pD HX.out hst (by rw [← hso]; exact hk), ← hso]
 clear hst hso hk
 go_wp2_with fail
 refine Handed.intro (nx - (i + 1)) (by omega) (hJ1 _ _ _ (yw.back 18 ?_ (by kernel_rfl)))
 dsimp only [gt]
 exact ⟨i + 1, _, _, _, _, _, _, _, _, _, _, _, _, so.t, out ++ zi i so.h, by go_num, by omega, rfl, by omega, HRM9, HOT9, HRN⟩
end Go.Proofs.YtkkobemhbicjgaaGreatDoor
