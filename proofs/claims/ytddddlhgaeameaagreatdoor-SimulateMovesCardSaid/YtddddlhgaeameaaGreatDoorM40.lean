import Derived.Test.YtddddlhgaeameaaGreatDoorM39
set_option maxRecDepth 100000
set_option maxHeartbeats 16000000
namespace Go.Proofs.YtddddlhgaeameaaGreatDoor
section
open Go.RowKit
theorem Sl.ne2 {w : World} {B size n c x i : Nat} {A : Option Addr} {xs : List Value} {u : Value} (h : Sl w B size A n c xs) (hx : ∀ b off, A = some ⟨b, off, none⟩ → b < B → b ≠ x) : Sl (w.setCell ⟨x, i, none⟩ u) B size A n c xs :=
 ⟨h.1, h.2.1, h.2.2.1, h.2.2.2.1, fun hn => by
  obtain ⟨b, off, rfl, hb, hc⟩ := h.2.2.2.2 hn
  exact ⟨b, off, rfl, hb, fun j v hv => (World.cell?_setCell_far w ⟨x, i, none⟩ ⟨b, off + j, none⟩ u (fun e => hx b off rfl hb e.symm)).trans (hc j v hv)⟩⟩
theorem Blk.drw {w : World} {g : Nat} {t : TypeId} {cs : Array Value} (h : Blk w g t cs) : Blk w.drew g t cs := h.below (Below.refl w.heap.size w).drew h.lt
def Off (w : World) (x : Nat) (A : Option Addr) : Prop := ∀ b off, A = some ⟨b, off, none⟩ → b < w.heap.size → b ≠ x
structure tu (w : World) (x : Nat) (A1 A2 Al Ap : Option Addr) : Prop where
 h : Off w x A1
 s : Off w x A2
 l : Off w x Al
 p : Off w x Ap
theorem xH.set3 {w : World} {A1 A2 Al Ap : Option Addr} {n1 c1 n2 c2 nl cl np cp x : Nat} {o : So} {a b d : Value} (h : xH w A1 A2 Al Ap n1 c1 n2 c2 nl cl np cp o) (hx : tu w x A1 A2 Al Ap) : xH (((w.setCell ⟨x, 0, none⟩ a).setCell ⟨x, 1, none⟩ b).setCell ⟨x, 2, none⟩ d) A1 A2 Al Ap n1 c1 n2 c2 nl cl np cp o :=
 ⟨(((h.h.ne2 hx.h).ne2 hx.h).ne2 hx.h).more (by simp [World.setCell]), (((h.s.ne2 hx.s).ne2 hx.s).ne2 hx.s).more (by simp [World.setCell]), (((h.l.ne2 hx.l).ne2 hx.l).ne2 hx.l).more (by simp [World.setCell]), (((h.p.ne2 hx.p).ne2 hx.p).ne2 hx.p).more (by simp [World.setCell])⟩
theorem xH.set3low {w w' : World} {A1 A2 Al Ap : Option Addr} {n1 c1 n2 c2 nl cl np cp x : Nat} {o : So} {a b d : Value} (h : xH w A1 A2 Al Ap n1 c1 n2 c2 nl cl np cp o) (hb : Below w.heap.size w w') (hx : w.heap.size ≤ x) : xH (((w'.setCell ⟨x, 0, none⟩ a).setCell ⟨x, 1, none⟩ b).setCell ⟨x, 2, none⟩ d) A1 A2 Al Ap n1 c1 n2 c2 nl cl np cp o := by
 have hz : w.heap.size ≤ (((w'.setCell ⟨x, 0, none⟩ a).setCell ⟨x, 1, none⟩ b).setCell ⟨x, 2, none⟩ d).heap.size := by have := hb.size; simpa [World.setCell] using this
 exact ⟨((((h.h.below hb lR).setCell (p := ⟨x, 0, none⟩) hx a).setCell (p := ⟨x, 1, none⟩) hx b).setCell (p := ⟨x, 2, none⟩) hx d).more hz, ((((h.s.below hb lR).setCell (p := ⟨x, 0, none⟩) hx a).setCell (p := ⟨x, 1, none⟩) hx b).setCell (p := ⟨x, 2, none⟩) hx d).more hz, ((((h.l.below hb lR).setCell (p := ⟨x, 0, none⟩) hx a).setCell (p := ⟨x, 1, none⟩) hx b).setCell (p := ⟨x, 2, none⟩) hx d).more hz, ((((h.p.below hb lR).setCell (p := ⟨x, 0, none⟩) hx a).setCell (p := ⟨x, 1, none⟩) hx b).setCell (p := ⟨x, 2, none⟩) hx d).more hz⟩
theorem xH.later {w w' : World} {A1 A2 Al Ap : Option Addr} {n1 c1 n2 c2 nl cl np cp : Nat} {o : So} (h : xH w A1 A2 Al Ap n1 c1 n2 c2 nl cl np cp o) (hb : Below w.heap.size w w') : xH w' A1 A2 Al Ap n1 c1 n2 c2 nl cl np cp o :=
 ⟨(h.h.below hb lR).more hb.size, (h.s.below hb lR).more hb.size, (h.l.below hb lR).more hb.size, (h.p.below hb lR).more hb.size⟩
theorem yA {w : World} {base size n c x : Nat} {e t : TypeId} {A : Option Addr} {xs : List Value} {cs : Array Value} (h : w.ownsRow base e size (.slice A n c) n xs) (hx : Blk w x t cs) (ht : e ≠ t) : ∀ b off, A = some ⟨b, off, none⟩ → b ≠ x := by
 intro b off e1 e2
 rcases h.2 with ⟨h0, hn⟩ | ⟨g, cap, cur, h0, hg, hh, h1, h2, h3, h4⟩
 ·injection h0 with h0; rw [e1] at h0; cases h0
 ·injection h0 with h0; rw [e1] at h0; injection h0 with h0; injection h0 with h0 _
  subst h0; subst e2
  unfold Blk at hx
  rw [hx] at hh
  injection hh with hh; injection hh with hh1 hh2; exact ht hh2.symm
def jO (w : World) (ns : List Nd) (ds : List Dv) (s : List Int) (co : Int) (ls : List Lk) (pr : List Int) (x : Sp) (e : Ending) (w' : World) : Prop :=
 (yw ns ds s co ls pr ⟨#[80]⟩ [x] ≠ 0 ∧ e = .returned (.tuple #[.slice none 0 0, .slice none 0 0, .agg #[.int .i64 0, .slice none 0 0, .slice none 0 0], .bool false, .int .i64 (yw ns ds s co ls pr ⟨#[80]⟩ [x])]) ∨
  yw ns ds s co ls pr ⟨#[80]⟩ [x] = 0 ∧ ∃ (A1 A2 Al Ap : Option Addr) (n1 c1 n2 c2 nl cl np cp : Nat), e = .returned (.tuple #[.slice A1 n1 c1, .slice A2 n2 c2, .agg #[.int .i64 co, .slice Al nl cl, .slice Ap np cp], .bool (zf ns ds co ⟨s, ls, pr⟩ x).ok, .int .i64 0]) ∧ Hid (xH w' A1 A2 Al Ap n1 c1 n2 c2 nl cl np cp (zf ns ds co ⟨s, ls, pr⟩ x))) ∧ Hid (Below w.heap.size w w')
structure oU (B : Nat) (A1 A2 Al Ap : Option Addr) : Prop where
 h : ∀ b off, A1 = some ⟨b, off, none⟩ → B ≤ b
 s : ∀ b off, A2 = some ⟨b, off, none⟩ → B ≤ b
 l : ∀ b off, Al = some ⟨b, off, none⟩ → B ≤ b
 p : ∀ b off, Ap = some ⟨b, off, none⟩ → B ≤ b
theorem wO {w : World} {base size n c : Nat} {e : TypeId} {A : Option Addr} {xs : List Value} (h : w.ownsRow base e size (.slice A n c) n xs) : ∀ b off, A = some ⟨b, off, none⟩ → base ≤ b := by
 intro b off e1
 have hl := h.lt
 rcases h.2 with ⟨h0, -⟩ | ⟨g, cap, cur, h0, hg, -⟩
 ·injection h0 with h0; rw [e1] at h0; cases h0
 ·injection h0 with h0; rw [e1] at h0; injection h0 with h0; injection h0 with h0 _; subst h0; exact (hl b (by rw [e1]; rfl)).1
def kQ (w : World) (ns : List Nd) (ds : List Dv) (s : List Int) (co : Int) (ls : List Lk) (pr : List Int) (x : Sp) (e : Ending) (w' : World) : Prop :=
 (yw ns ds s co ls pr ⟨#[80]⟩ [x] ≠ 0 ∧ e = .returned (.tuple #[.slice none 0 0, .slice none 0 0, .agg #[.int .i64 0, .slice none 0 0, .slice none 0 0], .bool false, .int .i64 (yw ns ds s co ls pr ⟨#[80]⟩ [x])]) ∨
  yw ns ds s co ls pr ⟨#[80]⟩ [x] = 0 ∧ ∃ (A1 A2 Al Ap : Option Addr) (n1 c1 n2 c2 nl cl np cp : Nat), e = .returned (.tuple #[.slice A1 n1 c1, .slice A2 n2 c2, .agg #[.int .i64 co, .slice Al nl cl, .slice Ap np cp], .bool (zf ns ds co ⟨s, ls, pr⟩ x).ok, .int .i64 0]) ∧ Hid (xH w' A1 A2 Al Ap n1 c1 n2 c2 nl cl np cp (zf ns ds co ⟨s, ls, pr⟩ x)) ∧ Hid (oU w.heap.size A1 A2 Al Ap)) ∧ Hid (Below w.heap.size w w')
theorem jf {ns : List Nd} {ds : List Dv} {s : List Int} {co : Int} {ls : List Lk} {pr : List Int} {nm : ByteArray} {x : Sp} (h : yw ns ds s co ls pr nm [x] = 0) : zc ns.length ds.length x = 0 := uS (sZ h).2.2.2 x (by simp)
theorem kR (An Ad As Al Ap : Option Addr) (nn cn nd cd n c nl cl np cp : Nat) (ns : List Nd) (ds : List Dv) (s : List Int) (ls : List Lk) (pr : List Int) (co k d no p q : Int) (w : World) (h : yp w An Ad As Al Ap nn cn nd cd n c nl cl np cp ns ds s ls pr) :
 Calls Tryz.prog 16 #[.agg #[.slice An nn cn, .slice Ad nd cd], .slice As n c, .agg #[.int .i64 co, .slice Al nl cl, .slice Ap np cp], .agg #[.int .i64 k, .int .i64 d, .int .i64 no, .int .i64 p, .int .i64 q]] w (kQ w ns ds s co ls pr ⟨k, d, no, p, q⟩) := by
 obtain ⟨hln, hld, hls⟩ := h.ln
 have hll : ls.length = nl := h.hl.len (fun _ => rfl) (by decide)
 have hlp : pr.length = np := h.hp.len (fun _ => rfl) (by decide)
 have HH := iD h
 have HB := iD (Bst.new w #[.slice An nn cn, .slice Ad nd cd] #[.int .i64 co, .slice Al nl cl, .slice Ap np cp] #[.int .i64 k, .int .i64 d, .int .i64 no, .int .i64 p, .int .i64 q])
 clear h
 go_enter Tryz.func16, Tryz.ntmps16
 go_upto_region 1 with (fail)
 generalize World.alloc (World.alloc (World.alloc (World.alloc w _) _) _) _ = W at *
 rw [show w.heap.size + 1 + 1 = w.heap.size + 2 from rfl, show w.heap.size + 2 + 1 = w.heap.size + 3 from rfl]
 refine zF (S := fun W' => Bst w #[.slice An nn cn, .slice Ad nd cd] #[.int .i64 co, .slice Al nl cl, .slice Ap np cp] #[.int .i64 k, .int .i64 d, .int .i64 no, .int .i64 p, .int .i64 q] W') (J := []) (by kernel_rfl) ?_ (fun AA => ?_)
 ·exact HB.out.later (Below.refl _ _).drew
 try dsimp only at AA
 refine tx 0 18 ?_ (mf 7 1) ?_ AA ?_
 rotate_left
 ·(intro w hSw; (try dsimp only at hSw); obtain ⟨⟨k0, k1⟩, ⟨g0, g1, g2⟩, s0, s1, s2, s3, s4⟩ := hSw.cells; go_simp; try with_reducible rfl)
 try simp only [Act.put, sA, sB, sC]
 refine tk 1 19 (mf 7 2) AA ?_
 refine tx 2 20 ?_ (mf 7 3) ?_ AA ?_
 rotate_left
 ·(intro w hSw; (try dsimp only at hSw); obtain ⟨⟨k0, k1⟩, ⟨g0, g1, g2⟩, s0, s1, s2, s3, s4⟩ := hSw.cells; go_simp; try with_reducible rfl)
 try simp only [Act.put, sA, sB, sC]
 refine tx 3 21 ?_ (mf 7 4) ?_ AA ?_
 rotate_left
 ·(intro w hSw; (try dsimp only at hSw); obtain ⟨⟨k0, k1⟩, ⟨g0, g1, g2⟩, s0, s1, s2, s3, s4⟩ := hSw.cells; go_simp; try with_reducible rfl)
 try simp only [Act.put, sA, sB, sC]
 refine tb 4 (mf 7 5) fun K hK => ?_
 (go_simp; refine (sa k d no p q _).mono ?_; rintro e w1 ⟨sb, rfl, hs1, hb1⟩; have HS1 := iD hs1.out; have HB1 := iD hb1.out; clear hs1 hb1; go_simp)
 refine hK.out _ _ (fun _ => ?_) (fun AA' => ?_)
 ·exact AA.later HB1.out
 replace AA := AA' rfl
 clear AA' hK K
 try dsimp only at AA
 refine tb 5 (mf 7 6) fun K hK => ?_
 (go_simp; refine (tg An Ad As Al Ap (some ⟨sb, 0, none⟩) nn cn nd cd n c nl cl np cp 1 1 ns ds s ls pr co ⟨#[80]⟩ [⟨k, d, no, p, q⟩] w1 ⟨HH.out.below AA.bl, by simpa using HS1.out, by decide⟩).mono ?_; rintro e w2 ⟨rfl, hb2⟩; have HB2 := iD hb2; clear hb2; go_simp)
 refine hK.out _ _ (fun _ => ?_) (fun AA' => ?_)
 ·exact AA.later HB2.out
 replace AA := AA' rfl
 clear AA' hK K
 try dsimp only at AA
 refine tk 6 13 (mf 7 7) AA ?_
 refine zC (by kernel_rfl) ?_ _
 obtain ⟨E, hE⟩ : ∃ E, E = yw ns ds s co ls pr ⟨#[80]⟩ [⟨k, d, no, p, q⟩] := ⟨_, rfl⟩
 rw [← hE]
 have HBE := iD AA
 have HEE := iD hE
 clear AA HB HB1 HB2 HS1 hE
 by_cases he : E = 0; rotate_left
 ·have q1 : (E != 0) = true := by simpa using he
  have HNZ := iD he
  clear he
  have d0 := HBE.out.b3.cell 0
  have d1 := HBE.out.b3.cell 1
  have d2 := HBE.out.b3.cell 2
  have y0 := HBE.out.b3.frozen 0
  have y1 := HBE.out.b3.frozen 1
  have y2 := HBE.out.b3.frozen 2
  have HF : Hid (Blk (((w2.setCell ⟨w.heap.size + 3, 0, none⟩ (.int .i64 0)).setCell ⟨w.heap.size + 3, 1, none⟩ (.slice none 0 0)).setCell ⟨w.heap.size + 3, 2, none⟩ (.slice none 0 0)) (w.heap.size + 3) 29 #[.int .i64 0, .slice none 0 0, .slice none 0 0] ∧ Below w.heap.size w (((w2.setCell ⟨w.heap.size + 3, 0, none⟩ (.int .i64 0)).setCell ⟨w.heap.size + 3, 1, none⟩ (.slice none 0 0)).setCell ⟨w.heap.size + 3, 2, none⟩ (.slice none 0 0))) := ⟨((HBE.out.b3.set 0 _).set 1 _).set 2 _, ((HBE.out.bl.setCell (by simp) _).setCell (by simp) _).setCell (by simp) _⟩
  go_wp2_with fail
  clear d0 d1 d2 y0 y1 y2
  generalize World.setCell (World.setCell (World.setCell w2 _ _) _ _) _ _ = z at *
  have q0 := HF.out.1.c0
  have q1 := HF.out.1.c1
  have q2 := HF.out.1.c2
  exact bodyPost_ret (v := .tuple #[.slice none 0 0, .slice none 0 0, .agg #[.int .i64 0, .slice none 0 0, .slice none 0 0], .bool false, .int .i64 E]) (by simp [results, Tryz.results16, go_sem, q0, q1, q2]) rfl ⟨.inl ⟨by rw [← HEE.out]; exact HNZ.out, by rw [← HEE.out]⟩, HF.out.2⟩
 subst he
 have HOK := iD (sZ HEE.out.symm)
 have HSP := iD (jf HEE.out.symm)
 have hnd : nd ≤ 64 := by have := (wL.of (za HOK.out.1.s).1).dl; omega
 have hnn : nn ≤ 32 := by have := (wL.of (za HOK.out.1.s).1).nl; omega
 have hnl : nl ≤ 128 := by have := (xA HOK.out.1.l).1; dsimp only at this; omega
 have hnp : np ≤ 32 := by have := se HOK.out.1.p; dsimp only at this; omega
 have hsl := (za HOK.out.1.s).2
 dsimp only at hsl
 go_upto_region 4 with (fail)
 have HZ : Hid (w.heap.size + 3 < w2.heap.size) := HBE.out.b3.lt
 refine zF (S := fun W' => Bst w #[.slice An nn cn, .slice Ad nd cd] #[.int .i64 co, .slice Al nl cl, .slice Ap np cp] #[.int .i64 k, .int .i64 d, .int .i64 no, .int .i64 p, .int .i64 q] W') (J := [16]) (by kernel_rfl) ?_ (fun AA => ?_)
 ·exact HBE.out.later (Below.refl _ _).drew
 try dsimp only at AA
 refine tx 0 29 ?_ (mf 17 1) ?_ AA ?_
 rotate_left
 ·(intro w hSw; (try dsimp only at hSw); obtain ⟨⟨k0, k1⟩, ⟨g0, g1, g2⟩, s0, s1, s2, s3, s4⟩ := hSw.cells; go_simp; try with_reducible rfl)
 try simp only [Act.put, sA, sB, sC]
 refine tk 1 30 (mf 17 2) AA ?_
 refine tx 3 32 ?_ (ma 17 11) ?_ AA ?_
 rotate_left
 ·(intro w hSw; (try dsimp only at hSw); obtain ⟨⟨k0, k1⟩, ⟨g0, g1, g2⟩, s0, s1, s2, s3, s4⟩ := hSw.cells; go_simp; try with_reducible rfl)
 try simp only [Act.put, sA, sB, sC]
 refine tx 5 34 ?_ (ma 17 43) ?_ AA ?_
 rotate_left
 ·(intro w hSw; (try dsimp only at hSw); obtain ⟨⟨k0, k1⟩, ⟨g0, g1, g2⟩, s0, s1, s2, s3, s4⟩ := hSw.cells; go_simp; try with_reducible rfl)
 try simp only [Act.put, sA, sB, sC]
 refine xZ (i := 2) (k := 12) (ma 17 47) (ma 17 4139) (by kernel_rfl) (by kernel_rfl) (by kernel_rfl) rfl rfl (fun K hK => ?_) (fun K hK => ?_)
 ·(have HGA := iD AA.bl.size; go_simp; refine (xM As n c _ s w2.drew (HH.out.below AA.bl).hs lR (by omega)).mono ?_; rintro e w3 ⟨A2, c2, rfl, hO2, hb2⟩; rw [hls] at hO2 ⊢; have HO2 := iD hO2.out; have HBb := iD hb2.out; clear hO2 hb2; go_simp)
  refine hK.out _ _ (fun _ => ?_) (fun AA' => ?_)
  ·exact AA.later HBb.out
  replace AA := AA' rfl
  clear AA' hK K
  try dsimp only at AA
  have HZ := iD (Nat.lt_of_lt_of_le HZ.out HBb.out.size)
  clear HBb
  refine xZ (i := 4) (k := 12) (mf 17 6) (ma 17 4143) (by kernel_rfl) (by kernel_rfl) (by kernel_rfl) rfl rfl (fun K hK => ?_) (fun K hK => ?_)
  ·(have HGB := iD AA.bl.size; go_simp; refine (uC Al Ap nl cl np cp _ co ls pr w3 (HH.out.below AA.bl).hl (HH.out.below AA.bl).hp lR (by omega) (by omega)).mono ?_; rintro e w4 ⟨A3, A4, c3, c4, rfl, hO3, hO4, hb2⟩; have HO3 := iD hO3.out; have HO4 := iD hO4.out; have HBb := iD hb2.out; clear hO3 hO4 hb2; go_simp)
   refine hK.out _ _ (fun _ => ?_) (fun AA' => ?_)
   ·exact AA.later HBb.out
   replace AA := AA' rfl
   clear AA' hK K
   try dsimp only at AA
   have HZ := iD (Nat.lt_of_lt_of_le HZ.out HBb.out.size)
   have HO2 := iD (HO2.out.later HBb.out)
   clear HBb
   refine xZ (i := 6) (k := 12) (mf 17 7) (ma 17 4159) (by kernel_rfl) (by kernel_rfl) (by kernel_rfl) rfl rfl (fun K hK => ?_) (fun K hK => ?_)
   ·(go_simp; refine (yy An Ad A2 A3 A4 nn cn nd cd n c2 nl c3 np c4 ns ds s ls pr co k d no p q w4 ⟨(HH.out.below AA.bl).hn, (HH.out.below AA.bl).hd, Sl.of_own HO2.out, Sl.of_own HO3.out, Sl.of_own HO4.out, (HH.out.below AA.bl).la, (HH.out.below AA.bl).sn, (HH.out.below AA.bl).sd⟩ HOK.out.1 HOK.out.2.1 HSP.out).mono ?_; rintro e w6 ⟨B1, B2, B3, B4, m1, e1, m2, e2, m3, e3, m4, e4, rfl, hS, hF, hb2⟩; have HSO := iD hS.out; have HFR := iD hF.out; have HBb := iD hb2.out; clear hS hF hb2; go_simp)
    refine hK.out _ _ (fun _ => ?_) (fun AA' => ?_)
    ·exact AA.later HBb.out
    replace AA := AA' rfl
    clear AA' hK K
    try dsimp only at AA
    have HZV := iD HZ.out
    have HZ := iD (Nat.lt_of_lt_of_le HZ.out HBb.out.size)
    have HO2 := iD (HO2.out.later HBb.out)
    have HO3 := iD (zx HO3.out HBb.out)
    have HO4 := iD (HO4.out.later HBb.out)
    refine tk 7 28 (mf 17 8) AA ?_
    refine tk 8 36 (mf 17 9) AA ?_
    refine tk 9 37 (mf 17 10) AA ?_
    refine tk 10 38 (mf 17 11) AA ?_
    refine tk 11 39 (mf 17 12) AA ?_
    refine tb 12 (mf 17 13) fun K hK => ?_
    go_simp
    refine hK.out _ _ (fun _ => ?_) (fun AA' => ?_)
    ·exact AA.later ((Below.refl _ _).alloc lR _)
    replace AA := AA' rfl
    clear AA' hK K
    try dsimp only at AA
    have HAL : Hid (Below w6.heap.size w6 (w6.alloc (.cells #[.int .i64 0, .slice none 0 0, .slice none 0 0] 29))) := (Below.refl w6.heap.size w6).alloc lR (.cells #[.int .i64 0, .slice none 0 0, .slice none 0 0] 29)
    have HX : Hid (Blk (w6.alloc (.cells #[.int .i64 0, .slice none 0 0, .slice none 0 0] 29)) w6.heap.size 29 #[.int .i64 0, .slice none 0 0, .slice none 0 0]) := Blk.new w6 29 #[.int .i64 0, .slice none 0 0, .slice none 0 0]
    generalize World.alloc w6 _ = wa at *
    have HZ0 := iD HZ.out
    have HZ := iD (Nat.lt_of_lt_of_le HZ.out HAL.out.size)
    have HO2 := iD (HO2.out.later HAL.out)
    have HO3 := iD (zx HO3.out HAL.out)
    have HO4 := iD (HO4.out.later HAL.out)
    have HAL6 := iD HAL.out
    obtain ⟨x, hxd⟩ : ∃ x, x = w6.heap.size := ⟨_, rfl⟩
    rw [← hxd] at HX HZ0 ⊢
    have HXV : Hid (w6.heap.size ≤ x) := by unfold Hid; rw [hxd]; exact Nat.le_refl _
    clear hxd HAL
    refine tk 13 14 (mf 17 14) AA ?_
    refine tk 14 15 (mf 17 15) AA ?_
    have HTT := iD AA
    have k0 := HX.out.cell 0; have k1 := HX.out.cell 1; have k2 := HX.out.cell 2; have z0 := HX.out.frozen 0; have z1 := HX.out.frozen 1; have z2 := HX.out.frozen 2
    refine tb 15 (mf 17 16) fun K hK => ?_
    go_simp
    refine hK.out _ _ (fun _ => ?_) (fun AA' => ?_)
    ·exact ((AA.put HZ0.out).put HZ0.out).put HZ0.out
    replace AA := AA' rfl
    clear AA' hK K
    try dsimp only at AA
    refine tb 16 (mf 17 17) fun K hK => ?_
    go_simp
    refine hK.out _ _ (fun h => by cases h) (fun _ => ?_)
    try clear AA
    clear hK K
    refine zC (by kernel_rfl) ?_ _
    clear k0 k1 k2 z0 z1 z2
    have hqx : x ≠ w.heap.size + 3 := by have := HZ0.out; omega
    have HXY : Hid (Blk (((wa.setCell ⟨x, 0, none⟩ (.int .i64 co)).setCell ⟨x, 1, none⟩ (.slice B3 m3 e3)).setCell ⟨x, 2, none⟩ (.slice B4 m4 e4)) x 29 #[.int .i64 co, .slice B3 m3 e3, .slice B4 m4 e4]) := ((HX.out.set 0 _).set 1 _).set 2 _
    have HB3Y : Hid (Blk (((wa.setCell ⟨x, 0, none⟩ (.int .i64 co)).setCell ⟨x, 1, none⟩ (.slice B3 m3 e3)).setCell ⟨x, 2, none⟩ (.slice B4 m4 e4)) (w.heap.size + 3) 29 #[.int .i64 0, .slice none 0 0, .slice none 0 0]) := zh HTT.out.b3 (Ne.symm hqx)
    have HBLY : Hid (Below w.heap.size w (((wa.setCell ⟨x, 0, none⟩ (.int .i64 co)).setCell ⟨x, 1, none⟩ (.slice B3 m3 e3)).setCell ⟨x, 2, none⟩ (.slice B4 m4 e4))) := ((HTT.out.bl.setCell (by show w.heap.size ≤ x; have := HZ0.out; omega) _).setCell (by show w.heap.size ≤ x; have := HZ0.out; omega) _).setCell (by show w.heap.size ≤ x; have := HZ0.out; omega) _
    have HSY : Hid (xH (((wa.setCell ⟨x, 0, none⟩ (.int .i64 co)).setCell ⟨x, 1, none⟩ (.slice B3 m3 e3)).setCell ⟨x, 2, none⟩ (.slice B4 m4 e4)) B1 B2 B3 B4 m1 e1 m2 e2 m3 e3 m4 e4 (zf ns ds co ⟨s, ls, pr⟩ ⟨k, d, no, p, q⟩)) := HSO.out.set3low HAL6.out HXV.out
    have HFB : Hid (tu (((wa.setCell ⟨x, 0, none⟩ (.int .i64 co)).setCell ⟨x, 1, none⟩ (.slice B3 m3 e3)).setCell ⟨x, 2, none⟩ (.slice B4 m4 e4)) (w.heap.size + 3) B1 B2 B3 B4) := by
     obtain ⟨f1, f2, f3, f4⟩ := HFR.out
     refine ⟨fun b off e hb => ?_, fun b off e hb => ?_, fun b off e hb => ?_, fun b off e hb => ?_⟩
     ·rcases f1 with ⟨h, -⟩ | h
      ·rw [h] at e; cases e
      ·have := h b off e; have := HZV.out; omega
     ·rcases f2 with ⟨h, -⟩ | h
      ·rw [h] at e; exact yA HO2.out HTT.out.b3 (by decide) b off e
      ·have := h b off e; have := HZV.out; omega
     ·rcases f3 with ⟨h, -⟩ | h
      ·rw [h] at e; exact yA HO3.out HTT.out.b3 (by decide) b off e
      ·have := h b off e; have := HZV.out; omega
     ·rcases f4 with ⟨h, -⟩ | h
      ·rw [h] at e; exact yA HO4.out HTT.out.b3 (by decide) b off e
      ·have := h b off e; have := HZV.out; omega
    have HLW : Hid (oU w.heap.size B1 B2 B3 B4) := by
     obtain ⟨f1, f2, f3, f4⟩ := HFR.out
     refine ⟨fun b off e => ?_, fun b off e => ?_, fun b off e => ?_, fun b off e => ?_⟩
     ·rcases f1 with ⟨h, -⟩ | h
      ·rw [h] at e; cases e
      ·have := h b off e; have := HZV.out; omega
     ·rcases f2 with ⟨h, -⟩ | h
      ·rw [h] at e; exact Nat.le_trans HGA.out (wO HO2.out b off e)
      ·have := h b off e; have := HZV.out; omega
     ·rcases f3 with ⟨h, -⟩ | h
      ·rw [h] at e; exact Nat.le_trans HGB.out (wO HO3.out b off e)
      ·have := h b off e; have := HZV.out; omega
     ·rcases f4 with ⟨h, -⟩ | h
      ·rw [h] at e; exact Nat.le_trans HGB.out (wO HO4.out b off e)
      ·have := h b off e; have := HZV.out; omega
    generalize World.setCell (World.setCell (World.setCell wa _ _) _ _) _ _ = Y at *
    go_upto_region 5 with (fail)
    have HXZ : Hid (Blk (((Y.setCell ⟨w.heap.size + 3, 0, none⟩ (.int .i64 co)).setCell ⟨w.heap.size + 3, 1, none⟩ (.slice B3 m3 e3)).setCell ⟨w.heap.size + 3, 2, none⟩ (.slice B4 m4 e4)).drew x 29 #[.int .i64 co, .slice B3 m3 e3, .slice B4 m4 e4]) := (zh HXY.out hqx).drw
    have d0 := HB3Y.out.cell 0; have d1 := HB3Y.out.cell 1; have d2 := HB3Y.out.cell 2; have y0 := HB3Y.out.frozen 0; have y1 := HB3Y.out.frozen 1; have y2 := HB3Y.out.frozen 2
    refine zF (S := fun W' => W'.cell? ⟨x, 0, none⟩ = some (.int .i64 co) ∧ W'.cell? ⟨x, 1, none⟩ = some (.slice B3 m3 e3) ∧ W'.cell? ⟨x, 2, none⟩ = some (.slice B4 m4 e4)) (J := [7, 8]) (by kernel_rfl) ?_ (fun AA => ?_)
    ·exact ⟨HXY.out.cell 0, HXY.out.cell 1, HXY.out.cell 2⟩
    try dsimp only at AA
    refine tk 0 40 (mf 9 1) AA ?_
    refine tk 1 41 (mf 9 2) AA ?_
    refine tk 2 42 (mf 9 3) AA ?_
    refine tk 3 43 (mf 9 4) AA ?_
    refine tk 4 8 (mf 9 5) AA ?_
    refine tk 5 9 (mf 9 6) AA ?_
    refine tb 6 (mf 9 7) fun K hK => ?_
    go_simp
    refine hK.out _ _ (fun _ => ?_) (fun AA' => ?_)
    ·exact ⟨HXZ.out.cell 0, HXZ.out.cell 1, HXZ.out.cell 2⟩
    replace AA := AA' rfl
    clear AA' hK K
    try dsimp only at AA
    refine tb 7 (mf 9 8) fun K hK => ?_
    go_simp
    refine hK.out _ _ (fun h => by cases h) (fun _ => ?_)
    try clear AA
    clear hK K
    refine tb 8 (mf 9 9) fun K hK => ?_
    go_simp
    refine hK.out _ _ (fun h => by cases h) (fun _ => ?_)
    try clear AA
    clear hK K
    refine zC (by kernel_rfl) ?_ _
    have HZE : Hid (Blk (((Y.setCell ⟨w.heap.size + 3, 0, none⟩ (.int .i64 co)).setCell ⟨w.heap.size + 3, 1, none⟩ (.slice B3 m3 e3)).setCell ⟨w.heap.size + 3, 2, none⟩ (.slice B4 m4 e4)).drew (w.heap.size + 3) 29 #[.int .i64 co, .slice B3 m3 e3, .slice B4 m4 e4] ∧ Below w.heap.size w (((Y.setCell ⟨w.heap.size + 3, 0, none⟩ (.int .i64 co)).setCell ⟨w.heap.size + 3, 1, none⟩ (.slice B3 m3 e3)).setCell ⟨w.heap.size + 3, 2, none⟩ (.slice B4 m4 e4)).drew ∧ xH (((Y.setCell ⟨w.heap.size + 3, 0, none⟩ (.int .i64 co)).setCell ⟨w.heap.size + 3, 1, none⟩ (.slice B3 m3 e3)).setCell ⟨w.heap.size + 3, 2, none⟩ (.slice B4 m4 e4)).drew B1 B2 B3 B4 m1 e1 m2 e2 m3 e3 m4 e4 (zf ns ds co ⟨s, ls, pr⟩ ⟨k, d, no, p, q⟩)) := ⟨((HB3Y.out.set 0 _).set 1 _).set 2 _, (((HBLY.out.setCell (by simp) _).setCell (by simp) _).setCell (by simp) _).drew, (HSY.out.set3 HFB.out).later (Below.refl _ _).drew⟩
    clear d0 d1 d2 y0 y1 y2
    go_wp2_with fail
    generalize World.drew (World.setCell (World.setCell (World.setCell Y _ _) _ _) _ _) = z at *
    have q0 := HZE.out.1.c0
    have q1 := HZE.out.1.c1
    have q2 := HZE.out.1.c2
    exact bodyPost_ret (v := .tuple #[.slice B1 m1 e1, .slice B2 m2 e2, .agg #[.int .i64 co, .slice B3 m3 e3, .slice B4 m4 e4], .bool (zf ns ds co ⟨s, ls, pr⟩ ⟨k, d, no, p, q⟩).ok, .int .i64 0]) (by simp [results, Tryz.results16, go_sem, q0, q1, q2]) rfl ⟨.inr ⟨HEE.out.symm, _, _, _, _, _, _, _, _, _, _, _, _, rfl, HZE.out.2.2, HLW⟩, HZE.out.2.1⟩
   ·go_simp
    refine hK.out _ _ (fun _ => ?_) (fun AA' => ?_)
    ·exact AA.later ((Below.refl _ _).alloc lR _)
    replace AA := AA' rfl
    clear AA' hK K
    try dsimp only at AA
    have HAL : Hid (Below w4.heap.size w4 (w4.alloc (.cells #[.int .i64 0, .slice none 0 0, .slice none 0 0] 29))) := (Below.refl w4.heap.size w4).alloc lR (.cells #[.int .i64 0, .slice none 0 0, .slice none 0 0] 29)
    have HX : Hid (Blk (w4.alloc (.cells #[.int .i64 0, .slice none 0 0, .slice none 0 0] 29)) w4.heap.size 29 #[.int .i64 0, .slice none 0 0, .slice none 0 0]) := Blk.new w4 29 #[.int .i64 0, .slice none 0 0, .slice none 0 0]
    generalize World.alloc w4 _ = wa at *
    have HZ0 := iD HZ.out
    have HZ := iD (Nat.lt_of_lt_of_le HZ.out HAL.out.size)
    have HO2 := iD (HO2.out.later HAL.out)
    have HO3 := iD (zx HO3.out HAL.out)
    have HO4 := iD (HO4.out.later HAL.out)
    obtain ⟨x, hxd⟩ : ∃ x, x = w4.heap.size := ⟨_, rfl⟩
    rw [← hxd] at HX HZ0 ⊢
    have HXL : Hid (x < wa.heap.size) := HX.out.lt
    clear hxd HAL
    refine tb 6 (ma 17 4223) fun K hK => ?_
    (go_simp; refine (yy An Ad A2 A3 A4 nn cn nd cd n c2 nl c3 np c4 ns ds s ls pr co k d no p q wa ⟨(HH.out.below AA.bl).hn, (HH.out.below AA.bl).hd, Sl.of_own HO2.out, Sl.of_own HO3.out, Sl.of_own HO4.out, (HH.out.below AA.bl).la, (HH.out.below AA.bl).sn, (HH.out.below AA.bl).sd⟩ HOK.out.1 HOK.out.2.1 HSP.out).mono ?_; rintro e w6 ⟨B1, B2, B3, B4, m1, e1, m2, e2, m3, e3, m4, e4, rfl, hS, hF, hb2⟩; have HSO := iD hS.out; have HFR := iD hF.out; have HBb := iD hb2.out; clear hS hF hb2; go_simp)
    refine hK.out _ _ (fun _ => ?_) (fun AA' => ?_)
    ·exact AA.later HBb.out
    replace AA := AA' rfl
    clear AA' hK K
    try dsimp only at AA
    have HZV := iD HZ.out
    have HZ := iD (Nat.lt_of_lt_of_le HZ.out HBb.out.size)
    have HO2 := iD (HO2.out.later HBb.out)
    have HO3 := iD (zx HO3.out HBb.out)
    have HO4 := iD (HO4.out.later HBb.out)
    have HX := iD (HX.out.below HBb.out HX.out.lt)
    have HXV : Hid (x < wa.heap.size) := HXL.out
    refine tk 7 28 (ma 17 4351) AA ?_
    refine tk 8 36 (ma 17 4607) AA ?_
    refine tk 9 37 (ma 17 5119) AA ?_
    refine tk 10 38 (ma 17 6143) AA ?_
    refine tk 11 39 (mf 17 13) AA ?_
    refine tk 13 14 (mf 17 14) AA ?_
    refine tk 14 15 (mf 17 15) AA ?_
    have HTT := iD AA
    have k0 := HX.out.cell 0; have k1 := HX.out.cell 1; have k2 := HX.out.cell 2; have z0 := HX.out.frozen 0; have z1 := HX.out.frozen 1; have z2 := HX.out.frozen 2
    refine tb 15 (mf 17 16) fun K hK => ?_
    go_simp
    refine hK.out _ _ (fun _ => ?_) (fun AA' => ?_)
    ·exact ((AA.put HZ0.out).put HZ0.out).put HZ0.out
    replace AA := AA' rfl
    clear AA' hK K
    try dsimp only at AA
    refine tb 16 (mf 17 17) fun K hK => ?_
    go_simp
    refine hK.out _ _ (fun h => by cases h) (fun _ => ?_)
    try clear AA
    clear hK K
    refine zC (by kernel_rfl) ?_ _
    clear k0 k1 k2 z0 z1 z2
    have hqx : x ≠ w.heap.size + 3 := by have := HZ0.out; omega
    have HFA : Hid (tu w6 x B1 B2 B3 B4) := by
     obtain ⟨f1, f2, f3, f4⟩ := HFR.out
     refine ⟨fun b off e hb => ?_, fun b off e hb => ?_, fun b off e hb => ?_, fun b off e hb => ?_⟩
     ·rcases f1 with ⟨h, -⟩ | h
      ·rw [h] at e; cases e
      ·have := h b off e; have := HXV.out; omega
     ·rcases f2 with ⟨h, -⟩ | h
      ·rw [h] at e; exact yA HO2.out HX.out (by decide) b off e
      ·have := h b off e; have := HXV.out; omega
     ·rcases f3 with ⟨h, -⟩ | h
      ·rw [h] at e; exact yA HO3.out HX.out (by decide) b off e
      ·have := h b off e; have := HXV.out; omega
     ·rcases f4 with ⟨h, -⟩ | h
      ·rw [h] at e; exact yA HO4.out HX.out (by decide) b off e
      ·have := h b off e; have := HXV.out; omega
    have HXY : Hid (Blk (((w6.setCell ⟨x, 0, none⟩ (.int .i64 co)).setCell ⟨x, 1, none⟩ (.slice B3 m3 e3)).setCell ⟨x, 2, none⟩ (.slice B4 m4 e4)) x 29 #[.int .i64 co, .slice B3 m3 e3, .slice B4 m4 e4]) := ((HX.out.set 0 _).set 1 _).set 2 _
    have HB3Y : Hid (Blk (((w6.setCell ⟨x, 0, none⟩ (.int .i64 co)).setCell ⟨x, 1, none⟩ (.slice B3 m3 e3)).setCell ⟨x, 2, none⟩ (.slice B4 m4 e4)) (w.heap.size + 3) 29 #[.int .i64 0, .slice none 0 0, .slice none 0 0]) := zh HTT.out.b3 (Ne.symm hqx)
    have HBLY : Hid (Below w.heap.size w (((w6.setCell ⟨x, 0, none⟩ (.int .i64 co)).setCell ⟨x, 1, none⟩ (.slice B3 m3 e3)).setCell ⟨x, 2, none⟩ (.slice B4 m4 e4))) := ((HTT.out.bl.setCell (by show w.heap.size ≤ x; have := HZ0.out; omega) _).setCell (by show w.heap.size ≤ x; have := HZ0.out; omega) _).setCell (by show w.heap.size ≤ x; have := HZ0.out; omega) _
    have HSY : Hid (xH (((w6.setCell ⟨x, 0, none⟩ (.int .i64 co)).setCell ⟨x, 1, none⟩ (.slice B3 m3 e3)).setCell ⟨x, 2, none⟩ (.slice B4 m4 e4)) B1 B2 B3 B4 m1 e1 m2 e2 m3 e3 m4 e4 (zf ns ds co ⟨s, ls, pr⟩ ⟨k, d, no, p, q⟩)) := HSO.out.set3 HFA.out
    have HFB : Hid (tu (((w6.setCell ⟨x, 0, none⟩ (.int .i64 co)).setCell ⟨x, 1, none⟩ (.slice B3 m3 e3)).setCell ⟨x, 2, none⟩ (.slice B4 m4 e4)) (w.heap.size + 3) B1 B2 B3 B4) := by
     obtain ⟨f1, f2, f3, f4⟩ := HFR.out
     refine ⟨fun b off e hb => ?_, fun b off e hb => ?_, fun b off e hb => ?_, fun b off e hb => ?_⟩
     ·rcases f1 with ⟨h, -⟩ | h
      ·rw [h] at e; cases e
      ·have := h b off e; have := HZV.out; omega
     ·rcases f2 with ⟨h, -⟩ | h
      ·rw [h] at e; exact yA HO2.out HTT.out.b3 (by decide) b off e
      ·have := h b off e; have := HZV.out; omega
     ·rcases f3 with ⟨h, -⟩ | h
      ·rw [h] at e; exact yA HO3.out HTT.out.b3 (by decide) b off e
      ·have := h b off e; have := HZV.out; omega
     ·rcases f4 with ⟨h, -⟩ | h
      ·rw [h] at e; exact yA HO4.out HTT.out.b3 (by decide) b off e
      ·have := h b off e; have := HZV.out; omega
    have HLW : Hid (oU w.heap.size B1 B2 B3 B4) := by
     obtain ⟨f1, f2, f3, f4⟩ := HFR.out
     refine ⟨fun b off e => ?_, fun b off e => ?_, fun b off e => ?_, fun b off e => ?_⟩
     ·rcases f1 with ⟨h, -⟩ | h
      ·rw [h] at e; cases e
      ·have := h b off e; have := HZV.out; omega
     ·rcases f2 with ⟨h, -⟩ | h
      ·rw [h] at e; exact Nat.le_trans HGA.out (wO HO2.out b off e)
      ·have := h b off e; have := HZV.out; omega
     ·rcases f3 with ⟨h, -⟩ | h
      ·rw [h] at e; exact Nat.le_trans HGB.out (wO HO3.out b off e)
      ·have := h b off e; have := HZV.out; omega
     ·rcases f4 with ⟨h, -⟩ | h
      ·rw [h] at e; exact Nat.le_trans HGB.out (wO HO4.out b off e)
      ·have := h b off e; have := HZV.out; omega
    generalize World.setCell (World.setCell (World.setCell w6 _ _) _ _) _ _ = Y at *
    go_upto_region 5 with (fail)
    have HXZ : Hid (Blk (((Y.setCell ⟨w.heap.size + 3, 0, none⟩ (.int .i64 co)).setCell ⟨w.heap.size + 3, 1, none⟩ (.slice B3 m3 e3)).setCell ⟨w.heap.size + 3, 2, none⟩ (.slice B4 m4 e4)).drew x 29 #[.int .i64 co, .slice B3 m3 e3, .slice B4 m4 e4]) := (zh HXY.out hqx).drw
    have d0 := HB3Y.out.cell 0; have d1 := HB3Y.out.cell 1; have d2 := HB3Y.out.cell 2; have y0 := HB3Y.out.frozen 0; have y1 := HB3Y.out.frozen 1; have y2 := HB3Y.out.frozen 2
    refine zF (S := fun W' => W'.cell? ⟨x, 0, none⟩ = some (.int .i64 co) ∧ W'.cell? ⟨x, 1, none⟩ = some (.slice B3 m3 e3) ∧ W'.cell? ⟨x, 2, none⟩ = some (.slice B4 m4 e4)) (J := [7, 8]) (by kernel_rfl) ?_ (fun AA => ?_)
    ·exact ⟨HXY.out.cell 0, HXY.out.cell 1, HXY.out.cell 2⟩
    try dsimp only at AA
    refine tk 0 40 (mf 9 1) AA ?_
    refine tk 1 41 (mf 9 2) AA ?_
    refine tk 2 42 (mf 9 3) AA ?_
    refine tk 3 43 (mf 9 4) AA ?_
    refine tk 4 8 (mf 9 5) AA ?_
    refine tk 5 9 (mf 9 6) AA ?_
    refine tb 6 (mf 9 7) fun K hK => ?_
    go_simp
    refine hK.out _ _ (fun _ => ?_) (fun AA' => ?_)
    ·exact ⟨HXZ.out.cell 0, HXZ.out.cell 1, HXZ.out.cell 2⟩
    replace AA := AA' rfl
    clear AA' hK K
    try dsimp only at AA
    refine tb 7 (mf 9 8) fun K hK => ?_
    go_simp
    refine hK.out _ _ (fun h => by cases h) (fun _ => ?_)
    try clear AA
    clear hK K
    refine tb 8 (mf 9 9) fun K hK => ?_
    go_simp
    refine hK.out _ _ (fun h => by cases h) (fun _ => ?_)
    try clear AA
    clear hK K
    refine zC (by kernel_rfl) ?_ _
    have HZE : Hid (Blk (((Y.setCell ⟨w.heap.size + 3, 0, none⟩ (.int .i64 co)).setCell ⟨w.heap.size + 3, 1, none⟩ (.slice B3 m3 e3)).setCell ⟨w.heap.size + 3, 2, none⟩ (.slice B4 m4 e4)).drew (w.heap.size + 3) 29 #[.int .i64 co, .slice B3 m3 e3, .slice B4 m4 e4] ∧ Below w.heap.size w (((Y.setCell ⟨w.heap.size + 3, 0, none⟩ (.int .i64 co)).setCell ⟨w.heap.size + 3, 1, none⟩ (.slice B3 m3 e3)).setCell ⟨w.heap.size + 3, 2, none⟩ (.slice B4 m4 e4)).drew ∧ xH (((Y.setCell ⟨w.heap.size + 3, 0, none⟩ (.int .i64 co)).setCell ⟨w.heap.size + 3, 1, none⟩ (.slice B3 m3 e3)).setCell ⟨w.heap.size + 3, 2, none⟩ (.slice B4 m4 e4)).drew B1 B2 B3 B4 m1 e1 m2 e2 m3 e3 m4 e4 (zf ns ds co ⟨s, ls, pr⟩ ⟨k, d, no, p, q⟩)) := ⟨((HB3Y.out.set 0 _).set 1 _).set 2 _, (((HBLY.out.setCell (by simp) _).setCell (by simp) _).setCell (by simp) _).drew, (HSY.out.set3 HFB.out).later (Below.refl _ _).drew⟩
    clear d0 d1 d2 y0 y1 y2
    go_wp2_with fail
    generalize World.drew (World.setCell (World.setCell (World.setCell Y _ _) _ _) _ _) = z at *
    have q0 := HZE.out.1.c0
    have q1 := HZE.out.1.c1
    have q2 := HZE.out.1.c2
    exact bodyPost_ret (v := .tuple #[.slice B1 m1 e1, .slice B2 m2 e2, .agg #[.int .i64 co, .slice B3 m3 e3, .slice B4 m4 e4], .bool (zf ns ds co ⟨s, ls, pr⟩ ⟨k, d, no, p, q⟩).ok, .int .i64 0]) (by simp [results, Tryz.results16, go_sem, q0, q1, q2]) rfl ⟨.inr ⟨HEE.out.symm, _, _, _, _, _, _, _, _, _, _, _, _, rfl, HZE.out.2.2, HLW⟩, HZE.out.2.1⟩
  ·go_simp
   refine hK.out _ _ (fun _ => ?_) (fun AA' => ?_)
   ·exact AA.later ((Below.refl _ _).alloc lR _)
   replace AA := AA' rfl
   clear AA' hK K
   try dsimp only at AA
   have HAL : Hid (Below w3.heap.size w3 (w3.alloc (.cells #[.int .i64 0, .slice none 0 0, .slice none 0 0] 29))) := (Below.refl w3.heap.size w3).alloc lR (.cells #[.int .i64 0, .slice none 0 0, .slice none 0 0] 29)
   have HX : Hid (Blk (w3.alloc (.cells #[.int .i64 0, .slice none 0 0, .slice none 0 0] 29)) w3.heap.size 29 #[.int .i64 0, .slice none 0 0, .slice none 0 0]) := Blk.new w3 29 #[.int .i64 0, .slice none 0 0, .slice none 0 0]
   generalize World.alloc w3 _ = wa at *
   have HZ0 := iD HZ.out
   have HZ := iD (Nat.lt_of_lt_of_le HZ.out HAL.out.size)
   have HO2 := iD (HO2.out.later HAL.out)
   obtain ⟨x, hxd⟩ : ∃ x, x = w3.heap.size := ⟨_, rfl⟩
   rw [← hxd] at HX HZ0 ⊢
   have HXL : Hid (x < wa.heap.size) := HX.out.lt
   clear hxd HAL
   refine tb 4 (ma 17 4159) fun K hK => ?_
   (have HGB := iD AA.bl.size; go_simp; refine (uC Al Ap nl cl np cp _ co ls pr wa (HH.out.below AA.bl).hl (HH.out.below AA.bl).hp lR (by omega) (by omega)).mono ?_; rintro e w4 ⟨A3, A4, c3, c4, rfl, hO3, hO4, hb2⟩; have HO3 := iD hO3.out; have HO4 := iD hO4.out; have HBb := iD hb2.out; clear hO3 hO4 hb2; go_simp)
   refine hK.out _ _ (fun _ => ?_) (fun AA' => ?_)
   ·exact AA.later HBb.out
   replace AA := AA' rfl
   clear AA' hK K
   try dsimp only at AA
   have HZ := iD (Nat.lt_of_lt_of_le HZ.out HBb.out.size)
   have HO2 := iD (HO2.out.later HBb.out)
   have HX := iD (HX.out.below HBb.out HX.out.lt)
   clear HBb
   have HXL : Hid (x < w4.heap.size) := HX.out.lt
   refine tb 6 (ma 17 4223) fun K hK => ?_
   (go_simp; refine (yy An Ad A2 A3 A4 nn cn nd cd n c2 nl c3 np c4 ns ds s ls pr co k d no p q w4 ⟨(HH.out.below AA.bl).hn, (HH.out.below AA.bl).hd, Sl.of_own HO2.out, Sl.of_own HO3.out, Sl.of_own HO4.out, (HH.out.below AA.bl).la, (HH.out.below AA.bl).sn, (HH.out.below AA.bl).sd⟩ HOK.out.1 HOK.out.2.1 HSP.out).mono ?_; rintro e w6 ⟨B1, B2, B3, B4, m1, e1, m2, e2, m3, e3, m4, e4, rfl, hS, hF, hb2⟩; have HSO := iD hS.out; have HFR := iD hF.out; have HBb := iD hb2.out; clear hS hF hb2; go_simp)
   refine hK.out _ _ (fun _ => ?_) (fun AA' => ?_)
   ·exact AA.later HBb.out
   replace AA := AA' rfl
   clear AA' hK K
   try dsimp only at AA
   have HZV := iD HZ.out
   have HZ := iD (Nat.lt_of_lt_of_le HZ.out HBb.out.size)
   have HO2 := iD (HO2.out.later HBb.out)
   have HO3 := iD (zx HO3.out HBb.out)
   have HO4 := iD (HO4.out.later HBb.out)
   have HX := iD (HX.out.below HBb.out HX.out.lt)
   have HXV : Hid (x < w4.heap.size) := HXL.out
   refine tk 7 28 (ma 17 4351) AA ?_
   refine tk 8 36 (ma 17 4607) AA ?_
   refine tk 9 37 (ma 17 5119) AA ?_
   refine tk 10 38 (ma 17 6143) AA ?_
   refine tk 11 39 (mf 17 13) AA ?_
   refine tk 13 14 (mf 17 14) AA ?_
   refine tk 14 15 (mf 17 15) AA ?_
   have HTT := iD AA
   have k0 := HX.out.cell 0; have k1 := HX.out.cell 1; have k2 := HX.out.cell 2; have z0 := HX.out.frozen 0; have z1 := HX.out.frozen 1; have z2 := HX.out.frozen 2
   refine tb 15 (mf 17 16) fun K hK => ?_
   go_simp
   refine hK.out _ _ (fun _ => ?_) (fun AA' => ?_)
   ·exact ((AA.put HZ0.out).put HZ0.out).put HZ0.out
   replace AA := AA' rfl
   clear AA' hK K
   try dsimp only at AA
   refine tb 16 (mf 17 17) fun K hK => ?_
   go_simp
   refine hK.out _ _ (fun h => by cases h) (fun _ => ?_)
   try clear AA
   clear hK K
   refine zC (by kernel_rfl) ?_ _
   clear k0 k1 k2 z0 z1 z2
   have hqx : x ≠ w.heap.size + 3 := by have := HZ0.out; omega
   have HFA : Hid (tu w6 x B1 B2 B3 B4) := by
    obtain ⟨f1, f2, f3, f4⟩ := HFR.out
    refine ⟨fun b off e hb => ?_, fun b off e hb => ?_, fun b off e hb => ?_, fun b off e hb => ?_⟩
    ·rcases f1 with ⟨h, -⟩ | h
     ·rw [h] at e; cases e
     ·have := h b off e; have := HXV.out; omega
    ·rcases f2 with ⟨h, -⟩ | h
     ·rw [h] at e; exact yA HO2.out HX.out (by decide) b off e
     ·have := h b off e; have := HXV.out; omega
    ·rcases f3 with ⟨h, -⟩ | h
     ·rw [h] at e; exact yA HO3.out HX.out (by decide) b off e
     ·have := h b off e; have := HXV.out; omega
    ·rcases f4 with ⟨h, -⟩ | h
     ·rw [h] at e; exact yA HO4.out HX.out (by decide) b off e
     ·have := h b off e; have := HXV.out; omega
   have HXY : Hid (Blk (((w6.setCell ⟨x, 0, none⟩ (.int .i64 co)).setCell ⟨x, 1, none⟩ (.slice B3 m3 e3)).setCell ⟨x, 2, none⟩ (.slice B4 m4 e4)) x 29 #[.int .i64 co, .slice B3 m3 e3, .slice B4 m4 e4]) := ((HX.out.set 0 _).set 1 _).set 2 _
   have HB3Y : Hid (Blk (((w6.setCell ⟨x, 0, none⟩ (.int .i64 co)).setCell ⟨x, 1, none⟩ (.slice B3 m3 e3)).setCell ⟨x, 2, none⟩ (.slice B4 m4 e4)) (w.heap.size + 3) 29 #[.int .i64 0, .slice none 0 0, .slice none 0 0]) := zh HTT.out.b3 (Ne.symm hqx)
   have HBLY : Hid (Below w.heap.size w (((w6.setCell ⟨x, 0, none⟩ (.int .i64 co)).setCell ⟨x, 1, none⟩ (.slice B3 m3 e3)).setCell ⟨x, 2, none⟩ (.slice B4 m4 e4))) := ((HTT.out.bl.setCell (by show w.heap.size ≤ x; have := HZ0.out; omega) _).setCell (by show w.heap.size ≤ x; have := HZ0.out; omega) _).setCell (by show w.heap.size ≤ x; have := HZ0.out; omega) _
   have HSY : Hid (xH (((w6.setCell ⟨x, 0, none⟩ (.int .i64 co)).setCell ⟨x, 1, none⟩ (.slice B3 m3 e3)).setCell ⟨x, 2, none⟩ (.slice B4 m4 e4)) B1 B2 B3 B4 m1 e1 m2 e2 m3 e3 m4 e4 (zf ns ds co ⟨s, ls, pr⟩ ⟨k, d, no, p, q⟩)) := HSO.out.set3 HFA.out
   have HFB : Hid (tu (((w6.setCell ⟨x, 0, none⟩ (.int .i64 co)).setCell ⟨x, 1, none⟩ (.slice B3 m3 e3)).setCell ⟨x, 2, none⟩ (.slice B4 m4 e4)) (w.heap.size + 3) B1 B2 B3 B4) := by
    obtain ⟨f1, f2, f3, f4⟩ := HFR.out
    refine ⟨fun b off e hb => ?_, fun b off e hb => ?_, fun b off e hb => ?_, fun b off e hb => ?_⟩
    ·rcases f1 with ⟨h, -⟩ | h
     ·rw [h] at e; cases e
     ·have := h b off e; have := HZV.out; omega
    ·rcases f2 with ⟨h, -⟩ | h
     ·rw [h] at e; exact yA HO2.out HTT.out.b3 (by decide) b off e
     ·have := h b off e; have := HZV.out; omega
    ·rcases f3 with ⟨h, -⟩ | h
     ·rw [h] at e; exact yA HO3.out HTT.out.b3 (by decide) b off e
     ·have := h b off e; have := HZV.out; omega
    ·rcases f4 with ⟨h, -⟩ | h
     ·rw [h] at e; exact yA HO4.out HTT.out.b3 (by decide) b off e
     ·have := h b off e; have := HZV.out; omega
   have HLW : Hid (oU w.heap.size B1 B2 B3 B4) := by
    obtain ⟨f1, f2, f3, f4⟩ := HFR.out
    refine ⟨fun b off e => ?_, fun b off e => ?_, fun b off e => ?_, fun b off e => ?_⟩
    ·rcases f1 with ⟨h, -⟩ | h
     ·rw [h] at e; cases e
     ·have := h b off e; have := HZV.out; omega
    ·rcases f2 with ⟨h, -⟩ | h
     ·rw [h] at e; exact Nat.le_trans HGA.out (wO HO2.out b off e)
     ·have := h b off e; have := HZV.out; omega
    ·rcases f3 with ⟨h, -⟩ | h
     ·rw [h] at e; exact Nat.le_trans HGB.out (wO HO3.out b off e)
     ·have := h b off e; have := HZV.out; omega
    ·rcases f4 with ⟨h, -⟩ | h
     ·rw [h] at e; exact Nat.le_trans HGB.out (wO HO4.out b off e)
     ·have := h b off e; have := HZV.out; omega
   generalize World.setCell (World.setCell (World.setCell w6 _ _) _ _) _ _ = Y at *
   go_upto_region 5 with (fail)
   have HXZ : Hid (Blk (((Y.setCell ⟨w.heap.size + 3, 0, none⟩ (.int .i64 co)).setCell ⟨w.heap.size + 3, 1, none⟩ (.slice B3 m3 e3)).setCell ⟨w.heap.size + 3, 2, none⟩ (.slice B4 m4 e4)).drew x 29 #[.int .i64 co, .slice B3 m3 e3, .slice B4 m4 e4]) := (zh HXY.out hqx).drw
   have d0 := HB3Y.out.cell 0; have d1 := HB3Y.out.cell 1; have d2 := HB3Y.out.cell 2; have y0 := HB3Y.out.frozen 0; have y1 := HB3Y.out.frozen 1; have y2 := HB3Y.out.frozen 2
   refine zF (S := fun W' => W'.cell? ⟨x, 0, none⟩ = some (.int .i64 co) ∧ W'.cell? ⟨x, 1, none⟩ = some (.slice B3 m3 e3) ∧ W'.cell? ⟨x, 2, none⟩ = some (.slice B4 m4 e4)) (J := [7, 8]) (by kernel_rfl) ?_ (fun AA => ?_)
   ·exact ⟨HXY.out.cell 0, HXY.out.cell 1, HXY.out.cell 2⟩
   try dsimp only at AA
   refine tk 0 40 (mf 9 1) AA ?_
   refine tk 1 41 (mf 9 2) AA ?_
   refine tk 2 42 (mf 9 3) AA ?_
   refine tk 3 43 (mf 9 4) AA ?_
   refine tk 4 8 (mf 9 5) AA ?_
   refine tk 5 9 (mf 9 6) AA ?_
   refine tb 6 (mf 9 7) fun K hK => ?_
   go_simp
   refine hK.out _ _ (fun _ => ?_) (fun AA' => ?_)
   ·exact ⟨HXZ.out.cell 0, HXZ.out.cell 1, HXZ.out.cell 2⟩
   replace AA := AA' rfl
   clear AA' hK K
   try dsimp only at AA
   refine tb 7 (mf 9 8) fun K hK => ?_
   go_simp
   refine hK.out _ _ (fun h => by cases h) (fun _ => ?_)
   try clear AA
   clear hK K
   refine tb 8 (mf 9 9) fun K hK => ?_
   go_simp
   refine hK.out _ _ (fun h => by cases h) (fun _ => ?_)
   try clear AA
   clear hK K
   refine zC (by kernel_rfl) ?_ _
   have HZE : Hid (Blk (((Y.setCell ⟨w.heap.size + 3, 0, none⟩ (.int .i64 co)).setCell ⟨w.heap.size + 3, 1, none⟩ (.slice B3 m3 e3)).setCell ⟨w.heap.size + 3, 2, none⟩ (.slice B4 m4 e4)).drew (w.heap.size + 3) 29 #[.int .i64 co, .slice B3 m3 e3, .slice B4 m4 e4] ∧ Below w.heap.size w (((Y.setCell ⟨w.heap.size + 3, 0, none⟩ (.int .i64 co)).setCell ⟨w.heap.size + 3, 1, none⟩ (.slice B3 m3 e3)).setCell ⟨w.heap.size + 3, 2, none⟩ (.slice B4 m4 e4)).drew ∧ xH (((Y.setCell ⟨w.heap.size + 3, 0, none⟩ (.int .i64 co)).setCell ⟨w.heap.size + 3, 1, none⟩ (.slice B3 m3 e3)).setCell ⟨w.heap.size + 3, 2, none⟩ (.slice B4 m4 e4)).drew B1 B2 B3 B4 m1 e1 m2 e2 m3 e3 m4 e4 (zf ns ds co ⟨s, ls, pr⟩ ⟨k, d, no, p, q⟩)) := ⟨((HB3Y.out.set 0 _).set 1 _).set 2 _, (((HBLY.out.setCell (by simp) _).setCell (by simp) _).setCell (by simp) _).drew, (HSY.out.set3 HFB.out).later (Below.refl _ _).drew⟩
   clear d0 d1 d2 y0 y1 y2
   go_wp2_with fail
   generalize World.drew (World.setCell (World.setCell (World.setCell Y _ _) _ _) _ _) = z at *
   have q0 := HZE.out.1.c0
   have q1 := HZE.out.1.c1
   have q2 := HZE.out.1.c2
   exact bodyPost_ret (v := .tuple #[.slice B1 m1 e1, .slice B2 m2 e2, .agg #[.int .i64 co, .slice B3 m3 e3, .slice B4 m4 e4], .bool (zf ns ds co ⟨s, ls, pr⟩ ⟨k, d, no, p, q⟩).ok, .int .i64 0]) (by simp [results, Tryz.results16, go_sem, q0, q1, q2]) rfl ⟨.inr ⟨HEE.out.symm, _, _, _, _, _, _, _, _, _, _, _, _, rfl, HZE.out.2.2, HLW⟩, HZE.out.2.1⟩
 ·go_simp
  refine hK.out _ _ (fun _ => ?_) (fun AA' => ?_)
  ·exact HBE.out.later ((Below.refl w2.heap.size w2).alloc lR (.cells #[.int .i64 0, .slice none 0 0, .slice none 0 0] 29)).drew
  replace AA := AA' rfl
  clear AA' hK K
  try dsimp only at AA
  have HAL : Hid (Below w2.heap.size w2 (w2.alloc (.cells #[.int .i64 0, .slice none 0 0, .slice none 0 0] 29)).drew) := ((Below.refl w2.heap.size w2).alloc lR (.cells #[.int .i64 0, .slice none 0 0, .slice none 0 0] 29)).drew
  have HX : Hid (Blk (w2.alloc (.cells #[.int .i64 0, .slice none 0 0, .slice none 0 0] 29)).drew w2.heap.size 29 #[.int .i64 0, .slice none 0 0, .slice none 0 0]) := Blk.new w2 29 #[.int .i64 0, .slice none 0 0, .slice none 0 0]
  generalize World.drew (World.alloc w2 _) = wa at *
  have HZ0 := iD HZ.out
  have HZ := iD (Nat.lt_of_lt_of_le HZ.out HAL.out.size)
  obtain ⟨x, hxd⟩ : ∃ x, x = w2.heap.size := ⟨_, rfl⟩
  rw [← hxd] at HX HZ0 ⊢
  have HXL : Hid (x < wa.heap.size) := HX.out.lt
  clear hxd HAL
  refine tb 2 (ma 17 4143) fun K hK => ?_
  (have HGA := iD AA.bl.size; go_simp; refine (xM As n c _ s wa (HH.out.below AA.bl).hs lR (by omega)).mono ?_; rintro e w3 ⟨A2, c2, rfl, hO2, hb2⟩; rw [hls] at hO2 ⊢; have HO2 := iD hO2.out; have HBb := iD hb2.out; clear hO2 hb2; go_simp)
  refine hK.out _ _ (fun _ => ?_) (fun AA' => ?_)
  ·exact AA.later HBb.out
  replace AA := AA' rfl
  clear AA' hK K
  try dsimp only at AA
  have HZ := iD (Nat.lt_of_lt_of_le HZ.out HBb.out.size)
  have HX := iD (HX.out.below HBb.out HX.out.lt)
  clear HBb
  have HXL : Hid (x < w3.heap.size) := HX.out.lt
  refine tb 4 (ma 17 4159) fun K hK => ?_
  (have HGB := iD AA.bl.size; go_simp; refine (uC Al Ap nl cl np cp _ co ls pr w3 (HH.out.below AA.bl).hl (HH.out.below AA.bl).hp lR (by omega) (by omega)).mono ?_; rintro e w4 ⟨A3, A4, c3, c4, rfl, hO3, hO4, hb2⟩; have HO3 := iD hO3.out; have HO4 := iD hO4.out; have HBb := iD hb2.out; clear hO3 hO4 hb2; go_simp)
  refine hK.out _ _ (fun _ => ?_) (fun AA' => ?_)
  ·exact AA.later HBb.out
  replace AA := AA' rfl
  clear AA' hK K
  try dsimp only at AA
  have HZ := iD (Nat.lt_of_lt_of_le HZ.out HBb.out.size)
  have HO2 := iD (HO2.out.later HBb.out)
  have HX := iD (HX.out.below HBb.out HX.out.lt)
  clear HBb
  have HXL : Hid (x < w4.heap.size) := HX.out.lt
  refine tb 6 (ma 17 4223) fun K hK => ?_
  (go_simp; refine (yy An Ad A2 A3 A4 nn cn nd cd n c2 nl c3 np c4 ns ds s ls pr co k d no p q w4 ⟨(HH.out.below AA.bl).hn, (HH.out.below AA.bl).hd, Sl.of_own HO2.out, Sl.of_own HO3.out, Sl.of_own HO4.out, (HH.out.below AA.bl).la, (HH.out.below AA.bl).sn, (HH.out.below AA.bl).sd⟩ HOK.out.1 HOK.out.2.1 HSP.out).mono ?_; rintro e w6 ⟨B1, B2, B3, B4, m1, e1, m2, e2, m3, e3, m4, e4, rfl, hS, hF, hb2⟩; have HSO := iD hS.out; have HFR := iD hF.out; have HBb := iD hb2.out; clear hS hF hb2; go_simp)
  refine hK.out _ _ (fun _ => ?_) (fun AA' => ?_)
  ·exact AA.later HBb.out
  replace AA := AA' rfl
  clear AA' hK K
  try dsimp only at AA
  have HZV := iD HZ.out
  have HZ := iD (Nat.lt_of_lt_of_le HZ.out HBb.out.size)
  have HO2 := iD (HO2.out.later HBb.out)
  have HO3 := iD (zx HO3.out HBb.out)
  have HO4 := iD (HO4.out.later HBb.out)
  have HX := iD (HX.out.below HBb.out HX.out.lt)
  have HXV : Hid (x < w4.heap.size) := HXL.out
  refine tk 7 28 (ma 17 4351) AA ?_
  refine tk 8 36 (ma 17 4607) AA ?_
  refine tk 9 37 (ma 17 5119) AA ?_
  refine tk 10 38 (ma 17 6143) AA ?_
  refine tk 11 39 (mf 17 13) AA ?_
  refine tk 13 14 (mf 17 14) AA ?_
  refine tk 14 15 (mf 17 15) AA ?_
  have HTT := iD AA
  have k0 := HX.out.cell 0; have k1 := HX.out.cell 1; have k2 := HX.out.cell 2; have z0 := HX.out.frozen 0; have z1 := HX.out.frozen 1; have z2 := HX.out.frozen 2
  refine tb 15 (mf 17 16) fun K hK => ?_
  go_simp
  refine hK.out _ _ (fun _ => ?_) (fun AA' => ?_)
  ·exact ((AA.put HZ0.out).put HZ0.out).put HZ0.out
  replace AA := AA' rfl
  clear AA' hK K
  try dsimp only at AA
  refine tb 16 (mf 17 17) fun K hK => ?_
  go_simp
  refine hK.out _ _ (fun h => by cases h) (fun _ => ?_)
  try clear AA
  clear hK K
  refine zC (by kernel_rfl) ?_ _
  clear k0 k1 k2 z0 z1 z2
  have hqx : x ≠ w.heap.size + 3 := by have := HZ0.out; omega
  have HFA : Hid (tu w6 x B1 B2 B3 B4) := by
   obtain ⟨f1, f2, f3, f4⟩ := HFR.out
   refine ⟨fun b off e hb => ?_, fun b off e hb => ?_, fun b off e hb => ?_, fun b off e hb => ?_⟩
   ·rcases f1 with ⟨h, -⟩ | h
    ·rw [h] at e; cases e
    ·have := h b off e; have := HXV.out; omega
   ·rcases f2 with ⟨h, -⟩ | h
    ·rw [h] at e; exact yA HO2.out HX.out (by decide) b off e
    ·have := h b off e; have := HXV.out; omega
   ·rcases f3 with ⟨h, -⟩ | h
    ·rw [h] at e; exact yA HO3.out HX.out (by decide) b off e
    ·have := h b off e; have := HXV.out; omega
   ·rcases f4 with ⟨h, -⟩ | h
    ·rw [h] at e; exact yA HO4.out HX.out (by decide) b off e
    ·have := h b off e; have := HXV.out; omega
  have HXY : Hid (Blk (((w6.setCell ⟨x, 0, none⟩ (.int .i64 co)).setCell ⟨x, 1, none⟩ (.slice B3 m3 e3)).setCell ⟨x, 2, none⟩ (.slice B4 m4 e4)) x 29 #[.int .i64 co, .slice B3 m3 e3, .slice B4 m4 e4]) := ((HX.out.set 0 _).set 1 _).set 2 _
  have HB3Y : Hid (Blk (((w6.setCell ⟨x, 0, none⟩ (.int .i64 co)).setCell ⟨x, 1, none⟩ (.slice B3 m3 e3)).setCell ⟨x, 2, none⟩ (.slice B4 m4 e4)) (w.heap.size + 3) 29 #[.int .i64 0, .slice none 0 0, .slice none 0 0]) := zh HTT.out.b3 (Ne.symm hqx)
  have HBLY : Hid (Below w.heap.size w (((w6.setCell ⟨x, 0, none⟩ (.int .i64 co)).setCell ⟨x, 1, none⟩ (.slice B3 m3 e3)).setCell ⟨x, 2, none⟩ (.slice B4 m4 e4))) := ((HTT.out.bl.setCell (by show w.heap.size ≤ x; have := HZ0.out; omega) _).setCell (by show w.heap.size ≤ x; have := HZ0.out; omega) _).setCell (by show w.heap.size ≤ x; have := HZ0.out; omega) _
  have HSY : Hid (xH (((w6.setCell ⟨x, 0, none⟩ (.int .i64 co)).setCell ⟨x, 1, none⟩ (.slice B3 m3 e3)).setCell ⟨x, 2, none⟩ (.slice B4 m4 e4)) B1 B2 B3 B4 m1 e1 m2 e2 m3 e3 m4 e4 (zf ns ds co ⟨s, ls, pr⟩ ⟨k, d, no, p, q⟩)) := HSO.out.set3 HFA.out
  have HFB : Hid (tu (((w6.setCell ⟨x, 0, none⟩ (.int .i64 co)).setCell ⟨x, 1, none⟩ (.slice B3 m3 e3)).setCell ⟨x, 2, none⟩ (.slice B4 m4 e4)) (w.heap.size + 3) B1 B2 B3 B4) := by
   obtain ⟨f1, f2, f3, f4⟩ := HFR.out
   refine ⟨fun b off e hb => ?_, fun b off e hb => ?_, fun b off e hb => ?_, fun b off e hb => ?_⟩
   ·rcases f1 with ⟨h, -⟩ | h
    ·rw [h] at e; cases e
    ·have := h b off e; have := HZV.out; omega
   ·rcases f2 with ⟨h, -⟩ | h
    ·rw [h] at e; exact yA HO2.out HTT.out.b3 (by decide) b off e
    ·have := h b off e; have := HZV.out; omega
   ·rcases f3 with ⟨h, -⟩ | h
    ·rw [h] at e; exact yA HO3.out HTT.out.b3 (by decide) b off e
    ·have := h b off e; have := HZV.out; omega
   ·rcases f4 with ⟨h, -⟩ | h
    ·rw [h] at e; exact yA HO4.out HTT.out.b3 (by decide) b off e
    ·have := h b off e; have := HZV.out; omega
  have HLW : Hid (oU w.heap.size B1 B2 B3 B4) := by
   obtain ⟨f1, f2, f3, f4⟩ := HFR.out
   refine ⟨fun b off e => ?_, fun b off e => ?_, fun b off e => ?_, fun b off e => ?_⟩
   ·rcases f1 with ⟨h, -⟩ | h
    ·rw [h] at e; cases e
    ·have := h b off e; have := HZV.out; omega
   ·rcases f2 with ⟨h, -⟩ | h
    ·rw [h] at e; exact Nat.le_trans HGA.out (wO HO2.out b off e)
    ·have := h b off e; have := HZV.out; omega
   ·rcases f3 with ⟨h, -⟩ | h
    ·rw [h] at e; exact Nat.le_trans HGB.out (wO HO3.out b off e)
    ·have := h b off e; have := HZV.out; omega
   ·rcases f4 with ⟨h, -⟩ | h
    ·rw [h] at e; exact Nat.le_trans HGB.out (wO HO4.out b off e)
    ·have := h b off e; have := HZV.out; omega
  generalize World.setCell (World.setCell (World.setCell w6 _ _) _ _) _ _ = Y at *
  go_upto_region 5 with (fail)
  have HXZ : Hid (Blk (((Y.setCell ⟨w.heap.size + 3, 0, none⟩ (.int .i64 co)).setCell ⟨w.heap.size + 3, 1, none⟩ (.slice B3 m3 e3)).setCell ⟨w.heap.size + 3, 2, none⟩ (.slice B4 m4 e4)).drew x 29 #[.int .i64 co, .slice B3 m3 e3, .slice B4 m4 e4]) := (zh HXY.out hqx).drw
  have d0 := HB3Y.out.cell 0; have d1 := HB3Y.out.cell 1; have d2 := HB3Y.out.cell 2; have y0 := HB3Y.out.frozen 0; have y1 := HB3Y.out.frozen 1; have y2 := HB3Y.out.frozen 2
  refine zF (S := fun W' => W'.cell? ⟨x, 0, none⟩ = some (.int .i64 co) ∧ W'.cell? ⟨x, 1, none⟩ = some (.slice B3 m3 e3) ∧ W'.cell? ⟨x, 2, none⟩ = some (.slice B4 m4 e4)) (J := [7, 8]) (by kernel_rfl) ?_ (fun AA => ?_)
  ·exact ⟨HXY.out.cell 0, HXY.out.cell 1, HXY.out.cell 2⟩
  try dsimp only at AA
  refine tk 0 40 (mf 9 1) AA ?_
  refine tk 1 41 (mf 9 2) AA ?_
  refine tk 2 42 (mf 9 3) AA ?_
  refine tk 3 43 (mf 9 4) AA ?_
  refine tk 4 8 (mf 9 5) AA ?_
  refine tk 5 9 (mf 9 6) AA ?_
  refine tb 6 (mf 9 7) fun K hK => ?_
  go_simp
  refine hK.out _ _ (fun _ => ?_) (fun AA' => ?_)
  ·exact ⟨HXZ.out.cell 0, HXZ.out.cell 1, HXZ.out.cell 2⟩
  replace AA := AA' rfl
  clear AA' hK K
  try dsimp only at AA
  refine tb 7 (mf 9 8) fun K hK => ?_
  go_simp
  refine hK.out _ _ (fun h => by cases h) (fun _ => ?_)
  try clear AA
  clear hK K
  refine tb 8 (mf 9 9) fun K hK => ?_
  go_simp
  refine hK.out _ _ (fun h => by cases h) (fun _ => ?_)
  try clear AA
  clear hK K
  refine zC (by kernel_rfl) ?_ _
  have HZE : Hid (Blk (((Y.setCell ⟨w.heap.size + 3, 0, none⟩ (.int .i64 co)).setCell ⟨w.heap.size + 3, 1, none⟩ (.slice B3 m3 e3)).setCell ⟨w.heap.size + 3, 2, none⟩ (.slice B4 m4 e4)).drew (w.heap.size + 3) 29 #[.int .i64 co, .slice B3 m3 e3, .slice B4 m4 e4] ∧ Below w.heap.size w (((Y.setCell ⟨w.heap.size + 3, 0, none⟩ (.int .i64 co)).setCell ⟨w.heap.size + 3, 1, none⟩ (.slice B3 m3 e3)).setCell ⟨w.heap.size + 3, 2, none⟩ (.slice B4 m4 e4)).drew ∧ xH (((Y.setCell ⟨w.heap.size + 3, 0, none⟩ (.int .i64 co)).setCell ⟨w.heap.size + 3, 1, none⟩ (.slice B3 m3 e3)).setCell ⟨w.heap.size + 3, 2, none⟩ (.slice B4 m4 e4)).drew B1 B2 B3 B4 m1 e1 m2 e2 m3 e3 m4 e4 (zf ns ds co ⟨s, ls, pr⟩ ⟨k, d, no, p, q⟩)) := ⟨((HB3Y.out.set 0 _).set 1 _).set 2 _, (((HBLY.out.setCell (by simp) _).setCell (by simp) _).setCell (by simp) _).drew, (HSY.out.set3 HFB.out).later (Below.refl _ _).drew⟩
  clear d0 d1 d2 y0 y1 y2
  go_wp2_with fail
  generalize World.drew (World.setCell (World.setCell (World.setCell Y _ _) _ _) _ _) = z at *
  have q0 := HZE.out.1.c0
  have q1 := HZE.out.1.c1
  have q2 := HZE.out.1.c2
  exact bodyPost_ret (v := .tuple #[.slice B1 m1 e1, .slice B2 m2 e2, .agg #[.int .i64 co, .slice B3 m3 e3, .slice B4 m4 e4], .bool (zf ns ds co ⟨s, ls, pr⟩ ⟨k, d, no, p, q⟩).ok, .int .i64 0]) (by simp [results, Tryz.results16, go_sem, q0, q1, q2]) rfl ⟨.inr ⟨HEE.out.symm, _, _, _, _, _, _, _, _, _, _, _, _, rfl, HZE.out.2.2, HLW⟩, HZE.out.2.1⟩
theorem kS (An Ad As Al Ap : Option Addr) (nn cn nd cd n c nl cl np cp : Nat) (ns : List Nd) (ds : List Dv) (s : List Int) (ls : List Lk) (pr : List Int) (co k d no p q : Int) (w : World) (h : yp w An Ad As Al Ap nn cn nd cd n c nl cl np cp ns ds s ls pr) :
 Calls Tryz.prog 16 #[.agg #[.slice An nn cn, .slice Ad nd cd], .slice As n c, .agg #[.int .i64 co, .slice Al nl cl, .slice Ap np cp], .agg #[.int .i64 k, .int .i64 d, .int .i64 no, .int .i64 p, .int .i64 q]] w (jO w ns ds s co ls pr ⟨k, d, no, p, q⟩) := by
 refine (kR An Ad As Al Ap nn cn nd cd n c nl cl np cp ns ds s ls pr co k d no p q w h).mono ?_
 rintro e w' ⟨⟨h1, h2⟩ | ⟨h1, A1, A2, B3, B4, n1, c1, n2, c2, m3, e3, m4, e4, rfl, hS, -⟩, hb⟩
 ·exact ⟨.inl ⟨h1, h2⟩, hb⟩
 ·exact ⟨.inr ⟨h1, A1, A2, B3, B4, n1, c1, n2, c2, m3, e3, m4, e4, rfl, hS⟩, hb⟩
end
section
open Go.RowKit
def Ke (w : World) (ob : Nat) (Ao A : Option Addr) (n : Nat) : Prop := 0 < n → ∀ b off, A = some ⟨b, off, none⟩ → w.heap.size + 6 ≤ b ∧ b ≠ ob ∧ ∀ o', Ao ≠ some ⟨b, o', none⟩
structure RM (w : World) (ob : Nat) (An Ad A5 : Option Addr) (nn cn nd cd n5 c5 : Nat) (co : Int) (pg : Array Value) (As Al Ap Ao : Option Addr) (n c nl cl np cp mo cx : Nat) (t : Sm) (out : List Fn) (wr : World) : Prop where
 b0 : Blk wr w.heap.size 26 #[.slice An nn cn, .slice Ad nd cd]
 b1 : Blk wr (w.heap.size + 1) 22 #[.slice As n c]
 b2 : Blk wr (w.heap.size + 2) 29 #[.int .i64 co, .slice Al nl cl, .slice Ap np cp]
 b3 : Blk wr (w.heap.size + 3) 34 pg
 b4 : Blk wr (w.heap.size + 4) 22 #[.slice A5 n5 c5]
 b5 : Blk wr (w.heap.size + 5) 29 #[.int .i64 0, .slice none 0 0, .slice none 0 0]
 bo : Blk wr ob 56 #[.slice Ao mo cx]
 s : Sl wr wr.heap.size 1 As n c (zK t.s)
 l : Sl wr wr.heap.size 3 Al nl cl (t.ls.flatMap Lk.cells)
 p : Sl wr wr.heap.size 1 Ap np cp (zK t.pr)
 o : wr.ownsRow (ob + 1) 95 2 (.slice Ao mo cx) mo (out.flatMap Fn.cells)
 ks : Ke w ob Ao As n
 kl : Ke w ob Ao Al nl
 kp : Ke w ob Ao Ap np
 bl : Below w.heap.size w wr
 hob : w.heap.size + 6 ≤ ob
structure SK (w : World) (ob x : Nat) (co : Int) (Ao A1 A2 Al Ap : Option Addr) (n1 c1 n2 c2 nl cl np cp : Nat) (o : So) (wr : World) : Prop where
 a : xH wr A1 A2 Al Ap n1 c1 n2 c2 nl cl np cp o
 k1 : Ke w ob Ao A1 n1
 k2 : Ke w ob Ao A2 n2
 kl : Ke w ob Ao Al nl
 kp : Ke w ob Ao Ap np
 bx : Blk wr x 29 #[.int .i64 co, .slice Al nl cl, .slice Ap np cp]
 hx : ob < x ∧ ∀ o', Ao ≠ some ⟨x, o', none⟩
section
variable {w wr wr' : World} {ob : Nat} {An Ad A5 As Al Ap Ao : Option Addr} {nn cn nd cd n5 c5 n c nl cl np cp mo cx : Nat} {co : Int} {pg : Array Value} {t : Sm} {out : List Fn}
theorem RM.later (h : RM w ob An Ad A5 nn cn nd cd n5 c5 co pg As Al Ap Ao n c nl cl np cp mo cx t out wr) (hb : Below wr.heap.size wr wr') : RM w ob An Ad A5 nn cn nd cd n5 c5 co pg As Al Ap Ao n c nl cl np cp mo cx t out wr' :=
 ⟨h.b0.below hb h.b0.lt, h.b1.below hb h.b1.lt, h.b2.below hb h.b2.lt, h.b3.below hb h.b3.lt, h.b4.below hb h.b4.lt, h.b5.below hb h.b5.lt, h.bo.below hb h.bo.lt, (h.s.below hb lR).more hb.size, (h.l.below hb lR).more hb.size, (h.p.below hb lR).more hb.size, zx h.o hb, h.ks, h.kl, h.kp, h.bl.trans (hb.mono h.bl.size), h.hob⟩
theorem Ke.fre {B m : Nat} {A A' : Option Addr} (h : Ke w ob Ao A n) (hf : Fre B A A' n m) (hB : ob < B) (hw : w.heap.size + 6 ≤ ob) (ho : ∀ b o', Ao = some ⟨b, o', none⟩ → b < B) : Ke w ob Ao A' m := by
 intro hm b off e
 rcases hf with ⟨hf, hn⟩ | hf
 ·subst hf; exact h (by omega) b off e
 ·have := hf b off e
  refine ⟨by omega, by omega, fun o' e2 => ?_⟩
  have := ho b o' e2; omega
theorem Sl.kept {size m d : Nat} {A : Option Addr} {xs : List Value} {row : Option Nat} (h : Sl wr wr.heap.size size A m d xs) (hg : wr.grownBy wr' row) (ha : 0 < m → ∀ b off, A = some ⟨b, off, none⟩ → some b ≠ row) : Sl wr' wr'.heap.size size A m d xs := by
 obtain ⟨h1, h2, h3, h4, h5⟩ := h
 refine ⟨h1, h2, h3, h4, fun h0 => ?_⟩
 obtain ⟨b, off, e, hb, hc⟩ := h5 h0
 refine ⟨b, off, e, Nat.lt_of_lt_of_le hb hg.size, fun j u hu => ?_⟩
 rw [← hc j u hu]
 exact World.cell?_of_block (hg.block b hb (ha h0 b off e))
theorem ld (A : Option Addr) (m d b : Nat) (h : some b = (Value.slice A m d).ownBlock) (hA : A = none ∨ ∃ g, A = some ⟨g, 0, none⟩) : ∃ o', A = some ⟨b, o', none⟩ := by
 rcases hA with rfl | ⟨g, rfl⟩
 ·cases h
 ·refine ⟨0, ?_⟩; simp [Value.ownBlock] at h; rw [h]
theorem vm {base size m d : Nat} {e : TypeId} {A : Option Addr} {xs : List Value} (h : wr.ownsRow base e size (.slice A m d) m xs) : A = none ∨ ∃ g, A = some ⟨g, 0, none⟩ ∧ base ≤ g ∧ g < wr.heap.size := by
 have hl := h.lt
 rcases h.2 with ⟨h0, -⟩ | ⟨g, cap, cur, h0, hg, -⟩
 ·injection h0 with h0; exact .inl h0
 ·injection h0 with h0; subst h0; exact .inr ⟨g, rfl, hl g rfl⟩
structure Gr (w : World) (ob : Nat) (Ao : Option Addr) (mo cx : Nat) (A' : Option Addr) (cx' : Nat) (wr wr' : World) : Prop where
 g : wr.grownBy wr' (Value.slice Ao mo cx).ownBlock
 at' : (Value.slice A' (mo + 1) cx').ownBlock = (Value.slice Ao mo cx).ownBlock ∨ (Value.slice A' (mo + 1) cx').ownBlock = some wr.heap.size
theorem Ke.grow {m d size : Nat} {A A' : Option Addr} {xs : List Value} {cx' : Nat} (h : Ke w ob Ao A m) (hs : Sl wr wr.heap.size size A m d xs) (hG : Gr w ob Ao mo cx A' cx' wr wr') (hA' : A' = none ∨ ∃ g, A' = some ⟨g, 0, none⟩) (hA : Ao = none ∨ ∃ g, Ao = some ⟨g, 0, none⟩) : Ke w ob A' A m := by
 intro hm b off e
 obtain ⟨h1, h2, h3⟩ := h hm b off e
 refine ⟨h1, h2, fun o' e2 => ?_⟩
 obtain ⟨b', off', e3, hb, -⟩ := hs.2.2.2.2 hm
 rw [e] at e3; injection e3 with e3; injection e3 with e3 _; subst e3
 rcases hA' with rfl | ⟨g, rfl⟩
 ·cases e2
 injection e2 with e2; injection e2 with e2 _; subst e2
 rcases hG.at' with h4 | h4
 ·obtain ⟨o2, h5⟩ := ld Ao mo cx g (by rw [← h4]; rfl) hA
  exact h3 o2 h5
 ·simp [Value.ownBlock] at h4; omega
end
section
variable {w wr wr' : World} {ob x : Nat} {An Ad A5 As Al Ap Ao A1 A2 B3 B4 A' : Option Addr} {nn cn nd cd n5 c5 n c nl cl np cp mo cx n1 c1 n2 c2 m3 e3 m4 e4 cx' : Nat} {co : Int} {pg : Array Value} {t : Sm} {out : List Fn} {so : So} {f : Fn}
theorem vQ (h : RM w ob An Ad A5 nn cn nd cd n5 c5 co pg As Al Ap Ao n c nl cl np cp mo cx t out wr) {g : Nat} (hg : g ≤ ob) : some g ≠ (Value.slice Ao mo cx).ownBlock := fun e => by
 have := (h.o.lt g e.symm).1; omega
theorem RM.app (h : RM w ob An Ad A5 nn cn nd cd n5 c5 co pg As Al Ap Ao n c nl cl np cp mo cx t out wr) (hG : Gr w ob Ao mo cx A' cx' wr wr') (hr : wr'.ownsRow (ob + 1) 95 2 (.slice A' (mo + 1) cx') (mo + 1) (out.flatMap Fn.cells ++ f.cells)) :
 RM w ob An Ad A5 nn cn nd cd n5 c5 co pg As Al Ap A' n c nl cl np cp (mo + 1) cx' t (out ++ [f]) (wr'.setCell ⟨ob, 0, none⟩ (.slice A' (mo + 1) cx')) := by
 have hw := h.hob
 have fA : Ao = none ∨ ∃ g, Ao = some ⟨g, 0, none⟩ := (vm h.o).imp id fun ⟨g, e, _⟩ => ⟨g, e⟩
 have fA' : A' = none ∨ ∃ g, A' = some ⟨g, 0, none⟩ := (vm hr).imp id fun ⟨g, e, _⟩ => ⟨g, e⟩
 have bk : ∀ {g : Nat} {T : TypeId} {cs : Array Value}, g < ob → Blk wr g T cs → Blk (wr'.setCell ⟨ob, 0, none⟩ (.slice A' (mo + 1) cx')) g T cs := fun {g T cs} hg hb => (hb.grown hG.g (vQ h (by omega))).far (by show g ≠ ob; omega) _
 have hsz : wr'.heap.size = (wr'.setCell ⟨ob, 0, none⟩ (.slice A' (mo + 1) cx')).heap.size := by simp [World.setCell]
 have ap : ∀ {A : Option Addr} {m : Nat}, Ke w ob Ao A m → 0 < m → ∀ b off, A = some ⟨b, off, none⟩ → some b ≠ (Value.slice Ao mo cx).ownBlock := fun {A m} hk hm b off e e2 => by
  obtain ⟨o2, h5⟩ := ld Ao mo cx b e2 fA
  exact (hk hm b off e).2.2 o2 h5
 have sl : ∀ {A : Option Addr} {m d size : Nat} {xs : List Value}, Ke w ob Ao A m → Sl wr wr.heap.size size A m d xs → Sl (wr'.setCell ⟨ob, 0, none⟩ (.slice A' (mo + 1) cx')) (wr'.setCell ⟨ob, 0, none⟩ (.slice A' (mo + 1) cx')).heap.size size A m d xs := fun {A m d size xs} hk hs => by
  rw [← hsz]
  have h1 := hs.kept hG.g (ap hk)
  refine ⟨h1.1, h1.2.1, h1.2.2.1, h1.2.2.2.1, fun hn => ?_⟩
  obtain ⟨b, off, e, hb, hc⟩ := h1.2.2.2.2 hn
  exact ⟨b, off, e, hb, fun j v hv => (World.cell?_setCell_far wr' ⟨ob, 0, none⟩ ⟨b, off + j, none⟩ _ (fun e2 => (hk hn b off e).2.1 e2.symm)).trans (hc j v hv)⟩
 refine ⟨bk (by omega) h.b0, bk (by omega) h.b1, bk (by omega) h.b2, bk (by omega) h.b3, bk (by omega) h.b4, bk (by omega) h.b5, ?_, sl h.ks h.s, sl h.kl h.l, sl h.kp h.p, ?_, h.ks.grow h.s hG fA' fA, h.kl.grow h.l hG fA' fA, h.kp.grow h.p hG fA' fA, ?_, h.hob⟩
 ·exact (h.bo.grown hG.g (vQ h lR)).set 0 _
 ·rw [List.flatMap_append, List.flatMap_cons, List.flatMap_nil, List.append_nil]
  exact hr.kept (yE _ _ _) (zm fun b e => by have := (hr.lt b e).1; simp; omega)
 ·have hb : Below w.heap.size w wr' := ⟨hG.g.os.trans h.bl.os, hG.g.tape.trans h.bl.tape, hG.g.output.trans h.bl.output, Nat.le_trans h.bl.size hG.g.size, fun i hi => (hG.g.block i (Nat.lt_of_lt_of_le hi h.bl.size) (vQ h (by omega))).trans (h.bl.block i hi)⟩
  exact hb.setCell (by show w.heap.size ≤ ob; omega) _
theorem SK.app (h : RM w ob An Ad A5 nn cn nd cd n5 c5 co pg As Al Ap Ao n c nl cl np cp mo cx t out wr) (hk : SK w ob x co Ao A1 A2 B3 B4 n1 c1 n2 c2 m3 e3 m4 e4 so wr) (hG : Gr w ob Ao mo cx A' cx' wr wr') (hr : wr'.ownsRow (ob + 1) 95 2 (.slice A' (mo + 1) cx') (mo + 1) (out.flatMap Fn.cells ++ f.cells)) :
 SK w ob x co A' A1 A2 B3 B4 n1 c1 n2 c2 m3 e3 m4 e4 so (wr'.setCell ⟨ob, 0, none⟩ (.slice A' (mo + 1) cx')) := by
 have hw := h.hob
 have fA : Ao = none ∨ ∃ g, Ao = some ⟨g, 0, none⟩ := (vm h.o).imp id fun ⟨g, e, _⟩ => ⟨g, e⟩
 have fA' : A' = none ∨ ∃ g, A' = some ⟨g, 0, none⟩ := (vm hr).imp id fun ⟨g, e, _⟩ => ⟨g, e⟩
 have hsz : wr'.heap.size = (wr'.setCell ⟨ob, 0, none⟩ (.slice A' (mo + 1) cx')).heap.size := by simp [World.setCell]
 have ap : ∀ {A : Option Addr} {m : Nat}, Ke w ob Ao A m → 0 < m → ∀ b off, A = some ⟨b, off, none⟩ → some b ≠ (Value.slice Ao mo cx).ownBlock := fun {A m} hk hm b off e e2 => by
  obtain ⟨o2, h5⟩ := ld Ao mo cx b e2 fA
  exact (hk hm b off e).2.2 o2 h5
 have sl : ∀ {A : Option Addr} {m d size : Nat} {xs : List Value}, Ke w ob Ao A m → Sl wr wr.heap.size size A m d xs → Sl (wr'.setCell ⟨ob, 0, none⟩ (.slice A' (mo + 1) cx')) (wr'.setCell ⟨ob, 0, none⟩ (.slice A' (mo + 1) cx')).heap.size size A m d xs := fun {A m d size xs} hk hs => by
  rw [← hsz]
  have h1 := hs.kept hG.g (ap hk)
  refine ⟨h1.1, h1.2.1, h1.2.2.1, h1.2.2.2.1, fun hn => ?_⟩
  obtain ⟨b, off, e, hb, hc⟩ := h1.2.2.2.2 hn
  exact ⟨b, off, e, hb, fun j v hv => (World.cell?_setCell_far wr' ⟨ob, 0, none⟩ ⟨b, off + j, none⟩ _ (fun e2 => (hk hn b off e).2.1 e2.symm)).trans (hc j v hv)⟩
 refine ⟨⟨sl hk.k1 hk.a.h, sl hk.k2 hk.a.s, sl hk.kl hk.a.l, sl hk.kp hk.a.p⟩, hk.k1.grow hk.a.h hG fA' fA, hk.k2.grow hk.a.s hG fA' fA, hk.kl.grow hk.a.l hG fA' fA, hk.kp.grow hk.a.p hG fA' fA, (hk.bx.grown hG.g (fun e => ?_)).far (by show x ≠ ob; have := hk.hx.1; omega) _, hk.hx.1, fun o' e => ?_⟩
 ·obtain ⟨o2, h5⟩ := ld Ao mo cx x e fA
  exact hk.hx.2 o2 h5
 ·rcases fA' with rfl | ⟨g, rfl⟩
  ·cases e
  injection e with e; injection e with e _; subst e
  rcases hG.at' with h4 | h4
  ·obtain ⟨o2, h5⟩ := ld Ao mo cx g (by rw [← h4]; rfl) fA
   exact hk.hx.2 o2 h5
  ·simp [Value.ownBlock] at h4; have := hk.bx.lt; omega
theorem SK.later (hk : SK w ob x co Ao A1 A2 B3 B4 n1 c1 n2 c2 m3 e3 m4 e4 so wr) (hb : Below wr.heap.size wr wr') : SK w ob x co Ao A1 A2 B3 B4 n1 c1 n2 c2 m3 e3 m4 e4 so wr' :=
 ⟨hk.a.later hb, hk.k1, hk.k2, hk.kl, hk.kp, hk.bx.below hb hk.bx.lt, hk.hx⟩
theorem RM.put (h : RM w ob An Ad A5 nn cn nd cd n5 c5 co pg As Al Ap Ao n c nl cl np cp mo cx t out wr) (hk : SK w ob x co Ao A1 A2 B3 B4 n1 c1 n2 c2 m3 e3 m4 e4 so wr) :
 RM w ob An Ad A5 nn cn nd cd n5 c5 co pg A2 B3 B4 Ao n2 c2 m3 e3 m4 e4 mo cx so.t out ((((wr.setCell ⟨w.heap.size + 1, 0, none⟩ (.slice A2 n2 c2)).setCell ⟨w.heap.size + 2, 0, none⟩ (.int .i64 co)).setCell ⟨w.heap.size + 2, 1, none⟩ (.slice B3 m3 e3)).setCell ⟨w.heap.size + 2, 2, none⟩ (.slice B4 m4 e4)) := by
 have hw := h.hob
 have bk : ∀ {g : Nat} {T : TypeId} {cs : Array Value}, g ≠ w.heap.size + 1 → g ≠ w.heap.size + 2 → Blk wr g T cs → Blk ((((wr.setCell ⟨w.heap.size + 1, 0, none⟩ (.slice A2 n2 c2)).setCell ⟨w.heap.size + 2, 0, none⟩ (.int .i64 co)).setCell ⟨w.heap.size + 2, 1, none⟩ (.slice B3 m3 e3)).setCell ⟨w.heap.size + 2, 2, none⟩ (.slice B4 m4 e4)) g T cs := fun {g T cs} h1 h2 hb => zh (hb.far (by show g ≠ w.heap.size + 1; exact h1) _) h2
 have hsz : ((((wr.setCell ⟨w.heap.size + 1, 0, none⟩ (.slice A2 n2 c2)).setCell ⟨w.heap.size + 2, 0, none⟩ (.int .i64 co)).setCell ⟨w.heap.size + 2, 1, none⟩ (.slice B3 m3 e3)).setCell ⟨w.heap.size + 2, 2, none⟩ (.slice B4 m4 e4)).heap.size = wr.heap.size := by simp [World.setCell]
 have sl : ∀ {A : Option Addr} {m d size : Nat} {xs : List Value}, Ke w ob Ao A m → Sl wr wr.heap.size size A m d xs → Sl ((((wr.setCell ⟨w.heap.size + 1, 0, none⟩ (.slice A2 n2 c2)).setCell ⟨w.heap.size + 2, 0, none⟩ (.int .i64 co)).setCell ⟨w.heap.size + 2, 1, none⟩ (.slice B3 m3 e3)).setCell ⟨w.heap.size + 2, 2, none⟩ (.slice B4 m4 e4)) ((((wr.setCell ⟨w.heap.size + 1, 0, none⟩ (.slice A2 n2 c2)).setCell ⟨w.heap.size + 2, 0, none⟩ (.int .i64 co)).setCell ⟨w.heap.size + 2, 1, none⟩ (.slice B3 m3 e3)).setCell ⟨w.heap.size + 2, 2, none⟩ (.slice B4 m4 e4)).heap.size size A m d xs := fun {A m d size xs} hk hs => by
  rw [hsz]
  rcases Nat.eq_zero_or_pos m with hm | hm
  ·exact ⟨hs.1, hs.2.1, hs.2.2.1, hs.2.2.2.1, fun h => absurd h (by omega)⟩
  ·have e1 : ∀ b off, A = some ⟨b, off, none⟩ → b ≠ w.heap.size + 1 := fun b off e => by have := (hk hm b off e).1; omega
   have e2 : ∀ b off, A = some ⟨b, off, none⟩ → b ≠ w.heap.size + 2 := fun b off e => by have := (hk hm b off e).1; omega
   exact ((((hs.ne e1).ne e2).ne e2).ne e2)
 refine ⟨bk (by omega) (by omega) h.b0, (zh (h.b1.set 0 _) (by omega)), ?_, bk (by omega) (by omega) h.b3, bk (by omega) (by omega) h.b4, bk (by omega) (by omega) h.b5, bk (by omega) (by omega) h.bo, sl hk.k2 hk.a.s, sl hk.kl hk.a.l, sl hk.kp hk.a.p, ?_, hk.k2, hk.kl, hk.kp, ?_, h.hob⟩
 ·exact ((((h.b2.far (by simp) _).set 0 _).set 1 _).set 2 _)
 ·have f : ∀ {y i : Nat} {u : Value} {W : World}, y ≤ ob → W.ownsRow (ob + 1) 95 2 (.slice Ao mo cx) mo (out.flatMap Fn.cells) → (W.setCell ⟨y, i, none⟩ u).ownsRow (ob + 1) 95 2 (.slice Ao mo cx) mo (out.flatMap Fn.cells) := fun {y i u W} hy hh => uK hh (by omega)
  exact f (by omega) (f (by omega) (f (by omega) (f (by omega) h.o)))
 ·exact (((h.bl.setCell (by simp) _).setCell (by simp) _).setCell (by simp) _).setCell (by simp) _
end
end
end Go.Proofs.YtddddlhgaeameaaGreatDoor
