import Derived.Test.YtddddlhgaeameaaGreatDoorK43
set_option maxRecDepth 100000
set_option maxHeartbeats 16000000
namespace Go.Proofs.YtddddlhgaeameaaGreatDoor
section
open Go.RowKit
theorem kL : yj Tryz.prog 32 31 5 40 := yj.mk' (z := .agg #[.int .i64 0, .int .i64 0, .int .i64 0, .int .i64 0, .int .i64 0]) Tryz.underlying32 (by kernel_rfl) rfl (by decide)
def tA (w : World) (base : Nat) (A : Option Addr) (n c : Nat) (xs : List Sp) : Prop := w.ownsRow base 31 5 (.slice A n c) n (xs.flatMap Sp.cells)
theorem tA.len {w : World} {base : Nat} {A : Option Addr} {n c : Nat} {xs : List Sp} (h : tA w base A n c xs) : xs.length = n := (Sl.of_own h).len (fun _ => rfl) (by decide)
structure MpM (w : World) (g x : Nat) (nt : Array Value) (nm : ByteArray) (A : Option Addr) (n c : Nat) (xs : List Sp) (wr : World) : Prop where
 b0 : Blk wr w.heap.size 26 nt
 b1 : Blk wr (w.heap.size + 1) 34 #[.string ⟨#[]⟩, .slice none 0 0]
 bx : Blk wr x 34 #[.string nm, .slice A n c]
 dk : zQ wr g
 gr : w.grownBy wr (some g)
 o : wr.ownsRow (x + 1) 31 5 (.slice A n c) n (xs.flatMap Sp.cells)
 hx : w.heap.size + 1 < x
section
variable {w wr wr' : World} {g x : Nat} {nt : Array Value} {nm : ByteArray} {A A' : Option Addr} {n c c' : Nat} {xs : List Sp} {f : Sp}
theorem MpM.grown (h : MpM w g x nt nm A n c xs wr) (hg : wr.grownBy wr' (some g)) (hd : zQ wr' g) (h0 : g < w.heap.size) : MpM w g x nt nm A n c xs wr' :=
 have := h.hx
 ⟨h.b0.grown hg (fun e => by injection e with e; omega), h.b1.grown hg (fun e => by injection e with e; omega), h.bx.grown hg (fun e => by injection e with e; omega), hd, zL h.gr hg, h.o.kept hg (zj fun b e => by have := (h.o.lt b e).1; omega), h.hx⟩
theorem MpM.later (h : MpM w g x nt nm A n c xs wr) (hb : Below wr.heap.size wr wr') : MpM w g x nt nm A n c xs wr' :=
 ⟨h.b0.below hb h.b0.lt, h.b1.below hb h.b1.lt, h.bx.below hb h.bx.lt, h.dk.below hb h.dk.lt, wj h.gr (hb.mono h.gr.size), za h.o hb, h.hx⟩
theorem MpM.drw (h : MpM w g x nt nm A n c xs wr) : MpM w g x nt nm A n c xs wr.drew := h.later (Below.refl _ wr).drew
theorem MpM.app (h : MpM w g x nt nm A n c xs wr) (hg : wr.grownBy wr' (Value.slice A n c).ownBlock) (hr : wr'.ownsRow (x + 1) 31 5 (.slice A' (n + 1) c') (n + 1) (xs.flatMap Sp.cells ++ f.cells)) (h0 : g < w.heap.size) :
 Blk wr' x 34 #[.string nm, .slice A n c] ∧ Blk wr' w.heap.size 26 nt ∧ MpM w g x nt nm A' (n + 1) c' (xs ++ [f]) (wr'.setCell ⟨x, 1, none⟩ (.slice A' (n + 1) c')) := by
 have hx := h.hx
 have nb : ∀ {b : Nat}, b ≤ x → some b ≠ (Value.slice A n c).ownBlock := fun {b} hb e => by have := (h.o.lt b e.symm).1; omega
 have hB : Below w.heap.size w w := Below.refl _ _
 refine ⟨h.bx.grown hg (nb lR), h.b0.grown hg (nb (by omega)), (h.b0.grown hg (nb (by omega))).far (by show w.heap.size ≠ x; omega) _, (h.b1.grown hg (nb (by omega))).far (by show w.heap.size + 1 ≠ x; omega) _, (h.bx.grown hg (nb lR)).set 1 _, ?_, ?_, ?_, hx⟩
 ·exact (h.dk.grown hg (fun k e => by have := (h.o.lt k e).1; omega)).setCell (p := ⟨x, 1, none⟩) (by show g < x; omega) _
 ·have hb : Below w.heap.size wr wr' := ⟨hg.os, hg.tape, hg.output, hg.size, fun i hi => hg.block i (Nat.lt_of_lt_of_le hi h.gr.size) (nb (by omega))⟩
  exact wj h.gr (hb.setCell (by show w.heap.size ≤ x; omega) _)
 ·rw [List.flatMap_append, List.flatMap_cons, List.flatMap_nil, List.append_nil]
  exact hr.kept (zx _ _ _) (zj fun b e => by have := (hr.lt b e).1; simp; omega)
theorem MpM.fin (h : MpM w g x nt nm A n c xs wr) (h0 : g < w.heap.size) : tA ((wr.setCell ⟨w.heap.size + 1, 0, none⟩ (.string nm)).setCell ⟨w.heap.size + 1, 1, none⟩ (.slice A n c)) w.heap.size A n c xs ∧ zQ ((wr.setCell ⟨w.heap.size + 1, 0, none⟩ (.string nm)).setCell ⟨w.heap.size + 1, 1, none⟩ (.slice A n c)) g ∧ w.grownBy ((wr.setCell ⟨w.heap.size + 1, 0, none⟩ (.string nm)).setCell ⟨w.heap.size + 1, 1, none⟩ (.slice A n c)) (some g) := by
 have hx := h.hx
 exact ⟨(xl (xl h.o (by omega)) (by omega)).mono (by omega), (h.dk.setCell (p := ⟨w.heap.size + 1, 0, none⟩) (by simp; omega) _).setCell (p := ⟨w.heap.size + 1, 1, none⟩) (by simp; omega) _, zl (zl h.gr (p := ⟨w.heap.size + 1, 0, none⟩) (by simp) _) (p := ⟨w.heap.size + 1, 1, none⟩) (by simp) _⟩
end
def kQ (w : World) (g nn nd most : Nat) (e : Ending) (w' : World) : Prop := ∃ (nm : ByteArray) (A : Option Addr) (n c : Nat) (xs : List Sp), e = .returned (.agg #[.string nm, .slice A n c]) ∧ Hid (yD (toL nm) = true) ∧ Hid (zv nn nd xs = 0 ∧ xs.length = n ∧ n ≤ most) ∧ Hid (tA w' w.heap.size A n c xs) ∧ Hid (zQ w' g) ∧ Hid (w.grownBy w' (some g))
theorem qW {nn nd : Nat} {f : Sp} : ∀ {xs : List Sp}, zv nn nd xs = 0 → zd nn nd f = 0 → zv nn nd (xs ++ [f]) = 0
 | [], _, h => by rw [List.nil_append, zv, if_neg (by omega)]; rfl
 | x :: xs, h, hf => by
  rw [zv] at h
  split at h
  ·next h1 => exact absurd h h1
  ·next h1 => rw [List.cons_append, zv, if_neg h1]; exact qW h hf
theorem mR {nn nd : Nat} : ∀ {xs : List Sp}, zv nn nd xs = 0 → ∀ f ∈ xs, zd nn nd f = 0
 | x :: xs, h, f, hf => by
  rw [zv] at h
  split at h
  ·next h1 => exact absurd h h1
  ·next h1 =>
   rcases List.mem_cons.1 hf with rfl | hf
   ·simpa using h1
   ·exact mR h f hf
def MpR (w : World) (g x : Nat) (An Ad : Option Addr) (nn cn nd cd most : Nat) (nm : ByteArray) (gk : Nat) (kv : Value) (wr : World) : Prop :=
 ∃ (k n c : Nat) (A : Option Addr) (xs : List Sp), kv = .int .i64 (k : Int) ∧ gk = k ∧ n + k ≤ most ∧ Hid (MpM w g x #[.slice An nn cn, .slice Ad nd cd] nm A n c xs wr) ∧ Hid (zv nn nd xs = 0)
theorem oG (g : Nat) (An Ad : Option Addr) (nn cn nd cd most : Nat) (w : World) (hd : zQ w g) (hnn : 0 < nn) (hnn1 : nn ≤ 1000) (hnd : 0 < nd) (hnd1 : nd ≤ 1000) (hmo : most ≤ 1000) :
 Calls Tryz.prog 14 #[.pointer (some ⟨g, 0, none⟩), .agg #[.slice An nn cn, .slice Ad nd cd], .int .i64 (most : Int)] w (kQ w g nn nd most) := by
 have hlt := hd.lt
 have HB0 := iD ((Blk.new w 26 #[.slice An nn cn, .slice Ad nd cd]).alloc (.cells #[.string ⟨#[]⟩, .slice none 0 0] 34))
 have HB1 : Hid (Blk ((w.alloc (.cells #[.slice An nn cn, .slice Ad nd cd] 26)).alloc (.cells #[.string ⟨#[]⟩, .slice none 0 0] 34)) (w.heap.size + 1) 34 #[.string ⟨#[]⟩, .slice none 0 0]) := by
  have := Blk.new (w.alloc (.cells #[.slice An nn cn, .slice Ad nd cd] 26)) 34 #[.string ⟨#[]⟩, .slice none 0 0]
  unfold Hid; simpa using this
 have HBL : Hid (Below w.heap.size w ((w.alloc (.cells #[.slice An nn cn, .slice Ad nd cd] 26)).alloc (.cells #[.string ⟨#[]⟩, .slice none 0 0] 34))) := ((Below.refl _ _).alloc lR _).alloc (by simp) _
 have HD0 := iD ((hd.alloc (.cells #[.slice An nn cn, .slice Ad nd cd] 26)).alloc (.cells #[.string ⟨#[]⟩, .slice none 0 0] 34))
 clear hd
 go_enter Tryz.func14, Tryz.ntmps14
 go_upto_region 1 with (fail)
 generalize World.alloc (World.alloc w _) _ = W at *
 go_wp2_with fail
 refine (zR g 50 W HD0.out (by decide)).mono ?_
 rintro e w1 ⟨r, rfl, hv0, _, hv1, hd1, hg1, hs1⟩
 have hvn := hv1.out (by decide)
 obtain ⟨r, rfl⟩ := Int.eq_ofNat_of_zero_le hv0
 have HG1 := iD (zL (zK HBL.out (some g)) hg1.out)
 have HC0 := iD (HB0.out.grown hg1.out (fun e => by injection e with e; omega))
 have HC1 := iD (HB1.out.grown hg1.out (fun e => by injection e with e; omega))
 have HDK := iD hd1.out
 clear hv1 hd1 hg1 hs1 HB0 HB1 HBL HD0
 go_wp2_with fail
 refine (xp ⟨#[80]⟩ r w1 (by decide) (by omega)).mono ?_
 rintro e w2 ⟨rfl, hb2⟩
 obtain ⟨nm, hnm⟩ : ∃ nm, nm = mkS (nm2 (toL ⟨#[80]⟩) r) := ⟨_, rfl⟩
 rw [← hnm]
 have HNM : Hid (yD (toL nm) = true) := by unfold Hid; rw [hnm, wT]; exact sG 80 r (by decide) (by omega)
 have HX : Hid (w.heap.size + 1 < w2.heap.size) := by have := HC1.out.lt; have := hb2.size; unfold Hid; omega
 have HM : Hid (MpM w g w2.heap.size #[.slice An nn cn, .slice Ad nd cd] nm none 0 0 [] (w2.alloc (.cells #[.string nm, .slice none 0 0] 34))) :=
  ⟨(HC0.out.below hb2 HC0.out.lt).alloc _, (HC1.out.below hb2 HC1.out.lt).alloc _, Blk.new _ _ _, (HDK.out.below hb2 HDK.out.lt).alloc _, wj HG1.out ((hb2.mono HG1.out.size).alloc (Nat.le_trans HG1.out.size hb2.size) _), World.ownsRow_nil _ _ _ _, HX.out⟩
 clear hnm hb2 HC0 HC1 HDK HG1
 go_upto_region 2 with (fail)
 generalize World.alloc w2 _ = V at *
 obtain ⟨x, hxx⟩ : ∃ x, x = w2.heap.size := ⟨_, rfl⟩
 rw [← hxx] at HM HX ⊢
 clear hxx HX
 have hwr : IntKind.i64.wrap ((most : Int) + 1) = (most : Int) + 1 := IntWalk.i64_in _ (by omega)
 go_wp2_with fail
 refine (zR g ((most : Int) + 1) V HM.out.dk (by omega)).mono ?_
 rintro e w3 ⟨k, rfl, hk0, _, hk1, hd3, hg3, hs3⟩
 have hkn := hk1.out (by omega)
 obtain ⟨k, rfl⟩ := Int.eq_ofNat_of_zero_le hk0
 have HMV := iD (HM.out.grown hg3.out hd3.out hlt)
 clear hk1 hd3 hg3 hs3 hwr HM V
 go_upto_region 3 with (fail)
 refine yU [(7, 0), (0, 2), (7, 0), (11, 1), (0, 0)] 8 (k) (MpR w g x An Ad nn cn nd cd most nm) (by (try dsimp only [gt]); exact ⟨k, 0, 0, none, [], rfl, rfl, by omega, HMV, rfl⟩) (by kernel_rfl) ?_
 intro u1 p8 gk wr a hrel ha J1 K1 hJ1 hK1
 dsimp only [ze, Go.Proofs.YtddddlhgaeameaaGreatDoor.v1, Nat.reduceAdd] at ha
 subst ha
 clear HMV hkn hk0
 obtain ⟨k', n, c, A, xs, rfl, rfl, hk, HM, HSX⟩ := hrel
 by_cases hlt2 : 0 < gk; rotate_left
 ·obtain rfl : gk = 0 := by omega
  go_upto_region 6 with (fail)
  have c0 := HM.out.bx.cell 0
  have c1 := HM.out.bx.cell 1
  have d0 := HM.out.b1.cell 0
  have d1 := HM.out.b1.cell 1
  have y0 := HM.out.b1.frozen 0
  have y1 := HM.out.b1.frozen 1
  have HF : Hid (Blk ((wr.setCell ⟨w.heap.size + 1, 0, none⟩ (.string nm)).setCell ⟨w.heap.size + 1, 1, none⟩ (.slice A n c)) (w.heap.size + 1) 34 #[.string nm, .slice A n c]) := (HM.out.b1.set 0 _).set 1 _
  have HE : Hid (tA ((wr.setCell ⟨w.heap.size + 1, 0, none⟩ (.string nm)).setCell ⟨w.heap.size + 1, 1, none⟩ (.slice A n c)) w.heap.size A n c xs ∧ zQ ((wr.setCell ⟨w.heap.size + 1, 0, none⟩ (.string nm)).setCell ⟨w.heap.size + 1, 1, none⟩ (.slice A n c)) g ∧ w.grownBy ((wr.setCell ⟨w.heap.size + 1, 0, none⟩ (.string nm)).setCell ⟨w.heap.size + 1, 1, none⟩ (.slice A n c)) (some g)) := HM.out.fin hlt
  go_wp2_with fail
  clear c0 c1 d0 d1 y0 y1
  generalize World.setCell (World.setCell wr _ _) _ _ = z at *
  have q0 := HF.out.c0
  have q1 := HF.out.c1
  exact bodyPost_ret (v := .agg #[.string nm, .slice A n c]) (by simp [results, Tryz.results14, go_sem, q0, q1]) rfl ⟨nm, A, n, c, xs, rfl, HNM, ⟨HSX.out, tA.len HE.out.1, by omega⟩, HE.out.1, HE.out.2.1, HE.out.2.2⟩
 have q1 : decide ((gk : Int) > 0) = true := by simpa using hlt2
 have q2 : decide (0 < (gk : Int)) = true := by simpa using hlt2
 go_upto_region 5 with (fail)
 clear q1 q2
 have hfz := HM.out.bx.frozen 1
 refine zD (S := fun W' => W'.cell? ⟨x, 1, none⟩ = some (.slice A n c) ∧ W'.cell? ⟨w.heap.size, 0, none⟩ = some (.slice An nn cn) ∧ W'.cell? ⟨w.heap.size, 1, none⟩ = some (.slice Ad nd cd)) (J := [8]) (by kernel_rfl) ?_ (fun AA => ?_)
 ·exact ⟨HM.out.bx.cell 1, HM.out.b0.cell 0, HM.out.b0.cell 1⟩
 try dsimp only at AA
 refine tk 0 21 (mf 9 1) AA ?_
 refine tk 2 23 (ma 9 5) AA ?_
 refine tx 1 22 ?_ (mf 9 3) ?_ AA ?_
 rotate_left
 ·(intro w hSw; (try dsimp only at hSw); have u0 := hSw.1; go_simp; try with_reducible rfl)
 try simp only [Act.put, sA, sB, sC]
 refine tx 3 24 ?_ (mf 9 4) ?_ AA ?_
 rotate_left
 ·(intro w hSw; (try dsimp only at hSw); have u0 := hSw.2.1; have u1 := hSw.2.2; go_simp; try with_reducible rfl)
 try simp only [Act.put, sA, sB, sC]
 refine tb 4 (mf 9 5) fun K hK => ?_
 (go_simp; refine (oE g An Ad nn cn nd cd wr.drew HM.out.drw.dk (by omega) (by omega) (by omega) (by omega)).mono ?_; rintro e w3 ⟨k, d, no, p, q, rfl, hsp, hd3, hg3⟩; have HM3 := iD (HM.out.drw.grown hg3.out hd3.out hlt); have HSP := iD hsp.out; clear hd3 hg3 hsp; go_simp)
 refine hK.out _ _ (fun _ => ?_) (fun AA' => ?_)
 ·exact ⟨HM3.out.bx.cell 1, HM3.out.b0.cell 0, HM3.out.b0.cell 1⟩
 replace AA := AA' rfl
 clear AA' hK K
 try dsimp only at AA
 refine tb 5 (mf 9 6) fun K hK => ?_
 (go_simp)
 refine hK.out _ _ (fun _ => ?_) (fun AA' => ?_)
 ·exact ⟨(HM3.out.later ((Below.refl _ w3).alloc lR (.cells #[.int .i64 k, .int .i64 d, .int .i64 no, .int .i64 p, .int .i64 q] 31))).bx.cell 1, (HM3.out.later ((Below.refl _ w3).alloc lR (.cells #[.int .i64 k, .int .i64 d, .int .i64 no, .int .i64 p, .int .i64 q] 31))).b0.cell 0, (HM3.out.later ((Below.refl _ w3).alloc lR (.cells #[.int .i64 k, .int .i64 d, .int .i64 no, .int .i64 p, .int .i64 q] 31))).b0.cell 1⟩
 replace AA := AA' rfl
 clear AA' hK K
 try dsimp only at AA
 refine tb 6 (mf 9 7) fun K hK => ?_
 (refine zo (d := some 27) (by rfl) (by rfl) (.tmp 22) (.tmp 26) (by rfl) kL (by rfl) (HM3.out.later ((Below.refl _ w3).alloc lR (.cells #[.int .i64 k, .int .i64 d, .int .i64 no, .int .i64 p, .int .i64 q] 31))).o (by rfl) (Sl.newest (n := 1) rfl rfl (by decide)) (by simp [Value.oneCell']) (by omega) (by omega) (by have := (HM3.out.bx).lt; simp; omega) ?_; intro A' c' w7 hown7 hgr7 hat7; have HM7 := iD (MpM.app (f := ⟨k, d, no, p, q⟩) (HM3.out.later ((Below.refl _ w3).alloc lR (.cells #[.int .i64 k, .int .i64 d, .int .i64 no, .int .i64 p, .int .i64 q] 31))) hgr7 hown7 hlt); have q0 := HM7.out.1.cell 1; have q1 := HM7.out.1.frozen 1; clear hown7 hgr7 hat7)
 refine hK.out _ _ (fun _ => ?_) (fun AA' => ?_)
 ·exact ⟨HM7.out.1.cell 1, HM7.out.2.1.cell 0, HM7.out.2.1.cell 1⟩
 replace AA := AA' rfl
 clear AA' hK K
 try dsimp only at AA
 refine tk 7 28 (mf 9 8) AA ?_
 refine tb 8 (mf 9 9) fun K hK => ?_
 go_simp
 refine hK.out _ _ (fun h => by cases h) (fun _ => ?_)
 try clear AA
 clear hK K
 refine zC (by kernel_rfl) ?_ _
 have HM8 := iD HM7.out.2.2
 have HS8 := iD (qW HSX.out HSP.out)
 clear HM7 q0 q1 HM3 HM HSX HSP
 generalize World.setCell w7 _ _ = w8 at *
 go_wp2_with fail
 refine Handed.intro (gk - 1) (by omega) (hJ1 _ _ _ (xS.back 8 ?_ (by kernel_rfl)))
 dsimp only [gt]
 exact ⟨gk - 1, n + 1, c', A', xs ++ [⟨k, d, no, p, q⟩], by go_num, rfl, by omega, HM8, HS8⟩
end
section
open Go.RowKit
theorem nT {ns : List Nd} {ds : List Dv} {co : Int} {t : Sm} {x : Sp} (h : (zS ns ds co t x).ok = false) : (zS ns ds co t x).t = t := by
 unfold zS at h ⊢
 split at h
 ·cases h
 next h1 =>
 rw [if_neg h1]
 split at h
 ·split at h <;> cases h
 next h2 =>
 rw [if_neg h2]
 split at h
 ·split at h <;> cases h
 next h3 =>
 rw [if_neg h3]
 split at h
 ·next h4 => rw [if_pos h4]
 next h4 =>
 rw [if_neg h4]
 split at h
 ·cases h
 split at h <;> cases h
theorem vJ {ns : List Nd} {ds : List Dv} {co : Int} {stk : List Int} : ∀ (l : List Sp) (i : Nat) (out : List Fn) (t : Sm), i ≤ (zc ns ds co stk i out t l).2.2 ∧ (zc ns ds co stk i out t l).2.2 ≤ i + l.length
 | [], i, out, t => by rw [zc]; simp
 | x :: r, i, out, t => by
  rw [zc]
  split
  ·simp
  split
  ·have := vJ (ns := ns) (ds := ds) (co := co) (stk := stk) r (i + 1) (out ++ zw i (zS ns ds co t x).h) (zS ns ds co t x).t
   simp only [List.length_cons]; omega
  ·simp
theorem rJ {ns : List Nd} {ds : List Dv} {co : Int} {stk : List Int} : ∀ (l : List Sp) (i : Nat) (out : List Fn) (t : Sm), out <+: (zc ns ds co stk i out t l).1
 | [], i, out, t => by rw [zc]; exact List.prefix_refl _
 | x :: r, i, out, t => by
  rw [zc]
  split
  ·exact List.prefix_refl _
  split
  ·exact (List.prefix_append _ _).trans (rJ r (i + 1) (out ++ zw i (zS ns ds co t x).h) (zS ns ds co t x).t)
  ·exact List.prefix_append _ _
theorem rK {ns : List Nd} {ds : List Dv} {co : Int} {stk : List Int} : ∀ (l : List Sp) (i : Nat) (out : List Fn) (t : Sm),
 (zc ns ds co stk i out t l).2.2 ≤ (zc ns ds co [] i out t l).2.2 ∧ (zc ns ds co stk i out t l).1 <+: (zc ns ds co [] i out t l).1 ∧
  ((zc ns ds co stk i out t l).2.2 = (zc ns ds co [] i out t l).2.2 ∨ ∃ y, l[(zc ns ds co stk i out t l).2.2 - i]? = some y ∧ y.dev ∈ stk)
 | [], i, out, t => by rw [zc, zc]; exact ⟨Nat.le_refl _, List.prefix_refl _, .inl rfl⟩
 | x :: r, i, out, t => by
  have hb : wU [] x = false := by simp [wU]
  by_cases h : wU stk x = true
  ·have e : zc ns ds co stk i out t (x :: r) = (out, t, i) := by rw [zc, if_pos h]
   rw [e]
   refine ⟨(vJ _ _ _ _).1, rJ _ _ _ _, .inr ⟨x, by simp, ?_⟩⟩
   unfold wU at h
   simp at h
   exact h.2
  ·have e2 : ∀ s, wU s x = false → zc ns ds co s i out t (x :: r) = if (zS ns ds co t x).ok then zc ns ds co s (i + 1) (out ++ zw i (zS ns ds co t x).h) (zS ns ds co t x).t r else (out ++ zw i (zS ns ds co t x).h, (zS ns ds co t x).t, i) := fun s hs => by rw [zc, if_neg (by simp [hs])]
   rw [e2 stk (by simpa using h), e2 [] hb]
   split
   ·obtain ⟨h1, h2, h3⟩ := rK (ns := ns) (ds := ds) (co := co) (stk := stk) r (i + 1) (out ++ zw i (zS ns ds co t x).h) (zS ns ds co t x).t
    refine ⟨h1, h2, h3.imp id fun ⟨y, hy, hd⟩ => ⟨y, ?_, hd⟩⟩
    have hg := (vJ (ns := ns) (ds := ds) (co := co) (stk := stk) r (i + 1) (out ++ zw i (zS ns ds co t x).h) (zS ns ds co t x).t).1
    rw [show (zc ns ds co stk (i + 1) (out ++ zw i (zS ns ds co t x).h) (zS ns ds co t x).t r).2.2 - i = ((zc ns ds co stk (i + 1) (out ++ zw i (zS ns ds co t x).h) (zS ns ds co t x).t r).2.2 - (i + 1)) + 1 by omega, List.getElem?_cons_succ]
    exact hy
   ·exact ⟨Nat.le_refl _, List.prefix_refl _, .inl rfl⟩
theorem pn {ns : List Nd} {ds : List Dv} {co : Int} {stk : List Int} {xs : List Sp} {i : Nat} {out : List Fn} {t : Sm} {R : List Fn × Sm × Nat} (h : zc ns ds co stk i out t (xs.drop i) = R) (hi : i < R.2.2) :
 ∃ x, xs[i]? = some x ∧ (zS ns ds co t x).ok = true ∧ zc ns ds co stk (i + 1) (out ++ zw i (zS ns ds co t x).h) (zS ns ds co t x).t (xs.drop (i + 1)) = R := by
 rcases hx : xs[i]? with _ | x
 ·rw [ui (by simpa using hx)] at h
  rw [← h] at hi; exact absurd hi (Nat.lt_irrefl _)
 refine ⟨x, rfl, ?_⟩
 rcases hs : wU stk x with _ | _
 rotate_left
 ·rw [vH hx hs] at h
  rw [← h] at hi; exact absurd hi (Nat.lt_irrefl _)
 rcases ho : (zS ns ds co t x).ok with _ | _
 ·rw [uA hx hs ho] at h
  rw [← h] at hi; exact absurd hi (Nat.lt_irrefl _)
 ·exact ⟨rfl, by rw [← h, vI hx hs ho]⟩
theorem nU {ns : List Nd} {ds : List Dv} {co : Int} {stk : List Int} {xs : List Sp} {i : Nat} {out : List Fn} {t : Sm} {R : List Fn × Sm × Nat} (h : zc ns ds co stk i out t (xs.drop i) = R) (hi : R.2.2 = i) : R.2.1 = t := by
 rcases hx : xs[i]? with _ | x
 ·rw [ui (by simpa using hx)] at h
  rw [← h]
 rcases hs : wU stk x with _ | _
 rotate_left
 ·rw [vH hx hs] at h
  rw [← h]
 rcases ho : (zS ns ds co t x).ok with _ | _
 ·rw [uA hx hs ho] at h
  rw [← h]; exact nT ho
 ·rw [vI hx hs ho] at h
  have := (vJ (ns := ns) (ds := ds) (co := co) (stk := stk) (xs.drop (i + 1)) (i + 1) (out ++ zw i (zS ns ds co t x).h) (zS ns ds co t x).t).1
  rw [h] at this; omega
theorem rP {ns : List Nd} {ds : List Dv} {s : List Int} {co : Int} {ls : List Lk} {pr : List Int} {nm : ByteArray} {xs : List Sp} (hs : zP ns ds s = 0) (hc : zT ns ds = 0) (hco : 0 ≤ co ∧ co ≤ 7) (hl : zM ns ds ls = 0) (hp : yS ns.length (-1) pr = true) (hn : yD (toL nm) = true) (hx : zv ns.length ds.length xs = 0) (hm : xs.length ≤ 64) : yo ns ds s co ls pr nm xs = 0 := by
 have h1 : yg ns ds co ls pr = 0 := by
  unfold yg; rw [if_neg (by omega), if_neg (by rw [hl]; simp), if_neg (by simp [hp])]
 have h2 : xI ns ds nm xs = 0 := by
  unfold xI; rw [if_neg (by simp [hc]), if_neg (by simp [hn]), if_neg (by omega)]
  exact hx
 unfold yo; rw [if_neg (by simp [hs]), if_neg (by simp [h1]), h2]
end
end Go.Proofs.YtddddlhgaeameaaGreatDoor
