import Derived.Test.YtkkobemhbicjgaaGreatDoorE33
set_option maxRecDepth 100000
set_option maxHeartbeats 16000000
namespace Go.Proofs.YtkkobemhbicjgaaGreatDoor
open Go.RowKit
def fnV : Nat → Value
 | 0 => .func (.func 112) #[] #[]
 | 1 => .func (.func 112) #[] #[]
 | 2 => .func (.func 113) #[] #[]
 | 3 => .func (.func 114) #[] #[]
 | 4 => .func (.func 115) #[] #[]
 | _ => .func (.func 116) #[] #[]
def iH : Array Value := #[.int .i64 1, fnV 0, .int .i64 2, fnV 1, .int .i64 3, fnV 2, .int .i64 4, fnV 3, .int .i64 5, fnV 4, .int .i64 6, fnV 5]
theorem gS {w : World} {b : Nat} {t : TypeId} (h : Blk w b t iH) {j : Nat} (hj : j < 6) : w.cell? ⟨b, j * 2, none⟩ = some (.int .i64 ((j : Int) + 1)) ∧ w.cell? ⟨b, j * 2 + 1, none⟩ = some (fnV j) := by
 rw [h.cell, h.cell]
 rcases (show j = 0 ∨ j = 1 ∨ j = 2 ∨ j = 3 ∨ j = 4 ∨ j = 5 by omega) with rfl | rfl | rfl | rfl | rfl | rfl <;> exact ⟨rfl, rfl⟩
theorem mx (w : World) : Calls Tryz.prog 76 #[] w fun e w' => ∃ b : Nat, e = .returned (.slice (some ⟨b, 0, none⟩) 6 6) ∧ Hid (Blk w' b 129 iH) ∧ Hid (Below w.heap.size w w') ∧ Hid (w.heap.size ≤ b) := by
 go_enter Tryz.func76, Tryz.ntmps76
 go_wp2_with fail
 go_ret
 exact ⟨_, rfl, Blk.new w 129 iH, (Below.refl _ _).alloc lR _, Nat.le_refl _⟩
theorem Sl.ne3 {w : World} {B size n c x i : Nat} {A : Option Addr} {xs : List Value} {u : Value} (h : Sl w B size A n c xs) (hx : 0 < n → ∀ b off, A = some ⟨b, off, none⟩ → b ≠ x) : Sl (w.setCell ⟨x, i, none⟩ u) B size A n c xs :=
 ⟨h.1, h.2.1, h.2.2.1, h.2.2.2.1, fun hn => by
  obtain ⟨b, off, rfl, hb, hc⟩ := h.2.2.2.2 hn
  exact ⟨b, off, rfl, hb, fun j v hv => (World.cell?_setCell_far w ⟨x, i, none⟩ ⟨b, off + j, none⟩ u (fun e => hx hn b off rfl e.symm)).trans (hc j v hv)⟩⟩
theorem uV {w : World} {size n c x : Nat} {A : Option Addr} {xs : List Value} {a b d e f : Value} (h : Sl w w.heap.size size A n c xs) (hx : 0 < n → ∀ b off, A = some ⟨b, off, none⟩ → b ≠ x) : Sl (st5 w x a b d e f) (st5 w x a b d e f).heap.size size A n c xs := by
 unfold st5
 have h5 := (((((h.ne3 (i := 0) (u := a) hx).ne3 (i := 1) (u := b) hx).ne3 (i := 2) (u := d) hx).ne3 (i := 3) (u := e) hx).ne3 (i := 4) (u := f) hx)
 exact h5.more (by simp [World.setCell])
theorem th {w : World} {size n n' c x B : Nat} {A A' : Option Addr} {xs : List Value} (h : Fre B A A' n n') (hs : Sl w w.heap.size size A n c xs) (h1 : w.heap.size ≤ x) (h2 : x < B) : 0 < n' → ∀ b off, A' = some ⟨b, off, none⟩ → b ≠ x := by
 intro hn b off e
 rcases h with ⟨rfl, rfl⟩ | h
 ·obtain ⟨b', off', e', hb, -⟩ := hs.2.2.2.2 hn
  rw [e] at e'; injection e' with e'; injection e' with e1 e2
  omega
 ·have := h b off e; omega
theorem qS {B B' n n' : Nat} {A A' : Option Addr} (h : Fre B' A A' n n') (hB : B ≤ B') : Fre B A A' n n' := h.imp id fun h b off e => Nat.le_trans hB (h b off e)
def RlR (w : World) (L : List (TypeId × Array Value)) (rb k : Nat) (gk : Nat) (iv : Value) (wr : World) : Prop := ∃ j : Nat, iv = .int .i64 j ∧ j < k ∧ gk = 6 - j ∧ Hid (Bxs w L wr) ∧ Hid (Blk wr rb 129 iH)
theorem gR {j : Nat} (hj : j < 6) : ∃ f : FuncId, fnV j = .func (.func f) #[] #[] ∧ (∀ (args : Array Value) (W : World), (callFunc f args).run Tryz.prog W = .ok (.enter f args) W) ∧ ∀ (kk : Nat), j + 1 = kk → ∀ (An Ad As Al Ap : Option Addr) (nn cn nd cd n c nl cl np cp : Nat) (ns : List Nd) (ds : List Dv) (m : List Int) (ls : List Lk) (pr : List Int) (co d no p q : Int) (V : World), yX V An Ad As Al Ap nn cn nd cd n c nl cl np cp ns ds m ls pr → wX ns ds ⟨m, ls, pr⟩ → zT ns.length ds.length ⟨kk, d, no, p, q⟩ = 0 → 0 ≤ co ∧ co ≤ 7 →
 Calls Tryz.prog f #[.agg #[.slice An nn cn, .slice Ad nd cd], .agg #[.slice As n c, .int .i64 co, .slice Al nl cl, .slice Ap np cp, .bool false], .agg #[.int .i64 kk, .int .i64 d, .int .i64 no, .int .i64 p, .int .i64 q]] V (uP V As Al Ap n nl np co (zu ns ds co ⟨m, ls, pr⟩ ⟨kk, d, no, p, q⟩)) := by
 rcases (show j = 0 ∨ j = 1 ∨ j = 2 ∨ j = 3 ∨ j = 4 ∨ j = 5 by omega) with rfl | rfl | rfl | rfl | rfl | rfl
 ·exact ⟨_, rfl, enters_of Tryz.func112 (by kernel_rfl) rfl, fun kk hk An Ad As Al Ap nn cn nd cd n c nl cl np cp ns ds m ls pr co d no p q V h1 h2 h3 h4 => by subst hk; exact tR An Ad As Al Ap nn cn nd cd n c nl cl np cp ns ds m ls pr co _ d no p q V h1 h2 h3 h4 (.inl rfl)⟩
 ·exact ⟨_, rfl, enters_of Tryz.func112 (by kernel_rfl) rfl, fun kk hk An Ad As Al Ap nn cn nd cd n c nl cl np cp ns ds m ls pr co d no p q V h1 h2 h3 h4 => by subst hk; exact tR An Ad As Al Ap nn cn nd cd n c nl cl np cp ns ds m ls pr co _ d no p q V h1 h2 h3 h4 (.inr rfl)⟩
 ·exact ⟨_, rfl, enters_of Tryz.func113 (by kernel_rfl) rfl, fun kk hk An Ad As Al Ap nn cn nd cd n c nl cl np cp ns ds m ls pr co d no p q V h1 h2 h3 h4 => by subst hk; exact jE An Ad As Al Ap nn cn nd cd n c nl cl np cp ns ds m ls pr co _ d no p q V h1 h2 h3 h4 rfl⟩
 ·exact ⟨_, rfl, enters_of Tryz.func114 (by kernel_rfl) rfl, fun kk hk An Ad As Al Ap nn cn nd cd n c nl cl np cp ns ds m ls pr co d no p q V h1 h2 h3 h4 => by subst hk; exact oQ An Ad As Al Ap nn cn nd cd n c nl cl np cp ns ds m ls pr co _ d no p q V h1 h2 h3 h4 rfl⟩
 ·exact ⟨_, rfl, enters_of Tryz.func115 (by kernel_rfl) rfl, fun kk hk An Ad As Al Ap nn cn nd cd n c nl cl np cp ns ds m ls pr co d no p q V h1 h2 h3 h4 => by subst hk; exact lC An Ad As Al Ap nn cn nd cd n c nl cl np cp ns ds m ls pr co _ d no p q V h1 h2 h3 h4 rfl⟩
 ·exact ⟨_, rfl, enters_of Tryz.func116 (by kernel_rfl) rfl, fun kk hk An Ad As Al Ap nn cn nd cd n c nl cl np cp ns ds m ls pr co d no p q V h1 h2 h3 h4 => by subst hk; exact lN An Ad As Al Ap nn cn nd cd n c nl cl np cp ns ds m ls pr co _ d no p q V h1 h2 h3 h4 rfl⟩
theorem nR (An Ad As Al Ap : Option Addr) (nn cn nd cd n c nl cl np cp : Nat) (ns : List Nd) (ds : List Dv) (m : List Int) (ls : List Lk) (pr : List Int) (co k d no p q : Int) (w : World) (h : yX w An Ad As Al Ap nn cn nd cd n c nl cl np cp ns ds m ls pr) (hok : wX ns ds ⟨m, ls, pr⟩) (hx : zT ns.length ds.length ⟨k, d, no, p, q⟩ = 0) (hco : 0 ≤ co ∧ co ≤ 7) :
 Calls Tryz.prog 49 #[.agg #[.slice An nn cn, .slice Ad nd cd], .agg #[.slice As n c, .int .i64 co, .slice Al nl cl, .slice Ap np cp, .bool false], .agg #[.int .i64 k, .int .i64 d, .int .i64 no, .int .i64 p, .int .i64 q]] w (uP w As Al Ap n nl np co (zu ns ds co ⟨m, ls, pr⟩ ⟨k, d, no, p, q⟩)) := by
 obtain ⟨hln, hld, hls⟩ := h.ln
 have hlp : pr.length = np := h.hp.len (fun _ => rfl) (by decide)
 have HH := iD h
 have HB := iD (Bxs.new4 w (30, #[.slice An nn cn, .slice Ad nd cd]) (96, #[.slice As n c, .int .i64 co, .slice Al nl cl, .slice Ap np cp, .bool false]) (43, #[.int .i64 k, .int .i64 d, .int .i64 no, .int .i64 p, .int .i64 q]) (96, #[.slice none 0 0, .int .i64 0, .slice none 0 0, .slice none 0 0, .bool false]))
 obtain ⟨hx1, hx2, hx3, hx4, hx5⟩ := yE hx
 dsimp only at hx1 hx2 hx3 hx4 hx5
 obtain ⟨hcn, hsl, -⟩ := zV hok.s
 have HNK := iD (yt.of hcn)
 have HOK := iD hok
 have hnn : nn ≤ 32 := by have := HNK.out.nl; omega
 have hnd : nd ≤ 64 := by have := HNK.out.dl; omega
 dsimp only at hsl
 have HCO := iD hco
 have HXX := iD hx
 clear h hok hx hcn hco
 go_enter Tryz.func49, Tryz.ntmps49
 go_upto_region 1 with (fail)
 dsimp only at HB
 generalize World.alloc (World.alloc (World.alloc (World.alloc w _) _) _) _ = W at *
 rw [show w.heap.size + 1 + 1 = w.heap.size + 2 from rfl, show w.heap.size + 2 + 1 = w.heap.size + 3 from rfl]
 have HM := iD (HH.out.below HB.out.l)
 obtain ⟨kk, rfl⟩ := Int.eq_ofNat_of_zero_le (show 0 ≤ k by omega)
 have hk1 : 1 ≤ kk := by omega
 have hk6 : kk ≤ 6 := by omega
 clear hx1 hx2 hx3 hx4 hx5 HM
 go_wp2_with fail
 refine (mx W).mono ?_
 rintro e w1 ⟨rb, rfl, hr, hb, -⟩
 have HB1 := iD (HB.out.later hb.out)
 have HR1 := iD hr.out
 clear hr hb HB
 go_upto_region 2 with (fail)
 refine zv [(5, 0), (0, 1), (0, 0), (0, 1), (0, 0), (0, 1), (1, 0), (0, 2), (17, 1), (0, 0)] 13 (6) (RlR w [(30, #[.slice An nn cn, .slice Ad nd cd]), (96, #[.slice As n c, .int .i64 co, .slice Al nl cl, .slice Ap np cp, .bool false]), (43, #[.int .i64 kk, .int .i64 d, .int .i64 no, .int .i64 p, .int .i64 q]), (96, #[.slice none 0 0, .int .i64 0, .slice none 0 0, .slice none 0 0, .bool false])] rb kk) (by (try dsimp only [gt]); exact ⟨0, rfl, hk1, rfl, HB1, HR1⟩) (by kernel_rfl) ?_
 intro u1 p13 gk wr a hrel ha J1 K1 hJ1 hK1
 dsimp only [zZ, Go.Proofs.YtkkobemhbicjgaaGreatDoor.v1, Nat.reduceAdd] at ha
 subst ha
 clear HB1 HR1
 obtain ⟨j, rfl, hjk, rfl, hB, hR⟩ := hrel
 have HB := iD hB.out; have HR := iD hR.out
 clear hB hR
 have hj6 : j < 6 := by omega
 have q1 : decide ((j : Int) < 6) = true := by simp; omega
 obtain ⟨e0, e1⟩ := gS HR.out hj6
 obtain ⟨fid, hfn, hen, hdo⟩ := gR hj6
 rw [hfn] at e1
 have HDO := iD hdo
 have HEN := iD hen
 clear hfn hdo hen
 go_upto_region 4 with (fail)
 clear e0 e1
 have HBV := iD (HB.out.later ((Below.refl _ wr).alloc lR (.cells #[.int .i64 ((j : Int) + 1), .func (.func fid) #[] #[]] 129)))
 have HRV := iD (HR.out.alloc (.cells #[.int .i64 ((j : Int) + 1), .func (.func fid) #[] #[]] 129))
 have HXV := iD (Blk.new wr 129 #[.int .i64 ((j : Int) + 1), .func (.func fid) #[] #[]])
 clear HB HR
 generalize World.alloc wr _ = V at *
 obtain ⟨xb, hxb⟩ : ∃ x, x = wr.heap.size := ⟨_, rfl⟩
 rw [← hxb] at HXV ⊢
 clear hxb q1
 have x0 := HXV.out.c0
 have s0 := HBV.out.b2.c0
 by_cases hm : j + 1 = kk; rotate_left
 ·have q2 : (((j : Int) + 1) == (kk : Int)) = false := by simp; omega
  have hw : IntKind.i64.wrap ((j : Int) + 1) = (j : Int) + 1 := IntWalk.i64_in _ (by omega)
  go_wp2_with fail
  clear q2 x0 s0
  refine Handed.intro (6 - (j + 1)) (by omega) (hJ1 _ _ _ (yw.back 13 ?_ (by kernel_rfl)))
  dsimp only [gt]
  exact ⟨j + 1, by go_num, by omega, rfl, HBV, HRV⟩
 have q2 : (((j : Int) + 1) == (kk : Int)) = true := by simp; omega
 go_upto_region 5 with (fail)
 clear q2 x0 s0 HRV
 have x1 := HXV.out.c1
 have HZV : Hid (w.heap.size + 4 ≤ V.heap.size) := HBV.out.b3.lt
 have HMV := iD (HH.out.below HBV.out.l)
 have k0 := HBV.out.b0.c0
 have k1 := HBV.out.b0.c1
 have g0 := HBV.out.b1.c0
 have g1 := HBV.out.b1.c1
 have g2 := HBV.out.b1.c2
 have g3 := HBV.out.b1.c3
 have g4 := HBV.out.b1.c4
 have s0 := HBV.out.b2.c0
 have s1 := HBV.out.b2.c1
 have s2 := HBV.out.b2.c2
 have s3 := HBV.out.b2.c3
 have s4 := HBV.out.b2.c4
 have HCL := iD (HDO.out kk (by omega) An Ad As Al Ap nn cn nd cd n c nl cl np cp ns ds m ls pr co d no p q V HMV.out HOK.out HXX.out HCO.out)
 have hen := HEN.out
 clear hm hjk hj6 HDO
 go_wp2_with fail
 refine HCL.out.mono ?_
 rintro e w5 ⟨A1, A2, Al', Ap', n1, c1, n2, c2, nl', cl', np', cp', rfl, hS, hF, hb⟩
 have HB5 := iD (HBV.out.later hb.out)
 have HS5 := iD hS.out
 have HF5 := iD hF.out
 clear hS hF hb HCL HBV hen x1 HXV k0 k1 g0 g1 g2 g3 g4 s0 s1 s2 s3 s4
 obtain ⟨O, hO⟩ : ∃ O, O = zu ns ds co ⟨m, ls, pr⟩ ⟨kk, d, no, p, q⟩ := ⟨_, rfl⟩
 rw [← hO] at HS5 ⊢
 have HOO := iD hO
 clear hO
 have d0 := HB5.out.b3.cell 0; have y0 := HB5.out.b3.frozen 0
 have d1 := HB5.out.b3.cell 1; have y1 := HB5.out.b3.frozen 1
 have d2 := HB5.out.b3.cell 2; have y2 := HB5.out.b3.frozen 2
 have d3 := HB5.out.b3.cell 3; have y3 := HB5.out.b3.frozen 3
 have d4 := HB5.out.b3.cell 4; have y4 := HB5.out.b3.frozen 4
 have HE := iD (HB5.out.st5 (.slice A2 n2 c2) (.int .i64 co) (.slice Al' nl' cl') (.slice Ap' np' cp') (.bool O.ov))
 have HSO : Hid (O.e = 0 → yZ (st5 w5 (w.heap.size + 3) (.slice A2 n2 c2) (.int .i64 co) (.slice Al' nl' cl') (.slice Ap' np' cp') (.bool O.ov)) A1 A2 Al' Ap' n1 c1 n2 c2 nl' cl' np' cp' ⟨O.h, O.t, true⟩) := fun h0 => by
  obtain ⟨t1, t2, t3, t4⟩ := HS5.out h0
  obtain ⟨f1, f2, f3, f4⟩ := HF5.out
  have hz := HZV.out
  exact ⟨uV t1 (th f1 (Sl.nil w w.heap.size 1) (by omega) (by omega)), uV t2 (th f2 HH.out.hs (by omega) (by omega)), uV t3 (th f3 HH.out.hl (by omega) (by omega)), uV t4 (th f4 HH.out.hp (by omega) (by omega))⟩
 unfold st5 at HE HSO
 go_wp2_with fail
 clear d0 d1 d2 d3 d4 y0 y1 y2 y3 y4
 generalize World.setCell (World.setCell (World.setCell (World.setCell (World.setCell w5 _ _) _ _) _ _) _ _) _ _ = z at *
 have q0 := HE.out.b3.c0
 have q1 := HE.out.b3.c1
 have q2 := HE.out.b3.c2
 have q3 := HE.out.b3.c3
 have q4 := HE.out.b3.c4
 have hwz : w.heap.size ≤ V.heap.size := by have := HZV.out; omega
 exact bodyPost_ret (v := .tuple #[.slice A1 n1 c1, .agg #[.slice A2 n2 c2, .int .i64 co, .slice Al' nl' cl', .slice Ap' np' cp', .bool O.ov], .int .i64 O.e]) (by simp [results, Tryz.results49, go_sem, q0, q1, q2, q3, q4]) rfl ⟨_, _, _, _, _, _, _, _, _, _, _, _, by rw [← HOO.out], by rw [← HOO.out]; exact HSO, ⟨qS HF5.out.1 hwz, qS HF5.out.2.1 hwz, qS HF5.out.2.2.1 hwz, qS HF5.out.2.2.2 hwz⟩, HE.out.l⟩
end Go.Proofs.YtkkobemhbicjgaaGreatDoor
