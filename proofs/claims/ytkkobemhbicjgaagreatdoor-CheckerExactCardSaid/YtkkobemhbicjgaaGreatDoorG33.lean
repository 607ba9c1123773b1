import Derived.Test.YtkkobemhbicjgaaGreatDoorG32
import Derived.Laws.EntriesVeiled
import Derived.Shelf.Abstract
set_option maxRecDepth 100000
set_option maxHeartbeats 16000000
namespace Go.Proofs.YtkkobemhbicjgaaGreatDoor
open Go.RowKit
def fnV : Nat → Value
 | 0 => .func (.func 112) #[] #[]
 | 1 => .func (.func 112) #[] #[]
 | 2 => .func (.func 113) #[] #[]
 | 3 => .func (.func 114) #[] #[]
 | 4 => .func (.func 115) #[] #[]
 | _ => .func (.func 116) #[] #[]
def rulC : Array Value := #[.int .i64 1, fnV 0, .int .i64 2, fnV 1, .int .i64 3, fnV 2, .int .i64 4, fnV 3, .int .i64 5, fnV 4, .int .i64 6, fnV 5]
theorem rul_at {w : World} {b : Nat} {t : TypeId} (h : Blk w b t rulC) {j : Nat} (hj : j < 6) : w.cell? ⟨b, j * 2, none⟩ = some (.int .i64 ((j : Int) + 1)) ∧ w.cell? ⟨b, j * 2 + 1, none⟩ = some (fnV j) := by
 rw [h.cell, h.cell]
 rcases (show j = 0 ∨ j = 1 ∨ j = 2 ∨ j = 3 ∨ j = 4 ∨ j = 5 by omega) with rfl | rfl | rfl | rfl | rfl | rfl <;> exact ⟨rfl, rfl⟩
theorem rules_any (w : World) : Calls Tryz.prog 76 #[] w fun e w' => ∃ b : Nat, e = .returned (.slice (some ⟨b, 0, none⟩) 6 6) ∧ Hid (Blk w' b 129 rulC) ∧ Hid (Below w.heap.size w w') ∧ Hid (w.heap.size ≤ b) := by
 go_enter Tryz.func76, Tryz.ntmps76
 go_wp2_with fail
 go_ret
 exact ⟨_, rfl, Blk.new w 129 rulC, (Below.refl _ _).alloc (Nat.le_refl _) _, Nat.le_refl _⟩
theorem Sl.ne3 {w : World} {B size n c x i : Nat} {A : Option Addr} {xs : List Value} {u : Value} (h : Sl w B size A n c xs) (hx : 0 < n → ∀ b off, A = some ⟨b, off, none⟩ → b ≠ x) : Sl (w.setCell ⟨x, i, none⟩ u) B size A n c xs :=
 ⟨h.1, h.2.1, h.2.2.1, h.2.2.2.1, fun hn => by
  obtain ⟨b, off, rfl, hb, hc⟩ := h.2.2.2.2 hn
  exact ⟨b, off, rfl, hb, fun j v hv => (World.cell?_setCell_far w ⟨x, i, none⟩ ⟨b, off + j, none⟩ u (fun e => hx hn b off rfl e.symm)).trans (hc j v hv)⟩⟩
theorem sl5n {w : World} {size n c x : Nat} {A : Option Addr} {xs : List Value} {a b d e f : Value} (h : Sl w w.heap.size size A n c xs) (hx : 0 < n → ∀ b off, A = some ⟨b, off, none⟩ → b ≠ x) : Sl (st5 w x a b d e f) (st5 w x a b d e f).heap.size size A n c xs := by
 unfold st5
 have h5 := (((((h.ne3 (i := 0) (u := a) hx).ne3 (i := 1) (u := b) hx).ne3 (i := 2) (u := d) hx).ne3 (i := 3) (u := e) hx).ne3 (i := 4) (u := f) hx)
 exact h5.more (by simp [World.setCell])
theorem fre_off {w : World} {size n n' c x B : Nat} {A A' : Option Addr} {xs : List Value} (h : Fre B A A' n n') (hs : Sl w w.heap.size size A n c xs) (h1 : w.heap.size ≤ x) (h2 : x < B) : 0 < n' → ∀ b off, A' = some ⟨b, off, none⟩ → b ≠ x := by
 intro hn b off e
 rcases h with ⟨rfl, rfl⟩ | h
 ·obtain ⟨b', off', e', hb, -⟩ := hs.2.2.2.2 hn
  rw [e] at e'; injection e' with e'; injection e' with e1 e2
  omega
 ·have := h b off e; omega
theorem fre_wk {B B' n n' : Nat} {A A' : Option Addr} (h : Fre B' A A' n n') (hB : B ≤ B') : Fre B A A' n n' := h.imp id fun h b off e => Nat.le_trans hB (h b off e)
def RlR (w : World) (L : List (TypeId × Array Value)) (rb k : Nat) (gk : Nat) (iv : Value) (wr : World) : Prop := ∃ j : Nat, iv = .int .i64 j ∧ j < k ∧ gk = 6 - j ∧ Hid (Bxs w L wr) ∧ Hid (Blk wr rb 129 rulC)
theorem rul_do {j : Nat} (hj : j < 6) : ∃ f : FuncId, fnV j = .func (.func f) #[] #[] ∧ (∀ (args : Array Value) (W : World), (callFunc f args).run Tryz.prog W = .ok (.enter f args) W) ∧ ∀ (kk : Nat), j + 1 = kk → ∀ (An Ad As Al Ap : Option Addr) (nn cn nd cd n c nl cl np cp : Nat) (ns : List Nd) (ds : List Dv) (m : List Int) (ls : List Lk) (pr : List Int) (co d no p q : Int) (V : World), HzMem V An Ad As Al Ap nn cn nd cd n c nl cl np cp ns ds m ls pr → ChOk ns ds ⟨m, ls, pr⟩ → spErr ns.length ds.length ⟨kk, d, no, p, q⟩ = 0 → 0 ≤ co ∧ co ≤ 7 →
 Calls Tryz.prog f #[.agg #[.slice An nn cn, .slice Ad nd cd], .agg #[.slice As n c, .int .i64 co, .slice Al nl cl, .slice Ap np cp, .bool false], .agg #[.int .i64 kk, .int .i64 d, .int .i64 no, .int .i64 p, .int .i64 q]] V (CoPost V As Al Ap n nl np co (chTo ns ds co ⟨m, ls, pr⟩ ⟨kk, d, no, p, q⟩)) := by
 rcases (show j = 0 ∨ j = 1 ∨ j = 2 ∨ j = 3 ∨ j = 4 ∨ j = 5 by omega) with rfl | rfl | rfl | rfl | rfl | rfl
 ·exact ⟨_, rfl, enters_of Tryz.func112 (by kernel_rfl) rfl, fun kk hk An Ad As Al Ap nn cn nd cd n c nl cl np cp ns ds m ls pr co d no p q V h1 h2 h3 h4 => by subst hk; exact operate_any An Ad As Al Ap nn cn nd cd n c nl cl np cp ns ds m ls pr co _ d no p q V h1 h2 h3 h4 (.inl rfl)⟩
 ·exact ⟨_, rfl, enters_of Tryz.func112 (by kernel_rfl) rfl, fun kk hk An Ad As Al Ap nn cn nd cd n c nl cl np cp ns ds m ls pr co d no p q V h1 h2 h3 h4 => by subst hk; exact operate_any An Ad As Al Ap nn cn nd cd n c nl cl np cp ns ds m ls pr co _ d no p q V h1 h2 h3 h4 (.inr rfl)⟩
 ·exact ⟨_, rfl, enters_of Tryz.func113 (by kernel_rfl) rfl, fun kk hk An Ad As Al Ap nn cn nd cd n c nl cl np cp ns ds m ls pr co d no p q V h1 h2 h3 h4 => by subst hk; exact lock_any An Ad As Al Ap nn cn nd cd n c nl cl np cp ns ds m ls pr co _ d no p q V h1 h2 h3 h4 rfl⟩
 ·exact ⟨_, rfl, enters_of Tryz.func114 (by kernel_rfl) rfl, fun kk hk An Ad As Al Ap nn cn nd cd n c nl cl np cp ns ds m ls pr co d no p q V h1 h2 h3 h4 => by subst hk; exact unlock_any An Ad As Al Ap nn cn nd cd n c nl cl np cp ns ds m ls pr co _ d no p q V h1 h2 h3 h4 rfl⟩
 ·exact ⟨_, rfl, enters_of Tryz.func115 (by kernel_rfl) rfl, fun kk hk An Ad As Al Ap nn cn nd cd n c nl cl np cp ns ds m ls pr co d no p q V h1 h2 h3 h4 => by subst hk; exact prove_any An Ad As Al Ap nn cn nd cd n c nl cl np cp ns ds m ls pr co _ d no p q V h1 h2 h3 h4 rfl⟩
 ·exact ⟨_, rfl, enters_of Tryz.func116 (by kernel_rfl) rfl, fun kk hk An Ad As Al Ap nn cn nd cd n c nl cl np cp ns ds m ls pr co d no p q V h1 h2 h3 h4 => by subst hk; exact lookc_any An Ad As Al Ap nn cn nd cd n c nl cl np cp ns ds m ls pr co _ d no p q V h1 h2 h3 h4 rfl⟩
theorem chstep_any (An Ad As Al Ap : Option Addr) (nn cn nd cd n c nl cl np cp : Nat) (ns : List Nd) (ds : List Dv) (m : List Int) (ls : List Lk) (pr : List Int) (co k d no p q : Int) (w : World) (h : HzMem w An Ad As Al Ap nn cn nd cd n c nl cl np cp ns ds m ls pr) (hok : ChOk ns ds ⟨m, ls, pr⟩) (hx : spErr ns.length ds.length ⟨k, d, no, p, q⟩ = 0) (hco : 0 ≤ co ∧ co ≤ 7) :
 Calls Tryz.prog 49 #[.agg #[.slice An nn cn, .slice Ad nd cd], .agg #[.slice As n c, .int .i64 co, .slice Al nl cl, .slice Ap np cp, .bool false], .agg #[.int .i64 k, .int .i64 d, .int .i64 no, .int .i64 p, .int .i64 q]] w (CoPost w As Al Ap n nl np co (chTo ns ds co ⟨m, ls, pr⟩ ⟨k, d, no, p, q⟩)) := by
 obtain ⟨hln, hld, hls⟩ := h.ln
 have hlp : pr.length = np := h.hp.len (fun _ => rfl) (by decide)
 have HH := Lib.hid h
 have HB := Lib.hid (Bxs.new4 w (30, #[.slice An nn cn, .slice Ad nd cd]) (96, #[.slice As n c, .int .i64 co, .slice Al nl cl, .slice Ap np cp, .bool false]) (43, #[.int .i64 k, .int .i64 d, .int .i64 no, .int .i64 p, .int .i64 q]) (96, #[.slice none 0 0, .int .i64 0, .slice none 0 0, .slice none 0 0, .bool false]))
 obtain ⟨hx1, hx2, hx3, hx4, hx5⟩ := spErr_ok hx
 dsimp only at hx1 hx2 hx3 hx4 hx5
 obtain ⟨hcn, hsl, -⟩ := maskErr_net hok.s
 have HNK := Lib.hid (NetOk.of hcn)
 have HOK := Lib.hid hok
 have hnn : nn ≤ 32 := by have := HNK.out.nl; omega
 have hnd : nd ≤ 64 := by have := HNK.out.dl; omega
 dsimp only at hsl
 have HCO := Lib.hid hco
 have HXX := Lib.hid hx
 clear h hok hx hcn hco
 go_enter Tryz.func49, Tryz.ntmps49
 go_upto_region 1 with (fail)
 dsimp only at HB
 generalize World.alloc (World.alloc (World.alloc (World.alloc w _) _) _) _ = W at *
 rw [show w.heap.size + 1 + 1 = w.heap.size + 2 from rfl, show w.heap.size + 2 + 1 = w.heap.size + 3 from rfl]
 have HM := Lib.hid (HH.out.below HB.out.l)
 obtain ⟨kk, rfl⟩ := Int.eq_ofNat_of_zero_le (show 0 ≤ k by omega)
 have hk1 : 1 ≤ kk := by omega
 have hk6 : kk ≤ 6 := by omega
 clear hx1 hx2 hx3 hx4 hx5 HM
 go_wp2_with fail
 refine (rules_any W).mono ?_
 rintro e w1 ⟨rb, rfl, hr, hb, -⟩
 have HB1 := Lib.hid (HB.out.later hb.out)
 have HR1 := Lib.hid hr.out
 clear hr hb HB
 go_upto_region 2 with (fail)
 refine wp_loop_u1 [(5, 0), (0, 1), (0, 0), (0, 1), (0, 0), (0, 1), (1, 0), (0, 2), (17, 1), (0, 0)] 13 (6) (RlR w [(30, #[.slice An nn cn, .slice Ad nd cd]), (96, #[.slice As n c, .int .i64 co, .slice Al nl cl, .slice Ap np cp, .bool false]), (43, #[.int .i64 kk, .int .i64 d, .int .i64 no, .int .i64 p, .int .i64 q]), (96, #[.slice none 0 0, .int .i64 0, .slice none 0 0, .slice none 0 0, .bool false])] rb kk) (by (try dsimp only [gt]); exact ⟨0, rfl, hk1, rfl, HB1, HR1⟩) (by kernel_rfl) ?_
 intro u1 p13 gk wr a hrel ha J1 K1 hJ1 hK1
 dsimp only [relaxR, Go.Proofs.YtkkobemhbicjgaaGreatDoor.v1, Nat.reduceAdd] at ha
 subst ha
 clear HB1 HR1
 obtain ⟨j, rfl, hjk, rfl, hB, hR⟩ := hrel
 have HB := Lib.hid hB.out; have HR := Lib.hid hR.out
 clear hB hR
 have hj6 : j < 6 := by omega
 have q1 : decide ((j : Int) < 6) = true := by simp; omega
 obtain ⟨e0, e1⟩ := rul_at HR.out hj6
 obtain ⟨fid, hfn, hen, hdo⟩ := rul_do hj6
 rw [hfn] at e1
 have HDO := Lib.hid hdo
 have HEN := Lib.hid hen
 clear hfn hdo hen
 go_upto_region 4 with (fail)
 clear e0 e1
 have HBV := Lib.hid (HB.out.later ((Below.refl _ wr).alloc (Nat.le_refl _) (.cells #[.int .i64 ((j : Int) + 1), .func (.func fid) #[] #[]] 129)))
 have HRV := Lib.hid (HR.out.alloc (.cells #[.int .i64 ((j : Int) + 1), .func (.func fid) #[] #[]] 129))
 have HXV := Lib.hid (Blk.new wr 129 #[.int .i64 ((j : Int) + 1), .func (.func fid) #[] #[]])
 clear HB HR
 generalize World.alloc wr _ = V at *
 obtain ⟨xb, hxb⟩ : ∃ x, x = wr.heap.size := ⟨_, rfl⟩
 rw [← hxb] at HXV ⊢
 clear hxb q1
 have x0 := HXV.out.c0
 have s0 := HBV.out.b2.c0
 by_cases hm : j + 1 = kk; rotate_left
 ·have q2 : (((j : Int) + 1) == (kk : Int)) = false := by simp; omega
  have hw : IntKind.i64.wrap ((j : Int) + 1) = (j : Int) + 1 := IntWalk.i64_in _ (by omega)
  go_wp2_with fail
  clear q2 x0 s0
  refine Handed.intro (6 - (j + 1)) (by omega) (hJ1 _ _ _ (LpI1.back 13 ?_ (by kernel_rfl)))
  dsimp only [gt]
  exact ⟨j + 1, by go_num, by omega, rfl, HBV, HRV⟩
 have q2 : (((j : Int) + 1) == (kk : Int)) = true := by simp; omega
 go_upto_region 5 with (fail)
 clear q2 x0 s0 HRV
 have x1 := HXV.out.c1
 have HZV : Hid (w.heap.size + 4 ≤ V.heap.size) := HBV.out.b3.lt
 have HMV := Lib.hid (HH.out.below HBV.out.l)
 have k0 := HBV.out.b0.c0
 have k1 := HBV.out.b0.c1
 have g0 := HBV.out.b1.c0
 have g1 := HBV.out.b1.c1
 have g2 := HBV.out.b1.c2
 have g3 := HBV.out.b1.c3
 have g4 := HBV.out.b1.c4
 have s0 := HBV.out.b2.c0
 have s1 := HBV.out.b2.c1
 have s2 := HBV.out.b2.c2
 have s3 := HBV.out.b2.c3
 have s4 := HBV.out.b2.c4
 have HCL := Lib.hid (HDO.out kk (by omega) An Ad As Al Ap nn cn nd cd n c nl cl np cp ns ds m ls pr co d no p q V HMV.out HOK.out HXX.out HCO.out)
 have hen := HEN.out
 clear hm hjk hj6 HDO
 go_wp2_with fail
 refine HCL.out.mono ?_
 rintro e w5 ⟨A1, A2, Al', Ap', n1, c1, n2, c2, nl', cl', np', cp', rfl, hS, hF, hb⟩
 have HB5 := Lib.hid (HBV.out.later hb.out)
 have HS5 := Lib.hid hS.out
 have HF5 := Lib.hid hF.out
 clear hS hF hb HCL HBV hen x1 HXV k0 k1 g0 g1 g2 g3 g4 s0 s1 s2 s3 s4
 obtain ⟨O, hO⟩ : ∃ O, O = chTo ns ds co ⟨m, ls, pr⟩ ⟨kk, d, no, p, q⟩ := ⟨_, rfl⟩
 rw [← hO] at HS5 ⊢
 have HOO := Lib.hid hO
 clear hO
 have d0 := HB5.out.b3.cell 0; have y0 := HB5.out.b3.frozen 0
 have d1 := HB5.out.b3.cell 1; have y1 := HB5.out.b3.frozen 1
 have d2 := HB5.out.b3.cell 2; have y2 := HB5.out.b3.frozen 2
 have d3 := HB5.out.b3.cell 3; have y3 := HB5.out.b3.frozen 3
 have d4 := HB5.out.b3.cell 4; have y4 := HB5.out.b3.frozen 4
 have HE := Lib.hid (HB5.out.st5 (.slice A2 n2 c2) (.int .i64 co) (.slice Al' nl' cl') (.slice Ap' np' cp') (.bool O.ov))
 have HSO : Hid (O.e = 0 → SoAt (st5 w5 (w.heap.size + 3) (.slice A2 n2 c2) (.int .i64 co) (.slice Al' nl' cl') (.slice Ap' np' cp') (.bool O.ov)) A1 A2 Al' Ap' n1 c1 n2 c2 nl' cl' np' cp' ⟨O.h, O.t, true⟩) := fun h0 => by
  obtain ⟨t1, t2, t3, t4⟩ := HS5.out h0
  obtain ⟨f1, f2, f3, f4⟩ := HF5.out
  have hz := HZV.out
  exact ⟨sl5n t1 (fre_off f1 (Sl.nil w w.heap.size 1) (by omega) (by omega)), sl5n t2 (fre_off f2 HH.out.hs (by omega) (by omega)), sl5n t3 (fre_off f3 HH.out.hl (by omega) (by omega)), sl5n t4 (fre_off f4 HH.out.hp (by omega) (by omega))⟩
 unfold st5 at HE HSO
 go_wp2_with fail
 clear d0 d1 d2 d3 d4 y0 y1 y2 y3 y4
 generalize World.setCell (World.setCell (World.setCell (World.setCell (World.setCell w5 _ _) _ _) _ _) _ _) _ _ = z at *
 have q0 := HE.out.b3.c0
 have q1 := HE.out.b3.c1
 have q2 := HE.out.b3.c2
 have q3 := HE.out.b3.c3
 have q4 := HE.out.b3.c4
 have hwz : w.heap.size ≤ V.heap.size := by have := HZV.out; omega
 exact bodyPost_ret (v := .tuple #[.slice A1 n1 c1, .agg #[.slice A2 n2 c2, .int .i64 co, .slice Al' nl' cl', .slice Ap' np' cp', .bool O.ov], .int .i64 O.e]) (by simp [results, Tryz.results49, go_sem, q0, q1, q2, q3, q4]) rfl ⟨_, _, _, _, _, _, _, _, _, _, _, _, by rw [← HOO.out], by rw [← HOO.out]; exact HSO, ⟨fre_wk HF5.out.1 hwz, fre_wk HF5.out.2.1 hwz, fre_wk HF5.out.2.2.1 hwz, fre_wk HF5.out.2.2.2 hwz⟩, HE.out.l⟩
end Go.Proofs.YtkkobemhbicjgaaGreatDoor
