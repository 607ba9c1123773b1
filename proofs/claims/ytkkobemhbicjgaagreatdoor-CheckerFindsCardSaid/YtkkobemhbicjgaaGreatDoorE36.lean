import Derived.Test.YtkkobemhbicjgaaGreatDoorE35
set_option maxRecDepth 100000
set_option maxHeartbeats 32000000
namespace Go.Proofs.YtkkobemhbicjgaaGreatDoor
open Go.RowKit
theorem mO : yg Tryz.prog 45 53 2 16 := yg.mk' (z := .agg #[.int .i64 0, .int .i64 0]) Tryz.underlying45 (by kernel_rfl) rfl (by decide)
theorem iU (ns : List Nd) (ds : List Dv) (s : List Int) (d p co : Int) (ls : List Lk) (pr : List Int) : (hzD ns ds s d p co ls pr).length ≤ 8 := by
 have hl : ∀ f1 f2 f3 f4 f5 f6 f7, (hzL f1 f2 f3 f4 f5 f6 f7).length ≤ 8 := fun f1 f2 f3 f4 f5 f6 f7 => by
  have h1 := yB f1 1; have h2 := yB f2 2; have h3 := yB f3 3; have h4 := yB f4 4; have h5 := yB f5 5; have h6 := yB f6 6; have h7 := yB f7 7
  unfold hzL; simp only [List.length_append]; omega
 unfold hzD
 split
 ·unfold xu; split <;> exact hl _ _ _ _ _ _ _
 ·simp
theorem sE (ns : List Nd) (ds : List Dv) (co : Int) (t : Sm) (x : Sp) : (zd ns ds co t x).h.length ≤ 8 := by
 unfold zd
 split
 ·exact iU _ _ _ _ _ _ _ _
 split
 ·split <;> simp
 split
 ·split <;> simp
 split
 ·simp
 split
 ·simp
 split <;> simp
structure Pa (w : World) (co : Int) (Al Ap : Option Addr) (nl cl np cp x13 : Nat) (B3 B4 : Option Addr) (m3 e3 m4 e4 : Nat) (wr : World) : Prop where
 a : Blk wr (w.heap.size + 2) 37 #[.int .i64 co, .slice Al nl cl, .slice Ap np cp]
 b : Blk wr x13 37 #[.int .i64 co, .slice B3 m3 e3, .slice B4 m4 e4]
def gw (w : World) (ob : Nat) (An Ad A5 : Option Addr) (nn cn nd cd n5 c5 : Nat) (co : Int) (pg : Array Value) (As Al Ap Ao : Option Addr) (n c nl cl np cp mo cx : Nat) (ns : List Nd) (ds : List Dv) (stk : List Int) (t : Sm) (out : List Fn) (i : Nat) (x : Sp) (e : Ending) (w' : World) : Prop :=
 (uS stk x = true ∧ e = .returned (.bool false) ∧ Hid (RM w ob An Ad A5 nn cn nd cd n5 c5 co pg As Al Ap Ao n c nl cl np cp mo cx t out w')) ∨
 (uS stk x = false ∧ e = .returned (.bool (zd ns ds co t x).ok) ∧ ∃ (A2 B3 B4 A' : Option Addr) (n2 c2 m3 e3 m4 e4 mo' cx' : Nat), Hid (RM w ob An Ad A5 nn cn nd cd n5 c5 co pg A2 B3 B4 A' n2 c2 m3 e3 m4 e4 mo' cx' (zd ns ds co t x).t (out ++ zi i (zd ns ds co t x).h) w') ∧ mo' ≤ mo + 8)
def DoR (w : World) (ob x8 : Nat) (An Ad A5 : Option Addr) (nn cn nd cd n5 c5 : Nat) (co : Int) (pg : Array Value) (As Al Ap : Option Addr) (n c nl cl np cp : Nat) (t : Sm) (out : List Fn) (A1 A2 B3 B4 : Option Addr) (n1 c1 n2 c2 m3 e3 m4 e4 mo i : Nat) (so : So) (gk : Nat) (iv : Value) (wr : World) : Prop :=
 ∃ (j cx : Nat) (Ao : Option Addr), iv = .int .i64 j ∧ j ≤ n1 ∧ gk = n1 - j ∧ Hid (RM w ob An Ad A5 nn cn nd cd n5 c5 co pg As Al Ap Ao n c nl cl np cp (mo + j) cx t (out ++ zi i (so.h.take j)) wr) ∧ Hid (SK w ob x8 co Ao A1 A2 B3 B4 n1 c1 n2 c2 m3 e3 m4 e4 so wr)
theorem gd (An Ad A5 As Al Ap Ao : Option Addr) (nn cn nd cd n5 c5 n c nl cl np cp mo cx ob : Nat) (ns : List Nd) (ds : List Dv) (stk : List Int) (t : Sm) (out : List Fn) (co : Int) (pg : Array Value) (i : Nat) (k d no p q : Int) (w wr : World)
 (hla : Laid w) (hn : Sl w w.heap.size 3 An nn cn (ns.flatMap Nd.cells)) (hd : Sl w w.heap.size 5 Ad nd cd (ds.flatMap Dv.cells)) (hsn : ∀ x ∈ ns, x.name.size ≤ 9223372036854775807) (hsd : ∀ x ∈ ds, x.name.size ≤ 9223372036854775807)
 (h5 : Sl w w.heap.size 1 A5 n5 c5 (zD stk)) (hok : tJ ns ds t) (hco : 0 ≤ co ∧ co ≤ 7) (hx : zT ns.length ds.length ⟨k, d, no, p, q⟩ = 0) (hmo : mo ≤ 1000000) (_hi : i ≤ 1000000)
 (h : RM w ob An Ad A5 nn cn nd cd n5 c5 co pg As Al Ap Ao n c nl cl np cp mo cx t out wr) :
 Calls Tryz.prog 70 #[.int .i64 (i : Int), .agg #[.int .i64 k, .int .i64 d, .int .i64 no, .int .i64 p, .int .i64 q], .pointer (some ⟨w.heap.size + 4, 0, none⟩), .pointer (some ⟨w.heap.size, 0, none⟩), .pointer (some ⟨w.heap.size + 1, 0, none⟩), .pointer (some ⟨w.heap.size + 2, 0, none⟩), .pointer (some ⟨ob, 0, none⟩)] wr (gw w ob An Ad A5 nn cn nd cd n5 c5 co pg As Al Ap Ao n c nl cl np cp mo cx ns ds stk t out i ⟨k, d, no, p, q⟩) := by
 have HN := iD hn; have HD := iD hd; have HLA := iD hla; have HSN := iD hsn; have HSD := iD hsd; have H5 := iD h5; have HOK := iD hok; have HCO := iD hco; have HSP := iD hx
 have H0 := iD h
 have HR := iD (h.later ((Below.refl wr.heap.size wr).alloc lR (.cells #[.int .i64 k, .int .i64 d, .int .i64 no, .int .i64 p, .int .i64 q] 43)))
 have HSB := iD (Blk.new wr 43 #[.int .i64 k, .int .i64 d, .int .i64 no, .int .i64 p, .int .i64 q])
 have HOBL : Hid (ob < wr.heap.size) := h.bo.lt
 have HX13 : Hid ((∀ b o', Ao = some ⟨b, o', none⟩ → b < wr.heap.size)) := fun b o' e => by
  rcases yv h.o with h1 | ⟨g, h1, -, h2⟩
  ·rw [h1] at e; cases e
  ·rw [h1] at e; injection e with e; injection e with e _; omega
 have HSE : Hid (uS stk ⟨k, d, no, p, q⟩ = ((decide (k = 1) || decide (k = 2)) && decide (d ∈ stk))) := rfl
 clear hn hd hla hsn hsd h5 hok hco hx h
 go_enter Tryz.func70, Tryz.ntmps70
 go_upto_region 1 with (fail)
 generalize World.alloc wr _ = W at *
 obtain ⟨sb, hsb⟩ : ∃ x, x = wr.heap.size := ⟨_, rfl⟩
 rw [← hsb] at HSB HOBL HX13 ⊢
 clear hsb
 have s0 := HSB.out.c0
 have s1 := HSB.out.c1
 have k5 := HR.out.b4.c0
 have HCN := iD (xG A5 n5 c5 w.heap.size stk d W (H5.out.below HR.out.bl lR))
 by_cases hk : ¬ (k = 1 ∨ k = 2)
 ·have q1 : (k == 1) = false := by simp; omega
  have q2 : (k == 2) = false := by simp; omega
  have STB : Hid (uS stk ⟨k, d, no, p, q⟩ = false) := by unfold Hid; rw [HSE.out]; simp; omega
  go_upto_region 4 with (fail)
  clear q1 q2 hk
  clear s0 s1 k5
  have s0 := HSB.out.c0
  have s1 := HSB.out.c1
  have s2 := HSB.out.c2
  have s3 := HSB.out.c3
  have s4 := HSB.out.c4
  have k0 := HR.out.b0.c0
  have k1 := HR.out.b0.c1
  have t0 := HR.out.b1.c0
  have g0 := HR.out.b2.c0
  have g1 := HR.out.b2.c1
  have g2 := HR.out.b2.c2
  have HST := iD (vM An Ad As Al Ap nn cn nd cd n c nl cl np cp ns ds t.s t.ls t.pr co k d no p q W ⟨(HN.out.below HR.out.bl lR).more HR.out.bl.size, (HD.out.below HR.out.bl lR).more HR.out.bl.size, HR.out.s, HR.out.l, HR.out.p, HLA.out.below HR.out.bl lR, HSN.out, HSD.out⟩ HOK.out HCO.out HSP.out)
  go_wp2_with fail
  clear s0 s1 s2 s3 s4 k0 k1 t0 g0 g1 g2
  refine HST.out.mono ?_
  rintro e w6 ⟨A1, A2, B3, B4, n1, c1, n2, c2, m3, e3, m4, e4, rfl, hS, hF, hb⟩
  obtain ⟨so, hso⟩ : ∃ so, so = zd ns ds co t ⟨k, d, no, p, q⟩ := ⟨_, rfl⟩
  have HSO := iD hso
  rw [show zd ns ds co ⟨t.s, t.ls, t.pr⟩ ⟨k, d, no, p, q⟩ = so from hso.symm] at hS ⊢
  clear hso
  have HAL : Hid (Below W.heap.size W (w6.alloc (.cells #[.int .i64 co, .slice B3 m3 e3, .slice B4 m4 e4] 37))) := hb.out.alloc hb.out.size _
  have HRM := iD (HR.out.later HAL.out)
  have HZ6 : Hid (sb < w6.heap.size ∧ W.heap.size ≤ w6.heap.size) := ⟨Nat.lt_of_lt_of_le HSB.out.lt hb.out.size, hb.out.size⟩
  have HSK : Hid (SK w ob w6.heap.size co Ao A1 A2 B3 B4 n1 c1 n2 c2 m3 e3 m4 e4 so (w6.alloc (.cells #[.int .i64 co, .slice B3 m3 e3, .slice B4 m4 e4] 37))) := by
   have hB : ob < W.heap.size := by have := HOBL.out; have := HSB.out.lt; omega
   have hA : ∀ b o', Ao = some ⟨b, o', none⟩ → b < W.heap.size := fun b o' e => by have := HX13.out b o' e; have := HSB.out.lt; omega
   obtain ⟨f1, f2, f3, f4⟩ := hF.out
   exact ⟨hS.out.later ((Below.refl _ w6).alloc lR _), Ke.fre (A := none) (n := 0) (fun h => absurd h (by omega)) f1 hB HR.out.hob hA, HR.out.ks.fre f2 hB HR.out.hob hA, HR.out.kl.fre f3 hB HR.out.hob hA, HR.out.kp.fre f4 hB HR.out.hob hA, Blk.new _ _ _,
    by have := hb.out.size; omega, fun o' e => by have := hA _ o' e; have := hb.out.size; omega⟩
  clear hS hF hb HST HR HSB HCN HAL
  go_upto_region 5 with (fail)
  generalize World.alloc w6 _ = V at *
  obtain ⟨x13, hx13⟩ : ∃ x, x = w6.heap.size := ⟨_, rfl⟩
  rw [← hx13] at HSK ⊢
  clear hx13 HZ6
  have HL1 : Hid (so.h.length = n1) := HSK.out.a.h.len (fun _ => rfl) (by decide)
  have HN8 : Hid (n1 ≤ 8) := by have h1 := sE ns ds co t ⟨k, d, no, p, q⟩; rw [← HSO.out] at h1; unfold Hid; have := HL1.out; omega
  have hn1m : n1 ≤ 9223372036854775807 := by have := HN8.out; omega
  go_upto_region 6 with (fail)
  refine zv [(15, 0), (0, 1), (26, 0), (0, 2), (9, 1), (2, 0)] 44 (n1) (DoR w ob x13 An Ad A5 nn cn nd cd n5 c5 co pg As Al Ap n c nl cl np cp t out A1 A2 B3 B4 n1 c1 n2 c2 m3 e3 m4 e4 mo i so) (by (try dsimp only [gt]); exact ⟨0, _, _, rfl, Nat.zero_le _, rfl, by rw [List.take_zero, show zi i [] = [] from rfl, List.append_nil]; exact HRM, HSK⟩) (by kernel_rfl) ?_
  intro u1 p44 gk wr a hrel ha J1 K1 hJ1 hK1
  dsimp only [zZ, Go.Proofs.YtkkobemhbicjgaaGreatDoor.v1, Nat.reduceAdd] at ha
  subst ha
  clear HRM HSK V
  obtain ⟨j, cx', Ao', rfl, hj, rfl, HRM, HSK⟩ := hrel
  by_cases hlt : j < n1; rotate_left
  ·have hii : decide ((j : Int) < (n1 : Int)) = false := by simp; omega
   have hii2 : decide (j < n1) = false := by simp; omega
   have HTK : Hid (so.h.take j = so.h) := List.take_of_length_le (by have := HL1.out; omega)
   rw [HTK.out] at HRM
   go_upto_region 10 with (fail)
   clear hii hii2
   have HEND : Hid (RM w ob An Ad A5 nn cn nd cd n5 c5 co pg A2 B3 B4 Ao' n2 c2 m3 e3 m4 e4 (mo + j) cx' so.t (out ++ zi i so.h) ((((wr.setCell ⟨w.heap.size + 1, 0, none⟩ (.slice A2 n2 c2)).drew.setCell ⟨w.heap.size + 2, 0, none⟩ (.int .i64 co)).setCell ⟨w.heap.size + 2, 1, none⟩ (.slice B3 m3 e3)).setCell ⟨w.heap.size + 2, 2, none⟩ (.slice B4 m4 e4))) := by
    rw [show (wr.setCell ⟨w.heap.size + 1, 0, none⟩ (.slice A2 n2 c2)).drew = wr.drew.setCell ⟨w.heap.size + 1, 0, none⟩ (.slice A2 n2 c2) from rfl]
    exact (HRM.out.later (Below.refl _ _).drew).put (HSK.out.later (Below.refl _ _).drew)
   have hw := HRM.out.hob
   have d0 := HRM.out.b1.cell 0
   have y0 := HRM.out.b1.frozen 0
   have HPA : Hid (Pa w co Al Ap nl cl np cp x13 B3 B4 m3 e3 m4 e4 (wr.setCell ⟨w.heap.size + 1, 0, none⟩ (.slice A2 n2 c2)).drew) := ⟨((HRM.out.b2.far (p := ⟨w.heap.size + 1, 0, none⟩) (by simp) _).drw), ((HSK.out.bx.far (p := ⟨w.heap.size + 1, 0, none⟩) (by show x13 ≠ w.heap.size + 1; have := HSK.out.hx.1; omega) _).drw)⟩
   refine zC (S := fun W' => W'.cell? ⟨x13, 0, none⟩ = some (.int .i64 co) ∧ W'.cell? ⟨x13, 1, none⟩ = some (.slice B3 m3 e3) ∧ W'.cell? ⟨x13, 2, none⟩ = some (.slice B4 m4 e4)) (J := [3]) (by kernel_rfl) ?_ (fun AA => ?_)
   ·exact ⟨HSK.out.bx.cell 0, HSK.out.bx.cell 1, HSK.out.bx.cell 2⟩
   try dsimp only at AA
   refine tk 0 55 (mf 4 1) AA ?_
   refine tk 1 56 (mf 4 2) AA ?_
   refine tb 2 (mf 4 3) fun K hK => ?_
   go_simp
   refine hK.out _ _ (fun _ => ?_) (fun AA' => ?_)
   ·exact ⟨HPA.out.b.cell 0, HPA.out.b.cell 1, HPA.out.b.cell 2⟩
   replace AA := AA' rfl
   clear AA' hK K
   try dsimp only at AA
   clear d0 y0
   generalize World.drew (World.setCell wr _ _) = wq at *
   have d0 := HPA.out.a.cell 0; have d1 := HPA.out.a.cell 1; have d2 := HPA.out.a.cell 2; have y0 := HPA.out.a.frozen 0; have y1 := HPA.out.a.frozen 1; have y2 := HPA.out.a.frozen 2
   refine tb 3 (mf 4 4) fun K hK => ?_
   go_simp
   refine hK.out _ _ (fun h => by cases h) (fun _ => ?_)
   try clear AA
   clear hK K
   refine zA (by kernel_rfl) ?_ _
   clear d0 d1 d2 y0 y1 y2 HPA
   go_wp2_with fail
   go_ret
   exact .inr ⟨STB.out, by rw [← HSO.out]; rfl, A2, B3, B4, Ao', n2, c2, m3, e3, m4, e4, mo + j, cx', by rw [← HSO.out]; exact HEND, by have := HN8.out; omega⟩
  obtain ⟨b1, o1, y, hA1, hb1, hy, hc1⟩ := HSK.out.a.h.at1 hlt
  have HTK : Hid (out ++ zi i (so.h.take (j + 1)) = (out ++ zi i (so.h.take j)) ++ [⟨i, y⟩]) := by unfold Hid; rw [zQ hy]; simp [zi]
  subst hA1
  clear hy hb1
  have o0 := HRM.out.bo.c0
  go_upto_region 8 with (fail)
  have HRA := iD (HRM.out.later ((Below.refl _ wr).alloc lR (.cells #[.int .i64 i, .int .i64 y] 53)))
  have HSA := iD (HSK.out.later ((Below.refl _ wr).alloc lR (.cells #[.int .i64 i, .int .i64 y] 53)))
  have hob1 : ob + 1 ≤ (wr.alloc (.cells #[.int .i64 i, .int .i64 y] 53)).heap.size := HRA.out.bo.lt
  go_wp2_with (at_builtin; go_must (refine zR rfl (.tmp 48) (.tmp 52) rfl mO (by rfl) HRA.out.o (by rfl) (Sl.newest (n := 1) rfl rfl (by decide)) (by simp [Value.oneCell']) (by have := HN8.out; omega) (by have := HN8.out; omega) hob1 ?_; intro A' cx2 w7 hown7 hgr7 hat7; have HOW := iD hown7; have HGR : Hid (Gr w ob Ao' (mo + j) cx' A' cx2 _ w7) := ⟨hgr7, hat7⟩; have r0 : w7.cell? ⟨ob, 0, none⟩ = some (.slice Ao' (mo + j) cx') := (HRA.out.bo.grown hgr7 (wh HRA.out lR)).cell 0; have z0 : w7.frozen? ⟨ob, 0, none⟩ = false := (HRA.out.bo.grown hgr7 (wh HRA.out lR)).frozen 0; clear hown7 hgr7 hat7 o0 hc1))
  have HRN := iD (HRA.out.app (f := ⟨i, y⟩) HGR.out HOW.out)
  have HSN := iD (SK.app (f := ⟨i, y⟩) HRA.out HSA.out HGR.out HOW.out)
  rw [← HTK.out] at HRN
  clear HRA HSA HGR HOW r0 z0 HRM HSK HTK
  generalize World.setCell w7 _ _ = w8 at *
  refine Handed.intro (n1 - (j + 1)) (by omega) (hJ1 _ _ _ (yw.back 44 ?_ (by kernel_rfl)))
  dsimp only [gt]
  exact ⟨j + 1, cx2, A', by go_num, by omega, rfl, HRN, HSN⟩
 have hk : k = 1 ∨ k = 2 := by omega
 have q0 : k = 1 ∨ k ≠ 1 := by omega
 rcases q0 with h1 | h1
 ·have q1 : (k == 1) = true := by simpa using h1
  clear h1
  skip
  go_wp2_with fail
  clear q1
  refine HCN.out.mono ?_
  rintro e w1 ⟨rfl, rfl⟩
  rcases hh : xv stk d with _ | _
  ·have STB : Hid (uS stk ⟨k, d, no, p, q⟩ = false) := by unfold Hid; rw [HSE.out]; simp [show ¬ d ∈ stk by simpa [xv] using hh]
   clear hh hk
   go_upto_region 4 with (fail)
   clear s0 s1 k5
   have s0 := HSB.out.c0
   have s1 := HSB.out.c1
   have s2 := HSB.out.c2
   have s3 := HSB.out.c3
   have s4 := HSB.out.c4
   have k0 := HR.out.b0.c0
   have k1 := HR.out.b0.c1
   have t0 := HR.out.b1.c0
   have g0 := HR.out.b2.c0
   have g1 := HR.out.b2.c1
   have g2 := HR.out.b2.c2
   have HST := iD (vM An Ad As Al Ap nn cn nd cd n c nl cl np cp ns ds t.s t.ls t.pr co k d no p q W ⟨(HN.out.below HR.out.bl lR).more HR.out.bl.size, (HD.out.below HR.out.bl lR).more HR.out.bl.size, HR.out.s, HR.out.l, HR.out.p, HLA.out.below HR.out.bl lR, HSN.out, HSD.out⟩ HOK.out HCO.out HSP.out)
   go_wp2_with fail
   clear s0 s1 s2 s3 s4 k0 k1 t0 g0 g1 g2
   refine HST.out.mono ?_
   rintro e w6 ⟨A1, A2, B3, B4, n1, c1, n2, c2, m3, e3, m4, e4, rfl, hS, hF, hb⟩
   obtain ⟨so, hso⟩ : ∃ so, so = zd ns ds co t ⟨k, d, no, p, q⟩ := ⟨_, rfl⟩
   have HSO := iD hso
   rw [show zd ns ds co ⟨t.s, t.ls, t.pr⟩ ⟨k, d, no, p, q⟩ = so from hso.symm] at hS ⊢
   clear hso
   have HAL : Hid (Below W.heap.size W (w6.alloc (.cells #[.int .i64 co, .slice B3 m3 e3, .slice B4 m4 e4] 37))) := hb.out.alloc hb.out.size _
   have HRM := iD (HR.out.later HAL.out)
   have HZ6 : Hid (sb < w6.heap.size ∧ W.heap.size ≤ w6.heap.size) := ⟨Nat.lt_of_lt_of_le HSB.out.lt hb.out.size, hb.out.size⟩
   have HSK : Hid (SK w ob w6.heap.size co Ao A1 A2 B3 B4 n1 c1 n2 c2 m3 e3 m4 e4 so (w6.alloc (.cells #[.int .i64 co, .slice B3 m3 e3, .slice B4 m4 e4] 37))) := by
    have hB : ob < W.heap.size := by have := HOBL.out; have := HSB.out.lt; omega
    have hA : ∀ b o', Ao = some ⟨b, o', none⟩ → b < W.heap.size := fun b o' e => by have := HX13.out b o' e; have := HSB.out.lt; omega
    obtain ⟨f1, f2, f3, f4⟩ := hF.out
    exact ⟨hS.out.later ((Below.refl _ w6).alloc lR _), Ke.fre (A := none) (n := 0) (fun h => absurd h (by omega)) f1 hB HR.out.hob hA, HR.out.ks.fre f2 hB HR.out.hob hA, HR.out.kl.fre f3 hB HR.out.hob hA, HR.out.kp.fre f4 hB HR.out.hob hA, Blk.new _ _ _,
     by have := hb.out.size; omega, fun o' e => by have := hA _ o' e; have := hb.out.size; omega⟩
   clear hS hF hb HST HR HSB HCN HAL
   go_upto_region 5 with (fail)
   generalize World.alloc w6 _ = V at *
   obtain ⟨x13, hx13⟩ : ∃ x, x = w6.heap.size := ⟨_, rfl⟩
   rw [← hx13] at HSK ⊢
   clear hx13 HZ6
   have HL1 : Hid (so.h.length = n1) := HSK.out.a.h.len (fun _ => rfl) (by decide)
   have HN8 : Hid (n1 ≤ 8) := by have h1 := sE ns ds co t ⟨k, d, no, p, q⟩; rw [← HSO.out] at h1; unfold Hid; have := HL1.out; omega
   have hn1m : n1 ≤ 9223372036854775807 := by have := HN8.out; omega
   go_upto_region 6 with (fail)
   refine zv [(15, 0), (0, 1), (26, 0), (0, 2), (9, 1), (2, 0)] 44 (n1) (DoR w ob x13 An Ad A5 nn cn nd cd n5 c5 co pg As Al Ap n c nl cl np cp t out A1 A2 B3 B4 n1 c1 n2 c2 m3 e3 m4 e4 mo i so) (by (try dsimp only [gt]); exact ⟨0, _, _, rfl, Nat.zero_le _, rfl, by rw [List.take_zero, show zi i [] = [] from rfl, List.append_nil]; exact HRM, HSK⟩) (by kernel_rfl) ?_
   intro u1 p44 gk wr a hrel ha J1 K1 hJ1 hK1
   dsimp only [zZ, Go.Proofs.YtkkobemhbicjgaaGreatDoor.v1, Nat.reduceAdd] at ha
   subst ha
   clear HRM HSK V
   obtain ⟨j, cx', Ao', rfl, hj, rfl, HRM, HSK⟩ := hrel
   by_cases hlt : j < n1; rotate_left
   ·have hii : decide ((j : Int) < (n1 : Int)) = false := by simp; omega
    have hii2 : decide (j < n1) = false := by simp; omega
    have HTK : Hid (so.h.take j = so.h) := List.take_of_length_le (by have := HL1.out; omega)
    rw [HTK.out] at HRM
    go_upto_region 10 with (fail)
    clear hii hii2
    have HEND : Hid (RM w ob An Ad A5 nn cn nd cd n5 c5 co pg A2 B3 B4 Ao' n2 c2 m3 e3 m4 e4 (mo + j) cx' so.t (out ++ zi i so.h) ((((wr.setCell ⟨w.heap.size + 1, 0, none⟩ (.slice A2 n2 c2)).drew.setCell ⟨w.heap.size + 2, 0, none⟩ (.int .i64 co)).setCell ⟨w.heap.size + 2, 1, none⟩ (.slice B3 m3 e3)).setCell ⟨w.heap.size + 2, 2, none⟩ (.slice B4 m4 e4))) := by
     rw [show (wr.setCell ⟨w.heap.size + 1, 0, none⟩ (.slice A2 n2 c2)).drew = wr.drew.setCell ⟨w.heap.size + 1, 0, none⟩ (.slice A2 n2 c2) from rfl]
     exact (HRM.out.later (Below.refl _ _).drew).put (HSK.out.later (Below.refl _ _).drew)
    have hw := HRM.out.hob
    have d0 := HRM.out.b1.cell 0
    have y0 := HRM.out.b1.frozen 0
    have HPA : Hid (Pa w co Al Ap nl cl np cp x13 B3 B4 m3 e3 m4 e4 (wr.setCell ⟨w.heap.size + 1, 0, none⟩ (.slice A2 n2 c2)).drew) := ⟨((HRM.out.b2.far (p := ⟨w.heap.size + 1, 0, none⟩) (by simp) _).drw), ((HSK.out.bx.far (p := ⟨w.heap.size + 1, 0, none⟩) (by show x13 ≠ w.heap.size + 1; have := HSK.out.hx.1; omega) _).drw)⟩
    refine zC (S := fun W' => W'.cell? ⟨x13, 0, none⟩ = some (.int .i64 co) ∧ W'.cell? ⟨x13, 1, none⟩ = some (.slice B3 m3 e3) ∧ W'.cell? ⟨x13, 2, none⟩ = some (.slice B4 m4 e4)) (J := [3]) (by kernel_rfl) ?_ (fun AA => ?_)
    ·exact ⟨HSK.out.bx.cell 0, HSK.out.bx.cell 1, HSK.out.bx.cell 2⟩
    try dsimp only at AA
    refine tk 0 55 (mf 4 1) AA ?_
    refine tk 1 56 (mf 4 2) AA ?_
    refine tb 2 (mf 4 3) fun K hK => ?_
    go_simp
    refine hK.out _ _ (fun _ => ?_) (fun AA' => ?_)
    ·exact ⟨HPA.out.b.cell 0, HPA.out.b.cell 1, HPA.out.b.cell 2⟩
    replace AA := AA' rfl
    clear AA' hK K
    try dsimp only at AA
    clear d0 y0
    generalize World.drew (World.setCell wr _ _) = wq at *
    have d0 := HPA.out.a.cell 0; have d1 := HPA.out.a.cell 1; have d2 := HPA.out.a.cell 2; have y0 := HPA.out.a.frozen 0; have y1 := HPA.out.a.frozen 1; have y2 := HPA.out.a.frozen 2
    refine tb 3 (mf 4 4) fun K hK => ?_
    go_simp
    refine hK.out _ _ (fun h => by cases h) (fun _ => ?_)
    try clear AA
    clear hK K
    refine zA (by kernel_rfl) ?_ _
    clear d0 d1 d2 y0 y1 y2 HPA
    go_wp2_with fail
    go_ret
    exact .inr ⟨STB.out, by rw [← HSO.out]; rfl, A2, B3, B4, Ao', n2, c2, m3, e3, m4, e4, mo + j, cx', by rw [← HSO.out]; exact HEND, by have := HN8.out; omega⟩
   obtain ⟨b1, o1, y, hA1, hb1, hy, hc1⟩ := HSK.out.a.h.at1 hlt
   have HTK : Hid (out ++ zi i (so.h.take (j + 1)) = (out ++ zi i (so.h.take j)) ++ [⟨i, y⟩]) := by unfold Hid; rw [zQ hy]; simp [zi]
   subst hA1
   clear hy hb1
   have o0 := HRM.out.bo.c0
   go_upto_region 8 with (fail)
   have HRA := iD (HRM.out.later ((Below.refl _ wr).alloc lR (.cells #[.int .i64 i, .int .i64 y] 53)))
   have HSA := iD (HSK.out.later ((Below.refl _ wr).alloc lR (.cells #[.int .i64 i, .int .i64 y] 53)))
   have hob1 : ob + 1 ≤ (wr.alloc (.cells #[.int .i64 i, .int .i64 y] 53)).heap.size := HRA.out.bo.lt
   go_wp2_with (at_builtin; go_must (refine zR rfl (.tmp 48) (.tmp 52) rfl mO (by rfl) HRA.out.o (by rfl) (Sl.newest (n := 1) rfl rfl (by decide)) (by simp [Value.oneCell']) (by have := HN8.out; omega) (by have := HN8.out; omega) hob1 ?_; intro A' cx2 w7 hown7 hgr7 hat7; have HOW := iD hown7; have HGR : Hid (Gr w ob Ao' (mo + j) cx' A' cx2 _ w7) := ⟨hgr7, hat7⟩; have r0 : w7.cell? ⟨ob, 0, none⟩ = some (.slice Ao' (mo + j) cx') := (HRA.out.bo.grown hgr7 (wh HRA.out lR)).cell 0; have z0 : w7.frozen? ⟨ob, 0, none⟩ = false := (HRA.out.bo.grown hgr7 (wh HRA.out lR)).frozen 0; clear hown7 hgr7 hat7 o0 hc1))
   have HRN := iD (HRA.out.app (f := ⟨i, y⟩) HGR.out HOW.out)
   have HSN := iD (SK.app (f := ⟨i, y⟩) HRA.out HSA.out HGR.out HOW.out)
   rw [← HTK.out] at HRN
   clear HRA HSA HGR HOW r0 z0 HRM HSK HTK
   generalize World.setCell w7 _ _ = w8 at *
   refine Handed.intro (n1 - (j + 1)) (by omega) (hJ1 _ _ _ (yw.back 44 ?_ (by kernel_rfl)))
   dsimp only [gt]
   exact ⟨j + 1, cx2, A', by go_num, by omega, rfl, HRN, HSN⟩
  ·have STB : Hid (uS stk ⟨k, d, no, p, q⟩ = true) := by unfold Hid; rw [HSE.out]; simp [show d ∈ stk by simpa [xv] using hh]; omega
   clear hh hk
   go_wp2_with fail
   go_ret
   exact .inl ⟨STB.out, rfl, HR⟩
 ·have q1 : (k == 1) = false := by simpa using h1
  have q2 : (k == 2) = true := by simp; omega
  clear h1
  skip
  go_wp2_with fail
  clear q1 q2
  refine HCN.out.mono ?_
  rintro e w1 ⟨rfl, rfl⟩
  rcases hh : xv stk d with _ | _
  ·have STB : Hid (uS stk ⟨k, d, no, p, q⟩ = false) := by unfold Hid; rw [HSE.out]; simp [show ¬ d ∈ stk by simpa [xv] using hh]
   clear hh hk
   go_upto_region 4 with (fail)
   clear s0 s1 k5
   have s0 := HSB.out.c0
   have s1 := HSB.out.c1
   have s2 := HSB.out.c2
   have s3 := HSB.out.c3
   have s4 := HSB.out.c4
   have k0 := HR.out.b0.c0
   have k1 := HR.out.b0.c1
   have t0 := HR.out.b1.c0
   have g0 := HR.out.b2.c0
   have g1 := HR.out.b2.c1
   have g2 := HR.out.b2.c2
   have HST := iD (vM An Ad As Al Ap nn cn nd cd n c nl cl np cp ns ds t.s t.ls t.pr co k d no p q W ⟨(HN.out.below HR.out.bl lR).more HR.out.bl.size, (HD.out.below HR.out.bl lR).more HR.out.bl.size, HR.out.s, HR.out.l, HR.out.p, HLA.out.below HR.out.bl lR, HSN.out, HSD.out⟩ HOK.out HCO.out HSP.out)
   go_wp2_with fail
   clear s0 s1 s2 s3 s4 k0 k1 t0 g0 g1 g2
   refine HST.out.mono ?_
   rintro e w6 ⟨A1, A2, B3, B4, n1, c1, n2, c2, m3, e3, m4, e4, rfl, hS, hF, hb⟩
   obtain ⟨so, hso⟩ : ∃ so, so = zd ns ds co t ⟨k, d, no, p, q⟩ := ⟨_, rfl⟩
   have HSO := iD hso
   rw [show zd ns ds co ⟨t.s, t.ls, t.pr⟩ ⟨k, d, no, p, q⟩ = so from hso.symm] at hS ⊢
   clear hso
   have HAL : Hid (Below W.heap.size W (w6.alloc (.cells #[.int .i64 co, .slice B3 m3 e3, .slice B4 m4 e4] 37))) := hb.out.alloc hb.out.size _
   have HRM := iD (HR.out.later HAL.out)
   have HZ6 : Hid (sb < w6.heap.size ∧ W.heap.size ≤ w6.heap.size) := ⟨Nat.lt_of_lt_of_le HSB.out.lt hb.out.size, hb.out.size⟩
   have HSK : Hid (SK w ob w6.heap.size co Ao A1 A2 B3 B4 n1 c1 n2 c2 m3 e3 m4 e4 so (w6.alloc (.cells #[.int .i64 co, .slice B3 m3 e3, .slice B4 m4 e4] 37))) := by
    have hB : ob < W.heap.size := by have := HOBL.out; have := HSB.out.lt; omega
    have hA : ∀ b o', Ao = some ⟨b, o', none⟩ → b < W.heap.size := fun b o' e => by have := HX13.out b o' e; have := HSB.out.lt; omega
    obtain ⟨f1, f2, f3, f4⟩ := hF.out
    exact ⟨hS.out.later ((Below.refl _ w6).alloc lR _), Ke.fre (A := none) (n := 0) (fun h => absurd h (by omega)) f1 hB HR.out.hob hA, HR.out.ks.fre f2 hB HR.out.hob hA, HR.out.kl.fre f3 hB HR.out.hob hA, HR.out.kp.fre f4 hB HR.out.hob hA, Blk.new _ _ _,
     by have := hb.out.size; omega, fun o' e => by have := hA _ o' e; have := hb.out.size; omega⟩
   clear hS hF hb HST HR HSB HCN HAL
   go_upto_region 5 with (fail)
   generalize World.alloc w6 _ = V at *
   obtain ⟨x13, hx13⟩ : ∃ x, x = w6.heap.size := ⟨_, rfl⟩
   rw [← hx13] at HSK ⊢
   clear hx13 HZ6
   have HL1 : Hid (so.h.length = n1) := HSK.out.a.h.len (fun _ => rfl) (by decide)
   have HN8 : Hid (n1 ≤ 8) := by have h1 := sE ns ds co t ⟨k, d, no, p, q⟩; rw [← HSO.out] at h1; unfold Hid; have := HL1.out; omega
   have hn1m : n1 ≤ 9223372036854775807 := by have := HN8.out; omega
   go_upto_region 6 with (fail)
   refine zv [(15, 0), (0, 1), (26, 0), (0, 2), (9, 1), (2, 0)] 44 (n1) (DoR w ob x13 An Ad A5 nn cn nd cd n5 c5 co pg As Al Ap n c nl cl np cp t out A1 A2 B3 B4 n1 c1 n2 c2 m3 e3 m4 e4 mo i so) (by (try dsimp only [gt]); exact ⟨0, _, _, rfl, Nat.zero_le _, rfl, by rw [List.take_zero, show zi i [] = [] from rfl, List.append_nil]; exact HRM, HSK⟩) (by kernel_rfl) ?_
   intro u1 p44 gk wr a hrel ha J1 K1 hJ1 hK1
   dsimp only [zZ, Go.Proofs.YtkkobemhbicjgaaGreatDoor.v1, Nat.reduceAdd] at ha
   subst ha
   clear HRM HSK V
   obtain ⟨j, cx', Ao', rfl, hj, rfl, HRM, HSK⟩ := hrel
   by_cases hlt : j < n1; rotate_left
   ·have hii : decide ((j : Int) < (n1 : Int)) = false := by simp; omega
    have hii2 : decide (j < n1) = false := by simp; omega
    have HTK : Hid (so.h.take j = so.h) := List.take_of_length_le (by have := HL1.out; omega)
    rw [HTK.out] at HRM
    go_upto_region 10 with (fail)
    clear hii hii2
    have HEND : Hid (RM w ob An Ad A5 nn cn nd cd n5 c5 co pg A2 B3 B4 Ao' n2 c2 m3 e3 m4 e4 (mo + j) cx' so.t (out ++ zi i so.h) ((((wr.setCell ⟨w.heap.size + 1, 0, none⟩ (.slice A2 n2 c2)).drew.setCell ⟨w.heap.size + 2, 0, none⟩ (.int .i64 co)).setCell ⟨w.heap.size + 2, 1, none⟩ (.slice B3 m3 e3)).setCell ⟨w.heap.size + 2, 2, none⟩ (.slice B4 m4 e4))) := by
     rw [show (wr.setCell ⟨w.heap.size + 1, 0, none⟩ (.slice A2 n2 c2)).drew = wr.drew.setCell ⟨w.heap.size + 1, 0, none⟩ (.slice A2 n2 c2) from rfl]
     exact (HRM.out.later (Below.refl _ _).drew).put (HSK.out.later (Below.refl _ _).drew)
    have hw := HRM.out.hob
    have d0 := HRM.out.b1.cell 0
    have y0 := HRM.out.b1.frozen 0
    have HPA : Hid (Pa w co Al Ap nl cl np cp x13 B3 B4 m3 e3 m4 e4 (wr.setCell ⟨w.heap.size + 1, 0, none⟩ (.slice A2 n2 c2)).drew) := ⟨((HRM.out.b2.far (p := ⟨w.heap.size + 1, 0, none⟩) (by simp) _).drw), ((HSK.out.bx.far (p := ⟨w.heap.size + 1, 0, none⟩) (by show x13 ≠ w.heap.size + 1; have := HSK.out.hx.1; omega) _).drw)⟩
    refine zC (S := fun W' => W'.cell? ⟨x13, 0, none⟩ = some (.int .i64 co) ∧ W'.cell? ⟨x13, 1, none⟩ = some (.slice B3 m3 e3) ∧ W'.cell? ⟨x13, 2, none⟩ = some (.slice B4 m4 e4)) (J := [3]) (by kernel_rfl) ?_ (fun AA => ?_)
    ·exact ⟨HSK.out.bx.cell 0, HSK.out.bx.cell 1, HSK.out.bx.cell 2⟩
    try dsimp only at AA
    refine tk 0 55 (mf 4 1) AA ?_
    refine tk 1 56 (mf 4 2) AA ?_
    refine tb 2 (mf 4 3) fun K hK => ?_
    go_simp
    refine hK.out _ _ (fun _ => ?_) (fun AA' => ?_)
    ·exact ⟨HPA.out.b.cell 0, HPA.out.b.cell 1, HPA.out.b.cell 2⟩
    replace AA := AA' rfl
    clear AA' hK K
    try dsimp only at AA
    clear d0 y0
    generalize World.drew (World.setCell wr _ _) = wq at *
    have d0 := HPA.out.a.cell 0; have d1 := HPA.out.a.cell 1; have d2 := HPA.out.a.cell 2; have y0 := HPA.out.a.frozen 0; have y1 := HPA.out.a.frozen 1; have y2 := HPA.out.a.frozen 2
    refine tb 3 (mf 4 4) fun K hK => ?_
    go_simp
    refine hK.out _ _ (fun h => by cases h) (fun _ => ?_)
    try clear AA
    clear hK K
    refine zA (by kernel_rfl) ?_ _
    clear d0 d1 d2 y0 y1 y2 HPA
    go_wp2_with fail
    go_ret
    exact .inr ⟨STB.out, by rw [← HSO.out]; rfl, A2, B3, B4, Ao', n2, c2, m3, e3, m4, e4, mo + j, cx', by rw [← HSO.out]; exact HEND, by have := HN8.out; omega⟩
   obtain ⟨b1, o1, y, hA1, hb1, hy, hc1⟩ := HSK.out.a.h.at1 hlt
   have HTK : Hid (out ++ zi i (so.h.take (j + 1)) = (out ++ zi i (so.h.take j)) ++ [⟨i, y⟩]) := by unfold Hid; rw [zQ hy]; simp [zi]
   subst hA1
   clear hy hb1
   have o0 := HRM.out.bo.c0
   go_upto_region 8 with (fail)
   have HRA := iD (HRM.out.later ((Below.refl _ wr).alloc lR (.cells #[.int .i64 i, .int .i64 y] 53)))
   have HSA := iD (HSK.out.later ((Below.refl _ wr).alloc lR (.cells #[.int .i64 i, .int .i64 y] 53)))
   have hob1 : ob + 1 ≤ (wr.alloc (.cells #[.int .i64 i, .int .i64 y] 53)).heap.size := HRA.out.bo.lt
   go_wp2_with (at_builtin; go_must (refine zR rfl (.tmp 48) (.tmp 52) rfl mO (by rfl) HRA.out.o (by rfl) (Sl.newest (n := 1) rfl rfl (by decide)) (by simp [Value.oneCell']) (by have := HN8.out; omega) (by have := HN8.out; omega) hob1 ?_; intro A' cx2 w7 hown7 hgr7 hat7; have HOW := iD hown7; have HGR : Hid (Gr w ob Ao' (mo + j) cx' A' cx2 _ w7) := ⟨hgr7, hat7⟩; have r0 : w7.cell? ⟨ob, 0, none⟩ = some (.slice Ao' (mo + j) cx') := (HRA.out.bo.grown hgr7 (wh HRA.out lR)).cell 0; have z0 : w7.frozen? ⟨ob, 0, none⟩ = false := (HRA.out.bo.grown hgr7 (wh HRA.out lR)).frozen 0; clear hown7 hgr7 hat7 o0 hc1))
   have HRN := iD (HRA.out.app (f := ⟨i, y⟩) HGR.out HOW.out)
   have HSN := iD (SK.app (f := ⟨i, y⟩) HRA.out HSA.out HGR.out HOW.out)
   rw [← HTK.out] at HRN
   clear HRA HSA HGR HOW r0 z0 HRM HSK HTK
   generalize World.setCell w7 _ _ = w8 at *
   refine Handed.intro (n1 - (j + 1)) (by omega) (hJ1 _ _ _ (yw.back 44 ?_ (by kernel_rfl)))
   dsimp only [gt]
   exact ⟨j + 1, cx2, A', by go_num, by omega, rfl, HRN, HSN⟩
  ·have STB : Hid (uS stk ⟨k, d, no, p, q⟩ = true) := by unfold Hid; rw [HSE.out]; simp [show d ∈ stk by simpa [xv] using hh]; omega
   clear hh hk
   go_wp2_with fail
   go_ret
   exact .inl ⟨STB.out, rfl, HR⟩
end Go.Proofs.YtkkobemhbicjgaaGreatDoor
