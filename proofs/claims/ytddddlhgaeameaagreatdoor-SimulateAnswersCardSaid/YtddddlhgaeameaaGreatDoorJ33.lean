import Derived.Test.YtddddlhgaeameaaGreatDoorJ32
set_option maxRecDepth 100000
set_option maxHeartbeats 16000000
namespace Go.Proofs.YtddddlhgaeameaaGreatDoor
open Go.RowKit Tryz
theorem vm.off {w : World} {B x : Nat} {A1 A2 Al Ap : Option Addr} (h : vm B A1 A2 Al Ap) (hx : x < B) : tX w x A1 A2 Al Ap :=
 ⟨fun b off e _ => by have := h.h b off e; omega, fun b off e _ => by have := h.s b off e; omega, fun b off e _ => by have := h.l b off e; omega, fun b off e _ => by have := h.p b off e; omega⟩
theorem lZ (An Ad As Al Ap : Option Addr) (nn cn nd cd n c nl cl np cp : Nat) (ns : List Nd) (ds : List Dv) (s : List Int) (ls : List Lk) (pr : List Int) (co k d no p q : Int) (w : World) (h : yp w An Ad As Al Ap nn cn nd cd n c nl cl np cp ns ds s ls pr) :
 Calls prog 17 #[.agg #[.slice An nn cn, .slice Ad nd cd], .slice As n c, .agg #[.int .i64 co, .slice Al nl cl, .slice Ap np cp], .agg #[.int .i64 k, .int .i64 d, .int .i64 no, .int .i64 p, .int .i64 q]] w (tW w ns ds s co ls pr ⟨k, d, no, p, q⟩) := by
 have HH := iD h;have HB := iD (FE.new w #[.slice An nn cn, .slice Ad nd cd] #[.int .i64 co, .slice Al nl cl, .slice Ap np cp] #[.int .i64 k, .int .i64 d, .int .i64 no, .int .i64 p, .int .i64 q]);clear h
 go_enter func17, ntmps17
 go_upto_region 1 with (fail);generalize World.alloc (World.alloc (World.alloc (World.alloc w _) _) _) _ = W at *;rw [show w.heap.size + 1 + 1 = w.heap.size + 2 from rfl, show w.heap.size + 2 + 1 = w.heap.size + 3 from rfl];obtain ⟨⟨k0, k1⟩, ⟨g0, g1, g2⟩, s0, s1, s2, s3, s4⟩ := HB.cells
 go_wp2_with fail
 clear k0 k1 g0 g1 g2 s0 s1 s2 s3 s4;have AL := iD (HB.later ((Below.refl _ W).alloc lR (.cells #[.int .i64 k, .int .i64 d, .int .i64 no, .int .i64 p, .int .i64 q] 31)))
 have Ff : Hid (Sl (W.alloc (.cells #[.int .i64 k, .int .i64 d, .int .i64 no, .int .i64 p, .int .i64 q] 31)) (W.alloc (.cells #[.int .i64 k, .int .i64 d, .int .i64 no, .int .i64 p, .int .i64 q] 31)).heap.size 5 (some ⟨W.heap.size, 0, none⟩) 1 1 ([(⟨k, d, no, p, q⟩ : Sp)].flatMap Sp.cells)) := by
  have h := Sl.newest (w := W) (cs := #[.int .i64 k, .int .i64 d, .int .i64 no, .int .i64 p, .int .i64 q]) (T := 31) (fr := (0, 0)) (n := 1) (size := 5) rfl (by rfl) (by decide);unfold Hid; exact h.more (by simp)
 clear HB;generalize World.alloc W _ = W1 at *;generalize W.heap.size = sb at *;refine (tL An Ad As Al Ap (some ⟨sb, 0, none⟩) nn cn nd cd n c nl cl np cp 1 1 ns ds s ls pr co ⟨#[80]⟩ [⟨k, d, no, p, q⟩] W1 ⟨HH.below AL.bl, Ff, by decide⟩).mono ?_;rintro e w2 ⟨rfl, AQ⟩;have DX := iD (AL.later AQ);clear AQ AL Ff;obtain ⟨E, hE⟩ := eX (yE ns ds s co ls pr ⟨#[80]⟩ [⟨k, d, no, p, q⟩]);rw [← hE];have CJ := iD hE;clear hE;by_cases he : E = 0; rotate_left
 ·have q1 : (E != 0) = true := by simpa using he
  have JF := iD he;clear he;obtain ⟨d0, d1, d2⟩ := DX.b3.d3;obtain ⟨y0, y1, y2⟩ := DX.b3.e3;have HF : Hid (AJ (((w2.setCell ⟨w.heap.size + 3, 0, none⟩ (.int .i64 0)).setCell ⟨w.heap.size + 3, 1, none⟩ (.slice none 0 0)).setCell ⟨w.heap.size + 3, 2, none⟩ (.slice none 0 0)) (w.heap.size + 3) 29 #[.int .i64 0, .slice none 0 0, .slice none 0 0] ∧ Below w.heap.size w (((w2.setCell ⟨w.heap.size + 3, 0, none⟩ (.int .i64 0)).setCell ⟨w.heap.size + 3, 1, none⟩ (.slice none 0 0)).setCell ⟨w.heap.size + 3, 2, none⟩ (.slice none 0 0))) := ⟨((DX.b3.set 0 _).set 1 _).set 2 _, ((DX.bl.setCell (by simp) _).setCell (by simp) _).setCell (by simp) _⟩
  go_wp2_with fail
  clear d0 d1 d2 y0 y1 y2;generalize World.setCell (World.setCell (World.setCell w2 _ _) _ _) _ _ = z at *;obtain ⟨q0, q1, q2⟩ := HF.1.d3;exact bodyPost_ret (v := .tuple #[.slice none 0 0, .slice none 0 0, .agg #[.int .i64 0, .slice none 0 0, .slice none 0 0], .bool false, .int .i64 E]) (by simp [results, results17, go_sem, q0, q1, q2]) rfl ⟨.inl ⟨by rw [← CJ.out]; exact JF, by rw [← CJ.out]⟩, HF.2⟩
 subst he;have BR := iD (vx CJ.symm);have Hg := iD (jC CJ.symm);have HZ : Hid (w.heap.size + 3 < w2.heap.size) := DX.b3.lt;obtain ⟨⟨k0, k1⟩, ⟨g0, g1, g2⟩, s0, s1, s2, s3, s4⟩ := DX.cells
 go_wp2_with fail
 clear k0 k1 g0 g1 g2 s0 s1 s2 s3 s4;refine (qO An Ad As Al Ap nn cn nd cd n c nl cl np cp ns ds s ls pr co k d no p q w2 (HH.below DX.bl) BR.1 BR.2.1 Hg).mono ?_;rintro e w3 ⟨A1, A2, A3, A4, n1, c1, n2, c2, n3, c3, n4, c4, rfl, RG, Uh, BJ⟩;obtain ⟨T, hT⟩ := eX (za ns ds co ⟨s, ls, pr⟩ ⟨k, d, no, p, q⟩);rw [← hT] at RG ⊢;have Dw := iD hT;clear hT;go_upto_region 5 with (fail);have Bu := iD ((DX.later BJ).later ((Below.refl _ w3).alloc lR (.cells #[.int .i64 co, .slice A3 n3 c3, .slice A4 n4 c4] 29)));have HX := iD (AJ.new w3 29 #[.int .i64 co, .slice A3 n3 c3, .slice A4 n4 c4]);have DF := iD (RG.later ((Below.refl _ w3).alloc lR (.cells #[.int .i64 co, .slice A3 n3 c3, .slice A4 n4 c4] 29)));have Gi := iD (Uh.off (w := w3.alloc (.cells #[.int .i64 co, .slice A3 n3 c3, .slice A4 n4 c4] 29)) HZ)
 have DR : Hid (w3.heap.size ≠ w.heap.size + 3) := by have := HZ.out; have := BJ.size; unfold Hid; omega
 clear RG Uh BJ DX HZ;generalize World.alloc w3 _ = w4 at *;generalize w3.heap.size = AB at *;obtain ⟨d0, d1, d2⟩ := Bu.b3.d3;obtain ⟨y0, y1, y2⟩ := Bu.b3.e3
 have BI : Hid (AJ (((w4.setCell ⟨w.heap.size + 3, 0, none⟩ (.int .i64 co)).setCell ⟨w.heap.size + 3, 1, none⟩ (.slice A3 n3 c3)).setCell ⟨w.heap.size + 3, 2, none⟩ (.slice A4 n4 c4)).drew (w.heap.size + 3) 29 #[.int .i64 co, .slice A3 n3 c3, .slice A4 n4 c4] ∧ Below w.heap.size w (((w4.setCell ⟨w.heap.size + 3, 0, none⟩ (.int .i64 co)).setCell ⟨w.heap.size + 3, 1, none⟩ (.slice A3 n3 c3)).setCell ⟨w.heap.size + 3, 2, none⟩ (.slice A4 n4 c4)).drew ∧ yi (((w4.setCell ⟨w.heap.size + 3, 0, none⟩ (.int .i64 co)).setCell ⟨w.heap.size + 3, 1, none⟩ (.slice A3 n3 c3)).setCell ⟨w.heap.size + 3, 2, none⟩ (.slice A4 n4 c4)).drew A1 A2 A3 A4 n1 c1 n2 c2 n3 c3 n4 c4 T) := ⟨(((Bu.b3.set 0 _).set 1 _).set 2 _).drw, (((Bu.bl.setCell (by simp) _).setCell (by simp) _).setCell (by simp) _).drew, (DF.set3 Gi).later (Below.refl _ _).drew⟩
 refine fX (fun W' => (W'.cell? ⟨AB, 0, none⟩ = some (.int .i64 co) ∧ W'.cell? ⟨AB, 1, none⟩ = some (.slice A3 n3 c3)) ∧ W'.cell? ⟨AB, 2, none⟩ = some (.slice A4 n4 c4)) [7, 8] ?_ fun AA => ?_
 ·exact ⟨⟨HX.cell 0, HX.cell 1⟩, HX.cell 2⟩
 try dsimp only at AA
 refine tk 0 39 (mf 9 1) AA ?_;refine tk 1 40 (mf 9 2) AA ?_;refine tk 2 41 (mf 9 3) AA ?_;refine tk 3 42 (mf 9 4) AA ?_;refine tk 4 8 (mf 9 5) AA ?_;refine tk 5 9 (mf 9 6) AA ?_;refine tb 6 (mf 9 7) fun K hK => ?_
 go_simp
 refine hK _ _ (fun _ => ⟨⟨(zU HX DR).cell 0, (zU HX DR).cell 1⟩, (zU HX DR).cell 2⟩) fun p => (fun AA => ?_) (p rfl)
 clear p hK K;(try dsimp only at AA);refine tb 7 (mf 9 8) fun K hK => ?_
 go_simp
 refine hK _ _ (fun h => by cases h) (fun _ => ?_)
 try clear AA
 clear hK K;refine tb 8 (mf 9 9) fun K hK => ?_
 go_simp
 refine hK _ _ (fun h => by cases h) (fun _ => ?_)
 try clear AA
 clear hK K;refine tK ?_;clear d0 d1 d2 y0 y1 y2
 go_wp2_with fail
 generalize World.drew (World.setCell (World.setCell (World.setCell w4 _ _) _ _) _ _) = z at *;obtain ⟨q0, q1, q2⟩ := BI.1.d3;exact bodyPost_ret (v := .tuple #[.slice A1 n1 c1, .slice A2 n2 c2, .agg #[.int .i64 co, .slice A3 n3 c3, .slice A4 n4 c4], .bool T.ok, .int .i64 0]) (by simp [results, results17, go_sem, q0, q1, q2]) rfl ⟨.inr ⟨CJ.symm, _, _, _, _, _, _, _, _, _, _, _, _, by rw [← Dw.out], by rw [← Dw.out]; exact BI.2.2⟩, BI.2.1⟩
end Go.Proofs.YtddddlhgaeameaaGreatDoor
