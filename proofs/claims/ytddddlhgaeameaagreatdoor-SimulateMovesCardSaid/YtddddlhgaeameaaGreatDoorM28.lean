import Derived.Test.YtddddlhgaeameaaGreatDoorM27
set_option maxHeartbeats 4000000
namespace Go.Proofs.YtddddlhgaeameaaGreatDoor
open Go.RowKit
def kY (w : World) (g nn : Nat) (Al : Option Addr) (nl cl : Nat) (e : Ending) (w' : World) : Prop := ∃ (co : Int) (Ap : Option Addr) (np cp : Nat) (pr : List Int), e = .returned (.agg #[.int .i64 co, .slice Al nl cl, .slice Ap np cp]) ∧ (0 ≤ co ∧ co ≤ 7) ∧ Hid (zS w' g) ∧ Hid (w.grownBy w' (some g)) ∧ Hid (zU w' w.heap.size Ap np cp pr) ∧ Hid (np ≤ nn ∧ yi nn (-1) pr = true)
theorem rY (g : Nat) (An Ad Al : Option Addr) (nn cn nd cd nl cl : Nat) (w : World) (hd : zS w g) (hnn : nn ≤ 1000) :
 Calls Tryz.prog 12 #[.pointer (some ⟨g, 0, none⟩), .agg #[.slice An nn cn, .slice Ad nd cd], .slice Al nl cl] w (kY w g nn Al nl cl) := by
 have hlt := hd.lt
 have HD0 := iD ((hd.alloc (.cells #[.slice An nn cn, .slice Ad nd cd] 26)).alloc (.cells #[.int .i64 0, .slice none 0 0, .slice none 0 0] 29))
 have HB0 : Hid (Below w.heap.size w ((w.alloc (.cells #[.slice An nn cn, .slice Ad nd cd] 26)).alloc (.cells #[.int .i64 0, .slice none 0 0, .slice none 0 0] 29))) := ((Below.refl _ _).alloc lR _).alloc (by simp) _
 have HK0 : Hid (Blk ((w.alloc (.cells #[.slice An nn cn, .slice Ad nd cd] 26)).alloc (.cells #[.int .i64 0, .slice none 0 0, .slice none 0 0] 29)) (w.heap.size + 1) 29 #[.int .i64 0, .slice none 0 0, .slice none 0 0]) := by
  have := Blk.new (w.alloc (.cells #[.slice An nn cn, .slice Ad nd cd] 26)) 29 #[.int .i64 0, .slice none 0 0, .slice none 0 0]
  unfold Hid; simpa using this
 clear hd
 go_enter Tryz.func12, Tryz.ntmps12
 go_wp2_with fail
 generalize World.alloc (World.alloc w _) _ = W at *
 have hz0 := HB0.out.size
 have HX5 : Hid (w.heap.size + 1 < W.heap.size) := HK0.out.lt
 refine (nC g nn 3 W HD0.out hnn (by decide)).mono ?_
 rintro e w1 ⟨Ap, np, cp, pr, rfl, hd1, hg1, hO1, hr1⟩
 have HK1 := iD ((HK0.out.grown hg1.out (fun e => by injection e with e; omega)).alloc (.cells #[.int .i64 0, .slice Al nl cl, .slice Ap np cp] 29))
 have HG1 := iD (zP (zP (zN HB0.out (some g)) hg1.out) (zN ((Below.refl _ _).alloc lR (.cells #[.int .i64 0, .slice Al nl cl, .slice Ap np cp] 29)) (some g)))
 have HD1 := iD (hd1.out.alloc (.cells #[.int .i64 0, .slice Al nl cl, .slice Ap np cp] 29))
 have HO1 : Hid (zU (w1.alloc (.cells #[.int .i64 0, .slice Al nl cl, .slice Ap np cp] 29)) W.heap.size Ap np cp pr) := hO1.out.alloc _
 have HV1 := iD (Blk.new w1 29 #[.int .i64 0, .slice Al nl cl, .slice Ap np cp])
 have hz1 := hg1.out.size
 have HAP : Hid (∀ q, (Value.slice Ap np cp).ownBlock = some q → q < w1.heap.size) := fun q h => (hO1.out.lt q h).2
 clear hd1 hg1 hO1 HK0 HD0 HB0
 go_upto_region 2 with (fail)
 generalize World.alloc w1 _ = W2 at *
 obtain ⟨vb, hvb⟩ : ∃ x, x = w1.heap.size := ⟨_, rfl⟩
 rw [← hvb] at HV1 HAP hz1 ⊢
 clear hvb
 go_wp2_with fail
 refine (wQ g 6 W2 HD1.out (by decide)).mono ?_
 rintro e w3 ⟨r, rfl, hd3, hg3, hs3⟩
 have HK3 := iD (HK1.out.grown hg3.out (fun e => by injection e with e; omega))
 have HV3 := iD (HV1.out.grown hg3.out (fun e => by injection e with e; omega))
 have HO3 := iD (HO1.out.kept hg3.out (zm fun b e => by have := (HO1.out.lt b e).1; omega))
 have HG3 := iD (zP HG1.out hg3.out)
 clear HK1 HV1 HO1 HG1 HD1 hg3 hs3
 have HEND : Hid (∀ (co : Int) (w4 : World), 0 ≤ co ∧ co ≤ 7 → Blk w4 vb 29 #[.int .i64 co, .slice Al nl cl, .slice Ap np cp] → zS w4 g → w.grownBy w4 (some g) → zU w4 W.heap.size Ap np cp pr →
  kY w g nn Al nl cl (.returned (.agg #[.int .i64 co, .slice Al nl cl, .slice Ap np cp])) (((w4.setCell ⟨w.heap.size + 1, 0, none⟩ (.int .i64 co)).setCell ⟨w.heap.size + 1, 1, none⟩ (.slice Al nl cl)).setCell ⟨w.heap.size + 1, 2, none⟩ (.slice Ap np cp))) := by
  intro co w4 hco _ hd4 hg4 hO4
  refine ⟨co, Ap, np, cp, pr, rfl, hco, ((hd4.setCell (by simp; omega) _).setCell (by simp; omega) _).setCell (by simp; omega) _, zy (zy (zy hg4 (by simp) _) (by simp) _) (by simp) _, ?_, hr1⟩
  have hq : ∀ b, (Value.slice Ap np cp).ownBlock = some b → b ≠ w.heap.size + 1 := fun b e => by have := (hO4.lt b e).1; have := HX5.out; omega
  exact (((hO4.kept (yE _ _ _) (zm hq)).kept (yE _ _ _) (zm hq)).kept (yE _ _ _) (zm hq)).mono hz0
 rcases r with _ | _
 ·have HX := iD (HEND.out 0 w3 ⟨by decide, by decide⟩ HV3.out hd3.out HG3.out HO3.out)
  clear HEND HO3 HG3 hd3
  have v0 := HV3.out.c0
  have v1 := HV3.out.c1
  have v2 := HV3.out.c2
  have c0 := HK3.out.c0
  have c1 := HK3.out.c1
  have c2 := HK3.out.c2
  have f0 : w3.frozen? ⟨w.heap.size + 1, 0, none⟩ = false := HK3.out.frozen 0
  have f1 : w3.frozen? ⟨w.heap.size + 1, 1, none⟩ = false := HK3.out.frozen 1
  have f2 : w3.frozen? ⟨w.heap.size + 1, 2, none⟩ = false := HK3.out.frozen 2
  go_wp2_with fail
  exact bodyPost_ret (v := .agg #[.int .i64 0, .slice Al nl cl, .slice Ap np cp]) (by simp [results, Tryz.results12, go_sem, c0, c1, c2]) rfl HX.out
 ·go_wp2_with fail
  refine (zW g 3 w3 hd3.out (by decide)).mono ?_
  rintro e w4 ⟨co, rfl, hv0, _, hv1, hd4, hg4, hs4⟩
  have hvn := hv1.out (by omega)
  have HK4 := iD ((HK3.out.grown hg4.out (fun e => by injection e with e; omega)).far (p := ⟨vb, 0, none⟩) (by show w.heap.size + 1 ≠ vb; have := HX5.out; omega) (.int .i64 co))
  have HV4 : Hid (Blk (w4.setCell ⟨vb, 0, none⟩ (.int .i64 co)) vb 29 #[.int .i64 co, .slice Al nl cl, .slice Ap np cp]) := (HV3.out.grown hg4.out (fun e => by injection e with e; omega)).set 0 (.int .i64 co)
  have HO4 := iD ((HO3.out.kept hg4.out (zm fun b e => by have := (HO3.out.lt b e).1; omega)).kept (yE w4 ⟨vb, 0, none⟩ (.int .i64 co)) (zm fun b e => by have := HAP.out b e; simp; omega))
  have HG4 := iD (zy (zP HG3.out hg4.out) (p := ⟨vb, 0, none⟩) (by simp; omega) (.int .i64 co))
  have HD4 := iD (hd4.out.setCell (p := ⟨vb, 0, none⟩) (by simp; omega) (.int .i64 co))
  have e0 := (HV3.out.grown hg4.out (fun e => by injection e with e; omega)).c0
  have e1 : w4.frozen? ⟨vb, 0, none⟩ = false := (HV3.out.grown hg4.out (fun e => by injection e with e; omega)).frozen 0
  have HX := iD (HEND.out co _ ⟨hv0, by omega⟩ HV4.out HD4.out HG4.out HO4.out)
  clear HEND HO3 HG3 hd3 hd4 hg4 hs4 HK3 HV3 HO4 HG4 HD4 hv1
  go_upto_region 4 with (fail)
  generalize World.setCell w4 _ _ = w5 at *
  clear e0 e1
  have v0 := HV4.out.c0
  have v1 := HV4.out.c1
  have v2 := HV4.out.c2
  have c0 := HK4.out.c0
  have c1 := HK4.out.c1
  have c2 := HK4.out.c2
  have f0 : w5.frozen? ⟨w.heap.size + 1, 0, none⟩ = false := HK4.out.frozen 0
  have f1 : w5.frozen? ⟨w.heap.size + 1, 1, none⟩ = false := HK4.out.frozen 1
  have f2 : w5.frozen? ⟨w.heap.size + 1, 2, none⟩ = false := HK4.out.frozen 2
  go_wp2_with fail
  exact bodyPost_ret (v := .agg #[.int .i64 co, .slice Al nl cl, .slice Ap np cp]) (by simp [results, Tryz.results12, go_sem, c0, c1, c2]) rfl HX.out
end Go.Proofs.YtddddlhgaeameaaGreatDoor
