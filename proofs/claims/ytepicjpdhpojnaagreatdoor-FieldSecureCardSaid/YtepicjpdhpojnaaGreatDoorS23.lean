import Derived.Test.YtepicjpdhpojnaaGreatDoorS22
import Derived.Test.YtepicjpdhpojnaaGreatDoorS09
import Derived.Deep.DeepCutAuto
import Derived.Test.YtepicjpdhpojnaaGreatDoorS11
import Derived.Test.YtepicjpdhpojnaaGreatDoorS03
import Derived.Test.YtepicjpdhpojnaaGreatDoorS18
import Derived.Test.YtepicjpdhpojnaaGreatDoorS21
import Derived.Test.YtepicjpdhpojnaaGreatDoorS17
set_option maxRecDepth 100000
set_option maxHeartbeats 16000000
namespace Go.Proofs.YtepicjpdhpojnaaGreatDoor
open Go.RowKit
def EvPost (w : World) (g : Nat) (e : Ending) (w' : World) : Prop := ∃ k d p q : Int, e = .returned (.agg #[.int .i64 k, .int .i64 d, .int .i64 p, .int .i64 q]) ∧ q < 801 ∧ Hid (DeckAt w' g) ∧ Hid (w.grownBy w' (some g))
structure EvB (w0 : World) (g : Nat) (An Ad : Option Addr) (nn cn nd cd : Nat) (w : World) : Prop where
 dk : DeckAt w g
 gr : w0.grownBy w (some g)
 b0 : Blk w w0.heap.size 30 #[.slice An nn cn, .slice Ad nd cd]
 b1 : Blk w (w0.heap.size + 1) 44 #[.int .i64 0, .int .i64 0, .int .i64 0, .int .i64 0]
structure EvX (w0 : World) (g x : Nat) (cs : Array Value) (w : World) : Prop where
 dk : DeckAt w g
 gr : w0.grownBy w (some g)
 b1 : Blk w (w0.heap.size + 1) 44 #[.int .i64 0, .int .i64 0, .int .i64 0, .int .i64 0]
 bx : Blk w x 44 cs
 hx : w0.heap.size + 2 ≤ x
section
variable {w0 w w' : World} {g x nn cn nd cd : Nat} {An Ad : Option Addr} {cs : Array Value}
theorem EvB.next (h : EvB w0 g An Ad nn cn nd cd w) (hl : g < w0.heap.size) (hd : DeckAt w' g) (hg : w.grownBy w' (some g)) : EvB w0 g An Ad nn cn nd cd w' := ⟨hd, grown_trans h.gr hg, h.b0.grown hg (by simp; omega), h.b1.grown hg (by simp; omega)⟩
theorem EvB.later (h : EvB w0 g An Ad nn cn nd cd w) (hb : Below w.heap.size w w') : EvB w0 g An Ad nn cn nd cd w' := ⟨h.dk.below hb h.dk.lt, grown_trans h.gr (grown_of_below hb _), h.b0.below hb h.b0.lt, h.b1.below hb h.b1.lt⟩
theorem EvB.alloc (h : EvB w0 g An Ad nn cn nd cd w) (o : Obj) : EvB w0 g An Ad nn cn nd cd (w.alloc o) := h.later ((Below.refl _ _).alloc (Nat.le_refl _) _)
theorem EvX.next (h : EvX w0 g x cs w) (hl : g < w0.heap.size) (hd : DeckAt w' g) (hg : w.grownBy w' (some g)) : EvX w0 g x cs w' := by
 have := h.hx
 exact ⟨hd, grown_trans h.gr hg, h.b1.grown hg (by simp; omega), h.bx.grown hg (by simp; omega), h.hx⟩
theorem EvX.fld (h : EvX w0 g x cs w) (hl : g < w0.heap.size) (j : Nat) (v : Value) : EvX w0 g x (cs.setIfInBounds j v) (w.setCell ⟨x, j, none⟩ v) := by
 have := h.hx
 exact ⟨h.dk.setCell (by simp; omega) _, grown_set h.gr (by simp; omega) _, h.b1.far (by simp; omega) _, h.bx.set j v, h.hx⟩
theorem EvX.mk4 (h : EvB w0 g An Ad nn cn nd cd w) (hx : Blk w x 44 #[.int .i64 0, .int .i64 0, .int .i64 0, .int .i64 0]) (hH : w0.heap.size + 2 ≤ x) (hl : g < w0.heap.size) (a b : Int) :
 EvX w0 g x #[.int .i64 a, .int .i64 b, .int .i64 0, .int .i64 0] ((((w.setCell ⟨x, 0, none⟩ (.int .i64 a)).setCell ⟨x, 1, none⟩ (.int .i64 b)).setCell ⟨x, 2, none⟩ (.int .i64 0)).setCell ⟨x, 3, none⟩ (.int .i64 0)) :=
 (((EvX.fld ⟨h.dk, h.gr, h.b1, hx, hH⟩ hl 0 (.int .i64 a)).fld hl 1 (.int .i64 b)).fld hl 2 (.int .i64 0)).fld hl 3 (.int .i64 0)
theorem EvX.fin (h : EvX w0 g x cs w) (hl : g < w0.heap.size) (k d p q : Int) (hq : q < 801) (a b c e : Value) : EvPost w0 g (.returned (.agg #[.int .i64 k, .int .i64 d, .int .i64 p, .int .i64 q])) ((((w.setCell ⟨w0.heap.size + 1, 0, none⟩ a).setCell ⟨w0.heap.size + 1, 1, none⟩ b).setCell ⟨w0.heap.size + 1, 2, none⟩ c).setCell ⟨w0.heap.size + 1, 3, none⟩ e) :=
 ⟨k, d, p, q, rfl, hq, (((h.dk.setCell (by simp; omega) _).setCell (by simp; omega) _).setCell (by simp; omega) _).setCell (by simp; omega) _, grown_set (grown_set (grown_set (grown_set h.gr (by simp) _) (by simp) _) (by simp) _) (by simp) _⟩
end
def EvG (H : Nat) (j : Nat) (_ : Unit) (v : Value) (w : World) : Prop := match j with
 | 1 => ∃ r : Int, v = .int .i64 r ∧ r < 7 ∧ 0 ≤ r
 | 2 => ∃ r : Int, v = .int .i64 r
 | 7 => ∃ r : Int, v = .int .i64 r
 | 8 => ∃ a b : Int, v = .agg #[.int .i64 a, .int .i64 b, .int .i64 0, .int .i64 0]
 | 9 => ∃ x, v = .pointer (some ⟨x, 0, none⟩) ∧ Blk w x 44 #[.int .i64 0, .int .i64 0, .int .i64 0, .int .i64 0] ∧ H ≤ x
 | _ => True
theorem EvG.later {H j : Nat} {u : Unit} {v : Value} {w w' : World} (h : EvG H j u v w) (hb : Below w.heap.size w w') : EvG H j u v w' := by
 unfold EvG at h ⊢
 split at h
 iterate 4 exact h
 ·obtain ⟨x, h1, h2, h3⟩ := h; exact ⟨x, h1, h2.below hb h2.lt, h3⟩
 ·exact h
theorem EvG.grown {g H j : Nat} {u : Unit} {v : Value} {w w' : World} (h : EvG (H + 2) j u v w) (hg : w.grownBy w' (some g)) (hl : g < H) : EvG (H + 2) j u v w' := by
 unfold EvG at h ⊢
 split at h
 iterate 4 exact h
 ·obtain ⟨x, h1, h2, h3⟩ := h; exact ⟨x, h1, h2.grown hg (fun e => by injection e; omega), h3⟩
 ·exact h
theorem event_any (g : Nat) (An Ad : Option Addr) (nn cn nd cd : Nat) (w : World) (hd : DeckAt w g) (hnd : nd ≤ 1000000) : Calls Tryz.prog 16 #[.pointer (some ⟨g, 0, none⟩), .agg #[.slice An nn cn, .slice Ad nd cd]] w (EvPost w g) := by
 have hgl := hd.lt
 have HD := Lib.hid hd; clear hd
 go_enter Tryz.func16, Tryz.ntmps16
 go_upto_region 1 with (fail)
 have HB0 : Hid (EvB w g An Ad nn cn nd cd ((w.alloc (.cells #[.slice An nn cn, .slice Ad nd cd] 30)).alloc (.cells #[.int .i64 0, .int .i64 0, .int .i64 0, .int .i64 0] 44))) := by
  refine ⟨(HD.out.alloc _).alloc _, grown_of_below (((Below.refl _ _).alloc (Nat.le_refl _) _).alloc (by simp) _) _, (Blk.new w _ _).alloc _, ?_⟩
  have := Blk.new (w.alloc (.cells #[.slice An nn cn, .slice Ad nd cd] 30)) 44 #[.int .i64 0, .int .i64 0, .int .i64 0, .int .i64 0]
  rw [World.size_alloc] at this
  exact this
 generalize World.alloc (World.alloc _ _) _ = wa at *
 have HB1 := Lib.hid (HB0.out.later (Below.refl _ _).drew)
 refine wp_region_phi (S := fun W' => W'.cell? ⟨w.heap.size, 1, none⟩ = some (.slice Ad nd cd)) (J := []) (n := _) ((0, true) :: (3, true) :: (4, true) :: (5, true) :: (6, true) :: []) ((10, false) :: []) (phiG [(1, []), (2, [1]), (7, [1]), (8, [2, 7]), (9, [])]) 5 #[true, false, false, true, true, true, true, false, false, false, false] #[true, true, true, true, true, true, true, true, true, true, false] (by as_aux_lemma => kernel_rfl) (by rfl) (base_cons (k := 0) (by go_simp; rfl) (base_cons (k := 3) (by go_simp; rfl) base_nil)) ?_ (fun _ _ _ _ _ h => h) (fun Q2 A hsz hbase hn2 hHeld => ?_)
 ·exact HB1.out.b0.cell 1
 try dsimp only at hHeld
 obtain ⟨b0, b3, -⟩ := hbase
 refine ⟨Phi A [(1, 7), (2, 8), (7, 13), (8, 14), (9, 5)] [(12, .int .i64 (nd : Int)), (11, .slice Ad nd cd), (10, .pointer (some ⟨w.heap.size, 1, none⟩)), (9, .pointer (some ⟨g, 0, none⟩)), (6, .pointer (some ⟨g, 0, none⟩))] 11 (EvB w g An Ad nn cn nd cd) (EvG (w.heap.size + 2)), ?_, ?_, ?_⟩
 ·refine ord_move (i := 0) (d := 6) (v := ?_) rfl rfl rfl (wanted_none rfl) hHeld (fun ρ hρ => ?_) ?_
  rotate_left
  ·(have e0 := Eq.trans (hρ.tmp hsz 0 rfl) (lkp_base b0); exact e0)
  show wpOrd _ _ _ _ _ _ _ _
  refine ord_move (i := 3) (d := 9) (v := ?_) rfl rfl rfl (wanted_none rfl) hHeld (fun ρ hρ => ?_) ?_
  rotate_left
  ·(have e0 := Eq.trans (hρ.tmp hsz 0 rfl) (miss1 rfl (lkp_base b0)); exact e0)
  show wpOrd _ _ _ _ _ _ _ _
  refine ord_take (i := 4) (d := 10) (v := ?_) rfl rfl (wanted_none rfl) hHeld (fun ρ hρ w hSw => ?_) ?_
  rotate_left
  ·(have e3 := Eq.trans (hρ.tmp hsz 3 rfl) (miss1 rfl (miss1 rfl (lkp_base b3))); clear hρ; (try dsimp only at hSw); go_simp; try with_reducible rfl)
  show wpOrd _ _ _ _ _ _ _ _
  refine ord_take (i := 5) (d := 11) (v := ?_) rfl rfl (wanted_none rfl) hHeld (fun ρ hρ w hSw => ?_) ?_
  rotate_left
  ·(have e10 := Eq.trans (hρ.tmp hsz 10 rfl) lkp_hit; clear hρ; (try dsimp only at hSw); go_simp; try with_reducible rfl)
  show wpOrd _ _ _ _ _ _ _ _
  refine ord_take (i := 6) (d := 12) (v := ?_) rfl rfl (wanted_none rfl) hHeld (fun ρ hρ w hSw => ?_) ?_
  rotate_left
  ·(have e11 := Eq.trans (hρ.tmp hsz 11 rfl) lkp_hit; clear hρ; (try dsimp only at hSw); go_simp; try with_reducible rfl)
  show wpOrd _ _ _ _ _ _ _ _
  exact lat_pre (phi_start (l := #[true, false, false, true, true, true, true, false, false, false, false]) () (by decide) rfl HB1.out)
 ·intro l i a w0 hg h
  obtain ⟨vs, γ, hl, rfl, hB, hG⟩ := h
  obtain ⟨hf, ds, hm, hds⟩ := phiG_out hg
  clear hg
  simp only [List.mem_cons, Prod.mk.injEq, List.not_mem_nil, or_false] at hm
  rcases hm with ⟨rfl, rfl⟩ | ⟨rfl, rfl⟩ | ⟨rfl, rfl⟩ | ⟨rfl, rfl⟩ | ⟨rfl, rfl⟩
  ·clear hds
   refine lat_call (d := 7) (vs := #[.pointer (some ⟨g, 0, none⟩), .int .i64 7]) rfl rfl rfl rfl (fun ρ hρ => ?_) ?_ ?_
   ·(have hc := hρ.const; have e6 := Eq.trans (hρ.tmp hsz 6 rfl) ((slots_miss _ rfl (miss1 rfl (miss1 rfl (miss1 rfl (miss1 rfl lkp_hit)))))); simp only [List.map_toArray, List.map_cons, List.map_nil, e6, hc])
   ·(intro w; go_simp)
   refine (next_any g 7 w0 hB.dk (by decide)).mono ?_
   rintro e w6 ⟨r, rfl, r0, r1, r2, hd6, hg6, hs6⟩
   refine ⟨_, rfl, fun _ => ((hB.next hgl hd6.out hg6.out)).b0.cell 1, phi_step (γ' := γ) (by decide) (by decide) hl (by decide) hf (hB.next hgl hd6.out hg6.out) hG (fun j u _ _ h => h.grown hg6.out hgl) (⟨r, rfl, by first | exact r2.out (by decide) | trivial, r0⟩)⟩
  ·have f1 : flag l 1 = true := hds 1 (by simp)
   have G1 := hG 1 f1 (by decide)
   clear hds
   obtain ⟨r, h1, ra, rb⟩ := G1
   have hwr : IntKind.i64.wrap (1 + r) = 1 + r := IntWalk.i64_in _ (by omega)
   refine lat_run (d := 8) (v := ?_) (w' := ?_) rfl rfl rfl (fun ρ hρ => ?_) ?_
   rotate_left 2
   ·(have hc := hρ.const; have e7 := Eq.trans (hρ.tmp hsz 7 rfl) ((slots_get (i := 1) f1 _ (by decide) (by decide)).trans h1); clear hρ; go_simp; first | with_reducible rfl | (constructor <;> with_reducible rfl))
   exact ⟨fun _ => ((hB)).b0.cell 1, phi_step (γ' := γ) (by decide) (by decide) hl (by decide) hf (hB) hG (fun j u _ _ h => h) (⟨1 + r, rfl⟩)⟩
  ·have f1 : flag l 1 = true := hds 1 (by simp)
   have G1 := hG 1 f1 (by decide)
   clear hds
   refine lat_call (d := 13) (vs := #[.pointer (some ⟨g, 0, none⟩), .int .i64 (nd : Int)]) rfl rfl rfl rfl (fun ρ hρ => ?_) ?_ ?_
   ·(have e9 := Eq.trans (hρ.tmp hsz 9 rfl) ((slots_miss _ rfl (miss1 rfl (miss1 rfl (miss1 rfl lkp_hit))))); have e12 := Eq.trans (hρ.tmp hsz 12 rfl) ((slots_miss _ rfl lkp_hit)); simp only [List.map_toArray, List.map_cons, List.map_nil, e9, e12])
   ·(intro w; go_simp)
   refine (next_any g (nd : Int) w0 hB.dk (by omega)).mono ?_
   rintro e w6 ⟨r, rfl, r0, r1, r2, hd6, hg6, hs6⟩
   refine ⟨_, rfl, fun _ => ((hB.next hgl hd6.out hg6.out)).b0.cell 1, phi_step (γ' := γ) (by decide) (by decide) hl (by decide) hf (hB.next hgl hd6.out hg6.out) hG (fun j u _ _ h => h.grown hg6.out hgl) (⟨r, rfl⟩)⟩
  ·have f2 : flag l 2 = true := hds 2 (by simp)
   have f7 : flag l 7 = true := hds 7 (by simp)
   have G2 := hG 2 f2 (by decide)
   have G7 := hG 7 f7 (by decide)
   clear hds
   obtain ⟨r, h2⟩ := G2
   obtain ⟨s, h7⟩ := G7
   refine lat_run (d := 14) (v := ?_) (w' := ?_) rfl rfl rfl (fun ρ hρ => ?_) ?_
   rotate_left 2
   ·(have e8 := Eq.trans (hρ.tmp hsz 8 rfl) ((slots_get (i := 2) f2 _ (by decide) (by decide)).trans h2); have e13 := Eq.trans (hρ.tmp hsz 13 rfl) ((slots_get (i := 7) f7 _ (by decide) (by decide)).trans h7); clear hρ; go_simp; first | with_reducible rfl | (constructor <;> with_reducible rfl))
   exact ⟨fun _ => ((hB)).b0.cell 1, phi_step (γ' := γ) (by decide) (by decide) hl (by decide) hf (hB) hG (fun j u _ _ h => h) (⟨r, s, rfl⟩)⟩
  ·clear hds
   refine lat_run (d := 5) (v := ?_) (w' := ?_) rfl rfl rfl (fun ρ hρ => ?_) ?_
   rotate_left 2
   ·(skip; clear hρ; go_simp; first | with_reducible rfl | (constructor <;> with_reducible rfl))
   exact ⟨fun _ => ((hB.alloc _)).b0.cell 1, phi_step (γ' := γ) (by decide) (by decide) hl (by decide) hf (hB.alloc _) hG (fun j u _ _ h => h.later ((Below.refl _ _).alloc (Nat.le_refl _) _)) (⟨w0.heap.size, rfl, Blk.new _ _ _, hB.b1.lt⟩)⟩
 intro a w0 h
 obtain ⟨vs, γ, -, rfl, hB, hG⟩ := h
 show wpOrd _ _ _ _ _ _ (puts A ((7, vs 1) :: (8, vs 2) :: (13, vs 7) :: (14, vs 8) :: (5, vs 9) :: [(12, .int .i64 (nd : Int)), (11, .slice Ad nd cd), (10, .pointer (some ⟨w.heap.size, 1, none⟩)), (9, .pointer (some ⟨g, 0, none⟩)), (6, .pointer (some ⟨g, 0, none⟩))])) _
 replace hHeld : (fun W' => W'.cell? ⟨w.heap.size, 1, none⟩ = some (.slice Ad nd cd)) w0 := (hB).b0.cell 1
 obtain ⟨a, b, h8⟩ := hG 8 rfl (by decide)
 obtain ⟨x, h9, hx, hxH⟩ := hG 9 rfl (by decide)
 obtain ⟨v1, hv1⟩ : ∃ v, v = vs 1 := ⟨_, rfl⟩
 obtain ⟨v2, hv2⟩ : ∃ v, v = vs 2 := ⟨_, rfl⟩
 obtain ⟨v7, hv7⟩ : ∃ v, v = vs 7 := ⟨_, rfl⟩
 rw [h8, h9, ← hv1, ← hv2, ← hv7]
 clear h8 h9 hG hv1 hv2 hv7 vs
 have c0 := hx.cell 0
 have c1 := hx.cell 1
 have c2 := hx.cell 2
 have c3 := hx.cell 3
 have y0 := hx.frozen 0
 have y1 := hx.frozen 1
 have y2 := hx.frozen 2
 have y3 := hx.frozen 3
 have HX := Lib.hid (EvX.mk4 hB hx hxH hgl a b)
 have HS : Hid (((((w0.setCell ⟨x, 0, none⟩ (.int .i64 a)).setCell ⟨x, 1, none⟩ (.int .i64 b)).setCell ⟨x, 2, none⟩ (.int .i64 0)).setCell ⟨x, 3, none⟩ (.int .i64 0)).cell? ⟨w.heap.size, 1, none⟩ = some (.slice Ad nd cd)) := ((((hB.b0.far (by simp; omega) _).far (by simp; omega) _).far (by simp; omega) _).far (by simp; omega) _).cell 1
 clear hx hB
 show wpOrd _ _ _ _ _ _ _ _
 refine ord_store (i := 10) (w' := ?_) rfl rfl (wanted_none rfl) (fun ρ hρ => ?_) (fun _ => ?_) ?_
 rotate_left
 ·(have e5 := Eq.trans (hρ.tmp hsz 5 rfl) (miss4 rfl rfl rfl rfl lkp_hit); have e14 := Eq.trans (hρ.tmp hsz 14 rfl) (miss1 rfl (miss1 rfl (miss1 rfl lkp_hit))); clear hρ; go_simp; try with_reducible rfl)
 ·exact ((((HS.out))))
 show wpOrd _ _ _ _ _ _ _ _
 refine ord_done hn2 ?_
 clear hHeld hn2 b0 b3 hsz A Q2
 simp only [puts_nil, puts_cons, put_lit, set_1, set_0]
 clear c0 c1 c2 c3 y0 y1 y2 y3
 generalize World.setCell (World.setCell (World.setCell (World.setCell _ _ _) _ _) _ _) _ _ = w2 at *
 clear HS HB1 HB0 HD
 have ca := HX.out.bx.cell 0
 go_upto_region 3 with (fail)
 clear ca
 by_cases h1 : a = 1
 ·have qa1 : (a == 1) = true := by simpa using h1
  clear h1
  go_wp2_with fail
  refine (next_any g 2 w2 HX.out.dk (by decide)).mono ?_
  rintro e wy ⟨y, rfl, r0, r1, r2, hd6, hg6, hs6⟩
  have r3 : y < 2 := r2.out (by decide)
  have HY := Lib.hid (HX.out.next hgl hd6.out hg6.out)
  clear hd6 hg6 hs6 r1 r2 HX
  have hwy : IntKind.i64.wrap (1 + y) = 1 + y := IntWalk.i64_in _ (by omega)
  have c2 := HY.out.bx.cell 2
  have y2 := HY.out.bx.frozen 2
  have H3 := Lib.hid (HY.out.fld hgl 2 (.int .i64 (1 + y)))
  go_upto_region 10 with (fail)
  clear c2 y2 HY hwy r0 r3
  generalize World.setCell wy _ _ = w3 at *
  go_wp2_with fail
  refine (next_any g 20 w3 H3.out.dk (by decide)).mono ?_
  rintro e wu ⟨u, rfl, r0, r1, r2, hd6, hg6, hs6⟩
  have r3 : u < 20 := r2.out (by decide)
  have HU := Lib.hid (H3.out.next hgl hd6.out hg6.out)
  clear hd6 hg6 hs6 r1 r2 H3
  by_cases hu0 : u = 0
  ·have qu0 : (u == 0) = true := by simpa using hu0
   clear hu0
   go_wp2_with fail
   refine (next_any g 4 wu HU.out.dk (by decide)).mono ?_
   rintro e wv ⟨v, rfl, r0, r1, r2, hd6, hg6, hs6⟩
   have r3 : v < 4 := r2.out (by decide)
   have HV := Lib.hid (HU.out.next hgl hd6.out hg6.out)
   clear hd6 hg6 hs6 r1 r2 HU
   have c2 := HV.out.bx.cell 2
   have y2 := HV.out.bx.frozen 2
   have HW := Lib.hid (HV.out.fld hgl 2 (.int .i64 (v)))
   go_upto_region 17 with (fail)
   clear c2 y2 HV
   generalize World.setCell wv _ _ = ww at *
   have c0 := HW.out.bx.cell 0
   have c1 := HW.out.bx.cell 1
   have c2 := HW.out.bx.cell 2
   have c3 := HW.out.bx.cell 3
   have d0 := HW.out.b1.cell 0
   have d1 := HW.out.b1.cell 1
   have d2 := HW.out.b1.cell 2
   have d3 := HW.out.b1.cell 3
   have y0 := HW.out.b1.frozen 0
   have y1 := HW.out.b1.frozen 1
   have y2 := HW.out.b1.frozen 2
   have y3 := HW.out.b1.frozen 3
   have HF := Lib.hid (HW.out.fin hgl (a) b (v) (0) (by omega) (.int .i64 (a)) (.int .i64 b) (.int .i64 (v)) (.int .i64 (0)))
   have HB := Lib.hid ((((HW.out.b1.set 0 (.int .i64 (a))).set 1 (.int .i64 b)).set 2 (.int .i64 (v))).set 3 (.int .i64 (0)))
   go_wp2_with fail
   clear c0 c1 c2 c3 d0 d1 d2 d3 y0 y1 y2 y3
   generalize World.setCell (World.setCell (World.setCell (World.setCell _ _ _) _ _) _ _) _ _ = wz at *
   have t0 : wz.cell? ⟨w.heap.size + 1, 0, none⟩ = some (.int .i64 (a)) := HB.out.cell 0
   have t1 : wz.cell? ⟨w.heap.size + 1, 1, none⟩ = some (.int .i64 (b)) := HB.out.cell 1
   have t2 : wz.cell? ⟨w.heap.size + 1, 2, none⟩ = some (.int .i64 (v)) := HB.out.cell 2
   have t3 : wz.cell? ⟨w.heap.size + 1, 3, none⟩ = some (.int .i64 (0)) := HB.out.cell 3
   exact bodyPost_ret (v := .agg #[.int .i64 (a), .int .i64 b, .int .i64 (v), .int .i64 (0)]) (by simp [results, Tryz.results16, go_sem, t0, t1, t2, t3]) rfl HF.out
  have qu0 : (u == 0) = false := by simpa using hu0
  clear hu0
  by_cases hu1 : u = 1
  ·have qu1 : (u == 1) = true := by simpa using hu1
   clear hu1
   go_wp2_with fail
   refine (next_any g 3 wu HU.out.dk (by decide)).mono ?_
   rintro e wv ⟨v, rfl, r0, r1, r2, hd6, hg6, hs6⟩
   have r3 : v < 3 := r2.out (by decide)
   have HV := Lib.hid (HU.out.next hgl hd6.out hg6.out)
   clear hd6 hg6 hs6 r1 r2 HU
   have c3 := HV.out.bx.cell 3
   have y3 := HV.out.bx.frozen 3
   have HW := Lib.hid (HV.out.fld hgl 3 (.int .i64 (v)))
   go_upto_region 17 with (fail)
   clear c3 y3 HV
   generalize World.setCell wv _ _ = ww at *
   have c0 := HW.out.bx.cell 0
   have c1 := HW.out.bx.cell 1
   have c2 := HW.out.bx.cell 2
   have c3 := HW.out.bx.cell 3
   have d0 := HW.out.b1.cell 0
   have d1 := HW.out.b1.cell 1
   have d2 := HW.out.b1.cell 2
   have d3 := HW.out.b1.cell 3
   have y0 := HW.out.b1.frozen 0
   have y1 := HW.out.b1.frozen 1
   have y2 := HW.out.b1.frozen 2
   have y3 := HW.out.b1.frozen 3
   have HF := Lib.hid (HW.out.fin hgl (a) b (1 + y) (v) (by omega) (.int .i64 (a)) (.int .i64 b) (.int .i64 (1 + y)) (.int .i64 (v)))
   have HB := Lib.hid ((((HW.out.b1.set 0 (.int .i64 (a))).set 1 (.int .i64 b)).set 2 (.int .i64 (1 + y))).set 3 (.int .i64 (v)))
   go_wp2_with fail
   clear c0 c1 c2 c3 d0 d1 d2 d3 y0 y1 y2 y3
   generalize World.setCell (World.setCell (World.setCell (World.setCell _ _ _) _ _) _ _) _ _ = wz at *
   have t0 : wz.cell? ⟨w.heap.size + 1, 0, none⟩ = some (.int .i64 (a)) := HB.out.cell 0
   have t1 : wz.cell? ⟨w.heap.size + 1, 1, none⟩ = some (.int .i64 (b)) := HB.out.cell 1
   have t2 : wz.cell? ⟨w.heap.size + 1, 2, none⟩ = some (.int .i64 (1 + y)) := HB.out.cell 2
   have t3 : wz.cell? ⟨w.heap.size + 1, 3, none⟩ = some (.int .i64 (v)) := HB.out.cell 3
   exact bodyPost_ret (v := .agg #[.int .i64 (a), .int .i64 b, .int .i64 (1 + y), .int .i64 (v)]) (by simp [results, Tryz.results16, go_sem, t0, t1, t2, t3]) rfl HF.out
  have qu1 : (u == 1) = false := by simpa using hu1
  clear hu1
  by_cases hu2 : u = 2
  ·have qu2 : (u == 2) = true := by simpa using hu2
   clear hu2
   go_wp2_with fail
   refine (next_any g 10 wu HU.out.dk (by decide)).mono ?_
   rintro e wv ⟨v, rfl, r0, r1, r2, hd6, hg6, hs6⟩
   have r3 : v < 10 := r2.out (by decide)
   have HV := Lib.hid (HU.out.next hgl hd6.out hg6.out)
   clear hd6 hg6 hs6 r1 r2 HU
   have c0 := HV.out.bx.cell 0
   have y0 := HV.out.bx.frozen 0
   have HW := Lib.hid (HV.out.fld hgl 0 (.int .i64 (v)))
   go_upto_region 17 with (fail)
   clear c0 y0 HV
   generalize World.setCell wv _ _ = ww at *
   have c0 := HW.out.bx.cell 0
   have c1 := HW.out.bx.cell 1
   have c2 := HW.out.bx.cell 2
   have c3 := HW.out.bx.cell 3
   have d0 := HW.out.b1.cell 0
   have d1 := HW.out.b1.cell 1
   have d2 := HW.out.b1.cell 2
   have d3 := HW.out.b1.cell 3
   have y0 := HW.out.b1.frozen 0
   have y1 := HW.out.b1.frozen 1
   have y2 := HW.out.b1.frozen 2
   have y3 := HW.out.b1.frozen 3
   have HF := Lib.hid (HW.out.fin hgl (v) b (1 + y) (0) (by omega) (.int .i64 (v)) (.int .i64 b) (.int .i64 (1 + y)) (.int .i64 (0)))
   have HB := Lib.hid ((((HW.out.b1.set 0 (.int .i64 (v))).set 1 (.int .i64 b)).set 2 (.int .i64 (1 + y))).set 3 (.int .i64 (0)))
   go_wp2_with fail
   clear c0 c1 c2 c3 d0 d1 d2 d3 y0 y1 y2 y3
   generalize World.setCell (World.setCell (World.setCell (World.setCell _ _ _) _ _) _ _) _ _ = wz at *
   have t0 : wz.cell? ⟨w.heap.size + 1, 0, none⟩ = some (.int .i64 (v)) := HB.out.cell 0
   have t1 : wz.cell? ⟨w.heap.size + 1, 1, none⟩ = some (.int .i64 (b)) := HB.out.cell 1
   have t2 : wz.cell? ⟨w.heap.size + 1, 2, none⟩ = some (.int .i64 (1 + y)) := HB.out.cell 2
   have t3 : wz.cell? ⟨w.heap.size + 1, 3, none⟩ = some (.int .i64 (0)) := HB.out.cell 3
   exact bodyPost_ret (v := .agg #[.int .i64 (v), .int .i64 b, .int .i64 (1 + y), .int .i64 (0)]) (by simp [results, Tryz.results16, go_sem, t0, t1, t2, t3]) rfl HF.out
  have qu2 : (u == 2) = false := by simpa using hu2
  clear hu2
  go_upto_region 17 with (fail)
  have c0 := HU.out.bx.cell 0
  have c1 := HU.out.bx.cell 1
  have c2 := HU.out.bx.cell 2
  have c3 := HU.out.bx.cell 3
  have d0 := HU.out.b1.cell 0
  have d1 := HU.out.b1.cell 1
  have d2 := HU.out.b1.cell 2
  have d3 := HU.out.b1.cell 3
  have y0 := HU.out.b1.frozen 0
  have y1 := HU.out.b1.frozen 1
  have y2 := HU.out.b1.frozen 2
  have y3 := HU.out.b1.frozen 3
  have HF := Lib.hid (HU.out.fin hgl (a) b (1 + y) (0) (by omega) (.int .i64 (a)) (.int .i64 b) (.int .i64 (1 + y)) (.int .i64 (0)))
  have HB := Lib.hid ((((HU.out.b1.set 0 (.int .i64 (a))).set 1 (.int .i64 b)).set 2 (.int .i64 (1 + y))).set 3 (.int .i64 (0)))
  go_wp2_with fail
  clear c0 c1 c2 c3 d0 d1 d2 d3 y0 y1 y2 y3
  generalize World.setCell (World.setCell (World.setCell (World.setCell _ _ _) _ _) _ _) _ _ = wz at *
  have t0 : wz.cell? ⟨w.heap.size + 1, 0, none⟩ = some (.int .i64 (a)) := HB.out.cell 0
  have t1 : wz.cell? ⟨w.heap.size + 1, 1, none⟩ = some (.int .i64 (b)) := HB.out.cell 1
  have t2 : wz.cell? ⟨w.heap.size + 1, 2, none⟩ = some (.int .i64 (1 + y)) := HB.out.cell 2
  have t3 : wz.cell? ⟨w.heap.size + 1, 3, none⟩ = some (.int .i64 (0)) := HB.out.cell 3
  exact bodyPost_ret (v := .agg #[.int .i64 (a), .int .i64 b, .int .i64 (1 + y), .int .i64 (0)]) (by simp [results, Tryz.results16, go_sem, t0, t1, t2, t3]) rfl HF.out
 have qa1 : (a == 1) = false := by simpa using h1
 clear h1
 by_cases h3 : a = 3
 ·have qa3 : (a == 3) = true := by simpa using h3
  clear h3
  go_wp2_with fail
  refine (next_any g 2 w2 HX.out.dk (by decide)).mono ?_
  rintro e wy ⟨y, rfl, r0, r1, r2, hd6, hg6, hs6⟩
  have r3 : y < 2 := r2.out (by decide)
  have HY := Lib.hid (HX.out.next hgl hd6.out hg6.out)
  clear hd6 hg6 hs6 r1 r2 HX
  have hwy : IntKind.i64.wrap (1 + y) = 1 + y := IntWalk.i64_in _ (by omega)
  have c2 := HY.out.bx.cell 2
  have y2 := HY.out.bx.frozen 2
  have H3 := Lib.hid (HY.out.fld hgl 2 (.int .i64 (1 + y)))
  go_upto_region 10 with (fail)
  clear c2 y2 HY hwy r0 r3
  generalize World.setCell wy _ _ = w3 at *
  go_wp2_with fail
  refine (next_any g 20 w3 H3.out.dk (by decide)).mono ?_
  rintro e wu ⟨u, rfl, r0, r1, r2, hd6, hg6, hs6⟩
  have r3 : u < 20 := r2.out (by decide)
  have HU := Lib.hid (H3.out.next hgl hd6.out hg6.out)
  clear hd6 hg6 hs6 r1 r2 H3
  by_cases hu0 : u = 0
  ·have qu0 : (u == 0) = true := by simpa using hu0
   clear hu0
   go_wp2_with fail
   refine (next_any g 4 wu HU.out.dk (by decide)).mono ?_
   rintro e wv ⟨v, rfl, r0, r1, r2, hd6, hg6, hs6⟩
   have r3 : v < 4 := r2.out (by decide)
   have HV := Lib.hid (HU.out.next hgl hd6.out hg6.out)
   clear hd6 hg6 hs6 r1 r2 HU
   have c2 := HV.out.bx.cell 2
   have y2 := HV.out.bx.frozen 2
   have HW := Lib.hid (HV.out.fld hgl 2 (.int .i64 (v)))
   go_upto_region 17 with (fail)
   clear c2 y2 HV
   generalize World.setCell wv _ _ = ww at *
   have c0 := HW.out.bx.cell 0
   have c1 := HW.out.bx.cell 1
   have c2 := HW.out.bx.cell 2
   have c3 := HW.out.bx.cell 3
   have d0 := HW.out.b1.cell 0
   have d1 := HW.out.b1.cell 1
   have d2 := HW.out.b1.cell 2
   have d3 := HW.out.b1.cell 3
   have y0 := HW.out.b1.frozen 0
   have y1 := HW.out.b1.frozen 1
   have y2 := HW.out.b1.frozen 2
   have y3 := HW.out.b1.frozen 3
   have HF := Lib.hid (HW.out.fin hgl (a) b (v) (0) (by omega) (.int .i64 (a)) (.int .i64 b) (.int .i64 (v)) (.int .i64 (0)))
   have HB := Lib.hid ((((HW.out.b1.set 0 (.int .i64 (a))).set 1 (.int .i64 b)).set 2 (.int .i64 (v))).set 3 (.int .i64 (0)))
   go_wp2_with fail
   clear c0 c1 c2 c3 d0 d1 d2 d3 y0 y1 y2 y3
   generalize World.setCell (World.setCell (World.setCell (World.setCell _ _ _) _ _) _ _) _ _ = wz at *
   have t0 : wz.cell? ⟨w.heap.size + 1, 0, none⟩ = some (.int .i64 (a)) := HB.out.cell 0
   have t1 : wz.cell? ⟨w.heap.size + 1, 1, none⟩ = some (.int .i64 (b)) := HB.out.cell 1
   have t2 : wz.cell? ⟨w.heap.size + 1, 2, none⟩ = some (.int .i64 (v)) := HB.out.cell 2
   have t3 : wz.cell? ⟨w.heap.size + 1, 3, none⟩ = some (.int .i64 (0)) := HB.out.cell 3
   exact bodyPost_ret (v := .agg #[.int .i64 (a), .int .i64 b, .int .i64 (v), .int .i64 (0)]) (by simp [results, Tryz.results16, go_sem, t0, t1, t2, t3]) rfl HF.out
  have qu0 : (u == 0) = false := by simpa using hu0
  clear hu0
  by_cases hu1 : u = 1
  ·have qu1 : (u == 1) = true := by simpa using hu1
   clear hu1
   go_wp2_with fail
   refine (next_any g 3 wu HU.out.dk (by decide)).mono ?_
   rintro e wv ⟨v, rfl, r0, r1, r2, hd6, hg6, hs6⟩
   have r3 : v < 3 := r2.out (by decide)
   have HV := Lib.hid (HU.out.next hgl hd6.out hg6.out)
   clear hd6 hg6 hs6 r1 r2 HU
   have c3 := HV.out.bx.cell 3
   have y3 := HV.out.bx.frozen 3
   have HW := Lib.hid (HV.out.fld hgl 3 (.int .i64 (v)))
   go_upto_region 17 with (fail)
   clear c3 y3 HV
   generalize World.setCell wv _ _ = ww at *
   have c0 := HW.out.bx.cell 0
   have c1 := HW.out.bx.cell 1
   have c2 := HW.out.bx.cell 2
   have c3 := HW.out.bx.cell 3
   have d0 := HW.out.b1.cell 0
   have d1 := HW.out.b1.cell 1
   have d2 := HW.out.b1.cell 2
   have d3 := HW.out.b1.cell 3
   have y0 := HW.out.b1.frozen 0
   have y1 := HW.out.b1.frozen 1
   have y2 := HW.out.b1.frozen 2
   have y3 := HW.out.b1.frozen 3
   have HF := Lib.hid (HW.out.fin hgl (a) b (1 + y) (v) (by omega) (.int .i64 (a)) (.int .i64 b) (.int .i64 (1 + y)) (.int .i64 (v)))
   have HB := Lib.hid ((((HW.out.b1.set 0 (.int .i64 (a))).set 1 (.int .i64 b)).set 2 (.int .i64 (1 + y))).set 3 (.int .i64 (v)))
   go_wp2_with fail
   clear c0 c1 c2 c3 d0 d1 d2 d3 y0 y1 y2 y3
   generalize World.setCell (World.setCell (World.setCell (World.setCell _ _ _) _ _) _ _) _ _ = wz at *
   have t0 : wz.cell? ⟨w.heap.size + 1, 0, none⟩ = some (.int .i64 (a)) := HB.out.cell 0
   have t1 : wz.cell? ⟨w.heap.size + 1, 1, none⟩ = some (.int .i64 (b)) := HB.out.cell 1
   have t2 : wz.cell? ⟨w.heap.size + 1, 2, none⟩ = some (.int .i64 (1 + y)) := HB.out.cell 2
   have t3 : wz.cell? ⟨w.heap.size + 1, 3, none⟩ = some (.int .i64 (v)) := HB.out.cell 3
   exact bodyPost_ret (v := .agg #[.int .i64 (a), .int .i64 b, .int .i64 (1 + y), .int .i64 (v)]) (by simp [results, Tryz.results16, go_sem, t0, t1, t2, t3]) rfl HF.out
  have qu1 : (u == 1) = false := by simpa using hu1
  clear hu1
  by_cases hu2 : u = 2
  ·have qu2 : (u == 2) = true := by simpa using hu2
   clear hu2
   go_wp2_with fail
   refine (next_any g 10 wu HU.out.dk (by decide)).mono ?_
   rintro e wv ⟨v, rfl, r0, r1, r2, hd6, hg6, hs6⟩
   have r3 : v < 10 := r2.out (by decide)
   have HV := Lib.hid (HU.out.next hgl hd6.out hg6.out)
   clear hd6 hg6 hs6 r1 r2 HU
   have c0 := HV.out.bx.cell 0
   have y0 := HV.out.bx.frozen 0
   have HW := Lib.hid (HV.out.fld hgl 0 (.int .i64 (v)))
   go_upto_region 17 with (fail)
   clear c0 y0 HV
   generalize World.setCell wv _ _ = ww at *
   have c0 := HW.out.bx.cell 0
   have c1 := HW.out.bx.cell 1
   have c2 := HW.out.bx.cell 2
   have c3 := HW.out.bx.cell 3
   have d0 := HW.out.b1.cell 0
   have d1 := HW.out.b1.cell 1
   have d2 := HW.out.b1.cell 2
   have d3 := HW.out.b1.cell 3
   have y0 := HW.out.b1.frozen 0
   have y1 := HW.out.b1.frozen 1
   have y2 := HW.out.b1.frozen 2
   have y3 := HW.out.b1.frozen 3
   have HF := Lib.hid (HW.out.fin hgl (v) b (1 + y) (0) (by omega) (.int .i64 (v)) (.int .i64 b) (.int .i64 (1 + y)) (.int .i64 (0)))
   have HB := Lib.hid ((((HW.out.b1.set 0 (.int .i64 (v))).set 1 (.int .i64 b)).set 2 (.int .i64 (1 + y))).set 3 (.int .i64 (0)))
   go_wp2_with fail
   clear c0 c1 c2 c3 d0 d1 d2 d3 y0 y1 y2 y3
   generalize World.setCell (World.setCell (World.setCell (World.setCell _ _ _) _ _) _ _) _ _ = wz at *
   have t0 : wz.cell? ⟨w.heap.size + 1, 0, none⟩ = some (.int .i64 (v)) := HB.out.cell 0
   have t1 : wz.cell? ⟨w.heap.size + 1, 1, none⟩ = some (.int .i64 (b)) := HB.out.cell 1
   have t2 : wz.cell? ⟨w.heap.size + 1, 2, none⟩ = some (.int .i64 (1 + y)) := HB.out.cell 2
   have t3 : wz.cell? ⟨w.heap.size + 1, 3, none⟩ = some (.int .i64 (0)) := HB.out.cell 3
   exact bodyPost_ret (v := .agg #[.int .i64 (v), .int .i64 b, .int .i64 (1 + y), .int .i64 (0)]) (by simp [results, Tryz.results16, go_sem, t0, t1, t2, t3]) rfl HF.out
  have qu2 : (u == 2) = false := by simpa using hu2
  clear hu2
  go_upto_region 17 with (fail)
  have c0 := HU.out.bx.cell 0
  have c1 := HU.out.bx.cell 1
  have c2 := HU.out.bx.cell 2
  have c3 := HU.out.bx.cell 3
  have d0 := HU.out.b1.cell 0
  have d1 := HU.out.b1.cell 1
  have d2 := HU.out.b1.cell 2
  have d3 := HU.out.b1.cell 3
  have y0 := HU.out.b1.frozen 0
  have y1 := HU.out.b1.frozen 1
  have y2 := HU.out.b1.frozen 2
  have y3 := HU.out.b1.frozen 3
  have HF := Lib.hid (HU.out.fin hgl (a) b (1 + y) (0) (by omega) (.int .i64 (a)) (.int .i64 b) (.int .i64 (1 + y)) (.int .i64 (0)))
  have HB := Lib.hid ((((HU.out.b1.set 0 (.int .i64 (a))).set 1 (.int .i64 b)).set 2 (.int .i64 (1 + y))).set 3 (.int .i64 (0)))
  go_wp2_with fail
  clear c0 c1 c2 c3 d0 d1 d2 d3 y0 y1 y2 y3
  generalize World.setCell (World.setCell (World.setCell (World.setCell _ _ _) _ _) _ _) _ _ = wz at *
  have t0 : wz.cell? ⟨w.heap.size + 1, 0, none⟩ = some (.int .i64 (a)) := HB.out.cell 0
  have t1 : wz.cell? ⟨w.heap.size + 1, 1, none⟩ = some (.int .i64 (b)) := HB.out.cell 1
  have t2 : wz.cell? ⟨w.heap.size + 1, 2, none⟩ = some (.int .i64 (1 + y)) := HB.out.cell 2
  have t3 : wz.cell? ⟨w.heap.size + 1, 3, none⟩ = some (.int .i64 (0)) := HB.out.cell 3
  exact bodyPost_ret (v := .agg #[.int .i64 (a), .int .i64 b, .int .i64 (1 + y), .int .i64 (0)]) (by simp [results, Tryz.results16, go_sem, t0, t1, t2, t3]) rfl HF.out
 have qa3 : (a == 3) = false := by simpa using h3
 clear h3
 by_cases h6 : a = 6
 ·have qa6 : (a == 6) = true := by simpa using h6
  clear h6
  go_wp2_with fail
  refine (next_any g 2 w2 HX.out.dk (by decide)).mono ?_
  rintro e wy ⟨y, rfl, r0, r1, r2, hd6, hg6, hs6⟩
  have r3 : y < 2 := r2.out (by decide)
  have HY := Lib.hid (HX.out.next hgl hd6.out hg6.out)
  clear hd6 hg6 hs6 r1 r2 HX
  have hwy : IntKind.i64.wrap (1 + y) = 1 + y := IntWalk.i64_in _ (by omega)
  clear r0 r3
  go_wp2_with fail
  refine (next_any g 6 wy HY.out.dk (by decide)).mono ?_
  rintro e wx ⟨z, rfl, r0, r1, r2, hd6, hg6, hs6⟩
  have r3 : z < 6 := r2.out (by decide)
  have HZ := Lib.hid (HY.out.next hgl hd6.out hg6.out)
  clear hd6 hg6 hs6 r1 r2 HY
  have c2 := HZ.out.bx.cell 2
  have y2 := HZ.out.bx.frozen 2
  have c3 := HZ.out.bx.cell 3
  have y3 := HZ.out.bx.frozen 3
  have H3 := Lib.hid ((HZ.out.fld hgl 2 (.int .i64 (1 + y))).fld hgl 3 (.int .i64 (z)))
  have hzq : z < 801 := by omega
  go_upto_region 10 with (fail)
  clear c2 y2 c3 y3 HZ hwy r0 r3
  generalize World.setCell (World.setCell wx _ _) _ _ = w3 at *
  go_wp2_with fail
  refine (next_any g 20 w3 H3.out.dk (by decide)).mono ?_
  rintro e wu ⟨u, rfl, r0, r1, r2, hd6, hg6, hs6⟩
  have r3 : u < 20 := r2.out (by decide)
  have HU := Lib.hid (H3.out.next hgl hd6.out hg6.out)
  clear hd6 hg6 hs6 r1 r2 H3
  by_cases hu0 : u = 0
  ·have qu0 : (u == 0) = true := by simpa using hu0
   clear hu0
   go_wp2_with fail
   refine (next_any g 4 wu HU.out.dk (by decide)).mono ?_
   rintro e wv ⟨v, rfl, r0, r1, r2, hd6, hg6, hs6⟩
   have r3 : v < 4 := r2.out (by decide)
   have HV := Lib.hid (HU.out.next hgl hd6.out hg6.out)
   clear hd6 hg6 hs6 r1 r2 HU
   have c2 := HV.out.bx.cell 2
   have y2 := HV.out.bx.frozen 2
   have HW := Lib.hid (HV.out.fld hgl 2 (.int .i64 (v)))
   go_upto_region 17 with (fail)
   clear c2 y2 HV
   generalize World.setCell wv _ _ = ww at *
   have c0 := HW.out.bx.cell 0
   have c1 := HW.out.bx.cell 1
   have c2 := HW.out.bx.cell 2
   have c3 := HW.out.bx.cell 3
   have d0 := HW.out.b1.cell 0
   have d1 := HW.out.b1.cell 1
   have d2 := HW.out.b1.cell 2
   have d3 := HW.out.b1.cell 3
   have y0 := HW.out.b1.frozen 0
   have y1 := HW.out.b1.frozen 1
   have y2 := HW.out.b1.frozen 2
   have y3 := HW.out.b1.frozen 3
   have HF := Lib.hid (HW.out.fin hgl (a) b (v) (z) (by omega) (.int .i64 (a)) (.int .i64 b) (.int .i64 (v)) (.int .i64 (z)))
   have HB := Lib.hid ((((HW.out.b1.set 0 (.int .i64 (a))).set 1 (.int .i64 b)).set 2 (.int .i64 (v))).set 3 (.int .i64 (z)))
   go_wp2_with fail
   clear c0 c1 c2 c3 d0 d1 d2 d3 y0 y1 y2 y3
   generalize World.setCell (World.setCell (World.setCell (World.setCell _ _ _) _ _) _ _) _ _ = wz at *
   have t0 : wz.cell? ⟨w.heap.size + 1, 0, none⟩ = some (.int .i64 (a)) := HB.out.cell 0
   have t1 : wz.cell? ⟨w.heap.size + 1, 1, none⟩ = some (.int .i64 (b)) := HB.out.cell 1
   have t2 : wz.cell? ⟨w.heap.size + 1, 2, none⟩ = some (.int .i64 (v)) := HB.out.cell 2
   have t3 : wz.cell? ⟨w.heap.size + 1, 3, none⟩ = some (.int .i64 (z)) := HB.out.cell 3
   exact bodyPost_ret (v := .agg #[.int .i64 (a), .int .i64 b, .int .i64 (v), .int .i64 (z)]) (by simp [results, Tryz.results16, go_sem, t0, t1, t2, t3]) rfl HF.out
  have qu0 : (u == 0) = false := by simpa using hu0
  clear hu0
  by_cases hu1 : u = 1
  ·have qu1 : (u == 1) = true := by simpa using hu1
   clear hu1
   go_wp2_with fail
   refine (next_any g 3 wu HU.out.dk (by decide)).mono ?_
   rintro e wv ⟨v, rfl, r0, r1, r2, hd6, hg6, hs6⟩
   have r3 : v < 3 := r2.out (by decide)
   have HV := Lib.hid (HU.out.next hgl hd6.out hg6.out)
   clear hd6 hg6 hs6 r1 r2 HU
   have c3 := HV.out.bx.cell 3
   have y3 := HV.out.bx.frozen 3
   have HW := Lib.hid (HV.out.fld hgl 3 (.int .i64 (v)))
   go_upto_region 17 with (fail)
   clear c3 y3 HV
   generalize World.setCell wv _ _ = ww at *
   have c0 := HW.out.bx.cell 0
   have c1 := HW.out.bx.cell 1
   have c2 := HW.out.bx.cell 2
   have c3 := HW.out.bx.cell 3
   have d0 := HW.out.b1.cell 0
   have d1 := HW.out.b1.cell 1
   have d2 := HW.out.b1.cell 2
   have d3 := HW.out.b1.cell 3
   have y0 := HW.out.b1.frozen 0
   have y1 := HW.out.b1.frozen 1
   have y2 := HW.out.b1.frozen 2
   have y3 := HW.out.b1.frozen 3
   have HF := Lib.hid (HW.out.fin hgl (a) b (1 + y) (v) (by omega) (.int .i64 (a)) (.int .i64 b) (.int .i64 (1 + y)) (.int .i64 (v)))
   have HB := Lib.hid ((((HW.out.b1.set 0 (.int .i64 (a))).set 1 (.int .i64 b)).set 2 (.int .i64 (1 + y))).set 3 (.int .i64 (v)))
   go_wp2_with fail
   clear c0 c1 c2 c3 d0 d1 d2 d3 y0 y1 y2 y3
   generalize World.setCell (World.setCell (World.setCell (World.setCell _ _ _) _ _) _ _) _ _ = wz at *
   have t0 : wz.cell? ⟨w.heap.size + 1, 0, none⟩ = some (.int .i64 (a)) := HB.out.cell 0
   have t1 : wz.cell? ⟨w.heap.size + 1, 1, none⟩ = some (.int .i64 (b)) := HB.out.cell 1
   have t2 : wz.cell? ⟨w.heap.size + 1, 2, none⟩ = some (.int .i64 (1 + y)) := HB.out.cell 2
   have t3 : wz.cell? ⟨w.heap.size + 1, 3, none⟩ = some (.int .i64 (v)) := HB.out.cell 3
   exact bodyPost_ret (v := .agg #[.int .i64 (a), .int .i64 b, .int .i64 (1 + y), .int .i64 (v)]) (by simp [results, Tryz.results16, go_sem, t0, t1, t2, t3]) rfl HF.out
  have qu1 : (u == 1) = false := by simpa using hu1
  clear hu1
  by_cases hu2 : u = 2
  ·have qu2 : (u == 2) = true := by simpa using hu2
   clear hu2
   go_wp2_with fail
   refine (next_any g 10 wu HU.out.dk (by decide)).mono ?_
   rintro e wv ⟨v, rfl, r0, r1, r2, hd6, hg6, hs6⟩
   have r3 : v < 10 := r2.out (by decide)
   have HV := Lib.hid (HU.out.next hgl hd6.out hg6.out)
   clear hd6 hg6 hs6 r1 r2 HU
   have c0 := HV.out.bx.cell 0
   have y0 := HV.out.bx.frozen 0
   have HW := Lib.hid (HV.out.fld hgl 0 (.int .i64 (v)))
   go_upto_region 17 with (fail)
   clear c0 y0 HV
   generalize World.setCell wv _ _ = ww at *
   have c0 := HW.out.bx.cell 0
   have c1 := HW.out.bx.cell 1
   have c2 := HW.out.bx.cell 2
   have c3 := HW.out.bx.cell 3
   have d0 := HW.out.b1.cell 0
   have d1 := HW.out.b1.cell 1
   have d2 := HW.out.b1.cell 2
   have d3 := HW.out.b1.cell 3
   have y0 := HW.out.b1.frozen 0
   have y1 := HW.out.b1.frozen 1
   have y2 := HW.out.b1.frozen 2
   have y3 := HW.out.b1.frozen 3
   have HF := Lib.hid (HW.out.fin hgl (v) b (1 + y) (z) (by omega) (.int .i64 (v)) (.int .i64 b) (.int .i64 (1 + y)) (.int .i64 (z)))
   have HB := Lib.hid ((((HW.out.b1.set 0 (.int .i64 (v))).set 1 (.int .i64 b)).set 2 (.int .i64 (1 + y))).set 3 (.int .i64 (z)))
   go_wp2_with fail
   clear c0 c1 c2 c3 d0 d1 d2 d3 y0 y1 y2 y3
   generalize World.setCell (World.setCell (World.setCell (World.setCell _ _ _) _ _) _ _) _ _ = wz at *
   have t0 : wz.cell? ⟨w.heap.size + 1, 0, none⟩ = some (.int .i64 (v)) := HB.out.cell 0
   have t1 : wz.cell? ⟨w.heap.size + 1, 1, none⟩ = some (.int .i64 (b)) := HB.out.cell 1
   have t2 : wz.cell? ⟨w.heap.size + 1, 2, none⟩ = some (.int .i64 (1 + y)) := HB.out.cell 2
   have t3 : wz.cell? ⟨w.heap.size + 1, 3, none⟩ = some (.int .i64 (z)) := HB.out.cell 3
   exact bodyPost_ret (v := .agg #[.int .i64 (v), .int .i64 b, .int .i64 (1 + y), .int .i64 (z)]) (by simp [results, Tryz.results16, go_sem, t0, t1, t2, t3]) rfl HF.out
  have qu2 : (u == 2) = false := by simpa using hu2
  clear hu2
  go_upto_region 17 with (fail)
  have c0 := HU.out.bx.cell 0
  have c1 := HU.out.bx.cell 1
  have c2 := HU.out.bx.cell 2
  have c3 := HU.out.bx.cell 3
  have d0 := HU.out.b1.cell 0
  have d1 := HU.out.b1.cell 1
  have d2 := HU.out.b1.cell 2
  have d3 := HU.out.b1.cell 3
  have y0 := HU.out.b1.frozen 0
  have y1 := HU.out.b1.frozen 1
  have y2 := HU.out.b1.frozen 2
  have y3 := HU.out.b1.frozen 3
  have HF := Lib.hid (HU.out.fin hgl (a) b (1 + y) (z) (by omega) (.int .i64 (a)) (.int .i64 b) (.int .i64 (1 + y)) (.int .i64 (z)))
  have HB := Lib.hid ((((HU.out.b1.set 0 (.int .i64 (a))).set 1 (.int .i64 b)).set 2 (.int .i64 (1 + y))).set 3 (.int .i64 (z)))
  go_wp2_with fail
  clear c0 c1 c2 c3 d0 d1 d2 d3 y0 y1 y2 y3
  generalize World.setCell (World.setCell (World.setCell (World.setCell _ _ _) _ _) _ _) _ _ = wz at *
  have t0 : wz.cell? ⟨w.heap.size + 1, 0, none⟩ = some (.int .i64 (a)) := HB.out.cell 0
  have t1 : wz.cell? ⟨w.heap.size + 1, 1, none⟩ = some (.int .i64 (b)) := HB.out.cell 1
  have t2 : wz.cell? ⟨w.heap.size + 1, 2, none⟩ = some (.int .i64 (1 + y)) := HB.out.cell 2
  have t3 : wz.cell? ⟨w.heap.size + 1, 3, none⟩ = some (.int .i64 (z)) := HB.out.cell 3
  exact bodyPost_ret (v := .agg #[.int .i64 (a), .int .i64 b, .int .i64 (1 + y), .int .i64 (z)]) (by simp [results, Tryz.results16, go_sem, t0, t1, t2, t3]) rfl HF.out
 have qa6 : (a == 6) = false := by simpa using h6
 clear h6
 by_cases h7 : a = 7
 ·have qa7 : (a == 7) = true := by simpa using h7
  clear h7
  go_wp2_with fail
  refine (next_any g 6 w2 HX.out.dk (by decide)).mono ?_
  rintro e wx ⟨z, rfl, r0, r1, r2, hd6, hg6, hs6⟩
  have r3 : z < 6 := r2.out (by decide)
  have HZ := Lib.hid (HX.out.next hgl hd6.out hg6.out)
  clear hd6 hg6 hs6 r1 r2 HX
  have c3 := HZ.out.bx.cell 3
  have y3 := HZ.out.bx.frozen 3
  have H3 := Lib.hid (HZ.out.fld hgl 3 (.int .i64 (z)))
  have hzq : z < 801 := by omega
  go_upto_region 10 with (fail)
  clear c3 y3 HZ r0 r3
  generalize World.setCell wx _ _ = w3 at *
  go_wp2_with fail
  refine (next_any g 20 w3 H3.out.dk (by decide)).mono ?_
  rintro e wu ⟨u, rfl, r0, r1, r2, hd6, hg6, hs6⟩
  have r3 : u < 20 := r2.out (by decide)
  have HU := Lib.hid (H3.out.next hgl hd6.out hg6.out)
  clear hd6 hg6 hs6 r1 r2 H3
  by_cases hu0 : u = 0
  ·have qu0 : (u == 0) = true := by simpa using hu0
   clear hu0
   go_wp2_with fail
   refine (next_any g 4 wu HU.out.dk (by decide)).mono ?_
   rintro e wv ⟨v, rfl, r0, r1, r2, hd6, hg6, hs6⟩
   have r3 : v < 4 := r2.out (by decide)
   have HV := Lib.hid (HU.out.next hgl hd6.out hg6.out)
   clear hd6 hg6 hs6 r1 r2 HU
   have c2 := HV.out.bx.cell 2
   have y2 := HV.out.bx.frozen 2
   have HW := Lib.hid (HV.out.fld hgl 2 (.int .i64 (v)))
   go_upto_region 17 with (fail)
   clear c2 y2 HV
   generalize World.setCell wv _ _ = ww at *
   have c0 := HW.out.bx.cell 0
   have c1 := HW.out.bx.cell 1
   have c2 := HW.out.bx.cell 2
   have c3 := HW.out.bx.cell 3
   have d0 := HW.out.b1.cell 0
   have d1 := HW.out.b1.cell 1
   have d2 := HW.out.b1.cell 2
   have d3 := HW.out.b1.cell 3
   have y0 := HW.out.b1.frozen 0
   have y1 := HW.out.b1.frozen 1
   have y2 := HW.out.b1.frozen 2
   have y3 := HW.out.b1.frozen 3
   have HF := Lib.hid (HW.out.fin hgl (a) b (v) (z) (by omega) (.int .i64 (a)) (.int .i64 b) (.int .i64 (v)) (.int .i64 (z)))
   have HB := Lib.hid ((((HW.out.b1.set 0 (.int .i64 (a))).set 1 (.int .i64 b)).set 2 (.int .i64 (v))).set 3 (.int .i64 (z)))
   go_wp2_with fail
   clear c0 c1 c2 c3 d0 d1 d2 d3 y0 y1 y2 y3
   generalize World.setCell (World.setCell (World.setCell (World.setCell _ _ _) _ _) _ _) _ _ = wz at *
   have t0 : wz.cell? ⟨w.heap.size + 1, 0, none⟩ = some (.int .i64 (a)) := HB.out.cell 0
   have t1 : wz.cell? ⟨w.heap.size + 1, 1, none⟩ = some (.int .i64 (b)) := HB.out.cell 1
   have t2 : wz.cell? ⟨w.heap.size + 1, 2, none⟩ = some (.int .i64 (v)) := HB.out.cell 2
   have t3 : wz.cell? ⟨w.heap.size + 1, 3, none⟩ = some (.int .i64 (z)) := HB.out.cell 3
   exact bodyPost_ret (v := .agg #[.int .i64 (a), .int .i64 b, .int .i64 (v), .int .i64 (z)]) (by simp [results, Tryz.results16, go_sem, t0, t1, t2, t3]) rfl HF.out
  have qu0 : (u == 0) = false := by simpa using hu0
  clear hu0
  by_cases hu1 : u = 1
  ·have qu1 : (u == 1) = true := by simpa using hu1
   clear hu1
   go_wp2_with fail
   refine (next_any g 3 wu HU.out.dk (by decide)).mono ?_
   rintro e wv ⟨v, rfl, r0, r1, r2, hd6, hg6, hs6⟩
   have r3 : v < 3 := r2.out (by decide)
   have HV := Lib.hid (HU.out.next hgl hd6.out hg6.out)
   clear hd6 hg6 hs6 r1 r2 HU
   have c3 := HV.out.bx.cell 3
   have y3 := HV.out.bx.frozen 3
   have HW := Lib.hid (HV.out.fld hgl 3 (.int .i64 (v)))
   go_upto_region 17 with (fail)
   clear c3 y3 HV
   generalize World.setCell wv _ _ = ww at *
   have c0 := HW.out.bx.cell 0
   have c1 := HW.out.bx.cell 1
   have c2 := HW.out.bx.cell 2
   have c3 := HW.out.bx.cell 3
   have d0 := HW.out.b1.cell 0
   have d1 := HW.out.b1.cell 1
   have d2 := HW.out.b1.cell 2
   have d3 := HW.out.b1.cell 3
   have y0 := HW.out.b1.frozen 0
   have y1 := HW.out.b1.frozen 1
   have y2 := HW.out.b1.frozen 2
   have y3 := HW.out.b1.frozen 3
   have HF := Lib.hid (HW.out.fin hgl (a) b (0) (v) (by omega) (.int .i64 (a)) (.int .i64 b) (.int .i64 (0)) (.int .i64 (v)))
   have HB := Lib.hid ((((HW.out.b1.set 0 (.int .i64 (a))).set 1 (.int .i64 b)).set 2 (.int .i64 (0))).set 3 (.int .i64 (v)))
   go_wp2_with fail
   clear c0 c1 c2 c3 d0 d1 d2 d3 y0 y1 y2 y3
   generalize World.setCell (World.setCell (World.setCell (World.setCell _ _ _) _ _) _ _) _ _ = wz at *
   have t0 : wz.cell? ⟨w.heap.size + 1, 0, none⟩ = some (.int .i64 (a)) := HB.out.cell 0
   have t1 : wz.cell? ⟨w.heap.size + 1, 1, none⟩ = some (.int .i64 (b)) := HB.out.cell 1
   have t2 : wz.cell? ⟨w.heap.size + 1, 2, none⟩ = some (.int .i64 (0)) := HB.out.cell 2
   have t3 : wz.cell? ⟨w.heap.size + 1, 3, none⟩ = some (.int .i64 (v)) := HB.out.cell 3
   exact bodyPost_ret (v := .agg #[.int .i64 (a), .int .i64 b, .int .i64 (0), .int .i64 (v)]) (by simp [results, Tryz.results16, go_sem, t0, t1, t2, t3]) rfl HF.out
  have qu1 : (u == 1) = false := by simpa using hu1
  clear hu1
  by_cases hu2 : u = 2
  ·have qu2 : (u == 2) = true := by simpa using hu2
   clear hu2
   go_wp2_with fail
   refine (next_any g 10 wu HU.out.dk (by decide)).mono ?_
   rintro e wv ⟨v, rfl, r0, r1, r2, hd6, hg6, hs6⟩
   have r3 : v < 10 := r2.out (by decide)
   have HV := Lib.hid (HU.out.next hgl hd6.out hg6.out)
   clear hd6 hg6 hs6 r1 r2 HU
   have c0 := HV.out.bx.cell 0
   have y0 := HV.out.bx.frozen 0
   have HW := Lib.hid (HV.out.fld hgl 0 (.int .i64 (v)))
   go_upto_region 17 with (fail)
   clear c0 y0 HV
   generalize World.setCell wv _ _ = ww at *
   have c0 := HW.out.bx.cell 0
   have c1 := HW.out.bx.cell 1
   have c2 := HW.out.bx.cell 2
   have c3 := HW.out.bx.cell 3
   have d0 := HW.out.b1.cell 0
   have d1 := HW.out.b1.cell 1
   have d2 := HW.out.b1.cell 2
   have d3 := HW.out.b1.cell 3
   have y0 := HW.out.b1.frozen 0
   have y1 := HW.out.b1.frozen 1
   have y2 := HW.out.b1.frozen 2
   have y3 := HW.out.b1.frozen 3
   have HF := Lib.hid (HW.out.fin hgl (v) b (0) (z) (by omega) (.int .i64 (v)) (.int .i64 b) (.int .i64 (0)) (.int .i64 (z)))
   have HB := Lib.hid ((((HW.out.b1.set 0 (.int .i64 (v))).set 1 (.int .i64 b)).set 2 (.int .i64 (0))).set 3 (.int .i64 (z)))
   go_wp2_with fail
   clear c0 c1 c2 c3 d0 d1 d2 d3 y0 y1 y2 y3
   generalize World.setCell (World.setCell (World.setCell (World.setCell _ _ _) _ _) _ _) _ _ = wz at *
   have t0 : wz.cell? ⟨w.heap.size + 1, 0, none⟩ = some (.int .i64 (v)) := HB.out.cell 0
   have t1 : wz.cell? ⟨w.heap.size + 1, 1, none⟩ = some (.int .i64 (b)) := HB.out.cell 1
   have t2 : wz.cell? ⟨w.heap.size + 1, 2, none⟩ = some (.int .i64 (0)) := HB.out.cell 2
   have t3 : wz.cell? ⟨w.heap.size + 1, 3, none⟩ = some (.int .i64 (z)) := HB.out.cell 3
   exact bodyPost_ret (v := .agg #[.int .i64 (v), .int .i64 b, .int .i64 (0), .int .i64 (z)]) (by simp [results, Tryz.results16, go_sem, t0, t1, t2, t3]) rfl HF.out
  have qu2 : (u == 2) = false := by simpa using hu2
  clear hu2
  go_upto_region 17 with (fail)
  have c0 := HU.out.bx.cell 0
  have c1 := HU.out.bx.cell 1
  have c2 := HU.out.bx.cell 2
  have c3 := HU.out.bx.cell 3
  have d0 := HU.out.b1.cell 0
  have d1 := HU.out.b1.cell 1
  have d2 := HU.out.b1.cell 2
  have d3 := HU.out.b1.cell 3
  have y0 := HU.out.b1.frozen 0
  have y1 := HU.out.b1.frozen 1
  have y2 := HU.out.b1.frozen 2
  have y3 := HU.out.b1.frozen 3
  have HF := Lib.hid (HU.out.fin hgl (a) b (0) (z) (by omega) (.int .i64 (a)) (.int .i64 b) (.int .i64 (0)) (.int .i64 (z)))
  have HB := Lib.hid ((((HU.out.b1.set 0 (.int .i64 (a))).set 1 (.int .i64 b)).set 2 (.int .i64 (0))).set 3 (.int .i64 (z)))
  go_wp2_with fail
  clear c0 c1 c2 c3 d0 d1 d2 d3 y0 y1 y2 y3
  generalize World.setCell (World.setCell (World.setCell (World.setCell _ _ _) _ _) _ _) _ _ = wz at *
  have t0 : wz.cell? ⟨w.heap.size + 1, 0, none⟩ = some (.int .i64 (a)) := HB.out.cell 0
  have t1 : wz.cell? ⟨w.heap.size + 1, 1, none⟩ = some (.int .i64 (b)) := HB.out.cell 1
  have t2 : wz.cell? ⟨w.heap.size + 1, 2, none⟩ = some (.int .i64 (0)) := HB.out.cell 2
  have t3 : wz.cell? ⟨w.heap.size + 1, 3, none⟩ = some (.int .i64 (z)) := HB.out.cell 3
  exact bodyPost_ret (v := .agg #[.int .i64 (a), .int .i64 b, .int .i64 (0), .int .i64 (z)]) (by simp [results, Tryz.results16, go_sem, t0, t1, t2, t3]) rfl HF.out
 have qa7 : (a == 7) = false := by simpa using h7
 clear h7
 go_wp2_with fail
 refine (next_any g 20 w2 HX.out.dk (by decide)).mono ?_
 rintro e wu ⟨u, rfl, r0, r1, r2, hd6, hg6, hs6⟩
 have r3 : u < 20 := r2.out (by decide)
 have HU := Lib.hid (HX.out.next hgl hd6.out hg6.out)
 clear hd6 hg6 hs6 r1 r2 HX
 by_cases hu0 : u = 0
 ·have qu0 : (u == 0) = true := by simpa using hu0
  clear hu0
  go_wp2_with fail
  refine (next_any g 4 wu HU.out.dk (by decide)).mono ?_
  rintro e wv ⟨v, rfl, r0, r1, r2, hd6, hg6, hs6⟩
  have r3 : v < 4 := r2.out (by decide)
  have HV := Lib.hid (HU.out.next hgl hd6.out hg6.out)
  clear hd6 hg6 hs6 r1 r2 HU
  have c2 := HV.out.bx.cell 2
  have y2 := HV.out.bx.frozen 2
  have HW := Lib.hid (HV.out.fld hgl 2 (.int .i64 (v)))
  go_upto_region 17 with (fail)
  clear c2 y2 HV
  generalize World.setCell wv _ _ = ww at *
  have c0 := HW.out.bx.cell 0
  have c1 := HW.out.bx.cell 1
  have c2 := HW.out.bx.cell 2
  have c3 := HW.out.bx.cell 3
  have d0 := HW.out.b1.cell 0
  have d1 := HW.out.b1.cell 1
  have d2 := HW.out.b1.cell 2
  have d3 := HW.out.b1.cell 3
  have y0 := HW.out.b1.frozen 0
  have y1 := HW.out.b1.frozen 1
  have y2 := HW.out.b1.frozen 2
  have y3 := HW.out.b1.frozen 3
  have HF := Lib.hid (HW.out.fin hgl (a) b (v) (0) (by omega) (.int .i64 (a)) (.int .i64 b) (.int .i64 (v)) (.int .i64 (0)))
  have HB := Lib.hid ((((HW.out.b1.set 0 (.int .i64 (a))).set 1 (.int .i64 b)).set 2 (.int .i64 (v))).set 3 (.int .i64 (0)))
  go_wp2_with fail
  clear c0 c1 c2 c3 d0 d1 d2 d3 y0 y1 y2 y3
  generalize World.setCell (World.setCell (World.setCell (World.setCell _ _ _) _ _) _ _) _ _ = wz at *
  have t0 : wz.cell? ⟨w.heap.size + 1, 0, none⟩ = some (.int .i64 (a)) := HB.out.cell 0
  have t1 : wz.cell? ⟨w.heap.size + 1, 1, none⟩ = some (.int .i64 (b)) := HB.out.cell 1
  have t2 : wz.cell? ⟨w.heap.size + 1, 2, none⟩ = some (.int .i64 (v)) := HB.out.cell 2
  have t3 : wz.cell? ⟨w.heap.size + 1, 3, none⟩ = some (.int .i64 (0)) := HB.out.cell 3
  exact bodyPost_ret (v := .agg #[.int .i64 (a), .int .i64 b, .int .i64 (v), .int .i64 (0)]) (by simp [results, Tryz.results16, go_sem, t0, t1, t2, t3]) rfl HF.out
 have qu0 : (u == 0) = false := by simpa using hu0
 clear hu0
 by_cases hu1 : u = 1
 ·have qu1 : (u == 1) = true := by simpa using hu1
  clear hu1
  go_wp2_with fail
  refine (next_any g 3 wu HU.out.dk (by decide)).mono ?_
  rintro e wv ⟨v, rfl, r0, r1, r2, hd6, hg6, hs6⟩
  have r3 : v < 3 := r2.out (by decide)
  have HV := Lib.hid (HU.out.next hgl hd6.out hg6.out)
  clear hd6 hg6 hs6 r1 r2 HU
  have c3 := HV.out.bx.cell 3
  have y3 := HV.out.bx.frozen 3
  have HW := Lib.hid (HV.out.fld hgl 3 (.int .i64 (v)))
  go_upto_region 17 with (fail)
  clear c3 y3 HV
  generalize World.setCell wv _ _ = ww at *
  have c0 := HW.out.bx.cell 0
  have c1 := HW.out.bx.cell 1
  have c2 := HW.out.bx.cell 2
  have c3 := HW.out.bx.cell 3
  have d0 := HW.out.b1.cell 0
  have d1 := HW.out.b1.cell 1
  have d2 := HW.out.b1.cell 2
  have d3 := HW.out.b1.cell 3
  have y0 := HW.out.b1.frozen 0
  have y1 := HW.out.b1.frozen 1
  have y2 := HW.out.b1.frozen 2
  have y3 := HW.out.b1.frozen 3
  have HF := Lib.hid (HW.out.fin hgl (a) b (0) (v) (by omega) (.int .i64 (a)) (.int .i64 b) (.int .i64 (0)) (.int .i64 (v)))
  have HB := Lib.hid ((((HW.out.b1.set 0 (.int .i64 (a))).set 1 (.int .i64 b)).set 2 (.int .i64 (0))).set 3 (.int .i64 (v)))
  go_wp2_with fail
  clear c0 c1 c2 c3 d0 d1 d2 d3 y0 y1 y2 y3
  generalize World.setCell (World.setCell (World.setCell (World.setCell _ _ _) _ _) _ _) _ _ = wz at *
  have t0 : wz.cell? ⟨w.heap.size + 1, 0, none⟩ = some (.int .i64 (a)) := HB.out.cell 0
  have t1 : wz.cell? ⟨w.heap.size + 1, 1, none⟩ = some (.int .i64 (b)) := HB.out.cell 1
  have t2 : wz.cell? ⟨w.heap.size + 1, 2, none⟩ = some (.int .i64 (0)) := HB.out.cell 2
  have t3 : wz.cell? ⟨w.heap.size + 1, 3, none⟩ = some (.int .i64 (v)) := HB.out.cell 3
  exact bodyPost_ret (v := .agg #[.int .i64 (a), .int .i64 b, .int .i64 (0), .int .i64 (v)]) (by simp [results, Tryz.results16, go_sem, t0, t1, t2, t3]) rfl HF.out
 have qu1 : (u == 1) = false := by simpa using hu1
 clear hu1
 by_cases hu2 : u = 2
 ·have qu2 : (u == 2) = true := by simpa using hu2
  clear hu2
  go_wp2_with fail
  refine (next_any g 10 wu HU.out.dk (by decide)).mono ?_
  rintro e wv ⟨v, rfl, r0, r1, r2, hd6, hg6, hs6⟩
  have r3 : v < 10 := r2.out (by decide)
  have HV := Lib.hid (HU.out.next hgl hd6.out hg6.out)
  clear hd6 hg6 hs6 r1 r2 HU
  have c0 := HV.out.bx.cell 0
  have y0 := HV.out.bx.frozen 0
  have HW := Lib.hid (HV.out.fld hgl 0 (.int .i64 (v)))
  go_upto_region 17 with (fail)
  clear c0 y0 HV
  generalize World.setCell wv _ _ = ww at *
  have c0 := HW.out.bx.cell 0
  have c1 := HW.out.bx.cell 1
  have c2 := HW.out.bx.cell 2
  have c3 := HW.out.bx.cell 3
  have d0 := HW.out.b1.cell 0
  have d1 := HW.out.b1.cell 1
  have d2 := HW.out.b1.cell 2
  have d3 := HW.out.b1.cell 3
  have y0 := HW.out.b1.frozen 0
  have y1 := HW.out.b1.frozen 1
  have y2 := HW.out.b1.frozen 2
  have y3 := HW.out.b1.frozen 3
  have HF := Lib.hid (HW.out.fin hgl (v) b (0) (0) (by omega) (.int .i64 (v)) (.int .i64 b) (.int .i64 (0)) (.int .i64 (0)))
  have HB := Lib.hid ((((HW.out.b1.set 0 (.int .i64 (v))).set 1 (.int .i64 b)).set 2 (.int .i64 (0))).set 3 (.int .i64 (0)))
  go_wp2_with fail
  clear c0 c1 c2 c3 d0 d1 d2 d3 y0 y1 y2 y3
  generalize World.setCell (World.setCell (World.setCell (World.setCell _ _ _) _ _) _ _) _ _ = wz at *
  have t0 : wz.cell? ⟨w.heap.size + 1, 0, none⟩ = some (.int .i64 (v)) := HB.out.cell 0
  have t1 : wz.cell? ⟨w.heap.size + 1, 1, none⟩ = some (.int .i64 (b)) := HB.out.cell 1
  have t2 : wz.cell? ⟨w.heap.size + 1, 2, none⟩ = some (.int .i64 (0)) := HB.out.cell 2
  have t3 : wz.cell? ⟨w.heap.size + 1, 3, none⟩ = some (.int .i64 (0)) := HB.out.cell 3
  exact bodyPost_ret (v := .agg #[.int .i64 (v), .int .i64 b, .int .i64 (0), .int .i64 (0)]) (by simp [results, Tryz.results16, go_sem, t0, t1, t2, t3]) rfl HF.out
 have qu2 : (u == 2) = false := by simpa using hu2
 clear hu2
 go_upto_region 17 with (fail)
 have c0 := HU.out.bx.cell 0
 have c1 := HU.out.bx.cell 1
 have c2 := HU.out.bx.cell 2
 have c3 := HU.out.bx.cell 3
 have d0 := HU.out.b1.cell 0
 have d1 := HU.out.b1.cell 1
 have d2 := HU.out.b1.cell 2
 have d3 := HU.out.b1.cell 3
 have y0 := HU.out.b1.frozen 0
 have y1 := HU.out.b1.frozen 1
 have y2 := HU.out.b1.frozen 2
 have y3 := HU.out.b1.frozen 3
 have HF := Lib.hid (HU.out.fin hgl (a) b (0) (0) (by omega) (.int .i64 (a)) (.int .i64 b) (.int .i64 (0)) (.int .i64 (0)))
 have HB := Lib.hid ((((HU.out.b1.set 0 (.int .i64 (a))).set 1 (.int .i64 b)).set 2 (.int .i64 (0))).set 3 (.int .i64 (0)))
 go_wp2_with fail
 clear c0 c1 c2 c3 d0 d1 d2 d3 y0 y1 y2 y3
 generalize World.setCell (World.setCell (World.setCell (World.setCell _ _ _) _ _) _ _) _ _ = wz at *
 have t0 : wz.cell? ⟨w.heap.size + 1, 0, none⟩ = some (.int .i64 (a)) := HB.out.cell 0
 have t1 : wz.cell? ⟨w.heap.size + 1, 1, none⟩ = some (.int .i64 (b)) := HB.out.cell 1
 have t2 : wz.cell? ⟨w.heap.size + 1, 2, none⟩ = some (.int .i64 (0)) := HB.out.cell 2
 have t3 : wz.cell? ⟨w.heap.size + 1, 3, none⟩ = some (.int .i64 (0)) := HB.out.cell 3
 exact bodyPost_ret (v := .agg #[.int .i64 (a), .int .i64 b, .int .i64 (0), .int .i64 (0)]) (by simp [results, Tryz.results16, go_sem, t0, t1, t2, t3]) rfl HF.out
end Go.Proofs.YtepicjpdhpojnaaGreatDoor
namespace Go.Proofs.YtepicjpdhpojnaaGreatDoor
open Go.RowKit
def TieR (w : World) (g : Nat) (gk : Nat) (iv : Value) (wr : World) : Prop := ∃ (i : Nat) (An : Option Addr) (cn : Nat) (ns : List Nd), iv = .int .i64 i ∧ i ≤ 6 ∧ gk = 6 - i ∧ Hid (TieSt w g An i cn ns none 0 0 [] wr) ∧ Hid (ns.length = i) ∧ Hid (TieNs ns)
theorem TieSt.nb_rown {w0 W W' : World} {g : Nat} {An Ad : Option Addr} {nn cn nd cd : Nat} {ns : List Nd} {ds : List Dv} (h : TieSt w0 g An nn cn ns Ad nd cd ds W) (hg : W.grownBy W' (Value.slice An nn cn).ownBlock) : Blk W' (w0.heap.size + 1) 30 #[.slice An nn cn, .slice Ad nd cd] := h.nb.grown hg (fun e => by have := (h.rn.lt _ e.symm).1; omega)
theorem TieSt.nb_row {w0 W W' : World} {g : Nat} {An Ad : Option Addr} {nn cn nd cd : Nat} {ns : List Nd} {ds : List Dv} (h : TieSt w0 g An nn cn ns Ad nd cd ds W) (hg : W.grownBy W' (Value.slice Ad nd cd).ownBlock) : Blk W' (w0.heap.size + 1) 30 #[.slice An nn cn, .slice Ad nd cd] := h.nb.grown hg (fun e => by have := (h.rd.lt _ e.symm).1; omega)
def TieG (H : Nat) (j : Nat) (_ : Unit) (v : Value) (w : World) : Prop := match j with
 | 4 => ∃ x, v = .slice (some ⟨x, 0, none⟩) 2 2 ∧ Blk w x 3 #[.int .i64 1, .int .i64 3] ∧ H ≤ x
 | 6 => ∃ r : Nat, v = .int .i64 r ∧ r < 2
 | 7 => ∃ x r : Nat, v = .pointer (some ⟨x, r, none⟩) ∧ Blk w x 3 #[.int .i64 1, .int .i64 3] ∧ H ≤ x ∧ r < 2
 | 8 => ∃ k : Int, v = .int .i64 k ∧ (k = 1 ∨ k = 3)
 | 10 => ∃ r : Int, v = .int .i64 r ∧ 0 ≤ r ∧ r < 2
 | 11 => ∃ c : Int, v = .int .i64 c ∧ (c = 1 ∨ c = 2)
 | 12 => ∃ k c : Int, v = .agg #[.string ⟨#[88, 50]⟩, .int .i64 k, .int .i64 2, .int .i64 3, .int .i64 c] ∧ (k = 1 ∨ k = 3) ∧ (c = 1 ∨ c = 2)
 | _ => True
theorem TieG.later {H j : Nat} {u : Unit} {v : Value} {w w' : World} (h : TieG H j u v w) (hb : Below w.heap.size w w') : TieG H j u v w' := by
 unfold TieG at h ⊢
 split at h
 ·obtain ⟨x, h1, h2, h3⟩ := h; exact ⟨x, h1, h2.below hb h2.lt, h3⟩
 ·exact h
 ·obtain ⟨x, r, h1, h2, h3⟩ := h; exact ⟨x, r, h1, h2.below hb h2.lt, h3⟩
 all_goals exact h
theorem TieG.grown {g H j : Nat} {u : Unit} {v : Value} {w w' : World} (h : TieG H j u v w) (hg : w.grownBy w' (some g)) (hl : g < H) : TieG H j u v w' := by
 unfold TieG at h ⊢
 split at h
 ·obtain ⟨x, h1, h2, h3⟩ := h; exact ⟨x, h1, h2.grown hg (fun e => by injection e; omega), h3⟩
 ·exact h
 ·obtain ⟨x, r, h1, h2, h3, h4⟩ := h; exact ⟨x, r, h1, h2.grown hg (fun e => by injection e; omega), h3, h4⟩
 all_goals exact h
theorem tie_any (g : Nat) (w : World) (hd : DeckAt w g) : Calls Tryz.prog 10 #[.pointer (some ⟨g, 0, none⟩)] w (TiePost w g) := by
 have hlt := hd.lt
 have HD := Lib.hid hd; clear hd
 go_enter Tryz.func10, Tryz.ntmps10
 go_wp2_with fail
 have HS0 : Hid (TieSt w g none 0 0 [] none 0 0 [] ((w.alloc (.cells #[.slice none 0 0, .slice none 0 0] 30)).alloc (.cells #[.slice none 0 0, .slice none 0 0] 30))) := by
  refine ⟨hlt, (HD.out.alloc _).alloc _, ?_, (Blk.new w _ _).alloc _, ?_, World.ownsRow_nil _ _ _ _, World.ownsRow_nil _ _ _ _, .inl rfl⟩
  ·exact grown_of_below (((Below.refl _ _).alloc (Nat.le_refl _) _).alloc (by simp) _) _
  ·have := Blk.new (w.alloc (.cells #[.slice none 0 0, .slice none 0 0] 30)) 30 #[.slice none 0 0, .slice none 0 0]
   rw [World.size_alloc] at this
   exact this
 generalize World.alloc (World.alloc _ _) _ = wa at *
 refine wp_loop_u1 [(4, 0), (0, 2), (0, 1), (0, 0), (25, 1), (58, 0)] 5 (6) (TieR w g) (by (try dsimp only [gt]); exact ⟨0, none, 0, [], rfl, Nat.zero_le _, rfl, HS0, rfl, fun i x h => by simp at h⟩) (by kernel_rfl) ?_
 intro u1 p5 gk wr a hrel ha J1 K1 hJ1 hK1
 dsimp only [relaxR, v1, Nat.reduceAdd] at ha
 subst ha
 clear HS0 wa
 obtain ⟨i, An, cn, ns, rfl, hi, rfl, HST, HLN, HTN⟩ := hrel
 have hsz := HST.out.size
 by_cases hlk : i < 6
 ·have e3 : (i : Int) / 3 = ((i / 3 : Nat) : Int) := by omega
  have hq3 : i / 3 < 2 := by omega
  have HQ : Hid (i / 3 = ns.length / 3) := by unfold Hid; rw [HLN.out]
  have HS : Hid ((⟨#[78]⟩ : ByteArray) ++ mkS [UInt8.ofNat (48 + i)] = nm1 i) := by
   unfold Hid
   apply toL_inj
   rw [toL_append, nm1, toL_mk, toL_mk]
   rfl
  have HU : Hid ((48 : Int) + (i : Int) = ((UInt8.ofNat (48 + i)).toNat : Int)) := by unfold Hid; rw [UInt8.toNat_ofNat']; omega
  have hcv : (convert 78 9 (.slice (some ⟨wr.heap.size, 0, none⟩) 1 1)).run Tryz.prog (wr.alloc (.cells #[.int .u8 (48 + (i : Int))] 5)) = .ok (.string (mkS [UInt8.ofNat (48 + i)])) (wr.alloc (.cells #[.int .u8 (48 + (i : Int))] 5)) := by
   refine run_string_of (B := wr.heap.size + 1) Tryz.underlying78 Tryz.underlying5 Tryz.underlying9 ?_
   have := Sl.newest (w := wr) (cs := #[.int .u8 (48 + (i : Int))]) (T := 5) (fr := (0, 0)) (n := 1) (size := 1) rfl rfl (by decide)
   simp only [bytesV, List.flatMap_cons, List.flatMap_nil, List.append_nil, ← HU.out]
   exact this
  have hz : (mkS [UInt8.ofNat (48 + i)]).size = 1 := by rw [size_mk]; rfl
  generalize i / 3 = q3 at *
  generalize mkS [UInt8.ofNat (48 + i)] = S2 at *
  have hcat : ¬ (9223372036854775807 < (⟨#[78]⟩ : ByteArray).size + S2.size) := by rw [hz]; decide
  clear hz
  have HST0 := Lib.hid (HST.out.alloc (.cells #[.int .u8 (48 + (i : Int))] 5))
  go_upto_region 6 with (fail)
  obtain ⟨nm, hnm⟩ : ∃ nm, nm = (⟨#[78]⟩ : ByteArray) ++ S2 := ⟨_, rfl⟩
  rw [← hnm]
  have HNM : Hid (nm = nm1 ns.length) := by unfold Hid; rw [HLN.out, ← HS.out, hnm]
  have HB1 : Hid (Blk ((wr.alloc (.cells #[.int .u8 (48 + (i : Int))] 5)).alloc (.cells #[.string nm, .int .i64 0, .int .i64 (1 + (q3 : Int))] 74)) (wr.heap.size + 1) 74 #[.string nm, .int .i64 0, .int .i64 (1 + (q3 : Int))]) := by
   have := Blk.new (wr.alloc (.cells #[.int .u8 (48 + (i : Int))] 5)) 74 #[.string nm, .int .i64 0, .int .i64 (1 + (q3 : Int))]
   rw [World.size_alloc] at this
   exact this
  have HST1 := Lib.hid (HST0.out.alloc (.cells #[.string nm, .int .i64 0, .int .i64 (1 + (q3 : Int))] 74))
  have HN9 : Hid (∀ q, (Value.slice An i cn).ownBlock = some q → q ≠ wr.heap.size + 1) := fun q e => by have := (HST.out.rn.lt q e).2; omega
  have HD9 : Hid (∀ q, (Value.slice none 0 0).ownBlock = some q → q ≠ wr.heap.size + 1) := fun q e => by cases e
  have hb4 : w.heap.size + 2 ≤ wr.heap.size + 1 := by omega
  have hbg : g < wr.heap.size + 1 := by omega
  clear hcv hcat e3 HST0 HS HU hnm
  generalize World.alloc (World.alloc _ _) _ = w1 at *
  generalize wr.heap.size + 1 = b9 at *
  clear HST
  go_wp2_with fail
  refine (one_any g 2 w1 HST1.out.deck (by decide)).mono ?_
  rintro e w2 ⟨r, rfl, hd1, hg1, hs1⟩
  have HST2 := Lib.hid (HST1.out.next hd1.out hg1.out)
  have HB2 := Lib.hid (HB1.out.grown hg1.out (fun e => by injection e with e; omega))
  clear hd1 hg1 hs1 HST1 HB1
  rcases r with _ | _
  ·skip
   have kd : w2.cell? ⟨w.heap.size + 1, 0, none⟩ = some (.slice An i cn) := HST2.out.nb.cell 0
   have e0 : w2.cell? ⟨b9, 0, none⟩ = some (.string nm) := HB2.out.cell 0
   have e1 : w2.cell? ⟨b9, 1, none⟩ = some (.int .i64 0) := HB2.out.cell 1
   have e2 : w2.cell? ⟨b9, 2, none⟩ = some (.int .i64 (1 + (q3 : Int))) := HB2.out.cell 2
   have hz4 := HST2.out.size
   go_wp2_with (at_builtin; go_must (refine wpList_app rfl (.tmp 29) (.tmp 31) rfl el_node (by rfl) (HST2.out.rn.alloc _) (by rfl) (Sl.newest (n := 1) (by rfl) (by rfl) (by decide)) (by simp [Value.oneCell']) (by omega) (by omega) (by simp; omega) ?_; intro A' cap' w8 hown8 hgr8 hat8; have hnb := (HST2.out.alloc _).nb_rown hgr8; have HN8 := Lib.hid ((HST2.out.alloc _).node (x := ⟨nm, 0, 1 + (q3 : Int)⟩) hown8 hgr8 hat8); have kn : w8.cell? ⟨w.heap.size + 1, 0, none⟩ = some (.slice An i cn) := hnb.cell 0; have fn := hnb.frozen 0; clear hown8 hgr8 hat8 hnb))
   refine Handed.intro (6 - (i + 1)) (by omega) (hJ1 _ _ _ (LpI1.back 5 ?_ (by kernel_rfl)))
   dsimp only [gt]
   exact ⟨i + 1, A', cap', _, by go_num, by omega, rfl, HN8, by unfold Hid; rw [List.length_append, HLN.out]; rfl, HTN.out.snoc ⟨HNM.out, by simp only; omega, by simp only; omega, by simp only; rw [HQ.out]⟩⟩
  ·go_wp2_with fail
   refine (next_any g 30 w2 HST2.out.deck (by decide)).mono ?_
   rintro e w3 ⟨y, rfl, hy0, hy1, hy2, hd1, hg1, hs1⟩
   have hy3 : y < 30 := hy2.out (by decide)
   have HST3 := Lib.hid (HST2.out.next hd1.out hg1.out)
   have HB3 := Lib.hid (HB2.out.grown hg1.out (fun e => by injection e with e; omega))
   clear hy1 hy2 hd1 hg1 hs1
   have c4 : w3.cell? ⟨b9, 1, none⟩ = some (.int .i64 0) := HB3.out.cell 1
   have f4 := HB3.out.frozen 1
   have HST4 := Lib.hid (HST3.out.store (u := .int .i64 (1 + y)) (j := 1) hb4 HN9.out HD9.out)
   have HB4 := Lib.hid (HB3.out.set 1 (.int .i64 (1 + y)))
   go_upto_region 8 with (fail)
   clear c4 f4
   generalize World.setCell _ _ _ = w4 at *
   have kd : w4.cell? ⟨w.heap.size + 1, 0, none⟩ = some (.slice An i cn) := HST4.out.nb.cell 0
   have e0 : w4.cell? ⟨b9, 0, none⟩ = some (.string nm) := HB4.out.cell 0
   have e1 : w4.cell? ⟨b9, 1, none⟩ = some (.int .i64 (1 + y)) := HB4.out.cell 1
   have e2 : w4.cell? ⟨b9, 2, none⟩ = some (.int .i64 (1 + (q3 : Int))) := HB4.out.cell 2
   have hz4 := HST4.out.size
   go_wp2_with (at_builtin; go_must (refine wpList_app rfl (.tmp 29) (.tmp 31) rfl el_node (by rfl) (HST4.out.rn.alloc _) (by rfl) (Sl.newest (n := 1) (by rfl) (by rfl) (by decide)) (by simp [Value.oneCell']) (by omega) (by omega) (by simp; omega) ?_; intro A' cap' w8 hown8 hgr8 hat8; have hnb := (HST4.out.alloc _).nb_rown hgr8; have HN8 := Lib.hid ((HST4.out.alloc _).node (x := ⟨nm, (1 + y), 1 + (q3 : Int)⟩) hown8 hgr8 hat8); have kn : w8.cell? ⟨w.heap.size + 1, 0, none⟩ = some (.slice An i cn) := hnb.cell 0; have fn := hnb.frozen 0; clear hown8 hgr8 hat8 hnb))
   refine Handed.intro (6 - (i + 1)) (by omega) (hJ1 _ _ _ (LpI1.back 5 ?_ (by kernel_rfl)))
   dsimp only [gt]
   exact ⟨i + 1, A', cap', _, by go_num, by omega, rfl, HN8, by unfold Hid; rw [List.length_append, HLN.out]; rfl, HTN.out.snoc ⟨HNM.out, by simp only; omega, by simp only; omega, by simp only; rw [HQ.out]⟩⟩
 have h66 : i = 6 := by omega
 subst h66
 have hii : decide (((6 : Nat) : Int) < 6) = false := by decide
 go_upto_region 9 with (fail)
 clear hii hlk hi
 have hgH : g < w.heap.size + 2 := by omega
 refine wp_region_phi (S := fun _ => True) (J := []) (n := _) ((0, true) :: (1, true) :: (2, true) :: (3, true) :: (5, true) :: (9, true) :: (13, true) :: (14, true) :: (15, true) :: (16, true) :: []) ((17, false) :: (18, true) :: (19, false) :: []) (phiG [(4, []), (6, []), (7, [4, 6]), (8, [7]), (10, [6]), (11, [10]), (12, [8, 11])]) 7 #[true, true, true, true, false, true, false, false, false, true, false, false, false, true, true, true, true, false, false, false] #[true, true, true, true, true, true, true, true, true, true, true, true, true, true, true, true, true, false, false, false] (by as_aux_lemma => kernel_rfl) (by rfl) (base_cons (k := 0) (by go_simp; rfl) (base_cons (k := 4) (by go_simp; rfl) base_nil)) ?_ (fun _ _ _ _ _ h => h) (fun Q2 A hsz hbase hn2 hHeld => ?_)
 ·trivial
 try dsimp only at hHeld
 obtain ⟨b0, b4, -⟩ := hbase
 refine ⟨Phi A [(4, 38), (6, 40), (7, 41), (8, 42), (10, 44), (11, 45), (12, 46)] [(50, .agg #[.string ⟨#[83, 53]⟩, .int .i64 5, .int .i64 5, .int .i64 (-1), .int .i64 2]), (49, .agg #[.string ⟨#[88, 52]⟩, .int .i64 2, .int .i64 4, .int .i64 5, .int .i64 2]), (48, .agg #[.string ⟨#[88, 51]⟩, .int .i64 3, .int .i64 3, .int .i64 4, .int .i64 2]), (47, .agg #[.string ⟨#[69, 51]⟩, .int .i64 4, .int .i64 3, .int .i64 (-1), .int .i64 2]), (43, .pointer (some ⟨g, 0, none⟩)), (39, .pointer (some ⟨g, 0, none⟩)), (37, .agg #[.string ⟨#[69, 50]⟩, .int .i64 4, .int .i64 2, .int .i64 (-1), .int .i64 1]), (36, .agg #[.string ⟨#[88, 49]⟩, .int .i64 3, .int .i64 1, .int .i64 2, .int .i64 1]), (35, .agg #[.string ⟨#[88, 48]⟩, .int .i64 2, .int .i64 0, .int .i64 1, .int .i64 1]), (34, .agg #[.string ⟨#[83, 48]⟩, .int .i64 5, .int .i64 0, .int .i64 (-1), .int .i64 1])] 20 (TieSt w g An 6 cn ns none 0 0 []) (TieG (w.heap.size + 2)), ?_, ?_, ?_⟩
 ·refine ord_take (i := 0) (d := 34) (v := ?_) rfl rfl (wanted_none rfl) hHeld (fun ρ hρ w hSw => ?_) ?_
  rotate_left
  ·(have hc := hρ.const; clear hρ; (try dsimp only at hSw); go_simp; try with_reducible rfl)
  show wpOrd _ _ _ _ _ _ _ _
  refine ord_take (i := 1) (d := 35) (v := ?_) rfl rfl (wanted_none rfl) hHeld (fun ρ hρ w hSw => ?_) ?_
  rotate_left
  ·(have hc := hρ.const; clear hρ; (try dsimp only at hSw); go_simp; try with_reducible rfl)
  show wpOrd _ _ _ _ _ _ _ _
  refine ord_take (i := 2) (d := 36) (v := ?_) rfl rfl (wanted_none rfl) hHeld (fun ρ hρ w hSw => ?_) ?_
  rotate_left
  ·(have hc := hρ.const; clear hρ; (try dsimp only at hSw); go_simp; try with_reducible rfl)
  show wpOrd _ _ _ _ _ _ _ _
  refine ord_take (i := 3) (d := 37) (v := ?_) rfl rfl (wanted_none rfl) hHeld (fun ρ hρ w hSw => ?_) ?_
  rotate_left
  ·(have hc := hρ.const; clear hρ; (try dsimp only at hSw); go_simp; try with_reducible rfl)
  show wpOrd _ _ _ _ _ _ _ _
  refine ord_move (i := 5) (d := 39) (v := ?_) rfl rfl rfl (wanted_none rfl) hHeld (fun ρ hρ => ?_) ?_
  rotate_left
  ·(have e0 := Eq.trans (hρ.tmp hsz 0 rfl) (miss4 rfl rfl rfl rfl (lkp_base b0)); exact e0)
  show wpOrd _ _ _ _ _ _ _ _
  refine ord_move (i := 9) (d := 43) (v := ?_) rfl rfl rfl (wanted_none rfl) hHeld (fun ρ hρ => ?_) ?_
  rotate_left
  ·(have e0 := Eq.trans (hρ.tmp hsz 0 rfl) (miss4 rfl rfl rfl rfl (miss1 rfl (lkp_base b0))); exact e0)
  show wpOrd _ _ _ _ _ _ _ _
  refine ord_take (i := 13) (d := 47) (v := ?_) rfl rfl (wanted_none rfl) hHeld (fun ρ hρ w hSw => ?_) ?_
  rotate_left
  ·(have hc := hρ.const; clear hρ; (try dsimp only at hSw); go_simp; try with_reducible rfl)
  show wpOrd _ _ _ _ _ _ _ _
  refine ord_take (i := 14) (d := 48) (v := ?_) rfl rfl (wanted_none rfl) hHeld (fun ρ hρ w hSw => ?_) ?_
  rotate_left
  ·(have hc := hρ.const; clear hρ; (try dsimp only at hSw); go_simp; try with_reducible rfl)
  show wpOrd _ _ _ _ _ _ _ _
  refine ord_take (i := 15) (d := 49) (v := ?_) rfl rfl (wanted_none rfl) hHeld (fun ρ hρ w hSw => ?_) ?_
  rotate_left
  ·(have hc := hρ.const; clear hρ; (try dsimp only at hSw); go_simp; try with_reducible rfl)
  show wpOrd _ _ _ _ _ _ _ _
  refine ord_take (i := 16) (d := 50) (v := ?_) rfl rfl (wanted_none rfl) hHeld (fun ρ hρ w hSw => ?_) ?_
  rotate_left
  ·(have hc := hρ.const; clear hρ; (try dsimp only at hSw); go_simp; try with_reducible rfl)
  show wpOrd _ _ _ _ _ _ _ _
  exact lat_pre (phi_start (l := #[true, true, true, true, false, true, false, false, false, true, false, false, false, true, true, true, true, false, false, false]) () (by decide) rfl HST.out.drew)
 ·intro l i a w0 hg h
  obtain ⟨vs, γ, hl, rfl, hB, hG⟩ := h
  obtain ⟨hf, ds, hm, hds⟩ := phiG_out hg
  clear hg
  simp only [List.mem_cons, Prod.mk.injEq, List.not_mem_nil, or_false] at hm
  rcases hm with ⟨rfl, rfl⟩ | ⟨rfl, rfl⟩ | ⟨rfl, rfl⟩ | ⟨rfl, rfl⟩ | ⟨rfl, rfl⟩ | ⟨rfl, rfl⟩ | ⟨rfl, rfl⟩
  ·clear hds
   refine lat_run (d := 38) (v := ?_) (w' := ?_) rfl rfl rfl (fun ρ hρ => ?_) ?_
   rotate_left 2
   ·(have hc := hρ.const; clear hρ; go_simp; first | with_reducible rfl | (constructor <;> with_reducible rfl))
   exact ⟨fun _ => trivial, phi_step (γ' := γ) (by decide) (by decide) hl (by decide) hf (hB.later ((Below.refl _ _).alloc (Nat.le_refl _) _)) hG (fun j u _ _ h => h.later ((Below.refl _ _).alloc (Nat.le_refl _) _)) (⟨w0.heap.size, rfl, Blk.new _ _ _, hB.size⟩)⟩
  ·clear hds
   refine lat_call (d := 40) (vs := #[.pointer (some ⟨g, 0, none⟩), .int .i64 2]) rfl rfl rfl rfl (fun ρ hρ => ?_) ?_ ?_
   ·(have hc := hρ.const; have e39 := Eq.trans (hρ.tmp hsz 39 rfl) ((slots_miss _ rfl (miss1 rfl (miss1 rfl (miss1 rfl (miss1 rfl (miss1 rfl lkp_hit))))))); simp only [List.map_toArray, List.map_cons, List.map_nil, e39, hc])
   ·(intro w; go_simp)
   refine (next_any g 2 w0 hB.deck (by decide)).mono ?_
   rintro e w6 ⟨r, rfl, r0, r1, r2, hd6, hg6, hs6⟩
   have r3 : r < 2 := r2.out (by decide)
   obtain ⟨r, rfl⟩ := Int.eq_ofNat_of_zero_le r0
   refine ⟨_, rfl, fun _ => trivial, phi_step (γ' := γ) (by decide) (by decide) hl (by decide) hf (hB.next hd6.out hg6.out) hG (fun j u _ _ h => h.grown hg6.out hgH) (⟨r, rfl, by omega⟩)⟩
  ·have f4 : flag l 4 = true := hds 4 (by simp)
   have f6 : flag l 6 = true := hds 6 (by simp)
   have G4 := hG 4 f4 (by decide)
   have G6 := hG 6 f6 (by decide)
   clear hds
   obtain ⟨x, h4, hx, hxH⟩ := G4
   obtain ⟨r, h6, hr⟩ := G6
   have hri : (r : Int) < 2 := by omega
   refine lat_run (d := 41) (v := ?_) (w' := ?_) rfl rfl rfl (fun ρ hρ => ?_) ?_
   rotate_left 2
   ·(have e38 := Eq.trans (hρ.tmp hsz 38 rfl) ((slots_get (i := 4) f4 _ (by decide) (by decide)).trans h4); have e40 := Eq.trans (hρ.tmp hsz 40 rfl) ((slots_get (i := 6) f6 _ (by decide) (by decide)).trans h6); clear hρ; go_simp; first | with_reducible rfl | (constructor <;> with_reducible rfl))
   exact ⟨fun _ => trivial, phi_step (γ' := γ) (by decide) (by decide) hl (by decide) hf (hB) hG (fun j u _ _ h => h) (⟨x, r, rfl, hx, hxH, hr⟩)⟩
  ·have f7 : flag l 7 = true := hds 7 (by simp)
   have G7 := hG 7 f7 (by decide)
   clear hds
   obtain ⟨x, r, h7, hx, hxH, hr⟩ := G7
   obtain ⟨k, hk, hc⟩ : ∃ k : Int, (k = 1 ∨ k = 3) ∧ w0.cell? ⟨x, r, none⟩ = some (.int .i64 k) := by
    rcases (show r = 0 ∨ r = 1 by omega) with rfl | rfl
    ·exact ⟨1, .inl rfl, hx.cell 0⟩
    ·exact ⟨3, .inr rfl, hx.cell 1⟩
   refine lat_run (d := 42) (v := ?_) (w' := ?_) rfl rfl rfl (fun ρ hρ => ?_) ?_
   rotate_left 2
   ·(have e41 := Eq.trans (hρ.tmp hsz 41 rfl) ((slots_get (i := 7) f7 _ (by decide) (by decide)).trans h7); clear hρ; go_simp; first | with_reducible rfl | (constructor <;> with_reducible rfl))
   exact ⟨fun _ => trivial, phi_step (γ' := γ) (by decide) (by decide) hl (by decide) hf (hB) hG (fun j u _ _ h => h) (⟨k, rfl, hk⟩)⟩
  ·have f6 : flag l 6 = true := hds 6 (by simp)
   have G6 := hG 6 f6 (by decide)
   clear hds
   refine lat_call (d := 44) (vs := #[.pointer (some ⟨g, 0, none⟩), .int .i64 2]) rfl rfl rfl rfl (fun ρ hρ => ?_) ?_ ?_
   ·(have hc := hρ.const; have e43 := Eq.trans (hρ.tmp hsz 43 rfl) ((slots_miss _ rfl (miss1 rfl (miss1 rfl (miss1 rfl (miss1 rfl lkp_hit)))))); simp only [List.map_toArray, List.map_cons, List.map_nil, e43, hc])
   ·(intro w; go_simp)
   refine (next_any g 2 w0 hB.deck (by decide)).mono ?_
   rintro e w6 ⟨r, rfl, r0, r1, r2, hd6, hg6, hs6⟩
   have r3 : r < 2 := r2.out (by decide)
   refine ⟨_, rfl, fun _ => trivial, phi_step (γ' := γ) (by decide) (by decide) hl (by decide) hf (hB.next hd6.out hg6.out) hG (fun j u _ _ h => h.grown hg6.out hgH) (⟨r, rfl, r0, r3⟩)⟩
  ·have f10 : flag l 10 = true := hds 10 (by simp)
   have G10 := hG 10 f10 (by decide)
   clear hds
   obtain ⟨r, h10, r0, r1⟩ := G10
   have hwr : IntKind.i64.wrap (1 + r) = 1 + r := IntWalk.i64_in _ (by omega)
   refine lat_run (d := 45) (v := ?_) (w' := ?_) rfl rfl rfl (fun ρ hρ => ?_) ?_
   rotate_left 2
   ·(have hc := hρ.const; have e44 := Eq.trans (hρ.tmp hsz 44 rfl) ((slots_get (i := 10) f10 _ (by decide) (by decide)).trans h10); clear hρ; go_simp; first | with_reducible rfl | (constructor <;> with_reducible rfl))
   exact ⟨fun _ => trivial, phi_step (γ' := γ) (by decide) (by decide) hl (by decide) hf (hB) hG (fun j u _ _ h => h) (⟨1 + r, rfl, by omega⟩)⟩
  ·have f8 : flag l 8 = true := hds 8 (by simp)
   have f11 : flag l 11 = true := hds 11 (by simp)
   have G8 := hG 8 f8 (by decide)
   have G11 := hG 11 f11 (by decide)
   clear hds
   obtain ⟨k, h8, hk⟩ := G8
   obtain ⟨c, h11, hc'⟩ := G11
   refine lat_run (d := 46) (v := ?_) (w' := ?_) rfl rfl rfl (fun ρ hρ => ?_) ?_
   rotate_left 2
   ·(have hc := hρ.const; have e42 := Eq.trans (hρ.tmp hsz 42 rfl) ((slots_get (i := 8) f8 _ (by decide) (by decide)).trans h8); have e45 := Eq.trans (hρ.tmp hsz 45 rfl) ((slots_get (i := 11) f11 _ (by decide) (by decide)).trans h11); clear hρ; go_simp; first | with_reducible rfl | (constructor <;> with_reducible rfl))
   exact ⟨fun _ => trivial, phi_step (γ' := γ) (by decide) (by decide) hl (by decide) hf (hB) hG (fun j u _ _ h => h) (⟨k, c, rfl, hk, hc'⟩)⟩
 intro a w0 h
 obtain ⟨vs, γ, -, rfl, hB, hG⟩ := h
 show wpOrd _ _ _ _ _ _ (puts A ((38, vs 4) :: (40, vs 6) :: (41, vs 7) :: (42, vs 8) :: (44, vs 10) :: (45, vs 11) :: (46, vs 12) :: [(50, .agg #[.string ⟨#[83, 53]⟩, .int .i64 5, .int .i64 5, .int .i64 (-1), .int .i64 2]), (49, .agg #[.string ⟨#[88, 52]⟩, .int .i64 2, .int .i64 4, .int .i64 5, .int .i64 2]), (48, .agg #[.string ⟨#[88, 51]⟩, .int .i64 3, .int .i64 3, .int .i64 4, .int .i64 2]), (47, .agg #[.string ⟨#[69, 51]⟩, .int .i64 4, .int .i64 3, .int .i64 (-1), .int .i64 2]), (43, .pointer (some ⟨g, 0, none⟩)), (39, .pointer (some ⟨g, 0, none⟩)), (37, .agg #[.string ⟨#[69, 50]⟩, .int .i64 4, .int .i64 2, .int .i64 (-1), .int .i64 1]), (36, .agg #[.string ⟨#[88, 49]⟩, .int .i64 3, .int .i64 1, .int .i64 2, .int .i64 1]), (35, .agg #[.string ⟨#[88, 48]⟩, .int .i64 2, .int .i64 0, .int .i64 1, .int .i64 1]), (34, .agg #[.string ⟨#[83, 48]⟩, .int .i64 5, .int .i64 0, .int .i64 (-1), .int .i64 1])])) _
 replace hHeld : (fun _ => True) w0 := trivial
 obtain ⟨k, c, h12, hk, hc⟩ := hG 12 rfl (by decide)
 obtain ⟨v4, hv4⟩ : ∃ v, v = vs 4 := ⟨_, rfl⟩
 obtain ⟨v6, hv6⟩ : ∃ v, v = vs 6 := ⟨_, rfl⟩
 obtain ⟨v7, hv7⟩ : ∃ v, v = vs 7 := ⟨_, rfl⟩
 obtain ⟨v8, hv8⟩ : ∃ v, v = vs 8 := ⟨_, rfl⟩
 obtain ⟨v10, hv10⟩ : ∃ v, v = vs 10 := ⟨_, rfl⟩
 obtain ⟨v11, hv11⟩ : ∃ v, v = vs 11 := ⟨_, rfl⟩
 rw [h12, ← hv4, ← hv6, ← hv7, ← hv8, ← hv10, ← hv11]
 clear h12 hG hv4 hv6 hv7 hv8 hv10 hv11 vs
 have HTL := Lib.hid (hB.lit (x := tieD k c) (n := 9) rfl (by decide))
 have y1 := (hB.nb.alloc (.cells ((tieD k c).flatMap Dv.cells).toArray 38)).frozen 1
 have y2 := (hB.nb.alloc (.cells ((tieD k c).flatMap Dv.cells).toArray 38)).cell 1
 obtain ⟨w7, hw7⟩ : ∃ w7, w7 = w0.alloc (.cells ((tieD k c).flatMap Dv.cells).toArray 38) := ⟨_, rfl⟩
 rw [← hw7] at HTL y1 y2
 show wpOrd _ _ _ _ _ _ _ _
 refine ord_run (i := 17) (d := 51) (v := ?_) (w' := ?_) rfl rfl (wanted_none rfl) (fun ρ hρ => ?_) ?_ ?_
 rotate_left 2
 ·(have e34 := Eq.trans (hρ.tmp hsz 34 rfl) (miss4 rfl rfl rfl rfl (miss4 rfl rfl rfl rfl (miss4 rfl rfl rfl rfl (miss4 rfl rfl rfl rfl lkp_hit)))); have e35 := Eq.trans (hρ.tmp hsz 35 rfl) (miss4 rfl rfl rfl rfl (miss4 rfl rfl rfl rfl (miss4 rfl rfl rfl rfl (miss1 rfl (miss1 rfl (miss1 rfl lkp_hit)))))); have e36 := Eq.trans (hρ.tmp hsz 36 rfl) (miss4 rfl rfl rfl rfl (miss4 rfl rfl rfl rfl (miss4 rfl rfl rfl rfl (miss1 rfl (miss1 rfl lkp_hit))))); have e37 := Eq.trans (hρ.tmp hsz 37 rfl) (miss4 rfl rfl rfl rfl (miss4 rfl rfl rfl rfl (miss4 rfl rfl rfl rfl (miss1 rfl lkp_hit)))); have e46 := Eq.trans (hρ.tmp hsz 46 rfl) (miss4 rfl rfl rfl rfl (miss1 rfl (miss1 rfl lkp_hit))); have e47 := Eq.trans (hρ.tmp hsz 47 rfl) (miss4 rfl rfl rfl rfl (miss4 rfl rfl rfl rfl (miss1 rfl (miss1 rfl lkp_hit)))); have e48 := Eq.trans (hρ.tmp hsz 48 rfl) (miss4 rfl rfl rfl rfl (miss4 rfl rfl rfl rfl (miss1 rfl lkp_hit))); have e49 := Eq.trans (hρ.tmp hsz 49 rfl) (miss4 rfl rfl rfl rfl (miss4 rfl rfl rfl rfl lkp_hit)); have e50 := Eq.trans (hρ.tmp hsz 50 rfl) (miss4 rfl rfl rfl rfl (miss1 rfl (miss1 rfl (miss1 rfl lkp_hit)))); clear hρ; go_simp; first | with_reducible rfl | (constructor <;> with_reducible rfl))
 ·refine fun _ => ?_
  trivial
 intro hHeld'
 replace hHeld := hHeld' rfl
 clear hHeld'
 try dsimp only at hHeld
 show wpOrd _ _ _ _ _ _ _ _
 show wpOrd _ _ _ _ _ _ _ (w0.alloc (.cells ((tieD k c).flatMap Dv.cells).toArray 38))
 show wpOrd _ _ _ _ _ _ _ _
 rw [← hw7]
 show wpOrd _ _ _ _ _ _ _ _
 clear hw7 hB
 show wpOrd _ _ _ _ _ _ _ _
 refine ord_take (i := 18) (d := 52) (v := ?_) rfl rfl (wanted_none rfl) hHeld (fun ρ hρ w hSw => ?_) ?_
 rotate_left
 ·(have e4 := Eq.trans (hρ.tmp hsz 4 rfl) (miss4 rfl rfl rfl rfl (miss4 rfl rfl rfl rfl (miss4 rfl rfl rfl rfl (miss4 rfl rfl rfl rfl (miss1 rfl (miss1 rfl (lkp_base b4))))))); clear hρ; (try dsimp only at hSw); go_simp; try with_reducible rfl)
 show wpOrd _ _ _ _ _ _ _ _
 refine ord_store (i := 19) (w' := ?_) rfl rfl (wanted_none rfl) (fun ρ hρ => ?_) (fun _ => ?_) ?_
 rotate_left
 ·(have e52 := Eq.trans (hρ.tmp hsz 52 rfl) lkp_hit; have e51 := Eq.trans (hρ.tmp hsz 51 rfl) (miss1 rfl lkp_hit); clear hρ; go_simp; try with_reducible rfl)
 ·trivial
 show wpOrd _ _ _ _ _ _ _ _
 refine ord_done hn2 ?_
 clear hHeld hn2 b0 b4 hsz A Q2
 simp only [puts_nil, puts_cons, put_lit, set_1, set_0]
 clear y1 y2
 generalize World.setCell w7 _ _ = wt at *
 generalize (some (⟨w0.heap.size, 0, none⟩ : Addr)) = Ad at *
 go_upto_region 11 with (fail)
 have HX0 : Hid (TieX w g An cn ns Ad 9 9 (tieD k c) (some ⟨wt.heap.size, 0, none⟩) 9 9 tieS (wt.alloc (.cells #[.int .i64 2, .int .i64 2, .int .i64 2, .int .i64 1, .int .i64 2, .int .i64 1, .int .i64 2, .int .i64 2, .int .i64 2] 3))) := TieX.lit HTL.out (by decide) rfl
 generalize (some (⟨wt.heap.size, 0, none⟩ : Addr)) = As at *
 generalize World.alloc wt _ = wu at *
 clear HTL
 go_wp2_with fail
 refine (next_any g 4 wu HX0.out.t.deck (by decide)).mono ?_
 rintro e w1 ⟨r, rfl, r0, r1, r2, hd6, hg6, hs6⟩
 have r3 : r < 4 := r2.out (by decide)
 have HX1 := Lib.hid (HX0.out.next hd6.out hg6.out)
 clear hd6 hg6 hs6 r1 r2 HX0
 have HKC := Lib.hid (And.intro hk hc)
 clear hk hc
 rcases (show r = 0 ∨ r = 1 ∨ r = 2 ∨ r = 3 by omega) with rfl | rfl | rfl | rfl
 ·have hz1 := HX1.out.t.size
  have kd : w1.cell? ⟨w.heap.size + 1, 1, none⟩ = some (.slice Ad 9 9) := HX1.out.t.nb.cell 1
  go_wp2_with (at_builtin; go_must (refine wpList_app rfl (.tmp 59) (.tmp 61) rfl el_dev (by rfl) (HX1.out.t.rd.alloc _) (by rfl) (Sl.newest (n := 1) (by rfl) (by rfl) (by decide)) (by simp [Value.oneCell']) (by omega) (by omega) (by simp; omega) ?_; intro A' cap' w8 hown8 hgr8 hat8; have hnb := (HX1.out.t.alloc _).nb_row hgr8; have HX8 := Lib.hid ((HX1.out.alloc _).dev (x := dvG) hown8 hgr8 hat8); have kn : w8.cell? ⟨w.heap.size + 1, 1, none⟩ = some (.slice Ad 9 9) := hnb.cell 1; have fn := hnb.frozen 1; clear hown8 hgr8 hat8 hnb))
  clear kd kn fn
  generalize World.setCell w8 _ _ = w2 at *
  clear HX1
  refine (next_any g 2 w2 HX8.out.t.deck (by decide)).mono ?_
  rintro e w3 ⟨y, rfl, r0, r1, r2, hd6, hg6, hs6⟩
  have r3 : y < 2 := r2.out (by decide)
  have HX2 := Lib.hid (HX8.out.next hd6.out hg6.out)
  have hz2 := HX2.out.t.size
  clear hd6 hg6 hs6 r1 r2 HX8
  go_wp2_with (at_builtin; go_must (refine wpList_app rfl (.tmp 64) (.tmp 68) rfl el_int (by rfl) (World.ownsRow.alloc HX2.out.o _) (by rfl) (Sl.newest (n := 1) (by rfl) (by rfl) (by decide)) (by simp [Value.oneCell']) (by omega) (by omega) (by simp; omega) ?_; intro A2 cap2 w9 hown9 hgr9 hat9; have HX9 := Lib.hid ((HX2.out.alloc _).row (l := tieS ++ [1 + y]) (by unfold IntsO; rw [intsV_append]; exact hown9) hgr9 hat9); clear hown9 hgr9 hat9; have HTV : Hid (TieV (tieD k c ++ [dvG]) (tieS ++ [1 + y])) := ⟨k, c, HKC.out.1, HKC.out.2, .inr (.inl ⟨rfl, by rcases (show y = 0 ∨ y = 1 by omega) with rfl | rfl <;> simp [tieS]⟩)⟩; have d0 := HX9.out.t.rb.cell 0; have d1 := HX9.out.t.rb.cell 1; have y0 := HX9.out.t.rb.frozen 0; have y1 := HX9.out.t.rb.frozen 1; have k0 := HX9.out.t.nb.cell 0; have k1 := HX9.out.t.nb.cell 1; have HB := Lib.hid ((HX9.out.t.rb.set 0 (.slice An 6 cn)).set 1 (.slice A' 10 cap')); have HF := Lib.hid (HX9.out.fin rfl HTN.out HLN.out HTV.out (.slice An 6 cn) (.slice A' 10 cap'))))
  clear d0 d1 y0 y1 k0 k1
  generalize World.setCell (World.setCell _ _ _) _ _ = wz at *
  have t0 : wz.cell? ⟨w.heap.size, 0, none⟩ = some (.slice An 6 cn) := HB.out.cell 0
  have t1 : wz.cell? ⟨w.heap.size, 1, none⟩ = some (.slice A' 10 cap') := HB.out.cell 1
  exact bodyPost_ret (v := .tuple #[.agg #[.slice An 6 cn, .slice A' 10 cap'], .slice A2 10 cap2]) (by simp [results, Tryz.results10, go_sem, t0, t1]) rfl HF.out
 ·have kd : w1.cell? ⟨w.heap.size + 1, 1, none⟩ = some (.slice Ad 9 9) := HX1.out.t.nb.cell 1
  have HD1 := Lib.hid (HX1.out.later (Below.refl _ _).drew)
  go_upto_region 16 with (fail)
  clear kd
  refine wp_region_J (S := fun W' => W'.cell? ⟨w.heap.size + 1, 1, none⟩ = some (.slice Ad 9 9)) (J := [9]) (by kernel_rfl) ?_ (fun hHeld => ?_)
  ·exact HD1.out.t.nb.cell 1
  try dsimp only at hHeld
  refine tk 0 72 (mf 10 1) hHeld ?_
  refine tk 1 73 (mf 10 2) hHeld ?_
  refine tk 2 74 (mf 10 3) hHeld ?_
  refine wpAnyJ_oneL (k := 3) (mf 10 4) (by kernel_rfl) (by kernel_rfl) rfl (fun K hK => ?_)
  (go_simp; refine (next_any g 2 w1.drew HD1.out.t.deck (by decide)).mono ?_; rintro e w3 ⟨y, rfl, r0, r1, r2, hd6, hg6, hs6⟩; go_simp)
  refine hK.out _ _ (fun _ => ?_) (fun hHeld' => ?_)
  ·exact (HD1.out.next hd6.out hg6.out).t.nb.cell 1
  replace hHeld := hHeld' rfl
  clear hHeld' hK K
  try dsimp only at hHeld
  have r3 : y < 2 := r2.out (by decide)
  have HX2 := Lib.hid (HD1.out.next hd6.out hg6.out)
  have hz2 := HX2.out.t.size
  clear hd6 hg6 hs6 r1 r2
  have hwr : IntKind.i64.wrap (1 + y) = 1 + y := IntWalk.i64_in _ (by omega)
  refine tk 4 76 (mf 10 5) hHeld ?_
  refine tk 5 77 (mf 10 6) hHeld ?_
  refine wpAnyJ_oneL (k := 6) (mf 10 7) (by kernel_rfl) (by kernel_rfl) rfl (fun K hK => ?_)
  go_simp
  refine hK.out _ _ (fun _ => ?_) (fun hHeld' => ?_)
  ·exact (HX2.out.alloc _).t.nb.cell 1
  replace hHeld := hHeld' rfl
  clear hHeld' hK K
  try dsimp only at hHeld
  refine wpAnyJ_oneL (k := 7) (mf 10 8) (by kernel_rfl) (by kernel_rfl) rfl (fun K hK => ?_)
  (refine step_app_d (d := some 79) (by rfl) (by rfl) (.tmp 73) (.tmp 78) (by rfl) el_dev (by rfl) (HX2.out.t.rd.alloc _) (by rfl) (Sl.newest (n := 1) (by simp) (by rfl) (by decide)) (by simp [Value.oneCell']) (by omega) (by omega) (by simp; omega) ?_; intro A' cap' w8 hown8 hgr8 hat8)
  refine hK.out _ _ (fun _ => ?_) (fun hHeld' => ?_)
  ·exact ((HX2.out.t.alloc _).nb_row hgr8).cell 1
  replace hHeld := hHeld' rfl
  clear hHeld' hK K
  try dsimp only at hHeld
  have hnb := (HX2.out.t.alloc _).nb_row hgr8
  have HX8 := Lib.hid ((HX2.out.alloc _).dev (x := dvD (1 + y)) hown8 hgr8 hat8)
  have kn : w8.cell? ⟨w.heap.size + 1, 1, none⟩ = some (.slice Ad 9 9) := hnb.cell 1
  have fn := hnb.frozen 1
  clear hown8 hgr8 hat8 hnb
  refine tk 8 80 (mf 10 9) hHeld ?_
  refine wpAnyJ_oneL (k := 9) (mf 10 10) (by kernel_rfl) (by kernel_rfl) rfl (fun K hK => ?_)
  go_simp
  refine hK.out _ _ (fun h => by cases h) (fun _ => ?_)
  try clear hHeld
  clear hK K
  refine wpAnyJ_done (by kernel_rfl) ?_ _
  clear kn fn HX2 HD1 HX1
  generalize World.setCell w8 _ _ = w2 at *
  have hz3 := HX8.out.t.size
  go_wp2_with (at_builtin; go_must (refine wpList_app rfl (.tmp 81) (.tmp 82) rfl el_int (by rfl) (World.ownsRow.alloc HX8.out.o _) (by rfl) (Sl.newest (n := 1) (by rfl) (by rfl) (by decide)) (by simp [Value.oneCell']) (by omega) (by omega) (by simp; omega) ?_; intro A2 cap2 w9 hown9 hgr9 hat9; have HX9 := Lib.hid ((HX8.out.alloc _).row (l := tieS ++ [1]) (by unfold IntsO; rw [intsV_append]; exact hown9) hgr9 hat9); clear hown9 hgr9 hat9; have HTV : Hid (TieV (tieD k c ++ [dvD (1 + y)]) (tieS ++ [1])) := ⟨k, c, HKC.out.1, HKC.out.2, .inr (.inr ⟨1 + y, by omega, rfl, rfl⟩)⟩; have d0 := HX9.out.t.rb.cell 0; have d1 := HX9.out.t.rb.cell 1; have y0 := HX9.out.t.rb.frozen 0; have y1 := HX9.out.t.rb.frozen 1; have k0 := HX9.out.t.nb.cell 0; have k1 := HX9.out.t.nb.cell 1; have HB := Lib.hid ((HX9.out.t.rb.set 0 (.slice An 6 cn)).set 1 (.slice A' 10 cap')); have HF := Lib.hid (HX9.out.fin rfl HTN.out HLN.out HTV.out (.slice An 6 cn) (.slice A' 10 cap'))))
  clear d0 d1 y0 y1 k0 k1
  generalize World.setCell (World.setCell _ _ _) _ _ = wz at *
  have t0 : wz.cell? ⟨w.heap.size, 0, none⟩ = some (.slice An 6 cn) := HB.out.cell 0
  have t1 : wz.cell? ⟨w.heap.size, 1, none⟩ = some (.slice A' 10 cap') := HB.out.cell 1
  exact bodyPost_ret (v := .tuple #[.agg #[.slice An 6 cn, .slice A' 10 cap'], .slice A2 10 cap2]) (by simp [results, Tryz.results10, go_sem, t0, t1]) rfl HF.out
 ·go_wp2_with fail
  refine (next_any g 2 w1 HX1.out.t.deck (by decide)).mono ?_
  rintro e w3 ⟨y, rfl, r0, r1, r2, hd6, hg6, hs6⟩
  have r3 : y < 2 := r2.out (by decide)
  have HX2 := Lib.hid (HX1.out.next hd6.out hg6.out)
  clear hd6 hg6 hs6 r1 r2 HX1
  obtain ⟨i, rfl⟩ := Int.eq_ofNat_of_zero_le r0
  obtain ⟨q, x, rfl, c1, f1, hset⟩ := HX2.out.at (i := 1 + i) (by omega)
  have hei : (1 : Int) + (i : Int) = ((1 + i : Nat) : Int) := by omega
  have HX3 := Lib.hid (hset 1)
  have HTV : Hid (TieV (tieD k c) (tieS.set (1 + i) 1)) := ⟨k, c, HKC.out.1, HKC.out.2, .inl ⟨rfl, by rcases (show i = 0 ∨ i = 1 by omega) with rfl | rfl <;> simp [tieS]⟩⟩
  clear hset
  have hi3 : 1 + i < 9 := by omega
  generalize 1 + i = j at *
  go_upto_region 20 with (fail)
  clear c1 f1 r0 r3 hei HX2
  generalize World.setCell w3 _ _ = w4 at *
  generalize (some (⟨q, 0, none⟩ : Addr)) = As at *
  have d0 := HX3.out.t.rb.cell 0
  have d1 := HX3.out.t.rb.cell 1
  have y0 := HX3.out.t.rb.frozen 0
  have y1 := HX3.out.t.rb.frozen 1
  have k0 := HX3.out.t.nb.cell 0
  have k1 := HX3.out.t.nb.cell 1
  have HB := Lib.hid ((HX3.out.t.rb.set 0 (.slice An 6 cn)).set 1 (.slice Ad 9 9))
  have HF := Lib.hid (HX3.out.fin rfl HTN.out HLN.out HTV.out (.slice An 6 cn) (.slice Ad 9 9))
  go_wp2_with fail
  clear d0 d1 y0 y1 k0 k1
  generalize World.setCell (World.setCell _ _ _) _ _ = wz at *
  have t0 : wz.cell? ⟨w.heap.size, 0, none⟩ = some (.slice An 6 cn) := HB.out.cell 0
  have t1 : wz.cell? ⟨w.heap.size, 1, none⟩ = some (.slice Ad 9 9) := HB.out.cell 1
  exact bodyPost_ret (v := .tuple #[.agg #[.slice An 6 cn, .slice Ad 9 9], .slice As 9 9]) (by simp [results, Tryz.results10, go_sem, t0, t1]) rfl HF.out
 ·have HTV : Hid (TieV (tieD k c) tieS) := ⟨k, c, HKC.out.1, HKC.out.2, .inl ⟨rfl, .inl rfl⟩⟩
  go_upto_region 20 with (fail)
  have d0 := HX1.out.t.rb.cell 0
  have d1 := HX1.out.t.rb.cell 1
  have y0 := HX1.out.t.rb.frozen 0
  have y1 := HX1.out.t.rb.frozen 1
  have k0 := HX1.out.t.nb.cell 0
  have k1 := HX1.out.t.nb.cell 1
  have HB := Lib.hid ((HX1.out.t.rb.set 0 (.slice An 6 cn)).set 1 (.slice Ad 9 9))
  have HF := Lib.hid (HX1.out.fin rfl HTN.out HLN.out HTV.out (.slice An 6 cn) (.slice Ad 9 9))
  go_wp2_with fail
  clear d0 d1 y0 y1 k0 k1
  generalize World.setCell (World.setCell _ _ _) _ _ = wz at *
  have t0 : wz.cell? ⟨w.heap.size, 0, none⟩ = some (.slice An 6 cn) := HB.out.cell 0
  have t1 : wz.cell? ⟨w.heap.size, 1, none⟩ = some (.slice Ad 9 9) := HB.out.cell 1
  exact bodyPost_ret (v := .tuple #[.agg #[.slice An 6 cn, .slice Ad 9 9], .slice As 9 9]) (by simp [results, Tryz.results10, go_sem, t0, t1]) rfl HF.out
end Go.Proofs.YtepicjpdhpojnaaGreatDoor
namespace Go.Proofs.YtepicjpdhpojnaaGreatDoor
open Go.RowKit
def Phi1 {α : Type} (A : Act) (D : List (Nat × Nat)) (L0 : List (Nat × Value)) (N : Nat) (B : Array Bool → α → World → Prop) (G : Nat → α → Value → World → Prop) (l : Array Bool) (a : Act) (w : World) : Prop :=
 ∃ (vs : Nat → Value) (γ : α), l.size = N ∧ a = puts A (slots D l vs ++ L0) ∧ B l γ w ∧ ∀ j, flag l j = true → j ∈ D.map (·.1) → G j γ (vs j) w
section
variable {α : Type} {A : Act} {D : List (Nat × Nat)} {L0 : List (Nat × Value)} {N : Nat} {B : Array Bool → α → World → Prop} {G : Nat → α → Value → World → Prop} {l : Array Bool} {i d : Nat} {v : Value} {vs : Nat → Value} {γ γ' : α} {w w' : World}
theorem phi1_step (hn : (D.map (·.1)).Nodup ∧ (D.map (·.2)).Nodup) (hm : (i, d) ∈ D) (hl : l.size = N) (hi : i < N) (hf : flag l i = false) (hB : B (l.setIfInBounds i true) γ' w')
 (ho : ∀ j, flag l j = true → j ∈ D.map (·.1) → G j γ (vs j) w) (hk : ∀ j u, flag l j = true → j ∈ D.map (·.1) → G j γ u w → G j γ' u w') (hv : G i γ' v w') : Phi1 A D L0 N B G (l.setIfInBounds i true) (puts A ((d, v) :: (slots D l vs ++ L0))) w' := by
 refine ⟨updV vs i v, γ', by simpa using hl, slots_put A L0 (by omega) hf D hm hn.1 hn.2, hB, fun j hj hjm => ?_⟩
 by_cases hji : j = i
 ·subst hji
  rw [updV_same]
  exact hv
 ·rw [flag_ne hji] at hj
  rw [updV_ne hji]
  exact hk j _ hj hjm (ho j hj hjm)
theorem slots_skip {i : Nat} {l : Array Bool} {vs : Nat → Value} : ∀ D : List (Nat × Nat), i ∉ D.map (·.1) → slots D (l.setIfInBounds i true) vs = slots D l vs
 | [], _ => rfl
 | (j, d) :: r, h => by
  have hj : j ≠ i := fun e => h (by simp [e])
  simp only [slots]
  rw [flag_ne hj, slots_skip r (fun h2 => h (by simp only [List.map_cons, List.mem_cons]; exact .inr h2))]
theorem phi1_step0 (hm : i ∉ D.map (·.1)) (hl : l.size = N) (hB : B (l.setIfInBounds i true) γ' w')
 (ho : ∀ j, flag l j = true → j ∈ D.map (·.1) → G j γ (vs j) w) (hk : ∀ j, flag l j = true → j ∈ D.map (·.1) → G j γ (vs j) w → G j γ' (vs j) w') : Phi1 A D L0 N B G (l.setIfInBounds i true) (puts A (slots D l vs ++ L0)) w' := by
 refine ⟨vs, γ', by simpa using hl, by rw [slots_skip D hm], hB, fun j hj hjm => ?_⟩
 have hji : j ≠ i := fun e => hm (e ▸ hjm)
 rw [flag_ne hji] at hj
 exact hk j hj hjm (ho j hj hjm)
theorem phi1_start (γ : α) (h0 : D.all (fun p => !flag l p.1) = true) (hl : l.size = N) (hB : B l γ w) : Phi1 A D L0 N B G l (puts A L0) w :=
 ⟨fun _ => undef, γ, hl, by rw [slots_none D h0]; rfl, hB, fun j hj hm => by
  obtain ⟨⟨j', d⟩, h1, rfl⟩ := List.mem_map.1 hm
  have := List.all_eq_true.1 h0 _ h1
  simp only [hj] at this
  cases this⟩
end
section
variable {P : Program} {ops : Array Oper} {Q : Exit → Act → World → Prop} {A : Act} {L : List (Nat × Value)} {w w' : World} {i : Nat} {oi : Oper} {R : Act → World → Prop}
theorem lat_store (hi : ops[i]? = some oi) (hd : oi.dst = none) (hg : oi.guard = none) (hv : ∀ ρ : Operand → Value, Rd A L ρ → (execOp ρ oi).run P w = .ok .skip w') (h : R (puts A L) w') : wpOp P ops Q i R (puts A L) w := by
 simp only [wpOp, hi, wanted_none hg, if_true]
 refine .inl ?_
 rw [Oper.wp, hv _ rfl, Oper.upon_skip, hd]
 exact h
end
end Go.Proofs.YtepicjpdhpojnaaGreatDoor
namespace Go.Proofs.YtepicjpdhpojnaaGreatDoor
open Go.RowKit
def LsF (m : Nat) (F : Fd) : Prop := F.ls.length ≤ m ∧ ∀ x ∈ F.ls, x.key < 801
theorem LsF.le {m m' : Nat} {F : Fd} (h : LsF m F) (hm : m ≤ m') : LsF m' F := ⟨Nat.le_trans h.1 hm, h.2⟩
theorem evTo_lsF {ds : List Dv} {F : Fd} {k d p q : Int} {m : Nat} (h : LsF m F) (hq : q < 801) : LsF (m + 1) (evTo ds F k d p q) := by
 have h1 := h.le (Nat.le_succ m)
 unfold evTo
 split
 ·split
  ·exact h1
  ·exact h1
 ·split
  ·exact h1
  ·split
   ·refine ⟨by have := h.1; simp only [ins_len]; omega, fun x hx => ?_⟩
    rcases (ins_mem ..).1 hx with rfl | hx
    ·exact hq
    ·exact h.2 x hx
   ·split
    ·cases hi : idxL d q F.ls with
     | none => exact h1
     | some i => exact ⟨by have := h.1; have := List.length_eraseIdx_le F.ls i; simp only; omega, fun x hx => h.2 x (List.mem_of_mem_eraseIdx hx)⟩
    ·exact h1
def StartPost (w : World) (g : Nat) (e : Ending) (w' : World) : Prop :=
 ∃ (An Ad As Al At : Option Addr) (cn nd cd n c nl cl nt ct : Nat) (ns : List Nd) (ds : List Dv) (F : Fd), e = .returned (.tuple #[.agg #[.slice An 6 cn, .slice Ad nd cd], .agg #[.slice As n c, .slice Al nl cl, .slice At nt ct]]) ∧ Hid (w.grownBy w' (some g)) ∧ Hid (FdX g An Ad As Al At 6 cn nd cd n c nl cl nt ct ns ds F w') ∧ Hid (fdErr ns ds F = 0) ∧ Hid (9 ≤ nd ∧ nd ≤ 10) ∧ Hid (LsF 20 F)
structure StM (w0 : World) (g b : Nat) (cn cf : Array Value) (w : World) : Prop where
 gr : w0.grownBy w (some g)
 r0 : Blk w w0.heap.size 30 #[.slice none 0 0, .slice none 0 0]
 r1 : Blk w (w0.heap.size + 1) 35 #[.slice none 0 0, .slice none 0 0, .slice none 0 0]
 b4 : Blk w b 30 cn
 b6 : Blk w (b + 1) 35 cf
 hb : w0.heap.size + 2 ≤ b
theorem StM.later {w0 w w' : World} {g b : Nat} {cn cf : Array Value} (h : StM w0 g b cn cf w) (hb : Below w.heap.size w w') : StM w0 g b cn cf w' := ⟨grown_trans h.gr (grown_of_below hb _), h.r0.below hb h.r0.lt, h.r1.below hb h.r1.lt, h.b4.below hb h.b4.lt, h.b6.below hb h.b6.lt, h.hb⟩
theorem StM.next {w0 w w' : World} {g b : Nat} {cn cf : Array Value} (h : StM w0 g b cn cf w) (hl : g < w0.heap.size) (hg : w.grownBy w' (some g)) : StM w0 g b cn cf w' := by
 have := h.hb
 exact ⟨grown_trans h.gr hg, h.r0.grown hg (by simp; omega), h.r1.grown hg (by simp; omega), h.b4.grown hg (by simp; omega), h.b6.grown hg (by simp; omega), h.hb⟩
def NewOk (m g : Nat) (An Ad : Option Addr) (cn nd cd : Nat) (ns : List Nd) (ds : List Dv) (v : Value) (E : Int) (w : World) : Prop :=
 ∃ (As Al At : Option Addr) (n c nl cl nt ct : Nat), v = .agg #[.slice As n c, .slice Al nl cl, .slice At nt ct] ∧ (E = 0 → ∃ F : Fd, FdX g An Ad As Al At 6 cn nd cd n c nl cl nt ct ns ds F w ∧ fdErr ns ds F = 0 ∧ LsF m F)
theorem NewOk.later {m g : Nat} {An Ad : Option Addr} {cn nd cd : Nat} {ns : List Nd} {ds : List Dv} {v : Value} {E : Int} {w w' : World} (h : NewOk m g An Ad cn nd cd ns ds v E w) (hb : Below w.heap.size w w') : NewOk m g An Ad cn nd cd ns ds v E w' := by
 obtain ⟨As, Al, At, n, c, nl, cl, nt, ct, h1, h2⟩ := h
 exact ⟨As, Al, At, n, c, nl, cl, nt, ct, h1, fun e => by obtain ⟨F, h3, h4⟩ := h2 e; exact ⟨F, h3.later hb, h4⟩⟩
theorem NewOk.grown {m g : Nat} {An Ad : Option Addr} {cn nd cd : Nat} {ns : List Nd} {ds : List Dv} {v : Value} {E : Int} {w0 w w' : World} (h : NewOk m g An Ad cn nd cd ns ds v E w) (h0 : Laid w0) (hge : w0.heap.size ≤ g) (hd : DeckAt w' g) (hg : w.grownBy w' (some g)) : NewOk m g An Ad cn nd cd ns ds v E w' := by
 obtain ⟨As, Al, At, n, c, nl, cl, nt, ct, h1, h2⟩ := h
 exact ⟨As, Al, At, n, c, nl, cl, nt, ct, h1, fun e => by obtain ⟨F, h3, h4⟩ := h2 e; exact ⟨F, h3.grown h0 hge hd hg, h4⟩⟩
theorem NewOk.of {m g : Nat} {An Ad As Al At : Option Addr} {cn nd cd n c nl cl nt ct : Nat} {ns : List Nd} {ds : List Dv} {F : Fd} {k d p q : Int} {e : Ending} {w w' : World} (h : FdX g An Ad As Al At 6 cn nd cd n c nl cl nt ct ns ds F w) (hg : g < w.heap.size) (hm : LsF m F) (hq : q < 801) (hr : RstPost w ns ds As Al At F k d p q e w') :
 Below w.heap.size w w' ∧ ∃ (v : Value) (E : Int), e = .returned (.tuple #[v, .int .i64 E]) ∧ NewOk (m + 1) g An Ad cn nd cd ns ds v E w' := by
 obtain ⟨h1 | ⟨h1, A1, A2, A3, n1, c1, n2, c2, n3, c3, h2, h3, h4⟩, hb⟩ := hr
 ·exact ⟨hb.out, _, _, h1.2, none, none, none, 0, 0, 0, 0, 0, 0, rfl, fun e => absurd e h1.1⟩
 ·exact ⟨hb.out, _, _, h2, A1, A2, A3, n1, c1, n2, c2, n3, c3, rfl, fun _ => ⟨_, h.new hb.out h3.out (h4.out g hg h.hs.2 h.hl.2 h.ht.2), evTo_ok h1, evTo_lsF hm hq⟩⟩
abbrev StGh := Value × Int × Array Value
def StG (H : Nat) (j : Nat) (γ : StGh) (v : Value) (w : World) : Prop := match j with
 | 4 => ∃ k d p q : Int, v = .agg #[.int .i64 k, .int .i64 d, .int .i64 p, .int .i64 q] ∧ q < 801
 | 5 => v = .tuple #[γ.1, .int .i64 γ.2.1]
 | 6 => v = .tuple #[γ.1, .int .i64 γ.2.1]
 | 7 => v = γ.1
 | 8 => v = .int .i64 γ.2.1
 | 9 => ∃ x, v = .pointer (some ⟨x, 0, none⟩) ∧ Blk w x 35 γ.2.2 ∧ H ≤ x
 | _ => True
theorem StG.later {H j : Nat} {γ : StGh} {v : Value} {w w' : World} (h : StG H j γ v w) (hb : Below w.heap.size w w') : StG H j γ v w' := by
 unfold StG at h ⊢
 split at h
 iterate 5 exact h
 ·obtain ⟨x, h1, h2, h3⟩ := h; exact ⟨x, h1, h2.below hb h2.lt, h3⟩
 ·exact h
theorem StG.grown {g H j : Nat} {γ : StGh} {v : Value} {w w' : World} (h : StG H j γ v w) (hg : w.grownBy w' (some g)) (hl : g < H) : StG H j γ v w' := by
 unfold StG at h ⊢
 split at h
 iterate 5 exact h
 ·obtain ⟨x, h1, h2, h3⟩ := h; exact ⟨x, h1, h2.grown hg (fun e => by injection e; omega), h3⟩
 ·exact h
structure StB (w : World) (g b : Nat) (An Ad As Al At : Option Addr) (cn nd cd n c nl cl nt ct : Nat) (ns : List Nd) (ds : List Dv) (F : Fd) (l : Array Bool) (γ : StGh) (W : World) : Prop where
 x : FdX g An Ad As Al At 6 cn nd cd n c nl cl nt ct ns ds F W
 m : StM w g b #[.slice An 6 cn, .slice Ad nd cd] #[.slice As n c, .slice Al nl cl, .slice At nt ct] W
 k : flag l 5 = true → NewOk (F.ls.length + 1) g An Ad cn nd cd ns ds γ.1 γ.2.1 W
 z : flag l 10 = false → γ.2.2 = #[.slice none 0 0, .slice none 0 0, .slice none 0 0]
 f : flag l 10 = true → γ.1 = .agg γ.2.2
 o : flag l 5 = false → flag l 6 = false ∧ flag l 7 = false ∧ flag l 8 = false ∧ flag l 10 = false
 o9 : flag l 9 = false → flag l 10 = false
theorem StB.keep {w W W' : World} {g b : Nat} {An Ad As Al At : Option Addr} {cn nd cd n c nl cl nt ct : Nat} {ns : List Nd} {ds : List Dv} {F : Fd} {l : Array Bool} {γ : StGh} {i : Nat} (h : StB w g b An Ad As Al At cn nd cd n c nl cl nt ct ns ds F l γ W) (h9s : i < l.size) (h5 : i ≠ 5) (h10 : i ≠ 10) (ho : flag l 5 = true ∨ (i ≠ 6 ∧ i ≠ 7 ∧ i ≠ 8))
 (hx : FdX g An Ad As Al At 6 cn nd cd n c nl cl nt ct ns ds F W') (hm : StM w g b #[.slice An 6 cn, .slice Ad nd cd] #[.slice As n c, .slice Al nl cl, .slice At nt ct] W') (hn : ∀ v E, NewOk (F.ls.length + 1) g An Ad cn nd cd ns ds v E W → NewOk (F.ls.length + 1) g An Ad cn nd cd ns ds v E W') : StB w g b An Ad As Al At cn nd cd n c nl cl nt ct ns ds F (l.setIfInBounds i true) γ W' := by
 refine ⟨hx, hm, fun e => hn _ _ (h.k ?_), fun e => h.z ?_, fun e => h.f ?_, fun e => ?_, fun e => ?_⟩
 ·rwa [flag_ne (Ne.symm h5)] at e
 ·rwa [flag_ne (Ne.symm h10)] at e
 ·rwa [flag_ne (Ne.symm h10)] at e
 ·rw [flag_ne (Ne.symm h5)] at e
  rcases ho with ho | ⟨h6, h7, h8⟩
  ·rw [e] at ho; cases ho
  ·rw [flag_ne (Ne.symm h6), flag_ne (Ne.symm h7), flag_ne (Ne.symm h8), flag_ne (Ne.symm h10)]
   exact h.o e
 ·rw [flag_ne (Ne.symm h10)]
  by_cases h9 : i = 9
  ·subst h9; rw [flag_same h9s] at e; cases e
  ·rw [flag_ne (Ne.symm h9)] at e; exact h.o9 e
theorem StB.five {w W W' : World} {g b : Nat} {An Ad As Al At : Option Addr} {cn nd cd n c nl cl nt ct : Nat} {ns : List Nd} {ds : List Dv} {F : Fd} {l : Array Bool} {γ : StGh} {v : Value} {E : Int} (hB : StB w g b An Ad As Al At cn nd cd n c nl cl nt ct ns ds F l γ W) (hs : 5 < l.size) (hf : flag l 5 = false) (hb6 : Below W.heap.size W W') (hN : NewOk (F.ls.length + 1) g An Ad cn nd cd ns ds v E W') : StB w g b An Ad As Al At cn nd cd n c nl cl nt ct ns ds F (l.setIfInBounds 5 true) (v, E, γ.2.2) W' :=
 ⟨hB.x.later hb6, hB.m.later hb6, fun _ => hN, fun e => hB.z (by rwa [flag_ne (by decide)] at e), fun e => absurd e (by rw [flag_ne (by decide), (hB.o hf).2.2.2]; decide), fun e => absurd e (by rw [flag_same hs]; decide), fun e => (flag_ne (by decide)).trans (hB.o9 ((flag_ne (by decide)).symm.trans e))⟩
theorem StB.ten {w W : World} {g b x : Nat} {An Ad As Al At : Option Addr} {cn nd cd n c nl cl nt ct : Nat} {ns : List Nd} {ds : List Dv} {F : Fd} {l : Array Bool} {γ : StGh} {u0 u1 u2 : Value} (_hB : StB w g b An Ad As Al At cn nd cd n c nl cl nt ct ns ds F l γ W) (hs : 10 < l.size) (h5 : flag l 5 = true) (h9 : flag l 9 = true) (hv : γ.1 = .agg #[u0, u1, u2])
 (hx : FdX g An Ad As Al At 6 cn nd cd n c nl cl nt ct ns ds F (((W.setCell ⟨x, 0, none⟩ u0).setCell ⟨x, 1, none⟩ u1).setCell ⟨x, 2, none⟩ u2)) (hm : StM w g b #[.slice An 6 cn, .slice Ad nd cd] #[.slice As n c, .slice Al nl cl, .slice At nt ct] (((W.setCell ⟨x, 0, none⟩ u0).setCell ⟨x, 1, none⟩ u1).setCell ⟨x, 2, none⟩ u2))
 (hN : NewOk (F.ls.length + 1) g An Ad cn nd cd ns ds γ.1 γ.2.1 (((W.setCell ⟨x, 0, none⟩ u0).setCell ⟨x, 1, none⟩ u1).setCell ⟨x, 2, none⟩ u2)) : StB w g b An Ad As Al At cn nd cd n c nl cl nt ct ns ds F (l.setIfInBounds 10 true) (γ.1, γ.2.1, #[u0, u1, u2]) (((W.setCell ⟨x, 0, none⟩ u0).setCell ⟨x, 1, none⟩ u1).setCell ⟨x, 2, none⟩ u2) :=
 ⟨hx, hm, fun _ => hN, fun e => absurd e (by rw [flag_same hs]; decide), fun _ => hv, fun e => absurd e (by rw [flag_ne (by decide), h5]; decide), fun e => absurd e (by rw [flag_ne (by decide), h9]; decide)⟩
theorem StG.step5 {H j : Nat} {γ : StGh} {l : Array Bool} {u v : Value} {E : Int} {w : World} (hf : flag l 5 = false) (ho : flag l 6 = false ∧ flag l 7 = false ∧ flag l 8 = false ∧ flag l 10 = false) (hj : flag l j = true) (h : StG H j γ u w) : StG H j (v, E, γ.2.2) u w := by
 unfold StG at h ⊢
 split at h
 ·exact h
 ·rw [hf] at hj; cases hj
 ·rw [ho.1] at hj; cases hj
 ·rw [ho.2.1] at hj; cases hj
 ·rw [ho.2.2.1] at hj; cases hj
 ·exact h
 ·exact h
def AllSl (cs : Array Value) : Prop := ∀ (i : Nat) (u : Value), cs[i]? = some u → ∃ A n c, u = .slice A n c
def NoSl (xs : List Value) : Prop := ∀ u ∈ xs, ∀ A n c, u ≠ .slice A n c
theorem nosl_flat {α : Type} {f : α → List Value} (h : ∀ x, NoSl (f x)) (l : List α) : NoSl (l.flatMap f) := fun u hu => by
 obtain ⟨x, -, hx⟩ := List.mem_flatMap.1 hu
 exact h x u hx
theorem nosl_nd (l : List Nd) : NoSl (l.flatMap Nd.cells) := nosl_flat (fun x u hu => by simp only [Nd.cells, List.mem_cons, List.not_mem_nil, or_false] at hu; rcases hu with rfl | rfl | rfl <;> (intro A n c e; cases e)) l
theorem nosl_dv (l : List Dv) : NoSl (l.flatMap Dv.cells) := nosl_flat (fun x u hu => by simp only [Dv.cells, List.mem_cons, List.not_mem_nil, or_false] at hu; rcases hu with rfl | rfl | rfl | rfl | rfl <;> (intro A n c e; cases e)) l
theorem nosl_lk (l : List Lk) : NoSl (l.flatMap Lk.cells) := nosl_flat (fun x u hu => by simp only [Lk.cells, List.mem_cons, List.not_mem_nil, or_false] at hu; rcases hu with rfl | rfl | rfl <;> (intro A n c e; cases e)) l
theorem nosl_int (l : List Int) : NoSl (intsV l) := nosl_flat (fun x u hu => by simp only [List.mem_cons, List.not_mem_nil, or_false] at hu; subst hu; intro A n c e; cases e) l
theorem allsl3 (A1 A2 A3 : Option Addr) (n1 c1 n2 c2 n3 c3 : Nat) : AllSl #[.slice A1 n1 c1, .slice A2 n2 c2, .slice A3 n3 c3] := fun i u h => by
 match i, h with
 | 0, h => exact ⟨_, _, _, (Option.some.inj h).symm⟩
 | 1, h => exact ⟨_, _, _, (Option.some.inj h).symm⟩
 | 2, h => exact ⟨_, _, _, (Option.some.inj h).symm⟩
 | i + 3, h => cases h
theorem Sl.apart {w : World} {B size n c x i : Nat} {A : Option Addr} {xs : List Value} {t : TypeId} {cs : Array Value} (h : Sl w B size A n c xs) (hx : Blk w x t cs) (hs : AllSl cs) (hn : NoSl xs) (u : Value) : Sl (w.setCell ⟨x, i, none⟩ u) B size A n c xs := by
 obtain ⟨g1, g2, g3, g4, g5⟩ := h
 refine ⟨g1, g2, g3, g4, fun h => ?_⟩
 obtain ⟨b, off, e, hb, hc⟩ := g5 h
 refine ⟨b, off, e, hb, fun j v hv => ?_⟩
 rw [World.cell?_setCell_other w _ _ u (fun e2 => ?_)]
 ·exact hc j v hv
 ·have h1 := hc j v hv
  rw [← e2, hx.cell i] at h1
  obtain ⟨A', n', c', rfl⟩ := hs i v h1
  exact hn _ (List.mem_of_getElem? hv) _ _ _ rfl
theorem SlX.apart {w : World} {g x i size n c : Nat} {A : Option Addr} {xs : List Value} {t : TypeId} {cs : Array Value} (h : SlX w g size A n c xs) (hx : Blk w x t cs) (hs : AllSl cs) (hn : NoSl xs) (u : Value) : SlX (w.setCell ⟨x, i, none⟩ u) g size A n c xs :=
 ⟨(h.1.apart hx hs hn u).more (by simp), h.2⟩
theorem allsl2 (A1 A2 : Option Addr) (n1 c1 n2 c2 : Nat) : AllSl #[.slice A1 n1 c1, .slice A2 n2 c2] := fun i u h => by
 match i, h with
 | 0, h => exact ⟨_, _, _, (Option.some.inj h).symm⟩
 | 1, h => exact ⟨_, _, _, (Option.some.inj h).symm⟩
 | i + 2, h => cases h
theorem FdX.put {w w0 : World} {g x i nn cn nd cd n c nl cl nt ct : Nat} {An Ad As Al At : Option Addr} {ns : List Nd} {ds : List Dv} {F : Fd} {t : TypeId} {cs : Array Value} (h : FdX g An Ad As Al At nn cn nd cd n c nl cl nt ct ns ds F w) (hx : Blk w x t cs) (hs : AllSl cs) (hg : g < x) (h0 : Laid w0) (hl : w0.heap.size ≤ x) (u : Value) : FdX g An Ad As Al At nn cn nd cd n c nl cl nt ct ns ds F (w.setCell ⟨x, i, none⟩ u) :=
 ⟨h.dk.setCell (p := ⟨x, i, none⟩) hg _, h.hn.apart hx hs (nosl_nd _) u, h.hd.apart hx hs (nosl_dv _) u, h.hs.apart hx hs (nosl_int _) u, h.hl.apart hx hs (nosl_lk _) u, h.ht.apart hx hs (nosl_int _) u, h.la.grown h0 (grown_cell _ ⟨x, i, none⟩ _) hl, h.sn, h.sd⟩
section
variable {w w0 w1 : World} {g b x : Nat} {An Ad As Al At A1 A2 A3 B1 B2 B3 : Option Addr} {nn cn nd cd n c nl cl nt ct n1 c1 n2 c2 n3 c3 m1 d1 m2 d2 m3 d3 : Nat} {ns : List Nd} {ds : List Dv} {F : Fd} {t : TypeId}
theorem Sl.apart3 {B size : Nat} {A : Option Addr} {xs : List Value} (h : Sl w B size A n c xs) (hx : Blk w x t #[.slice B1 m1 d1, .slice B2 m2 d2, .slice B3 m3 d3]) (hn : NoSl xs) : Sl (((w.setCell ⟨x, 0, none⟩ (.slice A1 n1 c1)).setCell ⟨x, 1, none⟩ (.slice A2 n2 c2)).setCell ⟨x, 2, none⟩ (.slice A3 n3 c3)) B size A n c xs :=
 ((h.apart hx (allsl3 _ _ _ _ _ _ _ _ _) hn _).apart (hx.set 0 _) (allsl3 _ _ _ _ _ _ _ _ _) hn _).apart ((hx.set 0 _).set 1 _) (allsl3 _ _ _ _ _ _ _ _ _) hn _
theorem SlX.apart3 {size : Nat} {A : Option Addr} {xs : List Value} (h : SlX w g size A n c xs) (hx : Blk w x t #[.slice B1 m1 d1, .slice B2 m2 d2, .slice B3 m3 d3]) (hn : NoSl xs) : SlX (((w.setCell ⟨x, 0, none⟩ (.slice A1 n1 c1)).setCell ⟨x, 1, none⟩ (.slice A2 n2 c2)).setCell ⟨x, 2, none⟩ (.slice A3 n3 c3)) g size A n c xs :=
 ⟨(h.1.apart3 hx hn).more (by simp), h.2⟩
theorem FdX.out3 (h : FdX g An Ad As Al At nn cn nd cd n c nl cl nt ct ns ds F w) (hx : Blk w x t #[.slice B1 m1 d1, .slice B2 m2 d2, .slice B3 m3 d3]) (hg : g < x) (h0 : Laid w0) (hl : w0.heap.size ≤ x) : FdX g An Ad As Al At nn cn nd cd n c nl cl nt ct ns ds F (((w.setCell ⟨x, 0, none⟩ (.slice A1 n1 c1)).setCell ⟨x, 1, none⟩ (.slice A2 n2 c2)).setCell ⟨x, 2, none⟩ (.slice A3 n3 c3)) :=
 ⟨((h.dk.setCell (p := ⟨x, 0, none⟩) hg _).setCell (p := ⟨x, 1, none⟩) hg _).setCell (p := ⟨x, 2, none⟩) hg _, h.hn.apart3 hx (nosl_nd _), h.hd.apart3 hx (nosl_dv _), h.hs.apart3 hx (nosl_int _), h.hl.apart3 hx (nosl_lk _), h.ht.apart3 hx (nosl_int _), ((h.la.grown h0 (grown_cell _ ⟨x, 0, none⟩ _) hl).grown h0 (grown_cell _ ⟨x, 1, none⟩ _) hl).grown h0 (grown_cell _ ⟨x, 2, none⟩ _) hl, h.sn, h.sd⟩
theorem StM.out3 {w1 : World} {cn' cf : Array Value} (h : StM w1 g b cn' cf w) (hx : b + 2 ≤ x) (u v z : Value) : StM w1 g b cn' cf (((w.setCell ⟨x, 0, none⟩ u).setCell ⟨x, 1, none⟩ v).setCell ⟨x, 2, none⟩ z) := by
 have hb := h.hb
 have f : ∀ {q : Nat} {T : TypeId} {cs : Array Value}, q < x → Blk w q T cs → Blk (((w.setCell ⟨x, 0, none⟩ u).setCell ⟨x, 1, none⟩ v).setCell ⟨x, 2, none⟩ z) q T cs := fun hq hk => ((hk.far (p := ⟨x, 0, none⟩) (by simp; omega) _).far (p := ⟨x, 1, none⟩) (by simp; omega) _).far (p := ⟨x, 2, none⟩) (by simp; omega) _
 exact ⟨grown_set (grown_set (grown_set h.gr (p := ⟨x, 0, none⟩) (by simp; omega) _) (p := ⟨x, 1, none⟩) (by simp; omega) _) (p := ⟨x, 2, none⟩) (by simp; omega) _, f (by omega) h.r0, f (by omega) h.r1, f (by omega) h.b4, f (by omega) h.b6, h.hb⟩
theorem NewOk.out3 {m : Nat} {v : Value} {E : Int} (h : NewOk m g An Ad cn nd cd ns ds v E w) (hx : Blk w x t #[.slice B1 m1 d1, .slice B2 m2 d2, .slice B3 m3 d3]) (hg : g < x) (h0 : Laid w0) (hl : w0.heap.size ≤ x) : NewOk m g An Ad cn nd cd ns ds v E (((w.setCell ⟨x, 0, none⟩ (.slice A1 n1 c1)).setCell ⟨x, 1, none⟩ (.slice A2 n2 c2)).setCell ⟨x, 2, none⟩ (.slice A3 n3 c3)) := by
 obtain ⟨As, Al, At, n, c, nl, cl, nt, ct, h1, h2⟩ := h
 exact ⟨As, Al, At, n, c, nl, cl, nt, ct, h1, fun e => by obtain ⟨F, h3, h4⟩ := h2 e; exact ⟨F, h3.out3 hx hg h0 hl, h4⟩⟩
theorem StG.ten {H j : Nat} {γ : StGh} {vs : Nat → Value} {u v z : Value} {cs : Array Value} (h9 : vs 9 = .pointer (some ⟨x, 0, none⟩)) (hb : Blk w x 35 #[.slice B1 m1 d1, .slice B2 m2 d2, .slice B3 m3 d3]) (hx : H ≤ x) (hc : cs = #[u, v, z]) (h : StG H j γ (vs j) w) : StG H j (γ.1, γ.2.1, cs) (vs j) (((w.setCell ⟨x, 0, none⟩ u).setCell ⟨x, 1, none⟩ v).setCell ⟨x, 2, none⟩ z) := by
 subst hc
 unfold StG at h ⊢
 split at h
 iterate 5 exact h
 ·exact ⟨x, h9, ((hb.set 0 u).set 1 v).set 2 z, hx⟩
 ·exact h
theorem StM.fld {cn' cf : Array Value} {u v z a b' c' : Value} (h : StM w0 g b cn' #[a, b', c'] w) (hf : cf = #[u, v, z]) : StM w0 g b cn' cf (((w.setCell ⟨b + 1, 0, none⟩ u).setCell ⟨b + 1, 1, none⟩ v).setCell ⟨b + 1, 2, none⟩ z) := by
 subst hf
 have hb := h.hb
 have f : ∀ {q : Nat} {T : TypeId} {cs : Array Value}, q ≠ b + 1 → Blk w q T cs → Blk (((w.setCell ⟨b + 1, 0, none⟩ u).setCell ⟨b + 1, 1, none⟩ v).setCell ⟨b + 1, 2, none⟩ z) q T cs := fun hq hk => ((hk.far (p := ⟨b + 1, 0, none⟩) hq _).far (p := ⟨b + 1, 1, none⟩) hq _).far (p := ⟨b + 1, 2, none⟩) hq _
 exact ⟨grown_set (grown_set (grown_set h.gr (p := ⟨b + 1, 0, none⟩) (by simp; omega) _) (p := ⟨b + 1, 1, none⟩) (by simp; omega) _) (p := ⟨b + 1, 2, none⟩) (by simp; omega) _, f (by omega) h.r0, f (by omega) h.r1, f (by omega) h.b4, ((h.b6.set 0 u).set 1 v).set 2 z, h.hb⟩
theorem StM.fin {F : Fd} (h : StM w0 g b #[.slice An 6 cn, .slice Ad nd cd] #[.slice As n c, .slice Al nl cl, .slice At nt ct] w) (hX : FdX g An Ad As Al At 6 cn nd cd n c nl cl nt ct ns ds F w) (hl : g < w0.heap.size) (hlw : Laid w1) (hge : w1.heap.size ≤ g) (hF : fdErr ns ds F = 0) (hn : 9 ≤ nd ∧ nd ≤ 10) (hL : LsF 20 F) :
 StartPost w0 g (.returned (.tuple #[.agg #[.slice An 6 cn, .slice Ad nd cd], .agg #[.slice As n c, .slice Al nl cl, .slice At nt ct]])) (((((w.setCell ⟨w0.heap.size, 0, none⟩ (.slice An 6 cn)).setCell ⟨w0.heap.size, 1, none⟩ (.slice Ad nd cd)).setCell ⟨w0.heap.size + 1, 0, none⟩ (.slice As n c)).setCell ⟨w0.heap.size + 1, 1, none⟩ (.slice Al nl cl)).setCell ⟨w0.heap.size + 1, 2, none⟩ (.slice At nt ct)) := by
 have e1 := ((h.r1.far (p := ⟨w0.heap.size, 0, none⟩) (by simp) (.slice An 6 cn)).far (p := ⟨w0.heap.size, 1, none⟩) (by simp) (.slice Ad nd cd))
 have x1 := hX.put (i := 0) h.r0 (allsl2 _ _ _ _ _ _) hl hlw (by omega) (.slice An 6 cn)
 have x2 := x1.put (i := 1) (h.r0.set 0 (.slice An 6 cn)) (allsl2 _ _ _ _ _ _) hl hlw (by omega) (.slice Ad nd cd)
 refine ⟨An, Ad, As, Al, At, cn, nd, cd, n, c, nl, cl, nt, ct, ns, ds, F, rfl, ?_, x2.out3 e1 (by omega) hlw (by omega), hF, hn, hL⟩
 exact grown_set (grown_set (grown_set (grown_set (grown_set h.gr (p := ⟨w0.heap.size, 0, none⟩) (by simp) _) (p := ⟨w0.heap.size, 1, none⟩) (by simp) _) (p := ⟨w0.heap.size + 1, 0, none⟩) (by simp) _) (p := ⟨w0.heap.size + 1, 1, none⟩) (by simp) _) (p := ⟨w0.heap.size + 1, 2, none⟩) (by simp) _
theorem StartPost.drew {e : Ending} {w' : World} (h : StartPost w g e w') : StartPost w g e w'.drew := by
 obtain ⟨An, Ad, As, Al, At, cn, nd, cd, n, c, nl, cl, nt, ct, ns, ds, F, h1, h2, h3, h4⟩ := h
 exact ⟨An, Ad, As, Al, At, cn, nd, cd, n, c, nl, cl, nt, ct, ns, ds, F, h1, grown_drew h2.out, h3.out.later (Below.refl _ _).drew, h4⟩
end
end Go.Proofs.YtepicjpdhpojnaaGreatDoor
