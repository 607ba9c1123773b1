import Derived.Test.YtlcaebfjdhgcfaaDoorZ36
import Derived.Test.YtlcaebfjdhgcfaaDoorZ13
import Derived.Deep.DeepCutAuto
import Derived.Test.YtlcaebfjdhgcfaaDoorZ16
import Derived.Test.YtlcaebfjdhgcfaaDoorZ04
/-
  law37.event: its walk.
-/
namespace Go.Proofs.YtlcaebfjdhgcfaaDoor
open Go.RowKit
def EvPost (w : World) (g : Nat) (e : Ending) (w' : World) : Prop := ∃ k d p q : Int, e = .returned (.agg #[.int .i64 k, .int .i64 d, .int .i64 p, .int .i64 q]) ∧ q < 801 ∧ Hid (DeckAt w' g) ∧ Hid (w.grownBy w' (some g))
structure EvB (w0 : World) (g : Nat) (An Ad : Option Addr) (nn cn nd cd : Nat) (w : World) : Prop where
  dk : DeckAt w g
  gr : w0.grownBy w (some g)
  b0 : Blk w w0.heap.size 30 #[.slice An nn cn, .slice Ad nd cd]
  b1 : Blk w (w0.heap.size + 1) 37 #[.int .i64 0, .int .i64 0, .int .i64 0, .int .i64 0]
structure EvX (w0 : World) (g x : Nat) (cs : Array Value) (w : World) : Prop where
  dk : DeckAt w g
  gr : w0.grownBy w (some g)
  b1 : Blk w (w0.heap.size + 1) 37 #[.int .i64 0, .int .i64 0, .int .i64 0, .int .i64 0]
  bx : Blk w x 37 cs
  hx : w0.heap.size + 2 ≤ x
section
variable {w0 w w' : World} {g x nn cn nd cd : Nat} {An Ad : Option Addr} {cs : Array Value}
theorem EvB.next (h : EvB w0 g An Ad nn cn nd cd w) (hl : g < w0.heap.size) (hd : DeckAt w' g) (hg : w.grownBy w' (some g)) : EvB w0 g An Ad nn cn nd cd w' := ⟨hd, grown_trans h.gr hg, h.b0.grown hg (by simp; omega), h.b1.grown hg (by simp; omega)⟩
theorem EvB.later (h : EvB w0 g An Ad nn cn nd cd w) (hb : Below w.heap.size w w') : EvB w0 g An Ad nn cn nd cd w' := ⟨h.dk.below hb h.dk.lt, grown_trans h.gr (grown_of_below hb _), h.b0.below hb h.b0.lt, h.b1.below hb h.b1.lt⟩
theorem EvB.alloc (h : EvB w0 g An Ad nn cn nd cd w) (o : Obj) : EvB w0 g An Ad nn cn nd cd (w.alloc o) := h.later ((Below.refl _ _).alloc (Nat.le_refl _) _)
theorem EvX.next (h : EvX w0 g x cs w) (hl : g < w0.heap.size) (hd : DeckAt w' g) (hg : w.grownBy w' (some g)) : EvX w0 g x cs w' := by
  have := h.hx
  exact ⟨hd, grown_trans h.gr hg, h.b1.grown hg (by simp; omega), h.bx.grown hg (by simp; omega), h.hx⟩
theorem EvX.fld (h : EvX w0 g x cs w) (hl : g < w0.heap.size) (j : Nat) (v : Value) : EvX w0 g x (cs.setIfInBounds j v) (w.setCell ⟨x, j, none⟩ v) := by
  have := h.hx
  exact ⟨h.dk.setCell (by simp; omega) _, grown_set h.gr (by simp; omega) _, h.b1.far (by simp; omega) _, h.bx.set j v, h.hx⟩
theorem EvX.mk4 (h : EvB w0 g An Ad nn cn nd cd w) (hx : Blk w x 37 #[.int .i64 0, .int .i64 0, .int .i64 0, .int .i64 0]) (hH : w0.heap.size + 2 ≤ x) (hl : g < w0.heap.size) (a b : Int) :
    EvX w0 g x #[.int .i64 a, .int .i64 b, .int .i64 0, .int .i64 0] ((((w.setCell ⟨x, 0, none⟩ (.int .i64 a)).setCell ⟨x, 1, none⟩ (.int .i64 b)).setCell ⟨x, 2, none⟩ (.int .i64 0)).setCell ⟨x, 3, none⟩ (.int .i64 0)) :=
  (((EvX.fld ⟨h.dk, h.gr, h.b1, hx, hH⟩ hl 0 (.int .i64 a)).fld hl 1 (.int .i64 b)).fld hl 2 (.int .i64 0)).fld hl 3 (.int .i64 0)
theorem EvX.fin (h : EvX w0 g x cs w) (hl : g < w0.heap.size) (k d p q : Int) (hq : q < 801) (a b c e : Value) : EvPost w0 g (.returned (.agg #[.int .i64 k, .int .i64 d, .int .i64 p, .int .i64 q])) ((((w.setCell ⟨w0.heap.size + 1, 0, none⟩ a).setCell ⟨w0.heap.size + 1, 1, none⟩ b).setCell ⟨w0.heap.size + 1, 2, none⟩ c).setCell ⟨w0.heap.size + 1, 3, none⟩ e) :=
  ⟨k, d, p, q, rfl, hq, (((h.dk.setCell (by simp; omega) _).setCell (by simp; omega) _).setCell (by simp; omega) _).setCell (by simp; omega) _, grown_set (grown_set (grown_set (grown_set h.gr (by simp) _) (by simp) _) (by simp) _) (by simp) _⟩
end
/-- What the drawn region holds. -/
def EvG (H : Nat) (j : Nat) (_ : Unit) (v : Value) (w : World) : Prop := match j with
  | 1 => ∃ r : Int, v = .int .i64 r ∧ r < 7 ∧ 0 ≤ r
  | 2 => ∃ r : Int, v = .int .i64 r
  | 7 => ∃ r : Int, v = .int .i64 r
  | 8 => ∃ a b : Int, v = .agg #[.int .i64 a, .int .i64 b, .int .i64 0, .int .i64 0]
  | 9 => ∃ x, v = .pointer (some ⟨x, 0, none⟩) ∧ Blk w x 37 #[.int .i64 0, .int .i64 0, .int .i64 0, .int .i64 0] ∧ H ≤ x
  | _ => True
theorem EvG.later {H j : Nat} {u : Unit} {v : Value} {w w' : World} (h : EvG H j u v w) (hb : Below w.heap.size w w') : EvG H j u v w' := by
  unfold EvG at h ⊢
  split at h
  iterate 4 exact h
  · obtain ⟨x, h1, h2, h3⟩ := h; exact ⟨x, h1, h2.below hb h2.lt, h3⟩
  · exact h
theorem EvG.grown {g H j : Nat} {u : Unit} {v : Value} {w w' : World} (h : EvG (H + 2) j u v w) (hg : w.grownBy w' (some g)) (hl : g < H) : EvG (H + 2) j u v w' := by
  unfold EvG at h ⊢
  split at h
  iterate 4 exact h
  · obtain ⟨x, h1, h2, h3⟩ := h; exact ⟨x, h1, h2.grown hg (fun e => by injection e; omega), h3⟩
  · exact h
set_option maxRecDepth 100000 in
set_option maxHeartbeats 16000000 in
theorem event_any (g : Nat) (An Ad : Option Addr) (nn cn nd cd : Nat) (w : World) (hd : DeckAt w g) (hnd : nd ≤ 1000000) : Calls Tryd.prog 10 #[.pointer (some ⟨g, 0, none⟩), .agg #[.slice An nn cn, .slice Ad nd cd]] w (EvPost w g) := by
  have hgl := hd.lt
  have HD := Lib.hid hd; clear hd
  go_enter Tryd.func10, Tryd.ntmps10
  go_upto_region 1 with (fail)
  have HB0 : Hid (EvB w g An Ad nn cn nd cd ((w.alloc (.cells #[.slice An nn cn, .slice Ad nd cd] 30)).alloc (.cells #[.int .i64 0, .int .i64 0, .int .i64 0, .int .i64 0] 37))) := by
    refine ⟨(HD.out.alloc _).alloc _, grown_of_below (((Below.refl _ _).alloc (Nat.le_refl _) _).alloc (by simp) _) _, (Blk.new w _ _).alloc _, ?_⟩
    have := Blk.new (w.alloc (.cells #[.slice An nn cn, .slice Ad nd cd] 30)) 37 #[.int .i64 0, .int .i64 0, .int .i64 0, .int .i64 0]
    rw [World.size_alloc] at this
    exact this
  generalize World.alloc (World.alloc _ _) _ = wa at *
  have HB1 := Lib.hid (HB0.out.later (Below.refl _ _).drew)
  refine wp_region_phi (S := fun W' => W'.cell? ⟨w.heap.size, 1, none⟩ = some (.slice Ad nd cd)) (J := []) (n := _) ((0, true) :: (3, true) :: (4, true) :: (5, true) :: (6, true) :: []) ((10, false) :: []) (phiG [(1, []), (2, [1]), (7, [1]), (8, [2, 7]), (9, [])]) 5 #[true, false, false, true, true, true, true, false, false, false, false] #[true, true, true, true, true, true, true, true, true, true, false] (by as_aux_lemma => kernel_rfl) (by rfl) (base_cons (k := 0) (by go_simp; rfl) (base_cons (k := 3) (by go_simp; rfl) base_nil)) ?_ (fun _ _ _ _ _ h => h) (fun Q2 A hsz hbase hn2 hHeld => ?_)
  · exact HB1.out.b0.cell 1
  try dsimp only at hHeld
  obtain ⟨b0, b3, -⟩ := hbase
  refine ⟨Phi A [(1, 7), (2, 8), (7, 13), (8, 14), (9, 5)] [(12, .int .i64 (nd : Int)), (11, .slice Ad nd cd), (10, .pointer (some ⟨w.heap.size, 1, none⟩)), (9, .pointer (some ⟨g, 0, none⟩)), (6, .pointer (some ⟨g, 0, none⟩))] 11 (EvB w g An Ad nn cn nd cd) (EvG (w.heap.size + 2)), ?_, ?_, ?_⟩
  · refine ord_move (i := 0) (d := 6) (v := ?_) rfl rfl rfl (wanted_none rfl) hHeld (fun ρ hρ => ?_) ?_
    rotate_left
    · (have e0 := Eq.trans (hρ.tmp hsz 0 rfl) (lkp_base b0); exact e0)
    show wpOrd _ _ _ _ _ _ _ _
    refine ord_move (i := 3) (d := 9) (v := ?_) rfl rfl rfl (wanted_none rfl) hHeld (fun ρ hρ => ?_) ?_
    rotate_left
    · (have e0 := Eq.trans (hρ.tmp hsz 0 rfl) (miss1 rfl (lkp_base b0)); exact e0)
    show wpOrd _ _ _ _ _ _ _ _
    refine ord_take (i := 4) (d := 10) (v := ?_) rfl rfl (wanted_none rfl) hHeld (fun ρ hρ w hSw => ?_) ?_
    rotate_left
    · (have e3 := Eq.trans (hρ.tmp hsz 3 rfl) (miss1 rfl (miss1 rfl (lkp_base b3))); clear hρ; (try dsimp only at hSw); go_simp; try with_reducible rfl)
    show wpOrd _ _ _ _ _ _ _ _
    refine ord_take (i := 5) (d := 11) (v := ?_) rfl rfl (wanted_none rfl) hHeld (fun ρ hρ w hSw => ?_) ?_
    rotate_left
    · (have e10 := Eq.trans (hρ.tmp hsz 10 rfl) lkp_hit; clear hρ; (try dsimp only at hSw); go_simp; try with_reducible rfl)
    show wpOrd _ _ _ _ _ _ _ _
    refine ord_take (i := 6) (d := 12) (v := ?_) rfl rfl (wanted_none rfl) hHeld (fun ρ hρ w hSw => ?_) ?_
    rotate_left
    · (have e11 := Eq.trans (hρ.tmp hsz 11 rfl) lkp_hit; clear hρ; (try dsimp only at hSw); go_simp; try with_reducible rfl)
    show wpOrd _ _ _ _ _ _ _ _
    exact lat_pre (phi_start (l := #[true, false, false, true, true, true, true, false, false, false, false]) () (by decide) rfl HB1.out)
  · intro l i a w0 hg h
    obtain ⟨vs, γ, hl, rfl, hB, hG⟩ := h
    obtain ⟨hf, ds, hm, hds⟩ := phiG_out hg
    clear hg
    simp only [List.mem_cons, Prod.mk.injEq, List.not_mem_nil, or_false] at hm
    rcases hm with ⟨rfl, rfl⟩ | ⟨rfl, rfl⟩ | ⟨rfl, rfl⟩ | ⟨rfl, rfl⟩ | ⟨rfl, rfl⟩
    · clear hds
      refine lat_call (d := 7) (vs := #[.pointer (some ⟨g, 0, none⟩), .int .i64 7]) rfl rfl rfl rfl (fun ρ hρ => ?_) ?_ ?_
      · (have hc := hρ.const; have e6 := Eq.trans (hρ.tmp hsz 6 rfl) ((slots_miss _ rfl (miss1 rfl (miss1 rfl (miss1 rfl (miss1 rfl lkp_hit)))))); simp only [List.map_toArray, List.map_cons, List.map_nil, e6, hc])
      · (intro w; go_simp)
      refine (next_any g 7 w0 hB.dk (by decide)).mono ?_
      rintro e w6 ⟨r, rfl, r0, r1, r2, hd6, hg6, hs6⟩
      refine ⟨_, rfl, fun _ => ((hB.next hgl hd6.out hg6.out)).b0.cell 1, phi_step (γ' := γ) (by decide) (by decide) hl (by decide) hf (hB.next hgl hd6.out hg6.out) hG (fun j u _ _ h => h.grown hg6.out hgl) (⟨r, rfl, by first | exact r2.out (by decide) | trivial, r0⟩)⟩
    · have f1 : flag l 1 = true := hds 1 (by simp)
      have G1 := hG 1 f1 (by decide)
      clear hds
      obtain ⟨r, h1, ra, rb⟩ := G1
      have hwr : IntKind.i64.wrap (1 + r) = 1 + r := IntWalk.i64_in _ (by omega)
      refine lat_run (d := 8) (v := ?_) (w' := ?_) rfl rfl rfl (fun ρ hρ => ?_) ?_
      rotate_left 2
      · (have hc := hρ.const; have e7 := Eq.trans (hρ.tmp hsz 7 rfl) ((slots_get (i := 1) f1 _ (by decide) (by decide)).trans h1); clear hρ; go_simp; first | with_reducible rfl | (constructor <;> with_reducible rfl))
      exact ⟨fun _ => ((hB)).b0.cell 1, phi_step (γ' := γ) (by decide) (by decide) hl (by decide) hf (hB) hG (fun j u _ _ h => h) (⟨1 + r, rfl⟩)⟩
    · have f1 : flag l 1 = true := hds 1 (by simp)
      have G1 := hG 1 f1 (by decide)
      clear hds
      refine lat_call (d := 13) (vs := #[.pointer (some ⟨g, 0, none⟩), .int .i64 (nd : Int)]) rfl rfl rfl rfl (fun ρ hρ => ?_) ?_ ?_
      · (have e9 := Eq.trans (hρ.tmp hsz 9 rfl) ((slots_miss _ rfl (miss1 rfl (miss1 rfl (miss1 rfl lkp_hit))))); have e12 := Eq.trans (hρ.tmp hsz 12 rfl) ((slots_miss _ rfl lkp_hit)); simp only [List.map_toArray, List.map_cons, List.map_nil, e9, e12])
      · (intro w; go_simp)
      refine (next_any g (nd : Int) w0 hB.dk (by omega)).mono ?_
      rintro e w6 ⟨r, rfl, r0, r1, r2, hd6, hg6, hs6⟩
      refine ⟨_, rfl, fun _ => ((hB.next hgl hd6.out hg6.out)).b0.cell 1, phi_step (γ' := γ) (by decide) (by decide) hl (by decide) hf (hB.next hgl hd6.out hg6.out) hG (fun j u _ _ h => h.grown hg6.out hgl) (⟨r, rfl⟩)⟩
    · have f2 : flag l 2 = true := hds 2 (by simp)
      have f7 : flag l 7 = true := hds 7 (by simp)
      have G2 := hG 2 f2 (by decide)
      have G7 := hG 7 f7 (by decide)
      clear hds
      obtain ⟨r, h2⟩ := G2
      obtain ⟨s, h7⟩ := G7
      refine lat_run (d := 14) (v := ?_) (w' := ?_) rfl rfl rfl (fun ρ hρ => ?_) ?_
      rotate_left 2
      · (have e8 := Eq.trans (hρ.tmp hsz 8 rfl) ((slots_get (i := 2) f2 _ (by decide) (by decide)).trans h2); have e13 := Eq.trans (hρ.tmp hsz 13 rfl) ((slots_get (i := 7) f7 _ (by decide) (by decide)).trans h7); clear hρ; go_simp; first | with_reducible rfl | (constructor <;> with_reducible rfl))
      exact ⟨fun _ => ((hB)).b0.cell 1, phi_step (γ' := γ) (by decide) (by decide) hl (by decide) hf (hB) hG (fun j u _ _ h => h) (⟨r, s, rfl⟩)⟩
    · clear hds
      refine lat_run (d := 5) (v := ?_) (w' := ?_) rfl rfl rfl (fun ρ hρ => ?_) ?_
      rotate_left 2
      · (skip; clear hρ; go_simp; first | with_reducible rfl | (constructor <;> with_reducible rfl))
      exact ⟨fun _ => ((hB.alloc _)).b0.cell 1, phi_step (γ' := γ) (by decide) (by decide) hl (by decide) hf (hB.alloc _) hG (fun j u _ _ h => h.later ((Below.refl _ _).alloc (Nat.le_refl _) _)) (⟨w0.heap.size, rfl, Blk.new _ _ _, hB.b1.lt⟩)⟩
  intro a w0 h
  obtain ⟨vs, γ, -, rfl, hB, hG⟩ := h
  show wpOrd _ _ _ _ _ _ (puts A ((7, vs 1) :: (8, vs 2) :: (13, vs 7) :: (14, vs 8) :: (5, vs 9) :: [(12, .int .i64 (nd : Int)), (11, .slice Ad nd cd), (10, .pointer (some ⟨w.heap.size, 1, none⟩)), (9, .pointer (some ⟨g, 0, none⟩)), (6, .pointer (some ⟨g, 0, none⟩))])) _
  replace hHeld : (fun W' => W'.cell? ⟨w.heap.size, 1, none⟩ = some (.slice Ad nd cd)) w0 := (hB).b0.cell 1
  obtain ⟨a, b, h8⟩ := hG 8 rfl (by decide)
  obtain ⟨x, h9, hx, hxH⟩ := hG 9 rfl (by decide)
  obtain ⟨v1, hv1⟩ : ∃ v, v = vs 1 := ⟨_, rfl⟩
  obtain ⟨v2, hv2⟩ : ∃ v, v = vs 2 := ⟨_, rfl⟩
  obtain ⟨v7, hv7⟩ : ∃ v, v = vs 7 := ⟨_, rfl⟩
  rw [h8, h9, ← hv1, ← hv2, ← hv7]
  clear h8 h9 hG hv1 hv2 hv7 vs
  have c0 := hx.cell 0
  have c1 := hx.cell 1
  have c2 := hx.cell 2
  have c3 := hx.cell 3
  have y0 := hx.frozen 0
  have y1 := hx.frozen 1
  have y2 := hx.frozen 2
  have y3 := hx.frozen 3
  have HX := Lib.hid (EvX.mk4 hB hx hxH hgl a b)
  have HS : Hid (((((w0.setCell ⟨x, 0, none⟩ (.int .i64 a)).setCell ⟨x, 1, none⟩ (.int .i64 b)).setCell ⟨x, 2, none⟩ (.int .i64 0)).setCell ⟨x, 3, none⟩ (.int .i64 0)).cell? ⟨w.heap.size, 1, none⟩ = some (.slice Ad nd cd)) := ((((hB.b0.far (by simp; omega) _).far (by simp; omega) _).far (by simp; omega) _).far (by simp; omega) _).cell 1
  clear hx hB
  show wpOrd _ _ _ _ _ _ _ _
  refine ord_store (i := 10) (w' := ?_) rfl rfl (wanted_none rfl) (fun ρ hρ => ?_) (fun _ => ?_) ?_
  rotate_left
  · (have e5 := Eq.trans (hρ.tmp hsz 5 rfl) (miss4 rfl rfl rfl rfl lkp_hit); have e14 := Eq.trans (hρ.tmp hsz 14 rfl) (miss1 rfl (miss1 rfl (miss1 rfl lkp_hit))); clear hρ; go_simp; try with_reducible rfl)
  · exact ((((HS.out))))
  show wpOrd _ _ _ _ _ _ _ _
  refine ord_done hn2 ?_
  clear hHeld hn2 b0 b3 hsz A Q2
  simp only [puts_nil, puts_cons, put_lit, set_1, set_0]
  clear c0 c1 c2 c3 y0 y1 y2 y3
  generalize World.setCell (World.setCell (World.setCell (World.setCell _ _ _) _ _) _ _) _ _ = w2 at *
  clear HS HB1 HB0 HD
  have ca := HX.out.bx.cell 0
  go_upto_region 3 with (fail)
  clear ca
  by_cases h1 : a = 1
  · have qa1 : (a == 1) = true := by simpa using h1
    clear h1
    go_wp2_with fail
    refine (next_any g 2 w2 HX.out.dk (by decide)).mono ?_
    rintro e wy ⟨y, rfl, r0, r1, r2, hd6, hg6, hs6⟩
    have r3 : y < 2 := r2.out (by decide)
    have HY := Lib.hid (HX.out.next hgl hd6.out hg6.out)
    clear hd6 hg6 hs6 r1 r2 HX
    have hwy : IntKind.i64.wrap (1 + y) = 1 + y := IntWalk.i64_in _ (by omega)
    have c2 := HY.out.bx.cell 2
    have y2 := HY.out.bx.frozen 2
    have H3 := Lib.hid (HY.out.fld hgl 2 (.int .i64 (1 + y)))
    go_upto_region 10 with (fail)
    clear c2 y2 HY hwy r0 r3
    generalize World.setCell wy _ _ = w3 at *
    go_wp2_with fail
    refine (next_any g 20 w3 H3.out.dk (by decide)).mono ?_
    rintro e wu ⟨u, rfl, r0, r1, r2, hd6, hg6, hs6⟩
    have r3 : u < 20 := r2.out (by decide)
    have HU := Lib.hid (H3.out.next hgl hd6.out hg6.out)
    clear hd6 hg6 hs6 r1 r2 H3
    by_cases hu0 : u = 0
    · have qu0 : (u == 0) = true := by simpa using hu0
      clear hu0
      go_wp2_with fail
      refine (next_any g 4 wu HU.out.dk (by decide)).mono ?_
      rintro e wv ⟨v, rfl, r0, r1, r2, hd6, hg6, hs6⟩
      have r3 : v < 4 := r2.out (by decide)
      have HV := Lib.hid (HU.out.next hgl hd6.out hg6.out)
      clear hd6 hg6 hs6 r1 r2 HU
      have c2 := HV.out.bx.cell 2
      have y2 := HV.out.bx.frozen 2
      have HW := Lib.hid (HV.out.fld hgl 2 (.int .i64 (v)))
      go_upto_region 17 with (fail)
      clear c2 y2 HV
      generalize World.setCell wv _ _ = ww at *
      have c0 := HW.out.bx.cell 0
      have c1 := HW.out.bx.cell 1
      have c2 := HW.out.bx.cell 2
      have c3 := HW.out.bx.cell 3
      have d0 := HW.out.b1.cell 0
      have d1 := HW.out.b1.cell 1
      have d2 := HW.out.b1.cell 2
      have d3 := HW.out.b1.cell 3
      have y0 := HW.out.b1.frozen 0
      have y1 := HW.out.b1.frozen 1
      have y2 := HW.out.b1.frozen 2
      have y3 := HW.out.b1.frozen 3
      have HF := Lib.hid (HW.out.fin hgl (a) b (v) (0) (by omega) (.int .i64 (a)) (.int .i64 b) (.int .i64 (v)) (.int .i64 (0)))
      have HB := Lib.hid ((((HW.out.b1.set 0 (.int .i64 (a))).set 1 (.int .i64 b)).set 2 (.int .i64 (v))).set 3 (.int .i64 (0)))
      go_wp2_with fail
      clear c0 c1 c2 c3 d0 d1 d2 d3 y0 y1 y2 y3
      generalize World.setCell (World.setCell (World.setCell (World.setCell _ _ _) _ _) _ _) _ _ = wz at *
      have t0 : wz.cell? ⟨w.heap.size + 1, 0, none⟩ = some (.int .i64 (a)) := HB.out.cell 0
      have t1 : wz.cell? ⟨w.heap.size + 1, 1, none⟩ = some (.int .i64 (b)) := HB.out.cell 1
      have t2 : wz.cell? ⟨w.heap.size + 1, 2, none⟩ = some (.int .i64 (v)) := HB.out.cell 2
      have t3 : wz.cell? ⟨w.heap.size + 1, 3, none⟩ = some (.int .i64 (0)) := HB.out.cell 3
      exact bodyPost_ret (v := .agg #[.int .i64 (a), .int .i64 b, .int .i64 (v), .int .i64 (0)]) (by simp [results, Tryd.results10, go_sem, t0, t1, t2, t3]) rfl HF.out
    have qu0 : (u == 0) = false := by simpa using hu0
    clear hu0
    by_cases hu1 : u = 1
    · have qu1 : (u == 1) = true := by simpa using hu1
      clear hu1
      go_wp2_with fail
      refine (next_any g 3 wu HU.out.dk (by decide)).mono ?_
      rintro e wv ⟨v, rfl, r0, r1, r2, hd6, hg6, hs6⟩
      have r3 : v < 3 := r2.out (by decide)
      have HV := Lib.hid (HU.out.next hgl hd6.out hg6.out)
      clear hd6 hg6 hs6 r1 r2 HU
      have c3 := HV.out.bx.cell 3
      have y3 := HV.out.bx.frozen 3
      have HW := Lib.hid (HV.out.fld hgl 3 (.int .i64 (v)))
      go_upto_region 17 with (fail)
      clear c3 y3 HV
      generalize World.setCell wv _ _ = ww at *
      have c0 := HW.out.bx.cell 0
      have c1 := HW.out.bx.cell 1
      have c2 := HW.out.bx.cell 2
      have c3 := HW.out.bx.cell 3
      have d0 := HW.out.b1.cell 0
      have d1 := HW.out.b1.cell 1
      have d2 := HW.out.b1.cell 2
      have d3 := HW.out.b1.cell 3
      have y0 := HW.out.b1.frozen 0
      have y1 := HW.out.b1.frozen 1
      have y2 := HW.out.b1.frozen 2
      have y3 := HW.out.b1.frozen 3
      have HF := Lib.hid (HW.out.fin hgl (a) b (1 + y) (v) (by omega) (.int .i64 (a)) (.int .i64 b) (.int .i64 (1 + y)) (.int .i64 (v)))
      have HB := Lib.hid ((((HW.out.b1.set 0 (.int .i64 (a))).set 1 (.int .i64 b)).set 2 (.int .i64 (1 + y))).set 3 (.int .i64 (v)))
      go_wp2_with fail
      clear c0 c1 c2 c3 d0 d1 d2 d3 y0 y1 y2 y3
      generalize World.setCell (World.setCell (World.setCell (World.setCell _ _ _) _ _) _ _) _ _ = wz at *
      have t0 : wz.cell? ⟨w.heap.size + 1, 0, none⟩ = some (.int .i64 (a)) := HB.out.cell 0
      have t1 : wz.cell? ⟨w.heap.size + 1, 1, none⟩ = some (.int .i64 (b)) := HB.out.cell 1
      have t2 : wz.cell? ⟨w.heap.size + 1, 2, none⟩ = some (.int .i64 (1 + y)) := HB.out.cell 2
      have t3 : wz.cell? ⟨w.heap.size + 1, 3, none⟩ = some (.int .i64 (v)) := HB.out.cell 3
      exact bodyPost_ret (v := .agg #[.int .i64 (a), .int .i64 b, .int .i64 (1 + y), .int .i64 (v)]) (by simp [results, Tryd.results10, go_sem, t0, t1, t2, t3]) rfl HF.out
    have qu1 : (u == 1) = false := by simpa using hu1
    clear hu1
    by_cases hu2 : u = 2
    · have qu2 : (u == 2) = true := by simpa using hu2
      clear hu2
      go_wp2_with fail
      refine (next_any g 10 wu HU.out.dk (by decide)).mono ?_
      rintro e wv ⟨v, rfl, r0, r1, r2, hd6, hg6, hs6⟩
      have r3 : v < 10 := r2.out (by decide)
      have HV := Lib.hid (HU.out.next hgl hd6.out hg6.out)
      clear hd6 hg6 hs6 r1 r2 HU
      have c0 := HV.out.bx.cell 0
      have y0 := HV.out.bx.frozen 0
      have HW := Lib.hid (HV.out.fld hgl 0 (.int .i64 (v)))
      go_upto_region 17 with (fail)
      clear c0 y0 HV
      generalize World.setCell wv _ _ = ww at *
      have c0 := HW.out.bx.cell 0
      have c1 := HW.out.bx.cell 1
      have c2 := HW.out.bx.cell 2
      have c3 := HW.out.bx.cell 3
      have d0 := HW.out.b1.cell 0
      have d1 := HW.out.b1.cell 1
      have d2 := HW.out.b1.cell 2
      have d3 := HW.out.b1.cell 3
      have y0 := HW.out.b1.frozen 0
      have y1 := HW.out.b1.frozen 1
      have y2 := HW.out.b1.frozen 2
      have y3 := HW.out.b1.frozen 3
      have HF := Lib.hid (HW.out.fin hgl (v) b (1 + y) (0) (by omega) (.int .i64 (v)) (.int .i64 b) (.int .i64 (1 + y)) (.int .i64 (0)))
      have HB := Lib.hid ((((HW.out.b1.set 0 (.int .i64 (v))).set 1 (.int .i64 b)).set 2 (.int .i64 (1 + y))).set 3 (.int .i64 (0)))
      go_wp2_with fail
      clear c0 c1 c2 c3 d0 d1 d2 d3 y0 y1 y2 y3
      generalize World.setCell (World.setCell (World.setCell (World.setCell _ _ _) _ _) _ _) _ _ = wz at *
      have t0 : wz.cell? ⟨w.heap.size + 1, 0, none⟩ = some (.int .i64 (v)) := HB.out.cell 0
      have t1 : wz.cell? ⟨w.heap.size + 1, 1, none⟩ = some (.int .i64 (b)) := HB.out.cell 1
      have t2 : wz.cell? ⟨w.heap.size + 1, 2, none⟩ = some (.int .i64 (1 + y)) := HB.out.cell 2
      have t3 : wz.cell? ⟨w.heap.size + 1, 3, none⟩ = some (.int .i64 (0)) := HB.out.cell 3
      exact bodyPost_ret (v := .agg #[.int .i64 (v), .int .i64 b, .int .i64 (1 + y), .int .i64 (0)]) (by simp [results, Tryd.results10, go_sem, t0, t1, t2, t3]) rfl HF.out
    have qu2 : (u == 2) = false := by simpa using hu2
    clear hu2
    go_upto_region 17 with (fail)
    have c0 := HU.out.bx.cell 0
    have c1 := HU.out.bx.cell 1
    have c2 := HU.out.bx.cell 2
    have c3 := HU.out.bx.cell 3
    have d0 := HU.out.b1.cell 0
    have d1 := HU.out.b1.cell 1
    have d2 := HU.out.b1.cell 2
    have d3 := HU.out.b1.cell 3
    have y0 := HU.out.b1.frozen 0
    have y1 := HU.out.b1.frozen 1
    have y2 := HU.out.b1.frozen 2
    have y3 := HU.out.b1.frozen 3
    have HF := Lib.hid (HU.out.fin hgl (a) b (1 + y) (0) (by omega) (.int .i64 (a)) (.int .i64 b) (.int .i64 (1 + y)) (.int .i64 (0)))
    have HB := Lib.hid ((((HU.out.b1.set 0 (.int .i64 (a))).set 1 (.int .i64 b)).set 2 (.int .i64 (1 + y))).set 3 (.int .i64 (0)))
    go_wp2_with fail
    clear c0 c1 c2 c3 d0 d1 d2 d3 y0 y1 y2 y3
    generalize World.setCell (World.setCell (World.setCell (World.setCell _ _ _) _ _) _ _) _ _ = wz at *
    have t0 : wz.cell? ⟨w.heap.size + 1, 0, none⟩ = some (.int .i64 (a)) := HB.out.cell 0
    have t1 : wz.cell? ⟨w.heap.size + 1, 1, none⟩ = some (.int .i64 (b)) := HB.out.cell 1
    have t2 : wz.cell? ⟨w.heap.size + 1, 2, none⟩ = some (.int .i64 (1 + y)) := HB.out.cell 2
    have t3 : wz.cell? ⟨w.heap.size + 1, 3, none⟩ = some (.int .i64 (0)) := HB.out.cell 3
    exact bodyPost_ret (v := .agg #[.int .i64 (a), .int .i64 b, .int .i64 (1 + y), .int .i64 (0)]) (by simp [results, Tryd.results10, go_sem, t0, t1, t2, t3]) rfl HF.out
  have qa1 : (a == 1) = false := by simpa using h1
  clear h1
  by_cases h3 : a = 3
  · have qa3 : (a == 3) = true := by simpa using h3
    clear h3
    go_wp2_with fail
    refine (next_any g 2 w2 HX.out.dk (by decide)).mono ?_
    rintro e wy ⟨y, rfl, r0, r1, r2, hd6, hg6, hs6⟩
    have r3 : y < 2 := r2.out (by decide)
    have HY := Lib.hid (HX.out.next hgl hd6.out hg6.out)
    clear hd6 hg6 hs6 r1 r2 HX
    have hwy : IntKind.i64.wrap (1 + y) = 1 + y := IntWalk.i64_in _ (by omega)
    have c2 := HY.out.bx.cell 2
    have y2 := HY.out.bx.frozen 2
    have H3 := Lib.hid (HY.out.fld hgl 2 (.int .i64 (1 + y)))
    go_upto_region 10 with (fail)
    clear c2 y2 HY hwy r0 r3
    generalize World.setCell wy _ _ = w3 at *
    go_wp2_with fail
    refine (next_any g 20 w3 H3.out.dk (by decide)).mono ?_
    rintro e wu ⟨u, rfl, r0, r1, r2, hd6, hg6, hs6⟩
    have r3 : u < 20 := r2.out (by decide)
    have HU := Lib.hid (H3.out.next hgl hd6.out hg6.out)
    clear hd6 hg6 hs6 r1 r2 H3
    by_cases hu0 : u = 0
    · have qu0 : (u == 0) = true := by simpa using hu0
      clear hu0
      go_wp2_with fail
      refine (next_any g 4 wu HU.out.dk (by decide)).mono ?_
      rintro e wv ⟨v, rfl, r0, r1, r2, hd6, hg6, hs6⟩
      have r3 : v < 4 := r2.out (by decide)
      have HV := Lib.hid (HU.out.next hgl hd6.out hg6.out)
      clear hd6 hg6 hs6 r1 r2 HU
      have c2 := HV.out.bx.cell 2
      have y2 := HV.out.bx.frozen 2
      have HW := Lib.hid (HV.out.fld hgl 2 (.int .i64 (v)))
      go_upto_region 17 with (fail)
      clear c2 y2 HV
      generalize World.setCell wv _ _ = ww at *
      have c0 := HW.out.bx.cell 0
      have c1 := HW.out.bx.cell 1
      have c2 := HW.out.bx.cell 2
      have c3 := HW.out.bx.cell 3
      have d0 := HW.out.b1.cell 0
      have d1 := HW.out.b1.cell 1
      have d2 := HW.out.b1.cell 2
      have d3 := HW.out.b1.cell 3
      have y0 := HW.out.b1.frozen 0
      have y1 := HW.out.b1.frozen 1
      have y2 := HW.out.b1.frozen 2
      have y3 := HW.out.b1.frozen 3
      have HF := Lib.hid (HW.out.fin hgl (a) b (v) (0) (by omega) (.int .i64 (a)) (.int .i64 b) (.int .i64 (v)) (.int .i64 (0)))
      have HB := Lib.hid ((((HW.out.b1.set 0 (.int .i64 (a))).set 1 (.int .i64 b)).set 2 (.int .i64 (v))).set 3 (.int .i64 (0)))
      go_wp2_with fail
      clear c0 c1 c2 c3 d0 d1 d2 d3 y0 y1 y2 y3
      generalize World.setCell (World.setCell (World.setCell (World.setCell _ _ _) _ _) _ _) _ _ = wz at *
      have t0 : wz.cell? ⟨w.heap.size + 1, 0, none⟩ = some (.int .i64 (a)) := HB.out.cell 0
      have t1 : wz.cell? ⟨w.heap.size + 1, 1, none⟩ = some (.int .i64 (b)) := HB.out.cell 1
      have t2 : wz.cell? ⟨w.heap.size + 1, 2, none⟩ = some (.int .i64 (v)) := HB.out.cell 2
      have t3 : wz.cell? ⟨w.heap.size + 1, 3, none⟩ = some (.int .i64 (0)) := HB.out.cell 3
      exact bodyPost_ret (v := .agg #[.int .i64 (a), .int .i64 b, .int .i64 (v), .int .i64 (0)]) (by simp [results, Tryd.results10, go_sem, t0, t1, t2, t3]) rfl HF.out
    have qu0 : (u == 0) = false := by simpa using hu0
    clear hu0
    by_cases hu1 : u = 1
    · have qu1 : (u == 1) = true := by simpa using hu1
      clear hu1
      go_wp2_with fail
      refine (next_any g 3 wu HU.out.dk (by decide)).mono ?_
      rintro e wv ⟨v, rfl, r0, r1, r2, hd6, hg6, hs6⟩
      have r3 : v < 3 := r2.out (by decide)
      have HV := Lib.hid (HU.out.next hgl hd6.out hg6.out)
      clear hd6 hg6 hs6 r1 r2 HU
      have c3 := HV.out.bx.cell 3
      have y3 := HV.out.bx.frozen 3
      have HW := Lib.hid (HV.out.fld hgl 3 (.int .i64 (v)))
      go_upto_region 17 with (fail)
      clear c3 y3 HV
      generalize World.setCell wv _ _ = ww at *
      have c0 := HW.out.bx.cell 0
      have c1 := HW.out.bx.cell 1
      have c2 := HW.out.bx.cell 2
      have c3 := HW.out.bx.cell 3
      have d0 := HW.out.b1.cell 0
      have d1 := HW.out.b1.cell 1
      have d2 := HW.out.b1.cell 2
      have d3 := HW.out.b1.cell 3
      have y0 := HW.out.b1.frozen 0
      have y1 := HW.out.b1.frozen 1
      have y2 := HW.out.b1.frozen 2
      have y3 := HW.out.b1.frozen 3
      have HF := Lib.hid (HW.out.fin hgl (a) b (1 + y) (v) (by omega) (.int .i64 (a)) (.int .i64 b) (.int .i64 (1 + y)) (.int .i64 (v)))
      have HB := Lib.hid ((((HW.out.b1.set 0 (.int .i64 (a))).set 1 (.int .i64 b)).set 2 (.int .i64 (1 + y))).set 3 (.int .i64 (v)))
      go_wp2_with fail
      clear c0 c1 c2 c3 d0 d1 d2 d3 y0 y1 y2 y3
      generalize World.setCell (World.setCell (World.setCell (World.setCell _ _ _) _ _) _ _) _ _ = wz at *
      have t0 : wz.cell? ⟨w.heap.size + 1, 0, none⟩ = some (.int .i64 (a)) := HB.out.cell 0
      have t1 : wz.cell? ⟨w.heap.size + 1, 1, none⟩ = some (.int .i64 (b)) := HB.out.cell 1
      have t2 : wz.cell? ⟨w.heap.size + 1, 2, none⟩ = some (.int .i64 (1 + y)) := HB.out.cell 2
      have t3 : wz.cell? ⟨w.heap.size + 1, 3, none⟩ = some (.int .i64 (v)) := HB.out.cell 3
      exact bodyPost_ret (v := .agg #[.int .i64 (a), .int .i64 b, .int .i64 (1 + y), .int .i64 (v)]) (by simp [results, Tryd.results10, go_sem, t0, t1, t2, t3]) rfl HF.out
    have qu1 : (u == 1) = false := by simpa using hu1
    clear hu1
    by_cases hu2 : u = 2
    · have qu2 : (u == 2) = true := by simpa using hu2
      clear hu2
      go_wp2_with fail
      refine (next_any g 10 wu HU.out.dk (by decide)).mono ?_
      rintro e wv ⟨v, rfl, r0, r1, r2, hd6, hg6, hs6⟩
      have r3 : v < 10 := r2.out (by decide)
      have HV := Lib.hid (HU.out.next hgl hd6.out hg6.out)
      clear hd6 hg6 hs6 r1 r2 HU
      have c0 := HV.out.bx.cell 0
      have y0 := HV.out.bx.frozen 0
      have HW := Lib.hid (HV.out.fld hgl 0 (.int .i64 (v)))
      go_upto_region 17 with (fail)
      clear c0 y0 HV
      generalize World.setCell wv _ _ = ww at *
      have c0 := HW.out.bx.cell 0
      have c1 := HW.out.bx.cell 1
      have c2 := HW.out.bx.cell 2
      have c3 := HW.out.bx.cell 3
      have d0 := HW.out.b1.cell 0
      have d1 := HW.out.b1.cell 1
      have d2 := HW.out.b1.cell 2
      have d3 := HW.out.b1.cell 3
      have y0 := HW.out.b1.frozen 0
      have y1 := HW.out.b1.frozen 1
      have y2 := HW.out.b1.frozen 2
      have y3 := HW.out.b1.frozen 3
      have HF := Lib.hid (HW.out.fin hgl (v) b (1 + y) (0) (by omega) (.int .i64 (v)) (.int .i64 b) (.int .i64 (1 + y)) (.int .i64 (0)))
      have HB := Lib.hid ((((HW.out.b1.set 0 (.int .i64 (v))).set 1 (.int .i64 b)).set 2 (.int .i64 (1 + y))).set 3 (.int .i64 (0)))
      go_wp2_with fail
      clear c0 c1 c2 c3 d0 d1 d2 d3 y0 y1 y2 y3
      generalize World.setCell (World.setCell (World.setCell (World.setCell _ _ _) _ _) _ _) _ _ = wz at *
      have t0 : wz.cell? ⟨w.heap.size + 1, 0, none⟩ = some (.int .i64 (v)) := HB.out.cell 0
      have t1 : wz.cell? ⟨w.heap.size + 1, 1, none⟩ = some (.int .i64 (b)) := HB.out.cell 1
      have t2 : wz.cell? ⟨w.heap.size + 1, 2, none⟩ = some (.int .i64 (1 + y)) := HB.out.cell 2
      have t3 : wz.cell? ⟨w.heap.size + 1, 3, none⟩ = some (.int .i64 (0)) := HB.out.cell 3
      exact bodyPost_ret (v := .agg #[.int .i64 (v), .int .i64 b, .int .i64 (1 + y), .int .i64 (0)]) (by simp [results, Tryd.results10, go_sem, t0, t1, t2, t3]) rfl HF.out
    have qu2 : (u == 2) = false := by simpa using hu2
    clear hu2
    go_upto_region 17 with (fail)
    have c0 := HU.out.bx.cell 0
    have c1 := HU.out.bx.cell 1
    have c2 := HU.out.bx.cell 2
    have c3 := HU.out.bx.cell 3
    have d0 := HU.out.b1.cell 0
    have d1 := HU.out.b1.cell 1
    have d2 := HU.out.b1.cell 2
    have d3 := HU.out.b1.cell 3
    have y0 := HU.out.b1.frozen 0
    have y1 := HU.out.b1.frozen 1
    have y2 := HU.out.b1.frozen 2
    have y3 := HU.out.b1.frozen 3
    have HF := Lib.hid (HU.out.fin hgl (a) b (1 + y) (0) (by omega) (.int .i64 (a)) (.int .i64 b) (.int .i64 (1 + y)) (.int .i64 (0)))
    have HB := Lib.hid ((((HU.out.b1.set 0 (.int .i64 (a))).set 1 (.int .i64 b)).set 2 (.int .i64 (1 + y))).set 3 (.int .i64 (0)))
    go_wp2_with fail
    clear c0 c1 c2 c3 d0 d1 d2 d3 y0 y1 y2 y3
    generalize World.setCell (World.setCell (World.setCell (World.setCell _ _ _) _ _) _ _) _ _ = wz at *
    have t0 : wz.cell? ⟨w.heap.size + 1, 0, none⟩ = some (.int .i64 (a)) := HB.out.cell 0
    have t1 : wz.cell? ⟨w.heap.size + 1, 1, none⟩ = some (.int .i64 (b)) := HB.out.cell 1
    have t2 : wz.cell? ⟨w.heap.size + 1, 2, none⟩ = some (.int .i64 (1 + y)) := HB.out.cell 2
    have t3 : wz.cell? ⟨w.heap.size + 1, 3, none⟩ = some (.int .i64 (0)) := HB.out.cell 3
    exact bodyPost_ret (v := .agg #[.int .i64 (a), .int .i64 b, .int .i64 (1 + y), .int .i64 (0)]) (by simp [results, Tryd.results10, go_sem, t0, t1, t2, t3]) rfl HF.out
  have qa3 : (a == 3) = false := by simpa using h3
  clear h3
  by_cases h6 : a = 6
  · have qa6 : (a == 6) = true := by simpa using h6
    clear h6
    go_wp2_with fail
    refine (next_any g 2 w2 HX.out.dk (by decide)).mono ?_
    rintro e wy ⟨y, rfl, r0, r1, r2, hd6, hg6, hs6⟩
    have r3 : y < 2 := r2.out (by decide)
    have HY := Lib.hid (HX.out.next hgl hd6.out hg6.out)
    clear hd6 hg6 hs6 r1 r2 HX
    have hwy : IntKind.i64.wrap (1 + y) = 1 + y := IntWalk.i64_in _ (by omega)
    clear r0 r3
    go_wp2_with fail
    refine (next_any g 6 wy HY.out.dk (by decide)).mono ?_
    rintro e wx ⟨z, rfl, r0, r1, r2, hd6, hg6, hs6⟩
    have r3 : z < 6 := r2.out (by decide)
    have HZ := Lib.hid (HY.out.next hgl hd6.out hg6.out)
    clear hd6 hg6 hs6 r1 r2 HY
    have c2 := HZ.out.bx.cell 2
    have y2 := HZ.out.bx.frozen 2
    have c3 := HZ.out.bx.cell 3
    have y3 := HZ.out.bx.frozen 3
    have H3 := Lib.hid ((HZ.out.fld hgl 2 (.int .i64 (1 + y))).fld hgl 3 (.int .i64 (z)))
    have hzq : z < 801 := by omega
    go_upto_region 10 with (fail)
    clear c2 y2 c3 y3 HZ hwy r0 r3
    generalize World.setCell (World.setCell wx _ _) _ _ = w3 at *
    go_wp2_with fail
    refine (next_any g 20 w3 H3.out.dk (by decide)).mono ?_
    rintro e wu ⟨u, rfl, r0, r1, r2, hd6, hg6, hs6⟩
    have r3 : u < 20 := r2.out (by decide)
    have HU := Lib.hid (H3.out.next hgl hd6.out hg6.out)
    clear hd6 hg6 hs6 r1 r2 H3
    by_cases hu0 : u = 0
    · have qu0 : (u == 0) = true := by simpa using hu0
      clear hu0
      go_wp2_with fail
      refine (next_any g 4 wu HU.out.dk (by decide)).mono ?_
      rintro e wv ⟨v, rfl, r0, r1, r2, hd6, hg6, hs6⟩
      have r3 : v < 4 := r2.out (by decide)
      have HV := Lib.hid (HU.out.next hgl hd6.out hg6.out)
      clear hd6 hg6 hs6 r1 r2 HU
      have c2 := HV.out.bx.cell 2
      have y2 := HV.out.bx.frozen 2
      have HW := Lib.hid (HV.out.fld hgl 2 (.int .i64 (v)))
      go_upto_region 17 with (fail)
      clear c2 y2 HV
      generalize World.setCell wv _ _ = ww at *
      have c0 := HW.out.bx.cell 0
      have c1 := HW.out.bx.cell 1
      have c2 := HW.out.bx.cell 2
      have c3 := HW.out.bx.cell 3
      have d0 := HW.out.b1.cell 0
      have d1 := HW.out.b1.cell 1
      have d2 := HW.out.b1.cell 2
      have d3 := HW.out.b1.cell 3
      have y0 := HW.out.b1.frozen 0
      have y1 := HW.out.b1.frozen 1
      have y2 := HW.out.b1.frozen 2
      have y3 := HW.out.b1.frozen 3
      have HF := Lib.hid (HW.out.fin hgl (a) b (v) (z) (by omega) (.int .i64 (a)) (.int .i64 b) (.int .i64 (v)) (.int .i64 (z)))
      have HB := Lib.hid ((((HW.out.b1.set 0 (.int .i64 (a))).set 1 (.int .i64 b)).set 2 (.int .i64 (v))).set 3 (.int .i64 (z)))
      go_wp2_with fail
      clear c0 c1 c2 c3 d0 d1 d2 d3 y0 y1 y2 y3
      generalize World.setCell (World.setCell (World.setCell (World.setCell _ _ _) _ _) _ _) _ _ = wz at *
      have t0 : wz.cell? ⟨w.heap.size + 1, 0, none⟩ = some (.int .i64 (a)) := HB.out.cell 0
      have t1 : wz.cell? ⟨w.heap.size + 1, 1, none⟩ = some (.int .i64 (b)) := HB.out.cell 1
      have t2 : wz.cell? ⟨w.heap.size + 1, 2, none⟩ = some (.int .i64 (v)) := HB.out.cell 2
      have t3 : wz.cell? ⟨w.heap.size + 1, 3, none⟩ = some (.int .i64 (z)) := HB.out.cell 3
      exact bodyPost_ret (v := .agg #[.int .i64 (a), .int .i64 b, .int .i64 (v), .int .i64 (z)]) (by simp [results, Tryd.results10, go_sem, t0, t1, t2, t3]) rfl HF.out
    have qu0 : (u == 0) = false := by simpa using hu0
    clear hu0
    by_cases hu1 : u = 1
    · have qu1 : (u == 1) = true := by simpa using hu1
      clear hu1
      go_wp2_with fail
      refine (next_any g 3 wu HU.out.dk (by decide)).mono ?_
      rintro e wv ⟨v, rfl, r0, r1, r2, hd6, hg6, hs6⟩
      have r3 : v < 3 := r2.out (by decide)
      have HV := Lib.hid (HU.out.next hgl hd6.out hg6.out)
      clear hd6 hg6 hs6 r1 r2 HU
      have c3 := HV.out.bx.cell 3
      have y3 := HV.out.bx.frozen 3
      have HW := Lib.hid (HV.out.fld hgl 3 (.int .i64 (v)))
      go_upto_region 17 with (fail)
      clear c3 y3 HV
      generalize World.setCell wv _ _ = ww at *
      have c0 := HW.out.bx.cell 0
      have c1 := HW.out.bx.cell 1
      have c2 := HW.out.bx.cell 2
      have c3 := HW.out.bx.cell 3
      have d0 := HW.out.b1.cell 0
      have d1 := HW.out.b1.cell 1
      have d2 := HW.out.b1.cell 2
      have d3 := HW.out.b1.cell 3
      have y0 := HW.out.b1.frozen 0
      have y1 := HW.out.b1.frozen 1
      have y2 := HW.out.b1.frozen 2
      have y3 := HW.out.b1.frozen 3
      have HF := Lib.hid (HW.out.fin hgl (a) b (1 + y) (v) (by omega) (.int .i64 (a)) (.int .i64 b) (.int .i64 (1 + y)) (.int .i64 (v)))
      have HB := Lib.hid ((((HW.out.b1.set 0 (.int .i64 (a))).set 1 (.int .i64 b)).set 2 (.int .i64 (1 + y))).set 3 (.int .i64 (v)))
      go_wp2_with fail
      clear c0 c1 c2 c3 d0 d1 d2 d3 y0 y1 y2 y3
      generalize World.setCell (World.setCell (World.setCell (World.setCell _ _ _) _ _) _ _) _ _ = wz at *
      have t0 : wz.cell? ⟨w.heap.size + 1, 0, none⟩ = some (.int .i64 (a)) := HB.out.cell 0
      have t1 : wz.cell? ⟨w.heap.size + 1, 1, none⟩ = some (.int .i64 (b)) := HB.out.cell 1
      have t2 : wz.cell? ⟨w.heap.size + 1, 2, none⟩ = some (.int .i64 (1 + y)) := HB.out.cell 2
      have t3 : wz.cell? ⟨w.heap.size + 1, 3, none⟩ = some (.int .i64 (v)) := HB.out.cell 3
      exact bodyPost_ret (v := .agg #[.int .i64 (a), .int .i64 b, .int .i64 (1 + y), .int .i64 (v)]) (by simp [results, Tryd.results10, go_sem, t0, t1, t2, t3]) rfl HF.out
    have qu1 : (u == 1) = false := by simpa using hu1
    clear hu1
    by_cases hu2 : u = 2
    · have qu2 : (u == 2) = true := by simpa using hu2
      clear hu2
      go_wp2_with fail
      refine (next_any g 10 wu HU.out.dk (by decide)).mono ?_
      rintro e wv ⟨v, rfl, r0, r1, r2, hd6, hg6, hs6⟩
      have r3 : v < 10 := r2.out (by decide)
      have HV := Lib.hid (HU.out.next hgl hd6.out hg6.out)
      clear hd6 hg6 hs6 r1 r2 HU
      have c0 := HV.out.bx.cell 0
      have y0 := HV.out.bx.frozen 0
      have HW := Lib.hid (HV.out.fld hgl 0 (.int .i64 (v)))
      go_upto_region 17 with (fail)
      clear c0 y0 HV
      generalize World.setCell wv _ _ = ww at *
      have c0 := HW.out.bx.cell 0
      have c1 := HW.out.bx.cell 1
      have c2 := HW.out.bx.cell 2
      have c3 := HW.out.bx.cell 3
      have d0 := HW.out.b1.cell 0
      have d1 := HW.out.b1.cell 1
      have d2 := HW.out.b1.cell 2
      have d3 := HW.out.b1.cell 3
      have y0 := HW.out.b1.frozen 0
      have y1 := HW.out.b1.frozen 1
      have y2 := HW.out.b1.frozen 2
      have y3 := HW.out.b1.frozen 3
      have HF := Lib.hid (HW.out.fin hgl (v) b (1 + y) (z) (by omega) (.int .i64 (v)) (.int .i64 b) (.int .i64 (1 + y)) (.int .i64 (z)))
      have HB := Lib.hid ((((HW.out.b1.set 0 (.int .i64 (v))).set 1 (.int .i64 b)).set 2 (.int .i64 (1 + y))).set 3 (.int .i64 (z)))
      go_wp2_with fail
      clear c0 c1 c2 c3 d0 d1 d2 d3 y0 y1 y2 y3
      generalize World.setCell (World.setCell (World.setCell (World.setCell _ _ _) _ _) _ _) _ _ = wz at *
      have t0 : wz.cell? ⟨w.heap.size + 1, 0, none⟩ = some (.int .i64 (v)) := HB.out.cell 0
      have t1 : wz.cell? ⟨w.heap.size + 1, 1, none⟩ = some (.int .i64 (b)) := HB.out.cell 1
      have t2 : wz.cell? ⟨w.heap.size + 1, 2, none⟩ = some (.int .i64 (1 + y)) := HB.out.cell 2
      have t3 : wz.cell? ⟨w.heap.size + 1, 3, none⟩ = some (.int .i64 (z)) := HB.out.cell 3
      exact bodyPost_ret (v := .agg #[.int .i64 (v), .int .i64 b, .int .i64 (1 + y), .int .i64 (z)]) (by simp [results, Tryd.results10, go_sem, t0, t1, t2, t3]) rfl HF.out
    have qu2 : (u == 2) = false := by simpa using hu2
    clear hu2
    go_upto_region 17 with (fail)
    have c0 := HU.out.bx.cell 0
    have c1 := HU.out.bx.cell 1
    have c2 := HU.out.bx.cell 2
    have c3 := HU.out.bx.cell 3
    have d0 := HU.out.b1.cell 0
    have d1 := HU.out.b1.cell 1
    have d2 := HU.out.b1.cell 2
    have d3 := HU.out.b1.cell 3
    have y0 := HU.out.b1.frozen 0
    have y1 := HU.out.b1.frozen 1
    have y2 := HU.out.b1.frozen 2
    have y3 := HU.out.b1.frozen 3
    have HF := Lib.hid (HU.out.fin hgl (a) b (1 + y) (z) (by omega) (.int .i64 (a)) (.int .i64 b) (.int .i64 (1 + y)) (.int .i64 (z)))
    have HB := Lib.hid ((((HU.out.b1.set 0 (.int .i64 (a))).set 1 (.int .i64 b)).set 2 (.int .i64 (1 + y))).set 3 (.int .i64 (z)))
    go_wp2_with fail
    clear c0 c1 c2 c3 d0 d1 d2 d3 y0 y1 y2 y3
    generalize World.setCell (World.setCell (World.setCell (World.setCell _ _ _) _ _) _ _) _ _ = wz at *
    have t0 : wz.cell? ⟨w.heap.size + 1, 0, none⟩ = some (.int .i64 (a)) := HB.out.cell 0
    have t1 : wz.cell? ⟨w.heap.size + 1, 1, none⟩ = some (.int .i64 (b)) := HB.out.cell 1
    have t2 : wz.cell? ⟨w.heap.size + 1, 2, none⟩ = some (.int .i64 (1 + y)) := HB.out.cell 2
    have t3 : wz.cell? ⟨w.heap.size + 1, 3, none⟩ = some (.int .i64 (z)) := HB.out.cell 3
    exact bodyPost_ret (v := .agg #[.int .i64 (a), .int .i64 b, .int .i64 (1 + y), .int .i64 (z)]) (by simp [results, Tryd.results10, go_sem, t0, t1, t2, t3]) rfl HF.out
  have qa6 : (a == 6) = false := by simpa using h6
  clear h6
  by_cases h7 : a = 7
  · have qa7 : (a == 7) = true := by simpa using h7
    clear h7
    go_wp2_with fail
    refine (next_any g 6 w2 HX.out.dk (by decide)).mono ?_
    rintro e wx ⟨z, rfl, r0, r1, r2, hd6, hg6, hs6⟩
    have r3 : z < 6 := r2.out (by decide)
    have HZ := Lib.hid (HX.out.next hgl hd6.out hg6.out)
    clear hd6 hg6 hs6 r1 r2 HX
    have c3 := HZ.out.bx.cell 3
    have y3 := HZ.out.bx.frozen 3
    have H3 := Lib.hid (HZ.out.fld hgl 3 (.int .i64 (z)))
    have hzq : z < 801 := by omega
    go_upto_region 10 with (fail)
    clear c3 y3 HZ r0 r3
    generalize World.setCell wx _ _ = w3 at *
    go_wp2_with fail
    refine (next_any g 20 w3 H3.out.dk (by decide)).mono ?_
    rintro e wu ⟨u, rfl, r0, r1, r2, hd6, hg6, hs6⟩
    have r3 : u < 20 := r2.out (by decide)
    have HU := Lib.hid (H3.out.next hgl hd6.out hg6.out)
    clear hd6 hg6 hs6 r1 r2 H3
    by_cases hu0 : u = 0
    · have qu0 : (u == 0) = true := by simpa using hu0
      clear hu0
      go_wp2_with fail
      refine (next_any g 4 wu HU.out.dk (by decide)).mono ?_
      rintro e wv ⟨v, rfl, r0, r1, r2, hd6, hg6, hs6⟩
      have r3 : v < 4 := r2.out (by decide)
      have HV := Lib.hid (HU.out.next hgl hd6.out hg6.out)
      clear hd6 hg6 hs6 r1 r2 HU
      have c2 := HV.out.bx.cell 2
      have y2 := HV.out.bx.frozen 2
      have HW := Lib.hid (HV.out.fld hgl 2 (.int .i64 (v)))
      go_upto_region 17 with (fail)
      clear c2 y2 HV
      generalize World.setCell wv _ _ = ww at *
      have c0 := HW.out.bx.cell 0
      have c1 := HW.out.bx.cell 1
      have c2 := HW.out.bx.cell 2
      have c3 := HW.out.bx.cell 3
      have d0 := HW.out.b1.cell 0
      have d1 := HW.out.b1.cell 1
      have d2 := HW.out.b1.cell 2
      have d3 := HW.out.b1.cell 3
      have y0 := HW.out.b1.frozen 0
      have y1 := HW.out.b1.frozen 1
      have y2 := HW.out.b1.frozen 2
      have y3 := HW.out.b1.frozen 3
      have HF := Lib.hid (HW.out.fin hgl (a) b (v) (z) (by omega) (.int .i64 (a)) (.int .i64 b) (.int .i64 (v)) (.int .i64 (z)))
      have HB := Lib.hid ((((HW.out.b1.set 0 (.int .i64 (a))).set 1 (.int .i64 b)).set 2 (.int .i64 (v))).set 3 (.int .i64 (z)))
      go_wp2_with fail
      clear c0 c1 c2 c3 d0 d1 d2 d3 y0 y1 y2 y3
      generalize World.setCell (World.setCell (World.setCell (World.setCell _ _ _) _ _) _ _) _ _ = wz at *
      have t0 : wz.cell? ⟨w.heap.size + 1, 0, none⟩ = some (.int .i64 (a)) := HB.out.cell 0
      have t1 : wz.cell? ⟨w.heap.size + 1, 1, none⟩ = some (.int .i64 (b)) := HB.out.cell 1
      have t2 : wz.cell? ⟨w.heap.size + 1, 2, none⟩ = some (.int .i64 (v)) := HB.out.cell 2
      have t3 : wz.cell? ⟨w.heap.size + 1, 3, none⟩ = some (.int .i64 (z)) := HB.out.cell 3
      exact bodyPost_ret (v := .agg #[.int .i64 (a), .int .i64 b, .int .i64 (v), .int .i64 (z)]) (by simp [results, Tryd.results10, go_sem, t0, t1, t2, t3]) rfl HF.out
    have qu0 : (u == 0) = false := by simpa using hu0
    clear hu0
    by_cases hu1 : u = 1
    · have qu1 : (u == 1) = true := by simpa using hu1
      clear hu1
      go_wp2_with fail
      refine (next_any g 3 wu HU.out.dk (by decide)).mono ?_
      rintro e wv ⟨v, rfl, r0, r1, r2, hd6, hg6, hs6⟩
      have r3 : v < 3 := r2.out (by decide)
      have HV := Lib.hid (HU.out.next hgl hd6.out hg6.out)
      clear hd6 hg6 hs6 r1 r2 HU
      have c3 := HV.out.bx.cell 3
      have y3 := HV.out.bx.frozen 3
      have HW := Lib.hid (HV.out.fld hgl 3 (.int .i64 (v)))
      go_upto_region 17 with (fail)
      clear c3 y3 HV
      generalize World.setCell wv _ _ = ww at *
      have c0 := HW.out.bx.cell 0
      have c1 := HW.out.bx.cell 1
      have c2 := HW.out.bx.cell 2
      have c3 := HW.out.bx.cell 3
      have d0 := HW.out.b1.cell 0
      have d1 := HW.out.b1.cell 1
      have d2 := HW.out.b1.cell 2
      have d3 := HW.out.b1.cell 3
      have y0 := HW.out.b1.frozen 0
      have y1 := HW.out.b1.frozen 1
      have y2 := HW.out.b1.frozen 2
      have y3 := HW.out.b1.frozen 3
      have HF := Lib.hid (HW.out.fin hgl (a) b (0) (v) (by omega) (.int .i64 (a)) (.int .i64 b) (.int .i64 (0)) (.int .i64 (v)))
      have HB := Lib.hid ((((HW.out.b1.set 0 (.int .i64 (a))).set 1 (.int .i64 b)).set 2 (.int .i64 (0))).set 3 (.int .i64 (v)))
      go_wp2_with fail
      clear c0 c1 c2 c3 d0 d1 d2 d3 y0 y1 y2 y3
      generalize World.setCell (World.setCell (World.setCell (World.setCell _ _ _) _ _) _ _) _ _ = wz at *
      have t0 : wz.cell? ⟨w.heap.size + 1, 0, none⟩ = some (.int .i64 (a)) := HB.out.cell 0
      have t1 : wz.cell? ⟨w.heap.size + 1, 1, none⟩ = some (.int .i64 (b)) := HB.out.cell 1
      have t2 : wz.cell? ⟨w.heap.size + 1, 2, none⟩ = some (.int .i64 (0)) := HB.out.cell 2
      have t3 : wz.cell? ⟨w.heap.size + 1, 3, none⟩ = some (.int .i64 (v)) := HB.out.cell 3
      exact bodyPost_ret (v := .agg #[.int .i64 (a), .int .i64 b, .int .i64 (0), .int .i64 (v)]) (by simp [results, Tryd.results10, go_sem, t0, t1, t2, t3]) rfl HF.out
    have qu1 : (u == 1) = false := by simpa using hu1
    clear hu1
    by_cases hu2 : u = 2
    · have qu2 : (u == 2) = true := by simpa using hu2
      clear hu2
      go_wp2_with fail
      refine (next_any g 10 wu HU.out.dk (by decide)).mono ?_
      rintro e wv ⟨v, rfl, r0, r1, r2, hd6, hg6, hs6⟩
      have r3 : v < 10 := r2.out (by decide)
      have HV := Lib.hid (HU.out.next hgl hd6.out hg6.out)
      clear hd6 hg6 hs6 r1 r2 HU
      have c0 := HV.out.bx.cell 0
      have y0 := HV.out.bx.frozen 0
      have HW := Lib.hid (HV.out.fld hgl 0 (.int .i64 (v)))
      go_upto_region 17 with (fail)
      clear c0 y0 HV
      generalize World.setCell wv _ _ = ww at *
      have c0 := HW.out.bx.cell 0
      have c1 := HW.out.bx.cell 1
      have c2 := HW.out.bx.cell 2
      have c3 := HW.out.bx.cell 3
      have d0 := HW.out.b1.cell 0
      have d1 := HW.out.b1.cell 1
      have d2 := HW.out.b1.cell 2
      have d3 := HW.out.b1.cell 3
      have y0 := HW.out.b1.frozen 0
      have y1 := HW.out.b1.frozen 1
      have y2 := HW.out.b1.frozen 2
      have y3 := HW.out.b1.frozen 3
      have HF := Lib.hid (HW.out.fin hgl (v) b (0) (z) (by omega) (.int .i64 (v)) (.int .i64 b) (.int .i64 (0)) (.int .i64 (z)))
      have HB := Lib.hid ((((HW.out.b1.set 0 (.int .i64 (v))).set 1 (.int .i64 b)).set 2 (.int .i64 (0))).set 3 (.int .i64 (z)))
      go_wp2_with fail
      clear c0 c1 c2 c3 d0 d1 d2 d3 y0 y1 y2 y3
      generalize World.setCell (World.setCell (World.setCell (World.setCell _ _ _) _ _) _ _) _ _ = wz at *
      have t0 : wz.cell? ⟨w.heap.size + 1, 0, none⟩ = some (.int .i64 (v)) := HB.out.cell 0
      have t1 : wz.cell? ⟨w.heap.size + 1, 1, none⟩ = some (.int .i64 (b)) := HB.out.cell 1
      have t2 : wz.cell? ⟨w.heap.size + 1, 2, none⟩ = some (.int .i64 (0)) := HB.out.cell 2
      have t3 : wz.cell? ⟨w.heap.size + 1, 3, none⟩ = some (.int .i64 (z)) := HB.out.cell 3
      exact bodyPost_ret (v := .agg #[.int .i64 (v), .int .i64 b, .int .i64 (0), .int .i64 (z)]) (by simp [results, Tryd.results10, go_sem, t0, t1, t2, t3]) rfl HF.out
    have qu2 : (u == 2) = false := by simpa using hu2
    clear hu2
    go_upto_region 17 with (fail)
    have c0 := HU.out.bx.cell 0
    have c1 := HU.out.bx.cell 1
    have c2 := HU.out.bx.cell 2
    have c3 := HU.out.bx.cell 3
    have d0 := HU.out.b1.cell 0
    have d1 := HU.out.b1.cell 1
    have d2 := HU.out.b1.cell 2
    have d3 := HU.out.b1.cell 3
    have y0 := HU.out.b1.frozen 0
    have y1 := HU.out.b1.frozen 1
    have y2 := HU.out.b1.frozen 2
    have y3 := HU.out.b1.frozen 3
    have HF := Lib.hid (HU.out.fin hgl (a) b (0) (z) (by omega) (.int .i64 (a)) (.int .i64 b) (.int .i64 (0)) (.int .i64 (z)))
    have HB := Lib.hid ((((HU.out.b1.set 0 (.int .i64 (a))).set 1 (.int .i64 b)).set 2 (.int .i64 (0))).set 3 (.int .i64 (z)))
    go_wp2_with fail
    clear c0 c1 c2 c3 d0 d1 d2 d3 y0 y1 y2 y3
    generalize World.setCell (World.setCell (World.setCell (World.setCell _ _ _) _ _) _ _) _ _ = wz at *
    have t0 : wz.cell? ⟨w.heap.size + 1, 0, none⟩ = some (.int .i64 (a)) := HB.out.cell 0
    have t1 : wz.cell? ⟨w.heap.size + 1, 1, none⟩ = some (.int .i64 (b)) := HB.out.cell 1
    have t2 : wz.cell? ⟨w.heap.size + 1, 2, none⟩ = some (.int .i64 (0)) := HB.out.cell 2
    have t3 : wz.cell? ⟨w.heap.size + 1, 3, none⟩ = some (.int .i64 (z)) := HB.out.cell 3
    exact bodyPost_ret (v := .agg #[.int .i64 (a), .int .i64 b, .int .i64 (0), .int .i64 (z)]) (by simp [results, Tryd.results10, go_sem, t0, t1, t2, t3]) rfl HF.out
  have qa7 : (a == 7) = false := by simpa using h7
  clear h7
  go_wp2_with fail
  refine (next_any g 20 w2 HX.out.dk (by decide)).mono ?_
  rintro e wu ⟨u, rfl, r0, r1, r2, hd6, hg6, hs6⟩
  have r3 : u < 20 := r2.out (by decide)
  have HU := Lib.hid (HX.out.next hgl hd6.out hg6.out)
  clear hd6 hg6 hs6 r1 r2 HX
  by_cases hu0 : u = 0
  · have qu0 : (u == 0) = true := by simpa using hu0
    clear hu0
    go_wp2_with fail
    refine (next_any g 4 wu HU.out.dk (by decide)).mono ?_
    rintro e wv ⟨v, rfl, r0, r1, r2, hd6, hg6, hs6⟩
    have r3 : v < 4 := r2.out (by decide)
    have HV := Lib.hid (HU.out.next hgl hd6.out hg6.out)
    clear hd6 hg6 hs6 r1 r2 HU
    have c2 := HV.out.bx.cell 2
    have y2 := HV.out.bx.frozen 2
    have HW := Lib.hid (HV.out.fld hgl 2 (.int .i64 (v)))
    go_upto_region 17 with (fail)
    clear c2 y2 HV
    generalize World.setCell wv _ _ = ww at *
    have c0 := HW.out.bx.cell 0
    have c1 := HW.out.bx.cell 1
    have c2 := HW.out.bx.cell 2
    have c3 := HW.out.bx.cell 3
    have d0 := HW.out.b1.cell 0
    have d1 := HW.out.b1.cell 1
    have d2 := HW.out.b1.cell 2
    have d3 := HW.out.b1.cell 3
    have y0 := HW.out.b1.frozen 0
    have y1 := HW.out.b1.frozen 1
    have y2 := HW.out.b1.frozen 2
    have y3 := HW.out.b1.frozen 3
    have HF := Lib.hid (HW.out.fin hgl (a) b (v) (0) (by omega) (.int .i64 (a)) (.int .i64 b) (.int .i64 (v)) (.int .i64 (0)))
    have HB := Lib.hid ((((HW.out.b1.set 0 (.int .i64 (a))).set 1 (.int .i64 b)).set 2 (.int .i64 (v))).set 3 (.int .i64 (0)))
    go_wp2_with fail
    clear c0 c1 c2 c3 d0 d1 d2 d3 y0 y1 y2 y3
    generalize World.setCell (World.setCell (World.setCell (World.setCell _ _ _) _ _) _ _) _ _ = wz at *
    have t0 : wz.cell? ⟨w.heap.size + 1, 0, none⟩ = some (.int .i64 (a)) := HB.out.cell 0
    have t1 : wz.cell? ⟨w.heap.size + 1, 1, none⟩ = some (.int .i64 (b)) := HB.out.cell 1
    have t2 : wz.cell? ⟨w.heap.size + 1, 2, none⟩ = some (.int .i64 (v)) := HB.out.cell 2
    have t3 : wz.cell? ⟨w.heap.size + 1, 3, none⟩ = some (.int .i64 (0)) := HB.out.cell 3
    exact bodyPost_ret (v := .agg #[.int .i64 (a), .int .i64 b, .int .i64 (v), .int .i64 (0)]) (by simp [results, Tryd.results10, go_sem, t0, t1, t2, t3]) rfl HF.out
  have qu0 : (u == 0) = false := by simpa using hu0
  clear hu0
  by_cases hu1 : u = 1
  · have qu1 : (u == 1) = true := by simpa using hu1
    clear hu1
    go_wp2_with fail
    refine (next_any g 3 wu HU.out.dk (by decide)).mono ?_
    rintro e wv ⟨v, rfl, r0, r1, r2, hd6, hg6, hs6⟩
    have r3 : v < 3 := r2.out (by decide)
    have HV := Lib.hid (HU.out.next hgl hd6.out hg6.out)
    clear hd6 hg6 hs6 r1 r2 HU
    have c3 := HV.out.bx.cell 3
    have y3 := HV.out.bx.frozen 3
    have HW := Lib.hid (HV.out.fld hgl 3 (.int .i64 (v)))
    go_upto_region 17 with (fail)
    clear c3 y3 HV
    generalize World.setCell wv _ _ = ww at *
    have c0 := HW.out.bx.cell 0
    have c1 := HW.out.bx.cell 1
    have c2 := HW.out.bx.cell 2
    have c3 := HW.out.bx.cell 3
    have d0 := HW.out.b1.cell 0
    have d1 := HW.out.b1.cell 1
    have d2 := HW.out.b1.cell 2
    have d3 := HW.out.b1.cell 3
    have y0 := HW.out.b1.frozen 0
    have y1 := HW.out.b1.frozen 1
    have y2 := HW.out.b1.frozen 2
    have y3 := HW.out.b1.frozen 3
    have HF := Lib.hid (HW.out.fin hgl (a) b (0) (v) (by omega) (.int .i64 (a)) (.int .i64 b) (.int .i64 (0)) (.int .i64 (v)))
    have HB := Lib.hid ((((HW.out.b1.set 0 (.int .i64 (a))).set 1 (.int .i64 b)).set 2 (.int .i64 (0))).set 3 (.int .i64 (v)))
    go_wp2_with fail
    clear c0 c1 c2 c3 d0 d1 d2 d3 y0 y1 y2 y3
    generalize World.setCell (World.setCell (World.setCell (World.setCell _ _ _) _ _) _ _) _ _ = wz at *
    have t0 : wz.cell? ⟨w.heap.size + 1, 0, none⟩ = some (.int .i64 (a)) := HB.out.cell 0
    have t1 : wz.cell? ⟨w.heap.size + 1, 1, none⟩ = some (.int .i64 (b)) := HB.out.cell 1
    have t2 : wz.cell? ⟨w.heap.size + 1, 2, none⟩ = some (.int .i64 (0)) := HB.out.cell 2
    have t3 : wz.cell? ⟨w.heap.size + 1, 3, none⟩ = some (.int .i64 (v)) := HB.out.cell 3
    exact bodyPost_ret (v := .agg #[.int .i64 (a), .int .i64 b, .int .i64 (0), .int .i64 (v)]) (by simp [results, Tryd.results10, go_sem, t0, t1, t2, t3]) rfl HF.out
  have qu1 : (u == 1) = false := by simpa using hu1
  clear hu1
  by_cases hu2 : u = 2
  · have qu2 : (u == 2) = true := by simpa using hu2
    clear hu2
    go_wp2_with fail
    refine (next_any g 10 wu HU.out.dk (by decide)).mono ?_
    rintro e wv ⟨v, rfl, r0, r1, r2, hd6, hg6, hs6⟩
    have r3 : v < 10 := r2.out (by decide)
    have HV := Lib.hid (HU.out.next hgl hd6.out hg6.out)
    clear hd6 hg6 hs6 r1 r2 HU
    have c0 := HV.out.bx.cell 0
    have y0 := HV.out.bx.frozen 0
    have HW := Lib.hid (HV.out.fld hgl 0 (.int .i64 (v)))
    go_upto_region 17 with (fail)
    clear c0 y0 HV
    generalize World.setCell wv _ _ = ww at *
    have c0 := HW.out.bx.cell 0
    have c1 := HW.out.bx.cell 1
    have c2 := HW.out.bx.cell 2
    have c3 := HW.out.bx.cell 3
    have d0 := HW.out.b1.cell 0
    have d1 := HW.out.b1.cell 1
    have d2 := HW.out.b1.cell 2
    have d3 := HW.out.b1.cell 3
    have y0 := HW.out.b1.frozen 0
    have y1 := HW.out.b1.frozen 1
    have y2 := HW.out.b1.frozen 2
    have y3 := HW.out.b1.frozen 3
    have HF := Lib.hid (HW.out.fin hgl (v) b (0) (0) (by omega) (.int .i64 (v)) (.int .i64 b) (.int .i64 (0)) (.int .i64 (0)))
    have HB := Lib.hid ((((HW.out.b1.set 0 (.int .i64 (v))).set 1 (.int .i64 b)).set 2 (.int .i64 (0))).set 3 (.int .i64 (0)))
    go_wp2_with fail
    clear c0 c1 c2 c3 d0 d1 d2 d3 y0 y1 y2 y3
    generalize World.setCell (World.setCell (World.setCell (World.setCell _ _ _) _ _) _ _) _ _ = wz at *
    have t0 : wz.cell? ⟨w.heap.size + 1, 0, none⟩ = some (.int .i64 (v)) := HB.out.cell 0
    have t1 : wz.cell? ⟨w.heap.size + 1, 1, none⟩ = some (.int .i64 (b)) := HB.out.cell 1
    have t2 : wz.cell? ⟨w.heap.size + 1, 2, none⟩ = some (.int .i64 (0)) := HB.out.cell 2
    have t3 : wz.cell? ⟨w.heap.size + 1, 3, none⟩ = some (.int .i64 (0)) := HB.out.cell 3
    exact bodyPost_ret (v := .agg #[.int .i64 (v), .int .i64 b, .int .i64 (0), .int .i64 (0)]) (by simp [results, Tryd.results10, go_sem, t0, t1, t2, t3]) rfl HF.out
  have qu2 : (u == 2) = false := by simpa using hu2
  clear hu2
  go_upto_region 17 with (fail)
  have c0 := HU.out.bx.cell 0
  have c1 := HU.out.bx.cell 1
  have c2 := HU.out.bx.cell 2
  have c3 := HU.out.bx.cell 3
  have d0 := HU.out.b1.cell 0
  have d1 := HU.out.b1.cell 1
  have d2 := HU.out.b1.cell 2
  have d3 := HU.out.b1.cell 3
  have y0 := HU.out.b1.frozen 0
  have y1 := HU.out.b1.frozen 1
  have y2 := HU.out.b1.frozen 2
  have y3 := HU.out.b1.frozen 3
  have HF := Lib.hid (HU.out.fin hgl (a) b (0) (0) (by omega) (.int .i64 (a)) (.int .i64 b) (.int .i64 (0)) (.int .i64 (0)))
  have HB := Lib.hid ((((HU.out.b1.set 0 (.int .i64 (a))).set 1 (.int .i64 b)).set 2 (.int .i64 (0))).set 3 (.int .i64 (0)))
  go_wp2_with fail
  clear c0 c1 c2 c3 d0 d1 d2 d3 y0 y1 y2 y3
  generalize World.setCell (World.setCell (World.setCell (World.setCell _ _ _) _ _) _ _) _ _ = wz at *
  have t0 : wz.cell? ⟨w.heap.size + 1, 0, none⟩ = some (.int .i64 (a)) := HB.out.cell 0
  have t1 : wz.cell? ⟨w.heap.size + 1, 1, none⟩ = some (.int .i64 (b)) := HB.out.cell 1
  have t2 : wz.cell? ⟨w.heap.size + 1, 2, none⟩ = some (.int .i64 (0)) := HB.out.cell 2
  have t3 : wz.cell? ⟨w.heap.size + 1, 3, none⟩ = some (.int .i64 (0)) := HB.out.cell 3
  exact bodyPost_ret (v := .agg #[.int .i64 (a), .int .i64 b, .int .i64 (0), .int .i64 (0)]) (by simp [results, Tryd.results10, go_sem, t0, t1, t2, t3]) rfl HF.out
end Go.Proofs.YtlcaebfjdhgcfaaDoor
