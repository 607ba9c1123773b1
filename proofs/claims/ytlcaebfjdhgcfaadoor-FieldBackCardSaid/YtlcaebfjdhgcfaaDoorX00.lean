import Derived.Test.YtlcaebfjdhgcfaaDoorZ42
import Derived.Test.YtlcaebfjdhgcfaaDoorZ36
import Derived.Test.YtlcaebfjdhgcfaaDoorZ40
import Derived.Test.YtlcaebfjdhgcfaaDoorZ04
import Derived.Test.YtlcaebfjdhgcfaaDoorZ05
import Derived.Deep.LoopGhost
import Derived.Deep.DeepCutAuto
/-
  FieldBack's function literal: a lock of a device, in the position that it has.
-/
namespace Go.Proofs.YtlcaebfjdhgcfaaDoor
open Go.RowKit
theorem StepPost.any {w w' : World} {ns : List Nd} {ds : List Dv} {F : Fd} {k d p q : Int} {e : Ending} (h : StepPost w ns ds F k d p q e w') :
    ∃ (A1 A2 A3 : Option Addr) (n1 c1 n2 c2 n3 c3 : Nat), e = .returned (.tuple #[.agg #[.slice A1 n1 c1, .slice A2 n2 c2, .slice A3 n3 c3], .int .i64 (stpErr ns ds F k d p q)]) ∧ Hid (stpErr ns ds F k d p q = 0 → IntsO w' w.heap.size A1 n1 c1 (evTo ds F k d p q).s ∧ LocksO w' w.heap.size A2 n2 c2 (evTo ds F k d p q).ls ∧ IntsO w' w.heap.size A3 n3 c3 (evTo ds F k d p q).st) ∧ Hid (Below w.heap.size w w') := by
  obtain ⟨⟨h1, h2⟩ | ⟨h0, A1, A2, A3, n1, c1, n2, c2, n3, c3, h1, h2, h3, h4⟩, h5⟩ := h
  · exact ⟨none, none, none, 0, 0, 0, 0, 0, 0, h2, fun e => absurd e h1, h5⟩
  · exact ⟨A1, A2, A3, n1, c1, n2, c2, n3, c3, by rw [h1, h0], fun _ => ⟨h2.out, h3.out, h4.out⟩, h5⟩
/-- What the function literal leaves. -/
def ClPost (w : World) (ns : List Nd) (ds : List Dv) (F : Fd) (d p q : Int) (e : Ending) (w' : World) : Prop :=
  ∃ (A1 A2 A3 : Option Addr) (n1 c1 n2 c2 n3 c3 : Nat), e = .returned (.tuple #[.agg #[.slice A1 n1 c1, .slice A2 n2 c2, .slice A3 n3 c3], .int .i64 (stpErr ns ds F 6 d p q)]) ∧ Hid (stpErr ns ds F 6 d p q = 0 → IntsO w' w.heap.size A1 n1 c1 (evTo ds F 6 d p q).s ∧ LocksO w' w.heap.size A2 n2 c2 (evTo ds F 6 d p q).ls ∧ IntsO w' w.heap.size A3 n3 c3 (evTo ds F 6 d p q).st) ∧ Hid (Below w.heap.size w w')
structure ClS (w : World) (nb : Nat) (An Ad As Al At B1 B2 B3 : Option Addr) (cn nd cd n c nl cl nt ct m1 d1 m2 d2 m3 d3 bs o : Nat) (pos : Int) (x y z : Value) (wr : World) : Prop where
  bn : Blk wr nb 30 #[.slice An 6 cn, .slice Ad nd cd]
  bf : Blk wr (nb + 1) 33 #[.slice As n c, .slice Al nl cl, .slice At nt ct]
  bx : Blk wr w.heap.size 33 #[.slice B1 m1 d1, .slice B2 m2 d2, .slice B3 m3 d3]
  by_ : Blk wr (w.heap.size + 1) 33 #[x, y, z]
  pc : wr.cell? ⟨bs, o, none⟩ = some (.int .i64 pos)
  bl : Below w.heap.size w wr
  hb : bs < w.heap.size
  hn : nb + 1 < w.heap.size
section
variable {w wr wr' : World} {nb : Nat} {An Ad As Al At B1 B2 B3 : Option Addr} {cn nd cd n c nl cl nt ct m1 d1 m2 d2 m3 d3 bs o : Nat} {pos : Int} {x y z : Value}
theorem ClS.later (h : ClS w nb An Ad As Al At B1 B2 B3 cn nd cd n c nl cl nt ct m1 d1 m2 d2 m3 d3 bs o pos x y z wr) (hb : Below wr.heap.size wr wr') : ClS w nb An Ad As Al At B1 B2 B3 cn nd cd n c nl cl nt ct m1 d1 m2 d2 m3 d3 bs o pos x y z wr' :=
  ⟨h.bn.below hb h.bn.lt, h.bf.below hb h.bf.lt, h.bx.below hb h.bx.lt, h.by_.below hb h.by_.lt, (hb.cell (p := ⟨bs, o, none⟩) (Nat.lt_of_lt_of_le h.hb h.bl.size)).trans h.pc, h.bl.trans (hb.mono h.bl.size), h.hb, h.hn⟩
theorem ClS.put (h : ClS w nb An Ad As Al At B1 B2 B3 cn nd cd n c nl cl nt ct m1 d1 m2 d2 m3 d3 bs o pos x y z wr) (u v t : Value) : ClS w nb An Ad As Al At B1 B2 B3 cn nd cd n c nl cl nt ct m1 d1 m2 d2 m3 d3 bs o pos u v t (((wr.setCell ⟨w.heap.size + 1, 0, none⟩ u).setCell ⟨w.heap.size + 1, 1, none⟩ v).setCell ⟨w.heap.size + 1, 2, none⟩ t) := by
  have h1 := h.hb
  have h2 := h.hn
  have f : ∀ {q : Nat} {T : TypeId} {cs : Array Value}, q ≠ w.heap.size + 1 → Blk wr q T cs → Blk (((wr.setCell ⟨w.heap.size + 1, 0, none⟩ u).setCell ⟨w.heap.size + 1, 1, none⟩ v).setCell ⟨w.heap.size + 1, 2, none⟩ t) q T cs := fun hq hk => ((hk.far (p := ⟨w.heap.size + 1, 0, none⟩) hq _).far (p := ⟨w.heap.size + 1, 1, none⟩) hq _).far (p := ⟨w.heap.size + 1, 2, none⟩) hq _
  refine ⟨f (by omega) h.bn, f (by omega) h.bf, f (by omega) h.bx, ((h.by_.set 0 u).set 1 v).set 2 t, ?_, ((h.bl.setCell (by simp) _).setCell (by simp) _).setCell (by simp) _, h.hb, h.hn⟩
  rw [World.cell?_setCell_other _ _ _ _ (fun e => by have := congrArg Addr.block e; simp at this; omega), World.cell?_setCell_other _ _ _ _ (fun e => by have := congrArg Addr.block e; simp at this; omega), World.cell?_setCell_other _ _ _ _ (fun e => by have := congrArg Addr.block e; simp at this; omega)]
  exact h.pc
end
set_option maxRecDepth 100000 in
set_option maxHeartbeats 8000000 in
theorem lockc_any (nb : Nat) (An Ad As Al At B1 B2 B3 : Option Addr) (cn nd cd n c nl cl nt ct m1 d1 m2 d2 m3 d3 i : Nat) (ns : List Nd) (ds : List Dv) (s : List Int) (G : Fd) (q : Int) (w : World) (h : FdM w An Ad B1 B2 B3 6 cn nd cd m1 d1 m2 d2 m3 d3 ns ds G)
    (hbn : Blk w nb 30 #[.slice An 6 cn, .slice Ad nd cd]) (hbf : Blk w (nb + 1) 33 #[.slice As n c, .slice Al nl cl, .slice At nt ct]) (hs : Sl w w.heap.size 1 As n c (intsV s)) (hi : i < n) :
    Calls Tryd.prog 16 #[.agg #[.slice B1 m1 d1, .slice B2 m2 d2, .slice B3 m3 d3], .int .i64 (i : Int), .int .i64 q, .pointer (some ⟨nb, 0, none⟩), .pointer (some ⟨nb + 1, 0, none⟩)] w (ClPost w ns ds G i (s.getD i 0) q) := by
  obtain ⟨bs, os, pos, hAs, hbs, hsv, hcs⟩ := hs.at1 hi
  subst hAs
  rw [getDf hsv]
  have HH := Lib.hid h
  have hle := hs.le
  have HS0 : Hid (ClS w nb An Ad (some ⟨bs, os, none⟩) Al At B1 B2 B3 cn nd cd n c nl cl nt ct m1 d1 m2 d2 m3 d3 bs (os + i) pos (.slice none 0 0) (.slice none 0 0) (.slice none 0 0) (((w.alloc (.cells #[.slice B1 m1 d1, .slice B2 m2 d2, .slice B3 m3 d3] 33)).alloc (.cells #[.slice none 0 0, .slice none 0 0, .slice none 0 0] 33)).drew)) := by
    have hb2 : Below w.heap.size w ((w.alloc (.cells #[.slice B1 m1 d1, .slice B2 m2 d2, .slice B3 m3 d3] 33)).alloc (.cells #[.slice none 0 0, .slice none 0 0, .slice none 0 0] 33)) := ((Below.refl _ _).alloc (Nat.le_refl _) _).alloc (by simp) _
    have hy := Blk.new (w.alloc (.cells #[.slice B1 m1 d1, .slice B2 m2 d2, .slice B3 m3 d3] 33)) 33 #[.slice none 0 0, .slice none 0 0, .slice none 0 0]
    rw [World.size_alloc] at hy
    exact ClS.later ⟨hbn.below hb2 hbn.lt, hbf.below hb2 hbf.lt, (Blk.new w _ _).alloc _, hy, (hb2.cell (p := ⟨bs, os + i, none⟩) hbs).trans hcs, hb2, hbs, hbf.lt⟩ (Below.refl _ _).drew
  clear h hs hsv hcs hbs hbn hbf
  go_enter Tryd.func16, Tryd.ntmps16
  go_upto_region 1 with (fail)
  generalize hw2 : World.alloc (World.alloc _ _) _ = w2 at *
  have HB2 : Hid (Below w.heap.size w w2.drew) := HS0.out.bl
  refine wp_region_ord (S := fun W' => ∃ x y z, ClS w nb An Ad (some ⟨bs, os, none⟩) Al At B1 B2 B3 cn nd cd n c nl cl nt ct m1 d1 m2 d2 m3 d3 bs (os + i) pos x y z W') (J := []) (n := _) ((0, true) :: (1, true) :: (2, true) :: (3, true) :: (4, true) :: (5, true) :: (6, true) :: (7, true) :: (8, true) :: (9, true) :: (10, false) :: (11, true) :: (12, true) :: (13, false) :: (14, true) :: []) (by as_aux_lemma => kernel_rfl) (by rfl) (base_cons (k := 3) (by go_simp; rfl) (base_cons (k := 5) (by go_simp; rfl) (base_cons (k := 1) (by go_simp; rfl) (base_cons (k := 4) (by go_simp; rfl) (base_cons (k := 2) (by go_simp; rfl) (base_cons (k := 8) (by go_simp; rfl) base_nil)))))) ?_ (fun _ _ _ _ _ h => h) (fun Q2 A hsz hbase hn2 hHeld => ?_)
  · exact ⟨_, _, _, HS0.out⟩
  try dsimp only at hHeld
  obtain ⟨b3, b5, b1, b4, b2, b8, -⟩ := hbase
  refine ord_take (i := 0) (d := 10) (v := ?_) rfl rfl (wanted_none rfl) hHeld (fun ρ hρ w hSw => ?_) ?_
  rotate_left
  · (have e3 := Eq.trans (hρ.tmp hsz 3 rfl) (lkp_base b3); clear hρ; (try dsimp only at hSw); obtain ⟨_, _, _, hSw⟩ := hSw; have k0 := hSw.bn.cell 0; have k1 := hSw.bn.cell 1; clear hSw; go_simp; try with_reducible rfl)
  show wpOrd _ _ _ _ _ _ _ _
  refine ord_take (i := 1) (d := 11) (v := ?_) rfl rfl (wanted_none rfl) hHeld (fun ρ hρ w hSw => ?_) ?_
  rotate_left
  · (have e5 := Eq.trans (hρ.tmp hsz 5 rfl) (miss1 rfl (lkp_base b5)); clear hρ; (try dsimp only at hSw); obtain ⟨_, _, _, hSw⟩ := hSw; have k0 := hSw.bx.cell 0; have k1 := hSw.bx.cell 1; have k2 := hSw.bx.cell 2; clear hSw; go_simp; try with_reducible rfl)
  show wpOrd _ _ _ _ _ _ _ _
  refine ord_move (i := 2) (d := 12) (v := ?_) rfl rfl rfl (wanted_none rfl) hHeld (fun ρ hρ => ?_) ?_
  rotate_left
  · (have e1 := Eq.trans (hρ.tmp hsz 1 rfl) (miss1 rfl (miss1 rfl (lkp_base b1))); exact e1)
  show wpOrd _ _ _ _ _ _ _ _
  refine ord_take (i := 3) (d := 13) (v := ?_) rfl rfl (wanted_none rfl) hHeld (fun ρ hρ w hSw => ?_) ?_
  rotate_left
  · (have e4 := Eq.trans (hρ.tmp hsz 4 rfl) (miss1 rfl (miss1 rfl (miss1 rfl (lkp_base b4)))); clear hρ; (try dsimp only at hSw); go_simp; try with_reducible rfl)
  show wpOrd _ _ _ _ _ _ _ _
  refine ord_take (i := 4) (d := 14) (v := ?_) rfl rfl (wanted_none rfl) hHeld (fun ρ hρ w hSw => ?_) ?_
  rotate_left
  · (have e13 := Eq.trans (hρ.tmp hsz 13 rfl) lkp_hit; clear hρ; (try dsimp only at hSw); obtain ⟨_, _, _, hSw⟩ := hSw; have k0 := hSw.bf.cell 0; clear hSw; go_simp; try with_reducible rfl)
  show wpOrd _ _ _ _ _ _ _ _
  refine ord_move (i := 5) (d := 15) (v := ?_) rfl rfl rfl (wanted_none rfl) hHeld (fun ρ hρ => ?_) ?_
  rotate_left
  · (have e1 := Eq.trans (hρ.tmp hsz 1 rfl) (miss4 rfl rfl rfl rfl (miss1 rfl (lkp_base b1))); exact e1)
  show wpOrd _ _ _ _ _ _ _ _
  refine ord_take (i := 6) (d := 16) (v := ?_) rfl rfl (wanted_none rfl) hHeld (fun ρ hρ w hSw => ?_) ?_
  rotate_left
  · (have e14 := Eq.trans (hρ.tmp hsz 14 rfl) (miss1 rfl lkp_hit); have e15 := Eq.trans (hρ.tmp hsz 15 rfl) lkp_hit; clear hρ; (try dsimp only at hSw); go_simp; try with_reducible rfl)
  show wpOrd _ _ _ _ _ _ _ _
  refine ord_take (i := 7) (d := 17) (v := ?_) rfl rfl (wanted_none rfl) hHeld (fun ρ hρ w hSw => ?_) ?_
  rotate_left
  · (have e16 := Eq.trans (hρ.tmp hsz 16 rfl) lkp_hit; clear hρ; (try dsimp only at hSw); obtain ⟨_, _, _, hSw⟩ := hSw; have k0 := hSw.pc; clear hSw; go_simp; try with_reducible rfl)
  show wpOrd _ _ _ _ _ _ _ _
  refine ord_move (i := 8) (d := 18) (v := ?_) rfl rfl rfl (wanted_none rfl) hHeld (fun ρ hρ => ?_) ?_
  rotate_left
  · (have e2 := Eq.trans (hρ.tmp hsz 2 rfl) (miss4 rfl rfl rfl rfl (miss4 rfl rfl rfl rfl (lkp_base b2))); exact e2)
  show wpOrd _ _ _ _ _ _ _ _
  refine ord_take (i := 9) (d := 19) (v := ?_) rfl rfl (wanted_none rfl) hHeld (fun ρ hρ w hSw => ?_) ?_
  rotate_left
  · (have hc := hρ.const; have e12 := Eq.trans (hρ.tmp hsz 12 rfl) (miss4 rfl rfl rfl rfl (miss1 rfl (miss1 rfl lkp_hit))); have e17 := Eq.trans (hρ.tmp hsz 17 rfl) (miss1 rfl lkp_hit); have e18 := Eq.trans (hρ.tmp hsz 18 rfl) lkp_hit; clear hρ; (try dsimp only at hSw); go_simp; try with_reducible rfl)
  show wpOrd _ _ _ _ _ _ _ _
  refine ord_call (i := 10) (d := 20) (vs := ?_) rfl rfl rfl (wanted_none rfl) (fun ρ hρ => ?_) ?_ ?_
  rotate_left
  · (have e10 := Eq.trans (hρ.tmp hsz 10 rfl) (miss4 rfl rfl rfl rfl (miss4 rfl rfl rfl rfl (miss1 rfl lkp_hit))); have e11 := Eq.trans (hρ.tmp hsz 11 rfl) (miss4 rfl rfl rfl rfl (miss4 rfl rfl rfl rfl lkp_hit)); have e19 := Eq.trans (hρ.tmp hsz 19 rfl) lkp_hit; simp only [List.map_toArray, List.map_cons, List.map_nil, e10, e11, e19]; try with_reducible rfl)
  · (intro w; go_simp)
  refine (fstep_any An Ad B1 B2 B3 6 cn nd cd m1 d1 m2 d2 m3 d3 ns ds G 6 (i : Int) pos q w2.drew (HH.out.later HB2.out)).mono ?_
  intro e w3 hpost
  obtain ⟨R1, R2, R3, r1, e1, r2, e2, r3, e3, rfl, hres, hb3⟩ := hpost.any
  clear hpost
  have HS3 := Lib.hid (HS0.out.later hb3.out)
  refine ⟨_, rfl, fun _ => ?_, fun hHeld' => ?_⟩
  · exact ⟨_, _, _, HS3.out⟩
  replace hHeld := hHeld' rfl
  clear hHeld'
  try dsimp only at hHeld
  show wpOrd _ _ _ _ _ _ _ _
  refine ord_take (i := 11) (d := 21) (v := ?_) rfl rfl (wanted_none rfl) hHeld (fun ρ hρ w hSw => ?_) ?_
  rotate_left
  · (have e20 := Eq.trans (hρ.tmp hsz 20 rfl) lkp_hit; clear hρ; (try dsimp only at hSw); go_simp; try with_reducible rfl)
  show wpOrd _ _ _ _ _ _ _ _
  refine ord_take (i := 12) (d := 22) (v := ?_) rfl rfl (wanted_none rfl) hHeld (fun ρ hρ w hSw => ?_) ?_
  rotate_left
  · (have e20 := Eq.trans (hρ.tmp hsz 20 rfl) (miss1 rfl lkp_hit); clear hρ; (try dsimp only at hSw); go_simp; try with_reducible rfl)
  show wpOrd _ _ _ _ _ _ _ _
  refine ord_store (i := 13) (w' := ?_) rfl rfl (wanted_none rfl) (fun ρ hρ => ?_) (fun _ => ?_) ?_
  rotate_left
  · (have e8 := Eq.trans (hρ.tmp hsz 8 rfl) (miss4 rfl rfl rfl rfl (miss4 rfl rfl rfl rfl (miss4 rfl rfl rfl rfl (miss1 rfl (lkp_base b8))))); have e21 := Eq.trans (hρ.tmp hsz 21 rfl) (miss1 rfl lkp_hit); clear hρ; have c0 := HS3.out.by_.cell 0; have c1 := HS3.out.by_.cell 1; have c2 := HS3.out.by_.cell 2; have y0 := HS3.out.by_.frozen 0; have y1 := HS3.out.by_.frozen 1; have y2 := HS3.out.by_.frozen 2; go_simp; try with_reducible rfl)
  · exact ⟨_, _, _, HS3.out.put _ _ _⟩
  show wpOrd _ _ _ _ _ _ _ _
  replace hHeld : ∃ x y z, ClS w nb An Ad (some ⟨bs, os, none⟩) Al At B1 B2 B3 cn nd cd n c nl cl nt ct m1 d1 m2 d2 m3 d3 bs (os + i) pos x y z _ := ⟨_, _, _, HS3.out.put (.slice R1 r1 e1) (.slice R2 r2 e2) (.slice R3 r3 e3)⟩
  show wpOrd _ _ _ _ _ _ _ _
  refine ord_take (i := 14) (d := 9) (v := ?_) rfl rfl (wanted_none rfl) hHeld (fun ρ hρ w hSw => ?_) ?_
  rotate_left
  · (have e22 := Eq.trans (hρ.tmp hsz 22 rfl) lkp_hit; clear hρ; (try dsimp only at hSw); go_simp; try with_reducible rfl)
  show wpOrd _ _ _ _ _ _ _ _
  refine ord_done hn2 ?_
  clear hHeld hn2 b3 b5 b1 b4 b2 b8 hsz A Q2
  simp only [puts_nil, puts_cons, put_lit, set_1, set_0]
  have HRS := Lib.hid (HS3.out.put (.slice R1 r1 e1) (.slice R2 r2 e2) (.slice R3 r3 e3))
  have hzz : w.heap.size + 1 < w2.drew.heap.size := by have := HS0.out.by_.lt; exact this
  have HFIN : Hid (ClPost w ns ds G (i : Int) pos q (.returned (.tuple #[.agg #[.slice R1 r1 e1, .slice R2 r2 e2, .slice R3 r3 e3], .int .i64 (stpErr ns ds G 6 (i : Int) pos q)])) (((w3.setCell ⟨w.heap.size + 1, 0, none⟩ (.slice R1 r1 e1)).setCell ⟨w.heap.size + 1, 1, none⟩ (.slice R2 r2 e2)).setCell ⟨w.heap.size + 1, 2, none⟩ (.slice R3 r3 e3))) := by
    refine ⟨R1, R2, R3, r1, e1, r2, e2, r3, e3, rfl, fun h0 => ?_, HRS.out.bl⟩
    obtain ⟨h1, h2, h3⟩ := hres.out h0
    have hb : w.heap.size ≤ w2.drew.heap.size := by omega
    exact ⟨(own_far3 h1 hzz).mono hb, (own_far3 h2 hzz).mono hb, (own_far3 h3 hzz).mono hb⟩
  have t0 := HRS.out.by_.cell 0
  have t1 := HRS.out.by_.cell 1
  have t2 := HRS.out.by_.cell 2
  clear hres hb3 HS3 HRS
  generalize World.setCell (World.setCell (World.setCell w3 _ _) _ _) _ _ = w5 at *
  generalize stpErr ns ds G 6 (i : Int) pos q = er at *
  go_wp2_with fail
  exact bodyPost_ret (v := .tuple #[.agg #[.slice R1 r1 e1, .slice R2 r2 e2, .slice R3 r3 e3], .int .i64 er]) (by simp [results, Tryd.results16, go_sem, t0, t1, t2]) rfl HFIN.out
end Go.Proofs.YtlcaebfjdhgcfaaDoor
/-
  FieldBack, plain: two locks in any order; unlocking behind locking.
-/
namespace Go.Proofs.YtlcaebfjdhgcfaaDoor
open Go.RowKit
section
variable {ns : List Nd} {ds : List Dv} {F : Fd} {ls : List Lk} {k x y : Lk}
/-- A lock of a new key at a device, in the position that the device has. -/
theorem new_err (hc : checkN ns ds = 0) (h : GoodL ds ls) (hl : ls.length < 128) (hu : usdL ls k.key = false) (hd : 0 ≤ k.dev ∧ k.dev < ds.length) (hp : k.pos = 1 ∨ k.pos = 2) (hq : 0 ≤ k.key ∧ k.key ≤ 65536) (ho : othL ls k = false) :
    (addErr ns ds ls k ≠ 0 ∧ kindOf ds k.dev = 5) ∨ (addErr ns ds ls k = 0 ∧ GoodL ds (insL k ls) ∧ kindOf ds k.dev ≠ 5) := by
  unfold addErr
  rw [if_neg (by rw [locks_fine hc h]; simp)]
  by_cases hk : kindOf ds k.dev = 5
  · have e : lkErr ds k = 6 := by unfold lkErr; rw [if_neg (by omega), if_neg (by omega), if_pos hk]
    rw [e, if_pos (by decide)]
    exact .inl ⟨by decide, hk⟩
  · have e : lkErr ds k = 0 := by unfold lkErr; rw [if_neg (by omega), if_neg (by omega), if_neg hk, if_neg (by omega), if_neg (by omega), if_neg (by omega)]
    rw [e, if_neg (by simp), hu, if_neg (by simp), ho, if_neg (by simp), if_neg (by omega)]
    exact .inr ⟨rfl, ins_good h e hu ho hl, hk⟩
theorem ins_swap (h1 : GoodL ds (insL y (insL x ls))) (h2 : GoodL ds (insL x (insL y ls))) : insL y (insL x ls) = insL x (insL y ls) := by
  have p : (insL y (insL x ls)).Perm (insL x (insL y ls)) := by
    refine ((ins_perm y _).trans ((ins_perm x ls).append_right [y])).trans (List.Perm.trans ?_ ((ins_perm x _).trans ((ins_perm y ls).append_right [x])).symm)
    rw [List.append_assoc, List.append_assoc]
    exact List.Perm.append_left ls (List.Perm.swap y x [])
  exact p.eq_of_pairwise (fun a b _ _ hab hba => (bef_asymm hab.1 hba.1).elim) h1.2.2 h2.2.2
/-- What a field behind a lock of device i, by key q, is. -/
def lckF (F : Fd) (i : Nat) (q : Int) : Fd := ⟨F.s, insL ⟨(i : Int), F.s.getD i 0, q⟩ F.ls, F.st⟩
theorem lckF_to {i : Nat} {q : Int} : evTo ds F 6 (i : Int) (F.s.getD i 0) q = lckF F i q := rfl
theorem pos_of (h : fdErr ns ds F = 0) {i : Nat} (hi : i < ds.length) : posB (F.s.getD i 0) = true ∧ (F.s.getD i 0 = 1 ∨ F.s.getD i 0 = 2) := by
  obtain ⟨-, hl, hp⟩ := stateErr_len (fdErr_zero h).1
  have hm : F.s.getD i 0 ∈ F.s := by
    rw [List.getD_eq_getElem?_getD, List.getElem?_eq_getElem (by omega)]
    exact List.getElem_mem _
  have := hp _ hm
  exact ⟨this, by unfold posB at this; simpa using this⟩
theorem lck_err (h : fdErr ns ds F = 0) {i : Nat} {q : Int} (hi : i < ds.length) : stpErr ns ds F 6 (i : Int) (F.s.getD i 0) q = addErr ns ds F.ls ⟨(i : Int), F.s.getD i 0, q⟩ := by
  rw [stp_in h (by omega) rfl]
  unfold evErr
  rw [if_neg (by decide), if_neg (by decide), if_neg (by decide), if_neg (by decide), if_pos rfl, if_pos ⟨(pos_of h hi).1, by rw [Int.toNat_natCast]⟩]
theorem oth_none (h : fdErr ns ds F = 0) {i : Nat} {q : Int} : othL F.ls ⟨(i : Int), F.s.getD i 0, q⟩ = false := oth_not.2 fun y hy e => by
  have := (fdErr_zero h).2.2.1 y hy
  simp only at e ⊢
  rw [← this, e, Int.toNat_natCast]
theorem lck_cases (h : fdErr ns ds F = 0) {i : Nat} {q : Int} (hi : i < ds.length) (hl : F.ls.length < 128) (hu : ∀ x ∈ F.ls, x.key ≠ q) (hq : 0 ≤ q ∧ q ≤ 65536) :
    (stpErr ns ds F 6 (i : Int) (F.s.getD i 0) q ≠ 0 ∧ kindOf ds i = 5) ∨ (stpErr ns ds F 6 (i : Int) (F.s.getD i 0) q = 0 ∧ kindOf ds i ≠ 5) := by
  rw [lck_err h hi]
  obtain ⟨hs, hll, -, -⟩ := fdErr_zero h
  rcases new_err (ns := ns) (k := ⟨(i : Int), F.s.getD i 0, q⟩) (stateErr_len hs).1 (locks_good hll) hl (usd_not.2 hu) (by simp only; omega) (pos_of h hi).2 hq (oth_none h) with ⟨h1, h2⟩ | ⟨h1, -, h2⟩
  · exact .inl ⟨h1, h2⟩
  · exact .inr ⟨h1, h2⟩
theorem lckF_ok {i : Nat} {q : Int} (h0 : stpErr ns ds F 6 (i : Int) (F.s.getD i 0) q = 0) : fdErr ns ds (lckF F i q) = 0 := evTo_ok h0
/-- The second lock. -/
theorem lck_two {i j : Nat} {q r : Int} (hj : j < ds.length) (hl : F.ls.length < 127) (hu : ∀ x ∈ F.ls, x.key ≠ r) (hqr : q ≠ r) (hr : 0 ≤ r ∧ r ≤ 65536) (h0 : stpErr ns ds F 6 (i : Int) (F.s.getD i 0) q = 0) (hkj : kindOf ds j ≠ 5) :
    stpErr ns ds (lckF F i q) 6 (j : Int) (F.s.getD j 0) r = 0 := by
  rcases lck_cases (F := lckF F i q) (i := j) (q := r) (lckF_ok h0) hj (by unfold lckF; simp only [ins_len]; omega) (fun x hx => by
    rcases (ins_mem ..).1 hx with rfl | hx
    · exact hqr
    · exact hu x hx) hr with ⟨-, h2⟩ | ⟨h1, -⟩
  · exact absurd h2 hkj
  · exact h1
theorem lck_swap {i j : Nat} {q r : Int} (h3 : stpErr ns ds (lckF F i q) 6 (j : Int) (F.s.getD j 0) r = 0) (h4 : stpErr ns ds (lckF F j r) 6 (i : Int) (F.s.getD i 0) q = 0) :
    evTo ds (lckF F i q) 6 (j : Int) (F.s.getD j 0) r = evTo ds (lckF F j r) 6 (i : Int) (F.s.getD i 0) q := by
  have g1 := locks_good (fdErr_zero (evTo_ok h3)).2.1
  have g2 := locks_good (fdErr_zero (evTo_ok h4)).2.1
  have := ins_swap (x := ⟨(i : Int), F.s.getD i 0, q⟩) (y := ⟨(j : Int), F.s.getD j 0, r⟩) g1 g2
  show (⟨F.s, insL _ (insL _ F.ls), F.st⟩ : Fd) = ⟨F.s, insL _ (insL _ F.ls), F.st⟩
  rw [this]
/-- Unlocking behind locking. -/
theorem unl_ok {i : Nat} {q : Int} (hi : i < ds.length) (hu : ∀ x ∈ F.ls, x.key ≠ q) (h0 : stpErr ns ds F 6 (i : Int) (F.s.getD i 0) q = 0) :
    stpErr ns ds (lckF F i q) 7 (i : Int) 0 q = 0 ∧ evTo ds (lckF F i q) 7 (i : Int) 0 q = F := by
  have hx := idx_ins (ls := F.ls) (k := ⟨(i : Int), F.s.getD i 0, q⟩) (usd_not.2 hu)
  simp only at hx
  constructor
  · rw [stp_in (lckF_ok h0) (by omega) rfl]
    unfold evErr
    rw [if_neg (by decide), if_neg (by decide), if_neg (by decide), if_neg (by decide), if_neg (by decide), if_pos rfl, if_neg]
    unfold lckF
    simp only
    rw [hx]
    simp
  · show (⟨F.s, (match idxL (i : Int) q (insL ⟨(i : Int), F.s.getD i 0, q⟩ F.ls) with | some i' => (insL ⟨(i : Int), F.s.getD i 0, q⟩ F.ls).eraseIdx i' | none => insL ⟨(i : Int), F.s.getD i 0, q⟩ F.ls), F.st⟩ : Fd) = F
    rw [hx]
    simp only
    rw [ins_erase]
end
end Go.Proofs.YtlcaebfjdhgcfaaDoor
/-
  The reference of layer 3: walk of Ints.
-/
namespace Go.Proofs.YtlcaebfjdhgcfaaDoor
open Go.RowKit
def InR (w : World) (n : Nat) (l m : List Int) (gk : Nat) (iv : Value) (wr : World) : Prop := ∃ i : Nat, iv = .int .i64 i ∧ i ≤ n ∧ gk = n - i ∧ Hid (Below w.heap.size w wr) ∧ Hid (∀ j, j < i → l[j]? = m[j]?)
set_option maxHeartbeats 2000000 in
theorem ints_any (A B : Option Addr) (n c n2 c2 Ba Bb : Nat) (l m : List Int) (w : World) (ha : Sl w Ba 1 A n c (intsV l)) (hb : Sl w Bb 1 B n2 c2 (intsV m)) (hBa : Ba ≤ w.heap.size) (hBb : Bb ≤ w.heap.size) : Calls Tryd.prog 28 #[.slice A n c, .slice B n2 c2] w fun e w' => e = .returned (.bool (decide (l = m))) ∧ Below w.heap.size w w' := by
  have HLA := Lib.hid (ha.len (fun _ => rfl) (by decide)); have HLB := Lib.hid (hb.len (fun _ => rfl) (by decide))
  have hm1 := ha.le
  have hm2 := hb.le
  have HA := Lib.hid ha; have HB := Lib.hid hb
  clear ha hb
  by_cases hn : n = n2; rotate_left
  · have q : decide (n = n2) = false := by simpa using hn
    have q' : ((n : Int) != (n2 : Int)) = true := by simp; omega
    have HR : Hid (decide (l = m) = false) := decide_eq_false (fun e => hn (by rw [← HLA.out, ← HLB.out, e]))
    clear hn
    go_enter Tryd.func28, Tryd.ntmps28
    go_wp2_with fail
    go_ret
    exact ⟨ret_bool (by rw [HR.out]), Below.refl _ _⟩
  subst hn
  go_enter Tryd.func28, Tryd.ntmps28
  go_wp2_with fail
  go_loopg [5] n (InR w n l m)
  case atStart => exact ⟨0, rfl, Nat.zero_le _, rfl, Below.refl _ _, fun j hj => absurd hj (by omega)⟩
  case round =>
    obtain ⟨i, rfl, hi, rfl, hbl, hok⟩ := hrel
    by_cases hlt : i < n
    · obtain ⟨b1, o1, x, rfl, hb1, hx, hc1⟩ := (HA.out.below hbl.out hBa).at1 hlt
      obtain ⟨b2, o2, y, rfl, hb2, hy, hc2⟩ := (HB.out.below hbl.out hBb).at1 hlt
      have HX := Lib.hid hx; have HY := Lib.hid hy
      clear hx hy
      go_upto_region 6 with (fail)
      refine wp_region_J (S := fun W' => W'.cell? ⟨b1, o1 + i, none⟩ = some (.int .i64 x) ∧ W'.cell? ⟨b2, o2 + i, none⟩ = some (.int .i64 y)) (J := []) (by kernel_rfl) ?_ (fun hHeld => ?_)
      · exact ⟨hc1, hc2⟩
      try dsimp only at hHeld
      refine wpAnyJ_takeL (i := 0) (d := some 17) (v := ?_) #[true, false, false, false, false, false, false, false, false] (by kernel_rfl) rfl rfl (by kernel_rfl) (by kernel_rfl) (by kernel_rfl) (by kernel_rfl) (by kernel_rfl) (fun _ _ _ h => h) (Or.inl ⟨by rfl, ?_⟩) hHeld ?_
      rotate_left
      · (intro w hSw; (try dsimp only at hSw);  go_simp; try with_reducible rfl)
      try simp only [Act.put, List.setIfInBounds_toArray, List.set_cons_zero, List.set_cons_succ]
      refine wpAnyJ_takeL (i := 1) (d := some 18) (v := ?_) #[true, true, false, false, false, false, false, false, false] (by kernel_rfl) rfl rfl (by kernel_rfl) (by kernel_rfl) (by kernel_rfl) (by kernel_rfl) (by kernel_rfl) (fun _ _ _ h => h) (Or.inl ⟨by rfl, ?_⟩) hHeld ?_
      rotate_left
      · (intro w hSw; (try dsimp only at hSw);  go_simp; try with_reducible rfl)
      try simp only [Act.put, List.setIfInBounds_toArray, List.set_cons_zero, List.set_cons_succ]
      refine wpAnyJ_takeL (i := 2) (d := some 19) (v := ?_) #[true, true, true, false, false, false, false, false, false] (by kernel_rfl) rfl rfl (by kernel_rfl) (by kernel_rfl) (by kernel_rfl) (by kernel_rfl) (by kernel_rfl) (fun _ _ _ h => h) (Or.inl ⟨by rfl, ?_⟩) hHeld ?_
      rotate_left
      · (intro w hSw; (try dsimp only at hSw);  go_simp; try with_reducible rfl)
      try simp only [Act.put, List.setIfInBounds_toArray, List.set_cons_zero, List.set_cons_succ]
      refine wpAnyJ_takeL (i := 3) (d := some 20) (v := ?_) #[true, true, true, true, false, false, false, false, false] (by kernel_rfl) rfl rfl (by kernel_rfl) (by kernel_rfl) (by kernel_rfl) (by kernel_rfl) (by kernel_rfl) (fun _ _ _ h => h) (Or.inl ⟨by rfl, ?_⟩) hHeld ?_
      rotate_left
      · (intro w hSw; (try dsimp only at hSw);  go_simp; try with_reducible rfl)
      try simp only [Act.put, List.setIfInBounds_toArray, List.set_cons_zero, List.set_cons_succ]
      refine wpAnyJ_takeL (i := 4) (d := some 21) (v := ?_) #[true, true, true, true, true, false, false, false, false] (by kernel_rfl) rfl rfl (by kernel_rfl) (by kernel_rfl) (by kernel_rfl) (by kernel_rfl) (by kernel_rfl) (fun _ _ _ h => h) (Or.inl ⟨by rfl, ?_⟩) hHeld ?_
      rotate_left
      · (intro w hSw; (try dsimp only at hSw);  go_simp; try with_reducible rfl)
      try simp only [Act.put, List.setIfInBounds_toArray, List.set_cons_zero, List.set_cons_succ]
      refine wpAnyJ_takeL (i := 5) (d := some 22) (v := ?_) #[true, true, true, true, true, true, false, false, false] (by kernel_rfl) rfl rfl (by kernel_rfl) (by kernel_rfl) (by kernel_rfl) (by kernel_rfl) (by kernel_rfl) (fun _ _ _ h => h) (Or.inl ⟨by rfl, ?_⟩) hHeld ?_
      rotate_left
      · (intro w hSw; (try dsimp only at hSw);  go_simp; try with_reducible rfl)
      try simp only [Act.put, List.setIfInBounds_toArray, List.set_cons_zero, List.set_cons_succ]
      refine wpAnyJ_takeL (i := 6) (d := some 23) (v := ?_) #[true, true, true, true, true, true, true, false, false] (by kernel_rfl) rfl rfl (by kernel_rfl) (by kernel_rfl) (by kernel_rfl) (by kernel_rfl) (by kernel_rfl) (fun _ _ _ h => h) (Or.inl ⟨by rfl, ?_⟩) hHeld ?_
      rotate_left
      · (intro w hSw; (try dsimp only at hSw);  go_simp; try with_reducible rfl)
      try simp only [Act.put, List.setIfInBounds_toArray, List.set_cons_zero, List.set_cons_succ]
      refine wpAnyJ_takeL (i := 7) (d := some 24) (v := ?_) #[true, true, true, true, true, true, true, true, false] (by kernel_rfl) rfl rfl (by kernel_rfl) (by kernel_rfl) (by kernel_rfl) (by kernel_rfl) (by kernel_rfl) (fun _ _ _ h => h) (Or.inl ⟨by rfl, ?_⟩) hHeld ?_
      rotate_left
      · (intro w hSw; (try dsimp only at hSw);  go_simp; try with_reducible rfl)
      try simp only [Act.put, List.setIfInBounds_toArray, List.set_cons_zero, List.set_cons_succ]
      refine wpAnyJ_takeL (i := 8) (d := some 25) (v := ?_) #[true, true, true, true, true, true, true, true, true] (by kernel_rfl) rfl rfl (by kernel_rfl) (by kernel_rfl) (by kernel_rfl) (by kernel_rfl) (by kernel_rfl) (fun _ _ _ h => h) (Or.inl ⟨by rfl, ?_⟩) hHeld ?_
      rotate_left
      · (intro w hSw; (try dsimp only at hSw);  go_simp; try with_reducible rfl)
      try simp only [Act.put, List.setIfInBounds_toArray, List.set_cons_zero, List.set_cons_succ]
      refine wpAnyJ_done (by kernel_rfl) ?_ _
      clear hHeld
      by_cases hxy : x = y
      · subst hxy
        go_wp2_with fail
        go_roundg (n - (i + 1))
        case rel => exact ⟨i + 1, by go_num, by omega, rfl, hbl.out.drew, fun j hj => by
          rcases Nat.lt_succ_iff_lt_or_eq.1 hj with h | rfl
          · exact hok.out j h
          · rw [HX.out, HY.out]⟩
        case measure => omega
      · have q : (x != y) = true := by simpa using hxy
        have q2 : (x == y) = false := by simpa using hxy
        have HR : Hid (decide (l = m) = false) := decide_eq_false (fun e => hxy (by have := HX.out; rw [e, HY.out] at this; exact (Option.some.inj this).symm))
        clear hxy
        go_wp2_with fail
        go_ret
        exact ⟨ret_bool (by rw [HR.out]), hbl.out.drew⟩
    · obtain rfl : i = n := by omega
      have hii : decide (i < i) = false := by simp
      have HR : Hid (decide (l = m) = true) := decide_eq_true (by
        apply List.ext_getElem?
        intro j
        by_cases hj : j < i
        · exact hok.out j hj
        · rw [List.getElem?_eq_none (by rw [HLA.out]; omega), List.getElem?_eq_none (by rw [HLB.out]; omega)])
      go_wp2_with fail
      go_ret
      exact ⟨ret_bool (by rw [HR.out]), hbl.out⟩
end Go.Proofs.YtlcaebfjdhgcfaaDoor
