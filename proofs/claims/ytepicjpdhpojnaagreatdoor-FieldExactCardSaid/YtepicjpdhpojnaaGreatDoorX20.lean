import Derived.Test.YtepicjpdhpojnaaGreatDoorShelf
import Derived.Sort.OwnSortedInts
import Derived.Test.YtepicjpdhpojnaaGreatDoorX18
import Derived.Test.YtepicjpdhpojnaaGreatDoorX19
set_option maxRecDepth 100000
set_option maxHeartbeats 8000000
namespace Go.Proofs.YtepicjpdhpojnaaGreatDoor
section
open Go.RowKit
def yx (l : List Int) (x : Int) : Bool := l.contains x
theorem vl (l : List Int) (x : Int) : yx l x = true ↔ x ∈ l := by unfold yx; simp
theorem o4 (l : List Int) (x : Int) : yx l x = false ↔ x ∉ l := by rw [← vl]; simp
theorem tz (A : Option Addr) (n c B : Nat) (l : List Int) (x : Int) (w : World) (h : Sl w B 1 A n c (zK l)) :
 Calls Tryz.prog 151 #[.slice A n c, .int .i64 x] w fun e w' => e = .returned (.bool (yx l x)) ∧ w = w' := by
 have hl : l.length = n := h.len (fun _ => rfl) (by decide)
 have hle := h.le
 rcases Nat.eq_zero_or_pos n with rfl | h0
 ·have : l = [] := List.eq_nil_of_length_eq_zero hl
  subst this
  refine (Tryz.slices_Contains_int_empty A c x w).mono ?_
  rintro e w1 ⟨rfl, rfl⟩
  exact ⟨rfl, rfl⟩
 ·obtain ⟨b, off, e, hb, hc⟩ := h.2.2.2.2 h0
  subst e
  refine (Tryz.slices_Contains_int b off n c l x w (by omega) (by omega) (fun j hj => hc j _ ?_)).mono ?_
  ·have := ux (f := fun z => [Value.int .i64 z]) (size := 1) (fun _ => rfl) l j 0 _ (List.getElem?_eq_getElem hj) (by decide)
   rw [Nat.mul_one] at this
   rw [List.getD_eq_getElem?_getD, List.getElem?_eq_getElem hj]
   exact this
  ·rintro e w1 ⟨rfl, rfl⟩
   rw [List.take_of_length_le (by omega)]
   exact ⟨rfl, rfl⟩
end
section
open Go.RowKit
theorem kX (k : Int) (w : World) : Calls Tryz.prog 147 #[.int .i64 k] w fun e w' => e = .returned (.bool (wO k)) ∧ w = w' := by
 have HE : Hid (wO k = (k == 1 || (k == 3 || k == 6))) := by unfold Hid wO; rw [Bool.or_assoc]
 rcases h1 : (k == 1) with _ | _
 ·rw [h1] at HE
  rcases h3 : (k == 3) with _ | _
  ·rw [h3] at HE
   go_enter Tryz.func147, Tryz.ntmps147
   go_wp2_with fail
   go_ret
   exact ⟨zP (by rw [HE.out]; rfl), rfl⟩
  ·rw [h3] at HE
   go_enter Tryz.func147, Tryz.ntmps147
   go_wp2_with fail
   go_ret
   exact ⟨zP (by rw [HE.out]; rfl), rfl⟩
 ·rw [h1] at HE
  go_enter Tryz.func147, Tryz.ntmps147
  go_wp2_with fail
  go_ret
  exact ⟨zP (by rw [HE.out]; rfl), rfl⟩
def pr (ds : List Dv) (gs : List Int) : Prop := ye ds.length (-1) gs = true ∧ ∀ g ∈ gs, ∀ x, ds[g.toNat]? = some x → wO x.kind = true
def Rgn (ds : List Dv) (gs z : List Int) (v : Int) : Prop := Rch ds (fun i => !yx gs i) (fun _ => false) z v
open Classical in
noncomputable def yC (nn : Nat) (R : Int → Prop) : List Int := ((List.range nn).filter fun v : Nat => decide (R (v : Int))).map fun v : Nat => (v : Int)
open Classical in
theorem uW (nn : Nat) (R : Int → Prop) : yC (nn + 1) R = yC nn R ++ if R nn then [(nn : Int)] else [] := by
 unfold yC
 rw [List.range_succ, List.filter_append, List.map_append]
 by_cases h : R (nn : Int)
 ·simp [h]
 ·simp [h]
theorem mB (nn : Nat) (R : Int → Prop) : (yC nn R).length ≤ nn := by
 unfold yC
 rw [List.length_map]
 exact Nat.le_trans (List.length_filter_le _ _) (by simp)
theorem rm {nn : Nat} {R : Int → Prop} {v : Int} : v ∈ yC nn R ↔ 0 ≤ v ∧ v < nn ∧ R v := by
 unfold yC
 simp only [List.mem_map, List.mem_filter, List.mem_range, decide_eq_true_eq]
 constructor
 ·rintro ⟨k, ⟨h1, h2⟩, rfl⟩; exact ⟨by omega, by omega, h2⟩
 ·rintro ⟨h1, h2, h3⟩
  obtain ⟨k, rfl⟩ := Int.eq_ofNat_of_zero_le h1
  exact ⟨k, ⟨by omega, h3⟩, rfl⟩
theorem l4 (Ag : Option Addr) (n c B bb : Nat) (gs : List Int) (i : Nat) (W : World) (hc : W.cell? ⟨bb, 0, none⟩ = some (.slice Ag n c)) (hs : Sl W B 1 Ag n c (zK gs)) :
 Calls Tryz.prog 165 #[.int .i64 i, .pointer (some ⟨bb, 0, none⟩)] W fun e W' => e = .returned (.bool (!yx gs i)) ∧ W = W' := by
 have HC := iD (tz Ag n c B gs i W hs)
 clear hs
 go_enter Tryz.func165, Tryz.ntmps165
 go_wp2_with fail
 refine HC.out.mono ?_
 rintro e w1 ⟨rfl, rfl⟩
 go_wp2_with fail
 go_ret
 exact ⟨rfl, rfl⟩
theorem l3 (v : Int) (w : World) : Calls Tryz.prog 166 #[.int .i64 v] w fun e w' => e = .returned (.bool false) ∧ w = w' := by
 go_enter Tryz.func166, Tryz.ntmps166
 go_wp2_with fail
 go_ret
 exact ⟨rfl, rfl⟩
theorem ny (An Ad Az Ag : Option Addr) (nn cn nd cd n c ng cg : Nat) (ds : List Dv) (z gs : List Int) (w : World) (hd : Sl w w.heap.size 5 Ad nd cd (ds.flatMap Dv.cells)) (hz : Sl w w.heap.size 1 Az n c (zK z)) (hg : Sl w w.heap.size 1 Ag ng cg (zK gs))
 (hnn : nn ≤ 10000) (hn : n ≤ 10000) (hends : xG nn ds) (hsrc : ∀ v ∈ z, 0 ≤ v ∧ v < nn) :
 Calls Tryz.prog 149 #[.agg #[.slice An nn cn, .slice Ad nd cd], .slice Az n c, .slice Ag ng cg] w (pK w nn (Rgn ds gs z)) := by
 have HB : Hid (Below w.heap.size w ((w.alloc (.cells #[.slice An nn cn, .slice Ad nd cd] 30)).alloc (.cells #[.slice Ag ng cg] 22))) := ((Below.refl _ _).alloc lR _).alloc (by simp) _
 have HK := iD ((Blk.new w 30 #[.slice An nn cn, .slice Ad nd cd]).alloc (.cells #[.slice Ag ng cg] 22))
 have HG := iD (Blk.new (w.alloc (.cells #[.slice An nn cn, .slice Ad nd cd] 30)) 22 #[.slice Ag ng cg])
 have hsz : (w.alloc (.cells #[.slice An nn cn, .slice Ad nd cd] 30)).heap.size = w.heap.size + 1 := by simp
 rw [hsz] at HG
 have HD := iD hd; have HZ := iD hz; have HGS := iD hg; have HE := iD hends; have HSR := iD hsrc
 clear hd hz hg hends hsrc
 have hmf : ∀ (fn : Fn) (first cap : Array Value) (w : World), (Instr.makeFunc fn first cap).run Tryz.prog w = .ok (.func fn first cap) w := fun _ _ _ _ => rfl
 go_enter Tryz.func149, Tryz.ntmps149
 go_upto_region 1 with (fail)
 clear hsz
 generalize World.alloc (World.alloc w _) _ = W at *
 have k0 : W.cell? ⟨w.heap.size, 0, none⟩ = some (.slice An nn cn) := HK.out.cell 0
 have k1 : W.cell? ⟨w.heap.size, 1, none⟩ = some (.slice Ad nd cd) := HK.out.cell 1
 go_wp2_with fail
 clear k0 k1
 have hzW := HB.out.size
 refine (sQ An Ad Az nn cn nd cd n c W.heap.size W.heap.size 165 166 #[.pointer (some ⟨w.heap.size + 1, 0, none⟩)] #[] ds z (fun i => !yx gs i) (fun _ => false) W ((HD.out.below HB.out lR).more hzW) lR ((HZ.out.below HB.out lR).more hzW) lR hnn hn HE.out HSR.out (enters_of Tryz.func165 (by kernel_rfl) rfl) (enters_of Tryz.func166 (by kernel_rfl) rfl) ?_ ?_).mono ?_
 ·intro W' i hb _
  refine (l4 Ag ng cg w.heap.size (w.heap.size + 1) gs i W' ((hb.cell (p := ⟨w.heap.size + 1, 0, none⟩) HG.out.lt).trans (HG.out.cell 0)) ((HGS.out.below HB.out lR).below hb hzW)).mono ?_
  rintro e w' ⟨rfl, rfl⟩
  exact ⟨rfl, Below.refl _ _⟩
 ·intro W' v _ _ _
  refine (l3 v W').mono ?_
  rintro e w' ⟨rfl, rfl⟩
  exact ⟨rfl, Below.refl _ _⟩
 ·rintro e w1 ⟨A, l, rfl, hl, hO, hR, hb⟩
  go_wp2_with fail
  go_ret
  exact ⟨A, l, rfl, hl, World.ownsRow.mono hO.out (by omega), hR, HB.out.trans (hb.out.mono hzW)⟩
theorem jL {w : World} {B n c k : Nat} {A : Option Addr} {l : List Int} (h : Sl w B 1 A n c (zK l)) (hk : k ≤ n) : Sl w B 1 A k c (zK (l.take k)) := by
 have hl : l.length = n := h.len (fun _ => rfl) (by decide)
 obtain ⟨h1, h2, h3, h4, h5⟩ := h
 refine ⟨?_, by omega, h3, h4, fun h0 => ?_⟩
 ·unfold zK; rw [wX, List.length_map, List.length_take]; omega
 ·obtain ⟨b, off, e, hb, hc⟩ := h5 (by omega)
  refine ⟨b, off, e, hb, fun j u hu => hc j u ?_⟩
  unfold zK at hu ⊢
  rw [wX, List.getElem?_map] at hu ⊢
  rw [List.getElem?_take] at hu
  split at hu
  ·exact hu
  ·simp at hu
def ZgR (w : World) (N : Array Value) (n gk : Nat) (iv : Value) (wr : World) : Prop := ∃ i : Nat, iv = .int .i64 i ∧ i ≤ n ∧ gk = n - i ∧ Hid (Blk wr w.heap.size 30 N) ∧ Hid (Below w.heap.size w wr)
theorem pu (An Ad Az Ag : Option Addr) (nn cn nd cd n c ng cg : Nat) (ns : List Nd) (ds : List Dv) (z gs : List Int) (w : World) (hl : Laid w) (hn : Sl w w.heap.size 3 An nn cn (ns.flatMap Nd.cells)) (hd : Sl w w.heap.size 5 Ad nd cd (ds.flatMap Dv.cells)) (hz : Sl w w.heap.size 1 Az n c (zK z)) (hg : Sl w w.heap.size 1 Ag ng cg (zK gs))
 (hsn : ∀ x ∈ ns, x.name.size ≤ 9223372036854775807) (hsd : ∀ x ∈ ds, x.name.size ≤ 9223372036854775807) (hgo : pr ds gs) :
 Calls Tryz.prog 148 #[.agg #[.slice An nn cn, .slice Ad nd cd], .slice Az n c, .slice Ag ng cg] w fun e w' => e = .returned (.int .i64 (zd ns ds z)) ∧ Below w.heap.size w w' := by
 have HLD := iD (hd.len (fun _ => rfl) (by decide)); have HLG := iD (hg.len (fun _ => rfl) (by decide))
 have hgl := hg.le
 have hdl := hd.le
 have HB : Hid (Below w.heap.size w (w.alloc (.cells #[.slice An nn cn, .slice Ad nd cd] 30))) := (Below.refl _ _).alloc lR _
 have HK := iD (Blk.new w 30 #[.slice An nn cn, .slice Ad nd cd])
 have hz1 := HB.out.size
 have HC := iD (rF An Ad Az nn cn nd cd n c ns ds z (w.alloc (.cells #[.slice An nn cn, .slice Ad nd cd] 30)) (hl.alloc _) ((hn.below HB.out lR).more hz1) ((hd.below HB.out lR).more hz1) ((hz.below HB.out lR).more hz1) hsn hsd)
 have HG := iD hg; have HD := iD hd; have HGO := iD hgo
 clear hl hn hd hz hg hsn hsd hgo hz1
 go_enter Tryz.func148, Tryz.ntmps148
 go_wp2_with fail
 generalize World.alloc w _ = W at *
 refine HC.out.mono ?_
 rintro e w1 ⟨rfl, hb1⟩
 have HB1 := iD (HB.out.trans (hb1.mono HB.out.size))
 have HK1 := iD (HK.out.below hb1 HK.out.lt)
 clear hb1 HC HB HK
 obtain ⟨er, her⟩ : ∃ x, x = zd ns ds z := ⟨_, rfl⟩
 rw [← her]
 have HER := iD her
 clear her
 by_cases he : er = 0; rotate_left
 ·have q : (er != 0) = true := by simpa using he
  clear he
  go_wp2_with fail
  go_ret
  exact ⟨zI HER.out, HB1.out⟩
 subst he
 go_wp2_with fail
 go_loopg [18] ng (ZgR w #[.slice An nn cn, .slice Ad nd cd] ng)
 case atStart => exact ⟨0, rfl, Nat.zero_le _, rfl, HK1, HB1⟩
 case round =>
  clear HK1 HB1
  obtain ⟨i, rfl, hi, rfl, hk, hb⟩ := hrel
  by_cases hlt : i < ng
  ·obtain ⟨bg, og, g, rfl, hbg, hx, hc⟩ := (HG.out.below hb.out lR).at1 hlt
   have hmem := List.mem_of_getElem? hx
   have hgr := vP HGO.out.1 g hmem
   obtain ⟨g, rfl⟩ := Int.eq_ofNat_of_zero_le (show 0 ≤ g by omega)
   have hgn : g < nd := by have := HLD.out; omega
   obtain ⟨b0, off, x, rfl, hb0, hx0, hc0⟩ := (HD.out.below hb.out lR).at (k := g) (fun _ => rfl) (by decide) hgn
   have HGB : Hid (wO x.kind = true) := HGO.out.2 _ hmem x (by rw [Int.toNat_natCast]; exact hx0)
   have c1 : wr.cell? ⟨b0, off + g * 5 + 1, none⟩ = some (.int .i64 x.kind) := hc0 1 _ rfl
   have HC1 := iD c1
   have HR : Hid (ye nd (-1) (gs.take (i + 1)) = true) := by have := sK (i + 1) HGO.out.1; rw [HLD.out] at this; exact this
   have HST : Hid (Sl wr w.heap.size 1 (some ⟨bg, og, none⟩) (i + 1) cg (zK (gs.take (i + 1)))) := jL (HG.out.below hb.out lR) (by omega)
   have hic : i + 1 ≤ cg := by omega
   have hiI : ((i : Int) + 1) ≤ (cg : Int) := by omega
   have hwr : IntKind.wrap .i64 ((i : Int) + 1) = ((i + 1 : Nat) : Int) := by rw [IntKind.wrap_i64]; omega
   have hiN : ((i + 1 : Nat) : Int) ≤ (cg : Int) := by omega
   have hi0 : 0 ≤ ((i + 1 : Nat) : Int) := by omega
   have hi01 : 0 ≤ ((i : Int) + 1) := by omega
   clear hx hx0 hc0 hmem hgr
   go_upto_region 7 with (fail)
   clear c1
   have HK0 : Hid (wr.cell? ⟨w.heap.size, 0, none⟩ = some (.slice An nn cn) ∧ wr.cell? ⟨w.heap.size, 1, none⟩ = some (.slice (some ⟨b0, off, none⟩) nd cd)) := ⟨hk.out.cell 0, hk.out.cell 1⟩
   refine za (S := fun W' => W'.cell? ⟨w.heap.size, 0, none⟩ = some (.slice An nn cn) ∧ W'.cell? ⟨w.heap.size, 1, none⟩ = some (.slice (some ⟨b0, off, none⟩) nd cd)) (J := []) (n := _) ((0, true) :: (1, true) :: (4, true) :: (5, true) :: (2, true) :: (6, true) :: (3, true) :: (7, false) :: (8, true) :: (9, true) :: []) (by as_aux_lemma => kernel_rfl) (by rfl) (zM (k := 2) (by go_simp; rfl) (zM (k := 8) (by go_simp; rfl) (zM (k := 3) (by go_simp; rfl) yH))) ?_ (fun _ _ _ _ _ h => h) (fun Q2 A hsz hbase hn2 AA => ?_)
   ·exact HK0.out
   try dsimp only at AA
   obtain ⟨b2, b8, b3, -⟩ := hbase
   refine oM 0 24 ?_ rfl rfl rfl (zB rfl) AA (fun ρ AB => ?_) ?_
   rotate_left
   ·(have e2 := tm AB hsz 2 rfl (zF b2); exact e2)
   refine oM 1 25 ?_ rfl rfl rfl (zB rfl) AA (fun ρ AB => ?_) ?_
   rotate_left
   ·(have e8 := tm AB hsz 8 rfl (zC rfl (zF b8)); exact e8)
   refine oT 4 28 ?_ rfl rfl (zB rfl) AA (fun ρ AB w hSw => ?_) ?_
   rotate_left
   ·(have e3 := tm AB hsz 3 rfl (zC rfl (zC rfl (zF b3))); clear AB; (try dsimp only at hSw); go_simp; try with_reducible rfl)
   refine oT 5 29 ?_ rfl rfl (zB rfl) AA (fun ρ AB w hSw => ?_) ?_
   rotate_left
   ·(have e28 := tm AB hsz 28 rfl zA; clear AB; (try dsimp only at hSw); have k1 := hSw.2; clear hSw; go_simp; try with_reducible rfl)
   refine oT 2 26 ?_ rfl rfl (zB rfl) AA (fun ρ AB w hSw => ?_) ?_
   rotate_left
   ·(have hc := AB.const; have e25 := tm AB hsz 25 rfl (zC rfl (zC rfl zA)); clear AB; (try dsimp only at hSw); go_simp; try with_reducible rfl)
   refine oT 6 30 ?_ rfl rfl (zB rfl) AA (fun ρ AB w hSw => ?_) ?_
   rotate_left
   ·(have e29 := tm AB hsz 29 rfl (zC rfl zA); clear AB; (try dsimp only at hSw); go_simp; try with_reducible rfl)
   refine oT 3 27 ?_ rfl rfl (zB rfl) AA (fun ρ AB w hSw => ?_) ?_
   rotate_left
   ·(have e24 := tm AB hsz 24 rfl (zD rfl rfl rfl rfl (zC rfl zA)); have e26 := tm AB hsz 26 rfl (zC rfl zA); clear AB; (try dsimp only at hSw); go_simp; try with_reducible rfl)
   refine yR (i := 7) (d := 31) (vs := ?_) rfl rfl rfl (zB rfl) (fun ρ AB => ?_) ?_ ?_
   rotate_left
   ·(have e27 := tm AB hsz 27 rfl zA; have e30 := tm AB hsz 30 rfl (zC rfl zA); simp only [List.map_toArray, List.map_cons, List.map_nil, e27, e30]; try with_reducible rfl)
   ·(intro w; go_simp)
   refine (rZ (some ⟨bg, og, none⟩) (i + 1) cg w.heap.size (gs.take (i + 1)) nd wr.drew (HST.out.below (Below.refl w.heap.size wr).drew lR)).mono ?_
   rintro e w3 ⟨rfl, rfl⟩
   rw [HR.out]
   refine ⟨_, rfl, fun _ => ?_, fun AA' => ?_⟩
   ·exact HK0.out
   replace AA := AA' rfl
   clear AA'
   try dsimp only at AA
   refine oT 8 32 ?_ rfl rfl (zB rfl) AA (fun ρ AB w hSw => ?_) ?_
   rotate_left
   ·(have e31 := tm AB hsz 31 rfl zA; clear AB; (try dsimp only at hSw); go_simp; try with_reducible rfl)
   refine oT 9 23 ?_ rfl rfl (zB rfl) AA (fun ρ AB w hSw => ?_) ?_
   rotate_left
   ·(have e32 := tm AB hsz 32 rfl zA; clear AB; (try dsimp only at hSw); go_simp; try with_reducible rfl)
   refine yG hn2 ?_
   clear AA hn2 b2 b8 b3 hsz A Q2
   simp only [yF, zu, yQ, xO, xP]
   have k1 : wr.cell? ⟨w.heap.size, 1, none⟩ = some (.slice (some ⟨b0, off, none⟩) nd cd) := HK0.out.2
   have c1 := HC1.out
   have HK2 := iD (hk.out.below (Below.refl wr.heap.size wr).drew hk.out.lt)
   have HB2 := iD hb.out.drew
   clear hk hb HK0 HST HC1
   go_wp2_with fail
   clear k1 c1
   refine (kX x.kind wr.drew).mono ?_
   rintro e w4 ⟨rfl, rfl⟩
   rw [HGB.out]
   go_wp2_with fail
   go_roundg (ng - (i + 1))
   case rel => exact ⟨i + 1, by go_num, by omega, rfl, HK2, HB2⟩
   case measure => omega
  ·obtain rfl : i = ng := by omega
   have hii : decide (i < i) = false := by simp
   go_wp2_with fail
   go_ret
   exact ⟨zI HER.out, hb.out⟩
end
section
open Go.RowKit
def HaR (w : World) (l : List Int) (x : Int) (n gk : Nat) (iv : Value) (wr : World) : Prop := ∃ i : Nat, iv = .int .i64 i ∧ i ≤ n ∧ gk = n - i ∧ wr = w ∧ Hid (∀ k, k < i → l[k]? ≠ some x)
theorem xB (A : Option Addr) (n c : Nat) (l : List Int) (x : Int) (w : World) (hs : Sl w w.heap.size 1 A n c (zK l)) :
 Calls Tryz.prog 24 #[.slice A n c, .int .i64 x] w fun e w' => e = .returned (.bool (decide (x ∈ l))) ∧ w = w' := by
 have hnm := hs.le
 have HS := iD hs
 have HLN := iD (hs.len (fun _ => rfl) (by decide))
 clear hs
 go_enter Tryz.func24, Tryz.ntmps24
 go_wp2_with fail
 go_loopg [5] n (HaR w l x n)
 case atStart => exact ⟨0, rfl, Nat.zero_le _, rfl, rfl, fun k hk => absurd hk (by omega)⟩
 case round =>
  obtain ⟨i, rfl, hi, rfl, rfl, hno⟩ := hrel
  by_cases hlt : i < n
  ·obtain ⟨b, off, y, rfl, hb, hy, hc⟩ := HS.out.at1 hlt
   have HY := iD hy
   clear hy
   by_cases hxy : y = x
   ·have q : (y == x) = true := by simpa using hxy
    have HR : Hid (decide (x ∈ l) = true) := by
     unfold Hid
     rw [decide_eq_true_eq, ← hxy]
     exact List.mem_of_getElem? HY.out
    clear hxy
    go_wp2_with fail
    go_ret
    exact ⟨zP HR.out.symm, rfl⟩
   ·have q : (y == x) = false := by simpa using hxy
    have HN : Hid (∀ k, k < i + 1 → l[k]? ≠ some x) := fun k hk e => by
     rcases Nat.lt_succ_iff_lt_or_eq.1 hk with h | rfl
     ·exact hno.out k h e
     ·rw [HY.out] at e; injection e with e; exact hxy e
    clear hxy
    go_wp2_with fail
    go_roundg (n - (i + 1))
    case rel => exact ⟨i + 1, by go_num, by omega, rfl, rfl, HN⟩
    case measure => omega
  ·obtain rfl : i = n := by omega
   have hii : decide (i < i) = false := by simp
   have HR : Hid (decide (x ∈ l) = false) := by
    unfold Hid
    rw [decide_eq_false_iff_not]
    intro hm
    obtain ⟨k, hk⟩ := List.mem_iff_getElem?.1 hm
    exact hno.out k (by have := (List.getElem?_eq_some_iff.1 hk).1; rw [HLN.out] at this; exact this) hk
   go_wp2_with fail
   go_ret
   exact ⟨zP HR.out.symm, rfl⟩
end
section
open Go.RowKit
def jc (w : World) (ns : List Nd) (ds : List Dv) (z gs : List Int) (e : Ending) (w' : World) : Prop :=
 (zd ns ds z ≠ 0 ∧ e = .returned (.tuple #[.slice none 0 0, .int .i64 (zd ns ds z)]) ∨ zd ns ds z = 0 ∧ ∃ (A : Option Addr) (k c : Nat), e = .returned (.tuple #[.slice A k c, .int .i64 0]) ∧ Hid (zQ w' w.heap.size A k c (yC ns.length (Rgn ds gs z)))) ∧ Hid (Below w.heap.size w w')
def ZrR (w2 : World) (R : Int → Prop) (n gk : Nat) (ov iv : Value) (wr : World) : Prop := ∃ (i m co : Nat) (Ao : Option Addr), ov = .slice Ao m co ∧ iv = .int .i64 i ∧ i ≤ n ∧ gk = n - i ∧ m ≤ i ∧ Hid (zQ wr w2.heap.size Ao m co (yC i R)) ∧ Hid (Below w2.heap.size w2 wr)
theorem tR {n : Nat} {R : Int → Prop} (h : R n) : yC (n + 1) R = yC n R ++ [(n : Int)] := by rw [uW, if_pos h]
theorem qo {n : Nat} {R : Int → Prop} (h : ¬ R n) : yC (n + 1) R = yC n R := by rw [uW, if_neg h, List.append_nil]
theorem mP (An Ad Az Ag : Option Addr) (nn cn nd cd n c ng cg : Nat) (ns : List Nd) (ds : List Dv) (z gs : List Int) (w : World) (hl : Laid w) (hn : Sl w w.heap.size 3 An nn cn (ns.flatMap Nd.cells)) (hd : Sl w w.heap.size 5 Ad nd cd (ds.flatMap Dv.cells)) (hz : Sl w w.heap.size 1 Az n c (zK z)) (hg : Sl w w.heap.size 1 Ag ng cg (zK gs))
 (hsn : ∀ x ∈ ns, x.name.size ≤ 9223372036854775807) (hsd : ∀ x ∈ ds, x.name.size ≤ 9223372036854775807) (hgo : pr ds gs) (hnz : n ≤ 10000) :
 Calls Tryz.prog 134 #[.agg #[.slice An nn cn, .slice Ad nd cd], .slice Az n c, .slice Ag ng cg] w (jc w ns ds z gs) := by
 have HLN := iD (hn.len (fun _ => rfl) (by decide))
 have HB : Hid (Below w.heap.size w (w.alloc (.cells #[.slice An nn cn, .slice Ad nd cd] 30))) := (Below.refl _ _).alloc lR _
 have HK := iD (Blk.new w 30 #[.slice An nn cn, .slice Ad nd cd])
 have hz1 := HB.out.size
 have HC := iD (pu An Ad Az Ag nn cn nd cd n c ng cg ns ds z gs (w.alloc (.cells #[.slice An nn cn, .slice Ad nd cd] 30)) (hl.alloc _) ((hn.below HB.out lR).more hz1) ((hd.below HB.out lR).more hz1) ((hz.below HB.out lR).more hz1) ((hg.below HB.out lR).more hz1) hsn hsd hgo)
 have HD := iD hd; have HZ := iD hz; have HG := iD hg
 clear hl hn hd hz hg hsn hsd hgo hz1
 go_enter Tryz.func134, Tryz.ntmps134
 go_wp2_with fail
 generalize World.alloc w _ = W at *
 refine HC.out.mono ?_
 rintro e w1 ⟨rfl, hb1⟩
 have HB1 := iD (HB.out.trans (hb1.mono HB.out.size))
 have HK1 := iD (HK.out.below hb1 HK.out.lt)
 clear hb1 HC HB HK
 by_cases he : zd ns ds z = 0; rotate_left
 ·have q : (zd ns ds z != 0) = true := by simpa using he
  have HE := iD he
  clear he
  go_wp2_with fail
  go_ret2
  exact ⟨.inl ⟨HE.out, rfl⟩, HB1.out⟩
 have HE := iD he
 obtain ⟨hck, hzp, hzr⟩ := y5 he
 have HOK := iD (vu.of hck)
 have hnl := HOK.out.nl
 have HZI : Hid (∀ v ∈ z, 0 ≤ v ∧ v < nn) := fun v hv => by have := vP hzr v hv; rw [HLN.out] at this; omega
 have HEN : Hid (xG nn ds) := by have := HOK.out.e; rw [HLN.out] at this; exact this
 have hnn : nn ≤ 32 := by have := HLN.out; omega
 rw [he]
 clear he hck hzp hzr hnl
 have hzw := HB1.out.size
 have k0 : w1.cell? ⟨w.heap.size, 0, none⟩ = some (.slice An nn cn) := HK1.out.cell 0
 have k1 : w1.cell? ⟨w.heap.size, 1, none⟩ = some (.slice Ad nd cd) := HK1.out.cell 1
 go_wp2_with fail
 clear k0 k1
 refine (ny An Ad Az Ag nn cn nd cd n c ng cg ds z gs w1 ((HD.out.below HB1.out lR).more hzw) ((HZ.out.below HB1.out lR).more hzw) ((HG.out.below HB1.out lR).more hzw) (by omega) (by omega) HEN.out HZI.out).mono ?_
 rintro e w2 ⟨AR, l, rfl, hll, hO, hR, hb2⟩
 have HB2 := iD (HB1.out.trans (hb2.out.mono hzw))
 have HLL := iD hll
 clear hb2 HB1 HK1 hll
 have hz2 := HB2.out.size
 obtain ⟨R, hRR⟩ : ∃ R, R = Rgn ds gs z := ⟨_, rfl⟩
 rw [← hRR] at hR
 have HRR := iD hRR
 clear hRR
 go_wp2_with fail
 go_loopg [9, 24] nn (ZrR w2 R nn)
 case atStart => exact ⟨0, 0, 0, none, rfl, rfl, Nat.zero_le _, rfl, Nat.le_refl _, World.ownsRow_nil _ _ _ _, Below.refl _ _⟩
 case round =>
  obtain ⟨i, m, co, Ao, rfl, rfl, hi, rfl, hmi, hI, hb⟩ := hrel
  by_cases hlt : i < nn
  ·obtain ⟨g, x, rfl, hg1, hg2, hx, hc, -, -⟩ := (hO.out.later hb.out).at hlt
   have HX := iD hx
   clear hx
   rcases x with _ | _
   ·have HI2 : Hid (zQ wr w2.heap.size Ao m co (yC (i + 1) R)) := by
     unfold Hid
     rw [qo (fun h => by have := (hR.out i hlt).2 h; rw [HX.out] at this; cases this)]
     exact hI.out
    go_wp2_with fail
    go_roundg (nn - (i + 1))
    case rel => exact ⟨i + 1, m, co, Ao, rfl, by go_num, by omega, rfl, by omega, HI2, hb⟩
    case measure => omega
   ·have HT : Hid (yC (i + 1) R = yC i R ++ [(i : Int)]) := tR ((hR.out i hlt).1 HX.out)
    have HI3 := iD hI.out
    clear hI
    go_wp2_with (at_builtin; go_must (refine zW rfl (.tmp 30) (.tmp 32) rfl yX (by rfl) (HI3.out.alloc _) (by rfl) (Sl.newest (n := 1) (by simp) (by rfl) (by decide)) (by simp [Value.oneCell']) (by omega) (by omega) (by have := hb.out.size; simp; omega) ?_; intro A2 co2 w5 hown5 hgr5 hat5; have HO5 := iD hown5; have HB5 : Hid (Below w2.heap.size w2 w5) := (hb.out.alloc hb.out.size _).trans ⟨hgr5.os, hgr5.tape, hgr5.output, hgr5.size, fun t ht => hgr5.block t (by have := hb.out.size; simp; omega) (fun e => by have := (HI3.out.lt t e.symm).1; omega)⟩; clear hown5 hgr5 hat5))
    have HO6 : Hid (zQ w5 w2.heap.size A2 (m + 1) co2 (yC (i + 1) R)) := by
     unfold Hid
     rw [HT.out]
     unfold zQ
     rw [zw]
     exact HO5.out
    go_roundg (nn - (i + 1))
    case rel => exact ⟨i + 1, m + 1, co2, A2, rfl, by go_num, by omega, rfl, by omega, HO6, HB5⟩
    case measure => omega
  ·obtain rfl : i = nn := by omega
   have hii : decide (i < i) = false := by simp
   go_wp2_with fail
   go_ret2
   exact ⟨.inr ⟨HE.out, Ao, m, co, rfl, by rw [HLN.out, ← HRR.out]; exact hI.out.mono hz2⟩, HB2.out.trans (hb.out.mono hz2)⟩
end
end Go.Proofs.YtepicjpdhpojnaaGreatDoor
