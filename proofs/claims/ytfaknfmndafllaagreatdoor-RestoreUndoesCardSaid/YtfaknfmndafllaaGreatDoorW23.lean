import Derived.Deep.QuietTactic
import Derived.BigQuiet
import Derived.Test.YtfaknfmndafllaaGreatDoorW22
import Derived.Test.YtfaknfmndafllaaGreatDoorW03
import Derived.Test.YtfaknfmndafllaaGreatDoorW00
import Derived.Test.YtfaknfmndafllaaGreatDoorW21
import Derived.Test.YtfaknfmndafllaaGreatDoorW16
import Derived.Test.YtfaknfmndafllaaGreatDoorW13
import Derived.Test.YtfaknfmndafllaaGreatDoorW18
import Derived.Test.YtfaknfmndafllaaGreatDoorW04
set_option maxRecDepth 100000
set_option maxHeartbeats 16000000
namespace Go.Proofs.YtfaknfmndafllaaGreatDoor
end Go.Proofs.YtfaknfmndafllaaGreatDoor
namespace Go.Proofs.YtfaknfmndafllaaGreatDoor
open Go.RowKit
theorem run_mk_bl (n : Nat) (hn : n ≤ 1000000) (w : World) : (Instr.makeSlice 131 (.int .i64 (n : Int)) (.int .i64 (n : Int))).run Tryz.prog w = .ok (.slice (some ⟨w.heap.size, 0, none⟩) n n) (w.alloc (.cells (lstF n fun _ => Value.bool false).toArray 4)) :=
 run_mk_f (z := .bool false) (bytes := 1) Tryz.underlying131 (by kernel_rfl) rfl n hn (by decide) w
def MkR (W wr : World) (g N : Nat) (f : Nat → Bool) : Prop := RowF wr 4 g N (fun b => .bool (f b)) ∧ Below W.heap.size W wr
theorem MkR.set {W wr : World} {g N : Nat} {f : Nat → Bool} (h : MkR W wr g N f) (hg : W.heap.size ≤ g) (b : Nat) (v : Bool) : MkR W (wr.setCell ⟨g, b, none⟩ (.bool v)) g N (upd f b v) :=
 ⟨by have := h.1.set b (.bool v); rwa [upd_bool] at this, h.2.setCell (p := ⟨g, b, none⟩) hg _⟩
theorem MkR.drewN {W wr : World} {g N : Nat} {f : Nat → Bool} (h : MkR W wr g N f) (q : Nat) : MkR W (wr.drewN q) g N f := ⟨h.1.below (below_drewN (Below.refl wr.heap.size wr) q) h.1.lt, below_drewN h.2 q⟩
theorem MkR.congr {W wr : World} {g N : Nat} {f f' : Nat → Bool} (h : MkR W wr g N f) (e : ∀ b, b < N → f b = f' b) : MkR W wr g N f' := ⟨h.1.congr fun b hb => by rw [e b hb], h.2⟩
def Gl1 (W : World) (g N : Nat) (gs : List Nat) (gk : Nat) (iv : Value) (wr : World) : Prop :=
 ∃ j : Nat, iv = .int .i64 j ∧ j ≤ gs.length ∧ gk = gs.length - j ∧ Hid (MkR W wr g N fun b => decide (b ∈ gs.take j))
def Gl2 (W : World) (g N L : Nat) (gM : Int → Nat → Bool) (gk : Nat) (v6 : Value) (wr : World) : Prop :=
 ∃ t : Int, v6 = .int .i64 t ∧ -1 ≤ t ∧ t < L ∧ gk = (t + 1).toNat ∧ Hid (MkR W wr g N (gM (t + 1)))
def gf (gM : Int → Nat → Bool) (t : Int) (k : Nat) (v : Bool) (b : Nat) : Bool := if b < k then gM t b else if b = k then v else gM (t + 1) b
def Gl3 (W : World) (g N : Nat) (gM : Int → Nat → Bool) (t : Int) (gk : Nat) (iv : Value) (wr : World) : Prop :=
 ∃ k : Nat, iv = .int .i64 k ∧ k ≤ N ∧ gk = N - k ∧ Hid (MkR W wr g N (gf gM t k (gM (t + 1) k)))
def Gl4 (W : World) (g N : Nat) (gM : Int → Nat → Bool) (t : Int) (k : Nat) (l : List Nat) (cond : Nat → Bool) (gk : Nat) (iv : Value) (wr : World) : Prop :=
 ∃ j : Nat, iv = .int .i64 j ∧ j ≤ l.length ∧ gk = l.length - j ∧ Hid (MkR W wr g N (gf gM t k (gM (t + 1) k || (l.take j).any cond)))
theorem gf_upd (gM : Int → Nat → Bool) (t : Int) (k : Nat) (v u : Bool) : upd (gf gM t k v) k u = gf gM t k u := by
 funext b
 unfold upd gf
 by_cases h : b = k
 ·subst h; simp
 ·simp [h]
theorem gf_next (gM : Int → Nat → Bool) (t : Int) (k : Nat) : gf gM t k (gM t k) = gf gM t (k + 1) (gM (t + 1) (k + 1)) := by
 funext b
 unfold gf
 by_cases h : b < k
 ·rw [if_pos h, if_pos (by omega)]
 ·rw [if_neg h]
  by_cases h2 : b = k
  ·subst h2; rw [if_pos rfl, if_pos (by omega)]
  ·rw [if_neg h2, if_neg (by omega)]
   by_cases h3 : b = k + 1
   ·subst h3; rw [if_pos rfl]
   ·rw [if_neg h3]
theorem gf_zero (gM : Int → Nat → Bool) (t : Int) : gf gM t 0 (gM (t + 1) 0) = gM (t + 1) := by
 funext b
 unfold gf
 rw [if_neg (Nat.not_lt_zero _)]
 split
 ·next h => rw [h]
 ·rfl
theorem gdM_ne {st : Nat → Nat → Option Nat} {D : Nat → Int} {gs : List Nat} {L : Nat} {t : Int} {b : Nat} (h : D b ≠ t) : gdM st D gs L t b = gdM st D gs L (t + 1) b := by
 unfold gdM
 rw [decide_eq_decide]
 constructor
 ·rintro ⟨h1, h2⟩; exact ⟨by omega, h2⟩
 ·rintro ⟨h1, h2⟩; exact ⟨by omega, h2⟩
theorem any_take {l : List Nat} {j i : Nat} (h : l[j]? = some i) (cond : Nat → Bool) : (l.take (j + 1)).any cond = ((l.take j).any cond || cond i) := by
 rw [List.take_add_one, h, List.any_append]; simp
theorem SpOk.same {st : Nat → Nat → Option Nat} {goal : Nat → Option Int} {N : Nat} {D : Nat → Int} {Ex : Nat → Bool} {gs : List Nat} {L L' : Nat} {c c' : Int} (h : SpOk st goal N D Ex gs L c) (h' : SpOk st goal N D Ex gs L' c') : L' = L := by
 obtain ⟨b, hb⟩ := List.exists_mem_of_ne_nil _ h.ne
 have h1 := ((h.g b).1 hb).1
 have h2 := ((h'.g b).1 hb).1
 omega
theorem MkR.no {W wr : World} {g N : Nat} {gM : Int → Nat → Bool} {t : Int} {k j i : Nat} {l : List Nat} {cond : Nat → Bool} (h : MkR W wr g N (gf gM t k (gM (t + 1) k || (l.take j).any cond))) (hi : l[j]? = some i) (hc : cond i = false) : MkR W wr g N (gf gM t k (gM (t + 1) k || (l.take (j + 1)).any cond)) := by
 rw [any_take hi, hc, Bool.or_false]; exact h
theorem MkR.yes {W wr : World} {g N : Nat} {gM : Int → Nat → Bool} {t : Int} {k j i : Nat} {l : List Nat} {cond : Nat → Bool} (h : MkR W wr g N (gf gM t k (gM (t + 1) k || (l.take j).any cond))) (hg : W.heap.size ≤ g) (hi : l[j]? = some i) (hc : cond i = true) : MkR W (wr.setCell ⟨g, k, none⟩ (.bool true)) g N (gf gM t k (gM (t + 1) k || (l.take (j + 1)).any cond)) := by
 have := h.set hg k true
 rw [gf_upd] at this
 rw [any_take hi, hc, Bool.or_true, Bool.or_true]
 exact this
def gcB (D : Nat → Int) (gM : Int → Nat → Bool) (t : Int) (k i : Nat) : Bool := decide (D k = t) && decide (D (nbB k i) = t + 1) && gM (t + 1) (nbB k i)
def GdPost (w : World) (N : Nat) (st : Nat → Nat → Option Nat) (goal : Nat → Option Int) (D : Nat → Int) (Ex : Nat → Bool) (gs : List Nat) (e : Ending) (w' : World) : Prop :=
 ∃ (g : Nat) (mk : Nat → Bool), e = .returned (.slice (some ⟨g, 0, none⟩) N N) ∧ Hid (RowF w' 4 g N fun b => .bool (mk b)) ∧ Hid (gs = [] → ∀ b, mk b = false) ∧ Hid (∀ (L : Nat) (c : Int), SpOk st goal N D Ex gs L c → ∀ b, b < N → mk b = gdM st D gs L 0 b) ∧ Hid (Below w.heap.size w w')
theorem ptgood_any (db eb ob N gc : Nat) (ed : Nat → List Nat) (oc : Nat → Nat → List Value) (goal : Nat → Option Int) (D : Nat → Int) (Ex : Nat → Bool) (gs : List Nat) (least : Int) (G : Option Addr) (w : World) (hM : SrM w db eb ob N ed oc D Ex gs G gc) (hN : N ≤ 1024) (hrng : ∀ b, -1 ≤ D b ∧ D b ≤ N) (hgl : gs.length ≤ N) (hgN : ∀ b ∈ gs, b < N) (hnb : ∀ b, b < N → ∀ i ∈ ed b, i < 10 ∧ nbB b i < N) (hed : ∀ b, (ed b).length ≤ 10) (hS : SpNo (stE ed nbB) goal gs ∨ ∃ (L : Nat) (c : Int), SpOk (stE ed nbB) goal N D Ex gs L c) :
 Calls Tryz.prog 78 #[.agg #[.slice (some ⟨db, 0, none⟩) N N, .slice (some ⟨eb, 0, none⟩) N N, .slice (some ⟨ob, 0, none⟩) N N, .slice G gs.length gc, .int .i64 least]] w (GdPost w N (stE ed nbB) goal D Ex gs) := by
 have HM := Lib.hid hM; have HR := Lib.hid hrng; have HGN := Lib.hid hgN; have HNB := Lib.hid hnb; have HED := Lib.hid hed; have HSP := Lib.hid hS
 clear hM hrng hgN hnb hed hS
 have HBL : Hid (Below w.heap.size w (w.alloc (.cells #[.slice (some ⟨db, 0, none⟩) N N, .slice (some ⟨eb, 0, none⟩) N N, .slice (some ⟨ob, 0, none⟩) N N, .slice G gs.length gc, .int .i64 least] 129))) := (Below.refl _ _).alloc (Nat.le_refl _) _
 have HB := Lib.hid (Blk.new w 129 #[.slice (some ⟨db, 0, none⟩) N N, .slice (some ⟨eb, 0, none⟩) N N, .slice (some ⟨ob, 0, none⟩) N N, .slice G gs.length gc, .int .i64 least])
 go_enter Tryz.func78, Tryz.ntmps78
 go_upto_region 1 with (fail)
 generalize World.alloc w _ = W at *
 have HLT : Hid (w.heap.size < W.heap.size) := HB.out.lt
 have k0 := HB.out.cell 0
 have hmk := run_mk_bl N (by omega) W
 go_upto_region 2 with (fail)
 clear k0 hmk
 have HL1 : Hid (Below W.heap.size W (W.alloc (.cells (lstF N fun _ => Value.bool false).toArray 4))) := (Below.refl _ _).alloc (Nat.le_refl _) _
 have HR1 := Lib.hid (RowF.new W 4 N fun _ => Value.bool false)
 obtain ⟨g, hg⟩ : ∃ x, x = W.heap.size := ⟨_, rfl⟩
 rw [← hg] at HR1 ⊢
 have hge : W.heap.size ≤ g := by omega
 clear hg
 generalize World.alloc W _ = V at *
 have HBV := Lib.hid (HB.out.below HL1.out HB.out.lt)
 have k3 := HBV.out.cell 3
 by_cases hgs : gs = []
 ·have q0 : ((gs.length : Int) == 0) = true := by rw [hgs]; rfl
  go_wp2_with fail
  go_ret
  exact ⟨g, fun _ => false, rfl, HR1.out, fun _ _ => rfl, fun L c h => absurd hgs h.ne, HBL.out.trans (HL1.out.mono HBL.out.size)⟩
 have q0 : ((gs.length : Int) == 0) = false := by
  have : gs.length ≠ 0 := fun h => hgs (List.eq_nil_of_length_eq_zero h)
  simp; omega
 obtain ⟨L, c, hok⟩ : ∃ (L : Nat) (c : Int), SpOk (stE ed nbB) goal N D Ex gs L c := by
  rcases HSP.out with h | h
  ·exact absurd h.1 hgs
  ·exact h
 have HOK := Lib.hid hok
 have hgl0 : 0 < gs.length := Nat.pos_of_ne_zero fun h => hgs (List.eq_nil_of_length_eq_zero h)
 have hLN : L ≤ N := by
  obtain ⟨b1, h1⟩ := List.exists_mem_of_ne_nil _ hgs
  have h2 := ((hok.g b1).1 h1).1
  have := (HR.out b1).2
  omega
 have HNE := Lib.hid hgs
 obtain ⟨gM, hgM⟩ : ∃ f : Int → Nat → Bool, f = gdM (stE ed nbB) D gs L := ⟨_, rfl⟩
 have HGM := Lib.hid hgM
 clear hok hgM hgs
 go_wp2_with fail
 have hst : MkR W V g N fun b => decide (b ∈ gs.take 0) := MkR.congr (f := fun _ => false) ⟨HR1.out, HL1.out⟩ fun b _ => by simp
 refine wp_loop_u1 [(4, 0), (0, 1), (17, 0), (0, 2), (6, 1), (59, 0)] 24 (gs.length) (Gl1 W g N gs) (by (try dsimp only [gt]); exact ⟨0, rfl, Nat.zero_le _, rfl, hst⟩) (by kernel_rfl) ?_
 intro u1 p24 gk wr a hrel ha J1 K1 hJ1 hK1
 dsimp only [relaxR, Go.Proofs.YtfaknfmndafllaaGreatDoor.v1, Nat.reduceAdd] at ha
 subst ha
 clear hst HR1 HL1 HBV k3 q0
 obtain ⟨j, rfl, hj, rfl, hr⟩ := hrel
 have HR2 := Lib.hid hr.out
 clear hr
 have HBX := Lib.hid (HB.out.below HR2.out.2 HB.out.lt)
 have HMX := Lib.hid (HM.out.later (HBL.out.trans (HR2.out.2.mono HBL.out.size)))
 have hnN : N ≤ 9223372036854775807 := by omega
 by_cases hlt : j < gs.length
 ·have q1 : decide (j < gs.length) = true := by simpa using hlt
  obtain ⟨b2, o2, i, rfl, hb2, hi2, hc2⟩ := (show Sl wr wr.heap.size 1 G gs.length gc (gs.flatMap fun i : Nat => [Value.int .i64 (i : Int)]) from HMX.out.g).at1 hlt
  have hiN := HGN.out i (List.mem_of_getElem? hi2)
  have hkk : IntKind.i64.wrap ((j : Int) + 1) = (j : Int) + 1 := IntWalk.i64_in _ (by omega)
  have hcl := HR2.out.1.at hiN
  have hfz := HR2.out.1.frozen i
  have HR3 := Lib.hid ((HR2.out.set hge i true).congr (f' := fun b => decide (b ∈ gs.take (j + 1))) fun b _ => by
   rw [List.take_add_one, hi2]
   unfold upd
   by_cases h : b = i <;> simp [h])
  clear hi2 HBX HMX HR2
  go_wp2_with fail
  refine Handed.intro (gs.length - (j + 1)) (by omega) (hJ1 _ _ _ (LpI1.back 24 ?_ (by kernel_rfl)))
  dsimp only [gt]
  exact ⟨j + 1, rfl, hlt, rfl, HR3⟩
 have q1 : decide (j < gs.length) = false := by simpa using hlt
 obtain rfl : j = gs.length := by omega
 have HR3 := Lib.hid (HR2.out.congr (f' := gM L) fun b _ => by rw [HGM.out, HOK.out.mark_goals, List.take_length])
 clear HR2 hlt
 obtain ⟨bg, og, b0, hGe, hbg, hb0, hcg⟩ := (show Sl wr wr.heap.size 1 G gs.length gc (gs.flatMap fun i : Nat => [Value.int .i64 (i : Int)]) from HMX.out.g).at1 hgl0
 subst hGe
 rw [Nat.add_zero] at hcg
 have hb0N := HGN.out b0 (List.mem_of_getElem? hb0)
 have hD0 := ((HOK.out.g b0).1 (List.mem_of_getElem? hb0)).1
 have hcd := HMX.out.d.at hb0N
 rw [hD0] at hcd
 have k0 := HBX.out.cell 0; have k3 := HBX.out.cell 3
 have hwl : IntKind.i64.wrap ((L : Int) - 1) = (L : Int) - 1 := IntWalk.i64_in _ (by omega)
 go_upto_region 9 with (fail)
 clear q1 hb0 hD0
 go_quiet (fail)
 have HR4 := Lib.hid fun q => HR3.out.drewN q
 clear hwl hcd hcg k0 k3 HR3 HMX HBX
 generalize hq : World.drewN wr _ = W1
 have HR5 : Hid (MkR W W1 g N (gM ((L : Int) - 1 + 1))) := by
  rw [show (L : Int) - 1 + 1 = L by omega, ← hq]; exact HR4.out _
 clear HR4 hq
 go_wp2_with fail
 refine wp_loop_u1 [(5, 0), (0, 2), (1, 1), (0, 0), (1, 1), (28, 0), (49, 1), (0, 0)] 6 (L) (Gl2 W g N L gM) (by (try dsimp only [gt]); exact ⟨(L : Int) - 1, rfl, by omega, by omega, by omega, HR5⟩) (by kernel_rfl) ?_
 intro u1 p6 gk wr a hrel ha J1 K1 hJ1 hK1
 dsimp only [relaxR, Go.Proofs.YtfaknfmndafllaaGreatDoor.v1, Nat.reduceAdd] at ha
 subst ha
 clear HR5
 obtain ⟨t, rfl, ht0, htL, rfl, hr⟩ := hrel
 have HR2 := Lib.hid hr.out
 clear hr
 by_cases h0 : 0 ≤ t; rotate_left
 ·have q1 : decide (0 ≤ t) = false := by simpa using h0
  have HR3 := Lib.hid HR2.out
  have HT0 : Hid (t + 1 = 0) := by unfold Hid; omega
  clear HR2
  go_wp2_with fail
  go_ret
  exact ⟨g, gM (t + 1), rfl, HR3.out.1, fun h => absurd h HNE.out, fun L' c' h' b _ => by rw [HT0.out, HGM.out, HOK.out.same h'], HBL.out.trans (HR3.out.2.mono HBL.out.size)⟩
 have q1 : decide (0 ≤ t) = true := by simpa using h0
 have HBX := Lib.hid (HB.out.below HR2.out.2 HB.out.lt)
 have k0 := HBX.out.cell 0
 have hwt : IntKind.i64.wrap (t + 1) = t + 1 := IntWalk.i64_in _ (by omega)
 have hwt' : IntKind.i64.wrap (t - 1) = t - 1 := IntWalk.i64_in _ (by omega)
 go_wp2_with fail
 clear k0 HBX q1
 refine wp_loop_u1 [(6, 0), (1, 1), (0, 0), (1, 1), (35, 0), (0, 2), (41, 1), (0, 0)] 48 (N) (Gl3 W g N gM t) (by (try dsimp only [gt]); exact ⟨0, rfl, Nat.zero_le _, rfl, by rw [gf_zero]; exact HR2.out⟩) (by kernel_rfl) ?_
 intro u2 p48 gk3 wx a hrel ha J2 K2 hJ2 hK2
 dsimp only [relaxR, Go.Proofs.YtfaknfmndafllaaGreatDoor.v1, Nat.reduceAdd] at ha
 subst ha
 clear HR2
 obtain ⟨k, rfl, hk, rfl, hr⟩ := hrel
 have HR2 := Lib.hid hr.out
 clear hr
 by_cases hlt : k < N; rotate_left
 ·have q1 : decide (k < N) = false := by simpa using hlt
  obtain rfl : k = N := by omega
  have HR3 : Hid (MkR W wx g k (gM (t - 1 + 1))) := by
   rw [show t - 1 + 1 = t by omega]
   exact HR2.out.congr fun b hb => by unfold gf; rw [if_pos hb]
  clear HR2
  go_wp2_with fail
  refine Handed.intro (t.toNat) (by omega) (hJ1 _ _ _ (LpI1.back 6 ?_ (by kernel_rfl)))
  dsimp only [gt]
  exact ⟨t - 1, rfl, by omega, by omega, by omega, HR3⟩
 have q1 : decide (k < N) = true := by simpa using hlt
 have HBX := Lib.hid (HB.out.below HR2.out.2 HB.out.lt)
 have HMX := Lib.hid (HM.out.later (HBL.out.trans (HR2.out.2.mono HBL.out.size)))
 have k1 := HBX.out.cell 1
 have hcd := HMX.out.d.at hlt
 obtain ⟨A3, n3, c3, hce, hsl⟩ := HMX.out.e.at hlt
 have hn3 : (edX Ex ed k).length = n3 := by have := hsl.1.1; rw [natsV_len, Nat.mul_one] at this; exact this
 subst hn3
 have HSL3 : Hid (∀ {V2 : World}, Below w.heap.size w V2 → Sl V2 V2.heap.size 1 A3 (edX Ex ed k).length c3 (natsV (edX Ex ed k))) := fun hb => by
  obtain ⟨A5, n5, c5, h5, h6⟩ := HM.out.e.at hlt
  have h7 := (HM.out.e.later (HBL.out.trans (HR2.out.2.mono HBL.out.size))).at hlt
  have h8 : wx.cell? ⟨eb, k, none⟩ = w.cell? ⟨eb, k, none⟩ := (HBL.out.trans (HR2.out.2.mono HBL.out.size)).cell HM.out.e.lt
  rw [h8, h5] at hce
  injection hce with hce
  injection hce with e1 e2 e3
  subst e1 e3
  rw [← e2]
  exact (h6.1.below hb (Nat.le_refl _)).more hb.size
 have hle10 : (edX Ex ed k).length ≤ 10 := by unfold edX; split; (· exact HED.out k); (· simp)
 have hkk : IntKind.i64.wrap ((k : Int) + 1) = (k : Int) + 1 := IntWalk.i64_in _ (by omega)
 go_wp2_with fail
 clear k1 hcd hce hsl q1 HBX HMX
 refine wp_loop_u1 [(9, 0), (1, 1), (46, 0), (0, 2), (29, 1), (1, 0)] 59 ((edX Ex ed k).length) (Gl4 W g N gM t k (edX Ex ed k) (gcB D gM t k)) (by (try dsimp only [gt]); exact ⟨0, rfl, Nat.zero_le _, rfl, by unfold Hid; simpa using HR2.out⟩) (by kernel_rfl) ?_
 intro u3 p59 gk4 wy a hrel ha J3 K3 hJ3 hK3
 dsimp only [relaxR, Go.Proofs.YtfaknfmndafllaaGreatDoor.v1, Nat.reduceAdd] at ha
 subst ha
 clear HR2
 obtain ⟨j, rfl, hj, rfl, hr⟩ := hrel
 have HR2 := Lib.hid hr.out
 clear hr
 by_cases hlt2 : j < (edX Ex ed k).length; rotate_left
 ·have q1 : decide (j < (edX Ex ed k).length) = false := by simpa using hlt2
  obtain rfl : j = (edX Ex ed k).length := by omega
  have HR3 : Hid (MkR W wy g N (gf gM t (k + 1) (gM (t + 1) (k + 1)))) := by
   have h1 := HR2.out
   rw [List.take_length] at h1
   obtain ⟨tn, rfl⟩ := Int.eq_ofNat_of_zero_le h0
   have h2 : gM (tn : Int) k = (gM ((tn : Int) + 1) k || (edX Ex ed k).any (gcB D gM tn k)) := by
    rw [HGM.out]; exact HOK.out.mark (by omega) k
   rw [← h2, gf_next] at h1
   exact h1
  clear HR2
  go_wp2_with fail
  refine Handed.intro (N - (k + 1)) (by omega) (hJ2 _ _ _ (LpI1.back 48 ?_ (by kernel_rfl)))
  dsimp only [gt]
  exact ⟨k + 1, rfl, hlt, rfl, HR3⟩
 have q1 : decide (j < (edX Ex ed k).length) = true := by simpa using hlt2
 have HBX := Lib.hid (HB.out.below HR2.out.2 HB.out.lt)
 have HMX := Lib.hid (HM.out.later (HBL.out.trans (HR2.out.2.mono HBL.out.size)))
 obtain ⟨A4, n4, c4, hce, hsl⟩ := HMX.out.e.at hlt
 have HSY := Lib.hid (HSL3.out (HBL.out.trans (HR2.out.2.mono HBL.out.size)))
 clear hce hsl
 obtain ⟨b2, o2, i, rfl, hb2, hi2, hc2⟩ := (show Sl wy wy.heap.size 1 A3 (edX Ex ed k).length c3 ((edX Ex ed k).flatMap fun i : Nat => [Value.int .i64 (i : Int)]) from HSY.out).at1 hlt2
 have hil : i ∈ ed k := by
  have := List.mem_of_getElem? hi2
  unfold edX at this
  split at this
  ·exact this
  ·cases this
 obtain ⟨hi10, hnt⟩ := HNB.out k hlt i hil
 obtain ⟨x, hx⟩ : ∃ x, x = 2 ^ i := ⟨_, rfl⟩
 have hx10 : x < 1024 := by rw [hx]; exact (Nat.pow_lt_pow_right (by decide) hi10 : 2 ^ i < 2 ^ 10)
 have hshl : IntKind.i64.wrap ((2 : Int) ^ i) = (x : Int) := by rw [hx]; have := shl64 (i := i) (by omega); simpa using this
 have hxor : bits .xor .i64 (k : Int) (x : Int) = (nbB k i : Int) := by rw [xor64 (by omega) hx10, hx]; rfl
 have hcd := HMX.out.d.at hnt
 have hcm := HR2.out.1.at hnt
 have k0 := HBX.out.cell 0
 have hjj : IntKind.i64.wrap ((j : Int) + 1) = (j : Int) + 1 := IntWalk.i64_in _ (by omega)
 have HI2 := Lib.hid hi2
 have hnn3 : (edX Ex ed k).length ≤ 9223372036854775807 := by omega
 have HCD : Hid (∀ h : D k = t, D (nbB k i) = t + 1 → gf gM t k (gM (t + 1) k || ((edX Ex ed k).take j).any (gcB D gM t k)) (nbB k i) = gM (t + 1) (nbB k i)) := fun h h' => by
  have hne : nbB k i ≠ k := fun e => by rw [e] at h'; omega
  unfold gf
  rw [if_neg hne]
  split
  ·rw [HGM.out]; exact gdM_ne (by omega)
  ·rfl
 clear hx hx10 hi2 hil
 obtain ⟨u, hu⟩ : ∃ u, u = nbB k i := ⟨_, rfl⟩
 have HU := Lib.hid hu
 rw [← hu] at hxor hnt hcd hcm HCD
 clear hu
 have HG : Hid (gcB D gM t k i = (decide (D k = t) && decide (D u = t + 1) && gM (t + 1) u)) := by unfold Hid gcB; rw [HU.out]
 by_cases h1 : D k = t; rotate_left
 ·have q2 : (D k == t) = false := by simpa using h1
  have HN := Lib.hid (HR2.out.no HI2.out (by rw [HG.out]; simp [h1]))
  clear HR2 hcm hcd
  go_wp2_with fail
  refine Handed.intro ((edX Ex ed k).length - (j + 1)) (by omega) (hJ3 _ _ _ (LpI1.back 59 ?_ (by kernel_rfl)))
  dsimp only [gt]
  exact ⟨j + 1, rfl, hlt2, rfl, HN⟩
 have q2 : (D k == t) = true := by simpa using h1
 by_cases h2 : D u = t + 1; rotate_left
 ·have q3 : (D u == t + 1) = false := by simpa using h2
  have HN := Lib.hid (HR2.out.no HI2.out (by rw [HG.out]; simp [h2]))
  have HE := Lib.hid h1
  clear HR2 hcm h1
  go_wp2_with fail
  refine Handed.intro ((edX Ex ed k).length - (j + 1)) (by omega) (hJ3 _ _ _ (LpI1.back 59 ?_ (by kernel_rfl)))
  dsimp only [gt]
  exact ⟨j + 1, rfl, hlt2, rfl, HN⟩
 have q3 : (D u == t + 1) = true := by simpa using h2
 rw [HCD.out h1 h2] at hcm
 have HE := Lib.hid (And.intro h1 h2)
 clear h1 h2
 cases hb : gM (t + 1) u with
 | false =>
  rw [hb] at hcm
  have HN := Lib.hid (HR2.out.no HI2.out (by rw [HG.out, hb]; simp))
  clear HR2 hb
  go_wp2_with fail
  refine Handed.intro ((edX Ex ed k).length - (j + 1)) (by omega) (hJ3 _ _ _ (LpI1.back 59 ?_ (by kernel_rfl)))
  dsimp only [gt]
  exact ⟨j + 1, rfl, hlt2, rfl, HN⟩
 | true =>
  rw [hb] at hcm
  have HN := Lib.hid (HR2.out.yes hge HI2.out (by rw [HG.out, hb]; simp [HE.out.1, HE.out.2]))
  have hck := HR2.out.1.at hlt
  have hfk := HR2.out.1.frozen k
  clear HR2 hb
  go_wp2_with fail
  refine Handed.intro ((edX Ex ed k).length - (j + 1)) (by omega) (hJ3 _ _ _ (LpI1.back 59 ?_ (by kernel_rfl)))
  dsimp only [gt]
  exact ⟨j + 1, rfl, hlt2, rfl, HN⟩
end Go.Proofs.YtfaknfmndafllaaGreatDoor
namespace Go.Proofs.YtfaknfmndafllaaGreatDoor
theorem lexLe_refl : ∀ p : List Nat, lexLe p p
 | [] => by simp [lexLe]
 | _ :: p => .inr ⟨rfl, lexLe_refl p⟩
theorem lexLe_trans : ∀ {p q r : List Nat}, p.length = q.length → q.length = r.length → lexLe p q → lexLe q r → lexLe p r
 | [], _, _, _, _, _, _ => by simp [lexLe]
 | _ :: _, [], _, h, _, _, _ => by simp at h
 | _ :: _, _ :: _, [], _, h, _, _ => by simp at h
 | x :: p, y :: q, z :: r, h1, h2, h3, h4 => by
  simp only [lexLe] at h3 h4 ⊢
  rcases h3 with h3 | ⟨rfl, h3⟩
  ·rcases h4 with h4 | ⟨rfl, _⟩
   ·exact .inl (by omega)
   ·exact .inl h3
  ·rcases h4 with h4 | ⟨rfl, h4⟩
   ·exact .inl h4
   ·exact .inr ⟨rfl, lexLe_trans (by simpa using h1) (by simpa using h2) h3 h4⟩
theorem lexLe_snoc : ∀ {p q : List Nat} (r : List Nat), p.length = q.length → lexLe p q → lexLe (p ++ r) (q ++ r)
 | [], [], r, _, _ => lexLe_refl r
 | [], _ :: _, _, h, _ => by simp at h
 | _ :: _, [], _, h, _ => by simp at h
 | x :: p, y :: q, r, h, h1 => by
  simp only [List.cons_append, lexLe] at h1 ⊢
  exact h1.imp id fun ⟨a, b⟩ => ⟨a, lexLe_snoc r (by simpa using h) b⟩
def ltL : List Nat → List Nat → Bool
 | x :: p, y :: q => if x = y then ltL p q else decide (x < y)
 | _, _ => false
theorem ltL_le : ∀ {p q : List Nat}, ltL p q = true → lexLe p q
 | [], _, _ => by simp [lexLe]
 | _ :: _, [], _ => by simp [lexLe]
 | x :: p, y :: q, h => by
  simp only [ltL] at h
  by_cases e : x = y
  ·rw [if_pos e] at h; exact .inr ⟨e, ltL_le h⟩
  ·rw [if_neg e] at h; exact .inl (by simpa using h)
theorem ltL_ge : ∀ {p q : List Nat}, p.length = q.length → ltL p q = false → lexLe q p
 | [], [], _, _ => by simp [lexLe]
 | [], _ :: _, h, _ => by simp at h
 | _ :: _, [], h, _ => by simp at h
 | x :: p, y :: q, hl, h => by
  simp only [ltL] at h
  by_cases e : x = y
  ·rw [if_pos e] at h; exact .inr ⟨e.symm, ltL_ge (by simpa using hl) h⟩
  ·rw [if_neg e] at h
   exact .inl (by have : ¬ x < y := by simpa using h
                  omega)
def Asc (M : Nat → Nat) (m : Nat) : Prop := ∀ i j, i < j → j < m → M i < M j
theorem Asc.inj {M : Nat → Nat} {m : Nat} (h : Asc M m) : Inj M m := fun i j hi hj e => by
 rcases Nat.lt_trichotomy i j with h' | h' | h'
 ·have := h i j h' hj; omega
 ·exact h'
 ·have := h j i h' hi; omega
section
variable {α : Type} [DecidableEq α]
def addL (l : List (α × List Nat)) (met : List α) (x : α × List Nat) : List (α × List Nat) :=
 if x.1 ∈ met then l else match l.findIdx? (fun y => decide (y.1 = x.1)) with
  | some i => if ltL x.2 (l.getD i x).2 then l.set i ((l.getD i x).1, x.2) else l
  | none => l ++ [x]
structure AddI (j : Nat) (C : List (α × List Nat)) (met : List α) (out : List (α × List Nat)) : Prop where
 nd : (out.map (·.1)).Nodup
 o : ∀ x ∈ out, x ∈ C ∧ x.1 ∉ met ∧ ∀ y ∈ C, y.1 = x.1 → lexLe x.2 y.2
 c : ∀ y ∈ C, y.1 ∉ met → ∃ p, (y.1, p) ∈ out
 len : ∀ y ∈ C, y.2.length = j
theorem AddI.nil (j : Nat) (met : List α) : AddI j [] met ([] : List (α × List Nat)) := ⟨by simp, by simp, by simp, by simp⟩
theorem AddI.add {j : Nat} {C : List (α × List Nat)} {met : List α} {out : List (α × List Nat)} {x : α × List Nat} (h : AddI j C met out) (hx : x.2.length = j) : AddI j (C ++ [x]) met (addL out met x) := by
 have hlen : ∀ y ∈ C ++ [x], y.2.length = j := fun y hy => by
  rcases List.mem_append.1 hy with hy | hy
  ·exact h.len y hy
  ·simp at hy; subst hy; exact hx
 unfold addL
 by_cases hm : x.1 ∈ met
 ·rw [if_pos hm]
  refine ⟨h.nd, fun y hy => ?_, fun y hy hny => ?_, hlen⟩
  ·obtain ⟨h1, h2, h3⟩ := h.o y hy
   refine ⟨by simp [h1], h2, fun z hz e => ?_⟩
   rcases List.mem_append.1 hz with hz | hz
   ·exact h3 z hz e
   ·simp at hz; subst hz; exact absurd (e ▸ hm) h2
  ·rcases List.mem_append.1 hy with hy | hy
   ·exact h.c y hy hny
   ·simp at hy; subst hy; exact absurd hm hny
 ·rw [if_neg hm]
  split
  ·next i hi =>
   obtain ⟨hil, h1, _⟩ := List.findIdx?_eq_some_iff_getElem.1 hi
   have he : out[i].1 = x.1 := by simpa using h1
   have hg : out.getD i x = out[i] := by simp [List.getD_eq_getElem?_getD, hil]
   have hio := h.o out[i] (List.getElem_mem hil)
   rw [hg]
   split
   ·next hlt =>
    have hset : ∀ y, y ∈ out.set i (out[i].1, x.2) → y = (x.1, x.2) ∨ y ∈ out ∧ y.1 ≠ x.1 := fun y hy => by
     obtain ⟨k, hk, e⟩ := List.getElem_of_mem hy
     rw [List.getElem_set] at e
     by_cases hki : i = k
     ·rw [if_pos hki] at e; exact .inl (by rw [← e, he])
     ·rw [if_neg hki] at e
      have hk' : k < out.length := by simpa using hk
      refine .inr ⟨e ▸ List.getElem_mem _, fun e2 => hki ?_⟩
      have hnd := List.pairwise_iff_getElem.1 h.nd
      rw [← e] at e2
      rcases Nat.lt_trichotomy i k with h' | h' | h'
      ·exact (hnd i k (by simpa using hil) (by simpa using hk') h' (by rw [List.getElem_map, List.getElem_map, he, e2])).elim
      ·exact h'
      ·exact (hnd k i (by simpa using hk') (by simpa using hil) h' (by rw [List.getElem_map, List.getElem_map, he, e2])).elim
    refine ⟨?_, fun y hy => ?_, fun y hy hny => ?_, hlen⟩
    ·have : (out.set i (out[i].1, x.2)).map (·.1) = out.map (·.1) := by
      rw [List.map_set]
      apply List.ext_getElem?
      intro k
      rw [List.getElem?_set]
      by_cases hk : i = k
      ·subst hk; simp [hil]
      ·simp [hk]
     rw [this]; exact h.nd
    ·rcases hset y hy with rfl | ⟨hy, hne⟩
     ·refine ⟨by simp, hm, fun z hz e => ?_⟩
      rcases List.mem_append.1 hz with hz | hz
      ·exact lexLe_trans (hx.trans (h.len _ hio.1).symm) ((h.len _ hio.1).trans (h.len z hz).symm) (ltL_le hlt) (hio.2.2 z hz (e.trans he.symm))
      ·simp at hz; subst hz; exact lexLe_refl _
     ·obtain ⟨h1, h2, h3⟩ := h.o y hy
      refine ⟨by simp [h1], h2, fun z hz e => ?_⟩
      rcases List.mem_append.1 hz with hz | hz
      ·exact h3 z hz e
      ·simp at hz; subst hz; exact absurd e.symm hne
    ·have hx' : (x.1, x.2) ∈ out.set i (out[i].1, x.2) := by
      rw [he]; exact List.mem_set hil _
     by_cases e : y.1 = x.1
     ·exact ⟨x.2, by rw [e]; exact hx'⟩
     ·have hy : y ∈ C := by
       rcases List.mem_append.1 hy with hy | hy
       ·exact hy
       ·simp at hy; subst hy; exact absurd rfl e
      obtain ⟨p, hp⟩ := h.c y hy hny
      refine ⟨p, ?_⟩
      obtain ⟨k, hk, ek⟩ := List.getElem_of_mem hp
      have hki : i ≠ k := fun e2 => by subst e2; rw [ek] at he; exact e he
      rw [← ek, ← List.getElem_set_ne hki (a := (out[i].1, x.2)) (by simpa using hk)]
      exact List.getElem_mem _
   ·next hlt =>
    have hge : lexLe out[i].2 x.2 := ltL_ge (hx.trans (h.len _ hio.1).symm) (by simpa using hlt)
    refine ⟨h.nd, fun y hy => ?_, fun y hy hny => ?_, hlen⟩
    ·obtain ⟨hyC, h2, h3⟩ := h.o y hy
     refine ⟨by simp [hyC], h2, fun z hz e => ?_⟩
     rcases List.mem_append.1 hz with hz | hz
     ·exact h3 z hz e
     ·simp at hz; subst hz
      exact lexLe_trans ((h.len _ hyC).trans (h.len _ hio.1).symm) ((h.len _ hio.1).trans hx.symm) (h3 _ hio.1 (he.trans e)) hge
    ·rcases List.mem_append.1 hy with hy | hy
     ·exact h.c y hy hny
     ·simp at hy; subst hy
      exact ⟨out[i].2, by rw [← he]; exact List.getElem_mem hil⟩
  ·next hi =>
   have hno : ∀ y ∈ out, y.1 ≠ x.1 := fun y hy => by simpa using List.findIdx?_eq_none_iff.1 hi y hy
   refine ⟨?_, fun y hy => ?_, fun y hy hny => ?_, hlen⟩
   ·rw [List.map_append, List.nodup_append]
    refine ⟨h.nd, by simp, fun a ha b hb e => ?_⟩
    obtain ⟨y, hy, rfl⟩ := List.mem_map.1 ha
    simp at hb; subst hb
    exact hno y hy e
   ·rcases List.mem_append.1 hy with hyo | hyo
    ·obtain ⟨h1, h2, h3⟩ := h.o y hyo
     refine ⟨by simp [h1], h2, fun z hz e => ?_⟩
     rcases List.mem_append.1 hz with hz | hz
     ·exact h3 z hz e
     ·simp at hz; subst hz; exact absurd e.symm (hno y hyo)
    ·simp at hyo; subst hyo
     refine ⟨by simp, hm, fun z hz e => ?_⟩
     rcases List.mem_append.1 hz with hzc | hzc
     ·obtain ⟨p, hp⟩ := h.c z hzc (by rw [e]; exact hm)
      exact absurd e (hno (z.1, p) hp)
     ·simp at hzc; subst hzc; exact lexLe_refl _
   ·rcases List.mem_append.1 hy with hy | hy
    ·obtain ⟨p, hp⟩ := h.c y hy hny
     exact ⟨p, by simp [hp]⟩
    ·simp at hy; subst hy; exact ⟨y.2, by simp⟩
end
section
variable {α : Type} {st : α → Nat → Option α} {s0 : α}
structure Lev (st : α → Nat → Option α) (s0 : α) (j : Nat) (now : List (α × List Nat)) : Prop where
 nd : (now.map (·.1)).Nodup
 m : ∀ x ∈ now, x.2.length = j ∧ wk st s0 x.2 = some x.1 ∧ (∀ i, i < j → ¬ Rb st s0 i x.1) ∧ ∀ q, q.length = j → wk st s0 q = some x.1 → lexLe x.2 q
 all : ∀ t, Rb st s0 j t → (∀ i, i < j → ¬ Rb st s0 i t) → ∃ p, (t, p) ∈ now
def Met (st : α → Nat → Option α) (s0 : α) (j : Nat) (met : List α) : Prop := met.Nodup ∧ ∀ t, t ∈ met ↔ ∃ i, i < j ∧ Rb st s0 i t
theorem Lev.start : Lev st s0 0 [(s0, [])] := by
 refine ⟨by simp, fun x hx => ?_, fun t ht _ => ⟨[], by rw [ht.zero]; simp⟩⟩
 simp at hx; subst hx
 exact ⟨rfl, rfl, fun i h => by omega, fun q _ _ => by simp [lexLe]⟩
theorem Met.start : Met st s0 0 [] := ⟨by simp, fun t => by simp⟩
theorem Rb.least {i : Nat} {t : α} (h : Rb st s0 i t) : ∃ k, k ≤ i ∧ Rb st s0 k t ∧ ∀ l, l < k → ¬ Rb st s0 l t := by
 induction i using Nat.strongRecOn with
 | _ i ih =>
  by_cases hc : ∃ l, l < i ∧ Rb st s0 l t
  ·obtain ⟨l, h1, h2⟩ := hc
   obtain ⟨k, h3, h4⟩ := ih l h1 h2
   exact ⟨k, by omega, h4⟩
  ·exact ⟨i, Nat.le_refl _, h, fun l h1 h2 => hc ⟨l, h1, h2⟩⟩
theorem Met.next {j : Nat} {met : List α} {now : List (α × List Nat)} (h : Met st s0 j met) (hl : Lev st s0 j now) : Met st s0 (j + 1) (met ++ now.map (·.1)) := by
 refine ⟨List.nodup_append.2 ⟨h.1, hl.nd, fun a ha b hb e => ?_⟩, fun t => ?_⟩
 ·subst e
  obtain ⟨x, hx, rfl⟩ := List.mem_map.1 hb
  obtain ⟨i, h1, h2⟩ := (h.2 _).1 ha
  exact (hl.m x hx).2.2.1 i h1 h2
 ·rw [List.mem_append, h.2, List.mem_map]
  constructor
  ·rintro (⟨i, h1, h2⟩ | ⟨x, hx, rfl⟩)
   ·exact ⟨i, by omega, h2⟩
   ·exact ⟨j, by omega, x.2, (hl.m x hx).1, (hl.m x hx).2.1⟩
  ·rintro ⟨i, h1, h2⟩
   obtain ⟨k, h3, h4, h5⟩ := h2.least
   by_cases e : k < j
   ·exact .inl ⟨k, e, h4⟩
   ·have : k = j := by omega
    subst this
    obtain ⟨p, hp⟩ := hl.all t h4 h5
    exact .inr ⟨_, hp, rfl⟩
def candL (st : α → Nat → Option α) (m : Nat) (now : List (α × List Nat)) : List (α × List Nat) := now.flatMap fun x => (List.range m).filterMap fun i => (st x.1 i).map fun t => (t, x.2 ++ [i])
theorem Lev.next [DecidableEq α] {j m : Nat} {met : List α} {now out : List (α × List Nat)} (hl : Lev st s0 j now) (hmet : Met st s0 (j + 1) met) (hm : ∀ a i b, st a i = some b → i < m) (h : AddI (j + 1) (candL st m now) met out) : Lev st s0 (j + 1) out := by
 have hC : ∀ y, y ∈ candL st m now ↔ ∃ x ∈ now, ∃ i t, st x.1 i = some t ∧ y = (t, x.2 ++ [i]) := fun y => by
  unfold candL
  rw [List.mem_flatMap]
  refine exists_congr fun x => and_congr_right fun _ => ?_
  rw [List.mem_filterMap]
  constructor
  ·rintro ⟨i, _, h2⟩
   obtain ⟨t, h3, h4⟩ := Option.map_eq_some_iff.1 h2
   exact ⟨i, t, h3, h4.symm⟩
  ·rintro ⟨i, t, h1, rfl⟩
   exact ⟨i, List.mem_range.2 (hm _ _ _ h1), by rw [h1]; rfl⟩
 refine ⟨h.nd, fun x hx => ?_, fun t ht hn => ?_⟩
 ·obtain ⟨h1, h2, h3⟩ := h.o x hx
  obtain ⟨y, hy, i, t, h4, rfl⟩ := (hC _).1 h1
  obtain ⟨k1, k2, k3, k4⟩ := hl.m y hy
  have hnot : ∀ i, i < j + 1 → ¬ Rb st s0 i t := fun i hi hr => h2 ((hmet.2 t).2 ⟨i, hi, hr⟩)
  refine ⟨by simp [k1], by rw [wk_app, k2]; simp [wk, h4], hnot, fun q hq e => ?_⟩
  rcases List.eq_nil_or_concat q with rfl | ⟨q1, i1, rfl⟩
  ·simp at hq
  ·rw [List.concat_eq_append] at e hq ⊢
   rw [wk_app] at e
   obtain ⟨t1, e1, e2⟩ := Option.bind_eq_some_iff.1 e
   obtain ⟨t2, e3, e4⟩ := Option.bind_eq_some_iff.1 (show (st t1 i1).bind (fun b => wk st b []) = some t from e2)
   injection e4 with e4
   subst e4
   have hq1 : q1.length = j := by simpa using hq
   obtain ⟨p1, hp1⟩ := hl.all t1 ⟨q1, hq1, e1⟩ (fun i hi hr => hnot (i + 1) (by omega) (hr.step e3))
   obtain ⟨l1, l2, l3, l4⟩ := hl.m _ hp1
   have hc : (t2, p1 ++ [i1]) ∈ candL st m now := (hC _).2 ⟨_, hp1, i1, t2, e3, rfl⟩
   exact lexLe_trans (by simp [k1]; exact l1.symm) (by simp [hq1]; exact l1) (h3 _ hc rfl) (lexLe_snoc [i1] (l1.trans hq1.symm) (l4 q1 hq1 e1))
 ·obtain ⟨a, i, h1, h2⟩ := ht.last
  obtain ⟨p, hp⟩ := hl.all a h1 (fun k hk hr => hn (k + 1) (by omega) (hr.step h2))
  exact h.c _ ((hC _).2 ⟨_, hp, i, t, h2, rfl⟩) (fun hm => by
   obtain ⟨k, h3, h4⟩ := (hmet.2 t).1 hm
   exact hn k h3 h4)
theorem Lev.none {j : Nat} (h : Lev st s0 j []) {goal : α → Option Int} (hg : ∀ i t, i < j → Rb st s0 i t → goal t = none) : NoneIs st s0 goal := by
 intro q b e
 obtain ⟨k, h1, h2, h3⟩ := Rb.least (⟨q, rfl, e⟩ : Rb st s0 q.length b)
 have key : ∀ i t, Rb st s0 i t → (∀ l, l < i → ¬ Rb st s0 l t) → i < j := by
  intro i
  induction i with
  | zero =>
   intro t h4 h5
   rcases Nat.lt_or_ge 0 j with h' | h'
   ·exact h'
   ·obtain ⟨p, hp⟩ := h.all t (by rw [show j = 0 by omega]; exact h4) (fun l hl => by omega)
    cases hp
  | succ i ih =>
   intro t h4 h5
   obtain ⟨a, x, h6, h7⟩ := h4.last
   have := ih a h6 (fun l hl hr => h5 (l + 1) (by omega) (hr.step h7))
   rcases Nat.lt_or_ge (i + 1) j with h' | h'
   ·exact h'
   ·have e : i + 1 = j := by omega
    obtain ⟨p, hp⟩ := h.all t (e ▸ h4) (fun l hl => h5 l (by omega))
    cases hp
 exact hg k b (key k b h2 h3) h2
end
end Go.Proofs.YtfaknfmndafllaaGreatDoor
namespace Go.Proofs.YtfaknfmndafllaaGreatDoor
open Go.RowKit
structure Bxs (w : World) (L : List (TypeId × Array Value)) (wr : World) : Prop where
 b : ∀ i t c, L[i]? = some (t, c) → Blk wr (w.heap.size + i) t c
 l : Below w.heap.size w wr
section
variable {w wr wr' : World} {L : List (TypeId × Array Value)} {x0 x1 x2 x3 x4 : TypeId × Array Value} {t : TypeId} {c : Array Value}
theorem Bxs.nil (w : World) : Bxs w [] w := ⟨fun i t c h => by simp at h, Below.refl _ _⟩
theorem Bxs.add (h : Bxs w L wr) (hz : wr.heap.size = w.heap.size + L.length) (t : TypeId) (c : Array Value) : Bxs w (L ++ [(t, c)]) (wr.alloc (.cells c t)) := by
 refine ⟨fun i t' c' hi => ?_, h.l.alloc (by omega) _⟩
 rw [List.getElem?_append] at hi
 split at hi
 ·exact (h.b i _ _ hi).alloc _
 ·next hlt =>
  have h0 : i - L.length = 0 := by
   rcases Nat.eq_zero_or_pos (i - L.length) with e | e
   ·exact e
   ·rw [List.getElem?_eq_none (by simp; omega)] at hi; cases hi
  rw [h0] at hi
  have e : (t, c) = (t', c') := by simpa using hi
  injection e with e1 e2
  subst e1 e2
  have := Blk.new wr t c
  rwa [hz, show L.length = i by omega] at this
theorem Bxs.later (h : Bxs w L wr) (hb : Below wr.heap.size wr wr') : Bxs w L wr' := ⟨fun i t c hi => (h.b i t c hi).below hb (h.b i t c hi).lt, h.l.trans (hb.mono h.l.size)⟩
theorem Bxs.drew (h : Bxs w L wr) : Bxs w L wr.drew := h.later (Below.refl _ _).drew
theorem Bxs.put (h : Bxs w L wr) {g : Nat} (hg : w.heap.size + L.length ≤ g) (i : Nat) (u : Value) : Bxs w L (wr.setCell ⟨g, i, none⟩ u) :=
 ⟨fun k t c hk => (h.b k t c hk).far (by have := (List.getElem?_eq_some_iff.1 hk).1; show w.heap.size + k ≠ g; omega) _, h.l.setCell (by show w.heap.size ≤ g; omega) _⟩
theorem Bxs.set (h : Bxs w L wr) (i j : Nat) (v : Value) (hi : L[i]? = some (t, c)) : Bxs w (L.set i (t, c.setIfInBounds j v)) (wr.setCell ⟨w.heap.size + i, j, none⟩ v) := by
 refine ⟨fun k t' c' hk => ?_, h.l.setCell (by show w.heap.size ≤ w.heap.size + i; omega) _⟩
 rw [List.getElem?_set] at hk
 by_cases e : i = k
 ·subst e
  rw [if_pos rfl, if_pos (List.getElem?_eq_some_iff.1 hi).1] at hk
  injection hk with hk; injection hk with h1 h2
  subst h1 h2
  exact (h.b i _ _ hi).set j v
 ·rw [if_neg e] at hk
  exact (h.b k t' c' hk).far (by show w.heap.size + k ≠ w.heap.size + i; omega) _
theorem Bxs.b0 (h : Bxs w ((t, c) :: L) wr) : Blk wr w.heap.size t c := h.b 0 t c rfl
theorem Bxs.b1 (h : Bxs w (x0 :: (t, c) :: L) wr) : Blk wr (w.heap.size + 1) t c := h.b 1 t c rfl
theorem Bxs.b2 (h : Bxs w (x0 :: x1 :: (t, c) :: L) wr) : Blk wr (w.heap.size + 2) t c := h.b 2 t c rfl
theorem Bxs.b3 (h : Bxs w (x0 :: x1 :: x2 :: (t, c) :: L) wr) : Blk wr (w.heap.size + 3) t c := h.b 3 t c rfl
theorem Bxs.b4 (h : Bxs w (x0 :: x1 :: x2 :: x3 :: (t, c) :: L) wr) : Blk wr (w.heap.size + 4) t c := h.b 4 t c rfl
end
theorem Bxs.new3 (w : World) (x y z : TypeId × Array Value) : Bxs w [x, y, z] (((w.alloc (.cells x.2 x.1)).alloc (.cells y.2 y.1)).alloc (.cells z.2 z.1)) :=
 (((Bxs.nil w).add rfl x.1 x.2).add (by simp) y.1 y.2).add (by simp) z.1 z.2
theorem Bxs.new4 (w : World) (x y z u : TypeId × Array Value) : Bxs w [x, y, z, u] ((((w.alloc (.cells x.2 x.1)).alloc (.cells y.2 y.1)).alloc (.cells z.2 z.1)).alloc (.cells u.2 u.1)) :=
 ((((Bxs.nil w).add rfl x.1 x.2).add (by simp) y.1 y.2).add (by simp) z.1 z.2).add (by simp) u.1 u.2
end Go.Proofs.YtfaknfmndafllaaGreatDoor
namespace Go.Proofs.YtfaknfmndafllaaGreatDoor
open Go.RowKit
def gapB (k : Int) : Bool := k == 1 || k == 3 || k == 6
def thoB (ds : List Dv) (ls : List Lk) (pos : Int) (p : Int → Bool) (i : Nat) : Bool := decide (lckL ls i = some pos) && p (kindOf ds i)
def thoTo (ds : List Dv) (ls : List Lk) (pos : Int) (p : Int → Bool) (n : Nat) : List Int := ((List.range n).filter (thoB ds ls pos p)).map fun i : Nat => (i : Int)
theorem thoTo_succ (ds : List Dv) (ls : List Lk) (pos : Int) (p : Int → Bool) (n : Nat) : thoTo ds ls pos p (n + 1) = if thoB ds ls pos p n = true then thoTo ds ls pos p n ++ [(n : Int)] else thoTo ds ls pos p n := by
 unfold thoTo
 rw [List.range_succ, List.filter_append, List.map_append]
 rcases h : thoB ds ls pos p n with _ | _ <;> simp [h]
def IntsEPost (w : World) (er : Int) (l : List Int) (e : Ending) (w' : World) : Prop :=
 (er ≠ 0 ∧ e = .returned (.tuple #[.slice none 0 0, .int .i64 er]) ∨ er = 0 ∧ ∃ (A : Option Addr) (c : Nat), e = .returned (.tuple #[.slice A l.length c, .int .i64 0]) ∧ Hid (IntsO w' w.heap.size A l.length c l)) ∧ Hid (Below w.heap.size w w')
theorem IntsEPost.ok {w w' : World} {er : Int} {l : List Int} {e : Ending} (h : IntsEPost w er l e w') (h0 : er = 0) : ∃ (A : Option Addr) (c : Nat), e = .returned (.tuple #[.slice A l.length c, .int .i64 0]) ∧ Hid (IntsO w' w.heap.size A l.length c l) ∧ Hid (Below w.heap.size w w') := by
 obtain ⟨⟨h1, _⟩ | ⟨_, A, c, h1, h2⟩, h3⟩ := h
 ·exact absurd h0 h1
 ·exact ⟨A, c, h1, h2, h3⟩
def PredK (g : Nat) (p : Int → Bool) : Prop := ∀ (W : World) (k : Int), Calls Tryz.prog g #[.int .i64 k] W fun e w' => e = .returned (.bool (p k)) ∧ W = w'
theorem gap_any : PredK 137 gapB := by
 intro w k
 by_cases h1 : k = 1
 ·subst h1
  go_enter Tryz.func137, Tryz.ntmps137
  go_wp2_with fail
  go_ret
  exact ⟨rfl, rfl⟩
 ·have q1 : (k == 1) = false := by simpa using h1
  by_cases h2 : k = 3
  ·subst h2
   go_enter Tryz.func137, Tryz.ntmps137
   go_wp2_with fail
   go_ret
   exact ⟨rfl, rfl⟩
  ·have q2 : (k == 3) = false := by simpa using h2
   have HR : Hid (gapB k = (k == 6)) := by unfold Hid gapB; rw [q1, q2]; simp
   go_enter Tryz.func137, Tryz.ntmps137
   go_wp2_with fail
   go_ret
   exact ⟨ret_bool HR.out.symm, rfl⟩
theorem isearth_any : PredK 238 (fun k => k == 4) := by
 intro w k
 go_enter Tryz.func238, Tryz.ntmps238
 go_wp2_with fail
 go_ret
 exact ⟨rfl, rfl⟩
def ThR (w : World) (N : Array Value) (ds : List Dv) (ls : List Lk) (pos : Int) (p : Int → Bool) (n gk : Nat) (ov iv : Value) (wr : World) : Prop := ∃ (i m c : Nat) (A : Option Addr), ov = .slice A m c ∧ iv = .int .i64 i ∧ i ≤ n ∧ gk = n - i ∧ m ≤ i ∧ Hid ((thoTo ds ls pos p i).length = m) ∧ Hid (IntsO wr (w.heap.size + 1) A m c (thoTo ds ls pos p i)) ∧ Hid (PcSt w N wr)
theorem those_any (g : Nat) (p : Int → Bool) (eg : ∀ args w, (callFunc g args).run Tryz.prog w = .ok (.enter g args) w) (hp : PredK g p) (pos : Int) (An Ad Al : Option Addr) (nn cn nd cd n c Bn Bd Bl : Nat) (ns : List Nd) (ds : List Dv) (ls : List Lk) (w : World) (hla : Laid w) (hn : Sl w Bn 3 An nn cn (ns.flatMap Nd.cells)) (hd : Sl w Bd 5 Ad nd cd (ds.flatMap Dv.cells)) (hs : Sl w Bl 3 Al n c (ls.flatMap Lk.cells)) (hBn : Bn ≤ w.heap.size) (hBd : Bd ≤ w.heap.size) (hBl : Bl ≤ w.heap.size) (hnd : nd ≤ 1000)
 (hsn : ∀ x ∈ ns, x.name.size ≤ 9223372036854775807) (hsd : ∀ x ∈ ds, x.name.size ≤ 9223372036854775807) :
 Calls Tryz.prog 207 #[.agg #[.slice An nn cn, .slice Ad nd cd], .slice Al n c, .int .i64 pos, .func (.func g) #[] #[]] w (IntsEPost w (locksErr ns ds ls) (thoTo ds ls pos p nd)) := by
 have HS := Lib.hid hs; have HD := Lib.hid hd
 have hdl := hd.le
 have HST : Hid (PcSt w #[.slice An nn cn, .slice Ad nd cd] (w.alloc (.cells #[.slice An nn cn, .slice Ad nd cd] 30))) := ⟨Blk.new _ _ _, (Below.refl _ _).alloc (Nat.le_refl _) _⟩
 have HCK := Lib.hid (lcheck_any An Ad Al nn cn nd cd n c Bn Bd Bl ns ds ls (w.alloc (.cells #[.slice An nn cn, .slice Ad nd cd] 30)) (hla.alloc _) (hn.below HST.out.bl hBn) (hd.below HST.out.bl hBd) (hs.below HST.out.bl hBl) (by simp; omega) (by simp; omega) (by simp; omega) hsn hsd)
 have HP := Lib.hid hp
 clear hn hd hs hsn hsd hla hp
 go_enter Tryz.func207, Tryz.ntmps207
 go_wp2_with fail
 generalize World.alloc _ _ = W at *
 refine HCK.out.mono ?_
 rintro e w1 ⟨rfl, hb1⟩
 have HS1 := Lib.hid (HST.out.later hb1)
 clear hb1 HST HCK
 by_cases h0 : locksErr ns ds ls = 0; rotate_left
 ·have q0 : (locksErr ns ds ls != 0) = true := by simpa using h0
  have HNZ := Lib.hid h0
  clear h0
  go_wp2_with fail
  go_ret2
  exact ⟨.inl ⟨HNZ.out, rfl⟩, HS1.out.bl⟩
 have HZ := Lib.hid h0
 rw [h0]
 clear h0
 have k1 := HS1.out.bn.c1
 go_wp2_with fail
 clear k1
 go_loopg [11, 25] nd (ThR w #[.slice An nn cn, .slice Ad nd cd] ds ls pos p nd)
 case atStart => exact ⟨0, 0, 0, none, rfl, rfl, Nat.zero_le _, rfl, Nat.le_refl _, rfl, World.ownsRow_nil _ _ _ _, HS1⟩
 case round =>
  clear HS1
  obtain ⟨i, m, c3, A, rfl, rfl, hi, rfl, hmi, hlen, hO, hst⟩ := hrel
  by_cases hlt : i < nd
  ·obtain ⟨b, off, x, rfl, hb, hx, hc⟩ := (HD.out.below hst.out.bl hBd).at (fun _ => rfl) (by decide) hlt
   have HKO := Lib.hid (kindOf_at hx)
   obtain ⟨nm, kd, xa, xb, co⟩ := x
   have c0 : wr.cell? ⟨b, off + i * 5, none⟩ = some (.string nm) := hc 0 _ rfl
   have c1 : wr.cell? ⟨b, off + i * 5 + 1, none⟩ = some (.int .i64 kd) := hc 1 _ rfl
   have c2 : wr.cell? ⟨b, off + i * 5 + 2, none⟩ = some (.int .i64 xa) := hc 2 _ rfl
   have c3' : wr.cell? ⟨b, off + i * 5 + 3, none⟩ = some (.int .i64 xb) := hc 3 _ rfl
   have c4 : wr.cell? ⟨b, off + i * 5 + 4, none⟩ = some (.int .i64 co) := hc 4 _ rfl
   clear hc hx
   have HS2 : Hid (PcSt w _ (wr.alloc (.cells #[.string nm, .int .i64 kd, .int .i64 xa, .int .i64 xb, .int .i64 co] 68))) := hst.out.later ((Below.refl _ _).alloc (Nat.le_refl _) _)
   have HK2 : Hid (Blk (wr.alloc (.cells #[.string nm, .int .i64 kd, .int .i64 xa, .int .i64 xb, .int .i64 co] 68)) wr.heap.size 68 #[.string nm, .int .i64 kd, .int .i64 xa, .int .i64 xb, .int .i64 co]) := Blk.new _ _ _
   have HO2 : Hid (IntsO (wr.alloc (.cells #[.string nm, .int .i64 kd, .int .i64 xa, .int .i64 xb, .int .i64 co] 68)) (w.heap.size + 1) A m c3 (thoTo ds ls pos p i)) := World.ownsRow.alloc hO.out _
   have hzr := hst.out.bn.lt
   clear hst hO
   go_upto_region 8 with (fail)
   clear c0 c1 c2 c3' c4
   generalize World.alloc wr _ = W2 at *
   have hz2 := HS2.out.bl.size
   go_wp2_with fail
   refine (locked_any Al n c Bl ls i W2 (HS.out.below HS2.out.bl hBl) (by omega)).mono ?_
   rintro e w3 ⟨rfl, hb3⟩
   have HS3 := Lib.hid (HS2.out.later hb3)
   have HK3 := Lib.hid (HK2.out.below hb3 HK2.out.lt)
   have HO3 := Lib.hid (HO2.out.later hb3)
   clear hb3 HS2 HK2 HO2 hz2
   unfold lckE
   have HSU := Lib.hid (thoTo_succ ds ls pos p i)
   have HTB : Hid (thoB ds ls pos p i = (decide (lckL ls i = some pos) && p kd)) := by unfold Hid thoB; rw [HKO.out]
   have hz3 := HS3.out.bn.lt
   rcases hl : lckL ls i with _ | pv
   ·have HF : Hid (thoTo ds ls pos p (i + 1) = thoTo ds ls pos p i) := by unfold Hid; rw [HSU.out, HTB.out, hl]; rfl
    clear hl
    simp only [Option.getD_none, Option.isSome_none]
    go_wp2_with fail
    go_roundg (nd - (i + 1))
    case rel => exact ⟨i + 1, m, c3, A, rfl, by go_num, by omega, rfl, by omega, by rw [HF.out]; exact hlen, by rw [HF.out]; exact HO3, HS3⟩
    case measure => omega
   ·simp only [Option.getD_some, Option.isSome_some]
    by_cases hpp : pv = pos
    ·subst hpp
     have qp : (pv == pv) = true := by simp
     have k1 := HK3.out.c1
     rcases hpk : p kd with _ | _
     ·have hcall := HP.out w3 kd
      rw [hpk] at hcall
      have HF : Hid (thoTo ds ls pv p (i + 1) = thoTo ds ls pv p i) := by unfold Hid; rw [HSU.out, HTB.out, hl, hpk]; simp
      clear hl hpk
      go_wp2_with (go_at_fn g; refine hcall.mono ?_; rintro e w' ⟨rfl, rfl⟩)
      go_roundg (nd - (i + 1))
      case rel => exact ⟨i + 1, m, c3, A, rfl, by go_num, by omega, rfl, by omega, by rw [HF.out]; exact hlen, by rw [HF.out]; exact HO3, HS3⟩
      case measure => omega
     ·have hcall := HP.out w3 kd
      rw [hpk] at hcall
      have HF : Hid (thoTo ds ls pv p (i + 1) = thoTo ds ls pv p i ++ [(i : Int)]) := by unfold Hid; rw [HSU.out, HTB.out, hl, hpk]; simp
      clear hl hpk
      go_upto_region 10 with (go_at_fn g; refine hcall.mono ?_; rintro e w' ⟨rfl, rfl⟩)
      clear k1 qp hcall
      go_wp2_with (at_builtin; go_must (refine wpList_app rfl (.tmp 48) (.tmp 50) rfl el_int (by rfl) (World.ownsRow.alloc HO3.out _) (by rfl) (Sl.newest (n := 1) (by simp) (by rfl) (by decide)) (by simp [Value.oneCell']) (by omega) (by omega) (by simp; omega) ?_; intro A' cap' w5 hown5 hgr5 hat5; have HO5 := Lib.hid hown5; have HG5 := Lib.hid hgr5; clear hown5 hgr5 hat5))
      go_roundg (nd - (i + 1))
      case rel =>
       have hr1 : ∀ b, (Value.slice A m c3).ownBlock = some b → w.heap.size + 1 ≤ b := fun b e => (HO3.out.lt b e).1
       have hg5 := HG5.out
       have hb5 : Below (w.heap.size + 1) w3 w5 := ((Below.refl _ _).alloc hz3 _).trans ⟨hg5.os, hg5.tape, hg5.output, hg5.size, fun t ht => hg5.block t (by simp; omega) (fun e => by have := hr1 t e.symm; omega)⟩
       refine ⟨i + 1, m + 1, cap', A', rfl, by go_num, by omega, rfl, by omega, ?_, ?_, ⟨HS3.out.bn.below hb5 (by omega), HS3.out.bl.trans (hb5.mono (by omega))⟩⟩
       ·unfold Hid; rw [HF.out, List.length_append, hlen.out]; rfl
       ·unfold Hid IntsO; rw [HF.out, intsV_append]; exact HO5.out
      case measure => omega
    ·have qp : (pv == pos) = false := by simpa using hpp
     have HF : Hid (thoTo ds ls pos p (i + 1) = thoTo ds ls pos p i) := by unfold Hid; rw [HSU.out, HTB.out, hl]; simp [hpp]
     clear hl hpp
     go_wp2_with fail
     go_roundg (nd - (i + 1))
     case rel => exact ⟨i + 1, m, c3, A, rfl, by go_num, by omega, rfl, by omega, by rw [HF.out]; exact hlen, by rw [HF.out]; exact HO3, HS3⟩
     case measure => omega
  ·obtain rfl : i = nd := by omega
   have hii : decide (i < i) = false := by simp
   go_wp2_with fail
   go_ret2
   refine ⟨.inr ⟨HZ.out, A, c3, by rw [hlen.out]; rfl, ?_⟩, hst.out.bl⟩
   unfold Hid; rw [hlen.out]; exact hO.out.mono (by omega)
theorem gaps_any (An Ad Al : Option Addr) (nn cn nd cd n c Bn Bd Bl : Nat) (ns : List Nd) (ds : List Dv) (ls : List Lk) (w : World) (hla : Laid w) (hn : Sl w Bn 3 An nn cn (ns.flatMap Nd.cells)) (hd : Sl w Bd 5 Ad nd cd (ds.flatMap Dv.cells)) (hs : Sl w Bl 3 Al n c (ls.flatMap Lk.cells)) (hBn : Bn ≤ w.heap.size) (hBd : Bd ≤ w.heap.size) (hBl : Bl ≤ w.heap.size) (hnd : nd ≤ 1000)
 (hsn : ∀ x ∈ ns, x.name.size ≤ 9223372036854775807) (hsd : ∀ x ∈ ds, x.name.size ≤ 9223372036854775807) :
 Calls Tryz.prog 189 #[.agg #[.slice An nn cn, .slice Ad nd cd], .slice Al n c] w (IntsEPost w (locksErr ns ds ls) (thoTo ds ls 1 gapB nd)) := by
 have HB : Hid (Below w.heap.size w (w.alloc (.cells #[.slice An nn cn, .slice Ad nd cd] 30))) := (Below.refl _ _).alloc (Nat.le_refl _) _
 have HC := Lib.hid (those_any 137 gapB (enters_of Tryz.func137 (by kernel_rfl) rfl) gap_any 1 An Ad Al nn cn nd cd n c Bn Bd Bl ns ds ls (w.alloc (.cells #[.slice An nn cn, .slice Ad nd cd] 30)) (hla.alloc _) (hn.below HB.out hBn) (hd.below HB.out hBd) (hs.below HB.out hBl) (by simp; omega) (by simp; omega) (by simp; omega) hnd hsn hsd)
 have HW : Hid ((w.alloc (.cells #[.slice An nn cn, .slice Ad nd cd] 30)).heap.size = w.heap.size + 1) := by unfold Hid; simp
 clear hn hd hs hla
 generalize thoTo ds ls 1 gapB nd = l at *
 go_enter Tryz.func189, Tryz.ntmps189
 go_wp2_with fail
 generalize World.alloc _ _ = W at *
 refine HC.out.mono ?_
 rintro e w1 ⟨⟨h1, rfl⟩ | ⟨h1, A, c1, rfl, hO⟩, hb⟩
 ·have HNZ := Lib.hid h1
  clear h1
  go_wp2_with fail
  go_ret2
  exact ⟨.inl ⟨HNZ.out, rfl⟩, HB.out.trans (hb.out.mono HB.out.size)⟩
 ·have HZ := Lib.hid h1
  clear h1
  go_wp2_with fail
  go_ret2
  exact ⟨.inr ⟨HZ.out, A, c1, rfl, hO.out.mono (by have := HW.out; omega)⟩, HB.out.trans (hb.out.mono HB.out.size)⟩
theorem earths_any (An Ad Al : Option Addr) (nn cn nd cd n c Bn Bd Bl : Nat) (ns : List Nd) (ds : List Dv) (ls : List Lk) (w : World) (hla : Laid w) (hn : Sl w Bn 3 An nn cn (ns.flatMap Nd.cells)) (hd : Sl w Bd 5 Ad nd cd (ds.flatMap Dv.cells)) (hs : Sl w Bl 3 Al n c (ls.flatMap Lk.cells)) (hBn : Bn ≤ w.heap.size) (hBd : Bd ≤ w.heap.size) (hBl : Bl ≤ w.heap.size) (hnd : nd ≤ 1000)
 (hsn : ∀ x ∈ ns, x.name.size ≤ 9223372036854775807) (hsd : ∀ x ∈ ds, x.name.size ≤ 9223372036854775807) :
 Calls Tryz.prog 210 #[.agg #[.slice An nn cn, .slice Ad nd cd], .slice Al n c] w (IntsEPost w (locksErr ns ds ls) (thoTo ds ls 2 (fun k => k == 4) nd)) := by
 have HB : Hid (Below w.heap.size w (w.alloc (.cells #[.slice An nn cn, .slice Ad nd cd] 30))) := (Below.refl _ _).alloc (Nat.le_refl _) _
 have HC := Lib.hid (those_any 238 (fun k => k == 4) (enters_of Tryz.func238 (by kernel_rfl) rfl) isearth_any 2 An Ad Al nn cn nd cd n c Bn Bd Bl ns ds ls (w.alloc (.cells #[.slice An nn cn, .slice Ad nd cd] 30)) (hla.alloc _) (hn.below HB.out hBn) (hd.below HB.out hBd) (hs.below HB.out hBl) (by simp; omega) (by simp; omega) (by simp; omega) hnd hsn hsd)
 have HW : Hid ((w.alloc (.cells #[.slice An nn cn, .slice Ad nd cd] 30)).heap.size = w.heap.size + 1) := by unfold Hid; simp
 clear hn hd hs hla
 generalize thoTo ds ls 2 (fun k => k == 4) nd = l at *
 go_enter Tryz.func210, Tryz.ntmps210
 go_wp2_with fail
 generalize World.alloc _ _ = W at *
 refine HC.out.mono ?_
 rintro e w1 ⟨⟨h1, rfl⟩ | ⟨h1, A, c1, rfl, hO⟩, hb⟩
 ·have HNZ := Lib.hid h1
  clear h1
  go_wp2_with fail
  go_ret2
  exact ⟨.inl ⟨HNZ.out, rfl⟩, HB.out.trans (hb.out.mono HB.out.size)⟩
 ·have HZ := Lib.hid h1
  clear h1
  go_wp2_with fail
  go_ret2
  exact ⟨.inr ⟨HZ.out, A, c1, rfl, hO.out.mono (by have := HW.out; omega)⟩, HB.out.trans (hb.out.mono HB.out.size)⟩
end Go.Proofs.YtfaknfmndafllaaGreatDoor
namespace Go.Proofs.YtfaknfmndafllaaGreatDoor
section
variable {perm : List Int → Nat → Bool} {bad : Nat → Bool} {rc : List Int → List Nat → Bool} {s : List Int} {l : List Nat}
end
end Go.Proofs.YtfaknfmndafllaaGreatDoor
namespace Go.Proofs.YtfaknfmndafllaaGreatDoor
theorem nm2_inj {a b : List UInt8} {i j : Nat} (hi : i < 100) (hj : j < 100) (hl : a.length = b.length) (h : nm2 a i = nm2 b j) : a = b ∧ i = j := by
 unfold nm2 at h
 have h1 := List.append_inj h hl
 refine ⟨h1.1, ?_⟩
 have h2 := h1.2
 simp only [List.cons.injEq, and_true] at h2
 have e1 := congrArg UInt8.toNat h2.1
 have e2 := congrArg UInt8.toNat h2.2
 rw [UInt8.toNat_ofNat', UInt8.toNat_ofNat'] at e1 e2
 omega
theorem nm2_name (c : UInt8) (i : Nat) (hc : fitC c.toNat true = true) (hi : i < 100) : nameB (nm2 [c] i) = true := by
 unfold nameB nm2
 have e1 : (UInt8.ofNat (48 + i / 10)).toNat = 48 + i / 10 := by rw [UInt8.toNat_ofNat']; omega
 have e2 : (UInt8.ofNat (48 + i % 10)).toNat = 48 + i % 10 := by rw [UInt8.toNat_ofNat']; omega
 have hd : ∀ k : Nat, k < 10 → fitC ((48 + k : Nat) : Int) false = true := by
  intro k hk
  rw [fit_later]
  have : digC ((48 + k : Nat) : Int) = true := by simp [digC]; omega
  rw [this]
  simp
 have hall : ∀ k, k < ([c] ++ [UInt8.ofNat (48 + i / 10), UInt8.ofNat (48 + i % 10)]).length → fitC (([c] ++ [UInt8.ofNat (48 + i / 10), UInt8.ofNat (48 + i % 10)]).getD k 0).toNat (k == 0) = true := by
  intro k hk
  match k, hk with
  | 0, _ => exact hc
  | 1, _ =>
   have := hd (i / 10) (by omega)
   simp only [List.singleton_append, List.getD_cons_succ, List.getD_cons_zero]
   rw [e1]; exact this
  | 2, _ =>
   have := hd (i % 10) (by omega)
   simp only [List.singleton_append, List.getD_cons_succ, List.getD_cons_zero]
   rw [e2]; exact this
  | k + 3, hk => simp at hk; omega
 rw [decide_eq_true hall]
 simp
theorem letterT_one {k : Nat} (h : 1 ≤ k ∧ k ≤ 6) : ∃ c : UInt8, letterT k = [c] ∧ c ≠ 78 ∧ fitC c.toNat true = true := by
 rcases (show k = 1 ∨ k = 2 ∨ k = 3 ∨ k = 4 ∨ k = 5 ∨ k = 6 by omega) with rfl | rfl | rfl | rfl | rfl | rfl
 ·exact ⟨76, rfl, by decide, by decide⟩
 ·exact ⟨81, rfl, by decide, by decide⟩
 ·exact ⟨68, rfl, by decide, by decide⟩
 ·exact ⟨69, rfl, by decide, by decide⟩
 ·exact ⟨83, rfl, by decide, by decide⟩
 ·exact ⟨71, rfl, by decide, by decide⟩
theorem chkN_all {ns : List Nd} (h : ∀ i x, ns[i]? = some x → ndErr (Un ns i) x = 0) : ∀ (k i : Nat), ns.length - i = k → chkN (Un ns i) (ns.drop i) = 0
 | 0, i, hk => by rw [List.drop_eq_nil_of_le (by omega)]; rfl
 | k + 1, i, hk => by
  have hx : ns[i]? = some (ns[i]'(by omega)) := List.getElem?_eq_getElem (by omega)
  rw [(chkN_step hx (h i _ hx)).1, ← Un_succ hx]
  exact chkN_all h k (i + 1) (by omega)
theorem chkD_all {ns : List Nd} {ds : List Dv} (h : ∀ j x, ds[j]? = some x → dvErr ns.length (Ud ns ds j) x = 0) : ∀ (k j : Nat), ds.length - j = k → chkD ns.length (Ud ns ds j) (ds.drop j) = 0
 | 0, j, hk => by rw [List.drop_eq_nil_of_le (by omega)]; rfl
 | k + 1, j, hk => by
  have hx : ds[j]? = some (ds[j]'(by omega)) := List.getElem?_eq_getElem (by omega)
  rw [chkD_step hx (h j _ hx), ← Ud_succ hx]
  exact chkD_all h k (j + 1) (by omega)
section
variable {nodes dmax : Int} {ns : List Nd} {ds : List Dv}
theorem MadeNet.check (h : MadeNet nodes dmax ns ds) (hn : nodes ≤ 32) (hd : dmax ≤ 64) : checkN ns ds = 0 := by
 have hnl := h.nm
 have hdl := h.dm
 have hN := chkN_all (ns := ns) (fun i x hx => by
  obtain ⟨h1, h2, h3, h4, h5⟩ := h.nok i x hx
  have hi : i < ns.length := (List.getElem?_eq_some_iff.1 hx).1
  unfold ndErr
  rw [h1, toL_mk, if_neg (by rw [nm2_name 78 i (by decide) (by omega)]; simp), if_neg ?_, if_neg (by omega), if_neg (by simp [compB]; omega)]
  intro hm
  obtain ⟨k, y, hk, hy, he⟩ := mem_Un.1 hm
  rw [(h.nok k y hy).1, toL_mk] at he
  have := (nm2_inj (by omega) (by omega) rfl he).2
  omega) _ 0 rfl
 have hD := chkD_all (ns := ns) (ds := ds) (fun j x hx => by
  obtain ⟨h1, h2, h3, h4, h5, h6⟩ := h.dok j x hx
  have hj : j < ds.length := (List.getElem?_eq_some_iff.1 hx).1
  obtain ⟨c, hc1, hc2, hc3⟩ := letterT_one (k := x.kind.toNat) (by omega)
  unfold dvErr
  rw [h1, toL_mk, hc1, if_neg (by rw [nm2_name c j hc3 (by omega)]; simp), if_neg ?_, if_neg (by omega), if_neg (by rw [h4]; simp), if_neg (by simp [compB]; omega)]
  intro hm
  rcases mem_Ud.1 hm with ⟨k, y, hk, hy, he⟩ | ⟨k, y, hk, hy, he⟩
  ·obtain ⟨g1, g2, g3, _⟩ := h.dok k y hy
   obtain ⟨d, hd1, _, _⟩ := letterT_one (k := y.kind.toNat) (by omega)
   rw [g1, toL_mk, hd1] at he
   have := (nm2_inj (a := [d]) (b := [c]) (i := k) (j := j) (by omega) (by omega) rfl he).2
   omega
  ·rw [(h.nok k y hy).1, toL_mk] at he
   have := (nm2_inj (a := [78]) (b := [c]) (i := k) (j := j) (by omega) (by omega) rfl he).1
   injection this with this
   exact hc2 this.symm) _ 0 rfl
 unfold checkN
 rw [if_neg (by omega), if_neg (by omega), if_pos (by simpa [Un] using hN), usedN_Un]
 simpa [Ud, Un] using hD
theorem MadeNet.names (h : MadeNet nodes dmax ns ds) : (∀ x ∈ ns, x.name.size ≤ 9223372036854775807) ∧ (∀ x ∈ ds, x.name.size ≤ 9223372036854775807) := by
 constructor
 ·intro x hx
  obtain ⟨j, hj⟩ := List.mem_iff_getElem?.1 hx
  rw [(h.nok j x hj).1, size_mk]
  simp [nm2]
 ·intro x hx
  obtain ⟨j, hj⟩ := List.mem_iff_getElem?.1 hx
  obtain ⟨h1, h2, h3, _⟩ := h.dok j x hj
  obtain ⟨c, hc, _⟩ := letterT_one (k := x.kind.toNat) (by omega)
  rw [h1, size_mk, hc]
  simp [nm2]
end
end Go.Proofs.YtfaknfmndafllaaGreatDoor
namespace Go.Proofs.YtfaknfmndafllaaGreatDoor
open Go.RowKit
def kdI (i : Nat) : Int := [2, 3, 1, 3, 2].getD i 0
def bayX (i : Nat) : Dv := ⟨mkS (nm2 [88] i), kdI i, i, (i : Int) + 1, 0⟩
def bayD : List Dv := [⟨⟨#[83, 48]⟩, 5, 0, -1, 0⟩, bayX 0, bayX 1, bayX 2, bayX 3, bayX 4, ⟨⟨#[69, 50]⟩, 4, 2, -1, 0⟩, ⟨⟨#[69, 51]⟩, 4, 3, -1, 0⟩]
def bayE : Nat → List Dv
 | 0 => [⟨⟨#[83, 53]⟩, 5, 5, -1, 0⟩]
 | 1 => [⟨⟨#[71, 51]⟩, 6, 3, -1, 0⟩]
 | 2 => [⟨⟨#[68, 49]⟩, 3, 1, 4, 0⟩]
 | _ => []
theorem bayD_next {i : Nat} (h : i < 5) : bayD.take (i + 2) = bayD.take (i + 1) ++ [bayX i] := by
 rcases (show i = 0 ∨ i = 1 ∨ i = 2 ∨ i = 3 ∨ i = 4 by omega) with rfl | rfl | rfl | rfl | rfl <;> rfl
structure BayOk (ns : List Nd) (ds : List Dv) (s : List Int) : Prop where
 n6 : ns.length = 6
 nok : MadeN ns
 dv : ∃ k, ds = bayD ++ bayE k
 sl : s.length = ds.length
 ps : ∀ p ∈ s, posB p = true
theorem own_nb {w : World} {base size n c x : Nat} {e t : TypeId} {A : Option Addr} {xs : List Value} {cs : Array Value} (h : w.ownsRow base e size (.slice A n c) n xs) (hx : Blk w x t cs) (he : e ≠ t) : some x ≠ (Value.slice A n c).ownBlock := by
 intro e1
 rcases h.2 with ⟨h1, _⟩ | ⟨g, cap, cur, h1, _, h2, _⟩
 ·rw [h1] at e1; cases e1
 ·rw [h1] at e1
  injection e1 with e1
  subst e1
  unfold Blk at hx
  have h3 := h2.symm.trans hx
  injection h3 with h3
  injection h3 with _ h4 _
  exact he h4
structure BayM (w0 : World) (g : Nat) (An : Option Addr) (nn cn : Nat) (ns : List Nd) (Ad : Option Addr) (nd cd : Nat) (ds : List Dv) (As : Option Addr) (n c : Nat) (s : List Int) (w : World) : Prop where
 lt : g < w0.heap.size
 deck : DeckAt w g
 gr : w0.grownBy w (some g)
 rb : Blk w w0.heap.size 30 #[.slice none 0 0, .slice none 0 0]
 nb : Blk w (w0.heap.size + 1) 30 #[.slice An nn cn, .slice Ad nd cd]
 rn : w.ownsRow (w0.heap.size + 2) 80 3 (.slice An nn cn) nn (ns.flatMap Nd.cells)
 rd : w.ownsRow (w0.heap.size + 2) 68 5 (.slice Ad nd cd) nd (ds.flatMap Dv.cells)
 rs : IntsO w (w0.heap.size + 2) As n c s
section
variable {w0 w w' w1 : World} {g : Nat} {An Ad As A1 : Option Addr} {nn cn nd cd n c c1 m : Nat} {ns : List Nd} {ds xs : List Dv} {s : List Int}
theorem BayM.size (h : BayM w0 g An nn cn ns Ad nd cd ds As n c s w) : w0.heap.size + 2 ≤ w.heap.size := h.nb.lt
theorem BayM.next (h : BayM w0 g An nn cn ns Ad nd cd ds As n c s w) (hd : DeckAt w' g) (hg : w.grownBy w' (some g)) : BayM w0 g An nn cn ns Ad nd cd ds As n c s w' := by
 have hl := h.lt
 exact ⟨hl, hd, grown_trans h.gr hg, h.rb.grown hg (by simp; omega), h.nb.grown hg (by simp; omega), h.rn.kept hg (ne_row fun b e => by have := (h.rn.lt b e).1; omega), h.rd.kept hg (ne_row fun b e => by have := (h.rd.lt b e).1; omega), h.rs.kept hg (ne_row fun b e => by have := (h.rs.lt b e).1; omega)⟩
theorem BayM.later (h : BayM w0 g An nn cn ns Ad nd cd ds As n c s w) (hb : Below w.heap.size w w') : BayM w0 g An nn cn ns Ad nd cd ds As n c s w' := by
 have hg := grown_of_below hb none
 exact ⟨h.lt, h.deck.below hb h.deck.lt, grown_trans h.gr (grown_of_below hb _), h.rb.below hb h.rb.lt, h.nb.below hb h.nb.lt, h.rn.kept hg (Classical.em _), h.rd.kept hg (Classical.em _), h.rs.kept hg (Classical.em _)⟩
theorem BayM.alloc (h : BayM w0 g An nn cn ns Ad nd cd ds As n c s w) (o : Obj) : BayM w0 g An nn cn ns Ad nd cd ds As n c s (w.alloc o) := h.later ((Below.refl _ _).alloc (Nat.le_refl _) _)
theorem BayM.far {q j : Nat} {u : Value} {t : TypeId} {cs : Array Value} (h : BayM w0 g An nn cn ns Ad nd cd ds As n c s w) (hq : w0.heap.size + 2 ≤ q) (hb : Blk w q t cs) (h1 : 80 ≠ t ∨ (Value.slice An nn cn).ownBlock ≠ some q) (h2 : 68 ≠ t) (h3 : 3 ≠ t) : BayM w0 g An nn cn ns Ad nd cd ds As n c s (w.setCell ⟨q, j, none⟩ u) := by
 have hl := h.lt
 have hg : w.grownBy (w.setCell ⟨q, j, none⟩ u) (some q) := ⟨rfl, rfl, rfl, by simp [World.setCell], fun i _ hi => Below.heap_setCell w _ _ i (fun e => hi (by rw [e]))⟩
 refine ⟨hl, h.deck.setCell (by simp; omega) _, grown_set h.gr (by simp; omega) _, h.rb.far (by simp; omega) _, h.nb.far (by simp; omega) _, h.rn.kept hg (.inr ?_), h.rd.kept hg (.inr fun e => own_nb h.rd hb h2 e.symm), h.rs.kept hg (.inr fun e => own_nb h.rs hb h3 e.symm)⟩
 rcases h1 with h1 | h1
 ·exact fun e => own_nb h.rn hb h1 e.symm
 ·exact h1
theorem BayM.devs (h : BayM w0 g An nn cn ns Ad nd cd ds As n c s w) (ho : w1.ownsRow (w0.heap.size + 2) 68 5 (.slice A1 (nd + m) c1) (nd + m) (ds.flatMap Dv.cells ++ xs.flatMap Dv.cells)) (hg : w.grownBy w1 (Value.slice Ad nd cd).ownBlock) :
 Blk w1 (w0.heap.size + 1) 30 #[.slice An nn cn, .slice Ad nd cd] ∧ BayM w0 g An nn cn ns A1 (nd + m) c1 (ds ++ xs) As n c s (w1.setCell ⟨w0.heap.size + 1, 1, none⟩ (.slice A1 (nd + m) c1)) := by
 have hl := h.lt
 have hz := h.size
 have hr : ∀ b, (Value.slice Ad nd cd).ownBlock = some b → w0.heap.size + 2 ≤ b ∧ b < w.heap.size := fun b e => h.rd.lt b e
 have far : ∀ q, q < w0.heap.size + 2 → some q ≠ (Value.slice Ad nd cd).ownBlock := fun q hq e => by have := (hr q e.symm).1; omega
 have hg3 : w1.grownBy (w1.setCell ⟨w0.heap.size + 1, 1, none⟩ (.slice A1 (nd + m) c1)) (some (w0.heap.size + 1)) := ⟨rfl, rfl, rfl, by simp [World.setCell], fun i _ hi => Below.heap_setCell w1 _ _ i (fun e => hi (by rw [e]))⟩
 have hn := h.rn.kept hg (own_two h.rn h.rd (by decide))
 have hs := h.rs.kept hg (own_two h.rs h.rd (by decide))
 have hb := h.nb.grown hg (far _ (by omega))
 refine ⟨hb, hl, (h.deck.grown hg (fun k e => by have := (hr k e).1; omega)).setCell (by simp; omega) _, grown_set (grown_new h.gr hg (fun k e => by have := (hr k e).1; omega)) (by simp) _, (h.rb.grown hg (far _ (by omega))).far (by simp) _, hb.set 1 _, hn.kept hg3 (ne_row fun b e => by have := (hn.lt b e).1; omega), ?_, hs.kept hg3 (ne_row fun b e => by have := (hs.lt b e).1; omega)⟩
 rw [List.flatMap_append]
 exact ho.kept hg3 (ne_row fun b e => by have := (ho.lt b e).1; omega)
theorem BayM.kb {kb : Nat} {cs : Array Value} (h : BayM w0 g An nn cn ns Ad nd cd ds As n c s w) (hb : Blk w kb 3 cs) (hg : w.grownBy w1 (Value.slice Ad nd cd).ownBlock) : Blk w1 kb 3 cs := hb.grown hg (own_nb h.rd hb (by decide))
theorem BayM.node {x : Nd} (h : BayM w0 g An nn cn ns Ad nd cd ds As n c s w) (ho : w1.ownsRow (w0.heap.size + 2) 80 3 (.slice A1 (nn + 1) c1) (nn + 1) (ns.flatMap Nd.cells ++ x.cells)) (hg : w.grownBy w1 (Value.slice An nn cn).ownBlock) :
 Blk w1 (w0.heap.size + 1) 30 #[.slice An nn cn, .slice Ad nd cd] ∧ BayM w0 g A1 (nn + 1) c1 (ns ++ [x]) Ad nd cd ds As n c s (w1.setCell ⟨w0.heap.size + 1, 0, none⟩ (.slice A1 (nn + 1) c1)) := by
 have hl := h.lt
 have hz := h.size
 have hr : ∀ b, (Value.slice An nn cn).ownBlock = some b → w0.heap.size + 2 ≤ b ∧ b < w.heap.size := fun b e => h.rn.lt b e
 have far : ∀ q, q < w0.heap.size + 2 → some q ≠ (Value.slice An nn cn).ownBlock := fun q hq e => by have := (hr q e.symm).1; omega
 have hg3 : w1.grownBy (w1.setCell ⟨w0.heap.size + 1, 0, none⟩ (.slice A1 (nn + 1) c1)) (some (w0.heap.size + 1)) := ⟨rfl, rfl, rfl, by simp [World.setCell], fun i _ hi => Below.heap_setCell w1 _ _ i (fun e => hi (by rw [e]))⟩
 have hn := h.rd.kept hg (own_two h.rd h.rn (by decide))
 have hs := h.rs.kept hg (own_two h.rs h.rn (by decide))
 have hb := h.nb.grown hg (far _ (by omega))
 refine ⟨hb, hl, (h.deck.grown hg (fun k e => by have := (hr k e).1; omega)).setCell (by simp; omega) _, grown_set (grown_new h.gr hg (fun k e => by have := (hr k e).1; omega)) (by simp) _, (h.rb.grown hg (far _ (by omega))).far (by simp) _, hb.set 0 _, ?_, hn.kept hg3 (ne_row fun b e => by have := (hn.lt b e).1; omega), hs.kept hg3 (ne_row fun b e => by have := (hs.lt b e).1; omega)⟩
 rw [List.flatMap_append, List.flatMap_cons, List.flatMap_nil, List.append_nil]
 exact ho.kept hg3 (ne_row fun b e => by have := (ho.lt b e).1; omega)
theorem BayM.pos {x : Int} (h : BayM w0 g An nn cn ns Ad nd cd ds As n c s w) (ho : w1.ownsRow (w0.heap.size + 2) 3 1 (.slice A1 (n + 1) c1) (n + 1) (intsV s ++ [.int .i64 x])) (hg : w.grownBy w1 (Value.slice As n c).ownBlock) : BayM w0 g An nn cn ns Ad nd cd ds A1 (n + 1) c1 (s ++ [x]) w1 := by
 have hl := h.lt
 have hz := h.size
 have hr : ∀ b, (Value.slice As n c).ownBlock = some b → w0.heap.size + 2 ≤ b ∧ b < w.heap.size := fun b e => h.rs.lt b e
 have far : ∀ q, q < w0.heap.size + 2 → some q ≠ (Value.slice As n c).ownBlock := fun q hq e => by have := (hr q e.symm).1; omega
 refine ⟨hl, h.deck.grown hg (fun k e => by have := (hr k e).1; omega), grown_new h.gr hg (fun k e => by have := (hr k e).1; omega), h.rb.grown hg (far _ (by omega)), h.nb.grown hg (far _ (by omega)), h.rn.kept hg (own_two h.rn h.rs (by decide)), h.rd.kept hg (own_two h.rd h.rs (by decide)), ?_⟩
 unfold IntsO intsV
 rw [List.flatMap_append]
 exact ho
theorem BayM.fresh {s1 : List Int} (h : BayM w0 g An nn cn ns Ad nd cd ds As n c s w) (hs : s1.length = m) (hm : m ≤ 1000) : BayM w0 g An nn cn ns Ad nd cd ds (some ⟨w.heap.size, 0, none⟩) m m s1 (w.alloc (.cells (intsV s1).toArray 3)) := by
 have h1 := h.alloc (.cells (intsV s1).toArray 3)
 exact ⟨h1.lt, h1.deck, h1.gr, h1.rb, h1.nb, h1.rn, h1.rd, own_new h.size (by omega) (by rw [intsV_len]; exact hs)⟩
theorem BayM.put {i : Nat} (x : Int) (h : BayM w0 g An nn cn ns Ad nd cd ds As n c s w) (hi : i < n) : ∃ (b : Nat) (y : Int), As = some ⟨b, 0, none⟩ ∧ b < w.heap.size ∧ w.cell? ⟨b, i, none⟩ = some (.int .i64 y) ∧ w.frozen? ⟨b, i, none⟩ = false ∧ BayM w0 g An nn cn ns Ad nd cd ds As n c (s.set i x) (w.setCell ⟨b, i, none⟩ (.int .i64 x)) := by
 obtain ⟨b, y, rfl, h1, h2, _, h4, h5, h6⟩ := h.rs.at hi
 have hl := h.lt
 have hg := grown_cell w ⟨b, i, none⟩ (.int .i64 x)
 exact ⟨b, y, rfl, h2, h4, h5, hl, h.deck.setCell (by simp; omega) _, grown_set h.gr (by simp; omega) _, h.rb.far (by simp; omega) _, h.nb.far (by simp; omega) _, h.rn.kept hg (own_two h.rn h.rs (by decide)), h.rd.kept hg (own_two h.rd h.rs (by decide)), h6 x⟩
theorem BayM.fin (u v : Value) (h : BayM w0 g An nn cn ns Ad nd cd ds As n c s w) :
 DeckAt ((w.setCell ⟨w0.heap.size, 0, none⟩ u).setCell ⟨w0.heap.size, 1, none⟩ v) g ∧ w0.grownBy ((w.setCell ⟨w0.heap.size, 0, none⟩ u).setCell ⟨w0.heap.size, 1, none⟩ v) (some g) ∧ ((w.setCell ⟨w0.heap.size, 0, none⟩ u).setCell ⟨w0.heap.size, 1, none⟩ v).ownsRow (w0.heap.size + 2) 80 3 (.slice An nn cn) nn (ns.flatMap Nd.cells) ∧ ((w.setCell ⟨w0.heap.size, 0, none⟩ u).setCell ⟨w0.heap.size, 1, none⟩ v).ownsRow (w0.heap.size + 2) 68 5 (.slice Ad nd cd) nd (ds.flatMap Dv.cells) ∧ IntsO ((w.setCell ⟨w0.heap.size, 0, none⟩ u).setCell ⟨w0.heap.size, 1, none⟩ v) (w0.heap.size + 2) As n c s ∧ Blk ((w.setCell ⟨w0.heap.size, 0, none⟩ u).setCell ⟨w0.heap.size, 1, none⟩ v) w0.heap.size 30 #[u, v] := by
 have hl := h.lt
 have hg1 := grown_cell w ⟨w0.heap.size, 0, none⟩ u
 have hg2 := grown_cell (w.setCell ⟨w0.heap.size, 0, none⟩ u) ⟨w0.heap.size, 1, none⟩ v
 have far : ∀ {e size A n c xs}, w.ownsRow (w0.heap.size + 2) e size (.slice A n c) n xs → ((w.setCell ⟨w0.heap.size, 0, none⟩ u).setCell ⟨w0.heap.size, 1, none⟩ v).ownsRow (w0.heap.size + 2) e size (.slice A n c) n xs := fun h => by
  have h1 := h.kept hg1 (ne_row fun b e => by have := (h.lt b e).1; simp; omega)
  exact h1.kept hg2 (ne_row fun b e => by have := (h1.lt b e).1; simp; omega)
 exact ⟨(h.deck.setCell (by simp; omega) _).setCell (by simp; omega) _, grown_set (grown_set h.gr (by simp) _) (by simp) _, far h.rn, far h.rd, far h.rs, (h.rb.set 0 _).set 1 _⟩
end
def BayS (ds : List Dv) (s : List Int) : Prop := (∃ k, ds = bayD ++ bayE k) ∧ s.length = ds.length ∧ ∀ p ∈ s, posB p = true
theorem BayS.set {ds : List Dv} {s : List Int} (h : BayS ds s) (i : Nat) : BayS ds (s.set i 1) := ⟨h.1, by rw [List.length_set]; exact h.2.1, fun p hp => by
 rcases List.mem_or_eq_of_mem_set hp with hp | rfl
 ·exact h.2.2 p hp
 ·rfl⟩
theorem BayS.more (k : Nat) (x : Int) (h : (bayE k).length = 1) (hx : posB x = true) : BayS (bayD ++ bayE k) ([2, 2, 2, 2, 2, 2, 1, 1] ++ [x]) := ⟨⟨k, rfl⟩, by rw [List.length_append, List.length_append, h]; rfl, fun p hp => by
 simp only [List.mem_append, List.mem_cons, List.not_mem_nil, or_false] at hp
 rcases hp with (rfl | rfl | rfl | rfl | rfl | rfl | rfl | rfl) | rfl <;> first | rfl | exact hx⟩
theorem BayS.base : BayS (bayD ++ bayE 3) [2, 2, 2, 2, 2, 2, 1, 1] := ⟨⟨3, rfl⟩, rfl, fun p hp => by
 simp only [List.mem_cons, List.not_mem_nil, or_false] at hp
 rcases hp with rfl | rfl | rfl | rfl | rfl | rfl | rfl | rfl <;> rfl⟩
theorem made_more {ns : List Nd} {x : Nd} {i : Nat} (h : ns.length = i ∧ MadeN ns) (hx : NdOk i x) : (ns ++ [x]).length = i + 1 ∧ MadeN (ns ++ [x]) := ⟨by rw [List.length_append, h.1]; rfl, h.2.snoc (by rw [h.1]; exact hx)⟩
def BayPost (w : World) (g : Nat) (e : Ending) (w' : World) : Prop :=
 ∃ (An : Option Addr) (cn : Nat) (ns : List Nd) (Ad : Option Addr) (nd cd : Nat) (ds : List Dv) (As : Option Addr) (c : Nat) (s : List Int), e = .returned (.tuple #[.agg #[.slice An 6 cn, .slice Ad nd cd], .slice As nd c]) ∧ Hid (DeckAt w' g) ∧ Hid (w.grownBy w' (some g)) ∧
  Hid (w'.ownsRow (w.heap.size + 2) 80 3 (.slice An 6 cn) 6 (ns.flatMap Nd.cells)) ∧ Hid (w'.ownsRow (w.heap.size + 2) 68 5 (.slice Ad nd cd) nd (ds.flatMap Dv.cells)) ∧ Hid (IntsO w' (w.heap.size + 2) As nd c s) ∧ Hid (BayOk ns ds s)
def ByR1 (w : World) (g : Nat) (gk : Nat) (iv : Value) (wr : World) : Prop := ∃ (i cn : Nat) (An : Option Addr) (ns : List Nd), iv = .int .i64 i ∧ i ≤ 6 ∧ gk = 6 - i ∧ Hid (BayM w g An i cn ns none 0 0 [] none 0 0 [] wr) ∧ Hid (ns.length = i ∧ MadeN ns)
def ByR2 (w : World) (g kb : Nat) (An : Option Addr) (cn : Nat) (ns : List Nd) (gk : Nat) (iv : Value) (wr : World) : Prop := ∃ (i cd : Nat) (Ad : Option Addr), iv = .int .i64 i ∧ i ≤ 5 ∧ gk = 5 - i ∧ Hid (BayM w g An 6 cn ns Ad (i + 1) cd (bayD.take (i + 1)) none 0 0 [] wr) ∧ Hid (Blk wr kb 3 #[.int .i64 2, .int .i64 3, .int .i64 1, .int .i64 3, .int .i64 2])
theorem kd_at {w : World} {kb i : Nat} (h : Blk w kb 3 #[.int .i64 2, .int .i64 3, .int .i64 1, .int .i64 3, .int .i64 2]) (hi : i < 5) : w.cell? ⟨kb, i, none⟩ = some (.int .i64 (kdI i)) := by
 rw [h.cell i]
 rcases (show i = 0 ∨ i = 1 ∨ i = 2 ∨ i = 3 ∨ i = 4 by omega) with rfl | rfl | rfl | rfl | rfl <;> rfl
theorem mkbay_any (g : Nat) (w : World) (hd : DeckAt w g) : Calls Tryz.prog 11 #[.pointer (some ⟨g, 0, none⟩)] w (BayPost w g) := by
 have hlt := hd.lt
 have HB0 : Hid (BayM w g none 0 0 [] none 0 0 [] none 0 0 [] ((w.alloc (.cells #[.slice none 0 0, .slice none 0 0] 30)).alloc (.cells #[.slice none 0 0, .slice none 0 0] 30))) := by
  refine ⟨hlt, (hd.alloc _).alloc _, grown_of_below (((Below.refl _ _).alloc (Nat.le_refl _) _).alloc (by simp) _) _, (Blk.new w _ _).alloc _, ?_, World.ownsRow_nil _ _ _ _, World.ownsRow_nil _ _ _ _, World.ownsRow_nil _ _ _ _⟩
  have := Blk.new (w.alloc (.cells #[.slice none 0 0, .slice none 0 0] 30)) 30 #[.slice none 0 0, .slice none 0 0]
  rwa [World.size_alloc] at this
 clear hd
 go_enter Tryz.func11, Tryz.ntmps11
 go_upto_region 3 with (fail)
 generalize World.alloc (World.alloc w _) _ = W at *
 refine wp_loop_u1 [(4, 0), (0, 2), (0, 1), (2, 0), (22, 1), (80, 0)] 5 (6) (ByR1 w g) (by (try dsimp only [gt]); exact ⟨0, 0, none, [], rfl, by omega, rfl, HB0, rfl, fun i x h => by simp at h⟩) (by kernel_rfl) ?_
 intro u1 p5 gk wr a hrel ha J1 K1 hJ1 hK1
 dsimp only [relaxR, Go.Proofs.YtfaknfmndafllaaGreatDoor.v1, Nat.reduceAdd] at ha
 subst ha
 clear HB0
 obtain ⟨i, cn, An, ns, rfl, hi, rfl, hM, hN⟩ := hrel
 have HM := Lib.hid hM.out; have HN := Lib.hid hN.out
 clear hM hN
 have hsz := HM.out.size
 by_cases hlk : i < 6; rotate_left
 ·have q1 : decide ((i : Int) < 6) = false := by simp; omega
  obtain rfl : i = 6 := by omega
  have HK0 : Hid (Blk (wr.alloc (.cells #[.int .i64 2, .int .i64 3, .int .i64 1, .int .i64 3, .int .i64 2] 3)) wr.heap.size 3 #[.int .i64 2, .int .i64 3, .int .i64 1, .int .i64 3, .int .i64 2]) := Blk.new _ _ _
  have HM0 := Lib.hid (HM.out.alloc (.cells #[.int .i64 2, .int .i64 3, .int .i64 1, .int .i64 3, .int .i64 2] 3))
  go_upto_region 10 with (fail)
  obtain ⟨kb, hkb⟩ : ∃ kb, kb = wr.heap.size := ⟨_, rfl⟩
  rw [← hkb] at HK0 hsz ⊢
  clear hkb HM q1
  generalize World.alloc wr _ = V at *
  have b1 := HM0.out.nb.cell 1
  go_upto_region 12 with (at_builtin; go_must (refine wpList_app rfl (.tmp 35) (.tmp 37) rfl el_dev (by rfl) (HM0.out.alloc _).rd (by rfl) (Sl.newest (n := 1) rfl rfl (by decide)) (by simp [Value.oneCell']) (by omega) (by omega) (by have := HM0.out.size; simp; omega) ?_; intro A6 c6 w6 hown6 hgr6 hat6; have HM6 := Lib.hid (BayM.devs (m := 1) (xs := bayD.take 1) (HM0.out.alloc _) hown6 hgr6); have HK6 := Lib.hid (BayM.kb (HM0.out.alloc _) (HK0.out.alloc _) hgr6); have q7 := HM6.out.1.cell 1; have q8 := HM6.out.1.frozen 1; clear hown6 hgr6 hat6))
  have HM8 := Lib.hid HM6.out.2
  have HK8 := Lib.hid (HK6.out.far (p := ⟨w.heap.size + 1, 1, none⟩) (by simp; omega) (.slice A6 (0 + 1) c6))
  clear HM6 q7 q8 HM0 HK0 HK6 b1
  generalize World.setCell w6 _ _ = V8 at *
  refine wp_loop_u1 [(7, 0), (0, 2), (30, 0), (18, 1), (54, 0)] 8 (5) (ByR2 w g kb An cn ns) (by (try dsimp only [gt]); exact ⟨0, c6, A6, rfl, by omega, rfl, HM8, HK8⟩) (by kernel_rfl) ?_
  intro u1 p8 gk wr a hrel ha J1 K1 hJ1 hK1
  dsimp only [relaxR, Go.Proofs.YtfaknfmndafllaaGreatDoor.v1, Nat.reduceAdd] at ha
  subst ha
  clear HM8 HK8
  obtain ⟨i, cd, Ad, rfl, hi5, rfl, hM, hK⟩ := hrel
  have HM := Lib.hid hM.out; have HK := Lib.hid hK.out
  clear hM hK
  have hs2 := HM.out.size
  by_cases hl5 : i < 5; rotate_left
  ·have q1 : decide ((i : Int) < 5) = false := by simp; omega
   obtain rfl : i = 5 := by omega
   have b1 := HM.out.nb.cell 1
   go_upto_region 16 with (at_builtin; go_must (refine wpList_app rfl (.tmp 60) (.tmp 63) rfl el_dev (by rfl) (HM.out.alloc _).rd (by rfl) (Sl.newest (n := 2) rfl rfl (by decide)) (by simp [Value.oneCell']) (by omega) (by omega) (by have := HM.out.size; simp; omega) ?_; intro A5 c5 w7 hown7 hgr7 hat7; have HM7 := Lib.hid (BayM.devs (m := 2) (xs := [⟨⟨#[69, 50]⟩, 4, 2, -1, 0⟩, ⟨⟨#[69, 51]⟩, 4, 3, -1, 0⟩]) (HM.out.alloc _) hown7 hgr7); have q7 := HM7.out.1.cell 1; have q8 := HM7.out.1.frozen 1; clear hown7 hgr7 hat7))
   have HM8 : Hid (BayM w g An 6 cn ns A5 (5 + 1 + 2) c5 bayD none 0 0 [] (w7.setCell ⟨w.heap.size + 1, 1, none⟩ (.slice A5 (5 + 1 + 2) c5))) := HM7.out.2
   clear HM7 q7 q8 HM HK b1 q1
   generalize World.setCell w7 _ _ = V8 at *
   have HMS : Hid (BayM w g An 6 cn ns A5 (5 + 1 + 2) c5 bayD (some ⟨V8.heap.size, 0, none⟩) 8 8 [2, 2, 2, 2, 2, 2, 1, 1] (V8.alloc (.cells #[.int .i64 2, .int .i64 2, .int .i64 2, .int .i64 2, .int .i64 2, .int .i64 2, .int .i64 1, .int .i64 1] 3))) := HM8.out.fresh (s1 := [2, 2, 2, 2, 2, 2, 1, 1]) rfl (by decide)
   clear HM8
   go_upto_region 17 with (fail)
   obtain ⟨sA, hsA⟩ : ∃ sA : Option Addr, sA = some ⟨V8.heap.size, 0, none⟩ := ⟨_, rfl⟩
   rw [← hsA] at HMS ⊢
   clear hsA
   generalize World.alloc V8 _ = U at *
   go_wp2_with fail
   refine (next_any g 4 U HMS.out.deck (by decide)).mono ?_
   rintro e w4 ⟨r4, rfl, hr0, _, hr2, hd4, hg4, hs4⟩
   have hr3 : r4 < 4 := hr2.out (by omega)
   have HM4 := Lib.hid (HMS.out.next hd4.out hg4.out)
   clear hr2 hd4 hg4 hs4 HMS
   have b4 := HM4.out.nb.cell 1
   rcases (show r4 = 0 ∨ r4 = 1 ∨ r4 = 2 ∨ r4 = 3 by omega) with rfl | rfl | rfl | rfl
   ·go_upto_region 20 with (at_builtin; go_must (refine wpList_app rfl (.tmp 72) (.tmp 74) rfl el_dev (by rfl) (HM4.out.alloc _).rd (by rfl) (Sl.newest (n := 1) rfl rfl (by decide)) (by simp [Value.oneCell']) (by omega) (by omega) (by have := HM4.out.size; simp; omega) ?_; intro A9 c9 w7 hown7 hgr7 hat7; have HM7 := Lib.hid (BayM.devs (m := 1) (xs := bayE 0) (HM4.out.alloc _) hown7 hgr7); have q7 := HM7.out.1.cell 1; have q8 := HM7.out.1.frozen 1; clear hown7 hgr7 hat7))
    have HM6 := Lib.hid HM7.out.2
    clear HM7 q7 q8 HM4 b4
    generalize World.setCell w7 _ _ = V6 at *
    go_upto_region 27 with (at_builtin; go_must (refine wpList_app rfl (.tmp 77) (.tmp 78) rfl el_int (by rfl) (HM6.out.alloc _).rs (by rfl) (Sl.newest (n := 1) rfl rfl (by decide)) (by simp [Value.oneCell']) (by omega) (by omega) (by have := HM6.out.size; simp; omega) ?_; intro S9 e9 V9 hown7 hgr7 hat7; have HM9 := Lib.hid (BayM.pos (x := 2) (HM6.out.alloc _) hown7 hgr7); clear hown7 hgr7 hat7))
    have HB9 := Lib.hid (BayS.more 0 (2) rfl rfl)
    clear HM6
    have hsz9 := HM9.out.size
    go_wp2_with fail
    refine (one_any g 3 V9 HM9.out.deck (by decide)).mono ?_
    rintro e w10 ⟨r3, rfl, hd10, hg10, hs10⟩
    have HMA := Lib.hid (HM9.out.next hd10.out hg10.out)
    clear hd10 hg10 hs10 HM9
    rcases r3 with _ | _
    ·go_upto_region 29 with (fail)
     have a0 := HMA.out.nb.cell 0; have a1 := HMA.out.nb.cell 1; have d0 := HMA.out.rb.cell 0; have d1 := HMA.out.rb.cell 1; have y0 := HMA.out.rb.frozen 0; have y1 := HMA.out.rb.frozen 1
     have HF := Lib.hid (HMA.out.fin (.slice An 6 cn) (.slice A9 (5 + 1 + 2 + 1) c9))
     clear HMA
     go_wp2_with fail
     clear a0 a1 d0 d1 y0 y1
     generalize World.setCell (World.setCell w10 _ _) _ _ = z at *
     have q0 := HF.out.2.2.2.2.2.c0
     have q1 := HF.out.2.2.2.2.2.c1
     exact bodyPost_ret (v := .tuple #[.agg #[.slice An 6 cn, .slice A9 (5 + 1 + 2 + 1) c9], .slice S9 (5 + 1 + 2 + 1) e9]) (by simp [results, Tryz.results11, go_sem, q0, q1]) rfl ⟨An, cn, ns, A9, (5 + 1 + 2 + 1), c9, _, S9, e9, _, rfl, HF.out.1, HF.out.2.1, HF.out.2.2.1, HF.out.2.2.2.1, HF.out.2.2.2.2.1, ⟨HN.out.1, HN.out.2, HB9.out.1, HB9.out.2.1, HB9.out.2.2⟩⟩
    go_upto_region 28 with (fail)
    go_wp2_with fail
    refine (next_any g 5 w10 HMA.out.deck (by decide)).mono ?_
    rintro e w11 ⟨q5, rfl, hq0, _, hq2, hd11, hg11, hs11⟩
    have hq3 : q5 < 5 := hq2.out (by omega)
    have HMB := Lib.hid (HMA.out.next hd11.out hg11.out)
    clear hq2 hd11 hg11 hs11 HMA
    obtain ⟨q5, rfl⟩ := Int.eq_ofNat_of_zero_le hq0
    obtain ⟨sb, sy, rfl, hsb, y7, y8, HMC⟩ := HMB.out.put (i := 1 + q5) 1 (by omega)
    have HMA := Lib.hid HMC
    have HB9 := Lib.hid (HB9.out.set (1 + q5))
    clear HMC HMB
    have hw : IntKind.i64.wrap (1 + (q5 : Int)) = ((1 + q5 : Nat) : Int) := by rw [IntWalk.i64_in _ (by omega)]; omega
    have hj1 : ((1 + q5 : Nat) : Int) < 8 := by omega
    have hj2 : ((1 + q5 : Nat) : Int) < 9 := by omega
    have hj3 : 1 + q5 < 9 := by omega
    have hj4 : 1 + q5 < 8 := by omega
    go_upto_region 29 with (fail)
    clear y7 y8 hj1 hj2 hj3 hj4 hw
    generalize World.setCell w11 _ _ = w12 at *
    have a0 := HMA.out.nb.cell 0; have a1 := HMA.out.nb.cell 1; have d0 := HMA.out.rb.cell 0; have d1 := HMA.out.rb.cell 1; have y0 := HMA.out.rb.frozen 0; have y1 := HMA.out.rb.frozen 1
    have HF := Lib.hid (HMA.out.fin (.slice An 6 cn) (.slice A9 (5 + 1 + 2 + 1) c9))
    clear HMA
    go_wp2_with fail
    clear a0 a1 d0 d1 y0 y1
    generalize World.setCell (World.setCell w12 _ _) _ _ = z at *
    have q0 := HF.out.2.2.2.2.2.c0
    have q1 := HF.out.2.2.2.2.2.c1
    exact bodyPost_ret (v := .tuple #[.agg #[.slice An 6 cn, .slice A9 (5 + 1 + 2 + 1) c9], .slice (some ⟨sb, 0, none⟩) (5 + 1 + 2 + 1) e9]) (by simp [results, Tryz.results11, go_sem, q0, q1]) rfl ⟨An, cn, ns, A9, (5 + 1 + 2 + 1), c9, _, (some ⟨sb, 0, none⟩), e9, _, rfl, HF.out.1, HF.out.2.1, HF.out.2.2.1, HF.out.2.2.2.1, HF.out.2.2.2.2.1, ⟨HN.out.1, HN.out.2, HB9.out.1, HB9.out.2.1, HB9.out.2.2⟩⟩
   ·go_upto_region 23 with (at_builtin; go_must (refine wpList_app rfl (.tmp 83) (.tmp 85) rfl el_dev (by rfl) (HM4.out.alloc _).rd (by rfl) (Sl.newest (n := 1) rfl rfl (by decide)) (by simp [Value.oneCell']) (by omega) (by omega) (by have := HM4.out.size; simp; omega) ?_; intro A9 c9 w7 hown7 hgr7 hat7; have HM7 := Lib.hid (BayM.devs (m := 1) (xs := bayE 1) (HM4.out.alloc _) hown7 hgr7); have q7 := HM7.out.1.cell 1; have q8 := HM7.out.1.frozen 1; clear hown7 hgr7 hat7))
    have HM6 := Lib.hid HM7.out.2
    clear HM7 q7 q8 HM4 b4
    generalize World.setCell w7 _ _ = V6 at *
    go_wp2_with fail
    refine (next_any g 2 V6 HM6.out.deck (by decide)).mono ?_
    rintro e w5 ⟨q2, rfl, hp0, _, hp2, hd5, hg5, hs5⟩
    have hp3 : q2 < 2 := hp2.out (by omega)
    have HM6 := Lib.hid (HM6.out.next hd5.out hg5.out)
    clear hp2 hd5 hg5 hs5
    have hw2 : IntKind.i64.wrap (1 + q2) = 1 + q2 := IntWalk.i64_in _ (by omega)
    go_upto_region 27 with (at_builtin; go_must (refine wpList_app rfl (.tmp 88) (.tmp 92) rfl el_int (by rfl) (HM6.out.alloc _).rs (by rfl) (Sl.newest (n := 1) rfl rfl (by decide)) (by simp [Value.oneCell']) (by omega) (by omega) (by have := HM6.out.size; simp; omega) ?_; intro S9 e9 V9 hown7 hgr7 hat7; have HM9 := Lib.hid (BayM.pos (x := 1 + q2) (HM6.out.alloc _) hown7 hgr7); clear hown7 hgr7 hat7))
    have HB9 := Lib.hid (BayS.more 1 (1 + q2) rfl (by unfold posB; rcases (show q2 = 0 ∨ q2 = 1 by omega) with rfl | rfl <;> rfl))
    clear HM6
    have hsz9 := HM9.out.size
    go_wp2_with fail
    refine (one_any g 3 V9 HM9.out.deck (by decide)).mono ?_
    rintro e w10 ⟨r3, rfl, hd10, hg10, hs10⟩
    have HMA := Lib.hid (HM9.out.next hd10.out hg10.out)
    clear hd10 hg10 hs10 HM9
    rcases r3 with _ | _
    ·go_upto_region 29 with (fail)
     have a0 := HMA.out.nb.cell 0; have a1 := HMA.out.nb.cell 1; have d0 := HMA.out.rb.cell 0; have d1 := HMA.out.rb.cell 1; have y0 := HMA.out.rb.frozen 0; have y1 := HMA.out.rb.frozen 1
     have HF := Lib.hid (HMA.out.fin (.slice An 6 cn) (.slice A9 (5 + 1 + 2 + 1) c9))
     clear HMA
     go_wp2_with fail
     clear a0 a1 d0 d1 y0 y1
     generalize World.setCell (World.setCell w10 _ _) _ _ = z at *
     have q0 := HF.out.2.2.2.2.2.c0
     have q1 := HF.out.2.2.2.2.2.c1
     exact bodyPost_ret (v := .tuple #[.agg #[.slice An 6 cn, .slice A9 (5 + 1 + 2 + 1) c9], .slice S9 (5 + 1 + 2 + 1) e9]) (by simp [results, Tryz.results11, go_sem, q0, q1]) rfl ⟨An, cn, ns, A9, (5 + 1 + 2 + 1), c9, _, S9, e9, _, rfl, HF.out.1, HF.out.2.1, HF.out.2.2.1, HF.out.2.2.2.1, HF.out.2.2.2.2.1, ⟨HN.out.1, HN.out.2, HB9.out.1, HB9.out.2.1, HB9.out.2.2⟩⟩
    go_upto_region 28 with (fail)
    go_wp2_with fail
    refine (next_any g 5 w10 HMA.out.deck (by decide)).mono ?_
    rintro e w11 ⟨q5, rfl, hq0, _, hq2, hd11, hg11, hs11⟩
    have hq3 : q5 < 5 := hq2.out (by omega)
    have HMB := Lib.hid (HMA.out.next hd11.out hg11.out)
    clear hq2 hd11 hg11 hs11 HMA
    obtain ⟨q5, rfl⟩ := Int.eq_ofNat_of_zero_le hq0
    obtain ⟨sb, sy, rfl, hsb, y7, y8, HMC⟩ := HMB.out.put (i := 1 + q5) 1 (by omega)
    have HMA := Lib.hid HMC
    have HB9 := Lib.hid (HB9.out.set (1 + q5))
    clear HMC HMB
    have hw : IntKind.i64.wrap (1 + (q5 : Int)) = ((1 + q5 : Nat) : Int) := by rw [IntWalk.i64_in _ (by omega)]; omega
    have hj1 : ((1 + q5 : Nat) : Int) < 8 := by omega
    have hj2 : ((1 + q5 : Nat) : Int) < 9 := by omega
    have hj3 : 1 + q5 < 9 := by omega
    have hj4 : 1 + q5 < 8 := by omega
    go_upto_region 29 with (fail)
    clear y7 y8 hj1 hj2 hj3 hj4 hw
    generalize World.setCell w11 _ _ = w12 at *
    have a0 := HMA.out.nb.cell 0; have a1 := HMA.out.nb.cell 1; have d0 := HMA.out.rb.cell 0; have d1 := HMA.out.rb.cell 1; have y0 := HMA.out.rb.frozen 0; have y1 := HMA.out.rb.frozen 1
    have HF := Lib.hid (HMA.out.fin (.slice An 6 cn) (.slice A9 (5 + 1 + 2 + 1) c9))
    clear HMA
    go_wp2_with fail
    clear a0 a1 d0 d1 y0 y1
    generalize World.setCell (World.setCell w12 _ _) _ _ = z at *
    have q0 := HF.out.2.2.2.2.2.c0
    have q1 := HF.out.2.2.2.2.2.c1
    exact bodyPost_ret (v := .tuple #[.agg #[.slice An 6 cn, .slice A9 (5 + 1 + 2 + 1) c9], .slice (some ⟨sb, 0, none⟩) (5 + 1 + 2 + 1) e9]) (by simp [results, Tryz.results11, go_sem, q0, q1]) rfl ⟨An, cn, ns, A9, (5 + 1 + 2 + 1), c9, _, (some ⟨sb, 0, none⟩), e9, _, rfl, HF.out.1, HF.out.2.1, HF.out.2.2.1, HF.out.2.2.2.1, HF.out.2.2.2.2.1, ⟨HN.out.1, HN.out.2, HB9.out.1, HB9.out.2.1, HB9.out.2.2⟩⟩
   ·go_upto_region 26 with (at_builtin; go_must (refine wpList_app rfl (.tmp 97) (.tmp 99) rfl el_dev (by rfl) (HM4.out.alloc _).rd (by rfl) (Sl.newest (n := 1) rfl rfl (by decide)) (by simp [Value.oneCell']) (by omega) (by omega) (by have := HM4.out.size; simp; omega) ?_; intro A9 c9 w7 hown7 hgr7 hat7; have HM7 := Lib.hid (BayM.devs (m := 1) (xs := bayE 2) (HM4.out.alloc _) hown7 hgr7); have q7 := HM7.out.1.cell 1; have q8 := HM7.out.1.frozen 1; clear hown7 hgr7 hat7))
    have HM6 := Lib.hid HM7.out.2
    clear HM7 q7 q8 HM4 b4
    generalize World.setCell w7 _ _ = V6 at *
    go_upto_region 27 with (at_builtin; go_must (refine wpList_app rfl (.tmp 102) (.tmp 103) rfl el_int (by rfl) (HM6.out.alloc _).rs (by rfl) (Sl.newest (n := 1) rfl rfl (by decide)) (by simp [Value.oneCell']) (by omega) (by omega) (by have := HM6.out.size; simp; omega) ?_; intro S9 e9 V9 hown7 hgr7 hat7; have HM9 := Lib.hid (BayM.pos (x := 1) (HM6.out.alloc _) hown7 hgr7); clear hown7 hgr7 hat7))
    have HB9 := Lib.hid (BayS.more 2 (1) rfl rfl)
    clear HM6
    have hsz9 := HM9.out.size
    go_wp2_with fail
    refine (one_any g 3 V9 HM9.out.deck (by decide)).mono ?_
    rintro e w10 ⟨r3, rfl, hd10, hg10, hs10⟩
    have HMA := Lib.hid (HM9.out.next hd10.out hg10.out)
    clear hd10 hg10 hs10 HM9
    rcases r3 with _ | _
    ·go_upto_region 29 with (fail)
     have a0 := HMA.out.nb.cell 0; have a1 := HMA.out.nb.cell 1; have d0 := HMA.out.rb.cell 0; have d1 := HMA.out.rb.cell 1; have y0 := HMA.out.rb.frozen 0; have y1 := HMA.out.rb.frozen 1
     have HF := Lib.hid (HMA.out.fin (.slice An 6 cn) (.slice A9 (5 + 1 + 2 + 1) c9))
     clear HMA
     go_wp2_with fail
     clear a0 a1 d0 d1 y0 y1
     generalize World.setCell (World.setCell w10 _ _) _ _ = z at *
     have q0 := HF.out.2.2.2.2.2.c0
     have q1 := HF.out.2.2.2.2.2.c1
     exact bodyPost_ret (v := .tuple #[.agg #[.slice An 6 cn, .slice A9 (5 + 1 + 2 + 1) c9], .slice S9 (5 + 1 + 2 + 1) e9]) (by simp [results, Tryz.results11, go_sem, q0, q1]) rfl ⟨An, cn, ns, A9, (5 + 1 + 2 + 1), c9, _, S9, e9, _, rfl, HF.out.1, HF.out.2.1, HF.out.2.2.1, HF.out.2.2.2.1, HF.out.2.2.2.2.1, ⟨HN.out.1, HN.out.2, HB9.out.1, HB9.out.2.1, HB9.out.2.2⟩⟩
    go_upto_region 28 with (fail)
    go_wp2_with fail
    refine (next_any g 5 w10 HMA.out.deck (by decide)).mono ?_
    rintro e w11 ⟨q5, rfl, hq0, _, hq2, hd11, hg11, hs11⟩
    have hq3 : q5 < 5 := hq2.out (by omega)
    have HMB := Lib.hid (HMA.out.next hd11.out hg11.out)
    clear hq2 hd11 hg11 hs11 HMA
    obtain ⟨q5, rfl⟩ := Int.eq_ofNat_of_zero_le hq0
    obtain ⟨sb, sy, rfl, hsb, y7, y8, HMC⟩ := HMB.out.put (i := 1 + q5) 1 (by omega)
    have HMA := Lib.hid HMC
    have HB9 := Lib.hid (HB9.out.set (1 + q5))
    clear HMC HMB
    have hw : IntKind.i64.wrap (1 + (q5 : Int)) = ((1 + q5 : Nat) : Int) := by rw [IntWalk.i64_in _ (by omega)]; omega
    have hj1 : ((1 + q5 : Nat) : Int) < 8 := by omega
    have hj2 : ((1 + q5 : Nat) : Int) < 9 := by omega
    have hj3 : 1 + q5 < 9 := by omega
    have hj4 : 1 + q5 < 8 := by omega
    go_upto_region 29 with (fail)
    clear y7 y8 hj1 hj2 hj3 hj4 hw
    generalize World.setCell w11 _ _ = w12 at *
    have a0 := HMA.out.nb.cell 0; have a1 := HMA.out.nb.cell 1; have d0 := HMA.out.rb.cell 0; have d1 := HMA.out.rb.cell 1; have y0 := HMA.out.rb.frozen 0; have y1 := HMA.out.rb.frozen 1
    have HF := Lib.hid (HMA.out.fin (.slice An 6 cn) (.slice A9 (5 + 1 + 2 + 1) c9))
    clear HMA
    go_wp2_with fail
    clear a0 a1 d0 d1 y0 y1
    generalize World.setCell (World.setCell w12 _ _) _ _ = z at *
    have q0 := HF.out.2.2.2.2.2.c0
    have q1 := HF.out.2.2.2.2.2.c1
    exact bodyPost_ret (v := .tuple #[.agg #[.slice An 6 cn, .slice A9 (5 + 1 + 2 + 1) c9], .slice (some ⟨sb, 0, none⟩) (5 + 1 + 2 + 1) e9]) (by simp [results, Tryz.results11, go_sem, q0, q1]) rfl ⟨An, cn, ns, A9, (5 + 1 + 2 + 1), c9, _, (some ⟨sb, 0, none⟩), e9, _, rfl, HF.out.1, HF.out.2.1, HF.out.2.2.1, HF.out.2.2.2.1, HF.out.2.2.2.2.1, ⟨HN.out.1, HN.out.2, HB9.out.1, HB9.out.2.1, HB9.out.2.2⟩⟩
   ·go_upto_region 27 with (fail)
    obtain ⟨V9, hV9⟩ : ∃ V9, V9 = w4 := ⟨_, rfl⟩
    subst hV9
    have HM9 : Hid (BayM w g An 6 cn ns A5 (5 + 1 + 2) c5 (bayD ++ bayE 3) sA 8 8 [2, 2, 2, 2, 2, 2, 1, 1] V9) := HM4.out
    have HB9 := Lib.hid BayS.base
    clear HM4 b4
    have hsz9 := HM9.out.size
    go_wp2_with fail
    refine (one_any g 3 V9 HM9.out.deck (by decide)).mono ?_
    rintro e w10 ⟨r3, rfl, hd10, hg10, hs10⟩
    have HMA := Lib.hid (HM9.out.next hd10.out hg10.out)
    clear hd10 hg10 hs10 HM9
    rcases r3 with _ | _
    ·go_upto_region 29 with (fail)
     have a0 := HMA.out.nb.cell 0; have a1 := HMA.out.nb.cell 1; have d0 := HMA.out.rb.cell 0; have d1 := HMA.out.rb.cell 1; have y0 := HMA.out.rb.frozen 0; have y1 := HMA.out.rb.frozen 1
     have HF := Lib.hid (HMA.out.fin (.slice An 6 cn) (.slice A5 (5 + 1 + 2) c5))
     clear HMA
     go_wp2_with fail
     clear a0 a1 d0 d1 y0 y1
     generalize World.setCell (World.setCell w10 _ _) _ _ = z at *
     have q0 := HF.out.2.2.2.2.2.c0
     have q1 := HF.out.2.2.2.2.2.c1
     exact bodyPost_ret (v := .tuple #[.agg #[.slice An 6 cn, .slice A5 (5 + 1 + 2) c5], .slice sA (5 + 1 + 2) 8]) (by simp [results, Tryz.results11, go_sem, q0, q1]) rfl ⟨An, cn, ns, A5, (5 + 1 + 2), c5, _, sA, 8, _, rfl, HF.out.1, HF.out.2.1, HF.out.2.2.1, HF.out.2.2.2.1, HF.out.2.2.2.2.1, ⟨HN.out.1, HN.out.2, HB9.out.1, HB9.out.2.1, HB9.out.2.2⟩⟩
    go_upto_region 28 with (fail)
    go_wp2_with fail
    refine (next_any g 5 w10 HMA.out.deck (by decide)).mono ?_
    rintro e w11 ⟨q5, rfl, hq0, _, hq2, hd11, hg11, hs11⟩
    have hq3 : q5 < 5 := hq2.out (by omega)
    have HMB := Lib.hid (HMA.out.next hd11.out hg11.out)
    clear hq2 hd11 hg11 hs11 HMA
    obtain ⟨q5, rfl⟩ := Int.eq_ofNat_of_zero_le hq0
    obtain ⟨sb, sy, rfl, hsb, y7, y8, HMC⟩ := HMB.out.put (i := 1 + q5) 1 (by omega)
    have HMA := Lib.hid HMC
    have HB9 := Lib.hid (HB9.out.set (1 + q5))
    clear HMC HMB
    have hw : IntKind.i64.wrap (1 + (q5 : Int)) = ((1 + q5 : Nat) : Int) := by rw [IntWalk.i64_in _ (by omega)]; omega
    have hj1 : ((1 + q5 : Nat) : Int) < 8 := by omega
    have hj2 : ((1 + q5 : Nat) : Int) < 9 := by omega
    have hj3 : 1 + q5 < 9 := by omega
    have hj4 : 1 + q5 < 8 := by omega
    go_upto_region 29 with (fail)
    clear y7 y8 hj1 hj2 hj3 hj4 hw
    generalize World.setCell w11 _ _ = w12 at *
    have a0 := HMA.out.nb.cell 0; have a1 := HMA.out.nb.cell 1; have d0 := HMA.out.rb.cell 0; have d1 := HMA.out.rb.cell 1; have y0 := HMA.out.rb.frozen 0; have y1 := HMA.out.rb.frozen 1
    have HF := Lib.hid (HMA.out.fin (.slice An 6 cn) (.slice A5 (5 + 1 + 2) c5))
    clear HMA
    go_wp2_with fail
    clear a0 a1 d0 d1 y0 y1
    generalize World.setCell (World.setCell w12 _ _) _ _ = z at *
    have q0 := HF.out.2.2.2.2.2.c0
    have q1 := HF.out.2.2.2.2.2.c1
    exact bodyPost_ret (v := .tuple #[.agg #[.slice An 6 cn, .slice A5 (5 + 1 + 2) c5], .slice (some ⟨sb, 0, none⟩) (5 + 1 + 2) 8]) (by simp [results, Tryz.results11, go_sem, q0, q1]) rfl ⟨An, cn, ns, A5, (5 + 1 + 2), c5, _, (some ⟨sb, 0, none⟩), 8, _, rfl, HF.out.1, HF.out.2.1, HF.out.2.2.1, HF.out.2.2.2.1, HF.out.2.2.2.2.1, ⟨HN.out.1, HN.out.2, HB9.out.1, HB9.out.2.1, HB9.out.2.2⟩⟩
  have q1 : decide ((i : Int) < 5) = true := by simp; omega
  have hii : IntKind.i64.wrap ((i : Int) + 1) = (i : Int) + 1 := IntWalk.i64_in _ (by omega)
  go_upto_region 14 with (fail)
  clear q1
  have hkl := HK.out.lt
  have hi6 : (i : Int) < 5 := by omega
  have hi7 : ((i : Nat) : Int) < ((5 : Nat) : Int) := by omega
  refine wp_region_J (S := fun W' => W'.cell? ⟨w.heap.size + 1, 1, none⟩ = some (.slice Ad (i + 1) cd) ∧ W'.cell? ⟨kb, i, none⟩ = some (.int .i64 (kdI i))) (J := [15]) (by kernel_rfl) ?_ (fun hHeld => ?_)
  ·exact ⟨HM.out.nb.cell 1, kd_at HK.out hl5⟩
  try dsimp only at hHeld
  refine tk 0 44 (mf 16 1) hHeld ?_
  refine wpAnyJ_takeL (i := 1) (d := some 45) (v := ?_) (mf 16 2) (by kernel_rfl) rfl rfl (by kernel_rfl) (by kernel_rfl) (by kernel_rfl) (by kernel_rfl) (by kernel_rfl) (fun _ _ _ h => h) (Or.inl ⟨by rfl, ?_⟩) hHeld ?_
  rotate_left
  ·(intro w hSw; (try dsimp only at hSw); have u0 := hSw.1; go_simp; try with_reducible rfl)
  try simp only [Act.put, sA, sB, sC]
  refine tk 2 46 (mf 16 3) hHeld ?_
  refine tk 4 48 #[tt, tt, tt, ff, tt, ff, ff, ff, ff, ff, ff, ff, ff, ff, ff, ff] hHeld ?_
  refine tk 5 49 #[tt, tt, tt, ff, tt, tt, ff, ff, ff, ff, ff, ff, ff, ff, ff, ff] hHeld ?_
  refine tk 6 50 #[tt, tt, tt, ff, tt, tt, tt, ff, ff, ff, ff, ff, ff, ff, ff, ff] hHeld ?_
  refine wpAnyJ_takeL (i := 7) (d := some 51) (v := ?_) #[tt, tt, tt, ff, tt, tt, tt, tt, ff, ff, ff, ff, ff, ff, ff, ff] (by kernel_rfl) rfl rfl (by kernel_rfl) (by kernel_rfl) (by kernel_rfl) (by kernel_rfl) (by kernel_rfl) (fun _ _ _ h => h) (Or.inl ⟨by rfl, ?_⟩) hHeld ?_
  rotate_left
  ·(intro w hSw; (try dsimp only at hSw); have u0 := hSw.2; go_simp; try with_reducible rfl)
  try simp only [Act.put, sA, sB, sC]
  refine tk 8 52 #[tt, tt, tt, ff, tt, tt, tt, tt, tt, ff, ff, ff, ff, ff, ff, ff] hHeld ?_
  refine tk 9 53 #[tt, tt, tt, ff, tt, tt, tt, tt, tt, tt, ff, ff, ff, ff, ff, ff] hHeld ?_
  refine tk 10 54 #[tt, tt, tt, ff, tt, tt, tt, tt, tt, tt, tt, ff, ff, ff, ff, ff] hHeld ?_
  refine wpAnyJ_oneL (k := 3) (mf 16 11) (by kernel_rfl) (by kernel_rfl) rfl (fun K hK => ?_)
  (go_simp; refine (mkname_any ⟨#[88]⟩ i wr.drew (by decide) (by omega)).mono ?_; rintro e w3 ⟨rfl, hb3⟩; have HM3 := Lib.hid (HM.out.later ((Below.refl _ wr).drew.trans hb3)); have HK3 := Lib.hid (HK.out.below ((Below.refl _ wr).drew.trans hb3) HK.out.lt); clear hb3; go_simp)
  refine hK.out _ _ (fun _ => ?_) (fun hHeld' => ?_)
  ·exact ⟨HM3.out.nb.cell 1, kd_at HK3.out hl5⟩
  replace hHeld := hHeld' rfl
  clear hHeld' hK K
  try dsimp only at hHeld
  refine tk 11 55 (mf 16 12) hHeld ?_
  refine wpAnyJ_oneL (k := 12) (mf 16 13) (by kernel_rfl) (by kernel_rfl) rfl (fun K hK => ?_)
  go_simp
  refine hK.out _ _ (fun _ => ?_) (fun hHeld' => ?_)
  ·exact ⟨(HM3.out.alloc _).nb.cell 1, kd_at (HK3.out.alloc _) hl5⟩
  replace hHeld := hHeld' rfl
  clear hHeld' hK K
  try dsimp only at hHeld
  refine wpAnyJ_oneL (k := 13) (mf 16 14) (by kernel_rfl) (by kernel_rfl) rfl (fun K hK => ?_)
  (refine step_app_d (d := some 57) (by rfl) (by rfl) (.tmp 45) (.tmp 56) (by rfl) el_dev (by rfl) (HM3.out.alloc _).rd (by rfl) (Sl.newest (n := 1) rfl rfl (by decide)) (by simp [Value.oneCell']) (by omega) (by omega) (by have := HM3.out.size; simp; omega) ?_; intro A6 c6 w6 hown6 hgr6 hat6; have HM6 := Lib.hid (BayM.devs (m := 1) (xs := [bayX i]) (HM3.out.alloc _) hown6 hgr6); have HK6 := Lib.hid (BayM.kb (HM3.out.alloc _) (HK3.out.alloc _) hgr6); have q7 := HM6.out.1.cell 1; have q8 := HM6.out.1.frozen 1; clear hown6 hgr6 hat6)
  refine hK.out _ _ (fun _ => ?_) (fun hHeld' => ?_)
  ·exact ⟨HM6.out.1.cell 1, kd_at HK6.out hl5⟩
  replace hHeld := hHeld' rfl
  clear hHeld' hK K
  try dsimp only at hHeld
  refine tk 14 58 (mf 16 15) hHeld ?_
  refine wpAnyJ_oneL (k := 15) (mf 16 16) (by kernel_rfl) (by kernel_rfl) rfl (fun K hK => ?_)
  go_simp
  refine hK.out _ _ (fun h => by cases h) (fun _ => ?_)
  try clear hHeld
  clear hK K
  refine wpAnyJ_done (by kernel_rfl) ?_ _
  have HM8 := Lib.hid HM6.out.2
  have HK8 := Lib.hid (HK6.out.far (p := ⟨w.heap.size + 1, 1, none⟩) (by simp; omega) (.slice A6 (i + 1 + 1) c6))
  rw [← bayD_next hl5] at HM8
  clear HM6 q7 q8 HM HK HK6
  generalize World.setCell w6 _ _ = w8 at *
  go_wp2_with fail
  refine Handed.intro (5 - (i + 1)) (by omega) (hJ1 _ _ _ (LpI1.back 8 ?_ (by kernel_rfl)))
  dsimp only [gt]
  exact ⟨i + 1, c6, A6, by go_num, by omega, rfl, HM8, HK8⟩
 have q1 : decide ((i : Int) < 6) = true := by simp; omega
 have hii : IntKind.i64.wrap ((i : Int) + 1) = (i : Int) + 1 := IntWalk.i64_in _ (by omega)
 go_wp2_with fail
 refine (mkname_any ⟨#[78]⟩ i wr (by decide) (by omega)).mono ?_
 rintro e w1 ⟨rfl, hb1⟩
 have HX : Hid (Blk (w1.alloc (.cells #[.string (mkS (nm2 (toL ⟨#[78]⟩) i)), .int .i64 0, .int .i64 0] 80)) w1.heap.size 80 #[.string (mkS (nm2 (toL ⟨#[78]⟩) i)), .int .i64 0, .int .i64 0]) := Blk.new _ _ _
 have HM1 := Lib.hid ((HM.out.later hb1).alloc (.cells #[.string (mkS (nm2 (toL ⟨#[78]⟩) i)), .int .i64 0, .int .i64 0] 80))
 have hx : w.heap.size + 2 ≤ w1.heap.size := Nat.le_trans hsz hb1.size
 have HNX1 : (Value.slice An i cn).ownBlock ≠ some w1.heap.size := fun e => by have := (HM.out.rn.lt _ e).2; have := hb1.size; omega
 clear hb1 HM
 go_upto_region 6 with (fail)
 obtain ⟨x, hxx⟩ : ∃ x, x = w1.heap.size := ⟨_, rfl⟩
 rw [← hxx] at HX hx HNX1 ⊢
 clear hxx
 generalize World.alloc w1 _ = V at *
 have HNX : Hid ((Value.slice An i cn).ownBlock ≠ some x) := HNX1
 clear HNX1
 by_cases h0 : 0 < i; rotate_left
 ·have q2 : decide ((i : Int) > 0) = false := by simp; omega
  have q3 : decide (0 < (i : Int)) = false := by simp; omega
  have HC := Lib.hid (ndOk_mk i 0 0 ⟨by omega, by omega⟩ ⟨by omega, by omega⟩)
  have HM7 := Lib.hid HM1.out; have HX7 := Lib.hid HX.out
  clear HM1 HX
  go_upto_region 8 with (fail)
  clear q2 q3
  have e0 := HX7.out.cell 0; have e1 := HX7.out.cell 1; have e2 := HX7.out.cell 2
  have b0 := HM7.out.nb.cell 0
  go_upto_region 4 with (at_builtin; go_must (refine wpList_app rfl (.tmp 28) (.tmp 30) rfl el_node (by rfl) (HM7.out.alloc _).rn (by rfl) (Sl.newest (n := 1) rfl rfl (by decide)) (by simp [Value.oneCell']) (by omega) (by omega) (by have := HM7.out.size; simp; omega) ?_; intro A6 c6 w6 hown6 hgr6 hat6; have HM6 := Lib.hid (BayM.node (x := ⟨mkS (nm2 (toL ⟨#[78]⟩) i), 0, 0⟩) (HM7.out.alloc _) hown6 hgr6); have q7 := HM6.out.1.cell 0; have q8 := HM6.out.1.frozen 0; clear hown6 hgr6 hat6))
  have HM8 := Lib.hid HM6.out.2
  have HN8 := Lib.hid (made_more HN.out HC.out)
  clear HM6 q7 q8 HM7 HX7 e0 e1 e2 b0
  generalize World.setCell w6 _ _ = w8 at *
  go_wp2_with fail
  refine Handed.intro (6 - (i + 1)) (by omega) (hJ1 _ _ _ (LpI1.back 5 ?_ (by kernel_rfl)))
  dsimp only [gt]
  exact ⟨i + 1, c6, A6, _, by go_num, by omega, rfl, HM8, HN8⟩
 have q2 : decide ((i : Int) > 0) = true := by simp; omega
 have q3 : decide (0 < (i : Int)) = true := by simp; omega
 go_wp2_with fail
 refine (one_any g 2 V HM1.out.deck (by decide)).mono ?_
 rintro e w2 ⟨r, rfl, hd2, hg2, hs2⟩
 have HM2 := Lib.hid (HM1.out.next hd2.out hg2.out)
 have HX2 := Lib.hid (HX.out.grown hg2.out (fun e => by injection e with e; omega))
 clear hd2 hg2 hs2 HM1 HX
 rcases r with _ | _
 ·have HC := Lib.hid (ndOk_mk i 0 0 ⟨by omega, by omega⟩ ⟨by omega, by omega⟩)
  have HM7 := Lib.hid HM2.out; have HX7 := Lib.hid HX2.out
  clear HM2 HX2
  go_upto_region 8 with (fail)
  clear q2 q3
  have e0 := HX7.out.cell 0; have e1 := HX7.out.cell 1; have e2 := HX7.out.cell 2
  have b0 := HM7.out.nb.cell 0
  go_upto_region 4 with (at_builtin; go_must (refine wpList_app rfl (.tmp 28) (.tmp 30) rfl el_node (by rfl) (HM7.out.alloc _).rn (by rfl) (Sl.newest (n := 1) rfl rfl (by decide)) (by simp [Value.oneCell']) (by omega) (by omega) (by have := HM7.out.size; simp; omega) ?_; intro A6 c6 w6 hown6 hgr6 hat6; have HM6 := Lib.hid (BayM.node (x := ⟨mkS (nm2 (toL ⟨#[78]⟩) i), 0, 0⟩) (HM7.out.alloc _) hown6 hgr6); have q7 := HM6.out.1.cell 0; have q8 := HM6.out.1.frozen 0; clear hown6 hgr6 hat6))
  have HM8 := Lib.hid HM6.out.2
  have HN8 := Lib.hid (made_more HN.out HC.out)
  clear HM6 q7 q8 HM7 HX7 e0 e1 e2 b0
  generalize World.setCell w6 _ _ = w8 at *
  go_wp2_with fail
  refine Handed.intro (6 - (i + 1)) (by omega) (hJ1 _ _ _ (LpI1.back 5 ?_ (by kernel_rfl)))
  dsimp only [gt]
  exact ⟨i + 1, c6, A6, _, by go_num, by omega, rfl, HM8, HN8⟩
 go_upto_region 7 with (fail)
 go_wp2_with fail
 refine (next_any g 20 w2 HM2.out.deck (by decide)).mono ?_
 rintro e w3 ⟨q, rfl, hq0, _, hq2, hd3, hg3, hs3⟩
 have hq3 : q < 20 := hq2.out (by omega)
 have HM3 := Lib.hid (HM2.out.next hd3.out hg3.out)
 have HX3 := Lib.hid (HX2.out.grown hg3.out (fun e => by injection e with e; omega))
 have HC := Lib.hid (ndOk_mk i (1 + q) 0 ⟨by omega, by omega⟩ ⟨by omega, by omega⟩)
 have hw : IntKind.i64.wrap (1 + q) = 1 + q := IntWalk.i64_in _ (by omega)
 have HM7 : Hid (BayM w g An i cn ns none 0 0 [] none 0 0 [] (w3.setCell ⟨x, 1, none⟩ (.int .i64 (1 + q)))) := HM3.out.far hx HX3.out (.inr HNX.out) (by decide) (by decide)
 have HX7 : Hid (Blk (w3.setCell ⟨x, 1, none⟩ (.int .i64 (1 + q))) x 80 #[.string (mkS (nm2 (toL ⟨#[78]⟩) i)), .int .i64 (1 + q), .int .i64 0]) := HX3.out.set 1 _
 have y1 := HX3.out.frozen 1; have y2 := HX3.out.cell 1
 clear hq2 hd3 hg3 hs3 HM2 HX2 HM3 HX3 q2 q3
 go_upto_region 8 with (fail)
 clear y1 y2
 generalize World.setCell w3 _ _ = V3 at *
 have e0 := HX7.out.cell 0; have e1 := HX7.out.cell 1; have e2 := HX7.out.cell 2
 have b0 := HM7.out.nb.cell 0
 go_upto_region 4 with (at_builtin; go_must (refine wpList_app rfl (.tmp 28) (.tmp 30) rfl el_node (by rfl) (HM7.out.alloc _).rn (by rfl) (Sl.newest (n := 1) rfl rfl (by decide)) (by simp [Value.oneCell']) (by omega) (by omega) (by have := HM7.out.size; simp; omega) ?_; intro A6 c6 w6 hown6 hgr6 hat6; have HM6 := Lib.hid (BayM.node (x := ⟨mkS (nm2 (toL ⟨#[78]⟩) i), 1 + q, 0⟩) (HM7.out.alloc _) hown6 hgr6); have q7 := HM6.out.1.cell 0; have q8 := HM6.out.1.frozen 0; clear hown6 hgr6 hat6))
 have HM8 := Lib.hid HM6.out.2
 have HN8 := Lib.hid (made_more HN.out HC.out)
 clear HM6 q7 q8 HM7 HX7 e0 e1 e2 b0
 generalize World.setCell w6 _ _ = w8 at *
 go_wp2_with fail
 refine Handed.intro (6 - (i + 1)) (by omega) (hJ1 _ _ _ (LpI1.back 5 ?_ (by kernel_rfl)))
 dsimp only [gt]
 exact ⟨i + 1, c6, A6, _, by go_num, by omega, rfl, HM8, HN8⟩
end Go.Proofs.YtfaknfmndafllaaGreatDoor
