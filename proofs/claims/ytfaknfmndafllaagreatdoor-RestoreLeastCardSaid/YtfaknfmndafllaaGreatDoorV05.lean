import Derived.Deep.QuietTactic
import Derived.BigQuiet
import Derived.Test.YtfaknfmndafllaaGreatDoorV04
import Derived.Test.YtfaknfmndafllaaGreatDoorV03
import Derived.Test.YtfaknfmndafllaaGreatDoorV00
import Derived.Test.YtfaknfmndafllaaGreatDoorProg
import Derived.Outline
import Derived.Laws.Pointers
set_option maxRecDepth 100000
set_option maxHeartbeats 16000000
namespace Go.Proofs.YtfaknfmndafllaaGreatDoor
end Go.Proofs.YtfaknfmndafllaaGreatDoor
namespace Go.Proofs.YtfaknfmndafllaaGreatDoor
open Go.RowKit
theorem run_mk_bl (n : Nat) (hn : n ≤ 1000000) (w : World) : (Instr.makeSlice 131 (.int .i64 (n : Int)) (.int .i64 (n : Int))).run Tryz.prog w = .ok (.slice (some ⟨w.heap.size, 0, none⟩) n n) (w.alloc (.cells (lstF n fun _ => Value.bool false).toArray 4)) :=
 run_mk_f (z := .bool false) (bytes := 1) Tryz.underlying131 (by kernel_rfl) rfl n hn (by decide) w
def MkR (W wr : World) (g N : Nat) (f : Nat → Bool) : Prop := RowF wr 4 g N (fun b => .bool (f b)) ∧ Below W.heap.size W wr
theorem MkR.set {W wr : World} {g N : Nat} {f : Nat → Bool} (h : MkR W wr g N f) (hg : W.heap.size ≤ g) (b : Nat) (v : Bool) : MkR W (wr.setCell ⟨g, b, none⟩ (.bool v)) g N (upd f b v) :=
 ⟨by have := h.1.set b (.bool v); rwa [upd_bool] at this, h.2.setCell (p := ⟨g, b, none⟩) hg _⟩
theorem MkR.drewN {W wr : World} {g N : Nat} {f : Nat → Bool} (h : MkR W wr g N f) (q : Nat) : MkR W (wr.drewN q) g N f := ⟨h.1.below (below_drewN (Below.refl wr.heap.size wr) q) h.1.lt, below_drewN h.2 q⟩
theorem MkR.congr {W wr : World} {g N : Nat} {f f' : Nat → Bool} (h : MkR W wr g N f) (e : ∀ b, b < N → f b = f' b) : MkR W wr g N f' := ⟨h.1.congr fun b hb => by rw [e b hb], h.2⟩
def Gl1 (W : World) (g N : Nat) (gs : List Nat) (gk : Nat) (iv : Value) (wr : World) : Prop :=
 ∃ j : Nat, iv = .int .i64 j ∧ j ≤ gs.length ∧ gk = gs.length - j ∧ Hid (MkR W wr g N fun b => decide (b ∈ gs.take j))
def Gl2 (W : World) (g N L : Nat) (gM : Int → Nat → Bool) (gk : Nat) (v6 : Value) (wr : World) : Prop :=
 ∃ t : Int, v6 = .int .i64 t ∧ -1 ≤ t ∧ t < L ∧ gk = (t + 1).toNat ∧ Hid (MkR W wr g N (gM (t + 1)))
def gf (gM : Int → Nat → Bool) (t : Int) (k : Nat) (v : Bool) (b : Nat) : Bool := if b < k then gM t b else if b = k then v else gM (t + 1) b
def Gl3 (W : World) (g N : Nat) (gM : Int → Nat → Bool) (t : Int) (gk : Nat) (iv : Value) (wr : World) : Prop :=
 ∃ k : Nat, iv = .int .i64 k ∧ k ≤ N ∧ gk = N - k ∧ Hid (MkR W wr g N (gf gM t k (gM (t + 1) k)))
def Gl4 (W : World) (g N : Nat) (gM : Int → Nat → Bool) (t : Int) (k : Nat) (l : List Nat) (cond : Nat → Bool) (gk : Nat) (iv : Value) (wr : World) : Prop :=
 ∃ j : Nat, iv = .int .i64 j ∧ j ≤ l.length ∧ gk = l.length - j ∧ Hid (MkR W wr g N (gf gM t k (gM (t + 1) k || (l.take j).any cond)))
theorem gf_upd (gM : Int → Nat → Bool) (t : Int) (k : Nat) (v u : Bool) : upd (gf gM t k v) k u = gf gM t k u := by
 funext b
 unfold upd gf
 by_cases h : b = k
 ·subst h; simp
 ·simp [h]
theorem gf_next (gM : Int → Nat → Bool) (t : Int) (k : Nat) : gf gM t k (gM t k) = gf gM t (k + 1) (gM (t + 1) (k + 1)) := by
 funext b
 unfold gf
 by_cases h : b < k
 ·rw [if_pos h, if_pos (by omega)]
 ·rw [if_neg h]
  by_cases h2 : b = k
  ·subst h2; rw [if_pos rfl, if_pos (by omega)]
  ·rw [if_neg h2, if_neg (by omega)]
   by_cases h3 : b = k + 1
   ·subst h3; rw [if_pos rfl]
   ·rw [if_neg h3]
theorem gf_zero (gM : Int → Nat → Bool) (t : Int) : gf gM t 0 (gM (t + 1) 0) = gM (t + 1) := by
 funext b
 unfold gf
 rw [if_neg (Nat.not_lt_zero _)]
 split
 ·next h => rw [h]
 ·rfl
theorem gdM_ne {st : Nat → Nat → Option Nat} {D : Nat → Int} {gs : List Nat} {L : Nat} {t : Int} {b : Nat} (h : D b ≠ t) : gdM st D gs L t b = gdM st D gs L (t + 1) b := by
 unfold gdM
 rw [decide_eq_decide]
 constructor
 ·rintro ⟨h1, h2⟩; exact ⟨by omega, h2⟩
 ·rintro ⟨h1, h2⟩; exact ⟨by omega, h2⟩
theorem any_take {l : List Nat} {j i : Nat} (h : l[j]? = some i) (cond : Nat → Bool) : (l.take (j + 1)).any cond = ((l.take j).any cond || cond i) := by
 rw [List.take_add_one, h, List.any_append]; simp
theorem SpOk.same {st : Nat → Nat → Option Nat} {goal : Nat → Option Int} {N : Nat} {D : Nat → Int} {Ex : Nat → Bool} {gs : List Nat} {L L' : Nat} {c c' : Int} (h : SpOk st goal N D Ex gs L c) (h' : SpOk st goal N D Ex gs L' c') : L' = L := by
 obtain ⟨b, hb⟩ := List.exists_mem_of_ne_nil _ h.ne
 have h1 := ((h.g b).1 hb).1
 have h2 := ((h'.g b).1 hb).1
 omega
theorem MkR.no {W wr : World} {g N : Nat} {gM : Int → Nat → Bool} {t : Int} {k j i : Nat} {l : List Nat} {cond : Nat → Bool} (h : MkR W wr g N (gf gM t k (gM (t + 1) k || (l.take j).any cond))) (hi : l[j]? = some i) (hc : cond i = false) : MkR W wr g N (gf gM t k (gM (t + 1) k || (l.take (j + 1)).any cond)) := by
 rw [any_take hi, hc, Bool.or_false]; exact h
theorem MkR.yes {W wr : World} {g N : Nat} {gM : Int → Nat → Bool} {t : Int} {k j i : Nat} {l : List Nat} {cond : Nat → Bool} (h : MkR W wr g N (gf gM t k (gM (t + 1) k || (l.take j).any cond))) (hg : W.heap.size ≤ g) (hi : l[j]? = some i) (hc : cond i = true) : MkR W (wr.setCell ⟨g, k, none⟩ (.bool true)) g N (gf gM t k (gM (t + 1) k || (l.take (j + 1)).any cond)) := by
 have := h.set hg k true
 rw [gf_upd] at this
 rw [any_take hi, hc, Bool.or_true, Bool.or_true]
 exact this
def gcB (D : Nat → Int) (gM : Int → Nat → Bool) (t : Int) (k i : Nat) : Bool := decide (D k = t) && decide (D (nbB k i) = t + 1) && gM (t + 1) (nbB k i)
def GdPost (w : World) (N : Nat) (st : Nat → Nat → Option Nat) (goal : Nat → Option Int) (D : Nat → Int) (Ex : Nat → Bool) (gs : List Nat) (e : Ending) (w' : World) : Prop :=
 ∃ (g : Nat) (mk : Nat → Bool), e = .returned (.slice (some ⟨g, 0, none⟩) N N) ∧ Hid (RowF w' 4 g N fun b => .bool (mk b)) ∧ Hid (gs = [] → ∀ b, mk b = false) ∧ Hid (∀ (L : Nat) (c : Int), SpOk st goal N D Ex gs L c → ∀ b, b < N → mk b = gdM st D gs L 0 b) ∧ Hid (Below w.heap.size w w')
theorem ptgood_any (db eb ob N gc : Nat) (ed : Nat → List Nat) (oc : Nat → Nat → List Value) (goal : Nat → Option Int) (D : Nat → Int) (Ex : Nat → Bool) (gs : List Nat) (least : Int) (G : Option Addr) (w : World) (hM : SrM w db eb ob N ed oc D Ex gs G gc) (hN : N ≤ 1024) (hrng : ∀ b, -1 ≤ D b ∧ D b ≤ N) (hgl : gs.length ≤ N) (hgN : ∀ b ∈ gs, b < N) (hnb : ∀ b, b < N → ∀ i ∈ ed b, i < 10 ∧ nbB b i < N) (hed : ∀ b, (ed b).length ≤ 10) (hS : SpNo (stE ed nbB) goal gs ∨ ∃ (L : Nat) (c : Int), SpOk (stE ed nbB) goal N D Ex gs L c) :
 Calls Tryz.prog 78 #[.agg #[.slice (some ⟨db, 0, none⟩) N N, .slice (some ⟨eb, 0, none⟩) N N, .slice (some ⟨ob, 0, none⟩) N N, .slice G gs.length gc, .int .i64 least]] w (GdPost w N (stE ed nbB) goal D Ex gs) := by
 have HM := Lib.hid hM; have HR := Lib.hid hrng; have HGN := Lib.hid hgN; have HNB := Lib.hid hnb; have HED := Lib.hid hed; have HSP := Lib.hid hS
 clear hM hrng hgN hnb hed hS
 have HBL : Hid (Below w.heap.size w (w.alloc (.cells #[.slice (some ⟨db, 0, none⟩) N N, .slice (some ⟨eb, 0, none⟩) N N, .slice (some ⟨ob, 0, none⟩) N N, .slice G gs.length gc, .int .i64 least] 129))) := (Below.refl _ _).alloc (Nat.le_refl _) _
 have HB := Lib.hid (Blk.new w 129 #[.slice (some ⟨db, 0, none⟩) N N, .slice (some ⟨eb, 0, none⟩) N N, .slice (some ⟨ob, 0, none⟩) N N, .slice G gs.length gc, .int .i64 least])
 go_enter Tryz.func78, Tryz.ntmps78
 go_upto_region 1 with (fail)
 generalize World.alloc w _ = W at *
 have HLT : Hid (w.heap.size < W.heap.size) := HB.out.lt
 have k0 := HB.out.cell 0
 have hmk := run_mk_bl N (by omega) W
 go_upto_region 2 with (fail)
 clear k0 hmk
 have HL1 : Hid (Below W.heap.size W (W.alloc (.cells (lstF N fun _ => Value.bool false).toArray 4))) := (Below.refl _ _).alloc (Nat.le_refl _) _
 have HR1 := Lib.hid (RowF.new W 4 N fun _ => Value.bool false)
 obtain ⟨g, hg⟩ : ∃ x, x = W.heap.size := ⟨_, rfl⟩
 rw [← hg] at HR1 ⊢
 have hge : W.heap.size ≤ g := by omega
 clear hg
 generalize World.alloc W _ = V at *
 have HBV := Lib.hid (HB.out.below HL1.out HB.out.lt)
 have k3 := HBV.out.cell 3
 by_cases hgs : gs = []
 ·have q0 : ((gs.length : Int) == 0) = true := by rw [hgs]; rfl
  go_wp2_with fail
  go_ret
  exact ⟨g, fun _ => false, rfl, HR1.out, fun _ _ => rfl, fun L c h => absurd hgs h.ne, HBL.out.trans (HL1.out.mono HBL.out.size)⟩
 have q0 : ((gs.length : Int) == 0) = false := by
  have : gs.length ≠ 0 := fun h => hgs (List.eq_nil_of_length_eq_zero h)
  simp; omega
 obtain ⟨L, c, hok⟩ : ∃ (L : Nat) (c : Int), SpOk (stE ed nbB) goal N D Ex gs L c := by
  rcases HSP.out with h | h
  ·exact absurd h.1 hgs
  ·exact h
 have HOK := Lib.hid hok
 have hgl0 : 0 < gs.length := Nat.pos_of_ne_zero fun h => hgs (List.eq_nil_of_length_eq_zero h)
 have hLN : L ≤ N := by
  obtain ⟨b1, h1⟩ := List.exists_mem_of_ne_nil _ hgs
  have h2 := ((hok.g b1).1 h1).1
  have := (HR.out b1).2
  omega
 have HNE := Lib.hid hgs
 obtain ⟨gM, hgM⟩ : ∃ f : Int → Nat → Bool, f = gdM (stE ed nbB) D gs L := ⟨_, rfl⟩
 have HGM := Lib.hid hgM
 clear hok hgM hgs
 go_wp2_with fail
 have hst : MkR W V g N fun b => decide (b ∈ gs.take 0) := MkR.congr (f := fun _ => false) ⟨HR1.out, HL1.out⟩ fun b _ => by simp
 refine wp_loop_u1 [(4, 0), (0, 1), (17, 0), (0, 2), (6, 1), (59, 0)] 24 (gs.length) (Gl1 W g N gs) (by (try dsimp only [gt]); exact ⟨0, rfl, Nat.zero_le _, rfl, hst⟩) (by kernel_rfl) ?_
 intro u1 p24 gk wr a hrel ha J1 K1 hJ1 hK1
 dsimp only [relaxR, Go.Proofs.YtfaknfmndafllaaGreatDoor.v1, Nat.reduceAdd] at ha
 subst ha
 clear hst HR1 HL1 HBV k3 q0
 obtain ⟨j, rfl, hj, rfl, hr⟩ := hrel
 have HR2 := Lib.hid hr.out
 clear hr
 have HBX := Lib.hid (HB.out.below HR2.out.2 HB.out.lt)
 have HMX := Lib.hid (HM.out.later (HBL.out.trans (HR2.out.2.mono HBL.out.size)))
 have hnN : N ≤ 9223372036854775807 := by omega
 by_cases hlt : j < gs.length
 ·have q1 : decide (j < gs.length) = true := by simpa using hlt
  obtain ⟨b2, o2, i, rfl, hb2, hi2, hc2⟩ := (show Sl wr wr.heap.size 1 G gs.length gc (gs.flatMap fun i : Nat => [Value.int .i64 (i : Int)]) from HMX.out.g).at1 hlt
  have hiN := HGN.out i (List.mem_of_getElem? hi2)
  have hkk : IntKind.i64.wrap ((j : Int) + 1) = (j : Int) + 1 := IntWalk.i64_in _ (by omega)
  have hcl := HR2.out.1.at hiN
  have hfz := HR2.out.1.frozen i
  have HR3 := Lib.hid ((HR2.out.set hge i true).congr (f' := fun b => decide (b ∈ gs.take (j + 1))) fun b _ => by
   rw [List.take_add_one, hi2]
   unfold upd
   by_cases h : b = i <;> simp [h])
  clear hi2 HBX HMX HR2
  go_wp2_with fail
  refine Handed.intro (gs.length - (j + 1)) (by omega) (hJ1 _ _ _ (LpI1.back 24 ?_ (by kernel_rfl)))
  dsimp only [gt]
  exact ⟨j + 1, rfl, hlt, rfl, HR3⟩
 have q1 : decide (j < gs.length) = false := by simpa using hlt
 obtain rfl : j = gs.length := by omega
 have HR3 := Lib.hid (HR2.out.congr (f' := gM L) fun b _ => by rw [HGM.out, HOK.out.mark_goals, List.take_length])
 clear HR2 hlt
 obtain ⟨bg, og, b0, hGe, hbg, hb0, hcg⟩ := (show Sl wr wr.heap.size 1 G gs.length gc (gs.flatMap fun i : Nat => [Value.int .i64 (i : Int)]) from HMX.out.g).at1 hgl0
 subst hGe
 rw [Nat.add_zero] at hcg
 have hb0N := HGN.out b0 (List.mem_of_getElem? hb0)
 have hD0 := ((HOK.out.g b0).1 (List.mem_of_getElem? hb0)).1
 have hcd := HMX.out.d.at hb0N
 rw [hD0] at hcd
 have k0 := HBX.out.cell 0; have k3 := HBX.out.cell 3
 have hwl : IntKind.i64.wrap ((L : Int) - 1) = (L : Int) - 1 := IntWalk.i64_in _ (by omega)
 go_upto_region 9 with (fail)
 clear q1 hb0 hD0
 go_quiet (fail)
 have HR4 := Lib.hid fun q => HR3.out.drewN q
 clear hwl hcd hcg k0 k3 HR3 HMX HBX
 generalize hq : World.drewN wr _ = W1
 have HR5 : Hid (MkR W W1 g N (gM ((L : Int) - 1 + 1))) := by
  rw [show (L : Int) - 1 + 1 = L by omega, ← hq]; exact HR4.out _
 clear HR4 hq
 go_wp2_with fail
 refine wp_loop_u1 [(5, 0), (0, 2), (1, 1), (0, 0), (1, 1), (28, 0), (49, 1), (0, 0)] 6 (L) (Gl2 W g N L gM) (by (try dsimp only [gt]); exact ⟨(L : Int) - 1, rfl, by omega, by omega, by omega, HR5⟩) (by kernel_rfl) ?_
 intro u1 p6 gk wr a hrel ha J1 K1 hJ1 hK1
 dsimp only [relaxR, Go.Proofs.YtfaknfmndafllaaGreatDoor.v1, Nat.reduceAdd] at ha
 subst ha
 clear HR5
 obtain ⟨t, rfl, ht0, htL, rfl, hr⟩ := hrel
 have HR2 := Lib.hid hr.out
 clear hr
 by_cases h0 : 0 ≤ t; rotate_left
 ·have q1 : decide (0 ≤ t) = false := by simpa using h0
  have HR3 := Lib.hid HR2.out
  have HT0 : Hid (t + 1 = 0) := by unfold Hid; omega
  clear HR2
  go_wp2_with fail
  go_ret
  exact ⟨g, gM (t + 1), rfl, HR3.out.1, fun h => absurd h HNE.out, fun L' c' h' b _ => by rw [HT0.out, HGM.out, HOK.out.same h'], HBL.out.trans (HR3.out.2.mono HBL.out.size)⟩
 have q1 : decide (0 ≤ t) = true := by simpa using h0
 have HBX := Lib.hid (HB.out.below HR2.out.2 HB.out.lt)
 have k0 := HBX.out.cell 0
 have hwt : IntKind.i64.wrap (t + 1) = t + 1 := IntWalk.i64_in _ (by omega)
 have hwt' : IntKind.i64.wrap (t - 1) = t - 1 := IntWalk.i64_in _ (by omega)
 go_wp2_with fail
 clear k0 HBX q1
 refine wp_loop_u1 [(6, 0), (1, 1), (0, 0), (1, 1), (35, 0), (0, 2), (41, 1), (0, 0)] 48 (N) (Gl3 W g N gM t) (by (try dsimp only [gt]); exact ⟨0, rfl, Nat.zero_le _, rfl, by rw [gf_zero]; exact HR2.out⟩) (by kernel_rfl) ?_
 intro u2 p48 gk3 wx a hrel ha J2 K2 hJ2 hK2
 dsimp only [relaxR, Go.Proofs.YtfaknfmndafllaaGreatDoor.v1, Nat.reduceAdd] at ha
 subst ha
 clear HR2
 obtain ⟨k, rfl, hk, rfl, hr⟩ := hrel
 have HR2 := Lib.hid hr.out
 clear hr
 by_cases hlt : k < N; rotate_left
 ·have q1 : decide (k < N) = false := by simpa using hlt
  obtain rfl : k = N := by omega
  have HR3 : Hid (MkR W wx g k (gM (t - 1 + 1))) := by
   rw [show t - 1 + 1 = t by omega]
   exact HR2.out.congr fun b hb => by unfold gf; rw [if_pos hb]
  clear HR2
  go_wp2_with fail
  refine Handed.intro (t.toNat) (by omega) (hJ1 _ _ _ (LpI1.back 6 ?_ (by kernel_rfl)))
  dsimp only [gt]
  exact ⟨t - 1, rfl, by omega, by omega, by omega, HR3⟩
 have q1 : decide (k < N) = true := by simpa using hlt
 have HBX := Lib.hid (HB.out.below HR2.out.2 HB.out.lt)
 have HMX := Lib.hid (HM.out.later (HBL.out.trans (HR2.out.2.mono HBL.out.size)))
 have k1 := HBX.out.cell 1
 have hcd := HMX.out.d.at hlt
 obtain ⟨A3, n3, c3, hce, hsl⟩ := HMX.out.e.at hlt
 have hn3 : (edX Ex ed k).length = n3 := by have := hsl.1.1; rw [natsV_len, Nat.mul_one] at this; exact this
 subst hn3
 have HSL3 : Hid (∀ {V2 : World}, Below w.heap.size w V2 → Sl V2 V2.heap.size 1 A3 (edX Ex ed k).length c3 (natsV (edX Ex ed k))) := fun hb => by
  obtain ⟨A5, n5, c5, h5, h6⟩ := HM.out.e.at hlt
  have h7 := (HM.out.e.later (HBL.out.trans (HR2.out.2.mono HBL.out.size))).at hlt
  have h8 : wx.cell? ⟨eb, k, none⟩ = w.cell? ⟨eb, k, none⟩ := (HBL.out.trans (HR2.out.2.mono HBL.out.size)).cell HM.out.e.lt
  rw [h8, h5] at hce
  injection hce with hce
  injection hce with e1 e2 e3
  subst e1 e3
  rw [← e2]
  exact (h6.1.below hb (Nat.le_refl _)).more hb.size
 have hle10 : (edX Ex ed k).length ≤ 10 := by unfold edX; split; (· exact HED.out k); (· simp)
 have hkk : IntKind.i64.wrap ((k : Int) + 1) = (k : Int) + 1 := IntWalk.i64_in _ (by omega)
 go_wp2_with fail
 clear k1 hcd hce hsl q1 HBX HMX
 refine wp_loop_u1 [(9, 0), (1, 1), (46, 0), (0, 2), (29, 1), (1, 0)] 59 ((edX Ex ed k).length) (Gl4 W g N gM t k (edX Ex ed k) (gcB D gM t k)) (by (try dsimp only [gt]); exact ⟨0, rfl, Nat.zero_le _, rfl, by unfold Hid; simpa using HR2.out⟩) (by kernel_rfl) ?_
 intro u3 p59 gk4 wy a hrel ha J3 K3 hJ3 hK3
 dsimp only [relaxR, Go.Proofs.YtfaknfmndafllaaGreatDoor.v1, Nat.reduceAdd] at ha
 subst ha
 clear HR2
 obtain ⟨j, rfl, hj, rfl, hr⟩ := hrel
 have HR2 := Lib.hid hr.out
 clear hr
 by_cases hlt2 : j < (edX Ex ed k).length; rotate_left
 ·have q1 : decide (j < (edX Ex ed k).length) = false := by simpa using hlt2
  obtain rfl : j = (edX Ex ed k).length := by omega
  have HR3 : Hid (MkR W wy g N (gf gM t (k + 1) (gM (t + 1) (k + 1)))) := by
   have h1 := HR2.out
   rw [List.take_length] at h1
   obtain ⟨tn, rfl⟩ := Int.eq_ofNat_of_zero_le h0
   have h2 : gM (tn : Int) k = (gM ((tn : Int) + 1) k || (edX Ex ed k).any (gcB D gM tn k)) := by
    rw [HGM.out]; exact HOK.out.mark (by omega) k
   rw [← h2, gf_next] at h1
   exact h1
  clear HR2
  go_wp2_with fail
  refine Handed.intro (N - (k + 1)) (by omega) (hJ2 _ _ _ (LpI1.back 48 ?_ (by kernel_rfl)))
  dsimp only [gt]
  exact ⟨k + 1, rfl, hlt, rfl, HR3⟩
 have q1 : decide (j < (edX Ex ed k).length) = true := by simpa using hlt2
 have HBX := Lib.hid (HB.out.below HR2.out.2 HB.out.lt)
 have HMX := Lib.hid (HM.out.later (HBL.out.trans (HR2.out.2.mono HBL.out.size)))
 obtain ⟨A4, n4, c4, hce, hsl⟩ := HMX.out.e.at hlt
 have HSY := Lib.hid (HSL3.out (HBL.out.trans (HR2.out.2.mono HBL.out.size)))
 clear hce hsl
 obtain ⟨b2, o2, i, rfl, hb2, hi2, hc2⟩ := (show Sl wy wy.heap.size 1 A3 (edX Ex ed k).length c3 ((edX Ex ed k).flatMap fun i : Nat => [Value.int .i64 (i : Int)]) from HSY.out).at1 hlt2
 have hil : i ∈ ed k := by
  have := List.mem_of_getElem? hi2
  unfold edX at this
  split at this
  ·exact this
  ·cases this
 obtain ⟨hi10, hnt⟩ := HNB.out k hlt i hil
 obtain ⟨x, hx⟩ : ∃ x, x = 2 ^ i := ⟨_, rfl⟩
 have hx10 : x < 1024 := by rw [hx]; exact (Nat.pow_lt_pow_right (by decide) hi10 : 2 ^ i < 2 ^ 10)
 have hshl : IntKind.i64.wrap ((2 : Int) ^ i) = (x : Int) := by rw [hx]; have := shl64 (i := i) (by omega); simpa using this
 have hxor : bits .xor .i64 (k : Int) (x : Int) = (nbB k i : Int) := by rw [xor64 (by omega) hx10, hx]; rfl
 have hcd := HMX.out.d.at hnt
 have hcm := HR2.out.1.at hnt
 have k0 := HBX.out.cell 0
 have hjj : IntKind.i64.wrap ((j : Int) + 1) = (j : Int) + 1 := IntWalk.i64_in _ (by omega)
 have HI2 := Lib.hid hi2
 have hnn3 : (edX Ex ed k).length ≤ 9223372036854775807 := by omega
 have HCD : Hid (∀ h : D k = t, D (nbB k i) = t + 1 → gf gM t k (gM (t + 1) k || ((edX Ex ed k).take j).any (gcB D gM t k)) (nbB k i) = gM (t + 1) (nbB k i)) := fun h h' => by
  have hne : nbB k i ≠ k := fun e => by rw [e] at h'; omega
  unfold gf
  rw [if_neg hne]
  split
  ·rw [HGM.out]; exact gdM_ne (by omega)
  ·rfl
 clear hx hx10 hi2 hil
 obtain ⟨u, hu⟩ : ∃ u, u = nbB k i := ⟨_, rfl⟩
 have HU := Lib.hid hu
 rw [← hu] at hxor hnt hcd hcm HCD
 clear hu
 have HG : Hid (gcB D gM t k i = (decide (D k = t) && decide (D u = t + 1) && gM (t + 1) u)) := by unfold Hid gcB; rw [HU.out]
 by_cases h1 : D k = t; rotate_left
 ·have q2 : (D k == t) = false := by simpa using h1
  have HN := Lib.hid (HR2.out.no HI2.out (by rw [HG.out]; simp [h1]))
  clear HR2 hcm hcd
  go_wp2_with fail
  refine Handed.intro ((edX Ex ed k).length - (j + 1)) (by omega) (hJ3 _ _ _ (LpI1.back 59 ?_ (by kernel_rfl)))
  dsimp only [gt]
  exact ⟨j + 1, rfl, hlt2, rfl, HN⟩
 have q2 : (D k == t) = true := by simpa using h1
 by_cases h2 : D u = t + 1; rotate_left
 ·have q3 : (D u == t + 1) = false := by simpa using h2
  have HN := Lib.hid (HR2.out.no HI2.out (by rw [HG.out]; simp [h2]))
  have HE := Lib.hid h1
  clear HR2 hcm h1
  go_wp2_with fail
  refine Handed.intro ((edX Ex ed k).length - (j + 1)) (by omega) (hJ3 _ _ _ (LpI1.back 59 ?_ (by kernel_rfl)))
  dsimp only [gt]
  exact ⟨j + 1, rfl, hlt2, rfl, HN⟩
 have q3 : (D u == t + 1) = true := by simpa using h2
 rw [HCD.out h1 h2] at hcm
 have HE := Lib.hid (And.intro h1 h2)
 clear h1 h2
 cases hb : gM (t + 1) u with
 | false =>
  rw [hb] at hcm
  have HN := Lib.hid (HR2.out.no HI2.out (by rw [HG.out, hb]; simp))
  clear HR2 hb
  go_wp2_with fail
  refine Handed.intro ((edX Ex ed k).length - (j + 1)) (by omega) (hJ3 _ _ _ (LpI1.back 59 ?_ (by kernel_rfl)))
  dsimp only [gt]
  exact ⟨j + 1, rfl, hlt2, rfl, HN⟩
 | true =>
  rw [hb] at hcm
  have HN := Lib.hid (HR2.out.yes hge HI2.out (by rw [HG.out, hb]; simp [HE.out.1, HE.out.2]))
  have hck := HR2.out.1.at hlt
  have hfk := HR2.out.1.frozen k
  clear HR2 hb
  go_wp2_with fail
  refine Handed.intro ((edX Ex ed k).length - (j + 1)) (by omega) (hJ3 _ _ _ (LpI1.back 59 ?_ (by kernel_rfl)))
  dsimp only [gt]
  exact ⟨j + 1, rfl, hlt2, rfl, HN⟩
end Go.Proofs.YtfaknfmndafllaaGreatDoor
namespace Go.Proofs.YtfaknfmndafllaaGreatDoor
structure Lk where
 dev : Int
 pos : Int
 key : Int
def befB (a b : Lk) : Bool := decide (a.dev < b.dev) || (decide (a.dev = b.dev) && decide (a.key < b.key))
theorem bef_iff (a b : Lk) : befB a b = true ↔ a.dev < b.dev ∨ (a.dev = b.dev ∧ a.key < b.key) := by simp [befB]
theorem bef_trans {a b c : Lk} (h1 : befB a b = true) (h2 : befB b c = true) : befB a c = true := by rw [bef_iff] at *; omega
theorem bef_total {a b : Lk} (h : a.key ≠ b.key) (h1 : befB a b = false) : befB b a = true := by
 have h2 : ¬ befB a b = true := by rw [h1]; simp
 rw [bef_iff] at *; omega
def kindOf (ds : List Dv) (d : Int) : Int := match ds[d.toNat]? with | some x => x.kind | none => 0
def lkErr (ds : List Dv) (k : Lk) : Int := if k.dev < 0 then 8 else if (ds.length : Int) ≤ k.dev then 8 else if kindOf ds k.dev = 5 then 6 else if k.pos ≠ 1 ∧ k.pos ≠ 2 then 10 else if k.key < 0 then 5 else if 65536 < k.key then 5 else 0
def othB (k x : Lk) : Bool := decide (x.dev = k.dev) && !decide (x.pos = k.pos)
def othL (l : List Lk) (k : Lk) : Bool := l.any (othB k)
def usdL (l : List Lk) (q : Int) : Bool := l.any fun x => decide (x.key = q)
theorem oth_not {l : List Lk} {k : Lk} : othL l k = false ↔ ∀ x ∈ l, x.dev = k.dev → x.pos = k.pos := by
 unfold othL othB
 rw [List.any_eq_false]
 constructor
 ·intro h x hx hd
  have := h x hx
  simp [hd] at this
  exact this
 ·intro h x hx
  simp
  exact h x hx
theorem usd_not {l : List Lk} {q : Int} : usdL l q = false ↔ ∀ x ∈ l, x.key ≠ q := by
 unfold usdL
 rw [List.any_eq_false]
 constructor
 ·intro h x hx; have := h x hx; simpa using this
 ·intro h x hx; simpa using h x hx
def ordBad (ls : List Lk) (i : Nat) (k : Lk) : Bool := decide (0 < i) && !(match ls[i - 1]? with | some p => befB p k | none => true)
def errAt (ds : List Dv) (ls : List Lk) (i : Nat) : Int := match ls[i]? with
 | none => 0
 | some k => if lkErr ds k ≠ 0 then lkErr ds k else if ordBad ls i k = true then 14 else if othL (ls.take i) k = true then 18 else if usdL (ls.take i) k.key = true then 4 else 0
def firstE (ds : List Dv) (ls : List Lk) : Nat → Int
 | 0 => 0
 | i + 1 => if firstE ds ls i ≠ 0 then firstE ds ls i else errAt ds ls i
theorem firstE_stop {ds : List Dv} {ls : List Lk} {i : Nat} {e : Int} (h : firstE ds ls i = 0) (he : errAt ds ls i = e) (h0 : e ≠ 0) : ∀ n, i < n → firstE ds ls n = e
 | 0, hn => by omega
 | n + 1, hn => by
  rw [firstE]
  rcases Nat.lt_succ_iff_lt_or_eq.1 hn with hlt | rfl
  ·rw [firstE_stop h he h0 n hlt, if_pos h0]
  ·rw [h, if_neg (by simp), he]
theorem firstE_zero {ds : List Dv} {ls : List Lk} : ∀ n, firstE ds ls n = 0 ↔ ∀ i, i < n → errAt ds ls i = 0
 | 0 => ⟨fun _ i hi => by omega, fun _ => rfl⟩
 | n + 1 => by
  rw [firstE]
  have ih := firstE_zero (ds := ds) (ls := ls) n
  by_cases h : firstE ds ls n = 0
  ·rw [if_neg (by simp [h])]
   constructor
   ·intro he i hi
    rcases Nat.lt_succ_iff_lt_or_eq.1 hi with hlt | rfl
    ·exact ih.1 h i hlt
    ·exact he
   ·intro hall; exact hall n (by omega)
  ·rw [if_pos h]
   exact ⟨fun e => absurd e h, fun hall => ih.2 fun i hi => hall i (by omega)⟩
theorem firstE_next {ds : List Dv} {ls : List Lk} {i : Nat} (h : firstE ds ls i = 0) (he : errAt ds ls i = 0) : firstE ds ls (i + 1) = 0 := by rw [firstE, h, if_neg (by simp), he]
def LkRel (a b : Lk) : Prop := befB a b = true ∧ (a.dev = b.dev → a.pos = b.pos) ∧ a.key ≠ b.key
def GoodL (ds : List Dv) (ls : List Lk) : Prop := ls.length ≤ 128 ∧ (∀ k ∈ ls, lkErr ds k = 0) ∧ ls.Pairwise LkRel
theorem errAt_zero {ds : List Dv} {ls : List Lk} {i : Nat} {k : Lk} (hk : ls[i]? = some k) : errAt ds ls i = 0 ↔ lkErr ds k = 0 ∧ ordBad ls i k = false ∧ othL (ls.take i) k = false ∧ usdL (ls.take i) k.key = false := by
 unfold errAt
 rw [hk]
 simp only
 by_cases h1 : lkErr ds k = 0
 ·rw [if_neg (by simp [h1])]
  rcases h2 : ordBad ls i k with _ | _
  ·rw [if_neg (by simp)]
   rcases h3 : othL (ls.take i) k with _ | _
   ·rw [if_neg (by simp)]
    rcases h4 : usdL (ls.take i) k.key with _ | _
    ·simp [h1]
    ·simp
   ·simp
  ·simp
 ·rw [if_pos h1]; simp [h1]
theorem good_of {ds : List Dv} {ls : List Lk} (hl : ls.length ≤ 128) (h : firstE ds ls ls.length = 0) : GoodL ds ls := by
 have hall := (firstE_zero ls.length).1 h
 have at' : ∀ i (hi : i < ls.length), lkErr ds ls[i] = 0 ∧ ordBad ls i ls[i] = false ∧ othL (ls.take i) ls[i] = false ∧ usdL (ls.take i) ls[i].key = false := fun i hi => (errAt_zero (List.getElem?_eq_getElem hi)).1 (hall i hi)
 refine ⟨hl, fun k hk => ?_, ?_⟩
 ·obtain ⟨i, hi, rfl⟩ := List.mem_iff_getElem.1 hk
  exact (at' i hi).1
 ·have step : ∀ i (hi : i + 1 < ls.length), befB ls[i] ls[i + 1] = true := by
   intro i hi
   have := (at' (i + 1) hi).2.1
   unfold ordBad at this
   rw [Nat.add_sub_cancel, List.getElem?_eq_getElem (show i < ls.length by omega)] at this
   simpa using this
  have bef : ∀ (j i : Nat) (hj : j < ls.length) (hij : i < j), befB (ls[i]'(by omega)) ls[j] = true := by
   intro j
   induction j with
   | zero => intro i hj hij; omega
   | succ j ih =>
    intro i hj hij
    rcases Nat.lt_succ_iff_lt_or_eq.1 hij with hlt | rfl
    ·exact bef_trans (ih i (by omega) hlt) (step j hj)
    ·exact step i hj
  rw [List.pairwise_iff_getElem]
  intro i j hi hj hij
  obtain ⟨_, _, h3, h4⟩ := at' j hj
  have hm : ls[i] ∈ ls.take j := by
   rw [List.mem_iff_getElem]
   exact ⟨i, by simp; omega, by simp⟩
  exact ⟨bef j i hj hij, fun hd => oth_not.1 h3 _ hm hd, usd_not.1 h4 _ hm⟩
theorem good_err {ds : List Dv} {ls : List Lk} (h : GoodL ds ls) : firstE ds ls ls.length = 0 := by
 obtain ⟨_, h2, h3⟩ := h
 rw [firstE_zero]
 intro i hi
 rw [errAt_zero (List.getElem?_eq_getElem hi)]
 rw [List.pairwise_iff_getElem] at h3
 have mem : ∀ x ∈ ls.take i, ∃ j, ∃ hj : j < ls.length, j < i ∧ x = ls[j] := by
  intro x hx
  obtain ⟨j, hj, rfl⟩ := List.mem_iff_getElem.1 hx
  simp at hj
  exact ⟨j, by omega, by omega, by simp⟩
 refine ⟨h2 _ (List.getElem_mem hi), ?_, ?_, ?_⟩
 ·unfold ordBad
  rcases Nat.eq_zero_or_pos i with rfl | h0
  ·rfl
  ·rw [List.getElem?_eq_getElem (show i - 1 < ls.length by omega)]
   simp only
   rw [(h3 (i - 1) i (by omega) hi (by omega)).1]
   simp
 ·rw [oth_not]
  intro x hx hd
  obtain ⟨j, hj, hji, rfl⟩ := mem x hx
  exact (h3 j i hj hi hji).2.1 hd
 ·rw [usd_not]
  intro x hx
  obtain ⟨j, hj, hji, rfl⟩ := mem x hx
  exact (h3 j i hj hi hji).2.2
def insL (k : Lk) (ls : List Lk) : List Lk := ls.takeWhile (fun x => befB x k) ++ k :: ls.dropWhile (fun x => befB x k)
theorem ins_len (k : Lk) (ls : List Lk) : (insL k ls).length = ls.length + 1 := by
 have := congrArg List.length (List.takeWhile_append_dropWhile (p := fun x => befB x k) (l := ls))
 rw [List.length_append] at this
 unfold insL
 rw [List.length_append, List.length_cons]; omega
theorem ins_mem (k x : Lk) (ls : List Lk) : x ∈ insL k ls ↔ x = k ∨ x ∈ ls := by
 have h : ls.takeWhile (fun x => befB x k) ++ ls.dropWhile (fun x => befB x k) = ls := List.takeWhile_append_dropWhile
 have hm : x ∈ ls ↔ x ∈ ls.takeWhile (fun x => befB x k) ∨ x ∈ ls.dropWhile (fun x => befB x k) := by rw [← List.mem_append, h]
 unfold insL
 rw [List.mem_append, List.mem_cons, hm]
 constructor
 ·rintro (h | h | h)
  ·exact .inr (.inl h)
  ·exact .inl h
  ·exact .inr (.inr h)
 ·rintro (h | h | h)
  ·exact .inr (.inl h)
  ·exact .inl h
  ·exact .inr (.inr h)
theorem drop_head {p : Lk → Bool} : ∀ {l : List Lk} {y : Lk} {t : List Lk}, l.dropWhile p = y :: t → p y = false
 | [], _, _, h => by simp at h
 | x :: l, y, t, h => by
  rw [List.dropWhile_cons] at h
  split at h
  ·exact drop_head h
  ·next hp => injection h with h1; subst h1; simpa using hp
theorem ins_good {ds : List Dv} {ls : List Lk} {k : Lk} (h : GoodL ds ls) (hk : lkErr ds k = 0) (hu : usdL ls k.key = false) (ho : othL ls k = false) (hl : ls.length < 128) : GoodL ds (insL k ls) := by
 have hs : ls.takeWhile (fun x => befB x k) ++ ls.dropWhile (fun x => befB x k) = ls := List.takeWhile_append_dropWhile
 have hu' := usd_not.1 hu
 have ho' := oth_not.1 ho
 refine ⟨by rw [ins_len]; omega, fun x hx => ?_, ?_⟩
 ·rcases (ins_mem k x ls).1 hx with rfl | hx
  ·exact hk
  ·exact h.2.1 x hx
 ·have hp := h.2.2
  rw [← hs, List.pairwise_append] at hp
  obtain ⟨p1, p2, p3⟩ := hp
  have mem1 : ∀ x ∈ ls.takeWhile (fun x => befB x k), x ∈ ls := fun x hx => by rw [← hs]; exact List.mem_append_left _ hx
  have mem2 : ∀ x ∈ ls.dropWhile (fun x => befB x k), x ∈ ls := fun x hx => by rw [← hs]; exact List.mem_append_right _ hx
  have bef1 : ∀ x ∈ ls.takeWhile (fun x => befB x k), befB x k = true := fun x hx => by
   have := List.all_takeWhile (p := fun x => befB x k) (l := ls)
   exact List.all_eq_true.1 this x hx
  have bef2 : ∀ x ∈ ls.dropWhile (fun x => befB x k), befB k x = true := by
   rcases hd : ls.dropWhile (fun x => befB x k) with _ | ⟨y, t⟩
   ·intro x hx; cases hx
   ·have hy : befB k y = true := bef_total (hu' y (mem2 y (by rw [hd]; exact List.mem_cons_self))) (drop_head (p := fun x => befB x k) hd)
    intro x hx
    rcases List.mem_cons.1 hx with rfl | hx
    ·exact hy
    ·rw [hd, List.pairwise_cons] at p2
     exact bef_trans hy (p2.1 x hx).1
  unfold insL
  rw [List.pairwise_append, List.pairwise_cons]
  refine ⟨p1, ⟨fun x hx => ⟨bef2 x hx, fun e => (ho' x (mem2 x hx) e.symm).symm, fun e => hu' x (mem2 x hx) e.symm⟩, p2⟩, fun a ha b hb => ?_⟩
  rcases List.mem_cons.1 hb with rfl | hb
  ·exact ⟨bef1 a ha, ho' a (mem1 a ha), hu' a (mem1 a ha)⟩
  ·exact p3 a ha b hb
theorem GoodL.sorted {ds : List Dv} {ls : List Lk} (h : GoodL ds ls) : ls.Pairwise (fun x y => befB x y = true) := h.2.2.imp fun h => h.1
end Go.Proofs.YtfaknfmndafllaaGreatDoor
namespace Go.Proofs.YtfaknfmndafllaaGreatDoor
open Go.RowKit
def Lk.cells (k : Lk) : List Value := [.int .i64 k.dev, .int .i64 k.pos, .int .i64 k.key]
def LocksO (w : World) (base : Nat) (A : Option Addr) (n c : Nat) (ls : List Lk) : Prop := w.ownsRow base 59 3 (.slice A n c) n (ls.flatMap Lk.cells)
section
variable {w w' : World} {base n c B : Nat} {A : Option Addr} {ls : List Lk}
theorem LocksO.sl (h : LocksO w base A n c ls) : Sl w w.heap.size 3 A n c (ls.flatMap Lk.cells) := Sl.of_own h
theorem LocksO.len (h : LocksO w base A n c ls) : ls.length = n := (Sl.of_own h).len (fun _ => rfl) (by decide)
theorem LocksO.later (h : LocksO w base A n c ls) (hb : Below w.heap.size w w') : LocksO w' base A n c ls := own_later h hb
theorem Sl.lock {i : Nat} (h : Sl w B 3 A n c (ls.flatMap Lk.cells)) (hi : i < n) : ∃ b off d p q, A = some ⟨b, off, none⟩ ∧ b < B ∧ ls[i]? = some ⟨d, p, q⟩ ∧ w.cell? ⟨b, off + i * 3, none⟩ = some (.int .i64 d) ∧ w.cell? ⟨b, off + i * 3 + 1, none⟩ = some (.int .i64 p) ∧ w.cell? ⟨b, off + i * 3 + 2, none⟩ = some (.int .i64 q) := by
 obtain ⟨b, off, ⟨d, p, q⟩, e, hb, hx, hc⟩ := h.at (fun _ => rfl) (by decide) hi
 exact ⟨b, off, d, p, q, e, hb, hx, hc 0 _ rfl, hc 1 _ rfl, hc 2 _ rfl⟩
end
end Go.Proofs.YtfaknfmndafllaaGreatDoor
namespace Go.Proofs.YtfaknfmndafllaaGreatDoor
open Go.RowKit
structure Sp where
 kind : Int
 dev : Int
 node : Int
 pos : Int
 key : Int
deriving DecidableEq
def Sp.cells (s : Sp) : List Value := [.int .i64 s.kind, .int .i64 s.dev, .int .i64 s.node, .int .i64 s.pos, .int .i64 s.key]
theorem Sp.len (s : Sp) : s.cells.length = 5 := rfl
def Sp.posB (s : Sp) : Bool := s.kind == 3 || s.kind == 6
end Go.Proofs.YtfaknfmndafllaaGreatDoor
namespace Go.Proofs.YtfaknfmndafllaaGreatDoor
inductive Rch (ds : List Dv) (U : Nat → Bool) (S : Int → Bool) (src : List Int) : Int → Prop
 | base {v : Int} : v ∈ src → Rch ds U S src v
 | step {u : Int} {i : Nat} {x : Dv} : Rch ds U S src u → S u = false → ds[i]? = some x → U i = true → 0 ≤ acrB x u → Rch ds U S src (acrB x u)
def marked (out : List Bool) (v : Int) : Prop := 0 ≤ v ∧ out[v.toNat]? = some true
def EndsOk (nn : Nat) (ds : List Dv) : Prop := ∀ x ∈ ds, joinsB x.kind = true → (0 ≤ x.a ∧ x.a < nn) ∧ (0 ≤ x.b ∧ x.b < nn)
def countF (out : List Bool) : Nat := (out.filter (fun b => !b)).length
theorem acr_lt {nn : Nat} {ds : List Dv} (h : EndsOk nn ds) {i : Nat} {x : Dv} (hx : ds[i]? = some x) (v : Int) (h0 : 0 ≤ acrB x v) : acrB x v < nn := by
 have hm := h x (List.mem_of_getElem? hx)
 unfold acrB at h0 ⊢
 split at h0
 ·omega
 ·rename_i hj
  have := hm (by simpa using hj)
  rw [if_neg hj]
  split
  ·omega
  ·split
   ·omega
   ·rename_i h1 h2; rw [if_neg h1, if_neg h2] at h0; omega
theorem marked_set {out : List Bool} {k : Nat} (hk : k < out.length) (v : Int) : marked (out.set k true) v ↔ v = k ∨ marked out v := by
 unfold marked
 rw [List.getElem?_set]
 constructor
 ·rintro ⟨h0, h1⟩
  split at h1
  ·left; omega
  ·exact .inr ⟨h0, h1⟩
 ·rintro (rfl | ⟨h0, h1⟩)
  ·exact ⟨by omega, by simp [hk]⟩
  ·refine ⟨h0, ?_⟩
   split
   ·simp
   ·exact h1
theorem countF_set : ∀ {out : List Bool} {k : Nat}, out[k]? = some false → countF (out.set k true) + 1 = countF out
 | [], k, h => by simp at h
 | b :: out, 0, h => by simp at h; subst h; simp [countF]
 | b :: out, k + 1, h => by
  simp at h
  have := countF_set h
  unfold countF at *
  rw [List.set_cons_succ, List.filter_cons, List.filter_cons]
  split <;> simp_all
theorem marked_rep (n : Nat) (v : Int) : ¬ marked (List.replicate n false) v := by
 rintro ⟨_, h⟩
 rw [List.getElem?_replicate] at h
 split at h <;> simp at h
structure BInv (ds : List Dv) (U : Nat → Bool) (S : Int → Bool) (src : List Int) (out : List Bool) (wait : List Int) : Prop where
 sound : ∀ v, marked out v → Rch ds U S src v
 waits : ∀ v ∈ wait, marked out v
 srcs : ∀ v ∈ src, marked out v
 done : ∀ u, marked out u → u ∉ wait → S u = false → ∀ i x, ds[i]? = some x → U i = true → 0 ≤ acrB x u → marked out (acrB x u)
structure IInv (ds : List Dv) (U : Nat → Bool) (S : Int → Bool) (src : List Int) (v : Int) (j : Nat) (out : List Bool) (wait : List Int) : Prop where
 sound : ∀ v, marked out v → Rch ds U S src v
 waits : ∀ v ∈ wait, marked out v
 srcs : ∀ v ∈ src, marked out v
 done : ∀ u, marked out u → u ∉ wait → S u = false → ∀ i x, ds[i]? = some x → U i = true → 0 ≤ acrB x u → marked out (acrB x u)
 head : wait.head? = some v
 here : ∀ i x, i < j → ds[i]? = some x → U i = true → 0 ≤ acrB x v → marked out (acrB x v)
section
variable {ds : List Dv} {U : Nat → Bool} {S : Int → Bool} {src wait : List Int} {out : List Bool} {v : Int} {j : Nat}
theorem BInv.start (h : ∀ v, marked out v ↔ v ∈ src) : BInv ds U S src out src :=
 ⟨fun v hv => .base ((h v).1 hv), fun v hv => (h v).2 hv, fun v hv => (h v).2 hv, fun u hu hn => absurd ((h u).1 hu) hn⟩
theorem BInv.enter (h : BInv ds U S src out wait) (hv : wait.head? = some v) : IInv ds U S src v 0 out wait :=
 ⟨h.sound, h.waits, h.srcs, h.done, hv, fun i x hi => absurd hi (by omega)⟩
theorem BInv.stop (h : BInv ds U S src out (v :: wait)) (hs : S v = true) : BInv ds U S src out wait :=
 ⟨h.sound, fun u hu => h.waits u (List.mem_cons_of_mem _ hu), h.srcs, fun u hu hn hsu i x hx hU h0 => by
  refine h.done u hu (fun hm => ?_) hsu i x hx hU h0
  rcases List.mem_cons.1 hm with rfl | hm
  ·rw [hs] at hsu; cases hsu
  ·exact hn hm⟩
theorem IInv.leave (h : IInv ds U S src v j out (v :: wait)) (hj : ds.length ≤ j) : BInv ds U S src out wait :=
 ⟨h.sound, fun u hu => h.waits u (List.mem_cons_of_mem _ hu), h.srcs, fun u hu hn hsu i x hx hU h0 => by
  by_cases huv : u = v
  ·subst huv
   exact h.here i x (Nat.lt_of_lt_of_le (List.getElem?_eq_some_iff.1 hx).1 hj) hx hU h0
  ·refine h.done u hu (fun hm => ?_) hsu i x hx hU h0
   rcases List.mem_cons.1 hm with e | hm
   ·exact huv e
   ·exact hn hm⟩
theorem IInv.pass (h : IInv ds U S src v j out wait) {x : Dv} (hx : ds[j]? = some x) (hp : U j = true → 0 ≤ acrB x v → marked out (acrB x v)) : IInv ds U S src v (j + 1) out wait :=
 ⟨h.sound, h.waits, h.srcs, h.done, h.head, fun i y hi hy hU h0 => by
  rcases Nat.lt_succ_iff_lt_or_eq.1 hi with hi | rfl
  ·exact h.here i y hi hy hU h0
  ·obtain rfl : y = x := Option.some.inj (hy.symm.trans hx)
   exact hp hU h0⟩
theorem IInv.push (h : IInv ds U S src v j out wait) {x : Dv} (hx : ds[j]? = some x) {k : Nat} (hk : acrB x v = k) (hkl : k < out.length) (hU : U j = true) (hS : S v = false) : IInv ds U S src v (j + 1) (out.set k true) (wait ++ [(k : Int)]) := by
 have hv : marked out v := h.waits v (List.mem_of_mem_head? h.head)
 have hm := fun u => marked_set (out := out) hkl u
 refine ⟨fun u hu => ?_, fun u hu => ?_, fun u hu => (hm u).2 (.inr (h.srcs u hu)), fun u hu hn hsu i y hy hUi h0 => ?_, ?_, fun i y hi hy hUi h0 => ?_⟩
 ·rcases (hm u).1 hu with rfl | hu
  ·rw [← hk]; exact .step (h.sound v hv) hS hx hU (by omega)
  ·exact h.sound u hu
 ·rcases List.mem_append.1 hu with hu | hu
  ·exact (hm u).2 (.inr (h.waits u hu))
  ·exact (hm u).2 (.inl (List.mem_singleton.1 hu))
 ·rcases (hm u).1 hu with rfl | hu
  ·exact absurd (List.mem_append_right _ (List.mem_singleton.2 rfl)) hn
  ·exact (hm _).2 (.inr (h.done u hu (fun hw => hn (List.mem_append_left _ hw)) hsu i y hy hUi h0))
 ·have := h.head
  cases wait with
  | nil => simp at this
  | cons a l => simpa using this
 ·rcases Nat.lt_succ_iff_lt_or_eq.1 hi with hi | rfl
  ·exact (hm _).2 (.inr (h.here i y hi hy hUi h0))
  ·obtain rfl : y = x := Option.some.inj (hy.symm.trans hx)
   exact (hm _).2 (.inl hk)
theorem BInv.final (h : BInv ds U S src out []) : ∀ v, marked out v ↔ Rch ds U S src v := by
 intro v
 refine ⟨h.sound v, fun hr => ?_⟩
 induction hr with
 | base hv => exact h.srcs _ hv
 | step _ hs hx hU h0 ih => exact h.done _ ih (by simp) hs _ _ hx hU h0
end
end Go.Proofs.YtfaknfmndafllaaGreatDoor
namespace Go.Proofs.YtfaknfmndafllaaGreatDoor
open Go.RowKit
section
variable {P : Program} {w : World} {t e : TypeId} {bytes base n c : Nat} {A : Option Addr} {xs : List Value}
theorem run_appQ (E : ElemI P t e 1 bytes) (ty : TypeId) (h : Que w base e A n c xs) (hbase : base ≤ w.heap.size) {u : Value} {ad : Addr} {cx : Nat} (hu : w.cell? ad = some u) (h1 : u.oneCell' = true) (hby : (n + 1) * bytes ≤ 140737488355328) (h63 : n + 1 ≤ 9223372036854775807) :
 ∃ A' c' w', (Builtin.append_ #[t, t] ty #[.slice A n c, .slice (some ad) 1 cx]).run P w = .ok (.slice A' (n + 1) c') w' ∧ Que w' base e A' (n + 1) c' (xs ++ [u]) ∧ w.grownBy w' (Value.slice A n c).ownBlock ∧
  ((Value.slice A' (n + 1) c').ownBlock = (Value.slice A n c).ownBlock ∨ (Value.slice A' (n + 1) c').ownBlock = some w.heap.size) := by
 obtain ⟨ht, ⟨i, z, hi, hz, hs, hb, hzc⟩, hp⟩ := E
 obtain ⟨q1, q2, q3, q4, q5⟩ := h
 have hz0 : ad.add 0 = ad := by cases ad with | mk b o s => cases s <;> simp [Addr.add]
 have hsrc : Src P i.size t (.slice (some ad) 1 cx) 1 [u] w := by
  rw [hs]
  refine Src.ofSlice w ht ad 1 cx [u] rfl (fun j v hv => ?_) (by simpa using h1)
  cases j with
  | zero => simp at hv; subst hv; rw [hz0]; exact hu
  | succ j => simp at hv
 by_cases hr : n + 1 ≤ c
 ·obtain ⟨g, off, cur, rfl, hh, ho, hx⟩ := q5 (by omega)
  have hcell : ∀ k, w.cell? ⟨g, k, none⟩ = cur[k]? := fun k => cell_of_row w g k cur e (0, 0) hh
  have hrun := run_append_room_src w t t ty e i ht hi g off n c _ 1 [u] hsrc hr (fun j hj => by
   simp at hj; subst hj
   rw [hcell, hs]; simp; omega) (fun j hj => frozen_of_row w g _ cur e hh)
  rw [hs] at hrun
  simp only [Nat.mul_one, World.setCells] at hrun
  refine ⟨_, c, _, hrun, ⟨by simp [q1], hr, q3, fun a ha => ?_, fun _ => ⟨g, off, cur.setIfInBounds (off + n) u, rfl, heap_setCell_same w g _ cur e u hh, by simpa using ho, fun j v hv => ?_⟩⟩, grown_cell w _ _, .inl rfl⟩
  ·have := q4 a ha
   simpa [World.setCell] using this
  ·rcases Nat.lt_or_ge j n with hj | hj
   ·rw [List.getElem?_append_left (by omega)] at hv
    rw [Array.getElem?_setIfInBounds, if_neg (by omega)]
    exact hx j v hv
   ·have hj' : j = n := by
     have := (List.getElem?_eq_some_iff.1 hv).1
     simp at this; omega
    subst hj'
    rw [← q1] at hv
    simp at hv
    subst hv
    rw [Array.getElem?_setIfInBounds, if_pos rfl, if_pos (by omega)]
 ·have hold : (Builtin.firstCells i.size n (.slice A n c)).run P w.drew = .ok xs.toArray w.drew := by
   rw [hs]
   rcases Nat.eq_zero_or_pos c with h0 | h0
   ·have hn0 : n = 0 := by omega
    subst hn0
    have hx0 : xs = [] := List.eq_nil_of_length_eq_zero q1
    subst hx0
    cases A with
    | none => exact run_firstCells_none _ _ _ _ _
    | some a => exact run_firstCells_some _ _ _ a _ _ [] rfl (fun j v hv => by simp at hv)
   ·obtain ⟨g, off, cur, rfl, hh, ho, hx⟩ := q5 h0
    refine run_firstCells_some _ _ _ _ _ _ xs (by omega) (fun j v hv => ?_)
    rw [add_plain]
    exact (cell_of_row w g _ cur e (0, 0) hh).trans (hx j v hv)
  have hcap := nextslicecap_le (need := n + 1) (old := c) (by omega)
  have hfit : Builtin.nextslicecap (n + 1) c * i.bytes ≤ 281474976710656 := by
   rw [hb]
   calc Builtin.nextslicecap (n + 1) c * bytes ≤ (2 * (n + 1)) * bytes := Nat.mul_le_mul_right _ hcap
    _ ≤ 281474976710656 := by rw [Nat.mul_assoc]; omega
  have hrun := run_append_grow_src w t t ty e i z ht hi hz A n c xs hold _ 1 [u] hsrc (by omega) (by omega) hfit
  have hge := grownCap_ge w (n + 1) c e
  have hle := grownCap_le_maxLen w (n + 1) c e (by simpa [maxLen] using h63)
  refine ⟨_, _, _, hrun, ⟨by simp [q1], hge, by simpa [maxLen] using hle, fun a ha => ?_, fun _ => ⟨w.heap.size, 0, _, rfl, heap_alloc_new w.drew _, ?_, fun j v hv => ?_⟩⟩, ?_, .inr rfl⟩
  ·injection ha with ha
   subst ha
   exact ⟨hbase, by simp⟩
  ·have hzs : (Builtin.zeroCells z.cells (grownCap w (n + 1) c e - (n + 1))).size = grownCap w (n + 1) c e - (n + 1) := by
    rw [size_zeroCells, hzc]; omega
   simp [q1, hzs]; omega
  ·rw [Nat.zero_add, Array.getElem?_append_left (by have := (List.getElem?_eq_some_iff.1 hv).1; simpa using this)]
   simpa using hv
  ·exact ⟨rfl, rfl, rfl, by simp, fun k hk _ => Below.heap_alloc w.drew _ k hk⟩
variable {o : Oper} {a : Act}
theorem wpList_appQ {ops : Array Oper} {rest : List Oper} {Q : Exit → Act → World → Prop} (hgd : o.guard = none) (s x : Operand) (ho : o.op = .call { callee := .builtin .append, args := #[s, x], argTypes := #[t, t] })
 (E : ElemI P t e 1 bytes) (hs : a.eval s = .slice A n c) (h : Que w base e A n c xs) (hbase : base ≤ w.heap.size) {u : Value} {ad : Addr} {cx : Nat} (hx : a.eval x = .slice (some ad) 1 cx) (hu : w.cell? ad = some u) (h1 : u.oneCell' = true) (hby : (n + 1) * bytes ≤ 140737488355328) (h63 : n + 1 ≤ 9223372036854775807)
 (hK : ∀ A' c' w', Que w' base e A' (n + 1) c' (xs ++ [u]) → w.grownBy w' (Value.slice A n c).ownBlock → ((Value.slice A' (n + 1) c').ownBlock = (Value.slice A n c).ownBlock ∨ (Value.slice A' (n + 1) c').ownBlock = some w.heap.size) → wpList P ops Q rest (a.put o.dst (.slice A' (n + 1) c')) w') : wpList P ops Q (o :: rest) a w := by
 refine wpList_plain hgd fun K hK' => ?_
 obtain ⟨A', c', w', hr, h2, h3, h4⟩ := run_appQ E o.type h hbase (cx := cx) hu h1 hby h63
 unfold Oper.wp execOp
 simp only [ho, resolve, invoke, builtin, Sem.run_bind, Sem.run_pure, Result.andThen_ok, List.map_toArray, List.map_cons, List.map_nil, hs, hx, hr]
 exact hK' _ _ (hK A' c' w' h2 h3 h4)
end
end Go.Proofs.YtfaknfmndafllaaGreatDoor
namespace Go.Proofs.YtfaknfmndafllaaGreatDoor
open Go.RowKit
theorem few_any (A : Option Addr) (n c : Nat) (w : World) (hn : n ≤ 9223372036854775807) : Calls Tryz.prog 8 #[.slice A n c] w fun e w' => e = .returned (.bool (decide (n ≤ 400))) ∧ w = w' := by
 go_enter Tryz.func8, Tryz.ntmps8
 go_wp2
 go_ret
 exact ⟨ret_bool (by simp; omega), rfl⟩
def DeckAt (w : World) (g : Nat) : Prop :=
 ∃ (A : Option Addr) (n c k : Nat) (l : List Int) (s : Int), w.heap[g]? = some (.cells #[.slice A n c, .int .i64 k, .int .u64 s] 83 (0, 0)) ∧ Sl w g 1 A n c (intsV l) ∧ k ≤ n ∧ 0 ≤ s ∧ s < 18446744073709551616
theorem DeckAt.lt {w : World} {g : Nat} (h : DeckAt w g) : g < w.heap.size := by
 obtain ⟨A, n, c, k, l, s, hh, _⟩ := h
 exact (Array.getElem?_eq_some_iff.1 hh).1
theorem DeckAt.keep {w w' : World} {g : Nat} (h : DeckAt w g) (hk : ∀ i, i ≤ g → w'.heap[i]? = w.heap[i]?) : DeckAt w' g := by
 obtain ⟨A, n, c, k, l, s, hh, hs, h1, h2, h3⟩ := h
 exact ⟨A, n, c, k, l, s, (hk g (Nat.le_refl _)).trans hh, hs.keep fun p hp => World.cell?_of_block (hk p.block (by omega)), h1, h2, h3⟩
theorem DeckAt.below {w w' : World} {g B : Nat} (h : DeckAt w g) (hb : Below B w w') (hg : g < B) : DeckAt w' g := h.keep fun i hi => hb.block i (by omega)
theorem DeckAt.alloc {w : World} {g : Nat} (h : DeckAt w g) (o : Obj) : DeckAt (w.alloc o) g := h.keep fun i hi => Below.heap_alloc w o i (by have := h.lt; omega)
theorem DeckAt.drewN {w : World} {g : Nat} (h : DeckAt w g) (n : Nat) : DeckAt (w.drewN n) g := h
theorem DeckAt.drew {w : World} {g : Nat} (h : DeckAt w g) : DeckAt w.drew g := h
theorem DeckAt.setCell {w : World} {g : Nat} (h : DeckAt w g) {p : Addr} (hp : g < p.block) (u : Value) : DeckAt (w.setCell p u) g := h.keep fun i hi => Below.heap_setCell w p u i (by omega)
theorem DeckAt.grown {w w' : World} {g : Nat} (h : DeckAt w g) {row : Option Nat} (hg : w.grownBy w' row) (hr : ∀ k, row = some k → g < k) : DeckAt w' g :=
 h.keep fun i hi => hg.block i (by have := h.lt; omega) (fun e => by have := hr _ e.symm; omega)
theorem new_any (A : Option Addr) (n c B : Nat) (l : List Int) (w : World) (hr : Sl w B 1 A n c (intsV l)) (hB : B ≤ w.heap.size) :
 Calls Tryz.prog 10 #[.slice A n c] w fun e w' => e = .returned (.pointer (some ⟨w.heap.size, 0, none⟩)) ∧ Hid (DeckAt w' w.heap.size) ∧ Hid (Below w.heap.size w w') ∧ Hid (w'.heap.size = w.heap.size + 1) := by
 go_enter Tryz.func10, Tryz.ntmps10
 go_wp2
 go_ret
 refine ⟨rfl, ⟨A, n, c, 0, l, 88172645463325252, heap_alloc_new w _, (hr.more hB).alloc (Nat.le_refl _) _, Nat.zero_le _, by decide, by decide⟩, (Below.refl _ _).alloc (Nat.le_refl _) _, by unfold Hid; simp⟩
theorem wrap_u64_in (t : Int) : 0 ≤ IntKind.u64.wrap t ∧ IntKind.u64.wrap t < 18446744073709551616 := by
 have : IntKind.u64.wrap t = t % 18446744073709551616 := by simp [IntKind.wrap, IntKind.bits, IntKind.signed]
 omega
theorem next_rem (t n : Int) (hn : 1 ≤ n) : 0 ≤ wrap64 ((IntKind.u64.wrap t / 8589934592).tmod n) ∧ wrap64 ((IntKind.u64.wrap t / 8589934592).tmod n) < n := by
 obtain ⟨h0, h1⟩ := wrap_u64_in t
 generalize IntKind.u64.wrap t = q at *
 have hq : 0 ≤ q / 8589934592 ∧ q / 8589934592 ≤ 2147483647 := by omega
 generalize q / 8589934592 = z at *
 rw [Int.tmod_eq_emod_of_nonneg hq.1]
 have h2 := Int.emod_nonneg z (show n ≠ 0 by omega)
 have h3 := Int.emod_lt_of_pos z (show 0 < n by omega)
 have h4 : z % n ≤ z := by
  rcases Int.lt_or_le z n with h | h
  ·rw [Int.emod_eq_of_lt hq.1 h]; exact Int.le_refl _
  ·omega
 rw [IntWalk.wrap64_in _ ⟨by omega, by omega⟩]
 omega
section
variable {w : World} {g m c k : Nat} {A : Option Addr} {s : Int} {l : List Int}
theorem only_one (w : World) (g d : Nat) (u : Value) :
 w.grownBy ((w.drewN d).setCell ⟨g, 2, none⟩ u) (some g) ∧ ((w.drewN d).setCell ⟨g, 2, none⟩ u).heap.size = w.heap.size :=
 ⟨⟨rfl, rfl, rfl, by simp [World.setCell], fun i _ hi => Below.heap_setCell (w.drewN d) _ u i (fun e => hi (by rw [e]))⟩, by simp [World.setCell]⟩
theorem only_two (w : World) (g d : Nat) (u v : Value) :
 w.grownBy (((w.drewN d).setCell ⟨g, 1, none⟩ u).setCell ⟨g, 2, none⟩ v) (some g) ∧ (((w.drewN d).setCell ⟨g, 1, none⟩ u).setCell ⟨g, 2, none⟩ v).heap.size = w.heap.size :=
 ⟨⟨rfl, rfl, rfl, by simp [World.setCell], fun i _ hi => (Below.heap_setCell _ _ v i (fun e => hi (by rw [e]))).trans (Below.heap_setCell (w.drewN d) _ u i (fun e => hi (by rw [e])))⟩, by simp [World.setCell]⟩
theorem deck_one (hh : w.heap[g]? = some (.cells #[.slice A m c, .int .i64 k, .int .u64 s] 83 (0, 0))) (hs : Sl w g 1 A m c (intsV l)) (hk : k ≤ m) (t : Int) :
 DeckAt (w.setCell ⟨g, 2, none⟩ (.int .u64 (IntKind.u64.wrap t))) g := by
 refine ⟨A, m, c, k, l, IntKind.u64.wrap t, ?_, hs.setCell (Nat.le_refl _) _, hk, wrap_u64_in t⟩
 simp [World.setCell, Array.getElem?_modify, hh]
theorem deck_two (hh : w.heap[g]? = some (.cells #[.slice A m c, .int .i64 k, .int .u64 s] 83 (0, 0))) (hs : Sl w g 1 A m c (intsV l)) (hk : k < m) (t : Int) :
 DeckAt ((w.setCell ⟨g, 1, none⟩ (.int .i64 ((k : Int) + 1))).setCell ⟨g, 2, none⟩ (.int .u64 (IntKind.u64.wrap t))) g := by
 refine ⟨A, m, c, k + 1, l, IntKind.u64.wrap t, ?_, (hs.setCell (Nat.le_refl _) _).setCell (Nat.le_refl _) _, hk, wrap_u64_in t⟩
 simp [World.setCell, Array.getElem?_modify, hh]
end
def NextPost (w : World) (g : Nat) (n : Int) (e : Ending) (w' : World) : Prop :=
 ∃ r : Int, e = .returned (.int .i64 r) ∧ 0 ≤ r ∧ Hid (n < 1 → r = 0) ∧ Hid (1 ≤ n → r < n) ∧ Hid (DeckAt w' g) ∧ Hid (w.grownBy w' (some g)) ∧ Hid (w'.heap.size = w.heap.size)
theorem next_any (g : Nat) (n : Int) (w : World) (hd : DeckAt w g) (hn : n ≤ 9223372036854775807) : Calls Tryz.prog 12 #[.pointer (some ⟨g, 0, none⟩), .int .i64 n] w (NextPost w g n) := by
 have hlt := hd.lt
 obtain ⟨A, m, c, k, l, s, hh, hs, h1, h2, h3⟩ := hd
 obtain ⟨hmc, hcm⟩ := hs.le
 have c0 : w.cell? ⟨g, 0, none⟩ = some (.slice A m c) := cell_of_row w g 0 _ _ _ hh
 have c1 : w.cell? ⟨g, 1, none⟩ = some (.int .i64 k) := cell_of_row w g 1 _ _ _ hh
 have c2 : w.cell? ⟨g, 2, none⟩ = some (.int .u64 s) := cell_of_row w g 2 _ _ _ hh
 have f0 : ∀ j, w.frozen? ⟨g, j, none⟩ = false := fun j => by simp [World.frozen?, hh]
 have f1 := f0 1
 have f2 := f0 2
 have HH := Lib.hid hh; have HS := Lib.hid hs
 clear hh hs f0
 have H3 := Lib.hid h3; clear h3
 by_cases hk : k < m
 ·obtain ⟨b, off, x, rfl, hb, hx, hcell⟩ := HS.out.at1 hk
  clear hx
  have hki : (k : Int) < (m : Int) := by omega
  go_enter Tryz.func12, Tryz.ntmps12
  go_wp2_with fail
  go_quiet (fail)
  go_wp2_with fail
  go_quiet (fail)
  go_wp2_with fail
  ·go_ret
   exact ⟨_, rfl, Int.le_refl _, fun _ => rfl, fun h => absurd h (by omega), deck_two HH.out HS.out hk _, only_two w g _ _ _⟩
  ·go_ret
   have hr := next_rem (IntKind.u64.wrap (IntKind.u64.wrap (s * 6364136223846793005) + IntKind.u64.wrap x) + 1442695040888963407) n (by omega)
   exact ⟨_, rfl, hr.1, fun h => absurd h (by omega), fun _ => hr.2, deck_two HH.out HS.out hk _, only_two w g _ _ _⟩
 ·have hki : decide ((k : Int) < (m : Int)) = false := by simp; omega
  go_enter Tryz.func12, Tryz.ntmps12
  go_wp2_with fail
  go_quiet (fail)
  go_wp2_with fail
  ·go_ret
   exact ⟨_, rfl, Int.le_refl _, fun _ => rfl, fun h => absurd h (by omega), deck_one HH.out HS.out h1 _, only_one w g _ _⟩
  ·go_ret
   have hr := next_rem (IntKind.u64.wrap (IntKind.u64.wrap (s * 6364136223846793005)) + 1442695040888963407) n (by omega)
   exact ⟨_, rfl, hr.1, fun h => absurd h (by omega), fun _ => hr.2, deck_one HH.out HS.out h1 _, only_one w g _ _⟩
end Go.Proofs.YtfaknfmndafllaaGreatDoor
