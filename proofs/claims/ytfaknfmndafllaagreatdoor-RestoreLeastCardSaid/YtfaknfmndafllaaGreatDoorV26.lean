import Derived.Test.YtfaknfmndafllaaGreatDoorV00
import Derived.Test.YtfaknfmndafllaaGreatDoorShelf
import Derived.Sort.OwnSortedInts
import Derived.Test.YtfaknfmndafllaaGreatDoorV05
import Derived.Test.YtfaknfmndafllaaGreatDoorV03
import Derived.Test.YtfaknfmndafllaaGreatDoorV12
import Derived.Test.YtfaknfmndafllaaGreatDoorV13
import Derived.Test.YtfaknfmndafllaaGreatDoorV10
import Derived.Test.YtfaknfmndafllaaGreatDoorV04
import Derived.Test.YtfaknfmndafllaaGreatDoorV19
import Derived.Shelf.SlicesE.DeleteFunc
import Derived.Lib.SliceRun
set_option maxRecDepth 100000
set_option maxHeartbeats 16000000
namespace Go.Proofs.YtfaknfmndafllaaGreatDoor
open Go.RowKit
def sortL (l : List Int) : List Int := l.mergeSort fun x y => decide (x ≤ y)
def hasB (l : List Int) (x : Int) : Bool := l.contains x
theorem hasB_iff (l : List Int) (x : Int) : hasB l x = true ↔ x ∈ l := by unfold hasB; simp
theorem hasB_not (l : List Int) (x : Int) : hasB l x = false ↔ x ∉ l := by rw [← hasB_iff]; simp
theorem sortL_perm (l : List Int) : (sortL l).Perm l := List.mergeSort_perm _ _
theorem sortL_len (l : List Int) : (sortL l).length = l.length := (sortL_perm l).length_eq
theorem sortL_sorted (l : List Int) : (sortL l).Pairwise (· ≤ ·) := by
 have h := List.pairwise_mergeSort (le := fun x y : Int => decide (x ≤ y)) (fun a b c h1 h2 => by simp at *; omega) (fun a b => by simp; omega) l
 exact h.imp (fun h => by simpa using h)
theorem sort_any (A : Option Addr) (n c base : Nat) (l : List Int) (w : World) (h : IntsO w base A n c l) (hn : n ≤ 1000000) :
 Calls Tryz.prog 184 #[.slice A n c] w fun e w' => e = .returned (.tuple #[]) ∧ Hid (IntsO w' base A n c (sortL l)) ∧ Hid (w.grownBy w' (Value.slice A n c).ownBlock) := by
 have hl := h.len
 rcases h.2 with ⟨hv, h0⟩ | ⟨g, cap, cur, hv, hb, hh, hnc, hm, hs, ht⟩
 ·injection hv with h1 h2 h3
  subst h1 h3 h0
  have : l = [] := List.eq_nil_of_length_eq_zero hl
  subst this
  refine (Tryz.slices_Sort_int_none none 0 w).mono ?_
  rintro e w1 ⟨rfl, rfl⟩
  exact ⟨rfl, by unfold Hid sortL; simpa using h, grown_refl _ _⟩
 ·injection hv with h1 h2 h3
  subst h1 h3
  subst hl
  rw [Nat.mul_one, intsV_map] at ht
  refine (Tryz.slices_Sort_int g 0 c l w (holds_of_blockI hh ht) (h.lt g rfl).2 (by omega)).mono ?_
  rintro e w1 ⟨rfl, k, os, rfl⟩
  refine ⟨rfl, ?_, grownBy_sortedI _⟩
  have := ownsRow_sortedI (n := k) (os := os) (ss := l) (ts := sortL l) (sortL_len l) hb hh hnc hm hs
  unfold Hid IntsO
  rw [intsV_map]
  exact this
theorem contains_any (A : Option Addr) (n c B : Nat) (l : List Int) (x : Int) (w : World) (h : Sl w B 1 A n c (intsV l)) :
 Calls Tryz.prog 76 #[.slice A n c, .int .i64 x] w fun e w' => e = .returned (.bool (hasB l x)) ∧ w = w' := by
 have hl : l.length = n := h.len (fun _ => rfl) (by decide)
 have hle := h.le
 rcases Nat.eq_zero_or_pos n with rfl | h0
 ·have : l = [] := List.eq_nil_of_length_eq_zero hl
  subst this
  refine (Tryz.slices_Contains_int_empty A c x w).mono ?_
  rintro e w1 ⟨rfl, rfl⟩
  exact ⟨rfl, rfl⟩
 ·obtain ⟨b, off, e, hb, hc⟩ := h.2.2.2.2 h0
  subst e
  refine (Tryz.slices_Contains_int b off n c l x w (by omega) (by omega) (fun j hj => hc j _ ?_)).mono ?_
  ·have := flat_at (f := fun z => [Value.int .i64 z]) (size := 1) (fun _ => rfl) l j 0 _ (List.getElem?_eq_getElem hj) (by decide)
   rw [Nat.mul_one] at this
   rw [List.getD_eq_getElem?_getD, List.getElem?_eq_getElem hj]
   exact this
  ·rintro e w1 ⟨rfl, rfl⟩
   rw [List.take_of_length_le (by omega)]
   exact ⟨rfl, rfl⟩
end Go.Proofs.YtfaknfmndafllaaGreatDoor
namespace Go.Proofs.YtfaknfmndafllaaGreatDoor
open Go.RowKit
def opsV (l : List (Int × Int)) : List Value := l.flatMap fun o => [.int .i64 o.1, .int .i64 o.2]
theorem gdM_iff {st : Nat → Nat → Option Nat} {D : Nat → Int} {gs : List Nat} {L : Nat} {t : Int} {b : Nat} : gdM st D gs L t b = true ↔ t ≤ D b ∧ D b ≤ L ∧ Gd st D gs L b := by
 simp only [gdM, decide_eq_true_eq]
theorem wk_state {perm : List Int → Nat → Bool} {s : List Int} {M : Nat → Nat} {m : Nat} (hM : Inj M m) {p : List Nat} {b : Nat} (h : wk (stE (edS perm s M m) nbB) 0 p = some b) : wk (stS perm M m) s p = some (sbN s M b m) := by
 have := (wk_map (st := stE (edS perm s M m) nbB) (su := stS perm M m) (φ := fun b => sbN s M b m) (I := fun _ => True) (fun a i _ => stS_map hM a i) (fun _ _ _ _ _ => trivial) p 0 trivial).1
 rw [sbN_zero, h] at this
 exact this
theorem opsV_snoc {perm : List Int → Nat → Bool} {s t : List Int} {M : Nat → Nat} {m : Nat} {p : List Nat} (i : Nat) (h : wk (stS perm M m) s p = some t) : opsV (opsP M s (p ++ [i])) = opsV (opsP M s p) ++ opC M t i := by
 unfold opsV
 rw [opsP_snoc i p s t h, List.flatMap_append]
 rfl
def FnPost (w : World) (s : List Int) (M : Nat → Nat) (m : Nat) (perm : List Int → Nat → Bool) (goal : List Int → Option Int) (e : Ending) (w' : World) : Prop :=
 ((e = .returned (.tuple #[.slice none 0 0, .bool false]) ∧ NoneIs (stS perm M m) s goal) ∨ ∃ (p : List Nat) (A : Option Addr) (c : Nat), e = .returned (.tuple #[.slice A p.length c, .bool true]) ∧ SomeIs (stS perm M m) s goal p ∧ p.length ≤ 2 ^ m ∧ w'.ownsRow w.heap.size 62 2 (.slice A p.length c) p.length (opsV (opsP M s p))) ∧ Hid (Below w.heap.size w w')
theorem PermC.later {w W : World} {fp n m : Nat} {lp : Array Value} {s : List Int} {M : Nat → Nat} {perm : List Int → Nat → Bool} (h : PermC w fp lp n m s M perm) (hb : Below w.heap.size w W) : PermC W fp lp n m s M perm := fun V A c b i hV => h V A c b i (hb.trans (hV.mono hb.size))
theorem GoalC.later {w W : World} {gp n m : Nat} {bg lg : Array Value} {s : List Int} {M : Nat → Nat} {goal : List Int → Option Int} (h : GoalC w gp bg lg n m s M goal) (hb : Below w.heap.size w W) : GoalC W gp bg lg n m s M goal := fun V A c b hV => h V A c b (hb.trans (hV.mono hb.size))
def FwW (s : List Int) (M : Nat → Nat) (m : Nat) (perm : List Int → Nat → Bool) (D : Nat → Int) (gs : List Nat) (L : Nat) : List Nat → Nat → Prop := Way (stE (edS perm s M m) nbB) D gs L
def FwI (W wr : World) (s : List Int) (M : Nat → Nat) (A : Option Addr) (c : Nat) (p : List Nat) : Prop := wr.ownsRow W.heap.size 62 2 (.slice A p.length c) p.length (opsV (opsP M s p)) ∧ Below W.heap.size W wr
theorem FwI.later {W wr wr' : World} {s : List Int} {M : Nat → Nat} {A : Option Addr} {c : Nat} {p : List Nat} (h : FwI W wr s M A c p) (hb : Below wr.heap.size wr wr') : FwI W wr' s M A c p := ⟨own_later h.1 hb, h.2.trans (hb.mono h.2.size)⟩
def Fl1 (W : World) (s : List Int) (M : Nat → Nat) (m : Nat) (perm : List Int → Nat → Bool) (D : Nat → Int) (gs : List Nat) (L : Nat) (gk : Nat) (v8 v9 : Value) (wr : World) : Prop :=
 ∃ (p : List Nat) (b : Nat) (A : Option Addr) (c : Nat), v8 = .slice A p.length c ∧ v9 = .int .i64 b ∧ gk = L - p.length ∧ Hid (FwW s M m perm D gs L p b) ∧ Hid (FwI W wr s M A c p)
def onB (st : Nat → Nat → Option Nat) (D : Nat → Int) (gs : List Nat) (L b i : Nat) : Prop := D (nbB b i) = D b + 1 ∧ Gd st D gs L (nbB b i)
def Fl2 (W : World) (s : List Int) (M : Nat → Nat) (m : Nat) (perm : List Int → Nat → Bool) (D : Nat → Int) (gs : List Nat) (L : Nat) (p : List Nat) (b : Nat) (A : Option Addr) (c : Nat) (gk : Nat) (v8 v9 iv : Value) (wr : World) : Prop :=
 ∃ j : Nat, v8 = .slice A p.length c ∧ v9 = .int .i64 b ∧ iv = .int .i64 j ∧ j ≤ (edS perm s M m b).length ∧ gk = (edS perm s M m b).length - j ∧ Hid (∀ j' i', j' < j → (edS perm s M m b)[j']? = some i' → ¬ onB (stE (edS perm s M m) nbB) D gs L b i') ∧ Hid (FwI W wr s M A c p)
theorem ptfind_any (fp gp : Nat) (lp bg lg : Array Value) (As Am : Option Addr) (n cs m cm : Nat) (s : List Int) (M : Nat → Nat) (perm : List Int → Nat → Bool) (goal : List Int → Option Int) (w : World) (hs : Sl w w.heap.size 1 As n cs (intsV s)) (hm : Sl w w.heap.size 1 Am m cm (intsV (mvL m M))) (hn : n ≤ 64) (hm10 : m ≤ 10) (hM : ∀ i, i < m → M i < n) (hp : PosL s) (hI : Inj M m)
 (heP : ∀ (args : Array Value) (W : World), (callFunc fp args).run Tryz.prog W = .ok (.enter fp args) W) (heG : ∀ (args : Array Value) (W : World), (callFunc gp args).run Tryz.prog W = .ok (.enter gp args) W) (hP : PermC w fp lp n m s M perm) (hG : GoalC w gp bg lg n m s M goal) :
 Calls Tryz.prog 41 #[.agg #[.slice As n cs, .slice Am m cm, .func (.func fp) #[] lp], .func (.func gp) bg lg] w (FnPost w s M m perm goal) := by
 have HBL : Hid (Below w.heap.size w (w.alloc (.cells #[.slice As n cs, .slice Am m cm, .func (.func fp) #[] lp] 90))) := (Below.refl _ _).alloc (Nat.le_refl _) _
 have HB := Lib.hid (Blk.new w 90 #[.slice As n cs, .slice Am m cm, .func (.func fp) #[] lp])
 have HC := Lib.hid (ptreach_any fp gp lp bg lg As Am n cs m cm s M perm goal (w.alloc (.cells #[.slice As n cs, .slice Am m cm, .func (.func fp) #[] lp] 90)) ((hs.below HBL.out (Nat.le_refl _)).more HBL.out.size) ((hm.below HBL.out (Nat.le_refl _)).more HBL.out.size) hn hm10 hM hp heP heG (hP.later HBL.out) (hG.later HBL.out))
 have HI := Lib.hid hI
 clear hs hm hP hG heP heG hI
 go_enter Tryz.func41, Tryz.ntmps41
 go_upto_region 1 with (fail)
 generalize World.alloc w _ = W at *
 obtain ⟨N, hN⟩ : ∃ N, N = 2 ^ m := ⟨_, rfl⟩
 rw [← hN] at HC
 have hN1 : 1 ≤ N := by rw [hN]; exact Nat.two_pow_pos m
 have hN2 : N ≤ 1024 := by rw [hN]; exact Nat.pow_le_pow_right (n := 2) (by decide) hm10
 have HN := Lib.hid hN
 clear hN
 have p0 := HB.out.cell 0; have p1 := HB.out.cell 1; have p2 := HB.out.cell 2
 go_wp2_with fail
 refine HC.out.mono ?_
 rintro e w1 ⟨db, eb, ob, gc, D, Ex, gs, least, G, rfl, hM1, hSp, hRng, hb1⟩
 clear HC p0 p1 p2 HB
 have HSP := Lib.hid hSp.out; have HRG := Lib.hid hRng.out
 have HL1 : Hid (Below w.heap.size w (w1.alloc (.cells #[.slice (some ⟨db, 0, none⟩) N N, .slice (some ⟨eb, 0, none⟩) N N, .slice (some ⟨ob, 0, none⟩) N N, .slice G gs.length gc, .int .i64 least] 129))) := (HBL.out.trans (hb1.out.mono HBL.out.size)).alloc (Nat.le_trans HBL.out.size hb1.out.size) _
 have HM1 := Lib.hid (hM1.out.later ((Below.refl _ _).alloc (Nat.le_refl _) (.cells #[.slice (some ⟨db, 0, none⟩) N N, .slice (some ⟨eb, 0, none⟩) N N, .slice (some ⟨ob, 0, none⟩) N N, .slice G gs.length gc, .int .i64 least] 129)))
 have HX := Lib.hid (Blk.new w1 129 #[.slice (some ⟨db, 0, none⟩) N N, .slice (some ⟨eb, 0, none⟩) N N, .slice (some ⟨ob, 0, none⟩) N N, .slice G gs.length gc, .int .i64 least])
 clear hM1 hSp hRng hb1
 go_upto_region 2 with (fail)
 obtain ⟨x, hx⟩ : ∃ x, x = w1.heap.size := ⟨_, rfl⟩
 rw [← hx] at HX ⊢
 clear hx
 generalize World.alloc w1 _ = V at *
 have HC := Lib.hid (ptgood_any db eb ob N gc (edS perm s M m) _ (fun b => goal (sbN s M b m)) D Ex gs least G V HM1.out hN2 HRG.out.1 HRG.out.2.1 HRG.out.2.2 (fun b hb i hi => ⟨by have := (edS_mem.1 hi).1; omega, by rw [HN.out]; exact nbB_lt (by rw [← HN.out]; exact hb) (edS_mem.1 hi).1⟩) (fun b => Nat.le_trans (edS_len perm s M m b) hm10) HSP.out)
 have c0 := HX.out.cell 0; have c1 := HX.out.cell 1; have c2 := HX.out.cell 2; have c3 := HX.out.cell 3; have c4 := HX.out.cell 4
 go_wp2_with fail
 refine HC.out.mono ?_
 rintro e w2 ⟨g, mk, rfl, hRm, hno, hyes, hb2⟩
 have HRM := Lib.hid hRm.out; have HNO := Lib.hid hno.out; have HYES := Lib.hid hyes.out
 have HL2 := Lib.hid (HL1.out.trans (hb2.out.mono HL1.out.size))
 have HM2 := Lib.hid (HM1.out.later hb2.out)
 have HX2 := Lib.hid (HX.out.below hb2.out HX.out.lt)
 clear HC c0 c1 c2 c3 c4 hRm hno hyes hb2 HM1 HX HL1 HBL
 have hg0 := HRM.out.at hN1
 have hnN : N ≤ 9223372036854775807 := by omega
 by_cases hgs : gs = []
 ·have hmk := HNO.out hgs 0
  rw [hmk] at hg0
  have HNN : Hid (NoneIs (stS perm M m) s goal) := by
   rcases HSP.out with h | ⟨L, c, h⟩
   ·exact find_states (r := none) HI.out h.2
   ·exact absurd hgs h.ne
  clear hgs hmk
  go_wp2_with fail
  go_ret2
  exact ⟨.inl ⟨rfl, HNN.out⟩, HL2.out⟩
 obtain ⟨L, c, hok⟩ : ∃ (L : Nat) (c : Int), SpOk (stE (edS perm s M m) nbB) (fun b => goal (sbN s M b m)) N D Ex gs L c := by
  rcases HSP.out with h | h
  ·exact absurd h.1 hgs
  ·exact h
 have hmk : mk 0 = true := by
  rw [HYES.out L c hok 0 hN1]
  exact gdM_iff.2 ⟨by rw [hok.z]; omega, by rw [hok.z]; omega, hok.gd0⟩
 rw [hmk] at hg0
 have HOK := Lib.hid hok
 clear hok hmk hgs HSP HNO
 go_wp2_with fail
 refine wp_loop_u2 [(7, 0), (0, 2), (0, 3), (2, 1), (8, 0), (50, 1), (0, 0)] 8 9 (L) (Fl1 w2 s M m perm D gs L) (by (try dsimp only [gt]); exact ⟨[], 0, none, 0, rfl, rfl, rfl, HOK.out.way0, World.ownsRow_nil _ _ _ _, Below.refl _ _⟩) (by kernel_rfl) ?_
 intro u1 p8 p9 gk wr a hrel ha J1 K1 hJ1 hK1
 dsimp only [relaxR, Go.Proofs.YtfaknfmndafllaaGreatDoor.v2, Nat.reduceAdd] at ha
 subst ha
 obtain ⟨p, b, A, cA, rfl, rfl, rfl, hW, hFI⟩ := hrel
 have HW := Lib.hid hW.out; have HFI := Lib.hid hFI.out
 clear hW hFI hg0
 have HXW := Lib.hid (HX2.out.below HFI.out.2 HX2.out.lt)
 have HMW := Lib.hid (HM2.out.later HFI.out.2)
 have HRW := Lib.hid (HRM.out.below HFI.out.2 HRM.out.lt)
 have hbD : D b = p.length := HW.out.n
 have hbN : b < N := HOK.out.lt b (by rw [hbD]; omega)
 have hpL : p.length ≤ L := SpOk.way_le HW.out
 have hLN : L ≤ N := by
  obtain ⟨b1, h1⟩ := List.exists_mem_of_ne_nil _ HOK.out.ne
  have h2 := ((HOK.out.g b1).1 h1).1
  have := (HRG.out.1 b1).2
  omega
 have HBD := Lib.hid hbD
 clear hbD
 have c3 := HXW.out.cell 3
 have HCT := Lib.hid (contains_any G gs.length gc wr.heap.size (gs.map fun i : Nat => (i : Int)) (b : Int) wr (by rw [← natsV_int]; exact HMW.out.g))
 go_wp2_with fail
 refine HCT.out.mono ?_
 rintro e w3 ⟨rfl, rfl⟩
 clear HCT c3
 have hct : hasB (gs.map fun i : Nat => (i : Int)) (b : Int) = decide (b ∈ gs) := by
  rw [Bool.eq_iff_iff, hasB_iff, decide_eq_true_iff, List.mem_map]
  constructor
  ·rintro ⟨i, h1, h2⟩; have : i = b := by omega
   exact this ▸ h1
  ·intro h; exact ⟨b, h, rfl⟩
 rw [hct]
 clear hct
 by_cases hbg : b ∈ gs
 ·have q1 : decide (b ∈ gs) = true := by simpa using hbg
  have HE : Hid (SomeIs (stS perm M m) s goal p) := find_states (r := some p) HI.out (HOK.out.way_end HW.out hbg)
  have HF : Hid (p.length ≤ 2 ^ m) := by unfold Hid; rw [← HN.out]; omega
  clear hbg HXW HMW HRW
  go_wp2_with fail
  go_ret2
  exact ⟨.inr ⟨p, A, cA, rfl, HE.out, HF.out, HFI.out.1.mono HL2.out.size⟩, HL2.out.trans (HFI.out.2.mono HL2.out.size)⟩
 have q1 : decide (b ∈ gs) = false := by simpa using hbg
 obtain ⟨hbL, hEx⟩ := HOK.out.way_len HW.out hbg
 have hedx : edX Ex (edS perm s M m) b = edS perm s M m b := by unfold edX; rw [hEx]; rfl
 obtain ⟨A3, n3, c3', hce, hsl⟩ := HMW.out.e.at hbN
 have hce2 : w2.cell? ⟨eb, b, none⟩ = some (.slice A3 n3 c3') := by rw [← hce]; exact (HFI.out.2.cell (p := ⟨eb, b, none⟩) HM2.out.e.lt).symm
 have HSL3 : Hid (Sl w2 w2.heap.size 1 A3 n3 c3' (natsV (edS perm s M m b))) := by
  obtain ⟨A5, n5, c5, h5, h6⟩ := HM2.out.e.at hbN
  rw [hce2] at h5
  injection h5 with h5; injection h5 with e1 e2 e3
  subst e1 e2 e3
  rw [hedx] at h6
  exact h6.1
 have hn3 : (edS perm s M m b).length = n3 := by have := HSL3.out.1; rw [natsV_len, Nat.mul_one] at this; exact this
 subst hn3
 have hle10 : (edS perm s M m b).length ≤ 10 := Nat.le_trans (edS_len perm s M m b) hm10
 have k1 := HXW.out.cell 1
 have HEX := Lib.hid hedx; have HBG := Lib.hid hbg
 have hbL2 : p.length < L := by have := HBD.out; omega
 clear hsl hedx hce2 hEx hbg hbL
 go_wp2_with fail
 clear k1 hce q1 HXW HMW HRW
 refine wp_loop_u3 [(7, 0), (0, 2), (0, 3), (2, 1), (19, 0), (0, 4), (38, 1), (0, 0)] 8 9 33 ((edS perm s M m b).length) (Fl2 w2 s M m perm D gs L p b A cA) (by (try dsimp only [gt]); exact ⟨0, rfl, rfl, rfl, Nat.zero_le _, rfl, fun j' i' h => absurd h (Nat.not_lt_zero _), HFI⟩) (by kernel_rfl) ?_
 intro u2 p8 p9 p33 gk2 wx a hrel ha J2 K2 hJ2 hK2
 dsimp only [relaxR, Go.Proofs.YtfaknfmndafllaaGreatDoor.v3, Nat.reduceAdd] at ha
 subst ha
 clear HFI
 obtain ⟨j, rfl, rfl, rfl, hj, rfl, hF, hFI⟩ := hrel
 have HF := Lib.hid hF.out; have HFI := Lib.hid hFI.out
 clear hF hFI
 by_cases hlt : j < (edS perm s M m b).length; rotate_left
 ·exfalso
  obtain ⟨i, h1, h2⟩ := HOK.out.way_next HW.out HBG.out
  obtain ⟨j', hj', e⟩ := List.getElem_of_mem h1
  exact HF.out j' i (by omega) (by rw [List.getElem?_eq_getElem hj', e]) h2
 have q1 : decide (j < (edS perm s M m b).length) = true := by simpa using hlt
 obtain ⟨b2, o2, i, rfl, hb2, hi2, hc2⟩ := (show Sl wx w2.heap.size 1 A3 (edS perm s M m b).length c3' ((edS perm s M m b).flatMap fun i : Nat => [Value.int .i64 (i : Int)]) from HSL3.out.below HFI.out.2 (Nat.le_refl _)).at1 hlt
 have hil : i ∈ edS perm s M m b := List.mem_of_getElem? hi2
 have hi10 : i < 10 := by have := (edS_mem.1 hil).1; omega
 have hnt : nbB b i < N := by rw [HN.out]; exact nbB_lt (by rw [← HN.out]; exact hbN) (edS_mem.1 hil).1
 obtain ⟨y, hy⟩ : ∃ x, x = 2 ^ i := ⟨_, rfl⟩
 have hx10 : y < 1024 := by rw [hy]; exact (Nat.pow_lt_pow_right (by decide) hi10 : 2 ^ i < 2 ^ 10)
 have hshl : IntKind.i64.wrap ((2 : Int) ^ i) = (y : Int) := by rw [hy]; have := shl64 (i := i) (by omega); simpa using this
 have hxor : bits .xor .i64 (b : Int) (y : Int) = (nbB b i : Int) := by rw [xor64 (by omega) hx10, hy]; rfl
 have hjj : IntKind.i64.wrap ((j : Int) + 1) = (j : Int) + 1 := IntWalk.i64_in _ (by omega)
 have hwd : IntKind.i64.wrap (D b + 1) = D b + 1 := IntWalk.i64_in _ (by have := HRG.out.1 b; omega)
 have hnn3 : (edS perm s M m b).length ≤ 9223372036854775807 := by omega
 have HXW := Lib.hid (HX2.out.below HFI.out.2 HX2.out.lt)
 have HMW := Lib.hid (HM2.out.later HFI.out.2)
 have HRW := Lib.hid (HRM.out.below HFI.out.2 HRM.out.lt)
 have HI2 := Lib.hid hi2
 obtain ⟨u, hu⟩ : ∃ u, u = nbB b i := ⟨_, rfl⟩
 have HU := Lib.hid hu
 have HON : Hid (onB (stE (edS perm s M m) nbB) D gs L b i ↔ mk u = true ∧ D u = D b + 1) := by
  unfold Hid onB
  rw [hu, HYES.out L c HOK.out _ hnt, gdM_iff]
  have := HBD.out
  constructor
  ·rintro ⟨h1, h2⟩; exact ⟨⟨by omega, by omega, h2⟩, h1⟩
  ·rintro ⟨⟨_, _, h2⟩, h1⟩; exact ⟨h1, h2⟩
 rw [← hu] at hxor hnt
 have hcu := HMW.out.d.at hnt; have hcb := HMW.out.d.at hbN
 have hcm := HRW.out.at hnt
 have k0 := HXW.out.cell 0
 have HQ := Lib.hid fun q => below_drewN (Below.refl wx.heap.size wx) q
 clear hy hx10 hi2 hil hu
 have HF3 : Hid (¬ onB (stE (edS perm s M m) nbB) D gs L b i → ∀ j' i', j' < j + 1 → (edS perm s M m b)[j']? = some i' → ¬ onB (stE (edS perm s M m) nbB) D gs L b i') := fun hn j' i' h1 h2 => by
  by_cases e : j' = j
  ·subst e; rw [HI2.out] at h2; injection h2 with h2; exact h2 ▸ hn
  ·exact HF.out j' i' (by omega) h2
 cases hmu : mk u with
 | false =>
  rw [hmu] at hcm
  have HF2 := Lib.hid (HF3.out fun h => by rw [HON.out, hmu] at h; cases h.1)
  clear hmu
  go_upto_region 12 with (fail)
  go_quiet (fail)
  have HFR := Lib.hid fun q => HFI.out.later (HQ.out q)
  generalize hq : World.drewN wx _ = Wq
  have HFQ : Hid (FwI w2 Wq s M A cA p) := by rw [← hq]; exact HFR.out _
  clear hq HFR HQ hcu hcb hcm k0 hc2
  go_wp2_with fail
  refine Handed.intro ((edS perm s M m b).length - (j + 1)) (by omega) (hJ2 _ _ _ (LpI3.back 8 9 33 ?_ (by kernel_rfl)))
  dsimp only [gt]
  exact ⟨j + 1, rfl, rfl, rfl, hlt, rfl, HF2, HFQ⟩
 | true =>
  rw [hmu] at hcm
  by_cases hD : D u = D b + 1; rotate_left
  ·have q2 : (D u == D b + 1) = false := by simpa using hD
   have HF2 := Lib.hid (HF3.out fun h => by rw [HON.out] at h; exact hD h.2)
   clear hmu
   go_upto_region 12 with (fail)
   go_quiet (fail)
   have HFR := Lib.hid fun q => HFI.out.later (HQ.out q)
   generalize hq : World.drewN wx _ = Wq
   have HFQ : Hid (FwI w2 Wq s M A cA p) := by rw [← hq]; exact HFR.out _
   clear hq HFR HQ hcu hcb hcm k0 hc2
   go_wp2_with fail
   refine Handed.intro ((edS perm s M m b).length - (j + 1)) (by omega) (hJ2 _ _ _ (LpI3.back 8 9 33 ?_ (by kernel_rfl)))
   dsimp only [gt]
   exact ⟨j + 1, rfl, rfl, rfl, hlt, rfl, HF2, HFQ⟩
  have q2 : (D u == D b + 1) = true := by simpa using hD
  have HONY := Lib.hid (HON.out.2 ⟨hmu, hD⟩)
  have HDD := Lib.hid hD
  clear hmu hD
  go_upto_region 12 with (fail)
  go_quiet (fail)
  have HFR := Lib.hid fun q => HFI.out.later (HQ.out q)
  generalize hq : World.drewN wx _ = Wq
  have HFQ : Hid (FwI w2 Wq s M A cA p) := by rw [← hq]; exact HFR.out _
  clear hq HFR HQ hcu hcb hcm k0 hc2 q2 HXW HMW HRW HF3 hshl hxor hwd
  have HXQ := Lib.hid (HX2.out.below HFQ.out.2 HX2.out.lt)
  have HMQ := Lib.hid (HM2.out.later HFQ.out.2)
  obtain ⟨A5, n5, c5, hco, hso⟩ := HMQ.out.o.at hbN
  rw [HEX.out] at hso
  obtain ⟨b5, o5, i5, rfl, hb5, hi5, hc5⟩ := hso.1.at (fun _ => rfl) (by decide) (k := j) (by have := hso.1.1; rw [flat_len (size := 2) (fun _ => rfl)] at this; omega)
  obtain rfl : i5 = i := by rw [HI2.out] at hi5; injection hi5 with hi5; exact hi5.symm
  have e0 : Wq.cell? ⟨b5, o5 + j * 2, none⟩ = some (.int .i64 (M i5 : Int)) := hc5 0 _ rfl
  have e1 : Wq.cell? ⟨b5, o5 + j * 2 + 1, none⟩ = some (.int .i64 (3 - (sbN s M b m).getD (M i5) 0)) := hc5 1 _ rfl
  have hn5 : (edS perm s M m b).length = n5 := by have := hso.1.1; rw [flat_len (size := 2) (fun _ => rfl)] at this; omega
  subst hn5
  have hle5 := hso.1.le
  have c2 := HXQ.out.cell 2
  clear hso hi5 hc5
  go_upto_region 14 with (at_builtin; go_must (refine wpList_app rfl (.tmp 60) (.tmp 69) rfl el_opn (by rfl) (HFQ.out.1.alloc _) (by rfl) (Sl.newest (n := 1) rfl rfl (by decide)) (by simp [Value.oneCell']) (by omega) (by omega) (by have := HFQ.out.2.size; simp; omega) ?_; intro A6 c6 w6 hown6 hgr6 hat6; have HO6 := Lib.hid hown6; have HG6 := Lib.hid hgr6; clear hown6 hgr6 hat6))
  have HWN : Hid (FwW s M m perm D gs L (p ++ [i5]) u) := by
   rw [HU.out]
   exact HOK.out.way_step HW.out HBG.out (edS_srt perm s M m b) HI2.out HONY.out HF.out
  have HLN : Hid ((p ++ [i5]).length = p.length + 1) := by unfold Hid; simp
  have HFN : Hid (FwI w2 w6 s M A6 c6 (p ++ [i5])) := by
   refine ⟨?_, (HFQ.out.2.alloc HFQ.out.2.size _).grown HG6.out (by have := HFQ.out.2.size; simp; omega) fun g e => (HFQ.out.1.lt g e).1⟩
   rw [HLN.out, opsV_snoc i5 (wk_state HI.out HW.out.w)]
   exact HO6.out
  clear HO6 HG6 HF HFQ HXQ HMQ e0 e1 hco c2 hle5
  go_wp2_with fail
  refine Handed.intro (L - (p.length + 1)) (by omega) (hJ1 _ _ _ (LpI2.back 8 9 ?_ (by kernel_rfl)))
  dsimp only [gt]
  exact ⟨p ++ [i5], u, A6, c6, by rw [HLN.out], rfl, by rw [HLN.out], HWN, HFN⟩
end Go.Proofs.YtfaknfmndafllaaGreatDoor
namespace Go.Proofs.YtfaknfmndafllaaGreatDoor
open Go.RowKit
def dfL (s t : List Int) (k : Nat) : List Nat := (List.range k).filter fun i => !(s.getD i 0 == t.getD i 0)
theorem dfL_len (s t : List Int) (k : Nat) : (dfL s t k).length ≤ k := by
 have := List.length_filter_le (fun i => !(s.getD i 0 == t.getD i 0)) (List.range k)
 rwa [List.length_range] at this
theorem dfL_next (s t : List Int) (k : Nat) : dfL s t (k + 1) = dfL s t k ++ if s.getD k 0 == t.getD k 0 then [] else [k] := by
 unfold dfL
 rw [List.range_succ, List.filter_append]
 cases hb : (s.getD k 0 == t.getD k 0) <;> simp only [List.filter_cons, List.filter_nil, hb] <;> rfl
theorem dfL_nil {s t : List Int} (h : s.length = t.length) : dfL s t (min s.length t.length) = [] ↔ s = t := by
 unfold dfL
 rw [List.filter_eq_nil_iff]
 constructor
 ·intro hk
  apply List.ext_getElem? 
  intro i
  by_cases hi : i < s.length
  ·have := hk i (List.mem_range.2 (by omega))
   rw [List.getD_eq_getElem?_getD, List.getD_eq_getElem?_getD, List.getElem?_eq_getElem hi, List.getElem?_eq_getElem (by omega : i < t.length)] at this
   rw [List.getElem?_eq_getElem hi, List.getElem?_eq_getElem (by omega : i < t.length)]
   simpa using this
  ·rw [List.getElem?_eq_none (by omega), List.getElem?_eq_none (by omega)]
 ·rintro rfl i _; simp
def DfPost (w : World) (s t : List Int) (e : Ending) (w' : World) : Prop :=
 ∃ (A : Option Addr) (c : Nat), e = .returned (.slice A (dfL s t (min s.length t.length)).length c) ∧ Hid (w'.ownsRow w.heap.size 3 1 (.slice A (dfL s t (min s.length t.length)).length c) (dfL s t (min s.length t.length)).length (natsV (dfL s t (min s.length t.length)))) ∧ Hid (Below w.heap.size w w')
def DfR (W : World) (s t : List Int) (N : Nat) (gk : Nat) (v5 iv : Value) (wr : World) : Prop :=
 ∃ (k : Nat) (A : Option Addr) (c : Nat), v5 = .slice A (dfL s t k).length c ∧ iv = .int .i64 k ∧ k ≤ N ∧ gk = N - k ∧ Hid (wr.ownsRow W.heap.size 3 1 (.slice A (dfL s t k).length c) (dfL s t k).length (natsV (dfL s t k))) ∧ Hid (Below W.heap.size W wr)
theorem DfR.no {W wr : World} {s t : List Int} {N k c : Nat} {A : Option Addr} (hb : (s.getD k 0 == t.getD k 0) = true) (hk : k < N) (ho : wr.ownsRow W.heap.size 3 1 (.slice A (dfL s t k).length c) (dfL s t k).length (natsV (dfL s t k))) (hl : Below W.heap.size W wr) : DfR W s t N (N - (k + 1)) (.slice A (dfL s t k).length c) (.int .i64 ((k : Int) + 1)) wr := by
 have e : dfL s t (k + 1) = dfL s t k := by rw [dfL_next, hb]; simp
 refine ⟨k + 1, A, c, by rw [e], rfl, hk, rfl, ?_, hl⟩
 rw [e]; exact ho
theorem DfR.yes {W wr : World} {s t : List Int} {N k c : Nat} {A : Option Addr} (hb : (s.getD k 0 == t.getD k 0) = false) (hk : k < N) (ho : wr.ownsRow W.heap.size 3 1 (.slice A ((dfL s t k).length + 1) c) ((dfL s t k).length + 1) (natsV (dfL s t k) ++ [.int .i64 (k : Int)])) (hl : Below W.heap.size W wr) : DfR W s t N (N - (k + 1)) (.slice A ((dfL s t k).length + 1) c) (.int .i64 ((k : Int) + 1)) wr := by
 have e : dfL s t (k + 1) = dfL s t k ++ [k] := by rw [dfL_next, hb]; simp
 have hl1 : (dfL s t (k + 1)).length = (dfL s t k).length + 1 := by rw [e]; simp
 refine ⟨k + 1, A, c, by rw [hl1], rfl, hk, rfl, ?_, hl⟩
 rw [hl1, e, show natsV (dfL s t k ++ [k]) = natsV (dfL s t k) ++ [.int .i64 (k : Int)] from by unfold natsV; rw [List.flatMap_append]; rfl]
 exact ho
theorem rsdiff_any (As At : Option Addr) (n1 c1 n2 c2 B1 B2 : Nat) (s t : List Int) (w : World) (hs : Sl w B1 1 As n1 c1 (intsV s)) (ht : Sl w B2 1 At n2 c2 (intsV t)) (h1 : B1 ≤ w.heap.size) (h2 : B2 ≤ w.heap.size) (hn : n1 ≤ 1000000) :
 Calls Tryz.prog 14 #[.slice As n1 c1, .slice At n2 c2] w (DfPost w s t) := by
 have HLS := Lib.hid (hs.len (fun _ => rfl) (by decide)); have HLT := Lib.hid (ht.len (fun _ => rfl) (by decide))
 have HS := Lib.hid hs; have HT := Lib.hid ht
 have hsm := hs.le; have htm := ht.le
 clear hs ht
 obtain ⟨N, hN⟩ : ∃ N, N = min n1 n2 := ⟨_, rfl⟩
 have hN1 : N ≤ n1 := by omega
 have hN2 : N ≤ n2 := by omega
 have HNN : Hid (N = min s.length t.length) := by unfold Hid; rw [HLS.out, HLT.out]; exact hN
 have hmin : min (n1 : Int) (n2 : Int) = (N : Int) := by omega
 have HN := Lib.hid hN
 clear hN
 go_enter Tryz.func14, Tryz.ntmps14
 go_wp2_with fail
 refine wp_loop_u2 [(4, 0), (0, 2), (0, 1), (4, 0), (0, 3), (15, 1), (0, 0)] 5 12 (N) (DfR w s t N) (by (try dsimp only [gt]); exact ⟨0, none, 0, rfl, rfl, Nat.zero_le _, rfl, World.ownsRow_nil _ _ _ _, Below.refl _ _⟩) (by kernel_rfl) ?_
 intro u1 p5 p12 gk wr a hrel ha J1 K1 hJ1 hK1
 dsimp only [relaxR, Go.Proofs.YtfaknfmndafllaaGreatDoor.v2, Nat.reduceAdd] at ha
 subst ha
 obtain ⟨k, A, c, rfl, rfl, hk, rfl, ho, hl⟩ := hrel
 have HO := Lib.hid ho.out; have HL := Lib.hid hl.out
 clear ho hl
 have hdl := dfL_len s t k
 by_cases hlt : k < N; rotate_left
 ·have q1 : decide (k < N) = false := by simpa using hlt
  obtain rfl : k = N := by omega
  go_wp2_with fail
  go_ret
  refine ⟨A, c, ?_, by rw [← HNN.out]; exact HO.out, HL.out⟩
  rw [← HNN.out]; rfl
 have q1 : decide (k < N) = true := by simpa using hlt
 obtain ⟨b1, o1, x1, rfl, hb1, hx1, e1⟩ := (HS.out.below HL.out h1).at1 (by omega : k < n1)
 obtain ⟨b2, o2, x2, rfl, hb2, hx2, e2⟩ := (HT.out.below HL.out h2).at1 (by omega : k < n2)
 have HE : Hid ((s.getD k 0 == t.getD k 0) = (x1 == x2)) := by unfold Hid; rw [List.getD_eq_getElem?_getD, List.getD_eq_getElem?_getD, hx1, hx2]; rfl
 have hkk : IntKind.i64.wrap ((k : Int) + 1) = (k : Int) + 1 := IntWalk.i64_in _ (by omega)
 have hk1 : k < n1 := by omega
 have hk2 : k < n2 := by omega
 have hm1 : n1 ≤ 9223372036854775807 := by omega
 have hm2 : n2 ≤ 9223372036854775807 := by omega
 have HQ := Lib.hid fun q => below_drewN (Below.refl wr.heap.size wr) q
 clear hx1 hx2
 cases hx : x1 != x2 with
 | false =>
  have HX : Hid ((s.getD k 0 == t.getD k 0) = true) := by unfold Hid; rw [HE.out]; simpa using hx
  go_upto_region 5 with (fail)
  clear q1
  go_quiet (fail)
  generalize hq : World.drewN wr _ = Wq
  have HBQ : Hid (Below wr.heap.size wr Wq) := by rw [← hq]; exact HQ.out _
  clear hq HQ e1 e2
  go_wp2_with fail
  refine Handed.intro (N - (k + 1)) (by omega) (hJ1 _ _ _ (LpI2.back 5 12 ?_ (by kernel_rfl)))
  dsimp only [gt]
  exact DfR.no HX.out hlt (own_later HO.out HBQ.out) (HL.out.trans (HBQ.out.mono HL.out.size))
 | true =>
  have HX : Hid ((s.getD k 0 == t.getD k 0) = false) := by unfold Hid; rw [HE.out]; simpa using hx
  go_upto_region 5 with (fail)
  clear q1
  go_quiet (fail)
  generalize hq : World.drewN wr _ = Wq
  have HBQ : Hid (Below wr.heap.size wr Wq) := by rw [← hq]; exact HQ.out _
  clear hq HQ e1 e2
  have HO2 := Lib.hid (own_later HO.out HBQ.out)
  have HL2 := Lib.hid (HL.out.trans (HBQ.out.mono HL.out.size))
  go_upto_region 7 with (at_builtin; go_must (refine wpList_app rfl (.tmp 24) (.tmp 26) rfl el_int (by rfl) (HO2.out.alloc _) (by rfl) (Sl.newest (n := 1) rfl rfl (by decide)) (by simp [Value.oneCell']) (by omega) (by omega) (by have := HL2.out.size; simp; omega) ?_; intro A5 c5 w5 hown5 hgr5 hat5; have HO5 := Lib.hid hown5; have HG5 := Lib.hid hgr5; clear hown5 hgr5 hat5))
  have HL5 := Lib.hid ((HL2.out.alloc HL2.out.size _).grown HG5.out (by have := HL2.out.size; simp; omega) fun g e => (HO2.out.lt g e).1)
  go_wp2_with fail
  refine Handed.intro (N - (k + 1)) (by omega) (hJ1 _ _ _ (LpI2.back 5 12 ?_ (by kernel_rfl)))
  dsimp only [gt]
  exact DfR.yes HX.out hlt HO5.out HL5.out
theorem tgis_any (As At : Option Addr) (n c1 c2 : Nat) (s t : List Int) (w : World) (hs : Sl w w.heap.size 1 As n c1 (intsV s)) (ht : Sl w w.heap.size 1 At n c2 (intsV t)) (hn : n ≤ 1000000) :
 Calls Tryz.prog 40 #[.slice At n c2, .slice As n c1] w fun e w' => e = .returned (.tuple #[.int .i64 0, .bool (decide (s = t))]) ∧ Below w.heap.size w w' := by
 have HLS := Lib.hid (hs.len (fun _ => rfl) (by decide)); have HLT := Lib.hid (ht.len (fun _ => rfl) (by decide))
 have HC := Lib.hid (rsdiff_any As At n c1 n c2 w.heap.size w.heap.size s t w hs ht (Nat.le_refl _) (Nat.le_refl _) hn)
 clear hs ht
 have HE : Hid (((dfL s t (min s.length t.length)).length == 0) = decide (s = t)) := by
  unfold Hid
  have := dfL_nil (HLS.out.trans HLT.out.symm)
  rw [Bool.eq_iff_iff, beq_iff_eq, List.length_eq_zero_iff, decide_eq_true_iff]
  exact this
 go_enter Tryz.func40, Tryz.ntmps40
 go_wp2_with fail
 refine HC.out.mono ?_
 rintro e w1 ⟨A, c, rfl, hO, hb⟩
 have HB := Lib.hid hb.out
 clear hO hb HC
 generalize (dfL s t (min s.length t.length)).length = z at *
 have hz : ((z : Int) == 0) = (z == 0) := by rw [Bool.eq_iff_iff, beq_iff_eq, beq_iff_eq]; omega
 go_wp2_with fail
 go_ret2
 refine ⟨?_, HB.out⟩
 rw [← HE.out]; rfl
end Go.Proofs.YtfaknfmndafllaaGreatDoor
namespace Go.Proofs.YtfaknfmndafllaaGreatDoor
theorem tog_getD (s : List Int) {d : Nat} (hd : d < s.length) (e : Nat) : (tog s d).getD e 0 = if e = d then 3 - s.getD d 0 else s.getD e 0 := by
 rw [List.getD_eq_getElem?_getD, tog_at]
 by_cases h : e = d
 ·subst h
  rw [if_pos rfl, List.getElem?_eq_getElem hd, List.getD_eq_getElem?_getD, List.getElem?_eq_getElem hd]; simp
 ·rw [if_neg h, List.getD_eq_getElem?_getD]
  cases s[e]? with
  | none => rfl
  | some x => simp [Ne.symm h]
theorem tog_tog (s : List Int) (d : Nat) : tog (tog s d) d = s := by
 apply List.ext_getElem?
 intro e
 rw [tog_at, tog_at]
 cases s[e]? with
 | none => rfl
 | some x =>
  by_cases h : d = e
  ·simp [h]; omega
  ·simp [h]
theorem dfL_mem {s t : List Int} {k d : Nat} : d ∈ dfL s t k ↔ d < k ∧ s.getD d 0 ≠ t.getD d 0 := by
 unfold dfL
 rw [List.mem_filter, List.mem_range]
 simp
theorem dfL_nodup (s t : List Int) (k : Nat) : (dfL s t k).Nodup := List.nodup_range.filter _
def P12 (s : List Int) (k : Nat) : Prop := ∀ d, d < k → s.getD d 0 = 1 ∨ s.getD d 0 = 2
theorem P12.tog {s : List Int} {k : Nat} (h : P12 s k) (hl : s.length = k) (d : Nat) : P12 (tog s d) k := fun e he => by
 by_cases hd : d < s.length
 ·rw [tog_getD s hd]
  split
  ·rcases h d (by omega) with h | h <;> omega
  ·exact h e he
 ·have : Go.Proofs.YtfaknfmndafllaaGreatDoor.tog s d = s := by unfold Go.Proofs.YtfaknfmndafllaaGreatDoor.tog; exact List.set_eq_of_length_le (by omega)
  rw [this]; exact h e he
theorem dfL_tog {s t : List Int} {k d : Nat} (hl : s.length = k) (hs : P12 s k) (ht : P12 t k) (hd : d ∈ dfL s t k) : dfL (tog s d) t k = (dfL s t k).erase d := by
 obtain ⟨h1, h2⟩ := dfL_mem.1 hd
 rw [(dfL_nodup s t k).erase_eq_filter]
 unfold dfL
 rw [List.filter_filter]
 apply List.filter_congr
 intro e he
 have hek := List.mem_range.1 he
 rw [tog_getD s (by omega)]
 by_cases h : e = d
 ·subst h
  rw [if_pos rfl]
  have := hs e hek; have := ht e hek
  have : 3 - s.getD e 0 = t.getD e 0 := by omega
  simp only [this]; simp
 ·rw [if_neg h]; simp [h]
theorem dfL_step {s t : List Int} {k d : Nat} (hl : s.length = k) (hs : P12 s k) (ht : P12 t k) (hd : d < k) :
 (d ∈ dfL s t k ∧ (dfL s t k).length = (dfL (tog s d) t k).length + 1) ∨ (dfL (tog s d) t k).length = (dfL s t k).length + 1 := by
 by_cases h : d ∈ dfL s t k
 ·left
  refine ⟨h, ?_⟩
  rw [dfL_tog hl hs ht h, List.length_erase_of_mem h]
  have := List.length_pos_of_mem h
  omega
 ·right
  have h1 : d ∈ dfL (tog s d) t k := by
   rw [dfL_mem, tog_getD s (by omega), if_pos rfl]
   have h3 : s.getD d 0 = t.getD d 0 := by
    rw [dfL_mem] at h
    exact Classical.byContradiction fun h4 => h ⟨hd, h4⟩
   exact ⟨hd, by omega⟩
  have h2 := dfL_tog (s := tog s d) (by rw [tog_len]; exact hl) (hs.tog hl d) ht h1
  rw [tog_tog] at h2
  rw [h2, List.length_erase_of_mem h1]
  have := List.length_pos_of_mem h1
  omega
theorem dfL_self (s : List Int) (k : Nat) : dfL s s k = [] := by
 rw [List.eq_nil_iff_forall_not_mem]
 intro d hd
 exact (dfL_mem.1 hd).2 rfl
theorem eq_of_dfL {s t : List Int} {k : Nat} (h1 : s.length = k) (h2 : t.length = k) (h : dfL s t k = []) : s = t := by
 apply List.ext_getElem (by omega)
 intro d hd _
 have : d ∉ dfL s t k := by rw [h]; simp
 rw [dfL_mem] at this
 have h3 : s.getD d 0 = t.getD d 0 := Classical.byContradiction fun h4 => this ⟨by omega, h4⟩
 rw [List.getD_eq_getElem?_getD, List.getD_eq_getElem?_getD, List.getElem?_eq_getElem hd, List.getElem?_eq_getElem (by omega)] at h3
 exact h3
section
variable {perm : List Int → Nat → Bool} {M : Nat → Nat} {m k : Nat}
theorem way_diff (hM : ∀ i, i < m → M i < k) {t : List Int} (ht : P12 t k) : ∀ {p : List Nat} {s : List Int}, s.length = k → P12 s k → wk (stS perm M m) s p = some t →
 (dfL s t k).length ≤ p.length ∧ (p.length - (dfL s t k).length) % 2 = 0 ∧ chn perm s (p.map M) ∧ (p.length = (dfL s t k).length → (p.map M).Perm (dfL s t k)) ∧ ∀ i ∈ p, i < m
 | [], s, _, _, h => by
  injection h with h
  subst h
  rw [dfL_self]
  exact ⟨Nat.le_refl _, rfl, trivial, fun _ => List.Perm.refl _, by simp⟩
 | i :: p, s, hl, hs, h => by
  obtain ⟨s', h1, h2⟩ := Option.bind_eq_some_iff.1 (show (stS perm M m s i).bind (fun b => wk (stS perm M m) b p) = some t from h)
  obtain ⟨⟨hi, hp⟩, rfl⟩ := stS_some.1 h1
  obtain ⟨a1, a2, a3, a4, a5⟩ := way_diff hM ht (by rw [tog_len]; exact hl) (hs.tog hl _) h2
  have hst := dfL_step hl hs ht (hM i hi)
  refine ⟨?_, ?_, ⟨hp, a3⟩, fun e => ?_, fun j hj => ?_⟩
  ·simp only [List.length_cons]; omega
  ·simp only [List.length_cons]; omega
  ·simp only [List.length_cons] at e
   rcases hst with ⟨hm, hst⟩ | hst
   ·have h5 := a4 (by omega)
    rw [dfL_tog hl hs ht hm] at h5
    exact (h5.cons (M i)).trans (List.perm_cons_erase hm).symm
   ·omega
  ·rcases List.mem_cons.1 hj with rfl | hj
   ·exact hi
   ·exact a5 j hj
theorem way_of {t : List Int} (h2 : t.length = k) (ht : P12 t k) : ∀ {q : List Nat} {s : List Int}, s.length = k → P12 s k → q.Perm (dfL s t k) → chn perm s q → (∀ d ∈ q, ∃ i, i < m ∧ M i = d) → ∃ p : List Nat, p.length = q.length ∧ wk (stS perm M m) s p = some t
 | [], s, hl, hs, hp, _, _ => by
  have : dfL s t k = [] := List.eq_nil_of_length_eq_zero (by have := hp.length_eq; simpa using this.symm)
  exact ⟨[], rfl, by rw [eq_of_dfL hl h2 this]; rfl⟩
 | d :: q, s, hl, hs, hp, hc, hm => by
  obtain ⟨i, hi, rfl⟩ := hm d (by simp)
  have hd : M i ∈ dfL s t k := hp.mem_iff.1 (by simp)
  have h3 : q.Perm (dfL (tog s (M i)) t k) := by
   rw [dfL_tog hl hs ht hd]
   exact (hp.trans (List.perm_cons_erase hd)).cons_inv
  obtain ⟨p, e1, e2⟩ := way_of h2 ht (by rw [tog_len]; exact hl) (hs.tog hl _) h3 hc.2 (fun x hx => hm x (by simp [hx]))
  refine ⟨i :: p, by simp [e1], ?_⟩
  show (stS perm M m s i).bind _ = _
  rw [stS_some.2 ⟨⟨hi, hc.1⟩, rfl⟩]
  exact e2
end
end Go.Proofs.YtfaknfmndafllaaGreatDoor
namespace Go.Proofs.YtfaknfmndafllaaGreatDoor
open Go.RowKit
theorem sortL_is {a l : List Int} (h : l.Perm a) (hs : l.Pairwise (· ≤ ·)) : sortL a = l :=
 List.Perm.eq_of_pairwise (le := fun x y : Int => x ≤ y) (fun _ _ _ _ h1 h2 => Int.le_antisymm h1 h2) (sortL_sorted a) hs ((sortL_perm a).trans h.symm)
def lockB (ls : List Lk) (d : Int) : Bool := ls.any fun k => decide (k.dev = d)
def lvE (c : List Int) (x : Dv) : Bool := liveB (bits .or .i64 (c.getD x.a.toNat 0) (c.getD x.b.toNat 0))
def badB (kd p du : Int) (lv : Bool) : Bool := if kd = 3 then decide (du = 2) || decide (du = 3) || decide (du = 4) else if kd = 1 then lv else if kd = 4 then decide (p = 1) && decide (du = 4) else if kd = 6 then decide (p = 2) && decide (du = 3) else decide (kd = 5)
def LostP (ns : List Nd) (ds : List Dv) (s s2 : List Int) : Prop := ∃ (k : Nat) (y : Nd), ns[k]? = some y ∧ 0 < y.cust ∧ Sup ds s k ∧ ¬ Sup ds s2 k
open Classical in
noncomputable def lostB (ns : List Nd) (ds : List Dv) (s s2 : List Int) : Bool := decide (LostP ns ds s s2)
def pickH (b : Bool) (h : Int) : List Int := if b = true then [h] else []
def hzL (f1 f2 f3 f4 f5 f6 f7 : Bool) : List Int := pickH f1 1 ++ pickH f2 2 ++ pickH f3 3 ++ pickH f4 4 ++ pickH f5 5 ++ pickH f6 6 ++ pickH f7 7
theorem pickH_mem (b : Bool) (h x : Int) : x ∈ pickH b h ↔ x = h ∧ b = true := by cases b <;> simp [pickH]
theorem hzL_mem (f1 f2 f3 f4 f5 f6 f7 : Bool) (x : Int) : x ∈ hzL f1 f2 f3 f4 f5 f6 f7 ↔ x = 1 ∧ f1 = true ∨ x = 2 ∧ f2 = true ∨ x = 3 ∧ f3 = true ∨ x = 4 ∧ f4 = true ∨ x = 5 ∧ f5 = true ∨ x = 6 ∧ f6 = true ∨ x = 7 ∧ f7 = true := by
 simp only [hzL, List.mem_append, pickH_mem, or_assoc]
theorem pickH_len (b : Bool) (h : Int) : (pickH b h).length ≤ 1 := by cases b <;> simp [pickH]
theorem hzL_len (f1 f2 f3 f4 f5 f6 f7 : Bool) : (hzL f1 f2 f3 f4 f5 f6 f7).length ≤ 7 := by
 have h1 := pickH_len f1 1; have h2 := pickH_len f2 2; have h3 := pickH_len f3 3; have h4 := pickH_len f4 4; have h5 := pickH_len f5 5; have h6 := pickH_len f6 6; have h7 := pickH_len f7 7
 simp only [hzL, List.length_append]; omega
def fndL (fs : List (Int × Bool)) : List Int := (fs.filter (·.2)).map (·.1)
theorem fnd3 (a b c : Bool) : sortL (fndL [(4, a), (6, b), (7, c)]) = hzL false false false a false b c := by
 cases a <;> cases b <;> cases c <;> exact sortL_is (by decide) (by decide)
theorem fnd6 (a b c d e f : Bool) : sortL (fndL [(4, a), (6, b), (1, c), (2, d), (3, e), (5, f)]) = hzL c d e a f b false := by
 cases a <;> cases b <;> cases c <;> cases d <;> cases e <;> cases f <;> exact sortL_is (by decide) (by decide)
noncomputable def hzAt (nn : Nat) (ns : List Nd) (ds : List Dv) (s : List Int) (d : Nat) (p co : Int) (ls : List Lk) (pr : List Int) (x : Dv) : List Int :=
 if s.getD d 0 = p then hzL false false false (lockB ls d) false ((x.comp != co)) true
 else hzL (decide (p = 2) && decide (dutyAt nn ns ds s d x = 4)) (badB x.kind p (dutyAt nn ns ds s d x) (lvE (colsOf nn ds s) x)) (lostB ns ds s (withL s d p)) (lockB ls d) (decide (p = 2) && decide (x.kind = 4) && !hasB pr x.a) ((x.comp != co)) false
theorem hzAt_len (nn : Nat) (ns : List Nd) (ds : List Dv) (s : List Int) (d : Nat) (p co : Int) (ls : List Lk) (pr : List Int) (x : Dv) : (hzAt nn ns ds s d p co ls pr x).length ≤ 7 := by
 unfold hzAt; split <;> exact hzL_len _ _ _ _ _ _ _
def SetL (F : Int → Prop) (out : List Int) : Prop := out.Nodup ∧ out.Pairwise (· ≤ ·) ∧ ∀ h : Int, h ∈ out ↔ F h
theorem SetL.unique {F : Int → Prop} {a b : List Int} (h : SetL F a) (k : SetL F b) : a = b := by
 rw [← sortL_is (List.Perm.refl a) h.2.1]
 exact sortL_is ((List.perm_ext_iff_of_nodup k.1 h.1).2 fun x => (k.2.2 x).trans (h.2.2 x).symm) k.2.1
end Go.Proofs.YtfaknfmndafllaaGreatDoor
namespace Go.Proofs.YtfaknfmndafllaaGreatDoor
open Go.RowKit
def fnC (f : Int × Bool) : List Value := [.int .i64 f.1, .bool f.2]
theorem fnd_snoc {fs : List (Int × Bool)} {i : Nat} {h : Int} {b : Bool} (hx : fs[i]? = some (h, b)) : fndL (fs.take (i + 1)) = fndL (fs.take i) ++ pickH b h := by
 unfold fndL
 rw [take_snoc hx, List.filter_append, List.map_append]
 cases b <;> rfl
theorem fnd_len : ∀ fs : List (Int × Bool), (fndL fs).length ≤ fs.length := fun fs => by
 unfold fndL; rw [List.length_map]; exact List.length_filter_le _ _
def LsR (w : World) (fs : List (Int × Bool)) (n gk : Nat) (ov iv : Value) (wr : World) : Prop := ∃ (i m co : Nat) (Ao : Option Addr), iv = .int .i64 i ∧ ov = .slice Ao m co ∧ i ≤ n ∧ gk = n - i ∧ Hid (IntsO wr w.heap.size Ao m co (fndL (fs.take i))) ∧ Hid (Below w.heap.size w wr)
theorem list_any (A : Option Addr) (n c B : Nat) (fs : List (Int × Bool)) (w : World) (hs : Sl w B 2 A n c (fs.flatMap fnC)) (hB : B ≤ w.heap.size) (hn : n ≤ 1000) :
 Calls Tryz.prog 155 #[.slice A n c] w (IntsPost w (sortL (fndL fs))) := by
 have HLN := Lib.hid (hs.len (fun _ => rfl) (by decide)); have HS := Lib.hid hs
 have hle := hs.le
 clear hs
 go_enter Tryz.func155, Tryz.ntmps155
 go_wp2_with fail
 go_loopg [3, 8] n (LsR w fs n)
 case atStart => exact ⟨0, 0, 0, none, rfl, rfl, Nat.zero_le _, rfl, World.ownsRow_nil _ _ _ _, Below.refl _ _⟩
 case round =>
  obtain ⟨i, m, co, Ao, rfl, rfl, hi, rfl, hO, hbl⟩ := hrel
  by_cases hlt : i < n
  ·obtain ⟨b, off, f, rfl, hb, hf, hc⟩ := (HS.out.below hbl.out hB).at (fun _ => rfl) (by decide) hlt
   obtain ⟨h, t⟩ := f
   have c0 : wr.cell? ⟨b, off + i * 2, none⟩ = some (.int .i64 h) := hc 0 _ rfl
   have c1 : wr.cell? ⟨b, off + i * 2 + 1, none⟩ = some (.bool t) := hc 1 _ rfl
   have HF := Lib.hid (fnd_snoc hf)
   have HBA : Hid (Below w.heap.size w (wr.alloc (.cells #[.int .i64 h, .bool t] 193))) := hbl.out.alloc hbl.out.size _
   have HOA : Hid (IntsO (wr.alloc (.cells #[.int .i64 h, .bool t] 193)) w.heap.size Ao m co (fndL (fs.take i))) := hO.out.alloc _
   have hml : m ≤ i := by have h1 := fnd_len (fs.take i); have h2 := hO.out.len; rw [List.length_take] at h1; omega
   clear hc hf
   rcases t with _ | _
   ·have HO1 : Hid (IntsO (wr.alloc (.cells #[.int .i64 h, .bool false] 193)) w.heap.size Ao m co (fndL (fs.take (i + 1)))) := by
     unfold Hid; rw [HF.out, show pickH false h = [] from rfl, List.append_nil]; exact HOA.out
    go_wp2_with fail
    go_roundg (n - (i + 1))
    case rel => exact ⟨i + 1, m, co, Ao, by go_num, rfl, by omega, rfl, HO1, HBA⟩
    case measure => omega
   ·have hzz := HBA.out.size
    have HCX : Hid ((wr.alloc (.cells #[.int .i64 h, .bool true] 193)).cell? ⟨wr.heap.size, 0, none⟩ = some (.int .i64 h)) := (Blk.new wr 193 #[.int .i64 h, .bool true]).cell 0
    go_upto_region 6 with (fail)
    generalize World.alloc wr _ = wq at *
    clear c0 c1
    have k0 := HCX.out
    go_wp2_with (at_builtin; go_must (refine wpList_app rfl (.tmp 14) (.tmp 17) rfl el_int (by rfl) (HOA.out.alloc _) (by rfl) (Sl.newest (n := 1) (by simp) (by rfl) (by decide)) (by simp [Value.oneCell']) (by omega) (by omega) (by simp; omega) ?_; intro A' cap' w3 hown3 hgr3 hat3; have HO3 := Lib.hid hown3; have HG3 := Lib.hid hgr3; clear hown3 hgr3 hat3))
    go_roundg (n - (i + 1))
    case rel =>
     refine ⟨i + 1, m + 1, cap', A', by go_num, rfl, by omega, rfl, ?_, ?_⟩
     ·have := HO3.out
      unfold Hid IntsO
      rw [HF.out, show pickH true h = [h] from rfl, intsV_append]
      exact this
     ·refine (HBA.out.alloc HBA.out.size _).trans ⟨HG3.out.os, HG3.out.tape, HG3.out.output, HG3.out.size, fun i hi => HG3.out.block i (by simp; omega) (fun e => ?_)⟩
      have := (HOA.out.lt i e.symm).1
      omega
    case measure => omega
  ·obtain rfl : i = n := by omega
   have hii : decide (i < i) = false := by simp
   have hml : m ≤ i := by have h1 := fnd_len (fs.take i); have h2 := hO.out.len; rw [List.length_take] at h1; omega
   have HT : Hid (fs.take i = fs) := List.take_of_length_le (by rw [HLN.out]; exact Nat.le_refl _)
   rw [HT.out] at hO
   have HLS : Hid ((sortL (fndL fs)).length = m) := by unfold Hid; rw [sortL_len]; exact hO.out.len
   clear HS
   go_wp2_with fail
   refine (sort_any Ao m co w.heap.size (fndL fs) wr hO.out (by omega)).mono ?_
   rintro e w5 ⟨rfl, hO5, hg5⟩
   go_wp2_with fail
   go_ret
   refine ⟨Ao, co, by rw [HLS.out]; rfl, by unfold Hid; rw [HLS.out]; exact hO5.out, hbl.out.trans ⟨hg5.out.os, hg5.out.tape, hg5.out.output, hg5.out.size, fun q hq => hg5.out.block q (by have := hbl.out.size; omega) (fun e => by have := (hO.out.lt q e.symm).1; omega)⟩⟩
theorem hzlives_any (An Ad As : Option Addr) (nn cn nd cd n c Bd Bs i : Nat) (ds : List Dv) (s : List Int) (x : Dv) (w : World) (hd : Sl w Bd 5 Ad nd cd (ds.flatMap Dv.cells)) (hBd : Bd ≤ w.heap.size) (hs : Sl w Bs 1 As n c (intsV s)) (hBs : Bs ≤ w.heap.size)
 (hnn : nn ≤ 10000) (hnd : nd ≤ 10000) (hl : nd ≤ n) (hends : EndsOk nn ds) (hA : AOk nn ds) (hi : i < nd) (hx : ds[i]? = some x) (hk : joinsB x.kind = true) :
 Calls Tryz.prog 187 #[.agg #[.slice An nn cn, .slice Ad nd cd], .slice As n c, .int .i64 i] w fun e w' => e = .returned (.bool (lvE (colsOf nn ds s) x)) ∧ Below w.heap.size w w' := by
 have HCK := Lib.hid (both_any An Ad As nn cn nd cd n c Bd Bs ds s (w.alloc (.cells #[.slice An nn cn, .slice Ad nd cd] 30)) (hd.alloc hBd _) (by simp; omega) (hs.alloc hBs _) (by simp; omega) hnn hnd hl hends hA)
 have HD := Lib.hid hd; have HX := Lib.hid hx
 have hdl := hd.le
 have HEX := Lib.hid (hends x (List.mem_of_getElem? hx) hk)
 have HB := Lib.hid (Blk.new w 30 #[.slice An nn cn, .slice Ad nd cd])
 have HW : Hid (Below w.heap.size w (w.alloc (.cells #[.slice An nn cn, .slice Ad nd cd] 30))) := (Below.refl _ _).alloc (Nat.le_refl _) _
 clear hd hs hends hA hx hk
 go_enter Tryz.func187, Tryz.ntmps187
 go_wp2_with fail
 generalize World.alloc _ _ = w1 at *
 obtain ⟨nb, hnb⟩ : ∃ nb, nb = w.heap.size := ⟨_, rfl⟩
 rw [← hnb] at HB ⊢
 clear hnb
 refine HCK.out.mono ?_
 rintro e w2 ⟨A1, A2, P, C, rfl, _, hOc, _, hIC, hb2⟩
 have HBX := Lib.hid (HB.out.below hb2.out HB.out.lt)
 have HBW := Lib.hid (HW.out.trans (hb2.out.mono HW.out.size))
 have HCE : Hid (colsOf nn ds s = C) := colsOf_eq hIC.out
 have HSC := Lib.hid hOc.out.sl
 clear HCK HB HW hb2 hOc
 obtain ⟨b0, off, x', rfl, hb, hx', hc⟩ := (HD.out.below HBW.out hBd).at (fun _ => rfl) (by decide) hi
 obtain rfl : x = x' := by have := HX.out; rw [this] at hx'; exact Option.some.inj hx'
 obtain ⟨nm, kd, a, b, co⟩ := x
 obtain ⟨⟨ha0, ha1⟩, hb0, hb1⟩ := HEX.out
 simp only at ha0 ha1 hb0 hb1
 obtain ⟨ka, rfl⟩ := Int.eq_ofNat_of_zero_le ha0
 obtain ⟨kb, rfl⟩ := Int.eq_ofNat_of_zero_le hb0
 obtain ⟨b2, of2, va, e2, hb2, hva, hca⟩ := HSC.out.at1 (k := ka) (by omega)
 subst e2
 obtain ⟨b3, of3, vb, e3, hb3, hvb, hcb⟩ := HSC.out.at1 (k := kb) (by omega)
 injection e3 with e3; injection e3 with e3 e4; subst e3 e4
 have hscl := HSC.out.le
 have HLV : Hid (lvE C ⟨nm, kd, ka, kb, co⟩ = liveB (bits .or .i64 va vb)) := by
  unfold Hid lvE; simp only [Int.toNat_natCast]; rw [getD_of hva, getD_of hvb]
 have c0 : w2.cell? ⟨b0, off + i * 5, none⟩ = some (.string nm) := hc 0 _ rfl
 have c1 : w2.cell? ⟨b0, off + i * 5 + 1, none⟩ = some (.int .i64 kd) := hc 1 _ rfl
 have c2 : w2.cell? ⟨b0, off + i * 5 + 2, none⟩ = some (.int .i64 ka) := hc 2 _ rfl
 have c3 : w2.cell? ⟨b0, off + i * 5 + 3, none⟩ = some (.int .i64 kb) := hc 3 _ rfl
 have c4 : w2.cell? ⟨b0, off + i * 5 + 4, none⟩ = some (.int .i64 co) := hc 4 _ rfl
 have k1 := HBX.out.c1
 have HBV : Hid (Below w.heap.size w (w2.alloc (.cells #[.string nm, .int .i64 kd, .int .i64 ka, .int .i64 kb, .int .i64 co] 68))) := HBW.out.alloc HBW.out.size _
 have HDV := Lib.hid (Blk.new w2 68 #[.string nm, .int .i64 kd, .int .i64 ka, .int .i64 kb, .int .i64 co])
 have HCA : Hid ((w2.alloc (.cells #[.string nm, .int .i64 kd, .int .i64 ka, .int .i64 kb, .int .i64 co] 68)).cell? ⟨b2, of2 + ka, none⟩ = some (.int .i64 va) ∧ (w2.alloc (.cells #[.string nm, .int .i64 kd, .int .i64 ka, .int .i64 kb, .int .i64 co] 68)).cell? ⟨b2, of2 + kb, none⟩ = some (.int .i64 vb)) := ⟨cell_al _ hca, cell_al _ hcb⟩
 clear hc hx' hca hcb hva hvb HSC HBX
 go_upto_region 3 with (fail)
 generalize World.alloc w2 _ = W at *
 obtain ⟨vb0, hvb0⟩ : ∃ x, x = w2.heap.size := ⟨_, rfl⟩
 rw [← hvb0] at HDV ⊢
 clear c0 c1 c2 c3 c4 k1 hvb0
 have HCS : Hid ((W.cell? ⟨vb0, 2, none⟩ = some (.int .i64 ka) ∧ W.cell? ⟨vb0, 3, none⟩ = some (.int .i64 kb)) ∧ W.cell? ⟨b2, of2 + ka, none⟩ = some (.int .i64 va) ∧ W.cell? ⟨b2, of2 + kb, none⟩ = some (.int .i64 vb)) := ⟨⟨HDV.out.cell 2, HDV.out.cell 3⟩, HCA.out⟩
 have hka : ka < nn := by omega
 have hkb : kb < nn := by omega
 refine wp_region_J (S := fun W' => (W'.cell? ⟨vb0, 2, none⟩ = some (.int .i64 ka) ∧ W'.cell? ⟨vb0, 3, none⟩ = some (.int .i64 kb)) ∧ W'.cell? ⟨b2, of2 + ka, none⟩ = some (.int .i64 va) ∧ W'.cell? ⟨b2, of2 + kb, none⟩ = some (.int .i64 vb)) (J := []) (by kernel_rfl) ?_ (fun hHeld => ?_)
 ·exact HCS.out
 try dsimp only at hHeld
 refine tk 0 21 (mf 14 1) hHeld ?_
 refine tk 1 22 (mf 14 2) hHeld ?_
 refine tk 2 23 (mf 14 3) hHeld ?_
 refine tk 3 24 (mf 14 4) hHeld ?_
 refine tk 4 25 (mf 14 5) hHeld ?_
 refine tk 5 26 (mf 14 6) hHeld ?_
 refine tk 6 27 (mf 14 7) hHeld ?_
 refine tk 7 28 (mf 14 8) hHeld ?_
 refine tk 8 29 (mf 14 9) hHeld ?_
 refine tk 9 30 (mf 14 10) hHeld ?_
 refine tk 10 31 (mf 14 11) hHeld ?_
 refine tk 11 32 (mf 14 12) hHeld ?_
 refine tk 12 33 (mf 14 13) hHeld ?_
 refine tk 13 6 (mf 14 14) hHeld ?_
 refine wpAnyJ_done (by kernel_rfl) ?_ _
 go_wp2_with fail
 go_ret
 exact ⟨ret_bool (by rw [HCE.out, HLV.out]; rfl), HBV.out.drew⟩
theorem bad_any (An Ad As : Option Addr) (nn cn nd cd n c Bd Bs i : Nat) (p du kd : Int) (ds : List Dv) (s : List Int) (x : Dv) (w : World) (hd : Sl w Bd 5 Ad nd cd (ds.flatMap Dv.cells)) (hBd : Bd ≤ w.heap.size) (hs : Sl w Bs 1 As n c (intsV s)) (hBs : Bs ≤ w.heap.size)
 (hnn : nn ≤ 10000) (hnd : nd ≤ 10000) (hl : nd ≤ n) (hends : EndsOk nn ds) (hA : AOk nn ds) (hi : i < nd) (hx : ds[i]? = some x) (hk : x.kind = kd) (hk6 : 1 ≤ kd ∧ kd ≤ 6) :
 Calls Tryz.prog 158 #[.agg #[.slice An nn cn, .slice Ad nd cd], .slice As n c, .agg #[.int .i64 i, .int .i64 p], .int .i64 kd, .int .i64 du] w fun e w' => e = .returned (.bool (badB kd p du (lvE (colsOf nn ds s) x))) ∧ Below w.heap.size w w' := by
 have HB : Hid (Below w.heap.size w ((w.alloc (.cells #[.slice An nn cn, .slice Ad nd cd] 30)).alloc (.cells #[.int .i64 i, .int .i64 p] 62))) := ((Below.refl _ _).alloc (Nat.le_refl _) _).alloc (by simp) _
 rcases (show kd = 1 ∨ kd = 2 ∨ kd = 3 ∨ kd = 4 ∨ kd = 5 ∨ kd = 6 by omega) with rfl | rfl | rfl | rfl | rfl | rfl
 ·have HC := Lib.hid (hzlives_any An Ad As nn cn nd cd n c Bd Bs i ds s x _ (hd.below HB.out hBd) (by have := HB.out.size; omega) (hs.below HB.out hBs) (by have := HB.out.size; omega) hnn hnd hl hends hA hi hx (by rw [hk]; decide))
  have HR : Hid (badB 1 p du (lvE (colsOf nn ds s) x) = lvE (colsOf nn ds s) x) := rfl
  clear hd hs hends hA
  go_enter Tryz.func158, Tryz.ntmps158
  go_wp2_with fail
  refine HC.out.mono ?_
  rintro e w1 ⟨rfl, hb⟩
  go_wp2_with fail
  go_ret
  exact ⟨ret_bool HR.out.symm, HB.out.trans (hb.mono HB.out.size)⟩
 ·clear hd hs hends hA
  go_enter Tryz.func158, Tryz.ntmps158
  go_wp2_with fail
  go_ret
  exact ⟨rfl, HB.out⟩
 ·clear hd hs hends hA
  by_cases h2 : du = 2
  ·subst h2
   go_enter Tryz.func158, Tryz.ntmps158
   go_wp2_with fail
   go_ret
   exact ⟨rfl, HB.out⟩
  by_cases h3 : du = 3
  ·subst h3
   go_enter Tryz.func158, Tryz.ntmps158
   go_wp2_with fail
   go_ret
   exact ⟨rfl, HB.out⟩
  have q2 : (du == 2) = false := by simpa using h2
  have q3 : (du == 3) = false := by simpa using h3
  have HR : Hid (badB 3 p du (lvE (colsOf nn ds s) x) = (du == 4)) := by
   unfold Hid badB; rw [if_pos rfl]; simp [h2, h3]; rfl
  go_enter Tryz.func158, Tryz.ntmps158
  go_wp2_with fail
  go_ret
  exact ⟨ret_bool HR.out.symm, HB.out⟩
 ·clear hd hs hends hA
  by_cases h1 : p = 1
  ·subst h1
   have HR : Hid (badB 4 1 du (lvE (colsOf nn ds s) x) = (du == 4)) := by unfold Hid badB; simp; rfl
   go_enter Tryz.func158, Tryz.ntmps158
   go_wp2_with fail
   go_ret
   exact ⟨ret_bool HR.out.symm, HB.out⟩
  ·have q1 : (p == 1) = false := by simpa using h1
   have HR : Hid (badB 4 p du (lvE (colsOf nn ds s) x) = false) := by unfold Hid badB; simp [h1]
   go_enter Tryz.func158, Tryz.ntmps158
   go_wp2_with fail
   go_ret
   exact ⟨ret_bool HR.out.symm, HB.out⟩
 ·clear hd hs hends hA
  go_enter Tryz.func158, Tryz.ntmps158
  go_wp2_with fail
  go_ret
  exact ⟨rfl, HB.out⟩
 ·clear hd hs hends hA
  by_cases h1 : p = 2
  ·subst h1
   have HR : Hid (badB 6 2 du (lvE (colsOf nn ds s) x) = (du == 3)) := by unfold Hid badB; simp; rfl
   go_enter Tryz.func158, Tryz.ntmps158
   go_wp2_with fail
   go_ret
   exact ⟨ret_bool HR.out.symm, HB.out⟩
  ·have q1 : (p == 2) = false := by simpa using h1
   have HR : Hid (badB 6 p du (lvE (colsOf nn ds s) x) = false) := by unfold Hid badB; simp [h1]
   go_enter Tryz.func158, Tryz.ntmps158
   go_wp2_with fail
   go_ret
   exact ⟨ret_bool HR.out.symm, HB.out⟩
end Go.Proofs.YtfaknfmndafllaaGreatDoor
namespace Go.Proofs.YtfaknfmndafllaaGreatDoor
open Go.RowKit
theorem Sl.over {w : World} {B n c blk m size : Nat} {A : Option Addr} {xs : List Value} {os : Array Obj} {dk : Array Int} (h : Sl w B size A n c xs) (hne : ∀ b off, A = some ⟨b, off, none⟩ → b ≠ blk ∧ b < w.heap.size) : Sl (sortWorld (Value.int .i64) w blk 0 m dk os) B size A n c xs := by
 obtain ⟨h1, h2, h3, h4, h5⟩ := h
 refine ⟨h1, h2, h3, h4, fun hn => ?_⟩
 obtain ⟨b, off, e, hb, hc⟩ := h5 hn
 obtain ⟨h6, h7⟩ := hne b off e
 refine ⟨b, off, e, hb, fun j u hu => ?_⟩
 unfold sortWorld
 rw [Go.Sort.cell?_grow _ _ _ (by show b < (Go.Sort.putRow _ _ _ _ _).heap.size; rw [Go.Sort.size_putRow]; exact h7), Go.Sort.cell?_putRow_other _ _ blk 0 _ _ (Or.inl h6)]
 exact hc j u hu
theorem delf_any (g : Nat) (lb : Array Value) (p : Int → Bool) (eg : ∀ args w, (callFunc g args).run Tryz.prog w = .ok (.enter g args) w) (A : Option Addr) (n c base : Nat) (l : List Int) (w : World) (h : IntsO w base A n c l) (hn : n ≤ 1000000)
 (hp : PredAt Tryz.prog g lb (Value.int .i64) p w) (hpo : ∀ blk, A = some ⟨blk, 0, none⟩ → PredOver Tryz.prog g lb (Value.int .i64) p blk 0 n w) :
 Calls Tryz.prog 100 #[.slice A n c, .func (.func g) #[] lb] w fun e w' => ∃ m, e = .returned (.slice A m c) ∧ Hid (IntsO w' base A m c (l.filter fun x => !p x)) ∧ Hid (w.grownBy w' (Value.slice A n c).ownBlock) := by
 have hl := h.len
 rcases h.2 with ⟨hv, h0⟩ | ⟨gb, cap, cur, hv, hb, hh, hnc, hm, hs, ht⟩
 ·injection hv with h1 h2 h3
  subst h1 h3 h0
  have : l = [] := List.eq_nil_of_length_eq_zero hl
  subst this
  have HH := Lib.hid h
  clear h hp hpo hl hn
  go_enter Tryz.func100, Tryz.ntmps100
  go_wp2_with fail
  refine (Tryz.slices_IndexFunc_empty (α := Int) none 0 (.func (.func g) #[] lb) w).mono ?_
  rintro e w1 ⟨rfl, rfl⟩
  go_wp2_with fail
  go_ret
  exact ⟨0, rfl, HH.out, grown_refl _ _⟩
 ·injection hv with h1 h2 h3
  subst h1 h3
  subst hl
  rw [Nat.mul_one, intsV_map] at ht
  have hH := holds_of_blockI hh ht
  refine (Tryz.slices_DeleteFunc (Value.int .i64) (fun _ => rfl) p g lb eg 0 Tryz.zeroValue3 gb 0 c l.toArray w hp (by simpa using hpo gb rfl) hH (by simp; omega) (by simpa using hnc)).mono ?_
  rintro e w1 ⟨rfl, q, rfl⟩
  simp only [List.size_toArray]
  obtain ⟨ts, hts⟩ : ∃ ts, ts = (l.filter fun x => !p x) ++ List.replicate (l.length - (l.filter fun x => !p x).length) 0 := ⟨_, rfl⟩
  have hfl : (l.filter fun x => !p x).length ≤ l.length := List.length_filter_le _ _
  have htl : ts.length = l.length := by rw [hts, List.length_append, List.length_replicate]; omega
  rw [← hts]
  refine ⟨_, rfl, ?_, ?_⟩
  ·have h2 := heap_sortedI (n := q) (os := #[]) ts.toArray hh
   rw [Go.Sort.grow_empty] at h2
   unfold Hid IntsO
   rw [intsV_map]
   refine ⟨by simp, .inr ⟨gb, c, _, rfl, hb, h2, by omega, hm, by simp [Go.Sort.putCells, hs], ?_⟩⟩
   have h3 := take_putCellsI cur ts (by omega)
   rw [Nat.mul_one]
   have h4 := congrArg (List.take (l.filter fun x => !p x).length) h3
   rw [List.take_take, Nat.min_eq_left (by omega)] at h4
   rw [h4, ← List.map_take, hts, List.take_left]
  ·have := grownBy_sortedI (w := w) (g := gb) (n := q) (os := #[]) ts.toArray
   rw [Go.Sort.grow_empty] at this
   exact this
theorem lost1_gives (Ab : Option Addr) (mb cb bb B : Nat) (l : List Int) (x : Int) (W : World) (hc : W.cell? ⟨bb, 0, none⟩ = some (.slice Ab mb cb)) (hs : Sl W B 1 Ab mb cb (intsV l)) :
 FnGives Tryz.prog 101 #[.pointer (some ⟨bb, 0, none⟩)] #[.int .i64 x] (.bool (hasB l x)) W := by
 have HC := Lib.hid (contains_any Ab mb cb B l x W hs)
 show Calls Tryz.prog 101 #[.int .i64 x, .pointer (some ⟨bb, 0, none⟩)] W _
 clear hs
 go_enter Tryz.func101, Tryz.ntmps101
 go_wp2_with fail
 refine HC.out.mono ?_
 rintro e w1 ⟨rfl, rfl⟩
 go_wp2_with fail
 go_ret
 exact ⟨rfl, 0, rfl⟩
theorem Lost_ok (An Ad As At : Option Addr) (nn cn nd cd n c n2 c2 Bn Bd Bs B2 : Nat) (ns : List Nd) (ds : List Dv) (s s2 : List Int) (w : World) (hL : Laid w) (hn : Sl w Bn 3 An nn cn (ns.flatMap Nd.cells)) (hBn : Bn ≤ w.heap.size) (hd : Sl w Bd 5 Ad nd cd (ds.flatMap Dv.cells)) (hBd : Bd ≤ w.heap.size) (hs : Sl w Bs 1 As n c (intsV s)) (hBs : Bs ≤ w.heap.size) (hs2 : Sl w B2 1 At n2 c2 (intsV s2)) (hB2 : B2 ≤ w.heap.size)
 (hsn : ∀ x ∈ ns, x.name.size ≤ 9223372036854775807) (hsd : ∀ x ∈ ds, x.name.size ≤ 9223372036854775807) (h0 : stateErr ns ds s = 0) (h02 : stateErr ns ds s2 = 0) (hnn : nn ≤ 10000) (hnd : nd ≤ 10000) (hl : nd ≤ n) (hl2 : nd ≤ n2) (hends : EndsOk nn ds) (hA : AOk nn ds) :
 Calls Tryz.prog 59 #[.agg #[.slice An nn cn, .slice Ad nd cd], .slice As n c, .slice At n2 c2] w fun e w' => ∃ (Ao : Option Addr) (m co : Nat) (out : List Int) (_ : Int), e = .returned (.tuple #[.slice Ao m co, .int .i64 (lostC ns ds s s2), .int .i64 0]) ∧ Hid (out.length = m) ∧ Hid (LostL ns ds s s2 out) ∧ Hid (IntsO w' w.heap.size Ao m co out) ∧ Hid (Below w.heap.size w w') := by
 have HLN := Lib.hid (hn.len (fun _ => rfl) (by decide))
 have HB : Hid (Below w.heap.size w (w.alloc (.cells #[.slice An nn cn, .slice Ad nd cd] 30))) := (Below.refl _ _).alloc (Nat.le_refl _) _
 have HK := Lib.hid (Blk.new w 30 #[.slice An nn cn, .slice Ad nd cd])
 have HL := Lib.hid hL; have HN := Lib.hid hn; have HD := Lib.hid hd; have HS := Lib.hid hs; have HS2 := Lib.hid hs2; have HSN := Lib.hid hsn; have HSD := Lib.hid hsd; have H0 := Lib.hid h0; have H02 := Lib.hid h02; have HE := Lib.hid hends; have HA := Lib.hid hA
 clear hL hn hd hs hs2 hsn hsd h0 h02 hends hA
 go_enter Tryz.func59, Tryz.ntmps59
 go_wp2_with fail
 generalize World.alloc _ _ = W at *
 have hz := HB.out.size
 obtain ⟨nb, hnb⟩ : ∃ nb, nb = w.heap.size := ⟨_, rfl⟩
 rw [← hnb] at HK ⊢
 clear hnb
 have HNB := Lib.hid HK.out.lt
 refine (Supplied_ok An Ad As nn cn nd cd n c Bn Bd Bs ns ds s W (HL.out.below HB.out (Nat.le_refl _)) (HN.out.below HB.out hBn) (by omega) (HD.out.below HB.out hBd) (by omega) (HS.out.below HB.out hBs) (by omega) HSN.out HSD.out H0.out hnn hnd hl HE.out HA.out).mono ?_
 rintro e w1 ⟨Aa, ma, ca, la, rfl, hOa, hLa, hb1⟩
 have HB1 := Lib.hid (HB.out.trans (hb1.out.mono hz))
 have HK1 := Lib.hid (HK.out.below hb1.out HK.out.lt)
 have hz1 := HB1.out.size
 have HZa : Hid (W.heap.size ≤ w1.heap.size) := hb1.out.size
 clear hb1 HB HK
 have k0 := HK1.out.c0
 have k1 := HK1.out.c1
 go_wp2_with fail
 clear k0 k1
 refine (Supplied_ok An Ad At nn cn nd cd n2 c2 Bn Bd B2 ns ds s2 w1 (HL.out.below HB1.out (Nat.le_refl _)) (HN.out.below HB1.out hBn) (by omega) (HD.out.below HB1.out hBd) (by omega) (HS2.out.below HB1.out hB2) (by omega) HSN.out HSD.out H02.out hnn hnd hl2 HE.out HA.out).mono ?_
 rintro e w2 ⟨Ab, mb, cb, lb, rfl, hOb, hLb, hb2⟩
 have HB2 := Lib.hid ((HB1.out.trans (hb2.out.mono hz1)).alloc (by have := hb2.out.size; omega) (.cells #[.slice Ab mb cb] 22))
 have HK2 := Lib.hid ((HK1.out.below hb2.out HK1.out.lt).alloc (.cells #[.slice Ab mb cb] 22))
 have HXB := Lib.hid (Blk.new w2 22 #[.slice Ab mb cb])
 have HOA : Hid (IntsO (w2.alloc (.cells #[.slice Ab mb cb] 22)) W.heap.size Aa ma ca la) := (hOa.out.later hb2.out).alloc _
 have HOB : Hid (IntsO (w2.alloc (.cells #[.slice Ab mb cb] 22)) w1.heap.size Ab mb cb lb) := hOb.out.alloc _
 have hz2 : w1.heap.size ≤ w2.heap.size := hb2.out.size
 have hma : ma ≤ nn := by have := hLa.out.1.1; rw [hOa.out.len, HLN.out] at this; exact this
 have HAL : Hid (∀ gb, (Value.slice Aa ma ca).ownBlock = some gb → gb < w1.heap.size) := fun gb h => (hOa.out.lt gb h).2
 have HZ2 : Hid (w2.heap.size < (w2.alloc (.cells #[.slice Ab mb cb] 22)).heap.size) := by unfold Hid; simp
 clear hb2 HK1 hOa hOb HB1
 go_upto_region 7 with (fail)
 generalize World.alloc w2 _ = W3 at *
 obtain ⟨bb, hbb⟩ : ∃ x, x = w2.heap.size := ⟨_, rfl⟩
 rw [← hbb] at HXB HZ2 hz2 ⊢
 clear hbb
 have HPA : Hid (PredAt Tryz.prog 101 #[.pointer (some ⟨bb, 0, none⟩)] (Value.int .i64) (hasB lb) W3) := fun W' x hb =>
  lost1_gives Ab mb cb bb W3.heap.size lb x W' ((hb.cell (p := ⟨bb, 0, none⟩) HZ2.out).trans (HXB.out.cell 0)) (HOB.out.sl.below hb (Nat.le_refl _))
 have HPO : Hid (∀ blk, Aa = some ⟨blk, 0, none⟩ → PredOver Tryz.prog 101 #[.pointer (some ⟨bb, 0, none⟩)] (Value.int .i64) (hasB lb) blk 0 ma W3) := fun blk e q os dk x _ =>
  lost1_gives Ab mb cb bb W3.heap.size lb x _ (by
   have h1 := HAL.out blk (by rw [e]; rfl)
   unfold sortWorld
   rw [Go.Sort.cell?_grow _ _ _ (by show bb < (Go.Sort.putRow _ _ _ _ _).heap.size; rw [Go.Sort.size_putRow]; exact HZ2.out), Go.Sort.cell?_putRow_other _ _ blk 0 _ _ (Or.inl (by show bb ≠ blk; omega))]
   exact HXB.out.cell 0) (HOB.out.sl.over fun b off e2 => by
    have h1 := HAL.out blk (by rw [e]; rfl)
    have h2 := HOB.out.lt b
    rcases HOB.out.2 with ⟨hv, _⟩ | ⟨gb, cap, cur, hv, hb, hh, _⟩
    ·rw [e2] at hv; cases hv
    ·rw [e2] at hv
     injection hv with hv
     injection hv with hv
     injection hv with hv
     subst hv
     exact ⟨by omega, (Array.getElem?_eq_some_iff.1 hh).1⟩)
 have HDF := Lib.hid (delf_any 101 #[.pointer (some ⟨bb, 0, none⟩)] (hasB lb) (enters_of Tryz.func101 (by kernel_rfl) rfl) Aa ma ca W.heap.size la W3 HOA.out (by omega) HPA.out HPO.out)
 clear HPA HPO
 go_wp2_with fail
 refine HDF.out.mono ?_
 rintro e w4 ⟨m, rfl, hO4, hg4⟩
 have HBG : Hid (Below W.heap.size W3 w4) := ⟨hg4.out.os, hg4.out.tape, hg4.out.output, hg4.out.size, fun q hq => hg4.out.block q (by have := HZa.out; have := HZ2.out; omega) (fun e => by have := (HOA.out.lt q e.symm).1; omega)⟩
 have HB4 := Lib.hid (HB2.out.trans (HBG.out.mono hz))
 have HK4 : Hid (Blk w4 nb 30 #[.slice An nn cn, .slice Ad nd cd]) := HK2.out.below HBG.out HNB.out
 have HIN : Hid (∀ v ∈ la.filter fun x => !hasB lb x, 0 ≤ v ∧ v < nn) := fun v hv => by
  obtain ⟨k, y, rfl, hy, _⟩ := (hLa.out.2 v).1 (List.mem_filter.1 hv).1
  have := (List.getElem?_eq_some_iff.1 hy).1
  rw [HLN.out] at this
  omega
 clear HDF hg4 HBG HK2 HB2 HOA HOB HXB HAL
 have k0 := HK4.out.c0
 have k1 := HK4.out.c1
 go_wp2_with fail
 clear k0 k1
 refine (custs_any An Ad Aa nn cn nd cd m ca Bn w4.heap.size ns _ w4 (HN.out.below HB4.out hBn) (by have := HB4.out.size; omega) hO4.out.sl (Nat.le_refl _) HIN.out).mono ?_
 rintro e w5 ⟨rfl, hb5⟩
 go_wp2_with fail
 go_ret3
 have HLO : LostL ns ds s s2 (la.filter fun x => !hasB lb x) := fun x => by
  rw [List.mem_filter]
  constructor
  ·rintro ⟨h1, h2⟩
   obtain ⟨k, y, rfl, hy, hc, hs⟩ := (hLa.out.2 x).1 h1
   refine ⟨k, y, rfl, hy, hc, hs, fun h3 => ?_⟩
   have h4 : (k : Int) ∉ lb := (hasB_not _ _).1 (by simpa using h2)
   exact h4 ((hLb.out.2 _).2 ⟨k, y, rfl, hy, hc, h3⟩)
  ·rintro ⟨k, y, rfl, hy, hc, hs, hn2⟩
   refine ⟨(hLa.out.2 _).2 ⟨k, y, rfl, hy, hc, hs⟩, ?_⟩
   have : hasB lb (k : Int) = false := (hasB_not _ _).2 fun h => by
    obtain ⟨k2, y2, e, hy2, _, hs2⟩ := (hLb.out.2 _).1 h
    have : k = k2 := by omega
    subst this
    exact hn2 hs2
   rw [this]; rfl
 exact ⟨Aa, m, ca, _, 0, by rw [lostC, ← lost_list HLO (hLa.out.1.2.filter _)]; rfl, hO4.out.len, HLO, (hO4.out.later hb5.out).mono hz, HB4.out.trans (hb5.out.mono HB4.out.size)⟩
end Go.Proofs.YtfaknfmndafllaaGreatDoor
