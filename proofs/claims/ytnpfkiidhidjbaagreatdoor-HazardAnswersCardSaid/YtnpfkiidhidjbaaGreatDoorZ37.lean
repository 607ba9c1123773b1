import Derived.Test.YtnpfkiidhidjbaaGreatDoorZ35
import Derived.Test.YtnpfkiidhidjbaaGreatDoorZ36
import Derived.Test.YtnpfkiidhidjbaaGreatDoorZ17
/-
 The reference of layer 13: walks of In and states.
-/
namespace Go.Proofs.YtnpfkiidhidjbaaGreatDoor
open Go.RowKit
theorem nine {l : List Bool} (h : l.length = 9) : ∃ b0 b1 b2 b3 b4 b5 b6 b7 b8, l = [b0, b1, b2, b3, b4, b5, b6, b7, b8] := by
 rcases l with _ | ⟨b0, _ | ⟨b1, _ | ⟨b2, _ | ⟨b3, _ | ⟨b4, _ | ⟨b5, _ | ⟨b6, _ | ⟨b7, _ | ⟨b8, _ | ⟨b9, l⟩⟩⟩⟩⟩⟩⟩⟩⟩⟩
 all_goals first | exact ⟨_, _, _, _, _, _, _, _, _, rfl⟩ | (simp at h)
/-- has, at any valid state. -/
theorem rhz_ok {An Ad As Al Ap : Option Addr} {nn cn nd cd n c nl cl np cp : Nat} {ns : List Nd} {ds : List Dv} {s : List Int} {ls : List Lk} {pr : List Int} {w : World} (h : HzMem w An Ad As Al Ap nn cn nd cd n c nl cl np cp ns ds s ls pr) (h0 : stateErr ns ds s = 0) {d p co : Int} (he : hzErr nd d p co = 0) :
  ∃ x : Dv, ds[d.toNat]? = some x ∧ Calls Tryz.prog 41 #[.agg #[.slice An nn cn, .slice Ad nd cd], .slice As n c, .agg #[.int .i64 d, .int .i64 p], .agg #[.int .i64 co, .slice Al nl cl, .slice Ap np cp]] w fun e w' => ∃ b0 b1 b2 b3 b4 b5 b6 b7 b8, hzF nn ns ds s d.toNat p co ls pr x = [b0, b1, b2, b3, b4, b5, b6, b7, b8] ∧ e = .returned (.agg #[.bool b0, .bool b1, .bool b2, .bool b3, .bool b4, .bool b5, .bool b6, .bool b7, .bool b8]) ∧ Hid (Below w.heap.size w w') := by
 obtain ⟨h1, h2, h3⟩ := h.ln
 obtain ⟨hd, hp, _⟩ := hzErr_ok he
 obtain ⟨k, rfl⟩ := Int.eq_ofNat_of_zero_le hd.1
 have hk : k < ds.length := by omega
 have hx : ds[k]? = some (ds[k]'hk) := List.getElem?_eq_getElem hk
 refine ⟨_, hx, ?_⟩
 refine (rhz_any An Ad As Al Ap nn cn nd cd n c nl cl np cp k ns ds s ls pr p co _ w h h0 hx hp).mono ?_
 rintro e w' ⟨rfl, hb⟩
 obtain ⟨b0, b1, b2, b3, b4, b5, b6, b7, b8, hl⟩ := nine (hzF_len nn ns ds s k p co ls pr (ds[k]'hk))
 exact ⟨b0, b1, b2, b3, b4, b5, b6, b7, b8, hl, by rw [hl]; rfl, hb⟩
set_option maxRecDepth 100000 in
set_option maxHeartbeats 4000000 in
theorem rIn_any (An Ad As Al Ap : Option Addr) (nn cn nd cd n c nl cl np cp : Nat) (ns : List Nd) (ds : List Dv) (s : List Int) (ls : List Lk) (pr : List Int) (d p co : Int) (w : World) (h : HzMem w An Ad As Al Ap nn cn nd cd n c nl cl np cp ns ds s ls pr) :
  Calls Tryz.prog 16 #[.agg #[.slice An nn cn, .slice Ad nd cd], .slice As n c, .agg #[.int .i64 d, .int .i64 p], .agg #[.int .i64 co, .slice Al nl cl, .slice Ap np cp]] w (InPost w ns ds s d p co ls pr) := by
 obtain ⟨hln, hld, hls⟩ := h.ln
 have hndm := h.hd.le
 have HB := Lib.hid (Bx3.new w #[.slice An nn cn, .slice Ad nd cd] #[.int .i64 d, .int .i64 p] #[.int .i64 co, .slice Al nl cl, .slice Ap np cp])
 have HH := Lib.hid h
 clear h
 have HIE : Hid (inErr ns ds s d p co = if stateErr ns ds s = 0 then hzErr nd d p co else stateErr ns ds s) := by unfold Hid inErr; rw [hld]
 go_enter Tryz.func16, Tryz.ntmps16
 go_wp2_with fail
 generalize World.alloc (World.alloc (World.alloc w _) _) _ = W at *
 have HM := Lib.hid (HH.out.below HB.out.bl)
 have HC := Lib.hid (rstate_any An Ad As nn cn nd cd n c W.heap.size W.heap.size W.heap.size ns ds s W HM.out.hn HM.out.hd HM.out.hs (Nat.le_refl _) (Nat.le_refl _) (Nat.le_refl _) HM.out.sn HM.out.sd)
 refine HC.out.mono ?_
 rintro e w1 ⟨rfl, hb1⟩
 have HB1 := Lib.hid (HB.out.later hb1)
 clear hb1 HC HM HB
 by_cases h0 : stateErr ns ds s = 0; rotate_left
 ·have q : (stateErr ns ds s == 0) = false := by simpa using h0
  have q2 : (stateErr ns ds s != 0) = true := by simpa using h0
  have HR : Hid (inErr ns ds s d p co = stateErr ns ds s) := by unfold Hid; rw [HIE.out, if_neg h0]
  have H0 := Lib.hid h0
  clear h0 HIE
  go_wp2_with fail
  go_ret2
  exact ⟨.inl ⟨by rw [HR.out]; exact H0.out, by rw [HR.out]; rfl⟩, HB1.out.bl⟩
 have HR : Hid (inErr ns ds s d p co = hzErr nd d p co) := by unfold Hid; rw [HIE.out, if_pos h0]
 have H0 := Lib.hid h0
 clear HIE
 rw [h0]
 clear h0
 obtain ⟨⟨k0, k1⟩, ⟨o0, o1⟩, g0, g1, g2⟩ := HB1.out.cells
 go_wp2_with fail
 clear k0 k1 o0 o1 g0 g1 g2
 refine (hfault_any An Ad Al Ap nn cn nd cd nl cl np cp d p co w1 (by omega)).mono ?_
 rintro e w2 ⟨rfl, hb2⟩
 have HB2 := Lib.hid (HB1.out.later hb2)
 clear hb2 HB1
 by_cases he : hzErr nd d p co = 0; rotate_left
 ·have q : (hzErr nd d p co != 0) = true := by simpa using he
  have HE := Lib.hid he
  clear he
  go_wp2_with fail
  go_ret2
  exact ⟨.inl ⟨by rw [HR.out]; exact HE.out, by rw [HR.out]; rfl⟩, HB2.out.bl⟩
 have HE := Lib.hid he
 rw [he] at HR ⊢
 clear he
 obtain ⟨x, hx, hin⟩ := rhz_ok (HH.out.below HB2.out.bl) H0.out HE.out
 have HIN := Lib.hid hin; have HX := Lib.hid hx
 clear hin hx
 obtain ⟨⟨k0, k1⟩, ⟨o0, o1⟩, g0, g1, g2⟩ := HB2.out.cells
 go_wp2_with fail
 clear k0 k1 o0 o1 g0 g1 g2
 refine HIN.out.mono ?_
 rintro e w3 ⟨b0, b1, b2, b3, b4, b5, b6, b7, b8, hF, rfl, hb3⟩
 have HF := Lib.hid hF
 clear hF
 go_wp2_with fail
 refine (rlist_any b0 b1 b2 b3 b4 b5 b6 b7 b8 w3).mono ?_
 rintro e w4 ⟨A, ca, rfl, hO, hb4⟩
 rw [← HF.out, hzF_on] at hO ⊢
 have HB3 := Lib.hid (HB2.out.bl.trans (hb3.out.mono HB2.out.bl.size))
 go_wp2_with fail
 go_ret2
 exact ⟨.inr ⟨HR.out, A, _, ca, x, HX.out, rfl, by subst hln; exact hO.out.mono HB3.out.size⟩, HB3.out.trans (hb4.out.mono HB3.out.size)⟩
set_option maxRecDepth 100000 in
set_option maxHeartbeats 4000000 in
theorem rsts_any (An Ad As Al Ap : Option Addr) (nn cn nd cd n c nl cl np cp : Nat) (ns : List Nd) (ds : List Dv) (m : List Int) (ls : List Lk) (pr : List Int) (d p co : Int) (w : World) (h : HzMem w An Ad As Al Ap nn cn nd cd n c nl cl np cp ns ds m ls pr) :
  Calls Tryz.prog 45 #[.agg #[.slice An nn cn, .slice Ad nd cd], .slice As n c, .agg #[.int .i64 d, .int .i64 p], .agg #[.int .i64 co, .slice Al nl cl, .slice Ap np cp]] w (StsPost w ns ds m d p co) := by
 obtain ⟨hln, hld, hls⟩ := h.ln
 have hndm := h.hd.le
 have HB := Lib.hid (Bx3.new w #[.slice An nn cn, .slice Ad nd cd] #[.int .i64 d, .int .i64 p] #[.int .i64 co, .slice Al nl cl, .slice Ap np cp])
 have HH := Lib.hid h
 clear h
 have HIE : Hid (stsErr ns ds m d p co = if maskErr ns ds m = 0 then (if hzErr nd d p co = 0 then cErr m else hzErr nd d p co) else maskErr ns ds m) := by unfold Hid stsErr; rw [hld]
 go_enter Tryz.func45, Tryz.ntmps45
 go_wp2_with fail
 generalize World.alloc (World.alloc (World.alloc w _) _) _ = W at *
 have HM := Lib.hid (HH.out.below HB.out.bl)
 have HC := Lib.hid (rcheckm_any An Ad As nn cn nd cd n c W.heap.size W.heap.size W.heap.size ns ds m W HM.out.hn HM.out.hd HM.out.hs (Nat.le_refl _) (Nat.le_refl _) (Nat.le_refl _) HM.out.sn HM.out.sd)
 refine HC.out.mono ?_
 rintro e w1 ⟨rfl, hb1⟩
 have HB1 := Lib.hid (HB.out.later hb1)
 clear hb1 HC HM HB
 by_cases h0 : maskErr ns ds m = 0; rotate_left
 ·have q : (maskErr ns ds m == 0) = false := by simpa using h0
  have q2 : (maskErr ns ds m != 0) = true := by simpa using h0
  have HR : Hid (stsErr ns ds m d p co = maskErr ns ds m) := by unfold Hid; rw [HIE.out, if_neg h0]
  have H0 := Lib.hid h0
  clear h0 HIE
  go_wp2_with fail
  go_ret2
  exact ⟨.inl ⟨by rw [HR.out]; exact H0.out, by rw [HR.out]; rfl⟩, HB1.out.bl⟩
 have HR : Hid (stsErr ns ds m d p co = if hzErr nd d p co = 0 then cErr m else hzErr nd d p co) := by unfold Hid; rw [HIE.out, if_pos h0]
 have H0 := Lib.hid h0
 clear HIE
 rw [h0]
 clear h0
 obtain ⟨⟨k0, k1⟩, ⟨o0, o1⟩, g0, g1, g2⟩ := HB1.out.cells
 go_wp2_with fail
 clear k0 k1 o0 o1 g0 g1 g2
 refine (hfault_any An Ad Al Ap nn cn nd cd nl cl np cp d p co w1 (by omega)).mono ?_
 rintro e w2 ⟨rfl, hb2⟩
 have HB2 := Lib.hid (HB1.out.later hb2)
 clear hb2 HB1
 by_cases he : hzErr nd d p co = 0; rotate_left
 ·have q : (hzErr nd d p co != 0) = true := by simpa using he
  have HE := Lib.hid he
  have HR2 : Hid (stsErr ns ds m d p co = hzErr nd d p co) := by unfold Hid; rw [HR.out, if_neg he]
  clear he HR
  go_wp2_with fail
  go_ret2
  exact ⟨.inl ⟨by rw [HR2.out]; exact HE.out, by rw [HR2.out]; rfl⟩, HB2.out.bl⟩
 have HR2 : Hid (stsErr ns ds m d p co = cErr m) := by unfold Hid; rw [HR.out, if_pos he]
 rw [he]
 clear he HR
 have hm64 : m.length ≤ 1000 := by
  obtain ⟨h1, h2, _⟩ := maskErr_net H0.out
  have := (NetOk.of h1).dl
  omega
 subst hls
 go_wp2_with fail
 refine (rall_any As c w2.heap.size m w2 (HH.out.below HB2.out.bl).hs (Nat.le_refl _) hm64).mono ?_
 rintro e w3 ⟨⟨h1, rfl⟩ | ⟨h1, A, k, ca, rfl, hR⟩, hb3⟩
 ·have H1 := Lib.hid h1
  clear h1
  go_wp2_with fail
  go_ret2
  exact ⟨.inl ⟨by rw [HR2.out]; exact H1.out, by rw [HR2.out]; rfl⟩, HB2.out.bl.trans (hb3.out.mono HB2.out.bl.size)⟩
 ·have H1 := Lib.hid h1
  clear h1
  go_wp2_with fail
  go_ret2
  exact ⟨.inr ⟨by rw [HR2.out]; exact H1.out, A, k, ca, rfl, hR⟩, HB2.out.bl.trans (hb3.out.mono HB2.out.bl.size)⟩
end Go.Proofs.YtnpfkiidhidjbaaGreatDoor
/-
 A drawn region in which some operations (allocs) may come anywhere beside a chain of calls: what holds is said by what is left to do.
-/
namespace Go.Proofs.YtnpfkiidhidjbaaGreatDoor
open Go.RowKit
section
variable {P : Program} {ops : Array Oper} {Q : Exit → Act → World → Prop} {md : Region.Mode} {S : World → Prop} {J : List Nat}
/-- What is left: the calls C, in their order, and D, which may come anywhere. -/
def latOk (md : Region.Mode) (ops : Array Oper) (fin : Array Bool) : Nat → List Nat → List Nat → Array Bool → Bool
 | 0, C, D, listed => C.isEmpty && D.isEmpty && listed == fin
 | n + 1, C, D, listed => !(Region.ready md ops listed).isEmpty && (Region.ready md ops listed).all (fun i => C.head? == some i || D.contains i) &&
   (match C with | c :: cs => latOk md ops fin n cs D (listed.setIfInBounds c true) | [] => true) && D.all (fun i => latOk md ops fin n C (D.erase i) (listed.setIfInBounds i true))
theorem wpAnyJ_lat {Φ : List Nat → List Nat → Act → World → Prop} {m : Nat} {fin : Array Bool}
  (hc : ∀ c cs D a w, Φ (c :: cs) D a w → wpOp P ops Q c (fun a' w' => (J.contains c = false → S w') ∧ Φ cs D a' w') a w)
  (hd : ∀ C D i a w, i ∈ D → Φ C D a w → wpOp P ops Q i (fun a' w' => (J.contains i = false → S w') ∧ Φ C (D.erase i) a' w') a w)
  (he : ∀ a w, Φ [] [] a w → wpAnyJ P md ops Q S J m fin a w) :
  ∀ (n : Nat) (C D : List Nat) (listed : Array Bool) (a : Act) (w : World), latOk md ops fin n C D listed = true → Φ C D a w → wpAnyJ P md ops Q S J (n + m) listed a w
 | 0, C, D, listed, a, w, hk, h => by
  simp only [latOk, Bool.and_eq_true, List.isEmpty_iff, beq_iff_eq] at hk
  obtain ⟨⟨rfl, rfl⟩, rfl⟩ := hk
  rw [Nat.zero_add]
  exact he a w h
 | n + 1, C, D, listed, a, w, hk, h => by
  simp only [latOk, Bool.and_eq_true] at hk
  obtain ⟨⟨⟨h1, h2⟩, h3⟩, h4⟩ := hk
  rw [Nat.add_right_comm]
  refine ⟨fun h0 => (by rw [h0] at h1; cases h1), fun j hj => ?_⟩
  have h5 := List.all_eq_true.1 h2 j hj
  rw [Bool.or_eq_true] at h5
  rcases h5 with h5 | h5
  ·rcases C with _ | ⟨c, cs⟩
   ·cases h5
   ·simp only [List.head?_cons, beq_iff_eq, Option.some.injEq] at h5
    subst h5
    exact wpOp_mono (fun a' w' h' => ⟨h'.1, wpAnyJ_lat hc hd he n cs D _ a' w' h3 h'.2⟩) (hc _ _ _ _ _ h)
  ·have hj' : j ∈ D := by simpa using h5
   exact wpOp_mono (fun a' w' h' => ⟨h'.1, wpAnyJ_lat hc hd he n C (D.erase j) _ a' w' (List.all_eq_true.1 h4 j hj') h'.2⟩) (hd _ _ _ _ _ hj' h)
def chkPre (md : Region.Mode) (ops : Array Oper) (J : List Nat) (fin : Array Bool) : List (Nat × Bool) → Array Bool → Bool
 | [], listed => listed == fin
 | (i, true) :: r, listed => Region.free md ops listed i && (Region.ready md ops listed).contains i && closedB md ops listed && J.all (ancB md ops i ops.size) && chkPre md ops J fin r (listed.setIfInBounds i true)
 | (_, false) :: _, _ => false
/-- What comes behind the operations that are taken first. -/
def QR (Q : Exit → Act → World → Prop) (R : Act → World → Prop) : Exit → Act → World → Prop := fun ex a w => match ex with
 | .normal => R a w
 | ex => Q ex a w
theorem wpAnyJ_of_pre {R : Act → World → Prop} {m : Nat} {fin : Array Bool} (hs : Region.noSelect ops = true) (hQ : ∀ c a d v w, Q (.panic c) (a.put (some d) v) w → Q (.panic c) a w) (hR : ∀ a w, R a w → wpAnyJ P md ops Q S J m fin a w) :
  ∀ (tk : List (Nat × Bool)) (listed : Array Bool) (a : Act) (w : World), chkPre md ops J fin tk listed = true → wpOrd' P ops (QR Q R) S J tk a w → wpAnyJ P md ops Q S J (tk.length + m) listed a w
 | [], listed, a, w, hc, h => by
  have : listed = fin := by simpa [chkPre] using hc
  subst this
  rw [List.length_nil, Nat.zero_add]
  exact hR a w h
 | (i, true) :: r, listed, a, w, hc, h => by
  simp only [chkPre, Bool.and_eq_true] at hc
  obtain ⟨⟨⟨⟨h1, h2⟩, h3⟩, h4⟩, h5⟩ := hc
  obtain ⟨hS, oi, v, hoi, hy, hr⟩ := h
  rw [List.length_cons, Nat.add_right_comm]
  exact wpAnyJ_take hoi rfl hs h1 h2 h3 h4 (fun c a w q => by cases hd : oi.dst with | none => rw [hd] at q; exact q | some d => rw [hd] at q; exact hQ c a d v w q) hy hS (wpAnyJ_of_pre hs hQ hR r _ _ _ h5 hr)
 | (_, false) :: _, _, _, _, hc, _ => by cases hc
def latReg (P : Program) (ops : Array Oper) (J : List Nat) (pre : List (Nat × Bool)) (C D : List Nat) (post : List (Nat × Bool)) (f0 f1 : Array Bool) : Bool :=
 P.follows .mixedOrders && Region.noSelect ops && pre.length + ((C.length + D.length) + post.length) == ops.size && chkPre .any ops J f0 pre (Array.replicate ops.size false) && latOk .any ops f1 (C.length + D.length) C D f0 && chkOrd .any ops J post f1
/-- The region: the operations 'pre' are taken first; then the calls C in their order and D anywhere; then 'post'. -/
theorem wp_region_lat {id : Nat} {a : Act} {w : World} {base : List (Nat × Value)} {n : Nat} (pre post : List (Nat × Bool)) (C D : List Nat) (f0 f1 : Array Bool) (hk : latReg P ops J pre C D post f0 f1 = true) (hn : a.tmps.size = n) (hb : BaseOk a base) (hS : S w.drew) (hq : ∀ c a d v w, Q (.panic c) (a.put (some d) v) w → Q (.panic c) a w)
  (h : ∀ (Q2 : Exit → Act → World → Prop) (A : Act), A.tmps.size = n → BaseOk A base → Hid (∀ L w', Q .normal (puts a L) w' → Q2 .normal (puts A L) w') → S w.drew →
   ∃ Φ : List Nat → List Nat → Act → World → Prop, wpOrd P ops (QR Q2 (Φ C D)) S J pre (puts A []) w.drew ∧
    (∀ c cs D a w, Φ (c :: cs) D a w → wpOp P ops Q2 c (fun a' w' => (J.contains c = false → S w') ∧ Φ cs D a' w') a w) ∧
    (∀ C D i a w, i ∈ D → Φ C D a w → wpOp P ops Q2 i (fun a' w' => (J.contains i = false → S w') ∧ Φ C (D.erase i) a' w') a w) ∧
    (∀ a w, Φ [] [] a w → wpOrd P ops Q2 S J post a w)) : (Code.region id ops true).wp P Q a w := by
 simp only [latReg, Bool.and_eq_true, beq_iff_eq] at hk
 obtain ⟨⟨⟨⟨⟨h1, h2⟩, h3⟩, h4⟩, h5⟩, h6⟩ := hk
 refine wp_region_J (J := J) h1 hS (fun hS => ?_)
 obtain ⟨Φ, k1, k2, k3, k4⟩ := h Q a hn hb (fun L w' h => h) hS
 have e : ∀ a w, Φ [] [] a w → wpAnyJ P .any ops Q S J post.length f1 a w := fun a w hΦ => by
  have := wpAnyJ_of_ord (P := P) h2 hq post 0 _ _ _ h6 (k4 a w hΦ).out
  rwa [Nat.add_zero] at this
 have l : ∀ a w, Φ C D a w → wpAnyJ P .any ops Q S J ((C.length + D.length) + post.length) f0 a w := fun a w hΦ => wpAnyJ_lat k2 k3 e _ C D f0 a w h5 hΦ
 have := wpAnyJ_of_pre (P := P) h2 hq l pre _ _ _ h4 k1.out
 rw [h3] at this
 exact this
/-- The end of the operations that are taken first. -/
theorem lat_pre {R : Act → World → Prop} {a : Act} {w : World} (h : R a w) : wpOrd P ops (QR Q R) S J [] a w := ⟨h⟩
section
variable {A : Act} {L : List (Nat × Value)} {w : World} {n i d : Nat} {oi : Oper} {v : Value} {R : Act → World → Prop}
theorem lat_call {f : FuncId} {xs : Array Operand} {ats : Array TypeId} {vs : Array Value} (hi : ops[i]? = some oi) (hd : oi.dst = some d) (ho : oi.op = .call { callee := .value (.func f), args := xs, argTypes := ats }) (hg : oi.guard = none)
  (hx : ∀ ρ : Operand → Value, Rd A L ρ → xs.map ρ = vs) (hf : ∀ w, (callFunc f vs).run P w = .ok (.enter f vs) w)
  (h : Calls P f vs w (fun e w' => ∃ v, e = .returned v ∧ R (puts A ((d, v) :: L)) w')) : wpOp P ops Q i R (puts A L) w := by
 simp only [wpOp, hi, wanted_none hg, if_true]
 refine .inl ?_
 have he : (execOp (puts A L).eval oi).run P w = .ok (.enter f vs) w := by
  have := hf w
  rw [← hx _ rfl] at this ⊢
  unfold execOp
  rw [ho]
  rw [← this]
  have e0 : (#[] ++ xs.map (puts A L).eval ++ #[] : Array Value) = xs.map (puts A L).eval := by simp
  conv => rhs; rw [← e0]
  rfl
 rw [Oper.wp, he, Oper.upon_enter]
 refine h.mono ?_
 rintro e w' ⟨v, rfl, h1⟩
 simp only [hd]
 exact h1
theorem lat_run {w' : World} (hi : ops[i]? = some oi) (hd : oi.dst = some d) (hg : oi.guard = none)
  (hv : ∀ ρ : Operand → Value, Rd A L ρ → (execOp ρ oi).run P w = .ok (.value v) w') (h : R (puts A ((d, v) :: L)) w') : wpOp P ops Q i R (puts A L) w := by
 simp only [wpOp, hi, wanted_none hg, if_true]
 refine .inl ?_
 rw [Oper.wp, hv _ rfl, Oper.upon_value, hd]
 exact h
/-- A store. -/
theorem ord_store {w' : World} {r : List (Nat × Bool)} (hi : ops[i]? = some oi) (hd : oi.dst = none) (hw : Region.wanted oi (yielded ops (puts A L).tmps) = true)
  (hv : ∀ ρ : Operand → Value, Rd A L ρ → (execOp ρ oi).run P w = .ok .skip w') (hS : J.contains i = false → S w') (h : wpOrd P ops Q S J r (puts A L) w') : wpOrd P ops Q S J ((i, false) :: r) (puts A L) w := by
 refine ⟨?_⟩
 simp only [wpOrd', wpOp, hi, hw, if_true]
 refine .inl ?_
 rw [Oper.wp, hv _ rfl, Oper.upon_skip, hd]
 exact ⟨hS, h.out⟩
/-- An entry that may be there. -/
def optE (b : Bool) (k : Nat) (v : Value) : List (Nat × Value) := if b = true then [(k, v)] else []
theorem miss_opt {b : Bool} {n k : Nat} {u v d : Value} {L : List (Nat × Value)} (h : Nat.beq n k = false) (r : lkp L n d = u) : lkp (optE b k v ++ L) n d = u := by
 cases b
 ·exact r
 ·exact miss1 h r
theorem put_comm (a : Act) {k1 k2 : Nat} (h : k1 ≠ k2) (v1 v2 : Value) : (a.put (some k1) v1).put (some k2) v2 = (a.put (some k2) v2).put (some k1) v1 := by
 simp only [Act.put]
 rw [Array.setIfInBounds_comm _ _ h]
theorem puts_swap (A : Act) (L : List (Nat × Value)) {k1 k2 : Nat} (h : k1 ≠ k2) (v1 v2 : Value) : puts A ((k1, v1) :: (k2, v2) :: L) = puts A ((k2, v2) :: (k1, v1) :: L) := by
 simp only [puts]
 exact put_comm _ (Ne.symm h) _ _
theorem puts_opt (A : Act) (L : List (Nat × Value)) {k1 k2 : Nat} (h : k1 ≠ k2) (b : Bool) (v1 v2 : Value) : puts A ((k1, v1) :: (optE b k2 v2 ++ L)) = puts A (optE b k2 v2 ++ ((k1, v1) :: L)) := by
 cases b
 ·rfl
 ·exact puts_swap A L h v1 v2
end
def ptr (x : Nat) : Value := .pointer (some ⟨x, 0, none⟩)
/-- Two blocks that may have been laid. -/
structure LatMem (H : Nat) (T7 T8 : TypeId) (z7 z8 : Array Value) (b7 b8 : Bool) (x7 x8 : Nat) (w : World) : Prop where
 le : H ≤ w.heap.size
 m7 : b7 = true → Blk w x7 T7 z7 ∧ H ≤ x7
 m8 : b8 = true → Blk w x8 T8 z8 ∧ H ≤ x8
 ne : b7 = true → b8 = true → x7 ≠ x8
section
variable {H x7 x8 g : Nat} {T7 T8 : TypeId} {z7 z8 : Array Value} {b7 b8 : Bool} {w w' : World}
theorem LatMem.later (h : LatMem H T7 T8 z7 z8 b7 b8 x7 x8 w) (hb : Below w.heap.size w w') : LatMem H T7 T8 z7 z8 b7 b8 x7 x8 w' :=
 ⟨Nat.le_trans h.le hb.size, fun e => ⟨(h.m7 e).1.below hb (h.m7 e).1.lt, (h.m7 e).2⟩, fun e => ⟨(h.m8 e).1.below hb (h.m8 e).1.lt, (h.m8 e).2⟩, h.ne⟩
theorem LatMem.grown (h : LatMem H T7 T8 z7 z8 b7 b8 x7 x8 w) (hg : w.grownBy w' (some g)) (hl : g < H) : LatMem H T7 T8 z7 z8 b7 b8 x7 x8 w' :=
 ⟨Nat.le_trans h.le hg.size, fun e => ⟨(h.m7 e).1.grown hg (fun e2 => by have := (h.m7 e).2; injection e2 with e2; omega), (h.m7 e).2⟩, fun e => ⟨(h.m8 e).1.grown hg (fun e2 => by have := (h.m8 e).2; injection e2 with e2; omega), (h.m8 e).2⟩, h.ne⟩
theorem LatMem.start (w : World) (x7 x8 : Nat) : LatMem w.heap.size T7 T8 z7 z8 false false x7 x8 w := ⟨Nat.le_refl _, fun e => (by cases e), fun e => (by cases e), fun e => (by cases e)⟩
theorem LatMem.one7 (h : LatMem H T7 T8 z7 z8 b7 b8 x7 x8 w) : LatMem H T7 T8 z7 z8 true b8 w.heap.size x8 (w.alloc (.cells z7 T7)) :=
 ⟨by have := h.le; simp; omega, fun _ => ⟨Blk.new _ _ _, h.le⟩, fun e => ⟨(h.m8 e).1.alloc _, (h.m8 e).2⟩, fun _ e => by have := (h.m8 e).1.lt; omega⟩
theorem LatMem.one8 (h : LatMem H T7 T8 z7 z8 b7 b8 x7 x8 w) : LatMem H T7 T8 z7 z8 b7 true x7 w.heap.size (w.alloc (.cells z8 T8)) :=
 ⟨by have := h.le; simp; omega, fun e => ⟨(h.m7 e).1.alloc _, (h.m7 e).2⟩, fun _ => ⟨Blk.new _ _ _, h.le⟩, fun e _ => by have := (h.m7 e).1.lt; omega⟩
end
def ents : List (Nat × Nat) → List Value → List (Nat × Value)
 | c :: cs, v :: vs => ents cs vs ++ [(c.2, v)]
 | _, _ => []
/-- The frame and the memory at a point of the region: vs: what the calls so far gave. -/
def LatP (A : Act) (L0 : List (Nat × Value)) (i7 i8 d7 d8 H : Nat) (T7 T8 : TypeId) (z7 z8 : Array Value) (Cs : List (Nat × Nat)) (F : List Value → World → Prop) (C D : List Nat) (a : Act) (w : World) : Prop :=
 ∃ (vs : List Value) (x7 x8 : Nat), C = (Cs.drop vs.length).map (·.1) ∧ D.Nodup ∧ (∀ i ∈ D, i = i7 ∨ i = i8) ∧ a = puts A (optE (!D.contains i8) d8 (ptr x8) ++ (optE (!D.contains i7) d7 (ptr x7) ++ (ents Cs vs ++ L0))) ∧ F vs w ∧ LatMem H T7 T8 z7 z8 (!D.contains i7) (!D.contains i8) x7 x8 w
section
variable {A : Act} {L0 : List (Nat × Value)} {i7 i8 d7 d8 H n : Nat} {T7 T8 : TypeId} {z7 z8 : Array Value} {Cs : List (Nat × Nat)} {F : List Value → World → Prop} {C D : List Nat} {a : Act} {w : World} {o7 o8 : Oper}
theorem erase_self {D : List Nat} (h : D.Nodup) (i : Nat) : (D.erase i).contains i = false := by
 rw [← Bool.not_eq_true, List.contains_iff_mem]; exact h.not_mem_erase
theorem erase_other {D : List Nat} {i j : Nat} (h : j ≠ i) : (D.erase i).contains j = D.contains j := by
 rw [Bool.eq_iff_iff, List.contains_iff_mem, List.contains_iff_mem, List.mem_erase_of_ne h]
theorem LatP.alloc (hF : ∀ vs w o, F vs w → F vs (w.alloc o)) (h78 : i7 ≠ i8) (hd : d7 ≠ d8) (h7 : ops[i7]? = some o7) (h8 : ops[i8]? = some o8) (hd7 : o7.dst = some d7) (hd8 : o8.dst = some d8) (hg7 : o7.guard = none) (hg8 : o8.guard = none)
  (hr7 : ∀ ρ : Operand → Value, ∀ w, (execOp ρ o7).run P w = .ok (.value (ptr w.heap.size)) (w.alloc (.cells z7 T7))) (hr8 : ∀ ρ : Operand → Value, ∀ w, (execOp ρ o8).run P w = .ok (.value (ptr w.heap.size)) (w.alloc (.cells z8 T8)))
  (i : Nat) (hi : i ∈ D) (h : LatP A L0 i7 i8 d7 d8 H T7 T8 z7 z8 Cs F C D a w) : wpOp P ops Q i (fun a' w' => LatP A L0 i7 i8 d7 d8 H T7 T8 z7 z8 Cs F C (D.erase i) a' w') a w := by
 obtain ⟨vs, x7, x8, hC, hn, hD, rfl, hf, hm⟩ := h
 have hc : D.contains i = true := by rw [List.contains_iff_mem]; exact hi
 rcases hD i hi with rfl | rfl
 ·refine lat_run h7 hd7 hg7 (fun ρ _ => hr7 ρ w) ?_
  refine ⟨vs, w.heap.size, x8, hC, hn.erase _, fun j hj => hD j (List.mem_of_mem_erase hj), ?_, hF _ _ _ hf, ?_⟩
  ·rw [erase_self hn, erase_other (Ne.symm h78), hc]
   exact puts_opt A _ hd _ _ _
  ·rw [erase_self hn, erase_other (Ne.symm h78)]
   exact hm.one7
 ·refine lat_run h8 hd8 hg8 (fun ρ _ => hr8 ρ w) ?_
  refine ⟨vs, x7, w.heap.size, hC, hn.erase _, fun j hj => hD j (List.mem_of_mem_erase hj), ?_, hF _ _ _ hf, ?_⟩
  ·rw [erase_self hn, erase_other h78, hc]
   rfl
  ·rw [erase_self hn, erase_other h78]
   exact hm.one8
end
end
end Go.Proofs.YtnpfkiidhidjbaaGreatDoor
/-
 As Lat, for one alloc beside a chain of calls.
-/
namespace Go.Proofs.YtnpfkiidhidjbaaGreatDoor
open Go.RowKit
structure LatMem1 (H : Nat) (T7 : TypeId) (z7 : Array Value) (b7 : Bool) (x7 : Nat) (w : World) : Prop where
 le : H ≤ w.heap.size
 m7 : b7 = true → Blk w x7 T7 z7 ∧ H ≤ x7
section
variable {H x7 g : Nat} {T7 : TypeId} {z7 : Array Value} {b7 : Bool} {w w' : World}
theorem LatMem1.later (h : LatMem1 H T7 z7 b7 x7 w) (hb : Below w.heap.size w w') : LatMem1 H T7 z7 b7 x7 w' :=
 ⟨Nat.le_trans h.le hb.size, fun e => ⟨(h.m7 e).1.below hb (h.m7 e).1.lt, (h.m7 e).2⟩⟩
theorem LatMem1.grown (h : LatMem1 H T7 z7 b7 x7 w) (hg : w.grownBy w' (some g)) (hl : g < H) : LatMem1 H T7 z7 b7 x7 w' :=
 ⟨Nat.le_trans h.le hg.size, fun e => ⟨(h.m7 e).1.grown hg (fun e2 => by have := (h.m7 e).2; injection e2 with e2; omega), (h.m7 e).2⟩⟩
theorem LatMem1.start (w : World) (x7 : Nat) : LatMem1 w.heap.size T7 z7 false x7 w := ⟨Nat.le_refl _, fun e => (by cases e)⟩
theorem LatMem1.one (h : LatMem1 H T7 z7 b7 x7 w) : LatMem1 H T7 z7 true w.heap.size (w.alloc (.cells z7 T7)) :=
 ⟨by have := h.le; simp; omega, fun _ => ⟨Blk.new _ _ _, h.le⟩⟩
end
section
variable {P : Program} {ops : Array Oper} {Q : Exit → Act → World → Prop}
/-- The frame and the memory at a point of the region: vs: what the calls so far gave. -/
def LatP1 (A : Act) (L0 : List (Nat × Value)) (i7 d7 H : Nat) (T7 : TypeId) (z7 : Array Value) (Cs : List (Nat × Nat)) (F : List Value → World → Prop) (C D : List Nat) (a : Act) (w : World) : Prop :=
 ∃ (vs : List Value) (x7 : Nat), C = (Cs.drop vs.length).map (·.1) ∧ D.Nodup ∧ (∀ i ∈ D, i = i7) ∧ a = puts A (optE (!D.contains i7) d7 (ptr x7) ++ (ents Cs vs ++ L0)) ∧ F vs w ∧ LatMem1 H T7 z7 (!D.contains i7) x7 w
theorem lat_push1 (A : Act) {d d7 : Nat} {v v7 : Value} {b7 : Bool} {Y : List (Nat × Value)} (h7 : d ≠ d7) : puts A ((d, v) :: (optE b7 d7 v7 ++ Y)) = puts A (optE b7 d7 v7 ++ ((d, v) :: Y)) := puts_opt A Y h7 b7 v v7
theorem LatP1.alloc {A : Act} {L0 : List (Nat × Value)} {i7 d7 H : Nat} {T7 : TypeId} {z7 : Array Value} {Cs : List (Nat × Nat)} {F : List Value → World → Prop} {C D : List Nat} {a : Act} {w : World} {o7 : Oper}
  (hF : ∀ vs w o, F vs w → F vs (w.alloc o)) (h7 : ops[i7]? = some o7) (hd7 : o7.dst = some d7) (hg7 : o7.guard = none) (hr7 : ∀ ρ : Operand → Value, ∀ w, (execOp ρ o7).run P w = .ok (.value (ptr w.heap.size)) (w.alloc (.cells z7 T7)))
  (i : Nat) (hi : i ∈ D) (h : LatP1 A L0 i7 d7 H T7 z7 Cs F C D a w) : wpOp P ops Q i (fun a' w' => LatP1 A L0 i7 d7 H T7 z7 Cs F C (D.erase i) a' w') a w := by
 obtain ⟨vs, x7, hC, hn, hD, rfl, hf, hm⟩ := h
 have hc : D.contains i = true := by rw [List.contains_iff_mem]; exact hi
 obtain rfl := hD i hi
 refine lat_run h7 hd7 hg7 (fun ρ _ => hr7 ρ w) ?_
 refine ⟨vs, w.heap.size, hC, hn.erase _, fun j hj => hD j (List.mem_of_mem_erase hj), ?_, hF _ _ _ hf, ?_⟩
 ·rw [erase_self hn, hc]; rfl
 ·rw [erase_self hn]; exact hm.one
end
end Go.Proofs.YtnpfkiidhidjbaaGreatDoor
