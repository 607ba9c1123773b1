import Derived.Test.YtepicjpdhpojnaaGreatDoorS37
import Derived.Test.YtepicjpdhpojnaaGreatDoorS17
import Derived.Test.YtepicjpdhpojnaaGreatDoorS36
import Derived.Test.YtepicjpdhpojnaaGreatDoorS32
import Derived.Test.YtepicjpdhpojnaaGreatDoorS10
import Derived.Test.YtepicjpdhpojnaaGreatDoorS15
set_option maxRecDepth 100000
set_option maxHeartbeats 8000000
namespace Go.Proofs.YtepicjpdhpojnaaGreatDoor
open Go.RowKit
structure FlM (w : World) (nb : Nat) (An Ad As Al At : Option Addr) (cn nd cd n c nl cl nt ct : Nat) (ns : List Nd) (ds : List Dv) (F : Fd) (wr : World) : Prop where
 x : FdX w.heap.size An Ad As Al At 6 cn nd cd n c nl cl nt ct ns ds F wr
 bn : Blk wr nb 30 #[.slice An 6 cn, .slice Ad nd cd]
 bf : Blk wr (nb + 1) 35 #[.slice As n c, .slice Al nl cl, .slice At nt ct]
 bl : Below w.heap.size w wr
 ge : w.heap.size < nb
structure FlB (w : World) (nb eb xb : Nat) (An Ad As Al At A1 A2 A3 : Option Addr) (cn nd cd n c nl cl nt ct n1 c1 n2 c2 n3 c3 : Nat) (ns : List Nd) (ds : List Dv) (F F' : Fd) (k d p q : Int) (wr : World) : Prop where
 m : FlM w nb An Ad As Al At cn nd cd n c nl cl nt ct ns ds F wr
 e : Blk wr eb 44 #[.int .i64 k, .int .i64 d, .int .i64 p, .int .i64 q]
 f : Blk wr xb 35 #[.slice A1 n1 c1, .slice A2 n2 c2, .slice A3 n3 c3]
 y : FdX w.heap.size An Ad A1 A2 A3 6 cn nd cd n1 c1 n2 c2 n3 c3 ns ds F' wr
section
variable {w w2 w3 wr wr' : World} {nb eb xb : Nat} {An Ad As Al At A1 A2 A3 : Option Addr} {cn nd cd n c nl cl nt ct n1 c1 n2 c2 n3 c3 : Nat} {ns : List Nd} {ds : List Dv} {F F' : Fd} {k d p q : Int}
theorem FlM.later (h : FlM w nb An Ad As Al At cn nd cd n c nl cl nt ct ns ds F wr) (hb : Below wr.heap.size wr wr') : FlM w nb An Ad As Al At cn nd cd n c nl cl nt ct ns ds F wr' :=
 ⟨h.x.later hb, h.bn.below hb h.bn.lt, h.bf.below hb h.bf.lt, h.bl.trans (hb.mono h.bl.size), h.ge⟩
theorem FlM.grown (h : FlM w nb An Ad As Al At cn nd cd n c nl cl nt ct ns ds F wr) (hl : Laid w) (hg : wr.grownBy wr' (some w.heap.size)) (hd : DeckAt wr' w.heap.size) : FlM w nb An Ad As Al At cn nd cd n c nl cl nt ct ns ds F wr' := by
 have := h.ge
 exact ⟨h.x.grown hl (Nat.le_refl _) hd hg, h.bn.grown hg (fun e => by injection e; omega), h.bf.grown hg (fun e => by injection e; omega), h.bl.trans (below_of_grown hg (Nat.le_refl _) h.bl.size), h.ge⟩
theorem FlM.mk0 (hb2 : Below w.heap.size w w2) (hs2 : w2.heap.size = w.heap.size + 1) (hg : w2.grownBy w3 (some w.heap.size)) (hX : FdX w.heap.size An Ad As Al At 6 cn nd cd n c nl cl nt ct ns ds F w3) :
 FlM w w3.heap.size An Ad As Al At cn nd cd n c nl cl nt ct ns ds F ((w3.alloc (.cells #[.slice An 6 cn, .slice Ad nd cd] 30)).alloc (.cells #[.slice As n c, .slice Al nl cl, .slice At nt ct] 35)) := by
 have hb3 : Below w.heap.size w w3 := hb2.trans (below_of_grown hg (Nat.le_refl _) (by omega))
 have hz := hg.size
 refine ⟨(hX.alloc _).alloc _, (Blk.new _ _ _).alloc _, ?_, (hb3.alloc hb3.size _).alloc (by simp; omega) _, by omega⟩
 have := Blk.new (w3.alloc (.cells #[.slice An 6 cn, .slice Ad nd cd] 30)) 35 #[.slice As n c, .slice Al nl cl, .slice At nt ct]
 rwa [World.size_alloc] at this
theorem FlB.later (h : FlB w nb eb xb An Ad As Al At A1 A2 A3 cn nd cd n c nl cl nt ct n1 c1 n2 c2 n3 c3 ns ds F F' k d p q wr) (hb : Below wr.heap.size wr wr') : FlB w nb eb xb An Ad As Al At A1 A2 A3 cn nd cd n c nl cl nt ct n1 c1 n2 c2 n3 c3 ns ds F F' k d p q wr' :=
 ⟨h.m.later hb, h.e.below hb h.e.lt, h.f.below hb h.f.lt, h.y.later hb⟩
theorem FlM.step (h : FlM w nb An Ad As Al At cn nd cd n c nl cl nt ct ns ds F wr) (hb : Below wr.heap.size wr wr') (hi1 : IntsO wr' wr.heap.size A1 n1 c1 F'.s) (hi2 : LocksO wr' wr.heap.size A2 n2 c2 F'.ls) (hi3 : IntsO wr' wr.heap.size A3 n3 c3 F'.st) : FdX w.heap.size An Ad A1 A2 A3 6 cn nd cd n1 c1 n2 c2 n3 c3 ns ds F' wr' := by
 have h1 := h.x.later hb
 have hg := h.x.dk.lt
 exact ⟨h1.dk, h1.hn, h1.hd, SlX.of_own hi1 hg, SlX.of_own hi2 hg, SlX.of_own hi3 hg, h1.la, h1.sn, h1.sd⟩
theorem FlM.take (h : FlM w nb An Ad As Al At cn nd cd n c nl cl nt ct ns ds F wr) (hl : Laid w) (hy : FdX w.heap.size An Ad A1 A2 A3 6 cn nd cd n1 c1 n2 c2 n3 c3 ns ds F' wr) :
 FlM w nb An Ad A1 A2 A3 cn nd cd n1 c1 n2 c2 n3 c3 ns ds F' (((wr.setCell ⟨nb + 1, 0, none⟩ (.slice A1 n1 c1)).setCell ⟨nb + 1, 1, none⟩ (.slice A2 n2 c2)).setCell ⟨nb + 1, 2, none⟩ (.slice A3 n3 c3)) := by
 have := h.ge
 exact ⟨hy.out3 h.bf (by omega) hl (by omega), ((h.bn.far (p := ⟨nb + 1, 0, none⟩) (by simp) _).far (p := ⟨nb + 1, 1, none⟩) (by simp) _).far (p := ⟨nb + 1, 2, none⟩) (by simp) _, ((h.bf.set 0 _).set 1 _).set 2 _, ((h.bl.setCell (by simp; omega) _).setCell (by simp; omega) _).setCell (by simp; omega) _, h.ge⟩
theorem FlM.ln (h : FlM w nb An Ad As Al At cn nd cd n c nl cl nt ct ns ds F wr) : ns.length = 6 ∧ ds.length = nd ∧ F.s.length = n ∧ F.ls.length = nl ∧ F.st.length = nt := h.x.fdm.ln
end
end Go.Proofs.YtepicjpdhpojnaaGreatDoor
namespace Go.Proofs.YtepicjpdhpojnaaGreatDoor
open Go.RowKit
def allB (fs ls : List Lk) (i : Nat) : Bool := (ls.take i).all fun k => hasLk fs k
def deadB (cl z : List Int) (i : Nat) : Bool := (z.take i).all fun v => !liveAt cl v
theorem sec_no (ns : List Nd) (ds : List Dv) (F : Fd) (ls : List Lk) (z cl : List Int) : secB ns ds F ls z cl false = (allB F.ls ls ls.length && deadB cl z z.length) := by
 unfold secB allB deadB
 rw [List.take_of_length_le (Nat.le_refl _), List.take_of_length_le (Nat.le_refl _)]
 have h1 : (ls.any fun k => !hasLk F.ls k) = !(ls.all fun k => hasLk F.ls k) := by rw [List.not_all_eq_any_not]
 have h2 : z.any (liveAt cl) = !(z.all fun v => !liveAt cl v) := by rw [List.not_all_eq_any_not]; congr 1; funext v; rw [Bool.not_not]
 rw [h1, h2]
 cases ls.all fun k => hasLk F.ls k <;> cases z.all fun v => !liveAt cl v <;> rfl
theorem sec_yes (ns : List Nd) (ds : List Dv) (F : Fd) (ls : List Lk) (z cl : List Int) : secB ns ds F ls z cl true = (secB ns ds F ls z cl false && sidesB ns ds ls z) := by
 unfold secB; simp
theorem sec_err {ns : List Nd} {ds : List Dv} {F : Fd} {ls : List Lk} {z : List Int} (h : fdErr ns ds F = 0) (h1 : locksErr ns ds ls = 0) (h2 : zoneErr ns ds z = 0) : secErr ns ds F ls z = 0 ∧ sideErr ns ds ls z = 0 := by
 have h3 : sideErr ns ds ls z = 0 := by unfold sideErr; rw [if_neg (by omega)]; exact h2
 exact ⟨by unfold secErr; rw [if_neg (by omega)]; exact h3, h3⟩
theorem zone_fine {ns : List Nd} {ds : List Dv} {z : List Int} (hc : checkN ns ds = 0) (h0 : 0 < z.length) (hr : risL ns.length (-1) z = true) : zoneErr ns ds z = 0 := by
 unfold zoneErr
 rw [if_neg (by omega), if_neg (by omega), if_neg (by rw [hr]; simp)]
end Go.Proofs.YtepicjpdhpojnaaGreatDoor
namespace Go.Proofs.YtepicjpdhpojnaaGreatDoor
open Go.RowKit
def SrcIn (ds : List Dv) (gs z : List Int) : Prop := ∃ (i : Nat) (x : Dv), ds[i]? = some x ∧ Rgn ds gs z x.a ∧ (x.kind = 5 ∨ x.kind = 6 ∧ hasB gs i = false)
section
variable {nn : Nat} {ds : List Dv} {s gs z cl : List Int}
theorem conn_rgn {u v : Int} (ho : ∀ i : Nat, hasB gs i = true → shutB s i = false) (hz : Rgn ds gs z u) (h : Conn ds s u v) : Rgn ds gs z v := by
 unfold Conn at h
 induction h with
 | base hv => rw [List.mem_singleton.1 hv]; exact hz
 | step _ _ hx hU h0 ih =>
  rename_i i x _ _
  refine .step ih rfl hx ?_ h0
  rcases hb : hasB gs i with _ | _
  ·rfl
  ·rw [ho i hb] at hU; cases hU
theorem live_src (ha : AOk nn ds) {v : Int} (hv : v ∈ z) (ho : ∀ i : Nat, hasB gs i = true → shutB s i = false) (h : HasK liveK ds s v) : SrcIn ds gs z := by
 obtain ⟨i, x, hx, hs, hk, hc⟩ := h
 have hr := conn_rgn ho (.base hv : Rgn ds gs z v) (hc.sym (ha x (List.mem_of_getElem? hx)).1)
 refine ⟨i, x, hx, hr, hk.elim .inl fun h6 => .inr ⟨h6, ?_⟩⟩
 rcases hb : hasB gs i with _ | _
 ·rfl
 ·have := ho i hb
  unfold shutB at this
  rw [List.getD_eq_getElem?_getD, hs] at this
  simp at this
theorem liveAt_iff (hc : IsCols nn ds s cl) {v : Int} (h0 : 0 ≤ v) (h1 : v < nn) : liveAt cl v = true ↔ HasK liveK ds s v := by
 obtain ⟨k, rfl⟩ := Int.eq_ofNat_of_zero_le h0
 unfold liveAt
 rw [Int.toNat_natCast, List.getD_eq_getElem?_getD, hc.2 k (by omega)]
 unfold colV
 rcases ind_cases (HasK liveK ds s k) 1 with ⟨h, e⟩ | ⟨h, e⟩ <;> rcases ind_cases (HasK (· = 4) ds s k) 2 with ⟨h', f⟩ | ⟨h', f⟩ <;> rw [e, f]
 ·exact ⟨fun _ => h, fun _ => by decide⟩
 ·exact ⟨fun _ => h, fun _ => by decide⟩
 ·exact ⟨fun k => absurd k (by decide), fun k => absurd k h⟩
 ·exact ⟨fun k => absurd k (by decide), fun k => absurd k h⟩
theorem dead_iff (hc : IsCols nn ds s cl) (hz : ∀ v ∈ z, 0 ≤ v ∧ v < nn) : deadB cl z z.length = true ↔ ¬ ∃ v ∈ z, HasK liveK ds s v := by
 unfold deadB
 rw [List.take_of_length_le (Nat.le_refl _), List.all_eq_true]
 constructor
 ·rintro h ⟨v, hv, hk⟩
  have := h v hv
  rw [(liveAt_iff hc (hz v hv).1 (hz v hv).2).2 hk] at this
  cases this
 ·intro h v hv
  rcases hb : liveAt cl v with _ | _
  ·rfl
  ·exact absurd ⟨v, hv, (liveAt_iff hc (hz v hv).1 (hz v hv).2).1 hb⟩ h
end
def okR (ds : List Dv) (gs : List Int) (f : Int → Bool) (j : Nat) : Prop := ∀ x, ds[j]? = some x → joinsB x.kind = true → hasB gs j = false → f x.a = f x.b
def cntR (nn : Nat) (f : Int → Bool) : Nat := ((List.range nn).filter fun v : Nat => f v).length
structure RgI (ds : List Dv) (gs z : List Int) (f : Int → Bool) : Prop where
 sound : ∀ v, f v = true → Rgn ds gs z v
 zone : ∀ v ∈ z, f v = true
def RdI (nn : Nat) (ds : List Dv) (gs : List Int) (f0 : Int → Bool) (j : Nat) (f : Int → Bool) : Prop := ((∀ v, f v = f0 v) ∧ ∀ i, i < j → okR ds gs f i) ∨ cntR nn f0 < cntR nn f
def RkI (nn : Nat) (ds : List Dv) (gs : List Int) (k : Nat) (f : Int → Bool) : Prop := (∀ i, okR ds gs f i) ∨ k + 1 ≤ cntR nn f
section
variable {nn : Nat} {ds : List Dv} {gs z : List Int} {f f0 : Int → Bool}
theorem cntR_le (nn : Nat) (f : Int → Bool) : cntR nn f ≤ nn := Nat.le_trans (List.length_filter_le _ _) (by simp)
theorem filt_mono {α : Type} {p q : α → Bool} : ∀ {l : List α}, (∀ v ∈ l, p v = true → q v = true) → (l.filter p).length ≤ (l.filter q).length
 | [], _ => Nat.le_refl _
 | a :: l, h => by
  have ih := filt_mono (p := p) (q := q) (l := l) fun v hv => h v (List.mem_cons_of_mem _ hv)
  rw [List.filter_cons, List.filter_cons]
  rcases hp : p a with _ | _
  ·simp only [Bool.false_eq_true, if_false]
   split
   ·rw [List.length_cons]; omega
   ·exact ih
  ·rw [h a (List.mem_cons_self ..) hp]
   simp only [if_true, List.length_cons]
   omega
theorem filt_more {α : Type} {p q : α → Bool} : ∀ {l : List α} {a : α}, a ∈ l → p a = false → q a = true → (∀ v ∈ l, p v = true → q v = true) → (l.filter p).length < (l.filter q).length
 | [], _, ha, _, _, _ => by cases ha
 | b :: l, a, ha, hp, hq, h => by
  have hm : ∀ v ∈ l, p v = true → q v = true := fun v hv => h v (List.mem_cons_of_mem _ hv)
  rw [List.filter_cons, List.filter_cons]
  rcases List.mem_cons.1 ha with rfl | ha
  ·rw [hp, hq]
   have := filt_mono hm
   simp only [Bool.false_eq_true, if_false, if_true, List.length_cons]
   omega
  ·have ih := filt_more ha hp hq hm
   rcases hb : p b with _ | _
   ·simp only [Bool.false_eq_true, if_false]
    split
    ·rw [List.length_cons]; omega
    ·exact ih
   ·rw [h b (List.mem_cons_self ..) hb]
    simp only [if_true, List.length_cons]
    omega
theorem cntR_mono (h : ∀ v, f0 v = true → f v = true) : cntR nn f0 ≤ cntR nn f := filt_mono fun v _ => h v
theorem cntR_more {a : Nat} (ha : a < nn) (h0 : f0 a = false) (h1 : f a = true) (h : ∀ v, f0 v = true → f v = true) : cntR nn f0 < cntR nn f := filt_more (List.mem_range.2 ha) h0 h1 fun v _ => h v
theorem RdI.start : RdI nn ds gs f0 0 f0 := .inl ⟨fun _ => rfl, fun i hi => by omega⟩
theorem RdI.skip {j : Nat} (h : RdI nn ds gs f0 j f) (hj : okR ds gs f j) : RdI nn ds gs f0 (j + 1) f := by
 rcases h with ⟨h1, h2⟩ | h
 ·refine .inl ⟨h1, fun i hi => ?_⟩
  rcases Nat.lt_succ_iff_lt_or_eq.1 hi with hi | rfl
  ·exact h2 i hi
  ·exact hj
 ·exact .inr h
def two (f : Int → Bool) (a b : Int) : Int → Bool := fun v => if v = b then true else if v = a then true else f v
theorem two_mono {a b : Int} (v : Int) (h : f v = true) : two f a b v = true := by unfold two; split; rfl; split; rfl; exact h
theorem two_a {a b : Int} : two f a b a = true := by unfold two; split; rfl; rw [if_pos rfl]
theorem two_b {a b : Int} : two f a b b = true := by unfold two; rw [if_pos rfl]
theorem two_inv {a b v : Int} (h : two f a b v = true) : v = a ∨ v = b ∨ f v = true := by
 unfold two at h
 by_cases h1 : v = b
 ·exact .inr (.inl h1)
 ·by_cases h2 : v = a
  ·exact .inl h2
  ·rw [if_neg h1, if_neg h2] at h; exact .inr (.inr h)
theorem RdI.mark {j : Nat} {x : Dv} (h : RdI nn ds gs f0 j f) (he : EndsOk nn ds) (hx : ds[j]? = some x) (hj : joinsB x.kind = true) : RdI nn ds gs f0 (j + 1) (two f x.a x.b) := by
 have hm : ∀ v, f v = true → two f x.a x.b v = true := two_mono
 by_cases hab : f x.a = true ∧ f x.b = true
 ·have hs : ∀ v, two f x.a x.b v = f v := fun v => by
   unfold two
   split
   ·rename_i e; rw [e, hab.2]
   ·split
    ·rename_i e; rw [e, hab.1]
    ·rfl
  rw [show two f x.a x.b = f from funext hs]
  refine h.skip fun y hy _ _ => ?_
  obtain rfl : x = y := Option.some.inj (hx.symm.trans hy)
  rw [hab.1, hab.2]
 ·have hlt : cntR nn f < cntR nn (two f x.a x.b) := by
   obtain ⟨⟨a0, a1⟩, b0, b1⟩ := he x (List.mem_of_getElem? hx) hj
   obtain ⟨a, ha⟩ := Int.eq_ofNat_of_zero_le a0
   obtain ⟨b, hb⟩ := Int.eq_ofNat_of_zero_le b0
   rcases h1 : f x.a with _ | _
   ·exact cntR_more (a := a) (by omega) (by rw [← ha]; exact h1) (by rw [← ha]; exact two_a) hm
   ·rcases h2 : f x.b with _ | _
    ·exact cntR_more (a := b) (by omega) (by rw [← hb]; exact h2) (by rw [← hb]; exact two_b) hm
    ·exact absurd ⟨h1, h2⟩ hab
  rcases h with ⟨h1, _⟩ | h
  ·refine .inr ?_
   rw [show f0 = f from funext fun v => (h1 v).symm]
   exact hlt
  ·exact .inr (Nat.lt_trans h hlt)
theorem RgI.mark {j : Nat} {x : Dv} (h : RgI ds gs z f) (he : EndsOk nn ds) (hne : ∀ x ∈ ds, joinsB x.kind = true → x.b ≠ x.a) (hx : ds[j]? = some x) (hj : joinsB x.kind = true) (hg : hasB gs j = false) (hab : f x.a = true ∨ f x.b = true) : RgI ds gs z (two f x.a x.b) := by
 have hm := List.mem_of_getElem? hx
 obtain ⟨⟨a0, a1⟩, b0, b1⟩ := he x hm hj
 have hra : Rgn ds gs z x.a ∧ Rgn ds gs z x.b := by
  rcases hab with h1 | h1
  ·refine ⟨h.sound _ h1, ?_⟩
   have := acr_a hj
   rw [← this]
   exact .step (h.sound _ h1) rfl hx (by rw [hg]; rfl) (by rw [this]; exact b0)
  ·refine ⟨?_, h.sound _ h1⟩
   have := acr_b hj (hne x hm hj)
   rw [← this]
   exact .step (h.sound _ h1) rfl hx (by rw [hg]; rfl) (by rw [this]; exact a0)
 exact ⟨fun v hv => by rcases two_inv hv with rfl | rfl | hv; exact hra.1; exact hra.2; exact h.sound v hv, fun v hv => two_mono v (h.zone v hv)⟩
theorem closed_rgn (h : RgI ds gs z f) (hk : ∀ i, okR ds gs f i) {v : Int} (hr : Rgn ds gs z v) : f v = true := by
 unfold Rgn at hr
 induction hr with
 | base hv => exact h.zone _ hv
 | step _ _ hx hU h0 ih =>
  rename_i a i x _ _
  have hu : hasB gs i = false := by simpa using hU
  obtain ⟨hj, ⟨e1, e2⟩ | ⟨e1, e2⟩⟩ := acr_two h0
  ·rw [e2, ← hk i x hx hj hu, ← e1]; exact ih
  ·rw [e2, hk i x hx hj hu, ← e1]; exact ih
theorem RkI.next {k : Nat} (h : RkI nn ds gs k f0) (h0 : RgI ds gs z f0) (h1 : RgI ds gs z f) (hr : RdI nn ds gs f0 ds.length f) : RkI nn ds gs (k + 1) f := by
 have hall : (∀ i, i < ds.length → okR ds gs f i) → ∀ i, okR ds gs f i := fun ha i => by
  by_cases hi : i < ds.length
  ·exact ha i hi
  ·intro x hx; rw [List.getElem?_eq_none (by omega)] at hx; cases hx
 rcases hr with ⟨_, h2⟩ | h2
 ·exact .inl (hall h2)
 ·rcases h with h | h
  ·have := cntR_mono (nn := nn) (f0 := f) (f := f0) fun v hv => closed_rgn h0 h (h1.sound v hv)
   omega
  ·exact .inr (by omega)
theorem RkI.final (h : RkI nn ds gs nn f) (hi : RgI ds gs z f) (v : Int) : f v = true ↔ Rgn ds gs z v := by
 rcases h with h | h
 ·exact ⟨hi.sound v, closed_rgn hi h⟩
 ·have := cntR_le nn f; omega
theorem RkI.start (hz : 0 < z.length) (hr : ∀ v ∈ z, 0 ≤ v ∧ v < nn) (hf : ∀ v, f v = true ↔ v ∈ z) : RkI nn ds gs 0 f ∧ RgI ds gs z f := by
 refine ⟨.inr ?_, fun v hv => .base ((hf v).1 hv), fun v hv => (hf v).2 hv⟩
 obtain ⟨v, hv⟩ := List.exists_mem_of_length_pos hz
 obtain ⟨h0, h1⟩ := hr v hv
 obtain ⟨k, rfl⟩ := Int.eq_ofNat_of_zero_le h0
 have := cntR_more (nn := nn) (f0 := fun _ => false) (f := f) (a := k) (by omega) rfl ((hf _).2 hv) (fun _ h => by cases h)
 omega
end
end Go.Proofs.YtepicjpdhpojnaaGreatDoor
namespace Go.Proofs.YtepicjpdhpojnaaGreatDoor
open Go.RowKit
def EuR1 (w : World) (N : Array Value) (n gk : Nat) (iv : Value) (wr : World) : Prop := ∃ i : Nat, iv = .int .i64 i ∧ i ≤ n ∧ gk = n - i ∧ Hid (Blk wr w.heap.size 30 N) ∧ Hid (Below w.heap.size w wr)
theorem ris_at {u : Int} : ∀ {gs : List Int} {l : Int}, risL u l gs = true → ∀ {j : Nat} {x y : Int}, gs[j]? = some x → gs[j + 1]? = some y → x < y := by
 intro gs l h j x y hx hy
 have hp : ∀ {gs : List Int} {l : Int}, risL u l gs = true → ∀ {y : Int} {j : Nat}, gs[j]? = some y → l < y := by
  intro gs
  induction gs with
  | nil => intro l _ y j hy; simp at hy
  | cons a gs ih =>
   intro l h y j hy
   rw [risL] at h
   simp only [Bool.and_eq_true, decide_eq_true_eq] at h
   rcases j with _ | j
   ·simp at hy; omega
   ·simp at hy; have := ih h.2 hy; omega
 induction gs generalizing l j with
 | nil => simp at hx
 | cons a gs ih =>
  rw [risL] at h
  simp only [Bool.and_eq_true, decide_eq_true_eq] at h
  rcases j with _ | j
  ·simp at hx hy; subst hx; exact hp h.2 (j := 0) hy
  ·simp at hx hy; exact ih h.2 hx hy
theorem rfault15_any (An Ad Az Ag : Option Addr) (nn cn nd cd n c ng cg : Nat) (ns : List Nd) (ds : List Dv) (z gs : List Int) (w : World) (hn : Sl w w.heap.size 3 An nn cn (ns.flatMap Nd.cells)) (hd : Sl w w.heap.size 5 Ad nd cd (ds.flatMap Dv.cells)) (hz : Sl w w.heap.size 1 Az n c (intsV z)) (hg : Sl w w.heap.size 1 Ag ng cg (intsV gs))
 (hsn : ∀ x ∈ ns, x.name.size ≤ 9223372036854775807) (hsd : ∀ x ∈ ds, x.name.size ≤ 9223372036854775807) (hgo : GapsOk ds gs) :
 Calls Tryz.prog 123 #[.agg #[.slice An nn cn, .slice Ad nd cd], .slice Az n c, .slice Ag ng cg] w fun e w' => e = .returned (.int .i64 (zoneErr ns ds z)) ∧ Below w.heap.size w w' := by
 have HLD := Lib.hid (hd.len (fun _ => rfl) (by decide)); have HLG := Lib.hid (hg.len (fun _ => rfl) (by decide))
 have hgl := hg.le
 have hdl := hd.le
 have HB : Hid (Below w.heap.size w (w.alloc (.cells #[.slice An nn cn, .slice Ad nd cd] 30))) := (Below.refl _ _).alloc (Nat.le_refl _) _
 have HK := Lib.hid (Blk.new w 30 #[.slice An nn cn, .slice Ad nd cd])
 have HN := Lib.hid hn; have HD := Lib.hid hd; have HZ := Lib.hid hz; have HG := Lib.hid hg; have HSN := Lib.hid hsn; have HSD := Lib.hid hsd; have HGO := Lib.hid hgo
 clear hn hd hz hg hsn hsd hgo
 go_enter Tryz.func123, Tryz.ntmps123
 go_upto_region 1 with (fail)
 generalize World.alloc w _ = W at *
 have hzW := HB.out.size
 have k0 : W.cell? ⟨w.heap.size, 0, none⟩ = some (.slice An nn cn) := HK.out.cell 0
 have k1 : W.cell? ⟨w.heap.size, 1, none⟩ = some (.slice Ad nd cd) := HK.out.cell 1
 go_wp2_with fail
 clear k0 k1
 refine (rzcheck_any An Ad Az nn cn nd cd n c ns ds z W ((HN.out.below HB.out (Nat.le_refl _)).more hzW) ((HD.out.below HB.out (Nat.le_refl _)).more hzW) ((HZ.out.below HB.out (Nat.le_refl _)).more hzW) HSN.out HSD.out).mono ?_
 rintro e w1 ⟨rfl, hb1⟩
 have HB1 := Lib.hid (HB.out.trans (hb1.mono hzW)); have HK1 := Lib.hid (HK.out.below hb1 HK.out.lt)
 clear hb1 HB HK
 by_cases he : zoneErr ns ds z = 0; rotate_left
 ·have q : (zoneErr ns ds z != 0) = true := by simpa using he
  clear he
  go_wp2_with fail
  go_ret
  exact ⟨rfl, HB1.out⟩
 have HZE := Lib.hid he
 rw [he]
 clear he
 go_wp2_with fail
 refine wp_loop_u1 [(5, 0), (0, 1), (0, 0), (0, 2), (5, 0), (47, 1)] 8 (ng) (EuR1 w #[.slice An nn cn, .slice Ad nd cd] ng) (by (try dsimp only [gt]); exact ⟨0, rfl, Nat.zero_le _, rfl, HK1, HB1⟩) (by kernel_rfl) ?_
 intro u1 p8 gk wr a hrel ha J1 K1 hJ1 hK1
 dsimp only [relaxR, Go.Proofs.YtepicjpdhpojnaaGreatDoor.v1, Nat.reduceAdd] at ha
 subst ha
 clear HB1 HK1 w1
 obtain ⟨j, rfl, hj, rfl, hK, hB⟩ := hrel
 by_cases hlt : j < ng; rotate_left
 ·have hii : decide ((j : Int) < (ng : Int)) = false := by simp; omega
  have hii2 : decide (j < ng) = false := by simp; omega
  go_wp2_with fail
  go_ret
  exact ⟨ret_int HZE.out.symm, hB.out⟩
 obtain ⟨bt, ot, tv, hAt, hbt, htv, hct⟩ := (HG.out.below hB.out (Nat.le_refl _)).at1 hlt
 have htr := ris_mem HGO.out.1 tv (List.mem_of_getElem? htv)
 obtain ⟨tv, rfl⟩ := Int.eq_ofNat_of_zero_le htr.1
 have htn : tv < nd := by have := HLD.out; omega
 obtain ⟨bd, od, x, hAd, hbd, hx, hc⟩ := (HD.out.below hB.out (Nat.le_refl _)).at (fun _ => rfl) (by decide) htn
 have HGK : Hid (gapB x.kind = true) := HGO.out.2 _ (List.mem_of_getElem? htv) x (by rw [Int.toNat_natCast]; exact hx)
 obtain ⟨nm, kd, xa, xb, co⟩ := x
 have c1 : wr.cell? ⟨bd, od + tv * 5 + 1, none⟩ = some (.int .i64 kd) := hc 1 _ rfl
 have k1 : wr.cell? ⟨w.heap.size, 1, none⟩ = some (.slice Ad nd cd) := hK.out.cell 1
 subst hAt
 subst hAd
 have q0 : decide ((tv : Int) < 0) = false := by simp
 have q1 : decide ((nd : Int) ≤ (tv : Int)) = false := by simp; omega
 have q1n : decide (nd ≤ tv) = false := by simp; omega
 simp only at HGK
 clear hc hx htr
 by_cases hj0 : j = 0
 ·have q2 : decide (0 < (j : Int)) = false := by simp; omega
  have q2n : decide (0 < j) = false := by simp; omega
  clear htv hj0
  go_wp2_with fail
  go_quiet (fail)
  go_wp2_with fail
  go_quiet ((go_at_call 97; first | exact quiet_eq (rgapk_any _ _) | exact quiet_eq_add (rgapk_any _ _)))
  rw [HGK.out]
  go_wp2_with fail
  refine Handed.intro (ng - (j + 1)) (by omega) (hJ1 _ _ _ (LpI1.back 8 ?_ (by kernel_rfl)))
  dsimp only [gt]
  exact ⟨j + 1, by go_num, by omega, rfl, hK.out.below (below_drewN (Below.refl _ _) _) hK.out.lt, below_drewN hB.out _⟩
 ·obtain ⟨m, hm⟩ : ∃ m, m = j - 1 := ⟨_, rfl⟩
  have hmt : m < ng := by omega
  have e1 : (j : Int) - 1 = (m : Int) := by omega
  have q2 : decide (0 < (j : Int)) = true := by simp; omega
  have q2n : decide (0 < j) = true := by simp; omega
  obtain ⟨bt2, ot2, pv, hAt, -, hpv, hcp⟩ := (HG.out.below hB.out (Nat.le_refl _)).at1 hmt
  injection hAt with hAt
  injection hAt with hA1 hA2
  subst hA1 hA2
  have hlp : pv < (tv : Int) := ris_at HGO.out.1 hpv (by rw [show m + 1 = j by omega]; exact htv)
  have q3 : decide ((tv : Int) ≤ pv) = false := by simp; omega
  clear htv hj0 hpv hm hlp
  go_wp2_with fail
  go_quiet (fail)
  go_wp2_with fail
  go_quiet ((go_at_call 97; first | exact quiet_eq (rgapk_any _ _) | exact quiet_eq_add (rgapk_any _ _)))
  rw [HGK.out]
  go_wp2_with fail
  refine Handed.intro (ng - (j + 1)) (by omega) (hJ1 _ _ _ (LpI1.back 8 ?_ (by kernel_rfl)))
  dsimp only [gt]
  exact ⟨j + 1, by go_num, by omega, rfl, hK.out.below (below_drewN (Below.refl _ _) _) hK.out.lt, below_drewN hB.out _⟩
theorem rRegion15_any (An Ad Az Ag : Option Addr) (nn cn nd cd n c ng cg : Nat) (ns : List Nd) (ds : List Dv) (z gs : List Int) (w : World) (hn : Sl w w.heap.size 3 An nn cn (ns.flatMap Nd.cells)) (hd : Sl w w.heap.size 5 Ad nd cd (ds.flatMap Dv.cells)) (hz : Sl w w.heap.size 1 Az n c (intsV z)) (hg : Sl w w.heap.size 1 Ag ng cg (intsV gs))
 (hsn : ∀ x ∈ ns, x.name.size ≤ 9223372036854775807) (hsd : ∀ x ∈ ds, x.name.size ≤ 9223372036854775807) (hgo : GapsOk ds gs) :
 Calls Tryz.prog 102 #[.agg #[.slice An nn cn, .slice Ad nd cd], .slice Az n c, .slice Ag ng cg] w (IntsEPost w (zoneErr ns ds z) (nodesL nn (Rgn ds gs z))) := by
 have HLD := Lib.hid (hd.len (fun _ => rfl) (by decide)); have HLN := Lib.hid (hn.len (fun _ => rfl) (by decide))
 have hdl := hd.le
 have HB : Hid (Below w.heap.size w (w.alloc (.cells #[.slice An nn cn, .slice Ad nd cd] 30))) := (Below.refl _ _).alloc (Nat.le_refl _) _
 have HK := Lib.hid (Blk.new w 30 #[.slice An nn cn, .slice Ad nd cd])
 have HN := Lib.hid hn; have HD := Lib.hid hd; have HZ := Lib.hid hz; have HG := Lib.hid hg; have HSN := Lib.hid hsn; have HSD := Lib.hid hsd; have HGO := Lib.hid hgo
 clear hn hd hz hg hsn hsd hgo
 go_enter Tryz.func102, Tryz.ntmps102
 go_upto_region 1 with (fail)
 generalize World.alloc w _ = W at *
 have hzW := HB.out.size
 have k0 : W.cell? ⟨w.heap.size, 0, none⟩ = some (.slice An nn cn) := HK.out.cell 0
 have k1 : W.cell? ⟨w.heap.size, 1, none⟩ = some (.slice Ad nd cd) := HK.out.cell 1
 go_wp2_with fail
 clear k0 k1
 refine (rfault15_any An Ad Az Ag nn cn nd cd n c ng cg ns ds z gs W ((HN.out.below HB.out (Nat.le_refl _)).more hzW) ((HD.out.below HB.out (Nat.le_refl _)).more hzW) ((HZ.out.below HB.out (Nat.le_refl _)).more hzW) ((HG.out.below HB.out (Nat.le_refl _)).more hzW) HSN.out HSD.out HGO.out).mono ?_
 rintro e w1 ⟨rfl, hb1⟩
 have HB1 := Lib.hid (HB.out.trans (hb1.mono hzW)); have HK1 := Lib.hid (HK.out.below hb1 HK.out.lt)
 clear hb1 HB HK hzW
 have hz1 := HB1.out.size
 by_cases he : zoneErr ns ds z = 0; rotate_left
 ·have q : (zoneErr ns ds z != 0) = true := by simpa using he
  have HNZ := Lib.hid he
  clear he
  go_wp2_with fail
  go_ret2
  exact ⟨.inl ⟨HNZ.out, rfl⟩, HB1.out⟩
 have HZE := Lib.hid he
 obtain ⟨hck, hzp, hzr⟩ := zoneErr_zero he
 have HOK := Lib.hid (NetOk.of hck)
 have hnn : nn ≤ 10000 := by have := HLN.out; have := HOK.out.nl; omega
 have HZI : Hid (∀ v ∈ z, 0 ≤ v ∧ v < nn) := fun v hv => by have := ris_mem hzr v hv; rw [HLN.out] at this; omega
 have HEN : Hid (EndsOk nn ds) := by have := HOK.out.e; rw [HLN.out] at this; exact this
 rw [he]
 clear he hck hzp hzr
 have k0 : w1.cell? ⟨w.heap.size, 0, none⟩ = some (.slice An nn cn) := HK1.out.cell 0
 have k1 : w1.cell? ⟨w.heap.size, 1, none⟩ = some (.slice Ad nd cd) := HK1.out.cell 1
 go_wp2_with fail
 clear k0 k1
 refine (rreach_any An Ad Az Ag nn cn nd cd n c ng cg ds z gs w1 ((HD.out.below HB1.out (Nat.le_refl _)).more hz1) ((HZ.out.below HB1.out (Nat.le_refl _)).more hz1) ((HG.out.below HB1.out (Nat.le_refl _)).more hz1) hnn HEN.out HOK.out.ne HZI.out).mono ?_
 rintro e w4 ⟨AR, cr, rfl, hR, hb4⟩
 have HB4 := Lib.hid (HB1.out.trans (hb4.out.mono hz1))
 have HR := Lib.hid (hR.out.mono hz1)
 clear hR hb4
 generalize nodesL nn (Rgn ds gs z) = rl at *
 obtain ⟨nr, hnr⟩ : ∃ nr, nr = rl.length := ⟨_, rfl⟩
 rw [← hnr] at HR ⊢
 have HNR := Lib.hid hnr
 clear hnr
 go_wp2_with fail
 go_ret2
 refine ⟨.inr ⟨HZE.out, AR, cr, ?_, ?_⟩, HB4.out⟩
 ·rw [← HNR.out]; rfl
 ·rw [← HNR.out]; exact HR.out
open Classical in
noncomputable def isoB (ds : List Dv) (gs z : List Int) : Bool := !decide (SrcIn ds gs z)
def hitB (ds : List Dv) (gs : List Int) (R : Int → Prop) (i : Nat) : Prop := ∃ x, ds[i]? = some x ∧ R x.a ∧ (x.kind = 5 ∨ x.kind = 6 ∧ hasB gs i = false)
theorem iso_yes {ds : List Dv} {gs z : List Int} (h : ∀ i, i < ds.length → ¬ hitB ds gs (Rgn ds gs z) i) : isoB ds gs z = true := by
 unfold isoB
 simp only [Bool.not_eq_true', decide_eq_false_iff_not]
 rintro ⟨i, x, hx, hr, hk⟩
 exact h i (List.getElem?_eq_some_iff.1 hx).1 ⟨x, hx, hr, hk⟩
theorem iso_no {ds : List Dv} {gs z : List Int} {i : Nat} (h : hitB ds gs (Rgn ds gs z) i) : isoB ds gs z = false := by
 unfold isoB
 simp only [Bool.not_eq_false', decide_eq_true_eq]
 obtain ⟨x, hx, hr, hk⟩ := h
 exact ⟨i, x, hx, hr, hk⟩
theorem hit_next {ds : List Dv} {gs : List Int} {R : Int → Prop} {i : Nat} (h : ∀ j, j < i → ¬ hitB ds gs R j) (hi : ¬ hitB ds gs R i) : ∀ j, j < i + 1 → ¬ hitB ds gs R j := fun j hj => by
 rcases Nat.lt_succ_iff_lt_or_eq.1 hj with hj | rfl
 ·exact h j hj
 ·exact hi
def EuR2 (w : World) (N : Array Value) (w4 : World) (ds : List Dv) (gs : List Int) (R : Int → Prop) (n gk : Nat) (iv : Value) (wr : World) : Prop := ∃ i : Nat, iv = .int .i64 i ∧ i ≤ n ∧ gk = n - i ∧ Hid (Blk wr w.heap.size 30 N) ∧ Hid (Below w4.heap.size w4 wr) ∧ Hid (∀ j, j < i → ¬ hitB ds gs R j)
theorem rEnough15_any (An Ad Az Ag : Option Addr) (nn cn nd cd n c ng cg : Nat) (ns : List Nd) (ds : List Dv) (z gs : List Int) (w : World) (hn : Sl w w.heap.size 3 An nn cn (ns.flatMap Nd.cells)) (hd : Sl w w.heap.size 5 Ad nd cd (ds.flatMap Dv.cells)) (hz : Sl w w.heap.size 1 Az n c (intsV z)) (hg : Sl w w.heap.size 1 Ag ng cg (intsV gs))
 (hsn : ∀ x ∈ ns, x.name.size ≤ 9223372036854775807) (hsd : ∀ x ∈ ds, x.name.size ≤ 9223372036854775807) (hgo : GapsOk ds gs) :
 Calls Tryz.prog 71 #[.agg #[.slice An nn cn, .slice Ad nd cd], .slice Az n c, .slice Ag ng cg] w (SidesPost w (zoneErr ns ds z) (isoB ds gs z)) := by
 have HLD := Lib.hid (hd.len (fun _ => rfl) (by decide)); have HLN := Lib.hid (hn.len (fun _ => rfl) (by decide))
 have hdl := hd.le
 have HB : Hid (Below w.heap.size w (w.alloc (.cells #[.slice An nn cn, .slice Ad nd cd] 30))) := (Below.refl _ _).alloc (Nat.le_refl _) _
 have HK := Lib.hid (Blk.new w 30 #[.slice An nn cn, .slice Ad nd cd])
 have HN := Lib.hid hn; have HD := Lib.hid hd; have HZ := Lib.hid hz; have HG := Lib.hid hg; have HSN := Lib.hid hsn; have HSD := Lib.hid hsd; have HGO := Lib.hid hgo
 clear hn hd hz hg hsn hsd hgo
 go_enter Tryz.func71, Tryz.ntmps71
 go_upto_region 1 with (fail)
 generalize World.alloc w _ = W at *
 have hzW := HB.out.size
 have k0 : W.cell? ⟨w.heap.size, 0, none⟩ = some (.slice An nn cn) := HK.out.cell 0
 have k1 : W.cell? ⟨w.heap.size, 1, none⟩ = some (.slice Ad nd cd) := HK.out.cell 1
 go_wp2_with fail
 clear k0 k1
 refine (rRegion15_any An Ad Az Ag nn cn nd cd n c ng cg ns ds z gs W ((HN.out.below HB.out (Nat.le_refl _)).more hzW) ((HD.out.below HB.out (Nat.le_refl _)).more hzW) ((HZ.out.below HB.out (Nat.le_refl _)).more hzW) ((HG.out.below HB.out (Nat.le_refl _)).more hzW) HSN.out HSD.out HGO.out).mono ?_
 rintro e w4 ⟨hcase, hb4⟩
 have HB4 := Lib.hid (HB.out.trans (hb4.out.mono hzW)); have HK4 := Lib.hid (HK.out.below hb4.out HK.out.lt)
 clear hb4 HB HK hzW
 have hz4 := HB4.out.size
 rcases hcase with ⟨he, rfl⟩ | ⟨he, AR, cr, rfl, hR⟩
 ·have q : (zoneErr ns ds z != 0) = true := by simpa using he
  have HNZ : Hid (decide (zoneErr ns ds z = 0) = false) := by simpa [Hid] using he
  clear he
  go_wp2_with fail
  go_ret2
  exact ⟨by rw [HNZ.out]; rfl, HB4.out⟩
 have HZE := Lib.hid he
 obtain ⟨hck, hzp, hzr⟩ := zoneErr_zero he
 have HOK := Lib.hid (NetOk.of hck)
 clear he hck hzp hzr
 have HRS := Lib.hid hR.out.sl
 obtain ⟨R, hRR⟩ : ∃ R, R = Rgn ds gs z := ⟨_, rfl⟩
 rw [← hRR] at HRS ⊢
 have HRR := Lib.hid hRR
 obtain ⟨rl, hrl⟩ : ∃ rl, rl = nodesL nn R := ⟨_, rfl⟩
 rw [← hrl] at HRS ⊢
 have HRL : Hid (∀ v : Int, 0 ≤ v → v < nn → (decide (v ∈ rl) = true ↔ R v)) := fun v h0 h1 => by rw [decide_eq_true_iff, hrl, nodesL_mem]; exact ⟨fun h => h.2.2, fun h => ⟨h0, h1, h⟩⟩
 obtain ⟨nr, hnr⟩ : ∃ nr, nr = rl.length := ⟨_, rfl⟩
 rw [← hnr] at HRS ⊢
 clear hRR hrl hnr hR
 go_wp2_with fail
 refine wp_loop_u1 [(5, 0), (1, 1), (1, 0), (0, 2), (0, 1), (9, 0), (31, 1)] 10 (nd) (EuR2 w #[.slice An nn cn, .slice Ad nd cd] w4 ds gs R nd) (by (try dsimp only [gt]); exact ⟨0, rfl, Nat.zero_le _, rfl, HK4, Below.refl _ _, fun _ hj => by omega⟩) (by kernel_rfl) ?_
 intro u1 p10 gk wr a hrel ha J1 K1 hJ1 hK1
 dsimp only [relaxR, Go.Proofs.YtepicjpdhpojnaaGreatDoor.v1, Nat.reduceAdd] at ha
 subst ha
 clear HK4
 obtain ⟨j, rfl, hj, rfl, hK, hB, hH⟩ := hrel
 have k1 : wr.cell? ⟨w.heap.size, 1, none⟩ = some (.slice Ad nd cd) := hK.out.cell 1
 by_cases hlt : j < nd; rotate_left
 ·have hii : decide ((j : Int) < (nd : Int)) = false := by simp; omega
  have hii2 : decide (j < nd) = false := by simp; omega
  have HI : Hid (isoB ds gs z = true) := iso_yes (fun i hi => by rw [← HRR.out]; exact hH.out i (by have := HLD.out; omega))
  go_wp2_with fail
  go_ret2
  exact ⟨by rw [HZE.out, HI.out]; rfl, HB4.out.trans (hB.out.mono hz4)⟩
 obtain ⟨b, off, x, hA, hb, hx, hc⟩ := (HD.out.below (HB4.out.trans (hB.out.mono hz4)) (Nat.le_refl _)).at (fun _ => rfl) (by decide) hlt
 have HX := Lib.hid hx
 have HAX := HOK.out.a x (List.mem_of_getElem? hx)
 obtain ⟨nm, kd, xa, xb, co⟩ := x
 simp only at HAX
 rw [HLN.out] at HAX
 have HRX := Lib.hid (HRL.out xa HAX.1 HAX.2)
 have c0 : wr.cell? ⟨b, off + j * 5, none⟩ = some (.string nm) := hc 0 _ rfl
 have c1 : wr.cell? ⟨b, off + j * 5 + 1, none⟩ = some (.int .i64 kd) := hc 1 _ rfl
 have c2 : wr.cell? ⟨b, off + j * 5 + 2, none⟩ = some (.int .i64 xa) := hc 2 _ rfl
 have c3 : wr.cell? ⟨b, off + j * 5 + 3, none⟩ = some (.int .i64 xb) := hc 3 _ rfl
 have c4 : wr.cell? ⟨b, off + j * 5 + 4, none⟩ = some (.int .i64 co) := hc 4 _ rfl
 subst hA
 clear hc hx HAX
 go_upto_region 8 with (fail)
 clear c0 c1 c2 c3 c4 hb k1
 have HBK := Lib.hid (Blk.new wr 38 #[.string nm, .int .i64 kd, .int .i64 xa, .int .i64 xb, .int .i64 co])
 have HBN : Hid (Below w4.heap.size w4 (wr.alloc (.cells #[.string nm, .int .i64 kd, .int .i64 xa, .int .i64 xb, .int .i64 co] 38))) := hB.out.alloc hB.out.size _
 have HKN := Lib.hid (hK.out.alloc (.cells #[.string nm, .int .i64 kd, .int .i64 xa, .int .i64 xb, .int .i64 co] 38))
 clear hB hK
 generalize World.alloc wr _ = V at *
 obtain ⟨bq, hbq⟩ : ∃ bq, bq = wr.heap.size := ⟨_, rfl⟩
 rw [← hbq] at HBK ⊢
 clear hbq
 have d1 : V.cell? ⟨bq, 1, none⟩ = some (.int .i64 kd) := HBK.out.cell 1
 have d2 : V.cell? ⟨bq, 2, none⟩ = some (.int .i64 xa) := HBK.out.cell 2
 go_wp2_with fail
 refine (rhas_any AR nr cr rl xa V ((HRS.out.below HBN.out (Nat.le_refl _)).more HBN.out.size)).mono ?_
 rintro e w' ⟨rfl, rfl⟩
 rcases hra : decide (xa ∈ rl) with _ | _
 ·have HN := Lib.hid (hit_next hH.out (fun ⟨y, hy, hr, _⟩ => by obtain rfl := Option.some.inj (HX.out.symm.trans hy); have := HRX.out.2 hr; rw [hra] at this; cases this))
  clear hra hH
  go_wp2_with fail
  refine Handed.intro (nd - (j + 1)) (by omega) (hJ1 _ _ _ (LpI1.back 10 ?_ (by kernel_rfl)))
  dsimp only [gt]
  exact ⟨j + 1, by go_num, by omega, rfl, HKN, HBN, HN⟩
 have HRA := Lib.hid (HRX.out.1 hra)
 clear hra
 rcases h5 : (kd == 5) with _ | _; rotate_left
 ·have HI : Hid (isoB ds gs z = false) := iso_no (i := j) ⟨_, HX.out, by rw [← HRR.out]; exact HRA.out, .inl (by simpa using h5)⟩
  go_wp2_with fail
  go_ret2
  exact ⟨by rw [HZE.out, HI.out]; rfl, HB4.out.trans (HBN.out.mono hz4)⟩
 rcases h6 : (kd == 6) with _ | _
 ·have HN := Lib.hid (hit_next hH.out (fun ⟨y, hy, _, hk⟩ => by obtain rfl := Option.some.inj (HX.out.symm.trans hy); simp only [beq_eq_false_iff_ne, ne_eq] at h5 h6; simp only at hk; omega))
  clear hH
  go_wp2_with fail
  refine Handed.intro (nd - (j + 1)) (by omega) (hJ1 _ _ _ (LpI1.back 10 ?_ (by kernel_rfl)))
  dsimp only [gt]
  exact ⟨j + 1, by go_num, by omega, rfl, HKN, HBN, HN⟩
 go_wp2_with fail
 refine (rhas_any Ag ng cg gs (j : Int) V ((HG.out.below (HB4.out.trans (HBN.out.mono hz4)) (Nat.le_refl _)).more (HB4.out.trans (HBN.out.mono hz4)).size)).mono ?_
 rintro e w' ⟨rfl, rfl⟩
 have HHG : Hid (hasB gs (j : Int) = decide ((j : Int) ∈ gs)) := by unfold Hid hasB; rw [Bool.eq_iff_iff]; simp
 rcases hgj : decide ((j : Int) ∈ gs) with _ | _
 ·have HI : Hid (isoB ds gs z = false) := iso_no (i := j) ⟨_, HX.out, by rw [← HRR.out]; exact HRA.out, .inr ⟨by simpa using h6, HHG.out.trans hgj⟩⟩
  clear hgj
  go_wp2_with fail
  go_ret2
  exact ⟨by rw [HZE.out, HI.out]; rfl, HB4.out.trans (HBN.out.mono hz4)⟩
 ·have HN := Lib.hid (hit_next hH.out (fun ⟨y, hy, _, hk⟩ => by
   obtain rfl := Option.some.inj (HX.out.symm.trans hy)
   simp only [beq_eq_false_iff_ne, ne_eq] at h5
   simp only at hk
   rcases hk with hk | ⟨_, hk⟩
   ·exact h5 hk
   ·rw [HHG.out, hgj] at hk; cases hk))
  clear hgj hH
  go_wp2_with fail
  refine Handed.intro (nd - (j + 1)) (by omega) (hJ1 _ _ _ (LpI1.back 10 ?_ (by kernel_rfl)))
  dsimp only [gt]
  exact ⟨j + 1, by go_num, by omega, rfl, HKN, HBN, HN⟩
theorem rIsolated_any (An Ad Al Az : Option Addr) (nn cn nd cd nl cl n c : Nat) (ns : List Nd) (ds : List Dv) (ls : List Lk) (z : List Int) (w : World) (_hl : Laid w) (hn : Sl w w.heap.size 3 An nn cn (ns.flatMap Nd.cells)) (hd : Sl w w.heap.size 5 Ad nd cd (ds.flatMap Dv.cells)) (hs : Sl w w.heap.size 3 Al nl cl (ls.flatMap Lk.cells)) (hz : Sl w w.heap.size 1 Az n c (intsV z))
 (hsn : ∀ x ∈ ns, x.name.size ≤ 9223372036854775807) (hsd : ∀ x ∈ ds, x.name.size ≤ 9223372036854775807) (_hnz : n ≤ 10000) (hnd : nd ≤ 1000) :
 Calls Tryz.prog 42 #[.agg #[.slice An nn cn, .slice Ad nd cd], .slice Al nl cl, .slice Az n c] w (SidesPost w (sideErr ns ds ls z) (isoB ds (gpsL ds ls) z)) := by
 have HLD := Lib.hid (hd.len (fun _ => rfl) (by decide))
 have HB : Hid (Below w.heap.size w (w.alloc (.cells #[.slice An nn cn, .slice Ad nd cd] 30))) := (Below.refl _ _).alloc (Nat.le_refl _) _
 have HK := Lib.hid (Blk.new w 30 #[.slice An nn cn, .slice Ad nd cd])
 have HN := Lib.hid hn; have HD := Lib.hid hd; have HS := Lib.hid hs; have HZ := Lib.hid hz; have HSN := Lib.hid hsn; have HSD := Lib.hid hsd
 clear hn hd hs hz hsn hsd
 go_enter Tryz.func42, Tryz.ntmps42
 go_upto_region 1 with (fail)
 generalize World.alloc w _ = W at *
 have hzW := HB.out.size
 have k0 : W.cell? ⟨w.heap.size, 0, none⟩ = some (.slice An nn cn) := HK.out.cell 0
 have k1 : W.cell? ⟨w.heap.size, 1, none⟩ = some (.slice Ad nd cd) := HK.out.cell 1
 go_wp2_with fail
 clear k0 k1
 refine (rgaps_any An Ad Al nn cn nd cd nl cl w.heap.size w.heap.size w.heap.size ns ds ls W (HN.out.below HB.out (Nat.le_refl _)) (HD.out.below HB.out (Nat.le_refl _)) (HS.out.below HB.out (Nat.le_refl _)) hzW hzW hzW hnd HSN.out HSD.out).mono ?_
 rintro e w1 ⟨hcase, hb1⟩
 have HB1 := Lib.hid (HB.out.trans (hb1.out.mono hzW)); have HK1 := Lib.hid (HK.out.below hb1.out HK.out.lt)
 clear hb1 HB HK hzW
 have hz1 := HB1.out.size
 rcases hcase with ⟨he, rfl⟩ | ⟨he, Ag, cg, rfl, hog⟩
 ·have q : (locksErr ns ds ls != 0) = true := by simpa using he
  have HE : Hid (sideErr ns ds ls z = locksErr ns ds ls) := by unfold Hid sideErr; rw [if_pos he]
  have HNZ : Hid (decide (locksErr ns ds ls = 0) = false) := by simpa [Hid] using he
  clear he
  go_wp2_with fail
  go_ret2
  exact ⟨by rw [HE.out, HNZ.out]; rfl, HB1.out⟩
 have HE : Hid (sideErr ns ds ls z = zoneErr ns ds z) := by unfold Hid sideErr; rw [if_neg (by omega)]
 have HGO : Hid (GapsOk ds (thoTo ds ls 1 gapB nd)) := by rw [← HLD.out]; exact tho_ok ls
 have HGL : Hid (thoTo ds ls 1 gapB nd = gpsL ds ls) := by unfold Hid gpsL; rw [HLD.out]
 clear he
 generalize thoTo ds ls 1 gapB nd = gs at *
 have HGS := Lib.hid hog.out.sl
 obtain ⟨ng, hng⟩ : ∃ ng, ng = gs.length := ⟨_, rfl⟩
 rw [← hng] at HGS ⊢
 clear hng hog
 have k0 : w1.cell? ⟨w.heap.size, 0, none⟩ = some (.slice An nn cn) := HK1.out.cell 0
 have k1 : w1.cell? ⟨w.heap.size, 1, none⟩ = some (.slice Ad nd cd) := HK1.out.cell 1
 go_wp2_with fail
 clear k0 k1
 refine (rEnough15_any An Ad Az Ag nn cn nd cd n c ng cg ns ds z gs w1 ((HN.out.below HB1.out (Nat.le_refl _)).more hz1) ((HD.out.below HB1.out (Nat.le_refl _)).more hz1) ((HZ.out.below HB1.out (Nat.le_refl _)).more hz1) HGS.out HSN.out HSD.out HGO.out).mono ?_
 rintro e w2 ⟨rfl, hb2⟩
 go_wp2_with fail
 go_ret2
 exact ⟨by rw [HE.out, ← HGL.out]; rfl, HB1.out.trans (hb2.out.mono hz1)⟩
theorem rSecure16_any (An Ad Al Az : Option Addr) (nn cn nd cd nl cl n c : Nat) (ns : List Nd) (ds : List Dv) (ls : List Lk) (z : List Int) (w : World) (hl : Laid w) (hn : Sl w w.heap.size 3 An nn cn (ns.flatMap Nd.cells)) (hd : Sl w w.heap.size 5 Ad nd cd (ds.flatMap Dv.cells)) (hs : Sl w w.heap.size 3 Al nl cl (ls.flatMap Lk.cells)) (hz : Sl w w.heap.size 1 Az n c (intsV z))
 (hsn : ∀ x ∈ ns, x.name.size ≤ 9223372036854775807) (hsd : ∀ x ∈ ds, x.name.size ≤ 9223372036854775807) (hnz : n ≤ 10000) (hnd : nd ≤ 1000) :
 Calls Tryz.prog 14 #[.agg #[.slice An nn cn, .slice Ad nd cd], .slice Al nl cl, .slice Az n c] w (SidesPost w (sideErr ns ds ls z) (isoB ds (gpsL ds ls) z && sidesB ns ds ls z)) := by
 have HB : Hid (Below w.heap.size w (w.alloc (.cells #[.slice An nn cn, .slice Ad nd cd] 30))) := (Below.refl _ _).alloc (Nat.le_refl _) _
 have HK := Lib.hid (Blk.new w 30 #[.slice An nn cn, .slice Ad nd cd])
 have HLA := Lib.hid (hl.below HB.out (Nat.le_refl _))
 have HN := Lib.hid hn; have HD := Lib.hid hd; have HS := Lib.hid hs; have HZ := Lib.hid hz; have HSN := Lib.hid hsn; have HSD := Lib.hid hsd
 clear hn hd hs hz hsn hsd hl
 go_enter Tryz.func14, Tryz.ntmps14
 go_upto_region 1 with (fail)
 generalize World.alloc w _ = W at *
 have hzW := HB.out.size
 have k0 : W.cell? ⟨w.heap.size, 0, none⟩ = some (.slice An nn cn) := HK.out.cell 0
 have k1 : W.cell? ⟨w.heap.size, 1, none⟩ = some (.slice Ad nd cd) := HK.out.cell 1
 go_wp2_with fail
 clear k0 k1
 refine (rIsolated_any An Ad Al Az nn cn nd cd nl cl n c ns ds ls z W HLA.out ((HN.out.below HB.out (Nat.le_refl _)).more hzW) ((HD.out.below HB.out (Nat.le_refl _)).more hzW) ((HS.out.below HB.out (Nat.le_refl _)).more hzW) ((HZ.out.below HB.out (Nat.le_refl _)).more hzW) HSN.out HSD.out hnz hnd).mono ?_
 rintro e w1 ⟨rfl, hb1⟩
 have HB1 := Lib.hid (HB.out.trans (hb1.out.mono hzW)); have HK1 := Lib.hid (HK.out.below hb1.out HK.out.lt)
 have HLB := Lib.hid (HLA.out.below hb1.out (Nat.le_refl _))
 clear hb1 HB HK hzW HLA
 have hz1 := HB1.out.size
 by_cases he : sideErr ns ds ls z = 0; rotate_left
 ·have q : (sideErr ns ds ls z != 0) = true := by simpa using he
  have HNZ : Hid (decide (sideErr ns ds ls z = 0) = false) := by simpa [Hid] using he
  clear he
  go_wp2_with fail
  go_ret2
  exact ⟨by rw [HNZ.out]; rfl, HB1.out⟩
 have HZE := Lib.hid he
 rw [he]
 clear he
 have k0 : w1.cell? ⟨w.heap.size, 0, none⟩ = some (.slice An nn cn) := HK1.out.cell 0
 have k1 : w1.cell? ⟨w.heap.size, 1, none⟩ = some (.slice Ad nd cd) := HK1.out.cell 1
 obtain ⟨ib, hib⟩ : ∃ ib, ib = isoB ds (gpsL ds ls) z := ⟨_, rfl⟩
 rw [← hib]
 have HIB := Lib.hid hib
 clear hib
 go_wp2_with fail
 clear k0 k1
 have hsd := rSides_any An Ad Al Az nn cn nd cd nl cl n c ns ds ls z w1 HLB.out ((HN.out.below HB1.out (Nat.le_refl _)).more hz1) ((HD.out.below HB1.out (Nat.le_refl _)).more hz1) ((HS.out.below HB1.out (Nat.le_refl _)).more hz1) ((HZ.out.below HB1.out (Nat.le_refl _)).more hz1) HSN.out HSD.out hnz hnd
 unfold SidesPost at hsd
 rw [HZE.out] at hsd
 refine hsd.mono ?_
 rintro e w2 ⟨rfl, hb2⟩
 have HBE := Lib.hid (HB1.out.trans (hb2.out.mono hz1))
 obtain ⟨sb, hsb⟩ : ∃ sb, sb = sidesB ns ds ls z := ⟨_, rfl⟩
 rw [← hsb]
 have HSB := Lib.hid hsb
 clear hsb hsd hb2
 rcases ib with _ | _
 ·go_wp2_with fail
  go_ret2
  exact ⟨by rw [HZE.out, ← HIB.out]; rfl, HBE.out⟩
 ·go_wp2_with fail
  go_ret2
  exact ⟨by rw [HZE.out, ← HIB.out, ← HSB.out]; rfl, HBE.out⟩
end Go.Proofs.YtepicjpdhpojnaaGreatDoor
