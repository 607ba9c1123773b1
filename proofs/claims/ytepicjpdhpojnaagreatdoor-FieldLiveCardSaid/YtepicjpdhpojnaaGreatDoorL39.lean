import Derived.Test.YtepicjpdhpojnaaGreatDoorL36
import Derived.Test.YtepicjpdhpojnaaGreatDoorL38
import Derived.Test.YtepicjpdhpojnaaGreatDoorL24
import Derived.Test.YtepicjpdhpojnaaGreatDoorL26
import Derived.Test.YtepicjpdhpojnaaGreatDoorL29
namespace Go.Proofs.YtepicjpdhpojnaaGreatDoor
open Go.RowKit
section
variable {ns : List Nd} {ds : List Dv} {F : Fd} {k d p q : Int}
end
end Go.Proofs.YtepicjpdhpojnaaGreatDoor
namespace Go.Proofs.YtepicjpdhpojnaaGreatDoor
open Go.RowKit
structure FlM (w : World) (nb : Nat) (An Ad As Al At : Option Addr) (cn nd cd n c nl cl nt ct : Nat) (ns : List Nd) (ds : List Dv) (F : Fd) (wr : World) : Prop where
 x : FdX w.heap.size An Ad As Al At 6 cn nd cd n c nl cl nt ct ns ds F wr
 bn : Blk wr nb 30 #[.slice An 6 cn, .slice Ad nd cd]
 bf : Blk wr (nb + 1) 35 #[.slice As n c, .slice Al nl cl, .slice At nt ct]
 bl : Below w.heap.size w wr
 ge : w.heap.size < nb
structure FlB (w : World) (nb eb xb : Nat) (An Ad As Al At A1 A2 A3 : Option Addr) (cn nd cd n c nl cl nt ct n1 c1 n2 c2 n3 c3 : Nat) (ns : List Nd) (ds : List Dv) (F F' : Fd) (k d p q : Int) (wr : World) : Prop where
 m : FlM w nb An Ad As Al At cn nd cd n c nl cl nt ct ns ds F wr
 e : Blk wr eb 44 #[.int .i64 k, .int .i64 d, .int .i64 p, .int .i64 q]
 f : Blk wr xb 35 #[.slice A1 n1 c1, .slice A2 n2 c2, .slice A3 n3 c3]
 y : FdX w.heap.size An Ad A1 A2 A3 6 cn nd cd n1 c1 n2 c2 n3 c3 ns ds F' wr
section
variable {w w2 w3 wr wr' : World} {nb eb xb : Nat} {An Ad As Al At A1 A2 A3 : Option Addr} {cn nd cd n c nl cl nt ct n1 c1 n2 c2 n3 c3 : Nat} {ns : List Nd} {ds : List Dv} {F F' : Fd} {k d p q : Int}
theorem FlM.later (h : FlM w nb An Ad As Al At cn nd cd n c nl cl nt ct ns ds F wr) (hb : Below wr.heap.size wr wr') : FlM w nb An Ad As Al At cn nd cd n c nl cl nt ct ns ds F wr' :=
 ⟨h.x.later hb, h.bn.below hb h.bn.lt, h.bf.below hb h.bf.lt, h.bl.trans (hb.mono h.bl.size), h.ge⟩
theorem FlM.grown (h : FlM w nb An Ad As Al At cn nd cd n c nl cl nt ct ns ds F wr) (hl : Laid w) (hg : wr.grownBy wr' (some w.heap.size)) (hd : DeckAt wr' w.heap.size) : FlM w nb An Ad As Al At cn nd cd n c nl cl nt ct ns ds F wr' := by
 have := h.ge
 exact ⟨h.x.grown hl (Nat.le_refl _) hd hg, h.bn.grown hg (fun e => by injection e; omega), h.bf.grown hg (fun e => by injection e; omega), h.bl.trans (below_of_grown hg (Nat.le_refl _) h.bl.size), h.ge⟩
theorem FlM.mk0 (hb2 : Below w.heap.size w w2) (hs2 : w2.heap.size = w.heap.size + 1) (hg : w2.grownBy w3 (some w.heap.size)) (hX : FdX w.heap.size An Ad As Al At 6 cn nd cd n c nl cl nt ct ns ds F w3) :
 FlM w w3.heap.size An Ad As Al At cn nd cd n c nl cl nt ct ns ds F ((w3.alloc (.cells #[.slice An 6 cn, .slice Ad nd cd] 30)).alloc (.cells #[.slice As n c, .slice Al nl cl, .slice At nt ct] 35)) := by
 have hb3 : Below w.heap.size w w3 := hb2.trans (below_of_grown hg (Nat.le_refl _) (by omega))
 have hz := hg.size
 refine ⟨(hX.alloc _).alloc _, (Blk.new _ _ _).alloc _, ?_, (hb3.alloc hb3.size _).alloc (by simp; omega) _, by omega⟩
 have := Blk.new (w3.alloc (.cells #[.slice An 6 cn, .slice Ad nd cd] 30)) 35 #[.slice As n c, .slice Al nl cl, .slice At nt ct]
 rwa [World.size_alloc] at this
theorem FlB.later (h : FlB w nb eb xb An Ad As Al At A1 A2 A3 cn nd cd n c nl cl nt ct n1 c1 n2 c2 n3 c3 ns ds F F' k d p q wr) (hb : Below wr.heap.size wr wr') : FlB w nb eb xb An Ad As Al At A1 A2 A3 cn nd cd n c nl cl nt ct n1 c1 n2 c2 n3 c3 ns ds F F' k d p q wr' :=
 ⟨h.m.later hb, h.e.below hb h.e.lt, h.f.below hb h.f.lt, h.y.later hb⟩
theorem FlM.step (h : FlM w nb An Ad As Al At cn nd cd n c nl cl nt ct ns ds F wr) (hb : Below wr.heap.size wr wr') (hi1 : IntsO wr' wr.heap.size A1 n1 c1 F'.s) (hi2 : LocksO wr' wr.heap.size A2 n2 c2 F'.ls) (hi3 : IntsO wr' wr.heap.size A3 n3 c3 F'.st) : FdX w.heap.size An Ad A1 A2 A3 6 cn nd cd n1 c1 n2 c2 n3 c3 ns ds F' wr' := by
 have h1 := h.x.later hb
 have hg := h.x.dk.lt
 exact ⟨h1.dk, h1.hn, h1.hd, SlX.of_own hi1 hg, SlX.of_own hi2 hg, SlX.of_own hi3 hg, h1.la, h1.sn, h1.sd⟩
theorem FlM.take (h : FlM w nb An Ad As Al At cn nd cd n c nl cl nt ct ns ds F wr) (hl : Laid w) (hy : FdX w.heap.size An Ad A1 A2 A3 6 cn nd cd n1 c1 n2 c2 n3 c3 ns ds F' wr) :
 FlM w nb An Ad A1 A2 A3 cn nd cd n1 c1 n2 c2 n3 c3 ns ds F' (((wr.setCell ⟨nb + 1, 0, none⟩ (.slice A1 n1 c1)).setCell ⟨nb + 1, 1, none⟩ (.slice A2 n2 c2)).setCell ⟨nb + 1, 2, none⟩ (.slice A3 n3 c3)) := by
 have := h.ge
 exact ⟨hy.out3 h.bf (by omega) hl (by omega), ((h.bn.far (p := ⟨nb + 1, 0, none⟩) (by simp) _).far (p := ⟨nb + 1, 1, none⟩) (by simp) _).far (p := ⟨nb + 1, 2, none⟩) (by simp) _, ((h.bf.set 0 _).set 1 _).set 2 _, ((h.bl.setCell (by simp; omega) _).setCell (by simp; omega) _).setCell (by simp; omega) _, h.ge⟩
theorem FlM.ln (h : FlM w nb An Ad As Al At cn nd cd n c nl cl nt ct ns ds F wr) : ns.length = 6 ∧ ds.length = nd ∧ F.s.length = n ∧ F.ls.length = nl ∧ F.st.length = nt := h.x.fdm.ln
end
end Go.Proofs.YtepicjpdhpojnaaGreatDoor
namespace Go.Proofs.YtepicjpdhpojnaaGreatDoor
open Go.RowKit
def allB (fs ls : List Lk) (i : Nat) : Bool := (ls.take i).all fun k => hasLk fs k
def deadB (cl z : List Int) (i : Nat) : Bool := (z.take i).all fun v => !liveAt cl v
theorem take_snocA {α : Type} {l : List α} {i : Nat} {x : α} (h : l[i]? = some x) : l.take (i + 1) = l.take i ++ [x] := by
 rw [List.take_add_one, h]; rfl
theorem sec_no (ns : List Nd) (ds : List Dv) (F : Fd) (ls : List Lk) (z cl : List Int) : secB ns ds F ls z cl false = (allB F.ls ls ls.length && deadB cl z z.length) := by
 unfold secB allB deadB
 rw [List.take_of_length_le (Nat.le_refl _), List.take_of_length_le (Nat.le_refl _)]
 have h1 : (ls.any fun k => !hasLk F.ls k) = !(ls.all fun k => hasLk F.ls k) := by rw [List.not_all_eq_any_not]
 have h2 : z.any (liveAt cl) = !(z.all fun v => !liveAt cl v) := by rw [List.not_all_eq_any_not]; congr 1; funext v; rw [Bool.not_not]
 rw [h1, h2]
 cases ls.all fun k => hasLk F.ls k <;> cases z.all fun v => !liveAt cl v <;> rfl
theorem sec_err {ns : List Nd} {ds : List Dv} {F : Fd} {ls : List Lk} {z : List Int} (h : fdErr ns ds F = 0) (h1 : locksErr ns ds ls = 0) (h2 : zoneErr ns ds z = 0) : secErr ns ds F ls z = 0 ∧ sideErr ns ds ls z = 0 := by
 have h3 : sideErr ns ds ls z = 0 := by unfold sideErr; rw [if_neg (by omega)]; exact h2
 exact ⟨by unfold secErr; rw [if_neg (by omega)]; exact h3, h3⟩
theorem zone_fine {ns : List Nd} {ds : List Dv} {z : List Int} (hc : checkN ns ds = 0) (h0 : 0 < z.length) (hr : risL ns.length (-1) z = true) : zoneErr ns ds z = 0 := by
 unfold zoneErr
 rw [if_neg (by omega), if_neg (by omega), if_neg (by rw [hr]; simp)]
end Go.Proofs.YtepicjpdhpojnaaGreatDoor
namespace Go.Proofs.YtepicjpdhpojnaaGreatDoor
open Go.RowKit
def SrcIn (ds : List Dv) (gs z : List Int) : Prop := ∃ (i : Nat) (x : Dv), ds[i]? = some x ∧ Rgn ds gs z x.a ∧ (x.kind = 5 ∨ x.kind = 6 ∧ hasB gs i = false)
section
variable {nn : Nat} {ds : List Dv} {s gs z cl : List Int}
theorem conn_rgn {u v : Int} (ho : ∀ i : Nat, hasB gs i = true → shutB s i = false) (hz : Rgn ds gs z u) (h : Conn ds s u v) : Rgn ds gs z v := by
 unfold Conn at h
 induction h with
 | base hv => rw [List.mem_singleton.1 hv]; exact hz
 | step _ _ hx hU h0 ih =>
  rename_i i x _ _
  refine .step ih rfl hx ?_ h0
  rcases hb : hasB gs i with _ | _
  ·rfl
  ·rw [ho i hb] at hU; cases hU
theorem live_src (ha : AOk nn ds) {v : Int} (hv : v ∈ z) (ho : ∀ i : Nat, hasB gs i = true → shutB s i = false) (h : HasK liveK ds s v) : SrcIn ds gs z := by
 obtain ⟨i, x, hx, hs, hk, hc⟩ := h
 have hr := conn_rgn ho (.base hv : Rgn ds gs z v) (hc.sym (ha x (List.mem_of_getElem? hx)).1)
 refine ⟨i, x, hx, hr, hk.elim .inl fun h6 => .inr ⟨h6, ?_⟩⟩
 rcases hb : hasB gs i with _ | _
 ·rfl
 ·have := ho i hb
  unfold shutB at this
  rw [List.getD_eq_getElem?_getD, hs] at this
  simp at this
theorem rgn_conn (hsh : ∀ (i : Nat) (x : Dv), ds[i]? = some x → hasB gs i = false → x.kind ≠ 4 → s[i]? = some 2) {u : Int} (h : Rgn ds gs z u) : ∃ v ∈ z, Conn ds s v u := by
 unfold Rgn at h
 induction h with
 | base hv => exact ⟨_, hv, Conn.refl _ _ _⟩
 | step _ _ hx hU h0 ih =>
  rename_i a i x _ _
  obtain ⟨v, hv, hc⟩ := ih
  refine ⟨v, hv, hc.trans (Conn.edge hx ?_ h0)⟩
  have hj := (acr_two h0).1
  unfold shutB
  rw [List.getD_eq_getElem?_getD, hsh i x hx (by simpa using hU) (fun e => by rw [e] at hj; revert hj; decide)]
  rfl
theorem src_live (ha : AOk nn ds) (hg : ∀ (i : Nat) (x : Dv), ds[i]? = some x → hasB gs i = true → gapB x.kind = true) (hsh : ∀ (i : Nat) (x : Dv), ds[i]? = some x → hasB gs i = false → x.kind ≠ 4 → s[i]? = some 2) (h : SrcIn ds gs z) (hz : ∀ v ∈ z, 0 ≤ v) : ∃ v ∈ z, HasK liveK ds s v := by
 obtain ⟨i, x, hx, hr, hk⟩ := h
 obtain ⟨v, hv, hc⟩ := rgn_conn hsh hr
 have hb : hasB gs i = false := by
  rcases hk with h5 | ⟨_, h6⟩
  ·rcases hb : hasB gs i with _ | _
   ·rfl
   ·have := hg i x hx hb; rw [h5] at this; revert this; decide
  ·exact h6
 have hl : liveK x.kind := hk.elim .inl fun h => .inr h.1
 exact ⟨v, hv, i, x, hx, hsh i x hx hb (fun e => by unfold liveK at hl; omega), hl, hc.sym (hz v hv)⟩
theorem liveAt_iff (hc : IsCols nn ds s cl) {v : Int} (h0 : 0 ≤ v) (h1 : v < nn) : liveAt cl v = true ↔ HasK liveK ds s v := by
 obtain ⟨k, rfl⟩ := Int.eq_ofNat_of_zero_le h0
 unfold liveAt
 rw [Int.toNat_natCast, List.getD_eq_getElem?_getD, hc.2 k (by omega)]
 unfold colV
 rcases ind_cases (HasK liveK ds s k) 1 with ⟨h, e⟩ | ⟨h, e⟩ <;> rcases ind_cases (HasK (· = 4) ds s k) 2 with ⟨h', f⟩ | ⟨h', f⟩ <;> rw [e, f]
 ·exact ⟨fun _ => h, fun _ => by decide⟩
 ·exact ⟨fun _ => h, fun _ => by decide⟩
 ·exact ⟨fun k => absurd k (by decide), fun k => absurd k h⟩
 ·exact ⟨fun k => absurd k (by decide), fun k => absurd k h⟩
theorem dead_iff (hc : IsCols nn ds s cl) (hz : ∀ v ∈ z, 0 ≤ v ∧ v < nn) : deadB cl z z.length = true ↔ ¬ ∃ v ∈ z, HasK liveK ds s v := by
 unfold deadB
 rw [List.take_of_length_le (Nat.le_refl _), List.all_eq_true]
 constructor
 ·rintro h ⟨v, hv, hk⟩
  have := h v hv
  rw [(liveAt_iff hc (hz v hv).1 (hz v hv).2).2 hk] at this
  cases this
 ·intro h v hv
  rcases hb : liveAt cl v with _ | _
  ·rfl
  ·exact absurd ⟨v, hv, (liveAt_iff hc (hz v hv).1 (hz v hv).2).1 hb⟩ h
end
def okR (ds : List Dv) (gs : List Int) (f : Int → Bool) (j : Nat) : Prop := ∀ x, ds[j]? = some x → joinsB x.kind = true → hasB gs j = false → f x.a = f x.b
def cntR (nn : Nat) (f : Int → Bool) : Nat := ((List.range nn).filter fun v : Nat => f v).length
structure RgI (ds : List Dv) (gs z : List Int) (f : Int → Bool) : Prop where
 sound : ∀ v, f v = true → Rgn ds gs z v
 zone : ∀ v ∈ z, f v = true
def RdI (nn : Nat) (ds : List Dv) (gs : List Int) (f0 : Int → Bool) (j : Nat) (f : Int → Bool) : Prop := ((∀ v, f v = f0 v) ∧ ∀ i, i < j → okR ds gs f i) ∨ cntR nn f0 < cntR nn f
def RkI (nn : Nat) (ds : List Dv) (gs : List Int) (k : Nat) (f : Int → Bool) : Prop := (∀ i, okR ds gs f i) ∨ k + 1 ≤ cntR nn f
section
variable {nn : Nat} {ds : List Dv} {gs z : List Int} {f f0 : Int → Bool}
theorem cntR_le (nn : Nat) (f : Int → Bool) : cntR nn f ≤ nn := Nat.le_trans (List.length_filter_le _ _) (by simp)
theorem filt_mono {α : Type} {p q : α → Bool} : ∀ {l : List α}, (∀ v ∈ l, p v = true → q v = true) → (l.filter p).length ≤ (l.filter q).length
 | [], _ => Nat.le_refl _
 | a :: l, h => by
  have ih := filt_mono (p := p) (q := q) (l := l) fun v hv => h v (List.mem_cons_of_mem _ hv)
  rw [List.filter_cons, List.filter_cons]
  rcases hp : p a with _ | _
  ·simp only [Bool.false_eq_true, if_false]
   split
   ·rw [List.length_cons]; omega
   ·exact ih
  ·rw [h a (List.mem_cons_self ..) hp]
   simp only [if_true, List.length_cons]
   omega
theorem filt_more {α : Type} {p q : α → Bool} : ∀ {l : List α} {a : α}, a ∈ l → p a = false → q a = true → (∀ v ∈ l, p v = true → q v = true) → (l.filter p).length < (l.filter q).length
 | [], _, ha, _, _, _ => by cases ha
 | b :: l, a, ha, hp, hq, h => by
  have hm : ∀ v ∈ l, p v = true → q v = true := fun v hv => h v (List.mem_cons_of_mem _ hv)
  rw [List.filter_cons, List.filter_cons]
  rcases List.mem_cons.1 ha with rfl | ha
  ·rw [hp, hq]
   have := filt_mono hm
   simp only [Bool.false_eq_true, if_false, if_true, List.length_cons]
   omega
  ·have ih := filt_more ha hp hq hm
   rcases hb : p b with _ | _
   ·simp only [Bool.false_eq_true, if_false]
    split
    ·rw [List.length_cons]; omega
    ·exact ih
   ·rw [h b (List.mem_cons_self ..) hb]
    simp only [if_true, List.length_cons]
    omega
theorem cntR_mono (h : ∀ v, f0 v = true → f v = true) : cntR nn f0 ≤ cntR nn f := filt_mono fun v _ => h v
theorem cntR_more {a : Nat} (ha : a < nn) (h0 : f0 a = false) (h1 : f a = true) (h : ∀ v, f0 v = true → f v = true) : cntR nn f0 < cntR nn f := filt_more (List.mem_range.2 ha) h0 h1 fun v _ => h v
theorem RdI.start : RdI nn ds gs f0 0 f0 := .inl ⟨fun _ => rfl, fun i hi => by omega⟩
theorem RdI.skip {j : Nat} (h : RdI nn ds gs f0 j f) (hj : okR ds gs f j) : RdI nn ds gs f0 (j + 1) f := by
 rcases h with ⟨h1, h2⟩ | h
 ·refine .inl ⟨h1, fun i hi => ?_⟩
  rcases Nat.lt_succ_iff_lt_or_eq.1 hi with hi | rfl
  ·exact h2 i hi
  ·exact hj
 ·exact .inr h
def two (f : Int → Bool) (a b : Int) : Int → Bool := fun v => if v = b then true else if v = a then true else f v
theorem two_mono {a b : Int} (v : Int) (h : f v = true) : two f a b v = true := by unfold two; split; rfl; split; rfl; exact h
theorem two_a {a b : Int} : two f a b a = true := by unfold two; split; rfl; rw [if_pos rfl]
theorem two_b {a b : Int} : two f a b b = true := by unfold two; rw [if_pos rfl]
theorem two_inv {a b v : Int} (h : two f a b v = true) : v = a ∨ v = b ∨ f v = true := by
 unfold two at h
 by_cases h1 : v = b
 ·exact .inr (.inl h1)
 ·by_cases h2 : v = a
  ·exact .inl h2
  ·rw [if_neg h1, if_neg h2] at h; exact .inr (.inr h)
theorem RdI.mark {j : Nat} {x : Dv} (h : RdI nn ds gs f0 j f) (he : EndsOk nn ds) (hx : ds[j]? = some x) (hj : joinsB x.kind = true) : RdI nn ds gs f0 (j + 1) (two f x.a x.b) := by
 have hm : ∀ v, f v = true → two f x.a x.b v = true := two_mono
 by_cases hab : f x.a = true ∧ f x.b = true
 ·have hs : ∀ v, two f x.a x.b v = f v := fun v => by
   unfold two
   split
   ·rename_i e; rw [e, hab.2]
   ·split
    ·rename_i e; rw [e, hab.1]
    ·rfl
  rw [show two f x.a x.b = f from funext hs]
  refine h.skip fun y hy _ _ => ?_
  obtain rfl : x = y := Option.some.inj (hx.symm.trans hy)
  rw [hab.1, hab.2]
 ·have hlt : cntR nn f < cntR nn (two f x.a x.b) := by
   obtain ⟨⟨a0, a1⟩, b0, b1⟩ := he x (List.mem_of_getElem? hx) hj
   obtain ⟨a, ha⟩ := Int.eq_ofNat_of_zero_le a0
   obtain ⟨b, hb⟩ := Int.eq_ofNat_of_zero_le b0
   rcases h1 : f x.a with _ | _
   ·exact cntR_more (a := a) (by omega) (by rw [← ha]; exact h1) (by rw [← ha]; exact two_a) hm
   ·rcases h2 : f x.b with _ | _
    ·exact cntR_more (a := b) (by omega) (by rw [← hb]; exact h2) (by rw [← hb]; exact two_b) hm
    ·exact absurd ⟨h1, h2⟩ hab
  rcases h with ⟨h1, _⟩ | h
  ·refine .inr ?_
   rw [show f0 = f from funext fun v => (h1 v).symm]
   exact hlt
  ·exact .inr (Nat.lt_trans h hlt)
theorem RgI.mark {j : Nat} {x : Dv} (h : RgI ds gs z f) (he : EndsOk nn ds) (hne : ∀ x ∈ ds, joinsB x.kind = true → x.b ≠ x.a) (hx : ds[j]? = some x) (hj : joinsB x.kind = true) (hg : hasB gs j = false) (hab : f x.a = true ∨ f x.b = true) : RgI ds gs z (two f x.a x.b) := by
 have hm := List.mem_of_getElem? hx
 obtain ⟨⟨a0, a1⟩, b0, b1⟩ := he x hm hj
 have hra : Rgn ds gs z x.a ∧ Rgn ds gs z x.b := by
  rcases hab with h1 | h1
  ·refine ⟨h.sound _ h1, ?_⟩
   have := acr_a hj
   rw [← this]
   exact .step (h.sound _ h1) rfl hx (by rw [hg]; rfl) (by rw [this]; exact b0)
  ·refine ⟨?_, h.sound _ h1⟩
   have := acr_b hj (hne x hm hj)
   rw [← this]
   exact .step (h.sound _ h1) rfl hx (by rw [hg]; rfl) (by rw [this]; exact a0)
 exact ⟨fun v hv => by rcases two_inv hv with rfl | rfl | hv; exact hra.1; exact hra.2; exact h.sound v hv, fun v hv => two_mono v (h.zone v hv)⟩
theorem closed_rgn (h : RgI ds gs z f) (hk : ∀ i, okR ds gs f i) {v : Int} (hr : Rgn ds gs z v) : f v = true := by
 unfold Rgn at hr
 induction hr with
 | base hv => exact h.zone _ hv
 | step _ _ hx hU h0 ih =>
  rename_i a i x _ _
  have hu : hasB gs i = false := by simpa using hU
  obtain ⟨hj, ⟨e1, e2⟩ | ⟨e1, e2⟩⟩ := acr_two h0
  ·rw [e2, ← hk i x hx hj hu, ← e1]; exact ih
  ·rw [e2, hk i x hx hj hu, ← e1]; exact ih
theorem RkI.next {k : Nat} (h : RkI nn ds gs k f0) (h0 : RgI ds gs z f0) (h1 : RgI ds gs z f) (hr : RdI nn ds gs f0 ds.length f) : RkI nn ds gs (k + 1) f := by
 have hall : (∀ i, i < ds.length → okR ds gs f i) → ∀ i, okR ds gs f i := fun ha i => by
  by_cases hi : i < ds.length
  ·exact ha i hi
  ·intro x hx; rw [List.getElem?_eq_none (by omega)] at hx; cases hx
 rcases hr with ⟨_, h2⟩ | h2
 ·exact .inl (hall h2)
 ·rcases h with h | h
  ·have := cntR_mono (nn := nn) (f0 := f) (f := f0) fun v hv => closed_rgn h0 h (h1.sound v hv)
   omega
  ·exact .inr (by omega)
theorem RkI.final (h : RkI nn ds gs nn f) (hi : RgI ds gs z f) (v : Int) : f v = true ↔ Rgn ds gs z v := by
 rcases h with h | h
 ·exact ⟨hi.sound v, closed_rgn hi h⟩
 ·have := cntR_le nn f; omega
theorem RkI.start (hz : 0 < z.length) (hr : ∀ v ∈ z, 0 ≤ v ∧ v < nn) (hf : ∀ v, f v = true ↔ v ∈ z) : RkI nn ds gs 0 f ∧ RgI ds gs z f := by
 refine ⟨.inr ?_, fun v hv => .base ((hf v).1 hv), fun v hv => (hf v).2 hv⟩
 obtain ⟨v, hv⟩ := List.exists_mem_of_length_pos hz
 obtain ⟨h0, h1⟩ := hr v hv
 obtain ⟨k, rfl⟩ := Int.eq_ofNat_of_zero_le h0
 have := cntR_more (nn := nn) (f0 := fun _ => false) (f := f) (a := k) (by omega) rfl ((hf _).2 hv) (fun _ h => by cases h)
 omega
end
def lvS (ds : List Dv) (gs : List Int) : List Int := (List.range ds.length).map fun i : Nat => if hasB gs i = true ∨ kindOf ds i = 4 then 1 else 2
theorem lvS_len (ds : List Dv) (gs : List Int) : (lvS ds gs).length = ds.length := by simp [lvS]
theorem lvS_at {ds : List Dv} {gs : List Int} {i : Nat} (h : i < ds.length) : (lvS ds gs)[i]? = some (if hasB gs i = true ∨ kindOf ds i = 4 then 1 else 2) := by simp [lvS, h]
theorem lvS_pos {ds : List Dv} {gs : List Int} : ∀ p ∈ lvS ds gs, posB p = true := by
 intro p hp
 unfold lvS at hp
 obtain ⟨i, _, rfl⟩ := List.mem_map.1 hp
 split <;> decide
theorem lv_law {nn : Nat} {ds : List Dv} {gs z cl : List Int} (ha : AOk nn ds) (hg : ∀ (i : Nat) (x : Dv), ds[i]? = some x → hasB gs i = true → gapB x.kind = true) (hz : ∀ v ∈ z, 0 ≤ v ∧ v < nn) (hc : IsCols nn ds (lvS ds gs) cl) : deadB cl z z.length = true ↔ ¬ SrcIn ds gs z := by
 rw [dead_iff hc hz]
 have ho : ∀ i : Nat, hasB gs i = true → shutB (lvS ds gs) i = false := fun i hi => by
  unfold shutB
  rw [List.getD_eq_getElem?_getD]
  by_cases h : i < ds.length
  ·rw [lvS_at h, if_pos (.inl hi)]; rfl
  ·rw [List.getElem?_eq_none (by rw [lvS_len]; omega)]; rfl
 have hsh : ∀ (i : Nat) (x : Dv), ds[i]? = some x → hasB gs i = false → x.kind ≠ 4 → (lvS ds gs)[i]? = some 2 := fun i x hx h1 h2 => by
  rw [lvS_at (List.getElem?_eq_some_iff.1 hx).1, if_neg]
  rw [kindOf_at hx, h1]
  simpa using h2
 constructor
 ·exact fun h hs => h (src_live ha hg hsh hs fun v hv => (hz v hv).1)
 ·rintro h ⟨v, hv, hk⟩
  exact h (live_src ha hv ho hk)
end Go.Proofs.YtepicjpdhpojnaaGreatDoor
