import Derived.Test.YtkkobemhbicjgaaGreatDoorE28
import Derived.Test.YtkkobemhbicjgaaGreatDoorE21
import Derived.Test.YtkkobemhbicjgaaGreatDoorIns
import Derived.Lib.EndianMore
set_option maxRecDepth 100000
set_option maxHeartbeats 8000000
namespace Go.Proofs.YtkkobemhbicjgaaGreatDoor
section
open Go.RowKit
def zy (ns : List Nd) (ds : List Dv) (co : Int) (ls : List Lk) (pr : List Int) : Int :=
 if co < 0 ∨ 7 < co then 5 else if zK ns ds ls ≠ 0 then zK ns ds ls else if yi ns.length (-1) pr = false then 7 else 0
def xp (ns : List Nd) (ds : List Dv) (s : List Int) (co : Int) (ls : List Lk) (pr : List Int) (nm : ByteArray) (xs : List Sp) : Int :=
 if zN ns ds s ≠ 0 then zN ns ds s else if zy ns ds co ls pr ≠ 0 then zy ns ds co ls pr else yf ns ds nm xs
def yr (pr : List Int) (v : Int) : List Int := if v ∈ pr then pr else pr.takeWhile (fun x => decide (x < v)) ++ v :: pr.dropWhile (fun x => decide (x < v))
noncomputable def hzD (ns : List Nd) (ds : List Dv) (s : List Int) (d p co : Int) (ls : List Lk) (pr : List Int) : List Int :=
 match ds[d.toNat]? with
 | some x => xu ns.length ns ds s d.toNat p co ls pr x
 | none => []
def vX (ds : List Dv) (k d : Int) : Bool := decide (k = 2) && !decide ((ds[d.toNat]?.map Dv.kind) = some 4)
structure Sm where
 s : List Int
 ls : List Lk
 pr : List Int
structure So where
 h : List Int
 t : Sm
 ok : Bool
noncomputable def zd (ns : List Nd) (ds : List Dv) (co : Int) (t : Sm) (x : Sp) : So :=
 if x.kind = 1 ∨ x.kind = 2 then ⟨hzD ns ds t.s x.dev x.kind co t.ls t.pr, ⟨t.s.set x.dev.toNat x.kind, t.ls, if vX ds x.kind x.dev then [] else t.pr⟩, true⟩
 else if x.kind = 5 then (if lvB (zh ns.length ds t.s) x.node then ⟨[8], t, true⟩ else ⟨[], ⟨t.s, t.ls, yr t.pr x.node⟩, true⟩)
 else if x.kind = 4 then
  match wQ x.dev x.key t.ls with
  | none => ⟨[4], t, true⟩
  | some i => ⟨[], ⟨t.s, t.ls.eraseIdx i, t.pr⟩, true⟩
 else if t.s.getD x.dev.toNat 0 ≠ x.pos then ⟨[8], t, false⟩
 else if x.kind = 6 then ⟨[], t, true⟩
 else if zw ns ds t.ls ⟨x.dev, x.pos, x.key⟩ ≠ 0 then ⟨[4], t, true⟩ else ⟨[], ⟨t.s, wP ⟨x.dev, x.pos, x.key⟩ t.ls, t.pr⟩, true⟩
structure Fn where
 st : Int
 hz : Int
deriving DecidableEq
def Fn.cells (f : Fn) : List Value := [.int .i64 f.st, .int .i64 f.hz]
def zi (i : Nat) (h : List Int) : List Fn := h.map fun z => ⟨i, z⟩
def uS (stk : List Int) (x : Sp) : Bool := (decide (x.kind = 1) || decide (x.kind = 2)) && decide (x.dev ∈ stk)
noncomputable def yj (ns : List Nd) (ds : List Dv) (co : Int) (stk : List Int) : Nat → List Fn → Sm → List Sp → List Fn × Sm × Nat
 | i, out, t, [] => (out, t, i)
 | i, out, t, x :: r =>
  if uS stk x then (out, t, i)
  else if (zd ns ds co t x).ok then yj ns ds co stk (i + 1) (out ++ zi i (zd ns ds co t x).h) (zd ns ds co t x).t r
  else (out ++ zi i (zd ns ds co t x).h, (zd ns ds co t x).t, i)
structure tJ (ns : List Nd) (ds : List Dv) (t : Sm) : Prop where
 s : zN ns ds t.s = 0
 l : zK ns ds t.ls = 0
 p : yi ns.length (-1) t.pr = true
theorem kO {ns : List Nd} {ds : List Dv} {s : List Int} {co : Int} {ls : List Lk} {pr : List Int} {nm : ByteArray} {xs : List Sp} (h : xp ns ds s co ls pr nm xs = 0) :
 tJ ns ds ⟨s, ls, pr⟩ ∧ (0 ≤ co ∧ co ≤ 7) ∧ xs.length ≤ 64 ∧ zo ns.length ds.length xs = 0 := by
 unfold xp at h
 split at h
 ·next h1 => exact absurd h h1
 next h1 =>
 split at h
 ·next h2 => exact absurd h h2
 next h2 =>
 have h2 : zy ns ds co ls pr = 0 := by simpa using h2
 unfold zy at h2
 split at h2
 ·cases h2
 next g1 =>
 split at h2
 ·next g2 => exact absurd h2 g2
 next g2 =>
 split at h2
 ·cases h2
 next g3 =>
 unfold yf at h
 split at h
 ·next h3 => exact absurd h h3
 split at h
 ·cases h
 split at h
 ·cases h
 next h5 => exact ⟨⟨by simpa using h1, by simpa using g2, by simpa using g3⟩, by omega, by omega, h⟩
theorem wd {nn nd : Nat} : ∀ {xs : List Sp}, zo nn nd xs = 0 → ∀ x ∈ xs, zT nn nd x = 0
 | [], _, x, hx => by cases hx
 | y :: r, h, x, hx => by
  unfold zo at h
  split at h
  ·next h1 => exact absurd h h1
  next h1 =>
  rcases List.mem_cons.mp hx with rfl | hx
  ·simpa using h1
  ·exact wd h x hx
theorem yE {nn nd : Nat} {x : Sp} (h : zT nn nd x = 0) : (1 ≤ x.kind ∧ x.kind ≤ 6) ∧ (x.kind ≠ 5 → 0 ≤ x.dev ∧ x.dev < nd) ∧ (x.kind = 5 → 0 ≤ x.node ∧ x.node < nn) ∧ (x.kind = 3 ∨ x.kind = 6 → x.pos = 1 ∨ x.pos = 2) ∧ (x.kind = 3 ∨ x.kind = 4 → 0 ≤ x.key ∧ x.key ≤ 65536) := by
 unfold zT at h
 split at h
 ·cases h
 next h1 =>
 split at h
 ·cases h
 next h2 =>
 split at h
 ·cases h
 next h3 =>
 split at h
 ·cases h
 next h4 =>
 split at h
 ·cases h
 next h5 =>
 have e1 : x.posB = true ↔ x.kind = 3 ∨ x.kind = 6 := by unfold Sp.posB; simp
 have e2 : x.keyB = true ↔ x.kind = 3 ∨ x.kind = 4 := by unfold Sp.keyB; simp
 rw [e1] at h4
 rw [e2] at h5
 refine ⟨by omega, fun hk => by omega, fun hk => by omega, fun hk => ?_, fun hk => by omega⟩
 by_cases hp : x.pos = 1
 ·exact .inl hp
 ·by_cases hp2 : x.pos = 2
  ·exact .inr hp2
  ·exact absurd ⟨hk, hp, hp2⟩ h4
theorem rx {ns : List Nd} {ds : List Dv} {s : List Int} {i : Nat} {v : Int} (h : zN ns ds s = 0) (hv : v = 1 ∨ v = 2) : zN ns ds (s.set i v) = 0 := by
 unfold zN at h ⊢
 split at h
 ·next h1 => exact absurd h h1
 next h1 =>
 rw [if_neg h1]
 split at h
 ·cases h
 next h2 =>
 rw [if_neg (by simpa using h2)]
 split at h
 ·next h3 =>
  rw [if_pos]
  intro p hp
  rcases List.mem_or_eq_of_mem_set hp with hp | rfl
  ·exact h3 p hp
  ·unfold posB; rcases hv with rfl | rfl <;> simp
 ·cases h
theorem vN (u : Int) : ∀ (p : Int) (l : List Int), yi u p l = true ↔ (∀ x ∈ l, p < x ∧ x < u) ∧ l.Pairwise (· < ·)
 | p, [] => by simp [yi]
 | p, x :: l => by
  rw [yi]
  simp only [Bool.and_eq_true, decide_eq_true_eq, List.pairwise_cons, List.mem_cons, forall_eq_or_imp]
  rw [vN u x l]
  constructor
  ·rintro ⟨⟨h1, h2⟩, h3, h4⟩
   exact ⟨⟨⟨h1, h2⟩, fun y hy => ⟨by have := (h3 y hy).1; omega, (h3 y hy).2⟩⟩, fun y hy => (h3 y hy).1, h4⟩
  ·rintro ⟨⟨h1, h2⟩, h3, h4⟩
   exact ⟨⟨h1.1, h1.2⟩, fun y hy => ⟨h3 y hy, (h2 y hy).2⟩, h4⟩
theorem pJ : ∀ (l : List Int) (p : Int), (∀ x ∈ l, p < x) → l.Pairwise (· < ·) → ∀ u, (∀ x ∈ l, x < u) → p < u → (l.length : Int) < u - p
 | [], p, _, _, u, _, h => by simp; omega
 | x :: l, p, h1, h2, u, h3, h4 => by
  obtain ⟨h5, h6⟩ := List.pairwise_cons.mp h2
  have hx := h1 x List.mem_cons_self
  have := pJ l x h5 h6 u (fun y hy => h3 y (List.mem_cons_of_mem _ hy)) (h3 x List.mem_cons_self)
  rw [List.length_cons]; push_cast; omega
theorem uc {u : Nat} {l : List Int} (h : yi u (-1) l = true) : l.length ≤ u := by
 obtain ⟨h1, h2⟩ := (vN u (-1) l).mp h
 have := pJ l (-1) (fun x hx => (h1 x hx).1) h2 u (fun x hx => (h1 x hx).2) (by omega)
 omega
theorem rR {u v : Int} {pr : List Int} (h : yi u (-1) pr = true) (h0 : 0 ≤ v) (h1 : v < u) : yi u (-1) (yr pr v) = true := by
 unfold yr
 split
 ·exact h
 next hn =>
 rw [vN] at h ⊢
 obtain ⟨h2, h3⟩ := h
 have hsp := List.takeWhile_append_dropWhile (p := fun x => decide (x < v)) (l := pr)
 have ht : ∀ x ∈ pr.takeWhile (fun x => decide (x < v)), x < v := fun x hx => by
  have := List.all_takeWhile (p := fun x => decide (x < v)) (l := pr)
  rw [List.all_eq_true] at this
  simpa using this x hx
 have hd : ∀ x ∈ pr.dropWhile (fun x => decide (x < v)), v < x := by
  rw [← hsp] at h3
  rw [List.pairwise_append] at h3
  rcases e : pr.dropWhile (fun x => decide (x < v)) with _ | ⟨y, r⟩
  ·intro x hx; cases hx
  ·rw [e] at h3
   have hy : ¬ y < v := by
    have := List.head_dropWhile_not (p := fun x => decide (x < v)) (l := pr) (by rw [e]; simp)
    simp only [e, List.head_cons, decide_eq_false_iff_not] at this
    exact this
   have hyv : y ≠ v := fun e2 => hn (by rw [← hsp, e, e2]; simp)
   intro x hx
   rcases List.mem_cons.mp hx with rfl | hx
   ·omega
   ·have := (List.pairwise_cons.mp h3.2.1).1 x hx; omega
 have hm : ∀ x, x ∈ pr.takeWhile (fun x => decide (x < v)) ∨ x ∈ pr.dropWhile (fun x => decide (x < v)) → x ∈ pr := fun x hx => by rw [← hsp]; exact List.mem_append.mpr hx
 refine ⟨fun x hx => ?_, ?_⟩
 ·rcases List.mem_append.mp hx with hx | hx
  ·exact h2 x (hm x (.inl hx))
  ·rcases List.mem_cons.mp hx with rfl | hx
   ·omega
   ·exact h2 x (hm x (.inr hx))
 ·rw [← hsp, List.pairwise_append] at h3
  rw [List.pairwise_append]
  refine ⟨h3.1, List.pairwise_cons.mpr ⟨hd, h3.2.1⟩, fun a ha b hb => ?_⟩
  rcases List.mem_cons.mp hb with rfl | hb
  ·exact ht a ha
  ·have := ht a ha; have := hd b hb; omega
theorem xo {ns : List Nd} {ds : List Dv} {ls : List Lk} (hc : za ns ds = 0) (h : xK ds ls) : zK ns ds ls = 0 := by
 unfold zK
 rw [if_neg (by simp [hc])]
 rw [if_neg (by have := h.1; omega)]
 exact jX h
theorem add_zero {ns : List Nd} {ds : List Dv} {ls : List Lk} {k : Lk} (h : zw ns ds ls k = 0) : xK ds (wP k ls) := by
 unfold zw at h
 split at h
 ·next h1 => exact absurd h h1
 next h1 =>
 split at h
 ·next h2 => exact absurd h h2
 next h2 =>
 split at h
 ·cases h
 next h3 =>
 split at h
 ·cases h
 next h4 =>
 split at h
 ·cases h
 next h5 =>
 have hg := ym (by simpa using h1)
 exact sS hg (by simpa using h2) (by simpa using h3) (by simpa using h4) (by have := hg.1; omega)
theorem iF {ns : List Nd} {ds : List Dv} {co : Int} {t : Sm} {x : Sp} (h : tJ ns ds t) (hx : zT ns.length ds.length x = 0) : tJ ns ds (zd ns ds co t x).t := by
 obtain ⟨h1, h2, h3, h4, h5⟩ := yE hx
 have hc := (zp h.s).1
 unfold zd
 split
 ·next hk => exact ⟨rx h.s hk, h.l, by dsimp only; split <;> first | rfl | exact h.p⟩
 split
 ·next hk =>
  split
  ·exact h
  ·exact ⟨h.s, h.l, rR h.p (h3 hk).1 (h3 hk).2⟩
 split
 ·split
  ·exact h
  ·exact ⟨h.s, xo hc (pj (ym h.l) (List.eraseIdx_sublist _ _)), h.p⟩
 split
 ·exact h
 split
 ·exact h
 split
 ·exact h
 ·next h0 => exact ⟨h.s, xo hc (add_zero (by simpa using h0)), h.p⟩
theorem pD {ns : List Nd} {ds : List Dv} {co : Int} {stk : List Int} {xs : List Sp} {i : Nat} {out : List Fn} {t : Sm} {x : Sp} (hx : xs[i]? = some x) (hs : uS stk x = false) (ho : (zd ns ds co t x).ok = true) :
 yj ns ds co stk i out t (xs.drop i) = yj ns ds co stk (i + 1) (out ++ zi i (zd ns ds co t x).h) (zd ns ds co t x).t (xs.drop (i + 1)) := by
 obtain ⟨hi, rfl⟩ := List.getElem?_eq_some_iff.mp hx
 rw [List.drop_eq_getElem_cons hi, yj, if_neg (by simp [hs]), if_pos ho]
theorem pC {ns : List Nd} {ds : List Dv} {co : Int} {stk : List Int} {xs : List Sp} {i : Nat} {out : List Fn} {t : Sm} {x : Sp} (hx : xs[i]? = some x) (hs : uS stk x = true) :
 yj ns ds co stk i out t (xs.drop i) = (out, t, i) := by
 obtain ⟨hi, rfl⟩ := List.getElem?_eq_some_iff.mp hx
 rw [List.drop_eq_getElem_cons hi, yj, if_pos hs]
theorem oV {ns : List Nd} {ds : List Dv} {co : Int} {stk : List Int} {xs : List Sp} {i : Nat} {out : List Fn} {t : Sm} {x : Sp} (hx : xs[i]? = some x) (hs : uS stk x = false) (ho : (zd ns ds co t x).ok = false) :
 yj ns ds co stk i out t (xs.drop i) = (out ++ zi i (zd ns ds co t x).h, (zd ns ds co t x).t, i) := by
 obtain ⟨hi, rfl⟩ := List.getElem?_eq_some_iff.mp hx
 rw [List.drop_eq_getElem_cons hi, yj, if_neg (by simp [hs]), if_neg (by simp [ho])]
theorem mr {ns : List Nd} {ds : List Dv} {co : Int} {stk : List Int} {xs : List Sp} {i : Nat} {out : List Fn} {t : Sm} (hx : xs.length ≤ i) : yj ns ds co stk i out t (xs.drop i) = (out, t, i) := by
 rw [List.drop_eq_nil_of_le hx, yj]
end
section
open Go.RowKit
theorem kF (A : Option Addr) (n c B : Nat) (l : List Int) (u : Int) (w : World) (hs : Sl w B 1 A n c (zD l)) :
 Calls Tryz.prog 108 #[.slice A n c, .int .i64 u] w fun e w' => e = .returned (.bool (yi u (-1) l)) ∧ w = w' := by
 have HC := iD (om A n c B l u w hs)
 go_enter Tryz.func108, Tryz.ntmps108
 go_wp2_with fail
 refine HC.out.mono ?_
 rintro e w1 ⟨rfl, rfl⟩
 go_wp2_with fail
 go_ret
 exact ⟨rfl, rfl⟩
structure Bxg (w : World) (nt gr : Array Value) (W : World) : Prop where
 bl : Below w.heap.size w W
 bn : Blk W w.heap.size 30 nt
 bg : Blk W (w.heap.size + 1) 37 gr
theorem Bxg.new (w : World) (nt gr : Array Value) : Bxg w nt gr ((w.alloc (.cells nt 30)).alloc (.cells gr 37)) :=
 ⟨((Below.refl _ _).alloc lR _).alloc (by simp) _, (Blk.new _ _ _).alloc _, by have := Blk.new (w.alloc (.cells nt 30)) 37 gr; simpa using this⟩
theorem Bxg.later {w W W' : World} {nt gr : Array Value} (h : Bxg w nt gr W) (hb : Below W.heap.size W W') : Bxg w nt gr W' := ⟨h.bl.trans (hb.mono h.bl.size), h.bn.below hb h.bn.lt, h.bg.below hb h.bg.lt⟩
structure Bxp (w : World) (nt gr pg : Array Value) (W : World) : Prop where
 bl : Below w.heap.size w W
 bn : Blk W w.heap.size 30 nt
 bg : Blk W (w.heap.size + 1) 37 gr
 bp : Blk W (w.heap.size + 2) 41 pg
theorem Bxp.new (w : World) (nt gr pg : Array Value) : Bxp w nt gr pg (((w.alloc (.cells nt 30)).alloc (.cells gr 37)).alloc (.cells pg 41)) :=
 ⟨(((Below.refl _ _).alloc lR _).alloc (by simp) _).alloc (by simp; omega) _, ((Blk.new _ _ _).alloc _).alloc _, by have := (Blk.new (w.alloc (.cells nt 30)) 37 gr).alloc (.cells pg 41); simpa using this,
  by have := Blk.new ((w.alloc (.cells nt 30)).alloc (.cells gr 37)) 41 pg; simpa using this⟩
theorem Bxp.later {w W W' : World} {nt gr pg : Array Value} (h : Bxp w nt gr pg W) (hb : Below W.heap.size W W') : Bxp w nt gr pg W' := ⟨h.bl.trans (hb.mono h.bl.size), h.bn.below hb h.bn.lt, h.bg.below hb h.bg.lt, h.bp.below hb h.bp.lt⟩
structure uB (w : World) (An Ad As Al Ap Ax : Option Addr) (nn cn nd cd n c nl cl np cp nx cx : Nat) (ns : List Nd) (ds : List Dv) (s : List Int) (ls : List Lk) (pr : List Int) (nm : ByteArray) (xs : List Sp) : Prop where
 h : yX w An Ad As Al Ap nn cn nd cd n c nl cl np cp ns ds s ls pr
 x : Sl w w.heap.size 5 Ax nx cx (xs.flatMap Sp.cells)
 m : nm.size ≤ 9223372036854775807
theorem uB.below {w W : World} {An Ad As Al Ap Ax : Option Addr} {nn cn nd cd n c nl cl np cp nx cx : Nat} {ns : List Nd} {ds : List Dv} {s : List Int} {ls : List Lk} {pr : List Int} {nm : ByteArray} {xs : List Sp} (h : uB w An Ad As Al Ap Ax nn cn nd cd n c nl cl np cp nx cx ns ds s ls pr nm xs) (hb : Below w.heap.size w W) : uB W An Ad As Al Ap Ax nn cn nd cd n c nl cl np cp nx cx ns ds s ls pr nm xs :=
 ⟨h.h.below hb, (h.x.below hb lR).more hb.size, h.m⟩
theorem sV (An Ad As Al Ap : Option Addr) (nn cn nd cd n c nl cl np cp : Nat) (ns : List Nd) (ds : List Dv) (s : List Int) (ls : List Lk) (pr : List Int) (co : Int) (w : World) (h : yX w An Ad As Al Ap nn cn nd cd n c nl cl np cp ns ds s ls pr) :
 Calls Tryz.prog 73 #[.agg #[.slice An nn cn, .slice Ad nd cd], .agg #[.int .i64 co, .slice Al nl cl, .slice Ap np cp]] w fun e w' => e = .returned (.int .i64 (zy ns ds co ls pr)) ∧ Below w.heap.size w w' := by
 have HH := iD h
 have HB := iD (Bxg.new w #[.slice An nn cn, .slice Ad nd cd] #[.int .i64 co, .slice Al nl cl, .slice Ap np cp])
 have hln : ns.length = nn := h.hn.len (fun _ => rfl) (by decide)
 have hnn := h.hn.le
 have HE : Hid (zy ns ds co ls pr = if co < 0 ∨ 7 < co then 5 else if zK ns ds ls ≠ 0 then zK ns ds ls else if yi nn (-1) pr = false then 7 else 0) := by unfold Hid zy; rw [hln]
 clear h
 by_cases h1 : co < 0
 ·have q1 : decide (co < 0) = true := by simpa using h1
  have HR : Hid (zy ns ds co ls pr = 5) := by unfold Hid; rw [HE.out, if_pos (.inl h1)]
  clear h1 HE HH
  go_enter Tryz.func73, Tryz.ntmps73
  go_wp2_with fail
  go_ret
  exact ⟨zE (by rw [HR.out]), HB.out.bl⟩
 have q1 : decide (co < 0) = false := by simpa using h1
 by_cases h2 : 7 < co
 ·have q2 : decide (7 < co) = true := by simpa using h2
  have HR : Hid (zy ns ds co ls pr = 5) := by unfold Hid; rw [HE.out, if_pos (.inr h2)]
  clear h1 h2 HE HH
  go_enter Tryz.func73, Tryz.ntmps73
  go_wp2_with fail
  go_ret
  exact ⟨zE (by rw [HR.out]), HB.out.bl⟩
 have q2 : decide (7 < co) = false := by simpa using h2
 have HE1 : Hid (zy ns ds co ls pr = if zK ns ds ls ≠ 0 then zK ns ds ls else if yi nn (-1) pr = false then 7 else 0) := by unfold Hid; rw [HE.out, if_neg (by omega)]
 clear h1 h2 HE
 go_enter Tryz.func73, Tryz.ntmps73
 go_upto_region 3 with (fail)
 clear q1 q2
 generalize World.alloc (World.alloc w _) _ = W at *
 have HM := iD (HH.out.below HB.out.bl)
 have HC := iD (uJ An Ad Al nn cn nd cd nl cl W.heap.size W.heap.size W.heap.size ns ds ls W HM.out.la HM.out.hn HM.out.hd HM.out.hl lR lR lR HM.out.sn HM.out.sd)
 have k0 := HB.out.bn.c0
 have k1 := HB.out.bn.c1
 have g1 := HB.out.bg.c1
 go_wp2_with fail
 clear k0 k1 g1
 refine HC.out.mono ?_
 rintro e w1 ⟨rfl, hb1⟩
 have HB1 := iD (HB.out.later hb1)
 have HM1 := iD (HM.out.below hb1)
 clear hb1 HB HM HC
 by_cases hc : zK ns ds ls = 0; rotate_left
 ·have q1 : (zK ns ds ls != 0) = true := by simpa using hc
  have HR : Hid (zy ns ds co ls pr = zK ns ds ls) := by unfold Hid; rw [HE1.out, if_pos hc]
  clear hc
  go_wp2_with fail
  go_ret
  exact ⟨zE (by rw [HR.out]), HB1.out.bl⟩
 have HE2 : Hid (zy ns ds co ls pr = if yi nn (-1) pr = false then 7 else 0) := by unfold Hid; rw [HE1.out, if_neg (by simp [hc])]
 rw [hc]
 clear hc HE1
 have k0 := HB1.out.bn.c0
 have g2 := HB1.out.bg.c2
 have HZ := iD (kF Ap np cp w1.heap.size pr nn w1 HM1.out.hp)
 go_wp2_with fail
 clear k0 g2
 refine HZ.out.mono ?_
 rintro e w2 ⟨rfl, hw⟩
 have hb2 : Below w1.heap.size w1 w2 := by rw [← hw]; exact Below.refl _ _
 clear hw
 have HB2 := iD (HB1.out.later hb2)
 clear hb2 HB1 HM1 HZ
 rcases hr : yi nn (-1) pr with _ | _
 ·have HR : Hid (zy ns ds co ls pr = 7) := by unfold Hid; rw [HE2.out, if_pos hr]
  clear hr
  go_wp2_with fail
  go_ret
  exact ⟨zE (by rw [HR.out]), HB2.out.bl⟩
 ·have HR : Hid (zy ns ds co ls pr = 0) := by unfold Hid; rw [HE2.out, if_neg (by simp [hr])]
  clear hr
  go_wp2_with fail
  go_ret
  exact ⟨zE (by rw [HR.out]), HB2.out.bl⟩
theorem pB (An Ad As Al Ap Ax : Option Addr) (nn cn nd cd n c nl cl np cp nx cx : Nat) (ns : List Nd) (ds : List Dv) (s : List Int) (ls : List Lk) (pr : List Int) (co : Int) (nm : ByteArray) (xs : List Sp) (w : World) (h : uB w An Ad As Al Ap Ax nn cn nd cd n c nl cl np cp nx cx ns ds s ls pr nm xs) :
 Calls Tryz.prog 69 #[.agg #[.slice An nn cn, .slice Ad nd cd], .slice As n c, .agg #[.int .i64 co, .slice Al nl cl, .slice Ap np cp], .agg #[.string nm, .slice Ax nx cx]] w fun e w' => e = .returned (.int .i64 (xp ns ds s co ls pr nm xs)) ∧ Below w.heap.size w w' := by
 have HH := iD h
 have HB := iD (Bxp.new w #[.slice An nn cn, .slice Ad nd cd] #[.int .i64 co, .slice Al nl cl, .slice Ap np cp] #[.string nm, .slice Ax nx cx])
 have HE : Hid (xp ns ds s co ls pr nm xs = if zN ns ds s ≠ 0 then zN ns ds s else if zy ns ds co ls pr ≠ 0 then zy ns ds co ls pr else yf ns ds nm xs) := rfl
 clear h
 go_enter Tryz.func69, Tryz.ntmps69
 go_upto_region 1 with (fail)
 generalize World.alloc (World.alloc (World.alloc w _) _) _ = W at *
 have HM := iD (HH.out.below HB.out.bl)
 have HC := iD (wm An Ad As nn cn nd cd n c W.heap.size W.heap.size W.heap.size ns ds s W HM.out.h.la HM.out.h.hn HM.out.h.hd HM.out.h.hs lR lR lR HM.out.h.sn HM.out.h.sd)
 have k0 := HB.out.bn.c0
 have k1 := HB.out.bn.c1
 go_wp2_with fail
 clear k0 k1
 refine HC.out.mono ?_
 rintro e w1 ⟨rfl, hb1⟩
 have HB1 := iD (HB.out.later hb1)
 have HM1 := iD (HM.out.below hb1)
 clear hb1 HB HM HC
 by_cases hc : zN ns ds s = 0; rotate_left
 ·have q1 : (zN ns ds s != 0) = true := by simpa using hc
  have HR : Hid (xp ns ds s co ls pr nm xs = zN ns ds s) := by unfold Hid; rw [HE.out, if_pos hc]
  clear hc
  go_wp2_with fail
  go_ret
  exact ⟨zE (by rw [HR.out]), HB1.out.bl⟩
 have HE1 : Hid (xp ns ds s co ls pr nm xs = if zy ns ds co ls pr ≠ 0 then zy ns ds co ls pr else yf ns ds nm xs) := by unfold Hid; rw [HE.out, if_neg (by simp [hc])]
 rw [hc]
 clear hc HE
 have HC := iD (sV An Ad As Al Ap nn cn nd cd n c nl cl np cp ns ds s ls pr co w1 HM1.out.h)
 have k0 := HB1.out.bn.c0
 have k1 := HB1.out.bn.c1
 have g0 := HB1.out.bg.c0
 have g1 := HB1.out.bg.c1
 have g2 := HB1.out.bg.c2
 go_wp2_with fail
 clear k0 k1 g0 g1 g2
 refine HC.out.mono ?_
 rintro e w2 ⟨rfl, hb2⟩
 have HB2 := iD (HB1.out.later hb2)
 have HM2 := iD (HM1.out.below hb2)
 clear hb2 HB1 HM1 HC
 by_cases hc : zy ns ds co ls pr = 0; rotate_left
 ·have q1 : (zy ns ds co ls pr != 0) = true := by simpa using hc
  have HR : Hid (xp ns ds s co ls pr nm xs = zy ns ds co ls pr) := by unfold Hid; rw [HE1.out, if_pos hc]
  clear hc
  go_wp2_with fail
  go_ret
  exact ⟨zE (by rw [HR.out]), HB2.out.bl⟩
 have HE2 : Hid (xp ns ds s co ls pr nm xs = yf ns ds nm xs) := by unfold Hid; rw [HE1.out, if_neg (by simp [hc])]
 rw [hc]
 clear hc HE1
 have HC := iD (tQ An Ad Ax nn cn nd cd nx cx ns ds nm xs w2 ⟨HM2.out.h.hn, HM2.out.h.hd, HM2.out.x, HM2.out.h.la, HM2.out.h.sn, HM2.out.h.sd, HM2.out.m⟩)
 have k0 := HB2.out.bn.c0
 have k1 := HB2.out.bn.c1
 have p0 := HB2.out.bp.c0
 have p1 := HB2.out.bp.c1
 go_wp2_with fail
 clear k0 k1 p0 p1
 refine HC.out.mono ?_
 rintro e w3 ⟨rfl, hb3⟩
 go_wp2_with fail
 go_ret
 exact ⟨zE (by rw [HE2.out]), HB2.out.bl.trans (hb3.mono HB2.out.bl.size)⟩
end
section
open Go.RowKit
theorem wi {w : World} {base size n c x i : Nat} {e : TypeId} {A : Option Addr} {xs : List Value} {u : Value} (h : w.ownsRow base e size (.slice A n c) n xs) (hx : x < base) : (w.setCell ⟨x, i, none⟩ u).ownsRow base e size (.slice A n c) n xs :=
 h.kept (ze _ _ _) (zk fun b e => by have := (h.lt b e).1; simp; omega)
def gx (w : World) (nl np : Nat) (co : Int) (ls : List Lk) (pr : List Int) (e : Ending) (w' : World) : Prop := ∃ (A1 A2 : Option Addr) (c1 c2 : Nat), e = .returned (.agg #[.int .i64 co, .slice A1 nl c1, .slice A2 np c2]) ∧ Hid (yD w' w.heap.size A1 nl c1 ls) ∧ Hid (zO w' w.heap.size A2 np c2 pr) ∧ Hid (Below w.heap.size w w')
structure Bcg (w : World) (cf : Array Value) (wr : World) : Prop where
 b0 : Blk wr w.heap.size 37 cf
 b1 : Blk wr (w.heap.size + 1) 37 #[.int .i64 0, .slice none 0 0, .slice none 0 0]
 bl : Below w.heap.size w wr
theorem Bcg.new (w : World) (cf : Array Value) : Bcg w cf ((w.alloc (.cells cf 37)).alloc (.cells #[.int .i64 0, .slice none 0 0, .slice none 0 0] 37)) :=
 ⟨(Blk.new w _ _).alloc _, by have := Blk.new (w.alloc (.cells cf 37)) 37 #[.int .i64 0, .slice none 0 0, .slice none 0 0]; simpa using this, ((Below.refl _ _).alloc lR _).alloc (by simp) _⟩
theorem Bcg.later {w wr wr' : World} {cf : Array Value} (h : Bcg w cf wr) (hb : Below wr.heap.size wr wr') : Bcg w cf wr' := ⟨h.b0.below hb h.b0.lt, h.b1.below hb h.b1.lt, h.bl.trans (hb.mono h.bl.size)⟩
theorem Bcg.cells {w wr : World} {x y z : Value} (h : Bcg w #[x, y, z] wr) : wr.cell? ⟨w.heap.size, 0, none⟩ = some x ∧ wr.cell? ⟨w.heap.size, 1, none⟩ = some y ∧ wr.cell? ⟨w.heap.size, 2, none⟩ = some z := ⟨h.b0.cell 0, h.b0.cell 1, h.b0.cell 2⟩
theorem vk (Al Ap : Option Addr) (nl cl np cp B : Nat) (co : Int) (ls : List Lk) (pr : List Int) (w : World) (hl : Sl w B 3 Al nl cl (ls.flatMap Lk.cells)) (hp : Sl w B 1 Ap np cp (zD pr)) (hB : B ≤ w.heap.size) (hnl : nl ≤ 1000000) (hnp : np ≤ 1000000) :
 Calls Tryz.prog 48 #[.agg #[.int .i64 co, .slice Al nl cl, .slice Ap np cp]] w (gx w nl np co ls pr) := by
 have HLL : Hid (ls.length = nl) := hl.len (fun _ => rfl) (by decide)
 have HLP : Hid (pr.length = np) := hp.len (fun _ => rfl) (by decide)
 have HB := iD (Bcg.new w #[.int .i64 co, .slice Al nl cl, .slice Ap np cp])
 have HL := iD hl
 have HP := iD hp
 clear hl hp
 go_enter Tryz.func48, Tryz.ntmps48
 go_upto_region 1 with (fail)
 generalize World.alloc (World.alloc w _) _ = W at *
 have HB0 := iD (HB.out.later (Below.refl _ _).drew)
 have hz0 := HB0.out.bl.size
 have HL0 := iD (HL.out.below HB0.out.bl hB)
 have HP0 := iD (HP.out.below HB0.out.bl hB)
 refine zC (S := fun W' => W'.cell? ⟨w.heap.size, 0, none⟩ = some (.int .i64 co) ∧ W'.cell? ⟨w.heap.size, 1, none⟩ = some (.slice Al nl cl) ∧ W'.cell? ⟨w.heap.size, 2, none⟩ = some (.slice Ap np cp)) (J := [9]) (by kernel_rfl) ?_ (fun AA => ?_)
 ·exact HB.out.cells
 try dsimp only at AA
 refine tk 0 3 (mf 10 1) AA ?_
 refine tk 1 4 (mf 10 2) AA ?_
 refine tk 2 5 (mf 10 3) AA ?_
 refine tk 3 6 (mf 10 4) AA ?_
 refine tk 5 8 (ma 10 47) AA ?_
 refine tk 6 9 (ma 10 111) AA ?_
 refine tb 4 (mf 10 7) fun K hK => ?_
 (go_simp; refine (wJ Al nl cl _ ls W.drew HL0.out (by omega) hnl).mono ?_; rintro e w1 ⟨A1, c1, rfl, hO1, hb1⟩; rw [HLL.out] at hO1 ⊢; have HD1 := iD hb1.out; clear hb1; go_simp)
 refine hK.out _ _ (fun _ => ?_) (fun AA' => ?_)
 ·exact (HB0.out.later HD1.out).cells
 replace AA := AA' rfl
 clear AA' hK K
 try dsimp only at AA
 have HB1 := iD (HB0.out.later HD1.out)
 have HO1 := iD (World.ownsRow.mono hO1.out lR)
 clear hO1
 refine tb 7 (mf 10 8) fun K hK => ?_
 (go_simp; refine (yQ Ap np cp _ pr w1 (HP0.out.below HD1.out (by omega)) (by have := HD1.out.size; omega) hnp).mono ?_; rintro e w2 ⟨A2, c2, rfl, hO2, hb2⟩; rw [HLP.out] at hO2 ⊢; have HD2 := iD hb2.out; clear hb2; go_simp)
 refine hK.out _ _ (fun _ => ?_) (fun AA' => ?_)
 ·exact (HB1.out.later HD2.out).cells
 replace AA := AA' rfl
 clear AA' hK K
 try dsimp only at AA
 have HB2 := iD (HB1.out.later HD2.out)
 have HP1 := iD (zt HO1.out HD2.out)
 have HO2 := iD (World.ownsRow.mono hO2.out HD1.out.size)
 obtain ⟨b0, b1, b2⟩ := HB2.out.cells; have z0 := HB2.out.b1.frozen 0; have z1 := HB2.out.b1.frozen 1; have z2 := HB2.out.b1.frozen 2; have d0 := HB2.out.b1.cell 0; have d1 := HB2.out.b1.cell 1; have d2 := HB2.out.b1.cell 2
 clear hO2
 refine tk 8 11 (mf 10 9) AA ?_
 refine tb 9 (mf 10 10) fun K hK => ?_
 go_simp
 refine hK.out _ _ (fun h => by cases h) (fun _ => ?_)
 try clear AA
 clear hK K
 refine zA (by kernel_rfl) ?_ _
 have HE : Hid (Below w.heap.size w (((w2.setCell ⟨w.heap.size + 1, 0, none⟩ (.int .i64 co)).setCell ⟨w.heap.size + 1, 1, none⟩ (.slice A1 nl c1)).setCell ⟨w.heap.size + 1, 2, none⟩ (.slice A2 np c2))) := ((HB2.out.bl.setCell (by simp) _).setCell (by simp) _).setCell (by simp) _
 have HBE : Hid (Blk (((w2.setCell ⟨w.heap.size + 1, 0, none⟩ (.int .i64 co)).setCell ⟨w.heap.size + 1, 1, none⟩ (.slice A1 nl c1)).setCell ⟨w.heap.size + 1, 2, none⟩ (.slice A2 np c2)) (w.heap.size + 1) 37 #[.int .i64 co, .slice A1 nl c1, .slice A2 np c2]) := ((HB2.out.b1.set 0 _).set 1 _).set 2 _
 have hx2 : w.heap.size + 1 < W.heap.size := HB.out.b1.lt
 have HR1 := iD (wi (x := w.heap.size + 1) (i := 2) (u := .slice A2 np c2) (wi (x := w.heap.size + 1) (i := 1) (u := .slice A1 nl c1) (wi (x := w.heap.size + 1) (i := 0) (u := .int .i64 co) HP1.out hx2) hx2) hx2)
 have HR2 := iD (wi (x := w.heap.size + 1) (i := 2) (u := .slice A2 np c2) (wi (x := w.heap.size + 1) (i := 1) (u := .slice A1 nl c1) (wi (x := w.heap.size + 1) (i := 0) (u := .int .i64 co) HO2.out hx2) hx2) hx2)
 clear z0 z1 z2 d0 d1 d2 b0 b1 b2 HP1 HO2 HB2 HB1
 generalize World.setCell (World.setCell (World.setCell w2 _ _) _ _) _ _ = x at *
 go_wp2_with fail
 have q0 := HBE.out.c0
 have q1 := HBE.out.c1
 have q2 := HBE.out.c2
 exact bodyPost_ret (v := .agg #[.int .i64 co, .slice A1 nl c1, .slice A2 np c2]) (by simp [results, Tryz.results48, go_sem, q0, q1, q2]) rfl ⟨A1, A2, c1, c2, rfl, HR1.out.mono (by omega), HR2.out.mono (by omega), HE⟩
end
section
open Go.RowKit
theorem gJ : yg Tryz.prog 161 77 2 16 := yg.mk' (z := .agg #[.int .i64 0, .int .i64 0]) Tryz.underlying161 (by kernel_rfl) rfl (by decide)
structure Bsg (w : World) (cs zs : Array Value) (T : TypeId) (wr : World) : Prop where
 b0 : Blk wr w.heap.size 43 cs
 b1 : Blk wr (w.heap.size + 1) T zs
 bl : Below w.heap.size w wr
theorem Bsg.new (w : World) (cs zs : Array Value) (T : TypeId) : Bsg w cs zs T ((w.alloc (.cells cs 43)).alloc (.cells zs T)) :=
 ⟨(Blk.new w _ _).alloc _, by have := Blk.new (w.alloc (.cells cs 43)) T zs; simpa using this, ((Below.refl _ _).alloc lR _).alloc (by simp) _⟩
theorem Bsg.later {w wr wr' : World} {cs zs : Array Value} {T : TypeId} (h : Bsg w cs zs T wr) (hb : Below wr.heap.size wr wr') : Bsg w cs zs T wr' := ⟨h.b0.below hb h.b0.lt, h.b1.below hb h.b1.lt, h.bl.trans (hb.mono h.bl.size)⟩
theorem oW (k d no p q : Int) (w : World) :
 Calls Tryz.prog 58 #[.agg #[.int .i64 k, .int .i64 d, .int .i64 no, .int .i64 p, .int .i64 q]] w fun e w' => ∃ b : Nat, e = .returned (.agg #[.string ⟨#[80]⟩, .slice (some ⟨b, 0, none⟩) 1 1]) ∧ Hid (Sl w' w'.heap.size 5 (some ⟨b, 0, none⟩) 1 1 (Sp.cells ⟨k, d, no, p, q⟩)) ∧ Hid (Below w.heap.size w w') := by
 have HF := iD ((Bsg.new w #[.int .i64 k, .int .i64 d, .int .i64 no, .int .i64 p, .int .i64 q] #[.string ⟨#[80]⟩, .slice (some ⟨w.heap.size + 1 + 1, 0, none⟩) 1 1] 41).later ((Below.refl _ _).alloc lR (.cells #[.int .i64 k, .int .i64 d, .int .i64 no, .int .i64 p, .int .i64 q] 43)))
 have HS : Hid (Sl (((w.alloc (.cells #[.int .i64 k, .int .i64 d, .int .i64 no, .int .i64 p, .int .i64 q] 43)).alloc (.cells #[.string ⟨#[80]⟩, .slice (some ⟨w.heap.size + 1 + 1, 0, none⟩) 1 1] 41)).alloc (.cells #[.int .i64 k, .int .i64 d, .int .i64 no, .int .i64 p, .int .i64 q] 43)) (w.heap.size + 1 + 1 + 1) 5 (some ⟨w.heap.size + 1 + 1, 0, none⟩) 1 1 (Sp.cells ⟨k, d, no, p, q⟩)) := Sl.newest (by simp) rfl (by decide)
 have hz : (((w.alloc (.cells #[.int .i64 k, .int .i64 d, .int .i64 no, .int .i64 p, .int .i64 q] 43)).alloc (.cells #[.string ⟨#[80]⟩, .slice (some ⟨w.heap.size + 1 + 1, 0, none⟩) 1 1] 41)).alloc (.cells #[.int .i64 k, .int .i64 d, .int .i64 no, .int .i64 p, .int .i64 q] 43)).heap.size = w.heap.size + 1 + 1 + 1 := by simp
 go_enter Tryz.func58, Tryz.ntmps58
 go_wp2_with fail
 generalize World.alloc (World.alloc (World.alloc w _) _) _ = x at *
 have q0 := HF.out.b1.c0
 have q1 := HF.out.b1.c1
 exact bodyPost_ret (v := .agg #[.string ⟨#[80]⟩, .slice (some ⟨w.heap.size + 1 + 1, 0, none⟩) 1 1]) (by simp [results, Tryz.results58, go_sem, q0, q1]) rfl ⟨_, rfl, by rw [hz]; exact HS.out, HF.out.bl⟩
def OpR (w : World) (Ax : Option Addr) (nx cx : Nat) (d p : Int) (gk : Nat) (ov iv : Value) (wr : World) : Prop :=
 (iv = .int .i64 0 ∧ ov = .slice none 0 0 ∧ gk = 1 ∨ ∃ (c : Nat) (A : Option Addr), iv = .int .i64 1 ∧ ov = .slice A 1 c ∧ gk = 0 ∧ Hid (Sl wr wr.heap.size 2 A 1 c [.int .i64 d, .int .i64 p])) ∧ Hid (Blk wr w.heap.size 41 #[.string ⟨#[80]⟩, .slice Ax nx cx]) ∧ Hid (Below w.heap.size w wr)
theorem kq (Ax : Option Addr) (c1 : Nat) (k d no p q : Int) (w : World) (hk : k = 1 ∨ k = 2) (hx : Sl w w.heap.size 5 Ax 1 c1 (Sp.cells ⟨k, d, no, p, q⟩)) :
 Calls Tryz.prog 123 #[.agg #[.string ⟨#[80]⟩, .slice Ax 1 c1]] w fun e w' => ∃ (b o c : Nat), e = .returned (.slice (some ⟨b, o, none⟩) 1 c) ∧ w'.cell? ⟨b, o, none⟩ = some (.int .i64 d) ∧ w'.cell? ⟨b, o + 1, none⟩ = some (.int .i64 k) ∧ Hid (Below w.heap.size w w') := by
 have HX := iD hx
 have HB := iD (Blk.new w 41 #[.string ⟨#[80]⟩, .slice Ax 1 c1])
 have HBL := iD ((Below.refl w.heap.size w).alloc lR (.cells #[.string ⟨#[80]⟩, .slice Ax 1 c1] 41))
 clear hx
 go_enter Tryz.func123, Tryz.ntmps123
 go_upto_region 3 with (fail)
 generalize World.alloc w _ = W at *
 refine wZ [(2, 0), (0, 2), (0, 0), (0, 1), (2, 0), (0, 3), (21, 1), (0, 0)] 3 9 (1) (OpR w Ax 1 c1 d k) (by (try dsimp only [gt]); exact ⟨.inl ⟨rfl, rfl, rfl⟩, HB, HBL⟩) (by kernel_rfl) ?_
 intro u1 p3 p9 gk wr a hrel ha J1 K1 hJ1 hK1
 dsimp only [zZ, Go.Proofs.YtkkobemhbicjgaaGreatDoor.v2, Nat.reduceAdd] at ha
 subst ha
 clear HB HBL
 obtain ⟨⟨rfl, rfl, rfl⟩ | ⟨c, A, rfl, rfl, rfl, HO⟩, HK, HL⟩ := hrel; rotate_left
 ·go_wp2_with fail
  go_ret
  obtain ⟨b, o, hA, -, hc⟩ := HO.out.2.2.2.2 (by decide)
  subst hA
  exact ⟨b, o, c, rfl, hc 0 _ rfl, hc 1 _ rfl, HL⟩
 obtain ⟨b, o, hA, hb, hc⟩ := HX.out.2.2.2.2 (by decide)
 subst hA
 have HLC : ∀ j u, (Sp.cells ⟨k, d, no, p, q⟩)[j]? = some u → wr.cell? ⟨b, o + j, none⟩ = some u := fun j u h => (HL.out.cell (p := ⟨b, o + j, none⟩) hb).trans (hc j u h)
 have k1 := HK.out.c1
 have c0 : wr.cell? ⟨b, o, none⟩ = some (.int .i64 k) := HLC 0 _ rfl
 have c1' : wr.cell? ⟨b, o + 1, none⟩ = some (.int .i64 d) := HLC 1 _ rfl
 have c2 : wr.cell? ⟨b, o + 2, none⟩ = some (.int .i64 no) := HLC 2 _ rfl
 have c3 : wr.cell? ⟨b, o + 3, none⟩ = some (.int .i64 p) := HLC 3 _ rfl
 have c4 : wr.cell? ⟨b, o + 4, none⟩ = some (.int .i64 q) := HLC 4 _ rfl
 clear hc hb HLC
 go_upto_region 5 with (fail)
 clear k1 c0 c1' c2 c3 c4
 have HV := iD (Blk.new wr 43 #[.int .i64 k, .int .i64 d, .int .i64 no, .int .i64 p, .int .i64 q])
 have HL4 := iD (HL.out.alloc HL.out.size (.cells #[.int .i64 k, .int .i64 d, .int .i64 no, .int .i64 p, .int .i64 q] 43))
 have HK4 := iD (HK.out.alloc (.cells #[.int .i64 k, .int .i64 d, .int .i64 no, .int .i64 p, .int .i64 q] 43))
 clear HL HK
 generalize World.alloc wr _ = V at *
 obtain ⟨bq, hbq⟩ : ∃ x, x = wr.heap.size := ⟨_, rfl⟩
 rw [← hbq] at HV ⊢
 clear hbq
 have e0 := HV.out.c0
 have e1 := HV.out.c1
 rcases hk with rfl | rfl
 ·go_upto_region 7 with (fail)
  go_wp2_with (at_builtin; go_must (refine zR rfl (.tmp 17) (.tmp 21) rfl gJ (by rfl) (World.ownsRow_nil _ (w.heap.size + 1) _ _) (by rfl) (Sl.newest (n := 1) rfl rfl (by decide)) (by simp [Value.oneCell']) (by decide) (by decide) (by have := HL4.out.size; simp; omega) ?_; intro A1 c2 w6 hown6 hgr6 hat6))
  have HLA := iD (HL4.out.alloc HL4.out.size (.cells #[.int .i64 d, .int .i64 1] 77))
  have HL6 := iD (HLA.out.trans ((ws hgr6).mono HLA.out.size))
  have HK6 := iD ((HK4.out.alloc (.cells #[.int .i64 d, .int .i64 1] 77)).below (ws hgr6) (by have := HK4.out.lt; simp; omega))
  have HS6 : Hid (Sl w6 w6.heap.size 2 A1 1 c2 [.int .i64 d, .int .i64 1]) := Sl.of_own hown6
  clear hown6 hgr6 hat6
  refine Handed.intro (0) (by omega) (hJ1 _ _ _ (qh.back 3 9 ?_ (by kernel_rfl)))
  dsimp only [gt]
  exact ⟨.inr ⟨c2, A1, rfl, rfl, rfl, HS6⟩, HK6, HL6⟩
 ·go_upto_region 9 with (fail)
  go_wp2_with (at_builtin; go_must (refine zR rfl (.tmp 25) (.tmp 29) rfl gJ (by rfl) (World.ownsRow_nil _ (w.heap.size + 1) _ _) (by rfl) (Sl.newest (n := 1) rfl rfl (by decide)) (by simp [Value.oneCell']) (by decide) (by decide) (by have := HL4.out.size; simp; omega) ?_; intro A1 c2 w6 hown6 hgr6 hat6))
  have HLA := iD (HL4.out.alloc HL4.out.size (.cells #[.int .i64 d, .int .i64 2] 77))
  have HL6 := iD (HLA.out.trans ((ws hgr6).mono HLA.out.size))
  have HK6 := iD ((HK4.out.alloc (.cells #[.int .i64 d, .int .i64 2] 77)).below (ws hgr6) (by have := HK4.out.lt; simp; omega))
  have HS6 : Hid (Sl w6 w6.heap.size 2 A1 1 c2 [.int .i64 d, .int .i64 2]) := Sl.of_own hown6
  clear hown6 hgr6 hat6
  refine Handed.intro (0) (by omega) (hJ1 _ _ _ (qh.back 3 9 ?_ (by kernel_rfl)))
  dsimp only [gt]
  exact ⟨.inr ⟨c2, A1, rfl, rfl, rfl, HS6⟩, HK6, HL6⟩
theorem wO (k d no p q : Int) (w : World) (hk : k = 1 ∨ k = 2) :
 Calls Tryz.prog 99 #[.agg #[.int .i64 k, .int .i64 d, .int .i64 no, .int .i64 p, .int .i64 q]] w fun e w' => e = .returned (.agg #[.int .i64 d, .int .i64 k]) ∧ Below w.heap.size w w' := by
 have HB := iD (Bsg.new w #[.int .i64 k, .int .i64 d, .int .i64 no, .int .i64 p, .int .i64 q] #[.int .i64 0, .int .i64 0] 77)
 go_enter Tryz.func99, Tryz.ntmps99
 go_upto_region 1 with (fail)
 generalize World.alloc (World.alloc w _) _ = W at *
 have c0 := HB.out.b0.c0
 have c1 := HB.out.b0.c1
 have c2 := HB.out.b0.c2
 have c3 := HB.out.b0.c3
 have c4 := HB.out.b0.c4
 go_wp2_with fail
 clear c0 c1 c2 c3 c4
 refine (oW k d no p q W).mono ?_
 rintro e w1 ⟨b, rfl, hs, hb1⟩
 have HB1 := iD (HB.out.later hb1.out)
 have HO := iD (kq (some ⟨b, 0, none⟩) 1 k d no p q w1 hk hs.out)
 clear hs hb1 HB
 go_wp2_with fail
 refine HO.out.mono ?_
 rintro e w2 ⟨b2, o, c, rfl, h1, h2, hb2⟩
 have HB2 := iD (HB1.out.later hb2.out)
 clear hb2 HB1 HO
 have f0 := HB2.out.b1.cell 0
 have f1 := HB2.out.b1.cell 1
 have y0 := HB2.out.b1.frozen 0
 have y1 := HB2.out.b1.frozen 1
 have HE : Hid (Blk ((w2.setCell ⟨w.heap.size + 1, 0, none⟩ (.int .i64 d)).setCell ⟨w.heap.size + 1, 1, none⟩ (.int .i64 k)) (w.heap.size + 1) 77 #[.int .i64 d, .int .i64 k]) := (HB2.out.b1.set 0 _).set 1 _
 have HEL : Hid (Below w.heap.size w ((w2.setCell ⟨w.heap.size + 1, 0, none⟩ (.int .i64 d)).setCell ⟨w.heap.size + 1, 1, none⟩ (.int .i64 k))) := (HB2.out.bl.setCell (by simp) _).setCell (by simp) _
 go_wp2_with fail
 generalize World.setCell (World.setCell w2 _ _) _ _ = x at *
 have q0 := HE.out.c0
 have q1 := HE.out.c1
 exact bodyPost_ret (v := .agg #[.int .i64 d, .int .i64 k]) (by simp [results, Tryz.results99, go_sem, q0, q1]) rfl ⟨rfl, HEL.out⟩
structure Bop (w : World) (nt gr op : Array Value) (wr : World) : Prop where
 b0 : Blk wr w.heap.size 30 nt
 b1 : Blk wr (w.heap.size + 1) 37 gr
 b2 : Blk wr (w.heap.size + 2) 77 op
 b3 : Blk wr (w.heap.size + 3) 37 #[.int .i64 0, .slice none 0 0, .slice none 0 0]
 bl : Below w.heap.size w wr
theorem gg (w : World) (T0 T1 T2 T3 : TypeId) (a b c d : Array Value) : Blk ((((w.alloc (.cells a T0)).alloc (.cells b T1)).alloc (.cells c T2)).alloc (.cells d T3)) w.heap.size T0 a ∧ Blk ((((w.alloc (.cells a T0)).alloc (.cells b T1)).alloc (.cells c T2)).alloc (.cells d T3)) (w.heap.size + 1) T1 b ∧ Blk ((((w.alloc (.cells a T0)).alloc (.cells b T1)).alloc (.cells c T2)).alloc (.cells d T3)) (w.heap.size + 2) T2 c ∧ Blk ((((w.alloc (.cells a T0)).alloc (.cells b T1)).alloc (.cells c T2)).alloc (.cells d T3)) (w.heap.size + 3) T3 d ∧ Below w.heap.size w ((((w.alloc (.cells a T0)).alloc (.cells b T1)).alloc (.cells c T2)).alloc (.cells d T3)) := by
 refine ⟨(((Blk.new w T0 a).alloc _).alloc _).alloc _, ?_, ?_, ?_, ((((Below.refl _ _).alloc lR _).alloc (by simp) _).alloc (by simp; omega) _).alloc (by simp; omega) _⟩
 ·have := ((Blk.new (w.alloc (.cells a T0)) T1 b).alloc (.cells c T2)).alloc (.cells d T3); simpa using this
 ·have := (Blk.new ((w.alloc (.cells a T0)).alloc (.cells b T1)) T2 c).alloc (.cells d T3); simpa using this
 ·have := Blk.new (((w.alloc (.cells a T0)).alloc (.cells b T1)).alloc (.cells c T2)) T3 d; simpa using this
theorem Bop.new (w : World) (nt gr op : Array Value) : Bop w nt gr op ((((w.alloc (.cells nt 30)).alloc (.cells gr 37)).alloc (.cells op 77)).alloc (.cells #[.int .i64 0, .slice none 0 0, .slice none 0 0] 37)) := by
 obtain ⟨h0, h1, h2, h3, h4⟩ := gg w 30 37 77 37 nt gr op #[.int .i64 0, .slice none 0 0, .slice none 0 0]
 exact ⟨h0, h1, h2, h3, h4⟩
theorem Bop.fin {w wr : World} {nt op : Array Value} {x y z : Value} (h : Bop w nt #[x, y, z] op wr) : Blk (((wr.setCell ⟨w.heap.size + 3, 0, none⟩ x).setCell ⟨w.heap.size + 3, 1, none⟩ y).setCell ⟨w.heap.size + 3, 2, none⟩ z) (w.heap.size + 3) 37 #[x, y, z] ∧ Below w.heap.size w (((wr.setCell ⟨w.heap.size + 3, 0, none⟩ x).setCell ⟨w.heap.size + 3, 1, none⟩ y).setCell ⟨w.heap.size + 3, 2, none⟩ z) :=
 ⟨((h.b3.set 0 _).set 1 _).set 2 _, ((h.bl.setCell (by simp) _).setCell (by simp) _).setCell (by simp) _⟩
theorem Bop.cut {w wr : World} {nt op : Array Value} {x y z u : Value} (h : Bop w nt #[x, y, z] op wr) : Bop w nt #[x, y, u] op (wr.setCell ⟨w.heap.size + 1, 2, none⟩ u) :=
 ⟨h.b0.far (by simp) _, h.b1.set 2 _, h.b2.far (by simp) _, h.b3.far (by simp) _, h.bl.setCell (by simp) _⟩
theorem ig {ds : List Dv} {d : Int} {x : Dv} (hx : ds[d.toNat]? = some x) (k : Int) : vX ds k d = (decide (k = 2) && !decide (x.kind = 4)) := by unfold vX; rw [hx]; simp
def rX (A : Option Addr) (n c : Nat) (b : Bool) : Value := if b then .slice none 0 0 else .slice A n c
theorem wj (An Ad Al Ap : Option Addr) (nn cn nd cd nl cl np cp : Nat) (ds : List Dv) (co d k : Int) (w : World) (hd : Sl w w.heap.size 5 Ad nd cd (ds.flatMap Dv.cells)) (hk : k = 1 ∨ k = 2) (h0 : 0 ≤ d) (h1 : d < nd) :
 Calls Tryz.prog 101 #[.agg #[.slice An nn cn, .slice Ad nd cd], .agg #[.int .i64 co, .slice Al nl cl, .slice Ap np cp], .agg #[.int .i64 d, .int .i64 k]] w fun e w' => e = .returned (.agg #[.int .i64 co, .slice Al nl cl, rX Ap np cp (vX ds k d)]) ∧ Below w.heap.size w w' := by
 have HB := iD (Bop.new w #[.slice An nn cn, .slice Ad nd cd] #[.int .i64 co, .slice Al nl cl, .slice Ap np cp] #[.int .i64 d, .int .i64 k])
 obtain ⟨i, rfl⟩ := Int.eq_ofNat_of_zero_le h0
 obtain ⟨b, o, x, hA, hb, hx, hc⟩ := hd.at (fun _ => rfl) (by decide) (show i < nd by omega)
 subst hA
 have HCE : Hid (vX ds k i = (decide (k = 2) && !decide (x.kind = 4))) := ig (by simpa using hx) k
 have HKD : Hid (w.cell? ⟨b, o + i * 5 + 1, none⟩ = some (.int .i64 x.kind)) := hc 1 _ rfl
 clear hd hc hx
 go_enter Tryz.func101, Tryz.ntmps101
 go_upto_region 1 with (fail)
 generalize World.alloc (World.alloc (World.alloc (World.alloc w _) _) _) _ = W at *
 rw [show w.heap.size + 1 + 1 = w.heap.size + 2 from rfl, show w.heap.size + 2 + 1 = w.heap.size + 3 from rfl]
 have p0 := HB.out.b2.c0
 have p1 := HB.out.b2.c1
 have k1 := HB.out.b0.c1
 have kd : W.cell? ⟨b, o + i * 5 + 1, none⟩ = some (.int .i64 x.kind) := (HB.out.bl.cell (p := ⟨b, o + i * 5 + 1, none⟩) hb).trans HKD.out
 have g0 := HB.out.b1.c0
 have g1 := HB.out.b1.c1
 have g2 := HB.out.b1.c2
 rcases hk with rfl | rfl
 ·have HV : Hid (vX ds 1 i = false) := by unfold Hid; rw [HCE.out]; rfl
  have d0 := HB.out.b3.cell 0
  have d1 := HB.out.b3.cell 1
  have d2 := HB.out.b3.cell 2
  have y0 := HB.out.b3.frozen 0
  have y1 := HB.out.b3.frozen 1
  have y2 := HB.out.b3.frozen 2
  have HE := iD (HB.out.fin)
  go_wp2_with fail
  generalize World.setCell (World.setCell (World.setCell W _ _) _ _) _ _ = z at *
  have q0 := HE.out.1.c0
  have q1 := HE.out.1.c1
  have q2 := HE.out.1.c2
  exact bodyPost_ret (v := .agg #[.int .i64 co, .slice Al nl cl, .slice Ap np cp]) (by simp [results, Tryz.results101, go_sem, q0, q1, q2]) rfl ⟨by rw [HV.out]; rfl, HE.out.2⟩
 by_cases h4 : x.kind = 4
 ·have HV : Hid (vX ds 2 i = false) := by unfold Hid; rw [HCE.out]; simp [h4]
  have q4 : (x.kind != 4) = false := by simp [h4]
  rw [h4] at kd
  clear h4 q4
  have d0 := HB.out.b3.cell 0
  have d1 := HB.out.b3.cell 1
  have d2 := HB.out.b3.cell 2
  have y0 := HB.out.b3.frozen 0
  have y1 := HB.out.b3.frozen 1
  have y2 := HB.out.b3.frozen 2
  have HE := iD (HB.out.fin)
  go_wp2_with fail
  generalize World.setCell (World.setCell (World.setCell W _ _) _ _) _ _ = z at *
  have q0 := HE.out.1.c0
  have q1 := HE.out.1.c1
  have q2 := HE.out.1.c2
  exact bodyPost_ret (v := .agg #[.int .i64 co, .slice Al nl cl, .slice Ap np cp]) (by simp [results, Tryz.results101, go_sem, q0, q1, q2]) rfl ⟨by rw [HV.out]; rfl, HE.out.2⟩
 have HV : Hid (vX ds 2 i = true) := by unfold Hid; rw [HCE.out]; simp [h4]
 have q4 : (x.kind != 4) = true := by simpa using h4
 have y2 := HB.out.b1.frozen 2
 have HBX := iD (HB.out.cut (u := .slice none 0 0))
 go_upto_region 3 with (fail)
 clear p0 p1 k1 kd g0 g1 g2 y2 q4 h4
 generalize World.setCell W _ _ = X at *
 have g0 := HBX.out.b1.c0
 have g1 := HBX.out.b1.c1
 have g2 := HBX.out.b1.c2
 have d0 := HBX.out.b3.cell 0
 have d1 := HBX.out.b3.cell 1
 have d2 := HBX.out.b3.cell 2
 have y0 := HBX.out.b3.frozen 0
 have y1 := HBX.out.b3.frozen 1
 have y2 := HBX.out.b3.frozen 2
 have HE := iD (HBX.out.fin)
 go_wp2_with fail
 generalize World.setCell (World.setCell (World.setCell X _ _) _ _) _ _ = z at *
 have q0 := HE.out.1.c0
 have q1 := HE.out.1.c1
 have q2 := HE.out.1.c2
 exact bodyPost_ret (v := .agg #[.int .i64 co, .slice Al nl cl, .slice none 0 0]) (by simp [results, Tryz.results101, go_sem, q0, q1, q2]) rfl ⟨by rw [HV.out]; rfl, HE.out.2⟩
end
section
open Go.RowKit
open Go.Lib (below_setCells_w)
theorem et3 : Tryz.laysNm221_ren.t 3 = 3 := rfl
theorem vi (l : List Int) (j : Nat) : (zD l)[j]? = l[j]?.map (Value.int .i64) := by rw [yI, List.getElem?_map]
theorem oE (A : Option Addr) (n c B : Nat) (st : List Int) (d : Int) (w : World) (hs : Sl w B 1 A n c (zD st)) (hn : n ≤ 1000000) (ho : st.Pairwise (· < ·)) :
 Calls Tryz.prog 128 #[.slice A n c, .int .i64 d] w fun e w' => e = .returned (.tuple #[.int .i64 ((st.countP (· < d) : Nat) : Int), .bool (decide (d ∈ st))]) ∧ ∃ q, w' = w.drewN q := by
 have hl : st.length = n := hs.len (fun _ => rfl) (by decide)
 obtain ⟨-, hnc, -, hnone, hc⟩ := hs
 by_cases h0 : n = 0
 ·subst h0
  obtain rfl : st = [] := List.eq_nil_of_length_eq_zero hl
  refine (Tryz.slices_BinarySearch_int_empty A c d w).mono ?_
  rintro e w' ⟨rfl, rfl⟩
  exact ⟨by simp, 0, rfl⟩
 ·obtain ⟨b, off, rfl, -, hcell⟩ := hc (by omega)
  have ht : st.take n = st := List.take_of_length_le (by omega)
  refine (Tryz.slices_BinarySearch_int b off n c st d w (by omega) (by omega) (fun j hj => ?_) ?_).mono ?_
  ·refine hcell j _ ?_
   rw [vi, List.getElem?_eq_getElem hj, List.getD_eq_getElem?_getD, List.getElem?_eq_getElem hj]
   rfl
  ·rw [ht]; exact ho.imp fun h => Int.le_of_lt h
  ·rw [ht]
   rintro e w' ⟨rfl, q, rfl⟩
   exact ⟨by simp, q, rfl⟩
section
variable {w : World} {base n c i : Nat} {A : Option Addr} {st : List Int}
theorem iK (h : zO w base A n c st) : A = none ∧ n = 0 ∧ c = 0 ∨ ∃ (b : Nat) (cur : Array Value), A = some ⟨b, 0, none⟩ ∧ base ≤ b ∧ b < w.heap.size ∧ w.heap[b]? = some (.cells cur 3 (0, 0)) ∧ n ≤ c ∧ c ≤ 9223372036854775807 ∧ cur.size = c ∧ ∀ (j : Nat) (u : Value), (zD st)[j]? = some u → cur[j]? = some u := by
 have hl := h.lt
 rcases h.2 with ⟨h0, hn⟩ | ⟨g, cap, cur, h0, hg, hh, h1, h2, h3, h4⟩
 ·injection h0 with e1 e2 e3
  exact .inl ⟨e1, hn, e3⟩
 ·injection h0 with e1 e2 e3
  subst e1 e3
  refine .inr ⟨g, cur, rfl, hg, (hl g rfl).2, hh, h1, by simp [maxLen] at h2; exact h2, by omega, fun j u hu => ?_⟩
  rw [← h4, List.getElem?_take] at hu
  split at hu
  ·simpa using hu
  ·cases hu
end
theorem iR {st : List Int} {i : Nat} (d : Int) (hi : i ≤ st.length) (j : Nat) : (st.take i ++ d :: st.drop i)[j]? = if j < i then st[j]? else if j = i then some d else st[j - 1]? := by
 have hl : (st.take i).length = i := by rw [List.length_take]; omega
 rcases Nat.lt_trichotomy j i with h | h | h
 ·rw [if_pos h, List.getElem?_append_left (by omega), List.getElem?_take, if_pos h]
 ·subst h; rw [if_neg (by omega), if_pos rfl, List.getElem?_append_right (by omega), hl, Nat.sub_self]; rfl
 ·rw [if_neg (by omega), if_neg (by omega), List.getElem?_append_right (by omega), hl, List.getElem?_cons, if_neg (by omega), List.getElem?_drop]
  congr 1; omega
def gA (w : World) (base n : Nat) (L : List Int) (e : Ending) (w' : World) : Prop := ∃ (A' : Option Addr) (c' : Nat), e = .returned (.slice A' (n + 1) c') ∧ Hid (Sl w' w'.heap.size 1 A' (n + 1) c' (zD L)) ∧ Hid (∀ b off, A' = some ⟨b, off, none⟩ → base ≤ b) ∧ Hid (Below base w w')
theorem sR {w' : World} {n c i b : Nat} {st : List Int} {d : Int} (hl : st.length = n) (hi : i ≤ n) (hc : n + 1 ≤ c) (hm : c ≤ 9223372036854775807) (hb : b < w'.heap.size)
 (h1 : ∀ j u, j < i → (zD st)[j]? = some u → w'.cell? ⟨b, j, none⟩ = some u) (h2 : w'.cell? ⟨b, i, none⟩ = some (.int .i64 d)) (h3 : ∀ j u, i < j → (zD st)[j - 1]? = some u → w'.cell? ⟨b, j, none⟩ = some u) :
 Sl w' w'.heap.size 1 (some ⟨b, 0, none⟩) (n + 1) c (zD (st.take i ++ d :: st.drop i)) := by
 refine ⟨by rw [wV]; simp; omega, hc, hm, (fun e => by cases e), fun _ => ⟨b, 0, rfl, hb, fun j u hu => ?_⟩⟩
 rw [Nat.zero_add]
 rw [vi, iR d (by omega)] at hu
 rcases Nat.lt_trichotomy j i with h | h | h
 ·rw [if_pos h] at hu; exact h1 j u h (by rw [vi]; exact hu)
 ·subst h; rw [if_neg (by omega), if_pos rfl] at hu; cases hu; exact h2
 ·rw [if_neg (by omega), if_neg (by omega)] at hu; exact h3 j u h (by rw [vi]; exact hu)
theorem iS (A : Option Addr) (n c i base vb : Nat) (st : List Int) (d : Int) (w : World) (h : zO w base A n c st) (hv : Blk w vb 3 #[.int .i64 d]) (hvb : base ≤ w.heap.size) (hne : ∀ b, A = some ⟨b, 0, none⟩ → b ≠ vb) (hi : i ≤ n) (hn : n ≤ 1000000) :
 Calls Tryz.prog 129 #[.slice A n c, .int .i64 (i : Int), .slice (some ⟨vb, 0, none⟩) 1 1] w (gA w base n (st.take i ++ d :: st.drop i)) := by
 have hln := h.len
 have hvs : ∀ j v, [Value.int .i64 d][j]? = some v → w.cell? ⟨vb, 0 + j, none⟩ = some v := fun j v e => by
  rcases j with _ | j
  ·exact (hv.cell 0).trans e
  ·cases e
 have h1v : ∀ v ∈ [Value.int .i64 d], v.oneCell' = true := fun v hv => by rw [List.mem_singleton.1 hv]; rfl
 have hcl : (zD st).length = n := by rw [wV, hln]
 rcases iK h with ⟨rfl, rfl, rfl⟩ | ⟨b, cur, rfl, hbb, hbl, hh, hnc, hcm, hcs, hcur⟩
 ·obtain rfl : i = 0 := by omega
  obtain rfl : st = [] := List.eq_nil_of_length_eq_zero hln
  refine (Any2.slices_Insert_int_end_grow Tryz.laysNm221 none 0 0 vb 0 1 1 [] [.int .i64 d] w (by decide) lR (by decide) (by decide) rfl rfl (fun _ => rfl) (fun a e => by cases e) hvs h1v).mono ?_
  rintro e w' hw
  simp only [et3] at hw
  obtain ⟨rfl, rfl⟩ := hw
  refine ⟨_, _, rfl, ?_, (fun b off e => by cases e; exact hvb), ((Below.refl _ _).drew).alloc (by simp; omega) _⟩
  refine sR rfl lR (grownCap_ge ..) ?_ (by simp) (fun j u hj => by omega) ?_ (fun j u _ hu => by cases hu)
  ·have := grownCap_le_maxLen w (0 + 1) 0 3 (by decide); simpa [maxLen] using this
  ·have := (Blk.new w.drew 3 ((([] ++ [Value.int .i64 d] : List Value)).toArray ++ Builtin.zeroCells (Value.int .i64 0).cells (grownCap w (0 + 1) 0 3 - (0 + 1)))).cell 0
   refine this.trans ?_
   rw [Array.getElem?_append_left (by simp)]
   rfl
 ·have hcell : ∀ j u, (zD st)[j]? = some u → w.cell? ⟨b, j, none⟩ = some u := fun j u hu => (cell_of_row w b j cur _ _ hh).trans (hcur j u hu)
  have hsome : ∀ j, j < c → (w.cell? ⟨b, j, none⟩).isSome = true := fun j hj => by
   rw [cell_of_row w b j cur _ _ hh, Array.getElem?_eq_getElem (by omega)]; rfl
  have hfz : ∀ j, w.frozen? ⟨b, j, none⟩ = false := fun j => by simp [World.frozen?, hh]
  have hbv : vb ≠ b := fun e => hne b rfl e.symm
  rcases Nat.lt_or_ge c (n + 1) with hr | hr
  ·obtain rfl : c = n := by omega
   rcases Nat.lt_or_ge i c with hic | hic
   ·refine (Any2.slices_Insert_int_grow Tryz.laysNm221 b 0 c c i vb 0 1 1 (zD st) [.int .i64 d] w hic (by decide) lR hr (by omega) hcl rfl (fun j v e => by rw [Nat.zero_add]; exact hcell j v e) hvs (vS _) h1v).mono ?_
    rintro e w' hw
    simp only [et3] at hw
    obtain ⟨rfl, rfl⟩ := hw
    refine ⟨_, _, rfl, ?_, (fun b off e => by cases e; exact hvb), ?_⟩
    ·obtain ⟨Z, hZ⟩ : ∃ Z : Array Value, Z = ((zD st).take i).toArray ++ Builtin.zeroCells (Value.int .i64 0).cells (c + 1 - i) ++ Builtin.zeroCells (Value.int .i64 0).cells (grownCap w (c + 1) c 3 - (c + 1)) := ⟨_, rfl⟩
     have hB0 : Blk (w.alloc (.cells Z 3)).drew w.heap.size 3 Z := Blk.new w 3 Z
     have hlz : ((zD st).take i).length = i := by rw [List.length_take, hcl]; omega
     have hZs : c + 1 ≤ Z.size := by rw [hZ]; simp [Builtin.zeroCells, Value.cells]; omega
     have hS : ∀ j, j < c + 1 → ((w.alloc (.cells Z 3)).drew.cell? ⟨w.heap.size, j, none⟩).isSome = true := fun j hj => by rw [hB0.cell j, Array.getElem?_eq_getElem (by omega)]; rfl
     have hd : ((zD st).drop i).length = c - i := by rw [List.length_drop, hcl]
     rw [← hZ]
     refine sR hln hi (grownCap_ge ..) ?_ ?_ (fun j u hj hu => ?_) ?_ (fun j u hj hu => ?_)
     ·have := grownCap_le_maxLen w (c + 1) c 3 (by simp [maxLen]; omega); simpa [maxLen] using this
     ·have := (below_setCells_w (B := 0) (g := w.heap.size) (Nat.zero_le _) ((zD st).drop i) (i + 1) ((w.alloc (.cells Z 3)).drew.setCells w.heap.size i [.int .i64 d]).drew).size
      have h2 := (below_setCells_w (B := 0) (g := w.heap.size) (Nat.zero_le _) [.int .i64 d] i (w.alloc (.cells Z 3)).drew).size
      have h3 : (w.alloc (.cells Z 3)).drew.heap.size = w.heap.size + 1 := by simp
      have h4 : ((w.alloc (.cells Z 3)).drew.setCells w.heap.size i [.int .i64 d]).drew.heap.size = ((w.alloc (.cells Z 3)).drew.setCells w.heap.size i [.int .i64 d]).heap.size := rfl
      omega
     ·rw [World.cell?_setCells_out _ _ _ _ _ (fun _ _ => .inl (by simp; omega))]
      show (World.setCells _ _ _ _).cell? _ = _
      rw [World.cell?_setCells_out _ _ _ _ _ (fun _ _ => .inl (by simp; omega)), hB0.cell j, hZ, Array.getElem?_append_left (by simp [Builtin.zeroCells]; omega), Array.getElem?_append_left (by simp; omega)]
      simp only [List.getElem?_toArray]
      rw [List.getElem?_take, if_pos hj]; exact hu
     ·rw [World.cell?_setCells_out _ _ _ _ _ (fun _ _ => .inl (by simp))]
      exact World.cell?_setCells_in w.heap.size [.int .i64 d] i (w.alloc (.cells Z 3)).drew (fun j hj => hS _ (by simp at hj; omega)) 0 (by simp)
     ·have hj1 : j - 1 < c := by rw [← hcl]; exact (List.getElem?_eq_some_iff.1 hu).1
      have := World.cell?_setCells_in w.heap.size ((zD st).drop i) (i + 1) ((w.alloc (.cells Z 3)).drew.setCells w.heap.size i [.int .i64 d]).drew (fun k hk => by
       show ((World.setCells _ _ _ _).cell? _).isSome = true
       rw [World.cell?_setCells_out _ _ _ _ _ (fun _ _ => .inr (by simp))]
       exact hS _ (by rw [hd] at hk; omega)) (j - (i + 1)) (by rw [hd]; omega)
      rw [show i + 1 + (j - (i + 1)) = j by omega] at this
      rw [this, List.getElem_drop, ← hu, List.getElem?_eq_getElem (by rw [hcl]; omega)]
      simp only [Option.some.injEq]
      congr 1; omega
    ·exact (((Below.refl _ _).alloc hvb _).drew.trans (below_setCells_w hvb _ _ _)).drew.trans (below_setCells_w hvb _ _ _)
   ·obtain rfl : i = c := by omega
    refine (Any2.slices_Insert_int_end_grow Tryz.laysNm221 (some ⟨b, 0, none⟩) i i vb 0 1 1 (zD st) [.int .i64 d] w (by decide) lR hr (by omega) hcl rfl (fun e => by cases e) (fun a e j v hj => by cases e; rw [xC]; rw [Nat.zero_add]; exact hcell j v hj) hvs h1v).mono ?_
    rintro e w' hw
    simp only [et3] at hw
    obtain ⟨rfl, rfl⟩ := hw
    refine ⟨_, _, rfl, ?_, (fun b off e => by cases e; exact hvb), ((Below.refl _ _).drew).alloc (by simp; omega) _⟩
    have hB0 := Blk.new w.drew 3 ((zD st ++ [Value.int .i64 d]).toArray ++ Builtin.zeroCells (Value.int .i64 0).cells (grownCap w (i + 1) i 3 - (i + 1)))
    refine sR hln hi (grownCap_ge ..) ?_ (by simp) (fun j u hj hu => ?_) ?_ (fun j u hj hu => ?_)
    ·have := grownCap_le_maxLen w (i + 1) i 3 (by simp [maxLen]; omega); simpa [maxLen] using this
    ·refine (hB0.cell j).trans ?_
     rw [Array.getElem?_append_left (by simp [hcl]; omega), List.getElem?_toArray, List.getElem?_append_left (by omega)]
     exact hu
    ·refine (hB0.cell i).trans ?_
     rw [Array.getElem?_append_left (by simp [hcl]), List.getElem?_toArray, List.getElem?_append_right (by omega), hcl, Nat.sub_self]
     rfl
    ·have := (List.getElem?_eq_some_iff.1 hu).1
     omega
  ·rcases Nat.lt_or_ge i n with hic | hic
   ·refine (Any2.slices_Insert_int_shift Tryz.laysNm221 b 0 n c i vb 0 1 1 (zD st) [.int .i64 d] w hic (by decide) hr hcm hbv hcl rfl (fun j v e => by rw [Nat.zero_add]; exact hcell j v e) (fun j hj => by rw [Nat.zero_add]; exact hsome j (by omega)) (fun j _ => by rw [Nat.zero_add]; exact hfz j) hvs (vS _) h1v 3 3 1 c (by unfold World.shape?; rw [show w.heap[vb]? = _ from hv]; rfl) (by unfold World.shape?; rw [hh]; simp [hcs]) (by omega) (hv.frozen 0) (hv.frozen 1)).mono ?_
    rintro e w' ⟨rfl, rfl⟩
    have hd : ((zD st).drop i).length = n - i := by rw [List.length_drop, hcl]
    refine ⟨_, _, rfl, ?_, (fun b off e => by cases e; exact hbb), ((Below.refl _ _).drew.trans (below_setCells_w hbb _ _ _)).trans (below_setCells_w hbb _ _ _)⟩
    refine sR hln hi hr hcm ?_ (fun j u hj hu => ?_) ?_ (fun j u hj hu => ?_)
    ·have h1 := (below_setCells_w (B := 0) (g := b) (Nat.zero_le _) ((zD st).drop i) (0 + (i + 1)) w.drew).size
     have h2 := (below_setCells_w (B := 0) (g := b) (Nat.zero_le _) [.int .i64 d] (0 + i) (w.drew.setCells b (0 + (i + 1)) ((zD st).drop i))).size
     have h3 : w.drew.heap.size = w.heap.size := rfl
     omega
    ·rw [World.cell?_setCells_out _ _ _ _ _ (fun _ _ => .inl (by simp; omega)), World.cell?_setCells_out _ _ _ _ _ (fun _ _ => .inl (by simp; omega))]
     exact hcell j u hu
    ·have := World.cell?_setCells_in b [.int .i64 d] (0 + i) (w.drew.setCells b (0 + (i + 1)) ((zD st).drop i)) (fun j hj => by
      rw [World.cell?_setCells_out _ _ _ _ _ (fun _ _ => .inl (by simp at hj ⊢; omega))]
      rw [Nat.zero_add]
      exact hsome (i + j) (by simp at hj; omega)) 0 (by simp)
     simp only [Nat.zero_add, Nat.add_zero] at this ⊢
     exact this
    ·have hj1 : j - 1 < n := by rw [← hcl]; exact (List.getElem?_eq_some_iff.1 hu).1
     rw [World.cell?_setCells_out _ _ _ _ _ (fun _ _ => .inr (by simp; omega))]
     have := World.cell?_setCells_in b ((zD st).drop i) (0 + (i + 1)) w.drew (fun k hk => by rw [hd] at hk; rw [Nat.zero_add]; exact hsome (i + 1 + k) (by omega)) (j - (i + 1)) (by rw [hd]; omega)
     rw [show 0 + (i + 1) + (j - (i + 1)) = j by omega] at this
     rw [this, List.getElem_drop, ← hu, List.getElem?_eq_getElem (by rw [hcl]; omega)]
     simp only [Option.some.injEq]
     congr 1; omega
   ·obtain rfl : i = n := by omega
    refine (Any2.slices_Insert_int_end_room Tryz.laysNm221 b 0 i c vb 0 1 1 [.int .i64 d] w (by decide) hr hcm rfl (fun j hj => by rw [Nat.zero_add]; exact hsome (i + j) (by omega)) (fun j _ => by rw [Nat.zero_add]; exact hfz (i + j)) hvs h1v).mono ?_
    rintro e w' ⟨rfl, rfl⟩
    refine ⟨_, _, rfl, ?_, (fun b off e => by cases e; exact hbb), below_setCells_w hbb _ _ _⟩
    refine sR hln hi hr hcm ?_ (fun j u hj hu => ?_) ?_ (fun j u hj hu => ?_)
    ·have h1 := (below_setCells_w (B := 0) (g := b) (Nat.zero_le _) [.int .i64 d] (0 + i) w).size
     omega
    ·rw [World.cell?_setCells_out _ _ _ _ _ (fun _ _ => .inl (by simp; omega))]
     exact hcell j u hu
    ·have := World.cell?_setCells_in b [.int .i64 d] (0 + i) w (fun j hj => by rw [Nat.zero_add]; exact hsome (i + j) (by simp at hj; omega)) 0 (by simp)
     simp only [Nat.zero_add, Nat.add_zero] at this ⊢
     exact this
    ·have := (List.getElem?_eq_some_iff.1 hu).1
     omega
end
section
open Go.RowKit
theorem mS (v : Int) : ∀ {l : List Int}, l.Pairwise (· < ·) → l.take (l.countP (fun x => decide (x < v))) = l.takeWhile (fun x => decide (x < v)) ∧ l.drop (l.countP (fun x => decide (x < v))) = l.dropWhile (fun x => decide (x < v))
 | [], _ => by simp
 | x :: l, h => by
  obtain ⟨h1, h2⟩ := List.pairwise_cons.mp h
  by_cases hx : x < v
  ·obtain ⟨e1, e2⟩ := mS v h2
   rw [List.countP_cons_of_pos (by simpa using hx), List.takeWhile_cons_of_pos (by simpa using hx), List.dropWhile_cons_of_pos (by simpa using hx), List.take_succ_cons, List.drop_succ_cons, e1, e2]
   exact ⟨rfl, rfl⟩
  ·have h0 : (x :: l).countP (fun x => decide (x < v)) = 0 := by
    rw [List.countP_eq_zero]
    intro y hy
    rcases List.mem_cons.mp hy with rfl | hy
    ·simpa using hx
    ·have := h1 y hy; simp; omega
   rw [h0, List.takeWhile_cons_of_neg (by simpa using hx), List.dropWhile_cons_of_neg (by simpa using hx)]
   simp
structure Bpv (w : World) (gr : Array Value) (wr : World) : Prop where
 b0 : Blk wr w.heap.size 37 gr
 b1 : Blk wr (w.heap.size + 1) 37 #[.int .i64 0, .slice none 0 0, .slice none 0 0]
 bl : Below w.heap.size w wr
theorem Bpv.new (w : World) (gr : Array Value) : Bpv w gr ((w.alloc (.cells gr 37)).alloc (.cells #[.int .i64 0, .slice none 0 0, .slice none 0 0] 37)) :=
 ⟨(Blk.new w _ _).alloc _, by have := Blk.new (w.alloc (.cells gr 37)) 37 #[.int .i64 0, .slice none 0 0, .slice none 0 0]; simpa using this, ((Below.refl _ _).alloc lR _).alloc (by simp) _⟩
theorem Bpv.later {w wr wr' : World} {gr : Array Value} (h : Bpv w gr wr) (hb : Below wr.heap.size wr wr') : Bpv w gr wr' := ⟨h.b0.below hb h.b0.lt, h.b1.below hb h.b1.lt, h.bl.trans (hb.mono h.bl.size)⟩
theorem Bpv.cut {w wr : World} {x y z u : Value} (h : Bpv w #[x, y, z] wr) : Bpv w #[x, y, u] (wr.setCell ⟨w.heap.size, 2, none⟩ u) := ⟨h.b0.set 2 _, h.b1.far (by simp) _, h.bl.setCell (by simp) _⟩
theorem Bpv.fin {w wr : World} {x y z : Value} (h : Bpv w #[x, y, z] wr) : Blk (((wr.setCell ⟨w.heap.size + 1, 0, none⟩ x).setCell ⟨w.heap.size + 1, 1, none⟩ y).setCell ⟨w.heap.size + 1, 2, none⟩ z) (w.heap.size + 1) 37 #[x, y, z] ∧ Below w.heap.size w (((wr.setCell ⟨w.heap.size + 1, 0, none⟩ x).setCell ⟨w.heap.size + 1, 1, none⟩ y).setCell ⟨w.heap.size + 1, 2, none⟩ z) :=
 ⟨((h.b1.set 0 _).set 1 _).set 2 _, ((h.bl.setCell (by simp) _).setCell (by simp) _).setCell (by simp) _⟩
theorem Sl.ne {w : World} {B size n c x i : Nat} {A : Option Addr} {xs : List Value} {u : Value} (h : Sl w B size A n c xs) (hx : ∀ b off, A = some ⟨b, off, none⟩ → b ≠ x) : Sl (w.setCell ⟨x, i, none⟩ u) B size A n c xs :=
 ⟨h.1, h.2.1, h.2.2.1, h.2.2.2.1, fun hn => by
  obtain ⟨b, off, rfl, hb, hc⟩ := h.2.2.2.2 hn
  refine ⟨b, off, rfl, hb, fun j v hv => ?_⟩
  exact (World.cell?_setCell_far w ⟨x, i, none⟩ ⟨b, off + j, none⟩ u (fun e => hx b off rfl e.symm)).trans (hc j v hv)⟩
theorem sH (Al Ap : Option Addr) (nl cl np cp : Nat) (co v : Int) (pr : List Int) (w : World) (hp : Sl w w.heap.size 1 Ap np cp (zD pr)) (hnp : np ≤ 1000) (ho : pr.Pairwise (· < ·)) :
 Calls Tryz.prog 103 #[.agg #[.int .i64 co, .slice Al nl cl, .slice Ap np cp], .int .i64 v] w fun e w' => ∃ (A : Option Addr) (n c : Nat), e = .returned (.agg #[.int .i64 co, .slice Al nl cl, .slice A n c]) ∧ Hid (Sl w' w'.heap.size 1 A n c (zD (yr pr v))) ∧ Hid (A = Ap ∧ n = np ∧ c = cp ∧ yr pr v = pr ∨ ∀ b off, A = some ⟨b, off, none⟩ → w.heap.size ≤ b) ∧ Hid (Below w.heap.size w w') := by
 have HB := iD (Bpv.new w #[.int .i64 co, .slice Al nl cl, .slice Ap np cp])
 have HP := iD hp
 have HLP : Hid (pr.length = np) := hp.len (fun _ => rfl) (by decide)
 have HO := iD ho
 have HCT := iD (mS v ho)
 clear hp ho
 go_enter Tryz.func103, Tryz.ntmps103
 go_upto_region 1 with (fail)
 generalize World.alloc (World.alloc w _) _ = W at *
 have HBS := iD (oE Ap np cp w.heap.size pr v W (HP.out.below HB.out.bl lR) (by omega) HO.out)
 have g2 := HB.out.b0.c2
 go_wp2_with fail
 clear g2
 refine HBS.out.mono ?_
 rintro e w1 ⟨rfl, q, hw⟩
 have HB1 : Hid (Bpv w #[.int .i64 co, .slice Al nl cl, .slice Ap np cp] w1) := by unfold Hid; rw [hw]; exact HB.out.later (tW bR q)
 clear hw HB HBS
 by_cases hm : v ∈ pr
 ·have HV : Hid (yr pr v = pr) := by unfold Hid yr; rw [if_pos hm]
  have q1 : decide (v ∈ pr) = true := by simpa using hm
  clear hm
  have g0 := HB1.out.b0.c0
  have g1 := HB1.out.b0.c1
  have g2 := HB1.out.b0.c2
  have d0 := HB1.out.b1.cell 0
  have d1 := HB1.out.b1.cell 1
  have d2 := HB1.out.b1.cell 2
  have y0 := HB1.out.b1.frozen 0
  have y1 := HB1.out.b1.frozen 1
  have y2 := HB1.out.b1.frozen 2
  have HE := iD (HB1.out.fin)
  have HSE : Hid (Sl (((w1.setCell ⟨w.heap.size + 1, 0, none⟩ (.int .i64 co)).setCell ⟨w.heap.size + 1, 1, none⟩ (.slice Al nl cl)).setCell ⟨w.heap.size + 1, 2, none⟩ (.slice Ap np cp)) (w.heap.size) 1 Ap np cp (zD (yr pr v))) := by unfold Hid; rw [HV.out]; exact (((HP.out.below HB1.out.bl lR).setCell (by simp) _).setCell (by simp) _).setCell (by simp) _
  go_wp2_with fail
  have hz : w.heap.size ≤ (((w1.setCell ⟨w.heap.size + 1, 0, none⟩ (.int .i64 co)).setCell ⟨w.heap.size + 1, 1, none⟩ (.slice Al nl cl)).setCell ⟨w.heap.size + 1, 2, none⟩ (.slice Ap np cp)).heap.size := by simp [World.setCell]; have := HB1.out.bl.size; omega
  generalize World.setCell (World.setCell (World.setCell w1 _ _) _ _) _ _ = z at *
  have q0 := HE.out.1.c0
  have q1 := HE.out.1.c1
  have q2 := HE.out.1.c2
  exact bodyPost_ret (v := .agg #[.int .i64 co, .slice Al nl cl, .slice Ap np cp]) (by simp [results, Tryz.results103, go_sem, q0, q1, q2]) rfl ⟨_, _, _, rfl, HSE.out.more hz, .inl ⟨rfl, rfl, rfl, HV.out⟩, HE.out.2⟩
 have HV : Hid (yr pr v = pr.take (pr.countP (fun x => decide (x < v))) ++ v :: pr.drop (pr.countP (fun x => decide (x < v)))) := by unfold Hid yr; rw [if_neg hm, HCT.out.1, HCT.out.2]
 have q1 : decide (v ∈ pr) = false := by simpa using hm
 have hi : pr.countP (fun x => decide (x < v)) ≤ np := by have := List.countP_le_length (p := fun x => decide (x < v)) (l := pr); have := HLP.out; omega
 clear hm HCT
 obtain ⟨i, hie⟩ : ∃ i, i = pr.countP (fun x => decide (x < v)) := ⟨_, rfl⟩
 rw [← hie] at HV hi ⊢
 clear hie
 have g2 := HB1.out.b0.c2
 go_wp2_with fail
 clear g2 q1
 refine (yQ Ap np cp w1.heap.size pr w1 ((HP.out.below HB1.out.bl lR).more HB1.out.bl.size) lR (by omega)).mono ?_
 rintro e w2 ⟨A2, c2, rfl, hO2, hb2⟩
 rw [HLP.out] at hO2 ⊢
 have HB2 := iD (HB1.out.later hb2.out)
 have HO2 := iD hO2.out
 have hlt1 : w.heap.size + 1 < w1.heap.size := HB1.out.b1.lt
 have HZ2 : Hid (w1.heap.size ≤ w2.heap.size) := hb2.out.size
 clear hO2 hb2 HB1
 have HVB := iD (Blk.new w2 3 #[.int .i64 v])
 have HO3 := iD (HO2.out.later ((Below.refl _ w2).alloc lR (.cells #[.int .i64 v] 3)))
 have HB3 := iD (HB2.out.later ((Below.refl _ w2).alloc lR (.cells #[.int .i64 v] 3)))
 have HNE : Hid (∀ b, A2 = some ⟨b, 0, none⟩ → b ≠ w2.heap.size) := fun b e => by have := (HO2.out.lt b (by rw [e]; rfl)).2; omega
 have HIN := iD (iS A2 np c2 i w1.heap.size w2.heap.size pr v (w2.alloc (.cells #[.int .i64 v] 3)) HO3.out HVB.out (by have := HZ2.out; simp; omega) HNE.out hi (by omega))
 go_wp2_with fail
 refine HIN.out.mono ?_
 rintro e w4 ⟨A4, c4, rfl, hS4, hA4, hb4⟩
 have HB4 : Hid (Bpv w #[.int .i64 co, .slice Al nl cl, .slice Ap np cp] w4) := ⟨HB3.out.b0.below hb4.out (by omega), HB3.out.b1.below hb4.out (by omega), HB3.out.bl.trans (hb4.out.mono (by omega))⟩
 have HS4 := iD hS4.out
 have HA4 := iD hA4.out
 clear hS4 hA4 hb4 HIN HNE HB3 HO3 HVB HO2 HB2 HZ2
 have y2 := HB4.out.b0.frozen 2
 have g2 := HB4.out.b0.cell 2
 have HBX := iD (HB4.out.cut (u := .slice A4 (np + 1) c4))
 have HSX := iD (HS4.out.ne (x := w.heap.size) (i := 2) (u := .slice A4 (np + 1) c4) (fun b off e => by have := HA4.out b off e; omega))
 go_upto_region 4 with (fail)
 clear y2 g2
 have HWH : Hid (∀ b off, A4 = some ⟨b, off, none⟩ → w.heap.size ≤ b) := fun b off e => by have := HA4.out b off e; omega
 have HA4' : Hid (∀ b off, A4 = some ⟨b, off, none⟩ → b ≠ w.heap.size + 1) := fun b off e => by have := HA4.out b off e; omega
 have hzx : (w4.setCell ⟨w.heap.size, 2, none⟩ (.slice A4 (np + 1) c4)).heap.size = w4.heap.size := by simp [World.setCell]
 rw [← hzx] at HSX
 generalize World.setCell w4 _ _ = X at *
 have g0 := HBX.out.b0.c0
 have g1 := HBX.out.b0.c1
 have g2 := HBX.out.b0.c2
 have d0 := HBX.out.b1.cell 0
 have d1 := HBX.out.b1.cell 1
 have d2 := HBX.out.b1.cell 2
 have y0 := HBX.out.b1.frozen 0
 have y1 := HBX.out.b1.frozen 1
 have y2 := HBX.out.b1.frozen 2
 have HE := iD (HBX.out.fin)
 have HSE : Hid (Sl (((X.setCell ⟨w.heap.size + 1, 0, none⟩ (.int .i64 co)).setCell ⟨w.heap.size + 1, 1, none⟩ (.slice Al nl cl)).setCell ⟨w.heap.size + 1, 2, none⟩ (.slice A4 (np + 1) c4)) (X.heap.size) 1 A4 (np + 1) c4 (zD (yr pr v))) := by unfold Hid; rw [HV.out]; exact ((HSX.out.ne HA4'.out).ne HA4'.out).ne HA4'.out
 go_wp2_with fail
 have hz : X.heap.size ≤ (((X.setCell ⟨w.heap.size + 1, 0, none⟩ (.int .i64 co)).setCell ⟨w.heap.size + 1, 1, none⟩ (.slice Al nl cl)).setCell ⟨w.heap.size + 1, 2, none⟩ (.slice A4 (np + 1) c4)).heap.size := by simp [World.setCell]
 generalize World.setCell (World.setCell (World.setCell X _ _) _ _) _ _ = z at *
 have q0 := HE.out.1.c0
 have q1 := HE.out.1.c1
 have q2 := HE.out.1.c2
 exact bodyPost_ret (v := .agg #[.int .i64 co, .slice Al nl cl, .slice A4 (np + 1) c4]) (by simp [results, Tryz.results103, go_sem, q0, q1, q2]) rfl ⟨_, _, _, rfl, HSE.out.more hz, .inr HWH.out, HE.out.2⟩
structure Bst (w : World) (nt gr st : Array Value) (wr : World) : Prop where
 b0 : Blk wr w.heap.size 30 nt
 b1 : Blk wr (w.heap.size + 1) 37 gr
 b2 : Blk wr (w.heap.size + 2) 43 st
 b3 : Blk wr (w.heap.size + 3) 37 #[.int .i64 0, .slice none 0 0, .slice none 0 0]
 bl : Below w.heap.size w wr
theorem Bst.new (w : World) (nt gr st : Array Value) : Bst w nt gr st ((((w.alloc (.cells nt 30)).alloc (.cells gr 37)).alloc (.cells st 43)).alloc (.cells #[.int .i64 0, .slice none 0 0, .slice none 0 0] 37)) := by
 obtain ⟨h0, h1, h2, h3, h4⟩ := gg w 30 37 43 37 nt gr st #[.int .i64 0, .slice none 0 0, .slice none 0 0]
 exact ⟨h0, h1, h2, h3, h4⟩
theorem Bst.later {w wr wr' : World} {nt gr st : Array Value} (h : Bst w nt gr st wr) (hb : Below wr.heap.size wr wr') : Bst w nt gr st wr' := ⟨h.b0.below hb h.b0.lt, h.b1.below hb h.b1.lt, h.b2.below hb h.b2.lt, h.b3.below hb h.b3.lt, h.bl.trans (hb.mono h.bl.size)⟩
theorem Bst.fin {w wr : World} {nt gr st : Array Value} {x y z : Value} (h : Bst w nt gr st wr) : Blk (((wr.setCell ⟨w.heap.size + 3, 0, none⟩ x).setCell ⟨w.heap.size + 3, 1, none⟩ y).setCell ⟨w.heap.size + 3, 2, none⟩ z) (w.heap.size + 3) 37 #[x, y, z] ∧ Below w.heap.size w (((wr.setCell ⟨w.heap.size + 3, 0, none⟩ x).setCell ⟨w.heap.size + 3, 1, none⟩ y).setCell ⟨w.heap.size + 3, 2, none⟩ z) :=
 ⟨((h.b3.set 0 _).set 1 _).set 2 _, ((h.bl.setCell (by simp) _).setCell (by simp) _).setCell (by simp) _⟩
theorem Bst.cut {w wr : World} {nt st : Array Value} {x y z u : Value} (h : Bst w nt #[x, y, z] st wr) : Bst w nt #[x, u, z] st (wr.setCell ⟨w.heap.size + 1, 1, none⟩ u) :=
 ⟨h.b0.far (by simp) _, h.b1.set 1 _, h.b2.far (by simp) _, h.b3.far (by simp) _, h.bl.setCell (by simp) _⟩
theorem sl3 {w : World} {size n c x : Nat} {A : Option Addr} {xs : List Value} {a b d : Value} (h : Sl w w.heap.size size A n c xs) (hx : ∀ b off, A = some ⟨b, off, none⟩ → b ≠ x) : Sl (((w.setCell ⟨x, 0, none⟩ a).setCell ⟨x, 1, none⟩ b).setCell ⟨x, 2, none⟩ d) (((w.setCell ⟨x, 0, none⟩ a).setCell ⟨x, 1, none⟩ b).setCell ⟨x, 2, none⟩ d).heap.size size A n c xs :=
 (((h.ne hx).ne hx).ne hx).more (by simp [World.setCell])
def zX (ns : List Nd) (ds : List Dv) (ls : List Lk) (x : Sp) : List Lk × Bool :=
 if x.kind = 3 then (if zw ns ds ls ⟨x.dev, x.pos, x.key⟩ ≠ 0 then (ls, false) else (wP ⟨x.dev, x.pos, x.key⟩ ls, true))
 else match wQ x.dev x.key ls with
  | none => (ls, false)
  | some i => (ls.eraseIdx i, true)
def hY (w : World) (co : Int) (Al Ap : Option Addr) (nl cl np cp : Nat) (ns : List Nd) (ds : List Dv) (ls : List Lk) (x : Sp) (e : Ending) (w' : World) : Prop :=
 ∃ (A : Option Addr) (n c : Nat), e = .returned (.tuple #[.agg #[.int .i64 co, .slice A n c, .slice Ap np cp], .bool (zX ns ds ls x).2]) ∧ Hid (Sl w' w'.heap.size 3 A n c ((zX ns ds ls x).1.flatMap Lk.cells)) ∧ Hid (A = Al ∧ n = nl ∧ c = cl ∧ (zX ns ds ls x).1 = ls ∨ ∀ b off, A = some ⟨b, off, none⟩ → w.heap.size ≤ b) ∧ Hid (Below w.heap.size w w')
theorem sw.any {w : World} {ns : List Nd} {ds : List Dv} {ls : List Lk} {d q : Int} {e : Ending} {w' : World} (h : sw w ns ds ls d q e w') : ∃ (A : Option Addr) (n c : Nat) (er : Int), e = .returned (.tuple #[.slice A n c, .int .i64 er]) ∧ Hid (Below w.heap.size w w') := by
 obtain ⟨⟨-, rfl⟩ | ⟨-, -, rfl⟩ | ⟨-, i, A, c, -, rfl, -⟩, hb⟩ := h
 ·exact ⟨_, _, _, _, rfl, hb⟩
 ·exact ⟨_, _, _, _, rfl, hb⟩
 ·exact ⟨_, _, _, _, rfl, hb⟩
theorem wG (An Ad Al Ap : Option Addr) (nn cn nd cd nl cl np cp : Nat) (ns : List Nd) (ds : List Dv) (ls : List Lk) (co k d no p q : Int) (w : World) (hla : Laid w) (hn : Sl w w.heap.size 3 An nn cn (ns.flatMap Nd.cells)) (hd : Sl w w.heap.size 5 Ad nd cd (ds.flatMap Dv.cells)) (hl : Sl w w.heap.size 3 Al nl cl (ls.flatMap Lk.cells)) (hsn : ∀ x ∈ ns, x.name.size ≤ 9223372036854775807) (hsd : ∀ x ∈ ds, x.name.size ≤ 9223372036854775807) (hk : k = 3 ∨ k = 4) (h0 : zK ns ds ls = 0) :
 Calls Tryz.prog 104 #[.agg #[.slice An nn cn, .slice Ad nd cd], .agg #[.int .i64 co, .slice Al nl cl, .slice Ap np cp], .agg #[.int .i64 k, .int .i64 d, .int .i64 no, .int .i64 p, .int .i64 q]] w (hY w co Al Ap nl cl np cp ns ds ls ⟨k, d, no, p, q⟩) := by
 have HB := iD (Bst.new w #[.slice An nn cn, .slice Ad nd cd] #[.int .i64 co, .slice Al nl cl, .slice Ap np cp] #[.int .i64 k, .int .i64 d, .int .i64 no, .int .i64 p, .int .i64 q])
 have HNl := iD hn; have HDl := iD hd; have HLl := iD hl; have HLa := iD hla; have HSN := iD hsn; have HSD := iD hsd; have HZ := iD h0
 obtain rfl : ls.length = nl := hl.len (fun _ => rfl) (by decide)
 clear hn hd hl hla hsn hsd h0
 go_enter Tryz.func104, Tryz.ntmps104
 go_upto_region 1 with (fail)
 generalize World.alloc (World.alloc (World.alloc (World.alloc w _) _) _) _ = W at *
 rw [show w.heap.size + 1 + 1 = w.heap.size + 2 from rfl, show w.heap.size + 2 + 1 = w.heap.size + 3 from rfl]
 have HRM := iD (pV An Ad Al nn cn nd cd cl w.heap.size w.heap.size w.heap.size ns ds ls d q W (HLa.out.below HB.out.bl lR) (HNl.out.below HB.out.bl lR) (HDl.out.below HB.out.bl lR) (HLl.out.below HB.out.bl lR) HB.out.bl.size HB.out.bl.size HB.out.bl.size HSN.out HSD.out)
 have k0 := HB.out.b0.c0
 have k1 := HB.out.b0.c1
 have g0 := HB.out.b1.c0
 have g1 := HB.out.b1.c1
 have g2 := HB.out.b1.c2
 have s0 := HB.out.b2.c0
 have s1 := HB.out.b2.c1
 have s3 := HB.out.b2.c3
 have s4 := HB.out.b2.c4
 go_wp2_with fail
 clear k0 k1 g0 g1 g2 s0 s1 s3 s4
 refine HRM.out.mono ?_
 have HWL : Hid (w.heap.size + 3 < W.heap.size) := HB.out.b3.lt
 rcases hk with rfl | rfl; rotate_left
 ·rintro e w1 ⟨⟨h1, -⟩ | ⟨-, hi, rfl⟩ | ⟨-, i, A, c, hi, rfl, hO⟩, hb⟩
  ·exact absurd HZ.out h1
  ·have HT : Hid (zX ns ds ls ⟨4, d, no, p, q⟩ = (ls, false)) := by unfold Hid zX; rw [if_neg (show ¬ (4 : Int) = 3 by decide)]; simp only [hi]
   have HB1 := iD (HB.out.later hb.out)
   clear hi hb HRM
   have g0 := HB1.out.b1.c0
   have g1 := HB1.out.b1.c1
   have g2 := HB1.out.b1.c2
   have s0 := HB1.out.b2.c0
   have d0 := HB1.out.b3.cell 0
   have d1 := HB1.out.b3.cell 1
   have d2 := HB1.out.b3.cell 2
   have y0 := HB1.out.b3.frozen 0
   have y1 := HB1.out.b3.frozen 1
   have y2 := HB1.out.b3.frozen 2
   have HE := iD (HB1.out.fin (x := .int .i64 co) (y := .slice Al ls.length cl) (z := .slice Ap np cp))
   have HSE : Hid (Sl (((w1.setCell ⟨w.heap.size + 3, 0, none⟩ (.int .i64 co)).setCell ⟨w.heap.size + 3, 1, none⟩ (.slice Al ls.length cl)).setCell ⟨w.heap.size + 3, 2, none⟩ (.slice Ap np cp)) w.heap.size 3 Al ls.length cl (ls.flatMap Lk.cells)) := (((HLl.out.below HB1.out.bl lR).setCell (by simp) _).setCell (by simp) _).setCell (by simp) _
   go_wp2_with fail
   generalize World.setCell (World.setCell (World.setCell w1 _ _) _ _) _ _ = z at *
   have q0 := HE.out.1.c0
   have q1 := HE.out.1.c1
   have q2 := HE.out.1.c2
   exact bodyPost_ret (v := .tuple #[.agg #[.int .i64 co, .slice Al ls.length cl, .slice Ap np cp], .bool false]) (by simp [results, Tryz.results104, go_sem, q0, q1, q2]) rfl ⟨_, _, _, by rw [HT.out], by rw [HT.out]; exact HSE.out.more HE.out.2.size, .inl ⟨rfl, rfl, rfl, by rw [HT.out]⟩, HE.out.2⟩
  ·have HT : Hid (zX ns ds ls ⟨4, d, no, p, q⟩ = (ls.eraseIdx i, true)) := by unfold Hid zX; rw [if_neg (show ¬ (4 : Int) = 3 by decide)]; simp only [hi]
   have HB1 := iD (HB.out.later hb.out)
   have HOS := iD (Sl.of_own hO.out)
   have HON : Hid (∀ b off, A = some ⟨b, off, none⟩ → w.heap.size + 3 < b) := fun b off e => by
    have h := hO.out.lt b (by rw [e]; rfl)
    have := HWL.out; omega
   clear hi hb hO HRM
   have g1 := HB1.out.b1.c1
   have s0 := HB1.out.b2.c0
   have z1 := HB1.out.b1.frozen 1
   have HBX := iD (HB1.out.cut (u := .slice A (ls.length - 1) c))
   have HSX := iD ((HOS.out.ne (x := w.heap.size + 1) (i := 1) (u := .slice A (ls.length - 1) c) (fun b off e => by have := HON.out b off e; omega)).more (show _ ≤ (World.setCell w1 ⟨w.heap.size + 1, 1, none⟩ (.slice A (ls.length - 1) c)).heap.size by simp [World.setCell]))
   have HWH : Hid (∀ b off, A = some ⟨b, off, none⟩ → w.heap.size ≤ b) := fun b off e => by have := HON.out b off e; omega
   have HNX : Hid (∀ b off, A = some ⟨b, off, none⟩ → b ≠ w.heap.size + 3) := fun b off e => by have := HON.out b off e; omega
   go_upto_region 7 with (fail)
   clear g1 z1 s0 HOS HON
   generalize World.setCell w1 _ _ = X at *
   have g0 := HBX.out.b1.c0
   have g1 := HBX.out.b1.c1
   have g2 := HBX.out.b1.c2
   have d0 := HBX.out.b3.cell 0
   have d1 := HBX.out.b3.cell 1
   have d2 := HBX.out.b3.cell 2
   have y0 := HBX.out.b3.frozen 0
   have y1 := HBX.out.b3.frozen 1
   have y2 := HBX.out.b3.frozen 2
   have HE := iD (HBX.out.fin (x := .int .i64 co) (y := .slice A (ls.length - 1) c) (z := .slice Ap np cp))
   have HSE := iD (sl3 (x := w.heap.size + 3) (a := .int .i64 co) (b := .slice A (ls.length - 1) c) (d := .slice Ap np cp) HSX.out HNX.out)
   go_wp2_with fail
   generalize World.setCell (World.setCell (World.setCell X _ _) _ _) _ _ = z at *
   have q0 := HE.out.1.c0
   have q1 := HE.out.1.c1
   have q2 := HE.out.1.c2
   exact bodyPost_ret (v := .tuple #[.agg #[.int .i64 co, .slice A (ls.length - 1) c, .slice Ap np cp], .bool true]) (by simp [results, Tryz.results104, go_sem, q0, q1, q2]) rfl ⟨_, _, _, by rw [HT.out], by rw [HT.out]; exact HSE.out, .inr HWH.out, HE.out.2⟩
 ·intro e w1 hp
  obtain ⟨A, n, c, er, rfl, hb⟩ := hp.any
  have HB1 := iD (HB.out.later hb.out)
  clear hp hb HRM
  have HAD := iD (jL An Ad Al nn cn nd cd cl w.heap.size w.heap.size w.heap.size ns ds ls d p q w1 (HLa.out.below HB1.out.bl lR) (HNl.out.below HB1.out.bl lR) (HDl.out.below HB1.out.bl lR) (HLl.out.below HB1.out.bl lR) HB1.out.bl.size HB1.out.bl.size HB1.out.bl.size HSN.out HSD.out)
  have k0 := HB1.out.b0.c0
  have k1 := HB1.out.b0.c1
  have g0 := HB1.out.b1.c0
  have g1 := HB1.out.b1.c1
  have g2 := HB1.out.b1.c2
  have s0 := HB1.out.b2.c0
  have s1 := HB1.out.b2.c1
  have s3 := HB1.out.b2.c3
  have s4 := HB1.out.b2.c4
  go_wp2_with fail
  clear k0 k1 g0 g1 g2 s0 s1 s3 s4
  refine HAD.out.mono ?_
  have HWL1 : Hid (w.heap.size + 3 < w1.heap.size) := HB1.out.b3.lt
  rintro e w2 ⟨⟨h1, rfl⟩ | ⟨h1, A3, c3, rfl, hO⟩, hb⟩
  ·have HT : Hid (zX ns ds ls ⟨3, d, no, p, q⟩ = (ls, false)) := by unfold Hid zX; rw [if_pos rfl, if_pos h1]
   have HB2 := iD (HB1.out.later hb.out)
   have q1 : (zw ns ds ls ⟨d, p, q⟩ != 0) = true := by simpa using h1
   clear h1 hb HAD HB1
   have g0 := HB2.out.b1.c0
   have g1 := HB2.out.b1.c1
   have g2 := HB2.out.b1.c2
   have s0 := HB2.out.b2.c0
   have d0 := HB2.out.b3.cell 0
   have d1 := HB2.out.b3.cell 1
   have d2 := HB2.out.b3.cell 2
   have y0 := HB2.out.b3.frozen 0
   have y1 := HB2.out.b3.frozen 1
   have y2 := HB2.out.b3.frozen 2
   have HE := iD (HB2.out.fin (x := .int .i64 co) (y := .slice Al ls.length cl) (z := .slice Ap np cp))
   have HSE : Hid (Sl (((w2.setCell ⟨w.heap.size + 3, 0, none⟩ (.int .i64 co)).setCell ⟨w.heap.size + 3, 1, none⟩ (.slice Al ls.length cl)).setCell ⟨w.heap.size + 3, 2, none⟩ (.slice Ap np cp)) w.heap.size 3 Al ls.length cl (ls.flatMap Lk.cells)) := (((HLl.out.below HB2.out.bl lR).setCell (by simp) _).setCell (by simp) _).setCell (by simp) _
   go_wp2_with fail
   generalize World.setCell (World.setCell (World.setCell w2 _ _) _ _) _ _ = z at *
   have q0 := HE.out.1.c0
   have q1 := HE.out.1.c1
   have q2 := HE.out.1.c2
   exact bodyPost_ret (v := .tuple #[.agg #[.int .i64 co, .slice Al ls.length cl, .slice Ap np cp], .bool false]) (by simp [results, Tryz.results104, go_sem, q0, q1, q2]) rfl ⟨_, _, _, by rw [HT.out], by rw [HT.out]; exact HSE.out.more HE.out.2.size, .inl ⟨rfl, rfl, rfl, by rw [HT.out]⟩, HE.out.2⟩
  ·have HT : Hid (zX ns ds ls ⟨3, d, no, p, q⟩ = (wP ⟨d, p, q⟩ ls, true)) := by unfold Hid zX; rw [if_pos rfl, if_neg (by simp [h1])]
   have HB2 := iD (HB1.out.later hb.out)
   have HOS := iD (Sl.of_own hO.out)
   have HON : Hid (∀ b off, A3 = some ⟨b, off, none⟩ → w.heap.size + 3 < b) := fun b off e => by
    have h := hO.out.lt b (by rw [e]; rfl)
    have := HWL1.out; omega
   clear h1 hb hO HAD HB1
   have g1 := HB2.out.b1.c1
   have s0 := HB2.out.b2.c0
   have z1 := HB2.out.b1.frozen 1
   have HBX := iD (HB2.out.cut (u := .slice A3 (ls.length + 1) c3))
   have HSX := iD ((HOS.out.ne (x := w.heap.size + 1) (i := 1) (u := .slice A3 (ls.length + 1) c3) (fun b off e => by have := HON.out b off e; omega)).more (show _ ≤ (World.setCell w2 ⟨w.heap.size + 1, 1, none⟩ (.slice A3 (ls.length + 1) c3)).heap.size by simp [World.setCell]))
   have HWH : Hid (∀ b off, A3 = some ⟨b, off, none⟩ → w.heap.size ≤ b) := fun b off e => by have := HON.out b off e; omega
   have HNX : Hid (∀ b off, A3 = some ⟨b, off, none⟩ → b ≠ w.heap.size + 3) := fun b off e => by have := HON.out b off e; omega
   go_upto_region 7 with (fail)
   clear g1 z1 s0 HOS HON
   generalize World.setCell w2 _ _ = X at *
   have g0 := HBX.out.b1.c0
   have g1 := HBX.out.b1.c1
   have g2 := HBX.out.b1.c2
   have d0 := HBX.out.b3.cell 0
   have d1 := HBX.out.b3.cell 1
   have d2 := HBX.out.b3.cell 2
   have y0 := HBX.out.b3.frozen 0
   have y1 := HBX.out.b3.frozen 1
   have y2 := HBX.out.b3.frozen 2
   have HE := iD (HBX.out.fin (x := .int .i64 co) (y := .slice A3 (ls.length + 1) c3) (z := .slice Ap np cp))
   have HSE := iD (sl3 (x := w.heap.size + 3) (a := .int .i64 co) (b := .slice A3 (ls.length + 1) c3) (d := .slice Ap np cp) HSX.out HNX.out)
   go_wp2_with fail
   generalize World.setCell (World.setCell (World.setCell X _ _) _ _) _ _ = z at *
   have q0 := HE.out.1.c0
   have q1 := HE.out.1.c1
   have q2 := HE.out.1.c2
   exact bodyPost_ret (v := .tuple #[.agg #[.int .i64 co, .slice A3 (ls.length + 1) c3, .slice Ap np cp], .bool true]) (by simp [results, Tryz.results104, go_sem, q0, q1, q2]) rfl ⟨_, _, _, by rw [HT.out], by rw [HT.out]; exact HSE.out, .inr HWH.out, HE.out.2⟩
end
end Go.Proofs.YtkkobemhbicjgaaGreatDoor
