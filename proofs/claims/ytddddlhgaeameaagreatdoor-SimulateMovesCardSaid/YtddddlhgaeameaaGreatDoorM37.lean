import Derived.Test.YtddddlhgaeameaaGreatDoorM35
import Derived.Test.YtddddlhgaeameaaGreatDoorM36
import Derived.Test.YtddddlhgaeameaaGreatDoorM26
set_option maxRecDepth 100000
set_option maxHeartbeats 8000000
namespace Go.Proofs.YtddddlhgaeameaaGreatDoor
section
open Go.RowKit
def xD (ns : List Nd) (ds : List Dv) (co : Int) (ls : List Lk) (pr : List Int) : Int :=
 if co < 0 ∨ 7 < co then 5 else if zO ns ds ls ≠ 0 then zO ns ds ls else if yi ns.length (-1) pr = false then 7 else 0
def yw (ns : List Nd) (ds : List Dv) (s : List Int) (co : Int) (ls : List Lk) (pr : List Int) (nm : ByteArray) (xs : List Sp) : Int :=
 if zL ns ds s ≠ 0 then zL ns ds s else if xD ns ds co ls pr ≠ 0 then xD ns ds co ls pr else yN ns ds nm xs
def xn (pr : List Int) (v : Int) : List Int := if v ∈ pr then pr else pr.takeWhile (fun x => decide (x < v)) ++ v :: pr.dropWhile (fun x => decide (x < v))
noncomputable def hzD (ns : List Nd) (ds : List Dv) (s : List Int) (d p co : Int) (ls : List Lk) (pr : List Int) : List Int :=
 match ds[d.toNat]? with
 | some x => uc ns.length ns ds s d.toNat p co ls pr x
 | none => []
def rF (ds : List Dv) (k d : Int) : Bool := decide (k = 2) && !decide ((ds[d.toNat]?.map Dv.kind) = some 4)
structure Sm where
 s : List Int
 ls : List Lk
 pr : List Int
structure So where
 h : List Int
 t : Sm
 ok : Bool
noncomputable def zf (ns : List Nd) (ds : List Dv) (co : Int) (t : Sm) (x : Sp) : So :=
 if x.kind = 1 ∨ x.kind = 2 then ⟨hzD ns ds t.s x.dev x.kind co t.ls t.pr, ⟨t.s.set x.dev.toNat x.kind, t.ls, if rF ds x.kind x.dev then [] else t.pr⟩, true⟩
 else if x.kind = 5 then (if lvB (zY ns.length ds t.s) x.node then ⟨[8], t, true⟩ else ⟨[], ⟨t.s, t.ls, xn t.pr x.node⟩, true⟩)
 else if x.kind = 4 then
  match vT x.dev x.key t.ls with
  | none => ⟨[4], t, true⟩
  | some i => ⟨[], ⟨t.s, t.ls.eraseIdx i, t.pr⟩, true⟩
 else if t.s.getD x.dev.toNat 0 ≠ x.pos then ⟨[8], t, false⟩
 else if x.kind = 6 then ⟨[], t, true⟩
 else if zg ns ds t.ls ⟨x.dev, x.pos, x.key⟩ ≠ 0 then ⟨[4], t, true⟩ else ⟨[], ⟨t.s, xw ⟨x.dev, x.pos, x.key⟩ t.ls, t.pr⟩, true⟩
structure Fn where
 st : Int
 hz : Int
deriving DecidableEq
def Fn.cells (f : Fn) : List Value := [.int .i64 f.st, .int .i64 f.hz]
def yW (i : Nat) (h : List Int) : List Fn := h.map fun z => ⟨i, z⟩
def tw (stk : List Int) (x : Sp) : Bool := (decide (x.kind = 1) || decide (x.kind = 2)) && decide (x.dev ∈ stk)
noncomputable def yv (ns : List Nd) (ds : List Dv) (co : Int) (stk : List Int) : Nat → List Fn → Sm → List Sp → List Fn × Sm × Nat
 | i, out, t, [] => (out, t, i)
 | i, out, t, x :: r =>
  if tw stk x then (out, t, i)
  else if (zf ns ds co t x).ok then yv ns ds co stk (i + 1) (out ++ yW i (zf ns ds co t x).h) (zf ns ds co t x).t r
  else (out ++ yW i (zf ns ds co t x).h, (zf ns ds co t x).t, i)
structure tc (ns : List Nd) (ds : List Dv) (t : Sm) : Prop where
 s : zL ns ds t.s = 0
 l : zO ns ds t.ls = 0
 p : yi ns.length (-1) t.pr = true
theorem sZ {ns : List Nd} {ds : List Dv} {s : List Int} {co : Int} {ls : List Lk} {pr : List Int} {nm : ByteArray} {xs : List Sp} (h : yw ns ds s co ls pr nm xs = 0) :
 tc ns ds ⟨s, ls, pr⟩ ∧ (0 ≤ co ∧ co ≤ 7) ∧ xs.length ≤ 64 ∧ zz ns.length ds.length xs = 0 := by
 unfold yw at h
 split at h
 ·next h1 => exact absurd h h1
 next h1 =>
 split at h
 ·next h2 => exact absurd h h2
 next h2 =>
 have h2 : xD ns ds co ls pr = 0 := by simpa using h2
 unfold xD at h2
 split at h2
 ·cases h2
 next g1 =>
 split at h2
 ·next g2 => exact absurd h2 g2
 next g2 =>
 split at h2
 ·cases h2
 next g3 =>
 unfold yN at h
 split at h
 ·next h3 => exact absurd h h3
 split at h
 ·cases h
 split at h
 ·cases h
 next h5 => exact ⟨⟨by simpa using h1, by simpa using g2, by simpa using g3⟩, by omega, by omega, h⟩
theorem uS {nn nd : Nat} : ∀ {xs : List Sp}, zz nn nd xs = 0 → ∀ x ∈ xs, zc nn nd x = 0
 | [], _, x, hx => by cases hx
 | y :: r, h, x, hx => by
  unfold zz at h
  split at h
  ·next h1 => exact absurd h h1
  next h1 =>
  rcases List.mem_cons.mp hx with rfl | hx
  ·simpa using h1
  ·exact uS h x hx
theorem xR {nn nd : Nat} {x : Sp} (h : zc nn nd x = 0) : (1 ≤ x.kind ∧ x.kind ≤ 6) ∧ (x.kind ≠ 5 → 0 ≤ x.dev ∧ x.dev < nd) ∧ (x.kind = 5 → 0 ≤ x.node ∧ x.node < nn) ∧ (x.kind = 3 ∨ x.kind = 6 → x.pos = 1 ∨ x.pos = 2) ∧ (x.kind = 3 ∨ x.kind = 4 → 0 ≤ x.key ∧ x.key ≤ 65536) := by
 unfold zc at h
 split at h
 ·cases h
 next h1 =>
 split at h
 ·cases h
 next h2 =>
 split at h
 ·cases h
 next h3 =>
 split at h
 ·cases h
 next h4 =>
 split at h
 ·cases h
 next h5 =>
 have e1 : x.posB = true ↔ x.kind = 3 ∨ x.kind = 6 := by unfold Sp.posB; simp
 have e2 : x.keyB = true ↔ x.kind = 3 ∨ x.kind = 4 := by unfold Sp.keyB; simp
 rw [e1] at h4
 rw [e2] at h5
 refine ⟨by omega, fun hk => by omega, fun hk => by omega, fun hk => ?_, fun hk => by omega⟩
 by_cases hp : x.pos = 1
 ·exact .inl hp
 ·by_cases hp2 : x.pos = 2
  ·exact .inr hp2
  ·exact absurd ⟨hk, hp, hp2⟩ h4
theorem qT {ns : List Nd} {ds : List Dv} {s : List Int} {i : Nat} {v : Int} (h : zL ns ds s = 0) (hv : v = 1 ∨ v = 2) : zL ns ds (s.set i v) = 0 := by
 unfold zL at h ⊢
 split at h
 ·next h1 => exact absurd h h1
 next h1 =>
 rw [if_neg h1]
 split at h
 ·cases h
 next h2 =>
 rw [if_neg (by simpa using h2)]
 split at h
 ·next h3 =>
  rw [if_pos]
  intro p hp
  rcases List.mem_or_eq_of_mem_set hp with hp | rfl
  ·exact h3 p hp
  ·unfold posB; rcases hv with rfl | rfl <;> simp
 ·cases h
theorem ux (u : Int) : ∀ (p : Int) (l : List Int), yi u p l = true ↔ (∀ x ∈ l, p < x ∧ x < u) ∧ l.Pairwise (· < ·)
 | p, [] => by simp [yi]
 | p, x :: l => by
  rw [yi]
  simp only [Bool.and_eq_true, decide_eq_true_eq, List.pairwise_cons, List.mem_cons, forall_eq_or_imp]
  rw [ux u x l]
  constructor
  ·rintro ⟨⟨h1, h2⟩, h3, h4⟩
   exact ⟨⟨⟨h1, h2⟩, fun y hy => ⟨by have := (h3 y hy).1; omega, (h3 y hy).2⟩⟩, fun y hy => (h3 y hy).1, h4⟩
  ·rintro ⟨⟨h1, h2⟩, h3, h4⟩
   exact ⟨⟨h1.1, h1.2⟩, fun y hy => ⟨h3 y hy, (h2 y hy).2⟩, h4⟩
theorem pW : ∀ (l : List Int) (p : Int), (∀ x ∈ l, p < x) → l.Pairwise (· < ·) → ∀ u, (∀ x ∈ l, x < u) → p < u → (l.length : Int) < u - p
 | [], p, _, _, u, _, h => by simp; omega
 | x :: l, p, h1, h2, u, h3, h4 => by
  obtain ⟨h5, h6⟩ := List.pairwise_cons.mp h2
  have hx := h1 x List.mem_cons_self
  have := pW l x h5 h6 u (fun y hy => h3 y (List.mem_cons_of_mem _ hy)) (h3 x List.mem_cons_self)
  rw [List.length_cons]; push_cast; omega
theorem se {u : Nat} {l : List Int} (h : yi u (-1) l = true) : l.length ≤ u := by
 obtain ⟨h1, h2⟩ := (ux u (-1) l).mp h
 have := pW l (-1) (fun x hx => (h1 x hx).1) h2 u (fun x hx => (h1 x hx).2) (by omega)
 omega
theorem mV {u v : Int} {pr : List Int} (h : yi u (-1) pr = true) (h0 : 0 ≤ v) (h1 : v < u) : yi u (-1) (xn pr v) = true := by
 unfold xn
 split
 ·exact h
 next hn =>
 rw [ux] at h ⊢
 obtain ⟨h2, h3⟩ := h
 have hsp := List.takeWhile_append_dropWhile (p := fun x => decide (x < v)) (l := pr)
 have ht : ∀ x ∈ pr.takeWhile (fun x => decide (x < v)), x < v := fun x hx => by
  have := List.all_takeWhile (p := fun x => decide (x < v)) (l := pr)
  rw [List.all_eq_true] at this
  simpa using this x hx
 have hd : ∀ x ∈ pr.dropWhile (fun x => decide (x < v)), v < x := by
  rw [← hsp] at h3
  rw [List.pairwise_append] at h3
  rcases e : pr.dropWhile (fun x => decide (x < v)) with _ | ⟨y, r⟩
  ·intro x hx; cases hx
  ·rw [e] at h3
   have hy : ¬ y < v := by
    have := List.head_dropWhile_not (p := fun x => decide (x < v)) (l := pr) (by rw [e]; simp)
    simp only [e, List.head_cons, decide_eq_false_iff_not] at this
    exact this
   have hyv : y ≠ v := fun e2 => hn (by rw [← hsp, e, e2]; simp)
   intro x hx
   rcases List.mem_cons.mp hx with rfl | hx
   ·omega
   ·have := (List.pairwise_cons.mp h3.2.1).1 x hx; omega
 have hm : ∀ x, x ∈ pr.takeWhile (fun x => decide (x < v)) ∨ x ∈ pr.dropWhile (fun x => decide (x < v)) → x ∈ pr := fun x hx => by rw [← hsp]; exact List.mem_append.mpr hx
 refine ⟨fun x hx => ?_, ?_⟩
 ·rcases List.mem_append.mp hx with hx | hx
  ·exact h2 x (hm x (.inl hx))
  ·rcases List.mem_cons.mp hx with rfl | hx
   ·omega
   ·exact h2 x (hm x (.inr hx))
 ·rw [← hsp, List.pairwise_append] at h3
  rw [List.pairwise_append]
  refine ⟨h3.1, List.pairwise_cons.mpr ⟨hd, h3.2.1⟩, fun a ha b hb => ?_⟩
  rcases List.mem_cons.mp hb with rfl | hb
  ·exact ht a ha
  ·have := ht a ha; have := hd b hb; omega
theorem sX {ns : List Nd} {ds : List Dv} {ls : List Lk} (hc : zR ns ds = 0) (h : xq ds ls) : zO ns ds ls = 0 := by
 unfold zO
 rw [if_neg (by simp [hc])]
 rw [if_neg (by have := h.1; omega)]
 exact kF h
theorem add_zero {ns : List Nd} {ds : List Dv} {ls : List Lk} {k : Lk} (h : zg ns ds ls k = 0) : xq ds (xw k ls) := by
 unfold zg at h
 split at h
 ·next h1 => exact absurd h h1
 next h1 =>
 split at h
 ·next h2 => exact absurd h h2
 next h2 =>
 split at h
 ·cases h
 next h3 =>
 split at h
 ·cases h
 next h4 =>
 split at h
 ·cases h
 next h5 =>
 have hg := xA (by simpa using h1)
 exact sy hg (by simpa using h2) (by simpa using h3) (by simpa using h4) (by have := hg.1; omega)
theorem kk {ns : List Nd} {ds : List Dv} {co : Int} {t : Sm} {x : Sp} (h : tc ns ds t) (hx : zc ns.length ds.length x = 0) : tc ns ds (zf ns ds co t x).t := by
 obtain ⟨h1, h2, h3, h4, h5⟩ := xR hx
 have hc := (za h.s).1
 unfold zf
 split
 ·next hk => exact ⟨qT h.s hk, h.l, by dsimp only; split <;> first | rfl | exact h.p⟩
 split
 ·next hk =>
  split
  ·exact h
  ·exact ⟨h.s, h.l, mV h.p (h3 hk).1 (h3 hk).2⟩
 split
 ·split
  ·exact h
  ·exact ⟨h.s, sX hc (kE (xA h.l) (List.eraseIdx_sublist _ _)), h.p⟩
 split
 ·exact h
 split
 ·exact h
 split
 ·exact h
 ·next h0 => exact ⟨h.s, sX hc (add_zero (by simpa using h0)), h.p⟩
theorem pQ {ns : List Nd} {ds : List Dv} {co : Int} {stk : List Int} {xs : List Sp} {i : Nat} {out : List Fn} {t : Sm} {x : Sp} (hx : xs[i]? = some x) (hs : tw stk x = false) (ho : (zf ns ds co t x).ok = true) :
 yv ns ds co stk i out t (xs.drop i) = yv ns ds co stk (i + 1) (out ++ yW i (zf ns ds co t x).h) (zf ns ds co t x).t (xs.drop (i + 1)) := by
 obtain ⟨hi, rfl⟩ := List.getElem?_eq_some_iff.mp hx
 rw [List.drop_eq_getElem_cons hi, yv, if_neg (by simp [hs]), if_pos ho]
theorem pP {ns : List Nd} {ds : List Dv} {co : Int} {stk : List Int} {xs : List Sp} {i : Nat} {out : List Fn} {t : Sm} {x : Sp} (hx : xs[i]? = some x) (hs : tw stk x = true) :
 yv ns ds co stk i out t (xs.drop i) = (out, t, i) := by
 obtain ⟨hi, rfl⟩ := List.getElem?_eq_some_iff.mp hx
 rw [List.drop_eq_getElem_cons hi, yv, if_pos hs]
theorem ol {ns : List Nd} {ds : List Dv} {co : Int} {stk : List Int} {xs : List Sp} {i : Nat} {out : List Fn} {t : Sm} {x : Sp} (hx : xs[i]? = some x) (hs : tw stk x = false) (ho : (zf ns ds co t x).ok = false) :
 yv ns ds co stk i out t (xs.drop i) = (out ++ yW i (zf ns ds co t x).h, (zf ns ds co t x).t, i) := by
 obtain ⟨hi, rfl⟩ := List.getElem?_eq_some_iff.mp hx
 rw [List.drop_eq_getElem_cons hi, yv, if_neg (by simp [hs]), if_neg (by simp [ho])]
theorem mT {ns : List Nd} {ds : List Dv} {co : Int} {stk : List Int} {xs : List Sp} {i : Nat} {out : List Fn} {t : Sm} (hx : xs.length ≤ i) : yv ns ds co stk i out t (xs.drop i) = (out, t, i) := by
 rw [List.drop_eq_nil_of_le hx, yv]
end
section
open Go.RowKit
theorem lK (A : Option Addr) (n c B : Nat) (l : List Int) (u : Int) (w : World) (hs : Sl w B 1 A n c (zK l)) :
 Calls Tryz.prog 82 #[.slice A n c, .int .i64 u] w fun e w' => e = .returned (.bool (yi u (-1) l)) ∧ w = w' := by
 have HC := iD (ox A n c B l u w hs)
 go_enter Tryz.func82, Tryz.ntmps82
 go_wp2_with fail
 refine HC.out.mono ?_
 rintro e w1 ⟨rfl, rfl⟩
 go_wp2_with fail
 go_ret
 exact ⟨rfl, rfl⟩
structure Bxg (w : World) (nt gr : Array Value) (W : World) : Prop where
 bl : Below w.heap.size w W
 bn : Blk W w.heap.size 26 nt
 bg : Blk W (w.heap.size + 1) 29 gr
theorem Bxg.new (w : World) (nt gr : Array Value) : Bxg w nt gr ((w.alloc (.cells nt 26)).alloc (.cells gr 29)) :=
 ⟨((Below.refl _ _).alloc lR _).alloc (by simp) _, (Blk.new _ _ _).alloc _, by have := Blk.new (w.alloc (.cells nt 26)) 29 gr; simpa using this⟩
theorem Bxg.later {w W W' : World} {nt gr : Array Value} (h : Bxg w nt gr W) (hb : Below W.heap.size W W') : Bxg w nt gr W' := ⟨h.bl.trans (hb.mono h.bl.size), h.bn.below hb h.bn.lt, h.bg.below hb h.bg.lt⟩
structure Bxp (w : World) (nt gr pg : Array Value) (W : World) : Prop where
 bl : Below w.heap.size w W
 bn : Blk W w.heap.size 26 nt
 bg : Blk W (w.heap.size + 1) 29 gr
 bp : Blk W (w.heap.size + 2) 34 pg
theorem Bxp.new (w : World) (nt gr pg : Array Value) : Bxp w nt gr pg (((w.alloc (.cells nt 26)).alloc (.cells gr 29)).alloc (.cells pg 34)) :=
 ⟨(((Below.refl _ _).alloc lR _).alloc (by simp) _).alloc (by simp; omega) _, ((Blk.new _ _ _).alloc _).alloc _, by have := (Blk.new (w.alloc (.cells nt 26)) 29 gr).alloc (.cells pg 34); simpa using this,
  by have := Blk.new ((w.alloc (.cells nt 26)).alloc (.cells gr 29)) 34 pg; simpa using this⟩
theorem Bxp.later {w W W' : World} {nt gr pg : Array Value} (h : Bxp w nt gr pg W) (hb : Below W.heap.size W W') : Bxp w nt gr pg W' := ⟨h.bl.trans (hb.mono h.bl.size), h.bn.below hb h.bn.lt, h.bg.below hb h.bg.lt, h.bp.below hb h.bp.lt⟩
structure rO (w : World) (An Ad As Al Ap Ax : Option Addr) (nn cn nd cd n c nl cl np cp nx cx : Nat) (ns : List Nd) (ds : List Dv) (s : List Int) (ls : List Lk) (pr : List Int) (nm : ByteArray) (xs : List Sp) : Prop where
 h : yp w An Ad As Al Ap nn cn nd cd n c nl cl np cp ns ds s ls pr
 x : Sl w w.heap.size 5 Ax nx cx (xs.flatMap Sp.cells)
 m : nm.size ≤ 9223372036854775807
theorem rO.below {w W : World} {An Ad As Al Ap Ax : Option Addr} {nn cn nd cd n c nl cl np cp nx cx : Nat} {ns : List Nd} {ds : List Dv} {s : List Int} {ls : List Lk} {pr : List Int} {nm : ByteArray} {xs : List Sp} (h : rO w An Ad As Al Ap Ax nn cn nd cd n c nl cl np cp nx cx ns ds s ls pr nm xs) (hb : Below w.heap.size w W) : rO W An Ad As Al Ap Ax nn cn nd cd n c nl cl np cp nx cx ns ds s ls pr nm xs :=
 ⟨h.h.below hb, (h.x.below hb lR).more hb.size, h.m⟩
theorem nK (An Ad As Al Ap : Option Addr) (nn cn nd cd n c nl cl np cp : Nat) (ns : List Nd) (ds : List Dv) (s : List Int) (ls : List Lk) (pr : List Int) (co : Int) (w : World) (h : yp w An Ad As Al Ap nn cn nd cd n c nl cl np cp ns ds s ls pr) :
 Calls Tryz.prog 59 #[.agg #[.slice An nn cn, .slice Ad nd cd], .agg #[.int .i64 co, .slice Al nl cl, .slice Ap np cp]] w fun e w' => e = .returned (.int .i64 (xD ns ds co ls pr)) ∧ Below w.heap.size w w' := by
 have HH := iD h
 have HB := iD (Bxg.new w #[.slice An nn cn, .slice Ad nd cd] #[.int .i64 co, .slice Al nl cl, .slice Ap np cp])
 have hln : ns.length = nn := h.hn.len (fun _ => rfl) (by decide)
 have hnn := h.hn.le
 have HE : Hid (xD ns ds co ls pr = if co < 0 ∨ 7 < co then 5 else if zO ns ds ls ≠ 0 then zO ns ds ls else if yi nn (-1) pr = false then 7 else 0) := by unfold Hid xD; rw [hln]
 clear h
 by_cases h1 : co < 0
 ·have q1 : decide (co < 0) = true := by simpa using h1
  have HR : Hid (xD ns ds co ls pr = 5) := by unfold Hid; rw [HE.out, if_pos (.inl h1)]
  clear h1 HE HH
  go_enter Tryz.func59, Tryz.ntmps59
  go_wp2_with fail
  go_ret
  exact ⟨zE (by rw [HR.out]), HB.out.bl⟩
 have q1 : decide (co < 0) = false := by simpa using h1
 by_cases h2 : 7 < co
 ·have q2 : decide (7 < co) = true := by simpa using h2
  have HR : Hid (xD ns ds co ls pr = 5) := by unfold Hid; rw [HE.out, if_pos (.inr h2)]
  clear h1 h2 HE HH
  go_enter Tryz.func59, Tryz.ntmps59
  go_wp2_with fail
  go_ret
  exact ⟨zE (by rw [HR.out]), HB.out.bl⟩
 have q2 : decide (7 < co) = false := by simpa using h2
 have HE1 : Hid (xD ns ds co ls pr = if zO ns ds ls ≠ 0 then zO ns ds ls else if yi nn (-1) pr = false then 7 else 0) := by unfold Hid; rw [HE.out, if_neg (by omega)]
 clear h1 h2 HE
 go_enter Tryz.func59, Tryz.ntmps59
 go_upto_region 3 with (fail)
 clear q1 q2
 generalize World.alloc (World.alloc w _) _ = W at *
 have HM := iD (HH.out.below HB.out.bl)
 have HC := iD (ua An Ad Al nn cn nd cd nl cl W.heap.size W.heap.size W.heap.size ns ds ls W HM.out.la HM.out.hn HM.out.hd HM.out.hl lR lR lR HM.out.sn HM.out.sd)
 have k0 := HB.out.bn.c0
 have k1 := HB.out.bn.c1
 have g1 := HB.out.bg.c1
 go_wp2_with fail
 clear k0 k1 g1
 refine HC.out.mono ?_
 rintro e w1 ⟨rfl, hb1⟩
 have HB1 := iD (HB.out.later hb1)
 have HM1 := iD (HM.out.below hb1)
 clear hb1 HB HM HC
 by_cases hc : zO ns ds ls = 0; rotate_left
 ·have q1 : (zO ns ds ls != 0) = true := by simpa using hc
  have HR : Hid (xD ns ds co ls pr = zO ns ds ls) := by unfold Hid; rw [HE1.out, if_pos hc]
  clear hc
  go_wp2_with fail
  go_ret
  exact ⟨zE (by rw [HR.out]), HB1.out.bl⟩
 have HE2 : Hid (xD ns ds co ls pr = if yi nn (-1) pr = false then 7 else 0) := by unfold Hid; rw [HE1.out, if_neg (by simp [hc])]
 rw [hc]
 clear hc HE1
 have k0 := HB1.out.bn.c0
 have g2 := HB1.out.bg.c2
 have HZ := iD (lK Ap np cp w1.heap.size pr nn w1 HM1.out.hp)
 go_wp2_with fail
 clear k0 g2
 refine HZ.out.mono ?_
 rintro e w2 ⟨rfl, hw⟩
 have hb2 : Below w1.heap.size w1 w2 := by rw [← hw]; exact Below.refl _ _
 clear hw
 have HB2 := iD (HB1.out.later hb2)
 clear hb2 HB1 HM1 HZ
 rcases hr : yi nn (-1) pr with _ | _
 ·have HR : Hid (xD ns ds co ls pr = 7) := by unfold Hid; rw [HE2.out, if_pos hr]
  clear hr
  go_wp2_with fail
  go_ret
  exact ⟨zE (by rw [HR.out]), HB2.out.bl⟩
 ·have HR : Hid (xD ns ds co ls pr = 0) := by unfold Hid; rw [HE2.out, if_neg (by simp [hr])]
  clear hr
  go_wp2_with fail
  go_ret
  exact ⟨zE (by rw [HR.out]), HB2.out.bl⟩
theorem tg (An Ad As Al Ap Ax : Option Addr) (nn cn nd cd n c nl cl np cp nx cx : Nat) (ns : List Nd) (ds : List Dv) (s : List Int) (ls : List Lk) (pr : List Int) (co : Int) (nm : ByteArray) (xs : List Sp) (w : World) (h : rO w An Ad As Al Ap Ax nn cn nd cd n c nl cl np cp nx cx ns ds s ls pr nm xs) :
 Calls Tryz.prog 37 #[.agg #[.slice An nn cn, .slice Ad nd cd], .slice As n c, .agg #[.int .i64 co, .slice Al nl cl, .slice Ap np cp], .agg #[.string nm, .slice Ax nx cx]] w fun e w' => e = .returned (.int .i64 (yw ns ds s co ls pr nm xs)) ∧ Below w.heap.size w w' := by
 have HH := iD h
 have HB := iD (Bxp.new w #[.slice An nn cn, .slice Ad nd cd] #[.int .i64 co, .slice Al nl cl, .slice Ap np cp] #[.string nm, .slice Ax nx cx])
 have HE : Hid (yw ns ds s co ls pr nm xs = if zL ns ds s ≠ 0 then zL ns ds s else if xD ns ds co ls pr ≠ 0 then xD ns ds co ls pr else yN ns ds nm xs) := rfl
 clear h
 go_enter Tryz.func37, Tryz.ntmps37
 go_upto_region 1 with (fail)
 generalize World.alloc (World.alloc (World.alloc w _) _) _ = W at *
 have HM := iD (HH.out.below HB.out.bl)
 have HC := iD (vR An Ad As nn cn nd cd n c W.heap.size W.heap.size W.heap.size ns ds s W HM.out.h.la HM.out.h.hn HM.out.h.hd HM.out.h.hs lR lR lR HM.out.h.sn HM.out.h.sd)
 have k0 := HB.out.bn.c0
 have k1 := HB.out.bn.c1
 go_wp2_with fail
 clear k0 k1
 refine HC.out.mono ?_
 rintro e w1 ⟨rfl, hb1⟩
 have HB1 := iD (HB.out.later hb1)
 have HM1 := iD (HM.out.below hb1)
 clear hb1 HB HM HC
 by_cases hc : zL ns ds s = 0; rotate_left
 ·have q1 : (zL ns ds s != 0) = true := by simpa using hc
  have HR : Hid (yw ns ds s co ls pr nm xs = zL ns ds s) := by unfold Hid; rw [HE.out, if_pos hc]
  clear hc
  go_wp2_with fail
  go_ret
  exact ⟨zE (by rw [HR.out]), HB1.out.bl⟩
 have HE1 : Hid (yw ns ds s co ls pr nm xs = if xD ns ds co ls pr ≠ 0 then xD ns ds co ls pr else yN ns ds nm xs) := by unfold Hid; rw [HE.out, if_neg (by simp [hc])]
 rw [hc]
 clear hc HE
 have HC := iD (nK An Ad As Al Ap nn cn nd cd n c nl cl np cp ns ds s ls pr co w1 HM1.out.h)
 have k0 := HB1.out.bn.c0
 have k1 := HB1.out.bn.c1
 have g0 := HB1.out.bg.c0
 have g1 := HB1.out.bg.c1
 have g2 := HB1.out.bg.c2
 go_wp2_with fail
 clear k0 k1 g0 g1 g2
 refine HC.out.mono ?_
 rintro e w2 ⟨rfl, hb2⟩
 have HB2 := iD (HB1.out.later hb2)
 have HM2 := iD (HM1.out.below hb2)
 clear hb2 HB1 HM1 HC
 by_cases hc : xD ns ds co ls pr = 0; rotate_left
 ·have q1 : (xD ns ds co ls pr != 0) = true := by simpa using hc
  have HR : Hid (yw ns ds s co ls pr nm xs = xD ns ds co ls pr) := by unfold Hid; rw [HE1.out, if_pos hc]
  clear hc
  go_wp2_with fail
  go_ret
  exact ⟨zE (by rw [HR.out]), HB2.out.bl⟩
 have HE2 : Hid (yw ns ds s co ls pr nm xs = yN ns ds nm xs) := by unfold Hid; rw [HE1.out, if_neg (by simp [hc])]
 rw [hc]
 clear hc HE1
 have HC := iD (pZ An Ad Ax nn cn nd cd nx cx ns ds nm xs w2 ⟨HM2.out.h.hn, HM2.out.h.hd, HM2.out.x, HM2.out.h.la, HM2.out.h.sn, HM2.out.h.sd, HM2.out.m⟩)
 have k0 := HB2.out.bn.c0
 have k1 := HB2.out.bn.c1
 have p0 := HB2.out.bp.c0
 have p1 := HB2.out.bp.c1
 go_wp2_with fail
 clear k0 k1 p0 p1
 refine HC.out.mono ?_
 rintro e w3 ⟨rfl, hb3⟩
 go_wp2_with fail
 go_ret
 exact ⟨zE (by rw [HE2.out]), HB2.out.bl.trans (hb3.mono HB2.out.bl.size)⟩
end
section
open Go.RowKit
theorem uK {w : World} {base size n c x i : Nat} {e : TypeId} {A : Option Addr} {xs : List Value} {u : Value} (h : w.ownsRow base e size (.slice A n c) n xs) (hx : x < base) : (w.setCell ⟨x, i, none⟩ u).ownsRow base e size (.slice A n c) n xs :=
 h.kept (yE _ _ _) (zm fun b e => by have := (h.lt b e).1; simp; omega)
def jz (w : World) (nl np : Nat) (co : Int) (ls : List Lk) (pr : List Int) (e : Ending) (w' : World) : Prop := ∃ (A1 A2 : Option Addr) (c1 c2 : Nat), e = .returned (.agg #[.int .i64 co, .slice A1 nl c1, .slice A2 np c2]) ∧ Hid (zt w' w.heap.size A1 nl c1 ls) ∧ Hid (zU w' w.heap.size A2 np c2 pr) ∧ Hid (Below w.heap.size w w')
structure Bcg (w : World) (cf : Array Value) (wr : World) : Prop where
 b0 : Blk wr w.heap.size 29 cf
 b1 : Blk wr (w.heap.size + 1) 29 #[.int .i64 0, .slice none 0 0, .slice none 0 0]
 bl : Below w.heap.size w wr
theorem Bcg.new (w : World) (cf : Array Value) : Bcg w cf ((w.alloc (.cells cf 29)).alloc (.cells #[.int .i64 0, .slice none 0 0, .slice none 0 0] 29)) :=
 ⟨(Blk.new w _ _).alloc _, by have := Blk.new (w.alloc (.cells cf 29)) 29 #[.int .i64 0, .slice none 0 0, .slice none 0 0]; simpa using this, ((Below.refl _ _).alloc lR _).alloc (by simp) _⟩
theorem Bcg.later {w wr wr' : World} {cf : Array Value} (h : Bcg w cf wr) (hb : Below wr.heap.size wr wr') : Bcg w cf wr' := ⟨h.b0.below hb h.b0.lt, h.b1.below hb h.b1.lt, h.bl.trans (hb.mono h.bl.size)⟩
theorem Bcg.cells {w wr : World} {x y z : Value} (h : Bcg w #[x, y, z] wr) : wr.cell? ⟨w.heap.size, 0, none⟩ = some x ∧ wr.cell? ⟨w.heap.size, 1, none⟩ = some y ∧ wr.cell? ⟨w.heap.size, 2, none⟩ = some z := ⟨h.b0.cell 0, h.b0.cell 1, h.b0.cell 2⟩
theorem uC (Al Ap : Option Addr) (nl cl np cp B : Nat) (co : Int) (ls : List Lk) (pr : List Int) (w : World) (hl : Sl w B 3 Al nl cl (ls.flatMap Lk.cells)) (hp : Sl w B 1 Ap np cp (zK pr)) (hB : B ≤ w.heap.size) (hnl : nl ≤ 1000000) (hnp : np ≤ 1000000) :
 Calls Tryz.prog 41 #[.agg #[.int .i64 co, .slice Al nl cl, .slice Ap np cp]] w (jz w nl np co ls pr) := by
 have HLL : Hid (ls.length = nl) := hl.len (fun _ => rfl) (by decide)
 have HLP : Hid (pr.length = np) := hp.len (fun _ => rfl) (by decide)
 have HB := iD (Bcg.new w #[.int .i64 co, .slice Al nl cl, .slice Ap np cp])
 have HL := iD hl
 have HP := iD hp
 clear hl hp
 go_enter Tryz.func41, Tryz.ntmps41
 go_upto_region 1 with (fail)
 generalize World.alloc (World.alloc w _) _ = W at *
 have HB0 := iD (HB.out.later (Below.refl _ _).drew)
 have hz0 := HB0.out.bl.size
 have HL0 := iD (HL.out.below HB0.out.bl hB)
 have HP0 := iD (HP.out.below HB0.out.bl hB)
 refine zF (S := fun W' => W'.cell? ⟨w.heap.size, 0, none⟩ = some (.int .i64 co) ∧ W'.cell? ⟨w.heap.size, 1, none⟩ = some (.slice Al nl cl) ∧ W'.cell? ⟨w.heap.size, 2, none⟩ = some (.slice Ap np cp)) (J := [9]) (by kernel_rfl) ?_ (fun AA => ?_)
 ·exact HB.out.cells
 try dsimp only at AA
 refine tk 0 3 (mf 10 1) AA ?_
 refine tk 1 4 (mf 10 2) AA ?_
 refine tk 2 5 (mf 10 3) AA ?_
 refine tk 3 6 (mf 10 4) AA ?_
 refine tk 5 8 (ma 10 47) AA ?_
 refine tk 6 9 (ma 10 111) AA ?_
 refine tb 4 (mf 10 7) fun K hK => ?_
 (go_simp; refine (wo Al nl cl _ ls W.drew HL0.out (by omega) hnl).mono ?_; rintro e w1 ⟨A1, c1, rfl, hO1, hb1⟩; rw [HLL.out] at hO1 ⊢; have HD1 := iD hb1.out; clear hb1; go_simp)
 refine hK.out _ _ (fun _ => ?_) (fun AA' => ?_)
 ·exact (HB0.out.later HD1.out).cells
 replace AA := AA' rfl
 clear AA' hK K
 try dsimp only at AA
 have HB1 := iD (HB0.out.later HD1.out)
 have HO1 := iD (World.ownsRow.mono hO1.out lR)
 clear hO1
 refine tb 7 (mf 10 8) fun K hK => ?_
 (go_simp; refine (xM Ap np cp _ pr w1 (HP0.out.below HD1.out (by omega)) (by have := HD1.out.size; omega) hnp).mono ?_; rintro e w2 ⟨A2, c2, rfl, hO2, hb2⟩; rw [HLP.out] at hO2 ⊢; have HD2 := iD hb2.out; clear hb2; go_simp)
 refine hK.out _ _ (fun _ => ?_) (fun AA' => ?_)
 ·exact (HB1.out.later HD2.out).cells
 replace AA := AA' rfl
 clear AA' hK K
 try dsimp only at AA
 have HB2 := iD (HB1.out.later HD2.out)
 have HP1 := iD (zx HO1.out HD2.out)
 have HO2 := iD (World.ownsRow.mono hO2.out HD1.out.size)
 obtain ⟨b0, b1, b2⟩ := HB2.out.cells; have z0 := HB2.out.b1.frozen 0; have z1 := HB2.out.b1.frozen 1; have z2 := HB2.out.b1.frozen 2; have d0 := HB2.out.b1.cell 0; have d1 := HB2.out.b1.cell 1; have d2 := HB2.out.b1.cell 2
 clear hO2
 refine tk 8 11 (mf 10 9) AA ?_
 refine tb 9 (mf 10 10) fun K hK => ?_
 go_simp
 refine hK.out _ _ (fun h => by cases h) (fun _ => ?_)
 try clear AA
 clear hK K
 refine zC (by kernel_rfl) ?_ _
 have HE : Hid (Below w.heap.size w (((w2.setCell ⟨w.heap.size + 1, 0, none⟩ (.int .i64 co)).setCell ⟨w.heap.size + 1, 1, none⟩ (.slice A1 nl c1)).setCell ⟨w.heap.size + 1, 2, none⟩ (.slice A2 np c2))) := ((HB2.out.bl.setCell (by simp) _).setCell (by simp) _).setCell (by simp) _
 have HBE : Hid (Blk (((w2.setCell ⟨w.heap.size + 1, 0, none⟩ (.int .i64 co)).setCell ⟨w.heap.size + 1, 1, none⟩ (.slice A1 nl c1)).setCell ⟨w.heap.size + 1, 2, none⟩ (.slice A2 np c2)) (w.heap.size + 1) 29 #[.int .i64 co, .slice A1 nl c1, .slice A2 np c2]) := ((HB2.out.b1.set 0 _).set 1 _).set 2 _
 have hx2 : w.heap.size + 1 < W.heap.size := HB.out.b1.lt
 have HR1 := iD (uK (x := w.heap.size + 1) (i := 2) (u := .slice A2 np c2) (uK (x := w.heap.size + 1) (i := 1) (u := .slice A1 nl c1) (uK (x := w.heap.size + 1) (i := 0) (u := .int .i64 co) HP1.out hx2) hx2) hx2)
 have HR2 := iD (uK (x := w.heap.size + 1) (i := 2) (u := .slice A2 np c2) (uK (x := w.heap.size + 1) (i := 1) (u := .slice A1 nl c1) (uK (x := w.heap.size + 1) (i := 0) (u := .int .i64 co) HO2.out hx2) hx2) hx2)
 clear z0 z1 z2 d0 d1 d2 b0 b1 b2 HP1 HO2 HB2 HB1
 generalize World.setCell (World.setCell (World.setCell w2 _ _) _ _) _ _ = x at *
 go_wp2_with fail
 have q0 := HBE.out.c0
 have q1 := HBE.out.c1
 have q2 := HBE.out.c2
 exact bodyPost_ret (v := .agg #[.int .i64 co, .slice A1 nl c1, .slice A2 np c2]) (by simp [results, Tryz.results41, go_sem, q0, q1, q2]) rfl ⟨A1, A2, c1, c2, rfl, HR1.out.mono (by omega), HR2.out.mono (by omega), HE⟩
end
section
open Go.RowKit
theorem jY : xV Tryz.prog 131 66 2 16 := xV.mk' (z := .agg #[.int .i64 0, .int .i64 0]) Tryz.underlying131 (by kernel_rfl) rfl (by decide)
structure Bsg (w : World) (cs zs : Array Value) (T : TypeId) (wr : World) : Prop where
 b0 : Blk wr w.heap.size 31 cs
 b1 : Blk wr (w.heap.size + 1) T zs
 bl : Below w.heap.size w wr
theorem Bsg.new (w : World) (cs zs : Array Value) (T : TypeId) : Bsg w cs zs T ((w.alloc (.cells cs 31)).alloc (.cells zs T)) :=
 ⟨(Blk.new w _ _).alloc _, by have := Blk.new (w.alloc (.cells cs 31)) T zs; simpa using this, ((Below.refl _ _).alloc lR _).alloc (by simp) _⟩
theorem Bsg.later {w wr wr' : World} {cs zs : Array Value} {T : TypeId} (h : Bsg w cs zs T wr) (hb : Below wr.heap.size wr wr') : Bsg w cs zs T wr' := ⟨h.b0.below hb h.b0.lt, h.b1.below hb h.b1.lt, h.bl.trans (hb.mono h.bl.size)⟩
theorem sa (k d no p q : Int) (w : World) :
 Calls Tryz.prog 38 #[.agg #[.int .i64 k, .int .i64 d, .int .i64 no, .int .i64 p, .int .i64 q]] w fun e w' => ∃ b : Nat, e = .returned (.agg #[.string ⟨#[80]⟩, .slice (some ⟨b, 0, none⟩) 1 1]) ∧ Hid (Sl w' w'.heap.size 5 (some ⟨b, 0, none⟩) 1 1 (Sp.cells ⟨k, d, no, p, q⟩)) ∧ Hid (Below w.heap.size w w') := by
 have HF := iD ((Bsg.new w #[.int .i64 k, .int .i64 d, .int .i64 no, .int .i64 p, .int .i64 q] #[.string ⟨#[80]⟩, .slice (some ⟨w.heap.size + 1 + 1, 0, none⟩) 1 1] 34).later ((Below.refl _ _).alloc lR (.cells #[.int .i64 k, .int .i64 d, .int .i64 no, .int .i64 p, .int .i64 q] 31)))
 have HS : Hid (Sl (((w.alloc (.cells #[.int .i64 k, .int .i64 d, .int .i64 no, .int .i64 p, .int .i64 q] 31)).alloc (.cells #[.string ⟨#[80]⟩, .slice (some ⟨w.heap.size + 1 + 1, 0, none⟩) 1 1] 34)).alloc (.cells #[.int .i64 k, .int .i64 d, .int .i64 no, .int .i64 p, .int .i64 q] 31)) (w.heap.size + 1 + 1 + 1) 5 (some ⟨w.heap.size + 1 + 1, 0, none⟩) 1 1 (Sp.cells ⟨k, d, no, p, q⟩)) := Sl.newest (by simp) rfl (by decide)
 have hz : (((w.alloc (.cells #[.int .i64 k, .int .i64 d, .int .i64 no, .int .i64 p, .int .i64 q] 31)).alloc (.cells #[.string ⟨#[80]⟩, .slice (some ⟨w.heap.size + 1 + 1, 0, none⟩) 1 1] 34)).alloc (.cells #[.int .i64 k, .int .i64 d, .int .i64 no, .int .i64 p, .int .i64 q] 31)).heap.size = w.heap.size + 1 + 1 + 1 := by simp
 go_enter Tryz.func38, Tryz.ntmps38
 go_wp2_with fail
 generalize World.alloc (World.alloc (World.alloc w _) _) _ = x at *
 have q0 := HF.out.b1.c0
 have q1 := HF.out.b1.c1
 exact bodyPost_ret (v := .agg #[.string ⟨#[80]⟩, .slice (some ⟨w.heap.size + 1 + 1, 0, none⟩) 1 1]) (by simp [results, Tryz.results38, go_sem, q0, q1]) rfl ⟨_, rfl, by rw [hz]; exact HS.out, HF.out.bl⟩
def OpR (w : World) (Ax : Option Addr) (nx cx : Nat) (d p : Int) (gk : Nat) (ov iv : Value) (wr : World) : Prop :=
 (iv = .int .i64 0 ∧ ov = .slice none 0 0 ∧ gk = 1 ∨ ∃ (c : Nat) (A : Option Addr), iv = .int .i64 1 ∧ ov = .slice A 1 c ∧ gk = 0 ∧ Hid (Sl wr wr.heap.size 2 A 1 c [.int .i64 d, .int .i64 p])) ∧ Hid (Blk wr w.heap.size 34 #[.string ⟨#[80]⟩, .slice Ax nx cx]) ∧ Hid (Below w.heap.size w wr)
theorem lj (Ax : Option Addr) (c1 : Nat) (k d no p q : Int) (w : World) (hk : k = 1 ∨ k = 2) (hx : Sl w w.heap.size 5 Ax 1 c1 (Sp.cells ⟨k, d, no, p, q⟩)) :
 Calls Tryz.prog 86 #[.agg #[.string ⟨#[80]⟩, .slice Ax 1 c1]] w fun e w' => ∃ (b o c : Nat), e = .returned (.slice (some ⟨b, o, none⟩) 1 c) ∧ w'.cell? ⟨b, o, none⟩ = some (.int .i64 d) ∧ w'.cell? ⟨b, o + 1, none⟩ = some (.int .i64 k) ∧ Hid (Below w.heap.size w w') := by
 have HX := iD hx
 have HB := iD (Blk.new w 34 #[.string ⟨#[80]⟩, .slice Ax 1 c1])
 have HBL := iD ((Below.refl w.heap.size w).alloc lR (.cells #[.string ⟨#[80]⟩, .slice Ax 1 c1] 34))
 clear hx
 go_enter Tryz.func86, Tryz.ntmps86
 go_upto_region 3 with (fail)
 generalize World.alloc w _ = W at *
 refine oZ [(2, 0), (0, 2), (0, 0), (0, 1), (2, 0), (0, 3), (21, 1), (0, 0)] 3 9 (1) (OpR w Ax 1 c1 d k) (by (try dsimp only [gt]); exact ⟨.inl ⟨rfl, rfl, rfl⟩, HB, HBL⟩) (by kernel_rfl) ?_
 intro u1 p3 p9 gk wr a hrel ha J1 K1 hJ1 hK1
 dsimp only [zj, Go.Proofs.YtddddlhgaeameaaGreatDoor.v2, Nat.reduceAdd] at ha
 subst ha
 clear HB HBL
 obtain ⟨⟨rfl, rfl, rfl⟩ | ⟨c, A, rfl, rfl, rfl, HO⟩, HK, HL⟩ := hrel; rotate_left
 ·go_wp2_with fail
  go_ret
  obtain ⟨b, o, hA, -, hc⟩ := HO.out.2.2.2.2 (by decide)
  subst hA
  exact ⟨b, o, c, rfl, hc 0 _ rfl, hc 1 _ rfl, HL⟩
 obtain ⟨b, o, hA, hb, hc⟩ := HX.out.2.2.2.2 (by decide)
 subst hA
 have HLC : ∀ j u, (Sp.cells ⟨k, d, no, p, q⟩)[j]? = some u → wr.cell? ⟨b, o + j, none⟩ = some u := fun j u h => (HL.out.cell (p := ⟨b, o + j, none⟩) hb).trans (hc j u h)
 have k1 := HK.out.c1
 have c0 : wr.cell? ⟨b, o, none⟩ = some (.int .i64 k) := HLC 0 _ rfl
 have c1' : wr.cell? ⟨b, o + 1, none⟩ = some (.int .i64 d) := HLC 1 _ rfl
 have c2 : wr.cell? ⟨b, o + 2, none⟩ = some (.int .i64 no) := HLC 2 _ rfl
 have c3 : wr.cell? ⟨b, o + 3, none⟩ = some (.int .i64 p) := HLC 3 _ rfl
 have c4 : wr.cell? ⟨b, o + 4, none⟩ = some (.int .i64 q) := HLC 4 _ rfl
 clear hc hb HLC
 go_upto_region 5 with (fail)
 clear k1 c0 c1' c2 c3 c4
 have HV := iD (Blk.new wr 31 #[.int .i64 k, .int .i64 d, .int .i64 no, .int .i64 p, .int .i64 q])
 have HL4 := iD (HL.out.alloc HL.out.size (.cells #[.int .i64 k, .int .i64 d, .int .i64 no, .int .i64 p, .int .i64 q] 31))
 have HK4 := iD (HK.out.alloc (.cells #[.int .i64 k, .int .i64 d, .int .i64 no, .int .i64 p, .int .i64 q] 31))
 clear HL HK
 generalize World.alloc wr _ = V at *
 obtain ⟨bq, hbq⟩ : ∃ x, x = wr.heap.size := ⟨_, rfl⟩
 rw [← hbq] at HV ⊢
 clear hbq
 have e0 := HV.out.c0
 have e1 := HV.out.c1
 rcases hk with rfl | rfl
 ·go_upto_region 7 with (fail)
  go_wp2_with (at_builtin; go_must (refine zT rfl (.tmp 17) (.tmp 21) rfl jY (by rfl) (World.ownsRow_nil _ (w.heap.size + 1) _ _) (by rfl) (Sl.newest (n := 1) rfl rfl (by decide)) (by simp [Value.oneCell']) (by decide) (by decide) (by have := HL4.out.size; simp; omega) ?_; intro A1 c2 w6 hown6 hgr6 hat6))
  have HLA := iD (HL4.out.alloc HL4.out.size (.cells #[.int .i64 d, .int .i64 1] 66))
  have HL6 := iD (HLA.out.trans ((ze hgr6).mono HLA.out.size))
  have HK6 := iD ((HK4.out.alloc (.cells #[.int .i64 d, .int .i64 1] 66)).below (ze hgr6) (by have := HK4.out.lt; simp; omega))
  have HS6 : Hid (Sl w6 w6.heap.size 2 A1 1 c2 [.int .i64 d, .int .i64 1]) := Sl.of_own hown6
  clear hown6 hgr6 hat6
  refine Handed.intro (0) (by omega) (hJ1 _ _ _ (lG.back 3 9 ?_ (by kernel_rfl)))
  dsimp only [gt]
  exact ⟨.inr ⟨c2, A1, rfl, rfl, rfl, HS6⟩, HK6, HL6⟩
 ·go_upto_region 9 with (fail)
  go_wp2_with (at_builtin; go_must (refine zT rfl (.tmp 25) (.tmp 29) rfl jY (by rfl) (World.ownsRow_nil _ (w.heap.size + 1) _ _) (by rfl) (Sl.newest (n := 1) rfl rfl (by decide)) (by simp [Value.oneCell']) (by decide) (by decide) (by have := HL4.out.size; simp; omega) ?_; intro A1 c2 w6 hown6 hgr6 hat6))
  have HLA := iD (HL4.out.alloc HL4.out.size (.cells #[.int .i64 d, .int .i64 2] 66))
  have HL6 := iD (HLA.out.trans ((ze hgr6).mono HLA.out.size))
  have HK6 := iD ((HK4.out.alloc (.cells #[.int .i64 d, .int .i64 2] 66)).below (ze hgr6) (by have := HK4.out.lt; simp; omega))
  have HS6 : Hid (Sl w6 w6.heap.size 2 A1 1 c2 [.int .i64 d, .int .i64 2]) := Sl.of_own hown6
  clear hown6 hgr6 hat6
  refine Handed.intro (0) (by omega) (hJ1 _ _ _ (lG.back 3 9 ?_ (by kernel_rfl)))
  dsimp only [gt]
  exact ⟨.inr ⟨c2, A1, rfl, rfl, rfl, HS6⟩, HK6, HL6⟩
theorem uP (k d no p q : Int) (w : World) (hk : k = 1 ∨ k = 2) :
 Calls Tryz.prog 61 #[.agg #[.int .i64 k, .int .i64 d, .int .i64 no, .int .i64 p, .int .i64 q]] w fun e w' => e = .returned (.agg #[.int .i64 d, .int .i64 k]) ∧ Below w.heap.size w w' := by
 have HB := iD (Bsg.new w #[.int .i64 k, .int .i64 d, .int .i64 no, .int .i64 p, .int .i64 q] #[.int .i64 0, .int .i64 0] 66)
 go_enter Tryz.func61, Tryz.ntmps61
 go_upto_region 1 with (fail)
 generalize World.alloc (World.alloc w _) _ = W at *
 have c0 := HB.out.b0.c0
 have c1 := HB.out.b0.c1
 have c2 := HB.out.b0.c2
 have c3 := HB.out.b0.c3
 have c4 := HB.out.b0.c4
 go_wp2_with fail
 clear c0 c1 c2 c3 c4
 refine (sa k d no p q W).mono ?_
 rintro e w1 ⟨b, rfl, hs, hb1⟩
 have HB1 := iD (HB.out.later hb1.out)
 have HO := iD (lj (some ⟨b, 0, none⟩) 1 k d no p q w1 hk hs.out)
 clear hs hb1 HB
 go_wp2_with fail
 refine HO.out.mono ?_
 rintro e w2 ⟨b2, o, c, rfl, h1, h2, hb2⟩
 have HB2 := iD (HB1.out.later hb2.out)
 clear hb2 HB1 HO
 have f0 := HB2.out.b1.cell 0
 have f1 := HB2.out.b1.cell 1
 have y0 := HB2.out.b1.frozen 0
 have y1 := HB2.out.b1.frozen 1
 have HE : Hid (Blk ((w2.setCell ⟨w.heap.size + 1, 0, none⟩ (.int .i64 d)).setCell ⟨w.heap.size + 1, 1, none⟩ (.int .i64 k)) (w.heap.size + 1) 66 #[.int .i64 d, .int .i64 k]) := (HB2.out.b1.set 0 _).set 1 _
 have HEL : Hid (Below w.heap.size w ((w2.setCell ⟨w.heap.size + 1, 0, none⟩ (.int .i64 d)).setCell ⟨w.heap.size + 1, 1, none⟩ (.int .i64 k))) := (HB2.out.bl.setCell (by simp) _).setCell (by simp) _
 go_wp2_with fail
 generalize World.setCell (World.setCell w2 _ _) _ _ = x at *
 have q0 := HE.out.c0
 have q1 := HE.out.c1
 exact bodyPost_ret (v := .agg #[.int .i64 d, .int .i64 k]) (by simp [results, Tryz.results61, go_sem, q0, q1]) rfl ⟨rfl, HEL.out⟩
structure Bop (w : World) (nt gr op : Array Value) (wr : World) : Prop where
 b0 : Blk wr w.heap.size 26 nt
 b1 : Blk wr (w.heap.size + 1) 29 gr
 b2 : Blk wr (w.heap.size + 2) 66 op
 b3 : Blk wr (w.heap.size + 3) 29 #[.int .i64 0, .slice none 0 0, .slice none 0 0]
 bl : Below w.heap.size w wr
theorem jM (w : World) (T0 T1 T2 T3 : TypeId) (a b c d : Array Value) : Blk ((((w.alloc (.cells a T0)).alloc (.cells b T1)).alloc (.cells c T2)).alloc (.cells d T3)) w.heap.size T0 a ∧ Blk ((((w.alloc (.cells a T0)).alloc (.cells b T1)).alloc (.cells c T2)).alloc (.cells d T3)) (w.heap.size + 1) T1 b ∧ Blk ((((w.alloc (.cells a T0)).alloc (.cells b T1)).alloc (.cells c T2)).alloc (.cells d T3)) (w.heap.size + 2) T2 c ∧ Blk ((((w.alloc (.cells a T0)).alloc (.cells b T1)).alloc (.cells c T2)).alloc (.cells d T3)) (w.heap.size + 3) T3 d ∧ Below w.heap.size w ((((w.alloc (.cells a T0)).alloc (.cells b T1)).alloc (.cells c T2)).alloc (.cells d T3)) := by
 refine ⟨(((Blk.new w T0 a).alloc _).alloc _).alloc _, ?_, ?_, ?_, ((((Below.refl _ _).alloc lR _).alloc (by simp) _).alloc (by simp; omega) _).alloc (by simp; omega) _⟩
 ·have := ((Blk.new (w.alloc (.cells a T0)) T1 b).alloc (.cells c T2)).alloc (.cells d T3); simpa using this
 ·have := (Blk.new ((w.alloc (.cells a T0)).alloc (.cells b T1)) T2 c).alloc (.cells d T3); simpa using this
 ·have := Blk.new (((w.alloc (.cells a T0)).alloc (.cells b T1)).alloc (.cells c T2)) T3 d; simpa using this
theorem Bop.new (w : World) (nt gr op : Array Value) : Bop w nt gr op ((((w.alloc (.cells nt 26)).alloc (.cells gr 29)).alloc (.cells op 66)).alloc (.cells #[.int .i64 0, .slice none 0 0, .slice none 0 0] 29)) := by
 obtain ⟨h0, h1, h2, h3, h4⟩ := jM w 26 29 66 29 nt gr op #[.int .i64 0, .slice none 0 0, .slice none 0 0]
 exact ⟨h0, h1, h2, h3, h4⟩
theorem Bop.fin {w wr : World} {nt op : Array Value} {x y z : Value} (h : Bop w nt #[x, y, z] op wr) : Blk (((wr.setCell ⟨w.heap.size + 3, 0, none⟩ x).setCell ⟨w.heap.size + 3, 1, none⟩ y).setCell ⟨w.heap.size + 3, 2, none⟩ z) (w.heap.size + 3) 29 #[x, y, z] ∧ Below w.heap.size w (((wr.setCell ⟨w.heap.size + 3, 0, none⟩ x).setCell ⟨w.heap.size + 3, 1, none⟩ y).setCell ⟨w.heap.size + 3, 2, none⟩ z) :=
 ⟨((h.b3.set 0 _).set 1 _).set 2 _, ((h.bl.setCell (by simp) _).setCell (by simp) _).setCell (by simp) _⟩
theorem Bop.cut {w wr : World} {nt op : Array Value} {x y z u : Value} (h : Bop w nt #[x, y, z] op wr) : Bop w nt #[x, y, u] op (wr.setCell ⟨w.heap.size + 1, 2, none⟩ u) :=
 ⟨h.b0.far (by simp) _, h.b1.set 2 _, h.b2.far (by simp) _, h.b3.far (by simp) _, h.bl.setCell (by simp) _⟩
theorem jL {ds : List Dv} {d : Int} {x : Dv} (hx : ds[d.toNat]? = some x) (k : Int) : rF ds k d = (decide (k = 2) && !decide (x.kind = 4)) := by unfold rF; rw [hx]; simp
def oC (A : Option Addr) (n c : Nat) (b : Bool) : Value := if b then .slice none 0 0 else .slice A n c
theorem tB (An Ad Al Ap : Option Addr) (nn cn nd cd nl cl np cp : Nat) (ds : List Dv) (co d k : Int) (w : World) (hd : Sl w w.heap.size 5 Ad nd cd (ds.flatMap Dv.cells)) (hk : k = 1 ∨ k = 2) (h0 : 0 ≤ d) (h1 : d < nd) :
 Calls Tryz.prog 63 #[.agg #[.slice An nn cn, .slice Ad nd cd], .agg #[.int .i64 co, .slice Al nl cl, .slice Ap np cp], .agg #[.int .i64 d, .int .i64 k]] w fun e w' => e = .returned (.agg #[.int .i64 co, .slice Al nl cl, oC Ap np cp (rF ds k d)]) ∧ Below w.heap.size w w' := by
 have HB := iD (Bop.new w #[.slice An nn cn, .slice Ad nd cd] #[.int .i64 co, .slice Al nl cl, .slice Ap np cp] #[.int .i64 d, .int .i64 k])
 obtain ⟨i, rfl⟩ := Int.eq_ofNat_of_zero_le h0
 obtain ⟨b, o, x, hA, hb, hx, hc⟩ := hd.at (fun _ => rfl) (by decide) (show i < nd by omega)
 subst hA
 have HCE : Hid (rF ds k i = (decide (k = 2) && !decide (x.kind = 4))) := jL (by simpa using hx) k
 have HKD : Hid (w.cell? ⟨b, o + i * 5 + 1, none⟩ = some (.int .i64 x.kind)) := hc 1 _ rfl
 clear hd hc hx
 go_enter Tryz.func63, Tryz.ntmps63
 go_upto_region 1 with (fail)
 generalize World.alloc (World.alloc (World.alloc (World.alloc w _) _) _) _ = W at *
 rw [show w.heap.size + 1 + 1 = w.heap.size + 2 from rfl, show w.heap.size + 2 + 1 = w.heap.size + 3 from rfl]
 have p0 := HB.out.b2.c0
 have p1 := HB.out.b2.c1
 have k1 := HB.out.b0.c1
 have kd : W.cell? ⟨b, o + i * 5 + 1, none⟩ = some (.int .i64 x.kind) := (HB.out.bl.cell (p := ⟨b, o + i * 5 + 1, none⟩) hb).trans HKD.out
 have g0 := HB.out.b1.c0
 have g1 := HB.out.b1.c1
 have g2 := HB.out.b1.c2
 rcases hk with rfl | rfl
 ·have HV : Hid (rF ds 1 i = false) := by unfold Hid; rw [HCE.out]; rfl
  have d0 := HB.out.b3.cell 0
  have d1 := HB.out.b3.cell 1
  have d2 := HB.out.b3.cell 2
  have y0 := HB.out.b3.frozen 0
  have y1 := HB.out.b3.frozen 1
  have y2 := HB.out.b3.frozen 2
  have HE := iD (HB.out.fin)
  go_wp2_with fail
  generalize World.setCell (World.setCell (World.setCell W _ _) _ _) _ _ = z at *
  have q0 := HE.out.1.c0
  have q1 := HE.out.1.c1
  have q2 := HE.out.1.c2
  exact bodyPost_ret (v := .agg #[.int .i64 co, .slice Al nl cl, .slice Ap np cp]) (by simp [results, Tryz.results63, go_sem, q0, q1, q2]) rfl ⟨by rw [HV.out]; rfl, HE.out.2⟩
 by_cases h4 : x.kind = 4
 ·have HV : Hid (rF ds 2 i = false) := by unfold Hid; rw [HCE.out]; simp [h4]
  have q4 : (x.kind != 4) = false := by simp [h4]
  rw [h4] at kd
  clear h4 q4
  have d0 := HB.out.b3.cell 0
  have d1 := HB.out.b3.cell 1
  have d2 := HB.out.b3.cell 2
  have y0 := HB.out.b3.frozen 0
  have y1 := HB.out.b3.frozen 1
  have y2 := HB.out.b3.frozen 2
  have HE := iD (HB.out.fin)
  go_wp2_with fail
  generalize World.setCell (World.setCell (World.setCell W _ _) _ _) _ _ = z at *
  have q0 := HE.out.1.c0
  have q1 := HE.out.1.c1
  have q2 := HE.out.1.c2
  exact bodyPost_ret (v := .agg #[.int .i64 co, .slice Al nl cl, .slice Ap np cp]) (by simp [results, Tryz.results63, go_sem, q0, q1, q2]) rfl ⟨by rw [HV.out]; rfl, HE.out.2⟩
 have HV : Hid (rF ds 2 i = true) := by unfold Hid; rw [HCE.out]; simp [h4]
 have q4 : (x.kind != 4) = true := by simpa using h4
 have y2 := HB.out.b1.frozen 2
 have HBX := iD (HB.out.cut (u := .slice none 0 0))
 go_upto_region 3 with (fail)
 clear p0 p1 k1 kd g0 g1 g2 y2 q4 h4
 generalize World.setCell W _ _ = X at *
 have g0 := HBX.out.b1.c0
 have g1 := HBX.out.b1.c1
 have g2 := HBX.out.b1.c2
 have d0 := HBX.out.b3.cell 0
 have d1 := HBX.out.b3.cell 1
 have d2 := HBX.out.b3.cell 2
 have y0 := HBX.out.b3.frozen 0
 have y1 := HBX.out.b3.frozen 1
 have y2 := HBX.out.b3.frozen 2
 have HE := iD (HBX.out.fin)
 go_wp2_with fail
 generalize World.setCell (World.setCell (World.setCell X _ _) _ _) _ _ = z at *
 have q0 := HE.out.1.c0
 have q1 := HE.out.1.c1
 have q2 := HE.out.1.c2
 exact bodyPost_ret (v := .agg #[.int .i64 co, .slice Al nl cl, .slice none 0 0]) (by simp [results, Tryz.results63, go_sem, q0, q1, q2]) rfl ⟨by rw [HV.out]; rfl, HE.out.2⟩
end
end Go.Proofs.YtddddlhgaeameaaGreatDoor
