import Derived.Test.YtddddlhgaeameaaGreatDoorJ27
import Derived.Test.YtddddlhgaeameaaGreatDoorIns
import Derived.Lib.EndianMore
set_option maxRecDepth 100000
set_option maxHeartbeats 16000000
namespace Go.Proofs.YtddddlhgaeameaaGreatDoor
open Go.RowKit Tryz
variable {ns : List Nd} {ds : List Dv} {pr s Bw : List Int} {co d v : Int} {ls : List Lk} {xs : List Sp} {c i n nd nn size : Nat} {a b u x y z : Value} {W w wr wr' : World} {gr nt st : Array Value} {A : Option Addr}
def yC (ns : List Nd) (ds : List Dv) (co : Int) (ls : List Lk) (pr : List Int) : Int :=
 if co < 0 ∨ 7 < co then 5 else if zH ns ds ls ≠ 0 then zH ns ds ls else if yV ns.length (-1) pr = false then 7 else 0
def yE (ns : List Nd) (ds : List Dv) (s : List Int) (co : Int) (ls : List Lk) (pr : List Int) (nm : ByteArray) (xs : List Sp) : Int :=
 if zG ns ds s ≠ 0 then zG ns ds s else if yC ns ds co ls pr ≠ 0 then yC ns ds co ls pr else yc ns ds nm xs
def xR (pr : List Int) (v : Int) : List Int := if v ∈ pr then pr else pr.takeWhile (fun x => decide (x < v)) ++ v :: pr.dropWhile (fun x => decide (x < v))
noncomputable def FP (ns : List Nd) (ds : List Dv) (s : List Int) (d p co : Int) (ls : List Lk) (pr : List Int) : List Int :=
 match ds[d.toNat]? with
 | some x => uq ns.length ns ds s d.toNat p co ls pr x
 | none => []
def uu (ds : List Dv) (k d : Int) : Bool := decide (k = 2) && !decide ((ds[d.toNat]?.map Dv.kind) = some 4)
structure Sm where
 s : List Int
 ls : List Lk
 pr : List Int
structure So where
 h : List Int
 t : Sm
 ok : Bool
noncomputable def za (ns : List Nd) (ds : List Dv) (co : Int) (t : Sm) (x : Sp) : So :=
 if x.kind = 1 ∨ x.kind = 2 then ⟨FP ns ds t.s x.dev x.kind co t.ls t.pr, ⟨t.s.set x.dev.toNat x.kind, t.ls, if uu ds x.kind x.dev then [] else t.pr⟩, true⟩
 else if x.kind = 5 then (if JN (zW ns.length ds t.s) x.node then ⟨[8], t, true⟩ else ⟨[], ⟨t.s, t.ls, xR t.pr x.node⟩, true⟩)
 else if x.kind = 4 then
  match wR x.dev x.key t.ls with
  | none => ⟨[4], t, true⟩
  | some i => ⟨[], ⟨t.s, t.ls.eraseIdx i, t.pr⟩, true⟩
 else if t.s.getD x.dev.toNat 0 ≠ x.pos then ⟨[8], t, false⟩
 else if x.kind = 6 then ⟨[], t, true⟩
 else if zf ns ds t.ls ⟨x.dev, x.pos, x.key⟩ ≠ 0 then ⟨[4], t, true⟩ else ⟨[], ⟨t.s, xy ⟨x.dev, x.pos, x.key⟩ t.ls, t.pr⟩, true⟩
structure Fn where
 st : Int
 hz : Int
deriving DecidableEq
def Fn.cells (f : Fn) : List Value := [.int .i64 f.st, .int .i64 f.hz]
def yD (i : Nat) (h : List Int) : List Fn := h.map fun z => ⟨i, z⟩
def uY (Bw : List Int) (x : Sp) : Bool := (decide (x.kind = 1) || decide (x.kind = 2)) && decide (x.dev ∈ Bw)
noncomputable def yU (ns : List Nd) (ds : List Dv) (co : Int) (Bw : List Int) : Nat → List Fn → Sm → List Sp → List Fn × Sm × Nat
 | i, out, t, [] => (out, t, i)
 | i, out, t, x :: r =>
  if uY Bw x then (out, t, i)
  else if (za ns ds co t x).ok then yU ns ds co Bw (i + 1) (out ++ yD i (za ns ds co t x).h) (za ns ds co t x).t r
  else (out ++ yD i (za ns ds co t x).h, (za ns ds co t x).t, i)
structure ua (ns : List Nd) (ds : List Dv) (t : Sm) : Prop where
 s : zG ns ds t.s = 0
 l : zH ns ds t.ls = 0
 p : yV ns.length (-1) t.pr = true
theorem vx {nm : ByteArray} (h : yE ns ds s co ls pr nm xs = 0) :
 ua ns ds ⟨s, ls, pr⟩ ∧ (0 ≤ co ∧ co ≤ 7) ∧ xs.length ≤ 64 ∧ zn ns.length ds.length xs = 0 := by
 unfold yE at h;split at h
 ·next h1 => exact absurd h h1
 next h1 =>
 split at h
 ·next h2 => exact absurd h h2
 next h2 =>
 have h2 : yC ns ds co ls pr = 0 := by simpa using h2
 unfold yC at h2;split at h2
 ·cases h2
 next g1 =>
 split at h2
 ·next g2 => exact absurd h2 g2
 next g2 =>
 split at h2
 ·cases h2
 next g3 =>
 unfold yc at h;split at h
 ·next h3 => exact absurd h h3
 split at h
 ·cases h
 split at h
 ·cases h
 next h5 => exact ⟨⟨by simpa using h1, by simpa using g2, by simpa using g3⟩, by omega, by omega, h⟩
theorem vS : ∀ {xs : List Sp}, zn nn nd xs = 0 → ∀ x ∈ xs, zc nn nd x = 0
 | [], _, x, hx => by cases hx
 | y :: r, h, x, hx => by
  unfold zn at h;split at h
  ·next h1 => exact absurd h h1
  next h1 =>
  rcases List.mem_cons.mp hx with rfl | hx
  ·simpa using h1
  ·exact vS h x hx
theorem xd {x : Sp} (h : zc nn nd x = 0) : (1 ≤ x.kind ∧ x.kind ≤ 6) ∧ (x.kind ≠ 5 → 0 ≤ x.dev ∧ x.dev < nd) ∧ (x.kind = 5 → 0 ≤ x.node ∧ x.node < nn) ∧ (x.kind = 3 ∨ x.kind = 6 → x.pos = 1 ∨ x.pos = 2) ∧ (x.kind = 3 ∨ x.kind = 4 → 0 ≤ x.key ∧ x.key ≤ 65536) := by
 unfold zc at h;split at h
 ·cases h
 next h1 =>
 split at h
 ·cases h
 next h2 =>
 split at h
 ·cases h
 next h3 =>
 split at h
 ·cases h
 next h4 =>
 split at h
 ·cases h
 next h5 =>
 have e1 : x.posB = true ↔ x.kind = 3 ∨ x.kind = 6 := by unfold Sp.posB; simp
 have e2 : x.keyB = true ↔ x.kind = 3 ∨ x.kind = 4 := by unfold Sp.keyB; simp
 rw [e1] at h4;rw [e2] at h5;refine ⟨by omega, fun hk => by omega, fun hk => by omega, fun hk => ?_, fun hk => by omega⟩;by_cases hp : x.pos = 1
 ·exact .inl hp
 ·by_cases PI : x.pos = 2
  ·exact .inr PI
  ·exact absurd ⟨hk, hp, PI⟩ h4
theorem pH (h : zG ns ds s = 0) (hv : v = 1 ∨ v = 2) : zG ns ds (s.set i v) = 0 := by
 unfold zG at h ⊢;split at h
 ·next h1 => exact absurd h h1
 next h1 =>
 rw [if_neg h1];split at h
 ·cases h
 next h2 =>
 rw [if_neg (by simpa using h2)];split at h
 ·next h3 =>
  rw [if_pos];intro p hp;rcases List.mem_or_eq_of_mem_set hp with hp | rfl
  ·exact h3 p hp
  ·unfold posB; rcases hv with rfl | rfl <;> simp
 ·cases h
theorem tM (u : Int) : ∀ (p : Int) (l : List Int), yV u p l = true ↔ (∀ x ∈ l, p < x ∧ x < u) ∧ l.Pairwise (· < ·)
 | p, [] => by simp [yV]
 | p, x :: l => by
  rw [yV];simp only [Bool.and_eq_true, decide_eq_true_eq, List.pairwise_cons, List.mem_cons, forall_eq_or_imp];rw [tM u x l]
  constructor
  ·rintro ⟨⟨h1, h2⟩, h3, h4⟩;exact ⟨⟨⟨h1, h2⟩, fun y hy => ⟨by have := (h3 y hy).1; omega, (h3 y hy).2⟩⟩, fun y hy => (h3 y hy).1, h4⟩
  ·rintro ⟨⟨h1, h2⟩, h3, h4⟩;exact ⟨⟨h1.1, h1.2⟩, fun y hy => ⟨h3 y hy, (h2 y hy).2⟩, h4⟩
theorem oJ : ∀ (l : List Int) (p : Int), (∀ x ∈ l, p < x) → l.Pairwise (· < ·) → ∀ u, (∀ x ∈ l, x < u) → p < u → (l.length : Int) < u - p
 | [], p, _, _, u, _, h => by simp; omega
 | x :: l, p, h1, h2, u, h3, h4 => by
  obtain ⟨h5, h6⟩ := List.pairwise_cons.mp h2;have hx := h1 x List.mem_cons_self;have := oJ l x h5 h6 u (fun y hy => h3 y (List.mem_cons_of_mem _ hy)) (h3 x List.mem_cons_self);rw [List.length_cons]; push_cast; omega
theorem uA {u : Nat} {l : List Int} (h : yV u (-1) l = true) : l.length ≤ u := by
 obtain ⟨h1, h2⟩ := (tM u (-1) l).mp h;have := oJ l (-1) (fun x hx => (h1 x hx).1) h2 u (fun x hx => (h1 x hx).2) (by omega);omega
theorem lY {u : Int} (h : yV u (-1) pr = true) (h0 : 0 ≤ v) (h1 : v < u) : yV u (-1) (xR pr v) = true := by
 unfold xR;split
 ·exact h
 next hn =>
 rw [tM] at h ⊢;obtain ⟨h2, h3⟩ := h;have hsp := List.takeWhile_append_dropWhile (p := fun x => decide (x < v)) (l := pr)
 have ht : ∀ x ∈ pr.takeWhile (fun x => decide (x < v)), x < v := fun x hx => by
  have := List.all_takeWhile (p := fun x => decide (x < v)) (l := pr);rw [List.all_eq_true] at this;simpa using this x hx
 have hd : ∀ x ∈ pr.dropWhile (fun x => decide (x < v)), v < x := by
  rw [← hsp] at h3;rw [List.pairwise_append] at h3;rcases e : pr.dropWhile (fun x => decide (x < v)) with _ | ⟨y, r⟩
  ·intro x hx; cases hx
  ·rw [e] at h3
   have hy : ¬ y < v := by
    have := List.head_dropWhile_not (p := fun x => decide (x < v)) (l := pr) (by rw [e]; simp);simp only [e, List.head_cons, decide_eq_false_iff_not] at this;exact this
   have Ar : y ≠ v := fun e2 => hn (by rw [← hsp, e, e2]; simp)
   intro x hx;rcases List.mem_cons.mp hx with rfl | hx
   ·omega
   ·have := (List.pairwise_cons.mp h3.2.1).1 x hx; omega
 have hm : ∀ x, x ∈ pr.takeWhile (fun x => decide (x < v)) ∨ x ∈ pr.dropWhile (fun x => decide (x < v)) → x ∈ pr := fun x hx => by rw [← hsp]; exact List.mem_append.mpr hx
 refine ⟨fun x hx => ?_, ?_⟩
 ·rcases List.mem_append.mp hx with hx | hx
  ·exact h2 x (hm x (.inl hx))
  ·rcases List.mem_cons.mp hx with rfl | hx
   ·omega
   ·exact h2 x (hm x (.inr hx))
 ·rw [← hsp, List.pairwise_append] at h3;rw [List.pairwise_append];refine ⟨h3.1, List.pairwise_cons.mpr ⟨hd, h3.2.1⟩, fun a ha b hb => ?_⟩;rcases List.mem_cons.mp hb with rfl | hb
  ·exact ht a ha
  ·have := ht a ha; have := hd b hb; omega
theorem oC (hc : zR ns ds = 0) (h : wQ ds ls) : zH ns ds ls = 0 := by
 unfold zH;rw [if_neg (by simp [hc])];rw [if_neg (by have := h.1; omega)];exact jS h
theorem add_zero {k : Lk} (h : zf ns ds ls k = 0) : wQ ds (xy k ls) := by
 unfold zf at h;split at h
 ·next h1 => exact absurd h h1
 next h1 =>
 split at h
 ·next h2 => exact absurd h h2
 next h2 =>
 split at h
 ·cases h
 next h3 =>
 split at h
 ·cases h
 next h4 =>
 split at h
 ·cases h
 next h5 =>
 have hg := yW (by simpa using h1);exact rT hg (by simpa using h2) (by simpa using h3) (by simpa using h4) (by have := hg.1; omega)
theorem me {t : Sm} {x : Sp} (h : ua ns ds t) (hx : zc ns.length ds.length x = 0) : ua ns ds (za ns ds co t x).t := by
 obtain ⟨h1, h2, h3, h4, h5⟩ := xd hx;have hc := (zQ h.s).1;unfold za;split
 ·next hk => exact ⟨pH h.s hk, h.l, by dsimp only; split <;> first | rfl | exact h.p⟩
 split
 ·next hk =>
  split
  ·exact h
  ·exact ⟨h.s, h.l, lY h.p (h3 hk).1 (h3 hk).2⟩
 split
 ·split
  ·exact h
  ·exact ⟨h.s, oC hc (jR (yW h.l) (List.eraseIdx_sublist _ _)), h.p⟩
 split
 ·exact h
 split
 ·exact h
 split
 ·exact h
 ·next h0 => exact ⟨h.s, oC hc (add_zero (by simpa using h0)), h.p⟩
theorem sM {out : List Fn} {t : Sm} {x : Sp} (hx : xs[i]? = some x) (hs : uY Bw x = false) (ho : (za ns ds co t x).ok = true) :
 yU ns ds co Bw i out t (xs.drop i) = yU ns ds co Bw (i + 1) (out ++ yD i (za ns ds co t x).h) (za ns ds co t x).t (xs.drop (i + 1)) := by
 obtain ⟨hi, rfl⟩ := List.getElem?_eq_some_iff.mp hx;rw [List.drop_eq_getElem_cons hi, yU, if_neg (by simp [hs]), if_pos ho]
theorem sL {out : List Fn} {t : Sm} {x : Sp} (hx : xs[i]? = some x) (hs : uY Bw x = true) :
 yU ns ds co Bw i out t (xs.drop i) = (out, t, i) := by
 obtain ⟨hi, rfl⟩ := List.getElem?_eq_some_iff.mp hx;rw [List.drop_eq_getElem_cons hi, yU, if_pos hs]
theorem rD {out : List Fn} {t : Sm} {x : Sp} (hx : xs[i]? = some x) (hs : uY Bw x = false) (ho : (za ns ds co t x).ok = false) :
 yU ns ds co Bw i out t (xs.drop i) = (out ++ yD i (za ns ds co t x).h, (za ns ds co t x).t, i) := by
 obtain ⟨hi, rfl⟩ := List.getElem?_eq_some_iff.mp hx;rw [List.drop_eq_getElem_cons hi, yU, if_neg (by simp [hs]), if_neg (by simp [ho])]
theorem qH {out : List Fn} {t : Sm} (hx : xs.length ≤ i) : yU ns ds co Bw i out t (xs.drop i) = (out, t, i) := by
 rw [List.drop_eq_nil_of_le hx, yU]
theorem kR (A : Option Addr) (n c B : Nat) (l : List Int) (u : Int) (w : World) (hs : Sl w B 1 A n c (zF l)) :
 Calls prog 82 #[.slice A n c, .int .i64 u] w fun e w' => e = .returned (.bool (yV u (-1) l)) ∧ w = w' := by
 have HC := iD (nj A n c B l u w hs)
 go_enter func82, ntmps82
 go_wp2_with fail
 refine HC.mono ?_;rintro e w1 ⟨rfl, rfl⟩
 go_wp2_with fail
 go_ret;exact ⟨rfl, rfl⟩
structure Tz (w : World) (nt gr : Array Value) (W : World) : Prop where
 bl : bW w W
 bn : AJ W w.heap.size 26 nt
 bg : AJ W (w.heap.size + 1) 29 gr
theorem Tz.new (w : World) (nt gr : Array Value) : Tz w nt gr ((w.alloc (.cells nt 26)).alloc (.cells gr 29)) :=
 ⟨((Below.refl _ _).alloc lR _).alloc (by simp) _, (AJ.new _ _ _).alloc _, by have := AJ.new (w.alloc (.cells nt 26)) 29 gr; simpa using this⟩
theorem Tz.later {W' : World} (h : Tz w nt gr W) (hb : bW W W') : Tz w nt gr W' := ⟨h.bl.trans (hb.mono h.bl.size), h.bn.below hb h.bn.lt, h.bg.below hb h.bg.lt⟩
structure Ty (w : World) (nt gr pg : Array Value) (W : World) : Prop where
 bl : bW w W
 bn : AJ W w.heap.size 26 nt
 bg : AJ W (w.heap.size + 1) 29 gr
 bp : AJ W (w.heap.size + 2) 34 pg
theorem Ty.new (w : World) (nt gr pg : Array Value) : Ty w nt gr pg (((w.alloc (.cells nt 26)).alloc (.cells gr 29)).alloc (.cells pg 34)) :=
 ⟨(((Below.refl _ _).alloc lR _).alloc (by simp) _).alloc (by simp; omega) _, ((AJ.new _ _ _).alloc _).alloc _, by have := (AJ.new (w.alloc (.cells nt 26)) 29 gr).alloc (.cells pg 34); simpa using this,
  by have := AJ.new ((w.alloc (.cells nt 26)).alloc (.cells gr 29)) 34 pg; simpa using this⟩
theorem Ty.later {W' : World} {pg : Array Value} (h : Ty w nt gr pg W) (hb : bW W W') : Ty w nt gr pg W' := ⟨h.bl.trans (hb.mono h.bl.size), h.bn.below hb h.bn.lt, h.bg.below hb h.bg.lt, h.bp.below hb h.bp.lt⟩
structure uf (w : World) (An Ad As Al Ap Ax : Option Addr) (nn cn nd cd n c nl cl np cp nx cx : Nat) (ns : List Nd) (ds : List Dv) (s : List Int) (ls : List Lk) (pr : List Int) (nm : ByteArray) (xs : List Sp) : Prop where
 h : yp w An Ad As Al Ap nn cn nd cd n c nl cl np cp ns ds s ls pr
 x : Av w 5 Ax nx cx (xs.flatMap Sp.cells)
 m : nm.size ≤ 9223372036854775807
theorem uf.below {An Ad As Al Ap Ax : Option Addr} {cn cd nl cl np cp nx cx : Nat} {nm : ByteArray} (h : uf w An Ad As Al Ap Ax nn cn nd cd n c nl cl np cp nx cx ns ds s ls pr nm xs) (hb : bW w W) : uf W An Ad As Al Ap Ax nn cn nd cd n c nl cl np cp nx cx ns ds s ls pr nm xs :=
 ⟨h.h.below hb, (h.x.below hb lR).more hb.size, h.m⟩
theorem mJ (An Ad As Al Ap : Option Addr) (nn cn nd cd n c nl cl np cp : Nat) (ns : List Nd) (ds : List Dv) (s : List Int) (ls : List Lk) (pr : List Int) (co : Int) (w : World) (h : yp w An Ad As Al Ap nn cn nd cd n c nl cl np cp ns ds s ls pr) :
 Calls prog 59 #[.agg #[.slice An nn cn, .slice Ad nd cd], .agg #[.int .i64 co, .slice Al nl cl, .slice Ap np cp]] w fun e w' => e = .returned (.int .i64 (yC ns ds co ls pr)) ∧ bW w w' := by
 have HH := iD h;have HB := iD (Tz.new w #[.slice An nn cn, .slice Ad nd cd] #[.int .i64 co, .slice Al nl cl, .slice Ap np cp]);have DJ : ns.length = nn := h.hn.len (fun _ => rfl) (by decide);have Bq := h.hn.le;have HE : Hid (yC ns ds co ls pr = if co < 0 ∨ 7 < co then 5 else if zH ns ds ls ≠ 0 then zH ns ds ls else if yV nn (-1) pr = false then 7 else 0) := by unfold Hid yC; rw [DJ]
 clear h;by_cases h1 : co < 0
 ·have q1 : decide (co < 0) = true := by simpa using h1
  have HR : Hid (yC ns ds co ls pr = 5) := by unfold Hid; rw [HE.out, if_pos (.inl h1)]
  clear h1 HE HH
  go_enter func59, ntmps59
  go_wp2_with fail
  go_ret;exact ⟨zC (by rw [HR.out]), HB.bl⟩
 have q1 : decide (co < 0) = false := by simpa using h1
 by_cases h2 : 7 < co
 ·have q2 : decide (7 < co) = true := by simpa using h2
  have HR : Hid (yC ns ds co ls pr = 5) := by unfold Hid; rw [HE.out, if_pos (.inr h2)]
  clear h1 h2 HE HH
  go_enter func59, ntmps59
  go_wp2_with fail
  go_ret;exact ⟨zC (by rw [HR.out]), HB.bl⟩
 have q2 : decide (7 < co) = false := by simpa using h2
 have Ht : Hid (yC ns ds co ls pr = if zH ns ds ls ≠ 0 then zH ns ds ls else if yV nn (-1) pr = false then 7 else 0) := by unfold Hid; rw [HE.out, if_neg (by omega)]
 clear h1 h2 HE
 go_enter func59, ntmps59
 go_upto_region 3 with (fail);clear q1 q2;generalize World.alloc (World.alloc w _) _ = W at *;have HM := iD (HH.below HB.bl);have HC := iD (uo An Ad Al nn cn nd cd nl cl W.heap.size W.heap.size W.heap.size ns ds ls W HM.la HM.hn HM.hd HM.hl lR lR lR HM.sn HM.sd);obtain ⟨k0, k1⟩ := HB.bn.d2;have g1 := HB.bg.c1
 go_wp2_with fail
 clear k0 k1 g1;refine HC.mono ?_;rintro e w1 ⟨rfl, AX⟩;have AL := iD (HB.later AX);have ED := iD (HM.below AX);clear AX HB HM HC;by_cases hc : zH ns ds ls = 0; rotate_left
 ·have q1 : (zH ns ds ls != 0) = true := by simpa using hc
  have HR : Hid (yC ns ds co ls pr = zH ns ds ls) := by unfold Hid; rw [Ht.out, if_pos hc]
  clear hc
  go_wp2_with fail
  go_ret;exact ⟨zC (by rw [HR.out]), AL.bl⟩
 have Dn : Hid (yC ns ds co ls pr = if yV nn (-1) pr = false then 7 else 0) := by unfold Hid; rw [Ht.out, if_neg (by simp [hc])]
 rw [hc];clear hc Ht;have k0 := AL.bn.c0;have g2 := AL.bg.c2;have HZ := iD (kR Ap np cp w1.heap.size pr nn w1 ED.hp)
 go_wp2_with fail
 clear k0 g2;refine HZ.mono ?_;rintro e w2 ⟨rfl, hw⟩;have AQ : Below w1.heap.size w1 w2 := by rw [← hw]; exact Below.refl _ _
 clear hw;have AY := iD (AL.later AQ);clear AQ AL ED HZ;rcases hr : yV nn (-1) pr with _ | _
 ·have HR : Hid (yC ns ds co ls pr = 7) := by unfold Hid; rw [Dn.out, if_pos hr]
  clear hr
  go_wp2_with fail
  go_ret;exact ⟨zC (by rw [HR.out]), AY.bl⟩
 ·have HR : Hid (yC ns ds co ls pr = 0) := by unfold Hid; rw [Dn.out, if_neg (by simp [hr])]
  clear hr
  go_wp2_with fail
  go_ret;exact ⟨zC (by rw [HR.out]), AY.bl⟩
theorem oK (An Ad As Al Ap : Option Addr) (nn cn nd cd n c nl cl np cp : Nat) (ns : List Nd) (ds : List Dv) (s : List Int) (ls : List Lk) (pr : List Int) (co : Int) (w : World) (h : yp w An Ad As Al Ap nn cn nd cd n c nl cl np cp ns ds s ls pr) :
 Calls prog 68 #[.agg #[.slice An nn cn, .slice Ad nd cd], .agg #[.int .i64 co, .slice Al nl cl, .slice Ap np cp]] w fun e w' => e = .returned (.int .i64 (yC ns ds co ls pr)) ∧ bW w w' := by
 have HH := iD h;have HB := iD (Tz.new w #[.slice An nn cn, .slice Ad nd cd] #[.int .i64 co, .slice Al nl cl, .slice Ap np cp]);have DJ : ns.length = nn := h.hn.len (fun _ => rfl) (by decide);have Bq := h.hn.le;have HE : Hid (yC ns ds co ls pr = if co < 0 ∨ 7 < co then 5 else if zH ns ds ls ≠ 0 then zH ns ds ls else if yV nn (-1) pr = false then 7 else 0) := by unfold Hid yC; rw [DJ]
 clear h;by_cases h1 : co < 0
 ·have q1 : decide (co < 0) = true := by simpa using h1
  have HR : Hid (yC ns ds co ls pr = 5) := by unfold Hid; rw [HE.out, if_pos (.inl h1)]
  clear h1 HE HH
  go_enter func68, ntmps68
  go_wp2_with fail
  go_ret;exact ⟨zC (by rw [HR.out]), HB.bl⟩
 have q1 : decide (co < 0) = false := by simpa using h1
 by_cases h2 : 7 < co
 ·have q2 : decide (7 < co) = true := by simpa using h2
  have HR : Hid (yC ns ds co ls pr = 5) := by unfold Hid; rw [HE.out, if_pos (.inr h2)]
  clear h1 h2 HE HH
  go_enter func68, ntmps68
  go_wp2_with fail
  go_ret;exact ⟨zC (by rw [HR.out]), HB.bl⟩
 have q2 : decide (7 < co) = false := by simpa using h2
 have Ht : Hid (yC ns ds co ls pr = if zH ns ds ls ≠ 0 then zH ns ds ls else if yV nn (-1) pr = false then 7 else 0) := by unfold Hid; rw [HE.out, if_neg (by omega)]
 clear h1 h2 HE
 go_enter func68, ntmps68
 go_upto_region 3 with (fail);clear q1 q2;generalize World.alloc (World.alloc w _) _ = W at *;have HM := iD (HH.below HB.bl);have HC := iD (vy An Ad Al nn cn nd cd nl cl W.heap.size W.heap.size W.heap.size ns ds ls W HM.hn HM.hd HM.hl lR lR lR HM.sn HM.sd);obtain ⟨k0, k1⟩ := HB.bn.d2;have g1 := HB.bg.c1
 go_wp2_with fail
 clear k0 k1 g1;refine HC.mono ?_;rintro e w1 ⟨rfl, AX⟩;have AL := iD (HB.later AX);have ED := iD (HM.below AX);clear AX HB HM HC;by_cases hc : zH ns ds ls = 0; rotate_left
 ·have q1 : (zH ns ds ls != 0) = true := by simpa using hc
  have HR : Hid (yC ns ds co ls pr = zH ns ds ls) := by unfold Hid; rw [Ht.out, if_pos hc]
  clear hc
  go_wp2_with fail
  go_ret;exact ⟨zC (by rw [HR.out]), AL.bl⟩
 have Dn : Hid (yC ns ds co ls pr = if yV nn (-1) pr = false then 7 else 0) := by unfold Hid; rw [Ht.out, if_neg (by simp [hc])]
 rw [hc];clear hc Ht;have k0 := AL.bn.c0;have g2 := AL.bg.c2;have HZ := iD (kf Ap np cp w1.heap.size pr nn w1 ED.hp)
 go_wp2_with fail
 clear k0 g2;refine HZ.mono ?_;rintro e w2 ⟨rfl, q, hw⟩;have AQ : Below w1.heap.size w1 w2 := by rw [hw]; exact sS bR q
 clear hw;have AY := iD (AL.later AQ);clear AQ AL ED HZ;rcases hr : yV nn (-1) pr with _ | _
 ·have HR : Hid (yC ns ds co ls pr = 7) := by unfold Hid; rw [Dn.out, if_pos hr]
  clear hr
  go_wp2_with fail
  go_ret;exact ⟨zC (by rw [HR.out]), AY.bl⟩
 ·have HR : Hid (yC ns ds co ls pr = 0) := by unfold Hid; rw [Dn.out, if_neg (by simp [hr])]
  clear hr
  go_wp2_with fail
  go_ret;exact ⟨zC (by rw [HR.out]), AY.bl⟩
theorem sK (An Ad As Al Ap Ax : Option Addr) (nn cn nd cd n c nl cl np cp nx cx : Nat) (ns : List Nd) (ds : List Dv) (s : List Int) (ls : List Lk) (pr : List Int) (co : Int) (nm : ByteArray) (xs : List Sp) (w : World) (h : uf w An Ad As Al Ap Ax nn cn nd cd n c nl cl np cp nx cx ns ds s ls pr nm xs) :
 Calls prog 37 #[.agg #[.slice An nn cn, .slice Ad nd cd], .slice As n c, .agg #[.int .i64 co, .slice Al nl cl, .slice Ap np cp], .agg #[.string nm, .slice Ax nx cx]] w fun e w' => e = .returned (.int .i64 (yE ns ds s co ls pr nm xs)) ∧ bW w w' := by
 have HH := iD h;have HB := iD (Ty.new w #[.slice An nn cn, .slice Ad nd cd] #[.int .i64 co, .slice Al nl cl, .slice Ap np cp] #[.string nm, .slice Ax nx cx]);have HE : Hid (yE ns ds s co ls pr nm xs = if zG ns ds s ≠ 0 then zG ns ds s else if yC ns ds co ls pr ≠ 0 then yC ns ds co ls pr else yc ns ds nm xs) := rfl;clear h
 go_enter func37, ntmps37
 go_upto_region 1 with (fail);generalize World.alloc (World.alloc (World.alloc w _) _) _ = W at *;have HM := iD (HH.below HB.bl);have HC := iD (vc An Ad As nn cn nd cd n c W.heap.size W.heap.size W.heap.size ns ds s W HM.h.la HM.h.hn HM.h.hd HM.h.hs lR lR lR HM.h.sn HM.h.sd);obtain ⟨k0, k1⟩ := HB.bn.d2
 go_wp2_with fail
 clear k0 k1;refine HC.mono ?_;rintro e w1 ⟨rfl, AX⟩;have AL := iD (HB.later AX);have ED := iD (HM.below AX);clear AX HB HM HC;by_cases hc : zG ns ds s = 0; rotate_left
 ·have q1 : (zG ns ds s != 0) = true := by simpa using hc
  have HR : Hid (yE ns ds s co ls pr nm xs = zG ns ds s) := by unfold Hid; rw [HE.out, if_pos hc]
  clear hc
  go_wp2_with fail
  go_ret;exact ⟨zC (by rw [HR.out]), AL.bl⟩
 have Ht : Hid (yE ns ds s co ls pr nm xs = if yC ns ds co ls pr ≠ 0 then yC ns ds co ls pr else yc ns ds nm xs) := by unfold Hid; rw [HE.out, if_neg (by simp [hc])]
 rw [hc];clear hc HE;have HC := iD (mJ An Ad As Al Ap nn cn nd cd n c nl cl np cp ns ds s ls pr co w1 ED.h);obtain ⟨k0, k1⟩ := AL.bn.d2;obtain ⟨g0, g1, g2⟩ := AL.bg.d3
 go_wp2_with fail
 clear k0 k1 g0 g1 g2;refine HC.mono ?_;rintro e w2 ⟨rfl, AQ⟩;have AY := iD (AL.later AQ);have CG := iD (ED.below AQ);clear AQ AL ED HC;by_cases hc : yC ns ds co ls pr = 0; rotate_left
 ·have q1 : (yC ns ds co ls pr != 0) = true := by simpa using hc
  have HR : Hid (yE ns ds s co ls pr nm xs = yC ns ds co ls pr) := by unfold Hid; rw [Ht.out, if_pos hc]
  clear hc
  go_wp2_with fail
  go_ret;exact ⟨zC (by rw [HR.out]), AY.bl⟩
 have Dn : Hid (yE ns ds s co ls pr nm xs = yc ns ds nm xs) := by unfold Hid; rw [Ht.out, if_neg (by simp [hc])]
 rw [hc];clear hc Ht;have HC := iD (oP An Ad Ax nn cn nd cd nx cx ns ds nm xs w2 ⟨CG.h.hn, CG.h.hd, CG.x, CG.h.la, CG.h.sn, CG.h.sd, CG.m⟩);obtain ⟨k0, k1⟩ := AY.bn.d2;obtain ⟨p0, p1⟩ := AY.bp.d2
 go_wp2_with fail
 clear k0 k1 p0 p1;refine HC.mono ?_;rintro e w3 ⟨rfl, BJ⟩
 go_wp2_with fail
 go_ret;exact ⟨zC (by rw [Dn.out]), AY.bl.trans (BJ.mono AY.bl.size)⟩
theorem tL (An Ad As Al Ap Ax : Option Addr) (nn cn nd cd n c nl cl np cp nx cx : Nat) (ns : List Nd) (ds : List Dv) (s : List Int) (ls : List Lk) (pr : List Int) (co : Int) (nm : ByteArray) (xs : List Sp) (w : World) (h : uf w An Ad As Al Ap Ax nn cn nd cd n c nl cl np cp nx cx ns ds s ls pr nm xs) :
 Calls prog 42 #[.agg #[.slice An nn cn, .slice Ad nd cd], .slice As n c, .agg #[.int .i64 co, .slice Al nl cl, .slice Ap np cp], .agg #[.string nm, .slice Ax nx cx]] w fun e w' => e = .returned (.int .i64 (yE ns ds s co ls pr nm xs)) ∧ bW w w' := by
 have HH := iD h;have HB := iD (Ty.new w #[.slice An nn cn, .slice Ad nd cd] #[.int .i64 co, .slice Al nl cl, .slice Ap np cp] #[.string nm, .slice Ax nx cx]);have HE : Hid (yE ns ds s co ls pr nm xs = if zG ns ds s ≠ 0 then zG ns ds s else if yC ns ds co ls pr ≠ 0 then yC ns ds co ls pr else yc ns ds nm xs) := rfl;clear h
 go_enter func42, ntmps42
 go_upto_region 1 with (fail);generalize World.alloc (World.alloc (World.alloc w _) _) _ = W at *;have HM := iD (HH.below HB.bl);have HC := iD (vW An Ad As nn cn nd cd n c W.heap.size W.heap.size W.heap.size ns ds s W HM.h.hn HM.h.hd HM.h.hs lR lR lR HM.h.sn HM.h.sd);obtain ⟨k0, k1⟩ := HB.bn.d2
 go_wp2_with fail
 clear k0 k1;refine HC.mono ?_;rintro e w1 ⟨rfl, AX⟩;have AL := iD (HB.later AX);have ED := iD (HM.below AX);clear AX HB HM HC;by_cases hc : zG ns ds s = 0; rotate_left
 ·have q1 : (zG ns ds s != 0) = true := by simpa using hc
  have HR : Hid (yE ns ds s co ls pr nm xs = zG ns ds s) := by unfold Hid; rw [HE.out, if_pos hc]
  clear hc
  go_wp2_with fail
  go_ret;exact ⟨zC (by rw [HR.out]), AL.bl⟩
 have Ht : Hid (yE ns ds s co ls pr nm xs = if yC ns ds co ls pr ≠ 0 then yC ns ds co ls pr else yc ns ds nm xs) := by unfold Hid; rw [HE.out, if_neg (by simp [hc])]
 rw [hc];clear hc HE;have HC := iD (oK An Ad As Al Ap nn cn nd cd n c nl cl np cp ns ds s ls pr co w1 ED.h);obtain ⟨k0, k1⟩ := AL.bn.d2;obtain ⟨g0, g1, g2⟩ := AL.bg.d3
 go_wp2_with fail
 clear k0 k1 g0 g1 g2;refine HC.mono ?_;rintro e w2 ⟨rfl, AQ⟩;have AY := iD (AL.later AQ);have CG := iD (ED.below AQ);clear AQ AL ED HC;by_cases hc : yC ns ds co ls pr = 0; rotate_left
 ·have q1 : (yC ns ds co ls pr != 0) = true := by simpa using hc
  have HR : Hid (yE ns ds s co ls pr nm xs = yC ns ds co ls pr) := by unfold Hid; rw [Ht.out, if_pos hc]
  clear hc
  go_wp2_with fail
  go_ret;exact ⟨zC (by rw [HR.out]), AY.bl⟩
 have Dn : Hid (yE ns ds s co ls pr nm xs = yc ns ds nm xs) := by unfold Hid; rw [Ht.out, if_neg (by simp [hc])]
 rw [hc];clear hc Ht;have HC := iD (pP An Ad Ax nn cn nd cd nx cx ns ds nm xs w2 ⟨CG.h.hn, CG.h.hd, CG.x, CG.h.la, CG.h.sn, CG.h.sd, CG.m⟩);obtain ⟨k0, k1⟩ := AY.bn.d2;obtain ⟨p0, p1⟩ := AY.bp.d2
 go_wp2_with fail
 clear k0 k1 p0 p1;refine HC.mono ?_;rintro e w3 ⟨rfl, BJ⟩
 go_wp2_with fail
 go_ret;exact ⟨zC (by rw [Dn.out]), AY.bl.trans (BJ.mono AY.bl.size)⟩
theorem xf {base x : Nat} {e : TypeId} {xs : List Value} (h : w.ownsRow base e size (.slice A n c) n xs) (hx : x < base) : (w.setCell ⟨x, i, none⟩ u).ownsRow base e size (.slice A n c) n xs :=
 h.kept (zo _ _ _) (zj fun b e => by have := (h.lt b e).1; simp; omega)
def jq (w : World) (nl np : Nat) (co : Int) (ls : List Lk) (pr : List Int) (e : Ending) (w' : World) : Prop := ∃ (A1 A2 : Option Addr) (c1 c2 : Nat), e = .returned (.agg #[.int .i64 co, .slice A1 nl c1, .slice A2 np c2]) ∧ Hid (ze w' w.heap.size A1 nl c1 ls) ∧ Hid (zN w' w.heap.size A2 np c2 pr) ∧ Hid (bW w w')
structure Qk (w : World) (cf : Array Value) (wr : World) : Prop where
 b0 : AJ wr w.heap.size 29 cf
 b1 : AJ wr (w.heap.size + 1) 29 #[.int .i64 0, .slice none 0 0, .slice none 0 0]
 bl : bW w wr
theorem Qk.new (w : World) (cf : Array Value) : Qk w cf ((w.alloc (.cells cf 29)).alloc (.cells #[.int .i64 0, .slice none 0 0, .slice none 0 0] 29)) :=
 ⟨(AJ.new w _ _).alloc _, by have := AJ.new (w.alloc (.cells cf 29)) 29 #[.int .i64 0, .slice none 0 0, .slice none 0 0]; simpa using this, ((Below.refl _ _).alloc lR _).alloc (by simp) _⟩
theorem Qk.later {cf : Array Value} (h : Qk w cf wr) (hb : bW wr wr') : Qk w cf wr' := ⟨h.b0.below hb h.b0.lt, h.b1.below hb h.b1.lt, h.bl.trans (hb.mono h.bl.size)⟩
theorem Qk.cells (h : Qk w #[x, y, z] wr) : wr.cell? ⟨w.heap.size, 0, none⟩ = some x ∧ wr.cell? ⟨w.heap.size, 1, none⟩ = some y ∧ wr.cell? ⟨w.heap.size, 2, none⟩ = some z := ⟨h.b0.cell 0, h.b0.cell 1, h.b0.cell 2⟩
theorem uP (Al Ap : Option Addr) (nl cl np cp B : Nat) (co : Int) (ls : List Lk) (pr : List Int) (w : World) (hl : Sl w B 3 Al nl cl (ls.flatMap Lk.cells)) (hp : Sl w B 1 Ap np cp (zF pr)) (hB : B ≤ w.heap.size) (Gl : nl ≤ 1000000) (SN : np ≤ 1000000) :
 Calls prog 41 #[.agg #[.int .i64 co, .slice Al nl cl, .slice Ap np cp]] w (jq w nl np co ls pr) := by
 have JV : Hid (ls.length = nl) := hl.len (fun _ => rfl) (by decide);have NK : Hid (pr.length = np) := hp.len (fun _ => rfl) (by decide);have HB := iD (Qk.new w #[.int .i64 co, .slice Al nl cl, .slice Ap np cp]);have HL := iD hl;have HP := iD hp;clear hl hp
 go_enter func41, ntmps41
 go_upto_region 1 with (fail);generalize World.alloc (World.alloc w _) _ = W at *;have Bi := iD (HB.later (Below.refl _ _).drew);have NZ := Bi.bl.size;have JW := iD (HL.below Bi.bl hB);have OX := iD (HP.below Bi.bl hB);refine fX (fun W' => W'.cell? ⟨w.heap.size, 0, none⟩ = some (.int .i64 co) ∧ W'.cell? ⟨w.heap.size, 1, none⟩ = some (.slice Al nl cl) ∧ W'.cell? ⟨w.heap.size, 2, none⟩ = some (.slice Ap np cp)) [9] ?_ fun AA => ?_
 ·exact HB.cells
 try dsimp only at AA
 refine tk 0 3 (mf 10 1) AA ?_;refine tk 1 4 (mf 10 2) AA ?_;refine tk 2 5 (mf 10 3) AA ?_;refine tk 3 6 (mf 10 4) AA ?_;refine tk 5 8 (ma 10 47) AA ?_;refine tk 6 9 (ma 10 111) AA ?_;refine tb 4 (mf 10 7) fun K hK => ?_
 (go_simp; refine (vE Al nl cl _ ls W.drew JW (by omega) Gl).mono ?_; rintro e w1 ⟨A1, c1, rfl, NA, AX⟩; rw [JV.out] at NA ⊢; have Mf := iD AX.out; clear AX; go_simp)
 refine hK _ _ (fun _ => (Bi.later Mf).cells) fun p => (fun AA => ?_) (p rfl)
 clear p hK K;(try dsimp only at AA);have AL := iD (Bi.later Mf);have CE := iD (World.ownsRow.mono NA lR);clear NA;refine tb 7 (mf 10 8) fun K hK => ?_
 (go_simp; refine (xO Ap np cp _ pr w1 (OX.below Mf (by omega)) (by have := Mf.size; omega) SN).mono ?_; rintro e w2 ⟨A2, c2, rfl, De, AQ⟩; rw [NK.out] at De ⊢; have Ol := iD AQ.out; clear AQ; go_simp)
 refine hK _ _ (fun _ => (AL.later Ol).cells) fun p => (fun AA => ?_) (p rfl)
 clear p hK K;(try dsimp only at AA);have AY := iD (AL.later Ol);have Qa := iD (zM CE Ol);have BQ := iD (World.ownsRow.mono De Mf.size);obtain ⟨b0, b1, b2⟩ := AY.cells; have z0 := AY.b1.frozen 0; have z1 := AY.b1.frozen 1; have z2 := AY.b1.frozen 2; have d0 := AY.b1.cell 0; have d1 := AY.b1.cell 1; have d2 := AY.b1.cell 2;clear De;refine tk 8 11 (mf 10 9) AA ?_;refine tb 9 (mf 10 10) fun K hK => ?_
 go_simp
 refine hK _ _ (fun h => by cases h) (fun _ => ?_)
 try clear AA
 clear hK K;refine tK ?_;have HE : Hid (Below w.heap.size w (((w2.setCell ⟨w.heap.size + 1, 0, none⟩ (.int .i64 co)).setCell ⟨w.heap.size + 1, 1, none⟩ (.slice A1 nl c1)).setCell ⟨w.heap.size + 1, 2, none⟩ (.slice A2 np c2))) := ((AY.bl.setCell (by simp) _).setCell (by simp) _).setCell (by simp) _;have DX : Hid (AJ (((w2.setCell ⟨w.heap.size + 1, 0, none⟩ (.int .i64 co)).setCell ⟨w.heap.size + 1, 1, none⟩ (.slice A1 nl c1)).setCell ⟨w.heap.size + 1, 2, none⟩ (.slice A2 np c2)) (w.heap.size + 1) 29 #[.int .i64 co, .slice A1 nl c1, .slice A2 np c2]) := ((AY.b1.set 0 _).set 1 _).set 2 _;have Ca : w.heap.size + 1 < W.heap.size := HB.b1.lt;have CZ := iD (xf (x := w.heap.size + 1) (i := 2) (u := .slice A2 np c2) (xf (x := w.heap.size + 1) (i := 1) (u := .slice A1 nl c1) (xf (x := w.heap.size + 1) (i := 0) (u := .int .i64 co) Qa Ca) Ca) Ca)
 have FK := iD (xf (x := w.heap.size + 1) (i := 2) (u := .slice A2 np c2) (xf (x := w.heap.size + 1) (i := 1) (u := .slice A1 nl c1) (xf (x := w.heap.size + 1) (i := 0) (u := .int .i64 co) BQ Ca) Ca) Ca);clear z0 z1 z2 d0 d1 d2 b0 b1 b2 Qa BQ AY AL;generalize World.setCell (World.setCell (World.setCell w2 _ _) _ _) _ _ = x at *
 go_wp2_with fail
 obtain ⟨q0, q1, q2⟩ := DX.d3;exact bodyPost_ret (v := .agg #[.int .i64 co, .slice A1 nl c1, .slice A2 np c2]) (by simp [results, results41, go_sem, q0, q1, q2]) rfl ⟨A1, A2, c1, c2, rfl, CZ.mono (by omega), FK.mono (by omega), HE⟩
theorem wW (Al Ap : Option Addr) (nl cl np cp B : Nat) (co : Int) (ls : List Lk) (pr : List Int) (w : World) (hl : Sl w B 3 Al nl cl (ls.flatMap Lk.cells)) (hp : Sl w B 1 Ap np cp (zF pr)) (hB : B ≤ w.heap.size) (Gl : nl ≤ 1000000) (SN : np ≤ 1000000) :
 Calls prog 24 #[.agg #[.int .i64 co, .slice Al nl cl, .slice Ap np cp]] w (jq w nl np co ls pr) := by
 have JV : Hid (ls.length = nl) := hl.len (fun _ => rfl) (by decide);have NK : Hid (pr.length = np) := hp.len (fun _ => rfl) (by decide);have HB := iD (Qk.new w #[.int .i64 co, .slice Al nl cl, .slice Ap np cp]);have HL := iD hl;have HP := iD hp;clear hl hp
 go_enter func24, ntmps24
 go_upto_region 1 with (fail);generalize World.alloc (World.alloc w _) _ = W at *;have Bi := iD (HB.later (Below.refl _ _).drew);have NZ := Bi.bl.size;have JW := iD (HL.below Bi.bl hB);have OX := iD (HP.below Bi.bl hB);refine fX (fun W' => W'.cell? ⟨w.heap.size, 0, none⟩ = some (.int .i64 co) ∧ W'.cell? ⟨w.heap.size, 1, none⟩ = some (.slice Al nl cl) ∧ W'.cell? ⟨w.heap.size, 2, none⟩ = some (.slice Ap np cp)) [9] ?_ fun AA => ?_
 ·exact HB.cells
 try dsimp only at AA
 refine tk 0 3 (mf 10 1) AA ?_;refine tk 1 4 (mf 10 2) AA ?_;refine tk 2 5 (mf 10 3) AA ?_;refine tk 3 6 (mf 10 4) AA ?_;refine tk 5 8 (ma 10 47) AA ?_;refine tk 6 9 (ma 10 111) AA ?_;refine tb 4 (mf 10 7) fun K hK => ?_
 (refine zi (d := some 7) (by rfl) (by rfl) _ (.tmp 6) (by rfl) yO (by rfl) (World.ownsRow_nil _ W.drew.heap.size _ _) (by rfl) JW (yR _) (by omega) (by omega) (by simp) ?_; intro A1 c1 w1 CW Dt FU; simp only [Nat.zero_add, List.nil_append] at CW Dt FU ⊢; have NA := iD CW; have Mf : Hid (Below W.drew.heap.size W.drew w1) := zT Dt; clear CW Dt FU)
 refine hK _ _ (fun _ => (Bi.later Mf).cells) fun p => (fun AA => ?_) (p rfl)
 clear p hK K;(try dsimp only at AA);have AL := iD (Bi.later Mf);have CE := iD (World.ownsRow.mono NA lR);clear NA;refine tb 7 (mf 10 8) fun K hK => ?_
 (refine zi (d := some 10) (by rfl) (by rfl) _ (.tmp 9) (by rfl) yl (by rfl) (World.ownsRow_nil _ w1.heap.size _ _) (by rfl) (OX.below Mf (by omega)) (yn _) (by omega) (by omega) (by simp) ?_; intro A2 c2 w2 EP Gs MR; simp only [Nat.zero_add, List.nil_append] at EP Gs MR ⊢; have De := iD EP; have Ol : Hid (Below w1.heap.size w1 w2) := zT Gs; clear EP Gs MR)
 refine hK _ _ (fun _ => (AL.later Ol).cells) fun p => (fun AA => ?_) (p rfl)
 clear p hK K;(try dsimp only at AA);have AY := iD (AL.later Ol);have Qa := iD (zM CE Ol);have BQ := iD (World.ownsRow.mono De Mf.size);obtain ⟨b0, b1, b2⟩ := AY.cells; have z0 := AY.b1.frozen 0; have z1 := AY.b1.frozen 1; have z2 := AY.b1.frozen 2; have d0 := AY.b1.cell 0; have d1 := AY.b1.cell 1; have d2 := AY.b1.cell 2;clear De;refine tk 8 11 (mf 10 9) AA ?_;refine tb 9 (mf 10 10) fun K hK => ?_
 go_simp
 refine hK _ _ (fun h => by cases h) (fun _ => ?_)
 try clear AA
 clear hK K;refine tK ?_;have HE : Hid (Below w.heap.size w (((w2.setCell ⟨w.heap.size + 1, 0, none⟩ (.int .i64 co)).setCell ⟨w.heap.size + 1, 1, none⟩ (.slice A1 nl c1)).setCell ⟨w.heap.size + 1, 2, none⟩ (.slice A2 np c2))) := ((AY.bl.setCell (by simp) _).setCell (by simp) _).setCell (by simp) _;have DX : Hid (AJ (((w2.setCell ⟨w.heap.size + 1, 0, none⟩ (.int .i64 co)).setCell ⟨w.heap.size + 1, 1, none⟩ (.slice A1 nl c1)).setCell ⟨w.heap.size + 1, 2, none⟩ (.slice A2 np c2)) (w.heap.size + 1) 29 #[.int .i64 co, .slice A1 nl c1, .slice A2 np c2]) := ((AY.b1.set 0 _).set 1 _).set 2 _;have Ca : w.heap.size + 1 < W.heap.size := HB.b1.lt;have CZ := iD (xf (x := w.heap.size + 1) (i := 2) (u := .slice A2 np c2) (xf (x := w.heap.size + 1) (i := 1) (u := .slice A1 nl c1) (xf (x := w.heap.size + 1) (i := 0) (u := .int .i64 co) Qa Ca) Ca) Ca)
 have FK := iD (xf (x := w.heap.size + 1) (i := 2) (u := .slice A2 np c2) (xf (x := w.heap.size + 1) (i := 1) (u := .slice A1 nl c1) (xf (x := w.heap.size + 1) (i := 0) (u := .int .i64 co) BQ Ca) Ca) Ca);clear z0 z1 z2 d0 d1 d2 b0 b1 b2 Qa BQ AY AL;generalize World.setCell (World.setCell (World.setCell w2 _ _) _ _) _ _ = x at *
 go_wp2_with fail
 obtain ⟨q0, q1, q2⟩ := DX.d3;exact bodyPost_ret (v := .agg #[.int .i64 co, .slice A1 nl c1, .slice A2 np c2]) (by simp [results, results24, go_sem, q0, q1, q2]) rfl ⟨A1, A2, c1, c2, rfl, CZ.mono (by omega), FK.mono (by omega), HE⟩
theorem ii : xJ prog 131 66 2 16 := xJ.mk' (z := .agg #[.int .i64 0, .int .i64 0]) underlying131 (by kernel_rfl) rfl (by decide)
structure UB (w : World) (cs zs : Array Value) (T : TypeId) (wr : World) : Prop where
 b0 : AJ wr w.heap.size 31 cs
 b1 : AJ wr (w.heap.size + 1) T zs
 bl : bW w wr
theorem UB.new (w : World) (cs zs : Array Value) (T : TypeId) : UB w cs zs T ((w.alloc (.cells cs 31)).alloc (.cells zs T)) :=
 ⟨(AJ.new w _ _).alloc _, by have := AJ.new (w.alloc (.cells cs 31)) T zs; simpa using this, ((Below.refl _ _).alloc lR _).alloc (by simp) _⟩
theorem UB.later {cs zs : Array Value} {T : TypeId} (h : UB w cs zs T wr) (hb : bW wr wr') : UB w cs zs T wr' := ⟨h.b0.below hb h.b0.lt, h.b1.below hb h.b1.lt, h.bl.trans (hb.mono h.bl.size)⟩
theorem rE (k d no p q : Int) (w : World) :
 Calls prog 38 #[.agg #[.int .i64 k, .int .i64 d, .int .i64 no, .int .i64 p, .int .i64 q]] w fun e w' => ∃ b : Nat, e = .returned (.agg #[.string ⟨#[80]⟩, .slice (some ⟨b, 0, none⟩) 1 1]) ∧ Hid (Av w' 5 (some ⟨b, 0, none⟩) 1 1 (Sp.cells ⟨k, d, no, p, q⟩)) ∧ Hid (bW w w') := by
 have HF := iD ((UB.new w #[.int .i64 k, .int .i64 d, .int .i64 no, .int .i64 p, .int .i64 q] #[.string ⟨#[80]⟩, .slice (some ⟨w.heap.size + 1 + 1, 0, none⟩) 1 1] 34).later ((Below.refl _ _).alloc lR (.cells #[.int .i64 k, .int .i64 d, .int .i64 no, .int .i64 p, .int .i64 q] 31)));have HS : Hid (Sl (((w.alloc (.cells #[.int .i64 k, .int .i64 d, .int .i64 no, .int .i64 p, .int .i64 q] 31)).alloc (.cells #[.string ⟨#[80]⟩, .slice (some ⟨w.heap.size + 1 + 1, 0, none⟩) 1 1] 34)).alloc (.cells #[.int .i64 k, .int .i64 d, .int .i64 no, .int .i64 p, .int .i64 q] 31)) (w.heap.size + 1 + 1 + 1) 5 (some ⟨w.heap.size + 1 + 1, 0, none⟩) 1 1 (Sp.cells ⟨k, d, no, p, q⟩)) := Sl.newest (by simp) rfl (by decide)
 have hz : (((w.alloc (.cells #[.int .i64 k, .int .i64 d, .int .i64 no, .int .i64 p, .int .i64 q] 31)).alloc (.cells #[.string ⟨#[80]⟩, .slice (some ⟨w.heap.size + 1 + 1, 0, none⟩) 1 1] 34)).alloc (.cells #[.int .i64 k, .int .i64 d, .int .i64 no, .int .i64 p, .int .i64 q] 31)).heap.size = w.heap.size + 1 + 1 + 1 := by simp
 go_enter func38, ntmps38
 go_wp2_with fail
 generalize World.alloc (World.alloc (World.alloc w _) _) _ = x at *;obtain ⟨q0, q1⟩ := HF.b1.d2;exact bodyPost_ret (v := .agg #[.string ⟨#[80]⟩, .slice (some ⟨w.heap.size + 1 + 1, 0, none⟩) 1 1]) (by simp [results, results38, go_sem, q0, q1]) rfl ⟨_, rfl, HS.more (Nat.le_of_eq hz.symm), HF.bl⟩
def OpR (w : World) (Ax : Option Addr) (nx cx : Nat) (d p : Int) (gk : Nat) (ov iv : Value) (wr : World) : Prop :=
 (iv = .int .i64 0 ∧ ov = .slice none 0 0 ∧ gk = 1 ∨ ∃ (c : Nat) (A : Option Addr), iv = .int .i64 1 ∧ ov = .slice A 1 c ∧ gk = 0 ∧ Hid (Sl wr wr.heap.size 2 A 1 c [.int .i64 d, .int .i64 p])) ∧ Hid (AJ wr w.heap.size 34 #[.string ⟨#[80]⟩, .slice Ax nx cx]) ∧ Hid (Below w.heap.size w wr)
theorem jA (Ax : Option Addr) (c1 : Nat) (k d no p q : Int) (w : World) (hk : k = 1 ∨ k = 2) (hx : Av w 5 Ax 1 c1 (Sp.cells ⟨k, d, no, p, q⟩)) :
 Calls prog 86 #[.agg #[.string ⟨#[80]⟩, .slice Ax 1 c1]] w fun e w' => ∃ (b o c : Nat), e = .returned (.slice (some ⟨b, o, none⟩) 1 c) ∧ w'.cell? ⟨b, o, none⟩ = some (.int .i64 d) ∧ w'.cell? ⟨b, o + 1, none⟩ = some (.int .i64 k) ∧ Hid (bW w w') := by
 have HX := iD hx;have HB := iD (AJ.new w 34 #[.string ⟨#[80]⟩, .slice Ax 1 c1]);have MB := iD ((Below.refl w.heap.size w).alloc lR (.cells #[.string ⟨#[80]⟩, .slice Ax 1 c1] 34));clear hx
 go_enter func86, ntmps86
 go_upto_region 3 with (fail);generalize World.alloc w _ = W at *;refine si [(2, 0), (0, 2), (0, 0), (0, 1), (2, 0), (0, 3), (21, 1), (0, 0)] 3 9 (1) (OpR w Ax 1 c1 d k) (by (try dsimp only [gt]); exact ⟨.inl ⟨rfl, rfl, rfl⟩, HB, MB⟩) (by kernel_rfl) ?_;intro u1 p3 p9 gk wr a hrel ha J1 K1 Dk Ky;dsimp only [zY, Go.Proofs.YtddddlhgaeameaaGreatDoor.v2, Nat.reduceAdd] at ha;subst ha;clear HB MB;obtain ⟨⟨rfl, rfl, rfl⟩ | ⟨c, A, rfl, rfl, rfl, HO⟩, HK, HL⟩ := hrel; rotate_left
 ·go_wp2_with fail
  go_ret;obtain ⟨b, o, hA, -, hc⟩ := HO.2.2.2.2 (by decide);subst hA;exact ⟨b, o, c, rfl, hc 0 _ rfl, hc 1 _ rfl, HL⟩
 obtain ⟨b, o, hA, hb, hc⟩ := HX.2.2.2.2 (by decide);subst hA;have Uy : ∀ j u, (Sp.cells ⟨k, d, no, p, q⟩)[j]? = some u → wr.cell? ⟨b, o + j, none⟩ = some u := fun j u h => (HL.cell (p := ⟨b, o + j, none⟩) hb).trans (hc j u h)
 have k1 := HK.c1;have c0 : wr.cell? ⟨b, o, none⟩ = some (.int .i64 k) := Uy 0 _ rfl;have c1' : wr.cell? ⟨b, o + 1, none⟩ = some (.int .i64 d) := Uy 1 _ rfl;have c2 : wr.cell? ⟨b, o + 2, none⟩ = some (.int .i64 no) := Uy 2 _ rfl;have c3 : wr.cell? ⟨b, o + 3, none⟩ = some (.int .i64 p) := Uy 3 _ rfl;have c4 : wr.cell? ⟨b, o + 4, none⟩ = some (.int .i64 q) := Uy 4 _ rfl;clear hc hb Uy;go_upto_region 5 with (fail);clear k1 c0 c1' c2 c3 c4;have HV := iD (AJ.new wr 31 #[.int .i64 k, .int .i64 d, .int .i64 no, .int .i64 p, .int .i64 q]);have Uz := iD (HL.alloc HL.size (.cells #[.int .i64 k, .int .i64 d, .int .i64 no, .int .i64 p, .int .i64 q] 31));have Ee := iD (HK.alloc (.cells #[.int .i64 k, .int .i64 d, .int .i64 no, .int .i64 p, .int .i64 q] 31));clear HL HK;generalize World.alloc wr _ = V at *;obtain ⟨bq, Fb⟩ := eX wr.heap.size;rw [← Fb] at HV ⊢;clear Fb;obtain ⟨e0, e1⟩ := HV.d2
 rcases hk with rfl | rfl
 ·go_upto_region 7 with (fail)
  go_wp2_with (at_builtin; go_must (refine zL rfl (.tmp 17) (.tmp 21) rfl ii (by rfl) (World.ownsRow_nil _ (w.heap.size + 1) _ _) (by rfl) (Sl.newest (n := 1) rfl rfl (by decide)) (by simp [Value.oneCell']) (by decide) (by decide) (by have := Uz.size; simp; omega) ?_; intro A1 c2 w6 BZ BG Ej))
  have Gj := iD (Uz.alloc Uz.size (.cells #[.int .i64 d, .int .i64 1] 66));have AO := iD (Gj.trans ((zT BG).mono Gj.size));have IY := iD ((Ee.alloc (.cells #[.int .i64 d, .int .i64 1] 66)).below (zT BG) (by have := Ee.lt; simp; omega));have Ik : Hid (Sl w6 w6.heap.size 2 A1 1 c2 [.int .i64 d, .int .i64 1]) := Sl.of_own BZ;clear BZ BG Ej;refine Handed.intro (0) (by omega) (Dk _ _ _ (mX.back 3 9 ?_ (by kernel_rfl)));dsimp only [gt];exact ⟨.inr ⟨c2, A1, rfl, rfl, rfl, Ik⟩, IY, AO⟩
 ·go_upto_region 9 with (fail)
  go_wp2_with (at_builtin; go_must (refine zL rfl (.tmp 25) (.tmp 29) rfl ii (by rfl) (World.ownsRow_nil _ (w.heap.size + 1) _ _) (by rfl) (Sl.newest (n := 1) rfl rfl (by decide)) (by simp [Value.oneCell']) (by decide) (by decide) (by have := Uz.size; simp; omega) ?_; intro A1 c2 w6 BZ BG Ej))
  have Gj := iD (Uz.alloc Uz.size (.cells #[.int .i64 d, .int .i64 2] 66));have AO := iD (Gj.trans ((zT BG).mono Gj.size));have IY := iD ((Ee.alloc (.cells #[.int .i64 d, .int .i64 2] 66)).below (zT BG) (by have := Ee.lt; simp; omega));have Ik : Hid (Sl w6 w6.heap.size 2 A1 1 c2 [.int .i64 d, .int .i64 2]) := Sl.of_own BZ;clear BZ BG Ej;refine Handed.intro (0) (by omega) (Dk _ _ _ (mX.back 3 9 ?_ (by kernel_rfl)));dsimp only [gt];exact ⟨.inr ⟨c2, A1, rfl, rfl, rfl, Ik⟩, IY, AO⟩
theorem ue (k d no p q : Int) (w : World) (hk : k = 1 ∨ k = 2) :
 Calls prog 61 #[.agg #[.int .i64 k, .int .i64 d, .int .i64 no, .int .i64 p, .int .i64 q]] w fun e w' => e = .returned (.agg #[.int .i64 d, .int .i64 k]) ∧ bW w w' := by
 have HB := iD (UB.new w #[.int .i64 k, .int .i64 d, .int .i64 no, .int .i64 p, .int .i64 q] #[.int .i64 0, .int .i64 0] 66)
 go_enter func61, ntmps61
 go_upto_region 1 with (fail);generalize World.alloc (World.alloc w _) _ = W at *;obtain ⟨c0, c1, c2, c3, c4⟩ := HB.b0.d5
 go_wp2_with fail
 clear c0 c1 c2 c3 c4;refine (rE k d no p q W).mono ?_;rintro e w1 ⟨b, rfl, hs, AX⟩;have AL := iD (HB.later AX);have HO := iD (jA (some ⟨b, 0, none⟩) 1 k d no p q w1 hk hs);clear hs AX HB
 go_wp2_with fail
 refine HO.mono ?_;rintro e w2 ⟨b2, o, c, rfl, h1, h2, AQ⟩;have AY := iD (AL.later AQ);clear AQ AL HO;obtain ⟨f0, f1⟩ := AY.b1.d2;obtain ⟨y0, y1⟩ := AY.b1.e2;have HE : Hid (AJ ((w2.setCell ⟨w.heap.size + 1, 0, none⟩ (.int .i64 d)).setCell ⟨w.heap.size + 1, 1, none⟩ (.int .i64 k)) (w.heap.size + 1) 66 #[.int .i64 d, .int .i64 k]) := (AY.b1.set 0 _).set 1 _;have Am : Hid (Below w.heap.size w ((w2.setCell ⟨w.heap.size + 1, 0, none⟩ (.int .i64 d)).setCell ⟨w.heap.size + 1, 1, none⟩ (.int .i64 k))) := (AY.bl.setCell (by simp) _).setCell (by simp) _
 go_wp2_with fail
 generalize World.setCell (World.setCell w2 _ _) _ _ = x at *;obtain ⟨q0, q1⟩ := HE.d2;exact bodyPost_ret (v := .agg #[.int .i64 d, .int .i64 k]) (by simp [results, results61, go_sem, q0, q1]) rfl ⟨rfl, Am⟩
structure Rk (w : World) (nt gr op : Array Value) (wr : World) : Prop where
 b0 : AJ wr w.heap.size 26 nt
 b1 : AJ wr (w.heap.size + 1) 29 gr
 b2 : AJ wr (w.heap.size + 2) 66 op
 b3 : AJ wr (w.heap.size + 3) 29 #[.int .i64 0, .slice none 0 0, .slice none 0 0]
 bl : bW w wr
theorem kF (w : World) (T0 T1 T2 T3 : TypeId) (a b c d : Array Value) : AJ ((((w.alloc (.cells a T0)).alloc (.cells b T1)).alloc (.cells c T2)).alloc (.cells d T3)) w.heap.size T0 a ∧ AJ ((((w.alloc (.cells a T0)).alloc (.cells b T1)).alloc (.cells c T2)).alloc (.cells d T3)) (w.heap.size + 1) T1 b ∧ AJ ((((w.alloc (.cells a T0)).alloc (.cells b T1)).alloc (.cells c T2)).alloc (.cells d T3)) (w.heap.size + 2) T2 c ∧ AJ ((((w.alloc (.cells a T0)).alloc (.cells b T1)).alloc (.cells c T2)).alloc (.cells d T3)) (w.heap.size + 3) T3 d ∧ bW w ((((w.alloc (.cells a T0)).alloc (.cells b T1)).alloc (.cells c T2)).alloc (.cells d T3)) := by
 refine ⟨(((AJ.new w T0 a).alloc _).alloc _).alloc _, ?_, ?_, ?_, ((((Below.refl _ _).alloc lR _).alloc (by simp) _).alloc (by simp; omega) _).alloc (by simp; omega) _⟩
 ·have := ((AJ.new (w.alloc (.cells a T0)) T1 b).alloc (.cells c T2)).alloc (.cells d T3); simpa using this
 ·have := (AJ.new ((w.alloc (.cells a T0)).alloc (.cells b T1)) T2 c).alloc (.cells d T3); simpa using this
 ·have := AJ.new (((w.alloc (.cells a T0)).alloc (.cells b T1)).alloc (.cells c T2)) T3 d; simpa using this
theorem Rk.new (w : World) (nt gr op : Array Value) : Rk w nt gr op ((((w.alloc (.cells nt 26)).alloc (.cells gr 29)).alloc (.cells op 66)).alloc (.cells #[.int .i64 0, .slice none 0 0, .slice none 0 0] 29)) := by
 obtain ⟨h0, h1, h2, h3, h4⟩ := kF w 26 29 66 29 nt gr op #[.int .i64 0, .slice none 0 0, .slice none 0 0];exact ⟨h0, h1, h2, h3, h4⟩
theorem Rk.fin {op : Array Value} (h : Rk w nt #[x, y, z] op wr) : AJ (((wr.setCell ⟨w.heap.size + 3, 0, none⟩ x).setCell ⟨w.heap.size + 3, 1, none⟩ y).setCell ⟨w.heap.size + 3, 2, none⟩ z) (w.heap.size + 3) 29 #[x, y, z] ∧ bW w (((wr.setCell ⟨w.heap.size + 3, 0, none⟩ x).setCell ⟨w.heap.size + 3, 1, none⟩ y).setCell ⟨w.heap.size + 3, 2, none⟩ z) :=
 ⟨((h.b3.set 0 _).set 1 _).set 2 _, ((h.bl.setCell (by simp) _).setCell (by simp) _).setCell (by simp) _⟩
theorem Rk.cut {op : Array Value} (h : Rk w nt #[x, y, z] op wr) : Rk w nt #[x, y, u] op (wr.setCell ⟨w.heap.size + 1, 2, none⟩ u) :=
 ⟨h.b0.far (by simp) _, h.b1.set 2 _, h.b2.far (by simp) _, h.b3.far (by simp) _, h.bl.setCell (by simp) _⟩
theorem lJ {x : Dv} (hx : ds[d.toNat]? = some x) (k : Int) : uu ds k d = (decide (k = 2) && !decide (x.kind = 4)) := by unfold uu; rw [hx]; simp
def nA (A : Option Addr) (n c : Nat) (b : Bool) : Value := if b then .slice none 0 0 else .slice A n c
theorem tR (An Ad Al Ap : Option Addr) (nn cn nd cd nl cl np cp : Nat) (ds : List Dv) (co d k : Int) (w : World) (hd : Av w 5 Ad nd cd (ds.flatMap Dv.cells)) (hk : k = 1 ∨ k = 2) (h0 : 0 ≤ d) (h1 : d < nd) :
 Calls prog 63 #[.agg #[.slice An nn cn, .slice Ad nd cd], .agg #[.int .i64 co, .slice Al nl cl, .slice Ap np cp], .agg #[.int .i64 d, .int .i64 k]] w fun e w' => e = .returned (.agg #[.int .i64 co, .slice Al nl cl, nA Ap np cp (uu ds k d)]) ∧ bW w w' := by
 have HB := iD (Rk.new w #[.slice An nn cn, .slice Ad nd cd] #[.int .i64 co, .slice Al nl cl, .slice Ap np cp] #[.int .i64 d, .int .i64 k]);obtain ⟨i, rfl⟩ := Int.eq_ofNat_of_zero_le h0;obtain ⟨b, o, x, hA, hb, hx, hc⟩ := hd.at (fun _ => rfl) (by decide) (show i < nd by omega);subst hA;have FM : Hid (uu ds k i = (decide (k = 2) && !decide (x.kind = 4))) := lJ (by simpa using hx) k;have Oc : Hid (w.cell? ⟨b, o + i * 5 + 1, none⟩ = some (.int .i64 x.kind)) := hc 1 _ rfl;clear hd hc hx
 go_enter func63, ntmps63
 go_upto_region 1 with (fail);generalize World.alloc (World.alloc (World.alloc (World.alloc w _) _) _) _ = W at *;rw [show w.heap.size + 1 + 1 = w.heap.size + 2 from rfl, show w.heap.size + 2 + 1 = w.heap.size + 3 from rfl];obtain ⟨p0, p1⟩ := HB.b2.d2;have k1 := HB.b0.c1;have kd : W.cell? ⟨b, o + i * 5 + 1, none⟩ = some (.int .i64 x.kind) := (HB.bl.cell (p := ⟨b, o + i * 5 + 1, none⟩) hb).trans Oc.out;obtain ⟨g0, g1, g2⟩ := HB.b1.d3;rcases hk with rfl | rfl
 ·have HV : Hid (uu ds 1 i = false) := by unfold Hid; rw [FM.out]; rfl
  obtain ⟨d0, d1, d2⟩ := HB.b3.d3;obtain ⟨y0, y1, y2⟩ := HB.b3.e3;have HE := iD (HB.fin)
  go_wp2_with fail
  generalize World.setCell (World.setCell (World.setCell W _ _) _ _) _ _ = z at *;obtain ⟨q0, q1, q2⟩ := HE.1.d3;exact bodyPost_ret (v := .agg #[.int .i64 co, .slice Al nl cl, .slice Ap np cp]) (by simp [results, results63, go_sem, q0, q1, q2]) rfl ⟨by rw [HV.out]; rfl, HE.2⟩
 by_cases h4 : x.kind = 4
 ·have HV : Hid (uu ds 2 i = false) := by unfold Hid; rw [FM.out]; simp [h4]
  have q4 : (x.kind != 4) = false := by simp [h4]
  rw [h4] at kd;clear h4 q4;obtain ⟨d0, d1, d2⟩ := HB.b3.d3;obtain ⟨y0, y1, y2⟩ := HB.b3.e3;have HE := iD (HB.fin)
  go_wp2_with fail
  generalize World.setCell (World.setCell (World.setCell W _ _) _ _) _ _ = z at *;obtain ⟨q0, q1, q2⟩ := HE.1.d3;exact bodyPost_ret (v := .agg #[.int .i64 co, .slice Al nl cl, .slice Ap np cp]) (by simp [results, results63, go_sem, q0, q1, q2]) rfl ⟨by rw [HV.out]; rfl, HE.2⟩
 have HV : Hid (uu ds 2 i = true) := by unfold Hid; rw [FM.out]; simp [h4]
 have q4 : (x.kind != 4) = true := by simpa using h4
 have y2 := HB.b1.frozen 2;have Au := iD (HB.cut (u := .slice none 0 0));go_upto_region 3 with (fail);clear p0 p1 k1 kd g0 g1 g2 y2 q4 h4;generalize World.setCell W _ _ = X at *;obtain ⟨g0, g1, g2⟩ := Au.b1.d3;obtain ⟨d0, d1, d2⟩ := Au.b3.d3;obtain ⟨y0, y1, y2⟩ := Au.b3.e3;have HE := iD (Au.fin)
 go_wp2_with fail
 generalize World.setCell (World.setCell (World.setCell X _ _) _ _) _ _ = z at *;obtain ⟨q0, q1, q2⟩ := HE.1.d3;exact bodyPost_ret (v := .agg #[.int .i64 co, .slice Al nl cl, .slice none 0 0]) (by simp [results, results63, go_sem, q0, q1, q2]) rfl ⟨by rw [HV.out]; rfl, HE.2⟩
section
open Go.Lib (below_setCells_w)
theorem et3 : laysNm221_ren.t 3 = 3 := rfl
theorem uN (l : List Int) (j : Nat) : (zF l)[j]? = l[j]?.map (Value.int .i64) := by rw [yS, List.getElem?_map]
theorem nM (A : Option Addr) (n c B : Nat) (st : List Int) (d : Int) (w : World) (hs : Sl w B 1 A n c (zF st)) (hn : n ≤ 1000000) (ho : st.Pairwise (· < ·)) :
 Calls prog 91 #[.slice A n c, .int .i64 d] w fun e w' => e = .returned (.tuple #[.int .i64 ((st.countP (· < d) : Nat) : Int), .bool (decide (d ∈ st))]) ∧ ∃ q, w' = w.drewN q := by
 have hl : st.length = n := hs.len (fun _ => rfl) (by decide);obtain ⟨-, Ir, -, AU, hc⟩ := hs;by_cases h0 : n = 0
 ·subst h0;obtain rfl : st = [] := List.eq_nil_of_length_eq_zero hl;refine (slices_BinarySearch_int_empty A c d w).mono ?_;rintro e w' ⟨rfl, rfl⟩;exact ⟨by simp, 0, rfl⟩
 ·obtain ⟨b, off, rfl, -, hcell⟩ := hc (by omega);have ht : st.take n = st := List.take_of_length_le (by omega);refine (slices_BinarySearch_int b off n c st d w (by omega) (by omega) (fun j hj => ?_) ?_).mono ?_
  ·refine hcell j _ ?_;rw [uN, List.getElem?_eq_getElem hj, List.getD_eq_getElem?_getD, List.getElem?_eq_getElem hj];rfl
  ·rw [ht]; exact ho.imp fun h => Int.le_of_lt h
  ·rw [ht];rintro e w' ⟨rfl, q, rfl⟩;exact ⟨by simp, q, rfl⟩
section
variable {w : World} {base n c i : Nat} {A : Option Addr} {st : List Int}
theorem iA (h : zN w base A n c st) : A = none ∧ n = 0 ∧ c = 0 ∨ ∃ (b : Nat) (cur : Array Value), A = some ⟨b, 0, none⟩ ∧ base ≤ b ∧ b < w.heap.size ∧ w.heap[b]? = some (.cells cur 3 (0, 0)) ∧ n ≤ c ∧ c ≤ 9223372036854775807 ∧ cur.size = c ∧ ∀ (j : Nat) (u : Value), (zF st)[j]? = some u → cur[j]? = some u := by
 have hl := h.lt;rcases h.2 with ⟨h0, hn⟩ | ⟨g, cap, cur, h0, hg, hh, h1, h2, h3, h4⟩
 ·injection h0 with e1 e2 e3;exact .inl ⟨e1, hn, e3⟩
 ·injection h0 with e1 e2 e3;subst e1 e3;refine .inr ⟨g, cur, rfl, hg, (hl g rfl).2, hh, h1, by simp [maxLen] at h2; exact h2, by omega, fun j u hu => ?_⟩;rw [← h4, List.getElem?_take] at hu;split at hu
  ·simpa using hu
  ·cases hu
end
theorem iJ {st : List Int} (d : Int) (hi : i ≤ st.length) (j : Nat) : (st.take i ++ d :: st.drop i)[j]? = if j < i then st[j]? else if j = i then some d else st[j - 1]? := by
 have hl : (st.take i).length = i := by rw [List.length_take]; omega
 rcases Nat.lt_trichotomy j i with h | h | h
 ·rw [if_pos h, List.getElem?_append_left (by omega), List.getElem?_take, if_pos h]
 ·subst h; rw [if_neg (by omega), if_pos rfl, List.getElem?_append_right (by omega), hl, Nat.sub_self]; rfl
 ·rw [if_neg (by omega), if_neg (by omega), List.getElem?_append_right (by omega), hl, List.getElem?_cons, if_neg (by omega), List.getElem?_drop]
  congr 1; omega
def iX (w : World) (base n : Nat) (L : List Int) (e : Ending) (w' : World) : Prop := ∃ (A' : Option Addr) (c' : Nat), e = .returned (.slice A' (n + 1) c') ∧ Hid (Av w' 1 A' (n + 1) c' (zF L)) ∧ Hid (∀ b off, A' = some ⟨b, off, none⟩ → base ≤ b) ∧ Hid (Below base w w')
theorem rS {w' : World} {b : Nat} {st : List Int} (hl : st.length = n) (hi : i ≤ n) (hc : n + 1 ≤ c) (hm : c ≤ 9223372036854775807) (hb : b < w'.heap.size)
 (h1 : ∀ j u, j < i → (zF st)[j]? = some u → w'.cell? ⟨b, j, none⟩ = some u) (h2 : w'.cell? ⟨b, i, none⟩ = some (.int .i64 d)) (h3 : ∀ j u, i < j → (zF st)[j - 1]? = some u → w'.cell? ⟨b, j, none⟩ = some u) :
 Av w' 1 (some ⟨b, 0, none⟩) (n + 1) c (zF (st.take i ++ d :: st.drop i)) := by
 refine ⟨by rw [vP]; simp; omega, hc, hm, (fun e => by cases e), fun _ => ⟨b, 0, rfl, hb, fun j u hu => ?_⟩⟩;rw [Nat.zero_add];rw [uN, iJ d (by omega)] at hu;rcases Nat.lt_trichotomy j i with h | h | h
 ·rw [if_pos h] at hu; exact h1 j u h (by rw [uN]; exact hu)
 ·subst h; rw [if_neg (by omega), if_pos rfl] at hu; cases hu; exact h2
 ·rw [if_neg (by omega), if_neg (by omega)] at hu; exact h3 j u h (by rw [uN]; exact hu)
theorem iK (A : Option Addr) (n c i base vb : Nat) (st : List Int) (d : Int) (w : World) (h : zN w base A n c st) (hv : AJ w vb 3 #[.int .i64 d]) (EF : base ≤ w.heap.size) (hne : ∀ b, A = some ⟨b, 0, none⟩ → b ≠ vb) (hi : i ≤ n) (hn : n ≤ 1000000) :
 Calls prog 92 #[.slice A n c, .int .i64 (i : Int), .slice (some ⟨vb, 0, none⟩) 1 1] w (iX w base n (st.take i ++ d :: st.drop i)) := by
 have DJ := h.len
 have VL : ∀ j v, [Value.int .i64 d][j]? = some v → w.cell? ⟨vb, 0 + j, none⟩ = some v := fun j v e => by
  rcases j with _ | j
  ·exact (hv.cell 0).trans e
  ·cases e
 have WR : ∀ v ∈ [Value.int .i64 d], v.oneCell' = true := fun v hv => by rw [List.mem_singleton.1 hv]; rfl
 have Jl : (zF st).length = n := by rw [vP, DJ]
 rcases iA h with ⟨rfl, rfl, rfl⟩ | ⟨b, cur, rfl, Gv, AZ, hh, Ir, Nq, hcs, AG⟩
 ·obtain rfl : i = 0 := by omega
  obtain rfl : st = [] := List.eq_nil_of_length_eq_zero DJ;refine (Any2.slices_Insert_int_end_grow laysNm221 none 0 0 vb 0 1 1 [] [.int .i64 d] w (by decide) lR (by decide) (by decide) rfl rfl (fun _ => rfl) (fun a e => by cases e) VL WR).mono ?_;rintro e w' hw;simp only [et3] at hw;obtain ⟨rfl, rfl⟩ := hw;refine ⟨_, _, rfl, ?_, (fun b off e => by cases e; exact EF), ((Below.refl _ _).drew).alloc (by simp; omega) _⟩;refine rS rfl lR (grownCap_ge ..) ?_ (by simp) (fun j u hj => by omega) ?_ (fun j u _ hu => by cases hu)
  ·have := grownCap_le_maxLen w (0 + 1) 0 3 (by decide); simpa [maxLen] using this
  ·have := (AJ.new w.drew 3 ((([] ++ [Value.int .i64 d] : List Value)).toArray ++ Builtin.zeroCells (Value.int .i64 0).cells (grownCap w (0 + 1) 0 3 - (0 + 1)))).cell 0;refine this.trans ?_;rw [Array.getElem?_append_left (by simp)];rfl
 ·have hcell : ∀ j u, (zF st)[j]? = some u → w.cell? ⟨b, j, none⟩ = some u := fun j u hu => (cell_of_row w b j cur _ _ hh).trans (AG j u hu)
  have hsome : ∀ j, j < c → (w.cell? ⟨b, j, none⟩).isSome = true := fun j hj => by
   rw [cell_of_row w b j cur _ _ hh, Array.getElem?_eq_getElem (by omega)]; rfl
  have AW : ∀ j, w.frozen? ⟨b, j, none⟩ = false := fun j => by simp [World.frozen?, hh]
  have QD : vb ≠ b := fun e => hne b rfl e.symm
  rcases Nat.lt_or_ge c (n + 1) with hr | hr
  ·obtain rfl : c = n := by omega
   rcases Nat.lt_or_ge i c with PO | PO
   ·refine (Any2.slices_Insert_int_grow laysNm221 b 0 c c i vb 0 1 1 (zF st) [.int .i64 d] w PO (by decide) lR hr (by omega) Jl rfl (fun j v e => by rw [Nat.zero_add]; exact hcell j v e) VL (yn _) WR).mono ?_;rintro e w' hw;simp only [et3] at hw;obtain ⟨rfl, rfl⟩ := hw;refine ⟨_, _, rfl, ?_, (fun b off e => by cases e; exact EF), ?_⟩
    ·obtain ⟨Z, hZ⟩ : ∃ Z : Array Value, Z = ((zF st).take i).toArray ++ Builtin.zeroCells (Value.int .i64 0).cells (c + 1 - i) ++ Builtin.zeroCells (Value.int .i64 0).cells (grownCap w (c + 1) c 3 - (c + 1)) := ⟨_, rfl⟩
     have WP : AJ (w.alloc (.cells Z 3)).drew w.heap.size 3 Z := AJ.new w 3 Z;have Aw : ((zF st).take i).length = i := by rw [List.length_take, Jl]; omega
     have Ay : c + 1 ≤ Z.size := by rw [hZ]; simp [Builtin.zeroCells, Value.cells]; omega
     have hS : ∀ j, j < c + 1 → ((w.alloc (.cells Z 3)).drew.cell? ⟨w.heap.size, j, none⟩).isSome = true := fun j hj => by rw [WP.cell j, Array.getElem?_eq_getElem (by omega)]; rfl
     have hd : ((zF st).drop i).length = c - i := by rw [List.length_drop, Jl]
     rw [← hZ];refine rS DJ hi (grownCap_ge ..) ?_ ?_ (fun j u hj hu => ?_) ?_ (fun j u hj hu => ?_)
     ·have := grownCap_le_maxLen w (c + 1) c 3 (by simp [maxLen]; omega); simpa [maxLen] using this
     ·have := (below_setCells_w (B := 0) (g := w.heap.size) (Nat.zero_le _) ((zF st).drop i) (i + 1) ((w.alloc (.cells Z 3)).drew.setCells w.heap.size i [.int .i64 d]).drew).size;have h2 := (below_setCells_w (B := 0) (g := w.heap.size) (Nat.zero_le _) [.int .i64 d] i (w.alloc (.cells Z 3)).drew).size;have h3 : (w.alloc (.cells Z 3)).drew.heap.size = w.heap.size + 1 := by simp
      have h4 : ((w.alloc (.cells Z 3)).drew.setCells w.heap.size i [.int .i64 d]).drew.heap.size = ((w.alloc (.cells Z 3)).drew.setCells w.heap.size i [.int .i64 d]).heap.size := rfl;omega
     ·rw [World.cell?_setCells_out _ _ _ _ _ (fun _ _ => .inl (by simp; omega))]
      show (World.setCells _ _ _ _).cell? _ = _
      rw [World.cell?_setCells_out _ _ _ _ _ (fun _ _ => .inl (by simp; omega)), WP.cell j, hZ, Array.getElem?_append_left (by simp [Builtin.zeroCells]; omega), Array.getElem?_append_left (by simp; omega)];simp only [List.getElem?_toArray];rw [List.getElem?_take, if_pos hj]; exact hu
     ·rw [World.cell?_setCells_out _ _ _ _ _ (fun _ _ => .inl (by simp))];exact World.cell?_setCells_in w.heap.size [.int .i64 d] i (w.alloc (.cells Z 3)).drew (fun j hj => hS _ (by simp at hj; omega)) 0 (by simp)
     ·have Ak : j - 1 < c := by rw [← Jl]; exact (List.getElem?_eq_some_iff.1 hu).1
      have := World.cell?_setCells_in w.heap.size ((zF st).drop i) (i + 1) ((w.alloc (.cells Z 3)).drew.setCells w.heap.size i [.int .i64 d]).drew (fun k hk => by
       show ((World.setCells _ _ _ _).cell? _).isSome = true
       rw [World.cell?_setCells_out _ _ _ _ _ (fun _ _ => .inr (by simp))];exact hS _ (by rw [hd] at hk; omega)) (j - (i + 1)) (by rw [hd]; omega)
      rw [show i + 1 + (j - (i + 1)) = j by omega] at this;rw [this, List.getElem_drop, ← hu, List.getElem?_eq_getElem (by rw [Jl]; omega)];simp only [Option.some.injEq]
      congr 1; omega
    ·exact (((Below.refl _ _).alloc EF _).drew.trans (below_setCells_w EF _ _ _)).drew.trans (below_setCells_w EF _ _ _)
   ·obtain rfl : i = c := by omega
    refine (Any2.slices_Insert_int_end_grow laysNm221 (some ⟨b, 0, none⟩) i i vb 0 1 1 (zF st) [.int .i64 d] w (by decide) lR hr (by omega) Jl rfl (fun e => by cases e) (fun a e j v hj => by cases e; rw [xP]; rw [Nat.zero_add]; exact hcell j v hj) VL WR).mono ?_;rintro e w' hw;simp only [et3] at hw;obtain ⟨rfl, rfl⟩ := hw;refine ⟨_, _, rfl, ?_, (fun b off e => by cases e; exact EF), ((Below.refl _ _).drew).alloc (by simp; omega) _⟩;have WP := AJ.new w.drew 3 ((zF st ++ [Value.int .i64 d]).toArray ++ Builtin.zeroCells (Value.int .i64 0).cells (grownCap w (i + 1) i 3 - (i + 1)));refine rS DJ hi (grownCap_ge ..) ?_ (by simp) (fun j u hj hu => ?_) ?_ (fun j u hj hu => ?_)
    ·have := grownCap_le_maxLen w (i + 1) i 3 (by simp [maxLen]; omega); simpa [maxLen] using this
    ·refine (WP.cell j).trans ?_;rw [Array.getElem?_append_left (by simp [Jl]; omega), List.getElem?_toArray, List.getElem?_append_left (by omega)];exact hu
    ·refine (WP.cell i).trans ?_;rw [Array.getElem?_append_left (by simp [Jl]), List.getElem?_toArray, List.getElem?_append_right (by omega), Jl, Nat.sub_self];rfl
    ·have := (List.getElem?_eq_some_iff.1 hu).1;omega
  ·rcases Nat.lt_or_ge i n with PO | PO
   ·refine (Any2.slices_Insert_int_shift laysNm221 b 0 n c i vb 0 1 1 (zF st) [.int .i64 d] w PO (by decide) hr Nq QD Jl rfl (fun j v e => by rw [Nat.zero_add]; exact hcell j v e) (fun j hj => by rw [Nat.zero_add]; exact hsome j (by omega)) (fun j _ => by rw [Nat.zero_add]; exact AW j) VL (yn _) WR 3 3 1 c (by unfold World.shape?; rw [show w.heap[vb]? = _ from hv]; rfl) (by unfold World.shape?; rw [hh]; simp [hcs]) (by omega) (hv.frozen 0) (hv.frozen 1)).mono ?_;rintro e w' ⟨rfl, rfl⟩;have hd : ((zF st).drop i).length = n - i := by rw [List.length_drop, Jl]
    refine ⟨_, _, rfl, ?_, (fun b off e => by cases e; exact Gv), ((Below.refl _ _).drew.trans (below_setCells_w Gv _ _ _)).trans (below_setCells_w Gv _ _ _)⟩;refine rS DJ hi hr Nq ?_ (fun j u hj hu => ?_) ?_ (fun j u hj hu => ?_)
    ·have h1 := (below_setCells_w (B := 0) (g := b) (Nat.zero_le _) ((zF st).drop i) (0 + (i + 1)) w.drew).size;have h2 := (below_setCells_w (B := 0) (g := b) (Nat.zero_le _) [.int .i64 d] (0 + i) (w.drew.setCells b (0 + (i + 1)) ((zF st).drop i))).size;have h3 : w.drew.heap.size = w.heap.size := rfl;omega
    ·rw [World.cell?_setCells_out _ _ _ _ _ (fun _ _ => .inl (by simp; omega)), World.cell?_setCells_out _ _ _ _ _ (fun _ _ => .inl (by simp; omega))];exact hcell j u hu
    ·have := World.cell?_setCells_in b [.int .i64 d] (0 + i) (w.drew.setCells b (0 + (i + 1)) ((zF st).drop i)) (fun j hj => by
      rw [World.cell?_setCells_out _ _ _ _ _ (fun _ _ => .inl (by simp at hj ⊢; omega))];rw [Nat.zero_add];exact hsome (i + j) (by simp at hj; omega)) 0 (by simp)
     simp only [Nat.zero_add, Nat.add_zero] at this ⊢;exact this
    ·have Ak : j - 1 < n := by rw [← Jl]; exact (List.getElem?_eq_some_iff.1 hu).1
     rw [World.cell?_setCells_out _ _ _ _ _ (fun _ _ => .inr (by simp; omega))];have := World.cell?_setCells_in b ((zF st).drop i) (0 + (i + 1)) w.drew (fun k hk => by rw [hd] at hk; rw [Nat.zero_add]; exact hsome (i + 1 + k) (by omega)) (j - (i + 1)) (by rw [hd]; omega);rw [show 0 + (i + 1) + (j - (i + 1)) = j by omega] at this;rw [this, List.getElem_drop, ← hu, List.getElem?_eq_getElem (by rw [Jl]; omega)];simp only [Option.some.injEq]
     congr 1; omega
   ·obtain rfl : i = n := by omega
    refine (Any2.slices_Insert_int_end_room laysNm221 b 0 i c vb 0 1 1 [.int .i64 d] w (by decide) hr Nq rfl (fun j hj => by rw [Nat.zero_add]; exact hsome (i + j) (by omega)) (fun j _ => by rw [Nat.zero_add]; exact AW (i + j)) VL WR).mono ?_;rintro e w' ⟨rfl, rfl⟩;refine ⟨_, _, rfl, ?_, (fun b off e => by cases e; exact Gv), below_setCells_w Gv _ _ _⟩;refine rS DJ hi hr Nq ?_ (fun j u hj hu => ?_) ?_ (fun j u hj hu => ?_)
    ·have h1 := (below_setCells_w (B := 0) (g := b) (Nat.zero_le _) [.int .i64 d] (0 + i) w).size;omega
    ·rw [World.cell?_setCells_out _ _ _ _ _ (fun _ _ => .inl (by simp; omega))];exact hcell j u hu
    ·have := World.cell?_setCells_in b [.int .i64 d] (0 + i) w (fun j hj => by rw [Nat.zero_add]; exact hsome (i + j) (by simp at hj; omega)) 0 (by simp);simp only [Nat.zero_add, Nat.add_zero] at this ⊢;exact this
    ·have := (List.getElem?_eq_some_iff.1 hu).1;omega
end
theorem lG (v : Int) : ∀ {l : List Int}, l.Pairwise (· < ·) → l.take (l.countP (fun x => decide (x < v))) = l.takeWhile (fun x => decide (x < v)) ∧ l.drop (l.countP (fun x => decide (x < v))) = l.dropWhile (fun x => decide (x < v))
 | [], _ => by simp
 | x :: l, h => by
  obtain ⟨h1, h2⟩ := List.pairwise_cons.mp h;by_cases hx : x < v
  ·obtain ⟨e1, e2⟩ := lG v h2;rw [List.countP_cons_of_pos (by simpa using hx), List.takeWhile_cons_of_pos (by simpa using hx), List.dropWhile_cons_of_pos (by simpa using hx), List.take_succ_cons, List.drop_succ_cons, e1, e2];exact ⟨rfl, rfl⟩
  ·have h0 : (x :: l).countP (fun x => decide (x < v)) = 0 := by
    rw [List.countP_eq_zero];intro y hy;rcases List.mem_cons.mp hy with rfl | hy
    ·simpa using hx
    ·have := h1 y hy; simp; omega
   rw [h0, List.takeWhile_cons_of_neg (by simpa using hx), List.dropWhile_cons_of_neg (by simpa using hx)];simp
structure Mi (w : World) (gr : Array Value) (wr : World) : Prop where
 b0 : AJ wr w.heap.size 29 gr
 b1 : AJ wr (w.heap.size + 1) 29 #[.int .i64 0, .slice none 0 0, .slice none 0 0]
 bl : bW w wr
theorem Mi.new (w : World) (gr : Array Value) : Mi w gr ((w.alloc (.cells gr 29)).alloc (.cells #[.int .i64 0, .slice none 0 0, .slice none 0 0] 29)) :=
 ⟨(AJ.new w _ _).alloc _, by have := AJ.new (w.alloc (.cells gr 29)) 29 #[.int .i64 0, .slice none 0 0, .slice none 0 0]; simpa using this, ((Below.refl _ _).alloc lR _).alloc (by simp) _⟩
theorem Mi.later (h : Mi w gr wr) (hb : bW wr wr') : Mi w gr wr' := ⟨h.b0.below hb h.b0.lt, h.b1.below hb h.b1.lt, h.bl.trans (hb.mono h.bl.size)⟩
theorem Mi.cut (h : Mi w #[x, y, z] wr) : Mi w #[x, y, u] (wr.setCell ⟨w.heap.size, 2, none⟩ u) := ⟨h.b0.set 2 _, h.b1.far (by simp) _, h.bl.setCell (by simp) _⟩
theorem Mi.fin (h : Mi w #[x, y, z] wr) : AJ (((wr.setCell ⟨w.heap.size + 1, 0, none⟩ x).setCell ⟨w.heap.size + 1, 1, none⟩ y).setCell ⟨w.heap.size + 1, 2, none⟩ z) (w.heap.size + 1) 29 #[x, y, z] ∧ bW w (((wr.setCell ⟨w.heap.size + 1, 0, none⟩ x).setCell ⟨w.heap.size + 1, 1, none⟩ y).setCell ⟨w.heap.size + 1, 2, none⟩ z) :=
 ⟨((h.b1.set 0 _).set 1 _).set 2 _, ((h.bl.setCell (by simp) _).setCell (by simp) _).setCell (by simp) _⟩
theorem Sl.ne {B x : Nat} {xs : List Value} (h : Sl w B size A n c xs) (hx : ∀ b off, A = some ⟨b, off, none⟩ → b ≠ x) : Sl (w.setCell ⟨x, i, none⟩ u) B size A n c xs :=
 ⟨h.1, h.2.1, h.2.2.1, h.2.2.2.1, fun hn => by
  obtain ⟨b, off, rfl, hb, hc⟩ := h.2.2.2.2 hn;refine ⟨b, off, rfl, hb, fun j v hv => ?_⟩;exact (World.cell?_setCell_far w ⟨x, i, none⟩ ⟨b, off + j, none⟩ u (fun e => hx b off rfl e.symm)).trans (hc j v hv)⟩
theorem nr (Al Ap : Option Addr) (nl cl np cp : Nat) (co v : Int) (pr : List Int) (w : World) (hp : Av w 1 Ap np cp (zF pr)) (SN : np ≤ 1000) (ho : pr.Pairwise (· < ·)) :
 Calls prog 65 #[.agg #[.int .i64 co, .slice Al nl cl, .slice Ap np cp], .int .i64 v] w fun e w' => ∃ (A : Option Addr) (n c : Nat), e = .returned (.agg #[.int .i64 co, .slice Al nl cl, .slice A n c]) ∧ Hid (Av w' 1 A n c (zF (xR pr v))) ∧ Hid (A = Ap ∧ n = np ∧ c = cp ∧ xR pr v = pr ∨ ∀ b off, A = some ⟨b, off, none⟩ → w.heap.size ≤ b) ∧ Hid (bW w w') := by
 have HB := iD (Mi.new w #[.int .i64 co, .slice Al nl cl, .slice Ap np cp]);have HP := iD hp;have NK : Hid (pr.length = np) := hp.len (fun _ => rfl) (by decide);have HO := iD ho;have AP := iD (lG v ho);clear hp ho
 go_enter func65, ntmps65
 go_upto_region 1 with (fail);generalize World.alloc (World.alloc w _) _ = W at *;have Ag := iD (nM Ap np cp w.heap.size pr v W (HP.below HB.bl lR) (by omega) HO);have g2 := HB.b0.c2
 go_wp2_with fail
 clear g2;refine Ag.mono ?_;rintro e w1 ⟨rfl, q, hw⟩;have AL : Hid (Mi w #[.int .i64 co, .slice Al nl cl, .slice Ap np cp] w1) := by unfold Hid; rw [hw]; exact HB.later (sS bR q)
 clear hw HB Ag;by_cases hm : v ∈ pr
 ·have HV : Hid (xR pr v = pr) := by unfold Hid xR; rw [if_pos hm]
  have q1 : decide (v ∈ pr) = true := by simpa using hm
  clear hm;obtain ⟨g0, g1, g2⟩ := AL.b0.d3;obtain ⟨d0, d1, d2⟩ := AL.b1.d3;obtain ⟨y0, y1, y2⟩ := AL.b1.e3;have HE := iD (AL.fin);have JC : Hid (Sl (((w1.setCell ⟨w.heap.size + 1, 0, none⟩ (.int .i64 co)).setCell ⟨w.heap.size + 1, 1, none⟩ (.slice Al nl cl)).setCell ⟨w.heap.size + 1, 2, none⟩ (.slice Ap np cp)) (w.heap.size) 1 Ap np cp (zF (xR pr v))) := by unfold Hid; rw [HV.out]; exact (((HP.below AL.bl lR).setCell (by simp) _).setCell (by simp) _).setCell (by simp) _
  go_wp2_with fail
  have hz : w.heap.size ≤ (((w1.setCell ⟨w.heap.size + 1, 0, none⟩ (.int .i64 co)).setCell ⟨w.heap.size + 1, 1, none⟩ (.slice Al nl cl)).setCell ⟨w.heap.size + 1, 2, none⟩ (.slice Ap np cp)).heap.size := by simp [World.setCell]; have := AL.bl.size; omega
  generalize World.setCell (World.setCell (World.setCell w1 _ _) _ _) _ _ = z at *;obtain ⟨q0, q1, q2⟩ := HE.1.d3;exact bodyPost_ret (v := .agg #[.int .i64 co, .slice Al nl cl, .slice Ap np cp]) (by simp [results, results65, go_sem, q0, q1, q2]) rfl ⟨_, _, _, rfl, JC.more hz, .inl ⟨rfl, rfl, rfl, HV⟩, HE.2⟩
 have HV : Hid (xR pr v = pr.take (pr.countP (fun x => decide (x < v))) ++ v :: pr.drop (pr.countP (fun x => decide (x < v)))) := by unfold Hid xR; rw [if_neg hm, AP.1, AP.2]
 have q1 : decide (v ∈ pr) = false := by simpa using hm
 have hi : pr.countP (fun x => decide (x < v)) ≤ np := by have := List.countP_le_length (p := fun x => decide (x < v)) (l := pr); have := NK.out; omega
 clear hm AP;obtain ⟨i, AV⟩ : ∃ i, i = pr.countP (fun x => decide (x < v)) := ⟨_, rfl⟩
 rw [← AV] at HV hi ⊢;clear AV;have g2 := AL.b0.c2
 go_wp2_with fail
 clear g2 q1;refine (xO Ap np cp w1.heap.size pr w1 ((HP.below AL.bl lR).more AL.bl.size) lR (by omega)).mono ?_;rintro e w2 ⟨A2, c2, rfl, De, AQ⟩;rw [NK.out] at De ⊢;have AY := iD (AL.later AQ);have BQ := iD De.out;have Aj : w.heap.size + 1 < w1.heap.size := AL.b1.lt;have PW : Hid (w1.heap.size ≤ w2.heap.size) := AQ.size;clear De AQ AL;have QQ := iD (AJ.new w2 3 #[.int .i64 v]);have BU := iD (BQ.later ((Below.refl _ w2).alloc lR (.cells #[.int .i64 v] 3)));have CS := iD (AY.later ((Below.refl _ w2).alloc lR (.cells #[.int .i64 v] 3)));have DR : Hid (∀ b, A2 = some ⟨b, 0, none⟩ → b ≠ w2.heap.size) := fun b e => by have := (BQ.lt b (by rw [e]; rfl)).2; omega
 have Lv := iD (iK A2 np c2 i w1.heap.size w2.heap.size pr v (w2.alloc (.cells #[.int .i64 v] 3)) BU QQ (by have := PW.out; simp; omega) DR hi (by omega))
 go_wp2_with fail
 refine Lv.mono ?_;rintro e w4 ⟨A4, c4, rfl, Aa, Ab, BX⟩;have Bu : Hid (Mi w #[.int .i64 co, .slice Al nl cl, .slice Ap np cp] w4) := ⟨CS.b0.below BX (by omega), CS.b1.below BX (by omega), CS.bl.trans (BX.mono (by omega))⟩;have Bh := iD Aa.out;have Pf := iD Ab.out;clear Aa Ab BX Lv DR CS BU QQ BQ AY PW;have y2 := Bu.b0.frozen 2;have g2 := Bu.b0.cell 2;have Au := iD (Bu.cut (u := .slice A4 (np + 1) c4));have EU := iD (Bh.ne (x := w.heap.size) (i := 2) (u := .slice A4 (np + 1) c4) (fun b off e => by have := Pf b off e; omega));go_upto_region 4 with (fail);clear y2 g2;have TD : Hid (∀ b off, A4 = some ⟨b, off, none⟩ → w.heap.size ≤ b) := fun b off e => by have := Pf b off e; omega
 have HA4' : Hid (∀ b off, A4 = some ⟨b, off, none⟩ → b ≠ w.heap.size + 1) := fun b off e => by have := Pf b off e; omega
 have Rw : (w4.setCell ⟨w.heap.size, 2, none⟩ (.slice A4 (np + 1) c4)).heap.size = w4.heap.size := by simp [World.setCell]
 rw [← Rw] at EU;generalize World.setCell w4 _ _ = X at *;obtain ⟨g0, g1, g2⟩ := Au.b0.d3;obtain ⟨d0, d1, d2⟩ := Au.b1.d3;obtain ⟨y0, y1, y2⟩ := Au.b1.e3;have HE := iD (Au.fin);have JC : Hid (Sl (((X.setCell ⟨w.heap.size + 1, 0, none⟩ (.int .i64 co)).setCell ⟨w.heap.size + 1, 1, none⟩ (.slice Al nl cl)).setCell ⟨w.heap.size + 1, 2, none⟩ (.slice A4 (np + 1) c4)) (X.heap.size) 1 A4 (np + 1) c4 (zF (xR pr v))) := by unfold Hid; rw [HV.out]; exact ((EU.ne HA4').ne HA4').ne HA4'.out
 go_wp2_with fail
 have hz : X.heap.size ≤ (((X.setCell ⟨w.heap.size + 1, 0, none⟩ (.int .i64 co)).setCell ⟨w.heap.size + 1, 1, none⟩ (.slice Al nl cl)).setCell ⟨w.heap.size + 1, 2, none⟩ (.slice A4 (np + 1) c4)).heap.size := by simp [World.setCell]
 generalize World.setCell (World.setCell (World.setCell X _ _) _ _) _ _ = z at *;obtain ⟨q0, q1, q2⟩ := HE.1.d3;exact bodyPost_ret (v := .agg #[.int .i64 co, .slice Al nl cl, .slice A4 (np + 1) c4]) (by simp [results, results65, go_sem, q0, q1, q2]) rfl ⟨_, _, _, rfl, JC.more hz, .inr TD, HE.2⟩
structure FE (w : World) (nt gr st : Array Value) (wr : World) : Prop where
 b0 : AJ wr w.heap.size 26 nt
 b1 : AJ wr (w.heap.size + 1) 29 gr
 b2 : AJ wr (w.heap.size + 2) 31 st
 b3 : AJ wr (w.heap.size + 3) 29 #[.int .i64 0, .slice none 0 0, .slice none 0 0]
 bl : bW w wr
theorem FE.new (w : World) (nt gr st : Array Value) : FE w nt gr st ((((w.alloc (.cells nt 26)).alloc (.cells gr 29)).alloc (.cells st 31)).alloc (.cells #[.int .i64 0, .slice none 0 0, .slice none 0 0] 29)) := by
 obtain ⟨h0, h1, h2, h3, h4⟩ := kF w 26 29 31 29 nt gr st #[.int .i64 0, .slice none 0 0, .slice none 0 0];exact ⟨h0, h1, h2, h3, h4⟩
theorem FE.later (h : FE w nt gr st wr) (hb : bW wr wr') : FE w nt gr st wr' := ⟨h.b0.below hb h.b0.lt, h.b1.below hb h.b1.lt, h.b2.below hb h.b2.lt, h.b3.below hb h.b3.lt, h.bl.trans (hb.mono h.bl.size)⟩
theorem FE.fin (h : FE w nt gr st wr) : AJ (((wr.setCell ⟨w.heap.size + 3, 0, none⟩ x).setCell ⟨w.heap.size + 3, 1, none⟩ y).setCell ⟨w.heap.size + 3, 2, none⟩ z) (w.heap.size + 3) 29 #[x, y, z] ∧ bW w (((wr.setCell ⟨w.heap.size + 3, 0, none⟩ x).setCell ⟨w.heap.size + 3, 1, none⟩ y).setCell ⟨w.heap.size + 3, 2, none⟩ z) :=
 ⟨((h.b3.set 0 _).set 1 _).set 2 _, ((h.bl.setCell (by simp) _).setCell (by simp) _).setCell (by simp) _⟩
theorem FE.cut (h : FE w nt #[x, y, z] st wr) : FE w nt #[x, u, z] st (wr.setCell ⟨w.heap.size + 1, 1, none⟩ u) :=
 ⟨h.b0.far (by simp) _, h.b1.set 1 _, h.b2.far (by simp) _, h.b3.far (by simp) _, h.bl.setCell (by simp) _⟩
theorem Ip {x : Nat} {xs : List Value} {d : Value} (h : Av w size A n c xs) (hx : ∀ b off, A = some ⟨b, off, none⟩ → b ≠ x) : Sl (((w.setCell ⟨x, 0, none⟩ a).setCell ⟨x, 1, none⟩ b).setCell ⟨x, 2, none⟩ d) (((w.setCell ⟨x, 0, none⟩ a).setCell ⟨x, 1, none⟩ b).setCell ⟨x, 2, none⟩ d).heap.size size A n c xs :=
 (((h.ne hx).ne hx).ne hx).more (by simp [World.setCell])
def yf (ns : List Nd) (ds : List Dv) (ls : List Lk) (x : Sp) : List Lk × Bool :=
 if x.kind = 3 then (if zf ns ds ls ⟨x.dev, x.pos, x.key⟩ ≠ 0 then (ls, false) else (xy ⟨x.dev, x.pos, x.key⟩ ls, true))
 else match wR x.dev x.key ls with
  | none => (ls, false)
  | some i => (ls.eraseIdx i, true)
def iW (w : World) (co : Int) (Al Ap : Option Addr) (nl cl np cp : Nat) (ns : List Nd) (ds : List Dv) (ls : List Lk) (x : Sp) (e : Ending) (w' : World) : Prop :=
 ∃ (A : Option Addr) (n c : Nat), e = .returned (.tuple #[.agg #[.int .i64 co, .slice A n c, .slice Ap np cp], .bool (yf ns ds ls x).2]) ∧ Hid (Sl w' w'.heap.size 3 A n c ((yf ns ds ls x).1.flatMap Lk.cells)) ∧ Hid (A = Al ∧ n = nl ∧ c = cl ∧ (yf ns ds ls x).1 = ls ∨ ∀ b off, A = some ⟨b, off, none⟩ → w.heap.size ≤ b) ∧ Hid (Below w.heap.size w w')
theorem ta.any {q : Int} {e : Ending} {w' : World} (h : ta w ns ds ls d q e w') : ∃ (A : Option Addr) (n c : Nat) (er : Int), e = .returned (.tuple #[.slice A n c, .int .i64 er]) ∧ Hid (bW w w') := by
 obtain ⟨⟨-, rfl⟩ | ⟨-, -, rfl⟩ | ⟨-, i, A, c, -, rfl, -⟩, hb⟩ := h
 ·exact ⟨_, _, _, _, rfl, hb⟩
 ·exact ⟨_, _, _, _, rfl, hb⟩
 ·exact ⟨_, _, _, _, rfl, hb⟩
theorem sP (An Ad Al Ap : Option Addr) (nn cn nd cd nl cl np cp : Nat) (ns : List Nd) (ds : List Dv) (ls : List Lk) (co k d no p q : Int) (w : World) (Ie : yr w) (hn : Av w 3 An nn cn (ns.flatMap Nd.cells)) (hd : Av w 5 Ad nd cd (ds.flatMap Dv.cells)) (hl : Av w 3 Al nl cl (ls.flatMap Lk.cells)) (Bj : FO ns) (Bc : GH ds) (hk : k = 3 ∨ k = 4) (h0 : zH ns ds ls = 0) :
 Calls prog 66 #[.agg #[.slice An nn cn, .slice Ad nd cd], .agg #[.int .i64 co, .slice Al nl cl, .slice Ap np cp], .agg #[.int .i64 k, .int .i64 d, .int .i64 no, .int .i64 p, .int .i64 q]] w (iW w co Al Ap nl cl np cp ns ds ls ⟨k, d, no, p, q⟩) := by
 have HB := iD (FE.new w #[.slice An nn cn, .slice Ad nd cd] #[.int .i64 co, .slice Al nl cl, .slice Ap np cp] #[.int .i64 k, .int .i64 d, .int .i64 no, .int .i64 p, .int .i64 q]);have Ac := iD hn; have Af := iD hd; have AB := iD hl; have Ae := iD Ie; have Da := iD Bj; have CU := iD Bc; have HZ := iD h0;obtain rfl : ls.length = nl := hl.len (fun _ => rfl) (by decide);clear hn hd hl Ie Bj Bc h0
 go_enter func66, ntmps66
 go_upto_region 1 with (fail);generalize World.alloc (World.alloc (World.alloc (World.alloc w _) _) _) _ = W at *;rw [show w.heap.size + 1 + 1 = w.heap.size + 2 from rfl, show w.heap.size + 2 + 1 = w.heap.size + 3 from rfl];have Bt := iD (og An Ad Al nn cn nd cd cl w.heap.size w.heap.size w.heap.size ns ds ls d q W (Ae.below HB.bl lR) (Ac.below HB.bl lR) (Af.below HB.bl lR) (AB.below HB.bl lR) HB.bl.size HB.bl.size HB.bl.size Da CU);obtain ⟨k0, k1⟩ := HB.b0.d2;obtain ⟨g0, g1, g2⟩ := HB.b1.d3;obtain ⟨s0, s1⟩ := HB.b2.d2;have s3 := HB.b2.c3;have s4 := HB.b2.c4
 go_wp2_with fail
 clear k0 k1 g0 g1 g2 s0 s1 s3 s4;refine Bt.mono ?_;have FW : Hid (w.heap.size + 3 < W.heap.size) := HB.b3.lt;rcases hk with rfl | rfl; rotate_left
 ·rintro e w1 ⟨⟨h1, -⟩ | ⟨-, hi, rfl⟩ | ⟨-, i, A, c, hi, rfl, hO⟩, hb⟩
  ·exact absurd HZ h1
  ·have HT : Hid (yf ns ds ls ⟨4, d, no, p, q⟩ = (ls, false)) := by unfold Hid yf; rw [if_neg (show ¬ (4 : Int) = 3 by decide)]; simp only [hi]
   have AL := iD (HB.later hb);clear hi hb Bt;obtain ⟨g0, g1, g2⟩ := AL.b1.d3;have s0 := AL.b2.c0;obtain ⟨d0, d1, d2⟩ := AL.b3.d3;obtain ⟨y0, y1, y2⟩ := AL.b3.e3;have HE := iD (AL.fin (x := .int .i64 co) (y := .slice Al ls.length cl) (z := .slice Ap np cp));have JC : Hid (Sl (((w1.setCell ⟨w.heap.size + 3, 0, none⟩ (.int .i64 co)).setCell ⟨w.heap.size + 3, 1, none⟩ (.slice Al ls.length cl)).setCell ⟨w.heap.size + 3, 2, none⟩ (.slice Ap np cp)) w.heap.size 3 Al ls.length cl (ls.flatMap Lk.cells)) := (((AB.below AL.bl lR).setCell (by simp) _).setCell (by simp) _).setCell (by simp) _
   go_wp2_with fail
   generalize World.setCell (World.setCell (World.setCell w1 _ _) _ _) _ _ = z at *;obtain ⟨q0, q1, q2⟩ := HE.1.d3;exact bodyPost_ret (v := .tuple #[.agg #[.int .i64 co, .slice Al ls.length cl, .slice Ap np cp], .bool false]) (by simp [results, results66, go_sem, q0, q1, q2]) rfl ⟨_, _, _, by rw [HT.out], by rw [HT.out]; exact JC.more HE.2.size, .inl ⟨rfl, rfl, rfl, by rw [HT.out]⟩, HE.2⟩
  ·have HT : Hid (yf ns ds ls ⟨4, d, no, p, q⟩ = (ls.eraseIdx i, true)) := by unfold Hid yf; rw [if_neg (show ¬ (4 : Int) = 3 by decide)]; simp only [hi]
   have AL := iD (HB.later hb);have Wt := iD (Sl.of_own hO)
   have Hl : Hid (∀ b off, A = some ⟨b, off, none⟩ → w.heap.size + 3 < b) := fun b off e => by
    have h := hO.lt b (by rw [e]; rfl);have := FW.out; omega
   clear hi hb hO Bt;have g1 := AL.b1.c1;have s0 := AL.b2.c0;have z1 := AL.b1.frozen 1;have Au := iD (AL.cut (u := .slice A (ls.length - 1) c));have EU := iD ((Wt.ne (x := w.heap.size + 1) (i := 1) (u := .slice A (ls.length - 1) c) (fun b off e => by have := Hl b off e; omega)).more (show _ ≤ (World.setCell w1 ⟨w.heap.size + 1, 1, none⟩ (.slice A (ls.length - 1) c)).heap.size by simp [World.setCell]));have TD : Hid (∀ b off, A = some ⟨b, off, none⟩ → w.heap.size ≤ b) := fun b off e => by have := Hl b off e; omega
   have IB : Hid (∀ b off, A = some ⟨b, off, none⟩ → b ≠ w.heap.size + 3) := fun b off e => by have := Hl b off e; omega
   go_upto_region 7 with (fail);clear g1 z1 s0 Wt Hl;generalize World.setCell w1 _ _ = X at *;obtain ⟨g0, g1, g2⟩ := Au.b1.d3;obtain ⟨d0, d1, d2⟩ := Au.b3.d3;obtain ⟨y0, y1, y2⟩ := Au.b3.e3;have HE := iD (Au.fin (x := .int .i64 co) (y := .slice A (ls.length - 1) c) (z := .slice Ap np cp));have JC := iD (Ip (x := w.heap.size + 3) (a := .int .i64 co) (b := .slice A (ls.length - 1) c) (d := .slice Ap np cp) EU IB)
   go_wp2_with fail
   generalize World.setCell (World.setCell (World.setCell X _ _) _ _) _ _ = z at *;obtain ⟨q0, q1, q2⟩ := HE.1.d3;exact bodyPost_ret (v := .tuple #[.agg #[.int .i64 co, .slice A (ls.length - 1) c, .slice Ap np cp], .bool true]) (by simp [results, results66, go_sem, q0, q1, q2]) rfl ⟨_, _, _, by rw [HT.out], by rw [HT.out]; exact JC, .inr TD, HE.2⟩
 ·intro e w1 hp;obtain ⟨A, n, c, er, rfl, hb⟩ := hp.any;have AL := iD (HB.later hb);clear hp hb Bt;have Tx := iD (jL An Ad Al nn cn nd cd cl w.heap.size w.heap.size w.heap.size ns ds ls d p q w1 (Ae.below AL.bl lR) (Ac.below AL.bl lR) (Af.below AL.bl lR) (AB.below AL.bl lR) AL.bl.size AL.bl.size AL.bl.size Da CU);obtain ⟨k0, k1⟩ := AL.b0.d2;obtain ⟨g0, g1, g2⟩ := AL.b1.d3;obtain ⟨s0, s1⟩ := AL.b2.d2;have s3 := AL.b2.c3;have s4 := AL.b2.c4
  go_wp2_with fail
  clear k0 k1 g0 g1 g2 s0 s1 s3 s4;refine Tx.mono ?_;have AH : Hid (w.heap.size + 3 < w1.heap.size) := AL.b3.lt;rintro e w2 ⟨⟨h1, rfl⟩ | ⟨h1, A3, c3, rfl, hO⟩, hb⟩
  ·have HT : Hid (yf ns ds ls ⟨3, d, no, p, q⟩ = (ls, false)) := by unfold Hid yf; rw [if_pos rfl, if_pos h1]
   have AY := iD (AL.later hb);have q1 : (zf ns ds ls ⟨d, p, q⟩ != 0) = true := by simpa using h1
   clear h1 hb Tx AL;obtain ⟨g0, g1, g2⟩ := AY.b1.d3;have s0 := AY.b2.c0;obtain ⟨d0, d1, d2⟩ := AY.b3.d3;obtain ⟨y0, y1, y2⟩ := AY.b3.e3;have HE := iD (AY.fin (x := .int .i64 co) (y := .slice Al ls.length cl) (z := .slice Ap np cp));have JC : Hid (Sl (((w2.setCell ⟨w.heap.size + 3, 0, none⟩ (.int .i64 co)).setCell ⟨w.heap.size + 3, 1, none⟩ (.slice Al ls.length cl)).setCell ⟨w.heap.size + 3, 2, none⟩ (.slice Ap np cp)) w.heap.size 3 Al ls.length cl (ls.flatMap Lk.cells)) := (((AB.below AY.bl lR).setCell (by simp) _).setCell (by simp) _).setCell (by simp) _
   go_wp2_with fail
   generalize World.setCell (World.setCell (World.setCell w2 _ _) _ _) _ _ = z at *;obtain ⟨q0, q1, q2⟩ := HE.1.d3;exact bodyPost_ret (v := .tuple #[.agg #[.int .i64 co, .slice Al ls.length cl, .slice Ap np cp], .bool false]) (by simp [results, results66, go_sem, q0, q1, q2]) rfl ⟨_, _, _, by rw [HT.out], by rw [HT.out]; exact JC.more HE.2.size, .inl ⟨rfl, rfl, rfl, by rw [HT.out]⟩, HE.2⟩
  ·have HT : Hid (yf ns ds ls ⟨3, d, no, p, q⟩ = (xy ⟨d, p, q⟩ ls, true)) := by unfold Hid yf; rw [if_pos rfl, if_neg (by simp [h1])]
   have AY := iD (AL.later hb);have Wt := iD (Sl.of_own hO)
   have Hl : Hid (∀ b off, A3 = some ⟨b, off, none⟩ → w.heap.size + 3 < b) := fun b off e => by
    have h := hO.lt b (by rw [e]; rfl);have := AH.out; omega
   clear h1 hb hO Tx AL;have g1 := AY.b1.c1;have s0 := AY.b2.c0;have z1 := AY.b1.frozen 1;have Au := iD (AY.cut (u := .slice A3 (ls.length + 1) c3));have EU := iD ((Wt.ne (x := w.heap.size + 1) (i := 1) (u := .slice A3 (ls.length + 1) c3) (fun b off e => by have := Hl b off e; omega)).more (show _ ≤ (World.setCell w2 ⟨w.heap.size + 1, 1, none⟩ (.slice A3 (ls.length + 1) c3)).heap.size by simp [World.setCell]));have TD : Hid (∀ b off, A3 = some ⟨b, off, none⟩ → w.heap.size ≤ b) := fun b off e => by have := Hl b off e; omega
   have IB : Hid (∀ b off, A3 = some ⟨b, off, none⟩ → b ≠ w.heap.size + 3) := fun b off e => by have := Hl b off e; omega
   go_upto_region 7 with (fail);clear g1 z1 s0 Wt Hl;generalize World.setCell w2 _ _ = X at *;obtain ⟨g0, g1, g2⟩ := Au.b1.d3;obtain ⟨d0, d1, d2⟩ := Au.b3.d3;obtain ⟨y0, y1, y2⟩ := Au.b3.e3;have HE := iD (Au.fin (x := .int .i64 co) (y := .slice A3 (ls.length + 1) c3) (z := .slice Ap np cp));have JC := iD (Ip (x := w.heap.size + 3) (a := .int .i64 co) (b := .slice A3 (ls.length + 1) c3) (d := .slice Ap np cp) EU IB)
   go_wp2_with fail
   generalize World.setCell (World.setCell (World.setCell X _ _) _ _) _ _ = z at *;obtain ⟨q0, q1, q2⟩ := HE.1.d3;exact bodyPost_ret (v := .tuple #[.agg #[.int .i64 co, .slice A3 (ls.length + 1) c3, .slice Ap np cp], .bool true]) (by simp [results, results66, go_sem, q0, q1, q2]) rfl ⟨_, _, _, by rw [HT.out], by rw [HT.out]; exact JC, .inr TD, HE.2⟩
section
variable (ns : List Nd) (ds : List Dv) (co : Int) (t : Sm) (d v p q : Int)
theorem tG {k : Int} (hk : k = 1 ∨ k = 2) : za ns ds co t ⟨k, d, v, p, q⟩ = ⟨FP ns ds t.s d k co t.ls t.pr, ⟨t.s.set d.toNat k, t.ls, if uu ds k d then [] else t.pr⟩, true⟩ := by unfold za; rw [if_pos hk]
theorem oD : za ns ds co t ⟨5, d, v, p, q⟩ = if JN (zW ns.length ds t.s) v then ⟨[8], t, true⟩ else ⟨[], ⟨t.s, t.ls, xR t.pr v⟩, true⟩ := by unfold za; rw [if_neg (by simp), if_pos rfl]
theorem mh : za ns ds co t ⟨6, d, v, p, q⟩ = if t.s.getD d.toNat 0 ≠ p then ⟨[8], t, false⟩ else ⟨[], t, true⟩ := by
 unfold za; rw [if_neg (by simp), if_neg (by simp), if_neg (by simp)]; rfl
theorem iu (ls : List Lk) : yf ns ds ls ⟨4, d, v, p, q⟩ = match wR d q ls with
 | none => (ls, false)
 | some i => (ls.eraseIdx i, true) := by unfold yf; rw [if_neg (by simp)] <;> rfl
theorem iw (ls : List Lk) : yf ns ds ls ⟨3, d, v, p, q⟩ = if zf ns ds ls ⟨d, p, q⟩ ≠ 0 then (ls, false) else (xy ⟨d, p, q⟩ ls, true) := by unfold yf; rw [if_pos rfl]
theorem mi : za ns ds co t ⟨4, d, v, p, q⟩ = if (yf ns ds t.ls ⟨4, d, v, p, q⟩).2 then ⟨[], ⟨t.s, (yf ns ds t.ls ⟨4, d, v, p, q⟩).1, t.pr⟩, true⟩ else ⟨[4], t, true⟩ := by
 have e : za ns ds co t ⟨4, d, v, p, q⟩ = match wR d q t.ls with
  | none => ⟨[4], t, true⟩
  | some i => ⟨[], ⟨t.s, t.ls.eraseIdx i, t.pr⟩, true⟩ := by
  unfold za; rw [if_neg (by simp), if_neg (by simp), if_pos rfl] <;> rfl
 rw [e, iu];rcases wR d q t.ls with _ | i <;> rfl
theorem qG : za ns ds co t ⟨3, d, v, p, q⟩ = if t.s.getD d.toNat 0 ≠ p then ⟨[8], t, false⟩ else if (yf ns ds t.ls ⟨3, d, v, p, q⟩).2 then ⟨[], ⟨t.s, (yf ns ds t.ls ⟨3, d, v, p, q⟩).1, t.pr⟩, true⟩ else ⟨[4], t, true⟩ := by
 rw [iw];unfold za; rw [if_neg (by simp), if_neg (by simp), if_neg (by simp)];dsimp only;by_cases h : t.s.getD d.toNat 0 ≠ p
 ·rw [if_pos h, if_pos h]
 ·rw [if_neg h, if_neg h, if_neg (by simp)];by_cases h2 : zf ns ds t.ls ⟨d, p, q⟩ ≠ 0
  ·rw [if_pos h2, if_pos h2]; rfl
  ·rw [if_neg h2, if_neg h2]; rfl
theorem jG {x : Sp} (h : (yf ns ds ls x).2 = false) : (yf ns ds ls x).1 = ls := by
 unfold yf at h ⊢;split at h
 ·next h1 =>
  rw [if_pos h1];split at h
  ·next h2 => rw [if_pos h2]
  ·cases h
 ·next h1 =>
  rw [if_neg h1];split at h
  ·rfl
  ·cases h
end
structure yi (w : World) (A1 A2 Al Ap : Option Addr) (n1 c1 n2 c2 nl cl np cp : Nat) (o : So) : Prop where
 h : Av w 1 A1 n1 c1 (zF o.h)
 s : Av w 1 A2 n2 c2 (zF o.t.s)
 l : Av w 3 Al nl cl (o.t.ls.flatMap Lk.cells)
 p : Av w 1 Ap np cp (zF o.t.pr)
def Rj (B : Nat) (A A' : Option Addr) (n n' : Nat) : Prop := A' = A ∧ n' = n ∨ ∀ b off, A' = some ⟨b, off, none⟩ → B ≤ b
def uy (w : World) (As Aq Ao : Option Addr) (n Ai Ah : Nat) (co : Int) (o : So) (e : Ending) (w' : World) : Prop :=
 ∃ (A1 A2 Al Ap : Option Addr) (n1 c1 n2 c2 nl cl np cp : Nat), e = .returned (.tuple #[.slice A1 n1 c1, .slice A2 n2 c2, .agg #[.int .i64 co, .slice Al nl cl, .slice Ap np cp], .bool o.ok]) ∧ Hid (yi w' A1 A2 Al Ap n1 c1 n2 c2 nl cl np cp o) ∧ Hid (Rj w.heap.size none A1 0 n1 ∧ Rj w.heap.size As A2 n n2 ∧ Rj w.heap.size Aq Al Ai nl ∧ Rj w.heap.size Ao Ap Ah np) ∧ Hid (Below w.heap.size w w')
theorem iG {w2 wa : World} {x : Nat} {xs : List Value} {d : Value} (h : Av w2 size A n c xs) (ho : Av w size A n c xs ∨ ∀ b off, A = some ⟨b, off, none⟩ → b ≠ x) (hb : bW w2 wa) (hz : bW w (((wa.setCell ⟨x, 0, none⟩ a).setCell ⟨x, 1, none⟩ b).setCell ⟨x, 2, none⟩ d)) : Sl (((wa.setCell ⟨x, 0, none⟩ a).setCell ⟨x, 1, none⟩ b).setCell ⟨x, 2, none⟩ d) (((wa.setCell ⟨x, 0, none⟩ a).setCell ⟨x, 1, none⟩ b).setCell ⟨x, 2, none⟩ d).heap.size size A n c xs := by
 rcases ho with ho | ho
 ·exact (ho.below hz lR).more hz.size
 ·exact Ip ((h.below hb lR).more hb.size) ho
theorem xe {z : World} {bq : Nat} (hv : AJ z bq 3 #[.int .i64 v]) : Av z 1 (some ⟨bq, 0, none⟩) 1 1 (zF [v]) :=
 ⟨rfl, Nat.le_refl _, by decide, (fun e => by cases e), fun _ => ⟨bq, 0, rfl, hv.lt, fun j u hu => by rw [Nat.zero_add, hv.cell]; simpa [zF] using hu⟩⟩
theorem zU {g x : Nat} {t : TypeId} {cs : Array Value} {d : Value} (h : AJ w g t cs) (hg : g ≠ x) : AJ (((w.setCell ⟨x, 0, none⟩ a).setCell ⟨x, 1, none⟩ b).setCell ⟨x, 2, none⟩ d) g t cs := ((h.far (p := ⟨x, 0, none⟩) hg a).far (p := ⟨x, 1, none⟩) hg b).far (p := ⟨x, 2, none⟩) hg d
theorem FE.cells {An Ad Al Ap : Option Addr} {cn cd nl cl np cp : Nat} {k no p q : Int} (h : FE w #[.slice An nn cn, .slice Ad nd cd] #[.int .i64 co, .slice Al nl cl, .slice Ap np cp] #[.int .i64 k, .int .i64 d, .int .i64 no, .int .i64 p, .int .i64 q] wr) :
 (wr.cell? ⟨w.heap.size, 0, none⟩ = some (.slice An nn cn) ∧ wr.cell? ⟨w.heap.size, 1, none⟩ = some (.slice Ad nd cd)) ∧ (wr.cell? ⟨w.heap.size + 1, 0, none⟩ = some (.int .i64 co) ∧ wr.cell? ⟨w.heap.size + 1, 1, none⟩ = some (.slice Al nl cl) ∧ wr.cell? ⟨w.heap.size + 1, 2, none⟩ = some (.slice Ap np cp)) ∧ wr.cell? ⟨w.heap.size + 2, 0, none⟩ = some (.int .i64 k) ∧ wr.cell? ⟨w.heap.size + 2, 1, none⟩ = some (.int .i64 d) ∧ wr.cell? ⟨w.heap.size + 2, 2, none⟩ = some (.int .i64 no) ∧ wr.cell? ⟨w.heap.size + 2, 3, none⟩ = some (.int .i64 p) ∧ wr.cell? ⟨w.heap.size + 2, 4, none⟩ = some (.int .i64 q) :=
 ⟨⟨h.b0.cell 0, h.b0.cell 1⟩, ⟨h.b1.cell 0, h.b1.cell 1, h.b1.cell 2⟩, h.b2.cell 0, h.b2.cell 1, h.b2.cell 2, h.b2.cell 3, h.b2.cell 4⟩
theorem rq (An Ad As Al Ap : Option Addr) (nn cn nd cd n c nl cl np cp : Nat) (ns : List Nd) (ds : List Dv) (s : List Int) (ls : List Lk) (pr : List Int) (co k d no p q : Int) (w : World) (h : yp w An Ad As Al Ap nn cn nd cd n c nl cl np cp ns ds s ls pr) (CB : ua ns ds ⟨s, ls, pr⟩) (_hco : 0 ≤ co ∧ co ≤ 7) (hx : zc ns.length ds.length ⟨k, d, no, p, q⟩ = 0) (hk : k = 5) :
 Calls prog 39 #[.agg #[.slice An nn cn, .slice Ad nd cd], .slice As n c, .agg #[.int .i64 co, .slice Al nl cl, .slice Ap np cp], .agg #[.int .i64 k, .int .i64 d, .int .i64 no, .int .i64 p, .int .i64 q]] w (uy w As Al Ap n nl np co (za ns ds co ⟨s, ls, pr⟩ ⟨k, d, no, p, q⟩)) := by
 have HK := iD hk;clear hk;obtain ⟨DJ, Ic, FR⟩ := h.ln;have Pz : pr.length = np := h.hp.len (fun _ => rfl) (by decide);have HH := iD h;have HB := iD (FE.new w #[.slice An nn cn, .slice Ad nd cd] #[.int .i64 co, .slice Al nl cl, .slice Ap np cp] #[.int .i64 k, .int .i64 d, .int .i64 no, .int .i64 p, .int .i64 q]);obtain ⟨Di, Ca, Jf, MI, MH⟩ := xd hx;dsimp only at Di Ca Jf MI MH;obtain ⟨GQ, hsl⟩ := zQ CB.s;have GJ := iD (xo.of GQ);have BR := iD CB;have Bq : nn ≤ 32 := by have := GJ.nl; omega
 have AE : nd ≤ 64 := by have := GJ.dl; omega
 dsimp only at hsl;clear h CB hx GQ
 go_enter func39, ntmps39
 go_upto_region 1 with (fail);generalize World.alloc (World.alloc (World.alloc (World.alloc w _) _) _) _ = W at *;rw [show w.heap.size + 1 + 1 = w.heap.size + 2 from rfl, show w.heap.size + 2 + 1 = w.heap.size + 3 from rfl];have HM := iD (HH.below HB.bl);obtain ⟨⟨k0, k1⟩, ⟨g0, g1, g2⟩, s0, s1, s2, s3, s4⟩ := HB.cells;have hk := HK.out;clear HK;subst hk;have hlt := Jf rfl;obtain ⟨v, rfl⟩ := Int.eq_ofNat_of_zero_le hlt.1;have hv : v < nn := by omega
 go_wp2_with fail
 clear k0 k1 g0 g1 g2 s0 s1 s2 s3 s4;refine (uG An Ad As nn cn nd cd n c W.heap.size W.heap.size ds s W HM.hd lR HM.hs lR (by omega) (by omega) (by omega) (by have := GJ.e; rwa [DJ] at this) (by have := GJ.a; rwa [DJ] at this)).mono ?_;rintro e w1 ⟨A, B, P, C, rfl, NA, De, hP, hC, hb⟩;have AL := iD (HB.later hb);obtain ⟨g, x, rfl, -, -, hx, Np, -, -⟩ := De.at hv;have Om : Hid (JN (zW ns.length ds s) v = yw x) := by unfold Hid JN; rw [DJ, xN hC.out, List.getD_eq_getElem?_getD]; simp [hx]
 clear NA De hP hC hb HB HM hx;obtain ⟨⟨k0, k1⟩, ⟨g0, g1, g2⟩, s0, s1, s2, s3, s4⟩ := AL.cells;rcases IL : yw x with _ | _
 ·have q1 : (bits .and .i64 x 1 != 0) = false := IL;have HT : Hid (za ns ds co ⟨s, ls, pr⟩ ⟨5, d, v, p, q⟩ = ⟨[], ⟨s, ls, xR pr v⟩, true⟩) := by unfold Hid; rw [oD, Om.out, IL]; rfl
  go_upto_region 13 with (fail);clear q1 Np
  go_wp2_with fail
  clear k0 k1 g0 g1 g2 s0 s1 s2 s3 s4;refine (nr Al Ap nl cl np cp co v pr w1 (HH.below AL.bl).hp (by have := uA BR.p; dsimp only at this; omega) (tM _ _ _ |>.mp BR.p).2).mono ?_;rintro e w2 ⟨A4, n4, c4, rfl, hS, hW, hb⟩;have AY := iD (AL.later hb);have Bh := iD hS.out;have TD := iD hW.out;have AK : Hid (w.heap.size + 3 < w1.heap.size) := AL.b3.lt
  have Md : Hid (Rj w.heap.size Ap A4 np n4) := by
   rcases hW.out with ⟨h, h2, -⟩ | h
   ·exact .inl ⟨h, h2⟩
   ·exact .inr fun b off e => by have := h b off e; have := AL.bl.size; omega
  clear hS hW hb AL;obtain ⟨d0, d1, d2⟩ := AY.b3.d3;obtain ⟨y0, y1, y2⟩ := AY.b3.e3;have HE := iD (AY.fin (x := .int .i64 co) (y := .slice Al nl cl) (z := .slice A4 n4 c4))
  have DF : Hid (yi (((w2.setCell ⟨w.heap.size + 3, 0, none⟩ (.int .i64 co)).setCell ⟨w.heap.size + 3, 1, none⟩ (.slice Al nl cl)).setCell ⟨w.heap.size + 3, 2, none⟩ (.slice A4 n4 c4)) none As Al A4 0 0 n c nl cl n4 c4 ⟨[], ⟨s, ls, xR pr v⟩, true⟩) := by
   refine ⟨Sl.nil _ _ _, (HH.below HE.2).hs, (HH.below HE.2).hl, ?_⟩;rcases TD.out with ⟨rfl, rfl, rfl, e⟩ | hf
   ·dsimp only; rw [e]; exact (HH.below HE.2).hp
   ·exact Ip Bh (fun b off e => by have := hf b off e; have := AK.out; omega)
  go_wp2_with fail
  clear d0 d1 d2 y0 y1 y2;generalize World.setCell (World.setCell (World.setCell w2 _ _) _ _) _ _ = z at *;obtain ⟨q0, q1, q2⟩ := HE.1.d3;exact bodyPost_ret (v := .tuple #[.slice none 0 0, .slice As n c, .agg #[.int .i64 co, .slice Al nl cl, .slice A4 n4 c4], .bool true]) (by simp [results, results39, go_sem, q0, q1, q2]) rfl ⟨_, _, _, _, _, _, _, _, _, _, _, _, by rw [HT.out], by rw [HT.out]; exact DF, ⟨.inl ⟨rfl, rfl⟩, .inl ⟨rfl, rfl⟩, .inl ⟨rfl, rfl⟩, Md⟩, HE.2⟩
 ·have q1 : (bits .and .i64 x 1 != 0) = true := IL;have HT : Hid (za ns ds co ⟨s, ls, pr⟩ ⟨5, d, v, p, q⟩ = ⟨[8], ⟨s, ls, pr⟩, true⟩) := by unfold Hid; rw [oD, Om.out, IL]; rfl
  go_upto_region 12 with (fail);clear q1 Np k0 k1 g0 g1 g2 s0 s1 s2 s3 s4;have CF := iD AL.b1;have CK : Hid (Below w1.heap.size w1 (w1.alloc (.cells #[.int .i64 8] 3)).drew) := ((Below.refl w1.heap.size w1).alloc lR (.cells #[.int .i64 8] 3)).drew;have CQ := iD (AL.later CK);have JA : Hid (AJ (w1.alloc (.cells #[.int .i64 8] 3)).drew w1.heap.size 3 #[.int .i64 8]) := AJ.new w1 3 #[.int .i64 8];have GZ := iD (CF.below CK CF.lt);have Gc : w1.heap.size ≠ w.heap.size + 3 := by have := AL.b3.lt; omega
  refine fX (fun W' => W'.cell? ⟨w.heap.size + 1, 0, none⟩ = some (.int .i64 co) ∧ W'.cell? ⟨w.heap.size + 1, 1, none⟩ = some (.slice Al nl cl) ∧ W'.cell? ⟨w.heap.size + 1, 2, none⟩ = some (.slice Ap np cp)) [5, 6] ?_ fun AA => ?_
  ·exact ⟨CF.cell 0, CF.cell 1, CF.cell 2⟩
  try dsimp only at AA
  refine tk 1 65 (ma 7 2) AA ?_;refine tk 2 66 (ma 7 6) AA ?_;refine tb 0 (mf 7 3) fun K hK => ?_
  go_simp
  refine hK _ _ (fun _ => ⟨GZ.cell 0, GZ.cell 1, GZ.cell 2⟩) fun p => (fun AA => ?_) (p rfl)
  clear p hK K;(try dsimp only at AA);generalize World.drew (World.alloc w1 _) = wa at *;obtain ⟨d0, d1, d2⟩ := CQ.b3.d3;obtain ⟨y0, y1, y2⟩ := CQ.b3.e3;refine tk 3 8 (mf 7 4) AA ?_;refine tk 4 9 (mf 7 5) AA ?_;refine tb 5 (mf 7 6) fun K hK => ?_
  go_simp
  refine hK _ _ (fun h => by cases h) (fun _ => ?_)
  try clear AA
  clear hK K;refine tb 6 (mf 7 7) fun K hK => ?_
  go_simp
  refine hK _ _ (fun h => by cases h) (fun _ => ?_)
  try clear AA
  clear hK K;refine tK ?_;have HE := iD (CQ.fin (x := .int .i64 co) (y := .slice Al nl cl) (z := .slice Ap np cp));have DF : Hid (yi (((wa.setCell ⟨w.heap.size + 3, 0, none⟩ (.int .i64 co)).setCell ⟨w.heap.size + 3, 1, none⟩ (.slice Al nl cl)).setCell ⟨w.heap.size + 3, 2, none⟩ (.slice Ap np cp)) (some ⟨w1.heap.size, 0, none⟩) As Al Ap 1 1 n c nl cl np cp ⟨[8], ⟨s, ls, pr⟩, true⟩) := ⟨xe (zU JA Gc), (HH.below HE.2).hs, (HH.below HE.2).hl, (HH.below HE.2).hp⟩;clear d0 d1 d2 y0 y1 y2
  go_wp2_with fail
  generalize World.setCell (World.setCell (World.setCell wa _ _) _ _) _ _ = z at *;obtain ⟨q0, q1, q2⟩ := HE.1.d3;exact bodyPost_ret (v := .tuple #[.slice (some ⟨w1.heap.size, 0, none⟩) 1 1, .slice As n c, .agg #[.int .i64 co, .slice Al nl cl, .slice Ap np cp], .bool true]) (by simp [results, results39, go_sem, q0, q1, q2]) rfl ⟨_, _, _, _, _, _, _, _, _, _, _, _, by rw [HT.out], by rw [HT.out]; exact DF, ⟨.inr (fun b off e => by injection e with e; injection e with e1 e2; rw [← e1]; exact AL.bl.size), .inl ⟨rfl, rfl⟩, .inl ⟨rfl, rfl⟩, .inl ⟨rfl, rfl⟩⟩, HE.2⟩
theorem rF (An Ad As Al Ap : Option Addr) (nn cn nd cd n c nl cl np cp : Nat) (ns : List Nd) (ds : List Dv) (s : List Int) (ls : List Lk) (pr : List Int) (co k d no p q : Int) (w : World) (h : yp w An Ad As Al Ap nn cn nd cd n c nl cl np cp ns ds s ls pr) (CB : ua ns ds ⟨s, ls, pr⟩) (_hco : 0 ≤ co ∧ co ≤ 7) (hx : zc ns.length ds.length ⟨k, d, no, p, q⟩ = 0) (hk : k = 4) :
 Calls prog 39 #[.agg #[.slice An nn cn, .slice Ad nd cd], .slice As n c, .agg #[.int .i64 co, .slice Al nl cl, .slice Ap np cp], .agg #[.int .i64 k, .int .i64 d, .int .i64 no, .int .i64 p, .int .i64 q]] w (uy w As Al Ap n nl np co (za ns ds co ⟨s, ls, pr⟩ ⟨k, d, no, p, q⟩)) := by
 have HK := iD hk;clear hk;obtain ⟨DJ, Ic, FR⟩ := h.ln;have Pz : pr.length = np := h.hp.len (fun _ => rfl) (by decide);have HH := iD h;have HB := iD (FE.new w #[.slice An nn cn, .slice Ad nd cd] #[.int .i64 co, .slice Al nl cl, .slice Ap np cp] #[.int .i64 k, .int .i64 d, .int .i64 no, .int .i64 p, .int .i64 q]);obtain ⟨Di, Ca, Jf, MI, MH⟩ := xd hx;dsimp only at Di Ca Jf MI MH;obtain ⟨GQ, hsl⟩ := zQ CB.s;have GJ := iD (xo.of GQ);have BR := iD CB;have Bq : nn ≤ 32 := by have := GJ.nl; omega
 have AE : nd ≤ 64 := by have := GJ.dl; omega
 dsimp only at hsl;clear h CB hx GQ
 go_enter func39, ntmps39
 go_upto_region 1 with (fail);generalize World.alloc (World.alloc (World.alloc (World.alloc w _) _) _) _ = W at *;rw [show w.heap.size + 1 + 1 = w.heap.size + 2 from rfl, show w.heap.size + 2 + 1 = w.heap.size + 3 from rfl];have HM := iD (HH.below HB.bl);obtain ⟨⟨k0, k1⟩, ⟨g0, g1, g2⟩, s0, s1, s2, s3, s4⟩ := HB.cells;have hk := HK.out;clear HK;subst hk;have Tc := iD (sP An Ad Al Ap nn cn nd cd nl cl np cp ns ds ls co 4 d no p q W (HH.below HB.bl).la (HH.below HB.bl).hn (HH.below HB.bl).hd (HH.below HB.bl).hl (HH.below HB.bl).sn (HH.below HB.bl).sd (by decide) BR.l)
 go_wp2_with fail
 clear k0 k1 g0 g1 g2 s0 s1 s2 s3 s4;refine Tc.mono ?_;rintro e w2 ⟨A, m, cA, rfl, hS, hW, hb⟩;have AY := iD (HB.later hb);have Db := iD hS.out
 have Iz : Hid (Sl w w.heap.size 3 A m cA ((yf ns ds ls ⟨4, d, no, p, q⟩).1.flatMap Lk.cells) ∨ ∀ b off, A = some ⟨b, off, none⟩ → b ≠ w.heap.size + 3) := by
  rcases hW.out with ⟨rfl, rfl, rfl, e⟩ | h
  ·left; rw [e]; exact HH.hl
  ·right; intro b off e; have := h b off e; have := HB.b3.lt; omega
 have Wj : Hid (Rj w.heap.size Al A nl m) := by
  rcases hW.out with ⟨h, h2, -⟩ | h
  ·exact .inl ⟨h, h2⟩
  ·exact .inr fun b off e => by have := h b off e; have := HB.bl.size; omega
 clear hS hW hb Tc HB;obtain ⟨L, hL⟩ := eX ((yf ns ds ls ⟨4, d, no, p, q⟩).1);rw [← hL] at Db Iz;have JV := iD hL;clear hL;rcases AQ : (yf ns ds ls ⟨4, d, no, p, q⟩).2 with _ | _
 ·have GV : Hid (L = ls) := JV.trans (jG ns ds AQ);have HT : Hid (za ns ds co ⟨s, ls, pr⟩ ⟨4, d, no, p, q⟩ = ⟨[4], ⟨s, ls, pr⟩, true⟩) := by unfold Hid; rw [mi, AQ]; rfl
  clear AQ;go_upto_region 21 with (fail);have Co := iD (AY.later ((Below.refl _ w2).alloc lR (.cells #[.int .i64 co, .slice A m cA, .slice Ap np cp] 29)));have FL := iD (AJ.new w2 29 #[.int .i64 co, .slice A m cA, .slice Ap np cp]);have JL : Hid (Below w2.heap.size w2 (w2.alloc (.cells #[.int .i64 co, .slice A m cA, .slice Ap np cp] 29))) := (Below.refl _ w2).alloc lR _;generalize World.alloc w2 _ = V at *;obtain ⟨gb, GN⟩ := eX w2.heap.size;rw [← GN] at FL ⊢;clear GN;go_upto_region 22 with (fail);rw [GV.out] at Db Iz;have CK : Hid (Below V.heap.size V (V.alloc (.cells #[.int .i64 4] 3)).drew) := ((Below.refl V.heap.size V).alloc lR (.cells #[.int .i64 4] 3)).drew;have CQ := iD (Co.later CK);have JA : Hid (AJ (V.alloc (.cells #[.int .i64 4] 3)).drew V.heap.size 3 #[.int .i64 4]) := AJ.new V 3 #[.int .i64 4];have GZ := iD (FL.below CK FL.lt)
  have Gc : V.heap.size ≠ w.heap.size + 3 := by have := Co.b3.lt; omega
  refine fX (fun W' => W'.cell? ⟨gb, 0, none⟩ = some (.int .i64 co) ∧ W'.cell? ⟨gb, 1, none⟩ = some (.slice A m cA) ∧ W'.cell? ⟨gb, 2, none⟩ = some (.slice Ap np cp)) [5, 6] ?_ fun AA => ?_
  ·exact ⟨FL.cell 0, FL.cell 1, FL.cell 2⟩
  try dsimp only at AA
  refine tk 1 101 (ma 7 2) AA ?_;refine tk 2 102 (ma 7 6) AA ?_;refine tb 0 (mf 7 3) fun K hK => ?_
  go_simp
  refine hK _ _ (fun _ => ⟨GZ.cell 0, GZ.cell 1, GZ.cell 2⟩) fun p => (fun AA => ?_) (p rfl)
  clear p hK K;(try dsimp only at AA);generalize World.drew (World.alloc V _) = wa at *;obtain ⟨d0, d1, d2⟩ := CQ.b3.d3;obtain ⟨y0, y1, y2⟩ := CQ.b3.e3;refine tk 3 8 (mf 7 4) AA ?_;refine tk 4 9 (mf 7 5) AA ?_;refine tb 5 (mf 7 6) fun K hK => ?_
  go_simp
  refine hK _ _ (fun h => by cases h) (fun _ => ?_)
  try clear AA
  clear hK K;refine tb 6 (mf 7 7) fun K hK => ?_
  go_simp
  refine hK _ _ (fun h => by cases h) (fun _ => ?_)
  try clear AA
  clear hK K;refine tK ?_;have HE := iD (CQ.fin (x := .int .i64 co) (y := .slice A m cA) (z := .slice Ap np cp));have DF : Hid (yi (((wa.setCell ⟨w.heap.size + 3, 0, none⟩ (.int .i64 co)).setCell ⟨w.heap.size + 3, 1, none⟩ (.slice A m cA)).setCell ⟨w.heap.size + 3, 2, none⟩ (.slice Ap np cp)) (some ⟨V.heap.size, 0, none⟩) As A Ap 1 1 n c m cA np cp ⟨[4], ⟨s, ls, pr⟩, true⟩) := ⟨xe (zU JA Gc), (HH.below HE.2).hs, iG Db Iz (JL.trans (CK.mono JL.size)) HE.2, (HH.below HE.2).hp⟩;clear d0 d1 d2 y0 y1 y2
  go_wp2_with fail
  generalize World.setCell (World.setCell (World.setCell wa _ _) _ _) _ _ = z at *;obtain ⟨q0, q1, q2⟩ := HE.1.d3;exact bodyPost_ret (v := .tuple #[.slice (some ⟨V.heap.size, 0, none⟩) 1 1, .slice As n c, .agg #[.int .i64 co, .slice A m cA, .slice Ap np cp], .bool true]) (by simp [results, results39, go_sem, q0, q1, q2]) rfl ⟨_, _, _, _, _, _, _, _, _, _, _, _, by rw [HT.out], by rw [HT.out]; exact DF, ⟨.inr (fun b off e => by injection e with e; injection e with e1 e2; rw [← e1]; exact Co.bl.size), .inl ⟨rfl, rfl⟩, Wj, .inl ⟨rfl, rfl⟩⟩, HE.2⟩
 ·have HT : Hid (za ns ds co ⟨s, ls, pr⟩ ⟨4, d, no, p, q⟩ = ⟨[], ⟨s, L, pr⟩, true⟩) := by unfold Hid; rw [mi, AQ, JV.out]; rfl
  clear AQ;go_upto_region 21 with (fail);have Co := iD (AY.later ((Below.refl _ w2).alloc lR (.cells #[.int .i64 co, .slice A m cA, .slice Ap np cp] 29)));have FL := iD (AJ.new w2 29 #[.int .i64 co, .slice A m cA, .slice Ap np cp]);have JL : Hid (Below w2.heap.size w2 (w2.alloc (.cells #[.int .i64 co, .slice A m cA, .slice Ap np cp] 29))) := (Below.refl _ w2).alloc lR _;generalize World.alloc w2 _ = V at *;obtain ⟨gb, GN⟩ := eX w2.heap.size;rw [← GN] at FL ⊢;clear GN;go_upto_region 23 with (fail);obtain ⟨d0, d1, d2⟩ := Co.b3.d3;obtain ⟨y0, y1, y2⟩ := Co.b3.e3;refine fX (fun W' => W'.cell? ⟨gb, 0, none⟩ = some (.int .i64 co) ∧ W'.cell? ⟨gb, 1, none⟩ = some (.slice A m cA) ∧ W'.cell? ⟨gb, 2, none⟩ = some (.slice Ap np cp)) [4, 5] ?_ fun AA => ?_
  ·exact ⟨FL.cell 0, FL.cell 1, FL.cell 2⟩
  try dsimp only at AA
  refine tk 0 103 (mf 6 1) AA ?_;refine tk 1 104 (mf 6 2) AA ?_;refine tk 2 8 (mf 6 3) AA ?_;refine tk 3 9 (mf 6 4) AA ?_;refine tb 4 (mf 6 5) fun K hK => ?_
  go_simp
  refine hK _ _ (fun h => by cases h) (fun _ => ?_)
  try clear AA
  clear hK K;refine tb 5 (mf 6 6) fun K hK => ?_
  go_simp
  refine hK _ _ (fun h => by cases h) (fun _ => ?_)
  try clear AA
  clear hK K;refine tK ?_;have Me := iD (Co.fin (x := .int .i64 co) (y := .slice A m cA) (z := .slice Ap np cp));have HE : Hid (AJ (((V.setCell ⟨w.heap.size + 3, 0, none⟩ (.int .i64 co)).setCell ⟨w.heap.size + 3, 1, none⟩ (.slice A m cA)).setCell ⟨w.heap.size + 3, 2, none⟩ (.slice Ap np cp)).drew (w.heap.size + 3) 29 #[.int .i64 co, .slice A m cA, .slice Ap np cp] ∧ Below w.heap.size w (((V.setCell ⟨w.heap.size + 3, 0, none⟩ (.int .i64 co)).setCell ⟨w.heap.size + 3, 1, none⟩ (.slice A m cA)).setCell ⟨w.heap.size + 3, 2, none⟩ (.slice Ap np cp)).drew) := ⟨Me.1, Me.2.drew⟩;have DF : Hid (yi (((V.setCell ⟨w.heap.size + 3, 0, none⟩ (.int .i64 co)).setCell ⟨w.heap.size + 3, 1, none⟩ (.slice A m cA)).setCell ⟨w.heap.size + 3, 2, none⟩ (.slice Ap np cp)).drew none As A Ap 0 0 n c m cA np cp ⟨[], ⟨s, L, pr⟩, true⟩) := ⟨Sl.nil _ _ _, (HH.below HE.2).hs, iG Db Iz JL Me.2, (HH.below HE.2).hp⟩
  clear d0 d1 d2 y0 y1 y2 Me
  go_wp2_with fail
  generalize World.drew (World.setCell (World.setCell (World.setCell V _ _) _ _) _ _) = z at *;obtain ⟨q0, q1, q2⟩ := HE.1.d3;exact bodyPost_ret (v := .tuple #[.slice none 0 0, .slice As n c, .agg #[.int .i64 co, .slice A m cA, .slice Ap np cp], .bool true]) (by simp [results, results39, go_sem, q0, q1, q2]) rfl ⟨_, _, _, _, _, _, _, _, _, _, _, _, by rw [HT.out], by rw [HT.out]; exact DF, ⟨.inl ⟨rfl, rfl⟩, .inl ⟨rfl, rfl⟩, Wj, .inl ⟨rfl, rfl⟩⟩, HE.2⟩
theorem rt (An Ad As Al Ap : Option Addr) (nn cn nd cd n c nl cl np cp : Nat) (ns : List Nd) (ds : List Dv) (s : List Int) (ls : List Lk) (pr : List Int) (co k d no p q : Int) (w : World) (h : yp w An Ad As Al Ap nn cn nd cd n c nl cl np cp ns ds s ls pr) (CB : ua ns ds ⟨s, ls, pr⟩) (_hco : 0 ≤ co ∧ co ≤ 7) (hx : zc ns.length ds.length ⟨k, d, no, p, q⟩ = 0) (hk : k = 6) :
 Calls prog 39 #[.agg #[.slice An nn cn, .slice Ad nd cd], .slice As n c, .agg #[.int .i64 co, .slice Al nl cl, .slice Ap np cp], .agg #[.int .i64 k, .int .i64 d, .int .i64 no, .int .i64 p, .int .i64 q]] w (uy w As Al Ap n nl np co (za ns ds co ⟨s, ls, pr⟩ ⟨k, d, no, p, q⟩)) := by
 have HK := iD hk;clear hk;obtain ⟨DJ, Ic, FR⟩ := h.ln;have Pz : pr.length = np := h.hp.len (fun _ => rfl) (by decide);have HH := iD h;have HB := iD (FE.new w #[.slice An nn cn, .slice Ad nd cd] #[.int .i64 co, .slice Al nl cl, .slice Ap np cp] #[.int .i64 k, .int .i64 d, .int .i64 no, .int .i64 p, .int .i64 q]);obtain ⟨Di, Ca, Jf, MI, MH⟩ := xd hx;dsimp only at Di Ca Jf MI MH;obtain ⟨GQ, hsl⟩ := zQ CB.s;have GJ := iD (xo.of GQ);have BR := iD CB;have Bq : nn ≤ 32 := by have := GJ.nl; omega
 have AE : nd ≤ 64 := by have := GJ.dl; omega
 dsimp only at hsl;clear h CB hx GQ
 go_enter func39, ntmps39
 go_upto_region 1 with (fail);generalize World.alloc (World.alloc (World.alloc (World.alloc w _) _) _) _ = W at *;rw [show w.heap.size + 1 + 1 = w.heap.size + 2 from rfl, show w.heap.size + 2 + 1 = w.heap.size + 3 from rfl];have HM := iD (HH.below HB.bl);obtain ⟨⟨k0, k1⟩, ⟨g0, g1, g2⟩, s0, s1, s2, s3, s4⟩ := HB.cells;have hk := HK.out;clear HK;subst hk;have Ih := Ca (by decide);obtain ⟨i, rfl⟩ := Int.eq_ofNat_of_zero_le Ih.1;obtain ⟨bs, os, sv, NB, PR, Lh, hcs⟩ := HM.hs.at1 (show i < n by omega);subst NB;have LH : Hid (s.getD (i : Int).toNat 0 = sv) := by unfold Hid; rw [Int.toNat_natCast, List.getD_eq_getElem?_getD, Lh]; rfl
 clear Lh PR;have Ig : i < n := by omega
 go_upto_region 16 with (fail);refine fX (fun W' => (W'.cell? ⟨w.heap.size + 2, 1, none⟩ = some (.int .i64 i) ∧ W'.cell? ⟨w.heap.size + 2, 3, none⟩ = some (.int .i64 p)) ∧ W'.cell? ⟨bs, os + i, none⟩ = some (.int .i64 sv)) [] ?_ fun AA => ?_
 ·exact ⟨⟨s1, s3⟩, hcs⟩
 try dsimp only at AA
 refine tk 0 75 (mf 8 1) AA ?_;refine tk 1 76 (mf 8 2) AA ?_;refine ty 2 77 (mf 8 3) AA (y := by intro w AR; have u1 := AR.1.1; go_simp; try with_reducible rfl) (h := ?_);refine tk 3 78 (mf 8 4) AA ?_;refine ty 4 79 (mf 8 5) AA (y := by intro w AR; have u2 := AR.2; go_simp; try with_reducible rfl) (h := ?_);refine tk 5 80 (mf 8 6) AA ?_;refine ty 6 81 (mf 8 7) AA (y := by intro w AR; have u3 := AR.1.2; go_simp; try with_reducible rfl) (h := ?_);refine tk 7 82 (mf 8 8) AA ?_;refine tK ?_;have Ga := iD (HB.later (Below.refl _ W).drew);clear HM k0 k1 g0 g1 g2 s0 s1 s2 s3 s4 hcs;generalize World.drew W = WD at *;obtain ⟨⟨k0, k1⟩, ⟨g0, g1, g2⟩, s0, s1, s2, s3, s4⟩ := Ga.cells;by_cases Er : sv = p; rotate_left
 ·have q1 : (sv != p) = true := by simpa using Er
  have HT : Hid (za ns ds co ⟨s, ls, pr⟩ ⟨6, i, no, p, q⟩ = ⟨[8], ⟨s, ls, pr⟩, false⟩) := by unfold Hid; rw [mh]; dsimp only; rw [LH.out, if_pos Er]
  clear Er;go_upto_region 17 with (fail);clear q1 k0 k1 g0 g1 g2 s0 s1 s2 s3 s4;have CF := iD Ga.b1;have CK : Hid (Below WD.heap.size WD (WD.alloc (.cells #[.int .i64 8] 3)).drew) := ((Below.refl WD.heap.size WD).alloc lR (.cells #[.int .i64 8] 3)).drew;have CQ := iD (Ga.later CK);have JA : Hid (AJ (WD.alloc (.cells #[.int .i64 8] 3)).drew WD.heap.size 3 #[.int .i64 8]) := AJ.new WD 3 #[.int .i64 8];have GZ := iD (CF.below CK CF.lt);have Gc : WD.heap.size ≠ w.heap.size + 3 := by have := Ga.b3.lt; omega
  refine fX (fun W' => W'.cell? ⟨w.heap.size + 1, 0, none⟩ = some (.int .i64 co) ∧ W'.cell? ⟨w.heap.size + 1, 1, none⟩ = some (.slice Al nl cl) ∧ W'.cell? ⟨w.heap.size + 1, 2, none⟩ = some (.slice Ap np cp)) [5, 6] ?_ fun AA => ?_
  ·exact ⟨CF.cell 0, CF.cell 1, CF.cell 2⟩
  try dsimp only at AA
  refine tk 1 84 (ma 7 2) AA ?_;refine tk 2 85 (ma 7 6) AA ?_;refine tb 0 (mf 7 3) fun K hK => ?_
  go_simp
  refine hK _ _ (fun _ => ⟨GZ.cell 0, GZ.cell 1, GZ.cell 2⟩) fun p => (fun AA => ?_) (p rfl)
  clear p hK K;(try dsimp only at AA);generalize World.drew (World.alloc WD _) = wa at *;obtain ⟨d0, d1, d2⟩ := CQ.b3.d3;obtain ⟨y0, y1, y2⟩ := CQ.b3.e3;refine tk 3 8 (mf 7 4) AA ?_;refine tk 4 9 (mf 7 5) AA ?_;refine tb 5 (mf 7 6) fun K hK => ?_
  go_simp
  refine hK _ _ (fun h => by cases h) (fun _ => ?_)
  try clear AA
  clear hK K;refine tb 6 (mf 7 7) fun K hK => ?_
  go_simp
  refine hK _ _ (fun h => by cases h) (fun _ => ?_)
  try clear AA
  clear hK K;refine tK ?_;have HE := iD (CQ.fin (x := .int .i64 co) (y := .slice Al nl cl) (z := .slice Ap np cp));have DF : Hid (yi (((wa.setCell ⟨w.heap.size + 3, 0, none⟩ (.int .i64 co)).setCell ⟨w.heap.size + 3, 1, none⟩ (.slice Al nl cl)).setCell ⟨w.heap.size + 3, 2, none⟩ (.slice Ap np cp)) (some ⟨WD.heap.size, 0, none⟩) (some ⟨bs, os, none⟩) Al Ap 1 1 n c nl cl np cp ⟨[8], ⟨s, ls, pr⟩, false⟩) := ⟨xe (zU JA Gc), (HH.below HE.2).hs, (HH.below HE.2).hl, (HH.below HE.2).hp⟩;clear d0 d1 d2 y0 y1 y2
  go_wp2_with fail
  generalize World.setCell (World.setCell (World.setCell wa _ _) _ _) _ _ = z at *;obtain ⟨q0, q1, q2⟩ := HE.1.d3;exact bodyPost_ret (v := .tuple #[.slice (some ⟨WD.heap.size, 0, none⟩) 1 1, .slice (some ⟨bs, os, none⟩) n c, .agg #[.int .i64 co, .slice Al nl cl, .slice Ap np cp], .bool false]) (by simp [results, results39, go_sem, q0, q1, q2]) rfl ⟨_, _, _, _, _, _, _, _, _, _, _, _, by rw [HT.out], by rw [HT.out]; exact DF, ⟨.inr (fun b off e => by injection e with e; injection e with e1 e2; rw [← e1]; exact Ga.bl.size), .inl ⟨rfl, rfl⟩, .inl ⟨rfl, rfl⟩, .inl ⟨rfl, rfl⟩⟩, HE.2⟩
 have q1 : (sv != p) = false := by simpa using Er
 have QX : Hid (¬ s.getD (i : Int).toNat 0 ≠ p) := by unfold Hid; rw [LH.out]; simp [Er]
 clear Er;have HT : Hid (za ns ds co ⟨s, ls, pr⟩ ⟨6, i, no, p, q⟩ = ⟨[], ⟨s, ls, pr⟩, true⟩) := by unfold Hid; rw [mh, if_neg QX.out]
 go_upto_region 19 with (fail);clear q1 k0 k1 g0 g1 g2 s0 s1 s2 s3 s4;have CF := iD Ga.b1;obtain ⟨d0, d1, d2⟩ := Ga.b3.d3;obtain ⟨y0, y1, y2⟩ := Ga.b3.e3;refine fX (fun W' => W'.cell? ⟨w.heap.size + 1, 0, none⟩ = some (.int .i64 co) ∧ W'.cell? ⟨w.heap.size + 1, 1, none⟩ = some (.slice Al nl cl) ∧ W'.cell? ⟨w.heap.size + 1, 2, none⟩ = some (.slice Ap np cp)) [4, 5] ?_ fun AA => ?_
 ·exact ⟨CF.cell 0, CF.cell 1, CF.cell 2⟩
 try dsimp only at AA
 refine tk 0 89 (mf 6 1) AA ?_;refine tk 1 90 (mf 6 2) AA ?_;refine tk 2 8 (mf 6 3) AA ?_;refine tk 3 9 (mf 6 4) AA ?_;refine tb 4 (mf 6 5) fun K hK => ?_
 go_simp
 refine hK _ _ (fun h => by cases h) (fun _ => ?_)
 try clear AA
 clear hK K;refine tb 5 (mf 6 6) fun K hK => ?_
 go_simp
 refine hK _ _ (fun h => by cases h) (fun _ => ?_)
 try clear AA
 clear hK K;refine tK ?_;have Me := iD (Ga.fin (x := .int .i64 co) (y := .slice Al nl cl) (z := .slice Ap np cp));have HE : Hid (AJ (((WD.setCell ⟨w.heap.size + 3, 0, none⟩ (.int .i64 co)).setCell ⟨w.heap.size + 3, 1, none⟩ (.slice Al nl cl)).setCell ⟨w.heap.size + 3, 2, none⟩ (.slice Ap np cp)).drew (w.heap.size + 3) 29 #[.int .i64 co, .slice Al nl cl, .slice Ap np cp] ∧ Below w.heap.size w (((WD.setCell ⟨w.heap.size + 3, 0, none⟩ (.int .i64 co)).setCell ⟨w.heap.size + 3, 1, none⟩ (.slice Al nl cl)).setCell ⟨w.heap.size + 3, 2, none⟩ (.slice Ap np cp)).drew) := ⟨Me.1, Me.2.drew⟩
 have DF : Hid (yi (((WD.setCell ⟨w.heap.size + 3, 0, none⟩ (.int .i64 co)).setCell ⟨w.heap.size + 3, 1, none⟩ (.slice Al nl cl)).setCell ⟨w.heap.size + 3, 2, none⟩ (.slice Ap np cp)).drew none (some ⟨bs, os, none⟩) Al Ap 0 0 n c nl cl np cp ⟨[], ⟨s, ls, pr⟩, true⟩) := ⟨Sl.nil _ _ _, (HH.below HE.2).hs, (HH.below HE.2).hl, (HH.below HE.2).hp⟩;clear d0 d1 d2 y0 y1 y2 Me
 go_wp2_with fail
 generalize World.drew (World.setCell (World.setCell (World.setCell WD _ _) _ _) _ _) = z at *;obtain ⟨q0, q1, q2⟩ := HE.1.d3;exact bodyPost_ret (v := .tuple #[.slice none 0 0, .slice (some ⟨bs, os, none⟩) n c, .agg #[.int .i64 co, .slice Al nl cl, .slice Ap np cp], .bool true]) (by simp [results, results39, go_sem, q0, q1, q2]) rfl ⟨_, _, _, _, _, _, _, _, _, _, _, _, by rw [HT.out], by rw [HT.out]; exact DF, ⟨.inl ⟨rfl, rfl⟩, .inl ⟨rfl, rfl⟩, .inl ⟨rfl, rfl⟩, .inl ⟨rfl, rfl⟩⟩, HE.2⟩
theorem pM (An Ad As Al Ap : Option Addr) (nn cn nd cd n c nl cl np cp : Nat) (ns : List Nd) (ds : List Dv) (s : List Int) (ls : List Lk) (pr : List Int) (co k d no p q : Int) (w : World) (h : yp w An Ad As Al Ap nn cn nd cd n c nl cl np cp ns ds s ls pr) (CB : ua ns ds ⟨s, ls, pr⟩) (_hco : 0 ≤ co ∧ co ≤ 7) (hx : zc ns.length ds.length ⟨k, d, no, p, q⟩ = 0) (hk : k = 3) :
 Calls prog 39 #[.agg #[.slice An nn cn, .slice Ad nd cd], .slice As n c, .agg #[.int .i64 co, .slice Al nl cl, .slice Ap np cp], .agg #[.int .i64 k, .int .i64 d, .int .i64 no, .int .i64 p, .int .i64 q]] w (uy w As Al Ap n nl np co (za ns ds co ⟨s, ls, pr⟩ ⟨k, d, no, p, q⟩)) := by
 have HK := iD hk;clear hk;obtain ⟨DJ, Ic, FR⟩ := h.ln;have Pz : pr.length = np := h.hp.len (fun _ => rfl) (by decide);have HH := iD h;have HB := iD (FE.new w #[.slice An nn cn, .slice Ad nd cd] #[.int .i64 co, .slice Al nl cl, .slice Ap np cp] #[.int .i64 k, .int .i64 d, .int .i64 no, .int .i64 p, .int .i64 q]);obtain ⟨Di, Ca, Jf, MI, MH⟩ := xd hx;dsimp only at Di Ca Jf MI MH;obtain ⟨GQ, hsl⟩ := zQ CB.s;have GJ := iD (xo.of GQ);have BR := iD CB;have Bq : nn ≤ 32 := by have := GJ.nl; omega
 have AE : nd ≤ 64 := by have := GJ.dl; omega
 dsimp only at hsl;clear h CB hx GQ
 go_enter func39, ntmps39
 go_upto_region 1 with (fail);generalize World.alloc (World.alloc (World.alloc (World.alloc w _) _) _) _ = W at *;rw [show w.heap.size + 1 + 1 = w.heap.size + 2 from rfl, show w.heap.size + 2 + 1 = w.heap.size + 3 from rfl];have HM := iD (HH.below HB.bl);obtain ⟨⟨k0, k1⟩, ⟨g0, g1, g2⟩, s0, s1, s2, s3, s4⟩ := HB.cells;have hk := HK.out;clear HK;subst hk;have Ih := Ca (by decide);obtain ⟨i, rfl⟩ := Int.eq_ofNat_of_zero_le Ih.1;obtain ⟨bs, os, sv, NB, PR, Lh, hcs⟩ := HM.hs.at1 (show i < n by omega);subst NB;have LH : Hid (s.getD (i : Int).toNat 0 = sv) := by unfold Hid; rw [Int.toNat_natCast, List.getD_eq_getElem?_getD, Lh]; rfl
 clear Lh PR;have Ig : i < n := by omega
 go_upto_region 16 with (fail);refine fX (fun W' => (W'.cell? ⟨w.heap.size + 2, 1, none⟩ = some (.int .i64 i) ∧ W'.cell? ⟨w.heap.size + 2, 3, none⟩ = some (.int .i64 p)) ∧ W'.cell? ⟨bs, os + i, none⟩ = some (.int .i64 sv)) [] ?_ fun AA => ?_
 ·exact ⟨⟨s1, s3⟩, hcs⟩
 try dsimp only at AA
 refine tk 0 75 (mf 8 1) AA ?_;refine tk 1 76 (mf 8 2) AA ?_;refine ty 2 77 (mf 8 3) AA (y := by intro w AR; have u1 := AR.1.1; go_simp; try with_reducible rfl) (h := ?_);refine tk 3 78 (mf 8 4) AA ?_;refine ty 4 79 (mf 8 5) AA (y := by intro w AR; have u2 := AR.2; go_simp; try with_reducible rfl) (h := ?_);refine tk 5 80 (mf 8 6) AA ?_;refine ty 6 81 (mf 8 7) AA (y := by intro w AR; have u3 := AR.1.2; go_simp; try with_reducible rfl) (h := ?_);refine tk 7 82 (mf 8 8) AA ?_;refine tK ?_;have Ga := iD (HB.later (Below.refl _ W).drew);clear HM k0 k1 g0 g1 g2 s0 s1 s2 s3 s4 hcs;generalize World.drew W = WD at *;obtain ⟨⟨k0, k1⟩, ⟨g0, g1, g2⟩, s0, s1, s2, s3, s4⟩ := Ga.cells;by_cases Er : sv = p; rotate_left
 ·have q1 : (sv != p) = true := by simpa using Er
  have HT : Hid (za ns ds co ⟨s, ls, pr⟩ ⟨3, i, no, p, q⟩ = ⟨[8], ⟨s, ls, pr⟩, false⟩) := by unfold Hid; rw [qG]; dsimp only; rw [LH.out, if_pos Er]
  clear Er;go_upto_region 17 with (fail);clear q1 k0 k1 g0 g1 g2 s0 s1 s2 s3 s4;have CF := iD Ga.b1;have CK : Hid (Below WD.heap.size WD (WD.alloc (.cells #[.int .i64 8] 3)).drew) := ((Below.refl WD.heap.size WD).alloc lR (.cells #[.int .i64 8] 3)).drew;have CQ := iD (Ga.later CK);have JA : Hid (AJ (WD.alloc (.cells #[.int .i64 8] 3)).drew WD.heap.size 3 #[.int .i64 8]) := AJ.new WD 3 #[.int .i64 8];have GZ := iD (CF.below CK CF.lt);have Gc : WD.heap.size ≠ w.heap.size + 3 := by have := Ga.b3.lt; omega
  refine fX (fun W' => W'.cell? ⟨w.heap.size + 1, 0, none⟩ = some (.int .i64 co) ∧ W'.cell? ⟨w.heap.size + 1, 1, none⟩ = some (.slice Al nl cl) ∧ W'.cell? ⟨w.heap.size + 1, 2, none⟩ = some (.slice Ap np cp)) [5, 6] ?_ fun AA => ?_
  ·exact ⟨CF.cell 0, CF.cell 1, CF.cell 2⟩
  try dsimp only at AA
  refine tk 1 84 (ma 7 2) AA ?_;refine tk 2 85 (ma 7 6) AA ?_;refine tb 0 (mf 7 3) fun K hK => ?_
  go_simp
  refine hK _ _ (fun _ => ⟨GZ.cell 0, GZ.cell 1, GZ.cell 2⟩) fun p => (fun AA => ?_) (p rfl)
  clear p hK K;(try dsimp only at AA);generalize World.drew (World.alloc WD _) = wa at *;obtain ⟨d0, d1, d2⟩ := CQ.b3.d3;obtain ⟨y0, y1, y2⟩ := CQ.b3.e3;refine tk 3 8 (mf 7 4) AA ?_;refine tk 4 9 (mf 7 5) AA ?_;refine tb 5 (mf 7 6) fun K hK => ?_
  go_simp
  refine hK _ _ (fun h => by cases h) (fun _ => ?_)
  try clear AA
  clear hK K;refine tb 6 (mf 7 7) fun K hK => ?_
  go_simp
  refine hK _ _ (fun h => by cases h) (fun _ => ?_)
  try clear AA
  clear hK K;refine tK ?_;have HE := iD (CQ.fin (x := .int .i64 co) (y := .slice Al nl cl) (z := .slice Ap np cp));have DF : Hid (yi (((wa.setCell ⟨w.heap.size + 3, 0, none⟩ (.int .i64 co)).setCell ⟨w.heap.size + 3, 1, none⟩ (.slice Al nl cl)).setCell ⟨w.heap.size + 3, 2, none⟩ (.slice Ap np cp)) (some ⟨WD.heap.size, 0, none⟩) (some ⟨bs, os, none⟩) Al Ap 1 1 n c nl cl np cp ⟨[8], ⟨s, ls, pr⟩, false⟩) := ⟨xe (zU JA Gc), (HH.below HE.2).hs, (HH.below HE.2).hl, (HH.below HE.2).hp⟩;clear d0 d1 d2 y0 y1 y2
  go_wp2_with fail
  generalize World.setCell (World.setCell (World.setCell wa _ _) _ _) _ _ = z at *;obtain ⟨q0, q1, q2⟩ := HE.1.d3;exact bodyPost_ret (v := .tuple #[.slice (some ⟨WD.heap.size, 0, none⟩) 1 1, .slice (some ⟨bs, os, none⟩) n c, .agg #[.int .i64 co, .slice Al nl cl, .slice Ap np cp], .bool false]) (by simp [results, results39, go_sem, q0, q1, q2]) rfl ⟨_, _, _, _, _, _, _, _, _, _, _, _, by rw [HT.out], by rw [HT.out]; exact DF, ⟨.inr (fun b off e => by injection e with e; injection e with e1 e2; rw [← e1]; exact Ga.bl.size), .inl ⟨rfl, rfl⟩, .inl ⟨rfl, rfl⟩, .inl ⟨rfl, rfl⟩⟩, HE.2⟩
 have q1 : (sv != p) = false := by simpa using Er
 have QX : Hid (¬ s.getD (i : Int).toNat 0 ≠ p) := by unfold Hid; rw [LH.out]; simp [Er]
 clear Er;go_upto_region 20 with (fail);clear q1;have Tc := iD (sP An Ad Al Ap nn cn nd cd nl cl np cp ns ds ls co 3 i no p q WD (HH.below Ga.bl).la (HH.below Ga.bl).hn (HH.below Ga.bl).hd (HH.below Ga.bl).hl (HH.below Ga.bl).sn (HH.below Ga.bl).sd (by decide) BR.l)
 go_wp2_with fail
 clear k0 k1 g0 g1 g2 s0 s1 s2 s3 s4;refine Tc.mono ?_;rintro e w2 ⟨A, m, cA, rfl, hS, hW, hb⟩;have AY := iD (Ga.later hb);have Db := iD hS.out
 have Iz : Hid (Sl w w.heap.size 3 A m cA ((yf ns ds ls ⟨3, i, no, p, q⟩).1.flatMap Lk.cells) ∨ ∀ b off, A = some ⟨b, off, none⟩ → b ≠ w.heap.size + 3) := by
  rcases hW.out with ⟨rfl, rfl, rfl, e⟩ | h
  ·left; rw [e]; exact HH.hl
  ·right; intro b off e; have := h b off e; have := Ga.b3.lt; omega
 have Wj : Hid (Rj w.heap.size Al A nl m) := by
  rcases hW.out with ⟨h, h2, -⟩ | h
  ·exact .inl ⟨h, h2⟩
  ·exact .inr fun b off e => by have := h b off e; have := Ga.bl.size; omega
 clear hS hW hb Tc Ga;obtain ⟨L, hL⟩ := eX ((yf ns ds ls ⟨3, i, no, p, q⟩).1);rw [← hL] at Db Iz;have JV := iD hL;clear hL;rcases AQ : (yf ns ds ls ⟨3, i, no, p, q⟩).2 with _ | _
 ·have GV : Hid (L = ls) := JV.trans (jG ns ds AQ);have HT : Hid (za ns ds co ⟨s, ls, pr⟩ ⟨3, i, no, p, q⟩ = ⟨[4], ⟨s, ls, pr⟩, true⟩) := by unfold Hid; rw [qG, if_neg QX.out, AQ]; rfl
  clear AQ;go_upto_region 21 with (fail);have Co := iD (AY.later ((Below.refl _ w2).alloc lR (.cells #[.int .i64 co, .slice A m cA, .slice Ap np cp] 29)));have FL := iD (AJ.new w2 29 #[.int .i64 co, .slice A m cA, .slice Ap np cp]);have JL : Hid (Below w2.heap.size w2 (w2.alloc (.cells #[.int .i64 co, .slice A m cA, .slice Ap np cp] 29))) := (Below.refl _ w2).alloc lR _;generalize World.alloc w2 _ = V at *;obtain ⟨gb, GN⟩ := eX w2.heap.size;rw [← GN] at FL ⊢;clear GN;go_upto_region 22 with (fail);rw [GV.out] at Db Iz;have CK : Hid (Below V.heap.size V (V.alloc (.cells #[.int .i64 4] 3)).drew) := ((Below.refl V.heap.size V).alloc lR (.cells #[.int .i64 4] 3)).drew;have CQ := iD (Co.later CK);have JA : Hid (AJ (V.alloc (.cells #[.int .i64 4] 3)).drew V.heap.size 3 #[.int .i64 4]) := AJ.new V 3 #[.int .i64 4];have GZ := iD (FL.below CK FL.lt)
  have Gc : V.heap.size ≠ w.heap.size + 3 := by have := Co.b3.lt; omega
  refine fX (fun W' => W'.cell? ⟨gb, 0, none⟩ = some (.int .i64 co) ∧ W'.cell? ⟨gb, 1, none⟩ = some (.slice A m cA) ∧ W'.cell? ⟨gb, 2, none⟩ = some (.slice Ap np cp)) [5, 6] ?_ fun AA => ?_
  ·exact ⟨FL.cell 0, FL.cell 1, FL.cell 2⟩
  try dsimp only at AA
  refine tk 1 101 (ma 7 2) AA ?_;refine tk 2 102 (ma 7 6) AA ?_;refine tb 0 (mf 7 3) fun K hK => ?_
  go_simp
  refine hK _ _ (fun _ => ⟨GZ.cell 0, GZ.cell 1, GZ.cell 2⟩) fun p => (fun AA => ?_) (p rfl)
  clear p hK K;(try dsimp only at AA);generalize World.drew (World.alloc V _) = wa at *;obtain ⟨d0, d1, d2⟩ := CQ.b3.d3;obtain ⟨y0, y1, y2⟩ := CQ.b3.e3;refine tk 3 8 (mf 7 4) AA ?_;refine tk 4 9 (mf 7 5) AA ?_;refine tb 5 (mf 7 6) fun K hK => ?_
  go_simp
  refine hK _ _ (fun h => by cases h) (fun _ => ?_)
  try clear AA
  clear hK K;refine tb 6 (mf 7 7) fun K hK => ?_
  go_simp
  refine hK _ _ (fun h => by cases h) (fun _ => ?_)
  try clear AA
  clear hK K;refine tK ?_;have HE := iD (CQ.fin (x := .int .i64 co) (y := .slice A m cA) (z := .slice Ap np cp));have DF : Hid (yi (((wa.setCell ⟨w.heap.size + 3, 0, none⟩ (.int .i64 co)).setCell ⟨w.heap.size + 3, 1, none⟩ (.slice A m cA)).setCell ⟨w.heap.size + 3, 2, none⟩ (.slice Ap np cp)) (some ⟨V.heap.size, 0, none⟩) (some ⟨bs, os, none⟩) A Ap 1 1 n c m cA np cp ⟨[4], ⟨s, ls, pr⟩, true⟩) := ⟨xe (zU JA Gc), (HH.below HE.2).hs, iG Db Iz (JL.trans (CK.mono JL.size)) HE.2, (HH.below HE.2).hp⟩;clear d0 d1 d2 y0 y1 y2
  go_wp2_with fail
  generalize World.setCell (World.setCell (World.setCell wa _ _) _ _) _ _ = z at *;obtain ⟨q0, q1, q2⟩ := HE.1.d3;exact bodyPost_ret (v := .tuple #[.slice (some ⟨V.heap.size, 0, none⟩) 1 1, .slice (some ⟨bs, os, none⟩) n c, .agg #[.int .i64 co, .slice A m cA, .slice Ap np cp], .bool true]) (by simp [results, results39, go_sem, q0, q1, q2]) rfl ⟨_, _, _, _, _, _, _, _, _, _, _, _, by rw [HT.out], by rw [HT.out]; exact DF, ⟨.inr (fun b off e => by injection e with e; injection e with e1 e2; rw [← e1]; exact Co.bl.size), .inl ⟨rfl, rfl⟩, Wj, .inl ⟨rfl, rfl⟩⟩, HE.2⟩
 ·have HT : Hid (za ns ds co ⟨s, ls, pr⟩ ⟨3, i, no, p, q⟩ = ⟨[], ⟨s, L, pr⟩, true⟩) := by unfold Hid; rw [qG, if_neg QX.out, AQ, JV.out]; rfl
  clear AQ;go_upto_region 21 with (fail);have Co := iD (AY.later ((Below.refl _ w2).alloc lR (.cells #[.int .i64 co, .slice A m cA, .slice Ap np cp] 29)));have FL := iD (AJ.new w2 29 #[.int .i64 co, .slice A m cA, .slice Ap np cp]);have JL : Hid (Below w2.heap.size w2 (w2.alloc (.cells #[.int .i64 co, .slice A m cA, .slice Ap np cp] 29))) := (Below.refl _ w2).alloc lR _;generalize World.alloc w2 _ = V at *;obtain ⟨gb, GN⟩ := eX w2.heap.size;rw [← GN] at FL ⊢;clear GN;go_upto_region 23 with (fail);obtain ⟨d0, d1, d2⟩ := Co.b3.d3;obtain ⟨y0, y1, y2⟩ := Co.b3.e3;refine fX (fun W' => W'.cell? ⟨gb, 0, none⟩ = some (.int .i64 co) ∧ W'.cell? ⟨gb, 1, none⟩ = some (.slice A m cA) ∧ W'.cell? ⟨gb, 2, none⟩ = some (.slice Ap np cp)) [4, 5] ?_ fun AA => ?_
  ·exact ⟨FL.cell 0, FL.cell 1, FL.cell 2⟩
  try dsimp only at AA
  refine tk 0 103 (mf 6 1) AA ?_;refine tk 1 104 (mf 6 2) AA ?_;refine tk 2 8 (mf 6 3) AA ?_;refine tk 3 9 (mf 6 4) AA ?_;refine tb 4 (mf 6 5) fun K hK => ?_
  go_simp
  refine hK _ _ (fun h => by cases h) (fun _ => ?_)
  try clear AA
  clear hK K;refine tb 5 (mf 6 6) fun K hK => ?_
  go_simp
  refine hK _ _ (fun h => by cases h) (fun _ => ?_)
  try clear AA
  clear hK K;refine tK ?_;have Me := iD (Co.fin (x := .int .i64 co) (y := .slice A m cA) (z := .slice Ap np cp));have HE : Hid (AJ (((V.setCell ⟨w.heap.size + 3, 0, none⟩ (.int .i64 co)).setCell ⟨w.heap.size + 3, 1, none⟩ (.slice A m cA)).setCell ⟨w.heap.size + 3, 2, none⟩ (.slice Ap np cp)).drew (w.heap.size + 3) 29 #[.int .i64 co, .slice A m cA, .slice Ap np cp] ∧ Below w.heap.size w (((V.setCell ⟨w.heap.size + 3, 0, none⟩ (.int .i64 co)).setCell ⟨w.heap.size + 3, 1, none⟩ (.slice A m cA)).setCell ⟨w.heap.size + 3, 2, none⟩ (.slice Ap np cp)).drew) := ⟨Me.1, Me.2.drew⟩
  have DF : Hid (yi (((V.setCell ⟨w.heap.size + 3, 0, none⟩ (.int .i64 co)).setCell ⟨w.heap.size + 3, 1, none⟩ (.slice A m cA)).setCell ⟨w.heap.size + 3, 2, none⟩ (.slice Ap np cp)).drew none (some ⟨bs, os, none⟩) A Ap 0 0 n c m cA np cp ⟨[], ⟨s, L, pr⟩, true⟩) := ⟨Sl.nil _ _ _, (HH.below HE.2).hs, iG Db Iz JL Me.2, (HH.below HE.2).hp⟩;clear d0 d1 d2 y0 y1 y2 Me
  go_wp2_with fail
  generalize World.drew (World.setCell (World.setCell (World.setCell V _ _) _ _) _ _) = z at *;obtain ⟨q0, q1, q2⟩ := HE.1.d3;exact bodyPost_ret (v := .tuple #[.slice none 0 0, .slice (some ⟨bs, os, none⟩) n c, .agg #[.int .i64 co, .slice A m cA, .slice Ap np cp], .bool true]) (by simp [results, results39, go_sem, q0, q1, q2]) rfl ⟨_, _, _, _, _, _, _, _, _, _, _, _, by rw [HT.out], by rw [HT.out]; exact DF, ⟨.inl ⟨rfl, rfl⟩, .inl ⟨rfl, rfl⟩, Wj, .inl ⟨rfl, rfl⟩⟩, HE.2⟩
end Go.Proofs.YtddddlhgaeameaaGreatDoor
