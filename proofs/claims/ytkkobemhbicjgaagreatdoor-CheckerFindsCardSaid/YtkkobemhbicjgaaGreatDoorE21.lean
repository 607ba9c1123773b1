import Derived.Test.YtkkobemhbicjgaaGreatDoorE20
set_option maxRecDepth 100000
set_option maxHeartbeats 8000000
namespace Go.Proofs.YtkkobemhbicjgaaGreatDoor
section
open Go.RowKit
inductive Fi where
 | w (s : ByteArray)
 | d
 | n
 | p
 | k
def Fi.val : Fi → Value
 | .w s => .iface 200 (.string s)
 | .d => .iface 202 (.agg #[])
 | .n => .iface 205 (.agg #[])
 | .p => .iface 203 (.agg #[])
 | .k => .iface 204 (.agg #[])
def Fi.cells (x : Fi) : List Value := [x.val]
def sW (k : Int) : List Fi :=
 if k = 1 then [.w ⟨#[111, 112, 101, 110]⟩, .d] else if k = 2 then [.w ⟨#[99, 108, 111, 115, 101]⟩, .d] else if k = 3 then [.w ⟨#[108, 111, 99, 107]⟩, .d, .p, .w ⟨#[107, 101, 121]⟩, .k]
 else if k = 4 then [.w ⟨#[117, 110, 108, 111, 99, 107]⟩, .d, .w ⟨#[107, 101, 121]⟩, .k] else if k = 5 then [.w ⟨#[112, 114, 111, 118, 101]⟩, .n] else [.w ⟨#[99, 104, 101, 99, 107]⟩, .d, .p]
theorem jY (k : Int) (h1 : 1 ≤ k) (h6 : k ≤ 6) (w : World) :
 Calls Tryz.prog 140 #[.int .i64 k] w fun e w' => ∃ (b n : Nat), e = .returned (.slice (some ⟨b, 0, none⟩) n n) ∧ Hid (Sl w' w'.heap.size 1 (some ⟨b, 0, none⟩) n n ((sW k).flatMap Fi.cells)) ∧ Hid (Below w.heap.size w w') := by
 rcases (show k = 1 ∨ k = 2 ∨ k = 3 ∨ k = 4 ∨ k = 5 ∨ k = 6 by omega) with rfl | rfl | rfl | rfl | rfl | rfl
 all_goals
  go_enter Tryz.func140, Tryz.ntmps140
  go_wp2_with fail
  go_ret
  refine ⟨_, _, rfl, ?_, (Below.refl _ _).alloc lR _⟩
  unfold Hid
  rw [World.size_alloc]
  exact Sl.newest rfl rfl (by decide)
theorem iY (k : Int) (h : k < 1 ∨ 6 < k) (w : World) :
 Calls Tryz.prog 140 #[.int .i64 k] w fun e w' => e = .returned (.slice none 0 0) ∧ w = w' := by
 have q1 : (k == 1) = false := by simpa using by omega
 have q2 : (k == 2) = false := by simpa using by omega
 have q3 : (k == 3) = false := by simpa using by omega
 have q4 : (k == 4) = false := by simpa using by omega
 have q5 : (k == 5) = false := by simpa using by omega
 have q6 : (k == 6) = false := by simpa using by omega
 go_enter Tryz.func140, Tryz.ntmps140
 go_wp2_with fail
 go_ret
 exact ⟨rfl, rfl⟩
def exB (nn : Nat) (v : Int) : Bool := decide (0 ≤ v) && decide (v < nn)
theorem nL (An Ad : Option Addr) (nn cn nd cd : Nat) (v : Int) (w : World) (_hnn : nn ≤ 9223372036854775807) :
 Calls Tryz.prog 168 #[.agg #[.slice An nn cn, .slice Ad nd cd], .int .i64 v] w fun e w' => e = .returned (.bool (exB nn v)) ∧ Below w.heap.size w w' := by
 have HB := iD ((Below.refl w.heap.size w).alloc lR (.cells #[.slice An nn cn, .slice Ad nd cd] 30))
 have HE : Hid (exB nn v = (decide (0 ≤ v) && decide (v < nn))) := rfl
 by_cases h0 : 0 ≤ v
 ·have q0 : decide (0 ≤ v) = true := by simpa using h0
  go_enter Tryz.func168, Tryz.ntmps168
  go_wp2_with fail
  go_ret
  exact ⟨by rw [HE.out, q0]; simp, HB.out⟩
 ·have q0 : decide (0 ≤ v) = false := by simpa using h0
  go_enter Tryz.func168, Tryz.ntmps168
  go_wp2_with fail
  go_ret
  exact ⟨by rw [HE.out, q0]; rfl, HB.out⟩
structure Hs where
 dv : Int
 no : Int
 po : Int
 ke : Int
 b0 : Bool
 b1 : Bool
 b2 : Bool
 b3 : Bool
def hsD (nd : Nat) (v : Int) : Bool := decide (v < 0) || decide ((nd : Int) ≤ v)
def hsP (v : Int) : Bool := decide (v ≠ 1) && decide (v ≠ 2)
def hsK (v : Int) : Bool := decide (v < 0) || decide (65536 < v)
def xR (nn nd : Nat) (h : Hs) : Fi → Hs
 | .w _ => h
 | .d => ⟨0, h.no, h.po, h.ke, hsD nd h.dv, h.b1, h.b2, h.b3⟩
 | .n => ⟨h.dv, 0, h.po, h.ke, h.b0, !exB nn h.no, h.b2, h.b3⟩
 | .p => ⟨h.dv, h.no, 0, h.ke, h.b0, h.b1, hsP h.po, h.b3⟩
 | .k => ⟨h.dv, h.no, h.po, 0, h.b0, h.b1, h.b2, hsK h.ke⟩
def wR (nn nd : Nat) (fs : List Fi) (h : Hs) : Hs := fs.foldl (xR nn nd) h
def Hs.step (h : Hs) (kd : Int) : Array Value := #[.int .i64 kd, .int .i64 h.dv, .int .i64 h.no, .int .i64 h.po, .int .i64 h.ke]
def Hs.bad (h : Hs) : Array Value := #[.bool h.b0, .bool h.b1, .bool h.b2, .bool h.b3]
structure HsM (w : World) (N : Array Value) (kd : Int) (h : Hs) (wr : World) : Prop where
 b0 : Blk wr w.heap.size 30 N
 b1 : Blk wr (w.heap.size + 1) 43 (h.step kd)
 b2 : Blk wr (w.heap.size + 2) 43 #[.int .i64 0, .int .i64 0, .int .i64 0, .int .i64 0, .int .i64 0]
 b3 : Blk wr (w.heap.size + 3) 178 #[.bool false, .bool false, .bool false, .bool false]
 b4 : Blk wr (w.heap.size + 4) 178 h.bad
 bl : Below w.heap.size w wr
section
variable {w wr wr' : World} {N : Array Value} {kd : Int} {h : Hs}
theorem HsM.new (w : World) (N : Array Value) (kd : Int) (h : Hs) : HsM w N kd ⟨h.dv, h.no, h.po, h.ke, false, false, false, false⟩ (((((w.alloc (.cells N 30)).alloc (.cells (h.step kd) 43)).alloc (.cells #[.int .i64 0, .int .i64 0, .int .i64 0, .int .i64 0, .int .i64 0] 43)).alloc (.cells #[.bool false, .bool false, .bool false, .bool false] 178)).alloc (.cells #[.bool false, .bool false, .bool false, .bool false] 178)) := by
 have h0 := Blk.new w 30 N
 generalize e1 : w.alloc (.cells N 30) = w1 at *
 have z1 : w1.heap.size = w.heap.size + 1 := by rw [← e1, World.size_alloc]
 have l1 : Below w.heap.size w w1 := by rw [← e1]; exact (Below.refl _ _).alloc lR _
 have h1 := Blk.new w1 43 (h.step kd)
 have h0 := h0.alloc (.cells (h.step kd) 43)
 have l2 := l1.alloc (by omega) (.cells (h.step kd) 43)
 generalize e2 : w1.alloc (.cells (h.step kd) 43) = w2 at *
 have z2 : w2.heap.size = w.heap.size + 2 := by rw [← e2, World.size_alloc, z1]
 have h2 := Blk.new w2 43 #[.int .i64 0, .int .i64 0, .int .i64 0, .int .i64 0, .int .i64 0]
 have h0 := h0.alloc (.cells #[.int .i64 0, .int .i64 0, .int .i64 0, .int .i64 0, .int .i64 0] 43)
 have h1 := h1.alloc (.cells #[.int .i64 0, .int .i64 0, .int .i64 0, .int .i64 0, .int .i64 0] 43)
 have l3 := l2.alloc (by omega) (.cells #[.int .i64 0, .int .i64 0, .int .i64 0, .int .i64 0, .int .i64 0] 43)
 generalize e3 : w2.alloc (.cells #[.int .i64 0, .int .i64 0, .int .i64 0, .int .i64 0, .int .i64 0] 43) = w3 at *
 have z3 : w3.heap.size = w.heap.size + 3 := by rw [← e3, World.size_alloc, z2]
 have h3 := Blk.new w3 178 #[.bool false, .bool false, .bool false, .bool false]
 have h0 := h0.alloc (.cells #[.bool false, .bool false, .bool false, .bool false] 178)
 have h1 := h1.alloc (.cells #[.bool false, .bool false, .bool false, .bool false] 178)
 have h2 := h2.alloc (.cells #[.bool false, .bool false, .bool false, .bool false] 178)
 have l4 := l3.alloc (by omega) (.cells #[.bool false, .bool false, .bool false, .bool false] 178)
 generalize e4 : w3.alloc (.cells #[.bool false, .bool false, .bool false, .bool false] 178) = w4 at *
 have z4 : w4.heap.size = w.heap.size + 4 := by rw [← e4, World.size_alloc, z3]
 have h4 := Blk.new w4 178 #[.bool false, .bool false, .bool false, .bool false]
 rw [z1] at h1; rw [z2] at h2; rw [z3] at h3; rw [z4] at h4
 exact ⟨h0.alloc _, h1.alloc _, h2.alloc _, h3.alloc _, h4, l4.alloc (by omega) _⟩
theorem HsM.later (h0 : HsM w N kd h wr) (hb : Below wr.heap.size wr wr') : HsM w N kd h wr' := ⟨h0.b0.below hb h0.b0.lt, h0.b1.below hb h0.b1.lt, h0.b2.below hb h0.b2.lt, h0.b3.below hb h0.b3.lt, h0.b4.below hb h0.b4.lt, h0.bl.trans (hb.mono h0.bl.size)⟩
theorem HsM.put (h0 : HsM w N kd h wr) (i j : Nat) (u v : Value) {h' : Hs} (e1 : (h.step kd).setIfInBounds j v = h'.step kd) (e2 : h.bad.setIfInBounds i u = h'.bad) : HsM w N kd h' ((wr.setCell ⟨w.heap.size + 4, i, none⟩ u).setCell ⟨w.heap.size + 1, j, none⟩ v) :=
 ⟨(h0.b0.far (p := ⟨w.heap.size + 4, i, none⟩) (by simp) u).far (p := ⟨w.heap.size + 1, j, none⟩) (by simp) v, by rw [← e1]; exact (h0.b1.far (p := ⟨w.heap.size + 4, i, none⟩) (by simp) u).set j v,
  (h0.b2.far (p := ⟨w.heap.size + 4, i, none⟩) (by simp) u).far (p := ⟨w.heap.size + 1, j, none⟩) (by simp) v, (h0.b3.far (p := ⟨w.heap.size + 4, i, none⟩) (by simp) u).far (p := ⟨w.heap.size + 1, j, none⟩) (by simp) v,
  by rw [← e2]; exact (h0.b4.set i u).far (p := ⟨w.heap.size + 1, j, none⟩) (by simp) v, (h0.bl.setCell (by simp) u).setCell (by simp) v⟩
end
def uX (w : World) (x : Nat) (a b c d e : Value) : World := ((((w.setCell ⟨x, 0, none⟩ a).setCell ⟨x, 1, none⟩ b).setCell ⟨x, 2, none⟩ c).setCell ⟨x, 3, none⟩ d).setCell ⟨x, 4, none⟩ e
def kP (w : World) (x : Nat) (a b c d : Value) : World := (((w.setCell ⟨x, 0, none⟩ a).setCell ⟨x, 1, none⟩ b).setCell ⟨x, 2, none⟩ c).setCell ⟨x, 3, none⟩ d
section
variable {w : World} {x g : Nat} {t : TypeId} {cs : Array Value} {a b c d e a' b' c' d' e' : Value}
theorem Blk.far5 (h : Blk w g t cs) (hg : g ≠ x) : Blk (uX w x a b c d e) g t cs := ((((h.far (p := ⟨x, 0, none⟩) hg a).far (p := ⟨x, 1, none⟩) hg b).far (p := ⟨x, 2, none⟩) hg c).far (p := ⟨x, 3, none⟩) hg d).far (p := ⟨x, 4, none⟩) hg e
theorem Blk.far4 (h : Blk w g t cs) (hg : g ≠ x) : Blk (kP w x a b c d) g t cs := (((h.far (p := ⟨x, 0, none⟩) hg a).far (p := ⟨x, 1, none⟩) hg b).far (p := ⟨x, 2, none⟩) hg c).far (p := ⟨x, 3, none⟩) hg d
theorem Blk.all5 (h : Blk w x t #[a', b', c', d', e']) : Blk (uX w x a b c d e) x t #[a, b, c, d, e] := ((((h.set 0 a).set 1 b).set 2 c).set 3 d).set 4 e
theorem Blk.all4 (h : Blk w x t #[a', b', c', d']) : Blk (kP w x a b c d) x t #[a, b, c, d] := (((h.set 0 a).set 1 b).set 2 c).set 3 d
theorem nX {B : Nat} {w0 : World} (h : Below B w0 w) (hx : B ≤ x) : Below B w0 (uX w x a b c d e) := ((((h.setCell (p := ⟨x, 0, none⟩) hx a).setCell (p := ⟨x, 1, none⟩) hx b).setCell (p := ⟨x, 2, none⟩) hx c).setCell (p := ⟨x, 3, none⟩) hx d).setCell (p := ⟨x, 4, none⟩) hx e
theorem nY {B : Nat} {w0 : World} (h : Below B w0 w) (hx : B ≤ x) : Below B w0 (kP w x a b c d) := (((h.setCell (p := ⟨x, 0, none⟩) hx a).setCell (p := ⟨x, 1, none⟩) hx b).setCell (p := ⟨x, 2, none⟩) hx c).setCell (p := ⟨x, 3, none⟩) hx d
end
structure nj (w : World) (kd : Int) (h : Hs) (wr : World) : Prop where
 b1 : Blk wr (w.heap.size + 1) 43 (h.step kd)
 b4 : Blk wr (w.heap.size + 4) 178 h.bad
 b2 : Blk wr (w.heap.size + 2) 43 (h.step kd)
 b3 : Blk wr (w.heap.size + 3) 178 #[.bool false, .bool false, .bool false, .bool false]
 bl : Below w.heap.size w wr
theorem nj.cells {w wr : World} {kd dv no po ke : Int} {g0 g1 g2 g3 : Bool} (h : nj w kd ⟨dv, no, po, ke, g0, g1, g2, g3⟩ wr) : (wr.cell? ⟨w.heap.size + 1, 0, none⟩ = some (.int .i64 kd) ∧ wr.cell? ⟨w.heap.size + 1, 1, none⟩ = some (.int .i64 dv) ∧ wr.cell? ⟨w.heap.size + 1, 2, none⟩ = some (.int .i64 no) ∧ wr.cell? ⟨w.heap.size + 1, 3, none⟩ = some (.int .i64 po) ∧ wr.cell? ⟨w.heap.size + 1, 4, none⟩ = some (.int .i64 ke)) ∧ wr.cell? ⟨w.heap.size + 4, 0, none⟩ = some (.bool g0) ∧ wr.cell? ⟨w.heap.size + 4, 1, none⟩ = some (.bool g1) ∧ wr.cell? ⟨w.heap.size + 4, 2, none⟩ = some (.bool g2) ∧ wr.cell? ⟨w.heap.size + 4, 3, none⟩ = some (.bool g3) := ⟨⟨h.b1.cell 0, h.b1.cell 1, h.b1.cell 2, h.b1.cell 3, h.b1.cell 4⟩, h.b4.cell 0, h.b4.cell 1, h.b4.cell 2, h.b4.cell 3⟩
theorem nj.drew {w wr : World} {kd : Int} {h : Hs} (h0 : nj w kd h wr) : nj w kd h wr.drew := ⟨h0.b1.below (Below.refl _ _).drew h0.b1.lt, h0.b4.below (Below.refl _ _).drew h0.b4.lt, h0.b2.below (Below.refl _ _).drew h0.b2.lt, h0.b3.below (Below.refl _ _).drew h0.b3.lt, h0.bl.drew⟩
structure eM (w : World) (kd : Int) (h : Hs) (wr : World) : Prop where
 b2 : Blk wr (w.heap.size + 2) 43 (h.step kd)
 b3 : Blk wr (w.heap.size + 3) 178 h.bad
 bl : Below w.heap.size w wr
theorem asD (x : Fi) (W : World) : (Instr.typeAssert x.val 20 202 true).run Tryz.prog W = .ok (.tuple #[.agg #[], .bool (match x with | .d => true | _ => false)]) W := by cases x <;> kernel_rfl
theorem asN (x : Fi) (W : World) : (Instr.typeAssert x.val 20 205 true).run Tryz.prog W = .ok (.tuple #[.agg #[], .bool (match x with | .n => true | _ => false)]) W := by cases x <;> kernel_rfl
theorem asP (x : Fi) (W : World) : (Instr.typeAssert x.val 20 203 true).run Tryz.prog W = .ok (.tuple #[.agg #[], .bool (match x with | .p => true | _ => false)]) W := by cases x <;> kernel_rfl
theorem asK (x : Fi) (W : World) : (Instr.typeAssert x.val 20 204 true).run Tryz.prog W = .ok (.tuple #[.agg #[], .bool (match x with | .k => true | _ => false)]) W := by cases x <;> kernel_rfl
def HsR (w : World) (N : Array Value) (kd : Int) (fs : List Fi) (h0 : Hs) (nn nd n gk : Nat) (iv : Value) (wr : World) : Prop := ∃ i : Nat, iv = .int .i64 i ∧ i ≤ n ∧ gk = n - i ∧ Hid (HsM w N kd (wR nn nd (fs.take i) h0) wr)
theorem lU {nn nd : Nat} {fs : List Fi} {h : Hs} {i : Nat} {x : Fi} (hx : fs[i]? = some x) : wR nn nd (fs.take (i + 1)) h = xR nn nd (wR nn nd (fs.take i) h) x := by
 unfold wR
 rw [zQ hx, List.foldl_append, List.foldl_cons, List.foldl_nil]
theorem iV (An Ad Af : Option Addr) (nn cn nd cd n c : Nat) (fs : List Fi) (kd : Int) (h0 : Hs) (w : World) (hb0 : h0.b0 = false) (hb1 : h0.b1 = false) (hb2 : h0.b2 = false) (hb3 : h0.b3 = false) (hf : Sl w w.heap.size 1 Af n c (fs.flatMap Fi.cells)) (hnn : nn ≤ 9223372036854775807) (_hnd : nd ≤ 9223372036854775807) :
 Calls Tryz.prog 141 #[.agg #[.slice An nn cn, .slice Ad nd cd], .agg (h0.step kd), .slice Af n c] w fun e w' => e = .returned (.tuple #[.agg ((wR nn nd fs h0).step kd), .agg (wR nn nd fs h0).bad]) ∧ Below w.heap.size w w' := by
 have HH := iD (HsM.new w #[.slice An nn cn, .slice Ad nd cd] kd h0)
 have HF := iD hf
 have HLF := iD (hf.len (fun _ => rfl) (by decide))
 have hnm := hf.le
 rw [show (⟨h0.dv, h0.no, h0.po, h0.ke, false, false, false, false⟩ : Hs) = wR nn nd (fs.take 0) h0 from by cases h0; simp only at hb0 hb1 hb2 hb3; subst hb0 hb1 hb2 hb3; rfl] at HH
 clear hf hb0 hb1 hb2 hb3
 unfold Hs.step at HH
 unfold Hs.step
 go_enter Tryz.func141, Tryz.ntmps141
 go_upto_region 2 with (fail)
 generalize World.alloc (World.alloc (World.alloc (World.alloc (World.alloc w _) _) _) _) _ = W at *
 go_upto_region 3 with (fail)
 rw [show w.heap.size + 1 + 1 = w.heap.size + 2 from rfl, show w.heap.size + 2 + 1 = w.heap.size + 3 from rfl, show w.heap.size + 3 + 1 = w.heap.size + 4 from rfl]
 refine zv [(9, 0), (0, 1), (1, 0), (0, 2), (56, 1), (1, 0)] 13 (n) (HsR w #[.slice An nn cn, .slice Ad nd cd] kd fs h0 nn nd n) (by (try dsimp only [gt]); exact ⟨0, rfl, Nat.zero_le _, rfl, HH⟩) (by kernel_rfl) ?_
 intro u1 p13 gk wr a hrel ha J1 K1 hJ1 hK1
 dsimp only [zZ, Go.Proofs.YtkkobemhbicjgaaGreatDoor.v1, Nat.reduceAdd] at ha
 subst ha
 clear HH
 obtain ⟨i, rfl, hi, rfl, HM⟩ := hrel
 by_cases hlt : i < n; rotate_left
 ·have hii : decide ((i : Int) < (n : Int)) = false := by simp; omega
  have hii2 : decide (i < n) = false := by simp; omega
  have hfull : fs.take i = fs := List.take_of_length_le (by have := HLF.out; omega)
  rw [hfull] at HM
  clear hfull
  obtain ⟨h, hh⟩ : ∃ h, h = wR nn nd fs h0 := ⟨_, rfl⟩
  rw [← hh] at HM
  have HQ := iD hh
  clear hh
  obtain ⟨dv, no, po, ke, g0, g1, g2, g3⟩ := h
  have y0 : ∀ j, wr.frozen? ⟨w.heap.size + 2, j, none⟩ = false := HM.out.b2.frozen
  have y1 : ∀ j, wr.frozen? ⟨w.heap.size + 3, j, none⟩ = false := HM.out.b3.frozen
  have c0 := HM.out.b2.c0
  have c1 := HM.out.b2.c1
  have c2 := HM.out.b2.c2
  have c3 := HM.out.b2.c3
  have c4 := HM.out.b2.c4
  have HS0 : Hid ((wr.cell? ⟨w.heap.size + 1, 0, none⟩ = some (.int .i64 kd) ∧ wr.cell? ⟨w.heap.size + 1, 1, none⟩ = some (.int .i64 dv) ∧ wr.cell? ⟨w.heap.size + 1, 2, none⟩ = some (.int .i64 no) ∧ wr.cell? ⟨w.heap.size + 1, 3, none⟩ = some (.int .i64 po) ∧ wr.cell? ⟨w.heap.size + 1, 4, none⟩ = some (.int .i64 ke)) ∧ wr.cell? ⟨w.heap.size + 4, 0, none⟩ = some (.bool g0) ∧ wr.cell? ⟨w.heap.size + 4, 1, none⟩ = some (.bool g1) ∧ wr.cell? ⟨w.heap.size + 4, 2, none⟩ = some (.bool g2) ∧ wr.cell? ⟨w.heap.size + 4, 3, none⟩ = some (.bool g3)) := ⟨⟨HM.out.b1.cell 0, HM.out.b1.cell 1, HM.out.b1.cell 2, HM.out.b1.cell 3, HM.out.b1.cell 4⟩, HM.out.b4.cell 0, HM.out.b4.cell 1, HM.out.b4.cell 2, HM.out.b4.cell 3⟩
  have H5 : Hid (nj w kd ⟨dv, no, po, ke, g0, g1, g2, g3⟩ (uX wr (w.heap.size + 2) (.int .i64 kd) (.int .i64 dv) (.int .i64 no) (.int .i64 po) (.int .i64 ke)).drew) := nj.drew ⟨HM.out.b1.far5 (by omega), HM.out.b4.far5 (by omega), HM.out.b2.all5, HM.out.b3.far5 (by omega), nX HM.out.bl (by omega)⟩
  unfold uX at H5
  go_upto_region 19 with (fail)
  clear hii hii2
  refine zC (S := fun W' => (W'.cell? ⟨w.heap.size + 1, 0, none⟩ = some (.int .i64 kd) ∧ W'.cell? ⟨w.heap.size + 1, 1, none⟩ = some (.int .i64 dv) ∧ W'.cell? ⟨w.heap.size + 1, 2, none⟩ = some (.int .i64 no) ∧ W'.cell? ⟨w.heap.size + 1, 3, none⟩ = some (.int .i64 po) ∧ W'.cell? ⟨w.heap.size + 1, 4, none⟩ = some (.int .i64 ke)) ∧ W'.cell? ⟨w.heap.size + 4, 0, none⟩ = some (.bool g0) ∧ W'.cell? ⟨w.heap.size + 4, 1, none⟩ = some (.bool g1) ∧ W'.cell? ⟨w.heap.size + 4, 2, none⟩ = some (.bool g2) ∧ W'.cell? ⟨w.heap.size + 4, 3, none⟩ = some (.bool g3)) (J := [3]) (by kernel_rfl) ?_ (fun AA => ?_)
  ·exact HS0.out
  try dsimp only at AA
  refine tx 0 71 ?_ (mf 4 1) ?_ AA ?_
  rotate_left
  ·(intro w hSw; (try dsimp only at hSw); obtain ⟨⟨s0, s1, s2, s3, s4⟩, -⟩ := hSw; go_simp; try with_reducible rfl)
  try simp only [Act.put, sA, sB, sC]
  refine tx 1 72 ?_ (mf 4 2) ?_ AA ?_
  rotate_left
  ·(intro w hSw; (try dsimp only at hSw); obtain ⟨-, s5, s6, s7, s8⟩ := hSw; go_simp; try with_reducible rfl)
  try simp only [Act.put, sA, sB, sC]
  refine tb 2 (mf 4 3) fun K hK => ?_
  go_simp
  refine hK.out _ _ (fun _ => ?_) (fun AA' => ?_)
  ·exact H5.out.cells
  replace AA := AA' rfl
  clear AA' hK K
  try dsimp only at AA
  clear y0 c0 c1 c2 c3 c4
  generalize World.drew (World.setCell (World.setCell (World.setCell (World.setCell (World.setCell _ _ _) _ _) _ _) _ _) _ _) = w5 at *
  have y5 : ∀ j, w5.frozen? ⟨w.heap.size + 3, j, none⟩ = false := H5.out.b3.frozen
  have d0 := H5.out.b3.cell 0; have d1 := H5.out.b3.cell 1; have d2 := H5.out.b3.cell 2; have d3 := H5.out.b3.cell 3
  refine tb 3 (mf 4 4) fun K hK => ?_
  go_simp
  refine hK.out _ _ (fun h => by cases h) (fun _ => ?_)
  try clear AA
  clear hK K
  refine zA (by kernel_rfl) ?_ _
  have H9 : Hid (eM w kd ⟨dv, no, po, ke, g0, g1, g2, g3⟩ (kP w5 (w.heap.size + 3) (.bool g0) (.bool g1) (.bool g2) (.bool g3))) := ⟨H5.out.b2.far4 (by omega), H5.out.b3.all4, nY H5.out.bl (by omega)⟩
  unfold kP at H9
  go_wp2_with fail
  generalize World.setCell (World.setCell (World.setCell (World.setCell _ _ _) _ _) _ _) _ _ = w9 at *
  have t0 := H9.out.b2.c0
  have t1 := H9.out.b2.c1
  have t2 := H9.out.b2.c2
  have t3 := H9.out.b2.c3
  have t4 := H9.out.b2.c4
  have u0 := H9.out.b3.c0
  have u1 := H9.out.b3.c1
  have u2 := H9.out.b3.c2
  have u3 := H9.out.b3.c3
  exact bodyPost_ret (v := .tuple #[.agg #[.int .i64 kd, .int .i64 dv, .int .i64 no, .int .i64 po, .int .i64 ke], .agg #[.bool g0, .bool g1, .bool g2, .bool g3]]) (by simp [results, Tryz.results141, go_sem, t0, t1, t2, t3, t4, u0, u1, u2, u3]) rfl ⟨by rw [← HQ.out]; rfl, H9.out.bl⟩
 obtain ⟨be, oe, x, hAe, hbe, hx, hc⟩ := (HF.out.below HM.out.bl lR).at (fun _ => rfl) (by decide) hlt
 have HX := iD hx
 have e0 : wr.cell? ⟨be, oe + i, none⟩ = some x.val := by simpa using hc 0 _ rfl
 subst hAe
 clear hc hx
 have HN : Hid (wR nn nd (fs.take (i + 1)) h0 = xR nn nd (wR nn nd (fs.take i) h0) x) := lU HX.out
 obtain ⟨h, hh⟩ : ∃ h, h = wR nn nd (fs.take i) h0 := ⟨_, rfl⟩
 rw [← hh] at HM HN
 clear hh HX
 obtain ⟨dv, no, po, ke, g0, g1, g2, g3⟩ := h
 have n0 := HM.out.b0.c0
 have n1 := HM.out.b0.c1
 have c1 := HM.out.b1.c1
 have c2 := HM.out.b1.c2
 have c3 := HM.out.b1.c3
 have c4 := HM.out.b1.c4
 have d0 := HM.out.b4.c0
 have d1 := HM.out.b4.c1
 have d2 := HM.out.b4.c2
 have d3 := HM.out.b4.c3
 have y1 : ∀ j, wr.frozen? ⟨w.heap.size + 1, j, none⟩ = false := HM.out.b1.frozen
 have y4 : ∀ j, wr.frozen? ⟨w.heap.size + 4, j, none⟩ = false := HM.out.b4.frozen
 have aD := asD x
 have aN := asN x
 have aP := asP x
 have aK := asK x
 rcases x with s | _ | _ | _ | _
 ·dsimp only [Fi.val] at e0 aD aN aP aK
  have HMN : Hid (HsM w #[.slice An nn cn, .slice Ad nd cd] kd (wR nn nd (fs.take (i + 1)) h0) wr) := by unfold Hid; rw [HN.out]; exact HM.out
  go_wp2_with fail
  refine Handed.intro (n - (i + 1)) (by omega) (hJ1 _ _ _ (yw.back 13 ?_ (by kernel_rfl)))
  dsimp only [gt]
  exact ⟨i + 1, rfl, by omega, rfl, HMN⟩
 ·dsimp only [Fi.val] at e0 aD aN aP aK
  have HMN := iD (HM.out.put 0 1 (.bool (hsD nd dv)) (.int .i64 0) (h' := xR nn nd ⟨dv, no, po, ke, g0, g1, g2, g3⟩ .d) rfl rfl)
  rw [← HN.out] at HMN
  clear HM HN
  by_cases ha : dv < 0
  ·have q1 : decide (dv < 0) = true := by simpa using ha
   rw [show hsD nd dv = true from by simp [hsD, ha]] at HMN
   go_wp2_with fail
   refine Handed.intro (n - (i + 1)) (by omega) (hJ1 _ _ _ (yw.back 13 ?_ (by kernel_rfl)))
   dsimp only [gt]
   exact ⟨i + 1, rfl, by omega, rfl, HMN⟩
  by_cases hb : (nd : Int) ≤ dv
  ·have q1 : decide (dv < 0) = false := by simpa using ha
   have q2 : decide ((nd : Int) ≤ dv) = true := by simpa using hb
   rw [show hsD nd dv = true from by simp [hsD, hb]] at HMN
   go_wp2_with fail
   refine Handed.intro (n - (i + 1)) (by omega) (hJ1 _ _ _ (yw.back 13 ?_ (by kernel_rfl)))
   dsimp only [gt]
   exact ⟨i + 1, rfl, by omega, rfl, HMN⟩
  have q1 : decide (dv < 0) = false := by simpa using ha
  have q2 : decide ((nd : Int) ≤ dv) = false := by simpa using hb
  rw [show hsD nd dv = false from by simp [hsD, ha, hb]] at HMN
  go_wp2_with fail
  refine Handed.intro (n - (i + 1)) (by omega) (hJ1 _ _ _ (yw.back 13 ?_ (by kernel_rfl)))
  dsimp only [gt]
  exact ⟨i + 1, rfl, by omega, rfl, HMN⟩
 ·dsimp only [Fi.val] at e0 aD aN aP aK
  go_upto_region 10 with (fail)
  go_wp2_with fail
  clear n0 n1 c1 c2 c3 c4 d0 d1 d2 d3 y1 y4 e0
  refine (nL An Ad nn cn nd cd no wr hnn).mono ?_
  rintro e w1 ⟨rfl, hb1⟩
  have HM1 := iD (HM.out.later hb1)
  have HMN := iD (HM1.out.put 1 2 (.bool (!exB nn no)) (.int .i64 0) (h' := xR nn nd ⟨dv, no, po, ke, g0, g1, g2, g3⟩ .n) rfl rfl)
  rw [← HN.out] at HMN
  have c2 := HM1.out.b1.c2
  have d1 := HM1.out.b4.c1
  have y1 : ∀ j, w1.frozen? ⟨w.heap.size + 1, j, none⟩ = false := HM1.out.b1.frozen
  have y4 : ∀ j, w1.frozen? ⟨w.heap.size + 4, j, none⟩ = false := HM1.out.b4.frozen
  clear HM HN HM1 hb1
  generalize exB nn no = bb at *
  rcases bb with _ | _
  ·go_wp2_with fail
   refine Handed.intro (n - (i + 1)) (by omega) (hJ1 _ _ _ (yw.back 13 ?_ (by kernel_rfl)))
   dsimp only [gt]
   exact ⟨i + 1, rfl, by omega, rfl, HMN⟩
  ·go_wp2_with fail
   refine Handed.intro (n - (i + 1)) (by omega) (hJ1 _ _ _ (yw.back 13 ?_ (by kernel_rfl)))
   dsimp only [gt]
   exact ⟨i + 1, rfl, by omega, rfl, HMN⟩
 ·dsimp only [Fi.val] at e0 aD aN aP aK
  have HMN := iD (HM.out.put 2 3 (.bool (hsP po)) (.int .i64 0) (h' := xR nn nd ⟨dv, no, po, ke, g0, g1, g2, g3⟩ .p) rfl rfl)
  rw [← HN.out] at HMN
  clear HM HN
  by_cases ha : po = 1
  ·have q1 : (po != 1) = false := by simpa using ha
   rw [show hsP po = false from by simp [hsP, ha]] at HMN
   go_wp2_with fail
   refine Handed.intro (n - (i + 1)) (by omega) (hJ1 _ _ _ (yw.back 13 ?_ (by kernel_rfl)))
   dsimp only [gt]
   exact ⟨i + 1, rfl, by omega, rfl, HMN⟩
  by_cases hb : po = 2
  ·have q1 : (po != 1) = true := by simpa using ha
   have q2 : (po != 2) = false := by simpa using hb
   rw [show hsP po = false from by simp [hsP, hb]] at HMN
   go_wp2_with fail
   refine Handed.intro (n - (i + 1)) (by omega) (hJ1 _ _ _ (yw.back 13 ?_ (by kernel_rfl)))
   dsimp only [gt]
   exact ⟨i + 1, rfl, by omega, rfl, HMN⟩
  have q1 : (po != 1) = true := by simpa using ha
  have q2 : (po != 2) = true := by simpa using hb
  rw [show hsP po = true from by simp [hsP, ha, hb]] at HMN
  go_wp2_with fail
  refine Handed.intro (n - (i + 1)) (by omega) (hJ1 _ _ _ (yw.back 13 ?_ (by kernel_rfl)))
  dsimp only [gt]
  exact ⟨i + 1, rfl, by omega, rfl, HMN⟩
 ·dsimp only [Fi.val] at e0 aD aN aP aK
  have HMN := iD (HM.out.put 3 4 (.bool (hsK ke)) (.int .i64 0) (h' := xR nn nd ⟨dv, no, po, ke, g0, g1, g2, g3⟩ .k) rfl rfl)
  rw [← HN.out] at HMN
  clear HM HN
  by_cases ha : ke < 0
  ·have q1 : decide (ke < 0) = true := by simpa using ha
   rw [show hsK ke = true from by simp [hsK, ha]] at HMN
   go_wp2_with fail
   refine Handed.intro (n - (i + 1)) (by omega) (hJ1 _ _ _ (yw.back 13 ?_ (by kernel_rfl)))
   dsimp only [gt]
   exact ⟨i + 1, rfl, by omega, rfl, HMN⟩
  by_cases hb : 65536 < ke
  ·have q1 : decide (ke < 0) = false := by simpa using ha
   have q2 : decide (65536 < ke) = true := by simpa using hb
   rw [show hsK ke = true from by simp [hsK, hb]] at HMN
   go_wp2_with fail
   refine Handed.intro (n - (i + 1)) (by omega) (hJ1 _ _ _ (yw.back 13 ?_ (by kernel_rfl)))
   dsimp only [gt]
   exact ⟨i + 1, rfl, by omega, rfl, HMN⟩
  have q1 : decide (ke < 0) = false := by simpa using ha
  have q2 : decide (65536 < ke) = false := by simpa using hb
  rw [show hsK ke = false from by simp [hsK, ha, hb]] at HMN
  go_wp2_with fail
  refine Handed.intro (n - (i + 1)) (by omega) (hJ1 _ _ _ (yw.back 13 ?_ (by kernel_rfl)))
  dsimp only [gt]
  exact ⟨i + 1, rfl, by omega, rfl, HMN⟩
end
section
open Go.RowKit
section
variable (nn nd : Nat) (d no p q : Int)
theorem fF : zT nn nd ⟨1, d, no, p, q⟩ = if d < 0 ∨ (nd : Int) ≤ d then 8 else if no ≠ 0 ∨ p ≠ 0 ∨ q ≠ 0 then 14 else 0 := by (unfold zT Sp.posB Sp.keyB; simp only []; (repeat' split) <;> first | rfl | omega | (exfalso; simp at *; done) | (exfalso; simp at *; omega))
theorem fE : zT nn nd ⟨2, d, no, p, q⟩ = if d < 0 ∨ (nd : Int) ≤ d then 8 else if no ≠ 0 ∨ p ≠ 0 ∨ q ≠ 0 then 14 else 0 := by (unfold zT Sp.posB Sp.keyB; simp only []; (repeat' split) <;> first | rfl | omega | (exfalso; simp at *; done) | (exfalso; simp at *; omega))
theorem fD : zT nn nd ⟨3, d, no, p, q⟩ = if d < 0 ∨ (nd : Int) ≤ d then 8 else if p ≠ 1 ∧ p ≠ 2 then 10 else if q < 0 ∨ 65536 < q then 5 else if no ≠ 0 then 14 else 0 := by (unfold zT Sp.posB Sp.keyB; simp only []; (repeat' split) <;> first | rfl | omega | (exfalso; simp at *; done) | (exfalso; simp at *; omega))
theorem fC : zT nn nd ⟨4, d, no, p, q⟩ = if d < 0 ∨ (nd : Int) ≤ d then 8 else if q < 0 ∨ 65536 < q then 5 else if no ≠ 0 ∨ p ≠ 0 then 14 else 0 := by (unfold zT Sp.posB Sp.keyB; simp only []; (repeat' split) <;> first | rfl | omega | (exfalso; simp at *; done) | (exfalso; simp at *; omega))
theorem fB : zT nn nd ⟨5, d, no, p, q⟩ = if no < 0 ∨ (nn : Int) ≤ no then 7 else if d ≠ 0 ∨ p ≠ 0 ∨ q ≠ 0 then 14 else 0 := by (unfold zT Sp.posB Sp.keyB; simp only []; (repeat' split) <;> first | rfl | omega | (exfalso; simp at *; done) | (exfalso; simp at *; omega))
theorem gz : zT nn nd ⟨6, d, no, p, q⟩ = if d < 0 ∨ (nd : Int) ≤ d then 8 else if p ≠ 1 ∧ p ≠ 2 then 10 else if no ≠ 0 ∨ q ≠ 0 then 14 else 0 := by (unfold zT Sp.posB Sp.keyB; simp only []; (repeat' split) <;> first | rfl | omega | (exfalso; simp at *; done) | (exfalso; simp at *; omega))
theorem fm {k : Int} (h : k < 1 ∨ 6 < k) : zT nn nd ⟨k, d, no, p, q⟩ = 6 := by unfold zT; rw [if_pos h]
end
end
section
open Go.RowKit
def vA (h : Hs) : Int := if h.b0 then 8 else if h.b1 then 7 else if h.b2 then 10 else if h.b3 then 5 else if h.dv ≠ 0 ∨ h.no ≠ 0 ∨ h.po ≠ 0 ∨ h.ke ≠ 0 then 14 else 0
theorem jU {nn nd : Nat} {k d no p q : Int} (h1 : 1 ≤ k) (h6 : k ≤ 6) : vA (wR nn nd (sW k) ⟨d, no, p, q, false, false, false, false⟩) = zT nn nd ⟨k, d, no, p, q⟩ := by
 rcases (show k = 1 ∨ k = 2 ∨ k = 3 ∨ k = 4 ∨ k = 5 ∨ k = 6 by omega) with rfl | rfl | rfl | rfl | rfl | rfl
 ·rw [fF]; simp [vA, wR, sW, xR, hsD]
 ·rw [fE]; simp [vA, wR, sW, xR, hsD]
 ·rw [fD]; simp [vA, wR, sW, xR, hsD, hsP, hsK]
 ·rw [fC]; simp [vA, wR, sW, xR, hsD, hsK]
 ·rw [fB]
  have e : (!exB nn no) = (decide (no < 0) || decide ((nn : Int) ≤ no)) := by
   unfold exB
   by_cases a : no < 0 <;> by_cases b : (nn : Int) ≤ no <;> simp [a, b] <;> omega
  simp only [vA, wR, sW]
  simp [xR, e]
 ·rw [gz]; simp [vA, wR, sW, xR, hsD, hsP]
theorem uZ (A : Option Addr) (n c : Nat) (w : World) : (binOp BinOp.eql 176 (.slice A n c) (.slice none 0 0)).run Tryz.prog w = .ok (.bool A.isNone) w := by cases A <;> kernel_rfl
def Sp.eqB (x y : Sp) : Bool := x.kind == y.kind && x.dev == y.dev && x.node == y.node && x.pos == y.pos && x.key == y.key
theorem oc (k d no p q k2 d2 no2 p2 q2 : Int) (w : World) : (binOp .neq 43 (.agg #[.int .i64 k, .int .i64 d, .int .i64 no, .int .i64 p, .int .i64 q]) (.agg #[.int .i64 k2, .int .i64 d2, .int .i64 no2, .int .i64 p2, .int .i64 q2])).run Tryz.prog w = .ok (.bool (!Sp.eqB ⟨k, d, no, p, q⟩ ⟨k2, d2, no2, p2, q2⟩)) w := by
 have u3 := Tryz.underlying3
 have a3 := Tryz.isAgg3
 have z3 := Tryz.sizeOf3
 have hS : Tryz.prog.underlying 43 = some (.struct (Tryz.prog.fieldsOf 43)) := by kernel_rfl
 have hp : Tryz.prog.stoodInHeld 43 = false := by kernel_rfl
 rw [run_neq_struct, show (10000 : Nat) = 9999 + 1 from rfl, run_equalIn_agg w 9999 43 _ _ hS hp]
 simp only [Program.fieldsOf, Tryz.underlying43]
 go_simp
 by_cases h0 : k = k2 <;> by_cases h1 : d = d2 <;> by_cases h2 : no = no2 <;> by_cases h3 : p = p2 <;> by_cases h4 : q = q2 <;> simp [h0, h1, h2, h3, h4, Sp.eqB]
theorem HV2.new (w : World) (k dv nv po ke : Int) (g0 g1 g2 g3 : Bool) : Blk ((w.alloc (.cells #[.int .i64 k, .int .i64 dv, .int .i64 nv, .int .i64 po, .int .i64 ke] 43)).alloc (.cells #[.bool g0, .bool g1, .bool g2, .bool g3] 178)) w.heap.size 43 #[.int .i64 k, .int .i64 dv, .int .i64 nv, .int .i64 po, .int .i64 ke] ∧ Blk ((w.alloc (.cells #[.int .i64 k, .int .i64 dv, .int .i64 nv, .int .i64 po, .int .i64 ke] 43)).alloc (.cells #[.bool g0, .bool g1, .bool g2, .bool g3] 178)) (w.heap.size + 1) 178 #[.bool g0, .bool g1, .bool g2, .bool g3] :=
 ⟨(Blk.new w _ _).alloc _, by have := Blk.new (w.alloc (.cells #[.int .i64 k, .int .i64 dv, .int .i64 nv, .int .i64 po, .int .i64 ke] 43)) 178 #[.bool g0, .bool g1, .bool g2, .bool g3]; simpa using this⟩
theorem fL (w : World) : (Instr.index 181 (.agg #[.int .i64 8, .int .i64 7, .int .i64 10, .int .i64 5]) (.int .i64 0)).run Tryz.prog w = .ok (.int .i64 8) w := by kernel_rfl
theorem fK (w : World) : (Instr.index 181 (.agg #[.int .i64 8, .int .i64 7, .int .i64 10, .int .i64 5]) (.int .i64 1)).run Tryz.prog w = .ok (.int .i64 7) w := by kernel_rfl
theorem fJ (w : World) : (Instr.index 181 (.agg #[.int .i64 8, .int .i64 7, .int .i64 10, .int .i64 5]) (.int .i64 2)).run Tryz.prog w = .ok (.int .i64 10) w := by kernel_rfl
theorem fI (w : World) : (Instr.index 181 (.agg #[.int .i64 8, .int .i64 7, .int .i64 10, .int .i64 5]) (.int .i64 3)).run Tryz.prog w = .ok (.int .i64 5) w := by kernel_rfl
def PsR (g0 g1 g2 g3 : Bool) (V : World) (gk : Nat) (iv : Value) (wr : World) : Prop := ∃ i : Int, iv = .int .i64 i ∧ (0 ≤ i ∧ i ≤ 4) ∧ gk = 4 - i.toNat ∧ wr = V ∧ (0 < i → g0 = false) ∧ (1 < i → g1 = false) ∧ (2 < i → g2 = false) ∧ (3 < i → g3 = false)
theorem lB (An Ad : Option Addr) (nn cn nd cd : Nat) (k d no p q : Int) (w : World) (hnn : nn ≤ 9223372036854775807) (hnd : nd ≤ 9223372036854775807) :
 Calls Tryz.prog 111 #[.agg #[.slice An nn cn, .slice Ad nd cd], .agg #[.int .i64 k, .int .i64 d, .int .i64 no, .int .i64 p, .int .i64 q]] w fun e w' => e = .returned (.int .i64 (zT nn nd ⟨k, d, no, p, q⟩)) ∧ Below w.heap.size w w' := by
 have HB : Hid (Below w.heap.size w ((w.alloc (.cells #[.slice An nn cn, .slice Ad nd cd] 30)).alloc (.cells #[.int .i64 k, .int .i64 d, .int .i64 no, .int .i64 p, .int .i64 q] 43))) := ((Below.refl _ _).alloc lR _).alloc (by simp) _
 have HB0 := iD ((Blk.new w 30 #[.slice An nn cn, .slice Ad nd cd]).alloc (.cells #[.int .i64 k, .int .i64 d, .int .i64 no, .int .i64 p, .int .i64 q] 43))
 have HB1 : Hid (Blk ((w.alloc (.cells #[.slice An nn cn, .slice Ad nd cd] 30)).alloc (.cells #[.int .i64 k, .int .i64 d, .int .i64 no, .int .i64 p, .int .i64 q] 43)) (w.heap.size + 1) 43 #[.int .i64 k, .int .i64 d, .int .i64 no, .int .i64 p, .int .i64 q]) := by
  have := Blk.new (w.alloc (.cells #[.slice An nn cn, .slice Ad nd cd] 30)) 43 #[.int .i64 k, .int .i64 d, .int .i64 no, .int .i64 p, .int .i64 q]
  unfold Hid; simpa using this
 go_enter Tryz.func111, Tryz.ntmps111
 go_upto_region 1 with (fail)
 generalize World.alloc (World.alloc w _) _ = W at *
 have s0 := HB1.out.c0
 by_cases hk : k < 1 ∨ 6 < k
 ·have HE : Hid (zT nn nd ⟨k, d, no, p, q⟩ = 6) := fm nn nd d no p q hk
  go_wp2_with fail
  refine (iY k hk W).mono ?_
  rintro e w1 ⟨rfl, rfl⟩
  clear hk s0
  have hn := uZ none 0 0
  go_wp2_with fail
  go_ret
  exact ⟨zE (by rw [HE.out]), HB.out⟩
 have HK : Hid (vA (wR nn nd (sW k) ⟨d, no, p, q, false, false, false, false⟩) = zT nn nd ⟨k, d, no, p, q⟩) := jU (by omega) (by omega)
 go_wp2_with fail
 refine (jY k (by omega) (by omega) W).mono ?_
 rintro e w1 ⟨b, n, rfl, hs1, hb1⟩
 clear hk s0
 have HS1 := iD hs1.out
 have HBA := iD (HB.out.trans (hb1.out.mono HB.out.size))
 have HB0A := iD (HB0.out.below hb1.out HB0.out.lt)
 have HB1A := iD (HB1.out.below hb1.out HB1.out.lt)
 clear hs1 hb1 HB HB0 HB1
 have hn := uZ (some ⟨b, 0, none⟩) n n
 have n0 := HB0A.out.c0
 have n1 := HB0A.out.c1
 have s0 := HB1A.out.c0
 have s1 := HB1A.out.c1
 have s2 := HB1A.out.c2
 have s3 := HB1A.out.c3
 have s4 := HB1A.out.c4
 go_wp2_with fail
 clear n0 n1 s0 s1 s2 s3 s4
 refine (iV An Ad _ nn cn nd cd n n (sW k) k ⟨d, no, p, q, false, false, false, false⟩ w1 rfl rfl rfl rfl HS1.out hnn hnd).mono ?_
 rintro e w2 ⟨rfl, hb2⟩
 obtain ⟨h, hh⟩ : ∃ h, h = wR nn nd (sW k) ⟨d, no, p, q, false, false, false, false⟩ := ⟨_, rfl⟩
 rw [← hh] at HK ⊢
 clear hh HS1
 obtain ⟨dv, nv, po, ke, g0, g1, g2, g3⟩ := h
 dsimp only [Hs.step, Hs.bad]
 have HB2 := iD (HBA.out.trans (hb2.mono HBA.out.size))
 have HB12 := iD (HB1A.out.below hb2 HB1A.out.lt)
 clear hb2 HBA HB0A HB1A
 go_upto_region 5 with (fail)
 have HV := iD (HV2.new w2 k dv nv po ke g0 g1 g2 g3)
 have HBV := iD ((HB2.out.alloc HB2.out.size (.cells #[.int .i64 k, .int .i64 dv, .int .i64 nv, .int .i64 po, .int .i64 ke] 43)).alloc (by have := HB2.out.size; simp; omega) (.cells #[.bool g0, .bool g1, .bool g2, .bool g3] 178))
 have HSV := iD ((HB12.out.alloc (.cells #[.int .i64 k, .int .i64 dv, .int .i64 nv, .int .i64 po, .int .i64 ke] 43)).alloc (.cells #[.bool g0, .bool g1, .bool g2, .bool g3] 178))
 generalize World.alloc (World.alloc w2 _) _ = V at *
 clear HB2 HB12
 obtain ⟨x, hx⟩ : ∃ x, x = w2.heap.size := ⟨_, rfl⟩
 rw [← hx] at HV ⊢
 clear hx
 go_upto_region 6 with (fail)
 refine zv [(3, 0), (0, 1), (2, 0), (1, 1), (12, 0), (0, 2), (7, 1), (4, 0)] 23 (4) (PsR g0 g1 g2 g3 V) (by (try dsimp only [gt]); exact ⟨0, rfl, ⟨by decide, by decide⟩, rfl, rfl, fun h => absurd h (by decide), fun h => absurd h (by decide), fun h => absurd h (by decide), fun h => absurd h (by decide)⟩) (by kernel_rfl) ?_
 intro u1 p23 gk wr a hrel ha J1 K1 hJ1 hK1
 dsimp only [zZ, Go.Proofs.YtkkobemhbicjgaaGreatDoor.v1, Nat.reduceAdd] at ha
 subst ha
 obtain ⟨i, rfl, hi, hgk, rfl, m0, m1, m2, m3⟩ := hrel
 have d0 := HV.out.2.c0
 have d1 := HV.out.2.c1
 have d2 := HV.out.2.c2
 have d3 := HV.out.2.c3
 rcases (show i = 0 ∨ i = 1 ∨ i = 2 ∨ i = 3 ∨ i = 4 by omega) with rfl | rfl | rfl | rfl | rfl
 ·have hi := fL
  rcases g0 with _ | _
  ·clear m0 m1 m2 m3
   go_wp2_with fail
   refine Handed.intro (3) (by omega) (hJ1 _ _ _ (yw.back 23 ?_ (by kernel_rfl)))
   dsimp only [gt]
   exact ⟨1, rfl, ⟨by decide, by decide⟩, rfl, rfl, fun _ => rfl, fun h => absurd h (by decide), fun h => absurd h (by decide), fun h => absurd h (by decide)⟩
  ·have HE : Hid (zT nn nd ⟨k, d, no, p, q⟩ = 8) := by unfold Hid; rw [← HK.out]; simp [vA]
   clear m0 m1 m2 m3
   go_wp2_with fail
   go_ret
   exact ⟨zE (by rw [HE.out]), HBV.out⟩
 ·have hi := fK
  have HG0 := iD (m0 (by decide))
  rcases g1 with _ | _
  ·clear m0 m1 m2 m3
   go_wp2_with fail
   refine Handed.intro (2) (by omega) (hJ1 _ _ _ (yw.back 23 ?_ (by kernel_rfl)))
   dsimp only [gt]
   exact ⟨2, rfl, ⟨by decide, by decide⟩, rfl, rfl, fun _ => HG0.out, fun _ => rfl, fun h => absurd h (by decide), fun h => absurd h (by decide)⟩
  ·have HE : Hid (zT nn nd ⟨k, d, no, p, q⟩ = 7) := by unfold Hid; rw [← HK.out]; simp [vA, HG0.out]
   clear m0 m1 m2 m3
   go_wp2_with fail
   go_ret
   exact ⟨zE (by rw [HE.out]), HBV.out⟩
 ·have hi := fJ
  have HG0 := iD (m0 (by decide))
  have HG1 := iD (m1 (by decide))
  rcases g2 with _ | _
  ·clear m0 m1 m2 m3
   go_wp2_with fail
   refine Handed.intro (1) (by omega) (hJ1 _ _ _ (yw.back 23 ?_ (by kernel_rfl)))
   dsimp only [gt]
   exact ⟨3, rfl, ⟨by decide, by decide⟩, rfl, rfl, fun _ => HG0.out, fun _ => HG1.out, fun _ => rfl, fun h => absurd h (by decide)⟩
  ·have HE : Hid (zT nn nd ⟨k, d, no, p, q⟩ = 10) := by unfold Hid; rw [← HK.out]; simp [vA, HG0.out, HG1.out]
   clear m0 m1 m2 m3
   go_wp2_with fail
   go_ret
   exact ⟨zE (by rw [HE.out]), HBV.out⟩
 ·have hi := fI
  have HG0 := iD (m0 (by decide))
  have HG1 := iD (m1 (by decide))
  have HG2 := iD (m2 (by decide))
  rcases g3 with _ | _
  ·clear m0 m1 m2 m3
   go_wp2_with fail
   refine Handed.intro (0) (by omega) (hJ1 _ _ _ (yw.back 23 ?_ (by kernel_rfl)))
   dsimp only [gt]
   exact ⟨4, rfl, ⟨by decide, by decide⟩, rfl, rfl, fun _ => HG0.out, fun _ => HG1.out, fun _ => HG2.out, fun _ => rfl⟩
  ·have HE : Hid (zT nn nd ⟨k, d, no, p, q⟩ = 5) := by unfold Hid; rw [← HK.out]; simp [vA, HG0.out, HG1.out, HG2.out]
   clear m0 m1 m2 m3
   go_wp2_with fail
   go_ret
   exact ⟨zE (by rw [HE.out]), HBV.out⟩
 ·have HG0 := iD (m0 (by decide))
  have HG1 := iD (m1 (by decide))
  have HG2 := iD (m2 (by decide))
  have HG3 := iD (m3 (by decide))
  clear m0 m1 m2 m3 d0 d1 d2 d3
  have c0 := HV.out.1.c0
  have c1 := HV.out.1.c1
  have c2 := HV.out.1.c2
  have c3 := HV.out.1.c3
  have c4 := HV.out.1.c4
  have s0 := HSV.out.c0
  have hq := oc k dv nv po ke k 0 0 0 0
  have HE : Hid (zT nn nd ⟨k, d, no, p, q⟩ = if dv ≠ 0 ∨ nv ≠ 0 ∨ po ≠ 0 ∨ ke ≠ 0 then 14 else 0) := by unfold Hid; rw [← HK.out]; have e0 := HG0.out; have e1 := HG1.out; have e2 := HG2.out; have e3 := HG3.out; subst e0 e1 e2 e3; rfl
  have HQ : Hid (Sp.eqB ⟨k, dv, nv, po, ke⟩ ⟨k, 0, 0, 0, 0⟩ = !decide (dv ≠ 0 ∨ nv ≠ 0 ∨ po ≠ 0 ∨ ke ≠ 0)) := by unfold Hid; by_cases a : dv = 0 <;> by_cases b : nv = 0 <;> by_cases c : po = 0 <;> by_cases e : ke = 0 <;> simp [Sp.eqB, a, b, c, e]
  by_cases hz : dv ≠ 0 ∨ nv ≠ 0 ∨ po ≠ 0 ∨ ke ≠ 0
  ·rw [HQ.out, decide_eq_true hz] at hq
   have HE2 : Hid (zT nn nd ⟨k, d, no, p, q⟩ = 14) := by unfold Hid; rw [HE.out, if_pos hz]
   clear hz
   go_wp2_with fail
   go_ret
   exact ⟨zE (by rw [HE2.out]), HBV.out⟩
  ·rw [HQ.out, decide_eq_false hz] at hq
   have HE2 : Hid (zT nn nd ⟨k, d, no, p, q⟩ = 0) := by unfold Hid; rw [HE.out, if_neg hz]
   clear hz
   go_wp2_with fail
   go_ret
   exact ⟨zE (by rw [HE2.out]), HBV.out⟩
end
section
open Go.RowKit
theorem kJ {nn nd : Nat} {xs : List Sp} {i : Nat} {x : Sp} (hx : xs[i]? = some x) : zo nn nd (xs.drop i) = if zT nn nd x ≠ 0 then zT nn nd x else zo nn nd (xs.drop (i + 1)) := by
 obtain ⟨hi, rfl⟩ := List.getElem?_eq_some_iff.mp hx
 rw [List.drop_eq_getElem_cons hi, zo]
structure mc (w : World) (An Ad Ax : Option Addr) (nn cn nd cd nx cx : Nat) (ns : List Nd) (ds : List Dv) (nm : ByteArray) (xs : List Sp) : Prop where
 hn : Sl w w.heap.size 3 An nn cn (ns.flatMap Nd.cells)
 hd : Sl w w.heap.size 5 Ad nd cd (ds.flatMap Dv.cells)
 hx : Sl w w.heap.size 5 Ax nx cx (xs.flatMap Sp.cells)
 la : Laid w
 sn : ∀ x ∈ ns, x.name.size ≤ 9223372036854775807
 sd : ∀ x ∈ ds, x.name.size ≤ 9223372036854775807
 sm : nm.size ≤ 9223372036854775807
structure PgB (w : World) (N : Array Value) (nm : ByteArray) (Ax : Option Addr) (nx cx : Nat) (wr : World) : Prop where
 b0 : Blk wr w.heap.size 30 N
 b1 : Blk wr (w.heap.size + 1) 41 #[.string nm, .slice Ax nx cx]
 bl : Below w.heap.size w wr
section
variable {w wr wr' : World} {N : Array Value} {An Ad Ax : Option Addr} {nn cn nd cd nx cx : Nat} {ns : List Nd} {ds : List Dv} {nm : ByteArray} {xs : List Sp}
theorem PgB.new (w : World) (N : Array Value) (nm : ByteArray) (Ax : Option Addr) (nx cx : Nat) : PgB w N nm Ax nx cx ((w.alloc (.cells N 30)).alloc (.cells #[.string nm, .slice Ax nx cx] 41)) :=
 ⟨(Blk.new w _ _).alloc _, by have := Blk.new (w.alloc (.cells N 30)) 41 #[.string nm, .slice Ax nx cx]; simpa using this, ((Below.refl _ _).alloc lR _).alloc (by simp) _⟩
theorem PgB.later (h : PgB w N nm Ax nx cx wr) (hb : Below wr.heap.size wr wr') : PgB w N nm Ax nx cx wr' := ⟨h.b0.below hb h.b0.lt, h.b1.below hb h.b1.lt, h.bl.trans (hb.mono h.bl.size)⟩
theorem mc.below (h : mc w An Ad Ax nn cn nd cd nx cx ns ds nm xs) (hb : Below w.heap.size w wr) : mc wr An Ad Ax nn cn nd cd nx cx ns ds nm xs :=
 ⟨(h.hn.below hb lR).more hb.size, (h.hd.below hb lR).more hb.size, (h.hx.below hb lR).more hb.size, h.la.below hb lR, h.sn, h.sd, h.sm⟩
end
def PgR (w : World) (N : Array Value) (nm : ByteArray) (Ax : Option Addr) (nn nd nx cx : Nat) (xs : List Sp) (gk : Nat) (iv : Value) (wr : World) : Prop :=
 ∃ i : Nat, iv = .int .i64 i ∧ i ≤ nx ∧ gk = nx - i ∧ Hid (zo nn nd xs = zo nn nd (xs.drop i)) ∧ Hid (PgB w N nm Ax nx cx wr)
theorem tQ (An Ad Ax : Option Addr) (nn cn nd cd nx cx : Nat) (ns : List Nd) (ds : List Dv) (nm : ByteArray) (xs : List Sp) (w : World) (h : mc w An Ad Ax nn cn nd cd nx cx ns ds nm xs) :
 Calls Tryz.prog 74 #[.agg #[.slice An nn cn, .slice Ad nd cd], .agg #[.string nm, .slice Ax nx cx]] w fun e w' => e = .returned (.int .i64 (yf ns ds nm xs)) ∧ Below w.heap.size w w' := by
 have HH := iD h
 have HB := iD (PgB.new w #[.slice An nn cn, .slice Ad nd cd] nm Ax nx cx)
 have hln : ns.length = nn := h.hn.len (fun _ => rfl) (by decide)
 have hld : ds.length = nd := h.hd.len (fun _ => rfl) (by decide)
 have hlx : xs.length = nx := h.hx.len (fun _ => rfl) (by decide)
 have hnn := h.hn.le
 have hnd := h.hd.le
 have hnx := h.hx.le
 have HE : Hid (yf ns ds nm xs = if za ns ds ≠ 0 then za ns ds else if yl (toL nm) = false then 3 else if 64 < nx then 1 else zo nn nd xs) := by unfold Hid yf; rw [hln, hld, hlx]
 clear h
 go_enter Tryz.func74, Tryz.ntmps74
 go_upto_region 1 with (fail)
 generalize World.alloc (World.alloc w _) _ = W at *
 have HM := iD (HH.out.below HB.out.bl)
 have HNC := iD (wl An Ad nn cn nd cd W.heap.size W.heap.size ns ds W HM.out.la HM.out.hn HM.out.hd lR lR HM.out.sn HM.out.sd)
 have k0 := HB.out.b0.c0
 have k1 := HB.out.b0.c1
 go_wp2_with fail
 clear k0 k1
 refine HNC.out.mono ?_
 rintro e w1 ⟨rfl, hb1⟩
 have HB1 := iD (HB.out.later hb1)
 have HM1 := iD (HM.out.below hb1)
 clear hb1 HB HM HNC
 by_cases hc : za ns ds = 0; rotate_left
 ·have q1 : (za ns ds != 0) = true := by simpa using hc
  have HR : Hid (yf ns ds nm xs = za ns ds) := by unfold Hid; rw [HE.out, if_pos hc]
  clear hc
  go_wp2_with fail
  go_ret
  exact ⟨zE (by rw [HR.out]), HB1.out.bl⟩
 have HE1 : Hid (yf ns ds nm xs = if yl (toL nm) = false then 3 else if 64 < nx then 1 else zo nn nd xs) := by unfold Hid; rw [HE.out, if_neg (by simp [hc])]
 rw [hc]
 clear hc HE
 have p0 := HB1.out.b1.c0
 have p1 := HB1.out.b1.c1
 have HNM := iD (sM nm w1 HM1.out.la HM1.out.sm)
 go_wp2_with fail
 clear p0 p1
 refine HNM.out.mono ?_
 rintro e w2 ⟨rfl, hb2⟩
 have HB2 := iD (HB1.out.later hb2)
 have HM2 := iD (HM1.out.below hb2)
 clear hb2 HB1 HM1 HNM
 by_cases hm : yl (toL nm) = true; rotate_left
 ·have hm0 : yl (toL nm) = false := by simpa using hm
  have HR : Hid (yf ns ds nm xs = 3) := by unfold Hid; rw [HE1.out, if_pos hm0]
  rw [hm0]
  clear hm hm0
  go_wp2_with fail
  go_ret
  exact ⟨zE (by rw [HR.out]), HB2.out.bl⟩
 have HE2 : Hid (yf ns ds nm xs = if 64 < nx then 1 else zo nn nd xs) := by unfold Hid; rw [HE1.out, if_neg (by simp [hm])]
 rw [hm]
 clear hm HE1
 have p1 := HB2.out.b1.c1
 by_cases hx : 64 < nx
 ·have q1 : decide ((64 : Int) < (nx : Int)) = true := by simp; omega
  have q2 : decide (64 < nx) = true := by simpa using hx
  have HR : Hid (yf ns ds nm xs = 1) := by unfold Hid; rw [HE2.out, if_pos hx]
  clear hx
  go_wp2_with fail
  go_ret
  exact ⟨zE (by rw [HR.out]), HB2.out.bl⟩
 have q1 : decide ((64 : Int) < (nx : Int)) = false := by simp; omega
 have q2 : decide (64 < nx) = false := by simpa using hx
 have HE3 : Hid (yf ns ds nm xs = zo nn nd xs) := by unfold Hid; rw [HE2.out, if_neg hx]
 clear HE2
 go_upto_region 9 with (fail)
 clear p1 q1 q2
 refine zv [(3, 0), (0, 1), (1, 0), (1, 1), (17, 0), (0, 2), (9, 1)] 27 (nx) (PgR w #[.slice An nn cn, .slice Ad nd cd] nm Ax nn nd nx cx xs) (by (try dsimp only [gt]); exact ⟨0, rfl, Nat.zero_le _, rfl, rfl, HB2⟩) (by kernel_rfl) ?_
 intro u1 p27 gk wr a hrel ha J1 K1 hJ1 hK1
 dsimp only [zZ, Go.Proofs.YtkkobemhbicjgaaGreatDoor.v1, Nat.reduceAdd] at ha
 subst ha
 clear HB2 HM2
 obtain ⟨i, rfl, hi, rfl, HS, HQ⟩ := hrel
 have p1 := HQ.out.b1.c1
 by_cases hlt : i < nx; rotate_left
 ·have hii : decide ((i : Int) < (nx : Int)) = false := by simp; omega
  have hii2 : decide (i < nx) = false := by simp; omega
  have HR : Hid (yf ns ds nm xs = 0) := by unfold Hid; rw [HE3.out, HS.out, List.drop_eq_nil_of_le (by omega)]; rfl
  go_wp2_with fail
  go_ret
  exact ⟨zE (by rw [HR.out]), HQ.out.bl⟩
 obtain ⟨be, oe, x, hAe, hbe, hx', hcs⟩ := (HH.out.hx.below HQ.out.bl lR).at (fun _ => rfl) (by decide) hlt
 have HX := iD hx'
 obtain ⟨ek, ed, en, ep, eq⟩ := x
 have HC : Hid ((wr.cell? ⟨be, oe + i * 5, none⟩ = some (.int .i64 ek) ∧ wr.cell? ⟨be, oe + i * 5 + 1, none⟩ = some (.int .i64 ed) ∧ wr.cell? ⟨be, oe + i * 5 + 2, none⟩ = some (.int .i64 en) ∧ wr.cell? ⟨be, oe + i * 5 + 3, none⟩ = some (.int .i64 ep) ∧ wr.cell? ⟨be, oe + i * 5 + 4, none⟩ = some (.int .i64 eq)) ∧ (wr.cell? ⟨w.heap.size, 0, none⟩ = some (.slice An nn cn) ∧ wr.cell? ⟨w.heap.size, 1, none⟩ = some (.slice Ad nd cd)) ∧ wr.cell? ⟨w.heap.size + 1, 1, none⟩ = some (.slice Ax nx cx)) := ⟨⟨hcs 0 _ rfl, hcs 1 _ rfl, hcs 2 _ rfl, hcs 3 _ rfl, hcs 4 _ rfl⟩, ⟨HQ.out.b0.cell 0, HQ.out.b0.cell 1⟩, p1⟩
 subst hAe
 clear hcs hx' hbe
 have HST : Hid (zo nn nd xs = if zT nn nd ⟨ek, ed, en, ep, eq⟩ ≠ 0 then zT nn nd ⟨ek, ed, en, ep, eq⟩ else zo nn nd (xs.drop (i + 1))) := HS.out.trans (kJ HX.out)
 clear HX HS
 obtain ⟨⟨c0, c1, c2, c3, c4⟩, ⟨k0, k1⟩, -⟩ := HC.out
 clear HC
 go_upto_region 11 with (fail)
 clear c0 c1 c2 c3 c4 k0 k1 p1
 have HV := iD (Blk.new wr 43 #[.int .i64 ek, .int .i64 ed, .int .i64 en, .int .i64 ep, .int .i64 eq])
 have HQV := iD (HQ.out.later ((Below.refl _ wr).alloc lR (.cells #[.int .i64 ek, .int .i64 ed, .int .i64 en, .int .i64 ep, .int .i64 eq] 43)))
 clear HQ
 generalize World.alloc wr _ = V at *
 obtain ⟨bq, hbq⟩ : ∃ x, x = wr.heap.size := ⟨_, rfl⟩
 rw [← hbq] at HV ⊢
 clear hbq
 have c0 := HV.out.c0
 have c1 := HV.out.c1
 have c2 := HV.out.c2
 have c3 := HV.out.c3
 have c4 := HV.out.c4
 have k0 := HQV.out.b0.c0
 have k1 := HQV.out.b0.c1
 go_wp2_with fail
 clear c0 c1 c2 c3 c4 k0 k1
 refine (lB An Ad nn cn nd cd ek ed en ep eq V (by omega) (by omega)).mono ?_
 rintro e w6 ⟨rfl, hb6⟩
 have HQ6 := iD (HQV.out.later hb6)
 clear hb6 HQV HV
 by_cases h0 : zT nn nd ⟨ek, ed, en, ep, eq⟩ = 0; rotate_left
 ·have q1 : (zT nn nd ⟨ek, ed, en, ep, eq⟩ != 0) = true := by simpa using h0
  have HR : Hid (yf ns ds nm xs = zT nn nd ⟨ek, ed, en, ep, eq⟩) := by unfold Hid; rw [HE3.out, HST.out, if_pos h0]
  clear h0
  go_wp2_with fail
  go_ret
  exact ⟨zE (by rw [HR.out]), HQ6.out.bl⟩
 have HSN : Hid (zo nn nd xs = zo nn nd (xs.drop (i + 1))) := by unfold Hid; rw [HST.out, if_neg (by simp [h0])]
 rw [h0]
 clear h0 HST
 go_wp2_with fail
 refine Handed.intro (nx - (i + 1)) (by omega) (hJ1 _ _ _ (yw.back 27 ?_ (by kernel_rfl)))
 dsimp only [gt]
 exact ⟨i + 1, by go_num, by omega, rfl, HSN, HQ6⟩
end
section
open Go.RowKit
structure Fd where
 s : List Int
 ls : List Lk
 st : List Int
def gM (nd : Nat) (st : List Int) (i : Nat) : Bool := match st[i]? with
 | none => false
 | some d => decide (d < 0) || decide ((nd : Int) ≤ d) || (decide (0 < i) && decide (d ≤ st.getD (i - 1) 0))
def mY (nd : Nat) (st : List Int) : Prop := ∀ i, i < st.length → gM nd st i = false
section
variable {ns : List Nd} {ds : List Dv} {F : Fd}
end
theorem mY.mem {nd : Nat} {st : List Int} (h : mY nd st) {x : Int} (hx : x ∈ st) : 0 ≤ x ∧ x < nd := by
 obtain ⟨i, hi, rfl⟩ := List.mem_iff_getElem.1 hx
 have := h i hi
 unfold gM at this
 rw [List.getElem?_eq_getElem hi] at this
 simp only [Bool.or_eq_false_iff, decide_eq_false_iff_not] at this
 omega
theorem mY.of {nd : Nat} {st : List Int} (h : st.Pairwise (· < ·)) (hm : ∀ x ∈ st, 0 ≤ x ∧ x < nd) : mY nd st := by
 intro i hi
 have h1 := hm _ (List.getElem_mem hi)
 unfold gM
 rw [List.getElem?_eq_getElem hi]
 simp only [Bool.or_eq_false_iff, decide_eq_false_iff_not, Bool.and_eq_false_iff]
 refine ⟨⟨by omega, by omega⟩, ?_⟩
 by_cases h0 : i = 0
 ·left; omega
 ·right
  rw [List.getD_eq_getElem?_getD, List.getElem?_eq_getElem (show i - 1 < st.length by omega), Option.getD_some]
  have := (List.pairwise_iff_getElem.1 h) (i - 1) i (by omega) hi (by omega)
  omega
structure FdM (w : World) (An Ad As Al At : Option Addr) (nn cn nd cd n c nl cl nt ct : Nat) (ns : List Nd) (ds : List Dv) (F : Fd) : Prop where
 hn : Sl w w.heap.size 3 An nn cn (ns.flatMap Nd.cells)
 hd : Sl w w.heap.size 5 Ad nd cd (ds.flatMap Dv.cells)
 hs : Sl w w.heap.size 1 As n c (zD F.s)
 hl : Sl w w.heap.size 3 Al nl cl (F.ls.flatMap Lk.cells)
 ht : Sl w w.heap.size 1 At nt ct (zD F.st)
 la : Laid w
 sn : ∀ x ∈ ns, x.name.size ≤ 9223372036854775807
 sd : ∀ x ∈ ds, x.name.size ≤ 9223372036854775807
section
variable {w w' : World} {An Ad As Al At : Option Addr} {nn cn nd cd n c nl cl nt ct : Nat} {ns : List Nd} {ds : List Dv} {F : Fd}
theorem FdM.later (h : FdM w An Ad As Al At nn cn nd cd n c nl cl nt ct ns ds F) (hb : Below w.heap.size w w') : FdM w' An Ad As Al At nn cn nd cd n c nl cl nt ct ns ds F :=
 ⟨(h.hn.below hb lR).more hb.size, (h.hd.below hb lR).more hb.size, (h.hs.below hb lR).more hb.size, (h.hl.below hb lR).more hb.size, (h.ht.below hb lR).more hb.size, h.la.below hb lR, h.sn, h.sd⟩
theorem FdM.ln (h : FdM w An Ad As Al At nn cn nd cd n c nl cl nt ct ns ds F) : ns.length = nn ∧ ds.length = nd ∧ F.s.length = n ∧ F.ls.length = nl ∧ F.st.length = nt :=
 ⟨h.hn.len (fun _ => rfl) (by decide), h.hd.len (fun _ => rfl) (by decide), h.hs.len (fun _ => rfl) (by decide), h.hl.len (fun _ => rfl) (by decide), h.ht.len (fun _ => rfl) (by decide)⟩
end
end
section
open Go.RowKit
structure Bxs (w : World) (L : List (TypeId × Array Value)) (wr : World) : Prop where
 b : ∀ i t c, L[i]? = some (t, c) → Blk wr (w.heap.size + i) t c
 l : Below w.heap.size w wr
section
variable {w wr wr' : World} {L : List (TypeId × Array Value)} {x0 x1 x2 x3 x4 : TypeId × Array Value} {t : TypeId} {c : Array Value}
theorem Bxs.nil (w : World) : Bxs w [] w := ⟨fun i t c h => by simp at h, Below.refl _ _⟩
theorem Bxs.add (h : Bxs w L wr) (hz : wr.heap.size = w.heap.size + L.length) (t : TypeId) (c : Array Value) : Bxs w (L ++ [(t, c)]) (wr.alloc (.cells c t)) := by
 refine ⟨fun i t' c' hi => ?_, h.l.alloc (by omega) _⟩
 rw [List.getElem?_append] at hi
 split at hi
 ·exact (h.b i _ _ hi).alloc _
 ·next hlt =>
  have h0 : i - L.length = 0 := by
   rcases Nat.eq_zero_or_pos (i - L.length) with e | e
   ·exact e
   ·rw [List.getElem?_eq_none (by simp; omega)] at hi; cases hi
  rw [h0] at hi
  have e : (t, c) = (t', c') := by simpa using hi
  injection e with e1 e2
  subst e1 e2
  have := Blk.new wr t c
  rwa [hz, show L.length = i by omega] at this
theorem Bxs.later (h : Bxs w L wr) (hb : Below wr.heap.size wr wr') : Bxs w L wr' := ⟨fun i t c hi => (h.b i t c hi).below hb (h.b i t c hi).lt, h.l.trans (hb.mono h.l.size)⟩
theorem Bxs.drew (h : Bxs w L wr) : Bxs w L wr.drew := h.later (Below.refl _ _).drew
theorem Bxs.put (h : Bxs w L wr) {g : Nat} (hg : w.heap.size + L.length ≤ g) (i : Nat) (u : Value) : Bxs w L (wr.setCell ⟨g, i, none⟩ u) :=
 ⟨fun k t c hk => (h.b k t c hk).far (by have := (List.getElem?_eq_some_iff.1 hk).1; show w.heap.size + k ≠ g; omega) _, h.l.setCell (by show w.heap.size ≤ g; omega) _⟩
theorem Bxs.set (h : Bxs w L wr) (i j : Nat) (v : Value) (hi : L[i]? = some (t, c)) : Bxs w (L.set i (t, c.setIfInBounds j v)) (wr.setCell ⟨w.heap.size + i, j, none⟩ v) := by
 refine ⟨fun k t' c' hk => ?_, h.l.setCell (by show w.heap.size ≤ w.heap.size + i; omega) _⟩
 rw [List.getElem?_set] at hk
 by_cases e : i = k
 ·subst e
  rw [if_pos rfl, if_pos (List.getElem?_eq_some_iff.1 hi).1] at hk
  injection hk with hk; injection hk with h1 h2
  subst h1 h2
  exact (h.b i _ _ hi).set j v
 ·rw [if_neg e] at hk
  exact (h.b k t' c' hk).far (by show w.heap.size + k ≠ w.heap.size + i; omega) _
theorem Bxs.b0 (h : Bxs w ((t, c) :: L) wr) : Blk wr w.heap.size t c := h.b 0 t c rfl
theorem Bxs.b1 (h : Bxs w (x0 :: (t, c) :: L) wr) : Blk wr (w.heap.size + 1) t c := h.b 1 t c rfl
theorem Bxs.b2 (h : Bxs w (x0 :: x1 :: (t, c) :: L) wr) : Blk wr (w.heap.size + 2) t c := h.b 2 t c rfl
theorem Bxs.b3 (h : Bxs w (x0 :: x1 :: x2 :: (t, c) :: L) wr) : Blk wr (w.heap.size + 3) t c := h.b 3 t c rfl
theorem Bxs.b4 (h : Bxs w (x0 :: x1 :: x2 :: x3 :: (t, c) :: L) wr) : Blk wr (w.heap.size + 4) t c := h.b 4 t c rfl
end
theorem Bxs.new4 (w : World) (x y z u : TypeId × Array Value) : Bxs w [x, y, z, u] ((((w.alloc (.cells x.2 x.1)).alloc (.cells y.2 y.1)).alloc (.cells z.2 z.1)).alloc (.cells u.2 u.1)) :=
 ((((Bxs.nil w).add rfl x.1 x.2).add (by simp) y.1 y.2).add (by simp) z.1 z.2).add (by simp) u.1 u.2
def st5 (w : World) (g : Nat) (a b c d e : Value) : World := ((((w.setCell ⟨g, 0, none⟩ a).setCell ⟨g, 1, none⟩ b).setCell ⟨g, 2, none⟩ c).setCell ⟨g, 3, none⟩ d).setCell ⟨g, 4, none⟩ e
theorem Bxs.st5 {w wr : World} {x0 x1 x2 : TypeId × Array Value} {t : TypeId} {a0 b0 c0 d0 e0 : Value} (h : Bxs w [x0, x1, x2, (t, #[a0, b0, c0, d0, e0])] wr) (a b c d e : Value) : Bxs w [x0, x1, x2, (t, #[a, b, c, d, e])] (Go.Proofs.YtkkobemhbicjgaaGreatDoor.st5 wr (w.heap.size + 3) a b c d e) :=
 ((((h.set 3 0 a rfl).set 3 1 b rfl).set 3 2 c rfl).set 3 3 d rfl).set 3 4 e rfl
end
section
open Go.RowKit
def InR (w : World) (n : Nat) (l m : List Int) (gk : Nat) (iv : Value) (wr : World) : Prop := ∃ i : Nat, iv = .int .i64 i ∧ i ≤ n ∧ gk = n - i ∧ Hid (Below w.heap.size w wr) ∧ Hid (∀ j, j < i → l[j]? = m[j]?)
theorem jN (A B : Option Addr) (n c n2 c2 Ba Bb : Nat) (l m : List Int) (w : World) (ha : Sl w Ba 1 A n c (zD l)) (hb : Sl w Bb 1 B n2 c2 (zD m)) (hBa : Ba ≤ w.heap.size) (hBb : Bb ≤ w.heap.size) : Calls Tryz.prog 23 #[.slice A n c, .slice B n2 c2] w fun e w' => e = .returned (.bool (decide (l = m))) ∧ Below w.heap.size w w' := by
 have HLA := iD (ha.len (fun _ => rfl) (by decide)); have HLB := iD (hb.len (fun _ => rfl) (by decide))
 have hm1 := ha.le
 have hm2 := hb.le
 have HA := iD ha; have HB := iD hb
 clear ha hb
 by_cases hn : n = n2; rotate_left
 ·have q : decide (n = n2) = false := by simpa using hn
  have q' : ((n : Int) != (n2 : Int)) = true := by simp; omega
  have HR : Hid (decide (l = m) = false) := decide_eq_false (fun e => hn (by rw [← HLA.out, ← HLB.out, e]))
  clear hn
  go_enter Tryz.func23, Tryz.ntmps23
  go_wp2_with fail
  go_ret
  exact ⟨zG (by rw [HR.out]), Below.refl _ _⟩
 subst hn
 go_enter Tryz.func23, Tryz.ntmps23
 go_wp2_with fail
 go_loopg [5] n (InR w n l m)
 case atStart => exact ⟨0, rfl, Nat.zero_le _, rfl, Below.refl _ _, fun j hj => absurd hj (by omega)⟩
 case round =>
  obtain ⟨i, rfl, hi, rfl, hbl, hok⟩ := hrel
  by_cases hlt : i < n
  ·obtain ⟨b1, o1, x, rfl, hb1, hx, hc1⟩ := (HA.out.below hbl.out hBa).at1 hlt
   obtain ⟨b2, o2, y, rfl, hb2, hy, hc2⟩ := (HB.out.below hbl.out hBb).at1 hlt
   have HX := iD hx; have HY := iD hy
   clear hx hy
   go_upto_region 6 with (fail)
   refine zC (S := fun W' => W'.cell? ⟨b1, o1 + i, none⟩ = some (.int .i64 x) ∧ W'.cell? ⟨b2, o2 + i, none⟩ = some (.int .i64 y)) (J := []) (by kernel_rfl) ?_ (fun AA => ?_)
   ·exact ⟨hc1, hc2⟩
   try dsimp only at AA
   refine tk 0 17 (mf 9 1) AA ?_
   refine tk 1 18 (mf 9 2) AA ?_
   refine tk 2 19 (mf 9 3) AA ?_
   refine tk 3 20 (mf 9 4) AA ?_
   refine tk 4 21 (mf 9 5) AA ?_
   refine tk 5 22 (mf 9 6) AA ?_
   refine tk 6 23 (mf 9 7) AA ?_
   refine tk 7 24 (mf 9 8) AA ?_
   refine tk 8 25 (mf 9 9) AA ?_
   refine zA (by kernel_rfl) ?_ _
   clear AA
   by_cases hxy : x = y
   ·subst hxy
    go_wp2_with fail
    go_roundg (n - (i + 1))
    case rel => exact ⟨i + 1, by go_num, by omega, rfl, hbl.out.drew, fun j hj => by
     rcases Nat.lt_succ_iff_lt_or_eq.1 hj with h | rfl
     ·exact hok.out j h
     ·rw [HX.out, HY.out]⟩
    case measure => omega
   ·have q : (x != y) = true := by simpa using hxy
    have q2 : (x == y) = false := by simpa using hxy
    have HR : Hid (decide (l = m) = false) := decide_eq_false (fun e => hxy (by have := HX.out; rw [e, HY.out] at this; exact (Option.some.inj this).symm))
    clear hxy
    go_wp2_with fail
    go_ret
    exact ⟨zG (by rw [HR.out]), hbl.out.drew⟩
  ·obtain rfl : i = n := by omega
   have hii : decide (i < i) = false := by simp
   have HR : Hid (decide (l = m) = true) := decide_eq_true (by
    apply List.ext_getElem?
    intro j
    by_cases hj : j < i
    ·exact hok.out j hj
    ·rw [List.getElem?_eq_none (by rw [HLA.out]; omega), List.getElem?_eq_none (by rw [HLB.out]; omega)])
   go_wp2_with fail
   go_ret
   exact ⟨zG (by rw [HR.out]), hbl.out⟩
end
section
open Go.RowKit
theorem wn {w w1 w2 : World} {row : Option Nat} (h : w.grownBy w1 row) (hb : Below w.heap.size w1 w2) : w.grownBy w2 row :=
 ⟨hb.os.trans h.os, hb.tape.trans h.tape, hb.output.trans h.output, Nat.le_trans h.size hb.size, fun i hi hne => (hb.block i hi).trans (h.block i hi hne)⟩
def mZ (w : World) (g below : Nat) (e : Ending) (w' : World) : Prop := ∃ (A : Option Addr) (k c : Nat) (l : List Int), e = .returned (.slice A k c) ∧ Hid (zP w' g) ∧ Hid (w.grownBy w' (some g)) ∧ Hid (zO w' w.heap.size A k c l) ∧ Hid (∀ v ∈ l, 0 ≤ v ∧ v < below)
def fX (w : World) (g below gk : Nat) (ov iv : Value) (wr : World) : Prop := ∃ (i m co : Nat) (Ao : Option Addr) (out : List Int), iv = .int .i64 i ∧ ov = .slice Ao m co ∧ i ≤ below ∧ gk = below - i ∧ m ≤ i ∧ Hid (zO wr w.heap.size Ao m co out) ∧ Hid (zP wr g) ∧ Hid (w.grownBy wr (some g)) ∧ Hid (∀ v ∈ out, 0 ≤ v ∧ v < below)
theorem lK (g below most : Nat) (w : World) (hd : zP w g) (hb : below ≤ 1000) (hm : most ≤ 1000) :
 Calls Tryz.prog 45 #[.pointer (some ⟨g, 0, none⟩), .int .i64 (below : Int), .int .i64 (most : Int)] w (mZ w g below) := by
 have hlt := hd.lt
 have HD0 := iD hd
 clear hd
 go_enter Tryz.func45, Tryz.ntmps45
 go_wp2_with fail
 go_loopg [7, 8] below (fX w g below)
 case atStart => exact ⟨0, 0, 0, none, [], rfl, rfl, Nat.zero_le _, rfl, Nat.le_refl _, World.ownsRow_nil _ _ _ _, HD0, yz _ _, fun v hv => by simp at hv⟩
 case round =>
  obtain ⟨i, m, co, Ao, out, rfl, rfl, hi, rfl, hmi, hO, hD, hG, hR⟩ := hrel
  by_cases hgo : i < below ∧ m < most
  ·obtain ⟨hl1, hl2⟩ := hgo
   go_wp2_with fail
   refine (xk g 3 wr hD.out (by decide)).mono ?_
   rintro e w3 ⟨r, rfl, hd3, hg3, hs3⟩
   have HO3 := iD (hO.out.kept hg3.out (zk fun b e => by have := (hO.out.lt b e).1; omega))
   have HG3 := iD (zM hG.out hg3.out)
   have hz3 := HG3.out.size
   clear hD hG hg3 hs3 hO
   rcases r with _ | _
   ·go_wp2_with fail
    go_roundg (below - (i + 1))
    case rel => exact ⟨i + 1, m, co, Ao, out, by go_num, rfl, by omega, rfl, by omega, HO3, hd3, HG3, hR⟩
    case measure => omega
   ·have HR1 : Hid (∀ v ∈ out ++ [(i : Int)], 0 ≤ v ∧ v < below) := fun v hv => by
     rcases List.mem_append.1 hv with h1 | h1
     ·exact hR.out v h1
     ·rw [List.mem_singleton.1 h1]; omega
    go_wp2_with (at_builtin; go_must (refine zR rfl (.tmp 22) (.tmp 24) rfl xF (by rfl) (HO3.out.alloc _) (by rfl) (Sl.newest (n := 1) (by simp) (by rfl) (by decide)) (by simp [Value.oneCell']) (by omega) (by omega) (by simp; omega) ?_; intro A' cap' w4 hown4 hgr4 hat4; have HO4 := iD hown4; have HG4 := iD hgr4; clear hown4 hgr4 hat4))
    have HB4 : Hid (Below w.heap.size w3 w4) := ((Below.refl _ _).alloc (by omega) _).trans ⟨HG4.out.os, HG4.out.tape, HG4.out.output, HG4.out.size, fun q hq => HG4.out.block q (by simp; omega) (fun e => by have := (HO3.out.lt q e.symm).1; omega)⟩
    have HD4 := iD (hd3.out.below HB4.out (by omega))
    have HG5 : Hid (w.grownBy w4 (some g)) := wn HG3.out HB4.out
    go_roundg (below - (i + 1))
    case rel =>
     refine ⟨i + 1, m + 1, cap', A', out ++ [(i : Int)], by go_num, rfl, by omega, rfl, by omega, ?_, HD4, HG5, HR1⟩
     have := HO4.out
     unfold Hid zO
     rw [zq]
     exact this
    case measure => omega
  ·have HEND : Hid (mZ w g below (.returned (.slice Ao m co)) wr) := ⟨Ao, m, co, out, rfl, hD, hG, hO, hR⟩
   by_cases hl : i < below
   ·have ql : decide ((m : Int) < (most : Int)) = false := by simp; omega
    have ql2 : decide (m < most) = false := by simp; omega
    go_wp2_with fail
    go_ret
    exact HEND.out
   ·have ql : decide ((i : Int) < (below : Int)) = false := by simp; omega
    have ql2 : decide (i < below) = false := by simp; omega
    go_wp2_with fail
    go_ret
    exact HEND.out
def jw (w : World) (g nn : Nat) (Al : Option Addr) (nl cl : Nat) (e : Ending) (w' : World) : Prop := ∃ (co : Int) (Ap : Option Addr) (np cp : Nat) (pr : List Int), e = .returned (.agg #[.int .i64 co, .slice Al nl cl, .slice Ap np cp]) ∧ (0 ≤ co ∧ co ≤ 7) ∧ Hid (zP w' g) ∧ Hid (w.grownBy w' (some g)) ∧ Hid (zO w' w.heap.size Ap np cp pr) ∧ Hid (∀ v ∈ pr, 0 ≤ v ∧ v < nn)
theorem qL (g : Nat) (An Ad Al : Option Addr) (nn cn nd cd nl cl : Nat) (w : World) (hd : zP w g) (hnn : nn ≤ 1000) :
 Calls Tryz.prog 17 #[.pointer (some ⟨g, 0, none⟩), .agg #[.slice An nn cn, .slice Ad nd cd], .slice Al nl cl] w (jw w g nn Al nl cl) := by
 have hlt := hd.lt
 have HD0 := iD ((hd.alloc (.cells #[.slice An nn cn, .slice Ad nd cd] 30)).alloc (.cells #[.int .i64 0, .slice none 0 0, .slice none 0 0] 37))
 have HB0 : Hid (Below w.heap.size w ((w.alloc (.cells #[.slice An nn cn, .slice Ad nd cd] 30)).alloc (.cells #[.int .i64 0, .slice none 0 0, .slice none 0 0] 37))) := ((Below.refl _ _).alloc lR _).alloc (by simp) _
 have HK0 : Hid (Blk ((w.alloc (.cells #[.slice An nn cn, .slice Ad nd cd] 30)).alloc (.cells #[.int .i64 0, .slice none 0 0, .slice none 0 0] 37)) (w.heap.size + 1) 37 #[.int .i64 0, .slice none 0 0, .slice none 0 0]) := by
  have := Blk.new (w.alloc (.cells #[.slice An nn cn, .slice Ad nd cd] 30)) 37 #[.int .i64 0, .slice none 0 0, .slice none 0 0]
  unfold Hid; simpa using this
 clear hd
 go_enter Tryz.func17, Tryz.ntmps17
 go_wp2_with fail
 generalize World.alloc (World.alloc w _) _ = W at *
 have hz0 := HB0.out.size
 have HX5 : Hid (w.heap.size + 1 < W.heap.size) := HK0.out.lt
 refine (lK g nn 3 W HD0.out hnn (by decide)).mono ?_
 rintro e w1 ⟨Ap, np, cp, pr, rfl, hd1, hg1, hO1, hr1⟩
 have HK1 := iD ((HK0.out.grown hg1.out (fun e => by injection e with e; omega)).alloc (.cells #[.int .i64 0, .slice Al nl cl, .slice Ap np cp] 37))
 have HG1 := iD (zM (zM (zL HB0.out (some g)) hg1.out) (zL ((Below.refl _ _).alloc lR (.cells #[.int .i64 0, .slice Al nl cl, .slice Ap np cp] 37)) (some g)))
 have HD1 := iD (hd1.out.alloc (.cells #[.int .i64 0, .slice Al nl cl, .slice Ap np cp] 37))
 have HO1 : Hid (zO (w1.alloc (.cells #[.int .i64 0, .slice Al nl cl, .slice Ap np cp] 37)) W.heap.size Ap np cp pr) := hO1.out.alloc _
 have HV1 := iD (Blk.new w1 37 #[.int .i64 0, .slice Al nl cl, .slice Ap np cp])
 have hz1 := hg1.out.size
 have HAP : Hid (∀ q, (Value.slice Ap np cp).ownBlock = some q → q < w1.heap.size) := fun q h => (hO1.out.lt q h).2
 clear hd1 hg1 hO1 HK0 HD0 HB0
 go_upto_region 2 with (fail)
 generalize World.alloc w1 _ = W2 at *
 obtain ⟨vb, hvb⟩ : ∃ x, x = w1.heap.size := ⟨_, rfl⟩
 rw [← hvb] at HV1 HAP hz1 ⊢
 clear hvb
 go_wp2_with fail
 refine (xk g 6 W2 HD1.out (by decide)).mono ?_
 rintro e w3 ⟨r, rfl, hd3, hg3, hs3⟩
 have HK3 := iD (HK1.out.grown hg3.out (fun e => by injection e with e; omega))
 have HV3 := iD (HV1.out.grown hg3.out (fun e => by injection e with e; omega))
 have HO3 := iD (HO1.out.kept hg3.out (zk fun b e => by have := (HO1.out.lt b e).1; omega))
 have HG3 := iD (zM HG1.out hg3.out)
 clear HK1 HV1 HO1 HG1 HD1 hg3 hs3
 have HEND : Hid (∀ (co : Int) (w4 : World), 0 ≤ co ∧ co ≤ 7 → Blk w4 vb 37 #[.int .i64 co, .slice Al nl cl, .slice Ap np cp] → zP w4 g → w.grownBy w4 (some g) → zO w4 W.heap.size Ap np cp pr →
  jw w g nn Al nl cl (.returned (.agg #[.int .i64 co, .slice Al nl cl, .slice Ap np cp])) (((w4.setCell ⟨w.heap.size + 1, 0, none⟩ (.int .i64 co)).setCell ⟨w.heap.size + 1, 1, none⟩ (.slice Al nl cl)).setCell ⟨w.heap.size + 1, 2, none⟩ (.slice Ap np cp))) := by
  intro co w4 hco _ hd4 hg4 hO4
  refine ⟨co, Ap, np, cp, pr, rfl, hco, ((hd4.setCell (by simp; omega) _).setCell (by simp; omega) _).setCell (by simp; omega) _, zg (zg (zg hg4 (by simp) _) (by simp) _) (by simp) _, ?_, hr1⟩
  have hq : ∀ b, (Value.slice Ap np cp).ownBlock = some b → b ≠ w.heap.size + 1 := fun b e => by have := (hO4.lt b e).1; have := HX5.out; omega
  exact (((hO4.kept (ze _ _ _) (zk hq)).kept (ze _ _ _) (zk hq)).kept (ze _ _ _) (zk hq)).mono hz0
 rcases r with _ | _
 ·have HX := iD (HEND.out 0 w3 ⟨by decide, by decide⟩ HV3.out hd3.out HG3.out HO3.out)
  clear HEND HO3 HG3 hd3
  have v0 := HV3.out.c0
  have v1 := HV3.out.c1
  have v2 := HV3.out.c2
  have c0 := HK3.out.c0
  have c1 := HK3.out.c1
  have c2 := HK3.out.c2
  have f0 : w3.frozen? ⟨w.heap.size + 1, 0, none⟩ = false := HK3.out.frozen 0
  have f1 : w3.frozen? ⟨w.heap.size + 1, 1, none⟩ = false := HK3.out.frozen 1
  have f2 : w3.frozen? ⟨w.heap.size + 1, 2, none⟩ = false := HK3.out.frozen 2
  go_wp2_with fail
  exact bodyPost_ret (v := .agg #[.int .i64 0, .slice Al nl cl, .slice Ap np cp]) (by simp [results, Tryz.results17, go_sem, c0, c1, c2]) rfl HX.out
 ·go_wp2_with fail
  refine (zS g 3 w3 hd3.out (by decide)).mono ?_
  rintro e w4 ⟨co, rfl, hv0, _, hv1, hd4, hg4, hs4⟩
  have hvn := hv1.out (by omega)
  have HK4 := iD ((HK3.out.grown hg4.out (fun e => by injection e with e; omega)).far (p := ⟨vb, 0, none⟩) (by show w.heap.size + 1 ≠ vb; have := HX5.out; omega) (.int .i64 co))
  have HV4 : Hid (Blk (w4.setCell ⟨vb, 0, none⟩ (.int .i64 co)) vb 37 #[.int .i64 co, .slice Al nl cl, .slice Ap np cp]) := (HV3.out.grown hg4.out (fun e => by injection e with e; omega)).set 0 (.int .i64 co)
  have HO4 := iD ((HO3.out.kept hg4.out (zk fun b e => by have := (HO3.out.lt b e).1; omega)).kept (ze w4 ⟨vb, 0, none⟩ (.int .i64 co)) (zk fun b e => by have := HAP.out b e; simp; omega))
  have HG4 := iD (zg (zM HG3.out hg4.out) (p := ⟨vb, 0, none⟩) (by simp; omega) (.int .i64 co))
  have HD4 := iD (hd4.out.setCell (p := ⟨vb, 0, none⟩) (by simp; omega) (.int .i64 co))
  have e0 := (HV3.out.grown hg4.out (fun e => by injection e with e; omega)).c0
  have e1 : w4.frozen? ⟨vb, 0, none⟩ = false := (HV3.out.grown hg4.out (fun e => by injection e with e; omega)).frozen 0
  have HX := iD (HEND.out co _ ⟨hv0, by omega⟩ HV4.out HD4.out HG4.out HO4.out)
  clear HEND HO3 HG3 hd3 hd4 hg4 hs4 HK3 HV3 HO4 HG4 HD4 hv1
  go_upto_region 4 with (fail)
  generalize World.setCell w4 _ _ = w5 at *
  clear e0 e1
  have v0 := HV4.out.c0
  have v1 := HV4.out.c1
  have v2 := HV4.out.c2
  have c0 := HK4.out.c0
  have c1 := HK4.out.c1
  have c2 := HK4.out.c2
  have f0 : w5.frozen? ⟨w.heap.size + 1, 0, none⟩ = false := HK4.out.frozen 0
  have f1 : w5.frozen? ⟨w.heap.size + 1, 1, none⟩ = false := HK4.out.frozen 1
  have f2 : w5.frozen? ⟨w.heap.size + 1, 2, none⟩ = false := HK4.out.frozen 2
  go_wp2_with fail
  exact bodyPost_ret (v := .agg #[.int .i64 co, .slice Al nl cl, .slice Ap np cp]) (by simp [results, Tryz.results17, go_sem, c0, c1, c2]) rfl HX.out
end
end Go.Proofs.YtkkobemhbicjgaaGreatDoor
